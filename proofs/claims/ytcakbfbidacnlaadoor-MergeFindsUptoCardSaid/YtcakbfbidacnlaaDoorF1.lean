/-
  Part 1 of the walk: contracts of the functions that the law reaches, and the calculus they stand on.
  No conditions.
-/
import Derived.Test.YtcakbfbidacnlaaDoorF0
import Derived.Test.YtcakbfbidacnlaaDoorProg
import Derived.RangeFuncLeaves
import Derived.RangeFuncIn
import Derived.RangeFuncSeq
import Derived.RangeFuncRecord
import Derived.TacticsIn
import Derived.Lib.Small
import Derived.Lib.Walk
import Derived.Lib.Bytealg
import Derived.Deep.Draws
import Derived.Deep.QuietTactic
namespace Go.Sx
open Go
theorem xN_ {α:Type}: (∀ (a:α) (l:List α),(a::l).length=l.length+1)∧([]:List α).length=0∧(∀ (l:List α) (i:Nat) (a:α),(l.set i a).length=l.length)∧(∀ (l m:List α),(l++m).length=l.length+m.length)∧
  (∀ (n:Nat) (a:α),(List.replicate n a).length=n)∧(∀ (n:Nat) (l:List α),(l.take n).length=min n l.length)∧(∀ (n:Nat) (l:List α),(l.drop n).length=l.length - n)∧ ∀ {β:Type} (f:α→β) (l:List α),(l.map f).length=l.length:=
 ⟨fun _ _=>List.length_cons,List.length_nil,fun _ _ _=>List.length_set,fun _ _=>List.length_append,fun _ _=>List.length_replicate,fun _ _=>List.length_take,fun _ _=>List.length_drop,fun _ _=>List.length_map ..⟩
theorem xT_: (∀n:Nat,((n:Int)).toNat=n)∧(∀l:List UInt8,(a8 l).size=l.length)∧(∀l:List UInt32,(a32 l).size=l.length)∧(∀p:Prop,(p∧p)=p)∧(∀p:Prop,(p∧True)=p)∧ ∀p:Prop,(True∧p)=p:=
 ⟨Int.toNat_natCast,Qh_,wo_,fun _=>and_self _,fun _=>and_true _,fun _=>true_and _⟩
inductive Tag {α:Type} (x:α):Type
 |mk:Tag x
def seqN (F:Fr→za_→j1_→Prop) (K:j1_) (f:Fr) (L:za_):Prop:=F f L K
def cdC (v:Value) (A B S:Prop) (_:Tag (A,B,S)):Prop:=
 match v with
 | .bool true=>A
 | .bool false=>B
 |_=>S
abbrev CwS (P:Program) (w0:World) (c:Code) (f:Fr) (L:za_) (K:j1_) (_:Tag (c,K)):Prop:=Cw P w0 c f L K
abbrev OwS (P:Program) (w0:World) (ops:Array Oper) (md:Md) (l:List Oper) (f:Fr) (L:za_) (N:Fr→za_→Prop) (_:Tag (ops,l,N)):Prop:=Ow P w0 ops md l f L N
def bsK (K:j1_) (e:Exit) (f:Fr) (L:za_):Dep K:=K e f L
def bsN (N:Fr→za_→Prop) (f:Fr) (L:za_):Dep N:=N f L
abbrev bsR (K:j1_) (e:Exit) (f:Fr) (L:za_) (_:Tag K):Prop:=K e f L
abbrev bsM (N:Fr→za_→Prop) (f:Fr) (L:za_) (_:Tag N):Prop:=N f L
def owk (P:Program) (w0:World) (ops:Array Oper) (N:Fr→za_→Prop) (md:Md) (l:List Oper) (f:Fr) (L:za_):Dep (ops,N):=
 match l with
 | []=>N f L
 |o::r=>Ow P w0 ops md (o::r) f L N
def fid:Code→Nat
 | .seq a _=>fid a
 | .region i _ _=>i
 | .block _ c=>fid c
 | .loop c=>fid c
 | .scope c=>fid c
 |_=>500000
def Wn_ (z:List Nat) (c:Code):Bool:=match z with
 | []=>false
 |k::r=>(k==1000000+fid c) ||Wn_ r c
def vcC (P:Program) (w0:World) (z:List Nat):Code→Fr→za_→j1_→Prop
 | .seq x y,f,L,K=>ib (Wn_ z (.seq x y)) (CwS P w0 (.seq x y) f L K .mk) (vcC P w0 z x f L (kT_ (seqN (fun f L K=>ib (z.contains 999999) (CwS P w0 y f L K .mk) (vcC P w0 z y f L K)) K) K))
 | .skip,f,L,K=>K .normal f L
 | .exit i,f,L,K=>K (.exit i) f L
 | .goto i,f,L,K=>K (.goto i) f L
 | .ret,f,L,K=>K .ret f L
 | .label l,f,L,K=>ib (z.contains 999999) (Cw P w0 (.label l) f L K) (K .normal f L)
 | .block id c,f,L,K=>vcC P w0 z c f L (xA_ id K)
 | .cond c x y,f,L,K=> ∃b,ev f c= .bool b∧(b=true→vcC P w0 z x f L K)∧(b=false→vcC P w0 z y f L K)
 | .region id ops false,f,L,K=>ib (z.contains id) (Cw P w0 (.region id ops false) f L K) (vcL P w0 ops true .seq ops.toList f L (owk P w0 ops (K .normal)))
 |c,f,L,K=>Cw P w0 c f L K
section
variable {P:Program} {w0:World} {f:Fr} {L:za_} {K:j1_} {N:Fr→za_→Prop} {ops:Array Oper} {md:Md} {l:List Oper}
theorem ahW_ (h:owk P w0 ops N md l f L):Ow P w0 ops md l f L N:=by
 cases l with
 |nil=>exact Ow.nil h
 |cons o r=>exact h
theorem Ow.go (he:md.eff=true) (h:vcL P w0 ops true md l f L (owk P w0 ops (bsN N))):Ow P w0 ops md l f L N:=
 x0_ _ (fun _ _ _ _ h=>ahW_ h) true l md f L (fun _=>he) h
theorem Ow.goQ (h:vcL P w0 ops false md l f L (owk P w0 ops (bsN N))):Ow P w0 ops md l f L N:=
 x0_ _ (fun _ _ _ _ h=>ahW_ h) false l md f L (fun e=>by cases e) h
theorem xR_ {z:List Nat}: ∀ (c:Code) {f:Fr} {L:za_} {K:j1_},vcC P w0 z c f L K→Cw P w0 c f L K
 | .seq x y,f,L,K,h=>by
   unfold vcC at h
   cases hs:Wn_ z (.seq x y) with
   |true=>rw[hs] at h;exact h
   |false=>
    rw[hs] at h
    refine Cw.seq ((xR_ x h).mono fun e f L k=> ?_)
    cases e with
    |normal=>
     have k':ib (z.contains 999999) (CwS P w0 y f L K .mk) (vcC P w0 z y f L K):=k
     cases hz:z.contains 999999 with
     |true=>rw[hz] at k';exact k'
     |false=>rw[hz] at k';exact xR_ y k'
    |_=>exact k
 | .skip,_,_,_,h=>Cw.skip h
 | .exit _,_,_,_,h=>Cw.exit h
 | .goto _,_,_,_,h=>Cw.goto h
 | .ret,_,_,_,h=>Cw.ret h
 | .label l,_,_,_,h=>by
   unfold vcC at h
   cases hz:z.contains 999999 with
   |true=>rw[hz] at h;exact h
   |false=>rw[hz] at h;exact Cw.label h
 | .block id c,_,_,_,h=>Cw.block (xR_ c h)
 | .cond c x y,_,_,_,⟨b,hb,h1,h2⟩=>Cw.cond hb (fun e=>xR_ x (h1 e)) (fun e=>xR_ y (h2 e))
 | .region id ops false,f,L,K,h=>by
   obtain⟨l⟩:=ops
   unfold vcC at h
   cases hz:z.contains id with
   |true=>rw[hz] at h;exact h
   |false=>rw[hz] at h;exact Cw.region (Ow.go rfl h)
 | .region _ _ true,_,_,_,h=>h
 | .loop _,_,_,_,h=>h
 | .rangeFunc _ _ _ _,_,_,_,h=>h
 | .scope _,_,_,_,h=>h
 | .refuse _,_,_,_,h=>h
end
class Steps (c:Code):Prop
instance {x y:Code}:Steps (.seq x y):=⟨⟩
instance:Steps .skip:=⟨⟩
instance {i:Nat}:Steps (.exit i):=⟨⟩
instance {i:Nat}:Steps (.goto i):=⟨⟩
instance:Steps .ret:=⟨⟩
instance {i:Nat} {c:Code}:Steps (.block i c):=⟨⟩
instance {c:Operand} {x y:Code}:Steps (.cond c x y):=⟨⟩
instance {i:Nat} {ops:Array Oper}:Steps (.region i ops false):=⟨⟩
theorem Cw.go {P:Program} {w0:World} {c:Code} {f:Fr} {L:za_} {K:j1_} (z:List Nat) [Steps c] (h:vcC P w0 z c f L (bsK K)):Cw P w0 c f L K:=xR_ c h
@[congr] theorem akt_ {v v':Value} {A B S:Prop} {t:Tag (A,B,S)} (h:v=v'):cdC v A B S t=cdC v' A B S t:=by rw[h]
section
variable (P:Program) (w0:World) (z:List Nat) (f:Fr) (L:za_) (K:j1_) (N:Fr→za_→Prop) (ops:Array Oper) (md:Md)
theorem agJ_ (x y:Code):vcC P w0 [] (.seq x y) f L K=vcC P w0 [] x f L (kT_ (seqN (fun f L K=>vcC P w0 [] y f L K) K) K):=(rfl)
theorem ahA_ (k:Nat) (z:List Nat) (x y:Code):vcC P w0 (k::z) (.seq x y) f L K=ib (Wn_ (k::z) (.seq x y)) (CwS P w0 (.seq x y) f L K .mk) (vcC P w0 (k::z) x f L (kT_ (seqN (fun f L K=>ib ((k::z).contains 999999) (CwS P w0 y f L K .mk) (vcC P w0 (k::z) y f L K)) K) K)):=(rfl)
theorem afV_:vcC P w0 z .skip f L K=K .normal f L:=(rfl)
theorem af4_ (i:Nat):vcC P w0 z (.exit i) f L K=K (.exit i) f L:=(rfl)
theorem aho_ (i:Nat):vcC P w0 z (.goto i) f L K=K (.goto i) f L:=(rfl)
theorem ajo_:vcC P w0 z .ret f L K=K .ret f L:=(rfl)
theorem ad1_ (i:Nat):vcC P w0 z (.label i) f L K=ib (z.contains 999999) (CwS P w0 (.label i) f L K .mk) (K .normal f L):=(rfl)
theorem ae1_ (i:Nat) (c:Code):vcC P w0 z (.block i c) f L K=vcC P w0 z c f L (xA_ i K):=(rfl)
theorem ag5_ (c:Operand) (x y:Code):vcC P w0 z (.cond c x y) f L K=cdC (ev f c) (vcC P w0 z x f L K) (vcC P w0 z y f L K) (vcC P w0 z (.cond c x y) f L K) .mk:=by
 unfold cdC
 split
 ·rename_i h;simp[vcC,h]
 ·rename_i h;simp[vcC,h]
 ·rfl
theorem acv_ (i:Nat) (l:List Oper):vcC P w0 z (.region i l.toArray false) f L K=ib (z.contains i) (CwS P w0 (.region i l.toArray false) f L K .mk) (vcL P w0 l.toArray true .seq l f L (owk P w0 l.toArray (K .normal))):=(rfl)
theorem adJ_ (i:Nat) (ops:Array Oper):vcC P w0 z (.region i ops true) f L K=CwS P w0 (.region i ops true) f L K .mk:=(rfl)
theorem aga_ (c:Code):vcC P w0 z (.loop c) f L K=CwS P w0 (.loop c) f L K .mk:=(rfl)
theorem aeL_ (c:Code):vcC P w0 z (.scope c) f L K=CwS P w0 (.scope c) f L K .mk:=(rfl)
theorem adM_ (x:Operand) (p:Array Tmp) (a c:Code):vcC P w0 z (.rangeFunc x p a c) f L K=CwS P w0 (.rangeFunc x p a c) f L K .mk:=(rfl)
theorem ahX_ (F:Fr→za_→j1_→Prop):bsN (seqN F K) f L=F f L K:=(rfl)
theorem alM_ (e:Exit):bsN (K e) f L=bsK K e f L:=(rfl)
theorem ajO_ (c:Code):bsN (fun f L=>Cw P w0 c f L K) f L=CwS P w0 c f L K .mk:=(rfl)
theorem ahY_:kT_ N K .normal f L=bsN N f L:=(rfl)
theorem aiA_ (i:Nat):kT_ N K (.exit i) f L=K (.exit i) f L:=(rfl)
theorem ajh_ (i:Nat):kT_ N K (.goto i) f L=K (.goto i) f L:=(rfl)
theorem aiV_:kT_ N K .ret f L=K .ret f L:=(rfl)
theorem agP_ (i:Nat):xA_ i K .normal f L=K .normal f L:=(rfl)
theorem agY_ (i j:Nat):xA_ i K (.goto j) f L=K (.goto j) f L:=(rfl)
theorem ahe_ (i:Nat):xA_ i K .ret f L=K .ret f L:=(rfl)
theorem agt_ (i j:Nat):xA_ i K (.exit j) f L=ib (j==i) (K .normal f L) (K (.exit j) f L):=by
 by_cases h:j=i
 ·have e: (j==i)=true:=beq_iff_eq.2 h
  rw[e]
  simp[xA_,ib,h]
 ·have e: (j==i)=false:=beq_eq_false_iff_ne.2 h
  rw[e]
  simp[xA_,ib,h]
theorem agg_ (A:Nat→Fr→za_→Prop):kr_ A K .normal f L=K .normal f L:=(rfl)
theorem agb_ (A:Nat→Fr→za_→Prop) (i:Nat):kr_ A K (.exit i) f L=K (.exit i) f L:=(rfl)
theorem ag3_ (A:Nat→Fr→za_→Prop) (i:Nat):kr_ A K (.goto i) f L=bsN (A i) f L:=(rfl)
theorem af7_ (A:Nat→Fr→za_→Prop):kr_ A K .ret f L=K .ret f L:=(rfl)
theorem ai4_:owk P w0 ops N md [] f L=bsN N f L:=(rfl)
theorem ajk_ (e:Exit):bsK K e f L=bsR K e f L .mk:=(rfl)
theorem ais_:bsN N f L=bsM N f L .mk:=(rfl)
theorem ajA_:bsN (bsN N) f L=bsN N f L:=(rfl)
theorem aj8_ (e:Exit):bsK (bsK K) e f L=bsK K e f L:=(rfl)
theorem agM_ (e:Exit):bsK (kT_ N K) e f L=kT_ N (bsK K) e f L:=by cases e<;>rfl
theorem aft_ (i:Nat) (e:Exit):bsK (xA_ i K) e f L=xA_ i (bsK K) e f L:=by cases e<;>rfl
theorem acZ_ (A:Nat→Fr→za_→Prop) (e:Exit):bsK (kr_ A K) e f L=kr_ A (bsK K) e f L:=by cases e<;>rfl
theorem ahk_ (o:Oper) (r:List Oper):owk P w0 ops N md (o::r) f L=OwS P w0 ops md (o::r) f L N .mk:=(rfl)
end
section
variable (A B S:Prop) (t:Tag (A,B,S))
theorem alp_:cdC (.bool true) A B S t=A:=(rfl)
theorem alm_:cdC (.bool false) A B S t=B:=(rfl)
theorem ahs_ (b:Bool) (h:b=true):cdC (.bool b) A B S t=A:=by rw[h];rfl
theorem agX_ (b:Bool) (h:b=false):cdC (.bool b) A B S t=B:=by rw[h];rfl
theorem akC_ (p:Prop) [Decidable p] (h:p):cdC (.bool (decide p)) A B S t=A:=ahs_ A B S t _ (decide_eq_true h)
theorem aj9_ (p:Prop) [Decidable p] (h: ¬p):cdC (.bool (decide p)) A B S t=B:=agX_ A B S t _ (decide_eq_false h)
theorem ak5_ (a b:Int) (h:a=b):cdC (.bool (a==b)) A B S t=A:=ahs_ A B S t _ (beq_iff_eq.2 h)
theorem alD_ (a b:Int) (h: ¬a=b):cdC (.bool (a==b)) A B S t=B:=agX_ A B S t _ (beq_eq_false_iff_ne.2 h)
theorem alf_ (a b:Int) (h: ¬a=b):cdC (.bool (a !=b)) A B S t=A:=ahs_ A B S t _ (bne_iff_ne.2 h)
theorem alL_ (a b:Int) (h:a=b):cdC (.bool (a !=b)) A B S t=B:=agX_ A B S t _ (by rw[h];simp)
end
theorem ah9_ (w0:World) (L:za_) (v:Value):Jy_ w0 L .no v=none:=(rfl)
theorem aij_ (w0:World) (L:za_) (e:TypeId) (v:Value):Jy_ w0 L (.strBytes e) v=none:=(rfl)
theorem ajv_ (v:Value):Ke_ .no v=none:=by unfold Ke_;split<;>first|rfl| (rename_i h;cases h)
theorem ad0_ (c:Code):Wn_ [] c=false:=(rfl)
theorem acn_ (k:Nat) (r:List Nat) (c:Code):Wn_ (k::r) c=((k==1000000+fid c) ||Wn_ r c):=(rfl)
theorem aim_ (a b:Code):fid (.seq a b)=fid a:=(rfl)
theorem act_ (i:Nat) (o:Array Oper) (d:Bool):fid (.region i o d)=i:=(rfl)
theorem aef_ (i:Nat) (c:Code):fid (.block i c)=fid c:=(rfl)
theorem ahl_ (c:Operand) (x y:Code):fid (.cond c x y)=500000:=(rfl)
theorem agN_ (c:Code):fid (.loop c)=fid c:=(rfl)
theorem afi_ (c:Code):fid (.scope c)=fid c:=(rfl)
theorem afj_ (i:Nat):fid (.label i)=500000:=(rfl)
theorem ahy_ (i:Nat):fid (.goto i)=500000:=(rfl)
theorem agD_ (i:Nat):fid (.exit i)=500000:=(rfl)
theorem agG_:fid .skip=500000:=(rfl)
theorem aiD_:fid .ret=500000:=(rfl)
theorem aeW_ (x:Operand) (p:Array Tmp) (a c:Code):fid (.rangeFunc x p a c)=500000:=(rfl)
def allF (j:Nat→Value):Nat→Nat→Fr
 |_,0=> []
 |k,n+1=>j k::allF j (k+1) n
theorem JP_ (j:Nat→Value) (k:Nat):allF j k 0= []:=(rfl)
theorem JL_ (j:Nat→Value) (k n:Nat):allF j k (n+1)=j k::allF j (k+1) n:=(rfl)
def CutM {G:Type} (n:Nat) (S:G→List (Nat×Value)) (H:G→za_) (J:G→Prop) (f':Fr) (L':za_):Prop:=
 ∃g,J g∧L'=H g∧f'=pin (allF (vr_ f') 0 n) (S g)
theorem CutM.mk {G:Type} {n:Nat} {S:G→List (Nat×Value)} {H:G→za_} {J:G→Prop} {f':Fr} {L':za_} (g:G) (hJ:J g) (hL:L'=H g) (hf:f'=pin (allF (vr_ f') 0 n) (S g)):CutM n S H J f' L':=⟨g,hJ,hL,hf⟩
theorem Cw.cut {P:Program} {w0:World} {x y:Code} {f:Fr} {L:za_} {K:j1_} {G:Type} (n:Nat) (S:G→List (Nat×Value)) (H:G→za_) (J:G→Prop) (h1:Cw P w0 x f L (kT_ (CutM n S H J) K))
  (h2: ∀ (g:G) (j:Nat→Value),J g→Cw P w0 y (pin (allF j 0 n) (S g)) (H g) K):Cw P w0 (.seq x y) f L K:=by
 refine Cw.seq (h1.mono fun e f L k=> ?_)
 cases e with
 |normal=>
  obtain⟨g,hJ,rfl,hf⟩:=k
  have:=h2 g (vr_ f) hJ
  rw[←hf] at this
  exact this
 |_=>exact k
theorem cdC.splitp {p:Prop} [Decidable p] {A B S:Prop} {t:Tag (A,B,S)} (ht:p→A) (he: ¬p→B):cdC (.bool (decide p)) A B S t:=by
 by_cases h:p
 ·rw[akC_ A B S t p h];exact ht h
 ·rw[aj9_ A B S t p h];exact he h
theorem cdC.split {b:Bool} {A B S:Prop} {t:Tag (A,B,S)} (ht:b=true→A) (he:b=false→B):cdC (.bool b) A B S t:=by
 cases b with
 |true=>exact ht rfl
 |false=>exact he rfl
end Go.Sx
section
namespace Go.Sx
open Go
set_option maxRecDepth 100000
set_option linter.defProp false
def S0:=And.intro (And.intro (And.intro (And.intro (And.intro (And.intro (@ahw_) (And.intro (@ahj_) (@aig_))) (And.intro (@agk_) (And.intro (@abQ_) (@agd_)))) (And.intro (And.intro (@aeT_) (And.intro (@ahu_) (@aao_))) (And.intro (And.intro (@Vx_) (@XN_)) (And.intro (@aeR_) (@X4_))))) (And.intro (And.intro (And.intro (@aeq_) (And.intro (@ag9_) (@Wu_))) (And.intro (And.intro (@ae3_) (@K0_)) (And.intro (@aih_) (@aiW_)))) (And.intro (And.intro (@adQ_) (And.intro (@WD_) (@aen_))) (And.intro (And.intro (@ail_) (@afw_)) (And.intro (@JE_) (@XJ_)))))) (And.intro (And.intro (And.intro (And.intro (@agZ_) (And.intro (@acH_) (@aha_))) (And.intro (@abV_) (And.intro (@afE_) (@ajl_)))) (And.intro (And.intro (@aii_) (And.intro (@Zs_) (@vE_))) (And.intro (And.intro (@aax_) (@acw_)) (And.intro (@Xq_) (@afx_))))) (And.intro (And.intro (And.intro (@ags_) (And.intro (@acR_) (@wQ_))) (And.intro (And.intro (@KG_) (@Je_)) (And.intro (@aea_) (@ag2_)))) (And.intro (And.intro (@aif_) (And.intro (@aht_) (@jL_))) (And.intro (And.intro (@af6_) (@aep_)) (And.intro (@ah6_) (@jr_))))))) (And.intro (And.intro (And.intro (And.intro (And.intro (@jq_) (And.intro (@zp_) (@zq_))) (And.intro (@aae_) (And.intro (@Jn_) (@agJ_)))) (And.intro (And.intro (@ahA_) (And.intro (@ad0_) (@acn_))) (And.intro (And.intro (@aim_) (@act_)) (And.intro (@aef_) (@ahl_))))) (And.intro (And.intro (And.intro (@agN_) (And.intro (@afi_) (@afj_))) (And.intro (And.intro (@ahy_) (@agD_)) (And.intro (@agG_) (@aiD_)))) (And.intro (And.intro (@aeW_) (And.intro (@afV_) (@af4_))) (And.intro (And.intro (@aho_) (@ajo_)) (And.intro (@ad1_) (@ae1_)))))) (And.intro (And.intro (And.intro (And.intro (@ag5_) (And.intro (@acv_) (@adJ_))) (And.intro (And.intro (@aga_) (@aeL_)) (And.intro (@adM_) (@ahX_)))) (And.intro (And.intro (@ahY_) (And.intro (@aiA_) (@ajh_))) (And.intro (And.intro (@aiV_) (@agP_)) (And.intro (@agY_) (@ahe_))))) (And.intro (And.intro (And.intro (@agt_) (And.intro (@agg_) (@agb_))) (And.intro (And.intro (@ag3_) (@af7_)) (And.intro (@ai4_) (@ahk_)))) (And.intro (And.intro (@alM_) (And.intro (@ajO_) (@ajA_))) (And.intro (And.intro (@aj8_) (@agM_)) (And.intro (@aft_) (@acZ_)))))))
def S1:=And.intro (And.intro (And.intro (And.intro (And.intro (And.intro (And.intro (And.intro (@ahh_) (@aja_)) (And.intro (@ajj_) (And.intro (@akh_) (@ai0_)))) (And.intro (And.intro (@ajR_) (@kC_)) (And.intro (@kv_) (And.intro (@Qu_) (@aes_))))) (And.intro (And.intro (And.intro (@acK_) (@WH_)) (And.intro (@ahx_) (And.intro (@VL_) (@af2_)))) (And.intro (And.intro (@ag8_) (@beq_true)) (And.intro (@beq_false) (And.intro (@Bool.not_true) (@Bool.not_false)))))) (And.intro (And.intro (And.intro (And.intro (@Md.next_seq) (@Md.next_any)) (And.intro (@Md.next_qui) (And.intro (@Md.next_sof) (@W5_)))) (And.intro (And.intro (@W8_) (@VZ_)) (And.intro (@JK_) (And.intro (@Q6_) (@Jb_))))) (And.intro (And.intro (And.intro (@ajy_) (@aip_)) (And.intro (@agL_) (And.intro (@agi_) (@ag7_)))) (And.intro (And.intro (@ajN_) (And.intro (@ajb_) (@ai9_))) (And.intro (@aiv_) (And.intro (@ai6_) (@aiR_))))))) (And.intro (And.intro (And.intro (And.intro (And.intro (@acj_) (@acF_)) (And.intro (@abX_) (And.intro (@acS_) (@aer_)))) (And.intro (And.intro (@acb_) (@acl_)) (And.intro (@J5_) (And.intro (@ach_) (@abR_))))) (And.intro (And.intro (And.intro (@ab8_) (@acD_)) (And.intro (@acx_) (And.intro (@ab0_) (@afB_)))) (And.intro (And.intro (@WG_) (And.intro (@ZW_) (@acV_))) (And.intro (@X1_) (And.intro (@X3_) (@Zj_)))))) (And.intro (And.intro (And.intro (And.intro (@Zk_) (@X7_)) (And.intro (@Xz_) (And.intro (@abU_) (@Jh_)))) (And.intro (And.intro (@Q0_) (@Wz_)) (And.intro (@Q5_) (And.intro (@Jg_) (@Wh_))))) (And.intro (And.intro (And.intro (@Js_) (@Jm_)) (And.intro (@aaE_) (And.intro (@aaR_) (@Wv_)))) (And.intro (And.intro (@aaP_) (And.intro (@aar_) (@acM_))) (And.intro (@aak_) (And.intro (@W0_) (@aav_)))))))) (And.intro (And.intro (And.intro (And.intro (And.intro (And.intro (@V4_) (@Wy_)) (And.intro (@aam_) (And.intro (@Wi_) (@WR_)))) (And.intro (And.intro (@aaz_) (@aca_)) (And.intro (@K4_) (And.intro (@w7_) (@aaO_))))) (And.intro (And.intro (And.intro (@Q2_) (@Jj_)) (And.intro (@wn_) (And.intro (@wr_) (@Jw_)))) (And.intro (And.intro (@Ja_) (And.intro (@Wg_) (@Qn_))) (And.intro (@Qb_) (And.intro (@VD_) (@QG_)))))) (And.intro (And.intro (And.intro (And.intro (@Qs_) (@K3_)) (And.intro (@Z4_) (And.intro (@Qc_) (@Kw_)))) (And.intro (And.intro (@V3_) (@aau_)) (And.intro (@V2_) (And.intro (@V6_) (@acQ_))))) (And.intro (And.intro (And.intro (@WE_) (@aah_)) (And.intro (@aaA_) (And.intro (@Wm_) (@WA_)))) (And.intro (And.intro (@aai_) (And.intro (@aac_) (@Ws_))) (And.intro (@WO_) (And.intro (@abZ_) (@Vq_))))))) (And.intro (And.intro (And.intro (And.intro (And.intro (@wZ_) (@Wj_)) (And.intro (@Q1_) (And.intro (@Jl_) (@v4_)))) (And.intro (And.intro (@v3_) (@JF_)) (And.intro (@Jp_) (And.intro (@Wx_) (@QS_))))) (And.intro (And.intro (And.intro (@ZJ_) (@KV_)) (And.intro (@Qa_) (And.intro (@Qr_) (@KO_)))) (And.intro (And.intro (@Qt_) (And.intro (@QV_) (@KT_))) (And.intro (@aaH_) (And.intro (@WJ_) (@W2_)))))) (And.intro (And.intro (And.intro (And.intro (@WT_) (@acL_)) (And.intro (@aag_) (And.intro (@Wq_) (@V0_)))) (And.intro (And.intro (@Wl_) (@WX_)) (And.intro (@WF_) (And.intro (@aaI_) (@WZ_))))) (And.intro (And.intro (And.intro (@aaS_) (@acg_)) (And.intro (@VB_) (And.intro (@Zc_) (@V7_)))) (And.intro (And.intro (@Q7_) (And.intro (@JI_) (@wl_))) (And.intro (@vV_) (And.intro (@JD_) (@JA_))))))))) (And.intro (And.intro (And.intro (And.intro (And.intro (And.intro (And.intro (@aaw_) (@ZX_)) (And.intro (@Qe_) (And.intro (@Vs_) (@QL_)))) (And.intro (And.intro (@ZQ_) (@K9_)) (And.intro (@Z6_) (And.intro (@QE_) (@Vb_))))) (And.intro (And.intro (And.intro (@adZ_) (@ac1_)) (And.intro (@aeD_) (And.intro (@adU_) (@ae6_)))) (And.intro (And.intro (@afl_) (And.intro (@ad5_) (@aeF_))) (And.intro (@aeb_) (And.intro (@adt_) (@ac7_)))))) (And.intro (And.intro (And.intro (And.intro (@afO_) (@akG_)) (And.intro (@VM_) (And.intro (@ad7_) (@adB_)))) (And.intro (And.intro (@aeC_) (@adH_)) (And.intro (@ada_) (And.intro (@adp_) (@adk_))))) (And.intro (And.intro (And.intro (@ajm_) (@adA_)) (And.intro (@aiF_) (And.intro (@Vh_) (@KC_)))) (And.intro (And.intro (@JH_) (And.intro (@ajY_) (@ajB_))) (And.intro (@afN_) (And.intro (@acd_) (@WI_))))))) (And.intro (And.intro (And.intro (And.intro (And.intro (@aaf_) (@WW_)) (And.intro (@acJ_) (And.intro (@aix_) (@aiX_)))) (And.intro (And.intro (@aet_) (@WQ_)) (And.intro (@VC_) (And.intro (@Vd_) (@VK_))))) (And.intro (And.intro (And.intro (@aaL_) (@aiJ_)) (And.intro (@aia_) (And.intro (@ae4_) (@Wa_)))) (And.intro (And.intro (@Kv_) (And.intro (@KI_) (@VI_))) (And.intro (@aat_) (And.intro (@aio_) (@aiM_)))))) (And.intro (And.intro (And.intro (And.intro (@afh_) (@Wr_)) (And.intro (@Vk_) (And.intro (@Vl_) (@Vt_)))) (And.intro (And.intro (@aaK_) (@akF_)) (And.intro (@akb_) (And.intro (@agV_) (@acG_))))) (And.intro (And.intro (And.intro (@WN_) (@aaF_)) (And.intro (@aaN_) (And.intro (@abM_) (@agw_)))) (And.intro (And.intro (@agB_) (And.intro (@XI_) (@aiP_))) (And.intro (@aaa_) (And.intro (@Xy_) (@jK_)))))))) (And.intro (And.intro (And.intro (And.intro (And.intro (And.intro (@alI_) (@aie_)) (And.intro (@aj3_) (And.intro (@ake_) (@XX_)))) (And.intro (And.intro (@Jq_) (@jg_)) (And.intro (@J9_) (And.intro (@kz_) (@kZ_))))) (And.intro (And.intro (And.intro (@zR_) (@zA_)) (And.intro (@ahp_) (And.intro (@agx_) (@ad3_)))) (And.intro (And.intro (@agr_) (And.intro (@QK_) (@acC_))) (And.intro (@Vc_) (And.intro (@abO_) (@aaD_)))))) (And.intro (And.intro (And.intro (And.intro (@afT_) (@aeo_)) (And.intro (@abi_) (And.intro (@ahm_) (@afH_)))) (And.intro (And.intro (@ac4_) (@aj2_)) (And.intro (@akg_) (And.intro (@Option.map_some.{0,0}) (@Option.map_none.{0,0}))))) (And.intro (And.intro (And.intro (@Xp_) (@XV_)) (And.intro (@wA_) (And.intro (@acA_) (@XU_)))) (And.intro (And.intro (@XA_) (And.intro (@Xs_) (@af1_))) (And.intro (@agU_) (And.intro (@or_i) (@alJ_))))))) (And.intro (And.intro (And.intro (And.intro (And.intro (@Xw_) (@XR_)) (And.intro (@JG_) (And.intro (@zg_) (@List.cons_append.{0})))) (And.intro (And.intro (@List.nil_append.{0}) (@List.contains_cons.{0})) (And.intro (@List.contains_nil.{0}) (And.intro (@Bool.or_false) (@Bool.false_or))))) (And.intro (And.intro (And.intro (@Bool.or_true) (@Bool.true_or)) (And.intro (@Bool.false_eq_true) (And.intro (@VN_) (@k9_)))) (And.intro (And.intro (@J4_) (And.intro (@abk_) (@aey_))) (And.intro (@Nat.add_sub_cancel_left) (And.intro (@List.set_set.{0}) (@Int.toNat_natCast)))))) (And.intro (And.intro (And.intro (And.intro (@Nat.mul_one) (@Nat.zero_add)) (And.intro (@Nat.add_zero) (And.intro (@ge_iff_le.{0}) (@gt_iff_lt.{0})))) (And.intro (And.intro (@beq_self_eq_true.{0}) (@alp_)) (And.intro (@alm_) (And.intro (@ahs_) (@agX_))))) (And.intro (And.intro (And.intro (@akC_) (@aj9_)) (And.intro (@ak5_) (And.intro (@alD_) (@alf_)))) (And.intro (And.intro (@alL_) (And.intro (@ah9_) (@aij_))) (And.intro (@ajv_) (And.intro (@ajk_) (@ais_)))))))))
end Go.Sx
end
section
open Go Go.Proofs Go.Sx
namespace Go.Proofs
theorem Tryd.ix22:ixT Tryd.prog 22= .sl (true,2):=id (by kernel_rfl)
theorem Tryd.ix31:ixT Tryd.prog 31= .sl (true,32):=id (by kernel_rfl)
theorem Tryd.ix50:ixT Tryd.prog 50= .sl (true,34):=id (by kernel_rfl)
theorem Tryd.ix51:ixT Tryd.prog 51= .sl (true,35):=id (by kernel_rfl)
theorem Tryd.ix9:ixT Tryd.prog 9= .str:=id (by kernel_rfl)
theorem Tryd.ix57:ixT Tryd.prog 57= .sl (false,1):=id (by kernel_rfl)
theorem Tryd.ix60:ixT Tryd.prog 60= .sl (false,1):=id (by kernel_rfl)
theorem Tryd.ix96:ixT Tryd.prog 96= .sl (false,1):=id (by kernel_rfl)
theorem Tryd.ix76:ixT Tryd.prog 76= .arr 16 (false,1):=id (by kernel_rfl)
theorem Tryd.ix36:ixT Tryd.prog 36= .arr 32 (false,1):=id (by kernel_rfl)
theorem Tryd.ix84:ixT Tryd.prog 84= .sl (false,1):=id (by kernel_rfl)
theorem Tryd.ix123:ixT Tryd.prog 123= .arr 4 (false,1):=id (by kernel_rfl)
theorem Tryd.ix152:ixT Tryd.prog 152= .arr 16 (false,1):=id (by kernel_rfl)
theorem Tryd.ag26:qr_ Tryd.prog 26=some (true,2):=id (by kernel_rfl)
theorem Tryd.ag36:qr_ Tryd.prog 36=some (true,32):=id (by kernel_rfl)
theorem Tryd.ag38:qr_ Tryd.prog 38=some (true,35):=id (by kernel_rfl)
theorem Tryd.ag9:qr_ Tryd.prog 9=some (false,1):=id (by kernel_rfl)
theorem Tryd.ag45:qr_ Tryd.prog 45=some (true,34):=id (by kernel_rfl)
theorem Tryd.ag3:qr_ Tryd.prog 3=some (false,1):=id (by kernel_rfl)
theorem Tryd.ag59:qr_ Tryd.prog 59=some (true,3):=id (by kernel_rfl)
theorem Tryd.ag57:qr_ Tryd.prog 57=some (false,1):=id (by kernel_rfl)
theorem Tryd.ag51:qr_ Tryd.prog 51=some (false,1):=id (by kernel_rfl)
theorem Tryd.ag41:qr_ Tryd.prog 41=some (false,1):=id (by kernel_rfl)
theorem Tryd.ag50:qr_ Tryd.prog 50=some (false,1):=id (by kernel_rfl)
theorem Tryd.ag93:qr_ Tryd.prog 93=some (true,2):=id (by kernel_rfl)
theorem Tryd.ag110:qr_ Tryd.prog 110=some (true,3):=id (by kernel_rfl)
theorem Tryd.ag27:qr_ Tryd.prog 27=some (false,1):=id (by kernel_rfl)
theorem Tryd.ag78:qr_ Tryd.prog 78=some (true,18):=id (by kernel_rfl)
theorem Tryd.ag5:qr_ Tryd.prog 5=some (false,1):=id (by kernel_rfl)
theorem Tryd.ag123:qr_ Tryd.prog 123=some (true,4):=id (by kernel_rfl)
theorem Tryd.ag84:qr_ Tryd.prog 84=some (false,1):=id (by kernel_rfl)
theorem Tryd.ag89:qr_ Tryd.prog 89=some (false,1):=id (by kernel_rfl)
theorem Tryd.ag146:qr_ Tryd.prog 146=some (false,1):=id (by kernel_rfl)
theorem Tryd.ag121:qr_ Tryd.prog 121=some (false,1):=id (by kernel_rfl)
theorem Tryd.ag152:qr_ Tryd.prog 152=some (true,16):=id (by kernel_rfl)
theorem Tryd.zr36:qd_ Tryd.prog 36=some (.agg (a8 (List.replicate 32 0))):=id (by kernel_rfl)
theorem Tryd.zr93:qd_ Tryd.prog 93=some (.agg #[(.pointer none),(.slice none 0 0)]):=id (by kernel_rfl)
theorem Tryd.zr123:qd_ Tryd.prog 123=some (.agg (a8 (List.replicate 4 0))):=id (by kernel_rfl)
theorem Tryd.zr5:qd_ Tryd.prog 5=some (v8 0):=id (by kernel_rfl)
theorem Tryd.fl26_1:v8_ Tryd.prog 26 1=some (1,(false,1)):=id (by kernel_rfl)
theorem Tryd.fl26_0:v8_ Tryd.prog 26 0=some (0,(false,1)):=id (by kernel_rfl)
theorem Tryd.fl38_2:v8_ Tryd.prog 38 2=some (33,(false,1)):=id (by kernel_rfl)
theorem Tryd.fl45_1:v8_ Tryd.prog 45 1=some (32,(false,1)):=id (by kernel_rfl)
theorem Tryd.fl38_3:v8_ Tryd.prog 38 3=some (34,(false,1)):=id (by kernel_rfl)
theorem Tryd.fl45_2:v8_ Tryd.prog 45 2=some (33,(false,1)):=id (by kernel_rfl)
theorem Tryd.fl59_0:v8_ Tryd.prog 59 0=some (0,(false,1)):=id (by kernel_rfl)
theorem Tryd.fl59_1:v8_ Tryd.prog 59 1=some (1,(false,1)):=id (by kernel_rfl)
theorem Tryd.fl59_2:v8_ Tryd.prog 59 2=some (2,(false,1)):=id (by kernel_rfl)
theorem Tryd.fl38_1:v8_ Tryd.prog 38 1=some (32,(false,1)):=id (by kernel_rfl)
theorem Tryd.fl78_0:v8_ Tryd.prog 78 0=some (0,(false,1)):=id (by kernel_rfl)
theorem Tryd.fl78_1:v8_ Tryd.prog 78 1=some (1,(false,1)):=id (by kernel_rfl)
theorem Tryd.fl45_0:v8_ Tryd.prog 45 0=some (0,(true,32)):=id (by kernel_rfl)
theorem Tryd.fl78_2:v8_ Tryd.prog 78 2=some (2,(true,16)):=id (by kernel_rfl)
theorem Tryd.fl38_0:v8_ Tryd.prog 38 0=some (0,(true,32)):=id (by kernel_rfl)
theorem Tryd.fl110_1:v8_ Tryd.prog 110 1=some (1,(false,1)):=id (by kernel_rfl)
theorem Tryd.fl110_0:v8_ Tryd.prog 110 0=some (0,(false,1)):=id (by kernel_rfl)
theorem Tryd.fl110_2:v8_ Tryd.prog 110 2=some (2,(false,1)):=id (by kernel_rfl)
theorem Tryd.fl93_0:v8_ Tryd.prog 93 0=some (0,(true,2)):=id (by kernel_rfl)
theorem Tryd.fl91_1:v8_ Tryd.prog 91 1=some (1,(false,1)):=id (by kernel_rfl)
theorem Tryd.fl91_0:v8_ Tryd.prog 91 0=some (0,(false,1)):=id (by kernel_rfl)
theorem Tryd.cv5_3:cvT Tryd.prog 5 3= .int .i64:=id (by kernel_rfl)
theorem Tryd.cv3_113:cvT Tryd.prog 3 113= .int .u64:=id (by kernel_rfl)
theorem Tryd.cv113_3:cvT Tryd.prog 113 3= .int .i64:=id (by kernel_rfl)
theorem Tryd.cv3_5:cvT Tryd.prog 3 5= .int .u8:=id (by kernel_rfl)
theorem Tryd.cv84_9:cvT Tryd.prog 84 9= .bytesStr:=id (by kernel_rfl)
theorem Tryd.cv121_5:cvT Tryd.prog 121 5= .int .u8:=id (by kernel_rfl)
theorem Tryd.cv113_121:cvT Tryd.prog 113 121= .int .u32:=id (by kernel_rfl)
theorem Tryd.cv89_143:cvT Tryd.prog 89 143= .no:=id (by kernel_rfl)
theorem Tryd.cv143_89:cvT Tryd.prog 143 89= .no:=id (by kernel_rfl)
theorem Tryd.cv3_146:cvT Tryd.prog 3 146= .int .u64:=id (by kernel_rfl)
theorem Tryd.cv142_5:cvT Tryd.prog 142 5= .int .u8:=id (by kernel_rfl)
theorem Tryd.cv5_121:cvT Tryd.prog 5 121= .int .u32:=id (by kernel_rfl)
set_option linter.defProp false
def Tryd.fx:=And.intro (And.intro (And.intro (And.intro (And.intro (And.intro (@Tryd.ix22) (@Tryd.ix31)) (And.intro (@Tryd.ix50) (@Tryd.ix51))) (And.intro (And.intro (@Tryd.ix9) (@Tryd.ix57)) (And.intro (@Tryd.ix60) (@Tryd.ix96)))) (And.intro (And.intro (And.intro (@Tryd.ix76) (@Tryd.ix36)) (And.intro (@Tryd.ix84) (@Tryd.ix123))) (And.intro (And.intro (@Tryd.ix152) (@Tryd.ag26)) (And.intro (@Tryd.ag36) (And.intro (@Tryd.ag38) (@Tryd.ag9)))))) (And.intro (And.intro (And.intro (And.intro (@Tryd.ag45) (@Tryd.ag3)) (And.intro (@Tryd.ag59) (@Tryd.ag57))) (And.intro (And.intro (@Tryd.ag51) (@Tryd.ag41)) (And.intro (@Tryd.ag50) (@Tryd.ag93)))) (And.intro (And.intro (And.intro (@Tryd.ag110) (@Tryd.ag27)) (And.intro (@Tryd.ag78) (@Tryd.ag5))) (And.intro (And.intro (@Tryd.ag123) (@Tryd.ag84)) (And.intro (@Tryd.ag89) (And.intro (@Tryd.ag146) (@Tryd.ag121))))))) (And.intro (And.intro (And.intro (And.intro (And.intro (@Tryd.ag152) (@Tryd.fl26_1)) (And.intro (@Tryd.fl26_0) (@Tryd.fl38_2))) (And.intro (And.intro (@Tryd.fl45_1) (@Tryd.fl38_3)) (And.intro (@Tryd.fl45_2) (@Tryd.fl59_0)))) (And.intro (And.intro (And.intro (@Tryd.fl59_1) (@Tryd.fl59_2)) (And.intro (@Tryd.fl38_1) (@Tryd.fl78_0))) (And.intro (And.intro (@Tryd.fl78_1) (@Tryd.fl45_0)) (And.intro (@Tryd.fl78_2) (And.intro (@Tryd.fl38_0) (@Tryd.fl110_1)))))) (And.intro (And.intro (And.intro (And.intro (@Tryd.fl110_0) (@Tryd.fl110_2)) (And.intro (@Tryd.fl93_0) (@Tryd.fl91_1))) (And.intro (And.intro (@Tryd.fl91_0) (@Tryd.cv5_3)) (And.intro (@Tryd.cv3_113) (@Tryd.cv113_3)))) (And.intro (And.intro (And.intro (@Tryd.cv3_5) (@Tryd.cv84_9)) (And.intro (@Tryd.cv121_5) (@Tryd.cv113_121))) (And.intro (And.intro (@Tryd.cv89_143) (@Tryd.cv143_89)) (And.intro (@Tryd.cv3_146) (And.intro (@Tryd.cv142_5) (@Tryd.cv5_121)))))))
theorem kp {X A G:Prop} (x:X) (h:G) (e:X→A=G:=by intro x;(try simp(disch:=(first|assumption|omega| (simp only[xN_,xT_,UInt64.reduceToNat];try omega))) only[↓Sx.S0,Sx.S1,Tryd.fx,Nat.reduceAdd,Nat.reducePow,Int.reducePow,Nat.reduceBEq, ↓reduceIte,UInt8.reduceToNat,UInt16.reduceToNat,UInt32.reduceToNat,UInt64.reduceToNat,Int.reduceToNat,x]);exact rfl):A:=(e x).mpr h
section
variable {P:Program} {w0:World} {f:Fr} {L:za_} {K:j1_} {N:Fr→za_→Prop} {ops:Array Oper} {md:Md} {l:List Oper} {X G:Prop}
theorem ks {c:Code} (z:List Nat) [Sx.Steps c] (x:X) (h:G) (e:X→vcC P w0 z c f L (bsK K)=G:=by intro x;(try simp(disch:=(first|assumption|omega| (simp only[xN_,xT_,UInt64.reduceToNat];try omega))) only[↓Sx.S0,Sx.S1,Tryd.fx,Nat.reduceAdd,Nat.reducePow,Int.reducePow,Nat.reduceBEq, ↓reduceIte,UInt8.reduceToNat,UInt16.reduceToNat,UInt32.reduceToNat,UInt64.reduceToNat,Int.reduceToNat,x]);exact rfl):Cw P w0 c f L K:=Cw.go z ((e x).mpr h)
theorem ko (x:X) (h:G) (e:X→vcL P w0 ops true md l f L (owk P w0 ops (bsN N))=G:=by intro x;(try simp(disch:=(first|assumption|omega| (simp only[xN_,xT_,UInt64.reduceToNat];try omega))) only[↓Sx.S0,Sx.S1,Tryd.fx,Nat.reduceAdd,Nat.reducePow,Int.reducePow,Nat.reduceBEq, ↓reduceIte,UInt8.reduceToNat,UInt16.reduceToNat,UInt32.reduceToNat,UInt64.reduceToNat,Int.reduceToNat,x]);exact rfl) (he:md.eff=true:=by rfl):Ow P w0 ops md l f L N:=Ow.go he ((e x).mpr h)
theorem kq (x:X) (h:G) (e:X→vcL P w0 ops false md l f L (owk P w0 ops (bsN N))=G:=by intro x;(try simp(disch:=(first|assumption|omega| (simp only[xN_,xT_,UInt64.reduceToNat];try omega))) only[↓Sx.S0,Sx.S1,Tryd.fx,Nat.reduceAdd,Nat.reducePow,Int.reducePow,Nat.reduceBEq, ↓reduceIte,UInt8.reduceToNat,UInt16.reduceToNat,UInt32.reduceToNat,UInt64.reduceToNat,Int.reduceToNat,x]);exact rfl):Ow P w0 ops md l f L N:=Ow.goQ ((e x).mpr h)
end
theorem ke {α:Type} {X:Prop} {a b:α} (x:X) (e:X→a=b:=by intro x;(try simp(disch:=(first|assumption|omega| (simp only[xN_,xT_,UInt64.reduceToNat];try omega))) only[↓Sx.S0,Sx.S1,Tryd.fx,Nat.reduceAdd,Nat.reducePow,Int.reducePow,Nat.reduceBEq, ↓reduceIte,UInt8.reduceToNat,UInt16.reduceToNat,UInt32.reduceToNat,UInt64.reduceToNat,Int.reduceToNat,x]);exact rfl):a=b:=e x
theorem kn {A G:Prop} (h:G) (e:A=G:=by(try simp(disch:=(first|assumption|omega| (simp only[xN_,xT_,UInt64.reduceToNat];try omega))) only[kz_,kZ_,List.cons_append,List.nil_append]);exact rfl):A:=e.mpr h
theorem kf {A G:Prop} (h:G) (e:A=G:=by simp only[List.size_toArray,List.length_cons,List.length_nil,Nat.reduceAdd,Nat.reduceSub,List.replicate_succ,List.replicate_zero,List.cons_append,List.nil_append];exact rfl):A:=e.mpr h
theorem kv {A G:Prop} (h:G) (e:A=G:=by simp only[qk_,pin,kC_,kv_,List.contains_cons,List.contains_nil,Nat.reduceBEq,Bool.or_false,Bool.false_or,Bool.or_true,Bool.true_or,Nat.reduceAdd, ↓reduceIte,Bool.false_eq_true];exact rfl):A:=e.mpr h
set_option maxRecDepth 10000
set_option maxHeartbeats 1000000
set_option linter.unusedSimpArgs false
theorem Qx_ (p v:Value) (E:TypeId) (n:Nat):zn_ (some (false,n)) (some (.cells #[p,v] E (0,0))) 0=some p:=(rfl)
theorem QJ_ (p v:Value) (E:TypeId) (n:Nat):zn_ (some (false,n)) (some (.cells #[p,v] E (0,0))) 1=some v:=(rfl)
theorem af8_ (p v x:Value) (E:TypeId) (hx:Value.oneCell' x=true∧x.cells= #[x]):zl_ (some (false,1)) (some (.cells #[p,v] E (0,0))) 0 x=some (.cells #[x,v] E (0,0)):=by
 simp[zl_,hx,x3_]
theorem abj_ (p v x:Value) (E:TypeId) (hx:Value.oneCell' x=true∧x.cells= #[x]):zl_ (some (false,1)) (some (.cells #[p,v] E (0,0))) 1 x=some (.cells #[p,x] E (0,0)):=by
 simp[zl_,hx,x3_]
theorem ZS_ (p v:Value) (b o:Nat) (E:TypeId):zl_ (some (false,1)) (some (.cells #[p,v] E (0,0))) 0 (vp b o)=some (.cells #[vp b o,v] E (0,0)):=af8_ _ _ _ _ ⟨rfl,rfl⟩
theorem nilB (b o:Nat):qC_ Tryd.prog .eql 89 (vp b o) (.pointer none)=some (.bool false):=by
 simp[qC_,eqX,qy_,qg_,Tryd.underlying89,vp]
theorem ai2_:qC_ Tryd.prog .eql 89 (.pointer none) (.pointer none)=some (.bool true):=by
 simp[qC_,eqX,qy_,qg_,Tryd.underlying89]
set_option linter.defProp false
def vI_:=And.intro (And.intro (@Qx_) (@QJ_)) (And.intro (@ZS_) (And.intro (@nilB) (@ai2_)))
theorem alj_:liesAt Tryd.prog Tryd.prog.depth 93 ((#[Value.pointer none,Value.pointer none]:Array Value).size / Tryd.prog.cellsOf 93) 0 91 1=true:=id (by kernel_rfl)
theorem aggB:qr_ Tryd.prog 91=some (true,2):=id (by kernel_rfl)
theorem afP_ (x:Value) (w:World): (callFunc 87 #[x]).run Tryd.prog w= .ok (.value x) w:=by kernel_rfl
theorem vw_ (b:Nat) (p v:Value) (w:World) (hp:p= .pointer none∨p=vp b 0) (ho:w.heap[b]? =some (.cells #[p,v] 93 (0,0))):
  Rets Tryd.prog 73 #[vp b 0] w (fun v' D=> ∃o,D= [(b,o)]∧v'= .tuple #[]∧o= .cells #[vp b 0,v] 93 (0,0)):=by
 refine Rets.enterM Tryd.func73 rfl (rs:= []) Tryd.results73 Tryd.ntmps73 ho ?_
 refine kf ?_
 rcases hp with rfl|rfl
 ·first|with_reducible refine ks [] @vI_ ?_|refine kp @vI_ ?_
  refine Ow.toUnsafe rfl rfl (by kernel_rfl) rfl (jf_ (jg_ _ _ _)) (by simp) aggB (by decide) Tryd.underlying89 Tryd.underlying143 ?_
  refine Ow.callExt (v:=vp b 0) rfl rfl (fun w=>afP_ _ w) ?_
  refine Ow.ofUnsafe rfl rfl (by kernel_rfl) rfl (jf_ (jg_ _ _ _)) aggB alj_ Tryd.underlying143 Tryd.underlying89 ?_
  refine ko @vI_ ?_
  first|with_reducible refine ks [] @vI_ ?_|refine kp @vI_ ?_
  refine⟨_,_,_,(ke @vI_),rfl,trivial, ?_⟩
  exact⟨rfl,rfl⟩
 ·first|with_reducible refine ks [2] @vI_ ?_|refine kp @vI_ ?_
  refine Cw.region ?_
  refine Ow.value rfl rfl rfl ?_
  refine Ow.value (v:=vp b 0) rfl rfl (by simp(disch:=(first|assumption|omega| (simp only[xN_,xT_,UInt64.reduceToNat];try omega))) only[↓Sx.S0,Sx.S1,Tryd.fx,vI_,Nat.reduceAdd,Nat.reducePow,Int.reducePow,Nat.reduceBEq, ↓reduceIte,UInt8.reduceToNat,UInt16.reduceToNat,UInt32.reduceToNat,UInt64.reduceToNat,Int.reduceToNat,xK_]) ?_
  refine Ow.value (v:=vp b 0) rfl rfl (by simp(disch:=(first|assumption|omega| (simp only[xN_,xT_,UInt64.reduceToNat];try omega))) only[↓Sx.S0,Sx.S1,Tryd.fx,vI_,Nat.reduceAdd,Nat.reducePow,Int.reducePow,Nat.reduceBEq, ↓reduceIte,UInt8.reduceToNat,UInt16.reduceToNat,UInt32.reduceToNat,UInt64.reduceToNat,Int.reduceToNat,xK_]) ?_
  refine Ow.value (v:=vp b 0) rfl rfl (by simp(disch:=(first|assumption|omega| (simp only[xN_,xT_,UInt64.reduceToNat];try omega))) only[↓Sx.S0,Sx.S1,Tryd.fx,vI_,Nat.reduceAdd,Nat.reducePow,Int.reducePow,Nat.reduceBEq, ↓reduceIte,UInt8.reduceToNat,UInt16.reduceToNat,UInt32.reduceToNat,UInt64.reduceToNat,Int.reduceToNat,xK_]) ?_
  refine Ow.value rfl rfl rfl ?_
  refine Ow.neqSame rfl Tryd.underlying89 aggB rfl rfl ?_
  refine ko @vI_ ?_
  first|with_reducible refine ks [] @vI_ ?_|refine kp @vI_ ?_
  refine⟨_,_,_,(ke @vI_),rfl,trivial, ?_⟩
  exact⟨rfl,rfl⟩
end Go.Proofs
end
section
open Go Go.Proofs Go.Sx
namespace Go.Proofs
set_option maxRecDepth 10000
set_option maxHeartbeats 1000000
set_option linter.unusedSimpArgs false
set_option linter.defProp false
def Q3_:=And.intro (And.intro (@Qx_) (@QJ_)) (And.intro (@ZS_) (And.intro (@nilB) (@ai2_)))
def BldAt (b:Nat) (l:List UInt8) (X:za_):Prop:=
 ∃p v,Sx.look X b=some (.cells #[p,v] 93 (0,0))∧(p= .pointer none∨p=vp b 0)∧Buf X 5 1 v l.length (l.map v8)∧slB v≠some b
theorem vv_ (b:Nat) (X:za_) (l:List UInt8) (c:UInt8) (w:World) (hB:BldAt b l X) (hX: ∀p,p∈X→w.heap[p.1]? =some p.2) (hn: (keys X).Nodup) (hl:l.length<34359738368):
  Rets Tryd.prog 63 #[vp b 0,v8 c] w (XS w X (fun v D=>v= .nilIface∧BldAt b (l++ [c]) D)):=by
 obtain⟨p,v,hlk,hp,hb,hsl⟩:=hB
 refine Rets.enterX Tryd.func63 rfl (rs:= [.tmp 4]) Tryd.results63 Tryd.ntmps63 hX hn ?_
 refine kf ?_
 first|with_reducible refine ks [] @Q3_ ?_|refine kp @Q3_ ?_
 refine Ow.callM rfl rfl Tryd.call73 (zo_ hlk) (fun w' hw'=>vw_ b p v w' hp (hw'.has _ _ (zF_ hlk))) ?_
 have lk1:=q0_ (x:= .cells #[vp b 0,v] 93 (0,0)) hlk
 have rd1:=jf_ (w0:=w) lk1
 have hb1:Buf (setB X b (.cells #[vp b 0,v] 93 (0,0))) 5 1 v l.length (l.map v8):=hb.setO hsl
 have kx:Ext w X (setB X b (.cells #[vp b 0,v] 93 (0,0))):=(Ext.refl w X).setB
 generalize setB X b (.cells #[vp b 0,v] 93 (0,0))=X1 at*
 refine ko @Q3_ ?_
 first|with_reducible refine ks [] (And.intro @Q3_ @rd1) ?_|refine kp (And.intro @Q3_ @rd1) ?_
 refine Ow.buildSlice (e:=5) #[v8 c] rfl rfl (by kernel_rfl) fun b3 hb3 hw3=> ?_
 have lk3:Sx.look (X1++ [(b3, .cells #[v8 c] 5 (0,0))]) b3=some (.cells #[v8 c] 5 (0,0)):=vp_ hb3
 have hb2:Buf (X1++ [(b3, .cells #[v8 c] 5 (0,0))]) 5 1 v l.length (l.map v8):=hb1.app
 refine ko @Q3_ ?_
 refine Ow.append (e:=5) _ rfl rfl rfl Tryd.underlying84 Tryd.ag5 (by kernel_rfl) Tryd.zr5 (by kernel_rfl) Tryd.underlying84 (by intro k h;cases h) hb2 (fun w' hw'=>AppX.block (k:=1) (new:= [v8 c]) (jf_ lk3) (by simp) (by simp) rfl hw') (by omega) (fun v2 L2 hB2 hG2 hS2=> ?_)
 have lk2:Sx.look L2 b=some (.cells #[vp b 0,v] 93 (0,0)):=hG2.look b _ hsl (jA_ lk1)
 have st2:zl_ (some (false,1)) (some (.cells #[vp b 0,v] 93 (0,0))) 1 v2=some (.cells #[vp b 0,v2] 93 (0,0)):=abj_ _ _ _ _ hB2.cell
 refine ko (And.intro @Q3_ (And.intro @lk2 (And.intro @st2 (@adD_)))) ?_
 first|with_reducible refine ks [] @Q3_ ?_|refine kp @Q3_ ?_
 refine⟨_,(ke @Q3_), ?_⟩
 have ex:=(kx.app (o:= .cells #[v8 c] 5 (0,0)) hw3).grew hG2
 have hs2:slB v2≠some b:=by
  rcases hS2 with h| ⟨c',h,ha⟩
  ·rw[h];exact hsl
  ·rw[h]
   intro e
   cases e
   exact Nat.lt_irrefl _ (zz_ ha (zo_ (jA_ lk1)))
 refine⟨ex.setB,rfl,vp b 0,v2,q0_ lk2, .inr rfl, ?_,hs2⟩
 rw[List.length_append,List.map_append]
 exact hB2.setO hs2
end Go.Proofs
end
section
open Go Go.Proofs Go.Sx
namespace Go.Proofs
set_option maxRecDepth 10000
set_option maxHeartbeats 1000000
set_option linter.unusedSimpArgs false
set_option linter.defProp false
def jY_:=And.intro (And.intro (@Qx_) (@QJ_)) (And.intro (@ZS_) (And.intro (@nilB) (@ai2_)))
theorem Zr_ (b:Nat) (X:za_) (l s:List UInt8) (w:World) (hB:BldAt b l X) (hX: ∀p,p∈X→w.heap[p.1]? =some p.2) (hn: (keys X).Nodup) (hl:l.length+s.length<34359738368):
  Rets Tryd.prog 62 #[vp b 0,vs s] w (XS w X (fun v D=>v= .tuple #[vi s.length, .nilIface]∧BldAt b (l++s) D)):=by
 obtain⟨p,v,hlk,hp,hb,hsl⟩:=hB
 refine Rets.enterX Tryd.func62 rfl (rs:= [.tmp 4, .tmp 5]) Tryd.results62 Tryd.ntmps62 hX hn ?_
 refine kf ?_
 first|with_reducible refine ks [] @jY_ ?_|refine kp @jY_ ?_
 refine Ow.callM rfl rfl Tryd.call73 (zo_ hlk) (fun w' hw'=>vw_ b p v w' hp (hw'.has _ _ (zF_ hlk))) ?_
 have lk1:=q0_ (x:= .cells #[vp b 0,v] 93 (0,0)) hlk
 have rd1:=jf_ (w0:=w) lk1
 have hb1:Buf (setB X b (.cells #[vp b 0,v] 93 (0,0))) 5 1 v l.length (l.map v8):=hb.setO hsl
 have kx:Ext w X (setB X b (.cells #[vp b 0,v] 93 (0,0))):=(Ext.refl w X).setB
 generalize setB X b (.cells #[vp b 0,v] 93 (0,0))=X1 at*
 refine ko @jY_ ?_
 first|with_reducible refine ks [] (And.intro @jY_ @rd1) ?_|refine kp (And.intro @jY_ @rd1) ?_
 refine Ow.append (e:=5) _ rfl rfl rfl Tryd.underlying84 Tryd.ag5 (by kernel_rfl) Tryd.zr5 (by kernel_rfl) Tryd.underlying9 (by intro k h;cases h) hb1 (fun w' hw'=>AppX.text _ w' s) (by omega) (fun v2 L2 hB2 hG2 hS2=> ?_)
 have lk2:Sx.look L2 b=some (.cells #[vp b 0,v] 93 (0,0)):=hG2.look b _ hsl lk1
 have st2:zl_ (some (false,1)) (some (.cells #[vp b 0,v] 93 (0,0))) 1 v2=some (.cells #[vp b 0,v2] 93 (0,0)):=abj_ _ _ _ _ hB2.cell
 refine ko (And.intro @jY_ (And.intro @lk2 (And.intro @st2 (@adD_)))) ?_
 first|with_reducible refine ks [] @jY_ ?_|refine kp @jY_ ?_
 refine⟨_,(ke @jY_), ?_⟩
 have ex:=kx.grew hG2
 have hs2:slB v2≠some b:=by
  rcases hS2 with h| ⟨c',h,ha⟩
  ·rw[h];exact hsl
  ·rw[h]
   intro e
   cases e
   exact Nat.lt_irrefl _ (zz_ ha (zo_ lk1))
 refine⟨ex.setB,rfl,vp b 0,v2,q0_ lk2, .inr rfl, ?_,hs2⟩
 rw[List.length_append,List.map_append]
 exact hB2.setO hs2
theorem Kz_ (b:Nat) (X:za_) (l:List UInt8) (w:World) (hB:BldAt b l X) (hX: ∀p,p∈X→w.heap[p.1]? =some p.2) (hn: (keys X).Nodup) (hl:l.length<34359738368):
  Rets Tryd.prog 65 #[vp b 0] w (XS w X (fun v _D=>v=vs l)):=by
 obtain⟨p,v,hlk,hp,hb,hsl⟩:=hB
 have rd1:=jf_ (w0:=w) hlk
 refine Rets.enterX Tryd.func65 rfl (rs:= [.tmp 2]) Tryd.results65 Tryd.ntmps65 hX hn ?_
 refine kf ?_
 first|with_reducible refine ks [] @jY_ ?_|refine kp @jY_ ?_
 refine Cw.regionS [b] [0,1,2,5,6,7,3,8,9,4,10,11] [] (by kernel_rfl) (by kernel_rfl) (by kernel_rfl) ?_
 simp only[zj_, ↓zf_, ↓zb_, ↓zp_, ↓zq_,zc_]
 refine Ow.goQ ?_
 simp(disch:=(first|assumption|omega| (simp only[xN_,xT_,UInt64.reduceToNat];try omega))) only[↓Sx.S0,Sx.S1,Tryd.fx,jY_,Nat.reduceAdd,Nat.reducePow,Int.reducePow,Nat.reduceBEq, ↓reduceIte,UInt8.reduceToNat,UInt16.reduceToNat,UInt32.reduceToNat,UInt64.reduceToNat,Int.reduceToNat,rd1,hb.len]
 refine Ow.soft rfl rfl rfl ?_
 rcases hb.inv with⟨rfl,h0,-⟩ | ⟨b2,c,rest,rfl,hl2,h1,h3,h4,-⟩
 ·obtain rfl:l= []:=List.eq_nil_of_length_eq_zero h0
  refine Ow.sliceData (v:= .pointer none) rfl rfl (.inl ⟨0,0,rfl,rfl⟩) ?_
  with_reducible refine Ow.nil ?_
  refine⟨by intro b hb;simp only[List.mem_cons,List.not_mem_nil,or_false] at hb;(try subst hb);rfl, ?_⟩
  refine Ow.soft rfl rfl rfl ?_
  refine Ow.unsafeStringNil rfl rfl rfl rfl ?_
  with_reducible refine Ow.nil ?_
  refine⟨by intro b hb;simp only[List.mem_cons,List.not_mem_nil,or_false] at hb;(try subst hb);rfl, ?_⟩
  refine kq @jY_ ?_
  try with_reducible refine Ow.nil ?_
  first|with_reducible refine ks [] @jY_ ?_|refine kp @jY_ ?_
  refine⟨_,(ke @jY_), ?_⟩
  exact⟨Ext.refl _ _,rfl⟩
 ·refine Ow.sliceData (v:=vp b2 0) rfl rfl (.inr ⟨b2,_,c,rfl,by omega,rfl⟩) ?_
  with_reducible refine Ow.nil ?_
  refine⟨by intro b hb;simp only[List.mem_cons,List.not_mem_nil,or_false] at hb;(try subst hb);rfl, ?_⟩
  by_cases h0:l.length=0
  ·obtain rfl:l= []:=List.eq_nil_of_length_eq_zero h0
   refine Ow.soft rfl rfl rfl ?_
   refine Ow.unsafeStringNil rfl rfl rfl rfl ?_
   with_reducible refine Ow.nil ?_
   refine⟨by intro b hb;simp only[List.mem_cons,List.not_mem_nil,or_false] at hb;(try subst hb);rfl, ?_⟩
   refine kq @jY_ ?_
   try with_reducible refine Ow.nil ?_
   first|with_reducible refine ks [] @jY_ ?_|refine kp @jY_ ?_
   refine⟨_,(ke @jY_), ?_⟩
   exact⟨Ext.refl _ _,rfl⟩
  ·refine Ow.soft rfl rfl rfl ?_
   refine Ow.unsafeString rfl rfl rfl rfl hl2 (by omega) (by omega) Tryd.underlying132 (by kernel_rfl) (of_decide_eq_true (by kernel_rfl)) ?_
   with_reducible refine Ow.nil ?_
   refine⟨by intro b hb;simp only[List.mem_cons,List.not_mem_nil,or_false] at hb;(try subst hb);exact KW_ (fun e=>hsl (by rw[←e];rfl)), ?_⟩
   refine kq @jY_ ?_
   try with_reducible refine Ow.nil ?_
   first|with_reducible refine ks [] @jY_ ?_|refine kp @jY_ ?_
   refine⟨_,(ke @jY_), ?_⟩
   exact⟨(Ext.refl _ _).setB,rfl⟩
end Go.Proofs
end
section
open Go Go.Proofs Go.Sx
namespace Go.Proofs
set_option maxRecDepth 10000
set_option maxHeartbeats 1000000
set_option linter.unusedSimpArgs false
theorem nilW (b o:Nat):qC_ Tryd.prog .eql 115 (vp b o) (.pointer none)=some (.bool false):=by
 simp[qC_,eqX,qy_,qg_,Tryd.underlying115,vp]
set_option linter.defProp false
def jI_:=And.intro (@Qx_) (And.intro (@QJ_) (@nilW))
structure WG where
 g:Nat
 D:za_
theorem Q9_ (l:List (List UInt8)) (g:Nat) (h:g<l.length): (l.take (g+1)).flatten=(l.take g).flatten++l.getD g []:=by
 rw[List.take_add_one,List.getElem?_eq_getElem h,List.flatten_append,List.getD_eq_getElem?_getD,List.getElem?_eq_getElem h]
 simp
theorem KK_ (l:List (List UInt8)) (g:Nat): (l.take g).flatten.length≤l.flatten.length:=by
 conv=>rhs;rw[←List.take_append_drop g l,List.flatten_append,List.length_append]
 omega
theorem kL_ (b:Nat) (X:za_) (l:List UInt8) (x:Value) (b2 off:Nat) (ls:List (List UInt8)) (arr:Array Value) (E:TypeId) (fz:Nat×Nat) (w:World) (hB:BldAt b l X) (hX: ∀p,p∈X→w.heap[p.1]? =some p.2) (hn: (keys X).Nodup)
  (hS:StrS w x ls b2 off arr E fz) (hne:0<ls.length→b2∉keys X) (hl:l.length+ls.flatten.length<34359738368) (hls:ls.length<34359738368):
  Rets Tryd.prog 40 #[vp b 0,x] w (XS w X (fun v D=>v= .tuple #[]∧BldAt b (l++ls.flatten) D)):=by
 refine Rets.enterX Tryd.func40 rfl (rs:= []) Tryd.results40 Tryd.ntmps40 hX hn ?_
 refine kf ?_
 ((try with_reducible refine Cw.go [] ?_);(try simp(disch:=(first|assumption|omega| (simp only[xN_,xT_,UInt64.reduceToNat];try omega))) only[↓Sx.S0,Sx.S1,Tryd.fx,jI_,Nat.reduceAdd,Nat.reducePow,Int.reducePow,Nat.reduceBEq, ↓reduceIte,UInt8.reduceToNat,UInt16.reduceToNat,UInt32.reduceToNat,UInt64.reduceToNat,Int.reduceToNat,hS.len]))
 refine Cw.loopG (G:=WG) [11,12,13,5,14,15,16,17,18,19,10] (fun g=> [(10,vi g.g)]) (fun g=>g.D) (fun g=>g.g≤ls.length∧Ext w X g.D∧BldAt b (l++ (ls.take g.g).flatten) g.D) (fun g=>ls.length - g.g) ⟨0,X⟩ rfl rfl ?_ ?_
 ·exact⟨by simp,Ext.refl _ _,by simpa using hB⟩
 intro g j hg
 refine kv ?_
 obtain⟨g,D⟩:=g
 simp only at hg ⊢
 obtain⟨hgL,hE,hBD⟩:=hg
 by_cases hlt:g<ls.length
 ·have hlg:=hS.get g hlt
  have hrd:=hE.old (hS.has (by omega)) (hne (by omega))
  ((try with_reducible refine Cw.go [] ?_);(try simp(disch:=(first|assumption|omega| (simp only[xN_,xT_,UInt64.reduceToNat];try omega))) only[↓Sx.S0,Sx.S1,Tryd.fx,jI_,Nat.reduceAdd,Nat.reducePow,Int.reducePow,Nat.reduceBEq, ↓reduceIte,UInt8.reduceToNat,UInt16.reduceToNat,UInt32.reduceToNat,UInt64.reduceToNat,Int.reduceToNat,Sx.loadV_one,hrd,hlg,hS.idx]))
  have hfl:=Q9_ ls g hlt
  have hfle:=KK_ ls (g+1)
  have hfl2:=congrArg List.length hfl
  rw[List.length_append] at hfl2
  refine Ow.callX (Y:= []) (by simp) rfl rfl Tryd.call62 (fun w' hw' hX hn=>Zr_ b D _ (ls.getD g []) w' hBD hX hn (by rw[List.length_append];omega)) (fun v2 D2 hC hS2=> ?_)
  rw[List.append_nil]
  obtain⟨rfl,hB2⟩:=hS2
  refine ko @jI_ ?_
  first|with_reducible refine ks [] @jI_ ?_|refine kp @jI_ ?_
  refine Again.mk (WG.mk (g+1) D2) (by show ls.length - (g+1)<ls.length - g;omega) ⟨by show g+1≤ls.length;omega,hE.came0 hC, ?_⟩ rfl rfl
  show BldAt b (l++ (ls.take (g+1)).flatten) D2
  rw[hfl,←List.append_assoc]
  exact hB2
 ·obtain rfl:g=ls.length:=by omega
  first|with_reducible refine ks [] @jI_ ?_|refine kp @jI_ ?_
  refine⟨_,(ke @jI_), ?_⟩
  rw[List.take_length] at hBD
  exact⟨hE,rfl,hBD⟩
def maxN:Int:=1099511627775
def z9_ (n:Nat):List UInt8:=if h:n<128 then [UInt8.ofNat n] else UInt8.ofNat (n%128+128)::z9_ (n / 128)
termination_by n
decreasing_by omega
def zP_ (n:Int):Nat:=(if(if maxN<n then maxN else n)>0 then(if maxN<n then maxN else n) else 0).toNat
def jR_ (l:List Int):List UInt8:=(l.map fun n=>z9_ (zP_ n)).flatten
theorem k5_ {n:Nat} (h:n<128):z9_ n= [UInt8.ofNat n]:=by rw[z9_];simp[h]
theorem ZA_ {n:Nat} (h: ¬n<128):z9_ n=UInt8.ofNat (n%128+128)::z9_ (n / 128):=by rw[z9_];simp[h]
theorem vK_: ∀ (k n:Nat),n<128^k→0<k→(z9_ n).length≤k
 |0,n,h,h0=>absurd h0 (by omega)
 |k+1,n,h,_=>by
  by_cases hn:n<128
  ·rw[k5_ hn];simp
  ·rw[ZA_ hn]
   have hk:0<k:=by
    rcases Nat.eq_zero_or_pos k with rfl|hk
    ·simp at h;omega
    ·exact hk
   have:=vK_ k (n / 128) (by rw[Nat.pow_succ] at h;omega) hk
   simp only[List.length_cons];omega
theorem K7_ (n:Int):zP_ n<1099511627776:=by unfold zP_ maxN;split<;>split at* <;>omega
theorem zm_ (n:Int): (z9_ (zP_ n)).length≤6:=vK_ 6 _ (by have:=K7_ n;omega) (by omega)
theorem ajQ_: ∀b:BitVec 8,b.toNat<128→(b|||128#8)=b+128#8:=by decide
theorem abF_ (m:Nat):UInt8.ofInt (m:Int)=UInt8.ofNat m:=by
 apply UInt8.toBitVec_inj.1
 apply BitVec.eq_of_toNat_eq
 simp[UInt8.ofInt,UInt8.ofNat]
 omega
theorem aiK_ (m:Nat):UInt8.ofInt ((m:Int)%128) |||128=UInt8.ofNat (m%128+128):=by
 rw[show((m:Int)%128)=((m%128:Nat):Int) by omega,abF_]
 apply UInt8.toBitVec_inj.1
 have h:=ajQ_ (BitVec.ofNat 8 (m%128)) (by simp[BitVec.toNat_ofNat];omega)
 have h1: (UInt8.ofNat (m%128) |||128).toBitVec=BitVec.ofNat 8 (m%128) |||128#8:=rfl
 rw[h1,h]
 apply BitVec.eq_of_toNat_eq
 simp[UInt8.ofNat]
structure NG where
 m:Nat
 pre:List UInt8
 D:za_
theorem qM_ (b:Nat) (X:za_) (l:List UInt8) (x:Value) (b2 off:Nat) (ls:List Int) (arr:Array Value) (E:TypeId) (fz:Nat×Nat) (w:World) (hB:BldAt b l X) (hX: ∀p,p∈X→w.heap[p.1]? =some p.2) (hn: (keys X).Nodup)
  (hS:OneS vi 0 w x ls b2 off arr E fz) (hne:0<ls.length→b2∉keys X) (hl:l.length+ls.length*6<34359738368):
  Rets Tryd.prog 41 #[vp b 0,x] w (XS w X (fun v D=>v= .tuple #[]∧BldAt b (l++jR_ ls) D)):=by
 refine Rets.enterX Tryd.func41 rfl (rs:= []) Tryd.results41 Tryd.ntmps41 hX hn ?_
 refine kf ?_
 ((try with_reducible refine Cw.go [] ?_);(try simp(disch:=(first|assumption|omega| (simp only[xN_,xT_,UInt64.reduceToNat];try omega))) only[↓Sx.S0,Sx.S1,Tryd.fx,jI_,Nat.reduceAdd,Nat.reducePow,Int.reducePow,Nat.reduceBEq, ↓reduceIte,UInt8.reduceToNat,UInt16.reduceToNat,UInt32.reduceToNat,UInt64.reduceToNat,Int.reduceToNat,hS.len]))
 refine Cw.loopG (G:=WG) [11,12,13,5,14,15,16,17,18,21,22,23,24,25,26,27,28,19,20,29,30,31,32,33,34,35,10] (fun g=> [(10,vi g.g)]) (fun g=>g.D) (fun g=>g.g≤ls.length∧Ext w X g.D∧BldAt b (l++jR_ (ls.take g.g)) g.D) (fun g=>ls.length - g.g) ⟨0,X⟩ rfl rfl ?_ ?_
 ·exact⟨by simp,Ext.refl _ _,by simpa [jR_] using hB⟩
 intro g j hg
 refine kv ?_
 obtain⟨g,D⟩:=g
 simp only at hg ⊢
 obtain⟨hgL,hE,hBD⟩:=hg
 by_cases hlt:g<ls.length
 ·have hlg:=hS.get g hlt
  have hrd:=hE.old (hS.has (by omega)) (hne (by omega))
  ((try with_reducible refine Cw.go [] ?_);(try simp(disch:=(first|assumption|omega| (simp only[xN_,xT_,UInt64.reduceToNat];try omega))) only[↓Sx.S0,Sx.S1,Tryd.fx,jI_,Nat.reduceAdd,Nat.reducePow,Int.reducePow,Nat.reduceBEq, ↓reduceIte,UInt8.reduceToNat,UInt16.reduceToNat,UInt32.reduceToNat,UInt64.reduceToNat,Int.reduceToNat,Sx.loadV_one,hrd,hlg,hS.idx]))
  refine Ow.minI rfl rfl rfl ?_
  refine Ow.maxI rfl rfl rfl ?_
  have hcl: (if(if maxN<ls.getD g 0 then maxN else ls.getD g 0)>0 then(if maxN<ls.getD g 0 then maxN else ls.getD g 0) else 0)=(zP_ (ls.getD g 0):Int):=by
   unfold zP_;omega
  have hcl': (if(if 1099511627775<ls.getD g 0 then 1099511627775 else ls.getD g 0)>0 then(if 1099511627775<ls.getD g 0 then 1099511627775 else ls.getD g 0) else 0)=(zP_ (ls.getD g 0):Int):=hcl
  rw[hcl']
  have hcb:=K7_ (ls.getD g 0)
  have hpl: (jR_ (ls.take g)).length≤g*6:=by
   unfold jR_
   rw[List.length_flatten,List.map_map]
   have: ∀ (q:List Int),(q.map (List.length∘fun n=>z9_ (zP_ n))).sum≤q.length*6:=by
    intro q
    induction q with
    |nil=>simp
    |cons y r ih=>have:=zm_ y;simp only[List.map_cons,List.sum_cons,List.length_cons,Function.comp];omega
   have h2:=this (ls.take g)
   rw[List.length_take] at h2
   have:min g ls.length*6≤g*6:=Nat.mul_le_mul_right _ (Nat.min_le_left _ _)
   omega
  have hnl:=zm_ (ls.getD g 0)
  have hsucc:jR_ (ls.take (g+1))=jR_ (ls.take g)++z9_ (zP_ (ls.getD g 0)):=by
   unfold jR_
   rw[List.take_succ_eq_append_getElem hlt,List.map_append,List.flatten_append,List.getD_eq_getElem?_getD,List.getElem?_eq_getElem hlt]
   simp only[List.map_cons,List.map_nil,List.flatten_cons,List.flatten_nil,List.append_nil,Option.getD_some]
  generalize zP_ (ls.getD g 0)=m0 at*
  refine ko @jI_ ?_
  first|with_reducible refine ks [] @jI_ ?_|refine kp @jI_ ?_
  refine Cw.loopG (G:=NG) [17,18,21,22,23,24,25,26,27,28,19,20,5] (fun q=> [(5,vi q.m)]) (fun q=>q.D) (fun q=>q.m≤m0∧Ext w X q.D∧z9_ m0=q.pre++z9_ q.m∧BldAt b (l++jR_ (ls.take g)++q.pre) q.D) (fun q=>q.m) ⟨m0,[],D⟩ rfl rfl ?_ ?_
  ·exact⟨Nat.le_refl _,hE,rfl,by rwa [List.append_nil]⟩
  intro q jq hq
  refine kv ?_
  obtain⟨m,pre,D1⟩:=q
  simp only at hq ⊢
  obtain⟨hqm,hE1,hpre,hB1⟩:=hq
  have hpl2:=congrArg List.length hpre
  rw[List.length_append] at hpl2
  by_cases hm:m<128
  ·first|with_reducible refine ks [] @jI_ ?_|refine kp @jI_ ?_
   rw[k5_ hm] at hpre hpl2
   have hlen: (l++jR_ (ls.take g)++pre).length+1<34359738368:=by
    rw[List.length_append,List.length_append]
    simp only[List.length_cons,List.length_nil] at hpl2
    omega
   refine Ow.callX (Y:= []) (by simp) rfl rfl Tryd.call63 (fun w' hw' hX hn=>vv_ b D1 _ _ w' hB1 hX hn (by omega)) (fun v2 D2 hC hS2=> ?_)
   rw[List.append_nil]
   obtain⟨rfl,hB2⟩:=hS2
   rw[abF_] at hB2
   refine ko @jI_ ?_
   first|with_reducible refine ks [] @jI_ ?_|refine kp @jI_ ?_
   refine Again.mk (WG.mk (g+1) D2) (by show ls.length - (g+1)<ls.length - g;omega) ⟨by show g+1≤ls.length;omega,hE1.came0 hC, ?_⟩ rfl rfl
   show BldAt b (l++jR_ (ls.take (g+1))) D2
   rw[hsucc,hpre,←List.append_assoc,←List.append_assoc]
   exact hB2
  ·first|with_reducible refine ks [] @jI_ ?_|refine kp @jI_ ?_
   rw[ZA_ hm] at hpre hpl2
   have hlen: (l++jR_ (ls.take g)++pre).length+1<34359738368:=by
    rw[List.length_append,List.length_append]
    simp only[List.length_cons] at hpl2
    omega
   refine Ow.callX (Y:= []) (by simp) rfl rfl Tryd.call63 (fun w' hw' hX hn=>vv_ b D1 _ _ w' hB1 hX hn (by omega)) (fun v2 D2 hC hS2=> ?_)
   rw[List.append_nil]
   obtain⟨rfl,hB2⟩:=hS2
   rw[aiK_] at hB2
   refine ko @jI_ ?_
   first|with_reducible refine ks [] @jI_ ?_|refine kp @jI_ ?_
   refine Again.mk (NG.mk (m / 128) (pre++ [UInt8.ofNat (m%128+128)]) D2) (by show m / 128<m;omega) ⟨by show m / 128≤m0;omega,hE1.came0 hC, ?_, ?_⟩ rfl rfl
   ·show z9_ m0=pre++ [UInt8.ofNat (m%128+128)]++z9_ (m / 128)
    rw[hpre];simp
   ·show BldAt b (l++jR_ (ls.take g)++ (pre++ [UInt8.ofNat (m%128+128)])) D2
    rw[←List.append_assoc]
    exact hB2
 ·obtain rfl:g=ls.length:=by omega
  first|with_reducible refine ks [] @jI_ ?_|refine kp @jI_ ?_
  refine⟨_,(ke @jI_), ?_⟩
  rw[List.take_length] at hBD
  exact⟨hE,rfl,hBD⟩
end Go.Proofs
end
section
open Go Go.Proofs Go.Sx
namespace Go.Proofs
set_option maxRecDepth 10000
set_option maxHeartbeats 1000000
set_option linter.unusedSimpArgs false
set_option linter.defProp false
def q8_:=And.intro (And.intro (@Qx_) (@QJ_)) (And.intro (@nilW) (And.intro (@ad3_) (@QK_)))
theorem BldAt.app {b:Nat} {l:List UInt8} {X Y:za_} (h:BldAt b l X):BldAt b l (X++Y):=by
 obtain⟨p,v,h1,h2,h3,h4⟩:=h
 exact⟨p,v,jA_ h1,h2,h3.app,h4⟩
def j7_ (s:List UInt8):List UInt8:=z9_ (zP_ s.length)++s
def xV_ (ls:List (List UInt8)):List UInt8:=(ls.map j7_).flatten
theorem vY_ (n:Int):jR_ [n]=z9_ (zP_ n):=by simp[jR_]
theorem aay_ (ls:List (List UInt8)) (g:Nat) (h:g<ls.length):xV_ (ls.take (g+1))=xV_ (ls.take g)++j7_ (ls.getD g []):=by
 unfold xV_
 rw[List.take_succ_eq_append_getElem h,List.map_append,List.flatten_append,List.getD_eq_getElem?_getD,List.getElem?_eq_getElem h]
 simp only[List.map_cons,List.map_nil,List.flatten_cons,List.flatten_nil,List.append_nil,Option.getD_some]
theorem Jo_ (ls:List (List UInt8)) (g:Nat): (xV_ (ls.take g)).length≤ (xV_ ls).length:=by
 conv=>rhs;rw[←List.take_append_drop g ls]
 unfold xV_
 rw[List.map_append,List.flatten_append,List.length_append];omega
theorem ab1_ (b:Nat) (X:za_) (l:List UInt8) (x:Value) (b2 off:Nat) (ls:List (List UInt8)) (arr:Array Value) (E:TypeId) (fz:Nat×Nat) (w:World) (hB:BldAt b l X) (hX: ∀p,p∈X→w.heap[p.1]? =some p.2) (hn: (keys X).Nodup)
  (hS:StrS w x ls b2 off arr E fz) (hne:0<ls.length→b2∉keys X) (hl:l.length+ (xV_ ls).length<17179869184) (hls:ls.length<17179869184):
  Rets Tryd.prog 56 #[vp b 0,x] w (XS w X (fun v D=>v= .tuple #[]∧BldAt b (l++xV_ ls) D)):=by
 refine Rets.enterX Tryd.func56 rfl (rs:= []) Tryd.results56 Tryd.ntmps56 hX hn ?_
 refine kf ?_
 ((try with_reducible refine Cw.go [] ?_);(try simp(disch:=(first|assumption|omega| (simp only[xN_,xT_,UInt64.reduceToNat];try omega))) only[↓Sx.S0,Sx.S1,Tryd.fx,q8_,Nat.reduceAdd,Nat.reducePow,Int.reducePow,Nat.reduceBEq, ↓reduceIte,UInt8.reduceToNat,UInt16.reduceToNat,UInt32.reduceToNat,UInt64.reduceToNat,Int.reduceToNat,hS.len]))
 refine Cw.loopG (G:=WG) [9,10,11,5,12,13,14,15,16,17,18,19,20,21,8] (fun g=> [(8,vi g.g)]) (fun g=>g.D) (fun g=>g.g≤ls.length∧Ext w X g.D∧BldAt b (l++xV_ (ls.take g.g)) g.D) (fun g=>ls.length - g.g) ⟨0,X⟩ rfl rfl ?_ ?_
 ·exact⟨by simp,Ext.refl _ _,by simpa [xV_] using hB⟩
 intro g j hg
 refine kv ?_
 obtain⟨g,D⟩:=g
 simp only at hg ⊢
 obtain⟨hgL,hE,hBD⟩:=hg
 by_cases hlt:g<ls.length
 ·have hlg:=hS.get g hlt
  have hrd:=hE.old (hS.has (by omega)) (hne (by omega))
  have hsu:=aay_ ls g hlt
  have hle:=Jo_ ls (g+1)
  have hsl:=congrArg List.length hsu
  rw[List.length_append] at hsl
  have htl: (j7_ (ls.getD g [])).length=(z9_ (zP_ (ls.getD g []).length)).length+ (ls.getD g []).length:=by unfold j7_;rw[List.length_append]
  ((try with_reducible refine Cw.go [] ?_);(try simp(disch:=(first|assumption|omega| (simp only[xN_,xT_,UInt64.reduceToNat];try omega))) only[↓Sx.S0,Sx.S1,Tryd.fx,q8_,Nat.reduceAdd,Nat.reducePow,Int.reducePow,Nat.reduceBEq, ↓reduceIte,UInt8.reduceToNat,UInt16.reduceToNat,UInt32.reduceToNat,UInt64.reduceToNat,Int.reduceToNat,Sx.loadV_one,hrd,hlg,hS.idx]))
  refine Ow.buildSlice (e:=3) #[vi (ls.getD g []).length] rfl rfl (by kernel_rfl) fun b3 hb3 hw3=> ?_
  refine ko @q8_ ?_
  refine Ow.callX (Y:= [(b3, .cells #[vi (ls.getD g []).length] 3 (0,0))]) (by simp) rfl rfl Tryd.call41 (fun w' hw' hX hn=>qM_ b D _ _ b3 0 [((ls.getD g []).length:Int)] _ _ _ w' hBD hX hn (OneS.lit [((ls.getD g []).length:Int)] rfl rfl (hw'.has _ _ (List.mem_append_right _ List.mem_cons_self))) (fun _ hm=>Nat.lt_irrefl _ (zz_ hb3 hm)) (by rw[List.length_append];simp only[List.length_cons,List.length_nil];omega)) (fun v2 D2 hC hS2=> ?_)
  obtain⟨rfl,hB2⟩:=hS2
  have hE2:=(hE.app (o:= .cells #[vi (ls.getD g []).length] 3 (0,0)) hw3).came hC
  rw[vY_] at hB2
  have hB3:=BldAt.app (Y:= [(b3, .cells #[vi (ls.getD g []).length] 3 (0,0))]) hB2
  generalize D2++ [(b3,Obj.cells #[vi (ls.getD g []).length] 3 (0,0))]=D3 at*
  refine ko @q8_ ?_
  first|with_reducible refine ks [] @q8_ ?_|refine kp @q8_ ?_
  refine Ow.buildSlice (e:=9) #[vs (ls.getD g [])] rfl rfl (by kernel_rfl) fun b4 hb4 hw4=> ?_
  refine ko @q8_ ?_
  refine Ow.callX (Y:= [(b4, .cells #[vs (ls.getD g [])] 9 (0,0))]) (by simp) rfl rfl Tryd.call40 (fun w' hw' hX hn=>kL_ b D3 _ _ b4 0 [ls.getD g []] _ _ _ w' hB3 hX hn (StrS.lit [ls.getD g []] rfl rfl (hw'.has _ _ (List.mem_append_right _ List.mem_cons_self))) (fun _ hm=>Nat.lt_irrefl _ (zz_ hb4 hm)) (by rw[List.length_append,List.length_append];simp only[List.flatten_cons,List.flatten_nil,List.append_nil];omega) (by simp)) (fun v4 D4 hC4 hS4=> ?_)
  obtain⟨rfl,hB4⟩:=hS4
  have hE4:=(hE2.app (o:= .cells #[vs (ls.getD g [])] 9 (0,0)) hw4).came hC4
  have hB5:=BldAt.app (Y:= [(b4, .cells #[vs (ls.getD g [])] 9 (0,0))]) hB4
  generalize D4++ [(b4,Obj.cells #[vs (ls.getD g [])] 9 (0,0))]=D5 at*
  refine ko @q8_ ?_
  first|with_reducible refine ks [] @q8_ ?_|refine kp @q8_ ?_
  refine Again.mk (WG.mk (g+1) D5) (by show ls.length - (g+1)<ls.length - g;omega) ⟨by show g+1≤ls.length;omega,hE4, ?_⟩ rfl rfl
  show BldAt b (l++xV_ (ls.take (g+1))) D5
  rw[hsu]
  simpa [j7_] using hB5
 ·obtain rfl:g=ls.length:=by omega
  first|with_reducible refine ks [] @q8_ ?_|refine kp @q8_ ?_
  refine⟨_,(ke @q8_), ?_⟩
  rw[List.take_length] at hBD
  exact⟨hE,rfl,hBD⟩
def idC (id:List UInt8):List Value:=id.map v8
structure IdL where
 l:List UInt8
 h:l.length=32
def idLC (x:IdL):List Value:=x.l.map v8
def id0:IdL:=⟨List.replicate 32 0,by simp⟩
theorem agO_ (x:IdL): (idLC x).length=32:=by simp[idLC,x.h]
theorem adY_ (x:IdL): (idLC x).toArray=a8 x.l:=rfl
def idsL (ls:List IdL):List UInt8:=(ls.map IdL.l).flatten
theorem aew_ (ls:List IdL) (g:Nat) (h:g<ls.length):idsL (ls.take (g+1))=idsL (ls.take g)++ (ls.getD g id0).l:=by
 unfold idsL
 rw[List.take_succ_eq_append_getElem h,List.map_append,List.flatten_append,List.getD_eq_getElem?_getD,List.getElem?_eq_getElem h]
 simp only[List.map_cons,List.map_nil,List.flatten_cons,List.flatten_nil,List.append_nil,Option.getD_some]
theorem ag6_ (ls:List IdL): (idsL ls).length=32*ls.length:=by
 unfold idsL
 induction ls with
 |nil=>rfl
 |cons x r ih=>rw[List.map_cons,List.flatten_cons,List.length_append,ih,x.h,List.length_cons];omega
theorem aa0_ (b:Nat) (X:za_) (l:List UInt8) (x:Value) (b2 off:Nat) (ls:List IdL) (arr:Array Value) (E:TypeId) (fz:Nat×Nat) (w:World) (hB:BldAt b l X) (hX: ∀p,p∈X→w.heap[p.1]? =some p.2) (hn: (keys X).Nodup)
  (hS:RowS 32 idLC id0 w x ls b2 off arr E fz) (hne:0<ls.length→b2∉keys X) (hl:l.length+32*ls.length<17179869184):
  Rets Tryd.prog 42 #[vp b 0,x] w (XS w X (fun v D=>v= .tuple #[]∧BldAt b (l++idsL ls) D)):=by
 refine Rets.enterX Tryd.func42 rfl (rs:= []) Tryd.results42 Tryd.ntmps42 hX hn ?_
 refine kf ?_
 ((try with_reducible refine Cw.go [] ?_);(try simp(disch:=(first|assumption|omega| (simp only[xN_,xT_,UInt64.reduceToNat];try omega))) only[↓Sx.S0,Sx.S1,Tryd.fx,q8_,Nat.reduceAdd,Nat.reducePow,Int.reducePow,Nat.reduceBEq, ↓reduceIte,UInt8.reduceToNat,UInt16.reduceToNat,UInt32.reduceToNat,UInt64.reduceToNat,Int.reduceToNat,hS.len]))
 refine Cw.loopG (G:=WG) [9,10,11,5,12,13,14,15,16,17,8] (fun g=> [(8,vi g.g)]) (fun g=>g.D) (fun g=>g.g≤ls.length∧Ext w X g.D∧BldAt b (l++idsL (ls.take g.g)) g.D) (fun g=>ls.length - g.g) ⟨0,X⟩ rfl rfl ?_ ?_
 ·exact⟨by simp,Ext.refl _ _,by simpa [idsL] using hB⟩
 intro g j hg
 refine kv ?_
 obtain⟨g,D⟩:=g
 simp only at hg ⊢
 obtain⟨hgL,hE,hBD⟩:=hg
 by_cases hlt:g<ls.length
 ·have hrd:=hE.old (hS.has (by omega)) (hne (by omega))
  have hld:=hS.load agO_ (by omega) hlt
  rw[adY_] at hld
  have hsu:=aew_ ls g hlt
  have hil:=(ls.getD g id0).h
  have hll:=ag6_ (ls.take g)
  rw[List.length_take] at hll
  have hmin:min g ls.length≤g:=Nat.min_le_left _ _
  ((try with_reducible refine Cw.go [] ?_);(try simp(disch:=(first|assumption|omega| (simp only[xN_,xT_,UInt64.reduceToNat];try omega))) only[↓Sx.S0,Sx.S1,Tryd.fx,q8_,Nat.reduceAdd,Nat.reducePow,Int.reducePow,Nat.reduceBEq, ↓reduceIte,UInt8.reduceToNat,UInt16.reduceToNat,UInt32.reduceToNat,UInt64.reduceToNat,Int.reduceToNat,hrd,hld,hS.idx]))
  refine Ow.alloc rfl rfl Tryd.zr36 fun b5 hb5 hw5=> ?_
  refine Ow.go rfl ?_
  simp(disch:=(first|assumption|omega| (simp only[xN_,xT_,UInt64.reduceToNat];try omega))) only[↓Sx.S0,Sx.S1,Tryd.fx,q8_,Nat.reduceAdd,Nat.reducePow,Int.reducePow,Nat.reduceBEq, ↓reduceIte,UInt8.reduceToNat,UInt16.reduceToNat,UInt32.reduceToNat,UInt64.reduceToNat,Int.reduceToNat,vp_ hb5,agR_ hb5,adD_]
  have hE5:=hE.app (o:= .cells (a8 (ls.getD g id0).l) 36 (0,0)) hw5
  have hB5:=BldAt.app (Y:= [(b5, .cells (a8 (ls.getD g id0).l) 36 (0,0))]) hBD
  have rd5:zy_ w (D++ [(b5, .cells (a8 (ls.getD g id0).l) 36 (0,0))]) b5=_:=jf_ (vp_ hb5)
  generalize D++ [(b5,Obj.cells (a8 (ls.getD g id0).l) 36 (0,0))]=D5 at*
  first|with_reducible refine ks [] (And.intro @q8_ @rd5) ?_|refine kp (And.intro @q8_ @rd5) ?_
  have e32:List.take 32 (List.drop 0 (ls.getD g id0).l)=(ls.getD g id0).l:=by rw[List.drop_zero,List.take_of_length_le (by omega)]
  rw[e32]
  refine Ow.buildSlice (e:=9) #[vs (ls.getD g id0).l] rfl rfl (by kernel_rfl) fun b6 hb6 hw6=> ?_
  refine ko @q8_ ?_
  refine Ow.callX (Y:= [(b6, .cells #[vs (ls.getD g id0).l] 9 (0,0))]) (by simp) rfl rfl Tryd.call40 (fun w' hw' hX hn=>kL_ b D5 _ _ b6 0 [(ls.getD g id0).l] _ _ _ w' hB5 hX hn (StrS.lit [(ls.getD g id0).l] rfl rfl (hw'.has _ _ (List.mem_append_right _ List.mem_cons_self))) (fun _ hm=>Nat.lt_irrefl _ (zz_ hb6 hm)) (by rw[List.length_append];simp only[List.flatten_cons,List.flatten_nil,List.append_nil];omega) (by simp)) (fun v4 D4 hC4 hS4=> ?_)
  obtain⟨rfl,hB4⟩:=hS4
  have hE4:=(hE5.app (o:= .cells #[vs (ls.getD g id0).l] 9 (0,0)) hw6).came hC4
  have hB6:=BldAt.app (Y:= [(b6, .cells #[vs (ls.getD g id0).l] 9 (0,0))]) hB4
  generalize D4++ [(b6,Obj.cells #[vs (ls.getD g id0).l] 9 (0,0))]=D6 at*
  refine ko @q8_ ?_
  first|with_reducible refine ks [] @q8_ ?_|refine kp @q8_ ?_
  refine Again.mk (WG.mk (g+1) D6) (by show ls.length - (g+1)<ls.length - g;omega) ⟨by show g+1≤ls.length;omega,hE4, ?_⟩ rfl rfl
  show BldAt b (l++idsL (ls.take (g+1))) D6
  rw[hsu]
  simpa using hB6
 ·obtain rfl:g=ls.length:=by omega
  first|with_reducible refine ks [] @q8_ ?_|refine kp @q8_ ?_
  refine⟨_,(ke @q8_), ?_⟩
  rw[List.take_length] at hBD
  exact⟨hE,rfl,hBD⟩
theorem Zh_ (b:Nat) (X:za_) (l:List UInt8) (w:World) (hB:BldAt b l X) (hX: ∀p,p∈X→w.heap[p.1]? =some p.2) (hn: (keys X).Nodup) (hl:l.length<34359738368):
  Rets Tryd.prog 44 #[vp b 0] w (XS w X (fun v _=>v=vs l)):=by
 refine Rets.enterX Tryd.func44 rfl (rs:= [.tmp 2]) Tryd.results44 Tryd.ntmps44 hX hn ?_
 refine kf ?_
 first|with_reducible refine ks [] @q8_ ?_|refine kp @q8_ ?_
 refine Ow.callX (Y:= []) (by simp) rfl rfl Tryd.call65 (fun w' hw' hX hn=>Kz_ b X l w' hB hX hn hl) (fun v2 D2 hC hS2=> ?_)
 subst hS2
 rw[List.append_nil]
 refine ko @q8_ ?_
 first|with_reducible refine ks [] @q8_ ?_|refine kp @q8_ ?_
 refine⟨_,(ke @q8_), ?_⟩
 exact⟨(Ext.refl _ _).came0 hC,rfl⟩
end Go.Proofs
end
section
open Go Go.Proofs Go.Sx
namespace Go.Proofs
set_option maxRecDepth 10000
set_option maxHeartbeats 1000000
set_option linter.unusedSimpArgs false
structure Rd where
 s:List UInt8
 at_:Nat
 err:Nat
def rdC (r:Rd):Array Value:= #[vs r.s,vi r.at_,vi r.err]
theorem j6_ (s:List UInt8) (a e:Int) (E:TypeId) (n:Nat):zn_ (some (false,n)) (some (.cells #[vs s,vi a,vi e] E (0,0))) 0=some (vs s):=(rfl)
theorem j8_ (s:List UInt8) (a e:Int) (E:TypeId) (n:Nat):zn_ (some (false,n)) (some (.cells #[vs s,vi a,vi e] E (0,0))) 1=some (vi a):=(rfl)
theorem jX_ (s:List UInt8) (a e:Int) (E:TypeId) (n:Nat):zn_ (some (false,n)) (some (.cells #[vs s,vi a,vi e] E (0,0))) 2=some (vi e):=(rfl)
theorem jh_ (s:List UInt8) (a e x:Int) (E:TypeId):zl_ (some (false,1)) (some (.cells #[vs s,vi a,vi e] E (0,0))) 1 (vi x)=some (.cells #[vs s,vi x,vi e] E (0,0)):=by
 simp[zl_,x3_,vi,Value.cells,Value.oneCell']
theorem jk_ (s:List UInt8) (a e x:Int) (E:TypeId):zl_ (some (false,1)) (some (.cells #[vs s,vi a,vi e] E (0,0))) 2 (vi x)=some (.cells #[vs s,vi a,vi x] E (0,0)):=by
 simp[zl_,x3_,vi,Value.cells,Value.oneCell']
theorem nilR (b o:Nat):qC_ Tryd.prog .eql 65 (vp b o) (.pointer none)=some (.bool false):=by
 simp[qC_,eqX,qy_,qg_,Tryd.underlying65,vp]
theorem aiG_:qC_ Tryd.prog .eql 65 (.pointer none) (.pointer none)=some (.bool true):=by
 simp[qC_,eqX,qy_,qg_,Tryd.underlying65]
theorem aid_ (b o:Nat):qC_ Tryd.prog .neq 65 (vp b o) (.pointer none)=some (.bool true):=by
 simp[qC_,eqX,qy_,qg_,Tryd.underlying65,vp]
theorem afA_:qC_ Tryd.prog .neq 65 (.pointer none) (.pointer none)=some (.bool false):=by
 simp[qC_,eqX,qy_,qg_,Tryd.underlying65]
set_option linter.defProp false
def zH_:=And.intro (And.intro (And.intro (@j6_) (@j8_)) (And.intro (@jX_) (@jh_))) (And.intro (And.intro (@jk_) (@nilR)) (And.intro (@aiG_) (And.intro (@aid_) (@afA_))))
theorem wu_ (b:Nat) (s:List UInt8) (a e:Int) (w:World) (ho:w.heap[b]? =some (.cells #[vs s,vi a,vi e] 110 (0,0))):
  Rets Tryd.prog 57 #[vp b 0] w (fun v D=>v=vi e∧D= []):=by
 refine Rets.enterV Tryd.func57 rfl (rs:= [.tmp 2]) Tryd.results57 Tryd.ntmps57 ?_
 refine kf ?_
 first|with_reducible refine ks [] (And.intro @zH_ @ho) ?_|refine kp (And.intro @zH_ @ho) ?_
 refine⟨_,(ke @zH_),trivial, ?_⟩
 rfl
theorem afQ_ (b:Nat) (s:List UInt8) (a e:Int) (w:World) (ho:w.heap[b]? =some (.cells #[vs s,vi a,vi e] 110 (0,0))):
  Rets Tryd.prog 59 #[vp b 0] w (fun v D=>v=vi a∧D= []):=by
 refine Rets.enterV Tryd.func59 rfl (rs:= [.tmp 2]) Tryd.results59 Tryd.ntmps59 ?_
 refine kf ?_
 first|with_reducible refine ks [] (And.intro @zH_ @ho) ?_|refine kp (And.intro @zH_ @ho) ?_
 refine⟨_,(ke @zH_),trivial, ?_⟩
 rfl
theorem adi_ (b:Nat) (s:List UInt8) (a e:Int) (w:World) (ho:w.heap[b]? =some (.cells #[vs s,vi a,vi e] 110 (0,0))):
  Rets Tryd.prog 28 #[vp b 0] w (fun v D=>v=vi (if e≠0 then e else if a<s.length then 5 else 0)∧D= []):=by
 refine Rets.enterV Tryd.func28 rfl (rs:= [.tmp 2]) Tryd.results28 Tryd.ntmps28 ?_
 refine kf ?_
 first|with_reducible refine ks [] @zH_ ?_|refine kp @zH_ ?_
 refine Ow.callFV rfl Tryd.call57 (fun w' hw'=>wu_ b s a e w' (by rw[hw'.old b (Array.getElem?_eq_some_iff.1 ho).1 (by simp[keys])];exact ho)) ?_
 refine ko @zH_ ?_
 first|with_reducible refine ks [] @zH_ ?_|refine kp @zH_ ?_
 by_cases he:e=0
 ·first|with_reducible refine ks [] @zH_ ?_|refine kp @zH_ ?_
  refine Cw.regionS [b] [0,1,2,4,5,6,3,7,8,9] [] (by kernel_rfl) (by kernel_rfl) (by kernel_rfl) ?_
  simp only[zj_, ↓zf_, ↓zb_, ↓zp_, ↓zq_,zc_]
  refine kq (And.intro @zH_ @ho) ?_
  try with_reducible refine Ow.nil ?_
  first|with_reducible refine ks [] @zH_ ?_|refine kp @zH_ ?_
  refine cdC.splitp (fun hc=> ?_) (fun hc=> ?_)
  ·first|with_reducible refine ks [] @zH_ ?_|refine kp @zH_ ?_
   refine⟨_,(ke @zH_),trivial, ?_⟩
   simp[hc,he,wv_]
  ·first|with_reducible refine ks [] @zH_ ?_|refine kp @zH_ ?_
   refine⟨_,(ke @zH_),trivial, ?_⟩
   simp[hc,he,wv_]
 ·first|with_reducible refine ks [] @zH_ ?_|refine kp @zH_ ?_
  refine⟨_,(ke @zH_),trivial, ?_⟩
  simp[he,wv_]
theorem jx_ (b:Nat) (s:List UInt8) (a e x y:Int) (w:World) (ho:w.heap[b]? =some (.cells #[vs s,vi a,vi e] 110 (0,0))):
  Rets Tryd.prog 58 #[vp b 0,vi x,vi y] w (fun v D=> ∃o,D= [(b,o)]∧v= .tuple #[]∧o= .cells #[vs s,vi (if e=0 then y else a),vi (if e=0 then x else e)] 110 (0,0)):=by
 refine Rets.enterM Tryd.func58 rfl (rs:= []) Tryd.results58 Tryd.ntmps58 ho ?_
 refine kf ?_
 first|with_reducible refine ks [] @zH_ ?_|refine kp @zH_ ?_
 by_cases he:e=0
 ·first|with_reducible refine ks [] @zH_ ?_|refine kp @zH_ ?_
  refine⟨_,_,_,(ke @zH_),rfl,trivial, ?_⟩
  simp[he,wv_]
 ·first|with_reducible refine ks [] @zH_ ?_|refine kp @zH_ ?_
  refine⟨_,_,_,(ke @zH_),rfl,trivial, ?_⟩
  simp[he,wv_]
def qz_ (s:List UInt8) (a:Nat) (e n:Int):List UInt8×Nat×Int:=
 if e≠0 then([],a,e) else if n<0 then([],a,2) else if(s.length:Int) - a<n then([],a,3) else((s.drop a).take n.toNat,a+n.toNat,0)
theorem ZK_ (b:Nat) (s:List UInt8) (a:Nat) (e n:Int) (w:World) (ha:a≤s.length) (hs:s.length<9223372036854775808) (ho:w.heap[b]? =some (.cells #[vs s,vi a,vi e] 110 (0,0))):
  Rets Tryd.prog 24 #[vp b 0,vi n] w (fun v D=> ∃o,D= [(b,o)]∧v=vs (qz_ s a e n).1∧o= .cells #[vs s,vi (qz_ s a e n).2.1,vi (qz_ s a e n).2.2] 110 (0,0)):=by
 refine Rets.enterM Tryd.func24 rfl (rs:= [.tmp 4]) Tryd.results24 Tryd.ntmps24 ho ?_
 refine kf ?_
 first|with_reducible refine ks [] @zH_ ?_|refine kp @zH_ ?_
 refine Ow.callFV rfl Tryd.call57 (fun w' hw'=>wu_ b s a e w' (hw'.has _ _ List.mem_cons_self)) ?_
 refine ko @zH_ ?_
 first|with_reducible refine ks [] @zH_ ?_|refine kp @zH_ ?_
 unfold qz_
 by_cases he:e=0
 ·subst he
  rw[if_neg (fun h=>h rfl)]
  first|with_reducible refine ks [] @zH_ ?_|refine kp @zH_ ?_
  by_cases hn:n<0
  ·rw[if_pos hn]
   first|with_reducible refine ks [] @zH_ ?_|refine kp @zH_ ?_
   refine Ow.callM rfl rfl Tryd.call58 (by simp[keys]) (fun w' hw'=>jx_ b s a 0 2 a w' (hw'.has _ _ List.mem_cons_self)) ?_
   refine ko @zH_ ?_
   first|with_reducible refine ks [] @zH_ ?_|refine kp @zH_ ?_
   refine⟨_,_,_,(ke @zH_),rfl,trivial, ?_⟩
   exact⟨rfl,rfl⟩
  ·rw[if_neg hn]
   first|with_reducible refine ks [] @zH_ ?_|refine kp @zH_ ?_
   refine Cw.regionS [b] [0,1,2,3,6,7,8,4,5,9,10,11,12] [] (by kernel_rfl) (by kernel_rfl) (by kernel_rfl) ?_
   simp only[zj_, ↓zf_, ↓zb_, ↓zp_, ↓zq_,zc_]
   refine kq @zH_ ?_
   try with_reducible refine Ow.nil ?_
   first|with_reducible refine ks [] @zH_ ?_|refine kp @zH_ ?_
   by_cases hl: (s.length:Int) - a<n
   ·rw[if_pos hl]
    first|with_reducible refine ks [] @zH_ ?_|refine kp @zH_ ?_
    refine Ow.callM rfl rfl Tryd.call58 (by simp[keys]) (fun w' hw'=>jx_ b s a 0 3 a w' (hw'.has _ _ List.mem_cons_self)) ?_
    refine ko @zH_ ?_
    first|with_reducible refine ks [] @zH_ ?_|refine kp @zH_ ?_
    refine⟨_,_,_,(ke @zH_),rfl,trivial, ?_⟩
    exact⟨rfl,rfl⟩
   ·rw[if_neg hl]
    obtain⟨m,rfl⟩: ∃m:Nat,n=(m:Int):=⟨n.toNat,by omega⟩
    first|with_reducible refine ks [] @zH_ ?_|refine kp @zH_ ?_
    refine Cw.regionS [b] [0,1,2,4,5,6,8,9,10,12,3,7,11,13,14,15] [] (by kernel_rfl) (by kernel_rfl) (by kernel_rfl) ?_
    simp only[zj_, ↓zf_, ↓zb_, ↓zp_, ↓zq_,zc_]
    refine kq @zH_ ?_
    try with_reducible refine Ow.nil ?_
    first|with_reducible refine ks [] @zH_ ?_|refine kp @zH_ ?_
    refine⟨_,_,_,(ke @zH_),rfl,trivial, ?_⟩
    refine⟨?_, ?_⟩
    ·simp only[wv_,Int.toNat_natCast]
     rw[List.drop_take,Nat.add_sub_cancel_left]
    ·rw[Int.toNat_natCast,Int.natCast_add]
 ·rw[if_pos he]
  first|with_reducible refine ks [] @zH_ ?_|refine kp @zH_ ?_
  refine⟨_,_,_,(ke @zH_),rfl,trivial, ?_⟩
  exact⟨rfl,rfl⟩
end Go.Proofs
end
section
open Go Go.Proofs Go.Sx
namespace Go.Proofs
set_option maxRecDepth 10000
set_option maxHeartbeats 8000000
set_option linter.unusedSimpArgs false
set_option linter.defProp false
def zx_:=And.intro (And.intro (And.intro (@j6_) (@j8_)) (And.intro (@jX_) (@jh_))) (And.intro (And.intro (@jk_) (@nilR)) (And.intro (@aiG_) (And.intro (@aid_) (@afA_))))
def qJ_ (most:Int):List UInt8→Nat→Nat→Except Nat (Nat×Nat)
 | [],_,_=> .error 3
 |c::r,k,n=>
  if 128≤c.toNat then(if k+1=6 then .error 4 else qJ_ most r (k+1) (n+c.toNat%128*128^k))
  else if c.toNat=0∧0<k then .error 2
  else if n+c.toNat%128*128^k≤1099511627775∧((n+c.toNat%128*128^k:Nat):Int)≤most then .ok (n+c.toNat%128*128^k,k+1)
  else .error 4
def zE_ (s:List UInt8) (a:Nat) (e most:Int):Int×Nat×Int:=
 if e≠0 then(0,a,e) else match qJ_ most (s.drop a) 0 0 with
  | .ok (n,k)=>(n,a+k,0)
  | .error x=>(0,a,x)
theorem WK_ {s:List UInt8} {a:Nat} {e most:Int} {n k:Nat} (he:e=0) (h:qJ_ most (s.drop a) 0 0= .ok (n,k)):zE_ s a e most=((n:Int),a+k,0):=by
 unfold zE_;rw[if_neg (by simp[he]),h]
theorem v9_ {s:List UInt8} {a:Nat} {e most:Int} {x:Nat} (he:e=0) (h:qJ_ most (s.drop a) 0 0= .error x):zE_ s a e most=(0,a,(x:Int)):=by
 unfold zE_;rw[if_neg (by simp[he]),h]
structure NumS where
 more:Bool
 k:Nat
 n:Nat
 x:Nat
theorem Zl_ (b:Nat) (s:List UInt8) (a:Nat) (e most:Int) (w:World) (ha:a≤s.length) (hs:s.length<9223372036854775808) (ho:w.heap[b]? =some (.cells #[vs s,vi a,vi e] 110 (0,0))):
  Rets Tryd.prog 25 #[vp b 0,vi most] w (fun v D=> ∃o,D= [(b,o)]∧v=vi (zE_ s a e most).1∧o= .cells #[vs s,vi (zE_ s a e most).2.1,vi (zE_ s a e most).2.2] 110 (0,0)):=by
 refine Rets.enterM Tryd.func25 rfl (rs:= [.tmp 4]) Tryd.results25 Tryd.ntmps25 ho ?_
 refine kf ?_
 first|with_reducible refine ks [] @zx_ ?_|refine kp @zx_ ?_
 by_cases he:e=0
 ·subst he
  refine Cw.scopeL (G:=NumS) (fun g=>(if g.more then 1 else 0)) [10,11,12,4,5,6,7,13,14,15,16,8,9,17,18,19,20,21,22,23,24,25,26,27,28,29,30,31,32,33,34,35,36,37,38,39,40,41,42,43,44,45,46,47,48,49,50,51,52,53,54,55,56,57,58,59,60,61,62,63,64,65,66,67,68,69,70,71,72,73] (fun g=>(if g.more then [(5,vi g.n),(6,vi (7*g.k:Nat)),(8,vi 3),(9,vi a)] else [(8,vi g.x),(9,vi a)])) (fun g=> [(b, .cells #[vs s,vi (a+g.k:Nat),vi 0] 110 (0,0))]) (fun g=>a+g.k≤s.length∧(if g.more then qJ_ most (s.drop a) 0 0=qJ_ most (s.drop (a+g.k)) g.k g.n∧g.n<128^g.k∧g.k<6 else qJ_ most (s.drop a) 0 0= .error g.x)) (fun g=>(if g.more then 7 - g.k else 0)) ?_ ?_ ?_
  ·intro g
   obtain⟨m,k,n,x⟩:=g
   cases m<;>rfl
  ·intro g j hg
   obtain⟨m,k,n,x⟩:=g
   obtain⟨hk,hg⟩:=hg
   simp only at hk
   cases m with
   |false=>
    simp only[Bool.false_eq_true, ↓reduceIte] at hg ⊢
    simp only[Zo_,Wk_,Bool.or_false,Bool.false_or,Bool.or_true,Bool.true_or,Nat.reduceBEq,beq_self_eq_true, ↓reduceIte,Bool.false_eq_true]
    refine kv ?_
    try with_reducible refine w0_ ?_
    first|with_reducible refine ks [] @zx_ ?_|refine kp @zx_ ?_
    refine Ow.callM rfl rfl Tryd.call58 (by simp[keys]) (fun w' hw'=>jx_ b s _ 0 x a w' (hw'.has _ _ List.mem_cons_self)) ?_
    refine ko @zx_ ?_
    first|with_reducible refine ks [] @zx_ ?_|refine kp @zx_ ?_
    rw[v9_ rfl hg]
    refine⟨_,_,_,(ke @zx_),rfl,trivial, ?_⟩
    simp[wv_]
   |true=>
    simp only[↓reduceIte] at hg ⊢
    obtain⟨hgo,hn,hk6⟩:=hg
    simp only[Zo_,Wk_,Bool.or_false,Bool.false_or,Bool.or_true,Bool.true_or,Nat.reduceBEq,beq_self_eq_true, ↓reduceIte,Bool.false_eq_true]
    refine kv ?_
    try with_reducible refine w0_ ?_
    first|with_reducible refine ks [] @zx_ ?_|refine kp @zx_ ?_
    refine Cw.regionS [b] [0,1,2,4,5,6,3,7,8,9] [] (by kernel_rfl) (by kernel_rfl) (by kernel_rfl) ?_
    simp only[zj_, ↓zf_, ↓zb_, ↓zp_, ↓zq_,zc_]
    refine kq @zx_ ?_
    try with_reducible refine Ow.nil ?_
    by_cases hend:a+k=s.length
    ·first|with_reducible refine ks [] @zx_ ?_|refine kp @zx_ ?_
     refine Jump.mk (NumS.mk false k n 3) rfl (by show 0<7 - k;omega) ⟨hk, ?_⟩ rfl rfl
     show qJ_ most (s.drop a) 0 0= .error 3
     rw[hgo,hend,List.drop_length];rfl
    ·first|with_reducible refine ks [] @zx_ ?_|refine kp @zx_ ?_
     have hak:a+k<s.length:=by omega
     have hdrop:s.drop (a+k)=s.getD (a+k) 0::s.drop (a+k+1):=by
      rw[List.drop_eq_getElem_cons hak,List.getD_eq_getElem?_getD,List.getElem?_eq_getElem hak];rfl
     rw[hdrop] at hgo
     refine Cw.regionS [b] [0,1,2,4,5,6,3,7,8,9] [] (by kernel_rfl) (by kernel_rfl) (by kernel_rfl) ?_
     simp only[zj_, ↓zf_, ↓zb_, ↓zp_, ↓zq_,zc_]
     refine kq @zx_ ?_
     try with_reducible refine Ow.nil ?_
     generalize s.getD (a+k) 0=c at*
     have hp:128^k≤34359738368:=Nat.pow_le_pow_right (by omega) (show k≤5 by omega)
     have hp0:0<128^k:=Nat.pow_pos (by omega)
     have hd: (c%128).toNat=c.toNat%128:=by simp
     have hcl:=c.toNat_lt
     have hdm:c.toNat%128*128^k≤127*128^k:=Nat.mul_le_mul_right _ (by omega)
     have hshl:zh_ .shl (vi ((c.toNat%128:Nat):Int)) (vi ((7*k:Nat):Int))=some (vi ((c.toNat%128*128^k:Nat):Int)):=by
      have h2: (2:Int)^ (7*k)=((128^k:Nat):Int):=by
       rw[Int.pow_mul];push_cast;rfl
      have:=ae9_ ((c.toNat%128:Nat):Int) .i64 (7*k) (by rw[h2];refine⟨by omega,by omega, ?_⟩;rw[←Int.natCast_mul];omega)
      rw[h2,←Int.natCast_mul] at this
      exact this
     have hor:zh_ .or (vi (n:Int)) (vi ((c.toNat%128*128^k:Nat):Int))=some (vi ((n+c.toNat%128*128^k:Nat):Int)):=by
      have:=or_i (n:Int) ((c.toNat%128*128^k:Nat):Int) ⟨by omega,by omega,by omega,by omega⟩
      rw[this]
      congr 3
      rw[Int.toNat_natCast,Int.toNat_natCast,show 128^k=2^ (7*k) by rw[Nat.pow_mul],Nat.mul_comm,Nat.or_comm,←Nat.two_pow_add_eq_or_of_lt (by rw[Nat.pow_mul];exact hn),Nat.add_comm]
     have hlt:n+c.toNat%128*128^k<128^ (k+1):=by rw[Nat.pow_succ];omega
     have hrem:zh_ .rem (v8 c) (v8 128)=some (v8 (c%128)):=J5_ _ _ (by decide)
     first|with_reducible refine ks [] (And.intro @zx_ (And.intro @hrem (And.intro @hd (And.intro @hshl (@hor))))) ?_|refine kp (And.intro @zx_ (And.intro @hrem (And.intro @hd (And.intro @hshl (@hor))))) ?_
     have hle:decide ((128:UInt8)≤c)=decide (128≤c.toNat):=by simp[UInt8.le_iff_toNat_le]
     cases h128:decide ((128:UInt8)≤c)
     ·rw[h128] at hle
      have hc128: ¬128≤c.toNat:=of_decide_eq_false hle.symm
      cases hz: (c==0)
      ·have hc0: ¬ (c.toNat=0∧0<k):=by
        rintro⟨h0,-⟩
        have:c=0:=UInt8.toNat_inj.1 h0
        rw[this] at hz
        exact absurd hz (by decide)
       first|with_reducible refine ks [] (And.intro @zx_ @hz) ?_|refine kp (And.intro @zx_ @hz) ?_
       by_cases hm:n+c.toNat%128*128^k≤1099511627775
       ·have e1:decide (((n+c.toNat%128*128^k:Nat):Int)≤1099511627775)=true:=decide_eq_true (by omega)
        first|with_reducible refine ks [] (And.intro @zx_ @e1) ?_|refine kp (And.intro @zx_ @e1) ?_
        by_cases hmo: ((n+c.toNat%128*128^k:Nat):Int)≤most
        ·first|with_reducible refine ks [] @zx_ ?_|refine kp @zx_ ?_
         rw[WK_ rfl (by rw[hgo,qJ_,if_neg hc128,if_neg hc0,if_pos ⟨hm,hmo⟩])]
         refine⟨_,_,_,(ke @zx_),rfl,trivial, ?_⟩
         exact⟨rfl,rfl⟩
        ·first|with_reducible refine ks [] @zx_ ?_|refine kp @zx_ ?_
         refine Ow.callM rfl rfl Tryd.call58 (by simp[keys]) (fun w' hw'=>jx_ b s _ 0 4 a w' (hw'.has _ _ List.mem_cons_self)) ?_
         refine ko @zx_ ?_
         first|with_reducible refine ks [] @zx_ ?_|refine kp @zx_ ?_
         rw[v9_ (x:=4) rfl (by rw[hgo,qJ_,if_neg hc128,if_neg hc0,if_neg (fun h=>hmo h.2)])]
         refine⟨_,_,_,(ke @zx_),rfl,trivial, ?_⟩
         exact⟨rfl,rfl⟩
       ·have e1:decide (((n+c.toNat%128*128^k:Nat):Int)≤1099511627775)=false:=decide_eq_false (by omega)
        first|with_reducible refine ks [] (And.intro @zx_ @e1) ?_|refine kp (And.intro @zx_ @e1) ?_
        refine Ow.callM rfl rfl Tryd.call58 (by simp[keys]) (fun w' hw'=>jx_ b s _ 0 4 a w' (hw'.has _ _ List.mem_cons_self)) ?_
        refine ko @zx_ ?_
        first|with_reducible refine ks [] @zx_ ?_|refine kp @zx_ ?_
        rw[v9_ (x:=4) rfl (by rw[hgo,qJ_,if_neg hc128,if_neg hc0,if_neg (fun h=>hm h.1)])]
        refine⟨_,_,_,(ke @zx_),rfl,trivial, ?_⟩
        exact⟨rfl,rfl⟩
      ·have hcz:c=0:=eq_of_beq hz
       have hct:c.toNat=0:=by rw[hcz];rfl
       first|with_reducible refine ks [] (And.intro @zx_ @hz) ?_|refine kp (And.intro @zx_ @hz) ?_
       by_cases hk0:0<k
       ·first|with_reducible refine ks [] @zx_ ?_|refine kp @zx_ ?_
        refine Jump.mk (NumS.mk false (k+1) n 2) rfl (by show 0<7 - k;omega) ⟨by show a+ (k+1)≤s.length;omega, ?_⟩ rfl rfl
        show qJ_ most (s.drop a) 0 0= .error 2
        rw[hgo,qJ_,if_neg hc128,if_pos ⟨hct,hk0⟩]
       ·have hc0: ¬ (c.toNat=0∧0<k):=fun h=>hk0 h.2
        first|with_reducible refine ks [] @zx_ ?_|refine kp @zx_ ?_
        by_cases hm:n+c.toNat%128*128^k≤1099511627775
        ·have e1:decide (((n+c.toNat%128*128^k:Nat):Int)≤1099511627775)=true:=decide_eq_true (by omega)
         first|with_reducible refine ks [] (And.intro @zx_ @e1) ?_|refine kp (And.intro @zx_ @e1) ?_
         by_cases hmo: ((n+c.toNat%128*128^k:Nat):Int)≤most
         ·first|with_reducible refine ks [] @zx_ ?_|refine kp @zx_ ?_
          rw[WK_ rfl (by rw[hgo,qJ_,if_neg hc128,if_neg hc0,if_pos ⟨hm,hmo⟩])]
          refine⟨_,_,_,(ke @zx_),rfl,trivial, ?_⟩
          exact⟨rfl,rfl⟩
         ·first|with_reducible refine ks [] @zx_ ?_|refine kp @zx_ ?_
          refine Ow.callM rfl rfl Tryd.call58 (by simp[keys]) (fun w' hw'=>jx_ b s _ 0 4 a w' (hw'.has _ _ List.mem_cons_self)) ?_
          refine ko @zx_ ?_
          first|with_reducible refine ks [] @zx_ ?_|refine kp @zx_ ?_
          rw[v9_ (x:=4) rfl (by rw[hgo,qJ_,if_neg hc128,if_neg hc0,if_neg (fun h=>hmo h.2)])]
          refine⟨_,_,_,(ke @zx_),rfl,trivial, ?_⟩
          exact⟨rfl,rfl⟩
        ·have e1:decide (((n+c.toNat%128*128^k:Nat):Int)≤1099511627775)=false:=decide_eq_false (by omega)
         first|with_reducible refine ks [] (And.intro @zx_ @e1) ?_|refine kp (And.intro @zx_ @e1) ?_
         refine Ow.callM rfl rfl Tryd.call58 (by simp[keys]) (fun w' hw'=>jx_ b s _ 0 4 a w' (hw'.has _ _ List.mem_cons_self)) ?_
         refine ko @zx_ ?_
         first|with_reducible refine ks [] @zx_ ?_|refine kp @zx_ ?_
         rw[v9_ (x:=4) rfl (by rw[hgo,qJ_,if_neg hc128,if_neg hc0,if_neg (fun h=>hm h.1)])]
         refine⟨_,_,_,(ke @zx_),rfl,trivial, ?_⟩
         exact⟨rfl,rfl⟩
     ·rw[h128] at hle
      have hc128:128≤c.toNat:=of_decide_eq_true hle.symm
      first|with_reducible refine ks [] @zx_ ?_|refine kp @zx_ ?_
      by_cases hk5:k=5
      ·first|with_reducible refine ks [] @zx_ ?_|refine kp @zx_ ?_
       refine Jump.mk (NumS.mk false (k+1) n 4) rfl (by show 0<7 - k;omega) ⟨by show a+ (k+1)≤s.length;omega, ?_⟩ rfl rfl
       show qJ_ most (s.drop a) 0 0= .error 4
       rw[hgo,qJ_,if_pos hc128,if_pos (by omega)]
      ·first|with_reducible refine ks [] @zx_ ?_|refine kp @zx_ ?_
       refine Jump.mk (NumS.mk true (k+1) (n+c.toNat%128*128^k) 0) rfl (by show 7 - (k+1)<7 - k;omega) ⟨by show a+ (k+1)≤s.length;omega, ?_⟩ rfl rfl
       show qJ_ most (s.drop a) 0 0=qJ_ most (s.drop (a+ (k+1))) (k+1) (n+c.toNat%128*128^k)∧n+c.toNat%128*128^k<128^ (k+1)∧k+1<6
       refine⟨?_,hlt,by omega⟩
       rw[hgo,qJ_,if_pos hc128,if_neg (by omega)]
       rfl
  ·intro key
   have key0:=fun f'=>key (NumS.mk true 0 0 0) f'
   simp only[Zo_,Wk_,Bool.or_false,Bool.false_or,Bool.or_true,Bool.true_or,Nat.reduceBEq,beq_self_eq_true, ↓reduceIte,Bool.false_eq_true] at key0
   clear key
   repeat ((try with_reducible refine Cw.go [999999] ?_);(simp(disch:=(first|assumption|omega| (simp only[xN_,xT_,UInt64.reduceToNat];try omega))) only[↓Sx.S0,Sx.S1,Tryd.fx,zx_,Nat.reduceAdd,Nat.reducePow,Int.reducePow,Nat.reduceBEq, ↓reduceIte,UInt8.reduceToNat,UInt16.reduceToNat,UInt32.reduceToNat,UInt64.reduceToNat,Int.reduceToNat]))
   refine Ow.callFV rfl Tryd.call57 (fun w' hw'=>wu_ b s a 0 w' (hw'.has _ _ List.mem_cons_self)) ?_
   refine ko @zx_ ?_
   repeat ((try with_reducible refine Cw.go [999999] ?_);(simp(disch:=(first|assumption|omega| (simp only[xN_,xT_,UInt64.reduceToNat];try omega))) only[↓Sx.S0,Sx.S1,Tryd.fx,zx_,Nat.reduceAdd,Nat.reducePow,Int.reducePow,Nat.reduceBEq, ↓reduceIte,UInt8.reduceToNat,UInt16.reduceToNat,UInt32.reduceToNat,UInt64.reduceToNat,Int.reduceToNat]))
   repeat ((try with_reducible refine Cw.go [999999] ?_);(simp(disch:=(first|assumption|omega| (simp only[xN_,xT_,UInt64.reduceToNat];try omega))) only[↓Sx.S0,Sx.S1,Tryd.fx,zx_,Nat.reduceAdd,Nat.reducePow,Int.reducePow,Nat.reduceBEq, ↓reduceIte,UInt8.reduceToNat,UInt16.reduceToNat,UInt32.reduceToNat,UInt64.reduceToNat,Int.reduceToNat]))
   refine Cw.regionS [b] [0,1,2,4,3,5] [] (by kernel_rfl) (by kernel_rfl) (by kernel_rfl) ?_
   simp only[zj_, ↓zf_, ↓zb_, ↓zp_, ↓zq_,zc_]
   refine kq @zx_ ?_
   try with_reducible refine Ow.nil ?_
   repeat ((try with_reducible refine Cw.go [999999] ?_);(simp(disch:=(first|assumption|omega| (simp only[xN_,xT_,UInt64.reduceToNat];try omega))) only[↓Sx.S0,Sx.S1,Tryd.fx,zx_,Nat.reduceAdd,Nat.reducePow,Int.reducePow,Nat.reduceBEq, ↓reduceIte,UInt8.reduceToNat,UInt16.reduceToNat,UInt32.reduceToNat,UInt64.reduceToNat,Int.reduceToNat]))
   refine Cw.label ?_
   refine key0 _ ⟨by omega,rfl,by omega,by omega⟩ ?_
   rfl
 ·refine Cw.scopeS ?_
  first|with_reducible refine ks [] @zx_ ?_|refine kp @zx_ ?_
  refine Ow.callFV rfl Tryd.call57 (fun w' hw'=>wu_ b s a e w' (hw'.has _ _ List.mem_cons_self)) ?_
  refine ko @zx_ ?_
  first|with_reducible refine ks [] @zx_ ?_|refine kp @zx_ ?_
  unfold zE_
  refine⟨_,_,_,(ke @zx_),rfl,trivial, ?_⟩
  simp[he,wv_]
end Go.Proofs
end
namespace Go.Sx
open Go
section
variable {P:Program} {w0:World} {f:Fr} {L:za_} {N:Fr→za_→Prop} {ops:Array Oper} {rest:List Oper} {md:Md}
 {d:Option Tmp} {ty:TypeId} {ps:String} {af:Array Edge} {g:Option (Nat×Bool)}
theorem QH_ (l:List UInt8) (k size:Nat) (w:World): (Builtin.firstCells size k (vs l)).run P w= .ok ((l.take k).map v8).toArray w:=by
 simp only[vs,Builtin.firstCells]
 show Result.ok _ w=_
 congr 1
 have: ((ByteArray.mk l.toArray).extract 0 k).data=(l.take k).toArray:=by
  rw[ByteArray.data_extract]
  simp
 rw[this]
 simp
 rfl
theorem ze_ (R:List Nat) (x:UInt8):VT_ R (v8 x)=true:=(rfl)
theorem ve_ (R:List Nat) (x:UInt16):VT_ R (v16 x)=true:=(rfl)
theorem k3_ (R:List Nat) (x:UInt32):VT_ R (v32 x)=true:=(rfl)
theorem k4_ (R:List Nat) (x:UInt64):VT_ R (v64 x)=true:=(rfl)
theorem zd_ (R:List Nat) (x:Int):VT_ R (vi x)=true:=(rfl)
theorem Ow.copyText {td tx e:TypeId} {m:Bool×Nat} {x y:Operand} {b off n c:Nat} {l:List UInt8} {cs:Array Value} {E:TypeId} {md':Md} (he:md.turn=some md')
  (hs:zk_ ops f ⟨d, .call ⟨.builtin .copy, #[x,y], #[td,tx]⟩,ty,ps,af,g⟩=false) (hu:P.underlying td=some (.slice e)) (hm:qr_ P e=some m)
  (hx:ev f x=vsl b off n c) (hy:ev f y=vs l) (hl:look L b=some (.cells cs E (0,0))) (hn:off+n≤cs.size)
  (hO:Ow P w0 ops md' rest (qj_ f d (vi (min l.length n:Nat))) (setB L b (.cells (x3_ cs off ((l.take (min l.length n)).map v8)) E (0,0))) N):
  Ow P w0 ops md (⟨d, .call ⟨.builtin .copy, #[x,y], #[td,tx]⟩,ty,ps,af,g⟩::rest) f L N:=by
 refine Ow.step he rfl hs fun w hw=> ?_
 have hb:=hw.has _ _ (zF_ hl)
 have hlt:=(Array.getElem?_eq_some_iff.1 hb).1
 have hlen: (Builtin.lenOf (vs l)).run P w= .ok l.length w:=by simp only[vs,Builtin.lenOf,wP_];rfl
 have hfc:=QH_ (P:=P) l (min l.length n) m.2 w
 have hst:=jz_ (P:=P) (b:=b) (off:=off) (E:=E) (fz:=(0,0)) ((l.take (min l.length n)).map v8) 0 cs w hb (by
  rw[List.length_map,List.length_take];have:=Nat.min_le_right l.length n;omega) (.inl (Nat.le_refl 0)) (by rw[List.all_map,List.all_eq_true];intro x _;rfl)
 refine .inl ⟨vi (min l.length n:Nat),{w with heap:=w.heap.setIfInBounds b (.cells (x3_ cs off ((l.take (min l.length n)).map v8)) E (0,0))},_, ?_,hw.set (zo_ hl) rfl rfl rfl rfl,hO⟩
 simp only[execOp,resolve,Sem.run_bind,Sem.run_pure,Result.andThen_ok,invoke,builtin,List.map_toArray,List.map_cons,List.map_nil,hx,hy]
 have: (Builtin.copy_ #[td,tx] ty #[vsl b off n c,vs l]).run P w= .ok (vi (min l.length n:Nat)) {w with heap:=w.heap.setIfInBounds b (.cells (x3_ cs off ((l.take (min l.length n)).map v8)) E (0,0))}:=by
  simp only[Builtin.copy_,vsl,List.getElem?_toArray,List.getElem?_cons_zero,List.getElem?_cons_succ,Sem.run_bind,run_underlying hu w,Result.andThen_ok,hlen,zt_ hm w]
  rw[show l.length.min n=min l.length n from rfl,hfc]
  simp only[Result.andThen_ok]
  rw[hst]
  rfl
 rw[this]
 rfl
end
end Go.Sx
section
open Go Go.Proofs Go.Sx
namespace Go.Proofs
set_option maxRecDepth 10000
set_option maxHeartbeats 2000000
set_option linter.unusedSimpArgs false
set_option linter.defProp false
def qD_:=And.intro (And.intro (And.intro (@j6_) (@j8_)) (And.intro (@jX_) (@jh_))) (And.intro (And.intro (@jk_) (@nilR)) (And.intro (@aiG_) (And.intro (@aid_) (@afA_))))
theorem X9_ (most:Int): ∀ (l:List UInt8) (k n m k':Nat),qJ_ most l k n= .ok (m,k')→k<k'∧k'≤k+l.length
 | [],k,n,m,k',h=>by cases h
 |c::r,k,n,m,k',h=>by
  unfold qJ_ at h
  split at h
  ·split at h
   ·cases h
   ·have:=X9_ most r (k+1) _ m k' h
    simp only[List.length_cons];omega
  ·split at h
   ·cases h
   ·split at h
    ·cases h;simp only[List.length_cons];omega
    ·cases h
theorem js_ {s:List UInt8} {a:Nat} {e most:Int} (ha:a≤s.length):a≤ (zE_ s a e most).2.1∧(zE_ s a e most).2.1≤s.length:=by
 unfold zE_
 split
 ·exact⟨Nat.le_refl _,ha⟩
 ·cases h:qJ_ most (s.drop a) 0 0 with
  |error x=>exact⟨Nat.le_refl _,ha⟩
  |ok p=>
   obtain⟨n,k⟩:=p
   have:=X9_ most _ _ _ _ _ h
   rw[List.length_drop] at this
   exact⟨by show a≤a+k;omega,by show a+k≤s.length;omega⟩
theorem vz_ {s:List UInt8} {a:Nat} {e n:Int} (ha:a≤s.length):a≤ (qz_ s a e n).2.1∧(qz_ s a e n).2.1≤s.length:=by
 unfold qz_
 split
 ·exact⟨Nat.le_refl _,ha⟩
 ·split
  ·exact⟨Nat.le_refl _,ha⟩
  ·split
   ·exact⟨Nat.le_refl _,ha⟩
   ·exact⟨by show a≤a+n.toNat;omega,by show a+n.toNat≤s.length;omega⟩
def qe_ (s:List UInt8) (a:Nat) (e most:Int):List UInt8×Nat×Int:=
 let p:=zE_ s a e most
 let q:=qz_ s p.2.1 p.2.2 p.1
 if q.2.2≠0 then([],a,q.2.2) else q
theorem acp_ (b:Nat) (s:List UInt8) (a:Nat) (e most:Int) (w:World) (ha:a≤s.length) (hs:s.length<9223372036854775808) (ho:w.heap[b]? =some (.cells #[vs s,vi a,vi e] 110 (0,0))):
  Rets Tryd.prog 26 #[vp b 0,vi most] w (fun v D=> ∃o,D= [(b,o)]∧v=vs (qe_ s a e most).1∧o= .cells #[vs s,vi (qe_ s a e most).2.1,vi (qe_ s a e most).2.2] 110 (0,0)):=by
 refine Rets.enterM Tryd.func26 rfl (rs:= [.tmp 4]) Tryd.results26 Tryd.ntmps26 ho ?_
 refine kf ?_
 first|with_reducible refine ks [] @qD_ ?_|refine kp @qD_ ?_
 refine Ow.callFV rfl Tryd.call59 (fun w' hw'=>afQ_ b s a e w' (hw'.has _ _ List.mem_cons_self)) ?_
 refine ko @qD_ ?_
 first|with_reducible refine ks [] @qD_ ?_|refine kp @qD_ ?_
 have hp:=js_ (e:=e) (most:=most) ha
 unfold qe_
 refine Ow.callM rfl rfl Tryd.call25 (by simp[keys]) (fun w' hw'=>Zl_ b s a e most w' ha hs (hw'.has _ _ List.mem_cons_self)) ?_
 generalize zE_ s a e most=p at*
 obtain⟨n,a1,e1⟩:=p
 simp only at hp ⊢
 refine ko @qD_ ?_
 refine Ow.callM rfl rfl Tryd.call24 (by simp[keys]) (fun w' hw'=>ZK_ b s a1 e1 n w' hp.2 hs (hw'.has _ _ List.mem_cons_self)) ?_
 have hq:=vz_ (e:=e1) (n:=n) hp.2
 generalize qz_ s a1 e1 n=q at*
 obtain⟨t,a2,e2⟩:=q
 simp only at hq ⊢
 refine ko @qD_ ?_
 first|with_reducible refine ks [] @qD_ ?_|refine kp @qD_ ?_
 by_cases he:e2=0
 ·first|with_reducible refine ks [] @qD_ ?_|refine kp @qD_ ?_
  refine⟨_,_,_,(ke @qD_),rfl,trivial, ?_⟩
  simp[he,wv_]
 ·first|with_reducible refine ks [] @qD_ ?_|refine kp @qD_ ?_
  refine Ow.minI rfl rfl rfl ?_
  have hmin: (if(a:Int)< (a2:Int) then(a:Int) else(a2:Int))=a:=by split<;>omega
  rw[hmin]
  refine ko @qD_ ?_
  first|with_reducible refine ks [] @qD_ ?_|refine kp @qD_ ?_
  refine⟨_,_,_,(ke @qD_),rfl,trivial, ?_⟩
  simp[he,wv_]
def z32:List UInt8:=List.replicate 32 0
def idR (s:List UInt8) (a:Nat) (e:Int):List UInt8×Nat×Int:=
 let q:=qz_ s a e 32
 (if q.1.length=32 then q.1 else z32,q.2)
theorem af5_ {s:List UInt8} {a:Nat} {e:Int} (_ha:a≤s.length): (qz_ s a e 32).1= []∨(qz_ s a e 32).1.length=32:=by
 unfold qz_
 split
 ·exact .inl rfl
 ·split
  ·exact .inl rfl
  ·split
   ·exact .inl rfl
   ·right
    show((s.drop a).take 32).length=32
    rw[List.length_take,List.length_drop];omega
theorem ai1_ {t:List UInt8} (h:t= []∨t.length=32):x3_ (a8 (List.replicate 32 0)) 0 ((t.take (min t.length 32)).map v8)=a8 (if t.length=32 then t else z32):=by
 rcases h with rfl|h
 ·rfl
 ·rw[if_pos h,h,Nat.min_self,List.take_of_length_le (by omega)]
  have:=abb_ (t.map v8) [] ((List.replicate 32 (0:UInt8)).map v8) (by simp[h])
  simp only[List.nil_append,List.length_nil] at this
  show x3_ ((List.replicate 32 (0:UInt8)).map v8).toArray 0 (t.map v8)=(t.map v8).toArray
  rw[this]
  rw[List.drop_eq_nil_of_le (by simp[h]),List.append_nil]
theorem agH_ (b:Nat) (s:List UInt8) (a:Nat) (e:Int) (w:World) (ha:a≤s.length) (hs:s.length<9223372036854775808) (ho:w.heap[b]? =some (.cells #[vs s,vi a,vi e] 110 (0,0))):
  Rets Tryd.prog 27 #[vp b 0] w (fun v D=> ∃o,D= [(b,o)]∧v= .agg (a8 (idR s a e).1)∧o= .cells #[vs s,vi (idR s a e).2.1,vi (idR s a e).2.2] 110 (0,0)):=by
 have hbl:=(Array.getElem?_eq_some_iff.1 ho).1
 have hq:=af5_ (e:=e) ha
 unfold idR
 refine Rets.enterM Tryd.func27 rfl (rs:= [.cell 2 36]) Tryd.results27 Tryd.ntmps27 ho ?_
 refine kf ?_
 first|with_reducible refine ks [] @qD_ ?_|refine kp @qD_ ?_
 refine Ow.alloc rfl rfl Tryd.zr36 fun b2 hb2 hw2=> ?_
 refine ko @qD_ ?_
 first|with_reducible refine ks [] @qD_ ?_|refine kp @qD_ ?_
 refine Ow.alloc rfl rfl Tryd.zr36 fun b3 hb3 hw3=> ?_
 obtain⟨h13,h23,-⟩:=hb3
 obtain⟨h12,-⟩:=hb2
 refine ko @qD_ ?_
 first|with_reducible refine ks [] @qD_ ?_|refine kp @qD_ ?_
 refine Cw.regionS [] [0,1,2,3] [] (by kernel_rfl) (by kernel_rfl) (by kernel_rfl) ?_
 simp only[zj_, ↓zf_, ↓zb_, ↓zp_, ↓zq_,zc_]
 refine kq @qD_ ?_
 refine Ow.soft rfl rfl rfl ?_
 refine Ow.callM rfl rfl Tryd.call24 (by simp[keys]) (fun w' hw'=>ZK_ b s a e 32 w' ha hs (hw'.has _ _ List.mem_cons_self)) ?_
 generalize qz_ s a e 32=q at*
 obtain⟨t,a2,e2⟩:=q
 simp only at hq ⊢
 try with_reducible refine Ow.nil ?_
 refine⟨fun b hb=>absurd hb (by simp), ?_⟩
 simp(disch:=omega) only[kz_]
 refine Ow.soft rfl rfl rfl ?_
 refine Ow.copyText (cs:=a8 (List.replicate 32 0)) (E:=36) (e:=5) rfl rfl Tryd.underlying84 Tryd.ag5 rfl rfl (by simp(disch:=omega) only[J9_,jg_]) (by rw[Qh_];simp) ?_
 rw[ai1_ hq]
 have hil: (if t.length=32 then t else z32).length=32:=by
  split
  ·assumption
  ·simp[z32]
 generalize (if t.length=32 then t else z32)=id at*
 try with_reducible refine Ow.nil ?_
 refine⟨fun b hb=>absurd hb (by simp), ?_⟩
 simp(disch:=omega) only[kz_,kZ_]
 refine kq @qD_ ?_
 try with_reducible refine Ow.nil ?_
 first|with_reducible refine ks [] @qD_ ?_|refine kp @qD_ ?_
 refine⟨_,_,_,(ke @qD_),rfl,⟨hw2,hw3,trivial⟩, ?_⟩
 exact⟨rfl,rfl⟩
theorem Va_ (s:List UInt8) (w:World):
  Rets Tryd.prog 23 #[vs s] w (fun v D=> ∃b,w.heap.size≤b∧v=vp b 0∧D= [(b, .cells #[vs s,vi 0,vi 0] 110 (0,0))]):=by
 refine Rets.enter Tryd.func23 rfl (rs:= [.tmp 2]) Tryd.results23 Tryd.ntmps23 ?_
 refine kf ?_
 first|with_reducible refine ks [] @qD_ ?_|refine kp @qD_ ?_
 refine Ow.build (.agg #[vs s,vi 0,vi 0]) rfl (by kernel_rfl) ?_
 refine ko @qD_ ?_
 refine Ow.box rfl rfl fun b1 hb1 hw1=> ?_
 refine ko @qD_ ?_
 first|with_reducible refine ks [] @qD_ ?_|refine kp @qD_ ?_
 refine⟨_,(by simp only[k9_,VN_,abk_,jr_,jq_,J4_];rfl),b1,hw1,rfl, ?_⟩
 rfl
end Go.Proofs
end
section
open Go Go.Proofs Go.Sx
namespace Go.Proofs
set_option maxRecDepth 10000
set_option maxHeartbeats 4000000
set_option linter.unusedSimpArgs false
set_option linter.defProp false
def am7_:=And.intro (And.intro (And.intro (@ze_) (@ve_)) (And.intro (@k3_) (And.intro (@k4_) (@zd_)))) (And.intro (And.intro (@j6_) (@j8_)) (And.intro (@jX_) (And.intro (@jh_) (@jk_))))
structure KN where
 k:Nat
 n:Nat
end Go.Proofs
end
section
open Go Go.Proofs Go.Sx
namespace Go.Proofs
set_option maxRecDepth 10000
set_option maxHeartbeats 4000000
set_option linter.unusedSimpArgs false
set_option linter.defProp false
def an4_:=And.intro (And.intro (And.intro (@ze_) (@ve_)) (And.intro (@k3_) (And.intro (@k4_) (@zd_)))) (And.intro (And.intro (@j6_) (@j8_)) (And.intro (@jX_) (And.intro (@jh_) (@jk_))))
def ams_ (t:List UInt8) (g:Nat):List UInt8:=t.take g++List.replicate (32 - g) 0
end Go.Proofs
end
namespace Go.Sx
open Go
section
variable {P:Program} {w0:World} {f:Fr} {L:za_} {N:Fr→za_→Prop} {ops:Array Oper} {rest:List Oper} {md:Md}
 {d:Option Tmp} {ty:TypeId} {ps:String} {af:Array Edge} {g:Option (Nat×Bool)}
def v32i (n:Int):Value:= .int .i32 n
theorem ahf_ (op:BinOp) (t:TypeId) (a b:Int):qC_ P op t (v32i a) (v32i b)=zh_ op (v32i a) (v32i b):=(rfl)
theorem aab_ (a b:Int):zh_ .lss (v32i a) (v32i b)=some (.bool (decide (a<b))):=by simp[zh_,v32i,qY_,we_]
theorem W6_ (a b:Int):zh_ .gtr (v32i a) (v32i b)=some (.bool (decide (b<a))):=by simp[zh_,v32i,qY_,we_]
theorem VX_ (a b:Int):zh_ .eql (v32i a) (v32i b)=some (.bool (a==b)):=by simp[zh_,v32i,qY_,we_]
theorem aiz_ (n:Int):Value.int .i32 n=v32i n:=(rfl)
theorem Ow.callFn1 {x y:Operand} {ts:Array TypeId} {k:FuncId} {v a:Value} (hs:zk_ ops f ⟨d, .call ⟨.value x, #[y],ts⟩,ty,ps,af,g⟩=false) (hx:ev f x= .func (.func k) #[] #[]) (hy:ev f y=a)
  (hk: ∀a w,(callFunc k a).run P w= .ok (.enter k a) w) (hc: ∀w,Hp w0 L w→Rets P k #[a] w (fun v' D=>v'=v∧D= [])) (hn:Ow P w0 ops md.next rest (qj_ f d v) L N):
  Ow P w0 ops md (⟨d, .call ⟨.value x, #[y],ts⟩,ty,ps,af,g⟩::rest) f L N:=
 Ow.callV hs hx hk (fun w hw=>by simpa [hy] using hc w hw) hn
end
end Go.Sx
namespace Go.Sx
open Go
abbrev Vy_:=List (List UInt8×List UInt8)
def fnd (k:List UInt8):Vy_→Nat→Option (Nat×List UInt8)
 | [],_=>none
 |p::r,i=>if k==p.1 then some (i,p.2) else fnd k r (i+1)
def updV (k v:List UInt8):Vy_→Vy_
 | []=> [(k,v)]
 |p::r=>if k==p.1 then(p.1,v)::r else p::updV k v r
def delV (k:List UInt8):Vy_→Vy_
 | []=> []
 |p::r=>if k==p.1 then r else p::delV k r
def vq_ (p:List UInt8×List UInt8):Value×Value:=(vs p.1, .agg (a8 p.2))
def MapR (o:Obj) (m:Vy_):Prop:= ∃es clock,o= .map es clock∧es.toList.map (fun e=>(e.key,e.val))=m.map vq_∧(es.toList.map (·.born)++ [clock]).Pairwise (· < ·)
theorem VG_ {es:List MapEntry} {c:Nat} {e:MapEntry} (h: (es.map (·.born)++ [c]).Pairwise (· < ·)) (he:e.born=c): ((es++ [e]).map (·.born)++ [c+1]).Pairwise (· < ·):=by
 rw[List.map_append,List.map_cons,List.map_nil,he]
 refine List.pairwise_append.2 ⟨h,List.pairwise_singleton _ _, ?_⟩
 intro a ha b hb
 rw[List.mem_singleton] at hb
 subst hb
 rcases List.mem_append.1 ha with hm|hm
 ·have:=(List.pairwise_append.1 h).2.2 a hm c (List.mem_singleton.2 rfl)
  omega
 ·rw[List.mem_singleton] at hm
  omega
theorem ZV_ {es:List MapEntry} {j:Nat} {g:MapEntry→MapEntry} (hg: ∀e,(g e).born=e.born): (es.modify j g).map (·.born)=es.map (·.born):=by
 apply List.ext_getElem?
 intro i
 rw[List.getElem?_map,List.getElem?_map,List.getElem?_modify]
 cases es[i]? with
 |none=>rfl
 |some e=>
  by_cases h:j=i
  ·simp[h,hg]
  ·simp[h]
theorem ahH_ (a b:List UInt8): ((ByteArray.mk a.toArray)==(ByteArray.mk b.toArray))=(a==b):=by
 show(a.toArray==b.toArray)=(a==b)
 simp
theorem JQ_ (k:List UInt8): ∀ (es:List MapEntry) (m:Vy_) (i:Nat),es.map (fun e=>(e.key,e.val))=m.map vq_→
  Instr.findNow .string (vs k) es i=some ((fnd k m i).map fun p=>(p.1, .agg (a8 p.2)))
 | [],[],i,_=>rfl
 | [],_::_,_,h=>by cases h
 |_::_,[],_,h=>by cases h
 |e::es,p::m,i,h=>by
  simp only[List.map_cons,List.cons.injEq,vq_,Prod.mk.injEq] at h
  obtain⟨⟨h1,h2⟩,h3⟩:=h
  unfold Instr.findNow
  have hs:Instr.sameNow .string (vs k) e.key=some (k==p.1):=by
   rw[h1]
   simp only[vs,Instr.sameNow,ahH_]
  rw[hs]
  unfold fnd
  cases hk: (k==p.1)
  ·simp only[Bool.false_eq_true, ↓reduceIte]
   exact JQ_ k es m (i+1) h3
  ·simp[h2]
theorem X8_ (k:List UInt8): ∀ (m:Vy_) (i j:Nat) (v:List UInt8),fnd k m i=some (j,v)→i≤j∧ ∃a,m[j - i]? =some (k,a)∧a=v
 | [],_,_,_,h=>by cases h
 |p::r,i,j,v,h=>by
  unfold fnd at h
  split at h
  ·rename_i hk
   cases h
   refine⟨Nat.le_refl _,p.2, ?_,rfl⟩
   rw[Nat.sub_self,List.getElem?_cons_zero,eq_of_beq hk]
  ·obtain⟨h1,a,h2,h3⟩:=X8_ k r (i+1) j v h
   refine⟨by omega,a, ?_,h3⟩
   rw[show j - i=(j - (i+1))+1 by omega,List.getElem?_cons_succ];exact h2
theorem Vu_ (k v:List UInt8): ∀ (es:List MapEntry) (m:Vy_) (i j:Nat) (a:List UInt8),es.map (fun e=>(e.key,e.val))=m.map vq_→fnd k m i=some (j,a)→
  (es.modify (j - i) fun e=>{e with key:=vs k,val:= .agg (a8 v)}).map (fun e=>(e.key,e.val))=(updV k v m).map vq_
 | [],[],_,_,_,_,h=>by cases h
 | [],_::_,_,_,_,h,_=>by cases h
 |_::_,[],_,_,_,h,_=>by cases h
 |e::es,p::m,i,j,a,h,hf=>by
  simp only[List.map_cons,List.cons.injEq,vq_,Prod.mk.injEq] at h
  obtain⟨⟨h1,h2⟩,h3⟩:=h
  unfold fnd at hf
  unfold updV
  split at hf
  ·rename_i hk
   cases hf
   rw[if_pos hk,Nat.sub_self]
   simp only[List.modify_zero_cons,List.map_cons,vq_,eq_of_beq hk]
   rw[h3]
  ·rename_i hk
   have hle:=(X8_ k m (i+1) j a hf).1
   rw[if_neg hk,show j - i=(j - (i+1))+1 by omega]
   simp only[List.modify_succ_cons,List.map_cons,vq_]
   rw[Vu_ k v es m (i+1) j a h3 hf,h1,h2]
theorem Kg_ (k v:List UInt8): ∀ (m:Vy_) (i:Nat),fnd k m i=none→updV k v m=m++ [(k,v)]
 | [],_,_=>rfl
 |p::r,i,h=>by
  unfold fnd at h
  split at h
  ·cases h
  ·rename_i hk
   unfold updV
   rw[if_neg hk,Kg_ k v r (i+1) h];rfl
section
variable {P:Program} {w0:World} {f:Fr} {L:za_} {N:Fr→za_→Prop} {ops:Array Oper} {rest:List Oper} {md:Md}
 {d:Option Tmp} {ty:TypeId} {ps:String} {af:Array Edge} {g:Option (Nat×Bool)}
theorem aaQ_ {w:World} {t:TypeId} (hu:P.underlying t=some .string) (k:List UInt8) (es:List MapEntry) (m:Vy_) (h:es.map (fun e=>(e.key,e.val))=m.map vq_):
  (Instr.findKey t (vs k) es).run P w= .ok ((fnd k m 0).map fun p=>(p.1, .agg (a8 p.2))) w:=by
 simp only[Instr.findKey,Sem.run_bind,run_underlying hu w,Result.andThen_ok,JQ_ k es m 0 h]
 rfl
theorem w1_ {w:World} {t:TypeId} (hu:P.underlying t=some .string) (e:Bool) (k:List UInt8): (Instr.checkKey e 10000 t (vs k)).run P w= .ok () w:=by
 unfold Instr.checkKey
 simp only[Sem.run_bind,run_underlying hu w,Result.andThen_ok,vs]
 rfl
theorem jw_ {w:World} {b:Nat} {es:Array MapEntry} {c:Nat} (hb:w.heap[b]? =some (.map es c)): (getObj b).run P w= .ok (.map es c) w:=by
 simp only[getObj,Sem.run,hb]
theorem vk_ {w:World} {b:Nat} {es:Array MapEntry} {c:Nat} (hb:w.heap[b]? =some (.map es c)) (o:Obj): (setObj b o).run P w= .ok () {w with heap:=w.heap.setIfInBounds b o}:=by
 simp only[setObj,Sem.run,hb]
def vm (b:Nat):Value:= .map (some b)
theorem Ow.makeMap {t:TypeId} {md':Md} (he:md.turn=some md') (hs:zk_ ops f ⟨d, .makeMap t none,ty,ps,af,g⟩=false)
  (hn: ∀b o,jS_ L b→w0.heap.size≤b→MapR o []→Ow P w0 ops md' rest (qj_ f d (vm b)) (L++ [(b,o)]) N):
  Ow P w0 ops md (⟨d, .makeMap t none,ty,ps,af,g⟩::rest) f L N:=by
 refine Ow.step he rfl hs fun w hw=> .inl ⟨vm w.heap.size,w.alloc (.map #[] 0),_, ?_,hw.alloc _,hn _ _ (qi_ fun b hb=>hw.lt hb) hw.size ⟨#[],0,rfl,rfl,List.pairwise_singleton _ _⟩⟩
 simp only[execOp,Instr.makeMap,Sem.run_bind,Option.map_none]
 rfl
theorem air_ {k:List UInt8} {m:Vy_} {es:List MapEntry} {j:Nat} {a:List UInt8} (h:es.map (fun e=>(e.key,e.val))=m.map vq_) (hf:fnd k m 0=some (j,a)): ∃e,es[j]? =some e∧e.key=vs k:=by
 obtain⟨-,a',h1,rfl⟩:=X8_ k m 0 j a hf
 rw[Nat.sub_zero] at h1
 have:=congrArg (·[j]?) h
 simp only[List.getElem?_map,h1,Option.map_some] at this
 cases he:es[j]? with
 |none=>rw[he] at this;cases this
 |some e=>
  rw[he] at this
  simp only[Option.map_some,Option.some.injEq,vq_,Prod.mk.injEq] at this
  exact⟨e,rfl,this.1⟩
theorem Ow.mapUpdate {t kt vt:TypeId} {x y z:Operand} {b:Nat} {o:Obj} {m:Vy_} {k v:List UInt8} {md':Md} (he:md.turn=some md') (hs:zk_ ops f ⟨d, .mapUpdate t x y z,ty,ps,af,g⟩=false) (hu:P.underlying t=some (.map kt vt)) (huk:P.underlying kt=some .string)
  (hx:ev f x=vm b) (hy:ev f y=vs k) (hz:ev f z= .agg (a8 v)) (hl:look L b=some o) (hm:MapR o m)
  (hn: ∀o',MapR o' (updV k v m)→Ow P w0 ops md' rest (qj_ f d undef) (setB L b o') N):
  Ow P w0 ops md (⟨d, .mapUpdate t x y z,ty,ps,af,g⟩::rest) f L N:=by
 obtain⟨es,c,rfl,hes,hbo⟩:=hm
 refine Ow.step he rfl hs fun w hw=> ?_
 have hb:=hw.has _ _ (zF_ hl)
 have hfk:=aaQ_ (w:=w) huk k es.toList m hes
 cases hf:fnd k m 0 with
 |none=>
  rw[hf] at hfk
  refine .inr (.inl ⟨{w with heap:=w.heap.setIfInBounds b (.map (es.push {key:=vs k,val:= .agg (a8 v),born:=c}) (c+1))},_, ?_,hw.set (zo_ hl) rfl rfl rfl rfl,hn _ ⟨_,_,rfl, ?_,by rw[Array.toList_push];exact VG_ hbo rfl⟩⟩)
  ·have: (Instr.mapUpdate t (vm b) (vs k) (.agg (a8 v))).run P w= .ok () {w with heap:=w.heap.setIfInBounds b (.map (es.push {key:=vs k,val:= .agg (a8 v),born:=c}) (c+1))}:=by
    simp only[Instr.mapUpdate,vm,Sem.run_bind,run_underlying hu w,Result.andThen_ok,jw_ hb,w1_ huk,hfk,Option.map_none,vk_ hb]
   simp only[execOp,Sem.run_bind,hx,hy,hz]
   rw[this];rfl
  ·rw[Kg_ k v m 0 hf,Array.toList_push,List.map_append,hes,List.map_append];rfl
 |some p=>
  obtain⟨j,a⟩:=p
  rw[hf] at hfk
  obtain⟨e,hej,hek⟩:=air_ hes hf
  have hej':es[j]? =some e:=by simpa using hej
  have hkt: (Instr.keyThatStays (((es[j]?).map (·.key)).getD (vs k)) (vs k)).run P w= .ok (vs k) w:=by
   rw[hej',Option.map_some,Option.getD_some,hek]
   unfold Instr.keyThatStays
   have:Instr.sameBits 10000 (vs k) (vs k)=true:=by simp[vs,Instr.sameBits,ahH_]
   rw[if_pos this];rfl
  refine .inr (.inl ⟨{w with heap:=w.heap.setIfInBounds b (.map (es.modify j fun e=>{e with key:=vs k,val:= .agg (a8 v)}) c)},_, ?_,hw.set (zo_ hl) rfl rfl rfl rfl,hn _ ⟨_,_,rfl, ?_,by rw[Array.toList_modify,ZV_ (g:=fun e=>{e with key:=vs k,val:= .agg (a8 v)}) fun _=>rfl];exact hbo⟩⟩)
  ·have: (Instr.mapUpdate t (vm b) (vs k) (.agg (a8 v))).run P w= .ok () {w with heap:=w.heap.setIfInBounds b (.map (es.modify j fun e=>{e with key:=vs k,val:= .agg (a8 v)}) c)}:=by
    simp only[Instr.mapUpdate,vm,Sem.run_bind,run_underlying hu w,Result.andThen_ok,jw_ hb,w1_ huk,hfk,Option.map_some,hkt,vk_ hb]
   simp only[execOp,Sem.run_bind,hx,hy,hz]
   rw[this];rfl
  ·rw[Array.toList_modify]
   have:=Vu_ k v es.toList m 0 j a hes hf
   rw[Nat.sub_zero] at this
   exact this
end
end Go.Sx
namespace Go.Sx
open Go
section
variable {P:Program} {w0:World} {f:Fr} {L:za_} {N:Fr→za_→Prop} {ops:Array Oper} {rest:List Oper} {md:Md}
 {d:Option Tmp} {ty:TypeId} {ps:String} {af:Array Edge} {g:Option (Nat×Bool)}
def getV (k:List UInt8) (z:List UInt8) (m:Vy_):List UInt8:=match m.find? fun p=>k==p.1 with|some p=>p.2|none=>z
end
end Go.Sx
namespace Go.Sx
open Go
theorem New.mono {n m:Nat} (h:n≤m): ∀ {L:za_},New m L→New n L
 | [],_=>trivial
 | (_,_)::_,hL=>⟨Nat.le_trans h hL.1,New.mono h hL.2⟩
theorem New.app {n:Nat} {M:za_}: ∀ {L:za_},New n L→New n M→New n (L++M)
 | [],_,hM=>hM
 | (_,_)::_,hL,hM=>⟨hL.1,New.app hL.2 hM⟩
section
variable {P:Program} {w0:World} {f:Fr} {L:za_} {N:Fr→za_→Prop} {ops:Array Oper} {rest:List Oper} {md:Md}
 {d:Option Tmp} {ty:TypeId} {ps:String} {af:Array Edge} {g:Option (Nat×Bool)}
theorem Ow.callE {l:List Operand} {ts:Array TypeId} {k:FuncId} {b:Nat} {S:Value→Obj→Prop} {md':Md} (he:md.turn=some md')
  (hs:zk_ ops f ⟨d, .call ⟨.value (.func k),l.toArray,ts⟩,ty,ps,af,g⟩=false)
  (hk: ∀a w,(callFunc k a).run P w= .ok (.enter k a) w) (hb:b∈keys L)
  (hc: ∀w,Hp w0 L w→Rets P k (l.map (ev f)).toArray w (fun v D=> ∃o,D= [(b,o)]∧S v o))
  (hn: ∀v o,S v o→Ow P w0 ops md' rest (qj_ f d v) (setB L b o) N):
  Ow P w0 ops md (⟨d, .call ⟨.value (.func k),l.toArray,ts⟩,ty,ps,af,g⟩::rest) f L N:=by
 refine Ow.callF he hs hk (S:=fun _ v D=> ∃o,D= [(b,o)]∧S v o) hc ?_
 rintro B v D - - ⟨o,rfl,hS⟩
 exact⟨_,Mrg.set hb,hn v o hS⟩
theorem Ow.callN {l:List Operand} {ts:Array TypeId} {k:FuncId} {S:Nat→Value→za_→Prop} {md':Md} (he:md.turn=some md')
  (hs:zk_ ops f ⟨d, .call ⟨.value (.func k),l.toArray,ts⟩,ty,ps,af,g⟩=false)
  (hk: ∀a w,(callFunc k a).run P w= .ok (.enter k a) w)
  (hc: ∀w,Hp w0 L w→Rets P k (l.map (ev f)).toArray w (fun v D=>S w.heap.size v D))
  (hnew: ∀B v D,S B v D→New B D)
  (hn: ∀B v D,jS_ L B→w0.heap.size≤B→S B v D→Ow P w0 ops md' rest (qj_ f d v) (L++D) N):
  Ow P w0 ops md (⟨d, .call ⟨.value (.func k),l.toArray,ts⟩,ty,ps,af,g⟩::rest) f L N:=by
 refine Ow.callF he hs hk (S:=S) hc ?_
 intro B v D ha hB hS
 exact⟨_,Mrg.fresh (hnew B v D hS).le,hn B v D ha hB hS⟩
end
end Go.Sx
section
namespace Go.Sx
open Go
set_option linter.unusedSimpArgs false
section
variable {P:Program} {w0:World} {L:za_}
theorem Za_ {w:World} {ts tx ty e:TypeId} {m:Bool×Nat} {z x:Value} {b k:Nat} {new:List Value} (hw:Hp w0 L w)
  (hu:P.underlying ts=some (.slice e)) (hm:qr_ P e=some m) (hi:kq_ P e=true) (hz:qd_ P e=some z) (hzs:z.cells.size=m.2) {d:TypeDesc} (hux:P.underlying tx=some d) (hnx: ∀k,d≠ .int k)
  (hXa: ∀w,Hp w0 L w→AppX P w m.2 x k new) (hbig:2* (0+k)+768≤2^38):
  (k=0∧(Builtin.append_ #[ts,tx] ty #[vsl b 0 0 0,x]).run P w= .ok (vsl b 0 0 0) w)∨
  (0<k∧ ∃v' w' L',(Builtin.append_ #[ts,tx] ty #[vsl b 0 0 0,x]).run P w= .ok v' w'∧Hp w0 L' w'∧Buf L' e m.2 v' (0+k) ([]++new)∧Grew w0 (.slice none 0 0) L L'∧ ∃c,slB v'=some c∧jS_ L c):=by
 obtain⟨i,hi,hb0,hbig⟩:=kG_ hi hbig
 have hti: ∀w,(typeInfo e).run P w= .ok i w:=by
  intro w
  simp only[typeInfo,program,Sem.run_bind]
  show Result.andThen (Result.ok P w) _=_
  simp only[Result.andThen_ok,hi]
  rfl
 have hmd: (match d with| .int _=>true|_=>false)=false:=by
  cases d<;>first|rfl|exact absurd rfl (hnx _)
 have e1: ∀ {α β:Type} (a:α) (f:α→World→Result β),(Sem.run P (pure a) w).andThen f=f a w:=fun _ _=>rfl
 have hX:=hXa w hw
 have hxl:=hX.len
 have hxc:=hX.cells
 have hzv:=jG_ (P:=P) hz
 have room: ∀ (b:Nat) (w:World),(askRoom b).run P w= .ok () w:=by
  intro b w
  unfold askRoom
  split<;>rfl
 have zc: ∀j,(Builtin.zeroCells z.cells j).toList.length=j*m.2:=by
  intro j;simp[Builtin.zeroCells,hzs]
 have hbg: ∀c,c<0+k→ ¬ (Builtin.nextslicecap (0+k) c*i.bytes>2^48):=by
  intro c hc
  have:=kW_ hc
  have h2:=Nat.mul_le_mul_right i.bytes this
  omega
 by_cases hk:k=0
 ·subst hk
  have hnew:new= []:=List.eq_nil_of_length_eq_zero (by have:=hX.size;omega)
  subst hnew
  refine .inl ⟨rfl, ?_⟩
  simp only[Builtin.append_,vsl,List.getElem?_toArray,List.getElem?_cons_zero,List.getElem?_cons_succ,Sem.run_bind,run_underlying hu w,Result.andThen_ok,zt_ hm w,run_underlying hux w,hmd,e1,Bool.false_eq_true, ↓reduceIte,hxl,Bool.not_false,Nat.add_zero,Nat.le_refl,hxc]
  rfl
 ·have hpos: ¬0+k≤0:=by omega
  have hbg':=hbg 0 (by omega)
  simp only[Builtin.append_,List.getElem?_toArray,List.getElem?_cons_zero,List.getElem?_cons_succ,Sem.run_bind,run_underlying hu w,Result.andThen_ok,zt_ hm w,run_underlying hux w,hmd,e1,Bool.false_eq_true, ↓reduceIte,hxl,Bool.not_false,hpos,vsl,hti,hb0,or_false,and_false,hbg']
  have hch: (choose (Question.appendCap (0+k) 0 e)).run P w= .ok ((0+k)+w.tape w.drawn (.appendCap (0+k) 0 e)% (2^63 - (0+k))) w.drew:=rfl
  rw[hch]
  generalize hcc: (0+k)+w.tape w.drawn (.appendCap (0+k) 0 e)% (2^63 - (0+k))=c
  have hw1:=hw.drew
  have hX1:=hXa _ hw1
  have hold: (Builtin.firstCells m.2 0 (Value.slice (some ⟨b,0,none⟩) 0 0)).run P w.drew= .ok #[] w.drew:=by
   simp only[Builtin.firstCells,Nat.zero_mul];rfl
  simp only[Result.andThen_ok,room,hold,hX1.cells,hzv]
  refine .inr ⟨by omega,_,_,L++ [(w.drew.heap.size, .cells ([]++new++ (Builtin.zeroCells z.cells (c - (0+k))).toList).toArray e (0,0))],rfl, ?_, .at_ (b:=w.drew.heap.size) (rest:=(Builtin.zeroCells z.cells (c - (0+k))).toList) ?_ ?_ ?_ (by omega) (by omega), ?_,⟨_,rfl,qi_ fun b hb=>hw1.lt hb⟩⟩
  ·have ea: ([]++new++ (Builtin.zeroCells z.cells (c - (0+k))).toList).toArray= #[]++new.toArray++Builtin.zeroCells z.cells (c - (0+k)):=by apply Array.ext';simp
   rw[ea]
   exact hw1.alloc _
  ·rw[xd_ (fun hm=>Nat.lt_irrefl _ (hw1.lt hm))]
   simp[look]
  ·rw[List.nil_append,hX.size,Nat.zero_add]
  ·exact zc _
  ·refine⟨fun c hc=>by rw[zS_];exact List.mem_append_left _ hc,fun c hc=> ?_,fun c o hne ho=>jA_ ho⟩
   rw[zS_] at hc
   rcases List.mem_append.1 hc with hc|hc
   ·exact .inl hc
   ·right
    simp only[keys,List.map_cons,List.map_nil,List.mem_singleton] at hc
    subst hc
    exact⟨qi_ fun b hb=>hw1.lt hb,hw1.size⟩
end
section
variable {P:Program} {w0:World} {f:Fr} {L:za_} {N:Fr→za_→Prop} {ops:Array Oper} {rest:List Oper} {md:Md}
 {d:Option Tmp} {ty:TypeId} {ps:String} {af:Array Edge} {g:Option (Nat×Bool)}
theorem Ow.appendEm {ts tx e:TypeId} {m:Bool×Nat} {z:Value} {s x:Operand} {b k:Nat} {new:List Value} {dx:TypeDesc} {md':Md} (hsv:ev f s=vsl b 0 0 0) (he:md.turn=some md')
  (hs:zk_ ops f ⟨d, .call ⟨.builtin .append, #[s,x], #[ts,tx]⟩,ty,ps,af,g⟩=false)
  (hu:P.underlying ts=some (.slice e)) (hm:qr_ P e=some m) (hi:kq_ P e=true) (hz:qd_ P e=some z) (hzs:z.cells.size=m.2) (hux:P.underlying tx=some dx) (hnx: ∀k,dx≠ .int k)
  (hX: ∀w,Hp w0 L w→AppX P w m.2 (ev f x) k new) (hbig:2* (0+k)+768≤2^38)
  (hn0:k=0→Ow P w0 ops md' rest (qj_ f d (vsl b 0 0 0)) L N)
  (hn: ∀v' L',0<k→Buf L' e m.2 v' (0+k) ([]++new)→Grew w0 (.slice none 0 0) L L'→(∃c,slB v'=some c∧jS_ L c)→Ow P w0 ops md' rest (qj_ f d v') L' N):
  Ow P w0 ops md (⟨d, .call ⟨.builtin .append, #[s,x], #[ts,tx]⟩,ty,ps,af,g⟩::rest) f L N:=by
 refine Ow.step he rfl hs fun w hw=> ?_
 rcases Za_ (ty:=ty) (b:=b) hw hu hm hi hz hzs hux hnx hX hbig with⟨hk,hr⟩ | ⟨hk,v',w',L',hr,hp,hb,hg,hsl⟩
 ·refine .inl ⟨_,w,L, ?_,hw,hn0 hk⟩
  simp only[execOp,resolve,Sem.run_bind,Sem.run_pure,Result.andThen_ok,invoke,builtin,List.map_toArray,List.map_cons,List.map_nil,hsv]
  rw[hr]
  rfl
 ·refine .inl ⟨v',w',L', ?_,hp,hn v' L' hk hb hg hsl⟩
  simp only[execOp,resolve,Sem.run_bind,Sem.run_pure,Result.andThen_ok,invoke,builtin,List.map_toArray,List.map_cons,List.map_nil,hsv]
  rw[hr]
  rfl
end
end Go.Sx
end
namespace Go.Sx
open Go
section
variable {P:Program} {w0:World} {f:Fr} {L:za_} {N:Fr→za_→Prop} {K:j1_} {l:List Oper} {listed:List Bool} {n:Nat} {R ts:List Nat} {a d:Nat} {z:Obj}
theorem Md.next_sofnil (R ts:List Nat): (Md.sof R [] ts).next= .sof R [] ts:=(rfl)
theorem Km_ {Q:Exit→Act→World→Prop} {o:Oper} {x:Act} {d:Option Tmp} {v:Value} {K:Act→World→Prop} (hd: ∀t,d=some t→o.dst≠some t)
  (hQ: ∀c a w,Q (.panic c) a w→Q (.panic c) (a.put d v) w) (r:Result Next) (h:o.upon P x (fun a' w'=>K (a'.put d v) w') Q r):
  o.upon P (x.put d v) K Q r:=by
 have comm: ∀u,(x.put o.dst u).put d v=(x.put d v).put o.dst u:=fun u=>(Act.put_comm x v u hd).symm
 match r,h with
 | .ok (.value u) _,h=>show K _ _;rw[←comm];exact h
 | .ok .skip _,h=>show K _ _;rw[←comm];exact h
 | .ok (.defer e) w',h=>
  have h':K ((({x with defers:=e::x.defers}:Act).put o.dst undef).put d v) w':=h
  rw[←Act.put_comm _ v undef hd,←Act.put_defers] at h'
  exact h'
 | .ok (.enter f args) _,h=>
  refine Calls.mono h fun e w'' he=> ?_
  match e,he with
  | .returned u,he=>show K _ _;rw[←comm];exact he
  | .panicked c,he=>exact hQ _ _ _ he
  | .outgrown,he=>exact he
 | .ok (.row row args) _,h=>exact Rows.mono h fun u w'' he=>by rw[←comm];exact he
 | .halt (.panic u) _,h=>exact hQ _ _ _ h
theorem KN_ {ops:Array Oper} {Q:Exit→Act→World→Prop} {j:Nat} {oj:Oper} {d:Option Tmp} {v:Value} (hj:ops[j]? =some oj) (h1: ∀t,d=some t→t∉oj.looksAt ops) (h2: ∀t,d=some t→oj.dst≠some t) (hsj: ∀cs b,oj.op≠ .select cs b)
  (hQ: ∀c a w,Q (.panic c) a w→Q (.panic c) (a.put d v) w) {K:Act→World→Prop} {x:Act} {w:World}
  (h:wpOp P ops Q j (fun a' w'=>K (a'.put d v) w') x w):wpOp P ops Q j K (x.put d v) w:=by
 unfold wpOp at h ⊢
 simp only[hj] at h ⊢
 rw[wanted_put oj x d v h1]
 cases hw:Region.wanted oj (yielded ops x.tmps) with
 |true=>
  rw[hw] at h
  simp only[if_true] at h ⊢
  rcases h with h| ⟨hasks,hl⟩
  ·left
   unfold Oper.wp at h ⊢
   rw[execOp_put oj hsj x d v h1]
   exact Km_ h2 hQ _ h
  ·right
   exact⟨by unfold Oper.asks at*;rwa [execOp_put oj hsj x d v h1],hl⟩
 |false=>
  rw[hw] at h
  simp only[Bool.false_eq_true,if_false] at h ⊢
  rw[Act.put_comm x v undef h2]
  exact h
structure Drift (P:Program) (l:List Oper) (ts:List Nat) (a d:Nat) (z:Obj):Prop where
 here: ∃oa t zv,l.toArray[a]? =some oa∧oa.op= .alloc t∧oa.dst=some d∧oa.guard=none∧qd_ P t=some zv∧z= .cells zv.cells t
 ts:a∉ts
 sel:Region.noSelect l.toArray=true
def al3_ (l:List Oper) (ts:List Nat) (a d:Nat):Bool:=
 (match xL_ l a with
 |some oa=>(match oa.op with| .alloc _=>true|_=>false)&&oa.dst==some d&&oa.guard==none
 |none=>false)&& !ts.contains a&&Region.noSelect l.toArray
def OwD (P:Program) (w0:World) (l:List Oper) (R ts:List Nat) (a d:Nat) (z:Obj) (n:Nat) (listed:List Bool) (f:Fr) (L:za_) (N:Fr→za_→Prop):Prop:=
 (∀w,Hp w0 L w→jV_ P l.toArray (q5_ w0 N) ts (SR w0 R L) (n+1) listed.toArray (act f) w)∧
 (∀b w,w0.heap.size≤b→b∉keys L→Hp w0 (L++ [(b,z)]) w→jV_ P l.toArray (q5_ w0 N) ts (SR w0 R L) n (listed.set a true).toArray (act (XW_ f d (vp b 0))) w)
theorem SR.ofE {w:World} {b:Nat} (hb:w0.heap.size≤b) (h:Hp w0 (L++ [(b,z)]) w):SR w0 R L w:=by
 intro r _ o ho
 unfold zy_ at ho
 split at ho
 ·rename_i o' hl
  cases ho
  exact h.has _ _ (List.mem_append_left _ (zF_ hl))
 ·rename_i hl
  have hlt:=(Array.getElem?_eq_some_iff.1 ho).1
  rw[h.old r hlt ?_];exact ho
  intro hm
  simp only[keys,List.map_append,List.map_cons,List.map_nil,List.mem_append,List.mem_singleton] at hm
  rcases hm with hm|hm
  ·exact vZ_ hl hm
  ·omega
theorem ady_ {c:List PanicEntry} {x x':Act} {w:World} (h:q5_ w0 N (.panic c) x w):q5_ w0 N (.panic c) x' w:=zJ_ h
theorem Hp.perm {w:World} {M:za_} (h:Hp w0 L w) (hp:M.Perm L):Hp w0 M w:=
 h.same (fun _=>hp.mem_iff) ((List.Perm.nodup_iff (hp.map Prod.fst)).2 h.nodup)
def chkD (P:Program) (l:List Oper) (ts:List Nat) (a:Nat):List Nat→List Bool→Option (List Bool)
 | [],listed=>some listed
 |k::is,listed=>
  match xL_ l k,xL_ l a with
  |some o,some oa=>if k !=a&& !ts.contains k&& (ts.all fun t=> !listed.toArray.getD t true&& !(listed.set a true).toArray.getD t true)&& (Region.ready .any l.toArray listed.toArray).contains k&&Region.free .any l.toArray listed.toArray k&&
    (Region.ready .any l.toArray (listed.set a true).toArray).contains k&&Region.free .any l.toArray (listed.set a true).toArray k&&o.apart l.toArray oa&&
    (jQ_ P o.op|| (Jc_ o.op&&Z1_ l.toArray ts listed.toArray k&&Z1_ l.toArray ts (listed.set a true).toArray k)) then chkD P l ts a is (listed.set k true) else none
  |_,_=>none
theorem OwD.step {k:Nat} {o:Oper} {v:Value} (hD:Drift P l ts a d z) (hk:xL_ l k=some o) {rest:List Bool} (hc:chkD P l ts a [k] listed=some rest)
  (hY:YieldsC P l.toArray (SR w0 R L) (jQ_ P o.op=true) o v (act f)) (h:OwD P w0 l R ts a d z n rest (qj_ f o.dst v) L N):OwD P w0 l R ts a d z (n+1) listed f L N:=by
 obtain⟨⟨oa,t,zv,ha,hop,hdst,hg,hz,rfl⟩,hats,hns⟩:=hD
 have hoi:l.toArray[k]? =some o:=by rw[jv_] at hk;simpa using hk
 have ha':xL_ l a=some oa:=by rw[jv_];simpa using ha
 unfold chkD at hc
 rw[hk,ha'] at hc
 simp only at hc
 split at hc
 ·rename_i hcc
  simp only[chkD,Option.some.injEq] at hc
  subst hc
  simp only[Bool.and_eq_true,Bool.or_eq_true,Bool.not_eq_true',List.all_eq_true,List.contains_eq_mem,decide_eq_true_eq,decide_eq_false_iff_not,bne_iff_ne,ne_eq] at hcc
  obtain⟨⟨⟨⟨⟨⟨⟨⟨c1,c2⟩,c3⟩,c4⟩,c5⟩,c6⟩,c7⟩,c8⟩,c9⟩:=hcc
  obtain⟨q1,q2,q3⟩:=Oper.apart_spec c8
  have hsel:=Region.noSelect_spec hns
  have hset: (listed.set k true).set a true=(listed.set a true).set k true:=List.set_comm _ _ c1
  refine⟨fun w hw=> ?_,fun b w hb hbL hw=> ?_⟩
  ·refine km_ hoi c2 hsel (fun c a w h=>zJ_ h) _ _ _ _ (jZ_ (P:=P) hoi c4 c5 (c9.imp id fun h=>⟨h.1.1,h.1.2,fun t ht=>(c3 t ht).1⟩)) (.inr fun t ht=>(c3 t ht).1) hY ?_
   rw[zT_,z2_]
   exact h.1 w hw
  ·have hY2:YieldsC P l.toArray (SR w0 R L) (jQ_ P o.op=true) o v (act (XW_ f d (vp b 0))):=by
    refine hY.left (hsel k o · · hoi) (oj:=oa) q3 ⟨vp b 0,[], ?_⟩
    rw[hdst]
    exact(zT_ f (some d) (vp b 0)).symm
   refine km_ hoi c2 hsel (fun c a w h=>zJ_ h) _ _ _ _ (jZ_ (P:=P) hoi c6 c7 (c9.imp id fun h=>⟨h.1.1,h.2,fun t ht=>(c3 t ht).2⟩)) (.inr fun t ht=>(c3 t ht).2) hY2 ?_
   have e: (act (XW_ f d (vp b 0))).put o.dst v=act (XW_ (qj_ f o.dst v) d (vp b 0)):=by
    have e1:act (XW_ f d (vp b 0))=(act f).put (some d) (vp b 0):=(zT_ f (some d) (vp b 0)).symm
    rw[e1,Act.put_comm (act f) (x:=some d) (y:=o.dst) (vp b 0) v (fun t ht hod=>by cases ht;exact q2 _ hod hdst),zT_,zT_];rfl
   rw[e,z2_,←hset]
   exact h.2 b w hb hbL hw
 ·cases hc
theorem adR_ {k:Nat} {is:List Nat} {listed listed':List Bool} (h:chkD P l ts a (k::is) listed=some listed'):chkD P l ts a [k] listed=some (listed.set k true)∧chkD P l ts a is (listed.set k true)=some listed':=by
 rw[chkD] at h
 cases ho:xL_ l k with
 |none=>rw[ho] at h;cases h
 |some o=>
  cases hoa:xL_ l a with
  |none=>rw[ho,hoa] at h;cases h
  |some oa=>
   rw[ho,hoa] at h
   simp only at h
   split at h
   ·rename_i hcc
    refine⟨?_,h⟩
    rw[chkD,ho,hoa]
    simp only
    rw[if_pos hcc];rfl
   ·cases h
theorem OwD.runs {k:Md→List Oper→Fr→za_→Prop} (hD:Drift P l ts a d z): ∀ (is:List Nat) {listed listed':List Bool} {f:Fr} {L:za_},chkD P l ts a is listed=some listed'→
  (∀md r f' L',k md r f' L'→r= []∧OwD P w0 l R ts a d z n listed' f' L' N)→vcL P w0 l.toArray false (.sof R [] []) (xv_ l is) f L k→OwD P w0 l R ts a d z (is.length+n) listed f L N
 | [],listed,listed',f,L,hc,hk,h=>by
  cases hc
  rw[List.length_nil,Nat.zero_add]
  exact(hk _ _ _ _ h).2
 |i::is,listed,listed',f,L,hc,hk,h=>by
  obtain⟨hc1,hc2⟩:=adR_ hc
  rw[zb_] at h
  cases ho:xL_ l i with
  |none=>unfold chkD at hc1;rw[ho] at hc1;cases hc1
  |some o=>
   rw[ho,zc_] at h
   unfold vcL at h
   rw[List.length_cons,show is.length+1+n=(is.length+n)+1 by omega]
   cases hs:zk_ l.toArray f o with
   |true=>
    rw[hs] at h
    have hw0:Region.wanted o (yielded l.toArray (act f).tmps)=false:=by rw[z3_,hs];rfl
    exact OwD.step hD ho hc1 (v:=undef) (.inr ⟨hw0,rfl⟩) (OwD.runs hD is hc2 hk h)
   |false=>
    rw[hs] at h
    have hw0:Region.wanted o (yielded l.toArray (act f).tmps)=true:=by rw[z3_,hs];rfl
    simp only[ib,vcB] at h
    split at h
    ·cases hrd:XZ_ (.sof R [] []) f o.op with
     |false=>rw[hrd] at h;exact absurd (hk _ _ _ _ h).1 (by simp)
     |true=>
      rw[hrd] at h
      simp only at h
      cases hv:xK_ P w0 L f o.op with
      |none=>rw[hv] at h;exact absurd (hk _ _ _ _ h).1 (by simp)
      |some v=>
       rw[hv] at h
       refine OwD.step hD ho hc1 (v:=v) (.inl ⟨hw0,fun w hw=> ?_⟩) (OwD.runs hD is hc2 hk h)
       rw[qZ_]
       rcases hw with hp|hw
       ·exact qw_ (Hp.refl w) (xe_ hp hv w)
       ·exact qw_ (Hp.refl w) (vL_ hrd hv hw)
    ·exact absurd (hk _ _ _ _ h).1 (by simp)
    ·exact absurd (hk _ _ _ _ h).1 (by simp)
theorem OwD.run (is:List Nat) (listed':List Bool) (n:Nat) {m:Nat} (hm:m=is.length+n) (hD:Drift P l ts a d z) (hc:chkD P l ts a is listed=some listed')
  (h: ∀k:Md→List Oper→Fr→za_→Prop,(∀md f L,OwD P w0 l R ts a d z n listed' f L N→k md [] f L)→nl (xv_ l is) fun l'=>vcL P w0 l.toArray false (.sof R [] []) l' f L k):OwD P w0 l R ts a d z m listed f L N:=by
 subst hm
 refine OwD.runs (k:=fun _ r f' L'=>r= []∧OwD P w0 l R ts a d z n listed' f' L' N) hD is hc (fun _ _ _ _ h=>h) ?_
 exact h _ fun _ _ _ h=>⟨rfl,h⟩
theorem Xi_ {t:TypeId} {zv:Value} {oa:Oper} {Q:Exit→Act→World→Prop} {X:Act→World→Prop} {w:World} (ha:l.toArray[a]? =some oa) (hop:oa.op= .alloc t) (hdst:oa.dst=some d) (hg:oa.guard=none) (hz:qd_ P t=some zv)
  (h:X (act (XW_ f d (vp w.heap.size 0))) (w.alloc (.cells zv.cells t))):wpOp P l.toArray Q a X (act f) w:=by
 obtain⟨dst,op,ty,pos,after,guard⟩:=oa
 simp only at hop hdst hg
 subst hop;subst hdst;subst hg
 unfold wpOp
 simp only[ha]
 have hw:Region.wanted ⟨some d, .alloc t,ty,pos,after,none⟩ (yielded l.toArray (act f).tmps)=true:=by rw[z3_];rfl
 rw[hw]
 simp only[↓reduceIte]
 left
 unfold Oper.wp
 have hr: (execOp (act f).eval ⟨some d, .alloc t,ty,pos,after,none⟩).run P w= .ok (.value (vp w.heap.size 0)) (w.alloc (.cells zv.cells t)):=by
  simp only[execOp,Instr.alloc,Sem.run_bind,jG_ hz w,Result.andThen_ok]
  rfl
 rw[hr]
 show X ((act f).put (some d) (vp w.heap.size 0)) _
 rw[zT_]
 exact h
theorem vd_ {L':za_} (hS: ∀b,b∈R→zy_ w0 L' b=zy_ w0 L b):SR w0 R L=SR w0 R L':=by
 funext v
 unfold SR
 apply propext
 constructor
 ·intro hh b hb o ho;exact hh b hb o (by rw[←hS b hb];exact ho)
 ·intro hh b hb o ho;exact hh b hb o (by rw[hS b hb];exact ho)
def abD_ (l:List Oper) (ts:List Nat) (a:Nat) (ks:List Nat) (listed:List Bool):Bool:=
 ((Region.ready .any l.toArray listed.toArray).all fun i=>i==a||ks.contains i)&& (Region.ready .any l.toArray listed.toArray != [])&& ((Region.ready .any l.toArray (listed.set a true).toArray).all fun i=>ks.contains i)&& (Region.ready .any l.toArray (listed.set a true).toArray != [])&&ks.all fun k=>
  match xL_ l k,xL_ l a with
  |some o,some oa=>k !=a&& !ts.contains k&&o.apart l.toArray oa
  |_,_=>false
theorem OwD.softs (ks:List Nat) (hD:Drift P l ts a d z) (hs:abD_ l ts a ks listed=true)
  (h: ∀k,k∈ks→ ∀o,xL_ l k=some o→ ∀E,(E= []∨ ∃b,E= [(b,z)]∧w0.heap.size≤b∧b∉keys L)→Ow P w0 l.toArray .seq [o] f (L++E) (fun f' L''=> ∃L',(L'++E).Perm L''∧(∀r,r∈R→zy_ w0 L' r=zy_ w0 L r)∧OwD P w0 l R ts a d z n (listed.set k true) f' L' N)):
  OwD P w0 l R ts a d z (n+1) listed f L N:=by
 obtain⟨⟨oa,t,zv,ha,hop,hdst,hg,hz,rfl⟩,hats,hns⟩:=hD
 have ha':xL_ l a=some oa:=by rw[jv_];simpa using ha
 unfold abD_ at hs
 simp only[Bool.and_eq_true,List.all_eq_true,Bool.or_eq_true,beq_iff_eq,bne_iff_ne,ne_eq,List.contains_eq_mem,decide_eq_true_eq] at hs
 obtain⟨⟨⟨⟨c3,c4⟩,c5⟩,c5'⟩,c6⟩:=hs
 have hsel:=Region.noSelect_spec hns
 have hkk: ∀k,k∈ks→ ∃o,xL_ l k=some o∧k≠a∧k∉ts∧o.apart l.toArray oa=true:=by
  intro k hk
  have:=c6 k hk
  rw[ha'] at this
  cases ho:xL_ l k with
  |none=>rw[ho] at this;cases this
  |some o=>
   rw[ho] at this
   simp only[Bool.and_eq_true,Bool.not_eq_true',bne_iff_ne,ne_eq,decide_eq_false_iff_not] at this
   exact⟨o,rfl,this.1.1,this.1.2,this.2⟩
 have t2: ∀b w,w0.heap.size≤b→b∉keys L→Hp w0 (L++ [(b, .cells zv.cells t)]) w→jV_ P l.toArray (q5_ w0 N) ts (SR w0 R L) (n+1) (listed.set a true).toArray (act (XW_ f d (vp b 0))) w:=by
  intro b w hb hbL hw
  refine⟨fun _=>SR.ofE hb hw,(fun h=>absurd h c5'), ?_⟩
  intro k hi
  have hkm:=c5 k hi
  obtain⟨o,hk,c1,c2,c7⟩:=hkk k hkm
  have hoi:l.toArray[k]? =some o:=by rw[jv_] at hk;simpa using hk
  obtain⟨q1,q2,q3⟩:=Oper.apart_spec c7
  have hset: (listed.set k true).set a true=(listed.set a true).set k true:=List.set_comm _ _ c1
  have e1:act (XW_ f d (vp b 0))=(act f).put (some d) (vp b 0):=(zT_ f (some d) (vp b 0)).symm
  rw[e1]
  refine KN_ hoi (fun t ht=>by cases ht;exact q3 d hdst) (fun t ht=>by cases ht;exact fun hod=>q2 d hod hdst) (hsel _ o · · hoi) (fun c a w h=>ady_ h) ?_
  refine vA_ hoi (X:=fun a' w'=>jV_ P l.toArray (q5_ w0 N) ts (SR w0 R L) n ((listed.set a true).toArray.setIfInBounds k true) (a'.put (some d) (vp b 0)) w') ?_ hw
  intro w' hw'
  refine xz_ ?_ (h k hkm o hk [(b, .cells zv.cells t)] (.inr ⟨b,rfl,hb,hbL⟩) w' hw')
  rintro f' L'' ⟨L',hpm,hR,hO⟩ w'' hw''
  have hw3:=hw''.perm hpm
  rw[zT_,z2_,←hset,vd_ hR]
  refine hO.2 b w'' hb (fun hm=> ?_) hw3
  have hnd:=hw3.nodup
  rw[zS_,List.nodup_append] at hnd
  exact hnd.2.2 b hm b (by simp[keys]) rfl
 refine⟨fun w hw=>⟨fun _=>SR.of hw,fun h=>absurd h c4,fun k hi=> ?_⟩,t2⟩
 rcases c3 k hi with rfl|hkm
 ·refine Xi_ ha hop hdst hg hz ?_
  rw[z2_]
  refine t2 _ _ hw.size (fun hm=>Nat.lt_irrefl _ (hw.lt hm)) (hw.alloc _)
 ·obtain⟨o,hk,c1,c2,c7⟩:=hkk k hkm
  have hoi:l.toArray[k]? =some o:=by rw[jv_] at hk;simpa using hk
  refine vA_ hoi (X:=jV_ P l.toArray (q5_ w0 N) ts (SR w0 R L) (n+1) (listed.toArray.setIfInBounds k true)) ?_ hw
  intro w' hw'
  have h1:=h k hkm o hk [] (.inl rfl)
  rw[List.append_nil] at h1
  refine xz_ ?_ (h1 w' hw')
  rintro f' L'' ⟨L',hpm,hR,hO⟩ w'' hw''
  rw[List.append_nil] at hpm
  rw[z2_,vd_ hR]
  exact hO.1 w'' (hw''.perm hpm)
theorem OwD.soft (k:Nat) (o:Oper) (hD:Drift P l ts a d z) (hk:xL_ l k=some o) (hs:abD_ l ts a [k] listed=true)
  (h: ∀E,(E= []∨ ∃b,E= [(b,z)]∧w0.heap.size≤b∧b∉keys L)→Ow P w0 l.toArray .seq [o] f (L++E) (fun f' L''=> ∃L',(L'++E).Perm L''∧(∀r,r∈R→zy_ w0 L' r=zy_ w0 L r)∧OwD P w0 l R ts a d z n (listed.set k true) f' L' N)):
  OwD P w0 l R ts a d z (n+1) listed f L N:=OwD.softs [k] hD hs fun k' hk' o' ho'=>by
 rw[List.mem_singleton] at hk'
 subst hk'
 rw[hk] at ho'
 cases ho'
 exact h
theorem OwD.two (k k2:Nat) (o o2:Oper) (hD:Drift P l ts a d z) (hk:xL_ l k=some o) (hk2:xL_ l k2=some o2) (hs:abD_ l ts a [k,k2] listed=true)
  (h: ∀E,(E= []∨ ∃b,E= [(b,z)]∧w0.heap.size≤b∧b∉keys L)→Ow P w0 l.toArray .seq [o] f (L++E) (fun f' L''=> ∃L',(L'++E).Perm L''∧(∀r,r∈R→zy_ w0 L' r=zy_ w0 L r)∧OwD P w0 l R ts a d z n (listed.set k true) f' L' N))
  (h2: ∀E,(E= []∨ ∃b,E= [(b,z)]∧w0.heap.size≤b∧b∉keys L)→Ow P w0 l.toArray .seq [o2] f (L++E) (fun f' L''=> ∃L',(L'++E).Perm L''∧(∀r,r∈R→zy_ w0 L' r=zy_ w0 L r)∧OwD P w0 l R ts a d z n (listed.set k2 true) f' L' N)):
  OwD P w0 l R ts a d z (n+1) listed f L N:=OwD.softs [k,k2] hD hs fun k' hk' o' ho'=>by
 simp only[List.mem_cons,List.not_mem_nil,or_false] at hk'
 rcases hk' with rfl|rfl
 ·rw[hk] at ho';cases ho';exact h
 ·rw[hk2] at ho';cases ho';exact h2
theorem OwD.real (is:List Nat) {m:Nat} (hm:m=is.length) (hD:Drift P l ts a d z) (hr:Region.ready .any l.toArray listed.toArray= [a]) (hB:w3_ P l.toArray ts is (listed.set a true).toArray=true) (hts: (ts.all fun t=> !(listed.set a true).toArray.getD t true)=true)
  (hl:is.map (fun i:Nat=>l[i]?)=(xv_ l is).map some) (hR: ∀r,r∈R→r∈keys L∨r<w0.heap.size)
  (h:nl (xv_ l is) fun l'=> ∀b,w0.heap.size≤b→b∉keys L→Ow P w0 l.toArray (.sof R is ts) l' (XW_ f d (vp b 0)) (L++ [(b,z)]) N):OwD P w0 l R ts a d z m listed f L N:=by
 subst hm
 obtain⟨⟨oa,t,zv,ha,hop,hdst,hg,hz,rfl⟩,hats,hns⟩:=hD
 simp only[List.all_eq_true,Bool.not_eq_true'] at hts
 revert hl h
 generalize xv_ l is=l'
 intro hl h
 have hlen:is.length=l'.length:=by have:=congrArg List.length hl;simpa using this
 have hF:Fits P l.toArray ts is l' (listed.set a true).toArray:=⟨hlen,fun j=>by
  have:=congrArg (·[j]?) hl
  simp only[List.getElem?_map] at this
  cases hj:is[j]? with
  |none=>
   rw[hj] at this
   simp only[Option.map_none] at this
   cases hj':l'[j]? with
   |none=>rfl
   |some x=>rw[hj'] at this;cases this
  |some i=>
   rw[hj] at this
   simp only[Option.map_some] at this
   cases hj':l'[j]? with
   |none=>rw[hj'] at this;cases this
   |some x=>
    rw[hj'] at this
    simp only[Option.map_some,Option.some.injEq] at this
    simp[this],hns,hB⟩
 have hRb: ∀b,w0.heap.size≤b→b∉keys L→ ∀r,r∈R→zy_ w0 (L++ [(b,Obj.cells zv.cells t)]) r=zy_ w0 L r:=by
  intro b hb hbL r hr
  unfold zy_
  cases hlk:look L r with
  |some o=>rw[jA_ hlk]
  |none=>
   have hrn:r∉keys L:=vZ_ hlk
   have hne:b≠r:=by
    rcases hR r hr with h|h
    ·exact absurd h hrn
    ·omega
   rw[xd_ hrn]
   unfold look
   rw[if_neg hne];rfl
 have t2: ∀b w,w0.heap.size≤b→b∉keys L→Hp w0 (L++ [(b, .cells zv.cells t)]) w→jV_ P l.toArray (q5_ w0 N) ts (SR w0 R L) is.length (listed.set a true).toArray (act (XW_ f d (vp b 0))) w:=by
  intro b w hb hbL hw
  rw[hlen,vd_ (hRb b hb hbL)]
  exact h b hb hbL _ hF (fun t ht=>hts t ht) w hw
 refine⟨fun w hw=>⟨fun _=>SR.of hw,(fun h=>by rw[hr] at h;cases h),fun i hi=> ?_⟩,t2⟩
 rw[hr,List.mem_singleton] at hi
 subst hi
 refine Xi_ ha hop hdst hg hz ?_
 rw[z2_]
 exact t2 _ _ hw.size (fun hm=>Nat.lt_irrefl _ (hw.lt hm)) (hw.alloc _)
theorem Cw.regionD {id:Nat} (R ts:List Nat) (a d t m:Nat) (zv:Value) (hl:l.length=m+1) (hm:P.follows .mixedOrders=true) (hop: ((xL_ l a).map fun o=>(o.op,o.dst,o.guard))=some (.alloc t,some d,none)) (hts:ts.contains a=false) (hns:Region.noSelect l.toArray=true) (hz:qd_ P t=some zv)
  (h:Drift P l ts a d (.cells zv.cells t)→OwD P w0 l R ts a d (.cells zv.cells t) m (List.replicate (m+1) false) f L (K .normal)):Cw P w0 (.region id l.toArray true) f L K:=by
 intro w hw
 refine wp_mono (wp_region_any hm ?_) fun _ _ _ h=>k1_ h
 have hD:Drift P l ts a d (.cells zv.cells t):=by
  cases hn:xL_ l a with
  |none=>rw[hn] at hop;cases hop
  |some oa=>
   rw[hn] at hop
   simp only[Option.map_some,Option.some.injEq,Prod.mk.injEq] at hop
   exact⟨⟨oa,t,zv,by rw[jv_] at hn;simpa using hn,hop.1,hop.2.1,hop.2.2,hz,rfl⟩,by simpa using hts,hns⟩
 have h1:=(h hD).1 w.drew hw.drew
 have:=wR_ _ _ _ _ h1
 simpa [hl] using this
end
end Go.Sx
namespace Go.Sx
open Go
def Gr (L:za_) (E:TypeId) (m:Nat) (v:Value) (n:Nat) (cs:List Value):Prop:=
 Buf L E m v n cs∨(n=0∧cs= []∧ ∃b,v=vsl b 0 0 0∧look L b=some (.cells #[] E (0,0)))
theorem Gr.nl {L:za_} {E:TypeId} {m:Nat}:Gr L E m (.slice none 0 0) 0 []:= .inl .nl
theorem Grew.any {w0:World} {v v':Value} {L L':za_} (h:Grew w0 v L L') (hv:slB v=none):Grew w0 v' L L':=
 ⟨h.keys,h.new,fun c o _ hl=>h.look c o (by rw[hv];simp) hl⟩
theorem Gr.keep {L L':za_} {E:TypeId} {m n:Nat} {v:Value} {cs:List Value} (h:Gr L E m v n cs) (hk: ∀b o,slB v=some b→look L b=some o→look L' b=some o):Gr L' E m v n cs:=by
 rcases h with h| ⟨h1,h2,b,rfl,h3⟩
 ·exact .inl (h.keep hk)
 ·exact .inr ⟨h1,h2,b,rfl,hk b _ rfl h3⟩
theorem Gr.app {L M:za_} {E:TypeId} {m n:Nat} {v:Value} {cs:List Value} (h:Gr L E m v n cs):Gr (L++M) E m v n cs:=h.keep fun _ _ _ hl=>jA_ hl
theorem Gr.len {L:za_} {E:TypeId} {m n:Nat} {v:Value} {cs:List Value} (h:Gr L E m v n cs) (x:Bool×Nat):Ke_ (.sl x) v=some (vi n):=by
 rcases h with h| ⟨rfl,rfl,b,rfl,-⟩
 ·exact h.len x
 ·rfl
theorem Gr.cell {L:za_} {E:TypeId} {m n:Nat} {v:Value} {cs:List Value} (h:Gr L E m v n cs):Value.oneCell' v=true∧v.cells= #[v]:=by
 rcases h with h| ⟨rfl,rfl,b,rfl,-⟩
 ·exact h.cell
 ·exact⟨rfl,rfl⟩
theorem Gr.key {L:za_} {E:TypeId} {m n:Nat} {v:Value} {cs:List Value} (h:Gr L E m v n cs) {b:Nat} (hb:slB v=some b):b∈keys L:=by
 rcases h with h| ⟨rfl,rfl,c,rfl,hl⟩
 ·rcases h.inv with⟨rfl,-,-⟩ | ⟨c,cc,rest,rfl,hl,-⟩
  ·cases hb
  ·cases hb;exact zo_ hl
 ·cases hb;exact zo_ hl
section
variable {α:Type} {m:Nat} {enc:α→List Value} {z:α} {w:World} {v:Value} {l:List α}
theorem Gr.slM {L:za_} {E:TypeId} {n:Nat} {cs:List Value} (h:Gr L E m v n cs) (hw: ∀b o,(b,o)∈L→w.heap[b]? =some o) (hl:l.length=n) (hcs:cs=(l.map enc).flatten) (hm: ∀x,(enc x).length=m):SlV m enc z w v l:=by
 rcases h with h| ⟨rfl,rfl,b,rfl,hlk⟩
 ·exact h.slM hw hl hcs hm
 ·obtain rfl:l= []:=List.eq_nil_of_length_eq_zero hl
  exact SlV.sl (l:=([]:List α)) (off:=0) (c:=0) (hw _ _ (zF_ hlk)) (fun k hk=>by simp at hk) (Nat.le_refl 0) (by simp)
theorem Gr.slV {L:za_} {E:TypeId} {n:Nat} {cs:List Value} {w0:World} (h:Gr L E m v n cs) (hw:Hp w0 L w) (hl:l.length=n) (hcs:cs=(l.map enc).flatten) (hm: ∀x,(enc x).length=m):SlV m enc z w v l:=h.slM hw.has hl hcs hm
theorem Zd_ (hm: ∀x,(enc x).length=m) (arr:Array Value): ∀ (ls:List α) (off:Nat),off+ls.length*m≤arr.size→(∀k j,k<ls.length→j<m→arr[off+k*m+j]? =(enc (ls.getD k z))[j]?)→
  (arr.extract off (off+ls.length*m)).toList=(ls.map enc).flatten
 | [],off,_,_=>by simp
 |r::ls,off,hs,h=>by
  have hlm: (r::ls).length*m=m+ls.length*m:=by rw[List.length_cons,Nat.add_mul,Nat.one_mul,Nat.add_comm]
  rw[hlm] at hs ⊢
  have ih:=Zd_ hm arr ls (off+m) (by omega) (fun k j hk hj=>by
   have:=h (k+1) j (by simpa using hk) hj
   rw[List.getD_cons_succ] at this
   rw[←this];congr 1;rw[Nat.add_mul,Nat.one_mul];omega)
  have h0: (arr.extract off (off+m)).toList=enc r:=by
   apply List.ext_getElem?
   intro j
   rw[Array.getElem?_toList,Array.getElem?_extract]
   by_cases hj:j<m
   ·rw[if_pos (by omega)]
    have:=h 0 j (by simp) hj
    simpa using this
   ·rw[if_neg (by omega),List.getElem?_eq_none (by rw[hm];omega)]
  rw[List.map_cons,List.flatten_cons,←ih,←h0,←Array.toList_append]
  congr 1
  rw[Array.extract_append_extract]
  congr 1<;>omega
theorem ki_ (hm: ∀x,(enc x).length=m) (l:List α): (l.map enc).flatten.length=l.length*m:=by
 induction l with
 |nil=>simp
 |cons x r ih=>rw[List.map_cons,List.flatten_cons,List.length_append,ih,hm,List.length_cons,Nat.add_mul,Nat.one_mul,Nat.add_comm]
theorem AppX.one1 {P:Program} {b:Nat} {E:TypeId} {fz:Nat×Nat} {cs:List Value} (hb:w.heap[b]? =some (.cells cs.toArray E fz)) (hm:cs.length=m) (h1:cs.all Value.oneCell'=true):AppX P w m (vsl b 0 1 1) 1 cs:=by
 refine AppX.block (w0:=w) (L:= []) (by rw[wa_];exact hb) (by simp;omega) ?_ h1 (Hp.refl w)
 rw[List.extract_toArray,List.extract_eq_take_drop,List.drop_zero,List.take_of_length_le (by omega)]
theorem SlV.appX {P:Program} (h:SlV m enc z w v l) (hm: ∀x,(enc x).length=m) (h1: ∀x,(enc x).all Value.oneCell'=true):AppX P w m v l.length (l.map enc).flatten:=by
 obtain⟨b,off,c,arr,E,fz,hr,hc,hv⟩:=h
 rcases hv with⟨rfl,rfl,rfl⟩ | ⟨rfl,hhas,hsz⟩
 ·exact AppX.nil P w m
 ·refine AppX.block (w0:=w) (L:= []) (by rw[wa_];exact hhas) hsz (Zd_ (z:=z) hm arr l off hsz (fun k j hk hj=>hr.get k hk j hj)) ?_ (Hp.refl w)
  rw[List.all_flatten,List.all_map,List.all_eq_true]
  exact fun r _=>h1 r
end
section
variable {P:Program} {w0:World} {f:Fr} {L:za_} {N:Fr→za_→Prop} {ops:Array Oper} {rest:List Oper} {md:Md}
 {d:Option Tmp} {ty:TypeId} {ps:String} {af:Array Edge} {g:Option (Nat×Bool)}
theorem Ow.appendG {ts tx e:TypeId} {m:Bool×Nat} {z:Value} {s x:Operand} {n k:Nat} {cs new:List Value} {dx:TypeDesc} {md':Md} (sv:Value) (hsv:ev f s=sv) (he:md.turn=some md')
  (hs:zk_ ops f ⟨d, .call ⟨.builtin .append, #[s,x], #[ts,tx]⟩,ty,ps,af,g⟩=false)
  (hu:P.underlying ts=some (.slice e)) (hm:qr_ P e=some m) (hi:kq_ P e=true) (hz:qd_ P e=some z) (hzs:z.cells.size=m.2) (hux:P.underlying tx=some dx) (hnx: ∀k,dx≠ .int k)
  (hB:Gr L e m.2 sv n cs) (hX: ∀w,Hp w0 L w→AppX P w m.2 (ev f x) k new) (hlen:new.length=k*m.2) (hbig:2* (n+k)+768≤2^38)
  (hn: ∀v' L',Gr L' e m.2 v' (n+k) (cs++new)→(0<k→Buf L' e m.2 v' (n+k) (cs++new))→Grew w0 sv L L'→(slB v'=slB sv∨ ∃c,slB v'=some c∧jS_ L c)→Ow P w0 ops md' rest (qj_ f d v') L' N):
  Ow P w0 ops md (⟨d, .call ⟨.builtin .append, #[s,x], #[ts,tx]⟩,ty,ps,af,g⟩::rest) f L N:=by
 rcases hB with hB| ⟨rfl,rfl,b,rfl,hlk⟩
 ·exact Ow.append sv hsv he hs hu hm hi hz hzs hux hnx hB hX hbig fun v' L' h1 h2 h3=>hn v' L' (.inl h1) (fun _=>h1) h2 h3
 ·refine Ow.appendEm hsv he hs hu hm hi hz hzs hux hnx hX hbig (fun h0=> ?_) (fun v' L' hk h1 h2 h3=> ?_)
  ·subst h0
   obtain rfl:new= []:=List.eq_nil_of_length_eq_zero (by rw[hlen,Nat.zero_mul])
   exact hn _ L (.inr ⟨rfl,rfl,b,rfl,hlk⟩) (fun h=>absurd h (Nat.lt_irrefl 0)) (Grew.refl _ _ _) (.inl rfl)
  ·exact hn v' L' (.inl h1) (fun _=>h1) (h2.any rfl) (.inr h3)
end
end Go.Sx
namespace Go.Sx
open Go
theorem New.of_le {n:Nat}: ∀ {D:za_},(∀c,c∈keys D→n≤c)→New n D
 | [],_=>trivial
 | (b,o)::r,h=>⟨h b (by simp[keys]),New.of_le fun c hc=>h c (by simp only[keys,List.map_cons,List.mem_cons] at hc ⊢;exact .inr hc)⟩
theorem Ext.new0 {w:World} {D:za_} (h:Ext w [] D):New w.heap.size D:=by
 have hn:=h.new
 have key: ∀ (D:za_),(∀c,c∈Sx.keys D→w.heap.size≤c)→New w.heap.size D:=by
  intro D
  induction D with
  |nil=>intro _;trivial
  |cons p r ih=>
   obtain⟨b,o⟩:=p
   intro hh
   exact⟨hh b (by simp[Sx.keys]),ih fun c hc=>hh c (by simp only[Sx.keys,List.map_cons,List.mem_cons] at hc ⊢;exact .inr hc)⟩
 refine key D fun c hc=> ?_
 rcases hn c hc with h1|h1
 ·cases h1
 ·exact h1
theorem Ext.of_new {w:World} {D:za_} (h:New w.heap.size D):Ext w [] D:=⟨fun c hc=> .inr (h.le c hc),fun c hc=>by cases hc⟩
section
variable {P:Program} {w0:World} {f:Fr} {L:za_} {N:Fr→za_→Prop} {K:j1_} {ops:Array Oper} {rest:List Oper} {md:Md}
 {d:Option Tmp} {ty:TypeId} {ps:String} {af:Array Edge} {g:Option (Nat×Bool)}
theorem vJ_ {b:Nat} {o:Obj}: ∀ {B:za_},(keys B).Nodup→(b,o)∈B→look B b=some o
 | [],_,h=>by cases h
 | (c,x)::q,hn,h=>by
  simp only[keys,List.map_cons,List.nodup_cons] at hn
  unfold look
  rcases List.mem_cons.1 h with h|h
  ·cases h;rw[if_pos rfl]
  ·have:c≠b:=fun e=>hn.1 (e▸List.mem_map.2 ⟨_,h,rfl⟩)
   rw[if_neg this]
   exact vJ_ hn.2 h
theorem SR.perm {R:List Nat} {M:za_} (h:M.Perm L) (hn: (keys L).Nodup):SR w0 R M=SR w0 R L:=by
 refine vd_ fun r _=> ?_
 have hk: ∀ (A B:za_),A.Perm B→(keys B).Nodup→ ∀o,look A r=some o→look B r=some o:=fun A B hp hB o ho=>vJ_ hB (hp.mem_iff.1 (zF_ ho))
 have hnM: (keys M).Nodup:=(List.Perm.nodup_iff (h.map Prod.fst)).2 hn
 unfold zy_
 cases hl:look L r with
 |some o=>rw[hk L M h.symm hnM o hl]
 |none=>
  cases hm:look M r with
  |none=>rfl
  |some o=>rw[hk M L h hn o hm] at hl;cases hl
theorem OwD.permL {l:List Oper} {listed:List Bool} {n:Nat} {R ts:List Nat} {a d:Nat} {z:Obj} {M:za_} (hp:M.Perm L) (h:OwD P w0 l R ts a d z n listed f M N):OwD P w0 l R ts a d z n listed f L N:=by
 refine⟨fun w hw=> ?_,fun b w hb hbL hw=> ?_⟩
 ·have:=h.1 w (hw.perm hp)
  rw[SR.perm hp hw.nodup] at this
  exact this
 ·have hnd: (keys L).Nodup:=by
   have:=hw.nodup
   rw[zS_,List.nodup_append] at this
   exact this.1
  have:=h.2 b w hb (fun hm=>hbL (by have:=(hp.map Prod.fst).mem_iff.1 hm;exact this)) (hw.perm (hp.append_right _))
  rw[SR.perm hp hnd] at this
  exact this
theorem Cw.permL {c:Code} {M:za_} (hp:M.Perm L) (h:Cw P w0 c f M K):Cw P w0 c f L K:=fun w hw=>h w (hw.perm hp)
theorem Ow.permL {M:za_} {l:List Oper} (hp:M.Perm L) (h:Ow P w0 ops .seq l f M N):Ow P w0 ops .seq l f L N:=fun w hw=>h w (hw.perm hp)
theorem Ow.callC {l:List Operand} {ts:Array TypeId} {k:FuncId} {S:Value→za_→Prop} {md':Md} (he:md.turn=some md')
  (hs:zk_ ops f ⟨d, .call ⟨.value (.func k),l.toArray,ts⟩,ty,ps,af,g⟩=false)
  (hk: ∀a w,(callFunc k a).run P w= .ok (.enter k a) w)
  (hc: ∀w,Hp w0 L w→Rets P k (l.map (ev f)).toArray w (XS w [] S))
  (hn: ∀B v D,jS_ L B→w0.heap.size≤B→New B D→S v D→Ow P w0 ops md' rest (qj_ f d v) (L++D) N):
  Ow P w0 ops md (⟨d, .call ⟨.value (.func k),l.toArray,ts⟩,ty,ps,af,g⟩::rest) f L N:=
 Ow.callN he hs hk (S:=fun B v D=>New B D∧S v D) (fun w hw=>(hc w hw).mono fun _v _D h=>⟨h.1.new0,h.2⟩) (fun _ _ _ h=>h.1) (fun B v D hA hB hS=>hn B v D hA hB hS.1 hS.2)
theorem Hp.part {w:World} {X Y:za_} (h:Hp w0 (X++Y) w):Hp w X w:=
 ⟨fun b o hm=>h.has b o (List.mem_append_left _ hm),by have:=h.nodup;rw[zS_,List.nodup_append] at this;exact this.1,fun _ _ _=>rfl,Nat.le_refl _,rfl,rfl,rfl⟩
theorem Hp.join {w w':World} {X Y D:za_} (h:Hp w0 (X++Y) w) (k:Hp w D w') (h1: ∀c,c∈keys X→c∈keys D) (h2: ∀c,c∈keys D→c∈keys X∨w.heap.size≤c):Hp w0 (D++Y) w':=by
 have hnd:=h.nodup
 rw[zS_,List.nodup_append] at hnd
 have hY: ∀c,c∈keys Y→c∉keys D:=by
  intro c hc hd
  rcases h2 c hd with hx|hx
  ·exact hnd.2.2 c hx c hc rfl
  ·have:=h.lt (b:=c) (by rw[zS_];exact List.mem_append_right _ hc)
   omega
 have ht:=h.trans k
 have e: (X++Y).filter (fun p=> !(keys D).contains p.1)=Y:=by
  rw[List.filter_append,xo_ hY]
  have:X.filter (fun p=> !(keys D).contains p.1)= []:=by
   rw[List.filter_eq_nil_iff]
   intro p hp
   have:=h1 p.1 (List.mem_map.2 ⟨p,hp,rfl⟩)
   simp[this]
  rw[this,List.nil_append]
 rw[e] at ht
 exact ht.perm List.perm_append_comm
end
def GrI (D:za_) (E:TypeId) (m:Nat) (v:Value) (n:Nat) (cs:List Value):Prop:= ∃X,(∀p,p∈X→p∈D)∧Gr X E m v n cs
theorem Gr.i {X D:za_} {E:TypeId} {m n:Nat} {v:Value} {cs:List Value} (h:Gr X E m v n cs) (hX: ∀p,p∈X→p∈D):GrI D E m v n cs:=⟨X,hX,h⟩
theorem GrI.mono {D D':za_} {E:TypeId} {m n:Nat} {v:Value} {cs:List Value} (h:GrI D E m v n cs) (hX: ∀p,p∈D→p∈D'):GrI D' E m v n cs:=by
 obtain⟨X,h1,h2⟩:=h;exact⟨X,fun p hp=>hX p (h1 p hp),h2⟩
theorem GrI.slV {α:Type} {m:Nat} {enc:α→List Value} {z:α} {w0 w:World} {v:Value} {l:List α} {D:za_} {E:TypeId} {n:Nat} {cs:List Value} (h:GrI D E m v n cs) (hw:Hp w0 D w) (hl:l.length=n) (hcs:cs=(l.map enc).flatten) (hm: ∀x,(enc x).length=m):SlV m enc z w v l:=by
 obtain⟨X,h1,h2⟩:=h
 exact h2.slM (fun b o hm=>hw.has b o (h1 _ hm)) hl hcs hm
section
variable {P:Program} {w0:World} {f:Fr} {L:za_} {N:Fr→za_→Prop}
theorem aap_ {L _M:za_} {b:Nat} {o:Obj} (h:b∉keys L):look (L++ [(b,o)]) b=some o:=by
 rw[xd_ h];exact jg_ _ _ _
theorem JN_ {b:Nat} {o x:Obj}: ∀ {L:za_},b∉keys L→setB (L++ [(b,o)]) b x=L++ [(b,x)]
 | [],_=>by rw[List.nil_append,kz_];rfl
 | (c,y)::r,h=>by
  simp only[keys,List.map_cons,List.mem_cons,not_or] at h
  rw[List.cons_append,kZ_ _ _ _ _ _ (Ne.symm h.1),JN_ (by simpa [keys] using h.2)];rfl
end
end Go.Sx
namespace Go.Sx
open Go
theorem wb_ {P:Program} {t e:TypeId} {m:Nat} {zc:Array Value} {cs:List Value} (hu:P.underlying t=some (.slice e)) (ha:qr_ P e=some (true,m)) (hz:qd_ P e=some (.agg zc)) (hm:0<m∧m≤16777216) (hc:cs.length=m):
  QR_ P t 1 [(0, .agg cs.toArray)]=some (e,cs.toArray):=by
 have h2:Value.cells (.agg cs.toArray)=cs.toArray:=zg_ _
 have hg: ¬ (1*m>2^24):=by simp;omega
 have h0: ¬ (1*m=0):=by omega
 simp only[QR_,hu,ha,hz,Option.map_some]
 rw[if_neg hg,if_neg h0]
 simp only
 generalize hI: (Array.range (1*m)).map (fun x=>(Value.cells (.agg zc))[x% (Value.cells (.agg zc)).size]!)=I
 have hIs:I.size=m:=by rw[←hI];simp
 have hfl:Instr.fill (fun i=>some (i*m,m)) I [(0,Value.agg cs.toArray)]=some cs.toArray:=by
  unfold Instr.fill
  have s3:cs.toArray.size=m:=by simp[hc]
  simp only[h2,s3,hIs,Nat.zero_mul,ne_eq,not_true_eq_false,decide_false,Bool.false_or,Nat.zero_add,Nat.lt_irrefl,gt_iff_lt,Bool.false_eq_true, ↓reduceIte]
  unfold Instr.fill
  congr 1
  have hz:=wJ_ cs 0 0 I
  rw[Nat.add_zero,abJ_ I cs (by rw[hc,hIs])] at hz
  simp only[Nat.zero_add] at hz
  rw[←Array.foldl_toList,Array.toList_zipIdx]
  exact hz
 rw[hfl]
 rfl
end Go.Sx
namespace Go.Sx
open Go
abbrev ltB (a b:List UInt8):Bool:=Op.bytesLess a b
theorem Zg_: ∀ (x y:List UInt8),ltB x y=decide (x<y)
 | [],[]=>by simp[ltB,Op.bytesLess]
 |_::_,[]=>by simp[ltB,Op.bytesLess]
 | [],_::_=>by simp[ltB,Op.bytesLess]
 |a::x,b::y=>by
  have ih:=Zg_ x y
  simp only[ltB] at ih ⊢
  rw[Op.bytesLess,ih]
  simp only[List.cons_lt_cons_iff]
  by_cases h1:a<b<;>by_cases h2:a=b<;>by_cases h3:x<y<;>simp[h1,h2,h3]
theorem qp_ (a:List UInt8):ltB a a=false:=by
 rw[Zg_];simp
theorem q1_ {a b c:List UInt8} (h:ltB a b=true) (k:ltB b c=true):ltB a c=true:=by
 rw[Zg_,decide_eq_true_eq] at*
 exact List.lt_trans h k
theorem QA_ {a b:List UInt8} (h:ltB a b=true):ltB b a=false:=by
 cases hb:ltB b a
 ·rfl
 ·have:=q1_ h hb
  rw[qp_] at this;cases this
theorem ac6_ {a b:List UInt8} (h:ltB a b=true):a≠b:=by
 rintro rfl
 rw[qp_] at h;cases h
theorem kE_ {a b:List UInt8} (h:ltB a b=false) (hne:a≠b):ltB b a=true:=by
 rw[Zg_,decide_eq_false_iff_not] at h
 rw[Zg_,decide_eq_true_eq]
 rcases Std.Trichotomous.rel_or_eq_or_rel_swap (r:=(· < · :List UInt8→List UInt8→Prop)) (a:=a) (b:=b) with h1|h1|h1
 ·exact absurd h1 h
 ·exact absurd h1 hne
 ·exact h1
end Go.Sx
namespace Go.StP
open Go Go.Sx
variable {α:Type} (key:α→List UInt8)
def lt (a b:α):Bool:=ltB (key a) (key b)
def Sorted (l:List α):Prop:=l.Pairwise fun a b=>lt key b a=false
def of (k:List UInt8) (l:List α):List α:=l.filter fun a=>key a==k
def St (l l':List α):Prop:= ∀k,of key k l'=of key k l
theorem St.refl (l:List α):St key l l:=fun _=>rfl
variable {key}
theorem St.trans {a b c:List α} (h:St key a b) (h':St key b c):St key a c:=fun k=>(h' k).trans (h k)
theorem St.symm {a b:List α} (h:St key a b):St key b a:=fun k=>(h k).symm
theorem aby_ (k:List UInt8) (a b:List α):of key k (a++b)=of key k a++of key k b:=List.filter_append ..
theorem St.app {a a' b b':List α} (h:St key a a') (h':St key b b'):St key (a++b) (a'++b'):=fun k=>by rw[aby_,aby_,h,h']
theorem ahO_ {k:List UInt8} {l:List α} {x:α}:x∈of key k l↔x∈l∧key x=k:=by
 unfold of;rw[List.mem_filter];simp
theorem St.mem {a b:List α} (h:St key a b) (x:α):x∈b↔x∈a:=by
 have e:=h (key x)
 have h1:x∈b↔x∈of key (key x) b:=by rw[ahO_];simp
 have h2:x∈a↔x∈of key (key x) a:=by rw[ahO_];simp
 rw[h1,h2,e]
theorem adj_ {k:List UInt8} {l:List α} (h: ∀x,x∈l→key x≠k):of key k l= []:=by
 unfold of
 rw[List.filter_eq_nil_iff]
 intro x hx
 simpa using h x hx
theorem St.swap {a b:List α} (h: ∀x,x∈a→ ∀y,y∈b→key x≠key y):St key (a++b) (b++a):=by
 intro k
 rw[aby_,aby_]
 by_cases ha: ∃x,x∈a∧key x=k
 ·obtain⟨x,hx,rfl⟩:=ha
  have:of key (key x) b= []:=adj_ fun y hy e=>h x hx y hy e.symm
  rw[this,List.append_nil,List.nil_append]
 ·have:of key k a= []:=adj_ fun x hx e=>ha ⟨x,hx,e⟩
  rw[this,List.append_nil,List.nil_append]
theorem ah2_ {a b:α} (h:lt key a b=true):key a≠key b:=ac6_ h
theorem lt_trans {a b c:α} (h:lt key a b=true) (k:lt key b c=true):lt key a c=true:=q1_ h k
theorem XG_ {a b:α} (h:lt key a b=true):lt key b a=false:=QA_ h
theorem lt_irrefl (a:α):lt key a a=false:=qp_ _
theorem alH_ {a b:α} (h:lt key a b=false) (k:lt key b a=false):key a=key b:=by
 cases hk:decide (key a=key b)
 ·have hne:key a≠key b:=of_decide_eq_false hk
  have:=kE_ h hne
  unfold lt at k
  rw[this] at k;cases k
 ·exact of_decide_eq_true hk
theorem v6_ {a b c:α} (h:lt key b a=false) (k:lt key c b=false):lt key c a=false:=by
 cases hc:lt key c a
 ·rfl
 ·by_cases e:key b=key c
  ·unfold lt at*
   rw[e,hc] at h;cases h
  ·have h1:lt key b c=true:=by
    refine kE_ ?_ (fun e'=>e e'.symm)
    exact k
   have:=lt_trans h1 hc
   rw[h] at this;cases this
theorem vt_ {a b c:α} (h:lt key a b=true) (k:lt key c b=false):lt key a c=true:=by
 cases hc:lt key a c
 ·have:=v6_ (key:=key) (a:=b) (b:=c) (c:=a) k hc
  rw[h] at this;cases this
 ·rfl
theorem Jr_ {a b c:α} (h:lt key b a=false) (k:lt key b c=true):lt key a c=true:=by
 cases hc:lt key a c
 ·have:=v6_ (key:=key) (a:=c) (b:=a) (c:=b) hc h
  rw[k] at this;cases this
 ·rfl
theorem St.head {a b:α} {l l':List α} (hs:Sorted key (a::l)) (hs':Sorted key (b::l')) (h:St key (a::l) (b::l')):a=b∧St key l l':=by
 have h1:lt key b a=false:=by
  have hb:b∈a::l:=(h.mem b).1 List.mem_cons_self
  rcases List.mem_cons.1 hb with rfl|hb
  ·exact lt_irrefl _
  ·exact(List.pairwise_cons.1 hs).1 b hb
 have h2:lt key a b=false:=by
  have ha:a∈b::l':=(h.mem a).2 List.mem_cons_self
  rcases List.mem_cons.1 ha with rfl|ha
  ·exact lt_irrefl _
  ·exact(List.pairwise_cons.1 hs').1 a ha
 have hk:key a=key b:=alH_ h2 h1
 have he:=h (key a)
 unfold of at he
 rw[List.filter_cons,List.filter_cons,if_pos (by simp[hk]),if_pos (by simp)] at he
 have hab:b=a:=(List.cons.inj he).1
 refine⟨hab.symm,fun k=> ?_⟩
 have hk':=h k
 subst hab
 unfold of at hk' ⊢
 rw[List.filter_cons,List.filter_cons] at hk'
 split at hk'
 ·exact(List.cons.inj hk').2
 ·exact hk'
theorem St.eq: ∀ {l l':List α},Sorted key l→Sorted key l'→St key l l'→l=l'
 | [],[],_,_,_=>rfl
 | [],b::l',_,_,h=>by
  have:b∈ ([]:List α):=(h.mem b).1 List.mem_cons_self
  cases this
 |a::l,[],_,_,h=>by
  have:a∈ ([]:List α):=(h.mem a).2 List.mem_cons_self
  cases this
 |a::l,b::l',hs,hs',h=>by
  obtain⟨rfl,h'⟩:=St.head hs hs' h
  rw[St.eq (List.pairwise_cons.1 hs).2 (List.pairwise_cons.1 hs').2 h']
theorem Sorted.app {a b:List α} (ha:Sorted key a) (hb:Sorted key b) (h: ∀x,x∈a→ ∀y,y∈b→lt key y x=false):Sorted key (a++b):=
 List.pairwise_append.2 ⟨ha,hb,h⟩
theorem Sorted.left {a b:List α} (h:Sorted key (a++b)):Sorted key a:=(List.pairwise_append.1 h).1
theorem Sorted.right {a b:List α} (h:Sorted key (a++b)):Sorted key b:=(List.pairwise_append.1 h).2.1
theorem Sorted.cross {a b:List α} (h:Sorted key (a++b)): ∀x,x∈a→ ∀y,y∈b→lt key y x=false:=(List.pairwise_append.1 h).2.2
theorem abW_ {a b:List α} {x:α} (h:Sorted key (a++b)) (hb: ∀y,y∈b→lt key x y=true) (ha: ∀y,y∈a→lt key x y=false):Sorted key (a++x::b)∧St key (a++b++ [x]) (a++x::b):=by
 refine⟨Sorted.app h.left (List.pairwise_cons.2 ⟨fun y hy=>XG_ (hb y hy),h.right⟩) ?_, ?_⟩
 ·intro y hy z hz
  rcases List.mem_cons.1 hz with rfl|hz
  ·exact ha y hy
  ·exact h.cross y hy z hz
 ·rw[List.append_assoc]
  refine St.app (St.refl key a) ?_
  exact St.swap (a:=b) (b:= [x]) fun y hy z hz=>by
   rw[List.mem_singleton] at hz
   subst hz
   exact fun e=>ah2_ (hb y hy) e.symm
end Go.StP
namespace Go.Sx
open Go
section
variable {α:Type} (enc:α→List Value)
def rowO (E:TypeId) (rest:List Value) (d:List α):Obj:= .cells ((d.map enc).flatten++rest).toArray E (0,0)
variable {enc} {m:Nat} {E:TypeId} {rest:List Value} {d:List α} {z:α}
theorem K8_ (hm: ∀x,(enc x).length=m) {k:Nat} (hk:k<d.length): ∃A C,(d.map enc).flatten++rest=A++ (enc (d.getD k z)++C)∧A.length=k*m∧ ∀x,((d.set k x).map enc).flatten++rest=A++ (enc x++C):=by
 refine⟨((d.take k).map enc).flatten,((d.drop (k+1)).map enc).flatten++rest, ?_, ?_,fun x=> ?_⟩
 ·have e:d=d.take k++d.getD k z::d.drop (k+1):=by
   rw[List.getD_eq_getElem?_getD,List.getElem?_eq_getElem hk,Option.getD_some,List.getElem_cons_drop,List.take_append_drop]
  have e2:=congrArg (fun l=>(l.map enc).flatten++rest) e
  simp only[List.map_append,List.map_cons,List.flatten_append,List.flatten_cons,List.append_assoc] at e2
  exact e2
 ·rw[ki_ hm,List.length_take,Nat.min_eq_left (Nat.le_of_lt hk)]
 ·have e:d.set k x=d.take k++x::d.drop (k+1):=List.set_eq_take_append_cons_drop.trans (by rw[if_pos hk])
  rw[e]
  simp only[List.map_append,List.map_cons,List.flatten_append,List.flatten_cons,List.append_assoc]
theorem abL_ (hm: ∀x,(enc x).length=m) (k:Nat) (hk:k<d.length):zn_ (some (true,m)) (some (rowO enc E rest d)) (k*m)=some (.agg (enc (d.getD k z)).toArray):=by
 obtain⟨A,C,e,hA,-⟩:=K8_ (z:=z) (rest:=rest) hm hk
 unfold rowO
 rw[e]
 exact x8_ A _ C E (0,0) hA (hm _)
theorem Ks_ (hm: ∀x,(enc x).length=m) (h1: ∀x,(enc x).all Value.oneCell'=true) (k:Nat) (x:α) (a:Bool) (hk:k<d.length):
  zl_ (some (a,m)) (some (rowO enc E rest d)) (k*m) (.agg (enc x).toArray)=some (rowO enc E rest (d.set k x)):=by
 obtain⟨A,C,e,hA,e2⟩:=K8_ (z:=x) (rest:=rest) hm hk
 unfold rowO
 rw[e,e2 x]
 exact zY_ A _ _ C a _ E hA (hm _) (zg_ _) (hm _) (h1 _)
end
section
variable {P:Program} {w0:World} {f:Fr} {L:za_} {N:Fr→za_→Prop} {ops:Array Oper} {rest:List Oper} {md:Md} {d:Option Tmp} {ty:TypeId} {ps:String} {af:Array Edge} {g:Option (Nat×Bool)}
theorem Ow.callFn2 {x y y2:Operand} {ts:Array TypeId} {k:FuncId} {v a a2:Value} (hs:zk_ ops f ⟨d, .call ⟨.value x, #[y,y2],ts⟩,ty,ps,af,g⟩=false) (hx:ev f x= .func (.func k) #[] #[]) (hy:ev f y=a) (hy2:ev f y2=a2)
  (hk: ∀a w,(callFunc k a).run P w= .ok (.enter k a) w) (hc: ∀w,Hp w0 L w→Rets P k #[a,a2] w (fun v' D=>v'=v∧D= [])) (hn:Ow P w0 ops md.next rest (qj_ f d v) L N):
  Ow P w0 ops md (⟨d, .call ⟨.value x, #[y,y2],ts⟩,ty,ps,af,g⟩::rest) f L N:=
 Ow.callV hs hx hk (fun w hw=>by simpa [hy,hy2] using hc w hw) hn
end
end Go.Sx
namespace Go.StP
open Go Go.Sx
variable {α:Type} {key:α→List UInt8} {z:α}
theorem qq_ {a b:List α} {k:Nat} (h:k<a.length): (a++b).getD k z=a.getD k z:=by
 rw[List.getD_eq_getElem?_getD,List.getD_eq_getElem?_getD,List.getElem?_append_left h]
theorem qf_ {a b:List α} {k:Nat} (h:a.length≤k): (a++b).getD k z=b.getD (k - a.length) z:=by
 rw[List.getD_eq_getElem?_getD,List.getD_eq_getElem?_getD,List.getElem?_append_right h]
theorem vg_ {l:List α} {x:α} (h:x∈l): ∃k,k<l.length∧l.getD k z=x:=by
 obtain⟨k,hk,rfl⟩:=List.mem_iff_getElem.1 h
 exact⟨k,hk,by rw[List.getD_eq_getElem?_getD,List.getElem?_eq_getElem hk];rfl⟩
theorem wm_ {l:List α} {k n:Nat} (h:k<n): (l.take n).getD k z=l.getD k z:=by
 rw[List.getD_eq_getElem?_getD,List.getD_eq_getElem?_getD,List.getElem?_take,if_pos h]
theorem vU_ {l:List α} {k n:Nat}: (l.drop n).getD k z=l.getD (n+k) z:=by
 rw[List.getD_eq_getElem?_getD,List.getD_eq_getElem?_getD,List.getElem?_drop]
theorem jN_ {l:List α} {k:Nat} (h:k<l.length):l.drop k=l.getD k z::l.drop (k+1):=by
 rw[List.getD_eq_getElem?_getD,List.getElem?_eq_getElem h]
 exact List.drop_eq_getElem_cons h
theorem take_snoc {l:List α} {k:Nat} (h:k<l.length):l.take (k+1)=l.take k++ [l.getD k z]:=by
 rw[List.getD_eq_getElem?_getD,List.getElem?_eq_getElem h]
 exact List.take_succ_eq_append_getElem h
theorem Sorted.at_ {l:List α} (h:Sorted key l) {i j:Nat} (hij:i≤j) (hj:j<l.length):lt key (l.getD j z) (l.getD i z)=false:=by
 rcases Nat.lt_or_eq_of_le hij with h1|rfl
 ·have:=List.pairwise_iff_getElem.1 h i j (by omega) hj h1
  rw[List.getD_eq_getElem?_getD,List.getD_eq_getElem?_getD,List.getElem?_eq_getElem hj,List.getElem?_eq_getElem (show i<l.length by omega)]
  exact this
 ·exact lt_irrefl _
theorem Sorted.take_lt {l:List α} (h:Sorted key l) {k:Nat} {x:α} (hk:k≤l.length) (hx:k=0∨lt key (l.getD (k - 1) z) x=true): ∀y,y∈l.take k→lt key y x=true:=by
 intro y hy
 obtain⟨i,hi,rfl⟩:=vg_ (z:=z) hy
 rw[List.length_take,Nat.min_eq_left hk] at hi
 rw[wm_ hi]
 rcases hx with rfl|hx
 ·omega
 ·exact Jr_ (h.at_ (by omega) (by omega)) hx
theorem Sorted.take_le {l:List α} (h:Sorted key l) {k:Nat} {x:α} (hk:k≤l.length) (hx:k=0∨lt key x (l.getD (k - 1) z)=false): ∀y,y∈l.take k→lt key x y=false:=by
 intro y hy
 obtain⟨i,hi,rfl⟩:=vg_ (z:=z) hy
 rw[List.length_take,Nat.min_eq_left hk] at hi
 rw[wm_ hi]
 rcases hx with rfl|hx
 ·omega
 ·exact v6_ (h.at_ (by omega) (by omega)) hx
theorem Sorted.drop_gt {l:List α} (h:Sorted key l) {k:Nat} {x:α} (hx:l.length≤k∨lt key x (l.getD k z)=true): ∀y,y∈l.drop k→lt key x y=true:=by
 intro y hy
 obtain⟨i,hi,rfl⟩:=vg_ (z:=z) hy
 rw[List.length_drop] at hi
 rw[vU_]
 rcases hx with hx|hx
 ·omega
 ·exact vt_ hx (h.at_ (by omega) (by omega))
theorem Sorted.drop_ge {l:List α} (h:Sorted key l) {k:Nat} {x:α} (hx:l.length≤k∨lt key (l.getD k z) x=false): ∀y,y∈l.drop k→lt key y x=false:=by
 intro y hy
 obtain⟨i,hi,rfl⟩:=vg_ (z:=z) hy
 rw[List.length_drop] at hi
 rw[vU_]
 rcases hx with hx|hx
 ·omega
 ·exact v6_ hx (h.at_ (by omega) (by omega))
theorem adz_ {a c:List α} (u v:α) {i:Nat} (h:i=a.length): ((a++u::v::c).set i v).set (i+1) u=a++v::u::c:=by
 subst h
 rw[List.set_append_right _ _ (Nat.le_refl _),Nat.sub_self,List.set_cons_zero,List.set_append_right _ _ (by omega),show a.length+1 - a.length=1 by omega]
 rfl
theorem at_0 {a c:List α} (u:α) {i:Nat} (h:i=a.length): (a++u::c).getD i z=u:=by
 subst h
 rw[qf_ (Nat.le_refl _),Nat.sub_self];rfl
theorem at_1 {a c:List α} (u v:α) {i:Nat} (h:i=a.length+1): (a++u::v::c).getD i z=v:=by
 subst h
 rw[qf_ (by omega),show a.length+1 - a.length=1 by omega];rfl
def zV_ (a s:List α) (x:α) (b:List α) (k:Nat):List α:=a++ (s.take k++ (x:: (s.drop k++b)))
theorem q2_ (a s:List α) (x:α) (b:List α) (k:Nat): (zV_ a s x b k).length=a.length+s.length+1+b.length:=by
 unfold zV_;simp only[List.length_append,List.length_cons,List.length_take,List.length_drop];omega
theorem jP_ {a s:List α} {x:α} {b:List α} {k i:Nat} (hk:k≤s.length) (h:i=a.length+k): (zV_ a s x b k).getD i z=x:=by
 unfold zV_
 rw[←List.append_assoc]
 exact at_0 x (by simp only[List.length_append,List.length_take];omega)
theorem wW_ {a s:List α} {x:α} {b:List α} {k i:Nat} (hk:k<s.length) (h:i=a.length+k): (zV_ a s x b (k+1)).getD i z=s.getD k z:=by
 unfold zV_
 rw[take_snoc (z:=z) hk,List.append_assoc,List.singleton_append,←List.append_assoc]
 exact at_0 _ (by simp only[List.length_append,List.length_take];omega)
theorem afI_ {a s:List α} {x:α} {b:List α} {k i:Nat} (hk:k<s.length) (h:i=a.length+k+1): (zV_ a s x b k).getD i z=s.getD k z:=by
 unfold zV_
 rw[jN_ (z:=z) hk,←List.append_assoc,List.cons_append]
 exact at_1 x _ (by simp only[List.length_append,List.length_take];omega)
theorem abq_ {a s:List α} {x:α} {b:List α} {k h i:Nat} (hh:h<k) (hk:k≤s.length) (e:i=a.length+h): (zV_ a s x b k).getD i z=s.getD h z:=by
 subst e
 unfold zV_
 rw[qf_ (by omega),Nat.add_sub_cancel_left,qq_ (by rw[List.length_take];omega),wm_ hh]
theorem abl_ {a s:List α} {x:α} {b:List α} {k h i:Nat} (hh:k≤h) (hk:h<s.length) (e:i=a.length+1+h): (zV_ a s x b k).getD i z=s.getD h z:=by
 subst e
 unfold zV_
 rw[qf_ (by omega),qf_ (by rw[List.length_take];omega),List.length_take,show a.length+1+h - a.length - min k s.length=(h - k)+1 by omega,List.getD_cons_succ,qq_ (by rw[List.length_drop];omega),vU_,show k+ (h - k)=h by omega]
theorem vi_ {a s:List α} {x:α} {b:List α} {k i:Nat} (hk:k<s.length) (h:i=a.length+k): ((zV_ a s x b (k+1)).set i x).set (i+1) (s.getD k z)=zV_ a s x b k:=by
 unfold zV_
 rw[take_snoc (z:=z) hk,jN_ (z:=z) hk,List.append_assoc,List.singleton_append,←List.append_assoc,←List.append_assoc]
 rw[adz_ _ _ (by simp only[List.length_append,List.length_take];omega),List.cons_append]
theorem aa1_ {a s:List α} {x:α} {b:List α} {k i:Nat} (hk:k<s.length) (h:i=a.length+k): ((zV_ a s x b k).set i (s.getD k z)).set (i+1) x=zV_ a s x b (k+1):=by
 unfold zV_
 rw[take_snoc (z:=z) hk,jN_ (z:=z) hk,List.append_assoc,List.singleton_append,←List.append_assoc,←List.append_assoc,List.cons_append]
 rw[adz_ _ _ (by simp only[List.length_append,List.length_take];omega)]
theorem vO_ {l:List α} {i j:Nat} (h:i≠j) (u v:α): (l.set i u).set j v=(l.set j v).set i u:=List.set_comm _ _ h
theorem wd_ (a s:List α) (x:α) (b:List α) {k:Nat} (h:s.length≤k):zV_ a s x b k=a++ ((s++ [x])++b):=by
 unfold zV_
 rw[List.take_of_length_le h,List.drop_eq_nil_of_le h,List.nil_append,List.append_assoc,List.singleton_append]
theorem JX_ (a s:List α) (x:α) (b:List α):zV_ a s x b 0=a++ (([x]++s)++b):=by
 unfold zV_;rfl
theorem jO_ (a s:List α) (x:α) (b:List α) (k:Nat):zV_ a s x b k=a++ ((s.take k++x::s.drop k)++b):=by
 unfold zV_
 rw[List.append_assoc,List.cons_append]
theorem xD_ {s:List α} {x:α} {k:Nat} (hs:Sorted key s) (hk:k≤s.length) (h1:k=0∨lt key x (s.getD (k - 1) z)=false) (h2:s.length≤k∨lt key x (s.getD k z)=true):
  Sorted key (s.take k++x::s.drop k)∧St key (s++ [x]) (s.take k++x::s.drop k):=by
 have:=abW_ (a:=s.take k) (b:=s.drop k) (x:=x) (by rw[List.take_append_drop];exact hs) (hs.drop_gt h2) (hs.take_le hk h1)
 rwa [List.take_append_drop] at this
theorem vT_ {s:List α} {x:α} {k:Nat} (hs:Sorted key s) (hk:k≤s.length) (h1:k=0∨lt key (s.getD (k - 1) z) x=true) (h2:s.length≤k∨lt key (s.getD k z) x=false):
  Sorted key (s.take k++x::s.drop k)∧St key ([x]++s) (s.take k++x::s.drop k):=by
 have ht:=hs.take_lt hk h1
 have hd:=hs.drop_ge h2
 have hs':Sorted key (s.take k++s.drop k):=by rw[List.take_append_drop];exact hs
 refine⟨Sorted.app hs'.left (List.pairwise_cons.2 ⟨fun y hy=>hd y hy,hs'.right⟩) ?_, ?_⟩
 ·intro y hy w hw
  rcases List.mem_cons.1 hw with rfl|hw
  ·exact XG_ (ht y hy)
  ·exact hs'.cross y hy w hw
 ·have e: [x]++s=([x]++s.take k)++s.drop k:=by rw[List.append_assoc,List.take_append_drop]
  rw[e,show s.take k++x::s.drop k=(s.take k++ [x])++s.drop k by simp]
  refine St.app (St.swap fun y hy w hw=> ?_) (St.refl key _)
  rw[List.mem_singleton] at hy
  subst hy
  exact fun e=>ah2_ (ht w hw) e.symm
theorem KQ_ {l r:List α} {i j:Nat} {x1 x2:List α} (hl:Sorted key l) (hr:Sorted key r) (hi:i≤l.length) (hj:j≤r.length)
  (h1:j=0∨l.length≤i∨lt key (r.getD (j - 1) z) (l.getD i z)=true) (h2:i=0∨r.length≤j∨lt key (r.getD j z) (l.getD (i - 1) z)=false)
  (s1:Sorted key x1) (t1:St key (l.take i++r.take j) x1) (s2:Sorted key x2) (t2:St key (l.drop i++r.drop j) x2):Sorted key (x1++x2)∧St key (l++r) (x1++x2):=by
 have hl':Sorted key (l.take i++l.drop i):=by rw[List.take_append_drop];exact hl
 have hr':Sorted key (r.take j++r.drop j):=by rw[List.take_append_drop];exact hr
 have ha: ∀x,x∈r.take j→ ∀y,y∈l.drop i→lt key x y=true:=by
  intro x hx y hy
  rcases h1 with rfl|h1|h1
  ·cases hx
  ·rw[List.drop_eq_nil_of_le h1] at hy;cases hy
  ·have:=hr.take_lt (k:=j) (x:=l.getD i z) hj (.inr h1) x hx
   obtain⟨k,hk,rfl⟩:=vg_ (z:=z) hy
   rw[List.length_drop] at hk
   rw[vU_]
   exact vt_ this (hl.at_ (by omega) (by omega))
 have hb: ∀x,x∈l.take i→ ∀y,y∈r.drop j→lt key y x=false:=by
  intro x hx y hy
  rcases h2 with rfl|h2|h2
  ·cases hx
  ·rw[List.drop_eq_nil_of_le h2] at hy;cases hy
  ·have:=hr.drop_ge (k:=j) (x:=l.getD (i - 1) z) (.inr h2) y hy
   obtain⟨k,hk,rfl⟩:=vg_ (z:=z) hx
   rw[List.length_take,Nat.min_eq_left hi] at hk
   rw[wm_ hk]
   exact v6_ (hl.at_ (by omega) (by omega)) this
 refine⟨Sorted.app s1 s2 fun x hx y hy=> ?_, ?_⟩
 ·rw[t1.mem,List.mem_append] at hx
  rw[t2.mem,List.mem_append] at hy
  rcases hx with hx|hx<;>rcases hy with hy|hy
  ·exact hl'.cross x hx y hy
  ·exact hb x hx y hy
  ·exact XG_ (ha x hx y hy)
  ·exact hr'.cross x hx y hy
 ·have e:l++r=l.take i++ ((l.drop i++r.take j)++r.drop j):=by
   rw[List.append_assoc,List.take_append_drop,←List.append_assoc,List.take_append_drop]
  rw[e]
  refine St.trans (b:=l.take i++ ((r.take j++l.drop i)++r.drop j)) (St.app (St.refl key _) (St.app (St.swap fun x hx y hy e=>ah2_ (ha y hy x hx) e.symm) (St.refl key _))) ?_
  rw[show l.take i++ ((r.take j++l.drop i)++r.drop j)=(l.take i++r.take j)++ (l.drop i++r.drop j) by simp only[List.append_assoc]]
  exact St.app t1 t2
end Go.StP
section
open Go Go.Proofs Go.Sx Go.StP
namespace Go.Proofs
set_option maxRecDepth 10000
set_option maxHeartbeats 4000000
set_option linter.unusedSimpArgs false
structure EntL where
 name:List UInt8
 kind:Int
 id:IdL
def vQ_ (r:EntL):List Value:= [vs r.name]++ ([vi r.kind]++ (r.id.l.map v8))
def ent0:EntL:=⟨[],0,id0⟩
theorem Xu_ (r:EntL): (vQ_ r).length=34:=by simp[vQ_,r.id.h]
theorem qa_ (r:EntL):Value.cells (.agg (vQ_ r).toArray)=(vQ_ r).toArray:=zg_ _
theorem agC_ (r:EntL): (vQ_ r).all Value.oneCell'=true:=by
 unfold vQ_
 simp only[List.all_append,List.all_cons,List.all_nil,Z3_,Bool.and_true,Bool.true_and]
 rfl
theorem aas_ (r:EntL):vQ_ r=([]:List Value)++ (([vs r.name])++ ([vi r.kind]++ (r.id.l.map v8))):=by
 unfold vQ_;simp only[List.append_assoc,List.nil_append,List.append_nil]
theorem xs_ (r:EntL) (n:Nat) (E:TypeId) (fz:Nat×Nat):zn_ (some (false,n)) (some (.cells (vQ_ r).toArray E fz)) 0=some (vs r.name):=by
 rw[aas_];exact qG_ _ _ _ n E fz (by simp)
theorem J3_ (r:EntL) (x:List UInt8) (a:Bool) (E:TypeId):zl_ (some (a,1)) (some (.cells (vQ_ r).toArray E (0,0))) 0 (vs x)=some (.cells (vQ_ {r with name:=x}).toArray E (0,0)):=by
 rw[aas_ r,aas_ {r with name:=x}];exact zY_ _ _ _ _ a _ E (by simp) rfl (rfl) rfl (rfl)
theorem WS_ (r:EntL):vQ_ r=(([vs r.name]))++ (([vi r.kind])++ (r.id.l.map v8)):=by
 unfold vQ_;simp only[List.append_assoc,List.nil_append,List.append_nil]
theorem xQ_ (r:EntL) (n:Nat) (E:TypeId) (fz:Nat×Nat):zn_ (some (false,n)) (some (.cells (vQ_ r).toArray E fz)) 1=some (vi r.kind):=by
 rw[WS_];exact qG_ _ _ _ n E fz (by simp)
theorem Xd_ (r:EntL) (x:Int) (a:Bool) (E:TypeId):zl_ (some (a,1)) (some (.cells (vQ_ r).toArray E (0,0))) 1 (vi x)=some (.cells (vQ_ {r with kind:=x}).toArray E (0,0)):=by
 rw[WS_ r,WS_ {r with kind:=x}];exact zY_ _ _ _ _ a _ E (by simp) rfl (rfl) rfl (rfl)
theorem W7_ (r:EntL):vQ_ r=(([vs r.name])++ ([vi r.kind]))++ ((r.id.l.map v8)++ (([]:List Value))):=by
 unfold vQ_;simp only[List.append_assoc,List.nil_append,List.append_nil]
theorem xP_ (r:EntL) (E:TypeId) (fz:Nat×Nat):zn_ (some (true,32)) (some (.cells (vQ_ r).toArray E fz)) 2=some (Value.agg (a8 r.id.l)):=by
 rw[W7_,x8_ _ _ _ E fz (by simp) (by simp[r.id.h])];rfl
theorem Xg_ (r:EntL) (x:IdL) (a:Bool) (E:TypeId):zl_ (some (a,32)) (some (.cells (vQ_ r).toArray E (0,0))) 2 (Value.agg (a8 x.l))=some (.cells (vQ_ {r with id:=x}).toArray E (0,0)):=by
 rw[W7_ r,W7_ {r with id:=x}];exact zY_ _ _ _ _ a _ E (by simp) (by simp[r.id.h]) (zg_ _) (by simp[x.h]) (Z3_ _)
theorem qI_ (r:EntL) (E:TypeId) (fz:Nat×Nat):zn_ (some (true,34)) (some (.cells (vQ_ r).toArray E fz)) 0=some (.agg (vQ_ r).toArray):=xb_ _ E fz 34 (by rw[List.size_toArray,Xu_])
theorem afo_ (old:Array Value) (r:EntL) (a:Bool) (E:TypeId) (h:old.size=34):zl_ (some (a,34)) (some (.cells old E (0,0))) 0 (.agg (vQ_ r).toArray)=some (.cells (vQ_ r).toArray E (0,0)):=xq_ _ a old E (Xu_ r) (agC_ r) h
theorem z0_ (r r':EntL) (a:Bool) (E:TypeId):zl_ (some (a,34)) (some (.cells (vQ_ r').toArray E (0,0))) 0 (.agg (vQ_ r).toArray)=some (.cells (vQ_ r).toArray E (0,0)):=afo_ _ r a E (by rw[List.size_toArray,Xu_])
theorem J6_ (s:List UInt8) (w:World):Rets Tryd.prog 47 #[vs s] w (fun v D=>v= .bool false∧D= []):=by
 refine Rets.enterV Tryd.func47 rfl (rs:= [.tmp 2]) Tryd.results47 Tryd.ntmps47 ?_
 refine kf ?_
 first|with_reducible refine ks [] @Nat.add_zero ?_|refine kp @Nat.add_zero ?_
 refine⟨_,(ke @Nat.add_zero),trivial, ?_⟩
 simp[wv_]
def WL_ (a b:List UInt8):Int:=if ltB a b then -1 else if ltB b a then 1 else 0
theorem wE_ (a b:List UInt8): (!(Op.bytesLess a b||a==b))=ltB b a:=by
 cases h:ltB a b
 ·have h':Op.bytesLess a b=false:=h
  rw[h',Bool.false_or]
  by_cases e:a=b
  ·subst e;rw[h];simp
  ·rw[kE_ h e];simp[e]
 ·have h':Op.bytesLess a b=true:=h
  rw[h',QA_ h];rfl
theorem w6_ (a b:List UInt8) (w:World):Rets Tryd.prog 17 #[vs a,vs b] w (fun v D=>v=vi (WL_ a b)∧D= []):=by
 refine Rets.enterV Tryd.func17 rfl (rs:= [.tmp 4]) Tryd.results17 Tryd.ntmps17 ?_
 refine kf ?_
 first|with_reducible refine ks [] @Nat.add_zero ?_|refine kp @Nat.add_zero ?_
 refine Ow.callFV rfl Tryd.call47 (fun w' hw'=>J6_ a w') ?_
 refine ko @Nat.add_zero ?_
 refine Ow.callFV rfl Tryd.call47 (fun w' hw'=>J6_ b w') ?_
 refine ko @Nat.add_zero ?_
 unfold WL_
 cases h1:Op.bytesLess a b
 ·cases h2:ltB b a
  ·have h3: (!(Op.bytesLess a b||a==b))=false:=by rw[wE_,h2]
   rw[h1] at h3
   first|with_reducible refine ks [] (And.intro @h3 @wE_) ?_|refine kp (And.intro @h3 @wE_) ?_
   refine⟨_,(ke @Nat.add_zero),trivial, ?_⟩
   simp[wv_,ltB,h1,h2]
  ·have h3: (!(Op.bytesLess a b||a==b))=true:=by rw[wE_,h2]
   rw[h1] at h3
   first|with_reducible refine ks [] (And.intro @h3 @wE_) ?_|refine kp (And.intro @h3 @wE_) ?_
   refine⟨_,(ke @Nat.add_zero),trivial, ?_⟩
   simp[wv_,ltB,h1]
 ·first|with_reducible refine ks [] @Nat.add_zero ?_|refine kp @Nat.add_zero ?_
  refine⟨_,(ke @Nat.add_zero),trivial, ?_⟩
  simp[wv_,ltB,h1]
set_option linter.defProp false
def and_:=And.intro (@xs_) (@qa_)
def cmpE (a b:EntL):Int:=WL_ a.name b.name
end Go.Proofs
end
section
open Go Go.Proofs Go.Sx Go.StP
namespace Go.Proofs
set_option maxRecDepth 10000
set_option maxHeartbeats 4000000
set_option linter.unusedSimpArgs false
def swp {α:Type} (a x m y c:List α) (i:Nat):List α:=a++ ((y.take i++x.drop i)++ (m++ ((x.take i++y.drop i)++c)))
section
variable {α:Type} {a x m y c:List α} {i k:Nat} {z:α}
theorem afv_ (hx:x.length=k) (hy:y.length=k) (hi:i≤k): (swp a x m y c i).length=a.length+k+m.length+k+c.length:=by
 unfold swp;simp only[List.length_append,List.length_take,List.length_drop];omega
theorem aj1_ (hx:x.length=k) (hy:y.length=k) (hi:i<k) {n:Nat} (hn:n=a.length+i): (swp a x m y c i).getD n z=x.getD i z:=by
 subst hn
 unfold swp
 rw[jN_ (z:=z) (l:=x) (by omega),List.append_assoc,List.cons_append,←List.append_assoc]
 exact at_0 _ (by simp only[List.length_append,List.length_take];omega)
theorem ajG_ (hx:x.length=k) (hy:y.length=k) (hi:i<k) {n:Nat} (hn:n=a.length+k+m.length+i): (swp a x m y c i).getD n z=y.getD i z:=by
 subst hn
 unfold swp
 rw[jN_ (z:=z) (l:=y) (by omega),List.append_assoc (x.take i),List.cons_append,←List.append_assoc,←List.append_assoc,←List.append_assoc]
 exact at_0 _ (by simp only[List.length_append,List.length_take,List.length_drop];omega)
theorem ahM_ {l r:List α} (u v:α) {n:Nat} (h:n=l.length): (l++u::r).set n v=l++v::r:=by
 subst h
 rw[List.set_append_right _ _ (Nat.le_refl _),Nat.sub_self,List.set_cons_zero]
theorem aaY_ (hx:x.length=k) (hy:y.length=k) (hi:i<k) {n n':Nat} (hn:n=a.length+i) (hn':n'=a.length+k+m.length+i):
  ((swp a x m y c i).set n (y.getD i z)).set n' (x.getD i z)=swp a x m y c (i+1):=by
 subst hn hn'
 have e:swp a x m y c i=(a++y.take i)++ (x.getD i z:: (x.drop (i+1)++ (m++ (x.take i++ (y.getD i z:: (y.drop (i+1)++c)))))):=by
  unfold swp
  rw[jN_ (z:=z) (l:=y) (by omega),jN_ (z:=z) (l:=x) (by omega)]
  simp only[List.append_assoc,List.cons_append]
 have e':swp a x m y c (i+1)=(a++y.take i)++ (y.getD i z:: (x.drop (i+1)++ (m++ (x.take i++ (x.getD i z:: (y.drop (i+1)++c)))))):=by
  unfold swp
  rw[take_snoc (z:=z) (l:=y) (by omega),take_snoc (z:=z) (l:=x) (by omega)]
  simp only[List.append_assoc,List.cons_append,List.nil_append]
 rw[e,e',ahM_ _ _ (by simp only[List.length_append,List.length_take];omega)]
 have e2: ∀u v:α,(a++y.take i)++ (u:: (x.drop (i+1)++ (m++ (x.take i++ (v:: (y.drop (i+1)++c))))))=((a++y.take i)++ (u:: (x.drop (i+1)++ (m++x.take i))))++ (v:: (y.drop (i+1)++c)):=fun u v=>by
  simp only[List.append_assoc,List.cons_append]
 rw[e2,e2,ahM_ _ _ (by simp only[List.length_append,List.length_take,List.length_cons,List.length_drop];omega)]
end
set_option linter.defProp false
def anu_:=And.intro (@qI_) (And.intro (@z0_) (@qa_))
structure RotG where
 A:List EntL
 U:List EntL
 V:List EntL
 B:List EntL
theorem JM_ {α:Type} (l:List α) {k:Nat} (h:k≤l.length): ∃a b,l=a++b∧a.length=k:=⟨l.take k,l.drop k,(List.take_append_drop k l).symm,by rw[List.length_take];omega⟩
end Go.Proofs
end
section
open Go Go.Proofs Go.Sx Go.StP
namespace Go.Proofs
set_option maxRecDepth 10000
set_option maxHeartbeats 4000000
set_option linter.unusedSimpArgs false
abbrev ltE (a b:EntL):Bool:=StP.lt EntL.name a b
abbrev aaB_ (l:List EntL):Prop:=StP.Sorted EntL.name l
abbrev StE (l l':List EntL):Prop:=StP.St EntL.name l l'
theorem aaM_ (a b:EntL):decide (cmpE a b<0)=ltE a b:=by
 unfold cmpE WL_ ltE StP.lt
 cases h:ltB a.name b.name
 ·rw[if_neg (by simp)]
  split<;>rfl
 ·rw[if_pos rfl];rfl
structure InsG where
 S:List EntL
 R:List EntL
set_option linter.defProp false
def anb_:=And.intro (And.intro (@qI_) (@z0_)) (And.intro (@qa_) (@aaM_))
end Go.Proofs
end
section
open Go Go.Proofs Go.Sx Go.StP
namespace Go.Proofs
set_option maxRecDepth 10000
set_option maxHeartbeats 4000000
set_option linter.unusedSimpArgs false
theorem vX_ (p q:Nat) (h:p+q<4611686018427387904):IntKind.wrap .i64 ((jl_ (UInt64.ofInt ((p:Int)+ (q:Int))) 1).toNat:Int)=(((p+q) / 2:Nat):Int):=by
 have e: (UInt64.ofInt ((p:Int)+ (q:Int))).toNat=p+q:=by
  have h2:UInt64.ofInt ((p:Int)+ (q:Int))=UInt64.ofNat (((p:Int)+ (q:Int))%2^64).toNat:=rfl
  rw[h2,UInt64.toNat_ofNat']
  omega
 have e2: (jl_ (UInt64.ofInt ((p:Int)+ (q:Int))) 1).toNat=(p+q) / 2:=by
  unfold jl_
  rw[e,UInt64.toNat_ofNat',Nat.pow_one]
  omega
 rw[e2,qW_ _ (by omega)]
structure BsG where
 i:Nat
 j:Nat
set_option linter.defProp false
def anz_:=And.intro (And.intro (@qI_) (@z0_)) (And.intro (@qa_) (And.intro (@aaM_) (@vX_)))
end Go.Proofs
end
section
open Go Go.Proofs Go.Sx Go.StP
namespace Go.Proofs
set_option maxRecDepth 10000
set_option maxHeartbeats 4000000
set_option linter.unusedSimpArgs false
set_option linter.defProp false
def anR_:=And.intro (And.intro (@qI_) (@z0_)) (And.intro (@qa_) (And.intro (@aaM_) (@vX_)))
end Go.Proofs
end
section
open Go Go.Proofs Go.Sx Go.StP
namespace Go.Proofs
set_option maxRecDepth 10000
set_option maxHeartbeats 4000000
set_option linter.unusedSimpArgs false
def Blks (k:Nat) (ls:List (List EntL)):Prop:= ∀x,x∈ls→x.length=k∧aaB_ x
theorem Blks.snoc {k:Nat} {ls:List (List EntL)} {x:List EntL} (h:Blks k ls) (hx:x.length=k) (hs:aaB_ x):Blks k (ls++ [x]):=by
 intro y hy
 rcases List.mem_append.1 hy with hy|hy
 ·exact h y hy
 ·rw[List.mem_singleton] at hy;subst hy;exact⟨hx,hs⟩
structure StG where
 k:Nat
 ls:List (List EntL)
 r:List EntL
structure StH where
 l2:List (List EntL)
 ls:List (List EntL)
end Go.Proofs
end
namespace Go.Sx
open Go
def QP_ (r:Option Nat):Fence:={Fence.wide with round:=r}
def Qf_:Op→Bool
 | .defer _=>false
 |_=>true
section
variable {P:Program} {w0:World} {f:Fr} {L:za_} {K:j1_} {N:Fr→za_→Prop} {ops:Array Oper} {rest:List Oper} {r:Option Nat} {n:Nat}
theorem aaJ_ {k:FuncId} {args:Array Value} {w:World} {R:Ending→World→Prop} (h:Calls P k args w R):CallsIn (QP_ r) n P k args w R:=
 (callsIn_wide.2 h:CallsIn Fence.wide n P k args w R)
theorem acf_ {row:String} {args:Array Value} {w:World} {R:Value→World→Prop} (h:Rows P row args w R):RowsIn (QP_ r) n P row args w R:=
 (fun c cs _=>let ⟨v,w',hr,s⟩:=h c cs;⟨v,w',hr,stepsIn_wide.2 s⟩:RowsIn Fence.wide n P row args w R)
theorem aiw_ {o:Oper} {a:Act} {w:World} {next:Act→World→Prop} {Q:Exit→Act→World→Prop} (hd:Qf_ o.op=true) (h:o.wp P a w next Q):o.wpIn (QP_ r) n P a w next Q:=by
 refine⟨fun _ _=>trivial, ?_⟩
 rw[Oper.semAt_eq _ _ _ (fun c e=>by rw[e] at hd;cases hd)]
 unfold Oper.wp at h
 generalize (execOp a.eval o).run P w=x at h
 match x,h with
 | .ok (.value v) _,h=>exact h
 | .ok .skip _,h=>exact h
 | .ok (.defer e) _,h=>exact h
 | .ok (.enter k args) w',h=>
  have h':Calls P k args w' _:=h
  exact⟨fun(e:false=true)=>(by cases e),aaJ_ h'⟩
 | .ok (.row row args) w',h=>
  have h':Rows P row args w' _:=h
  exact⟨fun(e:false=true)=>(by cases e),acf_ h'⟩
 | .halt (.panic u) _,h=>exact h
theorem aaG_ {Q:Exit→Act→World→Prop} {l2:List Oper}: ∀ (l1:List Oper) (a:Act) (w:World),(l1.all fun o=>Qf_ o.op)=true→
  wpList P ops (fun e a w=>e= .normal∧wpListIn (QP_ r) n P ops Q l2 a w) l1 a w→wpListIn (QP_ r) n P ops Q (l1++l2) a w
 | [],_,_,_,h=>h.2
 |o::l1,a,w,hd,h=>by
  rw[List.cons_append]
  unfold wpList at h
  unfold wpListIn
  rw[List.all_cons,Bool.and_eq_true] at hd
  split at h
  ·rename_i hw
   rw[if_pos hw]
   rcases h with h| ⟨-,hl⟩
   ·exact aiw_ hd.1 (kH_ (fun a w hx=>aaG_ l1 a w hd.2 hx) (fun e a w hne hq=>hne hq.1) h)
   ·obtain⟨_,_,he,-⟩:=hl
    cases he
  ·rename_i hw
   rw[if_neg hw]
   exact⟨fun _ _=>trivial,aaG_ l1 _ _ hd.2 h⟩
def OwI (r:Option Nat) (P:Program) (w0:World) (ops:Array Oper) (l:List Oper) (f:Fr) (L:za_) (N:Fr→za_→Prop):Prop:=
 ∀w,Hp w0 L w→wpListIn (QP_ r) 0 P ops (q5_ w0 N) l (act f) w
theorem OwI.nil (h:N f L):OwI r P w0 ops [] f L N:=fun _ hw=>⟨rfl,rfl,L,hw,by simpa [act] using h⟩
theorem OwI.pre {l1 l2:List Oper} (hd: (l1.all fun o=>Qf_ o.op)=true) (h:Ow P w0 ops .seq l1 f L (fun f' L'=>OwI r P w0 ops l2 f' L' N)):OwI r P w0 ops (l1++l2) f L N:=by
 intro w hw
 refine aaG_ l1 _ _ hd ?_
 have h1:=h w hw
 have mono: ∀ (l:List Oper) (a:Act) (w:World),wpList P ops (q5_ w0 (fun f' L'=>OwI r P w0 ops l2 f' L' N)) l a w→wpList P ops (fun e a w=>e= .normal∧wpListIn (QP_ r) 0 P ops (q5_ w0 N) l2 a w) l a w:=by
  intro l
  induction l with
  |nil=>
   rintro a w ⟨-,hd',L',hp,hO⟩
   refine⟨rfl, ?_⟩
   have:=hO w hp
   rwa [←Z9_ hd'] at this
  |cons o l ih=>
   intro a w h
   unfold wpList at h ⊢
   split at h
   ·rename_i hw
    rw[if_pos hw]
    rcases h with h| ⟨-,hl⟩
    ·exact .inl (kH_ ih (fun e a w hne hq=>hne hq.1) h)
    ·obtain⟨_,_,he,-⟩:=hl
     cases he
   ·rename_i hw
    rw[if_neg hw]
    exact ih _ _ h
 exact mono l1 _ _ h1
theorem Ow.mono_seq {l:List Oper} {N':Fr→za_→Prop} (h:Ow P w0 ops .seq l f L N) (hN: ∀f L,N f L→N' f L):Ow P w0 ops .seq l f L N':=by
 intro w hw
 have h1:=h w hw
 clear h
 revert h1
 generalize act f=a
 clear hw
 induction l generalizing a w with
 |nil=>rintro⟨h1,h2,L',h3,h4⟩;exact⟨h1,h2,L',h3,hN _ _ h4⟩
 |cons o l ih=>
  intro h
  unfold wpList at h ⊢
  split at h
  ·rename_i hw
   rw[if_pos hw]
   rcases h with h| ⟨-,hl⟩
   ·exact .inl (kH_ (fun a w hx=>ih w a hx) (fun e a w hne hq=>hne hq.1) h)
   ·obtain⟨_,_,he,-⟩:=hl
    cases he
  ·rename_i hw
   rw[if_neg hw]
   exact ih _ _ h
theorem OwI.all {l:List Oper} (hd: (l.all fun o=>Qf_ o.op)=true) (h:Ow P w0 ops .seq l f L N):OwI r P w0 ops l f L N:=by
 have:=OwI.pre (r:=r) (l2:= []) (N:=N) hd (Ow.mono_seq h (fun f L hN=>OwI.nil hN))
 simpa using this
def CwR (r:Option Nat) (P:Program) (w0:World) (c:Code) (f:Fr) (L:za_) (K:j1_):Prop:= ∀w,Hp w0 L w→c.wpIn (QP_ r) 0 P (post w0 K) (act f) w
theorem CwR.region {id:Nat} {l:List Oper} (hd: (l.all fun o=>Qf_ o.op)=true) (h:Ow P w0 l.toArray .seq l f L (K .normal)):CwR r P w0 (.region id l.toArray false) f L K:=
 fun w hw=>wpIn_mono (wpIn_region_lit (OwI.all hd h w hw)) fun _ _ _ h=>k1_ h
theorem CwR.block {id:Nat} {c:Code} (h:CwR r P w0 c f L (xA_ id K)):CwR r P w0 (.block id c) f L K:=by
 intro w hw
 refine wpIn_block (wpIn_mono (h w hw) ?_)
 rintro e a w' ⟨hd,L',hp,k⟩
 cases e with
 |exit i=>
  simp only[Exit.inBlock]
  simp only[xA_] at k
  split
  ·rename_i e;rw[if_pos e] at k;exact⟨hd,L',hp,k⟩
  ·rename_i e;rw[if_neg e] at k;exact⟨hd,L',hp,k⟩
 |_=>exact⟨hd,L',hp,k⟩
theorem Hp.put {w:World} (h:Hp w0 L w) {b:Nat} {o:Obj} (hb:b∈keys L):Hp w0 (setB L b o) (w.putObj b o):=h.set hb rfl rfl rfl rfl
theorem YieldAt.of {l:Nat} {rc:Loop} {X:za_} {args:Array Value} {w:World} {r0:Option Nat} {S:za_→Prop} (hX:Hp w X w) (hl:look X l=some (.loop rc)) (hr:rc.state= .ready) (hp:rc.pending=none) (hs:args.size=rc.params.size)
  (h:CwR (some l) P w rc.assign ((rc.params.zip args).foldl (fun tmps (p:Tmp×Value)=>tmps.setIfInBounds p.1 p.2) rc.tmps).toList X (fun e f1 L1=>e= .normal∧look L1 l=some (.loop rc)∧
   CwR (some l) P w rc.body f1 (setB L1 l (.loop {rc with state:= .busy})) (fun e _ L2=>e= .normal∧look L2 l=some (.loop {rc with state:= .busy})∧S (setB L2 l (.loop rc))))):
  YieldAt (QP_ r0) 0 P l args w (fun e w'=> ∃D,e= .returned (.bool true)∧Hp w D w'∧S D):=by
 obtain⟨st,pe,fn0,tm,pa,asg,bo,de⟩:=rc
 obtain rfl:st= .ready:=hr
 obtain rfl:pe=none:=hp
 have hl0:=hX.has _ _ (zF_ hl)
 refine⟨fn0,_,asg,bo,run_yield hl0 hs,roundIn_of_wpIn (F:=QP_ r0) (n:=0) trivial ?_⟩
 have h1:=h w hX
 have ea:act ((pa.zip args).foldl (fun tmps (p:Tmp×Value)=>tmps.setIfInBounds p.1 p.2) tm).toList={tmps:=(pa.zip args).foldl (fun tmps (p:Tmp×Value)=>tmps.setIfInBounds p.1 p.2) tm,defers:= []}:=by
  simp[act]
 simp only at h1
 rw[ea] at h1
 refine wpIn_mono h1 ?_
 rintro e a1 w1 ⟨hd1,L1,hp1,rfl,hl1,hbody⟩
 have hb1:=run_beginRound (P:=P) (hp1.has _ _ (zF_ hl1)) rfl
 refine⟨_,hb1, ?_⟩
 have h2:=hbody _ (hp1.put (o:= .loop {state:= .busy,pending:=none,fn:=fn0,tmps:=tm,params:=pa,assign:=asg,body:=bo,defers:=de}) (zo_ hl1))
 rw[←Z9_ hd1] at h2
 refine wpIn_mono h2 ?_
 rintro e a2 w2 ⟨hd2,L2,hp2,rfl,hl2,hS⟩
 have he:=run_endRound (P:=P) none (hp2.has _ _ (zF_ hl2))
 exact⟨_,_,he,_,rfl,hp2.put (zo_ hl2),hS⟩
def alP_ (ds:List Deferred) (w0:World) (K:j1_) (e:Exit) (a:Act) (w:World):Prop:=a.defers=ds∧ ∃L,Hp w0 L w∧K e a.tmps.toList L
def CwE (ds:List Deferred) (P:Program) (w0:World) (c:Code) (f:Fr) (L:za_) (K:j1_):Prop:= ∀w,Hp w0 L w→c.wp P (alP_ ds w0 K) ⟨f.toArray,ds⟩ w
theorem CwE.seq {ds:List Deferred} {x y:Code} (h:CwE ds P w0 x f L (kT_ (fun f L=>CwE ds P w0 y f L K) K)):CwE ds P w0 (.seq x y) f L K:=by
 intro w hw
 refine wp_seq (wp_mono (h w hw) ?_)
 rintro e a w' ⟨hd,L',hp,k⟩
 cases e with
 |normal=>
  have:=k w' hp
  have ea:a=⟨a.tmps.toList.toArray,ds⟩:=by cases a;simp only at hd;subst hd;simp
  rw[ea]
  exact this
 |_=>exact⟨hd,L',hp,k⟩
theorem CwE.ret {ds:List Deferred} (h:K .ret f L):CwE ds P w0 .ret f L K:=fun _ hw=>wp_ret ⟨rfl,L,hw,by simpa using h⟩
def evVs (P:Program) (w0:World) (L:za_):List Oper→Fr→Option Fr
 | [],f=>some f
 |o::r,f=>match o.guard,xK_ P w0 L f o.op with
  |none,some v=>evVs P w0 L r (qj_ f o.dst v)
  |_,_=>none
theorem Xh_ {ds:List Deferred} {Q:Exit→Act→World→Prop} {w:World} (hw:Hp w0 L w): ∀ (l:List Oper) (f f':Fr),evVs P w0 L l f=some f'→Q .normal ⟨f'.toArray,ds⟩ w→wpList P ops Q l ⟨f.toArray,ds⟩ w
 | [],f,f',h,hQ=>by cases h;exact hQ
 |o::l,f,f',h,hQ=>by
  unfold evVs at h
  split at h
  ·rename_i v hg hv
   unfold wpList
   have hwn:Region.wanted o (yielded ops (⟨f.toArray,ds⟩:Act).tmps)=true:=by unfold Region.wanted;rw[hg]
   rw[if_pos hwn]
   refine .inl ?_
   unfold Oper.wp
   have he: (⟨f.toArray,ds⟩:Act).eval=ev f:=by
    have:=qZ_ f
    funext x
    exact(congrFun this x)
   rw[he,qw_ hw hv]
   have hp: (⟨f.toArray,ds⟩:Act).put o.dst v=⟨(qj_ f o.dst v).toArray,ds⟩:=by
    have:=zT_ f o.dst v
    cases hd:o.dst with
    |none=>rfl
    |some d=>simp only[Act.put,qj_,adK_]
   show wpList P ops Q l ((⟨f.toArray,ds⟩:Act).put o.dst v) w
   rw[hp]
   exact Xh_ hw l _ f' h hQ
  ·cases h
theorem CwE.region {ds:List Deferred} {id:Nat} {l:List Oper} {f':Fr} (h:evVs P w0 L l f=some f') (hk:K .normal f' L):CwE ds P w0 (.region id l.toArray false) f L K:=
 fun w hw=>wp_region_lit (Xh_ hw l f f' h ⟨rfl,L,hw,by simpa using hk⟩)
theorem Gr.at_ {L:za_} {E:TypeId} {m n:Nat} {v:Value} {cs:List Value} (h:Gr L E m v n cs) {b:Nat} (hb:slB v=some b): ∃a,look L b=some (.cells a E (0,0)):=by
 rcases h with h| ⟨rfl,rfl,c,rfl,hl⟩
 ·rcases h.inv with⟨rfl,-,-⟩ | ⟨c,cc,rest,rfl,hl,-⟩
  ·cases hb
  ·have:c=b:=by simpa [slB,vsl] using hb
   subst this;exact⟨_,hl⟩
 ·have:c=b:=by simpa [slB,vsl] using hb
  subst this;exact⟨_,hl⟩
theorem Gr.setB {L:za_} {E:TypeId} {m n:Nat} {v:Value} {cs:List Value} (h:Gr L E m v n cs) {b:Nat} (hb:slB v≠some b) (x:Obj):Gr (setB L b x) E m v n cs:=
 h.keep fun c o hc ho=>by rw[xG_ (fun e:b=c=>hb (by rw[e];exact hc))];exact ho
def recR (fn:FuncId) (f:Fr) (ps:Array Tmp) (assign body:Code) (dk:Nat) (st:LoopState):Loop:={state:=st,pending:=none,fn,tmps:=f.toArray,params:=ps,assign,body,defers:=dk}
def amT_ (P:Program) (gf:Nat) (lb:Array Value) {α:Type} (enc:α→Value) (xs:List α) (w:World):Prop:=
 ∀ (l:Nat) (J:List α→za_→Prop) (w1:World) (X:za_),(∀b,b<w.heap.size→w1.heap[b]? =w.heap[b]?)→(∀b,b∈keys X→w.heap.size≤b)→w.heap.size≤w1.heap.size→Hp w1 X w1→J [] X→(∀pre X Y,J pre X→J pre (X++Y))→
  (∀pre x post X2 w2,xs=pre++x::post→Hp w2 X2 w2→(∀b,b∈keys X2→w.heap.size≤b)→J pre X2→YieldAt (QP_ none) 0 P l #[enc x] w2 (fun e w3=> ∃D,e= .returned (.bool true)∧Hp w2 D w3∧Ext w2 X2 D∧J (pre++ [x]) D))→
  Rets P gf (#[.func (.yield l) #[] #[]]++lb) w1 (XS w1 X (fun _ D=>J xs D))
end
end Go.Sx
section
open Go Go.Proofs Go.Sx Go.StP
namespace Go.Proofs
set_option maxRecDepth 10000
set_option maxHeartbeats 4000000
set_option linter.unusedSimpArgs false
abbrev EntS (w:World) (v:Value) (l:List EntL):Prop:=SlV 34 vQ_ ent0 w v l
structure ValG where
 k:Nat
 X:za_
set_option linter.defProp false
def aof_:=And.intro (@qI_) (And.intro (@z0_) (@qa_))
end Go.Proofs
end
section
open Go Go.Proofs Go.Sx Go.StP
namespace Go.Proofs
set_option maxRecDepth 10000
set_option maxHeartbeats 4000000
set_option linter.unusedSimpArgs false
set_option linter.defProp false
def aol_:=And.intro (@qI_) (And.intro (@z0_) (@qa_))
end Go.Proofs
end
section
open Go Go.Proofs Go.Sx Go.StP
namespace Go.Proofs
set_option maxRecDepth 10000
set_option maxHeartbeats 4000000
set_option linter.unusedSimpArgs false
def SortOf (l Z:List EntL):Prop:=Z.length=l.length∧aaB_ Z∧StE l Z
theorem SortOf.eq {l Z Z':List EntL} (h:SortOf l Z) (h':SortOf l Z'):Z=Z':=StP.St.eq h.2.1 h'.2.1 (h.2.2.symm.trans h'.2.2)
end Go.Proofs
end
section
open Go Go.Proofs Go.Sx
namespace Go.Proofs
set_option maxRecDepth 10000
set_option maxHeartbeats 4000000
set_option linter.unusedSimpArgs false
def badR (c:Int):Bool:=decide (c<33) ||decide (126<c) || (c==47)
def badB (b:UInt8):Bool:=decide (b.toNat<33) ||decide (126<b.toNat) || (b.toNat==47)
theorem eqb (a b:Bool):qC_ Tryd.prog .eql 4 (.bool a) (.bool b)=some (.bool (a==b)):=by
 simp[qC_,eqX,qy_,qg_,Tryd.underlying4]
theorem ajW_ (a:Value): (#[a]:Array Value)[0]? =some a:=(rfl)
set_option linter.defProp false
def amJ_:=And.intro (And.intro (And.intro (@ze_) (And.intro (@ve_) (@k3_))) (And.intro (And.intro (@k4_) (@zd_)) (And.intro (@ahf_) (@aab_)))) (And.intro (And.intro (And.intro (@W6_) (@VX_)) (And.intro (@aiz_) (@ajW_))) (And.intro (And.intro (@Sx.tup3_0) (@Sx.tup3_1)) (And.intro (@Sx.tup3_2) (@eqb))))
set_option linter.defProp false
def am5_:=And.intro (And.intro (@ze_) (@ve_)) (And.intro (@k3_) (And.intro (@k4_) (@zd_)))
def alO_ (s:List UInt8):Bool:= !(s== [])&&decide (s.length≤32)&& !(s.any badB)
end Go.Proofs
end
section
open Go Go.Proofs Go.Sx Go.StP
namespace Go.Proofs
set_option maxRecDepth 10000
set_option maxHeartbeats 4000000
set_option linter.unusedSimpArgs false
def aln_ (l:List EntL) (i:Nat):Bool:=
 alO_ (l.getD i ent0).name&& ((l.getD i ent0).kind==1|| (l.getD i ent0).kind==2)&& (i==0||ltB (l.getD (i - 1) ent0).name (l.getD i ent0).name)
def ahC_ (l:List EntL):Bool:=decide (l.length≤32)&& (List.range l.length).all (aln_ l)
set_option linter.defProp false
def amy_:=And.intro (And.intro (And.intro (@xs_) (@xQ_)) (And.intro (@xP_) (@qI_))) (And.intro (And.intro (@z0_) (@qa_)) (And.intro (@ze_) (@zd_)))
def ajS_ (l:List EntL):Prop:= ∀i,i<l.length→(l.getD i ent0).name.length<1099511627776
end Go.Proofs
end
section
open Go Go.Proofs Go.Sx Go.StP
namespace Go.Proofs
set_option maxRecDepth 10000
set_option maxHeartbeats 4000000
set_option linter.unusedSimpArgs false
set_option linter.defProp false
def amv_:=And.intro (And.intro (And.intro (@xs_) (@xQ_)) (And.intro (@xP_) (@qI_))) (And.intro (And.intro (@z0_) (@qa_)) (And.intro (@ze_) (@zd_)))
end Go.Proofs
end
section
open Go Go.Proofs Go.Sx Go.StP
namespace Go.Proofs
set_option maxRecDepth 10000
set_option maxHeartbeats 4000000
set_option linter.unusedSimpArgs false
theorem Vz_ (x:IdL): (idLC x).length=32:=by simp[idLC,x.h]
abbrev IdS (w:World) (v:Value) (l:List IdL):Prop:=SlV 32 idLC id0 w v l
theorem aj4_ {w:World} {v:Value} {l:List IdL} {b off:Nat} {arr:Array Value} {E:TypeId} {fz:Nat×Nat} (h:RowS 32 idLC id0 w v l b off arr E fz) {k:Nat} (hk:k<l.length):
  zn_ (some (true,32)) (some (.cells arr E fz)) (off+k*32)=some (.agg (a8 (l.getD k id0).l)):=RowS.load h Vz_ (by omega) hk
theorem adS_ (a b:IdL):qC_ Tryd.prog .eql 36 (.agg (a8 a.l)) (.agg (a8 b.l))=some (.bool (a.l==b.l)):=
 aiZ_ Tryd.underlying36 Tryd.underlying5 Tryd.ag5 (by kernel_rfl) a.l b.l ⟨a.h,b.h⟩
theorem W3_ (a b:IdL):qC_ Tryd.prog .neq 36 (.agg (a8 a.l)) (.agg (a8 b.l))=some (.bool (!(a.l==b.l))):=
 agz_ Tryd.underlying36 Tryd.underlying5 Tryd.ag5 (by kernel_rfl) a.l b.l ⟨a.h,b.h⟩
instance:DecidableEq IdL:=fun a b=>if h:a.l=b.l then .isTrue (by cases a;cases b;simp only at h;subst h;rfl) else .isFalse (fun e=>h (by rw[e]))
theorem IdL.ext' {a b:IdL} (h:a.l=b.l):a=b:=by cases a;cases b;simp only at h;subst h;rfl
def idxG (x:IdL):List IdL→Nat→Int
 | [],_=> -1
 |y::r,i=>if x.l==y.l then(i:Int) else idxG x r (i+1)
theorem qH_ (x:IdL) (E:TypeId) (fz:Nat×Nat):zn_ (some (true,32)) (some (.cells (a8 x.l) E fz)) 0=some (.agg (a8 x.l)):=QK_ _ E fz 32 x.h
set_option linter.defProp false
def amD_:=And.intro (And.intro (@adS_) (@W3_)) (And.intro (@qH_) (And.intro (@ze_) (@zd_)))
end Go.Proofs
end
section
open Go Go.Proofs Go.Sx Go.StP
namespace Go.Proofs
set_option maxRecDepth 100000
set_option maxHeartbeats 400000
set_option linter.unusedSimpArgs false
structure RwL where
 id:IdL
 place:Int
 spot:Int
def rwC (r:RwL):List Value:=r.id.l.map v8++ ([vi r.place]++ ([vi r.spot]))
def rw0:RwL:=⟨id0,0,0⟩
theorem z1_ (r:RwL): (rwC r).length=34:=by simp[rwC,r.id.h]
theorem qQ_ (r:RwL):Value.cells (.agg (rwC r).toArray)=(rwC r).toArray:=zg_ _
theorem Xl_ (r:RwL): (rwC r).all Value.oneCell'=true:=by
 unfold rwC
 simp only[List.all_append,List.all_cons,List.all_nil,Z3_,Bool.and_true,Bool.true_and]
 rfl
theorem zrRw:qd_ Tryd.prog 45=some (.agg (rwC rw0).toArray):=id (by kernel_rfl)
theorem ajU_:qr_ Tryd.prog 45=some (true,34):=id (by kernel_rfl)
theorem aeI_ (r:RwL):rwC r=([]:List Value)++ ((r.id.l.map v8)++ ([vi r.place]++ ([vi r.spot]))):=by
 unfold rwC;simp only[List.append_assoc,List.nil_append,List.append_nil]
theorem vc_ (r:RwL) (E:TypeId) (fz:Nat×Nat):zn_ (some (true,32)) (some (.cells (rwC r).toArray E fz)) 0=some (Value.agg (a8 r.id.l)):=by
 rw[aeI_,x8_ _ _ _ E fz (by simp) (by simp[r.id.h])];rfl
theorem als_ (r:RwL): (rwC r).toArray.extract 0 32=a8 r.id.l:=by
 rw[aeI_];exact afy_ (o:=0) (n:=32) _ _ _ (by simp) (by simp[r.id.h])
theorem aiO_ {w:World} {v:Value} {l:List RwL} {b off:Nat} {arr:Array Value} {E:TypeId} {fz:Nat×Nat} (h:RowS 34 rwC rw0 w v l b off arr E fz) {k:Nat} (hk:k<l.length):zn_ (some (true,32)) (some (.cells arr E fz)) (off+k*34+0)=some (Value.agg (a8 (l.getD k rw0).id.l)):=by
 rw[RowS.part h z1_ hk (by omega) (by omega),als_]
theorem afa_ (r:RwL):rwC r=((r.id.l.map v8))++ (([vi r.place])++ ([vi r.spot])):=by
 unfold rwC;simp only[List.append_assoc,List.nil_append,List.append_nil]
theorem k0_ (r:RwL) (n:Nat) (E:TypeId) (fz:Nat×Nat):zn_ (some (false,n)) (some (.cells (rwC r).toArray E fz)) 32=some (vi r.place):=by
 rw[afa_];exact qG_ _ _ _ n E fz (by simp[r.id.h])
theorem adl_ (r:RwL) (x:Int) (a:Bool) (E:TypeId):zl_ (some (a,1)) (some (.cells (rwC r).toArray E (0,0))) 32 (vi x)=some (.cells (rwC {r with place:=x}).toArray E (0,0)):=by
 rw[afa_ r,afa_ {r with place:=x}];exact zY_ _ _ _ _ a _ E (by simp[r.id.h]) rfl (rfl) rfl (rfl)
theorem aem_ (r:RwL):rwC r=((r.id.l.map v8)++ ([vi r.place]))++ (([vi r.spot])++ (([]:List Value))):=by
 unfold rwC;simp only[List.append_assoc,List.nil_append,List.append_nil]
theorem vj_ (r:RwL) (n:Nat) (E:TypeId) (fz:Nat×Nat):zn_ (some (false,n)) (some (.cells (rwC r).toArray E fz)) 33=some (vi r.spot):=by
 rw[aem_];exact qG_ _ _ _ n E fz (by simp[r.id.h])
theorem adc_ (r:RwL) (x:Int) (a:Bool) (E:TypeId):zl_ (some (a,1)) (some (.cells (rwC r).toArray E (0,0))) 33 (vi x)=some (.cells (rwC {r with spot:=x}).toArray E (0,0)):=by
 rw[aem_ r,aem_ {r with spot:=x}];exact zY_ _ _ _ _ a _ E (by simp[r.id.h]) rfl (rfl) rfl (rfl)
theorem kg_ (r:RwL) (E:TypeId) (fz:Nat×Nat):zn_ (some (true,34)) (some (.cells (rwC r).toArray E fz)) 0=some (.agg (rwC r).toArray):=xb_ _ E fz 34 (by rw[List.size_toArray,z1_])
theorem agv_ (old:Array Value) (r:RwL) (a:Bool) (E:TypeId) (h:old.size=34):zl_ (some (a,34)) (some (.cells old E (0,0))) 0 (.agg (rwC r).toArray)=some (.cells (rwC r).toArray E (0,0)):=xq_ _ a old E (z1_ r) (Xl_ r) h
theorem q6_ (r r':RwL) (a:Bool) (E:TypeId):zl_ (some (a,34)) (some (.cells (rwC r').toArray E (0,0))) 0 (.agg (rwC r).toArray)=some (.cells (rwC r).toArray E (0,0)):=agv_ _ r a E (by rw[List.size_toArray,z1_])
theorem agl_ (r:RwL):jb_ (QW_ Tryd.prog 45) (qd_ Tryd.prog 45) [(0,Value.agg (a8 r.id.l)),(1,vi r.place),(2,vi r.spot)]=some (.agg (rwC r).toArray):=by
 have hp:QW_ Tryd.prog 45=some [(0,32),(32,1),(33,1)]:=id (by kernel_rfl)
 rw[hp,zrRw]
 have e0: (rwC rw0).toArray=(([]:List Value)++ ((rw0.id.l.map v8)++ ([vi rw0.place]++ ([vi rw0.spot])))).toArray:=by congr 1<;>simp only[rwC,List.append_assoc,List.nil_append,List.append_nil]
 have q0:x3_ (([]:List Value)++ ((rw0.id.l.map v8)++ ([vi rw0.place]++ ([vi rw0.spot])))).toArray 0 (r.id.l.map v8)=(([]:List Value)++ ((r.id.l.map v8)++ ([vi rw0.place]++ ([vi rw0.spot])))).toArray:=xk_ _ _ _ _ (by simp) (by simp[rw0.id.h,r.id.h])
 have s0: (([]:List Value)++ ((rw0.id.l.map v8)++ ([vi rw0.place]++ ([vi rw0.spot])))).toArray.size=34:=by simp[r.id.h,rw0.id.h]
 have z0: (Value.cells (Value.agg (a8 r.id.l))).toList=r.id.l.map v8:=by rw[zg_];rfl
 have y0: (Value.cells (Value.agg (a8 r.id.l))).size=32:=by rw[←Array.length_toList,z0];simp[r.id.h]
 have e1: (([]:List Value)++ ((r.id.l.map v8)++ ([vi rw0.place]++ ([vi rw0.spot])))).toArray=(((r.id.l.map v8))++ (([vi rw0.place])++ ([vi rw0.spot]))).toArray:=by congr 1<;>simp only[rwC,List.append_assoc,List.nil_append,List.append_nil]
 have q1:x3_ (((r.id.l.map v8))++ (([vi rw0.place])++ ([vi rw0.spot]))).toArray 32 ([vi r.place])=(((r.id.l.map v8))++ (([vi r.place])++ ([vi rw0.spot]))).toArray:=xk_ _ _ _ _ (by simp[r.id.h]) (rfl)
 have s1: (((r.id.l.map v8))++ (([vi rw0.place])++ ([vi rw0.spot]))).toArray.size=34:=by simp[r.id.h,rw0.id.h]
 have z1: (Value.cells (vi r.place)).toList= [vi r.place]:=by rfl
 have y1: (Value.cells (vi r.place)).size=1:=by rw[←Array.length_toList,z1];simp
 have e2: (((r.id.l.map v8))++ (([vi r.place])++ ([vi rw0.spot]))).toArray=(((r.id.l.map v8)++ ([vi r.place]))++ (([vi rw0.spot])++ (([]:List Value)))).toArray:=by congr 1<;>simp only[rwC,List.append_assoc,List.nil_append,List.append_nil]
 have q2:x3_ (((r.id.l.map v8)++ ([vi r.place]))++ (([vi rw0.spot])++ (([]:List Value)))).toArray 33 ([vi r.spot])=(((r.id.l.map v8)++ ([vi r.place]))++ (([vi r.spot])++ (([]:List Value)))).toArray:=xk_ _ _ _ _ (by simp[r.id.h]) (rfl)
 have s2: (((r.id.l.map v8)++ ([vi r.place]))++ (([vi rw0.spot])++ (([]:List Value)))).toArray.size=34:=by simp[r.id.h,rw0.id.h]
 have z2: (Value.cells (vi r.spot)).toList= [vi r.spot]:=by rfl
 have y2: (Value.cells (vi r.spot)).size=1:=by rw[←Array.length_toList,z2];simp
 have e3: (((r.id.l.map v8)++ ([vi r.place]))++ (([vi r.spot])++ (([]:List Value)))).toArray=(rwC r).toArray:=by congr 1<;>simp only[rwC,List.append_assoc,List.nil_append,List.append_nil]
 simp only[jb_]
 rw[e0]
 unfold Sx.fillV
 simp only[List.getElem?_cons_zero,List.getElem?_cons_succ,z0,y0]
 rw[if_pos ⟨trivial,by rw[s0];decide⟩,q0]
 rw[e1]
 unfold Sx.fillV
 simp only[List.getElem?_cons_zero,List.getElem?_cons_succ,z1,y1]
 rw[if_pos ⟨trivial,by rw[s1];decide⟩,q1]
 rw[e2]
 unfold Sx.fillV
 simp only[List.getElem?_cons_zero,List.getElem?_cons_succ,z2,y2]
 rw[if_pos ⟨trivial,by rw[s2];decide⟩,q2]
 rw[e3];rfl
theorem WP_: ∀ (a b:List UInt8),Lib.compareBytes a b=if ltB a b=true then -1 else if ltB b a=true then 1 else 0
 | [],[]=>by simp[Lib.compareBytes,ltB,Op.bytesLess]
 |_::_,[]=>by simp[Lib.compareBytes,ltB,Op.bytesLess]
 | [],_::_=>by simp[Lib.compareBytes,ltB,Op.bytesLess]
 |a::x,b::y=>by
  have ih:=WP_ x y
  unfold Lib.compareBytes
  rw[Zg_,Zg_] at*
  rw[ih]
  simp only[List.cons_lt_cons_iff,decide_eq_true_eq]
  by_cases h1:a<b
  ·simp[h1]
  ·by_cases h2:b<a
   ·have: ¬a=b:=fun e=>by subst e;exact h1 h2
    simp[h1,h2,this]
   ·have:a=b:=UInt8.le_antisymm (UInt8.not_lt.1 h2) (UInt8.not_lt.1 h1)
    subst this
    simp[h1]
theorem vx_ {b:Nat} {E:TypeId} {fz:Nat×Nat} {arr:Array Value} {w:World} (hb:w.heap[b]? =some (.cells arr E fz)): ∀ (l:List UInt8) (off:Nat) (acc:ByteArray),(∀j,j<l.length→arr[off+j]? =some (v8 (l.getD j 0)))→
  (Extern.Bytes.loadBytes ⟨b,off,none⟩ l.length acc).run Tryd.prog w= .ok (acc++ ⟨l.toArray⟩) w
 | [],off,acc,_=>by
  show Result.ok acc w=_
  congr 1
  apply ByteArray.ext
  simp
 |x::l,off,acc,h=>by
  have h0:=h 0 (by simp)
  simp only[Nat.add_zero,List.getD_cons_zero] at h0
  have hc:w.cell? ⟨b,off,none⟩=some (v8 x):=by rw[cell_of_row w b _ arr E fz hb];exact h0
  have hld: (load ⟨b,off,none⟩).run Tryd.prog w= .ok (v8 x) w:=by
   simp only[load,Sem.run,hc]
  rw[List.length_cons,Extern.Bytes.loadBytes,Sem.run_bind,hld,Result.andThen_ok]
  simp only[v8,qP_]
  have e: ((x.toNat:Int).toNat.toUInt8)=x:=by
   rw[Int.toNat_natCast]
   exact UInt8.ofNat_toNat
  rw[e,vx_ hb l (off+1) _ (fun j hj=>by
   have:=h (j+1) (by simpa using hj)
   rw[List.getD_cons_succ] at this
   rw[←this];congr 1;omega)]
  congr 1
  apply ByteArray.ext
  simp
def ju_ (arr:Array Value) (off:Nat) (l:List UInt8):Prop:= ∀j,j<l.length→arr[off+j]? =some (v8 (l.getD j 0))
theorem Zf_ {b off c:Nat} {l:List UInt8} {arr:Array Value} {E:TypeId} {fz:Nat×Nat} {w:World} (hb:w.heap[b]? =some (.cells arr E fz)) (h:ju_ arr off l): (Extern.Bytes.bytesOf (vsl b off l.length c)).run Tryd.prog w= .ok ⟨l.toArray⟩ w:=by
 have h:=vx_ hb l off .empty h
 show(Extern.Bytes.loadBytes ⟨b,off,none⟩ l.length .empty).run Tryd.prog w=_
 rw[h]
 congr 1
theorem Kf_ {b o1 k1 c o2 k2:Nat} {l m:List UInt8} {a1 a2:Array Value} {E E2:TypeId} {f1 f2:Nat×Nat} {w:World} (hb:w.heap[b]? =some (.cells a1 E f1)) (h1:ju_ a1 o1 l) (hc:w.heap[c]? =some (.cells a2 E2 f2)) (h2:ju_ a2 o2 m):
  (callFunc 60 #[vsl b o1 l.length k1,vsl c o2 m.length k2]).run Tryd.prog w= .ok (.value (vi (Lib.compareBytes l m))) w:=by
 rw[run_callFunc_extern Tryd.func60 (by kernel_rfl) (by kernel_rfl) (by kernel_rfl) (e:=Extern.BytealgCompare.compare) (by kernel_rfl)]
 show((Extern.BytealgCompare.compare #[vsl b o1 l.length k1,vsl c o2 m.length k2]).run Tryd.prog w).andThen _=_
 have: (Extern.BytealgCompare.compare #[vsl b o1 l.length k1,vsl c o2 m.length k2]).run Tryd.prog w= .ok (vi (Lib.compareBytes l m)) w:=by
  change Sem.run Tryd.prog (do pure (goInt (Extern.BytealgCompare.cmp (←Extern.Bytes.bytesOf _) (←Extern.Bytes.bytesOf _)))) w=_
  have h1:=Zf_ (c:=k1) hb h1
  have h2:=Zf_ (c:=k2) hc h2
  rw[Sem.run_bind]
  erw[h1]
  rw[Result.andThen_ok,Sem.run_bind]
  erw[h2]
  rw[Result.andThen_ok,Lib.cmp_eq]
  rfl
 rw[this];rfl
theorem afb_ {b o1 k1 c o2 k2:Nat} {l m:List UInt8} {a1 a2:Array Value} {E E2:TypeId} {f1 f2:Nat×Nat} {w:World} (hb:w.heap[b]? =some (.cells a1 E f1)) (h1:ju_ a1 o1 l) (hc:w.heap[c]? =some (.cells a2 E2 f2)) (h2:ju_ a2 o2 m):
  Rets Tryd.prog 36 #[vsl b o1 l.length k1,vsl c o2 m.length k2] w (fun v D=>v=vi (Lib.compareBytes l m)∧D= []):=by
 have hr:=Kf_ (k1:=k1) (k2:=k2) hb h1 hc h2
 have hcc:Calls Tryd.prog 36 #[vsl b o1 l.length k1,vsl c o2 m.length k2] w fun e w'=>e= .returned (vi (Lib.compareBytes l m))∧w'=w:=by
  generalize vsl b o1 l.length k1=x at hr ⊢
  generalize vsl c o2 m.length k2=y at hr ⊢
  go_enter Tryd.func36,Tryd.ntmps36
  go_wp2
  go_ret
  exact⟨rfl,rfl⟩
 refine Calls.mono hcc ?_
 rintro e w' ⟨rfl,rfl⟩
 exact⟨_,[],rfl,Hp.refl _,rfl,rfl⟩
def wO_ (x y:IdL):Int:=WL_ x.l y.l
theorem afG_ {b o1 k1 c o2 k2:Nat} {x y:IdL} {a1 a2:Array Value} {E E2:TypeId} {f1 f2:Nat×Nat} {w:World} (hb:w.heap[b]? =some (.cells a1 E f1)) (h1:ju_ a1 o1 x.l) (hc:w.heap[c]? =some (.cells a2 E2 f2)) (h2:ju_ a2 o2 y.l):
  Rets Tryd.prog 36 #[vsl b o1 32 k1,vsl c o2 32 k2] w (fun v D=>v=vi (wO_ x y)∧D= []):=by
 have h:=afb_ (k1:=k1) (k2:=k2) hb h1 hc h2
 rw[x.h,y.h,WP_] at h
 exact h
theorem abr_ (r:RwL):ju_ (rwC r).toArray 0 r.id.l:=by
 intro j hj
 rw[Nat.zero_add,List.getElem?_toArray,aeI_,List.nil_append,List.getElem?_append_left (by simpa using hj),List.getElem?_map,List.getElem?_eq_getElem hj,List.getD_eq_getElem?_getD,List.getElem?_eq_getElem hj]
 rfl
set_option linter.defProp false
def XC_:=And.intro (@ze_) (And.intro (@zd_) (@qQ_))
theorem JY_ (a b:RwL) (w:World):Rets Tryd.prog 39 #[.agg (rwC a).toArray, .agg (rwC b).toArray] w (fun v D=>v=vi (wO_ a.id b.id)∧D= []):=by
 refine Rets.enterV Tryd.func39 rfl (rs:= [.tmp 4]) Tryd.results39 Tryd.ntmps39 ?_
 refine kf ?_
 first|with_reducible refine ks [] @XC_ ?_|refine kp @XC_ ?_
 refine Ow.box rfl rfl fun b1 hb1 hw1=> ?_
 simp only[jL_,jr_,jq_,zg_,List.nil_append,List.cons_append]
 refine Ow.go rfl ?_
 simp(disch:=(first|assumption|omega| (simp only[xN_,xT_,UInt64.reduceToNat];try omega))) only[↓Sx.S0,Sx.S1,Tryd.fx,XC_,Nat.reduceAdd,Nat.reducePow,Int.reducePow,Nat.reduceBEq, ↓reduceIte,UInt8.reduceToNat,UInt16.reduceToNat,UInt32.reduceToNat,UInt64.reduceToNat,Int.reduceToNat]
 refine Ow.box rfl rfl fun b2 hb2 hw2=> ?_
 simp only[jL_,jr_,jq_,zg_,List.nil_append,List.cons_append]
 refine Ow.go rfl ?_
 simp(disch:=(first|assumption|omega| (simp only[xN_,xT_,UInt64.reduceToNat];try omega))) only[↓Sx.S0,Sx.S1,Tryd.fx,XC_,Nat.reduceAdd,Nat.reducePow,Int.reducePow,Nat.reduceBEq, ↓reduceIte,UInt8.reduceToNat,UInt16.reduceToNat,UInt32.reduceToNat,UInt64.reduceToNat,Int.reduceToNat]
 obtain⟨h12,-⟩:=hb2
 have hn:b1≠b2:=by omega
 first|with_reducible refine ks [] @XC_ ?_|refine kp @XC_ ?_
 refine Cw.regionS [b1,b2] [0,1,2,3,4,5] [] (by kernel_rfl) (by kernel_rfl) (by kernel_rfl) ?_
 simp only[zj_, ↓zf_, ↓zb_, ↓zp_, ↓zq_,zc_]
 refine kq @XC_ ?_
 refine Ow.soft rfl rfl rfl ?_
 refine Ow.callFV rfl Tryd.call36 (fun w' hw'=>afG_ (x:=a.id) (y:=b.id) (hw'.has b1 (.cells (rwC a).toArray 45 (0,0)) (by simp)) (abr_ a) (hw'.has b2 (.cells (rwC b).toArray 45 (0,0)) (by simp)) (abr_ b)) ?_
 with_reducible refine Ow.nil ?_
 refine⟨by intro b hb;simp only[List.mem_cons,List.not_mem_nil,or_false] at hb;(try subst hb);rfl, ?_⟩
 refine kq @XC_ ?_
 refine⟨_,(ke @XC_),⟨hw1,hw2,trivial⟩, ?_⟩
 rfl
def x9_ (a b:RwL):Int:=WL_ a.id.l b.id.l
theorem j4_ (a b:RwL) (w:World):Rets Tryd.prog 39 #[.agg (rwC a).toArray, .agg (rwC b).toArray] w (fun v D=>v=vi (x9_ a b)∧D= []):=JY_ a b w
end Go.Proofs
end
section
open Go Go.Proofs Go.Sx Go.StP
namespace Go.Proofs
set_option maxRecDepth 10000
set_option maxHeartbeats 4000000
set_option linter.unusedSimpArgs false
abbrev zs_ (rest:List Value) (d:List RwL):Obj:=rowO rwC 45 rest d
theorem j2_ {rest:List Value} {d:List RwL} (k:Nat) (hk:k<d.length):zn_ (some (true,34)) (some (zs_ rest d)) (k*34)=some (.agg (rwC (d.getD k rw0)).toArray):=abL_ (z:=rw0) z1_ k hk
theorem jy_ {rest:List Value} {d:List RwL} (k:Nat) (x:RwL) (a:Bool) (hk:k<d.length):zl_ (some (a,34)) (some (zs_ rest d)) (k*34) (.agg (rwC x).toArray)=some (zs_ rest (d.set k x)):=Ks_ z1_ Xl_ k x a hk
set_option linter.defProp false
def xw_:=And.intro (And.intro (@j2_) (@jy_)) (And.intro (@kg_) (And.intro (@q6_) (@qQ_)))
theorem jc_ (rb n c:Nat) (A X M Y C:List RwL) (rest:List Value) (fv:Value) (a b k:Nat) (w:World) (hX:X.length=k) (hY:Y.length=k) (ha:A.length=a) (hb:b=a+k+M.length) (hn:n=a+k+M.length+k+C.length) (hs:n<1000000)
  (ho:w.heap[rb]? =some (zs_ rest (A++ (X++ (M++ (Y++C)))))):
  Rets Tryd.prog 95 #[vsl rb 0 n c,vi a,vi b,vi k,fv] w (fun v D=> ∃o,D= [(rb,o)]∧v= .tuple #[]∧o=zs_ rest (A++ (Y++ (M++ (X++C))))):=by
 refine Rets.enterM Tryd.func95 rfl (rs:= []) Tryd.results95 Tryd.ntmps95 ho ?_
 refine kf ?_
 first|with_reducible refine ks [] @xw_ ?_|refine kp @xw_ ?_
 subst ha hb hn
 refine Cw.loopG (G:=Nat) [11,12,13,16,17,18,19,20,21,22,23,24,25,26,27,28,29,30,31,32,33,34,35,36,37,14,15,10] (fun g=> [(10,vi g)]) (fun g=> [(rb,zs_ rest (swp A X M Y C g))]) (fun g=>g≤k) (fun g=>k - g) 0 rfl rfl ?_ ?_
 ·exact Nat.zero_le _
 ·intro g j hg
  refine kv ?_
  by_cases hlt:g<k
  ·first|with_reducible refine ks [] @xw_ ?_|refine kp @xw_ ?_
   have hl:=afv_ (a:=A) (m:=M) (c:=C) hX hY hg
   have h1:=aj1_ (a:=A) (m:=M) (c:=C) (z:=rw0) hX hY hlt rfl
   have h2:=ajG_ (a:=A) (m:=M) (c:=C) (z:=rw0) hX hY hlt rfl
   refine Cw.regionS [rb] [0,1,2,3,4,5,6,7,8,9,10,11,12,14,15,16,17,18,13,19,20,21,22,23] [21,23] (by kernel_rfl) (by kernel_rfl) (by kernel_rfl) ?_
   simp only[zj_, ↓zf_, ↓zb_, ↓zp_, ↓zq_,zc_]
   refine kq @xw_ ?_
   refine Ow.store rfl rfl rfl (ke @xw_) ?_
   refine ko @xw_ ?_
   rw[h1,h2]
   refine Again.mk (g+1) (by omega) (by omega) ?_ rfl
   rw[aaY_ hX hY hlt rfl rfl]
  ·obtain rfl:g=k:=by omega
   first|with_reducible refine ks [] @xw_ ?_|refine kp @xw_ ?_
   refine⟨_,_,_,(ke @xw_),rfl,trivial, ?_⟩
   exact⟨rfl,by unfold swp;rw[List.take_of_length_le (by omega),List.take_of_length_le (by omega),List.drop_eq_nil_of_le (by omega),List.drop_eq_nil_of_le (by omega),List.append_nil,List.append_nil]⟩
structure rws_RotG where
 A:List RwL
 U:List RwL
 V:List RwL
 B:List RwL
theorem QC_ (rb n c:Nat) (A U V B:List RwL) (rest:List Value) (fv:Value) (a m b:Nat) (w:World) (hU:0<U.length) (hV:0<V.length) (ha:A.length=a) (hm:m=a+U.length) (hb:b=m+V.length) (hn:n=b+B.length) (hs:n<1000000)
  (ho:w.heap[rb]? =some (zs_ rest (A++ (U++ (V++B))))):
  Rets Tryd.prog 86 #[vsl rb 0 n c,vi a,vi m,vi b,fv] w (fun v D=> ∃o,D= [(rb,o)]∧v= .tuple #[]∧o=zs_ rest (A++ (V++ (U++B)))):=by
 have e1: (m:Int) - a=(U.length:Nat):=by omega
 have e2: (b:Int) - m=(V.length:Nat):=by omega
 refine Rets.enterM Tryd.func86 rfl (rs:= []) Tryd.results86 Tryd.ntmps86 ho ?_
 refine kf ?_
 first|with_reducible refine ks [] (And.intro @xw_ (And.intro @e1 (@e2))) ?_|refine kp (And.intro @xw_ (And.intro @e1 (@e2))) ?_
 refine Cw.loopG (G:=rws_RotG) [18,19,20,21,22,23,24,25,26,27,28,29,30,31,32,33,34,10,35,36,37,38,39,40,41,42,43,44,45,46,47,48,49,11] (fun g=> [(10,vi g.U.length),(11,vi g.V.length)]) (fun g=> [(rb,zs_ rest (g.A++ (g.U++ (g.V++g.B))))]) (fun g=>0<g.U.length∧0<g.V.length∧g.A.length+g.U.length=m∧g.A++ (g.V++ (g.U++g.B))=A++ (V++ (U++B))∧m+g.V.length+g.B.length=n) (fun g=>g.U.length+g.V.length) ⟨A,U,V,B⟩ rfl rfl ?_ ?_
 ·exact⟨hU,hV,by show A.length+U.length=m;omega,rfl,by show m+V.length+B.length=n;omega⟩
 ·intro g j hg
  refine kv ?_
  obtain⟨A',U',V',B'⟩:=g
  obtain⟨hu,hv,hA,hT,hN⟩:=hg
  dsimp only at hu hv hA hT hN ⊢
  have e3: (m:Int) - U'.length=(A'.length:Nat):=by omega
  by_cases h1:U'.length=V'.length
  ·first|with_reducible refine ks [] (And.intro @xw_ @e3) ?_|refine kp (And.intro @xw_ @e3) ?_
   refine Ow.callM rfl rfl Tryd.call95 (by simp[keys]) (fun w' hw'=>jc_ rb n c A' U' [] V' B' rest fv A'.length m U'.length w' rfl h1.symm rfl (by simp only[List.length_nil];omega) (by simp only[List.length_nil];omega) hs (hw'.has _ _ List.mem_cons_self)) ?_
   refine ko @xw_ ?_
   refine⟨_,_,_,(ke @xw_),rfl,trivial, ?_⟩
   exact⟨rfl,congrArg (zs_ rest) hT⟩
  ·by_cases h2:V'.length<U'.length
   ·obtain⟨U1,U2,rfl,hU1⟩:=JM_ U' (Nat.le_of_lt h2)
    rw[List.length_append] at hA h2 hu h1
    have e4: (m:Int) - (U1++U2).length=(A'.length:Nat):=by rw[List.length_append];omega
    first|with_reducible refine ks [] (And.intro @xw_ @e4) ?_|refine kp (And.intro @xw_ @e4) ?_
    refine Ow.callM rfl rfl Tryd.call95 (by simp[keys]) (fun w' hw'=>jc_ rb n c A' U1 U2 V' B' rest fv A'.length m V'.length w' hU1 rfl rfl (by omega) (by omega) hs (by rw[←List.append_assoc U1];exact hw'.has _ _ List.mem_cons_self)) ?_
    have e5: ((U1++U2).length:Int) - (V'.length:Int)=(U2.length:Nat):=by rw[List.length_append];omega
    refine ko (And.intro @xw_ @e5) ?_
    refine Again.mk ⟨A'++V',U2,U1,B'⟩ (by simp only[List.length_append];omega) ⟨by show 0<U2.length;omega,by show 0<U1.length;omega,by simp only[List.length_append];omega, ?_,by show m+U1.length+B'.length=n;omega⟩ ?_ ?_
    ·rw[←hT];simp only[List.append_assoc]
    ·simp only[List.append_assoc]
    ·dsimp only;rw[hU1];rfl
   ·obtain⟨V1,V2,rfl,hV1⟩:=JM_ V' (show V'.length - U'.length≤V'.length by omega)
    rw[List.length_append] at hN h2 hv h1 hV1
    have e4: (m:Int)+ (V1++V2).length - U'.length=((A'.length+U'.length+V1.length:Nat):Int):=by rw[List.length_append];omega
    first|with_reducible refine ks [] (And.intro @xw_ (And.intro @e3 (@e4))) ?_|refine kp (And.intro @xw_ (And.intro @e3 (@e4))) ?_
    refine Ow.callM rfl rfl Tryd.call95 (by simp[keys]) (fun w' hw'=>jc_ rb n c A' U' V1 V2 B' rest fv A'.length (A'.length+U'.length+V1.length) U'.length w' rfl (by omega) rfl (by omega) (by omega) hs (by rw[←List.append_assoc V1];exact hw'.has _ _ List.mem_cons_self)) ?_
    have e5: ((V1++V2).length:Int) - (U'.length:Int)=(V1.length:Nat):=by rw[List.length_append];omega
    have e6:V2.length=U'.length:=by omega
    refine ko (And.intro @xw_ @e5) ?_
    refine Again.mk ⟨A',V2,V1,U'++B'⟩ (by simp only[List.length_append];omega) ⟨by show 0<V2.length;omega,by show 0<V1.length;omega,by show A'.length+V2.length=m;omega, ?_,by simp only[List.length_append];omega⟩ ?_ ?_
    ·rw[←hT];simp only[List.append_assoc]
    ·simp only[List.append_assoc]
    ·dsimp only;rw[e6];rfl
end Go.Proofs
end
section
open Go Go.Proofs Go.Sx Go.StP
namespace Go.Proofs
set_option maxRecDepth 10000
set_option maxHeartbeats 4000000
set_option linter.unusedSimpArgs false
abbrev qN_ (a b:RwL):Bool:=StP.lt (fun r:RwL=>r.id.l) a b
abbrev zv_ (l:List RwL):Prop:=StP.Sorted (fun r:RwL=>r.id.l) l
abbrev ja_ (l l':List RwL):Prop:=StP.St (fun r:RwL=>r.id.l) l l'
theorem vC_ (a b:RwL):decide (x9_ a b<0)=qN_ a b:=by
 unfold x9_ WL_ qN_ StP.lt
 cases h:ltB a.id.l b.id.l
 ·rw[if_neg (by simp)]
  split<;>rfl
 ·rw[if_pos rfl];rfl
structure rws_InsG where
 S:List RwL
 R:List RwL
set_option linter.defProp false
def jH_:=And.intro (And.intro (@j2_) (And.intro (@jy_) (@kg_))) (And.intro (@q6_) (And.intro (@qQ_) (@vC_)))
theorem xF_ (rb n c:Nat) (A M B:List RwL) (rest:List Value) (a b:Nat) (w:World) (ha:A.length=a) (hb:b=a+M.length) (hn:n=b+B.length) (hs:n<1000000)
  (ho:w.heap[rb]? =some (zs_ rest (A++ (M++B)))):
  Rets Tryd.prog 71 #[vsl rb 0 n c,vi a,vi b, .func (.func 39) #[] #[]] w (fun v D=> ∃o,D= [(rb,o)]∧v= .tuple #[]∧ ∃M',o=zs_ rest (A++ (M'++B))∧M'.length=M.length∧zv_ M'∧ja_ M M'):=by
 cases M with
 |nil=>
  simp only[List.length_nil,Nat.add_zero] at hb
  subst hb
  refine Rets.enterM Tryd.func71 rfl (rs:= []) Tryd.results71 Tryd.ntmps71 ho ?_
  refine kf ?_
  first|with_reducible refine ks [] @jH_ ?_|refine kp @jH_ ?_
  refine Cw.loopG (G:=Unit) [12,13,14,17,9,18,19,20,21,22,23,24,25,26,27,28,29,30,31,32,33,34,37,38,39,40,41,42,43,44,45,46,47,48,49,50,51,52,35,36,15,16,8] (fun g=> [(8,vi (b+1))]) (fun g=> [(rb,zs_ rest (A++ ([]++B)))]) (fun g=>True) (fun g=>0) () rfl rfl ?_ ?_
  ·trivial
  ·intro g j hg
   refine kv ?_
   first|with_reducible refine ks [] @jH_ ?_|refine kp @jH_ ?_
   refine⟨_,_,_,(ke @jH_),rfl,trivial, ?_⟩
   exact⟨rfl,[],rfl,rfl,List.Pairwise.nil,StP.St.refl _ _⟩
 |cons x0 M=>
  refine Rets.enterM Tryd.func71 rfl (rs:= []) Tryd.results71 Tryd.ntmps71 ho ?_
  refine kf ?_
  first|with_reducible refine ks [] @jH_ ?_|refine kp @jH_ ?_
  have e0: (a:Int)+1=((a+ [x0].length:Nat):Int):=by simp
  rw[e0]
  refine Cw.loopG (G:=rws_InsG) [12,13,14,17,9,18,19,20,21,22,23,24,25,26,27,28,29,30,31,32,33,34,37,38,39,40,41,42,43,44,45,46,47,48,49,50,51,52,35,36,15,16,8] (fun g=> [(8,vi (a+g.S.length:Nat))]) (fun g=> [(rb,zs_ rest (A++ (g.S++ (g.R++B))))]) (fun g=> ∃M1,x0::M=M1++g.R∧g.S.length=M1.length∧zv_ g.S∧ja_ M1 g.S) (fun g=>g.R.length) ⟨[x0],M⟩ rfl rfl ?_ ?_
  ·exact⟨[x0],rfl,rfl,List.pairwise_singleton _ _,StP.St.refl _ _⟩
  ·intro g j hg
   refine kv ?_
   obtain⟨S,R⟩:=g
   obtain⟨M1,hM,hS1,hS2,hS3⟩:=hg
   dsimp only at hM hS1 hS2 hS3 ⊢
   have hlen:=congrArg List.length hM
   rw[List.length_cons,List.length_append] at hlen
   rw[List.length_cons] at hb
   cases R with
   |nil=>
    rw[List.length_nil] at hlen
    first|with_reducible refine ks [] @jH_ ?_|refine kp @jH_ ?_
    refine⟨_,_,_,(ke @jH_),rfl,trivial, ?_⟩
    exact⟨rfl,S,rfl,by show S.length=M.length+1;omega,hS2,by rw[show x0::M=M1 from by rw[hM,List.append_nil]];exact hS3⟩
   |cons x R=>
    rw[List.length_cons] at hlen
    have e1:A++ (S++ (x::R++B))=zV_ A S x (R++B) S.length:=by rw[wd_ _ _ _ _ (Nat.le_refl _)];simp only[List.append_assoc,List.cons_append,List.nil_append]
    rw[e1]
    first|with_reducible refine ks [] @jH_ ?_|refine kp @jH_ ?_
    refine Cw.loopG (G:=Nat) [18,19,20,21,22,23,24,25,26,27,28,29,30,31,32,33,34,37,38,39,40,41,42,43,44,45,46,47,48,49,50,51,52,35,36,9] (fun g=> [(9,vi (a+g:Nat))]) (fun g=> [(rb,zs_ rest (zV_ A S x (R++B) g))]) (fun g=>g≤S.length∧(S.length≤g∨qN_ x (S.getD g rw0)=true)) (fun g=>g) S.length rfl rfl ?_ ?_
    ·exact⟨Nat.le_refl _, .inl (Nat.le_refl _)⟩
    ·intro k jk hk
     refine kv ?_
     obtain⟨hk1,hk2⟩:=hk
     have hl:=q2_ A S x (R++B) k
     rw[List.length_append] at hl
     have done: (k=0∨qN_ x (S.getD (k - 1) rw0)=false)→ja_ (M1++ [x]) (S.take k++x::S.drop k)∧zv_ (S.take k++x::S.drop k):=fun h=>by
      obtain⟨q1,q2⟩:=xD_ (z:=rw0) hS2 hk1 h hk2
      exact⟨(StP.St.app hS3 (StP.St.refl _ _)).trans q2,q1⟩
     first|with_reducible refine ks [] @jH_ ?_|refine kp @jH_ ?_
     by_cases hk0:k=0
     ·have e2:decide ((a:Int)< ((a+k:Nat):Int))=false:=decide_eq_false (by omega)
      refine Cw.regionS [rb] [0,1,2,3,4,5,6,7,9,10,11,12,8,13,14,15,16] [] (by kernel_rfl) (by kernel_rfl) (by kernel_rfl) ?_
      simp only[zj_, ↓zf_, ↓zb_, ↓zp_, ↓zq_,zc_]
      refine kq (And.intro @jH_ @e2) ?_
      first|with_reducible refine ks [] @jH_ ?_|refine kp @jH_ ?_
      obtain⟨d1,d2⟩:=done (.inl hk0)
      refine Again.mk ⟨S.take k++x::S.drop k,R⟩ (by show R.length< (x::R).length;simp) ⟨M1++ [x],by rw[hM];simp,by simp only[List.length_append,List.length_cons,List.length_nil,List.length_take,List.length_drop];omega,d2,d1⟩ ?_ ?_
      ·rw[jO_]
      ·dsimp only
       rw[show(S.take k++x::S.drop k).length=S.length+1 by simp only[List.length_append,List.length_cons,List.length_take,List.length_drop];omega]
       rfl
     ·have e2:decide ((a:Int)< ((a+k:Nat):Int))=true:=decide_eq_true (by omega)
      refine Cw.regionS [rb] [0,1,2,3,4,5,6,7,9,10,11,12,8,13,14,15,16] [] (by kernel_rfl) (by kernel_rfl) (by kernel_rfl) ?_
      simp only[zj_, ↓zf_, ↓zb_, ↓zp_, ↓zq_,zc_]
      refine kq (And.intro @jH_ @e2) ?_
      refine Ow.callFn2 (v:=vi (x9_ x (S.getD (k - 1) rw0))) rfl rfl (by
       show Value.agg _=Value.agg (rwC x).toArray
       rw[jP_ (z:=rw0) hk1 (by rw[ha])]) (by
       show Value.agg _=Value.agg (rwC (S.getD (k - 1) rw0)).toArray
       rw[show k=(k - 1)+1 by omega,wW_ (z:=rw0) (k:=k - 1) (by omega) (by rw[ha];omega)];rfl) Tryd.call39 (fun w' hw'=>j4_ x (S.getD (k - 1) rw0) w') ?_
      refine kq @jH_ ?_
      cases hc:qN_ x (S.getD (k - 1) rw0)
      ·first|with_reducible refine ks [] @jH_ ?_|refine kp @jH_ ?_
       obtain⟨d1,d2⟩:=done (.inr hc)
       refine Again.mk ⟨S.take k++x::S.drop k,R⟩ (by show R.length< (x::R).length;simp) ⟨M1++ [x],by rw[hM];simp,by simp only[List.length_append,List.length_cons,List.length_nil,List.length_take,List.length_drop];omega,d2,d1⟩ ?_ ?_
       ·rw[jO_]
       ·dsimp only
        rw[show(S.take k++x::S.drop k).length=S.length+1 by simp only[List.length_append,List.length_cons,List.length_take,List.length_drop];omega]
        rfl
      ·first|with_reducible refine ks [] @jH_ ?_|refine kp @jH_ ?_
       obtain⟨k,rfl⟩: ∃q,k=q+1:=⟨k - 1,by omega⟩
       have h1:=jP_ (z:=rw0) (a:=A) (b:=R++B) (x:=x) hk1 (show a+ (k+1)=A.length+ (k+1) by omega)
       have h2:=wW_ (z:=rw0) (a:=A) (b:=R++B) (x:=x) (k:=k) (s:=S) (by omega) (show a+k=A.length+k by omega)
       have e3:a+ (k+1) - 1=a+k:=by omega
       refine Cw.regionS [rb] [0,1,2,3,4,5,6,7,8,10,11,12,9,13,14,15,16,17] [15,17] (by kernel_rfl) (by kernel_rfl) (by kernel_rfl) ?_
       simp only[zj_, ↓zf_, ↓zb_, ↓zp_, ↓zq_,zc_]
       refine kq (And.intro @jH_ (And.intro @e3 (And.intro @h1 (@h2)))) ?_
       refine Ow.store rfl rfl rfl (ke (And.intro @jH_ (And.intro @e3 (And.intro @h1 (@h2))))) ?_
       refine ko (And.intro @jH_ (And.intro @e3 (And.intro @h1 (@h2)))) ?_
       rw[vO_ (by omega),←Nat.add_assoc,vi_ (z:=rw0) (by omega) (by rw[ha])]
       refine Again.mk k (by omega) ⟨by omega, .inr hc⟩ rfl ?_
       rw[show(((a+k+1:Nat):Int)) - 1=((a+k:Nat):Int) by omega]
       rfl
end Go.Proofs
end
section
open Go Go.Proofs Go.Sx Go.StP
namespace Go.Proofs
set_option maxRecDepth 10000
set_option maxHeartbeats 4000000
set_option linter.unusedSimpArgs false
abbrev qo_:Value:= .func (.func 39) #[] #[]
def wL_ (rb:Nat) (A X Y B:List RwL) (rest:List Value) (v:Value) (D:za_):Prop:=
 ∃o,D= [(rb,o)]∧v= .tuple #[]∧ ∃Z,o=zs_ rest (A++ (Z++B))∧Z.length=X.length+Y.length∧zv_ Z∧ja_ (X++Y) Z
set_option linter.defProp false
def x1_:=And.intro (And.intro (@j2_) (And.intro (@jy_) (@kg_))) (And.intro (And.intro (@q6_) (@qQ_)) (And.intro (@vC_) (@vX_)))
theorem XO_ (rb n c:Nat) (A:List RwL) (x:RwL) (Y B:List RwL) (rest:List Value) (a m b:Nat) (w:World) (ha:A.length=a) (hm:m=a+1) (hb:b=m+Y.length) (hn:n=b+B.length) (hs:n<1000000) (hY:zv_ Y)
  (ho:w.heap[rb]? =some (zs_ rest (A++ ([x]++ (Y++B))))):
  Rets Tryd.prog 72 #[vsl rb 0 n c,vi a,vi m,vi b,qo_] w (wL_ rb A [x] Y B rest):=by
 subst hb
 refine Rets.enterM Tryd.func72 rfl (rs:= []) Tryd.results72 Tryd.ntmps72 ho ?_
 refine kf ?_
 first|with_reducible refine ks [] @x1_ ?_|refine kp @x1_ ?_
 have e0:A++x:: (Y++B)=zV_ A Y x B 0:=by rw[JX_];simp only[List.append_assoc,List.cons_append,List.nil_append]
 rw[e0]
 refine Cw.loopG (G:=BsG) [31,32,33,34,35,36,37,38,39,12,40,41,42,43,44,45,46,47,48,49,50,51,52,10,53,11] (fun g=> [(10,vi (m+g.i:Nat)),(11,vi (m+g.j:Nat))]) (fun g=> [(rb,zs_ rest (zV_ A Y x B 0))]) (fun g=>g.i≤g.j∧g.j≤Y.length∧(g.i=0∨qN_ (Y.getD (g.i - 1) rw0) x=true)∧(Y.length≤g.j∨qN_ (Y.getD g.j rw0) x=false)) (fun g=>g.j - g.i) ⟨0,Y.length⟩ rfl rfl ?_ ?_
 ·exact⟨Nat.zero_le _,Nat.le_refl _, .inl rfl, .inl (Nat.le_refl _)⟩
 ·intro g j hg
  refine kv ?_
  obtain⟨i,j⟩:=g
  obtain⟨h1,h2,h3,h4⟩:=hg
  dsimp only at h1 h2 h3 h4 ⊢
  by_cases hij:i<j
  ·have e1: (m+i+ (m+j)) / 2=m+ (i+j) / 2:=by omega
   have hl:=q2_ A Y x B 0
   first|with_reducible refine ks [] (And.intro @x1_ @e1) ?_|refine kp (And.intro @x1_ @e1) ?_
   have g1: (zV_ A Y x B 0).getD (m+ (i+j) / 2) rw0=Y.getD ((i+j) / 2) rw0:=abl_ (Nat.zero_le _) (by omega) (by omega)
   have g2: (zV_ A Y x B 0).getD a rw0=x:=jP_ (Nat.zero_le _) (by omega)
   refine Cw.regionS [rb] [0,1,2,3,5,6,7,4,8,9,10] [] (by kernel_rfl) (by kernel_rfl) (by kernel_rfl) ?_
   simp only[zj_, ↓zf_, ↓zb_, ↓zp_, ↓zq_,zc_]
   refine kq (And.intro @x1_ (And.intro @g1 (@g2))) ?_
   refine Ow.callFn2 (v:=vi (x9_ (Y.getD ((i+j) / 2) rw0) x)) rfl rfl rfl rfl Tryd.call39 (fun w' hw'=>j4_ _ _ w') ?_
   refine kq @x1_ ?_
   cases hc:qN_ (Y.getD ((i+j) / 2) rw0) x
   ·first|with_reducible refine ks [] @x1_ ?_|refine kp @x1_ ?_
    refine Again.mk ⟨i,(i+j) / 2⟩ (by show(i+j) / 2 - i<j - i;omega) ⟨by show i≤ (i+j) / 2;omega,by show(i+j) / 2≤Y.length;omega,h3, .inr hc⟩ rfl rfl
   ·first|with_reducible refine ks [] @x1_ ?_|refine kp @x1_ ?_
    refine Again.mk ⟨(i+j) / 2+1,j⟩ (by show j - ((i+j) / 2+1)<j - i;omega) ⟨by show(i+j) / 2+1≤j;omega,h2, .inr hc,h4⟩ rfl rfl
  ·obtain rfl:i=j:=by omega
   first|with_reducible refine ks [] @x1_ ?_|refine kp @x1_ ?_
   refine Cw.loopG (G:=Nat) [55,56,57,58,61,62,63,64,65,66,67,68,69,70,71,72,73,74,75,76,59,60,13] (fun g=> [(13,vi (a+g:Nat))]) (fun g=> [(rb,zs_ rest (zV_ A Y x B g))]) (fun g=>g≤i) (fun g=>i - g) 0 rfl rfl ?_ ?_
   ·exact Nat.zero_le _
   ·intro k jk hk
    refine kv ?_
    by_cases hk1:k<i
    ·first|with_reducible refine ks [] @x1_ ?_|refine kp @x1_ ?_
     have hl:=q2_ A Y x B k
     have g1: (zV_ A Y x B k).getD (a+k) rw0=x:=jP_ (by omega) (by omega)
     have g2: (zV_ A Y x B k).getD (a+k+1) rw0=Y.getD k rw0:=afI_ (by omega) (by omega)
     refine Cw.regionS [rb] [0,1,2,3,4,5,6,7,8,10,11,12,9,13,14,15,16,17] [15,17] (by kernel_rfl) (by kernel_rfl) (by kernel_rfl) ?_
     simp only[zj_, ↓zf_, ↓zb_, ↓zp_, ↓zq_,zc_]
     refine kq (And.intro @x1_ (And.intro @g1 (@g2))) ?_
     refine Ow.store rfl rfl rfl (ke (And.intro @x1_ (And.intro @g1 (@g2)))) ?_
     refine ko (And.intro @x1_ (And.intro @g1 (@g2))) ?_
     rw[aa1_ (z:=rw0) (by omega) (by omega)]
     exact Again.mk (k+1) (by omega) (by omega) rfl rfl
    ·obtain rfl:k=i:=by omega
     first|with_reducible refine ks [] @x1_ ?_|refine kp @x1_ ?_
     have hz:=vT_ (z:=rw0) hY h2 h3 h4
     refine⟨_,_,_,(ke @x1_),rfl,trivial, ?_⟩
     exact⟨rfl,_,by rw[jO_],by simp only[List.length_append,List.length_cons,List.length_nil,List.length_take,List.length_drop];omega,hz.1,hz.2⟩
end Go.Proofs
end
section
open Go Go.Proofs Go.Sx Go.StP
namespace Go.Proofs
set_option maxRecDepth 10000
set_option maxHeartbeats 4000000
set_option linter.unusedSimpArgs false
set_option linter.defProp false
def zN_:=And.intro (And.intro (@j2_) (And.intro (@jy_) (@kg_))) (And.intro (And.intro (@q6_) (@qQ_)) (And.intro (@vC_) (@vX_)))
theorem Ji_ (rb n c:Nat) (A X:List RwL) (y:RwL) (B:List RwL) (rest:List Value) (a m b:Nat) (w:World) (ha:A.length=a) (hm:m=a+X.length) (hX2:X.length≠1) (hb:b=m+1) (hn:n=b+B.length) (hs:n<1000000) (hX:zv_ X)
  (ho:w.heap[rb]? =some (zs_ rest (A++ (X++ ([y]++B))))):
  Rets Tryd.prog 72 #[vsl rb 0 n c,vi a,vi m,vi b,qo_] w (wL_ rb A X [y] B rest):=by
 subst hm
 refine Rets.enterM Tryd.func72 rfl (rs:= []) Tryd.results72 Tryd.ntmps72 ho ?_
 refine kf ?_
 first|with_reducible refine ks [] @zN_ ?_|refine kp @zN_ ?_
 have e0:A++ (X++y::B)=zV_ A X y B X.length:=by rw[wd_ _ _ _ _ (Nat.le_refl _)];simp only[List.append_assoc,List.cons_append,List.nil_append]
 rw[e0]
 refine Cw.loopG (G:=BsG) [83,84,85,86,87,88,89,90,91,16,92,93,94,95,96,97,98,99,100,101,102,103,104,105,14,106,15] (fun g=> [(14,vi (a+g.i:Nat)),(15,vi (a+g.j:Nat))]) (fun g=> [(rb,zs_ rest (zV_ A X y B X.length))]) (fun g=>g.i≤g.j∧g.j≤X.length∧(g.i=0∨qN_ y (X.getD (g.i - 1) rw0)=false)∧(X.length≤g.j∨qN_ y (X.getD g.j rw0)=true)) (fun g=>g.j - g.i) ⟨0,X.length⟩ rfl rfl ?_ ?_
 ·exact⟨Nat.zero_le _,Nat.le_refl _, .inl rfl, .inl (Nat.le_refl _)⟩
 ·intro g j hg
  refine kv ?_
  obtain⟨i,j⟩:=g
  obtain⟨h1,h2,h3,h4⟩:=hg
  dsimp only at h1 h2 h3 h4 ⊢
  by_cases hij:i<j
  ·have e1: (a+i+ (a+j)) / 2=a+ (i+j) / 2:=by omega
   have hl:=q2_ A X y B X.length
   first|with_reducible refine ks [] (And.intro @zN_ @e1) ?_|refine kp (And.intro @zN_ @e1) ?_
   have g1: (zV_ A X y B X.length).getD (a+ (i+j) / 2) rw0=X.getD ((i+j) / 2) rw0:=abq_ (by omega) (by omega) (by omega)
   have g2: (zV_ A X y B X.length).getD (a+X.length) rw0=y:=jP_ (Nat.le_refl _) (by omega)
   refine Cw.regionS [rb] [0,1,2,3,5,6,7,4,8,9,10,11] [] (by kernel_rfl) (by kernel_rfl) (by kernel_rfl) ?_
   simp only[zj_, ↓zf_, ↓zb_, ↓zp_, ↓zq_,zc_]
   refine kq (And.intro @zN_ (And.intro @g1 (@g2))) ?_
   refine Ow.callFn2 (v:=vi (x9_ y (X.getD ((i+j) / 2) rw0))) rfl rfl rfl rfl Tryd.call39 (fun w' hw'=>j4_ _ _ w') ?_
   refine kq @zN_ ?_
   cases hc:qN_ y (X.getD ((i+j) / 2) rw0)
   ·first|with_reducible refine ks [] @zN_ ?_|refine kp @zN_ ?_
    refine Again.mk ⟨(i+j) / 2+1,j⟩ (by show j - ((i+j) / 2+1)<j - i;omega) ⟨by show(i+j) / 2+1≤j;omega,h2, .inr hc,h4⟩ rfl rfl
   ·first|with_reducible refine ks [] @zN_ ?_|refine kp @zN_ ?_
    refine Again.mk ⟨i,(i+j) / 2⟩ (by show(i+j) / 2 - i<j - i;omega) ⟨by show i≤ (i+j) / 2;omega,by show(i+j) / 2≤X.length;omega,h3, .inr hc⟩ rfl rfl
  ·obtain rfl:i=j:=by omega
   first|with_reducible refine ks [] @zN_ ?_|refine kp @zN_ ?_
   refine Cw.loopG (G:=Nat) [108,109,110,113,114,115,116,117,118,119,120,121,122,123,124,125,126,127,128,111,112,17] (fun g=> [(17,vi (a+g:Nat))]) (fun g=> [(rb,zs_ rest (zV_ A X y B g))]) (fun g=>i≤g∧g≤X.length) (fun g=>g) X.length rfl rfl ?_ ?_
   ·exact⟨h2,Nat.le_refl _⟩
   ·intro k jk hk
    refine kv ?_
    obtain⟨hk1,hk2⟩:=hk
    by_cases hk:i<k
    ·obtain⟨k,rfl⟩: ∃q,k=q+1:=⟨k - 1,by omega⟩
     first|with_reducible refine ks [] @zN_ ?_|refine kp @zN_ ?_
     have hl:=q2_ A X y B (k+1)
     have g1: (zV_ A X y B (k+1)).getD (a+ (k+1)) rw0=y:=jP_ (by omega) (by omega)
     have g2: (zV_ A X y B (k+1)).getD (a+k) rw0=X.getD k rw0:=wW_ (by omega) (by omega)
     have e3:a+ (k+1) - 1=a+k:=by omega
     refine Cw.regionS [rb] [0,1,2,3,4,5,6,7,8,10,11,12,9,13,14,15,16,17] [15,17] (by kernel_rfl) (by kernel_rfl) (by kernel_rfl) ?_
     simp only[zj_, ↓zf_, ↓zb_, ↓zp_, ↓zq_,zc_]
     refine kq (And.intro @zN_ (And.intro @e3 (And.intro @g1 (@g2)))) ?_
     refine Ow.store rfl rfl rfl (ke (And.intro @zN_ (And.intro @e3 (And.intro @g1 (@g2))))) ?_
     refine ko (And.intro @zN_ (And.intro @e3 (And.intro @g1 (@g2)))) ?_
     rw[vO_ (by omega),←Nat.add_assoc,vi_ (z:=rw0) (by omega) (by omega)]
     refine Again.mk k (by omega) ⟨by omega,by omega⟩ rfl ?_
     rw[show(((a+k+1:Nat):Int)) - 1=((a+k:Nat):Int) by omega]
     rfl
    ·obtain rfl:k=i:=by omega
     first|with_reducible refine ks [] @zN_ ?_|refine kp @zN_ ?_
     have hz:=xD_ (z:=rw0) hX h2 h3 h4
     refine⟨_,_,_,(ke @zN_),rfl,trivial, ?_⟩
     exact⟨rfl,_,by rw[jO_],by simp only[List.length_append,List.length_cons,List.length_nil,List.length_take,List.length_drop];omega,hz.1,hz.2⟩
theorem adC_ {A X C:List RwL} {h i:Nat} (hh:h<X.length) (e:i=A.length+h): (A++ (X++C)).getD i rw0=X.getD h rw0:=by
 subst e
 rw[qf_ (by omega),Nat.add_sub_cancel_left,qq_ hh]
theorem ac2_ {A X Y C:List RwL} {h i:Nat} (hh:h<Y.length) (e:i=A.length+X.length+h): (A++ (X++ (Y++C))).getD i rw0=Y.getD h rw0:=by
 subst e
 rw[qf_ (by omega),qf_ (by omega),qq_ (by omega)]
 congr 1;omega
theorem xX_ (q:Nat): ∀ (rb n c:Nat) (A X Y B:List RwL) (rest:List Value) (a m b:Nat) (w:World) (_ha:A.length=a) (_hm:m=a+X.length) (_hb:b=m+Y.length) (_hn:n=b+B.length) (_hs:n<1000000) (_hX:zv_ X) (_hY:zv_ Y) (_hx0:0<X.length) (_hy0:0<Y.length) (_hq:X.length+Y.length≤q)
  (_ho:w.heap[rb]? =some (zs_ rest (A++ (X++ (Y++B))))),
  Rets Tryd.prog 72 #[vsl rb 0 n c,vi a,vi m,vi b,qo_] w (wL_ rb A X Y B rest):=by
 induction q with
 |zero=>intros;omega
 |succ q ih=>
  intro rb n c A X Y B rest a m b w ha hm hb hn hs hX hY hx0 hy0 hq ho
  by_cases hX1:X.length=1
  ·obtain⟨x,rfl⟩:=List.length_eq_one_iff.1 hX1
   exact XO_ rb n c A x Y B rest a m b w ha hm hb hn hs hY ho
  by_cases hY1:Y.length=1
  ·obtain⟨y,rfl⟩:=List.length_eq_one_iff.1 hY1
   exact Ji_ rb n c A X y B rest a m b w ha hm hX1 hb hn hs hX ho
  have e1: (m:Int) - a=(X.length:Nat):=by omega
  have e2: (b:Int) - m=(Y.length:Nat):=by omega
  refine Rets.enterM Tryd.func72 rfl (rs:= []) Tryd.results72 Tryd.ntmps72 ho ?_
  refine kf ?_
  obtain⟨mid,hmd⟩: ∃q,q=(a+b) / 2:=⟨_,rfl⟩
  obtain⟨nn,hnn⟩: ∃q,q=mid+m:=⟨_,rfl⟩
  have e3: (mid:Int)+ (m:Int)=(nn:Nat):=by omega
  have e5: (nn:Int) - 1=((nn - 1:Nat):Int):=by omega
  have hl: (A++ (X++ (Y++B))).length=n:=by simp only[List.length_append];omega
  ((try with_reducible refine Cw.go [1000027] ?_);(try simp(disch:=(first|assumption|omega| (simp only[xN_,xT_,UInt64.reduceToNat];try omega))) only[↓Sx.S0,Sx.S1,Tryd.fx,zN_,Nat.reduceAdd,Nat.reducePow,Int.reducePow,Nat.reduceBEq, ↓reduceIte,UInt8.reduceToNat,UInt16.reduceToNat,UInt32.reduceToNat,UInt64.reduceToNat,Int.reduceToNat,e1,e2,←hmd,e3,e5]))
  refine Cw.cut (G:=BsG) 220 (fun g=> [(0,vsl rb 0 n c),(1,vi a),(2,vi m),(3,vi b),(4,qo_),(18,vi mid),(19,vi nn),(20,vi g.i),(21,vi g.j)]) (fun g=> [(rb,zs_ rest (A++ (X++ (Y++B))))]) (fun g=>g.i≤g.j∧g.j≤m∧nn≤b+g.i∧m+g.j≤nn∧a≤g.i∧(g.i=a∨nn=b+g.i)∧(g.j=m∨m+g.j=nn)) ?_ ?_
  ·by_cases hmid:mid<m
   ·have e4: (nn:Int) - (b:Int)=((nn - b:Nat):Int):=by omega
    first|with_reducible refine ks [] (And.intro @zN_ @e4) ?_|refine kp (And.intro @zN_ @e4) ?_
    exact CutM.mk ⟨nn - b,mid⟩ ⟨by show nn - b≤mid;omega,by show mid≤m;omega,by show nn≤b+ (nn - b);omega,by show m+mid≤nn;omega,by show a≤nn - b;omega, .inr (by show nn=b+ (nn - b);omega), .inr (by show m+mid=nn;omega)⟩ rfl rfl
   ·first|with_reducible refine ks [] @zN_ ?_|refine kp @zN_ ?_
    exact CutM.mk ⟨a,m⟩ ⟨by show a≤m;omega,by show m≤m;omega,by show nn≤b+a;omega,by show m+m≤nn;omega,by show a≤a;omega, .inl rfl, .inl rfl⟩ rfl rfl
  ·intro g j hg
   simp only[JL_,JP_,pin,kC_,kv_,Nat.reduceAdd]
   obtain⟨s0,r0⟩:=g
   obtain⟨f1,f2,f3,f4,f5,f6,f7⟩:=hg
   dsimp only at f1 f2 f3 f4 f5 f6 f7 ⊢
   first|with_reducible refine ks [1000039,1000041] (And.intro @zN_ @e5) ?_|refine kp (And.intro @zN_ @e5) ?_
   refine Cw.loopG (G:=BsG) [149,150,151,152,153,154,155,156,157,23,158,159,160,161,162,163,164,165,166,167,168,169,170,171,172,173,20,174,21] (fun g=> [(20,vi g.i),(21,vi g.j)]) (fun g=> [(rb,zs_ rest (A++ (X++ (Y++B))))]) (fun g=>s0≤g.i∧g.i≤g.j∧g.j≤r0∧(g.i=s0∨qN_ ((A++ (X++ (Y++B))).getD (nn - g.i) rw0) ((A++ (X++ (Y++B))).getD (g.i - 1) rw0)=false)∧(g.j=r0∨qN_ ((A++ (X++ (Y++B))).getD (nn - 1 - g.j) rw0) ((A++ (X++ (Y++B))).getD g.j rw0)=true)) (fun g=>g.j - g.i) ⟨s0,r0⟩ rfl rfl ?_ ?_
   ·exact⟨Nat.le_refl _,f1,Nat.le_refl _, .inl rfl, .inl rfl⟩
   ·intro g j hg
    refine kv ?_
    obtain⟨i,j⟩:=g
    obtain⟨h1,h2,h3,h4,h5⟩:=hg
    dsimp only at h1 h2 h3 h4 h5 ⊢
    by_cases hij:i<j
    ·obtain⟨h,hh⟩: ∃q,q=(i+j) / 2:=⟨_,rfl⟩
     have e6: ((nn - 1:Nat):Int) - (h:Int)=((nn - 1 - h:Nat):Int):=by omega
     ((try with_reducible refine Cw.go [] ?_);(try simp(disch:=(first|assumption|omega| (simp only[xN_,xT_,UInt64.reduceToNat];try omega))) only[↓Sx.S0,Sx.S1,Tryd.fx,zN_,Nat.reduceAdd,Nat.reducePow,Int.reducePow,Nat.reduceBEq, ↓reduceIte,UInt8.reduceToNat,UInt16.reduceToNat,UInt32.reduceToNat,UInt64.reduceToNat,Int.reduceToNat,←hh]))
     refine Cw.regionS [rb] [0,1,2,3,4,5,7,8,9,6,10,11,12,13] [] (by kernel_rfl) (by kernel_rfl) (by kernel_rfl) ?_
     simp only[zj_, ↓zf_, ↓zb_, ↓zp_, ↓zq_,zc_]
     refine kq (And.intro @zN_ @e6) ?_
     refine Ow.callFn2 (v:=vi (x9_ ((A++ (X++ (Y++B))).getD (nn - 1 - h) rw0) ((A++ (X++ (Y++B))).getD h rw0))) rfl rfl rfl rfl Tryd.call39 (fun w' hw'=>j4_ _ _ w') ?_
     refine kq @zN_ ?_
     cases hc:qN_ ((A++ (X++ (Y++B))).getD (nn - 1 - h) rw0) ((A++ (X++ (Y++B))).getD h rw0)
     ·first|with_reducible refine ks [] @zN_ ?_|refine kp @zN_ ?_
      refine Again.mk ⟨h+1,j⟩ (by show j - (h+1)<j - i;omega) ⟨by show s0≤h+1;omega,by show h+1≤j;omega,h3, .inr ?_,h5⟩ rfl rfl
      show qN_ ((A++ (X++ (Y++B))).getD (nn - (h+1)) rw0) ((A++ (X++ (Y++B))).getD (h+1 - 1) rw0)=false
      rw[show nn - (h+1)=nn - 1 - h by omega,Nat.add_sub_cancel];exact hc
     ·first|with_reducible refine ks [] @zN_ ?_|refine kp @zN_ ?_
      refine Again.mk ⟨i,h⟩ (by show h - i<j - i;omega) ⟨h1,by show i≤h;omega,by show h≤r0;omega,h4, .inr hc⟩ rfl rfl
    ·obtain rfl:i=j:=by omega
     obtain⟨ix,hix⟩: ∃q,q=i - a:=⟨_,rfl⟩
     obtain⟨jy,hjy⟩: ∃q,q=nn - i - m:=⟨_,rfl⟩
     have q1:jy=0∨X.length≤ix∨qN_ (Y.getD (jy - 1) rw0) (X.getD ix rw0)=true:=by
      by_cases c1:jy=0
      ·exact .inl c1
      by_cases c2:X.length≤ix
      ·exact .inr (.inl c2)
      rcases h5 with h5|h5
      ·omega
      ·rw[ac2_ (h:=jy - 1) (by omega) (by omega),adC_ (h:=ix) (by omega) (by omega)] at h5
       exact .inr (.inr h5)
     have q2:ix=0∨Y.length≤jy∨qN_ (Y.getD jy rw0) (X.getD (ix - 1) rw0)=false:=by
      by_cases c1:ix=0
      ·exact .inl c1
      by_cases c2:Y.length≤jy
      ·exact .inr (.inl c2)
      rcases h4 with h4|h4
      ·omega
      ·rw[ac2_ (h:=jy) (by omega) (by omega),adC_ (h:=ix - 1) (by omega) (by omega)] at h4
       exact .inr (.inr h4)
     have hmc:=fun x1 x2=>KQ_ (z:=rw0) (x1:=x1) (x2:=x2) hX hY (show ix≤X.length by omega) (show jy≤Y.length by omega) q1 q2
     have sX1:zv_ (X.take ix):=StP.Sorted.left (b:=X.drop ix) (by rw[List.take_append_drop];exact hX)
     have sX2:zv_ (X.drop ix):=StP.Sorted.right (a:=X.take ix) (by rw[List.take_append_drop];exact hX)
     have sY1:zv_ (Y.take jy):=StP.Sorted.left (b:=Y.drop jy) (by rw[List.take_append_drop];exact hY)
     have sY2:zv_ (Y.drop jy):=StP.Sorted.right (a:=Y.take jy) (by rw[List.take_append_drop];exact hY)
     have hrow:A++ (X++ (Y++B))=A++ (X.take ix++ (X.drop ix++ (Y.take jy++ (Y.drop jy++B)))):=by
      rw[←List.append_assoc (X.take ix),List.take_append_drop,←List.append_assoc (Y.take jy),List.take_append_drop]
     have lX1: (X.take ix).length=ix:=by rw[List.length_take];omega
     have lX2: (X.drop ix).length=m - i:=by rw[List.length_drop];omega
     have lY1: (Y.take jy).length=jy:=by rw[List.length_take];omega
     have lY2: (Y.drop jy).length=b - m - jy:=by rw[List.length_drop];omega
     have e7: (nn:Int) - (i:Int)=((m+jy:Nat):Int):=by omega
     first|with_reducible refine ks [] (And.intro @zN_ @e7) ?_|refine kp (And.intro @zN_ @e7) ?_
     rw[hrow]
     generalize X.take ix=X1 at*
     generalize X.drop ix=X2 at*
     generalize Y.take jy=Y1 at*
     generalize Y.drop jy=Y2 at*
     have em:mid=i+jy:=by omega
     refine Cw.cut (G:=Unit) 220 (fun g=> [(0,vsl rb 0 n c),(1,vi a),(2,vi m),(3,vi b),(4,qo_),(18,vi mid),(20,vi i),(24,vi (m+jy:Nat))]) (fun g=> [(rb,zs_ rest (A++ (X1++ (Y1++ (X2++ (Y2++B))))))]) (fun g=>True) ?_ ?_
     ·by_cases c1:i<m
      ·have d1:decide ((i:Int)< (m:Int))=true:=decide_eq_true (by omega)
       by_cases c2:0<jy
       ·have d2:decide ((m:Int)< ((m+jy:Nat):Int))=true:=decide_eq_true (by omega)
        first|with_reducible refine ks [] (And.intro @zN_ (And.intro @d1 (@d2))) ?_|refine kp (And.intro @zN_ (And.intro @d1 (@d2))) ?_
        refine Ow.callM rfl rfl Tryd.call86 (by simp[keys]) (fun w' hw'=>QC_ rb n c (A++X1) X2 Y1 (Y2++B) rest qo_ i m (m+jy) w' (by omega) (by omega) (by rw[List.length_append];omega) (by omega) (by omega) (by rw[List.length_append];omega) hs (by rw[List.append_assoc];exact hw'.has _ _ List.mem_cons_self)) ?_
        refine ko @zN_ ?_
        exact CutM.mk () trivial (by simp only[List.append_assoc]) rfl
       ·have d2:decide ((m:Int)< ((m+jy:Nat):Int))=false:=decide_eq_false (by omega)
        first|with_reducible refine ks [] (And.intro @zN_ (And.intro @d1 (@d2))) ?_|refine kp (And.intro @zN_ (And.intro @d1 (@d2))) ?_
        obtain rfl:Y1= []:=List.eq_nil_of_length_eq_zero (by omega)
        exact CutM.mk () trivial (by simp only[List.nil_append]) rfl
      ·have d1:decide ((i:Int)< (m:Int))=false:=decide_eq_false (by omega)
       first|with_reducible refine ks [] (And.intro @zN_ @d1) ?_|refine kp (And.intro @zN_ @d1) ?_
       obtain rfl:X2= []:=List.eq_nil_of_length_eq_zero (by omega)
       exact CutM.mk () trivial (by simp only[List.nil_append]) rfl
     ·intro u ju hu
      simp only[JL_,JP_,pin,kC_,kv_,Nat.reduceAdd]
      first|with_reducible refine ks [1000041,1000043] @zN_ ?_|refine kp @zN_ ?_
      refine Cw.cut (G:=(List RwL)) 220 (fun g=> [(0,vsl rb 0 n c),(3,vi b),(4,qo_),(18,vi mid),(24,vi (m+jy:Nat))]) (fun g=> [(rb,zs_ rest (A++ (g++ (X2++ (Y2++B)))))]) (fun g=>g.length=ix+jy∧zv_ g∧ja_ (X1++Y1) g) ?_ ?_
      ·by_cases c1:a<i
       ·have d1:decide ((a:Int)< (i:Int))=true:=decide_eq_true (by omega)
        by_cases c2:0<jy
        ·have d2:decide ((i:Int)< (mid:Int))=true:=decide_eq_true (by omega)
         first|with_reducible refine ks [] (And.intro @zN_ (And.intro @d1 (@d2))) ?_|refine kp (And.intro @zN_ (And.intro @d1 (@d2))) ?_
         refine Ow.callE rfl rfl Tryd.call72 (by simp[keys]) (fun w' hw'=>ih rb n c A X1 Y1 (X2++ (Y2++B)) rest a i mid w' ha (by omega) (by omega) (by simp only[List.length_append];omega) hs sX1 sY1 (by omega) (by omega) (by omega) (hw'.has _ _ List.mem_cons_self)) (fun v1 o1 hS1=> ?_)
         obtain⟨rfl,Z1,rfl,z1,z2,z3⟩:=hS1
         refine ko @zN_ ?_
         exact CutM.mk Z1 ⟨by omega,z2,z3⟩ rfl rfl
        ·have d2:decide ((i:Int)< (mid:Int))=false:=decide_eq_false (by omega)
         first|with_reducible refine ks [] (And.intro @zN_ (And.intro @d1 (@d2))) ?_|refine kp (And.intro @zN_ (And.intro @d1 (@d2))) ?_
         obtain rfl:Y1= []:=List.eq_nil_of_length_eq_zero (by omega)
         exact CutM.mk X1 ⟨by omega,sX1,by rw[List.append_nil];exact StP.St.refl _ _⟩ rfl rfl
       ·have d1:decide ((a:Int)< (i:Int))=false:=decide_eq_false (by omega)
        first|with_reducible refine ks [] (And.intro @zN_ @d1) ?_|refine kp (And.intro @zN_ @d1) ?_
        obtain rfl:X1= []:=List.eq_nil_of_length_eq_zero (by omega)
        exact CutM.mk Y1 ⟨by omega,sY1,StP.St.refl _ _⟩ (by simp only[List.nil_append]) rfl
      ·intro Z1 jZ1 hZ1
       simp only[JL_,JP_,pin,kC_,kv_,Nat.reduceAdd]
       obtain⟨z1,z2,z3⟩:=hZ1
       by_cases c1:i<m
       ·have d1:decide ((mid:Int)< ((m+jy:Nat):Int))=true:=decide_eq_true (by omega)
        by_cases c2:m+jy<b
        ·have d2:decide (((m+jy:Nat):Int)< (b:Int))=true:=decide_eq_true (by omega)
         first|with_reducible refine ks [] (And.intro @zN_ (And.intro @d1 (@d2))) ?_|refine kp (And.intro @zN_ (And.intro @d1 (@d2))) ?_
         refine Ow.callE rfl rfl Tryd.call72 (by simp[keys]) (fun w' hw'=>ih rb n c (A++Z1) X2 Y2 B rest mid (m+jy) b w' (by rw[List.length_append];omega) (by omega) (by omega) hn hs sX2 sY2 (by omega) (by omega) (by omega) (by rw[List.append_assoc];exact hw'.has _ _ List.mem_cons_self)) (fun v2 o2 hS2=> ?_)
         obtain⟨rfl,Z2,rfl,y1,y2,y3⟩:=hS2
         obtain⟨r1,r2⟩:=hmc Z1 Z2 z2 z3 y2 y3
         refine ko @zN_ ?_
         refine⟨_,_,_,(ke @zN_),rfl,trivial, ?_⟩
         exact⟨rfl,Z1++Z2,by simp only[List.append_assoc],by rw[List.length_append];omega,r1,r2⟩
        ·have d2:decide (((m+jy:Nat):Int)< (b:Int))=false:=decide_eq_false (by omega)
         first|with_reducible refine ks [] (And.intro @zN_ (And.intro @d1 (@d2))) ?_|refine kp (And.intro @zN_ (And.intro @d1 (@d2))) ?_
         obtain rfl:Y2= []:=List.eq_nil_of_length_eq_zero (by omega)
         obtain⟨r1,r2⟩:=hmc Z1 X2 z2 z3 sX2 (by rw[List.append_nil];exact StP.St.refl _ _)
         refine⟨_,_,_,(ke @zN_),rfl,trivial, ?_⟩
         exact⟨rfl,Z1++X2,by simp only[List.append_assoc,List.nil_append],by rw[List.length_append];omega,r1,r2⟩
       ·have d1:decide ((mid:Int)< ((m+jy:Nat):Int))=false:=decide_eq_false (by omega)
        first|with_reducible refine ks [] (And.intro @zN_ @d1) ?_|refine kp (And.intro @zN_ @d1) ?_
        obtain rfl:X2= []:=List.eq_nil_of_length_eq_zero (by omega)
        obtain⟨r1,r2⟩:=hmc Z1 Y2 z2 z3 sY2 (StP.St.refl _ _)
        refine⟨_,_,_,(ke @zN_),rfl,trivial, ?_⟩
        exact⟨rfl,Z1++Y2,by simp only[List.append_assoc,List.nil_append],by rw[List.length_append];omega,r1,r2⟩
end Go.Proofs
end
section
open Go Go.Proofs Go.Sx Go.StP
namespace Go.Proofs
set_option maxRecDepth 10000
set_option maxHeartbeats 4000000
set_option linter.unusedSimpArgs false
def rws_Blks (k:Nat) (ls:List (List RwL)):Prop:= ∀x,x∈ls→x.length=k∧zv_ x
theorem rws_Blks.snoc {k:Nat} {ls:List (List RwL)} {x:List RwL} (h:rws_Blks k ls) (hx:x.length=k) (hs:zv_ x):rws_Blks k (ls++ [x]):=by
 intro y hy
 rcases List.mem_append.1 hy with hy|hy
 ·exact h y hy
 ·rw[List.mem_singleton] at hy;subst hy;exact⟨hx,hs⟩
structure rws_StG where
 k:Nat
 ls:List (List RwL)
 r:List RwL
structure rws_StH where
 l2:List (List RwL)
 ls:List (List RwL)
theorem QN_ (rb n c:Nat) (d:List RwL) (rest:List Value) (w:World) (hn:n=d.length) (hs:n<1000000)
  (ho:w.heap[rb]? =some (zs_ rest d)):
  Rets Tryd.prog 61 #[vsl rb 0 n c,vi n,qo_] w (fun v D=> ∃o,D= [(rb,o)]∧v= .tuple #[]∧ ∃Z,o=zs_ rest Z∧Z.length=d.length∧zv_ Z∧ja_ d Z):=by
 refine Rets.enterM Tryd.func61 rfl (rs:= []) Tryd.results61 Tryd.ntmps61 ho ?_
 refine kf ?_
 first|with_reducible refine ks [1000006] @Nat.add_zero ?_|refine kp @Nat.add_zero ?_
 refine Cw.loopG (G:=rws_StG) [11,12,13,14,15,16,17,18,19,7,20,21,22,8] (fun g=> [(7,vi g.ls.flatten.length),(8,vi (g.ls.flatten.length+20:Nat))]) (fun g=> [(rb,zs_ rest (g.ls.flatten++g.r))]) (fun g=>rws_Blks 20 g.ls∧ja_ d (g.ls.flatten++g.r)∧g.ls.flatten.length+g.r.length=n) (fun g=>g.r.length) ⟨20,[],d⟩ rfl rfl ?_ ?_
 ·refine⟨fun x hx=> ?_,StP.St.refl _ _,by show 0+d.length=n;omega⟩
  exact absurd hx (by simp)
 ·intro g j hg
  refine kv ?_
  obtain⟨_,ls,r⟩:=g
  obtain⟨h1,h2,h3⟩:=hg
  dsimp only at h1 h2 h3 ⊢
  by_cases hb:ls.flatten.length+20≤n
  ·obtain⟨M,R,rfl,hM⟩:=JM_ r (show 20≤r.length by omega)
   rw[List.length_append] at h3
   first|with_reducible refine ks [] @Nat.add_zero ?_|refine kp @Nat.add_zero ?_
   refine Ow.callE rfl rfl Tryd.call71 (by simp[keys]) (fun w' hw'=>xF_ rb n c ls.flatten M R rest ls.flatten.length (ls.flatten.length+20) w' rfl (by omega) (by omega) hs (hw'.has _ _ List.mem_cons_self)) (fun v1 o1 hS1=> ?_)
   obtain⟨rfl,M',rfl,l1,s1,t1⟩:=hS1
   refine ko @Nat.add_zero ?_
   have e1: (ls++ [M']).flatten=ls.flatten++M':=by simp
   refine Again.mk ⟨20,ls++ [M'],R⟩ (by show R.length< (M++R).length;rw[List.length_append];omega) ⟨h1.snoc (by omega) s1, ?_, ?_⟩ ?_ ?_
   ·show ja_ d ((ls++ [M']).flatten++R)
    rw[e1,List.append_assoc]
    exact h2.trans (StP.St.app (StP.St.refl _ _) (StP.St.app t1 (StP.St.refl _ _)))
   ·show(ls++ [M']).flatten.length+R.length=n
    rw[e1,List.length_append];omega
   ·rw[e1,List.append_assoc]
   ·dsimp only
    rw[e1,show(ls.flatten++M').length=ls.flatten.length+20 by rw[List.length_append];omega]
    rfl
  ·first|with_reducible refine ks [] @Nat.add_zero ?_|refine kp @Nat.add_zero ?_
   have e0:ls.flatten++r=ls.flatten++ (r++ []):=by rw[List.append_nil]
   rw[e0]
   first|with_reducible refine ks [1000007] @Nat.add_zero ?_|refine kp @Nat.add_zero ?_
   refine Ow.callE rfl rfl Tryd.call71 (by simp[keys]) (fun w' hw'=>xF_ rb n c ls.flatten r [] rest ls.flatten.length n w' rfl (by omega) (by simp) hs (hw'.has _ _ List.mem_cons_self)) (fun v1 o1 hS1=> ?_)
   obtain⟨rfl,r',rfl,l1,s1,t1⟩:=hS1
   rw[show r'++ []=r' from List.append_nil r']
   refine ko @Nat.add_zero ?_
   refine Cw.loopG (G:=rws_StG) [28,29,30,31,32,7,8,33,34,35,36,37,38,39,40,41,42,43,44,45,46,47,48,49,50,51,9,52,53,54,55,56,57,58,59,60,61,62,6] (fun g=> [(6,vi g.k)]) (fun g=> [(rb,zs_ rest (g.ls.flatten++g.r))]) (fun g=>0<g.k∧rws_Blks g.k g.ls∧zv_ g.r∧g.r.length<g.k∧ja_ d (g.ls.flatten++g.r)∧g.ls.flatten.length+g.r.length=n) (fun g=>n - g.k) ⟨20,ls,r'⟩ rfl rfl ?_ ?_
   ·exact⟨by show 0<20;omega,h1,s1,by show r'.length<20;omega,h2.trans (StP.St.app (StP.St.refl _ _) t1),by show ls.flatten.length+r'.length=n;omega⟩
   ·intro g j hg
    refine kv ?_
    clear h1 h2 h3 hb e0 l1 s1 t1
    obtain⟨k,ls,r⟩:=g
    obtain⟨h0,h1,h2,h3,h4,h5⟩:=hg
    dsimp only at h0 h1 h2 h3 h4 h5 ⊢
    by_cases hk:k<n
    ·have e1:2* (k:Int)=((2*k:Nat):Int):=by omega
     first|with_reducible refine ks [1000013] @e1 ?_|refine kp @e1 ?_
     refine Cw.loopG (G:=rws_StH) [33,34,35,36,37,38,39,40,41,42,43,44,7,45,46,47,48,8] (fun g=> [(7,vi g.l2.flatten.length),(8,vi (2*k+g.l2.flatten.length:Nat))]) (fun g=> [(rb,zs_ rest (g.l2.flatten++ (g.ls.flatten++r)))]) (fun g=>rws_Blks (2*k) g.l2∧rws_Blks k g.ls∧ja_ d (g.l2.flatten++ (g.ls.flatten++r))∧g.l2.flatten.length+ (g.ls.flatten.length+r.length)=n) (fun g=>g.ls.length) ⟨[],ls⟩ rfl rfl ?_ ?_
     ·refine⟨fun x hx=> ?_,h1,h4,by show 0+ (ls.flatten.length+r.length)=n;omega⟩
      exact absurd hx (by simp)
     ·clear h1 h4 h5
      intro g j hg
      refine kv ?_
      obtain⟨l2,ls⟩:=g
      obtain⟨g1,g2,g3,g4⟩:=hg
      dsimp only at g1 g2 g3 g4 ⊢
      by_cases hb:2*k+l2.flatten.length≤n
      ·have hls: ∃x y t,ls=x::y::t:=by
        cases ls with
        |nil=>rw[List.flatten_nil,List.length_nil] at g4;omega
        |cons x t=>
         have hx:=(g2 x List.mem_cons_self).1
         cases t with
         |nil=>rw[List.flatten_cons,List.flatten_nil,List.append_nil] at g4;omega
         |cons y t=>exact⟨x,y,t,rfl⟩
       obtain⟨x,y,t,rfl⟩:=hls
       have hx:=g2 x List.mem_cons_self
       have hy:=g2 y (by simp)
       have ht:rws_Blks k t:=fun u hu=>g2 u (by simp[hu])
       rw[List.flatten_cons,List.flatten_cons] at g3 g4
       simp only[List.length_append,List.append_assoc] at g3 g4
       have e2: (x::y::t).flatten++r=x++ (y++ (t.flatten++r)):=by simp
       rw[e2]
       have e3: (l2.flatten.length:Int)+ (k:Int)=((l2.flatten.length+k:Nat):Int):=by omega
       first|with_reducible refine ks [] @e3 ?_|refine kp @e3 ?_
       refine Ow.callE rfl rfl Tryd.call72 (by simp[keys]) (fun w' hw'=>xX_ (2*k) rb n c l2.flatten x y (t.flatten++r) rest l2.flatten.length (l2.flatten.length+k) (2*k+l2.flatten.length) w' rfl (by omega) (by omega) (by rw[List.length_append];omega) hs hx.2 hy.2 (by omega) (by omega) (by omega) (hw'.has _ _ List.mem_cons_self)) (fun v1 o1 hS1=> ?_)
       obtain⟨rfl,Z,rfl,z1,z2,z3⟩:=hS1
       have e4: ((2*k+l2.flatten.length:Nat):Int)+ ((2*k:Nat):Int)=((2*k+ (l2.flatten.length+2*k):Nat):Int):=by omega
       refine ko (And.intro @e1 @e4) ?_
       have e5: (l2++ [Z]).flatten=l2.flatten++Z:=by simp
       have e6: (l2.flatten++Z).length=2*k+l2.flatten.length:=by rw[List.length_append];omega
       refine Again.mk ⟨l2++ [Z],t⟩ (by show t.length< (x::y::t).length;simp only[List.length_cons];omega) ⟨g1.snoc (by omega) z2,ht, ?_, ?_⟩ ?_ ?_
       ·show ja_ d ((l2++ [Z]).flatten++ (t.flatten++r))
        rw[e5,List.append_assoc]
        refine g3.trans (StP.St.app (StP.St.refl _ _) ?_)
        rw[←List.append_assoc]
        exact StP.St.app z3 (StP.St.refl _ _)
       ·show(l2++ [Z]).flatten.length+ (t.flatten.length+r.length)=n
        rw[e5,e6];omega
       ·rw[e5,List.append_assoc]
       ·dsimp only
        rw[e5,e6,show l2.flatten.length+2*k=2*k+l2.flatten.length by omega]
        rfl
      ·have e7: (k:Int)*2=((2*k:Nat):Int):=by omega
       have e3: (l2.flatten.length:Int)+ (k:Int)=((l2.flatten.length+k:Nat):Int):=by omega
       have hls:ls= []∨ ∃x,ls= [x]:=by
        cases ls with
        |nil=>exact .inl rfl
        |cons x t=>
         have hx:=(g2 x List.mem_cons_self).1
         cases t with
         |nil=>exact .inr ⟨x,rfl⟩
         |cons y t=>
          have hy:=(g2 y (by simp)).1
          rw[List.flatten_cons,List.flatten_cons,List.length_append,List.length_append] at g4
          omega
       have fin: ∀r',(ls.flatten++r).length=r'.length→ja_ (ls.flatten++r) r'→ja_ d (l2.flatten++r')∧l2.flatten.length+r'.length=n:=by
        intro r' hl ht'
        rw[List.length_append] at hl
        exact⟨g3.trans (StP.St.app (StP.St.refl _ _) ht'),by omega⟩
       rcases hls with rfl| ⟨x,rfl⟩
       ·rw[List.flatten_nil,List.length_nil] at g4
        first|with_reducible refine ks [] @Nat.add_zero ?_|refine kp @Nat.add_zero ?_
        first|with_reducible refine ks [] (And.intro @e3 @e7) ?_|refine kp (And.intro @e3 @e7) ?_
        obtain⟨w1,w2⟩:=fin r rfl (StP.St.refl _ _)
        refine Again.mk ⟨2*k,l2,r⟩ (by show n - 2*k<n - k;omega) ⟨by show 0<2*k;omega,g1,h2,by show r.length<2*k;omega,w1,w2⟩ rfl rfl
       ·have hx:=g2 x List.mem_cons_self
        rw[List.flatten_cons,List.flatten_nil,List.append_nil] at g4 fin
        rw[List.flatten_cons,List.flatten_nil,List.append_nil]
        by_cases hr:r.length=0
        ·obtain rfl:r= []:=List.eq_nil_of_length_eq_zero hr
         first|with_reducible refine ks [] @Nat.add_zero ?_|refine kp @Nat.add_zero ?_
         first|with_reducible refine ks [] (And.intro @e3 @e7) ?_|refine kp (And.intro @e3 @e7) ?_
         obtain⟨w1,w2⟩:=fin x (by rw[List.append_nil]) (by rw[List.append_nil];exact StP.St.refl _ _)
         refine Again.mk ⟨2*k,l2,x⟩ (by show n - 2*k<n - k;omega) ⟨by show 0<2*k;omega,g1,hx.2,by show x.length<2*k;omega,w1,w2⟩ ?_ rfl
         rw[List.append_nil]
        ·have e8:x++r=x++ (r++ []):=by rw[List.append_nil]
         rw[e8]
         first|with_reducible refine ks [] @Nat.add_zero ?_|refine kp @Nat.add_zero ?_
         first|with_reducible refine ks [] (And.intro @e3 @e7) ?_|refine kp (And.intro @e3 @e7) ?_
         refine Ow.callE rfl rfl Tryd.call72 (by simp[keys]) (fun w' hw'=>xX_ (2*k) rb n c l2.flatten x r [] rest l2.flatten.length (l2.flatten.length+k) n w' rfl (by omega) (by omega) (by simp) hs hx.2 h2 (by omega) (by omega) (by omega) (hw'.has _ _ List.mem_cons_self)) (fun v1 o1 hS1=> ?_)
         obtain⟨rfl,Z,rfl,z1,z2,z3⟩:=hS1
         rw[show Z++ []=Z from List.append_nil Z]
         refine ko @e7 ?_
         obtain⟨w1,w2⟩:=fin Z (by rw[List.length_append];omega) z3
         refine Again.mk ⟨2*k,l2,Z⟩ (by show n - 2*k<n - k;omega) ⟨by show 0<2*k;omega,g1,z2,by show Z.length<2*k;omega,w1,w2⟩ rfl rfl
    ·first|with_reducible refine ks [] @Nat.add_zero ?_|refine kp @Nat.add_zero ?_
     have hZ:zv_ (ls.flatten++r):=by
      cases ls with
      |nil=>exact h2
      |cons x ls=>
       have hx:=h1 x List.mem_cons_self
       rw[List.flatten_cons,List.length_append] at h5
       obtain rfl:r= []:=List.eq_nil_of_length_eq_zero (by omega)
       cases ls with
       |nil=>simpa using hx.2
       |cons y ls=>
        have hy:=h1 y (by simp)
        rw[List.flatten_cons,List.length_append] at h5
        omega
     have hZl: (ls.flatten++r).length=d.length:=by rw[List.length_append];omega
     refine⟨_,_,_,(ke @Nat.add_zero),rfl,trivial, ?_⟩
     exact⟨rfl,_,rfl,hZl,hZ,h4⟩
end Go.Proofs
end
section
open Go Go.Proofs Go.Sx Go.StP
namespace Go.Proofs
set_option maxRecDepth 10000
set_option maxHeartbeats 4000000
set_option linter.unusedSimpArgs false
theorem wy_ (w:World):Rets Tryd.prog 71 #[.slice none 0 0,vi 0,vi 0,qo_] w (fun v D=>v= .tuple #[]∧D= []):=by
 refine Rets.enterV Tryd.func71 rfl (rs:= []) Tryd.results71 Tryd.ntmps71 ?_
 refine kf ?_
 first|with_reducible refine ks [] @Nat.add_zero ?_|refine kp @Nat.add_zero ?_
 refine Cw.loopG (G:=Unit) [12,13,14,17,9,18,19,20,21,22,23,24,25,26,27,28,29,30,31,32,33,34,37,38,39,40,41,42,43,44,45,46,47,48,49,50,51,52,35,36,15,16,8] (fun g=> [(8,vi 1)]) (fun g=> []) (fun g=>True) (fun g=>0) () rfl rfl ?_ ?_
 ·trivial
 ·intro g j hg
  refine kv ?_
  first|with_reducible refine ks [] @Nat.add_zero ?_|refine kp @Nat.add_zero ?_
  refine⟨_,(ke @Nat.add_zero),trivial, ?_⟩
  rfl
theorem JC_ (w:World):Rets Tryd.prog 61 #[.slice none 0 0,vi 0,qo_] w (fun v D=>v= .tuple #[]∧D= []):=by
 refine Rets.enterV Tryd.func61 rfl (rs:= []) Tryd.results61 Tryd.ntmps61 ?_
 refine kf ?_
 first|with_reducible refine ks [] @Nat.add_zero ?_|refine kp @Nat.add_zero ?_
 refine Cw.loopG (G:=Unit) [11,12,13,14,15,16,17,18,19,7,20,21,22,8] (fun g=> [(7,vi 0),(8,vi 20)]) (fun g=> []) (fun g=>True) (fun g=>0) () rfl rfl ?_ ?_
 ·trivial
 ·intro g j hg
  refine kv ?_
  first|with_reducible refine ks [] @Nat.add_zero ?_|refine kp @Nat.add_zero ?_
  refine Ow.callFV rfl Tryd.call71 (fun w' hw'=>wy_ w') ?_
  refine ko @Nat.add_zero ?_
  refine Cw.loopG (G:=Unit) [28,29,30,31,32,7,8,33,34,35,36,37,38,39,40,41,42,43,44,45,46,47,48,49,50,51,9,52,53,54,55,56,57,58,59,60,61,62,6] (fun g=> [(6,vi 20)]) (fun g=> []) (fun g=>True) (fun g=>0) () rfl rfl ?_ ?_
  ·trivial
  ·intro u ju hu
   refine kv ?_
   first|with_reducible refine ks [] @Nat.add_zero ?_|refine kp @Nat.add_zero ?_
   refine⟨_,(ke @Nat.add_zero),trivial, ?_⟩
   rfl
theorem wk_ (w:World):Rets Tryd.prog 38 #[.slice none 0 0,qo_] w (fun v D=>v= .tuple #[]∧D= []):=by
 refine Rets.enterV Tryd.func38 rfl (rs:= []) Tryd.results38 Tryd.ntmps38 ?_
 refine kf ?_
 first|with_reducible refine ks [] @XD_ ?_|refine kp @XD_ ?_
 refine Ow.callFV rfl Tryd.call61 (fun w' hw'=>JC_ w') ?_
 refine ko @Nat.add_zero ?_
 refine⟨_,(ke @Nat.add_zero),trivial, ?_⟩
 rfl
theorem xg_ (rb n c:Nat) (d:List RwL) (rest:List Value) (w:World) (hn:n=d.length) (hs:n<1000000) (ho:w.heap[rb]? =some (zs_ rest d)):
  Rets Tryd.prog 38 #[vsl rb 0 n c,qo_] w (fun v D=> ∃o,D= [(rb,o)]∧v= .tuple #[]∧ ∃Z,o=zs_ rest Z∧Z.length=d.length∧zv_ Z∧ja_ d Z):=by
 refine Rets.enterM Tryd.func38 rfl (rs:= []) Tryd.results38 Tryd.ntmps38 ho ?_
 refine kf ?_
 first|with_reducible refine ks [] @Nat.add_zero ?_|refine kp @Nat.add_zero ?_
 refine Ow.callE rfl rfl Tryd.call61 (by simp[keys]) (fun w' hw'=>QN_ rb n c d rest w' hn hs (hw'.has _ _ List.mem_cons_self)) (fun v1 o1 hS1=> ?_)
 obtain⟨rfl,Z,rfl,z1,z2,z3⟩:=hS1
 refine ko @Nat.add_zero ?_
 refine⟨_,_,_,(ke @Nat.add_zero),rfl,trivial, ?_⟩
 exact⟨rfl,Z,rfl,z1,z2,z3⟩
def rws_SortOf (l Z:List RwL):Prop:=Z.length=l.length∧zv_ Z∧ja_ l Z
theorem rws_SortOf.eq {l Z Z':List RwL} (h:rws_SortOf l Z) (h':rws_SortOf l Z'):Z=Z':=StP.St.eq h.2.1 h'.2.1 (h.2.2.symm.trans h'.2.2)
end Go.Proofs
end
section
open Go Go.Proofs Go.Sx Go.StP
namespace Go.Proofs
set_option maxRecDepth 10000
set_option maxHeartbeats 1000000
set_option linter.unusedSimpArgs false
abbrev RwSl (w:World) (v:Value) (l:List RwL):Prop:=SlV 34 rwC rw0 w v l
def jo_ (r:RwL):Bool:= !(decide (r.place<0))&& !(decide (1099511627775<r.place))&& !(decide (r.spot<0))&& !(decide (1099511627775<r.spot))
def Zi_ (l:List RwL):Nat→Bool
 |0=>true
 |k+1=>Zi_ l k&& (decide (k=0) ||decide (wO_ (l.getD (k - 1) rw0).id (l.getD k rw0).id<0))&&jo_ (l.getD k rw0)
def zO_ (i:IdL):Nat:=(i.l.getD 0 0).toNat / 16
theorem abc_ (i:IdL):zO_ i<16:=by
 have:=(i.l.getD 0 0).toNat_lt
 unfold zO_;omega
def xM_ (l:List RwL) (d:Nat):Nat:=l.countP fun r=>decide (zO_ r.id≤d)
def xI_ (l:List RwL):List Nat:=(List.range 16).map (xM_ l)
def Kd_ (l:List RwL) (r:RwL) (g:Nat):List Nat:=(List.range 16).map fun j=>if j<g then xM_ (l++ [r]) j else xM_ l j
theorem k7_ (l:List RwL): (xI_ l).length=16:=by simp[xI_]
theorem Zt_ (l:List RwL) (r:RwL) (g:Nat): (Kd_ l r g).length=16:=by simp[Kd_]
theorem Kq_ (l:List RwL) (r:RwL) (d:Nat):xM_ (l++ [r]) d=xM_ l d+if zO_ r.id≤d then 1 else 0:=by
 unfold xM_
 rw[List.countP_append,List.countP_singleton]
 simp
theorem ajH_ (l:List RwL) (r:RwL):Kd_ l r (zO_ r.id)=xI_ l:=by
 unfold Kd_ xI_
 refine List.map_congr_left fun j _=> ?_
 split
 ·rename_i h;rw[Kq_,if_neg (by omega),Nat.add_zero]
 ·rfl
theorem ain_ (l:List RwL) (r:RwL):Kd_ l r 16=xI_ (l++ [r]):=by
 unfold Kd_ xI_
 refine List.map_congr_left fun j hj=> ?_
 rw[if_pos (List.mem_range.1 hj)]
theorem ahd_ (l:List RwL) (r:RwL) {g:Nat} (hg:g<16): (Kd_ l r g).getD g 0=xM_ l g:=by
 unfold Kd_
 rw[List.getD_eq_getElem?_getD,List.getElem?_map,List.getElem?_range hg]
 simp
theorem af3_ (l:List RwL) (r:RwL) {g:Nat} (_hg:g<16) (hd:zO_ r.id≤g): (Kd_ l r g).set g (xM_ l g+1)=Kd_ l r (g+1):=by
 apply List.ext_getElem
 ·simp[Kd_]
 ·intro j h1 h2
  rw[List.length_set,Zt_] at h1
  rw[List.getElem_set]
  have e1: (Kd_ l r g)[j]'(by rw[Zt_];exact h1)=if j<g then xM_ (l++ [r]) j else xM_ l j:=by simp[Kd_]
  have e2: (Kd_ l r (g+1))[j]'h2=if j<g+1 then xM_ (l++ [r]) j else xM_ l j:=by simp[Kd_]
  rw[e1,e2]
  by_cases hj:g=j
  ·subst hj
   rw[if_pos rfl,if_pos (by omega),Kq_,if_pos hd]
  ·rw[if_neg hj]
   by_cases hj2:j<g
   ·rw[if_pos hj2,if_pos (by omega)]
   ·rw[if_neg hj2,if_neg (by omega)]
theorem shr4 (x:UInt8): ((kD_ x 4).toNat:Int)=((x.toNat / 16:Nat):Int):=by
 have:=x.toNat_lt
 unfold kD_
 rw[UInt8.toNat_ofNat',Nat.mod_eq_of_lt (by omega)]
def ixO (s:List UInt8) (v1:Value) (F:List Nat):Obj:= .cells ([vs s,v1]++ (F.map fun(n:Nat)=>vi (n:Int))).toArray 78 (0,0)
set_option linter.defProp false
def ab2_:=And.intro (@ze_) (@zd_)
theorem ZO_ (i:IdL) (w:World):Rets Tryd.prog 33 #[.agg (a8 i.l)] w (fun v D=>v=vi (zO_ i:Nat)∧D= []):=by
 have hil:=i.h
 have h0: (0:Nat)<i.l.length:=by omega
 have hs:=shr4 (i.l.getD 0 0)
 refine Rets.enterV Tryd.func33 rfl (rs:= [.tmp 2]) Tryd.results33 Tryd.ntmps33 ?_
 refine kf ?_
 first|with_reducible refine ks [] @ab2_ ?_|refine kp @ab2_ ?_
 refine Ow.box rfl rfl fun b1 hb1 hw1=> ?_
 simp only[jL_,jr_,jq_,zg_,List.nil_append,List.cons_append]
 refine Ow.go rfl ?_
 simp(disch:=(first|assumption|omega| (simp only[xN_,xT_,UInt64.reduceToNat];try omega))) only[↓Sx.S0,Sx.S1,Tryd.fx,ab2_,Nat.reduceAdd,Nat.reducePow,Int.reducePow,Nat.reduceBEq, ↓reduceIte,UInt8.reduceToNat,UInt16.reduceToNat,UInt32.reduceToNat,UInt64.reduceToNat,Int.reduceToNat]
 first|with_reducible refine ks [] @ab2_ ?_|refine kp @ab2_ ?_
 refine⟨_,(ke @ab2_),⟨hw1,trivial⟩, ?_⟩
 exact congrArg vi hs
end Go.Proofs
end
namespace Go.Sx
open Go
section
variable {α:Type} {m:Nat} {enc:α→List Value} {z:α} {w:World} {v:Value} {l:List α}
end
section
variable {P:Program} {w0:World} {f:Fr} {L:za_} {N:Fr→za_→Prop} {ops:Array Oper} {rest:List Oper} {md:Md} {d:Option Tmp} {ty:TypeId} {ps:String} {af:Array Edge} {g:Option (Nat×Bool)}
end
section
variable {P:Program} {w0:World} {f:Fr} {L:za_} {K:j1_}
theorem Cw.world {c:Code} (h: ∀w,Hp w0 L w→Cw P w0 c f L K):Cw P w0 c f L K:=fun w hw=>h w hw w hw
theorem Gr.read {E:TypeId} {m n:Nat} {v:Value} {cs:List Value} (h:Gr L E m v n cs) {b:Nat} (hb:slB v=some b) {w:World} (hw:Hp w0 L w) {o:Obj} (ho:w.heap[b]? =some o):zy_ w0 L b=some o:=by
 obtain⟨a,ha⟩:=h.at_ hb
 rw[hw.has _ _ (zF_ ha)] at ho
 rw[jf_ ha];exact ho
end
end Go.Sx
namespace Go.Sx
open Go
section
variable {α β:Type} [BEq α] [LawfulBEq α] (encK:α→Value) (encV:β→Value)
def KH_ (k:α):List (α×β)→Nat→Option (Nat×β)
 | [],_=>none
 |p::r,i=>if k==p.1 then some (i,p.2) else KH_ k r (i+1)
def updG (k:α) (v:β):List (α×β)→List (α×β)
 | []=> [(k,v)]
 |p::r=>if k==p.1 then(p.1,v)::r else p::updG k v r
def getG (k:α) (z:β) (m:List (α×β)):β:=match m.find? fun p=>k==p.1 with|some p=>p.2|none=>z
def xO_ (p:α×β):Value×Value:=(encK p.1,encV p.2)
def MapG (o:Obj) (m:List (α×β)):Prop:= ∃es clock,o= .map es clock∧es.toList.map (fun e=>(e.key,e.val))=m.map (xO_ encK encV)∧(es.toList.map (·.born)++ [clock]).Pairwise (· < ·)
structure KeyOk (P:Program) (kt:TypeId) (encK:α→Value):Prop where
 find: ∀ {β:Type} (encV:β→Value) (w:World) (k:α) (es:List MapEntry) (m:List (α×β)),es.map (fun e=>(e.key,e.val))=m.map (xO_ encK encV)→(Instr.findKey kt (encK k) es).run P w= .ok ((KH_ k m 0).map fun p=>(p.1,encV p.2)) w
 check: ∀ (w:World) (e:Bool) (k:α),(Instr.checkKey e 10000 kt (encK k)).run P w= .ok () w
 bits: ∀k,Instr.sameBits 10000 (encK k) (encK k)=true
variable {encK encV}
omit [LawfulBEq α] in
theorem Vm_ {kd:TypeDesc} (hs: ∀a b,Instr.sameNow kd (encK a) (encK b)=some (a==b)) (k:α): ∀ (es:List MapEntry) (m:List (α×β)) (i:Nat),es.map (fun e=>(e.key,e.val))=m.map (xO_ encK encV)→
  Instr.findNow kd (encK k) es i=some ((KH_ k m i).map fun p=>(p.1,encV p.2))
 | [],[],i,_=>rfl
 | [],_::_,_,h=>by cases h
 |_::_,[],_,h=>by cases h
 |e::es,p::m,i,h=>by
  simp only[List.map_cons,List.cons.injEq,xO_,Prod.mk.injEq] at h
  obtain⟨⟨h1,h2⟩,h3⟩:=h
  unfold Instr.findNow
  have hs:Instr.sameNow kd (encK k) e.key=some (k==p.1):=by rw[h1,hs]
  rw[hs]
  unfold KH_
  cases hk: (k==p.1)
  ·simp only[Bool.false_eq_true, ↓reduceIte]
   exact Vm_ ‹_› k es m (i+1) h3
  ·simp[h2]
theorem Ql_ (k:α): ∀ (m:List (α×β)) (i j:Nat) (v:β),KH_ k m i=some (j,v)→i≤j∧ ∃a,m[j - i]? =some (k,a)∧a=v
 | [],_,_,_,h=>by cases h
 |p::r,i,j,v,h=>by
  unfold KH_ at h
  split at h
  ·rename_i hk
   cases h
   refine⟨Nat.le_refl _,p.2, ?_,rfl⟩
   rw[Nat.sub_self,List.getElem?_cons_zero,eq_of_beq hk]
  ·obtain⟨h1,a,h2,h3⟩:=Ql_ k r (i+1) j v h
   refine⟨by omega,a, ?_,h3⟩
   rw[show j - i=(j - (i+1))+1 by omega,List.getElem?_cons_succ];exact h2
theorem Kh_ (k:α) (v:β): ∀ (es:List MapEntry) (m:List (α×β)) (i j:Nat) (a:β),es.map (fun e=>(e.key,e.val))=m.map (xO_ encK encV)→KH_ k m i=some (j,a)→
  (es.modify (j - i) fun e=>{e with key:=encK k,val:=encV v}).map (fun e=>(e.key,e.val))=(updG k v m).map (xO_ encK encV)
 | [],[],_,_,_,_,h=>by cases h
 | [],_::_,_,_,_,h,_=>by cases h
 |_::_,[],_,_,_,h,_=>by cases h
 |e::es,p::m,i,j,a,h,hf=>by
  simp only[List.map_cons,List.cons.injEq,xO_,Prod.mk.injEq] at h
  obtain⟨⟨h1,h2⟩,h3⟩:=h
  unfold KH_ at hf
  unfold updG
  split at hf
  ·rename_i hk
   cases hf
   rw[if_pos hk,Nat.sub_self]
   simp only[List.modify_zero_cons,List.map_cons,xO_,eq_of_beq hk]
   rw[h3]
  ·rename_i hk
   have hle:=(Ql_ k m (i+1) j a hf).1
   rw[if_neg hk,show j - i=(j - (i+1))+1 by omega]
   simp only[List.modify_succ_cons,List.map_cons,xO_]
   rw[Kh_ k v es m (i+1) j a h3 hf,h1,h2]
omit [LawfulBEq α] in
theorem KY_ (k:α) (v:β): ∀ (m:List (α×β)) (i:Nat),KH_ k m i=none→updG k v m=m++ [(k,v)]
 | [],_,_=>rfl
 |p::r,i,h=>by
  unfold KH_ at h
  split at h
  ·cases h
  ·rename_i hk
   unfold updG
   rw[if_neg hk,KY_ k v r (i+1) h];rfl
omit [LawfulBEq α] in
theorem Ky_ (k:α): ∀ (m:List (α×β)) (i:Nat),(KH_ k m i).map Prod.snd=(m.find? fun p=>k==p.1).map Prod.snd
 | [],_=>rfl
 |p::r,i=>by
  unfold KH_
  rw[List.find?_cons]
  cases h: (k==p.1)
  ·simp only[Bool.false_eq_true, ↓reduceIte];exact Ky_ k r (i+1)
  ·rfl
theorem af0_ {k:α} {m:List (α×β)} {es:List MapEntry} {j:Nat} {a:β} (h:es.map (fun e=>(e.key,e.val))=m.map (xO_ encK encV)) (hf:KH_ k m 0=some (j,a)): ∃e,es[j]? =some e∧e.key=encK k:=by
 obtain⟨-,a',h1,rfl⟩:=Ql_ k m 0 j a hf
 rw[Nat.sub_zero] at h1
 have:=congrArg (·[j]?) h
 simp only[List.getElem?_map,h1,Option.map_some] at this
 cases he:es[j]? with
 |none=>rw[he] at this;cases this
 |some e=>
  rw[he] at this
  simp only[Option.map_some,Option.some.injEq,xO_,Prod.mk.injEq] at this
  exact⟨e,rfl,this.1⟩
theorem KeyOk.int {P:Program} {kt:TypeId} {k0:IntKind} (hu:P.underlying kt=some (.int k0)):KeyOk P kt vi where
 find encV w k es m h:=by
  simp only[Instr.findKey,Sem.run_bind,run_underlying hu w,Result.andThen_ok]
  rw[Vm_ (encK:=vi) (fun a b=>by simp[Instr.sameNow,vi]) k es m 0 h]
  rfl
 check w e k:=by
  unfold Instr.checkKey
  simp only[Sem.run_bind,run_underlying hu w,Result.andThen_ok]
  rfl
 bits k:=by simp[vi,Instr.sameBits]
variable {P:Program} {w0:World} {f:Fr} {L:za_} {N:Fr→za_→Prop} {ops:Array Oper} {rest:List Oper} {md:Md}
 {d:Option Tmp} {ty:TypeId} {ps:String} {af:Array Edge} {g:Option (Nat×Bool)}
omit [BEq α] [LawfulBEq α] in
theorem Ow.makeMapG {t:TypeId} {md':Md} (he:md.turn=some md') (hs:zk_ ops f ⟨d, .makeMap t none,ty,ps,af,g⟩=false)
  (hn: ∀b o,jS_ L b→w0.heap.size≤b→MapG encK encV o []→Ow P w0 ops md' rest (qj_ f d (vm b)) (L++ [(b,o)]) N):
  Ow P w0 ops md (⟨d, .makeMap t none,ty,ps,af,g⟩::rest) f L N:=by
 refine Ow.step he rfl hs fun w hw=> .inl ⟨vm w.heap.size,w.alloc (.map #[] 0),_, ?_,hw.alloc _,hn _ _ (qi_ fun b hb=>hw.lt hb) hw.size ⟨#[],0,rfl,rfl,List.pairwise_singleton _ _⟩⟩
 simp only[execOp,Instr.makeMap,Sem.run_bind,Option.map_none]
 rfl
theorem Ow.mapUpdateG {t kt vt:TypeId} {x y z:Operand} {b:Nat} {o:Obj} {m:List (α×β)} {k:α} {v:β} {md':Md} (he:md.turn=some md') (hs:zk_ ops f ⟨d, .mapUpdate t x y z,ty,ps,af,g⟩=false) (hu:P.underlying t=some (.map kt vt)) (hk:KeyOk P kt encK)
  (hx:ev f x=vm b) (hy:ev f y=encK k) (hz:ev f z=encV v) (hl:look L b=some o) (hm:MapG encK encV o m)
  (hn: ∀o',MapG encK encV o' (updG k v m)→Ow P w0 ops md' rest (qj_ f d undef) (setB L b o') N):
  Ow P w0 ops md (⟨d, .mapUpdate t x y z,ty,ps,af,g⟩::rest) f L N:=by
 obtain⟨es,c,rfl,hes,hbo⟩:=hm
 refine Ow.step he rfl hs fun w hw=> ?_
 have hb:=hw.has _ _ (zF_ hl)
 have hfk:=hk.find encV w k es.toList m hes
 cases hf:KH_ k m 0 with
 |none=>
  rw[hf] at hfk
  refine .inr (.inl ⟨{w with heap:=w.heap.setIfInBounds b (.map (es.push {key:=encK k,val:=encV v,born:=c}) (c+1))},_, ?_,hw.set (zo_ hl) rfl rfl rfl rfl,hn _ ⟨_,_,rfl, ?_,by rw[Array.toList_push];exact VG_ hbo rfl⟩⟩)
  ·have: (Instr.mapUpdate t (vm b) (encK k) (encV v)).run P w= .ok () {w with heap:=w.heap.setIfInBounds b (.map (es.push {key:=encK k,val:=encV v,born:=c}) (c+1))}:=by
    simp only[Instr.mapUpdate,vm,Sem.run_bind,run_underlying hu w,Result.andThen_ok,jw_ hb,hk.check,hfk,Option.map_none,vk_ hb]
   simp only[execOp,Sem.run_bind,hx,hy,hz]
   rw[this];rfl
  ·rw[KY_ k v m 0 hf,Array.toList_push,List.map_append,hes,List.map_append];rfl
 |some p=>
  obtain⟨j,a⟩:=p
  rw[hf] at hfk
  obtain⟨e,hej,hek⟩:=af0_ hes hf
  have hej':es[j]? =some e:=by simpa using hej
  have hkt: (Instr.keyThatStays (((es[j]?).map (·.key)).getD (encK k)) (encK k)).run P w= .ok (encK k) w:=by
   rw[hej',Option.map_some,Option.getD_some,hek]
   unfold Instr.keyThatStays
   rw[if_pos (hk.bits k)];rfl
  refine .inr (.inl ⟨{w with heap:=w.heap.setIfInBounds b (.map (es.modify j fun e=>{e with key:=encK k,val:=encV v}) c)},_, ?_,hw.set (zo_ hl) rfl rfl rfl rfl,hn _ ⟨_,_,rfl, ?_,by rw[Array.toList_modify,ZV_ (g:=fun e=>{e with key:=encK k,val:=encV v}) fun _=>rfl];exact hbo⟩⟩)
  ·have: (Instr.mapUpdate t (vm b) (encK k) (encV v)).run P w= .ok () {w with heap:=w.heap.setIfInBounds b (.map (es.modify j fun e=>{e with key:=encK k,val:=encV v}) c)}:=by
    simp only[Instr.mapUpdate,vm,Sem.run_bind,run_underlying hu w,Result.andThen_ok,jw_ hb,hk.check,hfk,Option.map_some,hkt,vk_ hb]
   simp only[execOp,Sem.run_bind,hx,hy,hz]
   rw[this];rfl
  ·rw[Array.toList_modify]
   have:=Kh_ k v es.toList m 0 j a hes hf
   rw[Nat.sub_zero] at this
   exact this
omit [LawfulBEq α] in
end
section
variable {P:Program} {w0:World} {f:Fr} {L:za_} {N:Fr→za_→Prop} {ops:Array Oper} {rest:List Oper} {md:Md} {d:Option Tmp} {ty:TypeId} {ps:String} {af:Array Edge} {g:Option (Nat×Bool)}
end
end Go.Sx
