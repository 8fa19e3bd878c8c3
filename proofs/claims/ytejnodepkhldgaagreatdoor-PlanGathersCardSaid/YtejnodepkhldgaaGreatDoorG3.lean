/-
  Part 3 of the walk: contracts of the functions that the law reaches, and the calculus they stand on.
  No conditions.
-/
import Derived.Test.YtejnodepkhldgaaGreatDoorG2
import Derived.Maps.RangeRun
import Derived.Lib.Small
import Derived.Lib.Walk
import Derived.Lib.Bytealg
import Derived.Sort.Grow
import Derived.Deep.Draws
import Derived.Deep.QuietTactic
import Derived.Shelf.SlLaysF0
import Derived.Ground.SlsfProg
set_option linter.unusedVariables false
section
open Go Go.Proofs Go.Sx Go.StP Go.Flo
namespace Go.Proofs
set_option maxRecDepth 10000
set_option maxHeartbeats 400000
set_option linter.unusedSimpArgs false
structure ObL where
 k:Int
 t:List UInt8
def ob0:ObL:=⟨0,[]⟩
def obC (o:ObL):List Value:= [vi o.k,vs o.t]
theorem X2_ (o:ObL): (obC o).length=2:=rfl
theorem aaH_ (o:ObL): (obC o).all Value.oneCell'=true:=rfl
def zN_ (s:List UInt8):ObL:=⟨if frOk s then frK s else 0,if frOk s then(frT s).1 else []⟩
def xg_ (s:List UInt8):IdL:=idV (zN_ s).k (zN_ s).t
def q7_:List (List UInt8)→List IdL→List ObL→Option (List IdL×List ObL)
 | [],ids,os=>some (ids,os)
 |s::r,ids,os=>if frOk s=true∧(ids.any fun y=>(xg_ s).l==y.l)=false then q7_ r (ids++ [xg_ s]) (os++ [zN_ s]) else none
def fillV (l:List PartL):Option (List IdL×List ObL):=match QI_ l with
 | .ok ts=>q7_ ts [] []
 | .error _=>none
theorem wS_: ∀ (a b:List (List UInt8)) (ids:List IdL) (os:List ObL),q7_ (a++b) ids os=(q7_ a ids os).bind fun p=>q7_ b p.1 p.2
 | [],_,_,_=>rfl
 |s::a,b,ids,os=>by
  rw[List.cons_append,q7_,q7_]
  split
  ·exact wS_ a b _ _
  ·rfl
theorem JZ_: ∀ (a:List (List UInt8)) (ids:List IdL) (os:List ObL) (p:List IdL×List ObL),q7_ a ids os=some p→p.1.length=ids.length+a.length∧p.2.length=os.length+a.length
 | [],ids,os,p,h=>by cases h;simp
 |s::a,ids,os,p,h=>by
  rw[q7_] at h
  split at h
  ·have:=JZ_ a _ _ p h
   simp only[List.length_append,List.length_cons,List.length_nil] at this ⊢
   omega
  ·cases h
theorem ZO_ {a:List (List UInt8)} {s:List UInt8} {p:List IdL×List ObL} (h:q7_ a [] []=some p):
  q7_ (a++ [s]) [] []=if frOk s=true∧(p.1.any fun y=>(xg_ s).l==y.l)=false then some (p.1++ [xg_ s],p.2++ [zN_ s]) else none:=by
 rw[wS_,h]
 show q7_ [s] p.1 p.2=_
 rw[q7_]
 rfl
theorem aaQ_ {a b:List (List UInt8)} (h:q7_ a [] []=none):q7_ (a++b) [] []=none:=by
 rw[wS_,h];rfl
end Go.Proofs
end
namespace Go.Sx
open Go
section
variable {P:Program} {w0:World} {l:List Oper} {R ts:List Nat} {n:Nat} {listed:List Bool} {f:Fr} {L:zb_} {N:Fr→zb_→Prop}
def OwG (P:Program) (w0:World) (l:List Oper) (R ts:List Nat) (n:Nat) (listed:List Bool) (f:Fr) (L:zb_) (N:Fr→zb_→Prop):Prop:=
 ∀w,Hp w0 L w→xb_ P l.toArray (ji_ w0 N) ts (SR w0 R L) n listed.toArray (act f) w
theorem Cw.regionG {id:Nat} {K:xf_} (R ts:List Nat) (m:Nat) (hl:l.length=m) (hm:P.follows .mixedOrders=true) (h:OwG P w0 l R ts m (List.replicate m false) f L (K .normal)):Cw P w0 (.region id l.toArray true) f L K:=by
 intro w hw
 subst hl
 refine wp_mono (wp_region_any hm ?_) fun _ _ _ h=>jV_ h
 have:=ka_ _ _ _ _ (h _ hw.drew)
 simpa using this
def chkG (P:Program) (l:List Oper) (ts:List Nat):List Nat→List Bool→Option (List Bool)
 | [],listed=>some listed
 |k::is,listed=>
  match kb_ l k with
  |some o=>if !ts.contains k&& (ts.all fun t=> !listed.toArray.getD t true)&& (Region.ready .any l.toArray listed.toArray).contains k&&Region.free .any l.toArray listed.toArray k&&
    (jI_ P o.op|| (Qr_ o.op&&ZQ_ l.toArray ts listed.toArray k)) then chkG P l ts is (listed.set k true) else none
  |none=>none
theorem OwG.step {k:Nat} {o:Oper} {v:Value} (hns:Region.noSelect l.toArray=true) (hk:kb_ l k=some o) {rest:List Bool} (hc:chkG P l ts [k] listed=some rest)
  (hY:YieldsC P l.toArray (SR w0 R L) (jI_ P o.op=true) o v (act f)) (h:OwG P w0 l R ts n rest (qg_ f o.dst v) L N):OwG P w0 l R ts (n+1) listed f L N:=by
 have hoi:l.toArray[k]? =some o:=by rw[jP_] at hk;simpa using hk
 unfold chkG at hc
 rw[hk] at hc
 simp only at hc
 split at hc
 ·rename_i hcc
  simp only[chkG,Option.some.injEq] at hc
  subst hc
  simp only[Bool.and_eq_true,Bool.or_eq_true,Bool.not_eq_true',List.all_eq_true,List.contains_eq_mem,decide_eq_true_eq,decide_eq_false_iff_not] at hcc
  obtain⟨⟨⟨⟨c2,c3⟩,c4⟩,c5⟩,c9⟩:=hcc
  have hsel:=Region.noSelect_spec hns
  intro w hw
  refine kz_ hoi c2 hsel (fun c a w h=>zU_ h) _ _ _ _ (xd_ (P:=P) hoi c4 c5 (c9.imp id fun h=>⟨h.1,h.2,fun t ht=>c3 t ht⟩)) (.inr fun t ht=>c3 t ht) hY ?_
  rw[z0_,qj_]
  exact h w hw
 ·cases hc
theorem agu_ {k:Nat} {is:List Nat} {listed listed':List Bool} (h:chkG P l ts (k::is) listed=some listed'):chkG P l ts [k] listed=some (listed.set k true)∧chkG P l ts is (listed.set k true)=some listed':=by
 rw[chkG] at h
 cases ho:kb_ l k with
 |none=>rw[ho] at h;cases h
 |some o=>
  rw[ho] at h
  simp only at h
  split at h
  ·rename_i hcc
   refine⟨?_,h⟩
   rw[chkG,ho]
   simp only
   rw[if_pos hcc];rfl
  ·cases h
theorem OwG.runs {k:Md→List Oper→Fr→zb_→Prop} (hns:Region.noSelect l.toArray=true): ∀ (is:List Nat) {listed listed':List Bool} {f:Fr} {L:zb_},chkG P l ts is listed=some listed'→
  (∀md r f' L',k md r f' L'→r= []∧OwG P w0 l R ts n listed' f' L' N)→vcL P w0 l.toArray false (.sof R [] []) (j8_ l is) f L k→OwG P w0 l R ts (is.length+n) listed f L N
 | [],listed,listed',f,L,hc,hk,h=>by
  cases hc
  rw[List.length_nil,Nat.zero_add]
  exact(hk _ _ _ _ h).2
 |i::is,listed,listed',f,L,hc,hk,h=>by
  obtain⟨hc1,hc2⟩:=agu_ hc
  rw[vm_] at h
  cases ho:kb_ l i with
  |none=>unfold chkG at hc1;rw[ho] at hc1;cases hc1
  |some o=>
   rw[ho,vo_] at h
   unfold vcL at h
   rw[List.length_cons,show is.length+1+n=(is.length+n)+1 by omega]
   cases hs:zf_ l.toArray f o with
   |true=>
    rw[hs] at h
    have hw0:Region.wanted o (yielded l.toArray (act f).tmps)=false:=by rw[qc_,hs];rfl
    exact OwG.step hns ho hc1 (v:=undef) (.inr ⟨hw0,rfl⟩) (OwG.runs hns is hc2 hk h)
   |false=>
    rw[hs] at h
    have hw0:Region.wanted o (yielded l.toArray (act f).tmps)=true:=by rw[qc_,hs];rfl
    simp only[ib,vcB] at h
    split at h
    ·cases hrd:X3_ (.sof R [] []) f o.op with
     |false=>rw[hrd] at h;exact absurd (hk _ _ _ _ h).1 (by simp)
     |true=>
      rw[hrd] at h
      simp only at h
      cases hv:q2_ P w0 L f o.op with
      |none=>rw[hv] at h;exact absurd (hk _ _ _ _ h).1 (by simp)
      |some v=>
       rw[hv] at h
       refine OwG.step hns ho hc1 (v:=v) (.inl ⟨hw0,fun w hw=> ?_⟩) (OwG.runs hns is hc2 hk h)
       rw[qT_]
       rcases hw with hp|hw
       ·exact qH_ (Hp.refl w) (xm_ hp hv w)
       ·exact qH_ (Hp.refl w) (v3_ hrd hv hw)
    ·exact absurd (hk _ _ _ _ h).1 (by simp)
    ·exact absurd (hk _ _ _ _ h).1 (by simp)
theorem OwG.run (is:List Nat) (listed':List Bool) (n:Nat) {m:Nat} (hm:m=is.length+n) (hns:Region.noSelect l.toArray=true) (hc:chkG P l ts is listed=some listed')
  (h: ∀k:Md→List Oper→Fr→zb_→Prop,(∀md f L,OwG P w0 l R ts n listed' f L N→k md [] f L)→nl (j8_ l is) fun l'=>vcL P w0 l.toArray false (.sof R [] []) l' f L k):OwG P w0 l R ts m listed f L N:=by
 subst hm
 refine OwG.runs (k:=fun _ r f' L'=>r= []∧OwG P w0 l R ts n listed' f' L' N) hns is hc (fun _ _ _ _ h=>h) ?_
 exact h _ fun _ _ _ h=>⟨rfl,h⟩
def abB_ (l:List Oper) (ts:List Nat) (ks:List Nat) (listed:List Bool):Bool:=
 ((Region.ready .any l.toArray listed.toArray).all fun i=>ks.contains i)&& (Region.ready .any l.toArray listed.toArray != [])&&ks.all fun k=> !ts.contains k
theorem OwG.softs (ks:List Nat) (hs:abB_ l ts ks listed=true)
  (h: ∀k,k∈ks→ ∀o,kb_ l k=some o→Ow P w0 l.toArray .seq [o] f L (fun f' L'=>(∀r,r∈R→zk_ w0 L' r=zk_ w0 L r)∧OwG P w0 l R ts n (listed.set k true) f' L' N)):
  OwG P w0 l R ts (n+1) listed f L N:=by
 unfold abB_ at hs
 simp only[Bool.and_eq_true,List.all_eq_true,bne_iff_ne,ne_eq,List.contains_eq_mem,decide_eq_true_eq,Bool.not_eq_true',decide_eq_false_iff_not] at hs
 obtain⟨⟨c3,c4⟩,c6⟩:=hs
 intro w hw
 refine⟨fun _=>SR.of hw,fun hr=>absurd hr c4,fun i hi=> ?_⟩
 have hik:=c3 i hi
 obtain⟨-,oi,hoi,-⟩:=mem_ready.1 hi
 have hni:kb_ l i=some oi:=by rw[jP_];simpa using hoi
 refine v7_ hoi (X:=xb_ P l.toArray (ji_ w0 N) ts (SR w0 R L) n (listed.toArray.setIfInBounds i true)) ?_ hw
 intro w' hw'
 have h1:=h i hik oi hni w' hw'
 refine xN_ ?_ h1
 rintro f' L' ⟨hS,hO⟩ w'' hw''
 rw[vy_ hS,qj_]
 exact hO w'' hw''
theorem OwG.one (i:Nat) (oi:Oper) (hs:abB_ l ts [i] listed=true) (hi:kb_ l i=some oi)
  (h:Ow P w0 l.toArray .seq [oi] f L (fun f' L'=>(∀r,r∈R→zk_ w0 L' r=zk_ w0 L r)∧OwG P w0 l R ts n (listed.set i true) f' L' N)):OwG P w0 l R ts (n+1) listed f L N:=
 OwG.softs [i] hs fun k hk o ho=>by
  rw[List.mem_singleton] at hk
  subst hk
  rw[hi] at ho
  cases ho
  exact h
theorem OwG.two (i j:Nat) (oi oj:Oper) (hs:abB_ l ts [i,j] listed=true) (hi:kb_ l i=some oi) (hj:kb_ l j=some oj)
  (h1:Ow P w0 l.toArray .seq [oi] f L (fun f' L'=>(∀r,r∈R→zk_ w0 L' r=zk_ w0 L r)∧OwG P w0 l R ts n (listed.set i true) f' L' N))
  (h2:Ow P w0 l.toArray .seq [oj] f L (fun f' L'=>(∀r,r∈R→zk_ w0 L' r=zk_ w0 L r)∧OwG P w0 l R ts n (listed.set j true) f' L' N)):OwG P w0 l R ts (n+1) listed f L N:=
 OwG.softs [i,j] hs fun k hk o ho=>by
  simp only[List.mem_cons,List.not_mem_nil,or_false] at hk
  rcases hk with rfl|rfl
  ·rw[hi] at ho;cases ho;exact h1
  ·rw[hj] at ho;cases ho;exact h2
theorem OwG.permL {M:zb_} (hp:M.Perm L) (hR: ∀r,r∈R→zk_ w0 M r=zk_ w0 L r) (h:OwG P w0 l R ts n listed f M N):OwG P w0 l R ts n listed f L N:=by
 intro w hw
 rw[vy_ hR]
 exact h w (hw.perm hp)
def alQ_ (P:Program) (l:List Oper) (is ts:List Nat) (listed:List Bool):Bool:=
 Region.noSelect l.toArray&&Zf_ P l.toArray ts is listed.toArray&&ts.all fun t=> !listed.toArray.getD t true
theorem OwG.rest (is:List Nat) {m:Nat} (hm:m=is.length) (hB:alQ_ P l is ts listed=true) (hl:is.map (fun i:Nat=>l[i]?)=(j8_ l is).map some)
  (h:nl (j8_ l is) fun l'=>Ow P w0 l.toArray (.sof R is ts) l' f L N):OwG P w0 l R ts m listed f L N:=by
 subst hm
 revert hl h
 generalize j8_ l is=l'
 intro hl h w hw
 simp only[alQ_,Bool.and_eq_true,List.all_eq_true,Bool.not_eq_true'] at hB
 obtain⟨⟨h1,h4⟩,h5⟩:=hB
 have hlen:is.length=l'.length:=by have:=congrArg List.length hl;simpa using this
 have hF:Fits P l.toArray ts is l' listed.toArray:=⟨hlen,fun j=>by
  have:=congrArg (·[j]?) hl
  simp only[List.getElem?_map] at this
  cases hj:is[j]? with
  |none=>
   rw[hj] at this
   simp only[Option.map_none] at this
   cases hj':l'[j]? with
   |none=>rfl
   |some x=>rw[hj'] at this;cases this
  |some i=>
   rw[hj] at this
   simp only[Option.map_some] at this
   cases hj':l'[j]? with
   |none=>rw[hj'] at this;cases this
   |some x=>
    rw[hj'] at this
    simp only[Option.map_some,Option.some.injEq] at this
    simp[this],h1,h4⟩
 rw[hlen]
 exact(h:Ow P w0 l.toArray (.sof R is ts) l' f L N) listed.toArray hF (fun t ht=>h5 t ht) w hw
end
def CutO {G:Type} (M:List Nat) (S:G→List (Nat×Value)) (H:G→zb_) (J:G→Prop) (f f':Fr) (L':zb_):Prop:=
 ∃g,J g∧L'=H g∧f'=pin (qD_ (vG_ f') M 0 f) (S g)
theorem CutO.mk {G:Type} {M:List Nat} {S:G→List (Nat×Value)} {H:G→zb_} {J:G→Prop} {f f':Fr} {L':zb_} (g:G) (hJ:J g) (hL:L'=H g) (hf:f'=pin (qD_ (vG_ f') M 0 f) (S g)):CutO M S H J f f' L':=⟨g,hJ,hL,hf⟩
theorem Cw.cutO {P:Program} {w0:World} {x y:Code} {f:Fr} {L:zb_} {K:xf_} {G:Type} (M:List Nat) (S:G→List (Nat×Value)) (H:G→zb_) (J:G→Prop) (h1:Cw P w0 x f L (kQ_ (CutO M S H J f) K))
  (h2: ∀ (g:G) (j:Nat→Value),J g→Cw P w0 y (pin (qD_ j M 0 f) (S g)) (H g) K):Cw P w0 (.seq x y) f L K:=by
 refine Cw.seq (h1.mono fun e f' L' k=> ?_)
 cases e with
 |normal=>
  obtain⟨g,hJ,rfl,hf⟩:=k
  have:=h2 g (vG_ f') hJ
  rw[←hf] at this
  exact this
 |_=>exact k
end Go.Sx
section
open Go Go.Proofs Go.Sx Go.StP Go.Flo
namespace Go.Proofs
set_option maxRecDepth 10000
set_option maxHeartbeats 400000
set_option linter.unusedSimpArgs false
def pkO (v0 v1 v2 v3:Value):Obj:= .cells #[v0,v1,v2,v3] 92 (0,0)
theorem Xy_ (v0 v1 v2 v3:Value) (n:Nat):zn_ (some (false,n)) (some (pkO v0 v1 v2 v3)) 0=some v0:=(rfl)
theorem abh_ (v0 v1 v2 v3:Value) (n:Nat):zn_ (some (false,n)) (some (pkO v0 v1 v2 v3)) 1=some v1:=(rfl)
theorem abm_ (v0 v1 v2 v3:Value) (n:Nat):zn_ (some (false,n)) (some (pkO v0 v1 v2 v3)) 2=some v2:=(rfl)
theorem abg_ (v0 v1 v2 v3:Value) (n:Nat):zn_ (some (false,n)) (some (pkO v0 v1 v2 v3)) 3=some v3:=(rfl)
theorem Qv_ (v0 v1 v2 v3 q:Value) (a:Bool) (hq:Value.oneCell' q=true∧q.cells= #[q]):zi_ (some (a,1)) (some (pkO v0 v1 v2 v3)) 2 q=some (pkO v0 v1 q v3):=
 qA_ [v0,v1] [v2] [q] [v3] a _ 92 rfl rfl hq.2 rfl (by simp[hq.1])
theorem Z5_ (v0 v1 v2 v3 q:Value) (a:Bool) (hq:Value.oneCell' q=true∧q.cells= #[q]):zi_ (some (a,1)) (some (pkO v0 v1 v2 v3)) 3 q=some (pkO v0 v1 v2 q):=
 qA_ [v0,v1,v2] [v3] [q] [] a _ 92 rfl rfl hq.2 rfl (by simp[hq.1])
theorem wm_ {s:List UInt8} {a:Nat} {most:Int} (ha:a≤s.length) (h: (zr_ s a 0 most).2.2=0): (zr_ s a 0 most).2.1≤a+6:=by
 have hl:=qd_ (e:=0) (most:=most) ha
 obtain⟨n,-,hb,-,hd⟩:=vp_ h
 have h6:=jS_ 6 n (by omega) (by omega)
 have:=congrArg List.length hd
 simp only[List.length_drop,List.length_append] at this
 omega
theorem ag9_ {d:List UInt8} {a:Nat} (ha:a≤d.length) (h: (pcR d a).2.2=0): (pcR d a).2.1≤a+4111:=by
 have hl:=qd_ (s:=d) (a:=a) (e:=0) (most:=8199) ha
 have hm:=qV_ (s:=d) (a:=a) (e:=0) (most:=8199) (by omega)
 have hz: (zr_ d a 0 8199).2.2=0:=by
  by_cases he: (zr_ d a 0 8199).2.2=0
  ·exact he
  ·unfold pcR at h
   split at h
   ·have:=QK_ (s:=d) (a:=(zr_ d a 0 8199).2.1) (most:=4099) he
    simp only[this] at h
    exact absurd h he
   ·have:=Xb_ (s:=d) (a:=(zr_ d a 0 8199).2.1) (n:=(zr_ d a 0 8199).1 / 2) he
    simp only[this] at h
    exact absurd h he
 have h1:=wm_ ha hz
 unfold pcR at h ⊢
 split
 ·rename_i hc
  rw[if_pos hc] at h
  simp only at h ⊢
  rw[hz] at h ⊢
  have:=wm_ hl.2 h
  omega
 ·rename_i hc
  rw[if_neg hc] at h
  simp only at h ⊢
  rw[hz] at h ⊢
  unfold q8_ at h ⊢
  rw[if_neg (by simp)] at h ⊢
  split at h
  ·cases h
  ·rename_i h2
   rw[if_neg h2]
   split at h
   ·cases h
   ·rename_i h3
    rw[if_neg h3]
    simp only
    omega
theorem abl_ {d:List UInt8}: ∀ (k a:Nat),d.length - a≤k→a≤d.length→(pcs d a).2.2=0→(pcs d a).2.1≤a+ (pcs d a).1.length*4111
 |k,a,hk,ha,h=>by
  by_cases hlt:a<d.length
  ·by_cases he: (pcR d a).2.2=0
   ·have hu:=JH_ ha he
    have hl:=abJ_ ha
    have hs:=ag9_ ha he
    rw[abI_ hlt he] at h ⊢
    cases k with
    |zero=>omega
    |succ k=>
     have:=abl_ k _ (by omega) hl.2 h
     simp only[List.length_cons]
     omega
   ·rw[Xt_ hlt he] at h
    exact absurd h he
  ·rw[aa5_ hlt];simp
theorem acc_ {d:List UInt8} {p:Nat×List PcL} (h:x4_ d=some p):d.length≤17000000:=by
 unfold x4_ at h
 split at h
 ·cases h
 ·rename_i h1
  split at h
  ·cases h
  ·rename_i h2
   split at h
   ·rename_i h3
    have l1:=qd_ (s:=d) (a:=0) (e:=0) (most:=4099) (Nat.zero_le _)
    have l2:=qd_ (s:=d) (a:=(zr_ d 0 0 4099).2.1) (e:=(zr_ d 0 0 4099).2.2) (most:=4099) l1.2
    have e1: (zr_ d 0 0 4099).2.2=0:=Decidable.byContradiction fun hn=>by rw[QK_ hn] at h1;exact h1 hn
    have s1:=wm_ (Nat.zero_le _) e1
    have s2: (zr_ d (zr_ d 0 0 4099).2.1 (zr_ d 0 0 4099).2.2 4099).2.1≤ (zr_ d 0 0 4099).2.1+6:=by
     rw[e1] at h1 ⊢
     exact wm_ l1.2 (by omega)
    obtain⟨-,-,-,-,-,hc⟩:=XU_ h3
    have s3:=abl_ _ _ (Nat.le_refl _) l2.2 (by omega)
    have s4:=ai9_ _ _ (Nat.le_refl _) l2.2 (by omega)
    have: (pcs d (zr_ d (zr_ d 0 0 4099).2.1 (zr_ d 0 0 4099).2.2 4099).2.1).1.length*4111≤4099*4111:=Nat.mul_le_mul_right _ hc
    omega
   ·cases h
theorem adl_ {b d:List UInt8} (_h: (j9_ b d).2=0): (j9_ b d).1.length≤4099:=by
 unfold j9_
 split
 ·simp
 ·rename_i p hp
  split
  ·simp
  ·rename_i hb
   obtain⟨m,hm⟩:=J4_ hp
   rw[show p.1=b.length by omega] at hm
   have hk:wD_ (b.length:Nat) p.2=(((v5_ (b.length:Nat) p.2:Nat):Int),(0:Int)):=by
    unfold wD_ at hm ⊢
    split at hm
    ·cases hm
    ·rename_i h1
     rw[if_neg h1]
     split at hm
     ·cases hm
     ·rename_i h2
      rw[if_neg h2]
      split at hm
      ·cases hm
      ·rename_i h3;rw[if_neg h3]
   obtain⟨-,-,h1,h2,-⟩:=XU_ hk
   show(txtP b p.2).length≤4099
   rw[ZG_ h1]
   exact h2
theorem adG_ {l:List PartL} {a:Int} {s:List UInt8} (h:partV l a= .ok s):s.length≤4099:=by
 unfold partV at h
 cases hp:jU_ l a with
 |error e=>rw[hp] at h;cases h
 |ok p=>
  rw[hp] at h
  change wF_ l p= .ok s at h
  cases p with
  |nil=>cases h;simp
  |cons x p=>
   unfold wF_ at h
   cases hf:wF_ l p with
   |error e=>rw[hf] at h;cases h
   |ok t=>
    rw[hf] at h
    change(if(jl_ (l.getD x qi_) t).2=0 then _ else _)=_ at h
    split at h
    ·rename_i h0
     cases h
     unfold jl_ at h0 ⊢
     split
     ·rename_i hd;rw[if_pos hd] at h0;exact adl_ h0
     ·rename_i hd
      split
      ·simp
      ·show(l.getD x qi_).x.length≤4099;omega
    ·cases h
theorem abR_ {l:List PartL} {ts:List (List UInt8)} (h:QI_ l= .ok ts):ts.length=l.length∧l.length≤200∧ ∀k,k<ts.length→(ts.getD k []).length≤4099:=by
 unfold QI_ at h
 split at h
 ·cases h
 ·have:=ws_ _ _ h
  exact⟨this,by omega,fun k hk=>adG_ (vn_ _ _ h k (by omega))⟩
theorem ajZ_ {D:zb_} {E:TypeId} {v:Value} {l:List (List UInt8)} (h:GrI D E 1 v l.length (l.map Kq_).flatten) (hn: (keys D).Nodup):l.length=0∨ ∃b c rest,v=vsl b 0 l.length c∧b∈keys D∧Sx.look D b=some (rowO Kq_ E rest l):=by
 obtain⟨X,hX,h| ⟨h0,-⟩⟩:=h
 ·rcases h.inv with⟨-,h0,-⟩ | ⟨b,c,rest,rfl,hl,h1,h2,h3,h4⟩
  ·exact .inl h0
  ·exact .inr ⟨b,c,rest,rfl,List.mem_map_of_mem (f:=Prod.fst) (hX _ (zF_ hl)),qC_ hn (hX _ (zF_ hl))⟩
 ·exact .inl h0
theorem aho_ {E:TypeId} {rest:List Value} {l:List (List UInt8)} (n i:Nat) (hi:i<l.length):zn_ (some (false,n)) (some (rowO Kq_ E rest l)) i=some (vs (l.getD i [])):=by
 unfold rowO zn_
 have e: (l.map Kq_).flatten=l.map vs:=by
  clear hi
  induction l with
  |nil=>rfl
  |cons a l ih=>rw[List.map_cons,List.flatten_cons,List.map_cons,ih];rfl
 simp only[e]
 rw[List.getElem?_toArray,List.getElem?_append_left (by simpa using hi),List.getElem?_map,List.getElem?_eq_getElem hi,List.getD_eq_getElem?_getD,List.getElem?_eq_getElem hi]
 rfl
theorem w4_ {D:zb_} {E:TypeId} {m n:Nat} {v:Value} {cs:List Value} (h:GrI D E m v n cs) (x:Bool×Nat):v4_ (.sl x) v=some (vi n):=by
 obtain⟨X,-,h⟩:=h;exact h.len x
def aaO_ (l:List PartL) (bp:Nat) (v0 v1:Value) (v:Value) (D:zb_):Prop:=match fillV l with
 |some p=>v= .bool true∧ ∃x2 x3 D',D=(bp,pkO v0 v1 x2 x3)::D'∧GrI D' 42 32 x2 p.1.length (p.1.map jd_).flatten∧GrI D' 38 2 x3 p.2.length (p.2.map obC).flatten
 |none=>v= .bool false
theorem akn_ {w:World} {a:Nat} {x:Obj} (h:w.heap[a]? =some x): ∀p:Nat×Obj,p∈ [(a,x)]→w.heap[p.1]? =some p.2:=by
 intro p hp
 rw[List.mem_singleton] at hp
 subst hp
 exact h
theorem aki_ {w:World} {b:Nat} {o o':Obj} {D:zb_} (h:New w.heap.size D):Ext w [(b,o)] (D++ [(b,o')]):=⟨fun c hc=>by
 rw[zd_] at hc
 rcases List.mem_append.1 hc with hc|hc
 ·exact .inr (h.le c hc)
 ·exact .inl hc,fun c hc=>by rw[zd_];exact List.mem_append_right _ hc⟩
theorem ahO_ {w:World} {b:Nat} {o o':Obj} {D:zb_} (h:New w.heap.size D):Ext w [(b,o)] ((b,o')::D):=⟨fun c hc=>by
 rcases List.mem_cons.1 hc with hc|hc
 ·exact .inl (by rw[hc];exact List.mem_cons_self)
 ·exact .inr (h.le c hc),fun c hc=>by
 rcases List.mem_cons.1 hc with hc|hc
 ·exact List.mem_cons.2 (.inl hc)
 ·cases hc⟩
theorem V7_ {l:List PartL} {e:Int}: ∀k,xT_ l k= .error e→e≠0
 |0,h=>by cases h
 |k+1,h=>by
  unfold xT_ at h
  cases hg:xT_ l k with
  |error x=>rw[hg] at h;cases h;exact V7_ k hg
  |ok us=>
   rw[hg] at h
   change(partV l (k:Nat)).map (fun s=>us++ [s])=_ at h
   cases hp:partV l (k:Nat) with
   |error x=>rw[hp] at h;cases h;exact V6_ hp
   |ok s=>rw[hp] at h;cases h
theorem ahg_ {l:List PartL} {e:Int} (h:QI_ l= .error e):e≠0:=by
 unfold QI_ at h
 split at h
 ·cases h;decide
 ·exact V7_ _ h
theorem Wo_ (s:List UInt8) (w:World) (hs:s.length<100000):Rets Tryz.prog 64 #[vs s] w (fun v D=>v= .tuple #[obV (zN_ s).k (zN_ s).t,vi (if frOk s then 0 else 2)]∧D= []):=acq_ s w (by omega)
structure FiG where
 k:Nat
 ids:List IdL
 os:List ObL
 x2:Value
 x3:Value
 D2:zb_
 D3:zb_
 DG:zb_
theorem adQ_ {l:List PartL} {e:Int} (h:QI_ l= .error e):fillV l=none:=by unfold fillV;rw[h]
theorem abo_ {l:List PartL} {ts:List (List UInt8)} {k:Nat} {p:List IdL×List ObL} (h:QI_ l= .ok ts) (hk:k<ts.length) (hp:q7_ (ts.take k) [] []=some p) (hn: ¬ (frOk (ts.getD k [])=true∧(p.1.any fun y=>(xg_ (ts.getD k [])).l==y.l)=false)):fillV l=none:=by
 unfold fillV
 rw[h]
 show q7_ ts [] []=none
 have e:ts=ts.take (k+1)++ts.drop (k+1):=(List.take_append_drop _ _).symm
 rw[e]
 refine aaQ_ ?_
 rw[take_snoc (z:= []) hk,ZO_ hp,if_neg hn]
set_option linter.defProp false
def qt_:=And.intro (And.intro (And.intro (@zv_) (And.intro (@zu_) (@Xy_))) (And.intro (@abh_) (And.intro (@abm_) (@abg_)))) (And.intro (And.intro (@Sx.tup2_0) (And.intro (@Sx.tup2_1) (@jB_))) (And.intro (And.intro (@jJ_) (@jx_)) (And.intro (@jW_) (@kq_))))
theorem VK_ (bp:Nat) (v0 v1:Value) (l:List PartL) (w:World) (hv:Zm_ w v0 l) (hG:GlobE w) (hb:BndL l) (hl:l.length<1000000) (ho:w.heap[bp]? =some (pkO v0 v1 (.slice none 0 0) (.slice none 0 0)))
  (hv0:slB v0≠some bp) (hgb:2<bp):
  Rets Tryz.prog 39 #[vp bp 0] w (XS w [(bp,pkO v0 v1 (.slice none 0 0) (.slice none 0 0))] (aaO_ l bp v0 v1)):=by
 have hbp:bp<w.heap.size:=(Array.getElem?_eq_some_iff.1 ho).1
 refine Rets.enterX Tryz.func39 rfl (rs:= [.tmp 2]) Tryz.results39 Tryz.ntmps39 (akn_ ho) (by simp[keys]) ?_
 refine kf ?_
 first|with_reducible refine ks [] @qt_ ?_|refine kp @qt_ ?_
 refine Ow.callX (Y:= [(bp,pkO v0 v1 (.slice none 0 0) (.slice none 0 0))]) (by simp) rfl rfl Tryz.call63 (fun w' hw' hX hn=>afS_ v0 l w' (hv.old hw' fun b hbb _=>by simp only[keys,List.map_cons,List.map_nil,List.mem_singleton];rintro rfl;exact hv0 hbb) hb hl) (fun v1' D1 hC1 hS1=> ?_)
 have hN1:New w.heap.size D1:=New.of_le fun c hc=>by
  rcases hC1.new c hc with h|h
  ·cases h
  ·exact h.2
 unfold AllS at hS1
 cases ha:QI_ l with
 |error e=>
  rw[ha] at hS1
  have hS1':v1'= .tuple #[.slice none 0 0,vi e]:=hS1
  subst hS1'
  have e0: (e !=0)=true:=bne_iff_ne.2 (ahg_ ha)
  refine ko @qt_ ?_
  first|with_reducible refine ks [] (And.intro @qt_ @e0) ?_|refine kp (And.intro @qt_ @e0) ?_
  refine⟨_,(ke @qt_), ?_⟩
  refine⟨aki_ hN1, ?_⟩
  unfold aaO_
  rw[adQ_ ha]
  rfl
 |ok ts=>
  rw[ha] at hS1
  obtain⟨x,rfl,hGT⟩:=hS1
  obtain⟨hlen,hl2,htl⟩:=abR_ ha
  have lnT:=w4_ hGT
  have e0: ((0:Int) !=0)=false:=rfl
  refine ko @qt_ ?_
  first|with_reducible refine ks [] (And.intro @qt_ (And.intro @e0 (@lnT))) ?_|refine kp (And.intro @qt_ (And.intro @e0 (@lnT))) ?_
  refine Cw.world fun ww hww=> ?_
  have hnd:=hww.nodup
  clear hww ww
  rw[zd_,List.nodup_append] at hnd
  refine Cw.permL (M:=(bp,pkO v0 v1 (.slice none 0 0) (.slice none 0 0)):: (D1++ ([]++ ([]++ [])))) (by classical exact List.perm_iff_count.2 fun a=>by simp only[List.count_append,List.count_cons,List.count_nil]<;>omega) ?_
  refine Cw.loopG (G:=FiG) [24,25,26,6,28,29,27,30,31,7,8,33,34,32,35,36,9,10,37,38,39,40,41,42,43,44,45,46,2,47,48,49,50,51,52,53,54,55,56,57,58,59,60,61,62,63,64,65,66,67,23] (fun g=> [(23,vi g.k)]) (fun g=>(bp,pkO v0 v1 g.x2 g.x3):: (D1++ (g.D2++ (g.D3++g.DG)))) (fun g=>g.k≤ts.length∧q7_ (ts.take g.k) [] []=some (g.ids,g.os)∧New w.heap.size g.D2∧New w.heap.size g.D3∧New w.heap.size g.DG∧Gr g.D2 42 32 g.x2 g.ids.length (g.ids.map jd_).flatten∧Gr g.D3 38 2 g.x3 g.os.length (g.os.map obC).flatten) (fun g=>ts.length - g.k) ⟨0,[],[], .slice none 0 0, .slice none 0 0,[],[],[]⟩ rfl rfl ?_ ?_
  ·exact⟨Nat.zero_le _,rfl,trivial,trivial,trivial,Gr.nl,Gr.nl⟩
  intro g j hg
  refine kv ?_
  obtain⟨k,ids,os,x2,x3,D2,D3,DG⟩:=g
  simp only at hg ⊢
  obtain⟨hk,hfg,hN2,hN3,hNG,hG2,hG3⟩:=hg
  have hNr:New w.heap.size (D1++ (D2++ (D3++DG))):=hN1.app (hN2.app (hN3.app hNG))
  have hfl:=JZ_ _ _ _ _ hfg
  rw[List.length_take,Nat.min_eq_left hk,List.length_nil,List.length_nil,Nat.zero_add] at hfl
  simp only at hfl
  by_cases hlt:k<ts.length
  ·obtain h0| ⟨bt,ct,rest,rfl,hbt,hlk⟩:=ajZ_ hGT hnd.1
   ·omega
   have hd:decide ((k:Int)< (ts.length:Int))=true:=decide_eq_true (by omega)
   have hbtn:bp≠bt:=by have:=hN1.le bt hbt;omega
   have rdt:zk_ w ((bp,pkO v0 v1 x2 x3):: (D1++ (D2++ (D3++DG)))) bt=some (rowO Kq_ 9 rest ts):=zo_ (by rw[z5_ _ _ _ _ hbtn];exact z9_ hlk)
   have ldt:=aho_ (E:=9) (rest:=rest) 1 k hlt
   have hsl:=htl k hlt
   first|with_reducible refine ks [8,12] (And.intro @qt_ (And.intro @hd (And.intro @rdt (@ldt)))) ?_|refine kp (And.intro @qt_ (And.intro @hd (And.intro @rdt (@ldt)))) ?_
   generalize hs:ts.getD k []=s at*
   refine Ow.callFV rfl Tryz.call64 (fun w' hw'=>Wo_ s w' (by omega)) ?_
   refine ko @qt_ ?_
   refine Ow.alloc rfl rfl wb_ fun b7 hb7 hw7=> ?_
   simp only[za_,List.nil_append,List.cons_append]
   have hbp7:bp<b7:=ze_ hb7 (by simp[keys])
   refine Ow.permL (M:=(b7, .cells #[vi 0,vs []] 38 (0,0)):: (bp,pkO v0 v1 x2 x3):: (D1++ (D2++ (D3++DG)))) (by classical exact List.perm_iff_count.2 fun a=>by simp only[List.count_append,List.count_cons,List.count_nil]<;>omega) ?_
   refine ko @qt_ ?_
   first|with_reducible refine ks [] @qt_ ?_|refine kp @qt_ ?_
   refine Ow.callFV rfl Tryz.call23 (fun w' hw'=>X8_ (zN_ s).k (zN_ s).t w' (hG.of hw' (by intro b hb;simp only[keys,List.map_cons,List.mem_cons] at hb;rcases hb with rfl|rfl|hb<;>first|omega| (have:=hNr.le b hb;omega)))) ?_
   rw[show idV (zN_ s).k (zN_ s).t=xg_ s from rfl]
   have hil:=(xg_ s).h
   have hi0:=id0.h
   refine ko @qt_ ?_
   refine Ow.alloc rfl rfl v1_ fun b9 hb9 hw9=> ?_
   simp only[za_,List.nil_append,List.cons_append]
   have hb79:b7<b9:=ze_ hb9 (by simp[keys])
   refine Ow.permL (M:=(b9, .cells (a8 id0.l) 42 (0,0)):: (b7, .cells #[vi (zN_ s).k,vs (zN_ s).t] 38 (0,0)):: (bp,pkO v0 v1 x2 x3):: (D1++ (D2++ (D3++DG)))) (by classical exact List.perm_iff_count.2 fun a=>by simp only[List.count_append,List.count_cons,List.count_nil]<;>omega) ?_
   refine ko @qt_ ?_
   obtain⟨O7,hO7⟩: ∃O,O=Obj.cells #[vi (zN_ s).k,vs (zN_ s).t] 38 (0,0):=⟨_,rfl⟩
   obtain⟨O9,hO9⟩: ∃O,O=Obj.cells (a8 (xg_ s).l) 42 (0,0):=⟨_,rfl⟩
   have hEx: ∀M,New w.heap.size M→Ext w [(bp,pkO v0 v1 (.slice none 0 0) (.slice none 0 0))] ((b9,O9):: (b7,O7):: (bp,pkO v0 v1 x2 x3)::M):=fun M hM=>⟨fun c hc=>by
    simp only[keys,List.map_cons,List.mem_cons,List.map_nil,List.not_mem_nil,or_false] at hc ⊢
    rcases hc with h|h|h|h
    ·exact .inr (by omega)
    ·exact .inr (by omega)
    ·exact .inl h
    ·exact .inr (hM.le c h),fun c hc=>by
    simp only[keys,List.map_cons,List.mem_cons,List.map_nil,List.not_mem_nil,or_false] at hc ⊢
    exact .inr (.inr (.inl hc))⟩
   cases hfr:frOk s with
   |false=>
    rw[show(if(false:Bool)=true then(0:Int) else 2)=2 from rfl]
    have e1: ((2:Int) !=0)=true:=rfl
    have hno:fillV l=none:=abo_ ha hlt hfg (by rw[hs,hfr];rintro⟨h,-⟩;cases h)
    refine Cw.regionS [bp,b9] [0,1,2,3,4,5,6,7,8,9] [] (by kernel_rfl) (by kernel_rfl) (by kernel_rfl) ?_
    refine kya ?_
    refine kq (And.intro @qt_ @e1) ?_
    rw[←hO7,←hO9]
    first|with_reducible refine ks [] @qt_ ?_|refine kp @qt_ ?_
    refine⟨_,(ke @qt_), ?_⟩
    refine⟨hEx _ hNr, ?_⟩
    unfold aaO_
    rw[hno]
    rfl
   |true=>
    rw[show(if(true:Bool)=true then(0:Int) else 2)=0 from rfl]
    have e1: ((0:Int) !=0)=false:=rfl
    refine Cw.regionS [bp,b9] [0,1,2,3,4,5,6,7,8,9] [] (by kernel_rfl) (by kernel_rfl) (by kernel_rfl) ?_
    refine kya ?_
    refine kq (And.intro @qt_ @e1) ?_
    refine Ow.callFV rfl Tryz.call65 (fun w' hw'=>kO_ x2 ids (xg_ s) w' (hG2.slM (fun b o hm=>hw'.has b o (by simp only[List.mem_cons,List.mem_append];exact .inr (.inr (.inr (.inr (.inl hm)))))) rfl rfl zX_) (by omega)) ?_
    cases hct: (ids.any fun y=>(xg_ s).l==y.l) with
    |true=>
     have hno:fillV l=none:=abo_ ha hlt hfg (by rw[hs];rintro⟨-,h⟩;rw[hct] at h;cases h)
     refine kq @qt_ ?_
     rw[←hO7,←hO9]
     first|with_reducible refine ks [] @qt_ ?_|refine kp @qt_ ?_
     refine⟨_,(ke @qt_), ?_⟩
     refine⟨hEx _ hNr, ?_⟩
     unfold aaO_
     rw[hno]
     rfl
    |false=>
     refine kq @qt_ ?_
     have hfg':q7_ (ts.take (k+1)) [] []=some (ids++ [xg_ s],os++ [zN_ s]):=by rw[take_snoc (z:= []) hlt,hs,ZO_ hfg,if_pos ⟨hfr,hct⟩]
     refine Cw.regionG [bp,b7,b9] [18,21] 22 (by kernel_rfl) rfl ?_
     refine kyc ?_
     refine OwG.run [0,1,2,3,4,5,6,9,10,11,12,13] [true,true,true,true,true,true,true,false,false,true,true,true,true,true,false,false,false,false,false,false,false,false] 10 rfl (by kernel_rfl) (by kernel_rfl) fun k hk=> ?_
     refine kya ?_
     refine kp (And.intro @qt_ @Md.next_sofnil) ?_
     (with_reducible refine hk _ _ _ ?_);clear hk k
     rw[←hO7,←hO9]
     refine OwG.two 7 14 _ _ (by kernel_rfl) rfl rfl ?_ ?_
     ·refine Ow.buildSlice (e:=42) (a8 (xg_ s).l) rfl rfl (qa_ (cs:=(xg_ s).l.map v8) Tryz.underlying23 Tryz.ag42 v1_ (by decide) (by simp[(xg_ s).h])) fun ba hba hwa=> ?_
      with_reducible refine Ow.nil ?_
      refine⟨qh_ (by simp[keys]), ?_⟩
      refine kyb ?_
      refine OwG.two 8 14 _ _ (by kernel_rfl) rfl rfl ?_ ?_
      ·refine Ow.permL (M:=D2++ ((b9,O9):: (b7,O7):: (bp,pkO v0 v1 x2 x3):: (D1++ (D3++ (DG++ [(ba, .cells (a8 (xg_ s).l) 42 (0,0))]))))) (by classical exact List.perm_iff_count.2 fun a=>by simp only[List.count_append,List.count_cons,List.count_nil]<;>omega) ?_
       refine Ow.appendXG (e:=42) (k:=1) (new:=jd_ (xg_ s)) (X:=D2) x2 rfl rfl rfl rfl Tryz.underlying23 Tryz.ag42 (by kernel_rfl) v1_ (by rw[za_,xW_,id0.h]) Tryz.underlying23 (by intro k h;cases h) hG2 (fun w' hw'=>AppX.one1 (by rw[ZK_];exact hw'.has ba (.cells (a8 (xg_ s).l) 42 (0,0)) (by simp)) (zX_ _) (j2_ _)) (by omega) (fun B4 v4 D4 hA4 hB4 hG4 hk41 hk42 hlk4=> ?_)
       have hN4:New w.heap.size D4:=New.of_le fun q hq=>by
        rcases hk42 q hq with h|h
        ·exact hN2.le q h
        ·omega
       refine Ow.permL (M:=(b9,O9):: (b7,O7):: (bp,pkO v0 v1 x2 x3):: (D1++ (D4++ (D3++ (DG++ [(ba, .cells (a8 (xg_ s).l) 42 (0,0))]))))) (by classical exact List.perm_iff_count.2 fun a=>by simp only[List.count_append,List.count_cons,List.count_nil]<;>omega) ?_
       with_reducible refine Ow.nil ?_
       refine⟨(fun r hr=>by simp only[List.mem_cons,List.not_mem_nil,or_false] at hr;rcases hr with rfl|rfl|rfl<;>simp(disch:=omega) only[List.cons_append,List.nil_append,zp_,zh_]), ?_⟩
       refine kyb ?_
       refine OwG.one 14 _ (by kernel_rfl) rfl ?_
       refine Ow.buildSlice (e:=38) #[vi (zN_ s).k,vs (zN_ s).t] rfl rfl (qa_ (cs:=obC (zN_ s)) Tryz.underlying22 Tryz.ag38 wb_ (by decide) rfl) fun bc hbc hwc=> ?_
       with_reducible refine Ow.nil ?_
       refine⟨qh_ (by simp[keys]), ?_⟩
       refine kyb ?_
       refine OwG.permL (M:=(b9,O9):: (b7,O7):: (bp,pkO v0 v1 x2 x3):: (D1++ (D4++ (D3++ (DG++ [(ba, .cells (a8 (xg_ s).l) 42 (0,0)),(bc, .cells #[vi (zN_ s).k,vs (zN_ s).t] 38 (0,0))]))))) (by classical exact List.perm_iff_count.2 fun a=>by simp only[List.count_append,List.count_cons,List.count_nil]<;>omega) (fun r hr=>by simp only[List.mem_cons,List.not_mem_nil,or_false] at hr;rcases hr with rfl|rfl|rfl<;>simp(disch:=omega) only[List.cons_append,List.nil_append,zp_,zh_]) ?_
       refine OwG.rest [15,16,17,18,19,20,21] rfl (by kernel_rfl) (by kernel_rfl) ?_
       refine kya ?_
       refine Ow.softA ?_
       refine Ow.permL (M:=D3++ ((b9,O9):: (b7,O7):: (bp,pkO v0 v1 x2 x3):: (D1++ (D4++ (DG++ [(ba, .cells (a8 (xg_ s).l) 42 (0,0)),(bc, .cells #[vi (zN_ s).k,vs (zN_ s).t] 38 (0,0))]))))) (by classical exact List.perm_iff_count.2 fun a=>by simp only[List.count_append,List.count_cons,List.count_nil]<;>omega) ?_
       refine Ow.appendXG (e:=38) (k:=1) (new:=obC (zN_ s)) (X:=D3) x3 rfl rfl rfl rfl Tryz.underlying22 Tryz.ag38 (by kernel_rfl) wb_ (by rw[obV,za_];rfl) Tryz.underlying22 (by intro k h;cases h) hG3 (fun w' hw'=>AppX.one1 (hw'.has bc (.cells (obC (zN_ s)).toArray 38 (0,0)) (by simp[obC])) (X2_ _) (aaH_ _)) (by omega) (fun B5 v5 D5 hA5 hB5 hG5 hk51 hk52 hlk5=> ?_)
       have hN5:New w.heap.size D5:=New.of_le fun q hq=>by
        rcases hk52 q hq with h|h
        ·exact hN3.le q h
        ·omega
       refine Ow.permL (M:=(b9,O9):: (b7,O7):: (bp,pkO v0 v1 x2 x3):: (D1++ (D4++ (D5++ (DG++ [(ba, .cells (a8 (xg_ s).l) 42 (0,0)),(bc, .cells #[vi (zN_ s).k,vs (zN_ s).t] 38 (0,0))]))))) (by classical exact List.perm_iff_count.2 fun a=>by simp only[List.count_append,List.count_cons,List.count_nil]<;>omega) ?_
       with_reducible refine Ow.nil ?_
       refine⟨(fun r hr=>by simp only[List.mem_cons,List.not_mem_nil,or_false] at hr;rcases hr with rfl|rfl|rfl<;>simp(disch:=omega) only[zp_,zh_]), ?_⟩
       have st4: ∀a,zi_ (some (a,1)) (some (pkO v0 v1 x2 x3)) 2 v4=some (pkO v0 v1 v4 x3):=fun a=>Qv_ v0 v1 x2 x3 v4 a hG4.cell
       have st5: ∀a,zi_ (some (a,1)) (some (pkO v0 v1 v4 x3)) 3 v5=some (pkO v0 v1 v4 v5):=fun a=>Z5_ v0 v1 v4 x3 v5 a hG5.cell
       refine kq @qt_ ?_
       refine Ow.store rfl rfl rfl (ke (And.intro @qt_ @st4)) ?_
       refine ko (And.intro @qt_ @st5) ?_
       refine Cw.permL (M:=(bp,pkO v0 v1 v4 v5):: (D1++ (D4++ (D5++ ((b9,O9):: (b7,O7):: (DG++ [(ba, .cells (a8 (xg_ s).l) 42 (0,0)),(bc, .cells #[vi (zN_ s).k,vs (zN_ s).t] 38 (0,0))])))))) (by classical exact List.perm_iff_count.2 fun a=>by simp only[List.count_append,List.count_cons,List.count_nil]<;>omega) ?_
       first|with_reducible refine ks [] @qt_ ?_|refine kp @qt_ ?_
       refine Again.mk ⟨k+1,ids++ [xg_ s],os++ [zN_ s],v4,v5,D4,D5,(b9,O9):: (b7,O7):: (DG++ [(ba, .cells (a8 (xg_ s).l) 42 (0,0)),(bc, .cells #[vi (zN_ s).k,vs (zN_ s).t] 38 (0,0))])⟩ (by show ts.length - (k+1)<ts.length - k;omega) ⟨hlt,hfg',hN4,hN5,⟨by omega,by omega,hNG.app ⟨hwa,hwc,trivial⟩⟩,by simpa using hG4,by simpa using hG5⟩ rfl rfl
      ·refine Ow.buildSlice (e:=38) #[vi (zN_ s).k,vs (zN_ s).t] rfl rfl (qa_ (cs:=obC (zN_ s)) Tryz.underlying22 Tryz.ag38 wb_ (by decide) rfl) fun bc hbc hwc=> ?_
       with_reducible refine Ow.nil ?_
       refine⟨qh_ (by simp[keys]), ?_⟩
       refine kyb ?_
       refine OwG.one 8 _ (by kernel_rfl) rfl ?_
       refine Ow.permL (M:=D2++ ((b9,O9):: (b7,O7):: (bp,pkO v0 v1 x2 x3):: (D1++ (D3++ (DG++ [(ba, .cells (a8 (xg_ s).l) 42 (0,0)),(bc, .cells #[vi (zN_ s).k,vs (zN_ s).t] 38 (0,0))]))))) (by classical exact List.perm_iff_count.2 fun a=>by simp only[List.count_append,List.count_cons,List.count_nil]<;>omega) ?_
       refine Ow.appendXG (e:=42) (k:=1) (new:=jd_ (xg_ s)) (X:=D2) x2 rfl rfl rfl rfl Tryz.underlying23 Tryz.ag42 (by kernel_rfl) v1_ (by rw[za_,xW_,id0.h]) Tryz.underlying23 (by intro k h;cases h) hG2 (fun w' hw'=>AppX.one1 (by rw[ZK_];exact hw'.has ba (.cells (a8 (xg_ s).l) 42 (0,0)) (by simp)) (zX_ _) (j2_ _)) (by omega) (fun B4 v4 D4 hA4 hB4 hG4 hk41 hk42 hlk4=> ?_)
       have hN4:New w.heap.size D4:=New.of_le fun q hq=>by
        rcases hk42 q hq with h|h
        ·exact hN2.le q h
        ·omega
       refine Ow.permL (M:=(b9,O9):: (b7,O7):: (bp,pkO v0 v1 x2 x3):: (D1++ (D4++ (D3++ (DG++ [(ba, .cells (a8 (xg_ s).l) 42 (0,0)),(bc, .cells #[vi (zN_ s).k,vs (zN_ s).t] 38 (0,0))]))))) (by classical exact List.perm_iff_count.2 fun a=>by simp only[List.count_append,List.count_cons,List.count_nil]<;>omega) ?_
       with_reducible refine Ow.nil ?_
       refine⟨(fun r hr=>by simp only[List.mem_cons,List.not_mem_nil,or_false] at hr;rcases hr with rfl|rfl|rfl<;>simp(disch:=omega) only[List.cons_append,List.nil_append,zp_,zh_]), ?_⟩
       refine kyb ?_
       refine OwG.permL (M:=(b9,O9):: (b7,O7):: (bp,pkO v0 v1 x2 x3):: (D1++ (D4++ (D3++ (DG++ [(ba, .cells (a8 (xg_ s).l) 42 (0,0)),(bc, .cells #[vi (zN_ s).k,vs (zN_ s).t] 38 (0,0))]))))) (by classical exact List.perm_iff_count.2 fun a=>by simp only[List.count_append,List.count_cons,List.count_nil]<;>omega) (fun r hr=>by simp only[List.mem_cons,List.not_mem_nil,or_false] at hr;rcases hr with rfl|rfl|rfl<;>simp(disch:=omega) only[List.cons_append,List.nil_append,zp_,zh_]) ?_
       refine OwG.rest [15,16,17,18,19,20,21] rfl (by kernel_rfl) (by kernel_rfl) ?_
       refine kya ?_
       refine Ow.softA ?_
       refine Ow.permL (M:=D3++ ((b9,O9):: (b7,O7):: (bp,pkO v0 v1 x2 x3):: (D1++ (D4++ (DG++ [(ba, .cells (a8 (xg_ s).l) 42 (0,0)),(bc, .cells #[vi (zN_ s).k,vs (zN_ s).t] 38 (0,0))]))))) (by classical exact List.perm_iff_count.2 fun a=>by simp only[List.count_append,List.count_cons,List.count_nil]<;>omega) ?_
       refine Ow.appendXG (e:=38) (k:=1) (new:=obC (zN_ s)) (X:=D3) x3 rfl rfl rfl rfl Tryz.underlying22 Tryz.ag38 (by kernel_rfl) wb_ (by rw[obV,za_];rfl) Tryz.underlying22 (by intro k h;cases h) hG3 (fun w' hw'=>AppX.one1 (hw'.has bc (.cells (obC (zN_ s)).toArray 38 (0,0)) (by simp[obC])) (X2_ _) (aaH_ _)) (by omega) (fun B5 v5 D5 hA5 hB5 hG5 hk51 hk52 hlk5=> ?_)
       have hN5:New w.heap.size D5:=New.of_le fun q hq=>by
        rcases hk52 q hq with h|h
        ·exact hN3.le q h
        ·omega
       refine Ow.permL (M:=(b9,O9):: (b7,O7):: (bp,pkO v0 v1 x2 x3):: (D1++ (D4++ (D5++ (DG++ [(ba, .cells (a8 (xg_ s).l) 42 (0,0)),(bc, .cells #[vi (zN_ s).k,vs (zN_ s).t] 38 (0,0))]))))) (by classical exact List.perm_iff_count.2 fun a=>by simp only[List.count_append,List.count_cons,List.count_nil]<;>omega) ?_
       with_reducible refine Ow.nil ?_
       refine⟨(fun r hr=>by simp only[List.mem_cons,List.not_mem_nil,or_false] at hr;rcases hr with rfl|rfl|rfl<;>simp(disch:=omega) only[zp_,zh_]), ?_⟩
       have st4: ∀a,zi_ (some (a,1)) (some (pkO v0 v1 x2 x3)) 2 v4=some (pkO v0 v1 v4 x3):=fun a=>Qv_ v0 v1 x2 x3 v4 a hG4.cell
       have st5: ∀a,zi_ (some (a,1)) (some (pkO v0 v1 v4 x3)) 3 v5=some (pkO v0 v1 v4 v5):=fun a=>Z5_ v0 v1 v4 x3 v5 a hG5.cell
       refine kq @qt_ ?_
       refine Ow.store rfl rfl rfl (ke (And.intro @qt_ @st4)) ?_
       refine ko (And.intro @qt_ @st5) ?_
       refine Cw.permL (M:=(bp,pkO v0 v1 v4 v5):: (D1++ (D4++ (D5++ ((b9,O9):: (b7,O7):: (DG++ [(ba, .cells (a8 (xg_ s).l) 42 (0,0)),(bc, .cells #[vi (zN_ s).k,vs (zN_ s).t] 38 (0,0))])))))) (by classical exact List.perm_iff_count.2 fun a=>by simp only[List.count_append,List.count_cons,List.count_nil]<;>omega) ?_
       first|with_reducible refine ks [] @qt_ ?_|refine kp @qt_ ?_
       refine Again.mk ⟨k+1,ids++ [xg_ s],os++ [zN_ s],v4,v5,D4,D5,(b9,O9):: (b7,O7):: (DG++ [(ba, .cells (a8 (xg_ s).l) 42 (0,0)),(bc, .cells #[vi (zN_ s).k,vs (zN_ s).t] 38 (0,0))])⟩ (by show ts.length - (k+1)<ts.length - k;omega) ⟨hlt,hfg',hN4,hN5,⟨by omega,by omega,hNG.app ⟨hwa,hwc,trivial⟩⟩,by simpa using hG4,by simpa using hG5⟩ rfl rfl
     ·refine Ow.buildSlice (e:=38) #[vi (zN_ s).k,vs (zN_ s).t] rfl rfl (qa_ (cs:=obC (zN_ s)) Tryz.underlying22 Tryz.ag38 wb_ (by decide) rfl) fun bc hbc hwc=> ?_
      with_reducible refine Ow.nil ?_
      refine⟨qh_ (by simp[keys]), ?_⟩
      refine kyb ?_
      refine OwG.one 7 _ (by kernel_rfl) rfl ?_
      refine Ow.buildSlice (e:=42) (a8 (xg_ s).l) rfl rfl (qa_ (cs:=(xg_ s).l.map v8) Tryz.underlying23 Tryz.ag42 v1_ (by decide) (by simp[(xg_ s).h])) fun ba hba hwa=> ?_
      with_reducible refine Ow.nil ?_
      refine⟨qh_ (by simp[keys]), ?_⟩
      refine kyb ?_
      refine OwG.one 8 _ (by kernel_rfl) rfl ?_
      refine Ow.permL (M:=D2++ ((b9,O9):: (b7,O7):: (bp,pkO v0 v1 x2 x3):: (D1++ (D3++ (DG++ [(ba, .cells (a8 (xg_ s).l) 42 (0,0)),(bc, .cells #[vi (zN_ s).k,vs (zN_ s).t] 38 (0,0))]))))) (by classical exact List.perm_iff_count.2 fun a=>by simp only[List.count_append,List.count_cons,List.count_nil]<;>omega) ?_
      refine Ow.appendXG (e:=42) (k:=1) (new:=jd_ (xg_ s)) (X:=D2) x2 rfl rfl rfl rfl Tryz.underlying23 Tryz.ag42 (by kernel_rfl) v1_ (by rw[za_,xW_,id0.h]) Tryz.underlying23 (by intro k h;cases h) hG2 (fun w' hw'=>AppX.one1 (by rw[ZK_];exact hw'.has ba (.cells (a8 (xg_ s).l) 42 (0,0)) (by simp)) (zX_ _) (j2_ _)) (by omega) (fun B4 v4 D4 hA4 hB4 hG4 hk41 hk42 hlk4=> ?_)
      have hN4:New w.heap.size D4:=New.of_le fun q hq=>by
       rcases hk42 q hq with h|h
       ·exact hN2.le q h
       ·omega
      refine Ow.permL (M:=(b9,O9):: (b7,O7):: (bp,pkO v0 v1 x2 x3):: (D1++ (D4++ (D3++ (DG++ [(ba, .cells (a8 (xg_ s).l) 42 (0,0)),(bc, .cells #[vi (zN_ s).k,vs (zN_ s).t] 38 (0,0))]))))) (by classical exact List.perm_iff_count.2 fun a=>by simp only[List.count_append,List.count_cons,List.count_nil]<;>omega) ?_
      with_reducible refine Ow.nil ?_
      refine⟨(fun r hr=>by simp only[List.mem_cons,List.not_mem_nil,or_false] at hr;rcases hr with rfl|rfl|rfl<;>simp(disch:=omega) only[List.cons_append,List.nil_append,zp_,zh_]), ?_⟩
      refine kyb ?_
      refine OwG.permL (M:=(b9,O9):: (b7,O7):: (bp,pkO v0 v1 x2 x3):: (D1++ (D4++ (D3++ (DG++ [(ba, .cells (a8 (xg_ s).l) 42 (0,0)),(bc, .cells #[vi (zN_ s).k,vs (zN_ s).t] 38 (0,0))]))))) (by classical exact List.perm_iff_count.2 fun a=>by simp only[List.count_append,List.count_cons,List.count_nil]<;>omega) (fun r hr=>by simp only[List.mem_cons,List.not_mem_nil,or_false] at hr;rcases hr with rfl|rfl|rfl<;>simp(disch:=omega) only[List.cons_append,List.nil_append,zp_,zh_]) ?_
      refine OwG.rest [15,16,17,18,19,20,21] rfl (by kernel_rfl) (by kernel_rfl) ?_
      refine kya ?_
      refine Ow.softA ?_
      refine Ow.permL (M:=D3++ ((b9,O9):: (b7,O7):: (bp,pkO v0 v1 x2 x3):: (D1++ (D4++ (DG++ [(ba, .cells (a8 (xg_ s).l) 42 (0,0)),(bc, .cells #[vi (zN_ s).k,vs (zN_ s).t] 38 (0,0))]))))) (by classical exact List.perm_iff_count.2 fun a=>by simp only[List.count_append,List.count_cons,List.count_nil]<;>omega) ?_
      refine Ow.appendXG (e:=38) (k:=1) (new:=obC (zN_ s)) (X:=D3) x3 rfl rfl rfl rfl Tryz.underlying22 Tryz.ag38 (by kernel_rfl) wb_ (by rw[obV,za_];rfl) Tryz.underlying22 (by intro k h;cases h) hG3 (fun w' hw'=>AppX.one1 (hw'.has bc (.cells (obC (zN_ s)).toArray 38 (0,0)) (by simp[obC])) (X2_ _) (aaH_ _)) (by omega) (fun B5 v5 D5 hA5 hB5 hG5 hk51 hk52 hlk5=> ?_)
      have hN5:New w.heap.size D5:=New.of_le fun q hq=>by
       rcases hk52 q hq with h|h
       ·exact hN3.le q h
       ·omega
      refine Ow.permL (M:=(b9,O9):: (b7,O7):: (bp,pkO v0 v1 x2 x3):: (D1++ (D4++ (D5++ (DG++ [(ba, .cells (a8 (xg_ s).l) 42 (0,0)),(bc, .cells #[vi (zN_ s).k,vs (zN_ s).t] 38 (0,0))]))))) (by classical exact List.perm_iff_count.2 fun a=>by simp only[List.count_append,List.count_cons,List.count_nil]<;>omega) ?_
      with_reducible refine Ow.nil ?_
      refine⟨(fun r hr=>by simp only[List.mem_cons,List.not_mem_nil,or_false] at hr;rcases hr with rfl|rfl|rfl<;>simp(disch:=omega) only[zp_,zh_]), ?_⟩
      have st4: ∀a,zi_ (some (a,1)) (some (pkO v0 v1 x2 x3)) 2 v4=some (pkO v0 v1 v4 x3):=fun a=>Qv_ v0 v1 x2 x3 v4 a hG4.cell
      have st5: ∀a,zi_ (some (a,1)) (some (pkO v0 v1 v4 x3)) 3 v5=some (pkO v0 v1 v4 v5):=fun a=>Z5_ v0 v1 v4 x3 v5 a hG5.cell
      refine kq @qt_ ?_
      refine Ow.store rfl rfl rfl (ke (And.intro @qt_ @st4)) ?_
      refine ko (And.intro @qt_ @st5) ?_
      refine Cw.permL (M:=(bp,pkO v0 v1 v4 v5):: (D1++ (D4++ (D5++ ((b9,O9):: (b7,O7):: (DG++ [(ba, .cells (a8 (xg_ s).l) 42 (0,0)),(bc, .cells #[vi (zN_ s).k,vs (zN_ s).t] 38 (0,0))])))))) (by classical exact List.perm_iff_count.2 fun a=>by simp only[List.count_append,List.count_cons,List.count_nil]<;>omega) ?_
      first|with_reducible refine ks [] @qt_ ?_|refine kp @qt_ ?_
      refine Again.mk ⟨k+1,ids++ [xg_ s],os++ [zN_ s],v4,v5,D4,D5,(b9,O9):: (b7,O7):: (DG++ [(ba, .cells (a8 (xg_ s).l) 42 (0,0)),(bc, .cells #[vi (zN_ s).k,vs (zN_ s).t] 38 (0,0))])⟩ (by show ts.length - (k+1)<ts.length - k;omega) ⟨hlt,hfg',hN4,hN5,⟨by omega,by omega,hNG.app ⟨hwa,hwc,trivial⟩⟩,by simpa using hG4,by simpa using hG5⟩ rfl rfl
  ·obtain rfl:k=ts.length:=by omega
   have hd:decide ((ts.length:Int)< (ts.length:Int))=false:=decide_eq_false (by omega)
   first|with_reducible refine ks [] (And.intro @qt_ @hd) ?_|refine kp (And.intro @qt_ @hd) ?_
   refine⟨_,(ke @qt_), ?_⟩
   refine⟨ahO_ hNr, ?_⟩
   have hf:fillV l=some (ids,os):=by
    unfold fillV
    rw[ha]
    rw[List.take_length] at hfg
    exact hfg
   unfold aaO_
   rw[hf]
   exact⟨rfl,x2,x3,_,rfl,Gr.i hG2 fun q hq=>by simp[hq],Gr.i hG3 fun q hq=>by simp[hq]⟩
end Go.Proofs
end
section
open Go Go.Proofs Go.Sx
namespace Go.Proofs
set_option maxRecDepth 10000
set_option maxHeartbeats 4000000
set_option linter.unusedSimpArgs false
def hvL:List UInt32:= [0x00000000,0x1db71064,0x3b6e20c8,0x26d930ac,0x76dc4190,0x6b6b51f4,0x4db26158,0x5005713c,0xedb88320,0xf00f9344,0xd6d6a3e8,0xcb61b38c,0x9b64c2b0,0x86d3d2d4,0xa00ae278,0xbdbdf21c]
def alq_ (n:UInt32):UInt32:=qB_ n 4^^^hvL.getD (n&&&15).toNat 0
def aey_ (n:UInt32):Nat→UInt32
 |0=>n
 |k+1=>alq_ (aey_ n k)
def agR_ (n:UInt32) (b:UInt8):UInt32:=aey_ (n^^^UInt32.ofNat b.toNat) 2
theorem aeI_ (n:UInt32): (n&&&15).toNat<16:=by
 rw[UInt32.toNat_and]
 exact Nat.lt_of_le_of_lt Nat.and_le_right (by decide)
def GlobC (w:World):Prop:= ∃e f,w.heap[(3:Nat)]? =some (.cells (a32 hvL) e f)
theorem GlobC.of {w w':World} {L:zb_} (h:GlobC w) (hw:Hp w L w') (hn: (3:Nat)∉keys L):GlobC w':=by
 obtain⟨e,f,h⟩:=h
 exact⟨e,f,by rw[hw.old _ (Array.getElem?_eq_some_iff.1 h).1 hn];exact h⟩
theorem ajx_:hvL.length=16:=rfl
set_option linter.defProp false
theorem adS_ (n:UInt32) (b:UInt8) (w:World) (hG:GlobC w):
  Rets Tryz.prog 137 #[v32 n,v8 b] w (fun v D=>v=v32 (agR_ n b)∧D= []):=by
 obtain⟨e,f,htab⟩:=hG
 refine Rets.enterV Tryz.func137 rfl (rs:= [.tmp 4]) Tryz.results137 Tryz.ntmps137 ?_
 refine kf ?_
 first|with_reducible refine ks [] @zJ_ ?_|refine kp @zJ_ ?_
 unfold agR_
 generalize n^^^UInt32.ofNat b.toNat=m
 rw[show v32 m=v32 (aey_ m 0) from rfl]
 refine Cw.loopG (G:=Nat) [10,11,12,13,14,15,16,17,0,18,9] (fun g=> [(0,v32 (aey_ m g)),(9,vi g)]) (fun g=> []) (fun g=>g≤2) (fun g=>2 - g) 0 rfl rfl ?_ ?_
 ·omega
 intro g j hg
 refine kv ?_
 by_cases hlt:g<2
 ·have h15:=aeI_ (aey_ m g)
  have hl:=ajx_
  first|with_reducible refine ks [] (And.intro @zJ_ @htab) ?_|refine kp (And.intro @zJ_ @htab) ?_
  refine Again.mk (g+1) (by omega) (by omega) rfl rfl
 ·obtain rfl:g=2:=by omega
  first|with_reducible refine ks [] @zJ_ ?_|refine kp @zJ_ ?_
  refine⟨_,(ke @zJ_),trivial, ?_⟩
  rfl
def aaL_ (n:UInt32) (s:List UInt8):UInt32:=s.foldl agR_ n
theorem adh_ (n:UInt32) (s:List UInt8) (g:Nat) (h:g<s.length):aaL_ n (s.take (g+1))=agR_ (aaL_ n (s.take g)) (s.getD g 0):=by
 unfold aaL_
 rw[List.take_succ_eq_append_getElem h,List.foldl_append,List.getD_eq_getElem?_getD,List.getElem?_eq_getElem h]
 rfl
theorem aeD_ (n:UInt32) (s:List UInt8) (w:World) (hG:GlobC w) (hs:s.length<1099511627776):
  Rets Tryz.prog 123 #[v32 n,vs s] w (fun v D=>v=v32 (~~~ (aaL_ (~~~ n) s))∧D= []):=by
 refine Rets.enterV Tryz.func123 rfl (rs:= [.tmp 4]) Tryz.results123 Tryz.ntmps123 ?_
 refine kf ?_
 first|with_reducible refine ks [] @zJ_ ?_|refine kp @zJ_ ?_
 rw[show v32 (~~~ n)=v32 (aaL_ (~~~ n) (s.take 0)) from rfl]
 refine Cw.loopG (G:=Nat) [12,13,6,14,15,16,17,18,5,19,11] (fun g=> [(5,v32 (aaL_ (~~~ n) (s.take g))),(11,vi g)]) (fun g=> []) (fun g=>g≤s.length) (fun g=>s.length - g) 0 rfl rfl ?_ ?_
 ·omega
 intro g j hg
 refine kv ?_
 by_cases hlt:g<s.length
 ·first|with_reducible refine ks [] @zJ_ ?_|refine kp @zJ_ ?_
  refine Ow.callFV rfl Tryz.call137 (fun w' hw'=>adS_ _ _ w' (GlobC.of hG hw' (by simp[keys]))) ?_
  refine ko @zJ_ ?_
  first|with_reducible refine ks [] @zJ_ ?_|refine kp @zJ_ ?_
  refine Again.mk (g+1) (by omega) (by omega) rfl ?_
  rw[adh_ _ _ _ hlt]
  rfl
 ·obtain rfl:g=s.length:=by omega
  first|with_reducible refine ks [] @zJ_ ?_|refine kp @zJ_ ?_
  rw[List.take_length]
  refine⟨_,(ke @zJ_),trivial, ?_⟩
  rfl
def crcV (s:List UInt8):UInt32:= ~~~ (aaL_ (~~~ (0:UInt32)) s)
theorem afR_ (b:Nat) (s:List UInt8) (E:TypeId) (w:World) (hG:GlobC w) (hs:s.length<1099511627776) (ho:w.heap[b]? =some (.cells #[vs s] E (0,0))):
  Rets Tryz.prog 96 #[vsl b 0 1 1] w (fun v D=>v=v32 (crcV s)∧D= []):=by
 have hS:StrS w (vsl b 0 1 1) [s] b 0 #[vs s] E (0,0):=StrS.lit [s] rfl rfl ho
 refine Rets.enterV Tryz.func96 rfl (rs:= [.tmp 2]) Tryz.results96 Tryz.ntmps96 ?_
 refine kf ?_
 first|with_reducible refine ks [] @zJ_ ?_|refine kp @zJ_ ?_
 refine Cw.loopG (G:=Nat) [9,10,11,5,12,13,14,3,15,8] (fun g=> [(3,v32 (if g=0 then 0 else crcV s)),(8,vi g)]) (fun g=> []) (fun g=>g≤1) (fun g=>1 - g) 0 rfl rfl ?_ ?_
 ·omega
 intro g j hg
 refine kv ?_
 by_cases hlt:g<1
 ·obtain rfl:g=0:=by omega
  have hlg:=hS.get 0 (by simp)
  have hrd:=hS.has (by simp)
  have hix:=fun m=>hS.idx m 0 (by simp)
  first|with_reducible refine ks [] (And.intro @zJ_ (And.intro @Sx.loadV_one (And.intro @hrd (And.intro @hlg (@hix))))) ?_|refine kp (And.intro @zJ_ (And.intro @Sx.loadV_one (And.intro @hrd (And.intro @hlg (@hix))))) ?_
  refine Ow.callFV rfl Tryz.call123 (fun w' hw'=>aeD_ 0 s w' (GlobC.of hG hw' (by simp[keys])) hs) ?_
  refine ko @zJ_ ?_
  first|with_reducible refine ks [] @zJ_ ?_|refine kp @zJ_ ?_
  refine Again.mk 1 (by omega) (by omega) rfl rfl
 ·obtain rfl:g=1:=by omega
  first|with_reducible refine ks [] @zJ_ ?_|refine kp @zJ_ ?_
  refine⟨_,(ke @zJ_),trivial, ?_⟩
  rfl
def QR_ (n:UInt32) (g:Nat):List UInt8:=(List.range 4).map fun j=>if j<g then UInt8.ofNat (qB_ n (8*j)).toNat else 0
def sum4 (n:UInt32):List UInt8:=QR_ n 4
theorem Jw_ (n:UInt32) (g:Nat): (QR_ n g).length=4:=by simp[QR_]
theorem WQ_ (n:UInt32) (g:Nat) (h:g<4): (QR_ n g).set g (UInt8.ofNat (qB_ n (8*g)).toNat)=QR_ n (g+1):=by
 have:g=0∨g=1∨g=2∨g=3:=by omega
 rcases this with rfl|rfl|rfl|rfl<;>rfl
def vE_ (s:List UInt8):List UInt8:=s++sum4 (crcV s)
theorem JR_ (s:List UInt8) (w:World) (hG:GlobC w) (hs:s.length<1099511627776):
  Rets Tryz.prog 56 #[vs s] w (fun v D=>v=vs (vE_ s)∧D= []):=by
 have hgl: (3:Nat)<w.heap.size:=by obtain⟨e,f,h⟩:=hG;exact(Array.getElem?_eq_some_iff.1 h).1
 refine Rets.enterV Tryz.func56 rfl (rs:= [.tmp 2]) Tryz.results56 Tryz.ntmps56 ?_
 refine kf ?_
 first|with_reducible refine ks [] @zJ_ ?_|refine kp @zJ_ ?_
 refine Ow.buildSlice (e:=9) #[vs s] rfl rfl (by kernel_rfl) fun b1 hb1 hw1=> ?_
 refine ko @zJ_ ?_
 refine Ow.callFV rfl Tryz.call96 (fun w' hw'=>afR_ b1 s _ w' (GlobC.of hG hw' (by simp[keys];omega)) hs (hw'.has _ _ List.mem_cons_self)) ?_
 refine ko @zJ_ ?_
 first|with_reducible refine ks [] @zJ_ ?_|refine kp @zJ_ ?_
 unfold vE_
 generalize crcV s=n
 refine Ow.alloc rfl rfl Tryz.zr174 fun b2 hb2 hw2=> ?_
 obtain⟨h12,-⟩:=hb2
 refine ko @zJ_ ?_
 first|with_reducible refine ks [] @zJ_ ?_|refine kp @zJ_ ?_
 rw[show a8 (List.replicate 4 0)=a8 (QR_ n 0) from rfl]
 refine Cw.loopG (G:=Nat) [10,11,5,12,13,14,15,16,17,18,19,9] (fun g=> [(9,vi g)]) (fun g=> [(b1, .cells #[vs s] 9 (0,0)),(b2, .cells (a8 (QR_ n g)) 174 (0,0))]) (fun g=>g≤4) (fun g=>4 - g) 0 rfl rfl ?_ ?_
 ·omega
 intro g j hg
 refine kv ?_
 have hpl:=Jw_ n g
 by_cases hlt:g<4
 ·first|with_reducible refine ks [] @zJ_ ?_|refine kp @zJ_ ?_
  refine Again.mk (g+1) (by omega) (by omega) ?_ rfl
  rw[WQ_ n g hlt]
 ·obtain rfl:g=4:=by omega
  first|with_reducible refine ks [] @zJ_ ?_|refine kp @zJ_ ?_
  refine⟨_,(ke @zJ_),⟨hw1,hw2,trivial⟩, ?_⟩
  rw[List.drop_zero,List.take_of_length_le (by omega)];rfl
def jb_ (s:List UInt8):List UInt8×Bool:=
 if s.length<4 then([],false) else if vE_ (s.take (s.length - 4))=s then(s.take (s.length - 4),true) else([],false)
theorem VC_ (s:List UInt8): (vE_ s).length=s.length+4:=by unfold vE_ sum4;rw[List.length_append,Jw_]
theorem KT_ (s:List UInt8) (w:World) (hG:GlobC w) (hs:s.length<1099511627776):
  Rets Tryz.prog 34 #[vs s] w (fun v D=>v= .tuple #[vs (jb_ s).1, .bool (jb_ s).2]∧D= []):=by
 refine Rets.enterV Tryz.func34 rfl (rs:= [.tmp 2, .tmp 3]) Tryz.results34 Tryz.ntmps34 ?_
 refine kf ?_
 first|with_reducible refine ks [] @zJ_ ?_|refine kp @zJ_ ?_
 unfold jb_
 by_cases h4:s.length<4
 ·have e1:decide ((s.length:Int)<4)=true:=decide_eq_true (by omega)
  rw[if_pos h4]
  first|with_reducible refine ks [] (And.intro @zJ_ @e1) ?_|refine kp (And.intro @zJ_ @e1) ?_
  refine⟨_,(ke @zJ_),trivial, ?_⟩
  rfl
 ·have e1:decide ((s.length:Int)<4)=false:=decide_eq_false (by omega)
  have e2: ((s.length:Int) - 4).toNat=s.length - 4:=by omega
  rw[if_neg h4]
  first|with_reducible refine ks [] (And.intro @zJ_ (And.intro @e1 (@e2))) ?_|refine kp (And.intro @zJ_ (And.intro @e1 (@e2))) ?_
  refine Ow.callFV rfl Tryz.call56 (fun w' hw'=>JR_ (s.take (s.length - 4)) w' (GlobC.of hG hw' (by simp[keys])) (by rw[List.length_take];omega)) ?_
  refine ko @zJ_ ?_
  cases hq: (vE_ (s.take (s.length - 4)) !=s)
  ·rw[if_pos (by simpa using hq)]
   first|with_reducible refine ks [] (And.intro @zJ_ (And.intro @hq (@e2))) ?_|refine kp (And.intro @zJ_ (And.intro @hq (@e2))) ?_
   refine⟨_,(ke @zJ_),trivial, ?_⟩
   rfl
  ·rw[if_neg (by simpa using hq)]
   first|with_reducible refine ks [] (And.intro @zJ_ @hq) ?_|refine kp (And.intro @zJ_ @hq) ?_
   refine⟨_,(ke @zJ_),trivial, ?_⟩
   rfl
end Go.Proofs
end
section
open Go Go.Proofs Go.Sx Go.StP Go.Flo
namespace Go.Proofs
set_option maxRecDepth 10000
set_option maxHeartbeats 400000
set_option linter.unusedSimpArgs false
def Zp_ (i:Nat) (p:PartL):Int:=if p.d=true then(i:Int) - p.b else 0
def kJ_ (i:Nat) (p:PartL):List UInt8:=jM_ (zO_ (Zp_ i p))++js_ p.x
def qY_:Nat→List PartL→List UInt8
 |_,[]=> []
 |i,p::r=>kJ_ i p++qY_ (i+1) r
def magB:List UInt8:= [83,80,75,49]
def k7_ (l:List PartL):List UInt8:=magB++ (jM_ (zO_ (l.length:Int))++qY_ 0 l)
def vQ_ (s:List UInt8) (i a:Nat) (e:Int):PartL×Nat×Int:=
 (⟨decide (0< (zr_ s a e 200).1),if 0< (zr_ s a e 200).1 then(i:Int) - (zr_ s a e 200).1 else 0,(zS_ s (zr_ s a e 200).2.1 (zr_ s a e 200).2.2 65536).1⟩,(zS_ s (zr_ s a e 200).2.1 (zr_ s a e 200).2.2 65536).2)
def z7_ (s:List UInt8):Nat→Nat→Nat→Int→List PartL×List Nat×Nat×Int
 |0,_,a,e=>([],[],a,e)
 |k+1,i,a,e=>if(vQ_ s i a e).2.2=0 then((vQ_ s i a e).1:: (z7_ s k (i+1) (vQ_ s i a e).2.1 0).1,a:: (z7_ s k (i+1) (vQ_ s i a e).2.1 0).2.1,(z7_ s k (i+1) (vQ_ s i a e).2.1 0).2.2) else([],[],(vQ_ s i a e).2)
def xi_ (s:List UInt8):Int×Bool×Nat×Int:=
 if(q8_ s 0 0 4).1=magB then((zr_ s (q8_ s 0 0 4).2.1 (q8_ s 0 0 4).2.2 200).1,(zr_ s (q8_ s 0 0 4).2.1 (q8_ s 0 0 4).2.2 200).2.2==0,(zr_ s (q8_ s 0 0 4).2.1 (q8_ s 0 0 4).2.2 200).2) else(0,false,(q8_ s 0 0 4).2)
def wc_ (s:List UInt8):List PartL×List Nat×Nat×Int:=z7_ s (xi_ s).1.toNat 0 (xi_ s).2.2.1 (xi_ s).2.2.2
def age_ (b:List UInt8):Option (List PartL×List Nat×List IdL×List ObL):=
 if(jb_ b).2=true∧(xi_ (jb_ b).1).2.1=true∧xE_ (jb_ b).1 (wc_ (jb_ b).1).2.2.1 (wc_ (jb_ b).1).2.2.2=0 then(fillV (wc_ (jb_ b).1).1).map fun q=>((wc_ (jb_ b).1).1,(wc_ (jb_ b).1).2.1,q) else none
def Qf_ (l:List PartL):List UInt8×Int:=match fillV l with
 |some _=>(vE_ (k7_ l),0)
 |none=>([],1)
instance:DecidableEq ObL:=fun a b=>if h:a.k=b.k∧a.t=b.t then .isTrue (by cases a;cases b;simp only at h;obtain⟨rfl,rfl⟩:=h;rfl) else .isFalse (fun e=>h (by rw[e];exact⟨rfl,rfl⟩))
def Za_ (i:Nat) (p:PartL):Prop:=(if p.d=true then 0≤p.b∧p.b<i∧(i:Int)≤200 else p.b=0)∧p.x.length≤65536
def wX_:Nat→List PartL→Prop
 |_,[]=>True
 |i,p::r=>Za_ i p∧wX_ (i+1) r
theorem akd_ {i:Nat} {p:PartL} (h:Za_ i p): ∃n:Nat,Zp_ i p=n∧n≤200∧(0<n↔p.d=true):=by
 unfold Za_ at h
 unfold Zp_
 by_cases hd:p.d=true
 ·rw[if_pos hd] at h ⊢
  exact⟨((i:Int) - p.b).toNat,by omega,by omega,⟨fun _=>hd,fun _=>by omega⟩⟩
 ·rw[if_neg hd]
  exact⟨0,rfl,by omega,⟨fun h=>by omega,fun h=>absurd h hd⟩⟩
theorem ajW_ {i n:Nat} {p:PartL} (h:Za_ i p) (hf:Zp_ i p=n) (hn:0<n↔p.d=true): (⟨decide (0< (n:Int)),if 0< (n:Int) then(i:Int) - (n:Int) else 0,p.x⟩:PartL)=p:=by
 obtain⟨d,b,x⟩:=p
 unfold Za_ at h
 unfold Zp_ at hf
 simp only at h hf hn ⊢
 cases d
 ·rw[if_neg (by simp)] at h hf
  have: ¬0< (n:Int):=by omega
  rw[if_neg this,decide_eq_false this,h.1]
 ·rw[if_pos rfl] at h hf
  have:0< (n:Int):=by have:=hn.2 rfl;omega
  rw[if_pos this,decide_eq_true this]
  congr 1
  omega
theorem acC_ (A r:List UInt8) {i:Nat} {p:PartL} (h:Za_ i p):vQ_ (A++ (kJ_ i p++r)) i A.length 0=(p,A.length+ (kJ_ i p).length,0):=by
 obtain⟨n,hf,hn,hd⟩:=akd_ h
 have hx:=h.2
 have h1:=Qw_ A (js_ p.x++r) n 200 (by omega) (by omega)
 have h2:=adb_ (A++jM_ n) p.x r 65536 (by omega) (by omega)
 rw[List.append_assoc,List.length_append] at h2
 unfold vQ_ kJ_
 rw[hf,xn_ (by omega),List.append_assoc,h1]
 simp only
 rw[h2,ajW_ h hf hd,List.length_append,Nat.add_assoc]
def QW_:Nat→Nat→List PartL→List Nat
 |_,_,[]=> []
 |i,a,p::r=>a::QW_ (i+1) (a+ (kJ_ i p).length) r
theorem Qi_ (r:List UInt8): ∀ (l:List PartL) (A:List UInt8) (i:Nat),wX_ i l→z7_ (A++ (qY_ i l++r)) l.length i A.length 0=(l,QW_ i A.length l,A.length+ (qY_ i l).length,0)
 | [],A,i,_=>by simp[z7_,qY_,QW_]
 |p::l,A,i,h=>by
  have h1:=acC_ A (qY_ (i+1) l++r) h.1
  have h2:=Qi_ r l (A++kJ_ i p) (i+1) h.2
  rw[List.append_assoc,List.length_append] at h2
  unfold qY_
  rw[List.length_cons,List.append_assoc]
  unfold z7_
  rw[h1]
  simp only[↓reduceIte]
  rw[h2]
  simp only[QW_,List.length_append,Nat.add_assoc]
theorem abr_ {n:Nat} (h:n≤200):zO_ (n:Int)=n:=xn_ (by omega)
theorem ael_ (x:List UInt8) {n:Nat} (h:n≤200):xi_ (magB++ (jM_ n++x))=((n:Int),true,4+ (jM_ n).length,0):=by
 have h0:=Vf_ [] magB (jM_ n++x)
 have h1:=Qw_ magB x n 200 (by omega) (by omega)
 simp only[List.nil_append,List.length_nil,Nat.zero_add] at h0
 have e4:magB.length=4:=rfl
 rw[e4] at h0 h1
 unfold xi_
 rw[show((4:Nat):Int)=4 from rfl] at h0
 rw[h0]
 simp only[↓reduceIte]
 rw[h1]
 rfl
theorem afO_ {l:List PartL} (h:wX_ 0 l) (hl:l.length≤200) (r:List UInt8):xi_ (k7_ l++r)=((l.length:Int),true,4+ (jM_ l.length).length,0)∧
  wc_ (k7_ l++r)=(l,QW_ 0 (4+ (jM_ l.length).length) l,(k7_ l).length,0):=by
 have e:k7_ l++r=magB++ (jM_ l.length++ (qY_ 0 l++r)):=by unfold k7_;rw[abr_ hl,List.append_assoc,List.append_assoc]
 have hh:=ael_ (qY_ 0 l++r) hl
 have hp:=Qi_ r l (magB++jM_ l.length) 0 h
 rw[List.append_assoc,List.length_append,show magB.length=4 from rfl] at hp
 refine⟨by rw[e];exact hh, ?_⟩
 unfold wc_
 rw[e,hh]
 simp only[Int.toNat_natCast]
 rw[hp]
 unfold k7_
 rw[abr_ hl]
 simp only[List.length_append,show magB.length=4 from rfl,Nat.add_assoc]
theorem Vv_ (s:List UInt8):jb_ (vE_ s)=(s,true):=by
 have hl:=VC_ s
 have ht: (vE_ s).take ((vE_ s).length - 4)=s:=by rw[hl,Nat.add_sub_cancel];unfold vE_;rw[List.take_left]
 unfold jb_
 rw[if_neg (by omega),ht,if_pos rfl]
theorem akE_ (s:List UInt8):xE_ s s.length 0=0:=by unfold xE_;rw[if_neg (by simp),if_neg (by omega)]
theorem acH_ {l:List PartL} {ts:List (List UInt8)} (h:QI_ l= .ok ts) (hx: ∀p,p∈l→p.x.length≤65536):wX_ 0 l∧l.length≤200:=by
 unfold QI_ at h
 split at h
 ·cases h
 ·rename_i h2
  refine⟨?_,by omega⟩
  have hkk: ∀k,k<l.length→Za_ k (l.getD k qi_):=by
   intro k hk
   have hp:=vn_ _ _ h k hk
   unfold partV at hp
   refine⟨?_,hx _ (ZI_ hk)⟩
   cases hq:jU_ l (k:Nat) with
   |error e=>rw[hq] at hp;cases hp
   |ok p=>
    rcases jQ_ hk hq with⟨-,hd,hb⟩ | ⟨b,q,-,hd,hb,hlt,-⟩
    ·rw[if_neg (by rw[hd];decide),hb]
    ·rw[if_pos hd,hb];omega
  have go: ∀ (m:List PartL) (i:Nat),(∀k,k<m.length→Za_ (i+k) (m.getD k qi_))→wX_ i m:=by
   intro m
   induction m with
   |nil=>intro i _;trivial
   |cons p r ih=>
    intro i hm
    refine⟨by simpa using hm 0 (by simp),ih (i+1) fun k hk=> ?_⟩
    have:=hm (k+1) (by simp;omega)
    rw[List.getD_cons_succ,show i+ (k+1)=i+1+k by omega] at this
    exact this
  exact go l 0 fun k hk=>by rw[Nat.zero_add];exact hkk k hk
end Go.Proofs
end
section
open Go Go.Proofs Go.Sx Go.StP Go.Flo
namespace Go.Proofs
set_option maxRecDepth 10000
set_option maxHeartbeats 400000
set_option linter.unusedSimpArgs false
theorem QD_ {s:List UInt8}: ∀ (k i a:Nat) (e:Int),(z7_ s k i a e).1.length≤k∧(z7_ s k i a e).2.1.length=(z7_ s k i a e).1.length
 |0,i,a,e=>⟨Nat.le_refl _,rfl⟩
 |k+1,i,a,e=>by
  have:=QD_ (s:=s) k (i+1) (vQ_ s i a e).2.1 0
  unfold z7_
  split
  ·simp only[List.length_cons];omega
  ·simp
theorem WE_ {l:List PartL} {q:List IdL×List ObL} (h:fillV l=some q) (hx: ∀p,p∈l→p.x.length≤65536):wX_ 0 l∧l.length≤200:=by
 unfold fillV at h
 cases ha:QI_ l with
 |error e=>rw[ha] at h;cases h
 |ok ts=>exact acH_ ha hx
theorem adi_ {l:List PartL} {q:List IdL×List ObL} (h:fillV l=some q) (hx: ∀p,p∈l→p.x.length≤65536):age_ (vE_ (k7_ l))=some (l,QW_ 0 (4+ (jM_ l.length).length) l,q):=by
 obtain⟨h1,h2⟩:=WE_ h hx
 obtain⟨hh,hr⟩:=afO_ h1 h2 []
 rw[List.append_nil] at hh hr
 unfold age_
 rw[Vv_]
 simp only[hh,hr,akE_,and_self, ↓reduceIte,h,Option.map_some]
end Go.Proofs
end
section
open Go Go.Proofs Go.Sx Go.StP Go.Flo
namespace Go.Proofs
set_option maxRecDepth 10000
set_option maxHeartbeats 400000
set_option linter.unusedSimpArgs false
def prO (v0 v1 v2:Value):Obj:= .cells #[v0,v1,v2] 87 (0,0)
def wrO (s:List UInt8) (a:Nat) (e:Int):Obj:= .cells #[vs s,vi a,vi e] 130 (0,0)
theorem abG_ (v0 v1 v2:Value) (n:Nat):zn_ (some (false,n)) (some (prO v0 v1 v2)) 0=some v0:=(rfl)
theorem abs_ (v0 v1 v2:Value) (n:Nat):zn_ (some (false,n)) (some (prO v0 v1 v2)) 1=some v1:=(rfl)
theorem abV_ (v0 v1 v2:Value) (n:Nat):zn_ (some (false,n)) (some (prO v0 v1 v2)) 2=some v2:=(rfl)
theorem Qn_ (v0 v1 v2 q:Value) (a:Bool) (hq:Value.oneCell' q=true∧q.cells= #[q]):zi_ (some (a,1)) (some (prO v0 v1 v2)) 1 q=some (prO v0 q v2):=
 qA_ [v0] [v1] [q] [v2] a _ 87 rfl rfl hq.2 rfl (by simp[hq.1])
theorem Qy_ (v0 v1 v2 q:Value) (a:Bool) (hq:Value.oneCell' q=true∧q.cells= #[q]):zi_ (some (a,1)) (some (prO v0 v1 v2)) 2 q=some (prO v0 v1 q):=
 qA_ [v0,v1] [v2] [q] [] a _ 87 rfl rfl hq.2 rfl (by simp[hq.1])
theorem aaM_ (p:PartL) (E:TypeId) (a:Bool) (x:Bool):zi_ (some (a,1)) (some (.cells (zs_ p).toArray E (0,0))) 0 (.bool x)=some (.cells (zs_ ⟨x,p.b,p.x⟩).toArray E (0,0)):=(rfl)
theorem Wr_ (p:PartL) (E:TypeId) (a:Bool) (x:Int):zi_ (some (a,1)) (some (.cells (zs_ p).toArray E (0,0))) 1 (vi x)=some (.cells (zs_ ⟨p.d,x,p.x⟩).toArray E (0,0)):=(rfl)
theorem JS_ (p:PartL) (E:TypeId):zn_ (some (true,3)) (some (.cells (zs_ p).toArray E (0,0))) 0=some (.agg (zs_ p).toArray):=vB_ (n:=3) [] (zs_ p) [] E (0,0) rfl rfl
theorem Qt_ (t:List UInt8):buildV (xY_ Tryz.prog 126) (zG_ Tryz.prog 126) [(2,vs t)]=some (.agg (zs_ ⟨false,0,t⟩).toArray):=by
 rw[show xY_ Tryz.prog 126=some [(0,1),(1,1),(2,1)] from id (by kernel_rfl),x6_];rfl
theorem acR_ (b:Nat) (s:List UInt8) (a:Nat) (e n:Int) (w:World) (ha:a≤s.length) (hs:s.length<9223372036854775808) (ho:w.heap[b]? =some (wrO s a e)):
  Rets Tryz.prog 58 #[vp b 0,vi n] w (fun v D=> ∃o,D= [(b,o)]∧v=vs (q8_ s a e n).1∧o=wrO s (q8_ s a e n).2.1 (q8_ s a e n).2.2):=k8_ b s a e n w ha hs ho
theorem wl_ (b:Nat) (s:List UInt8) (a:Nat) (e most:Int) (w:World) (ha:a≤s.length) (hs:s.length<9223372036854775808) (ho:w.heap[b]? =some (wrO s a e)):
  Rets Tryz.prog 59 #[vp b 0,vi most] w (fun v D=> ∃o,D= [(b,o)]∧v=vi (zr_ s a e most).1∧o=wrO s (zr_ s a e most).2.1 (zr_ s a e most).2.2):=qL_ b s a e most w ha hs ho
theorem WA_ (b:Nat) (s:List UInt8) (a:Nat) (e most:Int) (w:World) (ha:a≤s.length) (hs:s.length<9223372036854775808) (ho:w.heap[b]? =some (wrO s a e)):
  Rets Tryz.prog 62 #[vp b 0,vi most] w (fun v D=> ∃o,D= [(b,o)]∧v=vs (zS_ s a e most).1∧o=wrO s (zS_ s a e most).2.1 (zS_ s a e most).2.2):=vh_ b s a e most w ha hs ho
theorem WX_ {w:World} {a b:Nat} {x x' y y':Obj} {D:zb_} (h:New w.heap.size D):Ext w [(a,x),(b,y)] ((a,x'):: (b,y')::D):=⟨fun c hc=>by
 simp only[keys,List.map_cons,List.mem_cons,List.map_nil,List.not_mem_nil,or_false] at hc ⊢
 rcases hc with h'|h'|h'
 ·exact .inl (.inl h')
 ·exact .inl (.inr h')
 ·exact .inr (h.le c h'),fun c hc=>by
 simp only[keys,List.map_cons,List.mem_cons,List.map_nil,List.not_mem_nil,or_false] at hc ⊢
 rcases hc with h'|h'
 ·exact .inl h'
 ·exact .inr (.inl h')⟩
set_option linter.defProp false
def zT_:=And.intro (And.intro (And.intro (@zv_) (And.intro (@zu_) (@abG_))) (And.intro (And.intro (@abs_) (@abV_)) (And.intro (@Sx.tup2_0) (@Sx.tup2_1)))) (And.intro (And.intro (And.intro (@vr_) (@vi_)) (And.intro (@vj_) (@JS_))) (And.intro (And.intro (@jo_) (@xk_)) (And.intro (@aaM_) (@Wr_))))
theorem afA_ (br bw:Nat) (s:List UInt8) (v1 v2:Value) (w:World) (hs:s.length<9223372036854775808) (hne:br≠bw) (ho:w.heap[br]? =some (prO (vp bw 0) v1 v2)) (hr:w.heap[bw]? =some (wrO s 0 0)):
  Rets Tryz.prog 36 #[vp br 0] w (XS w [(br,prO (vp bw 0) v1 v2),(bw,wrO s 0 0)] (fun v D=>v= .tuple #[vi (xi_ s).1, .bool (xi_ s).2.1]∧D= [(br,prO (vp bw 0) v1 v2),(bw,wrO s (xi_ s).2.2.1 (xi_ s).2.2.2)])):=by
 refine Rets.enterX Tryz.func36 rfl (rs:= [.tmp 2, .tmp 3]) Tryz.results36 Tryz.ntmps36 (XI_ ho hr) (by simp[keys,hne]) ?_
 refine kf ?_
 first|with_reducible refine ks [] @zT_ ?_|refine kp @zT_ ?_
 refine Ow.callM rfl rfl Tryz.call58 (by simp[keys]) (fun w' hw'=>acR_ bw s 0 0 4 w' (Nat.zero_le _) hs (hw'.has _ _ (List.mem_cons_of_mem _ List.mem_cons_self))) ?_
 have r1:=kl_ (s:=s) (a:=0) (e:=0) (n:=4) (Nat.zero_le _)
 unfold xi_
 generalize q8_ s 0 0 4=p at*
 obtain⟨x,a1,e1⟩:=p
 simp only at r1 ⊢
 refine kn ?_
 by_cases hm:x=magB
 ·have d1: (x !=magB)=false:=by rw[hm];exact bne_self_eq_false _
  unfold magB at d1
  rw[if_pos hm]
  refine ko (And.intro @zT_ @d1) ?_
  first|with_reducible refine ks [] (And.intro @zT_ @d1) ?_|refine kp (And.intro @zT_ @d1) ?_
  refine Ow.callM rfl rfl Tryz.call59 (by simp[keys]) (fun w' hw'=>wl_ bw s a1 e1 200 w' r1.2 hs (hw'.has _ _ (List.mem_cons_of_mem _ List.mem_cons_self))) ?_
  generalize zr_ s a1 e1 200=q at*
  obtain⟨n,a2,e2⟩:=q
  simp only
  refine kn ?_
  refine ko @zT_ ?_
  first|with_reducible refine ks [] @zT_ ?_|refine kp @zT_ ?_
  refine Ow.callFV rfl Tryz.call60 (fun w' hw'=>j5_ bw s a2 e2 w' (hw'.has _ _ (List.mem_cons_of_mem _ List.mem_cons_self))) ?_
  refine ko @zT_ ?_
  first|with_reducible refine ks [] @zT_ ?_|refine kp @zT_ ?_
  refine⟨_,(ke @zT_), ?_⟩
  exact⟨WX_ trivial,rfl,rfl⟩
 ·have d1: (x !=magB)=true:=bne_iff_ne.2 hm
  unfold magB at d1
  rw[if_neg hm]
  refine ko (And.intro @zT_ @d1) ?_
  first|with_reducible refine ks [] (And.intro @zT_ @d1) ?_|refine kp (And.intro @zT_ @d1) ?_
  refine⟨_,(ke @zT_), ?_⟩
  exact⟨WX_ trivial,rfl,rfl⟩
structure RdG where
 lab:Nat
 l:List PartL
 sp:List Nat
 a:Nat
 e:Int
 v1:Value
 v2:Value
 b4:Nat
 q:PartL
 D1:zb_
 D2:zb_
 DG:zb_
def RdJ (s:List UInt8) (n a0:Nat) (e0:Int) (sz:Nat) (g:RdG):Prop:=
 sz≤g.b4∧New sz g.D1∧New sz g.D2∧New sz g.DG∧Gr g.D1 126 3 g.v1 g.l.length (g.l.map zs_).flatten∧Gr g.D2 3 1 g.v2 g.sp.length (g.sp.map kf_).flatten∧g.sp.length=g.l.length∧g.a≤s.length∧g.l.length≤n∧
  ((g.lab=1∧z7_ s n 0 a0 e0=(g.l++ (z7_ s (n - g.l.length) g.l.length g.a g.e).1,g.sp++ (z7_ s (n - g.l.length) g.l.length g.a g.e).2.1,(z7_ s (n - g.l.length) g.l.length g.a g.e).2.2))∨
  (g.lab=0∧z7_ s n 0 a0 e0=(g.l,g.sp,g.a,g.e)))
def RdL (g:RdG):Nat:=match g.lab with
 |1=>1
 |_=>0
def RdH (br bw:Nat) (s:List UInt8) (g:RdG):zb_:=(br,prO (vp bw 0) g.v1 g.v2):: (bw,wrO s g.a g.e):: (g.b4, .cells (zs_ g.q).toArray 126 (0,0)):: (g.D1++ (g.D2++g.DG))
def anc_ (s:List UInt8) (n a0:Nat) (e0:Int) (br bw:Nat) (v:Value) (D:zb_):Prop:=
 v= .tuple #[]∧ ∃v1 v2 D',D=(br,prO (vp bw 0) v1 v2):: (bw,wrO s (z7_ s n 0 a0 e0).2.2.1 (z7_ s n 0 a0 e0).2.2.2)::D'∧
  GrI D' 126 3 v1 (z7_ s n 0 a0 e0).1.length ((z7_ s n 0 a0 e0).1.map zs_).flatten∧GrI D' 3 1 v2 (z7_ s n 0 a0 e0).2.1.length ((z7_ s n 0 a0 e0).2.1.map kf_).flatten
theorem aef_ (br bw:Nat) (s:List UInt8) (n a0:Nat) (e0:Int) (w:World) (hs:s.length<9223372036854775808) (hn:n≤1000000) (ha:a0≤s.length) (hne:br≠bw) (ho:w.heap[br]? =some (prO (vp bw 0) (.slice none 0 0) (.slice none 0 0))) (hr:w.heap[bw]? =some (wrO s a0 e0)):
  Rets Tryz.prog 37 #[vp br 0,vi n] w (XS w [(br,prO (vp bw 0) (.slice none 0 0) (.slice none 0 0)),(bw,wrO s a0 e0)] (anc_ s n a0 e0 br bw)):=by
 have hbr:br<w.heap.size:=(Array.getElem?_eq_some_iff.1 ho).1
 have hbw:bw<w.heap.size:=(Array.getElem?_eq_some_iff.1 hr).1
 refine Rets.enterX Tryz.func37 rfl (rs:= []) Tryz.results37 Tryz.ntmps37 (XI_ ho hr) (by simp[keys,hne]) ?_
 refine kf ?_
 first|with_reducible refine ks [] @zT_ ?_|refine kp @zT_ ?_
 refine Cw.scopeL (G:=RdG) (fun g=>RdL g) [4,5,6,7,8,9,10,11,12,13,14,15,16,17,18,19,20,21,22,23,24,25,26,27,28,29,30,31,32,33,34,35,36,37,38,39,40,41,42,43,44,45,46,47,48,49,50,51,52,53,54,55,56,57,58,59,60,61,62,63,64,65,66] (fun g=> [(4,vp g.b4 0)]) (fun g=>RdH br bw s g) (fun g=>RdJ s n a0 e0 w.heap.size g) (fun g=>(if g.lab=1 then n - g.l.length+1 else 0)) ?_ ?_ ?_
 ·intro g
  unfold RdL
  split<;>rfl
 ·intro g j hg
  obtain⟨lab,l,sp,a,e,v1,v2,b4,q,D1,D2,DG⟩:=g
  obtain⟨hw4,hN1,hN2,hNG,hG1,hG2,hsl,hal,hln,hg⟩:=hg
  simp only at hw4 hN1 hN2 hNG hG1 hG2 hsl hal hln
  have hNr:New w.heap.size (D1++ (D2++DG)):=hN1.app (hN2.app hNG)
  have l1:=hG1.len
  rcases hg with hg|hg
  ·obtain⟨hlab,hpr⟩:=hg
   simp only at hlab
   subst hlab
   simp only[RdL,RdH] at hpr ⊢
   by_cases hlen:l.length=n
   ·have d1: ((l.length:Int)==(n:Int))=true:=by rw[hlen];exact beq_self_eq_true _
    simp only[xu_,Zk_,Bool.or_false,Bool.false_or,Bool.or_true,Bool.true_or,Nat.reduceBEq,beq_self_eq_true, ↓reduceIte,Bool.false_eq_true]
    refine kv ?_
    try with_reducible refine qo_ ?_
    first|with_reducible refine ks [] (And.intro @zT_ (And.intro @l1 (@d1))) ?_|refine kp (And.intro @zT_ (And.intro @l1 (@d1))) ?_
    refine Jump.mk ⟨0,l,sp,a,e,v1,v2,b4,q,D1,D2,DG⟩ rfl (by show 0<n - l.length+1;omega) ⟨hw4,hN1,hN2,hNG,hG1,hG2,hsl,hal,hln, .inr ⟨rfl, ?_⟩⟩ rfl rfl
    rw[hpr,hlen,Nat.sub_self]
    simp[z7_]
   ·have d1: ((l.length:Int)==(n:Int))=false:=beq_eq_false_iff_ne.2 (by omega)
    simp only[xu_,Zk_,Bool.or_false,Bool.false_or,Bool.or_true,Bool.true_or,Nat.reduceBEq,beq_self_eq_true, ↓reduceIte,Bool.false_eq_true]
    refine kv ?_
    try with_reducible refine qo_ ?_
    first|with_reducible refine ks [1000007,9] (And.intro @zT_ (And.intro @l1 (@d1))) ?_|refine kp (And.intro @zT_ (And.intro @l1 (@d1))) ?_
    refine Ow.callFV rfl Tryz.call61 (fun w' hw'=>aa7_ bw s a e w' (hw'.has _ _ (List.mem_cons_of_mem _ List.mem_cons_self))) ?_
    refine ko @zT_ ?_
    first|with_reducible refine ks [] @zT_ ?_|refine kp @zT_ ?_
    have hle1:=qd_ (s:=s) (a:=a) (e:=e) (most:=200) hal
    have hm1:=qV_ (s:=s) (a:=a) (e:=e) (most:=200) (by omega)
    refine Ow.callM rfl rfl Tryz.call59 (by simp[keys]) (fun w' hw'=>wl_ bw s a e 200 w' hal hs (hw'.has _ _ (List.mem_cons_of_mem _ List.mem_cons_self))) ?_
    have hk:n - l.length=(n - (l.length+1))+1:=by omega
    rw[hk] at hpr
    have hpc:vQ_ s l.length a e=(⟨decide (0< (zr_ s a e 200).1),if 0< (zr_ s a e 200).1 then((l.length:Nat):Int) - (zr_ s a e 200).1 else 0,(zS_ s (zr_ s a e 200).2.1 (zr_ s a e 200).2.2 65536).1⟩,(zS_ s (zr_ s a e 200).2.1 (zr_ s a e 200).2.2 65536).2):=rfl
    generalize zr_ s a e 200=x at*
    obtain⟨F,a1,e1⟩:=x
    simp only at hle1 hm1 hpc ⊢
    have hle2:=xL_ (s:=s) (a:=a1) (e:=e1) (most:=65536) hle1.2
    refine kn ?_
    refine ko @zT_ ?_
    first|with_reducible refine ks [] @zT_ ?_|refine kp @zT_ ?_
    refine Ow.callM rfl rfl Tryz.call62 (by simp[keys]) (fun w' hw'=>WA_ bw s a1 e1 65536 w' hle1.2 hs (hw'.has _ _ (List.mem_cons_of_mem _ List.mem_cons_self))) ?_
    generalize zS_ s a1 e1 65536=x at*
    obtain⟨t,a2,e2⟩:=x
    simp only at hle2 hpc ⊢
    refine kn ?_
    refine ko @zT_ ?_
    refine Ow.build (.agg (zs_ ⟨false,0,t⟩).toArray) rfl (Qt_ t) ?_
    have hst:=xk_ ⟨false,0,t⟩ q 126
    have hb4r:b4≠br:=by omega
    have hb4w:b4≠bw:=by omega
    refine ko (And.intro @zT_ @hst) ?_
    first|with_reducible refine ks [] @zT_ ?_|refine kp @zT_ ?_
    refine Ow.callFV rfl Tryz.call60 (fun w' hw'=>j5_ bw s a2 e2 w' (hw'.has _ _ (List.mem_cons_of_mem _ List.mem_cons_self))) ?_
    rw[z7_,hpc] at hpr
    simp only at hpr
    by_cases he:e2=0
    ·subst he
     rw[if_pos rfl] at hpr
     have d2: ((0:Int) !=0)=false:=rfl
     refine ko (And.intro @zT_ @d2) ?_
     obtain⟨p,hp⟩: ∃p,p=(⟨decide (0<F),if 0<F then((l.length:Nat):Int) - F else 0,t⟩:PartL):=⟨_,rfl⟩
     rw[←hp] at hpr
     refine Cw.cut (G:=PartL) 67 (fun g=> [(0,vp br 0),(1,vi n),(2,undef),(3,undef),(4,vp b4 0),(6,vi a)]) (fun g=>(b4, .cells (zs_ g).toArray 126 (0,0)):: (br,prO (vp bw 0) v1 v2):: (bw,wrO s a2 0):: (D1++ (D2++DG))) (fun g=>g=p) ?_ ?_
     ·refine Cw.permL (M:=(b4, .cells (zs_ ⟨false,0,t⟩).toArray 126 (0,0)):: (br,prO (vp bw 0) v1 v2):: (bw,wrO s a2 0):: (D1++ (D2++DG))) (by classical exact List.perm_iff_count.2 fun a=>by simp only[List.count_append,List.count_cons,List.count_nil]<;>omega) ?_
      by_cases hF:0<F
      ·have d3:decide ((0:Int)<F)=true:=decide_eq_true hF
       first|with_reducible refine ks [] (And.intro @zT_ @d3) ?_|refine kp (And.intro @zT_ @d3) ?_
       refine Cw.regionG [br] [10] 11 (by kernel_rfl) rfl ?_
       refine kyc ?_
       refine OwG.run [0,1,2,3,4,5,6,7] [true,true,true,true,true,true,true,true,false,false,false] 3 rfl (by kernel_rfl) (by kernel_rfl) fun k hk=> ?_
       refine kya ?_
       refine kp (And.intro @zT_ (And.intro @Md.next_sofnil (@l1))) ?_
       (with_reducible refine hk _ _ _ ?_);clear hk k
       refine OwG.one 8 _ (by kernel_rfl) rfl ?_
       refine ko @zT_ ?_
       refine⟨(fun r hr=>by rw[List.mem_singleton] at hr;subst hr;simp(disch:=omega) only[zp_,zh_]), ?_⟩
       refine OwG.rest [9,10] rfl (by kernel_rfl) (by kernel_rfl) ?_
       refine kya ?_
       refine kq @zT_ ?_
       refine Ow.store rfl rfl rfl (ke @zT_) ?_
       refine ko @zT_ ?_
       refine CutM.mk _ ?_ rfl rfl
       rw[hp,decide_eq_true hF,if_pos hF]
      ·have d3:decide ((0:Int)<F)=false:=decide_eq_false hF
       first|with_reducible refine ks [] (And.intro @zT_ @d3) ?_|refine kp (And.intro @zT_ @d3) ?_
       refine CutM.mk _ ?_ rfl rfl
       rw[hp,decide_eq_false hF,if_neg hF]
     ·intro g j hg
      simp only[al1_,alR_,pin,qu_,qv_,Nat.reduceAdd]
      subst hg
      clear hp
      generalize hpp:g=p at*
      obtain⟨O4,hO4⟩: ∃O,O=Obj.cells (zs_ p).toArray 126 (0,0):=⟨_,rfl⟩
      first|with_reducible refine ks [] @zT_ ?_|refine kp @zT_ ?_
      refine Cw.regionG [br,b4] [18,21] 22 (by kernel_rfl) rfl ?_
      refine kyc ?_
      refine OwG.run [0,1,2,3,4,5,6,9,10,11,12,13] [true,true,true,true,true,true,true,false,false,true,true,true,true,true,false,false,false,false,false,false,false,false] 10 rfl (by kernel_rfl) (by kernel_rfl) fun k hk=> ?_
      refine kya ?_
      refine kp (And.intro @zT_ @Md.next_sofnil) ?_
      (with_reducible refine hk _ _ _ ?_);clear hk k
      rw[←hO4]
      refine OwG.two 7 14 _ _ (by kernel_rfl) rfl rfl ?_ ?_
      ·refine Ow.buildSlice (e:=126) (zs_ p).toArray rfl rfl (qa_ (cs:=zs_ p) Tryz.underlying77 Tryz.ag126 x6_ (by decide) rfl) fun ba hba hwa=> ?_
       with_reducible refine Ow.nil ?_
       refine⟨qh_ (by simp[keys]), ?_⟩
       refine kyb ?_
       refine OwG.two 8 14 _ _ (by kernel_rfl) rfl rfl ?_ ?_
       ·refine Ow.permL (M:=D1++ ((b4,O4):: (br,prO (vp bw 0) v1 v2):: (bw,wrO s a2 0):: (D2++ (DG++ [(ba, .cells (zs_ p).toArray 126 (0,0))])))) (by classical exact List.perm_iff_count.2 fun a=>by simp only[List.count_append,List.count_cons,List.count_nil]<;>omega) ?_
        refine Ow.appendXG (e:=126) (k:=1) (new:=zs_ p) (X:=D1) v1 rfl rfl rfl rfl Tryz.underlying77 Tryz.ag126 (by kernel_rfl) x6_ (by rw[jo_];rfl) Tryz.underlying77 (by intro k h;cases h) hG1 (fun w' hw'=>AppX.one1 (hw'.has ba (.cells (zs_ p).toArray 126 (0,0)) (by simp)) (jC_ _) (kT_ _)) (by omega) (fun B4 v4 D4 hA4 hB4 hG4 hk41 hk42 hlk4=> ?_)
        have hN4:New w.heap.size D4:=New.of_le fun q hq=>by
         rcases hk42 q hq with h|h
         ·exact hN1.le q h
         ·omega
        refine Ow.permL (M:=(b4,O4):: (br,prO (vp bw 0) v1 v2):: (bw,wrO s a2 0):: (D4++ (D2++ (DG++ [(ba, .cells (zs_ p).toArray 126 (0,0))])))) (by classical exact List.perm_iff_count.2 fun a=>by simp only[List.count_append,List.count_cons,List.count_nil]<;>omega) ?_
        with_reducible refine Ow.nil ?_
        refine⟨(fun r hr=>by simp only[List.mem_cons,List.not_mem_nil,or_false] at hr;rcases hr with rfl|rfl<;>simp(disch:=omega) only[List.cons_append,List.nil_append,zp_,zh_]), ?_⟩
        refine kyb ?_
        refine OwG.one 14 _ (by kernel_rfl) rfl ?_
        refine Ow.buildSlice (e:=3) #[vi a] rfl rfl (by kernel_rfl) fun bc hbc hwc=> ?_
        with_reducible refine Ow.nil ?_
        refine⟨qh_ (by simp[keys]), ?_⟩
        refine kyb ?_
        refine OwG.permL (M:=(b4,O4):: (br,prO (vp bw 0) v1 v2):: (bw,wrO s a2 0):: (D4++ (D2++ (DG++ [(ba, .cells (zs_ p).toArray 126 (0,0)),(bc, .cells #[vi a] 3 (0,0))])))) (by classical exact List.perm_iff_count.2 fun a=>by simp only[List.count_append,List.count_cons,List.count_nil]<;>omega) (fun r hr=>by simp only[List.mem_cons,List.not_mem_nil,or_false] at hr;rcases hr with rfl|rfl<;>simp(disch:=omega) only[List.cons_append,List.nil_append,zp_,zh_]) ?_
        refine OwG.rest [15,16,17,18,19,20,21] rfl (by kernel_rfl) (by kernel_rfl) ?_
        refine kya ?_
        refine Ow.softA ?_
        refine Ow.permL (M:=D2++ ((b4,O4):: (br,prO (vp bw 0) v1 v2):: (bw,wrO s a2 0):: (D4++ (DG++ [(ba, .cells (zs_ p).toArray 126 (0,0)),(bc, .cells #[vi a] 3 (0,0))])))) (by classical exact List.perm_iff_count.2 fun a=>by simp only[List.count_append,List.count_cons,List.count_nil]<;>omega) ?_
        refine Ow.appendXG (e:=3) (k:=1) (new:=kf_ a) (X:=D2) v2 rfl rfl rfl rfl Tryz.underlying47 (id (by kernel_rfl):z3_ Tryz.prog 3=some (false,1)) (by kernel_rfl) (id (by kernel_rfl):zG_ Tryz.prog 3=some (vi 0)) rfl Tryz.underlying47 (by intro k h;cases h) hG2 (fun w' hw'=>AppX.one1 (hw'.has bc (.cells #[vi a] 3 (0,0)) (by simp)) (j0_ a) rfl) (by omega) (fun B5 v5 D5 hA5 hB5 hG5 hk51 hk52 hlk5=> ?_)
        have hN5:New w.heap.size D5:=New.of_le fun q hq=>by
         rcases hk52 q hq with h|h
         ·exact hN2.le q h
         ·omega
        refine Ow.permL (M:=(br,prO (vp bw 0) v1 v2):: (bw,wrO s a2 0):: (b4,O4):: (D4++ (D5++ (DG++ [(ba, .cells (zs_ p).toArray 126 (0,0)),(bc, .cells #[vi a] 3 (0,0))])))) (by classical exact List.perm_iff_count.2 fun a=>by simp only[List.count_append,List.count_cons,List.count_nil]<;>omega) ?_
        with_reducible refine Ow.nil ?_
        refine⟨(fun r hr=>by simp only[List.mem_cons,List.not_mem_nil,or_false] at hr;rcases hr with rfl|rfl<;>simp(disch:=omega) only[zp_,zh_]), ?_⟩
        have st4: ∀a,zi_ (some (a,1)) (some (prO (vp bw 0) v1 v2)) 1 v4=some (prO (vp bw 0) v4 v2):=fun a=>Qn_ _ v1 v2 v4 a hG4.cell
        have st5: ∀a,zi_ (some (a,1)) (some (prO (vp bw 0) v4 v2)) 2 v5=some (prO (vp bw 0) v4 v5):=fun a=>Qy_ _ v4 v2 v5 a hG5.cell
        refine kq @zT_ ?_
        refine Ow.store rfl rfl rfl (ke (And.intro @zT_ @st4)) ?_
        refine ko (And.intro @zT_ @st5) ?_
        subst hO4
        refine Jump.mk ⟨1,l++ [p],sp++ [a],a2,0,v4,v5,b4,p,D4,D5,DG++ [(ba, .cells (zs_ p).toArray 126 (0,0)),(bc, .cells #[vi a] 3 (0,0))]⟩ rfl (by show n - (l++ [p]).length+1<n - l.length+1;simp;omega) ⟨hw4,hN4,hN5,hNG.app ⟨hwa,hwc,trivial⟩,by simpa using hG4,by simpa using hG5,by simp[hsl],hle2.2,by simp;omega, .inl ⟨rfl, ?_⟩⟩ rfl rfl
        rw[hpr]
        simp
       ·refine Ow.buildSlice (e:=3) #[vi a] rfl rfl (by kernel_rfl) fun bc hbc hwc=> ?_
        with_reducible refine Ow.nil ?_
        refine⟨qh_ (by simp[keys]), ?_⟩
        refine kyb ?_
        refine OwG.one 8 _ (by kernel_rfl) rfl ?_
        refine Ow.permL (M:=D1++ ((b4,O4):: (br,prO (vp bw 0) v1 v2):: (bw,wrO s a2 0):: (D2++ (DG++ [(ba, .cells (zs_ p).toArray 126 (0,0)),(bc, .cells #[vi a] 3 (0,0))])))) (by classical exact List.perm_iff_count.2 fun a=>by simp only[List.count_append,List.count_cons,List.count_nil]<;>omega) ?_
        refine Ow.appendXG (e:=126) (k:=1) (new:=zs_ p) (X:=D1) v1 rfl rfl rfl rfl Tryz.underlying77 Tryz.ag126 (by kernel_rfl) x6_ (by rw[jo_];rfl) Tryz.underlying77 (by intro k h;cases h) hG1 (fun w' hw'=>AppX.one1 (hw'.has ba (.cells (zs_ p).toArray 126 (0,0)) (by simp)) (jC_ _) (kT_ _)) (by omega) (fun B4 v4 D4 hA4 hB4 hG4 hk41 hk42 hlk4=> ?_)
        have hN4:New w.heap.size D4:=New.of_le fun q hq=>by
         rcases hk42 q hq with h|h
         ·exact hN1.le q h
         ·omega
        refine Ow.permL (M:=(b4,O4):: (br,prO (vp bw 0) v1 v2):: (bw,wrO s a2 0):: (D4++ (D2++ (DG++ [(ba, .cells (zs_ p).toArray 126 (0,0)),(bc, .cells #[vi a] 3 (0,0))])))) (by classical exact List.perm_iff_count.2 fun a=>by simp only[List.count_append,List.count_cons,List.count_nil]<;>omega) ?_
        with_reducible refine Ow.nil ?_
        refine⟨(fun r hr=>by simp only[List.mem_cons,List.not_mem_nil,or_false] at hr;rcases hr with rfl|rfl<;>simp(disch:=omega) only[List.cons_append,List.nil_append,zp_,zh_]), ?_⟩
        refine kyb ?_
        refine OwG.permL (M:=(b4,O4):: (br,prO (vp bw 0) v1 v2):: (bw,wrO s a2 0):: (D4++ (D2++ (DG++ [(ba, .cells (zs_ p).toArray 126 (0,0)),(bc, .cells #[vi a] 3 (0,0))])))) (by classical exact List.perm_iff_count.2 fun a=>by simp only[List.count_append,List.count_cons,List.count_nil]<;>omega) (fun r hr=>by simp only[List.mem_cons,List.not_mem_nil,or_false] at hr;rcases hr with rfl|rfl<;>simp(disch:=omega) only[List.cons_append,List.nil_append,zp_,zh_]) ?_
        refine OwG.rest [15,16,17,18,19,20,21] rfl (by kernel_rfl) (by kernel_rfl) ?_
        refine kya ?_
        refine Ow.softA ?_
        refine Ow.permL (M:=D2++ ((b4,O4):: (br,prO (vp bw 0) v1 v2):: (bw,wrO s a2 0):: (D4++ (DG++ [(ba, .cells (zs_ p).toArray 126 (0,0)),(bc, .cells #[vi a] 3 (0,0))])))) (by classical exact List.perm_iff_count.2 fun a=>by simp only[List.count_append,List.count_cons,List.count_nil]<;>omega) ?_
        refine Ow.appendXG (e:=3) (k:=1) (new:=kf_ a) (X:=D2) v2 rfl rfl rfl rfl Tryz.underlying47 (id (by kernel_rfl):z3_ Tryz.prog 3=some (false,1)) (by kernel_rfl) (id (by kernel_rfl):zG_ Tryz.prog 3=some (vi 0)) rfl Tryz.underlying47 (by intro k h;cases h) hG2 (fun w' hw'=>AppX.one1 (hw'.has bc (.cells #[vi a] 3 (0,0)) (by simp)) (j0_ a) rfl) (by omega) (fun B5 v5 D5 hA5 hB5 hG5 hk51 hk52 hlk5=> ?_)
        have hN5:New w.heap.size D5:=New.of_le fun q hq=>by
         rcases hk52 q hq with h|h
         ·exact hN2.le q h
         ·omega
        refine Ow.permL (M:=(br,prO (vp bw 0) v1 v2):: (bw,wrO s a2 0):: (b4,O4):: (D4++ (D5++ (DG++ [(ba, .cells (zs_ p).toArray 126 (0,0)),(bc, .cells #[vi a] 3 (0,0))])))) (by classical exact List.perm_iff_count.2 fun a=>by simp only[List.count_append,List.count_cons,List.count_nil]<;>omega) ?_
        with_reducible refine Ow.nil ?_
        refine⟨(fun r hr=>by simp only[List.mem_cons,List.not_mem_nil,or_false] at hr;rcases hr with rfl|rfl<;>simp(disch:=omega) only[zp_,zh_]), ?_⟩
        have st4: ∀a,zi_ (some (a,1)) (some (prO (vp bw 0) v1 v2)) 1 v4=some (prO (vp bw 0) v4 v2):=fun a=>Qn_ _ v1 v2 v4 a hG4.cell
        have st5: ∀a,zi_ (some (a,1)) (some (prO (vp bw 0) v4 v2)) 2 v5=some (prO (vp bw 0) v4 v5):=fun a=>Qy_ _ v4 v2 v5 a hG5.cell
        refine kq @zT_ ?_
        refine Ow.store rfl rfl rfl (ke (And.intro @zT_ @st4)) ?_
        refine ko (And.intro @zT_ @st5) ?_
        subst hO4
        refine Jump.mk ⟨1,l++ [p],sp++ [a],a2,0,v4,v5,b4,p,D4,D5,DG++ [(ba, .cells (zs_ p).toArray 126 (0,0)),(bc, .cells #[vi a] 3 (0,0))]⟩ rfl (by show n - (l++ [p]).length+1<n - l.length+1;simp;omega) ⟨hw4,hN4,hN5,hNG.app ⟨hwa,hwc,trivial⟩,by simpa using hG4,by simpa using hG5,by simp[hsl],hle2.2,by simp;omega, .inl ⟨rfl, ?_⟩⟩ rfl rfl
        rw[hpr]
        simp
      ·refine Ow.buildSlice (e:=3) #[vi a] rfl rfl (by kernel_rfl) fun bc hbc hwc=> ?_
       with_reducible refine Ow.nil ?_
       refine⟨qh_ (by simp[keys]), ?_⟩
       refine kyb ?_
       refine OwG.one 7 _ (by kernel_rfl) rfl ?_
       refine Ow.buildSlice (e:=126) (zs_ p).toArray rfl rfl (qa_ (cs:=zs_ p) Tryz.underlying77 Tryz.ag126 x6_ (by decide) rfl) fun ba hba hwa=> ?_
       with_reducible refine Ow.nil ?_
       refine⟨qh_ (by simp[keys]), ?_⟩
       refine kyb ?_
       refine OwG.one 8 _ (by kernel_rfl) rfl ?_
       refine Ow.permL (M:=D1++ ((b4,O4):: (br,prO (vp bw 0) v1 v2):: (bw,wrO s a2 0):: (D2++ (DG++ [(ba, .cells (zs_ p).toArray 126 (0,0)),(bc, .cells #[vi a] 3 (0,0))])))) (by classical exact List.perm_iff_count.2 fun a=>by simp only[List.count_append,List.count_cons,List.count_nil]<;>omega) ?_
       refine Ow.appendXG (e:=126) (k:=1) (new:=zs_ p) (X:=D1) v1 rfl rfl rfl rfl Tryz.underlying77 Tryz.ag126 (by kernel_rfl) x6_ (by rw[jo_];rfl) Tryz.underlying77 (by intro k h;cases h) hG1 (fun w' hw'=>AppX.one1 (hw'.has ba (.cells (zs_ p).toArray 126 (0,0)) (by simp)) (jC_ _) (kT_ _)) (by omega) (fun B4 v4 D4 hA4 hB4 hG4 hk41 hk42 hlk4=> ?_)
       have hN4:New w.heap.size D4:=New.of_le fun q hq=>by
        rcases hk42 q hq with h|h
        ·exact hN1.le q h
        ·omega
       refine Ow.permL (M:=(b4,O4):: (br,prO (vp bw 0) v1 v2):: (bw,wrO s a2 0):: (D4++ (D2++ (DG++ [(ba, .cells (zs_ p).toArray 126 (0,0)),(bc, .cells #[vi a] 3 (0,0))])))) (by classical exact List.perm_iff_count.2 fun a=>by simp only[List.count_append,List.count_cons,List.count_nil]<;>omega) ?_
       with_reducible refine Ow.nil ?_
       refine⟨(fun r hr=>by simp only[List.mem_cons,List.not_mem_nil,or_false] at hr;rcases hr with rfl|rfl<;>simp(disch:=omega) only[List.cons_append,List.nil_append,zp_,zh_]), ?_⟩
       refine kyb ?_
       refine OwG.permL (M:=(b4,O4):: (br,prO (vp bw 0) v1 v2):: (bw,wrO s a2 0):: (D4++ (D2++ (DG++ [(ba, .cells (zs_ p).toArray 126 (0,0)),(bc, .cells #[vi a] 3 (0,0))])))) (by classical exact List.perm_iff_count.2 fun a=>by simp only[List.count_append,List.count_cons,List.count_nil]<;>omega) (fun r hr=>by simp only[List.mem_cons,List.not_mem_nil,or_false] at hr;rcases hr with rfl|rfl<;>simp(disch:=omega) only[List.cons_append,List.nil_append,zp_,zh_]) ?_
       refine OwG.rest [15,16,17,18,19,20,21] rfl (by kernel_rfl) (by kernel_rfl) ?_
       refine kya ?_
       refine Ow.softA ?_
       refine Ow.permL (M:=D2++ ((b4,O4):: (br,prO (vp bw 0) v1 v2):: (bw,wrO s a2 0):: (D4++ (DG++ [(ba, .cells (zs_ p).toArray 126 (0,0)),(bc, .cells #[vi a] 3 (0,0))])))) (by classical exact List.perm_iff_count.2 fun a=>by simp only[List.count_append,List.count_cons,List.count_nil]<;>omega) ?_
       refine Ow.appendXG (e:=3) (k:=1) (new:=kf_ a) (X:=D2) v2 rfl rfl rfl rfl Tryz.underlying47 (id (by kernel_rfl):z3_ Tryz.prog 3=some (false,1)) (by kernel_rfl) (id (by kernel_rfl):zG_ Tryz.prog 3=some (vi 0)) rfl Tryz.underlying47 (by intro k h;cases h) hG2 (fun w' hw'=>AppX.one1 (hw'.has bc (.cells #[vi a] 3 (0,0)) (by simp)) (j0_ a) rfl) (by omega) (fun B5 v5 D5 hA5 hB5 hG5 hk51 hk52 hlk5=> ?_)
       have hN5:New w.heap.size D5:=New.of_le fun q hq=>by
        rcases hk52 q hq with h|h
        ·exact hN2.le q h
        ·omega
       refine Ow.permL (M:=(br,prO (vp bw 0) v1 v2):: (bw,wrO s a2 0):: (b4,O4):: (D4++ (D5++ (DG++ [(ba, .cells (zs_ p).toArray 126 (0,0)),(bc, .cells #[vi a] 3 (0,0))])))) (by classical exact List.perm_iff_count.2 fun a=>by simp only[List.count_append,List.count_cons,List.count_nil]<;>omega) ?_
       with_reducible refine Ow.nil ?_
       refine⟨(fun r hr=>by simp only[List.mem_cons,List.not_mem_nil,or_false] at hr;rcases hr with rfl|rfl<;>simp(disch:=omega) only[zp_,zh_]), ?_⟩
       have st4: ∀a,zi_ (some (a,1)) (some (prO (vp bw 0) v1 v2)) 1 v4=some (prO (vp bw 0) v4 v2):=fun a=>Qn_ _ v1 v2 v4 a hG4.cell
       have st5: ∀a,zi_ (some (a,1)) (some (prO (vp bw 0) v4 v2)) 2 v5=some (prO (vp bw 0) v4 v5):=fun a=>Qy_ _ v4 v2 v5 a hG5.cell
       refine kq @zT_ ?_
       refine Ow.store rfl rfl rfl (ke (And.intro @zT_ @st4)) ?_
       refine ko (And.intro @zT_ @st5) ?_
       subst hO4
       refine Jump.mk ⟨1,l++ [p],sp++ [a],a2,0,v4,v5,b4,p,D4,D5,DG++ [(ba, .cells (zs_ p).toArray 126 (0,0)),(bc, .cells #[vi a] 3 (0,0))]⟩ rfl (by show n - (l++ [p]).length+1<n - l.length+1;simp;omega) ⟨hw4,hN4,hN5,hNG.app ⟨hwa,hwc,trivial⟩,by simpa using hG4,by simpa using hG5,by simp[hsl],hle2.2,by simp;omega, .inl ⟨rfl, ?_⟩⟩ rfl rfl
       rw[hpr]
       simp
    ·have d2: (e2 !=0)=true:=bne_iff_ne.2 he
     rw[if_neg he] at hpr
     refine ko (And.intro @zT_ @d2) ?_
     first|with_reducible refine ks [] (And.intro @zT_ @d2) ?_|refine kp (And.intro @zT_ @d2) ?_
     refine Jump.mk ⟨0,l,sp,a2,e2,v1,v2,b4,_,D1,D2,DG⟩ rfl (by show 0<n - l.length+1;omega) ⟨hw4,hN1,hN2,hNG,hG1,hG2,hsl,hle2.2,hln, .inr ⟨rfl, ?_⟩⟩ rfl rfl
     rw[hpr]
     simp
  ·obtain⟨hlab,hpr⟩:=hg
   simp only at hlab
   subst hlab
   simp only[RdL,RdH] at hpr ⊢
   simp only[xu_,Zk_,Bool.or_false,Bool.false_or,Bool.or_true,Bool.true_or,Nat.reduceBEq,beq_self_eq_true, ↓reduceIte,Bool.false_eq_true]
   refine kv ?_
   try with_reducible refine qo_ ?_
   first|with_reducible refine ks [] @zT_ ?_|refine kp @zT_ ?_
   refine⟨_,(ke @zT_), ?_⟩
   refine⟨WX_ ⟨hw4,hNr⟩,rfl,v1,v2,_,by rw[hpr], ?_, ?_⟩
   ·rw[hpr];exact Gr.i hG1 fun c hc=>by simp[hc]
   ·rw[hpr];exact Gr.i hG2 fun c hc=>by simp[hc]
 ·intro key
  repeat first|with_reducible refine ks [999999] @zT_ ?_|refine kw @zT_ ?_
  refine Ow.alloc rfl rfl x6_ fun b4 hb4 hw4=> ?_
  simp only[za_,List.nil_append,List.cons_append]
  refine ko @zT_ ?_
  repeat first|with_reducible refine ks [999999] @zT_ ?_|refine kw @zT_ ?_
  have key0:=fun f'=>key (⟨1,[],[],a0,e0, .slice none 0 0, .slice none 0 0,b4,qi_,[],[],[]⟩) f'
  simp only[xu_,Zk_,Bool.or_false,Bool.false_or,Bool.or_true,Bool.true_or,Nat.reduceBEq,beq_self_eq_true, ↓reduceIte,Bool.false_eq_true] at key0
  clear key
  refine Cw.label ?_
  refine key0 _ ⟨hw4,trivial,trivial,trivial,Gr.nl,Gr.nl,rfl,ha,Nat.zero_le _, .inl ⟨rfl, ?_⟩⟩ ?_
  ·rfl
  ·rfl
end Go.Proofs
end
section
open Go Go.Proofs Go.Sx Go.StP Go.Flo
namespace Go.Proofs
set_option maxRecDepth 10000
set_option maxHeartbeats 400000
set_option linter.unusedSimpArgs false
abbrev ani_ (w:World) (v:Value) (l:List Nat):Prop:=SlV 1 kf_ 0 w v l
abbrev ObSl (w:World) (v:Value) (l:List ObL):Prop:=SlV 2 obC ob0 w v l
def PackIn (w:World) (bp:Nat) (l:List PartL) (sp:List Nat) (ids:List IdL) (os:List ObL):Prop:=
 ∃v0 v1 v2 v3,w.heap[bp]? =some (pkO v0 v1 v2 v3)∧Zm_ w v0 l∧ani_ w v1 sp∧IdS w v2 ids∧ObSl w v3 os
def PackD (D:zb_) (bp:Nat) (l:List PartL) (sp:List Nat) (ids:List IdL) (os:List ObL):Prop:=
 ∃v0 v1 v2 v3,(bp,pkO v0 v1 v2 v3)∈D∧GrI D 126 3 v0 l.length (l.map zs_).flatten∧GrI D 3 1 v1 sp.length (sp.map kf_).flatten∧GrI D 42 32 v2 ids.length (ids.map jd_).flatten∧GrI D 38 2 v3 os.length (os.map obC).flatten
theorem PackD.mono {D D':zb_} {bp:Nat} {l:List PartL} {sp:List Nat} {ids:List IdL} {os:List ObL} (h:PackD D bp l sp ids os) (hD: ∀p,p∈D→p∈D'):PackD D' bp l sp ids os:=by
 obtain⟨v0,v1,v2,v3,h1,h2,h3,h4,h5⟩:=h
 exact⟨v0,v1,v2,v3,hD _ h1,h2.mono hD,h3.mono hD,h4.mono hD,h5.mono hD⟩
theorem PackD.inW {w0 w:World} {D L:zb_} {bp:Nat} {l:List PartL} {sp:List Nat} {ids:List IdL} {os:List ObL} (h:PackD D bp l sp ids os) (hD: ∀p,p∈D→p∈L) (hw:Hp w0 L w):PackIn w bp l sp ids os:=by
 obtain⟨v0,v1,v2,v3,h1,h2,h3,h4,h5⟩:=h.mono hD
 exact⟨v0,v1,v2,v3,hw.has _ _ h1,h2.slV hw rfl rfl jC_,h3.slV hw rfl rfl j0_,h4.slV hw rfl rfl zX_,h5.slV hw rfl rfl X2_⟩
theorem PackIn.old {w w':World} {L:zb_} {bp:Nat} {l:List PartL} {sp:List Nat} {ids:List IdL} {os:List ObL} (h:PackIn w bp l sp ids os) (hw:Hp w L w') (hn:New w.heap.size L):PackIn w' bp l sp ids os:=by
 obtain⟨v0,v1,v2,v3,h1,h2,h3,h4,h5⟩:=h
 exact⟨v0,v1,v2,v3,by rw[hw.old bp (Array.getElem?_eq_some_iff.1 h1).1 (hn.not (Array.getElem?_eq_some_iff.1 h1).1)];exact h1,h2.oldN hw hn,h3.oldN hw hn,h4.oldN hw hn,h5.oldN hw hn⟩
theorem am8_ (b o:Nat):q0_ Tryz.prog .eql 52 (vp b o) (.pointer none)=some (.bool false):=by
 simp[q0_,eqX,qy_,qr_,Tryz.underlying52,vp]
set_option linter.defProp false
def aji_:=And.intro (And.intro (And.intro (@zv_) (And.intro (@zu_) (@Xy_))) (And.intro (@abh_) (And.intro (@abm_) (@abg_)))) (And.intro (And.intro (@am8_) (And.intro (@jB_) (@jJ_))) (And.intro (@jx_) (And.intro (@jW_) (@kq_))))
theorem af7_ (bp:Nat) (l:List PartL) (sp:List Nat) (ids:List IdL) (os:List ObL) (w:World) (h:PackIn w bp l sp ids os):
  Rets Tryz.prog 18 #[vp bp 0] w (fun v D=>v=vi l.length∧D= []):=by
 obtain⟨v0,v1,v2,v3,h1,h2,h3,h4,h5⟩:=h
 have ln:=h2.len
 refine Rets.enterV Tryz.func18 rfl (rs:= [.tmp 2]) Tryz.results18 Tryz.ntmps18 ?_
 refine kf ?_
 first|with_reducible refine ks [] (And.intro @aji_ (And.intro @h1 (@ln))) ?_|refine kp (And.intro @aji_ (And.intro @h1 (@ln))) ?_
 refine⟨_,(ke @aji_),trivial, ?_⟩
 rfl
end Go.Proofs
end
section
open Go Go.Proofs Go.Sx Go.StP Go.Flo
namespace Go.Proofs
set_option maxRecDepth 10000
set_option maxHeartbeats 400000
set_option linter.unusedSimpArgs false
theorem GlobC.newP {w0 w:World} {L:zb_} (hg:GlobC w0) (h:Hp w0 L w) (hn:New w0.heap.size L):GlobC w:=
 hg.of h (hn.not (by obtain⟨e,f,h⟩:=hg;exact(Array.getElem?_eq_some_iff.1 h).1))
theorem zrPk:zG_ Tryz.prog 92=some (.agg #[.slice none 0 0, .slice none 0 0, .slice none 0 0, .slice none 0 0]):=id (by kernel_rfl)
theorem afF_ {w:World} {v0:Value} {l:List PartL} (hv:Zm_ w v0 l):buildV (xY_ Tryz.prog 92) (zG_ Tryz.prog 92) [(0,v0)]=some (.agg #[v0, .slice none 0 0, .slice none 0 0, .slice none 0 0]):=by
 rw[show xY_ Tryz.prog 92=some [(0,1),(1,1),(2,1),(3,1)] from id (by kernel_rfl),zrPk]
 obtain⟨b,off,c,arr,E,fz,hr,hc,⟨rfl,rfl,rfl⟩ | ⟨rfl,hb,hsz⟩⟩:=hv<;>rfl
theorem alB_ {α:Type} {m:Nat} {enc:α→List Value} {z:α} {w:World} {v:Value} {l:List α} (hv:SlV m enc z w v l) {b:Nat} (hb:slB v=some b):b<w.heap.size:=by
 obtain⟨bb,off,c,arr,E,fz,hr,hc,⟨rfl,-,-⟩ | ⟨rfl,h,-⟩⟩:=hv
 ·cases hb
 ·cases hb;exact(Array.getElem?_eq_some_iff.1 h).1
theorem wa_: ∀ (l:List PartL) (i g:Nat),g<l.length→qY_ i (l.take (g+1))=qY_ i (l.take g)++kJ_ (i+g) (l.getD g qi_)
 | [],_,_,h=>absurd h (Nat.not_lt_zero _)
 |p::r,i,0,_=>by simp[qY_]
 |p::r,i,g+1,h=>by
  have:=wa_ r (i+1) g (by simpa using h)
  rw[List.take_succ_cons,qY_,this,List.take_succ_cons,qY_,List.getD_cons_succ,List.append_assoc,show i+1+g=i+ (g+1) by omega]
def SmallP (l:List PartL):Prop:= ∀g,g<l.length→(l.getD g qi_).x.length≤17000000
theorem ac5_ {l:List PartL} {q:List IdL×List ObL} (h:fillV l=some q):SmallP l:=by
 unfold fillV at h
 cases ha:QI_ l with
 |error e=>rw[ha] at h;cases h
 |ok ts=>
  unfold QI_ at ha
  split at ha
  ·cases ha
  ·intro k hk
   have hp:=vn_ _ _ ha k hk
   unfold partV at hp
   cases hq:jU_ l (k:Nat) with
   |error e=>rw[hq] at hp;cases hp
   |ok p=>
    rw[hq] at hp
    change wF_ l p= .ok _ at hp
    have hpk: ∃r,p=k::r:=by
     rcases jQ_ hk hq with⟨rfl,-⟩ | ⟨b,q,rfl,-⟩
     ·exact⟨[],rfl⟩
     ·exact⟨q,rfl⟩
    obtain⟨r,rfl⟩:=hpk
    unfold wF_ at hp
    cases hf:wF_ l r with
    |error e=>rw[hf] at hp;cases hp
    |ok t=>
     rw[hf] at hp
     change(if(jl_ (l.getD k qi_) t).2=0 then _ else _)=_ at hp
     split at hp
     ·rename_i h0
      unfold jl_ at h0
      split at h0
      ·unfold j9_ at h0
       split at h0
       ·exact absurd (show(2:Int)=0 from h0) (by decide)
       ·rename_i p' hd;exact acc_ hd
      ·split at h0
       ·exact absurd (show(19:Int)=0 from h0) (by decide)
       ·omega
     ·cases hp
theorem SmallP.bnd {l:List PartL} (h:SmallP l):BndL l:=fun g hg=>Nat.lt_of_le_of_lt (h g hg) (by omega)
theorem acJ_ {i:Nat} {p:PartL} (h:p.x.length≤17000000): (kJ_ i p).length≤17000012:=by
 have h1:=zD_ (Zp_ i p)
 have h2:=zD_ (p.x.length:Int)
 unfold kJ_ js_
 rw[List.length_append,List.length_append]
 omega
theorem wO_ {l:List PartL} (h:SmallP l): ∀g,g≤l.length→(qY_ 0 (l.take g)).length≤g*17000012
 |0,_=>by simp[qY_]
 |g+1,hg=>by
  rw[wa_ l 0 g hg,List.length_append]
  have:=wO_ h g (by omega)
  have:=acJ_ (i:=0+g) (h g hg)
  omega
theorem afP_ {l:List PartL} {q:List IdL×List ObL} (h:fillV l=some q) {k:Nat} (hk:k<l.length) (hd: (l.getD k qi_).d=true):0≤ (l.getD k qi_).b∧(l.getD k qi_).b<k:=by
 unfold fillV at h
 cases ha:QI_ l with
 |error e=>rw[ha] at h;cases h
 |ok ts=>
  unfold QI_ at ha
  split at ha
  ·cases ha
  ·have hp:=vn_ _ _ ha k hk
   unfold partV at hp
   cases hq:jU_ l (k:Nat) with
   |error e=>rw[hq] at hp;cases hp
   |ok p=>
    rcases jQ_ hk hq with⟨-,hd',-⟩ | ⟨b,q,-,-,hb,hlt,-⟩
    ·rw[hd] at hd';cases hd'
    ·rw[hb];omega
structure PwG where
 k:Nat
 D:zb_
set_option linter.defProp false
def qs_:=And.intro (And.intro (And.intro (@zv_) (@zu_)) (And.intro (@Xy_) (And.intro (@vr_) (@vi_)))) (And.intro (And.intro (@vj_) (And.intro (@JS_) (@jo_))) (And.intro (@xk_) (And.intro (@Sx.tup2_0) (@Sx.tup2_1))))
theorem WZ_ (v0:Value) (l:List PartL) (w:World) (hv:Zm_ w v0 l) (hG:GlobE w) (hC:GlobC w) (hb:BndL l) (hl:l.length<1000000):
  Rets Tryz.prog 33 #[v0] w (fun v D=>v= .tuple #[vs (Qf_ l).1,vi (Qf_ l).2]∧D= []):=by
 have hgr:2<w.heap.size:=by obtain⟨e0,e1,f0,f1,h0,h1⟩:=hG;exact(Array.getElem?_eq_some_iff.1 h1).1
 obtain⟨b1,off,arr,E,fz,hr⟩:=hv.row
 have ln:=hv.len
 refine Rets.enterV Tryz.func33 rfl (rs:= [.tmp 2, .tmp 3]) Tryz.results33 Tryz.ntmps33 ?_
 refine kf ?_
 first|with_reducible refine ks [4,1000011] @qs_ ?_|refine kp @qs_ ?_
 refine Ow.build (.agg #[v0, .slice none 0 0, .slice none 0 0, .slice none 0 0]) rfl (afF_ hv) ?_
 refine ko @qs_ ?_
 refine Ow.box rfl rfl fun b4 hb4 hw4=> ?_
 simp only[zw_,zC_,zB_,za_,List.nil_append]
 refine Ow.permL (M:= [(b4,pkO v0 (.slice none 0 0) (.slice none 0 0) (.slice none 0 0))]) (List.Perm.refl _) ?_
 refine ko @qs_ ?_
 first|with_reducible refine ks [] @qs_ ?_|refine kp @qs_ ?_
 refine Ow.callX (Y:= []) (by simp) rfl rfl Tryz.call39 (fun w' hw' hX hn=>VK_ b4 v0 (.slice none 0 0) l w' (hv.oldN hw' ⟨hw4,trivial⟩) (hG.new hw' ⟨hw4,trivial⟩) hb hl (hX _ List.mem_cons_self) (fun h=>by have:=alB_ hv h;omega) (by omega)) (fun v13 D13 hC13 hS13=> ?_)
 have hN13:New w.heap.size D13:=jE_ hC13 ⟨hw4,trivial⟩
 rw[List.append_nil]
 unfold aaO_ at hS13
 unfold Qf_
 cases hf:fillV l with
 |none=>
  rw[hf] at hS13
  have hS13':v13= .bool false:=hS13
  subst hS13'
  refine ko @qs_ ?_
  first|with_reducible refine ks [] @qs_ ?_|refine kp @qs_ ?_
  refine⟨_,(ke @qs_),hN13, ?_⟩
  rfl
 |some q=>
  rw[hf] at hS13
  obtain⟨rfl,-⟩:=hS13
  have hx:=ac5_ hf
  have hll:l.length≤200:=by
   unfold fillV at hf
   cases ha:QI_ l with
   |error e=>rw[ha] at hf;cases hf
   |ok ts=>exact(abR_ ha).2.1
  refine ko @qs_ ?_
  refine Cw.forgetN [] (by exact hN13) (by intro p hp;simp only[List.mem_cons,List.not_mem_nil,or_false] at hp ⊢;all_goals (first| (rcases hp with rfl|hp<;>simp_all) | (subst hp;simp) |simp_all)) (by simp[keys]<;>omega) ?_
  first|with_reducible refine ks [] @qs_ ?_|refine kp @qs_ ?_
  refine Ow.alloc rfl rfl Tryz.zr122 fun b5 hb5 hw5=> ?_
  refine ko @qs_ ?_
  have hZ:BldAt b5 [] [(b5, .cells #[.pointer none, .slice none 0 0] 122 (0,0))]:=BldAt.zeroE b5 (zL_ _ _ _)
  refine Ow.buildSlice (e:=9) #[vs [83,80,75,49]] rfl rfl (by kernel_rfl) fun b15 hb15 hw15=> ?_
  have h515:b5<b15:=ze_ hb15 (by simp[keys])
  refine ko @qs_ ?_
  refine Ow.callX (Y:= [(b15, .cells #[vs [83,80,75,49]] 9 (0,0))]) (by simp) rfl rfl Tryz.call53 (fun w' hw' hX hn=>wI_ b5 [(b5, .cells #[.pointer none, .slice none 0 0] 122 (0,0))] [] _ b15 0 [[83,80,75,49]] _ _ _ w' hZ hX hn (StrS.lit [[83,80,75,49]] rfl rfl (hw'.has _ _ (List.mem_cons_of_mem _ List.mem_cons_self))) (fun _ hm=>by simp[keys] at hm;omega) (by simp) (by simp)) (fun v16 D16 hC16 hS16=> ?_)
  obtain⟨rfl,hB16⟩:=hS16
  have hN16:New w.heap.size D16:=jE_ hC16 ⟨hw5,trivial⟩
  refine ko @qs_ ?_
  first|with_reducible refine ks [] (And.intro @qs_ @ln) ?_|refine kp (And.intro @qs_ @ln) ?_
  refine Ow.buildSlice (e:=3) #[vi l.length] rfl rfl (by kernel_rfl) fun b19 hb19 hw19=> ?_
  refine ko @qs_ ?_
  rw[List.append_assoc]
  refine Ow.callX (Y:= [(b15, .cells #[vs [83,80,75,49]] 9 (0,0)),(b19, .cells #[vi l.length] 3 (0,0))]) (by simp) rfl rfl Tryz.call54 (fun w' hw' hX hn=>kL_ b5 D16 _ _ b19 0 [(l.length:Int)] _ _ _ w' hB16 hX hn (OneS.lit [(l.length:Int)] rfl rfl (hw'.has b19 (.cells #[vi l.length] 3 (0,0)) (by simp))) (fun _ hm=>Nat.lt_irrefl _ (ze_ hb19 (by rw[zd_];exact List.mem_append_left _ hm))) (by simp)) (fun v20 D20 hC20 hS20=> ?_)
  obtain⟨rfl,hB20⟩:=hS20
  rw[QN_] at hB20
  have hN20:New w.heap.size D20:=jE_ hC20 hN16
  have hB0:BldAt b5 (magB++ (jM_ (zO_ (l.length:Int))++qY_ 0 (l.take 0))) (D20++ [(b15, .cells #[vs [83,80,75,49]] 9 (0,0)),(b19, .cells #[vi l.length] 3 (0,0))]):=by
   have:=hB20.app (Y:= [(b15,Obj.cells #[vs [83,80,75,49]] 9 (0,0)),(b19, .cells #[vi l.length] 3 (0,0))])
   simpa [magB,qY_] using this
  refine ko @qs_ ?_
  first|with_reducible refine ks [] (And.intro @qs_ @ln) ?_|refine kp (And.intro @qs_ @ln) ?_
  have hnl:=zD_ (l.length:Int)
  refine Cw.loopG (G:=PwG) [24,25,26,27,7,6,8,28,29,30,31,32,33,34,35,36,37,38,39,40,41,23] (fun g=> [(23,vi g.k)]) (fun g=>g.D) (fun g=>g.k≤l.length∧New w.heap.size g.D∧BldAt b5 (magB++ (jM_ (zO_ (l.length:Int))++qY_ 0 (l.take g.k))) g.D) (fun g=>l.length - g.k) ⟨0,D20++ [(b15, .cells #[vs [83,80,75,49]] 9 (0,0)),(b19, .cells #[vi l.length] 3 (0,0))]⟩ rfl rfl ?_ ?_
  ·exact⟨Nat.zero_le _,hN20.app ⟨hw15,hw19,trivial⟩,hB0⟩
  intro g j hg
  refine kv ?_
  obtain⟨k,D⟩:=g
  simp only at hg ⊢
  obtain⟨hk,hN,hB⟩:=hg
  by_cases hlt:k<l.length
  ·have d1:decide ((k:Int)< (l.length:Int))=true:=decide_eq_true (by omega)
   have hb1:=hr.has (by omega)
   have hb1l:=hr.lt (by omega)
   have ix:=hr.idx true k hlt
   have ld:=hr.load jC_ (by omega) hlt
   have rd:zk_ w D b1=some (.cells arr E fz):=by rw[z4_ (hN.not hb1l)];exact hb1
   have hpl:=hx k hlt
   have hpt:=wO_ hx k hk
   have hsn:=wa_ l 0 k hlt
   have hpb:=afP_ hf hlt
   generalize hp:l.getD k qi_=p at*
   have hst:=xk_ p qi_ 126
   first|with_reducible refine ks [1000011] (And.intro @qs_ (And.intro @d1 (And.intro @ix (And.intro @rd (@ld))))) ?_|refine kp (And.intro @qs_ (And.intro @d1 (And.intro @ix (And.intro @rd (@ld))))) ?_
   refine Ow.alloc rfl rfl x6_ fun b7 hb7 hw7=> ?_
   simp only[za_,List.nil_append,List.cons_append]
   refine Ow.permL (M:=(b7, .cells (zs_ qi_).toArray 126 (0,0))::D) (by classical exact List.perm_iff_count.2 fun a=>by simp only[List.count_append,List.count_cons,List.count_nil]<;>omega) ?_
   refine ko (And.intro @qs_ @hst) ?_
   have hN7:New w.heap.size ((b7,Obj.cells (zs_ p).toArray 126 (0,0))::D):=⟨hw7,hN⟩
   refine Cw.cutO (G:=Unit) [8,28,29,30,31,32,33] (fun g=> [(8,vi (Zp_ k p))]) (fun g=>(b7, .cells (zs_ p).toArray 126 (0,0))::D) (fun g=>True) ?_ ?_
   ·cases hd:p.d with
    |true=>
     have hf:Zp_ k p=(k:Int) - p.b:=by unfold Zp_;rw[if_pos hd]
     have hb2:=hpb hd
     first|with_reducible refine ks [] (And.intro @qs_ @hd) ?_|refine kp (And.intro @qs_ @hd) ?_
     refine CutO.mk () trivial rfl ?_
     rw[hf];rfl
    |false=>
     have hf:Zp_ k p=0:=by unfold Zp_;rw[if_neg (by rw[hd];decide)]
     first|with_reducible refine ks [] (And.intro @qs_ @hd) ?_|refine kp (And.intro @qs_ @hd) ?_
     refine CutO.mk () trivial rfl ?_
     rw[hf];rfl
   ·intro u ju hu
    refine kv ?_
    first|with_reducible refine ks [] @qs_ ?_|refine kp @qs_ ?_
    have hfl:=zD_ (Zp_ k p)
    have hxl:=zD_ (p.x.length:Int)
    have htx:xp_ [p.x]=js_ p.x:=by simp[xp_]
    have htl: (js_ p.x).length=(jM_ (zO_ p.x.length)).length+p.x.length:=by unfold js_;rw[List.length_append]
    have hml: (magB++ (jM_ (zO_ (l.length:Int))++qY_ 0 (l.take k))).length=4+ ((jM_ (zO_ (l.length:Int))).length+ (qY_ 0 (l.take k)).length):=by rw[List.length_append,List.length_append];rfl
    refine Ow.buildSlice (e:=3) #[vi (Zp_ k p)] rfl rfl (by kernel_rfl) fun b35 hb35 hw35=> ?_
    refine ko @qs_ ?_
    refine Ow.permL (M:=D++ [(b7,Obj.cells (zs_ p).toArray 126 (0,0)),(b35, .cells #[vi (Zp_ k p)] 3 (0,0))]) (by classical exact List.perm_iff_count.2 fun a=>by simp only[List.count_append,List.count_cons,List.count_nil]<;>omega) ?_
    refine Ow.callX (Y:= [(b7,Obj.cells (zs_ p).toArray 126 (0,0)),(b35, .cells #[vi (Zp_ k p)] 3 (0,0))]) (by simp) rfl rfl Tryz.call54 (fun w' hw' hX hn=>kL_ b5 D _ _ b35 0 [Zp_ k p] _ _ _ w' hB hX hn (OneS.lit [Zp_ k p] rfl rfl (hw'.has b35 (.cells #[vi (Zp_ k p)] 3 (0,0)) (by simp))) (fun _ hm=>Nat.lt_irrefl _ (ze_ hb35 (by simp[keys] at hm ⊢;exact .inr hm))) (by rw[hml];simp;omega)) (fun v36 D36 hC36 hS36=> ?_)
    obtain⟨rfl,hB36⟩:=hS36
    rw[QN_] at hB36
    have hN36:New w.heap.size D36:=jE_ hC36 hN
    refine Ow.permL (M:=(b7,Obj.cells (zs_ p).toArray 126 (0,0)):: (D36++ [(b35, .cells #[vi (Zp_ k p)] 3 (0,0))])) (by classical exact List.perm_iff_count.2 fun a=>by simp only[List.count_append,List.count_cons,List.count_nil]<;>omega) ?_
    refine ko @qs_ ?_
    first|with_reducible refine ks [] @qs_ ?_|refine kp @qs_ ?_
    refine Ow.buildSlice (e:=9) #[vs p.x] rfl rfl (by kernel_rfl) fun b39 hb39 hw39=> ?_
    refine ko @qs_ ?_
    refine Ow.permL (M:=D36++ [(b7,Obj.cells (zs_ p).toArray 126 (0,0)),(b35, .cells #[vi (Zp_ k p)] 3 (0,0)),(b39, .cells #[vs p.x] 9 (0,0))]) (by classical exact List.perm_iff_count.2 fun a=>by simp only[List.count_append,List.count_cons,List.count_nil]<;>omega) ?_
    refine Ow.callX (Y:= [(b7,Obj.cells (zs_ p).toArray 126 (0,0)),(b35, .cells #[vi (Zp_ k p)] 3 (0,0)),(b39, .cells #[vs p.x] 9 (0,0))]) (by simp) rfl rfl Tryz.call55 (fun w' hw' hX hn=>JI_ b5 D36 _ _ b39 0 [p.x] _ _ _ w' hB36 hX hn (StrS.lit [p.x] rfl rfl (hw'.has b39 (.cells #[vs p.x] 9 (0,0)) (by simp))) (fun _ hm=>Nat.lt_irrefl _ (ze_ hb39 (by simp[keys] at hm ⊢;exact .inr (.inl hm)))) (by rw[htx,List.length_append,hml,htl];omega) (by simp)) (fun v40 D40 hC40 hS40=> ?_)
    obtain⟨rfl,hB40⟩:=hS40
    rw[htx] at hB40
    have hN40:New w.heap.size D40:=jE_ hC40 hN36
    refine ko @qs_ ?_
    first|with_reducible refine ks [] @qs_ ?_|refine kp @qs_ ?_
    refine Again.mk ⟨k+1,D40++ [(b7,Obj.cells (zs_ p).toArray 126 (0,0)),(b35, .cells #[vi (Zp_ k p)] 3 (0,0)),(b39, .cells #[vs p.x] 9 (0,0))]⟩ (by show l.length - (k+1)<l.length - k;omega) ⟨hlt,hN40.app ⟨hw7,hw35,hw39,trivial⟩, ?_⟩ rfl rfl
    show BldAt b5 (magB++ (jM_ (zO_ (l.length:Int))++qY_ 0 (l.take (k+1)))) _
    rw[hsn]
    have:=hB40.app (Y:= [(b7,Obj.cells (zs_ p).toArray 126 (0,0)),(b35, .cells #[vi (Zp_ k p)] 3 (0,0)),(b39, .cells #[vs p.x] 9 (0,0))])
    rw[Nat.zero_add]
    simpa [kJ_] using this
  ·obtain rfl:k=l.length:=by omega
   have d1:decide ((l.length:Int)< (l.length:Int))=false:=decide_eq_false (by omega)
   have hpt:=wO_ hx l.length (Nat.le_refl _)
   rw[List.take_length] at hpt hB
   have hpl: (k7_ l).length<34359738368:=by
    unfold k7_
    rw[List.length_append,List.length_append,show magB.length=4 from rfl]
    omega
   first|with_reducible refine ks [] (And.intro @qs_ @d1) ?_|refine kp (And.intro @qs_ @d1) ?_
   refine Ow.callX (Y:= []) (by simp) rfl rfl Tryz.call57 (fun w' hw' hX hn=>vf_ b5 D (k7_ l) w' hB hX hn hpl) (fun v42 D42 hC42 hS42=> ?_)
   subst hS42
   have hN42:New w.heap.size D42:=jE_ hC42 hN
   rw[List.append_nil]
   refine ko @qs_ ?_
   refine Ow.callFV rfl Tryz.call56 (fun w' hw'=>JR_ (k7_ l) w' (hC.newP hw' hN42) (by omega)) ?_
   refine ko @qs_ ?_
   first|with_reducible refine ks [] @qs_ ?_|refine kp @qs_ ?_
   refine⟨_,(ke @qs_),hN42, ?_⟩
   rfl
end Go.Proofs
end
section
open Go Go.Proofs Go.Sx Go.StP Go.Flo
namespace Go.Proofs
set_option maxRecDepth 10000
set_option maxHeartbeats 400000
set_option linter.unusedSimpArgs false
instance:DecidableEq PartL:=fun a b=>if h:a.d=b.d∧a.b=b.b∧a.x=b.x then .isTrue (by cases a;cases b;simp only at h;obtain⟨rfl,rfl,rfl⟩:=h;rfl) else .isFalse (fun e=>h (by rw[e];exact⟨rfl,rfl,rfl⟩))
set_option linter.defProp false
end Go.Proofs
end
section
open Go Go.Proofs Go.Sx Go.StP Go.Flo
namespace Go.Proofs
set_option maxRecDepth 10000
set_option maxHeartbeats 400000
set_option linter.unusedSimpArgs false
theorem aem_ (s:List UInt8): ∃n:Nat,(xi_ s).1=n∧n≤200:=by
 unfold xi_
 split
 ·have:=qV_ (s:=s) (a:=(q8_ s 0 0 4).2.1) (e:=(q8_ s 0 0 4).2.2) (most:=200) (by omega)
  exact⟨(zr_ s (q8_ s 0 0 4).2.1 (q8_ s 0 0 4).2.2 200).1.toNat,by simp only;omega,by omega⟩
 ·exact⟨0,rfl,by omega⟩
theorem aiw_ (s:List UInt8): (xi_ s).2.2.1≤s.length:=by
 have h1:=kl_ (s:=s) (a:=0) (e:=0) (n:=4) (Nat.zero_le _)
 unfold xi_
 split
 ·exact(qd_ (e:=(q8_ s 0 0 4).2.2) (most:=200) h1.2).2
 ·exact h1.2
theorem acF_ (s:List UInt8) (a:Nat) (e most:Int) (hm:0≤most): ((zS_ s a e most).1.length:Int)≤most:=by
 have h1:=qV_ (s:=s) (a:=a) (e:=e) (most:=most) hm
 have h2: ∀ (b:Nat) (e n:Int),0≤n→((q8_ s b e n).1.length:Int)≤n:=by
  intro b e n hn
  unfold q8_
  split
  ·simpa using hn
  ·split
   ·simpa using hn
   ·split
    ·simpa using hn
    ·simp only[List.length_take,List.length_drop];omega
 unfold zS_
 simp only
 split
 ·simpa using hm
 ·have:=h2 (zr_ s a e most).2.1 (zr_ s a e most).2.2 (zr_ s a e most).1 h1.1
  omega
theorem Ky_ {s:List UInt8}: ∀ (k i a:Nat) (e:Int) (p:PartL),p∈ (z7_ s k i a e).1→p.x.length≤65536
 |0,i,a,e,p,h=>by cases h
 |k+1,i,a,e,p,h=>by
  unfold z7_ at h
  split at h
  ·rcases List.mem_cons.1 h with rfl|h
   ·have:=acF_ s (zr_ s a e 200).2.1 (zr_ s a e 200).2.2 65536 (by omega)
    show(zS_ s (zr_ s a e 200).2.1 (zr_ s a e 200).2.2 65536).1.length≤65536
    omega
   ·exact Ky_ k _ _ _ p h
  ·cases h
theorem W3_ (s:List UInt8):SmallP (wc_ s).1:=fun g hg=>Nat.le_trans (Ky_ _ _ _ _ _ (ZI_ hg)) (by omega)
theorem afN_ (s:List UInt8): (wc_ s).1.length≤200∧(wc_ s).2.1.length=(wc_ s).1.length:=by
 obtain⟨n,hn,hle⟩:=aem_ s
 have:=QD_ (s:=s) (xi_ s).1.toNat 0 (xi_ s).2.2.1 (xi_ s).2.2.2
 unfold wc_
 rw[hn,Int.toNat_natCast] at this ⊢
 omega
theorem ajB_ {D:zb_} {E:TypeId} {m n:Nat} {v:Value} {cs:List Value} (h:GrI D E m v n cs) {b:Nat} (hb:slB v=some b):b∈keys D:=by
 obtain⟨X,hX,h⟩:=h
 obtain⟨p,hp,rfl⟩:=List.mem_map.1 (h.key hb)
 exact List.mem_map.2 ⟨p,hX p hp,rfl⟩
theorem abH_ {D:zb_} {E:TypeId} {m n:Nat} {v:Value} {cs:List Value} (h:GrI D E m v n cs):Value.oneCell' v=true∧v.cells= #[v]:=by
 obtain⟨X,hX,h⟩:=h;exact h.cell
theorem afe_ {v0 v1:Value} (h0:Value.oneCell' v0=true∧v0.cells= #[v0]) (h1:Value.oneCell' v1=true∧v1.cells= #[v1]):buildV (xY_ Tryz.prog 92) (zG_ Tryz.prog 92) [(0,v0),(1,v1)]=some (.agg #[v0,v1, .slice none 0 0, .slice none 0 0]):=by
 rw[show xY_ Tryz.prog 92=some [(0,1),(1,1),(2,1),(3,1)] from id (by kernel_rfl),zrPk]
 simp[buildV,Sx.fillV,h0.2,h1.2,kZ_]
theorem zrPr:zG_ Tryz.prog 87=some (.agg #[.pointer none, .slice none 0 0, .slice none 0 0]):=id (by kernel_rfl)
theorem aiq_ (b:Nat):buildV (xY_ Tryz.prog 87) (zG_ Tryz.prog 87) [(0,vp b 0)]=some (.agg #[vp b 0, .slice none 0 0, .slice none 0 0]):=by
 rw[show xY_ Tryz.prog 87=some [(0,1),(1,1),(2,1)] from id (by kernel_rfl),zrPr];rfl
def aj9_ (b:List UInt8) (v:Value) (D:zb_):Prop:=match age_ b with
 |some q=> ∃bp,v= .tuple #[vp bp 0,vi 0]∧PackD D bp q.1 q.2.1 q.2.2.1 q.2.2.2
 |none=>v= .tuple #[.pointer none,vi 2]
set_option linter.defProp false
def qE_:=And.intro (And.intro (@zv_) (And.intro (@zu_) (@abG_))) (And.intro (And.intro (@abs_) (@abV_)) (And.intro (@Sx.tup2_0) (@Sx.tup2_1)))
theorem ac2_ (b:List UInt8) (w:World) (hG:GlobE w) (hC:GlobC w) (hb:b.length<1099511627776):
  Rets Tryz.prog 17 #[vs b] w (XS w [] (aj9_ b)):=by
 have hgr:2<w.heap.size:=by obtain⟨e0,e1,f0,f1,h0,h1⟩:=hG;exact(Array.getElem?_eq_some_iff.1 h1).1
 refine Rets.enterX Tryz.func17 rfl (rs:= [.tmp 2, .tmp 3]) Tryz.results17 Tryz.ntmps17 (fun p hp=>by cases hp) (by simp[keys]) ?_
 refine kf ?_
 first|with_reducible refine ks [8] @qE_ ?_|refine kp @qE_ ?_
 refine Ow.callFV rfl Tryz.call34 (fun w' hw'=>KT_ b w' (hC.newP hw' trivial) (by omega)) ?_
 have hun: (jb_ b).1.length≤b.length:=by
  unfold jb_
  split
  ·simp
  ·split
   ·simp only[List.length_take];omega
   ·simp
 unfold aj9_ age_
 generalize jb_ b=u at*
 obtain⟨s,ok⟩:=u
 simp only at hun ⊢
 cases ok with
 |false=>
  rw[if_neg (by simp)]
  refine ko @qE_ ?_
  first|with_reducible refine ks [] @qE_ ?_|refine kp @qE_ ?_
  refine⟨_,(ke @qE_), ?_⟩
  exact⟨Ext.refl _ _,rfl⟩
 |true=>
  refine ko @qE_ ?_
  first|with_reducible refine ks [] @qE_ ?_|refine kp @qE_ ?_
  refine Ow.callF rfl rfl Tryz.call35 (S:=fun B v D=> ∃b',B≤b'∧v=vp b' 0∧D= [(b',wrO s 0 0)]) (fun w' hw'=>wf_ s w') ?_
  rintro B v D hab hB ⟨bw,hbw,rfl,rfl⟩
  have hww:w.heap.size≤bw:=by omega
  refine⟨_,Mrg.fresh (by intro q hq;simp only[keys,List.map_cons,List.map_nil,List.mem_singleton] at hq;omega), ?_⟩
  rw[List.nil_append]
  refine ko @qE_ ?_
  refine Ow.build (.agg #[vp bw 0, .slice none 0 0, .slice none 0 0]) rfl (aiq_ bw) ?_
  refine ko @qE_ ?_
  refine Ow.box rfl rfl fun br hbr hwr=> ?_
  simp only[zw_,zC_,zB_,za_]
  have hwbr:bw<br:=ze_ hbr (by simp[keys])
  refine Ow.permL (M:= [(br,prO (vp bw 0) (.slice none 0 0) (.slice none 0 0)),(bw,wrO s 0 0)]) (List.Perm.swap _ _ _) ?_
  refine ko @qE_ ?_
  first|with_reducible refine ks [] @qE_ ?_|refine kp @qE_ ?_
  refine Ow.callX (Y:= []) (by simp) rfl rfl Tryz.call36 (fun w' hw' hX hn=>afA_ br bw s (.slice none 0 0) (.slice none 0 0) w' (by omega) (by omega) (hX _ List.mem_cons_self) (hX _ (List.mem_cons_of_mem _ List.mem_cons_self))) (fun v22 D22 hC22 hS22=> ?_)
  obtain⟨rfl,rfl⟩:=hS22
  clear hC22
  obtain⟨n,hn,hn2⟩:=aem_ s
  have hle:=aiw_ s
  have hrp:wc_ s=z7_ s n 0 (xi_ s).2.2.1 (xi_ s).2.2.2:=by unfold wc_;rw[hn,Int.toNat_natCast]
  have hrl:=afN_ s
  have hrs:=W3_ s
  rw[hn,List.append_nil]
  refine ko @qE_ ?_
  first|with_reducible refine ks [] @qE_ ?_|refine kp @qE_ ?_
  refine Ow.callX (Y:= []) (by simp) rfl rfl Tryz.call37 (fun w' hw' hX hn=>aef_ br bw s n (xi_ s).2.2.1 (xi_ s).2.2.2 w' (by omega) (by omega) hle (by omega) (hX _ List.mem_cons_self) (hX _ (List.mem_cons_of_mem _ List.mem_cons_self))) (fun v27 D27 hC27 hS27=> ?_)
  obtain⟨rfl,v1,v2,D',rfl,hg1,hg2⟩:=hS27
  rw[←hrp] at hg1 hg2
  rw[←hrp]
  generalize (xi_ s).2.1=okh
  generalize wc_ s=r at*
  obtain⟨l,sp,a,e⟩:=r
  simp only at hg1 hg2 hrl hrs ⊢
  have hN:New w.heap.size D':=New.of_le fun c hc=>by
   rcases hC27.new c (by simp only[keys,List.map_cons,List.mem_cons];exact .inr (.inr hc)) with h|h
   ·simp[keys] at h;omega
   ·exact h.2
  rw[List.append_nil]
  refine ko @qE_ ?_
  first|with_reducible refine ks [] @qE_ ?_|refine kp @qE_ ?_
  refine Cw.regionS [br] [0,1,2,4,5,6,3,7,8,9,10] [] (by kernel_rfl) (by kernel_rfl) (by kernel_rfl) ?_
  refine kya ?_
  refine kq @qE_ ?_
  refine Ow.build (.agg #[v1,v2, .slice none 0 0, .slice none 0 0]) rfl (afe_ (abH_ hg1) (abH_ hg2)) ?_
  refine kq @qE_ ?_
  refine Ow.softA ?_
  refine Ow.box rfl rfl fun bk hbk hwk=> ?_
  simp only[zw_,zC_,zB_,za_]
  have hbrk:br<bk:=ze_ hbk (by simp[keys])
  have hDk: ∀c,c∈keys D'→c<bk:=fun c hc=>ze_ hbk (by simp only[keys,List.map_cons,List.mem_cons];exact .inr (.inr hc))
  refine Ow.permL (M:=(bk, .cells #[v1,v2, .slice none 0 0, .slice none 0 0] 92 (0,0)):: ((br,prO (vp bw 0) v1 v2):: (bw,wrO s a e)::D')) (by classical exact List.perm_iff_count.2 fun a=>by simp only[List.count_append,List.count_cons,List.count_nil]<;>omega) ?_
  refine Ow.permL (M:=(bk,pkO v1 v2 (.slice none 0 0) (.slice none 0 0)):: ((br,prO (vp bw 0) v1 v2):: (bw,wrO s a e)::D')) (List.Perm.refl _) ?_
  with_reducible refine Ow.nil ?_
  refine⟨(fun r hr=>by rw[List.mem_singleton] at hr;subst hr;simp(disch:=omega) only[zp_,zh_]), ?_⟩
  refine kq @qE_ ?_
  have hN2:New w.heap.size ((br,prO (vp bw 0) v1 v2):: (bw,wrO s a e)::D'):=⟨hwr,hww,hN⟩
  have hN3:New w.heap.size ((bk,pkO v1 v2 (.slice none 0 0) (.slice none 0 0)):: (br,prO (vp bw 0) v1 v2):: (bw,wrO s a e)::D'):=⟨hwk,hN2⟩
  obtain hok|hok:okh=false∨okh=true:=by cases okh<;>simp
  ·subst hok
   rw[if_neg (by simp)]
   first|with_reducible refine ks [] @qE_ ?_|refine kp @qE_ ?_
   refine⟨_,(ke @qE_), ?_⟩
   exact⟨Ext.of_new hN3,rfl⟩
  ·subst hok
   first|with_reducible refine ks [] @qE_ ?_|refine kp @qE_ ?_
   refine Ow.callFV rfl Tryz.call38 (fun w' hw'=>ki_ bw s a e w' (hw'.has _ _ (List.mem_cons_of_mem _ (List.mem_cons_of_mem _ List.mem_cons_self)))) ?_
   by_cases he:xE_ s a e=0
   ·have e1: (xE_ s a e !=0)=false:=by simp[he]
    rw[if_pos ⟨rfl,rfl,he⟩]
    refine ko (And.intro @qE_ @e1) ?_
    refine Ow.callX (Y:=(br,prO (vp bw 0) v1 v2):: (bw,wrO s a e)::D') (by simp) rfl rfl Tryz.call39 (fun w' hw' hX hn=>VK_ bk v1 v2 l w' ((hg1.mono (fun q hq=>by simp[hq])).slV hw' rfl rfl jC_) (hG.new hw' hN3) hrs.bnd (by omega) (hX _ List.mem_cons_self) (fun h=>by have:=hDk _ (ajB_ hg1 h);omega) (by omega)) (fun v50 D50 hC50 hS50=> ?_)
    have hN50:New w.heap.size D50:=jE_ hC50 ⟨hwk,trivial⟩
    unfold aaO_ at hS50
    cases hf:fillV l with
    |none=>
     rw[hf] at hS50
     have hS50':v50= .bool false:=hS50
     subst hS50'
     refine ko @qE_ ?_
     first|with_reducible refine ks [] @qE_ ?_|refine kp @qE_ ?_
     refine⟨_,(ke @qE_), ?_⟩
     exact⟨Ext.of_new (hN50.app hN2),rfl⟩
    |some q=>
     rw[hf] at hS50
     obtain⟨rfl,x2,x3,D'',rfl,hg3,hg4⟩:=hS50
     refine ko @qE_ ?_
     first|with_reducible refine ks [] @qE_ ?_|refine kp @qE_ ?_
     refine⟨_,(ke @qE_), ?_⟩
     refine⟨Ext.of_new (hN50.app hN2),bk,rfl,v1,v2,x2,x3, ?_, ?_, ?_, ?_, ?_⟩
     ·simp
     ·exact hg1.mono fun p hp=>by simp[hp]
     ·exact hg2.mono fun p hp=>by simp[hp]
     ·exact hg3.mono fun p hp=>by simp[hp]
     ·exact hg4.mono fun p hp=>by simp[hp]
   ·have e1: (xE_ s a e !=0)=true:=bne_iff_ne.2 he
    rw[if_neg (fun h=>he h.2.2)]
    refine ko (And.intro @qE_ @e1) ?_
    first|with_reducible refine ks [] @qE_ ?_|refine kp @qE_ ?_
    refine⟨_,(ke @qE_), ?_⟩
    exact⟨Ext.of_new hN3,rfl⟩
end Go.Proofs
end
section
open Go Go.Proofs Go.Sx Go.StP Go.Flo
namespace Go.Proofs
set_option maxRecDepth 10000
set_option maxHeartbeats 400000
set_option linter.unusedSimpArgs false
set_option linter.defProp false
end Go.Proofs
end
section
open Go Go.Proofs Go.Sx Go.StP Go.Flo
namespace Go.Proofs
set_option maxRecDepth 10000
set_option maxHeartbeats 400000
set_option linter.unusedSimpArgs false
end Go.Proofs
end
section
open Go Go.Proofs Go.Sx Go.StP Go.Flo
namespace Go.Proofs
set_option maxRecDepth 10000
set_option maxHeartbeats 400000
set_option linter.unusedSimpArgs false
set_option linter.defProp false
end Go.Proofs
end
section
open Go Go.Proofs Go.Sx Go.StP Go.Flo
namespace Go.Proofs
set_option maxRecDepth 10000
set_option maxHeartbeats 400000
set_option linter.unusedSimpArgs false
set_option linter.defProp false
end Go.Proofs
end
namespace Go.Sx
open Go
theorem Hp.later {w0 w1 w2:World} {L D:zb_} (h:Hp w0 L w1) (k:Hp w1 D w2) (hD:New w1.heap.size D):Hp w0 (L++D) w2:=
 Mrg.fresh hD.le w1 w2 rfl h k
theorem Ow.world {P:Program} {w0:World} {ops:Array Oper} {l:List Oper} {f:Fr} {L:zb_} {N:Fr→zb_→Prop} (h: ∀w,Hp w0 L w→Ow P w0 ops .seq l f L N):Ow P w0 ops .seq l f L N:=fun w hw=>h w hw w hw
theorem Rets.chunk {P:Program} {k:FuncId} {args:Array Value} {w:World} {S:Value→Obj→Prop} {X:zb_} {b:Nat} (hX: ∀p,p∈X→w.heap[p.1]? =some p.2) (hn: (keys X).Nodup) (hb:b∈keys X)
  (h:Rets P k args w (fun v D=> ∃o,D= [(b,o)]∧S v o)):Rets P k args w (XS w X (fun v D=> ∃o,D=setB X b o∧S v o)):=
 Calls.mono h fun e w' ⟨v,D,he,hp,o,hD,hS⟩=>⟨v,setB X b o,he,by subst hD;exact Mrg.set hb w w' rfl ((Hp.refl w).ownX hX hn) hp,(Ext.refl w X).setB,o,rfl,hS⟩
theorem Rets.chunkV {P:Program} {k:FuncId} {args:Array Value} {w:World} {S:Value→Prop} {X:zb_} (hX: ∀p,p∈X→w.heap[p.1]? =some p.2) (hn: (keys X).Nodup)
  (h:Rets P k args w (fun v D=>S v∧D= [])):Rets P k args w (XS w X (fun v D=>D=X∧S v)):=
 Calls.mono h fun e w' ⟨v,D,he,hp,hS,hD⟩=>⟨v,X,he,by subst hD;exact((Hp.refl w).ownX hX hn).trans_nil hp,Ext.refl w X,rfl,hS⟩
theorem Rets.toX {P:Program} {k:FuncId} {a:Array Value} {w:World} {S:Value→Prop} (h:Rets P k a w (fun v D=>S v∧D= [])):Rets P k a w (XS w [] (fun v D=>D= []∧S v)):=
 h.mono fun v D ⟨h1,h2⟩=>⟨by subst h2;exact Ext.refl w [],h2,h1⟩
theorem Gr.rowL {α:Type} {m:Nat} {enc:α→List Value} {z:α} {w0 w:World} {v:Value} {l:List α} {L:zb_} {E:TypeId} {n:Nat} (h:Gr L E m v n (l.map enc).flatten) (hn:l.length=n) (hw:Hp w0 L w) (hm: ∀x,(enc x).length=m):
  ∃b off arr F fz,RowS m enc z w v l b off arr F fz∧(0<l.length→look L b=some (.cells arr F fz)):=by
 obtain⟨b,off,c,arr,F,fz,hr,hc,⟨rfl,rfl,rfl⟩ | ⟨rfl,hb,hsz⟩⟩:=h.slV (z:=z) hw hn rfl hm
 ·exact⟨b,off,arr,F,fz,hr,fun h0=>absurd h0 (by simp)⟩
 ·refine⟨b,off,arr,F,fz,hr,fun _=> ?_⟩
  obtain⟨o,ho⟩:=X9_ (h.key (b:=b) rfl)
  have:=hw.has _ _ (zF_ ho)
  rw[hb] at this
  rw[ho,this]
theorem GrI.rowL {α:Type} {m:Nat} {enc:α→List Value} {z:α} {w0 w:World} {v:Value} {l:List α} {D:zb_} {E:TypeId} {n:Nat} (h:GrI D E m v n (l.map enc).flatten) (hn:l.length=n) (hw:Hp w0 D w) (hm: ∀x,(enc x).length=m):
  ∃b off arr F fz,RowS m enc z w v l b off arr F fz∧(0<l.length→look D b=some (.cells arr F fz)):=by
 obtain⟨X,hX,h⟩:=h
 obtain⟨b,off,c,arr,F,fz,hr,hc,⟨rfl,rfl,rfl⟩ | ⟨rfl,hb,hsz⟩⟩:=h.slM (z:=z) (fun b o hm=>hw.has b o (hX _ hm)) hn rfl hm
 ·exact⟨b,off,arr,F,fz,hr,fun h0=>absurd h0 (by simp)⟩
 ·refine⟨b,off,arr,F,fz,hr,fun _=> ?_⟩
  obtain⟨o,ho⟩:=X9_ (h.key (b:=b) rfl)
  have hm:=hX _ (zF_ ho)
  have:=hw.has _ _ hm
  rw[hb] at this
  rw[qC_ hw.nodup hm,this]
end Go.Sx
namespace Go.Sx
open Go
def kv (e:MapEntry):Value×Value:=(e.key,e.val)
def ItR (o:Obj) (bm:Nat) (om:Obj) (m dn lf:jN_):Prop:=
 ∃es clock,∃ds:List MapEntry,om= .map es clock∧(es.toList.map (·.born)++ [clock]).Pairwise (· < ·)∧o= .mapIter (some bm) clock (ds.map (·.born)).toArray clock∧
  ds.map kv=dn.map vH_∧(∀d,d∈ds→d∈es.toList)∧((es.toList.filter fun e=> !(ds.map (·.born)).contains e.born).map kv=lf.map vH_)∧(dn++lf).Perm m
theorem J6_ {l:List MapEntry} {c:Nat} (h: (l.map (·.born)++ [c]).Pairwise (· < ·)): (l.map (·.born)).Nodup:=
 ((List.pairwise_append.1 h).1).imp fun h=>Nat.ne_of_lt h
theorem ItR.step {bm:Nat} {om:Obj} {m dn lf:jN_} {es:Array MapEntry} {clock:Nat} {ds:List MapEntry} {e:MapEntry} (hb: (es.toList.map (·.born)++ [clock]).Pairwise (· < ·))
  (hd:ds.map kv=dn.map vH_) (hm: ∀d,d∈ds→d∈es.toList) (hl: (es.toList.filter fun e=> !(ds.map (·.born)).contains e.born).map kv=lf.map vH_) (hp: (dn++lf).Perm m)
  (he:e∈es.toList.filter fun e=> !(ds.map (·.born)).contains e.born) (hom:om= .map es clock):
  ∃p lf',kv e=vH_ p∧lf.length=lf'.length+1∧ItR (.mapIter (some bm) clock ((ds.map (·.born)).toArray.push e.born) clock) bm om m (dn++ [p]) lf':=by
 obtain⟨A,C,hAC⟩:=List.append_of_mem he
 rw[hAC,List.map_append,List.map_cons] at hl
 obtain⟨l1,l2,rfl,h1,h2⟩:=List.append_eq_map_iff.1 hl
 obtain⟨p,l3,rfl,h3,h4⟩:=(List.map_eq_cons_iff.1 h2)
 refine⟨p,l1++l3,h3.symm,by simp;omega,es,clock,ds++ [e],hom,hb,by simp,by simp[hd,h3], ?_, ?_, ?_⟩
 ·intro d hd'
  rcases List.mem_append.1 hd' with h|h
  ·exact hm d h
  ·rw[List.mem_singleton] at h;subst h;exact(List.mem_filter.1 he).1
 ·have hnd: ((A++e::C).map (·.born)).Nodup:=by
   rw[←hAC]
   exact(J6_ hb).sublist ((List.filter_sublist).map _)
  have e1: (es.toList.filter fun x=> !((ds++ [e]).map (·.born)).contains x.born)=(A++e::C).filter fun x=> !(x.born==e.born):=by
   rw[←hAC,List.filter_filter]
   refine List.filter_congr fun x hx=> ?_
   simp only[List.map_append,List.map_cons,List.map_nil,List.contains_append,List.contains_cons,List.contains_nil,Bool.or_false,Bool.not_or]
   rw[Bool.and_comm]
  rw[List.map_append,List.map_cons,List.nodup_append] at hnd
  obtain⟨-,hn2,hn3⟩:=hnd
  rw[List.nodup_cons] at hn2
  have e2: ((A++e::C).filter fun x=> !(x.born==e.born))=A++C:=by
   rw[List.filter_append,List.filter_cons]
   simp only[beq_self_eq_true,Bool.not_true,Bool.false_eq_true, ↓reduceIte]
   congr 1
   ·refine List.filter_eq_self.2 fun x hx=> ?_
    have:=hn3 x.born (List.mem_map.2 ⟨x,hx,rfl⟩) e.born List.mem_cons_self
    simpa using this
   ·refine List.filter_eq_self.2 fun x hx=> ?_
    have:x.born≠e.born:=fun h=>hn2.1 (h▸List.mem_map.2 ⟨x,hx,rfl⟩)
    simpa using this
  rw[e1,e2,List.map_append,List.map_append,h1,h4]
 ·refine List.Perm.trans ?_ hp
  rw[List.append_assoc]
  refine List.Perm.append_left dn ?_
  rw[List.singleton_append]
  exact List.perm_middle.symm
section
variable {P:Program} {w0:World} {f:Fr} {L:zb_} {N:Fr→zb_→Prop} {ops:Array Oper} {rest:List Oper} {md:Md}
 {d:Option Tmp} {ty:TypeId} {ps:String} {af:Array Edge} {g:Option (Nat×Bool)}
end
end Go.Sx
namespace Go.Sx
open Go
def ItG {α β:Type} (encK:α→Value) (encV:β→Value) (o:Obj) (bm:Nat) (om:Obj) (m dn lf:List (α×β)):Prop:=
 ∃es clock,∃ds:List MapEntry,om= .map es clock∧(es.toList.map (·.born)++ [clock]).Pairwise (· < ·)∧o= .mapIter (some bm) clock (ds.map (·.born)).toArray clock∧
  ds.map kv=dn.map (kC_ encK encV)∧(∀d,d∈ds→d∈es.toList)∧((es.toList.filter fun e=> !(ds.map (·.born)).contains e.born).map kv=lf.map (kC_ encK encV))∧(dn++lf).Perm m
theorem ItG.step {α β:Type} {encK:α→Value} {encV:β→Value} {bm:Nat} {om:Obj} {m dn lf:List (α×β)} {es:Array MapEntry} {clock:Nat} {ds:List MapEntry} {e:MapEntry} (hb: (es.toList.map (·.born)++ [clock]).Pairwise (· < ·))
  (hd:ds.map kv=dn.map (kC_ encK encV)) (hm: ∀d,d∈ds→d∈es.toList) (hl: (es.toList.filter fun e=> !(ds.map (·.born)).contains e.born).map kv=lf.map (kC_ encK encV)) (hp: (dn++lf).Perm m)
  (he:e∈es.toList.filter fun e=> !(ds.map (·.born)).contains e.born) (hom:om= .map es clock):
  ∃p lf',kv e=kC_ encK encV p∧lf.length=lf'.length+1∧ItG encK encV (.mapIter (some bm) clock ((ds.map (·.born)).toArray.push e.born) clock) bm om m (dn++ [p]) lf':=by
 obtain⟨A,C,hAC⟩:=List.append_of_mem he
 rw[hAC,List.map_append,List.map_cons] at hl
 obtain⟨l1,l2,rfl,h1,h2⟩:=List.append_eq_map_iff.1 hl
 obtain⟨p,l3,rfl,h3,h4⟩:=(List.map_eq_cons_iff.1 h2)
 refine⟨p,l1++l3,h3.symm,by simp;omega,es,clock,ds++ [e],hom,hb,by simp,by simp[hd,h3], ?_, ?_, ?_⟩
 ·intro d hd'
  rcases List.mem_append.1 hd' with h|h
  ·exact hm d h
  ·rw[List.mem_singleton] at h;subst h;exact(List.mem_filter.1 he).1
 ·have hnd: ((A++e::C).map (·.born)).Nodup:=by
   rw[←hAC]
   exact(J6_ hb).sublist ((List.filter_sublist).map _)
  have e1: (es.toList.filter fun x=> !((ds++ [e]).map (·.born)).contains x.born)=(A++e::C).filter fun x=> !(x.born==e.born):=by
   rw[←hAC,List.filter_filter]
   refine List.filter_congr fun x hx=> ?_
   simp only[List.map_append,List.map_cons,List.map_nil,List.contains_append,List.contains_cons,List.contains_nil,Bool.or_false,Bool.not_or]
   rw[Bool.and_comm]
  rw[List.map_append,List.map_cons,List.nodup_append] at hnd
  obtain⟨-,hn2,hn3⟩:=hnd
  rw[List.nodup_cons] at hn2
  have e2: ((A++e::C).filter fun x=> !(x.born==e.born))=A++C:=by
   rw[List.filter_append,List.filter_cons]
   simp only[beq_self_eq_true,Bool.not_true,Bool.false_eq_true, ↓reduceIte]
   congr 1
   ·refine List.filter_eq_self.2 fun x hx=> ?_
    have:=hn3 x.born (List.mem_map.2 ⟨x,hx,rfl⟩) e.born List.mem_cons_self
    simpa using this
   ·refine List.filter_eq_self.2 fun x hx=> ?_
    have:x.born≠e.born:=fun h=>hn2.1 (h▸List.mem_map.2 ⟨x,hx,rfl⟩)
    simpa using this
  rw[e1,e2,List.map_append,List.map_append,h1,h4]
 ·refine List.Perm.trans ?_ hp
  rw[List.append_assoc]
  refine List.Perm.append_left dn ?_
  rw[List.singleton_append]
  exact List.perm_middle.symm
section
variable {α β:Type} {encK:α→Value} {encV:β→Value} {P:Program} {w0:World} {f:Fr} {L:zb_} {N:Fr→zb_→Prop} {ops:Array Oper} {rest:List Oper} {md:Md}
 {d:Option Tmp} {ty:TypeId} {ps:String} {af:Array Edge} {g:Option (Nat×Bool)}
end
theorem Wy_ (l:List UInt8):Instr.sameBits 10000 (.agg (a8 l)) (.agg (a8 l))=true:=by
 show Instr.sameBits (9999+1) _ _=true
 unfold Instr.sameBits
 simp only[beq_self_eq_true,Bool.true_and,List.all_eq_true]
 intro p hp
 obtain⟨i,hi,rfl⟩:=List.getElem_of_mem hp
 rw[List.getElem_zip]
 simp[a8,Instr.sameBits]
theorem Kz_ {P:Program} {t e:TypeId} {n:Nat} (hu:P.underlying t=some (.array n e)) (he:P.underlying e=some (.int .u8)) (hm:z3_ P e=some (false,1)) (l l':List UInt8) (hl:l.length=n) (hl':l'.length=n) (w:World):
  (Op.equal t (.agg (a8 l)) (.agg (a8 l'))).run P w= .ok (l==l') w:=
 aaC_ P 8 9992 t _ _ _ (aeF_ (d:=6) hu he hm l l' hl hl') w
theorem QX_ {P:Program} {t e:TypeId} {n:Nat} (hu:P.underlying t=some (.array n e)) (he:P.underlying e=some (.int .u8)) (hm:z3_ P e=some (false,1)) (l:List UInt8) (hl:l.length=n) (em:Bool) (w:World):
  (Instr.checkKey em 10000 t (.agg (a8 l))).run P w= .ok () w:=by
 show(Instr.checkKey em (9999+1) t (.agg (a8 l))).run P w= .ok () w
 rw[Instr.checkKey]
 simp only[Sem.run_bind,run_underlying hu,Result.andThen_ok]
 simp only[Std.Legacy.Range.forIn_eq_forIn_range',Std.Legacy.Range.size,Nat.sub_zero,Nat.add_one_sub_one,Nat.div_one]
 have each: ∀j,j∈List.range' 0 n→j<l.length:=by
  intro j hj
  rw[List.mem_range'] at hj
  obtain⟨i,hi,rfl⟩:=hj
  omega
 generalize List.range' 0 n=is at each
 induction is with
 |nil=>simp
 |cons j is ih=>
  have hj:=each j (by simp)
  have p1: (part e (a8 l) (j*1)).run P w= .ok (v8 (l.getD j 0)) w:=by
   refine jA_ hm ?_ w
   simp[partV,a8,v8,hj]
  have p2: (Instr.checkKey em 9999 e (v8 (l.getD j 0))).run P w= .ok () w:=by
   show(Instr.checkKey em (9998+1) e (v8 (l.getD j 0))).run P w= .ok () w
   rw[Instr.checkKey]
   simp only[Sem.run_bind,run_underlying he,Result.andThen_ok,v8]
   rfl
  simp only[List.forIn_cons,Sem.run_bind,zz_ hm w,Result.andThen_ok,p1,p2,Sem.run_pure]
  exact ih (fun y hy=>each y (by simp[hy]))
theorem ada_ {n:Nat} {e:TypeId} (x:Value): ∀ (es:List MapEntry) (i:Nat),es≠ []→Instr.findNow (.array n e) x es i=none
 | [],_,h=>absurd rfl h
 |_::_,_,_=>by cases x<;>rfl
theorem kY_ {α β:Type} [BEq α] {P:Program} {kt:TypeId} {encK:α→Value} {encV:β→Value} (he: ∀a b w,(Op.equal kt (encK a) (encK b)).run P w= .ok (a==b) w) (w:World) (k:α): ∀ (es:List MapEntry) (m:List (α×β)) (i:Nat),es.map (fun e=>(e.key,e.val))=m.map (kC_ encK encV)→
  (Instr.findAsking kt (encK k) es i).run P w= .ok ((Kp_ k m i).map fun p=>(p.1,encV p.2)) w
 | [],[],_,_=>rfl
 | [],_::_,_,h=>by cases h
 |_::_,[],_,h=>by cases h
 |e::es,p::m,i,h=>by
  simp only[List.map_cons,List.cons.injEq,kC_,Prod.mk.injEq] at h
  obtain⟨⟨h1,h2⟩,h3⟩:=h
  unfold Instr.findAsking Kp_
  rw[Sem.run_bind,h1,he]
  simp only[Result.andThen_ok]
  cases hk: (k==p.1)
  ·simp only[Bool.false_eq_true, ↓reduceIte]
   exact kY_ he w k es m (i+1) h3
  ·simp[h2]
theorem KeyOk.arr {α:Type} [BEq α] {P:Program} {kt e:TypeId} {n:Nat} (hu:P.underlying kt=some (.array n e)) (he:P.underlying e=some (.int .u8)) (hm:z3_ P e=some (false,1)) (bs:α→List UInt8) (hb: ∀a,(bs a).length=n) (hq: ∀a b,(bs a==bs b)=(a==b)):
  KeyOk P kt (fun a:α=> .agg (a8 (bs a))) where
 find encV w k es m h:=by
  cases es with
  |nil=>
   cases m with
   |nil=>simp only[Instr.findKey,Sem.run_bind,run_underlying hu w,Result.andThen_ok];rfl
   |cons=>cases h
  |cons e0 es=>
   simp only[Instr.findKey,Sem.run_bind,run_underlying hu w,Result.andThen_ok]
   rw[ada_ _ _ _ (by simp)]
   exact kY_ (encK:=fun a:α=> .agg (a8 (bs a))) (fun a b w=>by rw[Kz_ hu he hm _ _ (hb a) (hb b) w,hq]) w k _ m 0 h
 check w e k:=QX_ hu he hm _ (hb k) e w
 bits k:=Wy_ _
section
variable {α β:Type} [BEq α] [LawfulBEq α] {encK:α→Value} {encV:β→Value} {P:Program} {w0:World} {f:Fr} {L:zb_} {N:Fr→zb_→Prop} {ops:Array Oper} {rest:List Oper} {md:Md}
 {d:Option Tmp} {ty:TypeId} {ps:String} {af:Array Edge} {g:Option (Nat×Bool)}
def hasG (k:α) (m:List (α×β)):Bool:=m.any fun p=>k==p.1
omit [LawfulBEq α] in
theorem Ow.mapGet2G {t kt vt:TypeId} {x y:Operand} {b:Nat} {o:Obj} {m:List (α×β)} {k:α} {z:β} {md':Md} (he:md.turn=some md') (hs:zf_ ops f ⟨d, .lookup t x y true,ty,ps,af,g⟩=false) (hu:P.underlying t=some (.map kt vt)) (hk:KeyOk P kt encK)
  (hz:zG_ P vt=some (encV z)) (hx:ev f x=vm b) (hy:ev f y=encK k) (hl:zk_ w0 L b=some o) (hm:MapG encK encV o m)
  (hn:Ow P w0 ops md' rest (qg_ f d (.tuple #[encV (Zb_ k z m), .bool (hasG k m)])) L N):
  Ow P w0 ops md (⟨d, .lookup t x y true,ty,ps,af,g⟩::rest) f L N:=by
 obtain⟨es,c,rfl,hes,-⟩:=hm
 refine Ow.step he rfl hs fun w hw=> ?_
 have hb:=hw.read hl
 have hfk:=hk.find encV w k es.toList m hes
 refine .inl ⟨.tuple #[encV (Zb_ k z m), .bool (hasG k m)],w,L, ?_,hw,hn⟩
 have hff:=QH_ k m 0
 have hh:hasG k m=(m.find? fun p=>k==p.1).isSome:=by
  unfold hasG;rw[Bool.eq_iff_iff,List.find?_isSome,List.any_eq_true]
 have: (Instr.lookup t (vm b) (encK k) true).run P w= .ok (.tuple #[encV (Zb_ k z m), .bool (hasG k m)]) w:=by
  cases hf:Kp_ k m 0 with
  |none=>
   rw[hf] at hfk hff
   cases h:m.find? fun p=>k==p.1 with
   |some q=>rw[h] at hff;cases hff
   |none=>
    have hg:Zb_ k z m=z:=by unfold Zb_;rw[h]
    rw[h] at hh
    simp only[Instr.lookup,vm,Sem.run_bind,run_underlying hu w,Result.andThen_ok,jq_ hb,Sem.run_pure,hk.check,hfk,Option.map_none,jw_ hz w,hg,hh, ↓reduceIte,Option.isSome_none]
  |some p=>
   obtain⟨j,a⟩:=p
   rw[hf] at hfk hff
   cases h:m.find? fun p=>k==p.1 with
   |none=>rw[h] at hff;cases hff
   |some q=>
    have hg:Zb_ k z m=a:=by
     unfold Zb_
     rw[h] at hff ⊢
     simp only[Option.map_some,Option.some.injEq] at hff;exact hff.symm
    rw[h] at hh
    simp only[Instr.lookup,vm,Sem.run_bind,run_underlying hu w,Result.andThen_ok,jq_ hb,Sem.run_pure,hk.check,hfk,Option.map_some,hg,hh, ↓reduceIte,Option.isSome_some]
 simp only[execOp,Sem.run_bind,hx,hy]
 rw[this];rfl
end
end Go.Sx
namespace Go.Sx
open Go
theorem KeyOk.str {P:Program} {kt:TypeId} (hu:P.underlying kt=some .string):KeyOk P kt vs where
 find encV w k es m h:=by
  simp only[Instr.findKey,Sem.run_bind,run_underlying hu w,Result.andThen_ok]
  rw[ZW_ (encK:=vs) (fun a b=>by simp only[vs,Instr.sameNow,VF_]) k es m 0 h]
  rfl
 check w e k:=by
  unfold Instr.checkKey
  simp only[Sem.run_bind,run_underlying hu w,Result.andThen_ok,vs]
  rfl
 bits k:=by simp only[vs,Instr.sameBits,VF_,beq_self_eq_true]
section
variable {α β:Type} [BEq α] [LawfulBEq α]
variable {encK:α→Value} {encV:β→Value}
omit [LawfulBEq α] in
omit [LawfulBEq α] in
omit [LawfulBEq α] in
variable {P:Program} {w0:World} {f:Fr} {L:zb_} {N:Fr→zb_→Prop} {ops:Array Oper} {rest:List Oper} {md:Md}
 {d:Option Tmp} {ty:TypeId} {ps:String} {af:Array Edge} {g:Option (Nat×Bool)}
omit [LawfulBEq α] in
omit [BEq α] [LawfulBEq α] in
end
section
variable {P:Program} {w0:World} {f:Fr} {L:zb_} {N:Fr→zb_→Prop} {ops:Array Oper} {rest:List Oper} {md:Md}
 {d:Option Tmp} {ty:TypeId} {ps:String} {af:Array Edge} {g:Option (Nat×Bool)}
end
end Go.Sx
namespace Go.Sx
open Go
inductive Qu (L:zb_) (E:TypeId) (m:Nat):Value→Nat→List Value→Prop
 |nl:Qu L E m (.slice none 0 0) 0 []
 |at_ {b n c:Nat} {pre cs rest:List Value} (hl:look L b=some (.cells (pre++ (cs++rest)).toArray E (0,0))) (h1:cs.length=n*m) (h2:rest.length=(c - n)*m) (h3:n≤c) (h4:0<c):Qu L E m (vsl b pre.length n c) n cs
 |used {b off:Nat}:Qu L E m (vsl b off 0 0) 0 []
theorem Gr.qu {L:zb_} {E:TypeId} {m n:Nat} {v:Value} {cs:List Value} (h:Gr L E m v n cs):Qu L E m v n cs:=by
 rcases h with h| ⟨rfl,rfl,b,rfl,hl⟩
 ·cases h with
  |nl=>exact .nl
  |at_ hl h1 h2 h3 h4=>exact Qu.at_ (pre:= []) hl h1 h2 h3 h4
 ·exact .used
theorem Qu.keep {L L':zb_} {E:TypeId} {m n:Nat} {v:Value} {cs:List Value} (h:Qu L E m v n cs) (hk: ∀b o,slB v=some b→look L b=some o→look L' b=some o):Qu L' E m v n cs:=by
 cases h with
 |nl=>exact .nl
 |at_ hl h1 h2 h3 h4=>exact .at_ (hk _ _ rfl hl) h1 h2 h3 h4
 |used=>exact .used
theorem Qu.app {L M:zb_} {E:TypeId} {m n:Nat} {v:Value} {cs:List Value} (h:Qu L E m v n cs):Qu (L++M) E m v n cs:=h.keep fun _ _ _ ho=>z9_ ho
theorem Qu.cell {L:zb_} {E:TypeId} {m n:Nat} {v:Value} {cs:List Value} (h:Qu L E m v n cs):Value.oneCell' v=true∧v.cells= #[v]:=by cases h<;>exact⟨rfl,rfl⟩
theorem Qu.len {L:zb_} {E:TypeId} {m n:Nat} {v:Value} {cs:List Value} (h:Qu L E m v n cs) (x:Bool×Nat):v4_ (.sl x) v=some (vi n):=by cases h<;>rfl
theorem Qu.head {α:Type} {L:zb_} {E:TypeId} {m:Nat} {v:Value} {enc:α→List Value} {x:α} {l:List α} (h:Qu L E m v (l.length+1) ((x::l).map enc).flatten) (hm: ∀x,(enc x).length=m):
  ∃b off arr,look L b=some (.cells arr E (0,0))∧(∀a,zW_ (.sl (a,m)) v (some 0)=some (vp b off))∧zn_ (some (true,m)) (some (.cells arr E (0,0))) off=some (.agg (enc x).toArray):=by
 generalize hn:l.length+1=n at h
 generalize hc: ((x::l).map enc).flatten=cs at h
 cases h with
 |nl=>omega
 |used=>omega
 | @at_ b n c pre cs rest hl h1 h2 h3 h4=>
  refine⟨b,pre.length,_,hl,fun a=> ?_, ?_⟩
  ·have:=qz_ (a,m) b pre.length n c 0 ⟨by omega,by omega⟩
   simpa using this
  ·rw[←hc,List.map_cons,List.flatten_cons,List.append_assoc]
   exact vB_ _ _ _ E (0,0) rfl (hm x)
theorem Qu.tail {α:Type} {L:zb_} {E:TypeId} {m:Nat} {v:Value} {enc:α→List Value} {x:α} {l:List α} (h:Qu L E m v (l.length+1) ((x::l).map enc).flatten) (hm: ∀x,(enc x).length=m):
  ∃v',(∀a,qS_ (.sl (a,m)) v (some (some 1)) none=some v')∧Qu L E m v' l.length (l.map enc).flatten:=by
 generalize hn:l.length+1=n at h
 generalize hc: ((x::l).map enc).flatten=cs at h
 cases h with
 |nl=>omega
 |used=>omega
 | @at_ b n c pre cs rest hl h1 h2 h3 h4=>
  have hb:=ai8_ n c 1 ⟨by omega,by omega⟩
  by_cases h5:c=1
  ·subst h5
   have hl0:l= []:=List.eq_nil_of_length_eq_zero (by omega)
   subst hl0
   refine⟨vsl b pre.length 0 0,fun a=> ?_, .used⟩
   unfold qS_ vsl
   simp only[hb]
   simp;omega
  ·refine⟨vsl b (pre++enc x).length l.length (c - 1),fun a=> ?_, .at_ (pre:=pre++enc x) (rest:=rest) ?_ ?_ ?_ (by omega) (by omega)⟩
   ·unfold qS_ vsl
    simp only[hb]
    rw[if_neg (by simpa using h5)]
    simp[qP_,hm];omega
   ·rw[hl,←hc,List.map_cons,List.flatten_cons];simp
   ·rw[Zz_ hm]
   ·rw[h2];congr 1;omega
section
variable {P:Program} {w0:World} {L:zb_}
variable {f:Fr} {N:Fr→zb_→Prop} {ops:Array Oper} {rest:List Oper} {md:Md}
 {d:Option Tmp} {ty:TypeId} {ps:String} {af:Array Edge} {g:Option (Nat×Bool)}
theorem Ow.callIV {x y:Operand} {name:String} {ts:Array TypeId} {k:FuncId} {t:TypeId} {u a v:Value}
  (hs:zf_ ops f ⟨d, .call ⟨.invoke x name, #[y],ts⟩,ty,ps,af,g⟩=false) (hx:ev f x= .iface t u) (hy:ev f y=a)
  (hm: ∀w,(method (P.types.size+Made.depth) t u name).run P w= .ok (k,u) w)
  (hk: ∀a w,(callFunc k a).run P w= .ok (.enter k a) w) (hc: ∀w,Hp w0 L w→Rets P k #[u,a] w (fun v' D=>v'=v∧D= []))
  (hn:Ow P w0 ops md.next rest (qg_ f d v) L N):
  Ow P w0 ops md (⟨d, .call ⟨.invoke x name, #[y],ts⟩,ty,ps,af,g⟩::rest) f L N:=by
 refine Ow.calm rfl rfl hs (fun w hw=> .inr (.inr ⟨k, #[u,a],w, ?_, ?_⟩)) hn
 ·simp only[execOp,resolve,Sem.run_bind,Sem.run_pure,Result.andThen_ok,invoke,List.map_toArray,List.map_cons,List.map_nil,hx,hy]
  have e0: (#[Value.iface t u]++ [a].toArray:Array Value)[0]? =some (.iface t u):=rfl
  have e1: ((#[Value.iface t u]++ [a].toArray:Array Value).extract 1 (#[Value.iface t u]++ [a].toArray:Array Value).size)= #[a]:=rfl
  rw[e0]
  simp only[e1]
  unfold callMethod
  simp only[Sem.run_bind,program]
  show Result.andThen (Result.andThen (Result.ok P w) _) _=_
  simp only[Result.andThen_ok,hm,hk]
  rfl
 ·refine Calls.mono (hc w hw) ?_
  rintro e w' ⟨v',D,rfl,hp,rfl,rfl⟩
  exact⟨_,_,rfl,hw.trans_nil hp,rfl,rfl⟩
end
theorem acL_ {fs:Array Field} (x:Value): ∀ (es:List MapEntry) (i:Nat),es≠ []→Instr.findNow (.struct fs) x es i=none
 | [],_,h=>absurd rfl h
 |_::_,_,_=>by cases x<;>rfl
theorem KeyOk.struct {α:Type} [BEq α] {P:Program} {kt:TypeId} {fs:Array Field} (hu:P.underlying kt=some (.struct fs)) (enc:α→Value) (he: ∀a b,eqD P 8 kt (enc a) (enc b)=some (a==b))
  (hc: ∀ (w:World) (e:Bool) (k:α),(Instr.checkKey e 10000 kt (enc k)).run P w= .ok () w) (hb: ∀k,Instr.sameBits 10000 (enc k) (enc k)=true):KeyOk P kt enc where
 find encV w k es m h:=by
  cases es with
  |nil=>
   cases m with
   |nil=>simp only[Instr.findKey,Sem.run_bind,run_underlying hu w,Result.andThen_ok];rfl
   |cons=>cases h
  |cons e0 es=>
   simp only[Instr.findKey,Sem.run_bind,run_underlying hu w,Result.andThen_ok]
   rw[acL_ _ _ _ (by simp)]
   exact kY_ (encK:=enc) (fun a b w=>aaC_ P 8 9992 kt _ _ _ (he a b) w) w k _ m 0 h
 check w e k:=hc w e k
 bits k:=hb k
end Go.Sx
namespace Go.Sx
open Go Go.Flo
section
variable {P:Program} {w0:World} {f:Fr} {L:zb_} {N:Fr→zb_→Prop} {ops:Array Oper} {rest:List Oper} {md:Md}
 {d:Option Tmp} {ty:TypeId} {ps:String} {af:Array Edge} {g:Option (Nat×Bool)}
theorem Ow.binR {op:BinOp} {t t':TypeId} {x y:Operand} {u v r:Value} (hs:zf_ ops f ⟨d, .binOp op t x y t',ty,ps,af,g⟩=false) (hx:ev f x=u) (hy:ev f y=v)
  (hr: ∀w,(binOp op t u v).run P w= .ok r w) (hg: ∀w,(eqGuard op t x y u v).run P w= .ok () w)
  (hn:Ow P w0 ops md.next rest (qg_ f d r) L N):Ow P w0 ops md (⟨d, .binOp op t x y t',ty,ps,af,g⟩::rest) f L N:=by
 refine Ow.pureV rfl hs (fun w=> ?_) hn
 simp only[execOp,Sem.run_bind,hx,hy]
 rw[hg,Result.andThen_ok,hr]
 rfl
theorem Ow.unR {op:UnOp} {t:TypeId} {x:Operand} {u r:Value} (hs:zf_ ops f ⟨d, .unOp op t x,ty,ps,af,g⟩=false) (hx:ev f x=u)
  (hr: ∀w,(Op.unary op u).run P w= .ok r w)
  (hn:Ow P w0 ops md.next rest (qg_ f d r) L N):Ow P w0 ops md (⟨d, .unOp op t x,ty,ps,af,g⟩::rest) f L N:=by
 refine Ow.pureV rfl hs (fun w=> ?_) hn
 simp only[execOp,Sem.run_bind,hx]
 rw[hr]
 rfl
theorem Ow.convUF {s dt:TypeId} {x:Operand} {c:UInt8} {md':Md} (he:md.turn=some md') (hsk:zf_ ops f ⟨d, .convert s dt x,ty,ps,af,g⟩=false)
  (hcv:cvT P s dt= .no) (hs:P.underlying s=some (.int .u8)) (hd:P.underlying dt=some (.float .f64)) (hx:ev f x=v8 c)
  (hn:Ow P w0 ops md' rest (qg_ f d (fl (c.toNat:Int))) L N):Ow P w0 ops md (⟨d, .convert s dt x,ty,ps,af,g⟩::rest) f L N:=by
 refine Ow.step he (by simp[jI_,hcv]) hsk fun w hw=> .inl ⟨fl (c.toNat:Int),w,L, ?_,hw,hn⟩
 have hc: (convert s dt (v8 c)).run P w= .ok (fl (c.toNat:Int)) w:=by
  unfold convert
  simp only[v8,Sem.run_bind,run_underlying hs w,run_underlying hd w,Result.andThen_ok]
  rfl
 simp only[execOp,Sem.run_bind,hx,hc]
 rfl
theorem VR_ {t:TypeId} {b n c:Nat} {m:Bool×Nat} (hx:ixT P t= .sl m) (w:World): (Instr.sliceAt t (vsl b 0 n c) none (some (vi 0)) (some (vi 0))).run P w= .ok (vsl b 0 0 0) w:=by
 obtain⟨e,hu,hm⟩:=ab5_ hx
 have hb: (Instr.sliceBounds true n c none (some (vi 0)) (some (vi 0))).run P w= .ok (0,0,0) w:=by
  unfold Instr.sliceBounds
  simp only[Sem.run_bind,x1_ (P:=P) (x:=vi 0) (i:=0) (y:=c) rfl ⟨by omega,by omega⟩,Result.andThen_ok,Int.toNat_zero,x1_ (P:=P) (x:=vi 0) (i:=0) (y:=0) rfl ⟨by omega,by omega⟩,Sem.run_pure]
 simp only[Instr.sliceAt,Instr.slice,vsl,Sem.run_bind,run_underlying hu w,Result.andThen_ok,Sem.run_pure]
 simp only[hb,Result.andThen_ok,zz_ hm w]
 rfl
theorem Ow.slice000 {t:TypeId} {x h m:Operand} {b n c:Nat} {q:Bool×Nat} (hs:zf_ ops f ⟨d, .slice t x none (some h) (some m),ty,ps,af,g⟩=false) (hix:ixT P t= .sl q) (hx:ev f x=vsl b 0 n c) (hh:ev f h=vi 0) (hm:ev f m=vi 0)
  (hn:Ow P w0 ops md.next rest (qg_ f d (vsl b 0 0 0)) L N):Ow P w0 ops md (⟨d, .slice t x none (some h) (some m),ty,ps,af,g⟩::rest) f L N:=by
 refine Ow.pureV rfl hs (fun w=> ?_) hn
 simp only[execOp,Sem.run_bind,hx,Option.map_some,Option.map_none,hh,hm]
 rw[VR_ hix]
 rfl
theorem ajo_ (a b:Int): (some (compare a b)==some Ordering.lt)=decide (a<b):=by
 simp only[compare,compareOfLessAndEq]
 by_cases h1:a<b
 ·rw[if_pos h1,decide_eq_true (by omega)];rfl
 ·by_cases h2:a=b
  ·rw[if_neg h1,if_pos h2,decide_eq_false (by omega)];rfl
  ·rw[if_neg h1,if_neg h2,decide_eq_false (by omega)];rfl
theorem Ow.flss {t t':TypeId} {x y:Operand} {a b:Int} (hs:zf_ ops f ⟨d, .binOp .lss t x y t',ty,ps,af,g⟩=false) (hx:ev f x=fl a) (hy:ev f y=fl b) (ha:a.natAbs<8192) (hb:b.natAbs<8192)
  (hn:Ow P w0 ops md.next rest (qg_ f d (.bool (decide (a<b)))) L N):Ow P w0 ops md (⟨d, .binOp .lss t x y t',ty,ps,af,g⟩::rest) f L N:=by
 refine Ow.binR hs hx hy (fun w=> ?_) (fun w=>rfl) hn
 show Result.ok (Value.bool (FloatKind.f64.format.order (F a) (F b)==some .lt)) w=_
 rw[ord ha hb,ajo_]
end
theorem aeO_ (P:Program) (t:TypeId) (a:Int) (b:Nat):q0_ P .lss t (fl a) (.float .f64 b)=none:=rfl
theorem ac1_ (P:Program) (t:TypeId) (a b a' b':Int):q0_ P .add t (cx a b) (cx a' b')=none:=rfl
theorem acg_ (P:Program) (t:TypeId) (a b a' b':Int):q0_ P .sub t (cx a b) (cx a' b')=none:=rfl
theorem amk_ (a:Int):unV .neg (fl a)=none:=rfl
theorem Qu.appX {P:Program} {w0 w:World} {L:zb_} {E:TypeId} {m n:Nat} {v:Value} {cs:List Value} (h:Qu L E m v n cs) (h1:cs.all Value.oneCell'=true) (hw:Hp w0 L w):AppX P w m v n cs:=by
 cases h with
 |nl=>exact AppX.nil P w m
 |used=>exact⟨rfl,by simp only[vsl,Builtin.firstCells,Nat.zero_mul];rfl,rfl,by simp⟩
 | @at_ b n c pre cs rest hl hc1 hc2 hc3 hc4=>
  refine AppX.block (w0:=w0) (L:=L) (arr:=(pre++ (cs++rest)).toArray) (E:=E) (fz:=(0,0)) (zo_ hl) ?_ ?_ h1 hw
  ·rw[List.size_toArray,List.length_append,List.length_append,hc1];omega
  ·rw[←hc1]
   simp
section
variable {P:Program} {w0:World} {f:Fr} {L:zb_} {N:Fr→zb_→Prop} {ops:Array Oper} {rest:List Oper} {md:Md}
 {d:Option Tmp} {ty:TypeId} {ps:String} {af:Array Edge} {g:Option (Nat×Bool)}
theorem Ow.appendEmX {ts tx e:TypeId} {m:Bool×Nat} {z:Value} {s x:Operand} {b k:Nat} {new:List Value} {dx:TypeDesc} {md':Md} (hsv:ev f s=vsl b 0 0 0) (he:md.turn=some md')
  (hs:zf_ ops f ⟨d, .call ⟨.builtin .append, #[s,x], #[ts,tx]⟩,ty,ps,af,g⟩=false)
  (hu:P.underlying ts=some (.slice e)) (hm:z3_ P e=some m) (hi:xr_ P e=true) (hz:zG_ P e=some z) (hzs:z.cells.size=m.2) (hux:P.underlying tx=some dx) (hnx: ∀k,dx≠ .int k)
  (hX: ∀w,Hp w0 L w→AppX P w m.2 (ev f x) k new) (hbig:2* (0+k)+768≤2^38)
  (hn0:k=0→Ow P w0 ops md' rest (qg_ f d (vsl b 0 0 0)) L N)
  (hn: ∀B v' D,jz_ L B→w0.heap.size≤B→0<k→Buf D e m.2 v' (0+k) ([]++new)→(∀c,c∈keys D→B≤c)→Ow P w0 ops md' rest (qg_ f d v') (D++L) N):
  Ow P w0 ops md (⟨d, .call ⟨.builtin .append, #[s,x], #[ts,tx]⟩,ty,ps,af,g⟩::rest) f L N:=by
 refine Ow.step he rfl hs fun w hw=> ?_
 have hA:jz_ L w.heap.size:=qf_ fun b hb=>hw.lt hb
 have hw':Hp w0 ([]++L) w:=hw
 rcases xM_ (w0:=w) (L:= []) (ty:=ty) (b:=b) (x:=ev f x) (Hp.refl w) hu hm hi hz hzs hux hnx (fun w2 hw2=>hX w2 (by
   have:=hw'.join hw2 (fun c hc=>hc) (fun c hc=> .inl hc)
   exact this)) hbig with⟨hk,hr⟩ | ⟨hk,v',w',D,hr,hD,hb,hg,-⟩
 ·refine .inl ⟨_,w,L, ?_,hw,hn0 hk⟩
  simp only[execOp,resolve,Sem.run_bind,Sem.run_pure,Result.andThen_ok,invoke,builtin,List.map_toArray,List.map_cons,List.map_nil,hsv]
  rw[hr]
  rfl
 ·have h2: ∀c,c∈keys D→w.heap.size≤c:=fun c hc=>(hg.new c hc).elim (fun h=>by cases h) And.right
  refine .inl ⟨v',w',D++L, ?_,hw'.join hD (fun c hc=>by cases hc) (fun c hc=> .inr (h2 c hc)),hn w.heap.size v' D hA hw.size hk hb h2⟩
  simp only[execOp,resolve,Sem.run_bind,Sem.run_pure,Result.andThen_ok,invoke,builtin,List.map_toArray,List.map_cons,List.map_nil,hsv]
  rw[hr]
  rfl
end
end Go.Sx
section
open Go Go.Proofs Go.Sx Go.StP Go.Flo
namespace Go.Proofs
set_option maxRecDepth 10000
set_option maxHeartbeats 400000
set_option linter.unusedSimpArgs false
inductive Tk|e|a|b
 deriving DecidableEq
def tkT:Tk→List UInt8| .e=> [] | .a=> [97] | .b=> [98]
def skR:Tk→Nat→Int| .a,1=>1| .b,2=>2|_,_=>0
def skI:Tk→Nat→Int| .a,1=>6| .b,2=>6|_,_=>0
def skL (x:Tk):List Value:= [cx (skR x 0) (skI x 0),cx (skR x 1) (skI x 1),cx (skR x 2) (skI x 2),cx (skR x 3) (skI x 3)]
theorem wU_ (x:Tk): (skL x).length=4:=rfl
theorem We_ (x:Tk): (skL x).all Value.oneCell'=true:=rfl
theorem cvUF:cvT Tryz.prog 5 200= .no:=id (by kernel_rfl)
set_option linter.defProp false
def xH_:=And.intro (@zv_) (@zu_)
theorem KZ_ (c:UInt8) (w:World) (hc:c=97∨c=98):Rets Tryz.prog 91 #[v8 c] w (fun v D=>v=cx ((c&&&15).toNat:Int) ((c>>>4).toNat:Int)∧D= []):=by
 have f97:zM_ .and (v8 97) (v8 15)=some (v8 1):=by rfl
 have f98:zM_ .and (v8 98) (v8 15)=some (v8 2):=by rfl
 have s97:zM_ .shr (v8 97) (Value.int .u64 4)=some (v8 6):=by rfl
 have s98:zM_ .shr (v8 98) (Value.int .u64 4)=some (v8 6):=by rfl
 refine Rets.enterV Tryz.func91 rfl (rs:= [.tmp 2]) Tryz.results91 Tryz.ntmps91 ?_
 refine kf ?_
 rcases hc with rfl|rfl
 ·first|with_reducible refine ks [] (And.intro @xH_ (And.intro @f97 (@f98))) ?_|refine kp (And.intro @xH_ (And.intro @f97 (@f98))) ?_
  refine Ow.convUF rfl rfl cvUF Tryz.underlying5 Tryz.underlying200 rfl ?_
  refine ko (And.intro @xH_ @s97) ?_
  refine Ow.convUF rfl rfl cvUF Tryz.underlying5 Tryz.underlying200 rfl ?_
  refine Ow.complexB rfl rfl rfl ?_
  refine ko @xH_ ?_
  first|with_reducible refine ks [] @xH_ ?_|refine kp @xH_ ?_
  refine⟨_,(ke @xH_),trivial, ?_⟩
  rfl
 ·first|with_reducible refine ks [] (And.intro @xH_ (And.intro @f97 (@f98))) ?_|refine kp (And.intro @xH_ (And.intro @f97 (@f98))) ?_
  refine Ow.convUF rfl rfl cvUF Tryz.underlying5 Tryz.underlying200 rfl ?_
  refine ko (And.intro @xH_ @s98) ?_
  refine Ow.convUF rfl rfl cvUF Tryz.underlying5 Tryz.underlying200 rfl ?_
  refine Ow.complexB rfl rfl rfl ?_
  refine ko @xH_ ?_
  first|with_reducible refine ks [] @xH_ ?_|refine kp @xH_ ?_
  refine⟨_,(ke @xH_),trivial, ?_⟩
  rfl
theorem negF: ∀k:Fin 8,Op.negFloat .f64 (F (-((k.val:Int)+1)))=F ((k.val:Int)+1):=by decide+kernel
theorem F_0:F 0=0:=by decide+kernel
set_option linter.defProp false
def jy_:=And.intro (And.intro (@zv_) (@zu_)) (And.intro (@aeO_) (@amk_))
theorem fl_0:Value.float .f64 0=fl 0:=by rw[fl,F_0]
theorem VE_ (n:Int) (w:World) (hn:n.natAbs<8):Rets Tryz.prog 131 #[fl n] w (fun v D=>v=vi (n.natAbs:Int)∧D= []):=by
 refine Rets.enterV Tryz.func131 rfl (rs:= [.tmp 2]) Tryz.results131 Tryz.ntmps131 ?_
 refine kf ?_
 first|with_reducible refine ks [] @jy_ ?_|refine kp @jy_ ?_
 have h8:n.natAbs<8192:=by omega
 refine Ow.flss (a:=n) (b:=0) rfl rfl fl_0 h8 (by omega) ?_
 by_cases h:n<0
 ·rw[decide_eq_true h]
  refine ko @jy_ ?_
  first|with_reducible refine ks [] @jy_ ?_|refine kp @jy_ ?_
  refine Ow.unR (r:=fl (n.natAbs:Int)) rfl rfl (fun w=> ?_) ?_
  ·obtain⟨k,rfl⟩: ∃k:Nat,n= -((k:Int)+1):=⟨n.natAbs - 1,by omega⟩
   show Result.ok (Value.float .f64 (Op.negFloat .f64 (F (-((k:Int)+1))))) w=_
   rw[negF ⟨k,by omega⟩]
   have: ((-((k:Int)+1)).natAbs:Int)=(k:Int)+1:=by omega
   rw[this];rfl
  refine ko @jy_ ?_
  first|with_reducible refine ks [] @jy_ ?_|refine kp @jy_ ?_
  refine Ow.convFI rfl rfl cvFI Tryz.underlying200 Tryz.underlying3 rfl (by omega) ?_
  refine ko @jy_ ?_
  first|with_reducible refine ks [] @jy_ ?_|refine kp @jy_ ?_
  refine⟨_,(ke @jy_),trivial, ?_⟩
  rfl
 ·rw[decide_eq_false h]
  refine ko @jy_ ?_
  first|with_reducible refine ks [] @jy_ ?_|refine kp @jy_ ?_
  refine Ow.convFI rfl rfl cvFI Tryz.underlying200 Tryz.underlying3 rfl (by omega) ?_
  refine ko @jy_ ?_
  first|with_reducible refine ks [] @jy_ ?_|refine kp @jy_ ?_
  refine⟨_,(ke @jy_),trivial, ?_⟩
  show vi n=_;congr 1;omega
theorem eqSk (x y:Tk) (w:World): (binOp .eql 113 (.agg (skL x).toArray) (.agg (skL y).toArray)).run Tryz.prog w= .ok (.bool (decide (x=y))) w:=by
 cases x<;>cases y<;>kernel_rfl
theorem eqGk (a b:Operand) (x y:Tk) (w:World): (eqGuard .eql 113 a b (.agg (skL x).toArray) (.agg (skL y).toArray)).run Tryz.prog w= .ok () w:=by
 cases x<;>cases y<;>kernel_rfl
theorem ajk_ (x y:Tk):q0_ Tryz.prog .eql 113 (.agg (skL x).toArray) (.agg (skL y).toArray)=none:=by
 cases x<;>cases y<;>kernel_rfl
theorem WM_ (x:Tk) (E:TypeId):zn_ (some (true,4)) (some (.cells (skL x).toArray E (0,0))) 0=some (.agg (skL x).toArray):=xe_ _ E (0,0) 4 rfl
theorem Xq_ (x:Tk):Value.cells (.agg (skL x).toArray)=(skL x).toArray:=za_ _
def dR (x y:Tk) (k:Nat):Int:=skR x k - skR y k
def dI (x y:Tk) (k:Nat):Int:=skI x k - skI y k
def farK (x y:Tk):Nat→Int
 |0=>0
 |k+1=>farK x y k+ (((dR x y k).natAbs:Int)+ ((dI x y k).natAbs:Int))
theorem ZH_ (x:Tk) (E:TypeId) (k:Nat) (hk:k<4):zn_ (some (false,1)) (some (.cells (skL x).toArray E (0,0))) k=some (cx (skR x k) (skI x k)):=by
 match k,hk with
 |0,_=>rfl
 |1,_=>rfl
 |2,_=>rfl
 |3,_=>rfl
theorem anu_ (x y:Tk) (k:Nat) (hk:k<4) (w:World): (binOp .sub 111 (cx (skR x k) (skI x k)) (cx (skR y k) (skI y k))).run Tryz.prog w= .ok (cx (dR x y k) (dI x y k)) w:=by
 obtain rfl|rfl|rfl|rfl:k=0∨k=1∨k=2∨k=3:=by omega
 all_goals cases x<;>cases y<;>kernel_rfl
theorem ai3_ (x y:Tk) (k:Nat) (hk:k<4): (dR x y k).natAbs<8∧(dI x y k).natAbs<8:=by
 match k,hk with
 |0,_=>cases x<;>cases y<;>decide
 |1,_=>cases x<;>cases y<;>decide
 |2,_=>cases x<;>cases y<;>decide
 |3,_=>cases x<;>cases y<;>decide
theorem aac_ (x y:Tk): ∀k,k≤4→0≤farK x y k∧farK x y k≤16*k
 |0,_=>⟨Int.le_refl _,Int.le_refl _⟩
 |k+1,h=>by
  obtain⟨h1,h2⟩:=aac_ x y k (by omega)
  obtain⟨h3,h4⟩:=ai3_ x y k (by omega)
  show 0≤farK x y k+_∧farK x y k+_≤_
  omega
def farT (x y:Tk):Int:=if x=y then 0 else farK x y 4
structure SkFG where
 k:Nat
set_option linter.defProp false
def qK_:=And.intro (And.intro (And.intro (@WM_) (@Xq_)) (And.intro (@ajk_) (@zv_))) (And.intro (And.intro (@zu_) (@abY_)) (And.intro (@abx_) (@acg_)))
theorem ahj_ (x y:Tk) (w:World):Rets Tryz.prog 118 #[.agg (skL x).toArray, .agg (skL y).toArray] w (fun v D=>v=vi (farT x y)∧D= []):=by
 refine Rets.enterV Tryz.func118 rfl (rs:= [.tmp 4]) Tryz.results118 Tryz.ntmps118 ?_
 refine kf ?_
 first|with_reducible refine ks [] @qK_ ?_|refine kp @qK_ ?_
 refine Ow.box rfl rfl fun b2 hb2 hw2=> ?_
 simp only[zw_,zC_,zB_,za_,List.nil_append,List.cons_append]
 refine Ow.go rfl ?_
 simp(disch:=(first|assumption|omega| (simp only[kk_,kj_,UInt64.reduceToNat];try omega))) only[↓Sx.S0,Sx.S1,Tryz.fx,qK_,Nat.reduceAdd,Nat.reducePow,Int.reducePow,Nat.reduceBEq, ↓reduceIte,UInt8.reduceToNat,UInt16.reduceToNat,UInt32.reduceToNat,UInt64.reduceToNat,Int.reduceToNat]
 refine Ow.box rfl rfl fun b3 hb3 hw3=> ?_
 simp only[zw_,zC_,zB_,za_,List.nil_append,List.cons_append]
 refine Ow.go rfl ?_
 simp(disch:=(first|assumption|omega| (simp only[kk_,kj_,UInt64.reduceToNat];try omega))) only[↓Sx.S0,Sx.S1,Tryz.fx,qK_,Nat.reduceAdd,Nat.reducePow,Int.reducePow,Nat.reduceBEq, ↓reduceIte,UInt8.reduceToNat,UInt16.reduceToNat,UInt32.reduceToNat,UInt64.reduceToNat,Int.reduceToNat]
 obtain⟨h23,-⟩:=hb3
 have r2:zk_ w [(b2,Obj.cells (skL x).toArray 113 (0,0)),(b3, .cells (skL y).toArray 113 (0,0))] b2=some (.cells (skL x).toArray 113 (0,0)):=zp_ _ _ _ _
 have r3:zk_ w [(b2,Obj.cells (skL x).toArray 113 (0,0)),(b3, .cells (skL y).toArray 113 (0,0))] b3=some (.cells (skL y).toArray 113 (0,0)):=by rw[zh_ _ _ _ _ _ (by omega)];exact zp_ _ _ _ _
 first|with_reducible refine ks [] (And.intro @qK_ (And.intro @r2 (@r3))) ?_|refine kp (And.intro @qK_ (And.intro @r2 (@r3))) ?_
 refine Ow.binR (u:= .agg (skL x).toArray) (v:= .agg (skL y).toArray) rfl rfl rfl (eqSk x y) (eqGk _ _ x y) ?_
 by_cases hxy:x=y
 ·rw[decide_eq_true hxy]
  refine ko @qK_ ?_
  first|with_reducible refine ks [] @qK_ ?_|refine kp @qK_ ?_
  refine⟨_,(ke @qK_),⟨hw2,hw3,trivial⟩, ?_⟩
  rw[farT,if_pos hxy];rfl
 ·rw[decide_eq_false hxy]
  refine ko @qK_ ?_
  first|with_reducible refine ks [] (And.intro @qK_ (And.intro @r2 (@r3))) ?_|refine kp (And.intro @qK_ (And.intro @r2 (@r3))) ?_
  refine Cw.loopG (G:=SkFG) [12,13,6,14,15,16,17,18,19,20,7,21,22,23,24,25,26,27,28,29,5,30,11] (fun g=> [(11,vi g.k),(5,vi (farK x y g.k))]) (fun g=> [(b2, .cells (skL x).toArray 113 (0,0)),(b3, .cells (skL y).toArray 113 (0,0))]) (fun g=>g.k≤4) (fun g=>4 - g.k) ⟨0⟩ rfl rfl ?_ ?_
  ·exact Nat.zero_le _
  intro g j hg
  refine kv ?_
  obtain⟨k⟩:=g
  simp only at hg ⊢
  by_cases hlt:k<4
  ·have hd0:decide ((k:Int)<4)=true:=decide_eq_true (by omega)
   have l2:=ZH_ x 113 k hlt
   have l3:=ZH_ y 113 k hlt
   first|with_reducible refine ks [] (And.intro @qK_ @hd0) ?_|refine kp (And.intro @qK_ @hd0) ?_
   refine Cw.regionS [b2,b3] [0,1,3,4,2,5,6,7] [] (by kernel_rfl) (by kernel_rfl) (by kernel_rfl) ?_
   refine kya ?_
   refine kq (And.intro @qK_ (And.intro @l2 (And.intro @l3 (And.intro @r2 (@r3))))) ?_
   refine Ow.binR rfl rfl rfl (anu_ x y k hlt) (fun w=>rfl) ?_
   refine kq @qK_ ?_
   try with_reducible refine Ow.nil ?_
   obtain⟨hs1,hs2⟩:=ai3_ x y k hlt
   have hf:=aac_ x y k hg
   first|with_reducible refine ks [] @qK_ ?_|refine kp @qK_ ?_
   refine Ow.real rfl rfl ?_
   refine Ow.callFV rfl Tryz.call131 (fun w' hw'=>VE_ (dR x y k) w' hs1) ?_
   refine ko @qK_ ?_
   refine Ow.imag rfl rfl ?_
   refine Ow.callFV rfl Tryz.call131 (fun w' hw'=>VE_ (dI x y k) w' hs2) ?_
   refine ko @qK_ ?_
   first|with_reducible refine ks [] @qK_ ?_|refine kp @qK_ ?_
   exact Again.mk ⟨k+1⟩ (by show 4 - (k+1)<4 - k;omega) hlt rfl rfl
  ·obtain rfl:k=4:=by omega
   have hd0:decide ((4:Int)<4)=false:=rfl
   first|with_reducible refine ks [] (And.intro @qK_ @hd0) ?_|refine kp (And.intro @qK_ @hd0) ?_
   refine⟨_,(ke @qK_),⟨hw2,hw3,trivial⟩, ?_⟩
   rw[farT,if_neg hxy];rfl
theorem zrSk:zG_ Tryz.prog 113=some (.agg (skL .e).toArray):=id (by kernel_rfl)
theorem agA_ {w:World} {v:Value} {l:List (List UInt8)} {b off:Nat} {arr:Array Value} {E:TypeId} {fz:Nat×Nat} (h:RowS 1 Kq_ [] w v l b off arr E fz) {k:Nat} (hk:k<l.length) (n:Nat):
  zn_ (some (false,n)) (some (.cells arr E fz)) (off+k*1)=some (vs (l.getD k [])):=by
 have:=h.cell (j:=0) (n:=n) hk (by omega)
 rwa [Nat.add_zero] at this
theorem ab7_ (x y:Tk) (E:TypeId):zi_ (some (true,4)) (some (.cells (skL x).toArray E (0,0))) 0 (.agg (skL y).toArray)=some (.cells (skL y).toArray E (0,0)):=by
 have:=jO_ (skL y) (n:=4) true (skL x).toArray E rfl (We_ y) rfl
 exact this
theorem alK_ (x:Tk) (k:Nat) (hk:k<4) (w:World): (binOp .add 111 (cx (skR .e k) (skI .e k)) (cx (skR x k) (skI x k))).run Tryz.prog w= .ok (cx (skR x k) (skI x k)) w:=by
 obtain rfl|rfl|rfl|rfl:k=0∨k=1∨k=2∨k=3:=by omega
 all_goals cases x<;>kernel_rfl
structure SkOG where
 i:Nat
def tkI (x:Tk) (i:Nat):Tk:=if i=0 then .e else x
set_option linter.defProp false
def qk_:=And.intro (And.intro (@WM_) (@Xq_)) (And.intro (@ac1_) (And.intro (@zv_) (@zu_)))
theorem akL_ (x:Tk) (v:Value) (w:World) (hv:SlV 1 Kq_ [] w v [tkT x]):
  Rets Tryz.prog 50 #[v] w (fun v D=>v= .agg (skL x).toArray∧D= []):=by
 obtain⟨rb,off,arr,E,fz,hr⟩:=hv.row
 have ln: ∀x,v4_ (.sl x) v=some (vi 1):=fun x=>hr.len x
 have ix:=hr.idx false 0 (by simp)
 have ld:=agA_ hr (k:=0) (by simp)
 simp only[Nat.zero_mul,Nat.add_zero,List.getD_cons_zero] at ix ld
 have hrl:=hr.lt (by simp)
 refine Rets.enterV Tryz.func50 rfl (rs:= [.cell 2 113]) Tryz.results50 Tryz.ntmps50 ?_
 refine kf ?_
 first|with_reducible refine ks [] @qk_ ?_|refine kp @qk_ ?_
 refine Ow.alloc rfl rfl zrSk fun b2 hb2 hw2=> ?_
 simp only[za_,List.nil_append,List.cons_append]
 refine ko @qk_ ?_
 first|with_reducible refine ks [] @qk_ ?_|refine kp @qk_ ?_
 refine Ow.alloc rfl rfl zrSk fun b3 hb3 hw3=> ?_
 simp only[za_,List.nil_append,List.cons_append]
 have h23:b2<b3:=ze_ hb3 (by simp[keys])
 refine ko (And.intro @qk_ @ln) ?_
 first|with_reducible refine ks [] (And.intro @qk_ @ln) ?_|refine kp (And.intro @qk_ @ln) ?_
 refine Cw.loopG (G:=SkOG) [10,11,12,5,13,14,15,16,17,6,18,19,20,21,22,23,24,25,26,27,28,29,30,31,32,9] (fun g=> [(9,vi g.i)]) (fun g=> [(b2, .cells (skL .e).toArray 113 (0,0)),(b3, .cells (skL (tkI x g.i)).toArray 113 (0,0))]) (fun g=>g.i≤1) (fun g=>1 - g.i) ⟨0⟩ rfl rfl ?_ ?_
 ·exact Nat.zero_le _
 intro g j hg
 refine kv ?_
 obtain⟨i⟩:=g
 simp only at hg ⊢
 have rd: ∀o3,zk_ w [(b2,Obj.cells (skL .e).toArray 113 (0,0)),(b3,o3)] rb=some (.cells arr E fz):=fun o3=>by
  rw[zh_ _ _ _ _ _ (by omega),zh_ _ _ _ _ _ (by omega),zQ_];exact hr.has (by simp)
 obtain rfl|rfl:i=0∨i=1:=by omega
 ·obtain⟨n,hn⟩: ∃n,n=(tkT x).length:=⟨_,rfl⟩
  have hn1:n≤1:=by rw[hn];cases x<;>decide
  first|with_reducible refine ks [] (And.intro @qk_ (And.intro @ix (And.intro @ld (@rd)))) ?_|refine kp (And.intro @qk_ (And.intro @ix (And.intro @ld (@rd)))) ?_
  refine Cw.loopG (G:=SkOG) [16,17,6,18,19,20,21,22,23,24,25,26,27,28,29,30,31,15] (fun g=> [(15,vi g.i)]) (fun g=> [(b2, .cells (skL .e).toArray 113 (0,0)),(b3, .cells (skL (tkI x g.i)).toArray 113 (0,0))]) (fun g=>g.i≤n) (fun g=>n - g.i) ⟨0⟩ rfl rfl ?_ ?_
  ·exact Nat.zero_le _
  intro g j hg
  refine kv ?_
  obtain⟨k⟩:=g
  simp only at hg ⊢
  by_cases hlt:k<n
  ·obtain rfl:k=0:=by omega
   cases x with
   |e=>subst hn;exact absurd hlt (by decide)
   |a=>
    have r3:zk_ w [(b2,Obj.cells (skL .e).toArray 113 (0,0)),(b3, .cells (skL .e).toArray 113 (0,0))] b3=some (.cells (skL .e).toArray 113 (0,0)):=by rw[zh_ _ _ _ _ _ (by omega)];exact zp_ _ _ _ _
    have e0:tkI .a 0= .e:=rfl
    have hd1:decide (((0:Nat):Int)<1)=true:=rfl
    have eT:tkT .a= [97]:=rfl
    rw[eT,e0]
    first|with_reducible refine ks [] @qk_ ?_|refine kp @qk_ ?_
    refine Cw.regionG [b3] [13] 14 (by kernel_rfl) rfl ?_
    refine kyc ?_
    have gd: ([97]:List UInt8).getD 0 0=97:=rfl
    have gt: (97:UInt8).toNat%4=1:=rfl
    have l3:=ZH_ .e 113 1 (by decide)
    refine OwG.run [0,1,2,3,4,5,6,7,8,9] [true,true,true,true,true,true,true,true,true,true,false,false,false,false] 4 rfl (by kernel_rfl) (by kernel_rfl) fun k hk=> ?_
    refine kya ?_
    refine kp (And.intro @qk_ (And.intro @Md.next_sofnil (And.intro @r3 (And.intro @gd (And.intro @gt (@l3)))))) ?_
    (with_reducible refine hk _ _ _ ?_);clear hk k
    refine OwG.one 10 _ (by kernel_rfl) rfl ?_
    refine Ow.callFV rfl Tryz.call91 (fun w' hw'=>KZ_ 97 w' (.inl rfl)) ?_
    with_reducible refine Ow.nilD ?_
    refine kyb ?_
    refine OwG.rest [11,12,13] rfl (by kernel_rfl) (by kernel_rfl) ?_
    refine kya ?_
    refine kq @qk_ ?_
    refine Ow.binR (r:=cx (skR .a 1) (skI .a 1)) rfl rfl rfl (alK_ .a 1 (by decide)) (fun w=>rfl) ?_
    have eA: ((97:Int)%4)=1:=rfl
    have eB: (97:Nat)%4=1:=rfl
    have st:zi_ (some (false,1)) (some (Obj.cells (skL .e).toArray 113 (0,0))) 1 (cx (skR .a 1) (skI .a 1))=some (.cells (skL .a).toArray 113 (0,0)):=rfl
    refine kq (And.intro @qk_ (And.intro @eA (@eB))) ?_
    refine Ow.store rfl rfl rfl (ke (And.intro @qk_ (And.intro @eA (And.intro @eB (@st))))) ?_
    refine ko @qk_ ?_
    first|with_reducible refine ks [] @qk_ ?_|refine kp @qk_ ?_
    exact Again.mk ⟨1⟩ (by show n - 1<n - 0;omega) (by show 1≤n;omega) rfl rfl
   |b=>
    have r3:zk_ w [(b2,Obj.cells (skL .e).toArray 113 (0,0)),(b3, .cells (skL .e).toArray 113 (0,0))] b3=some (.cells (skL .e).toArray 113 (0,0)):=by rw[zh_ _ _ _ _ _ (by omega)];exact zp_ _ _ _ _
    have e0:tkI .b 0= .e:=rfl
    have hd1:decide (((0:Nat):Int)<1)=true:=rfl
    have eT:tkT .b= [98]:=rfl
    rw[eT,e0]
    first|with_reducible refine ks [] @qk_ ?_|refine kp @qk_ ?_
    refine Cw.regionG [b3] [13] 14 (by kernel_rfl) rfl ?_
    refine kyc ?_
    have gd: ([98]:List UInt8).getD 0 0=98:=rfl
    have gt: (98:UInt8).toNat%4=2:=rfl
    have l3:=ZH_ .e 113 2 (by decide)
    refine OwG.run [0,1,2,3,4,5,6,7,8,9] [true,true,true,true,true,true,true,true,true,true,false,false,false,false] 4 rfl (by kernel_rfl) (by kernel_rfl) fun k hk=> ?_
    refine kya ?_
    refine kp (And.intro @qk_ (And.intro @Md.next_sofnil (And.intro @r3 (And.intro @gd (And.intro @gt (@l3)))))) ?_
    (with_reducible refine hk _ _ _ ?_);clear hk k
    refine OwG.one 10 _ (by kernel_rfl) rfl ?_
    refine Ow.callFV rfl Tryz.call91 (fun w' hw'=>KZ_ 98 w' (.inr rfl)) ?_
    with_reducible refine Ow.nilD ?_
    refine kyb ?_
    refine OwG.rest [11,12,13] rfl (by kernel_rfl) (by kernel_rfl) ?_
    refine kya ?_
    refine kq @qk_ ?_
    refine Ow.binR (r:=cx (skR .b 2) (skI .b 2)) rfl rfl rfl (alK_ .b 2 (by decide)) (fun w=>rfl) ?_
    have eA: ((98:Int)%4)=2:=rfl
    have eB: (98:Nat)%4=2:=rfl
    have st:zi_ (some (false,1)) (some (Obj.cells (skL .e).toArray 113 (0,0))) 2 (cx (skR .b 2) (skI .b 2))=some (.cells (skL .b).toArray 113 (0,0)):=rfl
    refine kq (And.intro @qk_ (And.intro @eA (@eB))) ?_
    refine Ow.store rfl rfl rfl (ke (And.intro @qk_ (And.intro @eA (And.intro @eB (@st))))) ?_
    refine ko @qk_ ?_
    first|with_reducible refine ks [] @qk_ ?_|refine kp @qk_ ?_
    exact Again.mk ⟨1⟩ (by show n - 1<n - 0;omega) (by show 1≤n;omega) rfl rfl
  ·obtain rfl:k=n:=by omega
   have hd:decide ((k:Int)< (k:Int))=false:=by simp
   subst hn
   first|with_reducible refine ks [] (And.intro @qk_ @hd) ?_|refine kp (And.intro @qk_ @hd) ?_
   exact Again.mk ⟨1⟩ (by decide) (Nat.le_refl _) (by cases x<;>rfl) rfl
 ·have hd:decide ((1:Int)<1)=false:=rfl
  have st:=ab7_ .e x 113
  have e1:tkI x 1=x:=rfl
  first|with_reducible refine ks [] (And.intro @qk_ (And.intro @hd (And.intro @st (@e1)))) ?_|refine kp (And.intro @qk_ (And.intro @hd (And.intro @st (@e1)))) ?_
  refine⟨_,(ke @qk_),⟨hw2,hw3,trivial⟩, ?_⟩
  rfl
end Go.Proofs
end
section
open Go Go.Proofs Go.Sx Go.StP Go.Flo
namespace Go.Proofs
set_option maxRecDepth 10000
set_option maxHeartbeats 400000
set_option linter.unusedSimpArgs false
theorem akz_ (x y:Tk):0≤farT x y∧farT x y≤64:=by
 unfold farT
 split
 ·omega
 ·exact aac_ x y 4 (Nat.le_refl _)
theorem agD_ {w:World} {v:Value} {l:List Tk} {b off:Nat} {arr:Array Value} {E:TypeId} {fz:Nat×Nat} (h:RowS 4 skL .e w v l b off arr E fz) {k:Nat} (hk:k<l.length):
  zn_ (some (true,4)) (some (.cells arr E fz)) (off+k*4)=some (.agg (skL (l.getD k .e)).toArray):=h.load wU_ (by decide) hk
structure SkNG where
 i:Nat
 best:Int
 far:Int
 DG:zb_
set_option linter.defProp false
def zq_:=And.intro (And.intro (@WM_) (@Xq_)) (And.intro (@zv_) (And.intro (@zu_) (@ab7_)))
theorem aed_ (s:Tk) (v:Value) (l:List Tk) (w:World) (hv:SlV 4 skL .e w v l) (hl:l.length<1000000):
  Rets Tryz.prog 92 #[.agg (skL s).toArray,v] w (fun r D=>(∃n:Int,r=vi n∧(l.length=1→n=0))∧D= []):=by
 obtain⟨rb,off,arr,E,fz,hr⟩:=hv.row
 have ln:=fun x=>hr.len x
 refine Rets.enterV Tryz.func92 rfl (rs:= [.tmp 4]) Tryz.results92 Tryz.ntmps92 ?_
 refine kf ?_
 first|with_reducible refine ks [] @zq_ ?_|refine kp @zq_ ?_
 refine Ow.box rfl rfl fun b2 hb2 hw2=> ?_
 simp only[zw_,zC_,zB_,za_,List.nil_append,List.cons_append]
 refine Ow.go rfl ?_
 simp(disch:=(first|assumption|omega| (simp only[kk_,kj_,UInt64.reduceToNat];try omega))) only[↓Sx.S0,Sx.S1,Tryz.fx,zq_,Nat.reduceAdd,Nat.reducePow,Int.reducePow,Nat.reduceBEq, ↓reduceIte,UInt8.reduceToNat,UInt16.reduceToNat,UInt32.reduceToNat,UInt64.reduceToNat,Int.reduceToNat]
 first|with_reducible refine ks [] (And.intro @zq_ @ln) ?_|refine kp (And.intro @zq_ @ln) ?_
 refine Cw.loopG (G:=SkNG) [13,14,15,16,8,7,17,18,19,9,20,21,22,23,24,25,26,27,28,5,6,29,12] (fun g=> [(12,vi g.i),(5,vi g.best),(6,vi g.far)]) (fun g=>(b2, .cells (skL s).toArray 113 (0,0))::g.DG) (fun g=>g.i≤l.length∧New w.heap.size g.DG∧0≤g.far∧g.far≤64∧(g.i=0∧g.best= -1∨0<g.i∧0≤g.best∧g.best<g.i)) (fun g=>l.length - g.i) ⟨0,-1,0,[]⟩ rfl rfl ?_ ?_
 ·exact⟨Nat.zero_le _,trivial,by decide,by decide, .inl ⟨rfl,rfl⟩⟩
 intro g j hg
 refine kv ?_
 obtain⟨i,best,far,DG⟩:=g
 simp only at hg ⊢
 obtain⟨hi,hN,hf0,hf1,hb⟩:=hg
 by_cases hlt:i<l.length
 ·have hrl:=hr.lt (by omega)
  have ix:=hr.idx true i hlt
  have ld:=agD_ hr hlt
  have hNN:New w.heap.size ((b2,Obj.cells (skL s).toArray 113 (0,0))::DG):=⟨hw2,hN⟩
  have rd:zk_ w ((b2,Obj.cells (skL s).toArray 113 (0,0))::DG) rb=some (.cells arr E fz):=by rw[z4_ (hNN.not hrl)];exact hr.has (by omega)
  have hd0:decide ((i:Int)< (l.length:Int))=true:=decide_eq_true (by omega)
  generalize l.getD i .e=c at*
  first|with_reducible refine ks [8] (And.intro @zq_ (And.intro @hd0 (And.intro @ix (And.intro @rd (@ld))))) ?_|refine kp (And.intro @zq_ (And.intro @hd0 (And.intro @ix (And.intro @rd (@ld))))) ?_
  refine Ow.alloc rfl rfl zrSk fun b8 hb8 hw8=> ?_
  simp only[za_,List.nil_append,List.cons_append]
  have h28:b2<b8:=ze_ hb8 (by simp[keys])
  refine Ow.permL (M:=(b8, .cells (skL .e).toArray 113 (0,0)):: (b2, .cells (skL s).toArray 113 (0,0))::DG) (by classical exact List.perm_iff_count.2 fun a=>by simp only[List.count_append,List.count_cons,List.count_nil]<;>omega) ?_
  refine ko @zq_ ?_
  refine Ow.callFV rfl Tryz.call118 (fun w' hw'=>ahj_ s c w') ?_
  obtain⟨hq0,hq1⟩:=akz_ s c
  generalize farT s c=q at*
  have hpm: ((b8,Obj.cells (skL c).toArray 113 (0,0)):: (b2, .cells (skL s).toArray 113 (0,0))::DG).Perm ((b2, .cells (skL s).toArray 113 (0,0)):: (b8, .cells (skL c).toArray 113 (0,0))::DG):=List.Perm.swap ..
  have hN8:New w.heap.size ((b8,Obj.cells (skL c).toArray 113 (0,0))::DG):=⟨hw8,hN⟩
  refine ko @zq_ ?_
  rcases hb with⟨hi0,hbm⟩ | ⟨hb0,hb1,hb2'⟩
  ·have d1:decide (best<0)=true:=decide_eq_true (by omega)
   first|with_reducible refine ks [8] (And.intro @zq_ @d1) ?_|refine kp (And.intro @zq_ @d1) ?_
   refine Cw.permL hpm.symm ?_
   first|with_reducible refine ks [] @zq_ ?_|refine kp @zq_ ?_
   exact Again.mk ⟨i+1,i,q,_⟩ (by show l.length - (i+1)<l.length - i;omega) ⟨hlt,hN8,hq0,hq1, .inr ⟨by show 0<i+1;omega,by show(0:Int)≤i;omega,by show(i:Int)< ((i+1:Nat):Int);omega⟩⟩ rfl rfl
  ·have d1:decide (best<0)=false:=decide_eq_false (by omega)
   by_cases hqf:q<far
   ·have d2:decide (q<far)=true:=decide_eq_true hqf
    first|with_reducible refine ks [8] (And.intro @zq_ (And.intro @d1 (@d2))) ?_|refine kp (And.intro @zq_ (And.intro @d1 (@d2))) ?_
    refine Cw.permL hpm.symm ?_
    first|with_reducible refine ks [] @zq_ ?_|refine kp @zq_ ?_
    exact Again.mk ⟨i+1,i,q,_⟩ (by show l.length - (i+1)<l.length - i;omega) ⟨hlt,hN8,hq0,hq1, .inr ⟨by show 0<i+1;omega,by show(0:Int)≤i;omega,by show(i:Int)< ((i+1:Nat):Int);omega⟩⟩ rfl rfl
   ·have d2:decide (q<far)=false:=decide_eq_false hqf
    first|with_reducible refine ks [8] (And.intro @zq_ (And.intro @d1 (@d2))) ?_|refine kp (And.intro @zq_ (And.intro @d1 (@d2))) ?_
    refine Cw.permL hpm.symm ?_
    first|with_reducible refine ks [] @zq_ ?_|refine kp @zq_ ?_
    exact Again.mk ⟨i+1,best,far,_⟩ (by show l.length - (i+1)<l.length - i;omega) ⟨hlt,hN8,hf0,hf1, .inr ⟨by show 0<i+1;omega,hb1,by show best< ((i+1:Nat):Int);omega⟩⟩ rfl rfl
 ·obtain rfl:i=l.length:=by omega
  have hd0:decide ((l.length:Int)< (l.length:Int))=false:=by simp
  first|with_reducible refine ks [] (And.intro @zq_ @hd0) ?_|refine kp (And.intro @zq_ @hd0) ?_
  refine⟨_,(ke @zq_),⟨hw2,hN⟩, ?_⟩
  exact⟨best,rfl,fun h1=>by omega⟩
structure SkAG where
 i:Nat
 v:Value
 X:zb_
 Y:zb_
theorem wg_:zG_ Tryz.prog 3=some (vi 0):=id (by kernel_rfl)
theorem abz_ (x:Tk):xx_ Tryz.prog 110 1 [(0, .agg (skL x).toArray)]=some (113,(skL x).toArray):=qa_ Tryz.underlying110 Tryz.ag113 zrSk (by decide) (wU_ x)
def jc_ (j n:Nat):List Nat:=List.range' j n
theorem acu_ (i:Nat):jc_ 0 (i+1)=jc_ 0 i++ [i]:=by
 unfold jc_;rw[List.range'_concat];simp
theorem vc_ (j n:Nat): (jc_ j n).length=n:=by unfold jc_;simp
theorem W5_ {D:zb_} {v:Value} {i:Nat} (h:Gr D 3 1 v (i+1) (((jc_ 0 i).map kf_).flatten++kf_ i)):Gr D 3 1 v (i+1) ((jc_ 0 (i+1)).map kf_).flatten:=by
 rw[acu_];simpa using h
theorem w0_ {j m k:Nat} (rest:List Value) (E:TypeId) (n:Nat) (hk:k<m):zn_ (some (false,n)) (some (.cells (((jc_ j m).map kf_).flatten++rest).toArray E (0,0))) k=some (vi ((j+k:Nat):Int)):=by
 have e: ((jc_ j m).map kf_).flatten=(jc_ j m).map fun(i:Nat)=>(vi (i:Int)):=by
  generalize jc_ j m=l
  induction l with
  |nil=>rfl
  |cons x r ih=>rw[List.map_cons,List.flatten_cons,ih];rfl
 unfold zn_
 simp only[e]
 rw[List.getElem?_toArray,List.getElem?_append_left (by simp[vc_,hk]),List.getElem?_map]
 unfold jc_
 rw[List.getElem?_range' hk]
 simp
theorem JD_ {u n:Nat} (h:u<n):jc_ u (n - u)=u::jc_ (u+1) (n - u - 1):=by
 unfold jc_
 obtain⟨k,hk⟩: ∃k,n - u=k+1:=⟨n - u - 1,by omega⟩
 rw[hk,List.range'_succ];rfl
theorem Vg_ (j n:Nat): ((jc_ j n).map kf_).flatten.all Value.oneCell'=true:=by
 generalize jc_ j n=l
 induction l with
 |nil=>rfl
 |cons x r ih=>rw[List.map_cons,List.flatten_cons,List.all_append,ih];rfl
structure SkCG where
 i:Nat
 v:Value
 X:zb_
 Y:zb_
structure SkBG where
 j:Nat
 vl:Value
 vo:Value
 XO:zb_
 XL:zb_
 Y:zb_
def al8_ (X:zb_) (v:Value) (j n:Nat):Prop:=(j<n∧Gr X 3 1 v (n - j) ((jc_ j (n - j)).map kf_).flatten)∨(j=n∧ ∀x,v4_ (.sl x) v=some (vi 0))
theorem KG_ (v:Value) (l:List Tk) (w:World) (hv:SlV 4 skL .e w v l) (hl:l.length≤2):
  Rets Tryz.prog 51 #[v] w (XS w [] (fun r D=>GrI D 3 1 r l.length ((jc_ 0 l.length).map kf_).flatten)):=by
 obtain⟨rb,off,arr,E,fz,hr⟩:=hv.row
 have ln:=fun x=>hr.len x
 refine Rets.enterX Tryz.func51 rfl (rs:= [.tmp 2]) Tryz.results51 Tryz.ntmps51 (fun p hp=>by cases hp) (by simp[keys]) ?_
 refine kf ?_
 first|with_reducible refine ks [] (And.intro @zq_ @ln) ?_|refine kp (And.intro @zq_ @ln) ?_
 refine Cw.loopG (G:=SkAG) [14,15,5,16,17,18,19,4,20,13] (fun g=> [(13,vi g.i),(4,g.v)]) (fun g=>g.X++g.Y) (fun g=>g.i≤l.length∧New w.heap.size g.X∧New w.heap.size g.Y∧Gr g.X 3 1 g.v g.i ((jc_ 0 g.i).map kf_).flatten) (fun g=>l.length - g.i) ⟨0, .slice none 0 0,[],[]⟩ rfl rfl ?_ ?_
 ·exact⟨Nat.zero_le _,trivial,trivial,Gr.nl⟩
 intro g j hg
 refine kv ?_
 obtain⟨i,vl,X,Y⟩:=g
 simp only at hg ⊢
 obtain⟨hi,hNX,hNY,hGr⟩:=hg
 by_cases hlt:i<l.length
 ·have hd0:decide ((i:Int)< (l.length:Int))=true:=decide_eq_true (by omega)
  first|with_reducible refine ks [] (And.intro @zq_ @hd0) ?_|refine kp (And.intro @zq_ @hd0) ?_
  refine Ow.buildSlice (e:=3) #[vi i] rfl rfl (by kernel_rfl) fun b9 hb9 hw9=> ?_
  refine Ow.appendXG (e:=3) (k:=1) (new:=kf_ i) (X:=X) vl (List.append_assoc _ _ _) rfl rfl rfl Tryz.underlying47 Tryz.ag3 (by kernel_rfl) wg_ rfl Tryz.underlying47 (by intro k h;cases h) hGr (fun w' hw'=>AppX.one1 (hw'.has b9 (.cells #[vi i] 3 (0,0)) (by simp)) (j0_ _) rfl) (by omega) (fun B3 v3 D3 hA3 hB3 hG3 hk13 hk23 hlk3=> ?_)
  have hN3:New w.heap.size D3:=New.of_le fun c hc=>by
   rcases hk23 c hc with h|h
   ·exact hNX.le c h
   ·omega
  refine ko @zq_ ?_
  first|with_reducible refine ks [] @zq_ ?_|refine kp @zq_ ?_
  exact Again.mk ⟨i+1,v3,D3,Y++ [(b9, .cells #[vi i] 3 (0,0))]⟩ (by show l.length - (i+1)<l.length - i;omega) ⟨hlt,hN3,hNY.app ⟨hw9,trivial⟩,W5_ hG3⟩ rfl rfl
 ·obtain rfl:i=l.length:=by omega
  have hd0:decide ((l.length:Int)< (l.length:Int))=false:=by simp
  first|with_reducible refine ks [] (And.intro @zq_ @hd0) ?_|refine kp (And.intro @zq_ @hd0) ?_
  have hL0:al8_ X vl 0 l.length:=by
   rcases Nat.eq_zero_or_pos l.length with h0|h0
   ·rw[h0] at hGr ⊢
    exact .inr ⟨rfl,fun x=>hGr.len x⟩
   ·exact .inl ⟨h0,hGr⟩
  generalize hnn:l.length=n at*
  clear hGr hd0 hlt hi
  refine Cw.loopG (G:=SkBG) [21,22,23,7,24,25,26,27,28,29,9,30,31,32,33,34,35,36,37,38,39,40,41,42,43,10,44,45,46,47,48,49,50,6,51,52,53,54,3,55,56,57,58,59,60,61,62,63,4] (fun g=> [(4,g.vl),(3,g.vo),(6,vi ((g.j - 1:Nat):Int))]) (fun g=>g.XL++ (g.XO++g.Y)) (fun g=>g.j≤n∧New w.heap.size g.XO∧New w.heap.size g.XL∧New w.heap.size g.Y∧al8_ g.XL g.vl g.j n∧Gr g.XO 3 1 g.vo g.j ((jc_ 0 g.j).map kf_).flatten) (fun g=>n - g.j) ⟨0,vl, .slice none 0 0,[],X,Y⟩ rfl rfl ?_ ?_
  ·exact⟨Nat.zero_le _,trivial,hNX,hNY,hL0,Gr.nl⟩
  intro g j hg
  refine kv ?_
  clear hNX hNY hL0
  obtain⟨u,vl,vo,XO,XL,Y⟩:=g
  simp only at hg ⊢
  obtain⟨hj,hNO,hNX,hNY,hL0,hGO⟩:=hg
  rcases hL0 with⟨hlt,hGL⟩ | ⟨rfl,lnL⟩
  ·have lnL:=fun x=>hGL.len x
   have lnO:=fun x=>hGO.len x
   have d1:decide ((0:Int)< ((n - u:Nat):Int))=true:=decide_eq_true (by omega)
   obtain⟨bl,cl,rl,rfl,hll⟩: ∃b c rest,vl=vsl b 0 (n - u) c∧Sx.look XL b=some (.cells (((jc_ u (n - u)).map kf_).flatten++rest).toArray 3 (0,0)):=by
    rcases hGL with h| ⟨h,-⟩
    ·rcases h.inv with⟨-,h,-⟩ | ⟨b,c,rest,h1,h2,-⟩
     ·omega
     ·exact⟨b,c,rest,h1,h2⟩
    ·omega
   first|with_reducible refine ks [] (And.intro @zq_ (And.intro @lnL (@d1))) ?_|refine kp (And.intro @zq_ (And.intro @lnL (@d1))) ?_
   refine Cw.loopG (G:=SkCG) [27,28,29,9,30,31,32,33,34,35,36,7,37,26] (fun g=> [(26,vi g.i),(7,g.v)]) (fun g=>g.X++ (XL++ (XO++g.Y))) (fun g=>g.i≤n - u∧New w.heap.size g.X∧New w.heap.size g.Y∧Gr g.X 113 4 g.v g.i (((l.drop u).take g.i).map skL).flatten) (fun g=>(n - u) - g.i) ⟨0, .slice none 0 0,[],Y⟩ rfl rfl ?_ ?_
   ·exact⟨Nat.zero_le _,trivial,hNY,Gr.nl⟩
   intro g j hg
   refine kv ?_
   clear hNY
   obtain⟨i,vr,XR,Y⟩:=g
   simp only at hg ⊢
   obtain⟨hi,hNR,hNY,hGR⟩:=hg
   refine Cw.world fun wz hwz=> ?_
   have hnd:=hwz.nodup
   clear hwz wz
   have rdl:zk_ w (XR++ (XL++ (XO++Y))) bl=some (.cells (((jc_ u (n - u)).map kf_).flatten++rl).toArray 3 (0,0)):=zo_ (qC_ hnd (by simp[zF_ hll]))
   by_cases hli:i<n - u
   ·have d2:decide ((i:Int)< ((n - u:Nat):Int))=true:=decide_eq_true (by omega)
    have ixl:=qz_ (false,1) bl 0 (n - u) cl i ⟨by omega,by omega⟩
    have ldl:=w0_ rl 3 (j:=u) (n:=1) hli
    have hlj:u+i<l.length:=by omega
    have ixa:=hr.idx true (u+i) hlj
    have lda:=agD_ hr hlj
    have hrl:=hr.lt (by omega)
    have hNN:New w.heap.size (XR++ (XL++ (XO++Y))):=hNR.app (hNX.app (hNO.app hNY))
    have rda:zk_ w (XR++ (XL++ (XO++Y))) rb=some (.cells arr E fz):=by rw[z4_ (hNN.not hrl)];exact hr.has (by omega)
    simp only[Nat.mul_one,Nat.zero_add] at ixl
    first|with_reducible refine ks [] (And.intro @zq_ (And.intro @d2 (And.intro @ixl (And.intro @ldl (And.intro @rdl (And.intro @ixa (And.intro @lda (@rda)))))))) ?_|refine kp (And.intro @zq_ (And.intro @d2 (And.intro @ixl (And.intro @ldl (And.intro @rdl (And.intro @ixa (And.intro @lda (@rda)))))))) ?_
    refine Ow.buildSlice (e:=113) (skL (l.getD (u+i) .e)).toArray rfl rfl (abz_ _) fun b9 hb9 hw9=> ?_
    refine ko @zq_ ?_
    have hts: (l.drop u).take (i+1)=(l.drop u).take i++ [l.getD (u+i) .e]:=by
     rw[StP.take_snoc (z:= .e) (show i< (l.drop u).length by rw[List.length_drop];omega)]
     congr 2
     simp[List.getD_eq_getElem?_getD,List.getElem?_drop]
    generalize l.getD (u+i) .e=c at*
    refine Ow.appendXG (e:=113) (k:=1) (new:=skL c) (X:=XR) vr (List.append_assoc _ _ _) rfl rfl rfl Tryz.underlying110 Tryz.ag113 (by kernel_rfl) zrSk rfl Tryz.underlying110 (by intro k h;cases h) hGR (fun w' hw'=>AppX.one1 (hw'.has b9 (.cells (skL c).toArray 113 (0,0)) (by simp)) (wU_ _) (We_ _)) (by omega) (fun B3 v3 D3 hA3 hB3 hG3 hk13 hk23 hlk3=> ?_)
    have hN3:New w.heap.size D3:=New.of_le fun c hc=>by
     rcases hk23 c hc with h|h
     ·exact hNR.le c h
     ·omega
    refine ko @zq_ ?_
    first|with_reducible refine ks [] @zq_ ?_|refine kp @zq_ ?_
    refine Again.mk ⟨i+1,v3,D3,Y++ [(b9, .cells (skL c).toArray 113 (0,0))]⟩ (by show n - u - (i+1)<n - u - i;omega) ⟨hli,hN3,hNY.app ⟨hw9,trivial⟩, ?_⟩ (by simp[List.append_assoc]) rfl
    show Gr D3 113 4 v3 (i+1) (((l.drop u).take (i+1)).map skL).flatten
    rw[hts]
    simpa using hG3
   ·obtain rfl:i=n - u:=by omega
    have d2:decide (((n - u:Nat):Int)< ((n - u:Nat):Int))=false:=by simp
    have hlj:u - 1<l.length:=by omega
    have ixa:=hr.idx true (u - 1) hlj
    have lda:=agD_ hr hlj
    have hrl:=hr.lt (by omega)
    have hNN:New w.heap.size (XR++ (XL++ (XO++Y))):=hNR.app (hNX.app (hNO.app hNY))
    have rda:zk_ w (XR++ (XL++ (XO++Y))) rb=some (.cells arr E fz):=by rw[z4_ (hNN.not hrl)];exact hr.has (by omega)
    rw[List.take_of_length_le (by rw[List.length_drop];omega)] at hGR
    first|with_reducible refine ks [] (And.intro @zq_ (And.intro @d2 (And.intro @ixa (And.intro @lda (@rda))))) ?_|refine kp (And.intro @zq_ (And.intro @d2 (And.intro @ixa (And.intro @lda (@rda))))) ?_
    refine Ow.callC rfl rfl Tryz.call92 (fun w' hw'=>Rets.toX (aed_ (l.getD (u - 1) .e) vr (l.drop u) w' (hGR.slM (fun b o hm=>hw'.has b o (by simp[hm])) (by rw[List.length_drop];omega) rfl wU_) (by rw[List.length_drop];omega))) (fun B4 v4 D4 hA4 hB4 hN4 hS4=> ?_)
    obtain⟨rfl,n4,rfl,h4⟩:=hS4
    rw[List.append_nil]
    refine Ow.permL (M:=XO++ (XL++ (XR++Y))) (by classical exact List.perm_iff_count.2 fun a=>by simp only[List.count_append,List.count_cons,List.count_nil]<;>omega) ?_
    refine Ow.world fun wz hwz=> ?_
    have hnd:=hwz.nodup
    clear hwz wz
    have hNY':New w.heap.size (XR++Y):=hNR.app hNY
    generalize XR++Y=Y' at*
    have rdl:zk_ w (XO++ (XL++Y')) bl=some (.cells (((jc_ u (n - u)).map kf_).flatten++rl).toArray 3 (0,0)):=zo_ (qC_ hnd (by simp[zF_ hll]))
    have ix0:=qz_ (false,1) bl 0 (n - u) cl 0 ⟨by omega,by omega⟩
    have ld0:=w0_ rl 3 (j:=u) (n:=1) (show 0<n - u by omega)
    rw[Nat.add_zero] at ld0
    simp only[Int.toNat_zero,Nat.zero_mul,Nat.add_zero] at ix0
    rcases Nat.eq_zero_or_pos u with hu0|hu0
    ·have e1: ((u:Int)==0)=true:=by rw[hu0];rfl
     refine ko (And.intro @zq_ (And.intro @lnO (@e1))) ?_
     first|with_reducible refine ks [] (And.intro @zq_ (And.intro @lnO (And.intro @e1 (And.intro @ix0 (And.intro @rdl (@ld0)))))) ?_|refine kp (And.intro @zq_ (And.intro @lnO (And.intro @e1 (And.intro @ix0 (And.intro @rdl (@ld0)))))) ?_
     refine Ow.buildSlice (e:=3) #[vi u] rfl rfl (by kernel_rfl) fun b9 hb9 hw9=> ?_
     refine Ow.appendXG (e:=3) (k:=1) (new:=kf_ u) (X:=XO) vo (List.append_assoc _ _ _) rfl rfl rfl Tryz.underlying47 Tryz.ag3 (by kernel_rfl) wg_ rfl Tryz.underlying47 (by intro k h;cases h) hGO (fun w' hw'=>AppX.one1 (hw'.has b9 (.cells #[vi u] 3 (0,0)) (by simp)) (j0_ _) rfl) (by omega) (fun B3 v3 D3 hA3 hB3 hG3 hk13 hk23 hlk3=> ?_)
     have hN3:New w.heap.size D3:=New.of_le fun c hc=>by
      rcases hk23 c hc with h|h
      ·exact hNO.le c h
      ·omega
     have hG3':=W5_ hG3
     have hne: ∀q,q∈keys XL→q∉keys D3:=fun q hq hd=>by
      rcases hk23 q hd with h|h
      ·have hnd':=hnd
       rw[zd_,List.nodup_append] at hnd'
       exact hnd'.2.2 q h q (by rw[zd_];exact List.mem_append_left _ hq) rfl
      ·exact Nat.lt_irrefl _ (Nat.lt_of_lt_of_le (ze_ hA3 (by simp only[zd_,List.mem_append];exact .inl (.inr (.inl hq)))) h)
     refine ko @zq_ ?_
     first|with_reducible refine ks [] @zq_ ?_|refine kp @zq_ ?_
     obtain⟨vt,hvt,hqt⟩:=Qu.tail (x:=u) (l:=jc_ (u+1) (n - u - 1)) (enc:=kf_) (m:=1) (L:=XL) (E:=3) (v:=vsl bl 0 (n - u) cl) (by
      rw[←JD_ hlt,vc_,show n - u - 1+1=n - u by omega];exact hGL.qu) j0_
     rw[vc_] at hqt
     have hix:ixT Tryz.prog 47= .sl (false,1):=id (by kernel_rfl)
     refine Cw.regionG [] [] 10 (by kernel_rfl) rfl ?_
     refine kyc ?_
     have hvt':qS_ (.sl (false,1)) (vsl bl 0 (n - u) cl) (some (some ((0:Int)+1))) none=some vt:=hvt false
     refine OwG.run [0,1,2,4,5,6,7] [true,true,true,false,true,true,true,true,false,false] 3 rfl (by kernel_rfl) (by kernel_rfl) fun k hk=> ?_
     refine kya ?_
     refine kp (And.intro @zq_ (And.intro @Md.next_sofnil (@hvt'))) ?_
     (with_reducible refine hk _ _ _ ?_);clear hk k
     refine OwG.one 3 _ (by kernel_rfl) rfl ?_
     refine Ow.slice000 rfl hix rfl rfl rfl ?_
     with_reducible refine Ow.nilD ?_
     refine kyb ?_
     refine OwG.one 8 _ (by kernel_rfl) rfl ?_
     refine Ow.appendEmX (e:=3) (b:=bl) (k:=n - u - 1) (new:=((jc_ (u+1) (n - u - 1)).map kf_).flatten) rfl rfl rfl Tryz.underlying47 Tryz.ag3 (by kernel_rfl) wg_ rfl Tryz.underlying47 (by intro k h;cases h) (fun w' hw'=>Qu.appX (hqt.keep (fun b o hb hl=>(zV_ (hne b (zm_ hl))).trans (z9_ (z9_ hl)))) (Vg_ _ _) hw') (by omega) (fun hk=> ?_) (fun B5 v5 D5 hA5 hB5 hk hb5 hn5=> ?_)
     ·skip
      with_reducible refine Ow.nilD ?_
      refine kyb ?_
      refine OwG.rest [9] rfl (by kernel_rfl) (by kernel_rfl) ?_
      refine kya ?_
      refine kq @zq_ ?_
      try with_reducible refine Ow.nil ?_
      first|with_reducible refine ks [] @zq_ ?_|refine kp @zq_ ?_
      refine Again.mk ⟨u+1,vsl bl 0 0 0,v3,D3,[],XL++Y'++ [(b9, .cells #[vi u] 3 (0,0))]⟩ (by show n - (u+1)<n - u;omega) ⟨hlt,hN3,trivial,(hNX.app hNY').app ⟨hw9,trivial⟩, .inr ⟨by show u+1=n;omega,fun x=>rfl⟩,hG3'⟩ (by simp[List.append_assoc]) rfl
     ·skip
      with_reducible refine Ow.nil ?_
      refine⟨(fun r hr=>by cases hr), ?_⟩
      refine kyb ?_
      refine OwG.rest [9] rfl (by kernel_rfl) (by kernel_rfl) ?_
      refine kya ?_
      refine kq @zq_ ?_
      try with_reducible refine Ow.nil ?_
      first|with_reducible refine ks [] @zq_ ?_|refine kp @zq_ ?_
      refine Again.mk ⟨u+1,v5,v3,D3,D5,XL++Y'++ [(b9, .cells #[vi u] 3 (0,0))]⟩ (by show n - (u+1)<n - u;omega) ⟨hlt,hN3,New.of_le fun c hc=>by have:=hn5 c hc;omega,(hNX.app hNY').app ⟨hw9,trivial⟩, .inl ⟨by show u+1<n;omega, ?_⟩,hG3'⟩ (by simp[List.append_assoc]) rfl
      have:=hb5
      rw[Nat.zero_add,List.nil_append] at this
      exact .inl this
    ·have hn4:n4=0:=h4 (by rw[List.length_drop];omega)
     have e1: ((u:Int)==0)=false:=by rw[beq_eq_false_iff_ne];omega
     rw[hn4]
     refine ko (And.intro @zq_ (And.intro @lnO (@e1))) ?_
     first|with_reducible refine ks [] (And.intro @zq_ (And.intro @lnO (And.intro @e1 (And.intro @ix0 (And.intro @rdl (@ld0)))))) ?_|refine kp (And.intro @zq_ (And.intro @lnO (And.intro @e1 (And.intro @ix0 (And.intro @rdl (@ld0)))))) ?_
     refine Ow.buildSlice (e:=3) #[vi u] rfl rfl (by kernel_rfl) fun b9 hb9 hw9=> ?_
     refine Ow.appendXG (e:=3) (k:=1) (new:=kf_ u) (X:=XO) vo (List.append_assoc _ _ _) rfl rfl rfl Tryz.underlying47 Tryz.ag3 (by kernel_rfl) wg_ rfl Tryz.underlying47 (by intro k h;cases h) hGO (fun w' hw'=>AppX.one1 (hw'.has b9 (.cells #[vi u] 3 (0,0)) (by simp)) (j0_ _) rfl) (by omega) (fun B3 v3 D3 hA3 hB3 hG3 hk13 hk23 hlk3=> ?_)
     have hN3:New w.heap.size D3:=New.of_le fun c hc=>by
      rcases hk23 c hc with h|h
      ·exact hNO.le c h
      ·omega
     have hG3':=W5_ hG3
     have hne: ∀q,q∈keys XL→q∉keys D3:=fun q hq hd=>by
      rcases hk23 q hd with h|h
      ·have hnd':=hnd
       rw[zd_,List.nodup_append] at hnd'
       exact hnd'.2.2 q h q (by rw[zd_];exact List.mem_append_left _ hq) rfl
      ·exact Nat.lt_irrefl _ (Nat.lt_of_lt_of_le (ze_ hA3 (by simp only[zd_,List.mem_append];exact .inl (.inr (.inl hq)))) h)
     refine ko @zq_ ?_
     first|with_reducible refine ks [] @zq_ ?_|refine kp @zq_ ?_
     obtain⟨vt,hvt,hqt⟩:=Qu.tail (x:=u) (l:=jc_ (u+1) (n - u - 1)) (enc:=kf_) (m:=1) (L:=XL) (E:=3) (v:=vsl bl 0 (n - u) cl) (by
      rw[←JD_ hlt,vc_,show n - u - 1+1=n - u by omega];exact hGL.qu) j0_
     rw[vc_] at hqt
     have hix:ixT Tryz.prog 47= .sl (false,1):=id (by kernel_rfl)
     refine Cw.regionG [] [] 10 (by kernel_rfl) rfl ?_
     refine kyc ?_
     have hvt':qS_ (.sl (false,1)) (vsl bl 0 (n - u) cl) (some (some ((0:Int)+1))) none=some vt:=hvt false
     refine OwG.run [0,1,2,4,5,6,7] [true,true,true,false,true,true,true,true,false,false] 3 rfl (by kernel_rfl) (by kernel_rfl) fun k hk=> ?_
     refine kya ?_
     refine kp (And.intro @zq_ (And.intro @Md.next_sofnil (@hvt'))) ?_
     (with_reducible refine hk _ _ _ ?_);clear hk k
     refine OwG.one 3 _ (by kernel_rfl) rfl ?_
     refine Ow.slice000 rfl hix rfl rfl rfl ?_
     with_reducible refine Ow.nilD ?_
     refine kyb ?_
     refine OwG.one 8 _ (by kernel_rfl) rfl ?_
     refine Ow.appendEmX (e:=3) (b:=bl) (k:=n - u - 1) (new:=((jc_ (u+1) (n - u - 1)).map kf_).flatten) rfl rfl rfl Tryz.underlying47 Tryz.ag3 (by kernel_rfl) wg_ rfl Tryz.underlying47 (by intro k h;cases h) (fun w' hw'=>Qu.appX (hqt.keep (fun b o hb hl=>(zV_ (hne b (zm_ hl))).trans (z9_ (z9_ hl)))) (Vg_ _ _) hw') (by omega) (fun hk=> ?_) (fun B5 v5 D5 hA5 hB5 hk hb5 hn5=> ?_)
     ·skip
      with_reducible refine Ow.nilD ?_
      refine kyb ?_
      refine OwG.rest [9] rfl (by kernel_rfl) (by kernel_rfl) ?_
      refine kya ?_
      refine kq @zq_ ?_
      try with_reducible refine Ow.nil ?_
      first|with_reducible refine ks [] @zq_ ?_|refine kp @zq_ ?_
      refine Again.mk ⟨u+1,vsl bl 0 0 0,v3,D3,[],XL++Y'++ [(b9, .cells #[vi u] 3 (0,0))]⟩ (by show n - (u+1)<n - u;omega) ⟨hlt,hN3,trivial,(hNX.app hNY').app ⟨hw9,trivial⟩, .inr ⟨by show u+1=n;omega,fun x=>rfl⟩,hG3'⟩ (by simp[List.append_assoc]) rfl
     ·skip
      with_reducible refine Ow.nil ?_
      refine⟨(fun r hr=>by cases hr), ?_⟩
      refine kyb ?_
      refine OwG.rest [9] rfl (by kernel_rfl) (by kernel_rfl) ?_
      refine kya ?_
      refine kq @zq_ ?_
      try with_reducible refine Ow.nil ?_
      first|with_reducible refine ks [] @zq_ ?_|refine kp @zq_ ?_
      refine Again.mk ⟨u+1,v5,v3,D3,D5,XL++Y'++ [(b9, .cells #[vi u] 3 (0,0))]⟩ (by show n - (u+1)<n - u;omega) ⟨hlt,hN3,New.of_le fun c hc=>by have:=hn5 c hc;omega,(hNX.app hNY').app ⟨hw9,trivial⟩, .inl ⟨by show u+1<n;omega, ?_⟩,hG3'⟩ (by simp[List.append_assoc]) rfl
      have:=hb5
      rw[Nat.zero_add,List.nil_append] at this
      exact .inl this
  ·first|with_reducible refine ks [] (And.intro @zq_ @lnL) ?_|refine kp (And.intro @zq_ @lnL) ?_
   refine⟨_,(ke @zq_), ?_⟩
   exact⟨Ext.of_new (hNX.app (hNO.app hNY)),hGO.i fun p hp=>by simp[hp]⟩
end Go.Proofs
end
section
open Go Go.Proofs Go.Sx Go.StP
namespace Go.Proofs
set_option maxRecDepth 10000
set_option maxHeartbeats 1000000
set_option linter.unusedSimpArgs false
set_option linter.defProp false
end Go.Proofs
end
namespace Go.RooP
open Go Go.Sx
abbrev Il:=List (List UInt8)
def Ris (l:Il):Prop:=l.Pairwise fun a b=>ltB a b=true
theorem Ris.ext: ∀ {a b:Il},Ris a→Ris b→(∀x,x∈a↔x∈b)→a=b
 | [],[],_,_,_=>rfl
 | [],y::b,_,_,h=>by have:=(h y).2 List.mem_cons_self;cases this
 |x::a,[],_,_,h=>by have:=(h x).1 List.mem_cons_self;cases this
 |x::a,y::b,ha,hb,h=>by
  have pa:=List.pairwise_cons.1 ha
  have pb:=List.pairwise_cons.1 hb
  have hxy:x=y:=by
   rcases List.mem_cons.1 ((h x).1 List.mem_cons_self) with e|e
   ·exact e
   ·rcases List.mem_cons.1 ((h y).2 List.mem_cons_self) with e2|e2
    ·exact e2.symm
    ·have h1:=pa.1 y e2
     have h2:=pb.1 x e
     rw[K8_ h1] at h2;cases h2
  subst hxy
  congr 1
  refine Ris.ext pa.2 pb.2 fun z=> ?_
  have hz:=h z
  rw[List.mem_cons,List.mem_cons] at hz
  constructor
  ·intro hm
   rcases hz.1 (.inr hm) with rfl|h3
   ·have:=pa.1 z hm;rw[xo_] at this;cases this
   ·exact h3
  ·intro hm
   rcases hz.2 (.inr hm) with rfl|h3
   ·have:=pb.1 z hm;rw[xo_] at this;cases this
   ·exact h3
end Go.RooP
namespace Go.RefP
open Go Go.Sx
abbrev Pr:=List UInt8×List UInt8
def zp:Pr:=([],[])
def setM (z:List UInt8) (r:Pr) (m:jN_):jN_:=if r.2==z then delV r.1 (updV r.1 r.2 m) else updV r.1 r.2 m
def Ql_ (x:Pr):jN_→Bool→jN_
 | [],dn=>if dn then [] else [x]
 |p::r,dn=>if p.1==x.1 then Ql_ x r dn else if !dn&& !(ltB p.1 x.1||p.1==x.1) then x::p::Ql_ x r true else p::Ql_ x r dn
def setL (z:List UInt8) (l:jN_) (x:Pr):jN_:=Ql_ x l (x.2==z)
def Rising (l:jN_):Prop:=l.Pairwise fun a b=>ltB a.1 b.1=true
def kM_ (m:jN_):Prop:=(m.map Prod.fst).Nodup
theorem Rising.nd {l:jN_} (h:Rising l):kM_ l:=by
 unfold kM_ List.Nodup
 rw[List.pairwise_map]
 exact List.Pairwise.imp (fun hab=>alm_ hab) h
def but (k:List UInt8) (m:jN_):jN_:=m.filter fun p=> !(p.1==k)
theorem Xi_ {k:List UInt8} {m:jN_} (h:k∉m.map Prod.fst):but k m=m:=by
 unfold but
 refine List.filter_eq_self.2 fun p hp=> ?_
 have:p.1≠k:=fun e=>h (List.mem_map.2 ⟨p,hp,e⟩)
 simp[this]
theorem KE_ (k:List UInt8) (m:jN_):k∉ (but k m).map Prod.fst:=by
 intro h
 obtain⟨p,hp,rfl⟩:=List.mem_map.1 h
 simp[but] at hp
theorem wk_ {k v:List UInt8}: ∀ {m:jN_},kM_ m→(updV k v m).Perm ((k,v)::but k m)
 | [],_=>List.Perm.refl _
 |p::r,h=>by
  simp only[kM_,List.map_cons,List.nodup_cons] at h
  unfold updV
  cases hk: (k==p.1)
  ·simp only[Bool.false_eq_true, ↓reduceIte]
   have hk': (p.1==k)=false:=by
    rw[beq_eq_false_iff_ne] at hk ⊢;exact fun e=>hk e.symm
   have ih:=wk_ (k:=k) (v:=v) (m:=r) h.2
   have:but k (p::r)=p::but k r:=by unfold but;rw[List.filter_cons];simp[hk']
   rw[this]
   exact(List.Perm.cons p ih).trans (List.Perm.swap _ _ _)
  ·simp only[↓reduceIte]
   have e:k=p.1:=by simpa using hk
   subst e
   have:but p.1 (p::r)=r:=by
    have h2:=Xi_ h.1
    unfold but at h2 ⊢;rw[List.filter_cons];simp[h2]
   rw[this]
theorem akk_ {k v:List UInt8} {m:jN_} (h:kM_ m):kM_ (updV k v m):=by
 have hp:=(wk_ (k:=k) (v:=v) h).map Prod.fst
 refine(List.Perm.nodup_iff hp).2 ?_
 simp only[List.map_cons,List.nodup_cons]
 refine⟨KE_ k m, ?_⟩
 exact List.Nodup.sublist (List.Sublist.map _ List.filter_sublist) h
theorem afU_ {k:List UInt8}: ∀ {m:jN_},kM_ m→delV k m=but k m
 | [],_=>rfl
 |p::r,h=>by
  simp only[kM_,List.map_cons,List.nodup_cons] at h
  unfold delV
  cases hk: (k==p.1)
  ·have hk': (p.1==k)=false:=by
    rw[beq_eq_false_iff_ne] at hk ⊢;exact fun e=>hk e.symm
   simp only[Bool.false_eq_true, ↓reduceIte,afU_ h.2]
   unfold but;rw[List.filter_cons];simp[hk']
  ·have e:k=p.1:=by simpa using hk
   subst e
   simp only[↓reduceIte]
   have h2:=Xi_ h.1
   unfold but at h2 ⊢;rw[List.filter_cons];simp[h2]
theorem ajt_ {k v:List UInt8} {m:jN_} (h:kM_ m): (but k (updV k v m)).Perm (but k m):=by
 have hp:=(wk_ (k:=k) (v:=v) h).filter fun p=> !(p.1==k)
 have e1:List.filter (fun p=> !(p.1==k)) ((k,v)::but k m)=but k m:=by
  rw[List.filter_cons]
  simp only[beq_self_eq_true,Bool.not_true,Bool.false_eq_true, ↓reduceIte]
  exact Xi_ (KE_ k m)
 rw[e1] at hp
 exact hp
theorem afV_ {z:List UInt8} {r:Pr} {m:jN_} (h:kM_ m): (setM z r m).Perm (if r.2==z then but r.1 m else r::but r.1 m):=by
 unfold setM
 split
 ·rw[afU_ (akk_ h)];exact ajt_ h
 ·exact wk_ h
theorem xj_ (x:Pr): ∀ (l:jN_),Ql_ x l true=but x.1 l
 | []=>rfl
 |p::r=>by
  unfold Ql_
  cases h: (p.1==x.1)
  ·simp only[Bool.false_eq_true, ↓reduceIte,Bool.not_true,Bool.false_and,xj_ x r]
   unfold but;rw[List.filter_cons];simp[h]
  ·simp only[↓reduceIte,xj_ x r]
   unfold but;rw[List.filter_cons];simp[h]
theorem vg_ (x:Pr): ∀ (l:jN_),(Ql_ x l false).Perm (x::but x.1 l)
 | []=>List.Perm.refl _
 |p::r=>by
  unfold Ql_
  cases h: (p.1==x.1)
  ·have e:but x.1 (p::r)=p::but x.1 r:=by unfold but;rw[List.filter_cons];simp[h]
   simp only[Bool.false_eq_true, ↓reduceIte,Bool.not_false,Bool.true_and,Bool.or_false]
   rw[e]
   split
   ·rw[xj_]
   ·exact(List.Perm.cons p (vg_ x r)).trans (List.Perm.swap _ _ _)
  ·have e:but x.1 (p::r)=but x.1 r:=by unfold but;rw[List.filter_cons];simp[h]
   simp only[↓reduceIte]
   rw[e]
   exact vg_ x r
theorem afL_ (z:List UInt8) (l:jN_) (x:Pr): (setL z l x).Perm (if x.2==z then but x.1 l else x::but x.1 l):=by
 unfold setL
 cases x.2==z
 ·exact vg_ x l
 ·rw[xj_];exact List.Perm.refl _
theorem Jz_ {k:List UInt8} {l:jN_} (h:Rising l):Rising (but k l):=List.Pairwise.sublist List.filter_sublist h
theorem adM_ {x p:Pr} {l:jN_} (h:p∈Ql_ x l false):p=x∨p∈l:=by
 have:=(vg_ x l).mem_iff.1 h
 rcases List.mem_cons.1 this with rfl|h2
 ·exact .inl rfl
 ·exact .inr (List.mem_filter.1 h2).1
theorem kS_ (x:Pr): ∀ {l:jN_},Rising l→Rising (Ql_ x l false)
 | [],_=>List.pairwise_singleton _ _
 |p::r,h=>by
  have h':=List.pairwise_cons.1 h
  unfold Ql_
  cases hk: (p.1==x.1)
  ·simp only[Bool.false_eq_true, ↓reduceIte,Bool.not_false,Bool.true_and,Bool.or_false]
   have hne:p.1≠x.1:=by simpa using hk
   cases hl:ltB p.1 x.1
   ·have hx:=wu_ hl hne
    simp only[Bool.not_false, ↓reduceIte]
    rw[xj_]
    refine List.pairwise_cons.2 ⟨?_,List.pairwise_cons.2 ⟨?_,Jz_ h'.2⟩⟩
    ·intro q hq
     rcases List.mem_cons.1 hq with rfl|hq
     ·exact hx
     ·exact kR_ hx (h'.1 q (List.mem_filter.1 hq).1)
    ·intro q hq
     exact h'.1 q (List.mem_filter.1 hq).1
   ·simp only[Bool.not_true,Bool.false_eq_true, ↓reduceIte]
    refine List.pairwise_cons.2 ⟨?_,kS_ x h'.2⟩
    intro q hq
    rcases adM_ hq with rfl|hq
    ·exact hl
    ·exact h'.1 q hq
  ·simp only[↓reduceIte]
   exact kS_ x h'.2
theorem aaT_ {z:List UInt8} {l:jN_} {x:Pr} (h:Rising l):Rising (setL z l x):=by
 unfold setL
 cases x.2==z
 ·exact kS_ x h
 ·rw[xj_];exact Jz_ h
def Rel (m l:jN_):Prop:=m.Perm l∧Rising l
theorem Rel.nd {m l:jN_} (h:Rel m l):kM_ m:=(List.Perm.nodup_iff (h.1.map Prod.fst)).2 h.2.nd
theorem Rel.set {z:List UInt8} {m l:jN_} {x:Pr} (h:Rel m l):Rel (setM z x m) (setL z l x):=by
 refine⟨?_,aaT_ h.2⟩
 have hb: (but x.1 m).Perm (but x.1 l):=h.1.filter _
 refine(afV_ h.nd).trans (List.Perm.trans ?_ (afL_ z l x).symm)
 split
 ·exact hb
 ·exact List.Perm.cons _ hb
def amN_ (nm:List UInt8→Bool) (z:List UInt8) (t:jN_) (g:Nat):Bool:=
 nm (t.getD g zp).1&& !((t.getD g zp).2==z)&& (g==0||ltB (t.getD (g - 1) zp).1 (t.getD g zp).1)
def logL (nm:List UInt8→Bool) (z:List UInt8) (l:jN_) (m0:jN_):Nat→Option jN_
 |0=>some m0
 |g+1=>(logL nm z l m0 g).bind fun m=>if(nm (l.getD g zp).1&&decide ((setL z m (l.getD g zp)).length≤16))=true then some (setL z m (l.getD g zp)) else none
def al0_ (nm:List UInt8→Bool) (z:List UInt8) (t:jN_):Bool:=(List.range t.length).all (amN_ nm z t)
def ofL (nm:List UInt8→Bool) (z:List UInt8) (t l:jN_) (k:Nat):Option jN_:=
 if t.length≤16∧l.length≤100∧al0_ nm z t=true then logL nm z l t k else none
def Vj_ (nm:List UInt8→Bool) (z:List UInt8) (t l:jN_):Bool:=(ofL nm z t l l.length).isSome
theorem XE_ {k v:List UInt8}: ∀ {m:jN_} {p:Pr},p∈updV k v m→p.2=v∨p∈m
 | [],p,h=>by simp only[updV,List.mem_singleton] at h;exact .inl (by rw[h])
 |q::r,p,h=>by
  unfold updV at h
  split at h
  ·rcases List.mem_cons.1 h with rfl|h
   ·exact .inl rfl
   ·exact .inr (List.mem_cons_of_mem _ h)
  ·rcases List.mem_cons.1 h with rfl|h
   ·exact .inr List.mem_cons_self
   ·rcases XE_ h with h|h
    ·exact .inl h
    ·exact .inr (List.mem_cons_of_mem _ h)
theorem abq_ {k:List UInt8}: ∀ {m:jN_} {p:Pr},p∈delV k m→p∈m
 | [],_,h=>h
 |q::r,p,h=>by
  unfold delV at h
  split at h
  ·exact List.mem_cons_of_mem _ h
  ·rcases List.mem_cons.1 h with rfl|h
   ·exact List.mem_cons_self
   ·exact List.mem_cons_of_mem _ (abq_ h)
theorem ahJ_ {z:List UInt8} {r p:Pr} {m:jN_} (h:p∈setM z r m):p.2=r.2∨p∈m:=by
 unfold setM at h
 split at h
 ·exact XE_ (abq_ h)
 ·exact XE_ h
def AllLen (m:jN_):Prop:= ∀p,p∈m→p.2.length=32
theorem AllLen.set {z:List UInt8} {r:Pr} {m:jN_} (h:AllLen m) (hr:r.2.length=32):AllLen (setM z r m):=by
 intro p hp
 rcases ahJ_ hp with e|h2
 ·rw[e];exact hr
 ·exact h p h2
end Go.RefP
section
open Go Go.Proofs Go.Sx Go.RefP Go.RooP
namespace Go.Proofs
set_option maxRecDepth 100000
set_option maxHeartbeats 400000
set_option linter.unusedSimpArgs false
theorem aec_: ∀ (a b:List UInt8),Lib.compareBytes a b=if ltB a b=true then -1 else if ltB b a=true then 1 else 0
 | [],[]=>by simp[Lib.compareBytes,ltB,Op.bytesLess]
 |_::_,[]=>by simp[Lib.compareBytes,ltB,Op.bytesLess]
 | [],_::_=>by simp[Lib.compareBytes,ltB,Op.bytesLess]
 |a::x,b::y=>by
  have ih:=aec_ x y
  unfold Lib.compareBytes
  rw[Z9_,Z9_] at*
  rw[ih]
  simp only[List.cons_lt_cons_iff,decide_eq_true_eq]
  by_cases h1:a<b
  ·simp[h1]
  ·by_cases h2:b<a
   ·have: ¬a=b:=fun e=>by subst e;exact h1 h2
    simp[h1,h2,this]
   ·have:a=b:=UInt8.le_antisymm (UInt8.not_lt.1 h2) (UInt8.not_lt.1 h1)
    subst this
    simp[h1]
theorem vP_ {b:Nat} {E:TypeId} {fz:Nat×Nat} {arr:Array Value} {w:World} (hb:w.heap[b]? =some (.cells arr E fz)): ∀ (l:List UInt8) (off:Nat) (acc:ByteArray),(∀j,j<l.length→arr[off+j]? =some (v8 (l.getD j 0)))→
  (Extern.Bytes.loadBytes ⟨b,off,none⟩ l.length acc).run Tryz.prog w= .ok (acc++ ⟨l.toArray⟩) w
 | [],off,acc,_=>by
  show Result.ok acc w=_
  congr 1
  apply ByteArray.ext
  simp
 |x::l,off,acc,h=>by
  have h0:=h 0 (by simp)
  simp only[Nat.add_zero,List.getD_cons_zero] at h0
  have hc:w.cell? ⟨b,off,none⟩=some (v8 x):=by rw[cell_of_row w b _ arr E fz hb];exact h0
  have hld: (load ⟨b,off,none⟩).run Tryz.prog w= .ok (v8 x) w:=by
   simp only[load,Sem.run,hc]
  rw[List.length_cons,Extern.Bytes.loadBytes,Sem.run_bind,hld,Result.andThen_ok]
  simp only[v8,qP_]
  have e: ((x.toNat:Int).toNat.toUInt8)=x:=by
   rw[Int.toNat_natCast]
   exact UInt8.ofNat_toNat
  rw[e,vP_ hb l (off+1) _ (fun j hj=>by
   have:=h (j+1) (by simpa using hj)
   rw[List.getD_cons_succ] at this
   rw[←this];congr 1;omega)]
  congr 1
  apply ByteArray.ext
  simp
theorem alO_:zG_ Tryz.prog 42=some (.agg (a8 (List.replicate 32 0))):=Tryz.zr42
set_option linter.defProp false
theorem ahA_ (i:IdL):xx_ Tryz.prog 23 1 [(0, .agg (a8 i.l))]=some (42,(jd_ i).toArray):=
 qa_ Tryz.underlying23 Tryz.ag42 alO_ (by decide) (zX_ i)
theorem wo_ (x:IdL) (E:TypeId):zn_ (some (true,32)) (some (.cells (a8 x.l) E (0,0))) 0=some (.agg (a8 x.l)):=wJ_ _ E (0,0) 32 x.h
set_option linter.defProp false
end Go.Proofs
end
section
open Go Go.Proofs Go.Sx Go.StP Go.RooP
namespace Go.Proofs
set_option maxRecDepth 10000
set_option maxHeartbeats 400000
set_option linter.unusedSimpArgs false
structure ObK where
 k:Int
 t:List UInt8
instance:DecidableEq ObK:=fun a b=>if h:a.k=b.k∧a.t=b.t then .isTrue (by cases a;cases b;simp only at h;obtain⟨rfl,rfl⟩:=h;rfl) else .isFalse (fun e=>h (by rw[e];exact⟨rfl,rfl⟩))
def jg_:ObK:=⟨0,[]⟩
def obKV (o:ObK):Value:=obV o.k o.t
abbrev SrcF:=IdL→ObK×Bool
end Go.Proofs
end
section
open Go Go.Proofs Go.Sx Go.StP
namespace Go.Proofs
set_option maxRecDepth 10000
set_option maxHeartbeats 400000
set_option linter.unusedSimpArgs false
def idKV (i:IdL):Value:= .agg (a8 i.l)
theorem ajb_:KeyOk Tryz.prog 42 idKV:=KeyOk.arr Tryz.underlying42 Tryz.underlying5 (id (by kernel_rfl):z3_ Tryz.prog 5=some (false,1)) IdL.l (fun a=>a.h) (fun a b=>by
 rw[Bool.eq_iff_iff,beq_iff_eq,beq_iff_eq]
 exact⟨fun h=>IdL.ext' h,fun h=>by rw[h]⟩)
def kD_ (m:List (IdL×ObK)):SrcF:=fun i=>(Zb_ i jg_ m,hasG i m)
structure SrcAt (w:World) (sv:Value) (m:List (IdL×ObK)) (bx bm:Nat) (om:Obj):Prop where
 sv:sv= .iface 61 (vp bx 0)
 bx:w.heap[bx]? =some (.cells #[vm bm] 64 (0,0))
 bm:w.heap[bm]? =some om
 m:MapG idKV obKV om m
theorem SrcAt.old {w w':World} {L:zb_} {sv:Value} {m:List (IdL×ObK)} {bx bm:Nat} {om:Obj} (h:SrcAt w sv m bx bm om) (hw:Hp w L w') (h1:bx∉keys L) (h2:bm∉keys L):SrcAt w' sv m bx bm om:=
 ⟨h.sv,(hw.old _ (Array.getElem?_eq_some_iff.1 h.bx).1 h1).trans h.bx,(hw.old _ (Array.getElem?_eq_some_iff.1 h.bm).1 h2).trans h.bm,h.m⟩
def SrcW (w:World) (sv:Value) (m:List (IdL×ObK)) (X:zb_):Prop:= ∃bx bm om,SrcAt w sv m bx bm om∧bx∉keys X∧bm∉keys X
theorem SrcW.old {w w':World} {L X:zb_} {sv:Value} {m:List (IdL×ObK)} (h:SrcW w sv m L) (hw:Hp w L w') (hX: ∀c,c∈keys X→c∈keys L):SrcW w' sv m X:=by
 obtain⟨bx,bm,om,h1,h2,h3⟩:=h
 exact⟨bx,bm,om,h1.old hw h2 h3,fun hm=>h2 (hX _ hm),fun hm=>h3 (hX _ hm)⟩
theorem SrcW.ext {w:World} {L X:zb_} {sv:Value} {m:List (IdL×ObK)} (h:SrcW w sv m X) (hL: ∀c,c∈keys L→c∈keys X∨w.heap.size≤c):SrcW w sv m L:=by
 obtain⟨bx,bm,om,h1,h2,h3⟩:=h
 have k1:=(Array.getElem?_eq_some_iff.1 h1.bx).1
 have k2:=(Array.getElem?_eq_some_iff.1 h1.bm).1
 refine⟨bx,bm,om,h1,fun hm=> ?_,fun hm=> ?_⟩
 ·rcases hL _ hm with h|h
  ·exact h2 h
  ·omega
 ·rcases hL _ hm with h|h
  ·exact h3 h
  ·omega
theorem alD_ {n:Nat} {E:zb_} {o:Obj} {Q:Nat→Prop} (h:E= []∨ ∃b,E= [(b,o)]∧n≤b∧Q b):New n E:=by
 rcases h with rfl| ⟨b,rfl,h,-⟩
 ·trivial
 ·exact⟨h,trivial⟩
theorem aiY_ (b:Nat) (n:Nat) (E:TypeId) (fz:Nat×Nat):zn_ (some (false,n)) (some (.cells #[vm b] E fz)) 0=some (vm b):=(rfl)
set_option linter.defProp false
def Zs_:=And.intro (And.intro (And.intro (@jB_) (@jJ_)) (And.intro (@jx_) (And.intro (@jW_) (@Sx.tup2_0)))) (And.intro (And.intro (@Sx.tup2_1) (@zv_)) (And.intro (@zu_) (And.intro (@kq_) (@aiY_))))
theorem afC_ (bx bm:Nat) (om:Obj) (m:List (IdL×ObK)) (i:IdL) (sv:Value) (w:World) (h:SrcAt w sv m bx bm om):
  Rets Tryz.prog 180 #[vp bx 0, .agg (a8 i.l)] w (fun v D=>v= .tuple #[obKV (kD_ m i).1, .bool (kD_ m i).2]∧D= []):=by
 have hbx:=h.bx
 have hbm:=h.bm
 have hlx:=(Array.getElem?_eq_some_iff.1 hbx).1
 have hlm:=(Array.getElem?_eq_some_iff.1 hbm).1
 refine Rets.enterV Tryz.func180 rfl (rs:= [.cell 4 38, .tmp 5]) Tryz.results180 Tryz.ntmps180 ?_
 refine kf ?_
 first|with_reducible refine ks [] @Zs_ ?_|refine kp @Zs_ ?_
 refine Ow.box rfl rfl fun b3 hb3 hw3=> ?_
 simp only[zw_,zC_,zB_,za_,List.nil_append,List.cons_append]
 refine Ow.go rfl ?_
 simp(disch:=(first|assumption|omega| (simp only[kk_,kj_,UInt64.reduceToNat];try omega))) only[↓Sx.S0,Sx.S1,Tryz.fx,Zs_,Nat.reduceAdd,Nat.reducePow,Int.reducePow,Nat.reduceBEq, ↓reduceIte,UInt8.reduceToNat,UInt16.reduceToNat,UInt32.reduceToNat,UInt64.reduceToNat,Int.reduceToNat]
 refine Ow.alloc rfl rfl wb_ fun b4 hb4 hw4=> ?_
 simp only[za_,List.nil_append,List.cons_append]
 have h34:b3<b4:=ze_ hb4 (by simp[keys])
 have hNY:New w.heap.size [(b3,Obj.cells (a8 i.l) 42 (0,0)),(b4, .cells #[vi 0,vs []] 38 (0,0))]:=⟨hw3,hw4,trivial⟩
 have rbx:zk_ w [(b3,Obj.cells (a8 i.l) 42 (0,0)),(b4, .cells #[vi 0,vs []] 38 (0,0))] bx=some (.cells #[vm bm] 64 (0,0)):=by rw[z4_ (hNY.not hlx)];exact hbx
 refine ko @Zs_ ?_
 first|with_reducible refine ks [] @Zs_ ?_|refine kp @Zs_ ?_
 refine Cw.regionD [bx,b3] [10] 9 6 38 11 _ rfl (by kernel_rfl) (by kernel_rfl) rfl (by kernel_rfl) wb_ (fun hD=> ?_)
 refine kyc ?_
 refine OwD.run [0,1,2,3,4] [true,true,true,true,true,false,false,false,false,false,false,false] 6 rfl hD (by kernel_rfl) fun k hk=> ?_
 refine kya ?_
 simp(disch:=(first|assumption|omega| (simp only[kk_,kj_,UInt64.reduceToNat];try omega))) only[↓Sx.S0,Sx.S1,Tryz.fx,Zs_,Nat.reduceAdd,Nat.reducePow,Int.reducePow,Nat.reduceBEq, ↓reduceIte,UInt8.reduceToNat,UInt16.reduceToNat,UInt32.reduceToNat,UInt64.reduceToNat,Int.reduceToNat,Md.next_sofnil,rbx]
 (with_reducible refine hk _ _ _ ?_);clear hk k
 refine OwD.soft 5 _ hD rfl (by kernel_rfl) (fun E hE=> ?_)
 have hNE:=hNY.app (alD_ hE)
 refine Ow.mapGet2G (encK:=idKV) (encV:=obKV) (k:=i) (z:=jg_) rfl rfl Tryz.underlying62 ajb_ wb_ rfl rfl (by rw[z4_ (hNE.not hlm)];exact hbm) h.m ?_
 with_reducible refine Ow.nil ?_
 refine⟨_,List.Perm.refl _,fun _ _=>rfl, ?_⟩
 simp only[List.set_cons_zero,List.set_cons_succ,zK_,qu_,qv_]
 refine OwD.run [6,7,8] [true,true,true,true,true,true,true,true,true,false,false,false] 2 rfl hD (by kernel_rfl) fun k hk=> ?_
 refine kya ?_
 simp(disch:=(first|assumption|omega| (simp only[kk_,kj_,UInt64.reduceToNat];try omega))) only[↓Sx.S0,Sx.S1,Tryz.fx,Zs_,Nat.reduceAdd,Nat.reducePow,Int.reducePow,Nat.reduceBEq, ↓reduceIte,UInt8.reduceToNat,UInt16.reduceToNat,UInt32.reduceToNat,UInt64.reduceToNat,Int.reduceToNat,Md.next_sofnil,Sx.tup2_0,Sx.tup2_1]
 (with_reducible refine hk _ _ _ ?_);clear hk k
 refine OwD.real [10,11] rfl hD (by kernel_rfl) (by kernel_rfl) (by kernel_rfl) (by kernel_rfl) (fun r hr=>by simp only[List.mem_cons,List.not_mem_nil,or_false] at hr;rcases hr with rfl|rfl;exact .inr hlx;exact .inl (by simp[keys])) ?_
 refine kya ?_
 intro b6 hw6 hbL
 simp only[qu_,qv_]
 refine Ow.store rfl rfl rfl (L':= [(b3, .cells (a8 i.l) 42 (0,0)),(b4, .cells #[vi 0,vs []] 38 (0,0))]++ [(b6, .cells #[vi (kD_ m i).1.k,vs (kD_ m i).1.t] 38 (0,0))]) ?_ ?_
 ·simp only[zw_,zC_,zB_]
  have hst:zi_ (some (true,2)) (some (Obj.cells (Value.cells (obV 0 [])) 38 (0,0))) 0 (obKV (Zb_ i jg_ m))=some (.cells #[vi (kD_ m i).1.k,vs (kD_ m i).1.t] 38 (0,0)):=rfl
  rw[Tryz.ag38,j7_,xw_ hbL,hst,xh_,x9_ hbL]
  exact []
 have h63:b3≠b6∧b4≠b6:=by simp[keys] at hbL;omega
 obtain⟨h63,h64⟩:=h63
 simp only[List.cons_append,List.nil_append]
 refine ko @Zs_ ?_
 first|with_reducible refine ks [] @Zs_ ?_|refine kp @Zs_ ?_
 refine⟨_,(ke @Zs_),⟨hw3,hw4,hw6,trivial⟩, ?_⟩
 rfl
end Go.Proofs
end
section
open Go Go.Proofs Go.Sx Go.StP
namespace Go.Proofs
set_option maxRecDepth 10000
set_option maxHeartbeats 400000
set_option linter.unusedSimpArgs false
def SepK (b:Nat) (D E:zb_):Prop:= ∀c,c∈keys E→b<c∧ ∀d,d∈keys D→d<c
theorem SepK.nil {b:Nat} {D:zb_}:SepK b D []:=fun c hc=>by cases hc
theorem SepK.cons {b c:Nat} {o:Obj} {D E:zb_} (h:SepK b D E) (h1:b<c) (h2: ∀d,d∈keys D→d<c):SepK b D ((c,o)::E):=fun x hx=>by
 simp only[keys,List.map_cons,List.mem_cons] at hx
 rcases hx with rfl|hx
 ·exact⟨h1,h2⟩
 ·exact h x hx
theorem SepK.app {b:Nat} {D E F:zb_} (h:SepK b D E) (h2:SepK b D F):SepK b D (E++F):=fun x hx=>by
 rw[zd_,List.mem_append] at hx
 rcases hx with hx|hx
 ·exact h x hx
 ·exact h2 x hx
theorem SepK.grow {b B:Nat} {D E F:zb_} (h:SepK b D E) (hk: ∀c,c∈keys F→c∈keys E∨B≤c) (h1:b<B) (h2: ∀d,d∈keys D→d<B):SepK b D F:=fun x hx=>by
 rcases hk x hx with h'|h'
 ·exact h x h'
 ·exact⟨by omega,fun d hd=>by have:=h2 d hd;omega⟩
theorem SepK.look {b:Nat} {D E:zb_} {c:Nat} {o x:Obj} (h:SepK b D E) (hl:Sx.look E c=some o):Sx.look ((b,x):: (D++E)) c=some o:=by
 have:=h c (zm_ hl)
 rw[z5_ _ _ _ _ (by omega),zV_ (fun hm=>by have:=this.2 c hm;omega)]
 exact hl
set_option linter.defProp false
end Go.Proofs
end
section
open Go Go.Proofs Go.Sx Go.StP
namespace Go.Proofs
set_option maxRecDepth 10000
set_option maxHeartbeats 400000
set_option linter.unusedSimpArgs false
set_option linter.defProp false
set_option linter.defProp false
end Go.Proofs
end
section
open Go Go.Proofs Go.Sx Go.StP
namespace Go.Proofs
set_option maxRecDepth 10000
set_option maxHeartbeats 400000
set_option linter.unusedSimpArgs false
theorem ak8_ (b:Nat) (w:World): (method (Tryz.prog.types.size+Made.depth) 61 (vp b 0) "Get").run Tryz.prog w= .ok (180,vp b 0) w:=by kernel_rfl
set_option linter.defProp false
end Go.Proofs
end
section
open Go Go.Proofs Go.Sx Go.StP
namespace Go.Proofs
set_option maxRecDepth 10000
set_option maxHeartbeats 1000000
set_option linter.unusedSimpArgs false
set_option linter.defProp false
end Go.Proofs
end
namespace Go.Sx
open Go
theorem Ext.perm {w:World} {X D D':zb_} (h:Ext w X D) (hp:D'.Perm D):Ext w X D':=
 ⟨fun c hc=>h.new c ((hp.map Prod.fst).mem_iff.1 hc),fun c hc=>(hp.map Prod.fst).mem_iff.2 (h.all c hc)⟩
section
variable {P:Program} {w0:World} {f:Fr} {L:zb_} {N:Fr→zb_→Prop} {ops:Array Oper} {rest:List Oper} {md:Md} {d:Option Tmp} {ty:TypeId} {ps:String} {af:Array Edge} {g:Option (Nat×Bool)}
end
end Go.Sx
section
open Go Go.Proofs Go.Sx Go.StP
namespace Go.Proofs
set_option maxRecDepth 10000
set_option maxHeartbeats 400000
set_option linter.unusedSimpArgs false
theorem XM_ {L D X:zb_} {B c:Nat} (hA:jz_ L B) (hc:c∈keys L) (hcX:c∉keys X) (hD: ∀q,q∈keys D→q∈keys X∨B≤q):c∉keys D:=fun h=>(hD c h).elim hcX fun hb=>by have:=ze_ hA hc;omega
theorem ZX_ {b:Nat} {x:Obj}: ∀ {L M:zb_},b∉keys L→setB (L++M) b x=L++setB M b x
 | [],_,_=>rfl
 | (c,y)::r,M,h=>by
  simp only[keys,List.map_cons,List.mem_cons,not_or] at h
  rw[List.cons_append,qw_ _ _ _ _ _ (Ne.symm h.1),ZX_ (L:=r) h.2,List.cons_append]
theorem ZE_ {D Y:zb_} {b:Nat} {o x:Obj} (h:b∉keys D):setB (D++ ((b,o)::Y)) b x=D++ ((b,x)::Y):=by rw[ZX_ h,qR_]
theorem jZ_ {D Y:zb_} {b:Nat} {o:Obj} (h:b∉keys D):Sx.look (D++ ((b,o)::Y)) b=some o:=by rw[zV_ h];exact zL_ _ _ _
theorem ZS_ {D Y:zb_} {b c:Nat} {o x:Obj} (h:c∉keys D) (hn:b≠c):Sx.look (D++ ((b,o):: (c,x)::Y)) c=some x:=by rw[zV_ h,z5_ _ _ _ _ hn];exact zL_ _ _ _
set_option linter.defProp false
end Go.Proofs
end
section
open Go Go.Proofs Go.Sx Go.StP Go.RooP
namespace Go.Proofs
set_option maxRecDepth 10000
set_option maxHeartbeats 400000
set_option linter.unusedSimpArgs false
section
variable {α β:Type} [BEq α] [LawfulBEq α]
omit [LawfulBEq α] in
theorem k2_ (k:α) (z:β) (p:α×β) (m:List (α×β)):Zb_ k z (p::m)=if k==p.1 then p.2 else Zb_ k z m:=by
 unfold Zb_
 rw[List.find?_cons]
 cases k==p.1<;>rfl
omit [LawfulBEq α] in
theorem wt_ (k:α) (p:α×β) (m:List (α×β)):hasG k (p::m)=(k==p.1||hasG k m):=rfl
theorem abP_ (k k':α) (v z:β): ∀ (m:List (α×β)),Zb_ k z (Ko_ k' v m)=if k==k' then v else Zb_ k z m
 | []=>by unfold Ko_;rw[k2_]
 |p::m=>by
  have ih:=abP_ k k' v z m
  unfold Ko_
  split
  ·rename_i h
   have e:=eq_of_beq h
   rw[k2_,k2_,←e]
   split<;>rfl
  ·rename_i h
   rw[k2_,k2_,ih]
   by_cases h1: (k==p.1)=true
   ·rw[if_pos h1,if_pos h1,if_neg (fun h2=>h (by rw[←eq_of_beq h2];exact h1))]
   ·rw[if_neg h1,if_neg h1]
theorem ab0_ (k k':α) (v:β): ∀ (m:List (α×β)),hasG k (Ko_ k' v m)=(k==k'||hasG k m)
 | []=>rfl
 |p::m=>by
  have ih:=ab0_ k k' v m
  unfold Ko_
  split
  ·rename_i h
   have e:=eq_of_beq h
   rw[wt_,wt_,←e]
   cases k==k'<;>simp
  ·rw[wt_,wt_,ih]
   cases k==p.1<;>cases k==k'<;>simp
omit [LawfulBEq α] in
end
def rdK (o:ObK):Bool:=kH_ o.k o.t
def idK (o:ObK):IdL:=idV o.k o.t
def addO (m:List (IdL×ObK)) (o:ObK):List (IdL×ObK):=if rdK o=true then Ko_ (idK o) o m else m
def vI_ (l:List ObK):List (IdL×ObK):=l.foldl addO []
theorem wY_ (l:List ObK) (o:ObK):vI_ (l++ [o])=addO (vI_ l) o:=by
 unfold vI_;rw[List.foldl_append];rfl
def srcD (l:List ObK):SrcF:=fun i=>match(l.filter rdK).find? (fun o=>decide (idK o=i)) with|some o=>(o,true) |none=>(jg_,false)
def NoCl (l:List ObK):Prop:= ∀a,a∈l→ ∀b,b∈l→rdK a=true→rdK b=true→idK a=idK b→a=b
theorem NoCl.sub {l l':List ObK} (h:NoCl l) (hs: ∀a,a∈l'→a∈l):NoCl l':=fun a ha b hb=>h a (hs a ha) b (hs b hb)
theorem af0_ {l:List ObK} {i:IdL} {o:ObK} (h: (l.filter rdK).find? (fun o=>decide (idK o=i))=some o):o∈l∧rdK o=true∧idK o=i:=by
 have h1:=List.find?_some h
 have h2:=List.mem_filter.1 (List.mem_of_find?_eq_some h)
 exact⟨h2.1,h2.2,by simpa using h1⟩
theorem abF_ {l:List ObK} (hc:NoCl l): ∀n,n≤l.length→kD_ (vI_ (l.take n))=srcD (l.take n)
 |0,_=>rfl
 |n+1,hn=>by
  have ih:=abF_ hc n (by omega)
  have hs:=StP.take_snoc (z:=jg_) (show n<l.length by omega)
  have hol:l.getD n jg_∈l:=by
   rw[List.getD_eq_getElem?_getD,List.getElem?_eq_getElem (show n<l.length by omega)]
   exact List.getElem_mem _
  rw[hs]
  have hct:=hc.sub (l':=l.take n) fun a ha=>List.mem_of_mem_take ha
  generalize l.getD n jg_=o at*
  have htl: ∀a,a∈l.take n→a∈l:=fun a ha=>List.mem_of_mem_take ha
  generalize l.take n=t at*
  rw[wY_]
  funext i
  have ihi:=congrFun ih i
  unfold addO srcD
  rw[List.filter_append,List.find?_append]
  by_cases hr:rdK o=true
  ·rw[if_pos hr,List.filter_cons,if_pos hr,List.filter_nil]
   have hl:kD_ (Ko_ (idK o) o (vI_ t)) i=if i=idK o then(o,true) else kD_ (vI_ t) i:=by
    unfold kD_
    simp only[abP_,ab0_]
    by_cases h:i=idK o
    ·rw[if_pos h];subst h;simp
    ·have: (i==idK o)=false:=by simpa using h
     rw[if_neg h,this];rfl
   rw[hl]
   by_cases h:i=idK o
   ·rw[if_pos h]
    cases hf: (t.filter rdK).find? (fun p=>decide (idK p=i)) with
    |none=>simp[h]
    |some p=>
     obtain⟨h1,h2,h3⟩:=af0_ hf
     have:p=o:=hc p (htl p h1) o hol h2 hr (h3.trans h)
     simp[this]
   ·rw[if_neg h,ihi]
    have h': ¬idK o=i:=fun e=>h e.symm
    have: [o].find? (fun p=>decide (idK p=i))=none:=by simp[h']
    rw[this,Option.or_none]
    rfl
  ·rw[if_neg hr,List.filter_cons,if_neg hr,List.filter_nil,ihi,List.find?_nil,Option.or_none]
   rfl
theorem agl_ {l:List ObK} (hc:NoCl l):kD_ (vI_ l)=srcD l:=by
 have:=abF_ hc l.length (Nat.le_refl _)
 rwa [List.take_length] at this
end Go.Proofs
end
namespace Go.Proofs
end Go.Proofs
section
open Go Go.Proofs Go.Sx Go.StP Go.RefP Go.RooP Go.Shelf Go.Sort
namespace Go.Proofs
set_option maxRecDepth 100000
set_option maxHeartbeats 400000
set_option linter.unusedSimpArgs false
set_option linter.defProp false
end Go.Proofs
end
section
open Go Go.Proofs Go.Sx Go.StP Go.RefP Go.RooP Go.Shelf Go.Sort
namespace Go.Proofs
set_option maxRecDepth 100000
set_option maxHeartbeats 4000000
set_option linter.unusedSimpArgs false
set_option linter.defProp false
theorem ltId (x y:IdL):ltOf (fun x y:IdL=>Lib.compareBytes x.l y.l) x y=ltB x.l y.l:=by
 unfold ltOf
 simp only[aec_]
 cases h:ltB x.l y.l
 ·cases h2:ltB y.l x.l<;>simp
 ·simp
end Go.Proofs
end
section
open Go Go.Proofs Go.Sx Go.StP Go.RooP
namespace Go.Proofs
set_option maxRecDepth 10000
set_option maxHeartbeats 400000
set_option linter.unusedSimpArgs false
def RowX {α:Type} (m:Nat) (enc:α→List Value) (z:α) (w:World) (v:Value) (l:List α) (X:zb_):Prop:= ∃b off arr E fz,RowS m enc z w v l b off arr E fz∧(0<l.length→b∉keys X)
theorem RowX.old {α:Type} {m:Nat} {enc:α→List Value} {z:α} {w w':World} {v:Value} {l:List α} {L X:zb_} (h:RowX m enc z w v l L) (hw:Hp w L w') (hX: ∀c,c∈keys X→c∈keys L):RowX m enc z w' v l X:=by
 obtain⟨b,off,arr,E,fz,hr,hb⟩:=h
 exact⟨b,off,arr,E,fz,hr.old hw hb,fun h0 hm=>hb h0 (hX _ hm)⟩
theorem RowX.ext {α:Type} {m:Nat} {enc:α→List Value} {z:α} {w:World} {v:Value} {l:List α} {L X:zb_} (h:RowX m enc z w v l X) (hL: ∀c,c∈keys L→c∈keys X∨w.heap.size≤c):RowX m enc z w v l L:=by
 obtain⟨b,off,arr,E,fz,hr,hb⟩:=h
 refine⟨b,off,arr,E,fz,hr,fun h0 hm=> ?_⟩
 rcases hL _ hm with h1|h1
 ·exact hb h0 h1
 ·have:=hr.lt h0;omega
theorem SlV.rowX {α:Type} {m:Nat} {enc:α→List Value} {z:α} {w:World} {v:Value} {l:List α} (h:SlV m enc z w v l):RowX m enc z w v l []:=by
 obtain⟨b,off,arr,E,fz,hr⟩:=h.row
 exact⟨b,off,arr,E,fz,hr,fun _ hm=>by cases hm⟩
theorem SrcW.mem {w:World} {L:zb_} {sv:Value} {m:List (IdL×ObK)} (h:SrcW w sv m []) {_bx:Nat} (_:True) (hL:New w.heap.size L):SrcW w sv m L:=h.ext fun c hc=> .inr (hL.le c hc)
theorem aht_ {w:World} {X D E:zb_} (h:Ext w X D) (hN:New w.heap.size E):Ext w X (D++E):=⟨fun c hc=>by
  rw[zd_] at hc
  exact(List.mem_append.1 hc).elim (h.new c) fun hc=> .inr (hN.le c hc),fun c hc=>by rw[zd_];exact List.mem_append_left _ (h.all c hc)⟩
set_option linter.defProp false
set_option linter.defProp false
end Go.Proofs
end
section
open Go Go.Proofs Go.Sx Go.StP Go.RooP
namespace Go.Proofs
set_option maxRecDepth 10000
set_option maxHeartbeats 400000
set_option linter.unusedSimpArgs false
set_option linter.defProp false
def qm_ (o:ObK):List Value:= [vi o.k,vs o.t]
theorem z8_ (o:ObK): (qm_ o).length=2:=rfl
theorem xJ_ (o:ObK): (qm_ o).all Value.oneCell'=true:=rfl
theorem kx_ {w:World} {v:Value} {l:List ObK} {b off:Nat} {arr:Array Value} {E:TypeId} {fz:Nat×Nat} (h:RowS 2 qm_ jg_ w v l b off arr E fz) {k:Nat} (hk:k<l.length):
  zn_ (some (true,2)) (some (.cells arr E fz)) (off+k*2)=some (obV (l.getD k jg_).k (l.getD k jg_).t):=RowS.load h z8_ (by omega) hk
def srcP (l:List ObK):SrcF:=fun i=>match l.find? (fun o=>decide (idK o=i)) with|some o=>(o,true) |none=>(jg_,false)
theorem akr_ (l:List ObK):srcP (l.filter rdK)=srcD l:=rfl
theorem kU_ (a b:Value) (E:TypeId) (n:Nat) (fz:Nat×Nat):zn_ (some (false,n)) (some (.cells #[a,b] E fz)) 0=some a:=(rfl)
theorem ve_ (a b:Value) (E:TypeId) (n:Nat) (fz:Nat×Nat):zn_ (some (false,n)) (some (.cells #[a,b] E fz)) 1=some b:=(rfl)
theorem VA_ (a b:Value) (E:TypeId) (fz:Nat×Nat):zn_ (some (true,2)) (some (.cells #[a,b] E fz)) 0=some (.agg #[a,b]):=(rfl)
theorem xA_ (x y:Int) (s t:List UInt8) (E:TypeId):zi_ (some (true,2)) (some (Obj.cells #[vi x,vs s] E (0,0))) 0 (obV y t)=some (.cells #[vi y,vs t] E (0,0)):=(rfl)
set_option linter.defProp false
def z1_:=And.intro (And.intro (And.intro (@zv_) (@zu_)) (And.intro (@aiJ_) (@aj8_))) (And.intro (And.intro (@wo_) (@kU_)) (And.intro (@ve_) (And.intro (@xA_) (@jB_))))
theorem afI_ (vL vI:Value) (l:List ObK) (i:IdL) (w:World) (hL:RowX 2 qm_ jg_ w vL l []) (hI:RowX 32 jd_ id0 w vI (l.map idK) []) (hl:l.length<1000000):
  Rets Tryz.prog 11 #[.agg #[vL,vI], .agg (a8 i.l)] w (fun v D=>v= .tuple #[obKV (srcP l i).1, .bool (srcP l i).2]∧D= []):=by
 obtain⟨b1,off1,arr1,E1,fz1,hr1,-⟩:=hL
 obtain⟨b2,off2,arr2,E2,fz2,hr2,-⟩:=hI
 have ln2:=fun x=>hr2.len x
 rw[List.length_map] at ln2
 have hi:=i.h
 refine Rets.enterV Tryz.func11 rfl (rs:= [.cell 4 38, .tmp 5]) Tryz.results11 Tryz.ntmps11 ?_
 refine kf ?_
 first|with_reducible refine ks [] @z1_ ?_|refine kp @z1_ ?_
 refine Ow.box rfl rfl fun b3 hb3 hw3=> ?_
 simp only[zw_,zC_,zB_,za_,List.nil_append,List.cons_append]
 refine Ow.go rfl ?_
 simp(disch:=(first|assumption|omega| (simp only[kk_,kj_,UInt64.reduceToNat];try omega))) only[↓Sx.S0,Sx.S1,Tryz.fx,z1_,Nat.reduceAdd,Nat.reducePow,Int.reducePow,Nat.reduceBEq, ↓reduceIte,UInt8.reduceToNat,UInt16.reduceToNat,UInt32.reduceToNat,UInt64.reduceToNat,Int.reduceToNat]
 refine Ow.box rfl rfl fun b4 hb4 hw4=> ?_
 simp only[zw_,zC_,zB_,za_,List.nil_append,List.cons_append]
 refine Ow.go rfl ?_
 simp(disch:=(first|assumption|omega| (simp only[kk_,kj_,UInt64.reduceToNat];try omega))) only[↓Sx.S0,Sx.S1,Tryz.fx,z1_,Nat.reduceAdd,Nat.reducePow,Int.reducePow,Nat.reduceBEq, ↓reduceIte,UInt8.reduceToNat,UInt16.reduceToNat,UInt32.reduceToNat,UInt64.reduceToNat,Int.reduceToNat]
 obtain⟨h34,-⟩:=hb4
 refine Ow.alloc rfl rfl wb_ fun b5 hb5 hw5=> ?_
 simp only[za_,List.nil_append,List.cons_append]
 obtain⟨h35,h45,-⟩:=hb5
 refine ko @z1_ ?_
 first|with_reducible refine ks [] @z1_ ?_|refine kp @z1_ ?_
 refine Cw.loopG (G:=Nat) [7,8,9,10,11,14,15,16,17,18,19,20,21,22,23,24,25,5,12,13,6] (fun g=> [(6,vi g)]) (fun g=> [(b3, .cells #[vL,vI] 29 (0,0)),(b4, .cells (a8 i.l) 42 (0,0)),(b5, .cells #[vi 0,vs []] 38 (0,0))]) (fun g=>g≤l.length∧srcP l i=srcP (l.drop g) i) (fun g=>l.length - g) 0 rfl rfl ?_ ?_
 ·exact⟨Nat.zero_le _,rfl⟩
 intro k jk hk
 refine kv ?_
 obtain⟨h1,h2⟩:=hk
 rw[h2]
 by_cases hk:k<l.length
 ·have hk2:k< (l.map idK).length:=by rw[List.length_map];exact hk
  have hl2:=hr2.lt (by omega)
  have hl1:=hr1.lt (by omega)
  have r1: ∀x y z,zk_ w [(b3,x),(b4,y),(b5,z)] b1=some (.cells arr1 E1 fz1):=fun x y z=>by rw[zh_ _ _ _ _ _ (by omega),zh_ _ _ _ _ _ (by omega),zh_ _ _ _ _ _ (by omega),zQ_];exact hr1.has (by omega)
  have r2: ∀x y z,zk_ w [(b3,x),(b4,y),(b5,z)] b2=some (.cells arr2 E2 fz2):=fun x y z=>by rw[zh_ _ _ _ _ _ (by omega),zh_ _ _ _ _ _ (by omega),zh_ _ _ _ _ _ (by omega),zQ_];exact hr2.has (by omega)
  have i1:=hr1.idx true k hk
  have l1:=kx_ hr1 hk
  have i2:=hr2.idx true k hk2
  have l2:=QE_ hr2 hk2
  have eg: (l.map idK).getD k id0=idK (l.getD k jg_):=by
   rw[List.getD_eq_getElem?_getD,List.getD_eq_getElem?_getD,List.getElem?_eq_getElem hk2,List.getElem?_eq_getElem hk];simp
  rw[eg] at l2
  have hdr:=StP.drop_cons (z:=jg_) hk
  have d1:decide ((k:Int)< (l.length:Int))=true:=decide_eq_true (by omega)
  generalize l.getD k jg_=o at*
  have hsp:srcP (l.drop k) i=if idK o=i then(o,true) else srcP (l.drop (k+1)) i:=by
   rw[hdr]
   unfold srcP
   rw[List.find?_cons]
   by_cases h:idK o=i<;>simp[h]
  first|with_reducible refine ks [] (And.intro @z1_ (And.intro @ln2 (@d1))) ?_|refine kp (And.intro @z1_ (And.intro @ln2 (@d1))) ?_
  refine Cw.regionS [b3,b4,b2] [0,2,1,3,4,5,6] [] (by kernel_rfl) (by kernel_rfl) (by kernel_rfl) ?_
  refine kya ?_
  refine kq (And.intro @z1_ (And.intro @i2 (And.intro @r2 (@l2)))) ?_
  cases hq: ((idK o).l==i.l)
  ·have e: ¬idK o=i:=fun h=>by rw[h] at hq;simp at hq
   rw[if_neg e] at hsp
   first|with_reducible refine ks [] @z1_ ?_|refine kp @z1_ ?_
   exact Again.mk (k+1) (by omega) ⟨hk,hsp⟩ rfl rfl
  ·have e:idK o=i:=IdL.ext' (eq_of_beq hq)
   rw[if_pos e] at hsp
   rw[hsp]
   first|with_reducible refine ks [] (And.intro @z1_ (And.intro @i1 (And.intro @r1 (@l1)))) ?_|refine kp (And.intro @z1_ (And.intro @i1 (And.intro @r1 (@l1)))) ?_
   refine⟨_,(ke @z1_),⟨hw3,hw4,hw5,trivial⟩, ?_⟩
   rfl
 ·obtain rfl:k=l.length:=by omega
  have d1:decide ((l.length:Int)< (l.length:Int))=false:=by simp
  have hsp:srcP (l.drop l.length) i=(jg_,false):=by rw[List.drop_length];rfl
  rw[hsp]
  first|with_reducible refine ks [] (And.intro @z1_ (And.intro @ln2 (@d1))) ?_|refine kp (And.intro @z1_ (And.intro @ln2 (@d1))) ?_
  refine Ow.build (obV 0 []) rfl QG_ ?_
  refine ko @z1_ ?_
  refine⟨_,(ke @z1_),⟨hw3,hw4,hw5,trivial⟩, ?_⟩
  rfl
theorem akF_ {o:ObK} (h:rdK o=true):Dig.shaR (ww_ o.k o.t)=(idK o).l:=by
 have h':kH_ o.k o.t=true:=h
 have e:idK o=⟨Dig.shaR (qM_ o.k o.t),ZA_ _⟩:=if_pos h'
 rw[e]
 exact congrArg Dig.shaR (ae8_ h')
theorem j6_ (o:ObK):xx_ Tryz.prog 22 1 [(0,obV o.k o.t)]=some (38,(qm_ o).toArray):=
 qa_ Tryz.underlying22 Tryz.ag38 wb_ (by decide) (z8_ o)
theorem acI_:buildV (xY_ Tryz.prog 29) (zG_ Tryz.prog 29) []=some (.agg #[.slice none 0 0, .slice none 0 0]):=id (by kernel_rfl)
theorem ajj_:zG_ Tryz.prog 29=some (.agg #[.slice none 0 0, .slice none 0 0]):=id (by kernel_rfl)
theorem JJ_ (a b v:Value) (E:TypeId) (h:Value.oneCell' v=true∧v.cells= #[v]):zi_ (some (false,1)) (some (.cells #[a,b] E (0,0))) 0 v=some (.cells #[v,b] E (0,0)):=by
 simp[zi_,h,kZ_]
theorem JX_ (a b v:Value) (E:TypeId) (h:Value.oneCell' v=true∧v.cells= #[v]):zi_ (some (false,1)) (some (.cells #[a,b] E (0,0))) 1 v=some (.cells #[a,v] E (0,0)):=by
 simp[zi_,h,kZ_]
theorem Jy_ (E:TypeId):zi_ (some (true,2)) (some (.cells #[.slice none 0 0, .slice none 0 0] E (0,0))) 0 (.agg #[.slice none 0 0, .slice none 0 0])=some (.cells #[.slice none 0 0, .slice none 0 0] E (0,0)):=(rfl)
theorem J9_ (a b x y:Value) (E:TypeId) (hx:Value.oneCell' x=true) (hy:Value.oneCell' y=true):zi_ (some (true,2)) (some (.cells #[a,b] E (0,0))) 0 (.agg #[x,y])=some (.cells #[x,y] E (0,0)):=by
 simp[zi_,hx,hy,kZ_,za_]
structure MkOdG where
 i:Nat
 vL:Value
 vI:Value
 DL:zb_
 DI:zb_
 DG:zb_
def flK (l:List ObK) (i:Nat):List ObK:=(l.take i).filter rdK
theorem alu_ (l:List ObK) (i:Nat): (flK l i).length≤i:=Nat.le_trans (List.length_filter_le _ _) (by rw[List.length_take];omega)
theorem akw_ {l:List ObK} {i:Nat} (h:i<l.length):flK l (i+1)=if rdK (l.getD i jg_)=true then flK l i++ [l.getD i jg_] else flK l i:=by
 unfold flK
 rw[StP.take_snoc (z:=jg_) h,List.filter_append]
 generalize l.getD i jg_=o
 by_cases hr:rdK o=true
 ·rw[if_pos hr,List.filter_cons,if_pos hr];rfl
 ·rw[if_neg hr,List.filter_cons,if_neg hr];simp
set_option linter.defProp false
def zx_:=And.intro (And.intro (And.intro (@zv_) (@zu_)) (And.intro (@kU_) (@ve_))) (And.intro (And.intro (@VA_) (@xA_)) (And.intro (@jB_) (@Jy_)))
theorem ahp_ (v:Value) (l:List ObK) (w:World) (hv:RowX 2 qm_ jg_ w v l []) (hl:l.length<100000) (ht: ∀o,o∈l→o.t.length<100000):
  Rets Tryz.prog 8 #[v] w (XS w [] (fun v' D=> ∃vL vI,v'= .agg #[vL,vI]∧GrI D 38 2 vL (l.filter rdK).length ((l.filter rdK).map qm_).flatten∧GrI D 42 32 vI ((l.filter rdK).map idK).length (((l.filter rdK).map idK).map jd_).flatten)):=by
 obtain⟨rb,off,arr,E,fz,hr,-⟩:=hv
 have ln:=fun x=>hr.len x
 refine Rets.enterX Tryz.func8 rfl (rs:= [.cell 2 29]) Tryz.results8 Tryz.ntmps8 (fun p hp=>by cases hp) (by simp[keys]) ?_
 refine kf ?_
 first|with_reducible refine ks [] @zx_ ?_|refine kp @zx_ ?_
 refine Ow.alloc rfl rfl ajj_ fun b2 hb2 hw2=> ?_
 simp only[za_,List.nil_append,List.cons_append]
 refine ko @zx_ ?_
 first|with_reducible refine ks [] @zx_ ?_|refine kp @zx_ ?_
 refine Ow.build (.agg #[.slice none 0 0, .slice none 0 0]) rfl acI_ ?_
 refine ko @zx_ ?_
 refine Ow.alloc rfl rfl ajj_ fun b3 hb3 hw3=> ?_
 simp only[za_,List.nil_append,List.cons_append]
 have h23:b2<b3:=ze_ hb3 (by simp[keys])
 refine Ow.permL (M:= [(b3, .cells #[.slice none 0 0, .slice none 0 0] 29 (0,0)),(b2, .cells #[.slice none 0 0, .slice none 0 0] 29 (0,0))]) (by classical exact List.perm_iff_count.2 fun a=>by simp only[List.count_append,List.count_cons,List.count_nil]<;>omega) ?_
 refine ko @zx_ ?_
 first|with_reducible refine ks [] @zx_ ?_|refine kp @zx_ ?_
 refine Cw.loopG (G:=MkOdG) [6,7,8,9,12,13,14,15,16,17,18,19,20,21,22,23,24,25,26,27,28,29,30,31,32,33,34,35,10,11,4] (fun g=> [(4,vi g.i)]) (fun g=>g.DL++ ((b3, .cells #[g.vL,g.vI] 29 (0,0)):: (b2, .cells #[.slice none 0 0, .slice none 0 0] 29 (0,0)):: (g.DI++g.DG))) (fun g=>g.i≤l.length∧Gr g.DL 38 2 g.vL (flK l g.i).length ((flK l g.i).map qm_).flatten∧Gr g.DI 42 32 g.vI ((flK l g.i).map idK).length (((flK l g.i).map idK).map jd_).flatten∧New w.heap.size g.DL∧New w.heap.size g.DI∧New w.heap.size g.DG) (fun g=>l.length - g.i) ⟨0, .slice none 0 0, .slice none 0 0,[],[],[]⟩ rfl rfl ?_ ?_
 ·exact⟨Nat.zero_le _,Gr.nl,Gr.nl,trivial,trivial,trivial⟩
 intro g j hg
 refine kv ?_
 obtain⟨i,vL,vI,DL,DI,DG⟩:=g
 simp only at hg ⊢
 obtain⟨hi,hGL,hGI,hNL,hNI,hNG⟩:=hg
 refine Cw.world fun wz hwz=> ?_
 have hnd:=hwz.nodup
 clear hwz wz
 have hnd':=hnd
 rw[zd_,List.nodup_append] at hnd'
 obtain⟨-,hnd2,hnd3⟩:=hnd'
 have h3L:b3∉keys DL:=fun h=>hnd3 b3 h b3 (by simp[keys]) rfl
 have h2L:b2∉keys DL:=fun h=>hnd3 b2 h b2 (by simp[keys]) rfl
 simp only[keys,List.map_cons,List.map_append,List.nodup_cons,List.mem_cons,List.mem_append,not_or] at hnd2
 obtain⟨⟨-,h3I,h3G⟩,⟨h2I,h2G⟩,-⟩:=hnd2
 have hflen:=alu_ l i
 have lb3:=fun Y=>jZ_ (D:=DL) (Y:=Y) (o:= .cells #[vL,vI] 29 (0,0)) h3L
 have rb3:=fun Y=>zo_ (w0:=w) (lb3 Y)
 by_cases hlt:i<l.length
 ·have hrl:=hr.lt (by omega)
  have rd: ∀L:zb_,(∀c,c∈keys L→w.heap.size≤c)→zk_ w L rb=some (.cells arr E fz):=fun L hL=>by
   rw[z4_ (fun hm=>by have:=hL _ hm;omega)];exact hr.has (by omega)
  have ix:=hr.idx true i hlt
  have ld:=kx_ hr hlt
  have hts:=akw_ hlt
  have hom:l.getD i jg_∈l:=by
   rw[List.getD_eq_getElem?_getD,List.getElem?_eq_getElem hlt];exact List.getElem_mem _
  have hot:=ht _ hom
  generalize l.getD i jg_=o at*
  have hNN:New w.heap.size (DL++ ((b3, .cells #[vL,vI] 29 (0,0)):: (b2, .cells #[.slice none 0 0, .slice none 0 0] 29 (0,0)):: (DI++DG))):=hNL.app ⟨hw3,hw2,hNI.app hNG⟩
  have d1:decide ((i:Int)< (l.length:Int))=true:=decide_eq_true (by omega)
  have rd0:=rd _ hNN.le
  first|with_reducible refine ks [4] (And.intro @zx_ (And.intro @d1 (And.intro @ln (And.intro @ix (And.intro @rd0 (@ld)))))) ?_|refine kp (And.intro @zx_ (And.intro @d1 (And.intro @ln (And.intro @ix (And.intro @rd0 (@ld)))))) ?_
  refine Ow.callFV rfl Tryz.call20 (fun w' hw'=>vZ_ o.k o.t w') ?_
  rw[←wQ_,show kH_ o.k o.t=rdK o from rfl]
  cases hrd:rdK o with
  |false=>
   rw[hrd,if_neg (by simp)] at hts
   refine ko @zx_ ?_
   first|with_reducible refine ks [] @zx_ ?_|refine kp @zx_ ?_
   exact Again.mk ⟨i+1,vL,vI,DL,DI,DG⟩ (by show l.length - (i+1)<l.length - i;omega) ⟨hlt,by show Gr DL _ 2 vL (flK l (i+1)).length _;rw[hts];exact hGL,by show Gr DI _ 32 vI ((flK l (i+1)).map idK).length _;rw[hts];exact hGI,hNL,hNI,hNG⟩ rfl rfl
  |true=>
   rw[hrd,if_pos rfl] at hts
   refine ko @zx_ ?_
   first|with_reducible refine ks [] @zx_ ?_|refine kp @zx_ ?_
   refine Cw.regionG [b3,rb] [9] 10 (by kernel_rfl) rfl ?_
   refine kyc ?_
   refine OwG.run [0,1,2,3,4,5] [true,true,true,true,true,true,false,false,false,false] 4 rfl (by kernel_rfl) (by kernel_rfl) fun k hk=> ?_
   refine kya ?_
   refine kp (And.intro @zx_ (And.intro @Md.next_sofnil (And.intro @rb3 (And.intro @ix (And.intro @rd0 (@ld)))))) ?_
   (with_reducible refine hk _ _ _ ?_);clear hk k
   refine OwG.one 6 _ (by kernel_rfl) rfl ?_
   refine Ow.buildSlice (e:=38) (qm_ o).toArray rfl rfl (j6_ o) fun ba hba hwa=> ?_
   have hgn: ∀r,r∈ [b3,rb]→zk_ w (DL++ ((b3, .cells #[vL,vI] 29 (0,0)):: (b2, .cells #[.slice none 0 0, .slice none 0 0] 29 (0,0)):: (DI++DG))++ [(ba, .cells (qm_ o).toArray 38 (0,0))]) r=zk_ w (DL++ ((b3, .cells #[vL,vI] 29 (0,0)):: (b2, .cells #[.slice none 0 0, .slice none 0 0] 29 (0,0)):: (DI++DG))) r:=fun r hr=>by
    simp only[List.mem_cons,List.not_mem_nil,or_false] at hr
    rcases hr with rfl|rfl
    ·exact ZU_ (by simp[keys])
    ·rw[rd0];exact rd _ (hNN.app (show New w.heap.size [(ba,Obj.cells (qm_ o).toArray 38 (0,0))] from⟨hwa,trivial⟩)).le
   with_reducible refine Ow.nil ?_
   refine⟨hgn, ?_⟩
   refine kyb ?_
   refine OwG.one 7 _ (by kernel_rfl) rfl ?_
   refine Ow.appendXG (e:=38) (k:=1) (new:=qm_ o) (X:=DL) vL (List.append_assoc _ _ _) rfl rfl rfl Tryz.underlying22 Tryz.ag38 (by kernel_rfl) wb_ (by simp[za_]) Tryz.underlying22 (by intro k h;cases h) hGL (fun w' hw'=>AppX.one1 (hw'.has ba (.cells (qm_ o).toArray 38 (0,0)) (by simp)) (z8_ _) (xJ_ _)) (by omega) (fun B5 v5 D5 hA5 hB5 hG5 hk15 hk25 hlk5=> ?_)
   have hN5:New w.heap.size D5:=New.of_le fun q hq=>by
    rcases hk25 q hq with h|h
    ·exact hNL.le q h
    ·omega
   have h3D:b3∉keys D5:=XM_ hA5 (by simp[keys]) h3L hk25
   have lD5:=fun Y=>jZ_ (D:=D5) (Y:=Y) (o:= .cells #[vL,vI] 29 (0,0)) h3D
   have st5:=JJ_ vL vI v5 29 hG5.cell
   have hN6:New w.heap.size (D5++ ((b3, .cells #[vL,vI] 29 (0,0)):: (b2, .cells #[.slice none 0 0, .slice none 0 0] 29 (0,0)):: (DI++ (DG++ [(ba, .cells (qm_ o).toArray 38 (0,0))])))):=hN5.app ⟨hw3,hw2,hNI.app (hNG.app ⟨hwa,trivial⟩)⟩
   have hgn2: ∀r,r∈ [b3,rb]→zk_ w (D5++ ((b3, .cells #[vL,vI] 29 (0,0)):: (b2, .cells #[.slice none 0 0, .slice none 0 0] 29 (0,0)):: (DI++DG)++ [(ba, .cells (qm_ o).toArray 38 (0,0))])) r=zk_ w (DL++ ((b3, .cells #[vL,vI] 29 (0,0)):: (b2, .cells #[.slice none 0 0, .slice none 0 0] 29 (0,0)):: (DI++DG))++ [(ba, .cells (qm_ o).toArray 38 (0,0))]) r:=fun r hr=>by
    rw[hgn r hr]
    simp only[List.mem_cons,List.not_mem_nil,or_false] at hr
    rcases hr with rfl|rfl
    ·exact(zo_ (lD5 _)).trans (rb3 _).symm
    ·rw[rd0]
     refine rd _ fun c hc=>hN6.le c ?_
     simpa [keys] using hc
   with_reducible refine Ow.nil ?_
   refine⟨hgn2, ?_⟩
   refine kyb ?_
   refine OwG.rest [8,9] rfl (by kernel_rfl) (by kernel_rfl) ?_
   refine kya ?_
   refine kq @zx_ ?_
   refine Ow.store rfl rfl rfl (ke (And.intro @zx_ (And.intro @lD5 (@st5)))) ?_
   have es:=fun Y x=>ZE_ (D:=D5) (Y:=Y) (o:= .cells #[vL,vI] 29 (0,0)) (x:=x) h3D
   simp only[List.cons_append,List.append_assoc] at*
   rw[es]
   refine ko @zx_ ?_
   refine Cw.permL (M:=DI++ ((b3, .cells #[v5,vI] 29 (0,0)):: (b2, .cells #[.slice none 0 0, .slice none 0 0] 29 (0,0)):: (D5++ (DG++ [(ba, .cells (qm_ o).toArray 38 (0,0))])))) (by classical exact List.perm_iff_count.2 fun a=>by simp only[List.count_append,List.count_cons,List.count_nil]<;>omega) ?_
   have lb5:=fun Y=>jZ_ (D:=DI) (Y:=Y) (o:= .cells #[v5,vI] 29 (0,0)) h3I
   have rb5:=fun Y=>zo_ (w0:=w) (lb5 Y)
   have hN8:New w.heap.size (DI++ ((b3, .cells #[v5,vI] 29 (0,0)):: (b2, .cells #[.slice none 0 0, .slice none 0 0] 29 (0,0)):: (D5++ (DG++ [(ba, .cells (qm_ o).toArray 38 (0,0))])))):=hNI.app ⟨hw3,hw2,hN5.app (hNG.app ⟨hwa,trivial⟩)⟩
   have rd8:=rd _ hN8.le
   refine Cw.regionG [b3,rb] [10] 11 (by kernel_rfl) rfl ?_
   refine kyc ?_
   refine OwG.run [0,1,2,3,4,5] [true,true,true,true,true,true,false,false,false,false,false] 5 rfl (by kernel_rfl) (by kernel_rfl) fun k hk=> ?_
   refine kya ?_
   refine kp (And.intro @zx_ (And.intro @Md.next_sofnil (And.intro @rb5 (And.intro @ix (And.intro @rd8 (@ld)))))) ?_
   (with_reducible refine hk _ _ _ ?_);clear hk k
   refine OwG.one 6 _ (by kernel_rfl) rfl ?_
   refine Ow.callFV rfl Tryz.call21 (fun w' hw'=>Kd_ o.k o.t w' (by omega)) ?_
   rw[akF_ hrd]
   with_reducible refine Ow.nilD ?_
   refine kyb ?_
   refine OwG.one 7 _ (by kernel_rfl) rfl ?_
   refine Ow.buildSlice (e:=42) (jd_ (idK o)).toArray rfl rfl (ahA_ (idK o)) fun bi hbi hwi=> ?_
   have hgn3: ∀r,r∈ [b3,rb]→zk_ w (DI++ ((b3, .cells #[v5,vI] 29 (0,0)):: (b2, .cells #[.slice none 0 0, .slice none 0 0] 29 (0,0)):: (D5++ (DG++ [(ba, .cells (qm_ o).toArray 38 (0,0))])))++ [(bi, .cells (jd_ (idK o)).toArray 42 (0,0))]) r=zk_ w (DI++ ((b3, .cells #[v5,vI] 29 (0,0)):: (b2, .cells #[.slice none 0 0, .slice none 0 0] 29 (0,0)):: (D5++ (DG++ [(ba, .cells (qm_ o).toArray 38 (0,0))])))) r:=fun r hr=>by
    simp only[List.mem_cons,List.not_mem_nil,or_false] at hr
    rcases hr with rfl|rfl
    ·exact ZU_ (by simp[keys])
    ·rw[rd8];exact rd _ (hN8.app (show New w.heap.size [(bi,Obj.cells (jd_ (idK o)).toArray 42 (0,0))] from⟨hwi,trivial⟩)).le
   with_reducible refine Ow.nil ?_
   refine⟨hgn3, ?_⟩
   refine kyb ?_
   refine OwG.one 8 _ (by kernel_rfl) rfl ?_
   refine Ow.appendXG (e:=42) (k:=1) (new:=jd_ (idK o)) (X:=DI) vI (List.append_assoc _ _ _) rfl rfl rfl Tryz.underlying23 Tryz.ag42 (by kernel_rfl) alO_ (by simp[za_,a8]) Tryz.underlying23 (by intro k h;cases h) hGI (fun w' hw'=>AppX.one1 (hw'.has bi (.cells (jd_ (idK o)).toArray 42 (0,0)) (by simp)) (zX_ _) (j2_ _)) (by rw[List.length_map];omega) (fun B7 v7 D7 hA7 hB7 hG7 hk17 hk27 hlk7=> ?_)
   have hN7:New w.heap.size D7:=New.of_le fun q hq=>by
    rcases hk27 q hq with h|h
    ·exact hNI.le q h
    ·omega
   have h3D7:b3∉keys D7:=XM_ hA7 (by simp[keys]) h3I hk27
   have lD7:=fun Y=>jZ_ (D:=D7) (Y:=Y) (o:= .cells #[v5,vI] 29 (0,0)) h3D7
   have st7:=JX_ v5 vI v7 29 hG7.cell
   have hN9:New w.heap.size (D7++ (((b3, .cells #[v5,vI] 29 (0,0)):: (b2, .cells #[.slice none 0 0, .slice none 0 0] 29 (0,0)):: (D5++ (DG++ [(ba, .cells (qm_ o).toArray 38 (0,0))])))++ [(bi, .cells (jd_ (idK o)).toArray 42 (0,0))])):=hN7.app (New.app (show New w.heap.size ((b3, .cells #[v5,vI] 29 (0,0)):: (b2, .cells #[.slice none 0 0, .slice none 0 0] 29 (0,0)):: (D5++ (DG++ [(ba, .cells (qm_ o).toArray 38 (0,0))]))) from⟨hw3,hw2,hN5.app (hNG.app ⟨hwa,trivial⟩)⟩) ⟨hwi,trivial⟩)
   have hgn4: ∀r,r∈ [b3,rb]→zk_ w (D7++ (((b3, .cells #[v5,vI] 29 (0,0)):: (b2, .cells #[.slice none 0 0, .slice none 0 0] 29 (0,0)):: (D5++ (DG++ [(ba, .cells (qm_ o).toArray 38 (0,0))])))++ [(bi, .cells (jd_ (idK o)).toArray 42 (0,0))])) r=zk_ w (DI++ ((b3, .cells #[v5,vI] 29 (0,0)):: (b2, .cells #[.slice none 0 0, .slice none 0 0] 29 (0,0)):: (D5++ (DG++ [(ba, .cells (qm_ o).toArray 38 (0,0))])))++ [(bi, .cells (jd_ (idK o)).toArray 42 (0,0))]) r:=fun r hr=>by
    rw[hgn3 r hr]
    simp only[List.mem_cons,List.not_mem_nil,or_false] at hr
    rcases hr with rfl|rfl
    ·exact(zo_ (lD7 _)).trans (rb5 _).symm
    ·rw[rd8]
     exact rd _ hN9.le
   with_reducible refine Ow.nil ?_
   refine⟨hgn4, ?_⟩
   refine kyb ?_
   refine OwG.rest [9,10] rfl (by kernel_rfl) (by kernel_rfl) ?_
   refine kya ?_
   refine kq @zx_ ?_
   refine Ow.store rfl rfl rfl (ke (And.intro @zx_ (And.intro @lD7 (@st7)))) ?_
   have es7:=fun Y x=>ZE_ (D:=D7) (Y:=Y) (o:= .cells #[v5,vI] 29 (0,0)) (x:=x) h3D7
   simp only[List.cons_append,List.append_assoc] at*
   rw[es7]
   refine ko @zx_ ?_
   refine Cw.permL (M:=D5++ ((b3, .cells #[v5,v7] 29 (0,0)):: (b2, .cells #[.slice none 0 0, .slice none 0 0] 29 (0,0)):: (D7++ (DG++ [(ba, .cells (qm_ o).toArray 38 (0,0)),(bi, .cells (jd_ (idK o)).toArray 42 (0,0))])))) (by classical exact List.perm_iff_count.2 fun a=>by simp only[List.count_append,List.count_cons,List.count_nil]<;>omega) ?_
   first|with_reducible refine ks [] @zx_ ?_|refine kp @zx_ ?_
   refine Again.mk ⟨i+1,v5,v7,D5,D7,DG++ [(ba, .cells (qm_ o).toArray 38 (0,0)),(bi, .cells (jd_ (idK o)).toArray 42 (0,0))]⟩ (by show l.length - (i+1)<l.length - i;omega) ⟨hlt, ?_, ?_,hN5,hN7,hNG.app ⟨hwa,hwi,trivial⟩⟩ rfl rfl
   ·show Gr D5 _ 2 v5 (flK l (i+1)).length ((flK l (i+1)).map qm_).flatten
    rw[hts]
    simpa [List.map_append] using hG5
   ·show Gr D7 _ 32 v7 ((flK l (i+1)).map idK).length (((flK l (i+1)).map idK).map jd_).flatten
    rw[hts]
    simpa [List.map_append] using hG7
 ·obtain rfl:i=l.length:=by omega
  have hfl:flK l l.length=l.filter rdK:=by unfold flK;rw[List.take_length]
  rw[hfl] at hGL hGI
  have hd0:decide ((l.length:Int)< (l.length:Int))=false:=by simp
  refine Cw.permL (M:=(b2, .cells #[.slice none 0 0, .slice none 0 0] 29 (0,0)):: (b3, .cells #[vL,vI] 29 (0,0)):: (DL++ (DI++DG))) (by classical exact List.perm_iff_count.2 fun a=>by simp only[List.count_append,List.count_cons,List.count_nil]<;>omega) ?_
  have stf:=J9_ (.slice none 0 0) (.slice none 0 0) vL vI 29 hGL.cell.1 hGI.cell.1
  first|with_reducible refine ks [] (And.intro @zx_ (And.intro @hd0 (And.intro @ln (@stf)))) ?_|refine kp (And.intro @zx_ (And.intro @hd0 (And.intro @ln (@stf)))) ?_
  refine⟨_,(ke @zx_), ?_⟩
  exact⟨Ext.of_new ⟨hw2,hw3,hNL.app (hNI.app hNG)⟩,vL,vI,rfl,hGL.i fun p hp=>by simp[hp],hGI.i fun p hp=>by simp[hp]⟩
end Go.Proofs
end
section
open Go Go.Proofs Go.Sx Go.StP Go.RooP
namespace Go.Proofs
set_option maxRecDepth 10000
set_option maxHeartbeats 400000
set_option linter.unusedSimpArgs false
def SrcK (D:zb_) (v:Value) (m:List (IdL×ObK)):Prop:= ∃bx bm om,v= .iface 61 (vp bx 0)∧(bx,Obj.cells #[vm bm] 64 (0,0))∈D∧(bm,om)∈D∧MapG idKV obKV om m
theorem SrcK.mono {D D':zb_} {v:Value} {m:List (IdL×ObK)} (h:SrcK D v m) (hD: ∀p,p∈D→p∈D'):SrcK D' v m:=by
 obtain⟨bx,bm,om,h1,h2,h3,h4⟩:=h
 exact⟨bx,bm,om,h1,hD _ h2,hD _ h3,h4⟩
theorem SrcK.W {w0 w:World} {D:zb_} {v:Value} {m:List (IdL×ObK)} (h:SrcK D v m) (hw:Hp w0 D w):SrcW w v m []:=by
 obtain⟨bx,bm,om,h1,h2,h3,h4⟩:=h
 exact⟨bx,bm,om,⟨h1,hw.has _ _ h2,hw.has _ _ h3,h4⟩,(fun h=>by cases h),(fun h=>by cases h)⟩
section
variable {P:Program} {w0:World} {f:Fr} {L:zb_} {N:Fr→zb_→Prop} {ops:Array Oper} {rest:List Oper} {md:Md}
 {d:Option Tmp} {ty:TypeId} {ps:String} {af:Array Edge} {g:Option (Nat×Bool)}
theorem _root_.Go.Sx.Ow.ifacePtr {t e:TypeId} {x:Operand} {v:Value} (hs:zf_ ops f ⟨d, .makeInterface t x,ty,ps,af,g⟩=false) (hu:P.underlying t=some (.pointer e)) (hx:ev f x=v)
  (hn:Ow P w0 ops md.next rest (qg_ f d (.iface t v)) L N):Ow P w0 ops md (⟨d, .makeInterface t x,ty,ps,af,g⟩::rest) f L N:=by
 refine Ow.calm rfl rfl hs (fun w hw=> .inl ⟨.iface t v,w,L, ?_,hw,rfl,rfl⟩) hn
 simp only[execOp,Instr.makeInterface,Sem.run_bind,run_underlying hu w,Result.andThen_ok,hx]
 rfl
end
structure MkOfG where
 k:Nat
 o:Obj
 DG:zb_
theorem ad5_ (b:Nat):buildV (xY_ Tryz.prog 64) (zG_ Tryz.prog 64) [(0,vm b)]=some (.agg #[vm b]):=by
 rw[show xY_ Tryz.prog 64=some [(0,1)] from id (by kernel_rfl),show zG_ Tryz.prog 64=some (.agg #[.map none]) from id (by kernel_rfl)];rfl
set_option linter.defProp false
def jT_:=And.intro (And.intro (And.intro (@jB_) (@jJ_)) (And.intro (@jx_) (And.intro (@jW_) (@xA_)))) (And.intro (And.intro (@Sx.tup2_0) (And.intro (@Sx.tup2_1) (@zv_))) (And.intro (@zu_) (And.intro (@wo_) (@aiY_))))
theorem abW_ (v:Value) (l:List ObK) (w:World) (hG:GlobE w) (hv:RowX 2 qm_ jg_ w v l []) (hl:l.length<100000):
  Rets Tryz.prog 10 #[v] w (XS w [] (fun v' D=>SrcK D v' (vI_ l))):=by
 obtain⟨rb,off,arr,E,fz,hr,-⟩:=hv
 have ln:=fun x=>hr.len x
 refine Rets.enterX Tryz.func10 rfl (rs:= [.tmp 2]) Tryz.results10 Tryz.ntmps10 (fun p hp=>by cases hp) (by simp[keys]) ?_
 refine kf ?_
 first|with_reducible refine ks [] @jT_ ?_|refine kp @jT_ ?_
 refine Ow.makeMapG (encK:=idKV) (encV:=obKV) rfl rfl fun b1 o1 hb1 hw1 hM1=> ?_
 rw[List.nil_append]
 refine ko @jT_ ?_
 refine Ow.build (.agg #[vm b1]) rfl (ad5_ b1) ?_
 refine ko @jT_ ?_
 refine Ow.box rfl rfl fun b2 hb2 hw2=> ?_
 simp only[zw_,zC_,zB_,za_,List.cons_append,List.nil_append]
 have h12:b1<b2:=ze_ hb2 (by simp[keys])
 refine ko @jT_ ?_
 first|with_reducible refine ks [] (And.intro @jT_ @ln) ?_|refine kp (And.intro @jT_ @ln) ?_
 refine Cw.loopG (G:=MkOfG) [14,15,16,5,18,19,17,20,21,6,7,22,23,24,25,26,27,28,29,13] (fun g=> [(13,vi g.k)]) (fun g=>(b1,g.o):: (b2, .cells #[vm b1] 64 (0,0))::g.DG) (fun g=>g.k≤l.length∧MapG idKV obKV g.o (vI_ (l.take g.k))∧New w.heap.size g.DG) (fun g=>l.length - g.k) ⟨0,o1,[]⟩ rfl rfl ?_ ?_
 ·exact⟨Nat.zero_le _,hM1,trivial⟩
 intro g j hg
 refine kv ?_
 obtain⟨k,o,DG⟩:=g
 simp only at hg ⊢
 obtain⟨hk,hM,hN⟩:=hg
 have hNN:New w.heap.size ((b1,o):: (b2, .cells #[vm b1] 64 (0,0))::DG):=⟨hw1,hw2,hN⟩
 by_cases hlt:k<l.length
 ·have hrl:=hr.lt (by omega)
  have ix:=hr.idx true k hlt
  have ld:=kx_ hr hlt
  have rd:zk_ w ((b1,o):: (b2, .cells #[vm b1] 64 (0,0))::DG) rb=some (.cells arr E fz):=by rw[z4_ (hNN.not hrl)];exact hr.has (by omega)
  have hts:=StP.take_snoc (z:=jg_) hlt
  have hd0:decide ((k:Int)< (l.length:Int))=true:=decide_eq_true (by omega)
  generalize l.getD k jg_=x at*
  have hxi:=(idK x).h
  have hi0:=id0.h
  first|with_reducible refine ks [8] (And.intro @jT_ (And.intro @hd0 (And.intro @ix (And.intro @rd (@ld))))) ?_|refine kp (And.intro @jT_ (And.intro @hd0 (And.intro @ix (And.intro @rd (@ld))))) ?_
  refine Ow.alloc rfl rfl wb_ fun b5 hb5 hw5=> ?_
  simp only[za_,List.nil_append,List.cons_append]
  have h15:b1<b5:=ze_ hb5 (by simp[keys])
  have h25:b2<b5:=ze_ hb5 (by simp[keys])
  refine Ow.permL (M:=(b5, .cells #[vi 0,vs []] 38 (0,0)):: (b1,o):: (b2, .cells #[vm b1] 64 (0,0))::DG) (by classical exact List.perm_iff_count.2 fun a=>by simp only[List.count_append,List.count_cons,List.count_nil]<;>omega) ?_
  refine ko @jT_ ?_
  first|with_reducible refine ks [] @jT_ ?_|refine kp @jT_ ?_
  refine Ow.callFV rfl Tryz.call23 (fun w' hw'=>X8_ x.k x.t w' (hG.new hw' ⟨hw5,hNN⟩)) ?_
  have e1: (idV x.k x.t).l=(idK x).l:=rfl
  have e2:kH_ x.k x.t=rdK x:=rfl
  rw[e1,e2]
  refine ko @jT_ ?_
  refine Ow.alloc rfl rfl v1_ fun b6 hb6 hw6=> ?_
  simp only[za_,List.nil_append,List.cons_append]
  have h16:b1<b6:=ze_ hb6 (by simp[keys])
  have h26:b2<b6:=ze_ hb6 (by simp[keys])
  have h56:b5<b6:=ze_ hb6 (by simp[keys])
  refine Ow.permL (M:=(b6, .cells (a8 id0.l) 42 (0,0)):: (b5, .cells #[vi x.k,vs x.t] 38 (0,0)):: (b1,o):: (b2, .cells #[vm b1] 64 (0,0))::DG) (by classical exact List.perm_iff_count.2 fun a=>by simp only[List.count_append,List.count_cons,List.count_nil]<;>omega) ?_
  cases hrd:rdK x with
  |false=>
   have hob:vI_ (l.take (k+1))=vI_ (l.take k):=by rw[hts,wY_];unfold addO;rw[hrd];rfl
   refine ko @jT_ ?_
   refine Cw.permL (M:=(b1,o):: (b2, .cells #[vm b1] 64 (0,0)):: ((b6, .cells (a8 (idK x).l) 42 (0,0)):: (b5, .cells #[vi x.k,vs x.t] 38 (0,0))::DG)) (by classical exact List.perm_iff_count.2 fun a=>by simp only[List.count_append,List.count_cons,List.count_nil]<;>omega) ?_
   first|with_reducible refine ks [] @jT_ ?_|refine kp @jT_ ?_
   exact Again.mk ⟨k+1,o,(b6, .cells (a8 (idK x).l) 42 (0,0)):: (b5, .cells #[vi x.k,vs x.t] 38 (0,0))::DG⟩ (by show l.length - (k+1)<l.length - k;omega) ⟨hlt,by show MapG _ _ o (vI_ (l.take (k+1)));rw[hob];exact hM,⟨hw6,hw5,hN⟩⟩ rfl rfl
  |true=>
   have hob:vI_ (l.take (k+1))=Ko_ (idK x) x (vI_ (l.take k)):=by rw[hts,wY_];unfold addO;rw[hrd];rfl
   refine ko @jT_ ?_
   first|with_reducible refine ks [] @jT_ ?_|refine kp @jT_ ?_
   refine Cw.regionS [b2,b5,b6] [0,1,2,3,4,5,6] [6] (by kernel_rfl) (by kernel_rfl) (by kernel_rfl) ?_
   refine kya ?_
   refine kq @jT_ ?_
   refine Ow.mapUpdateG (encK:=idKV) (encV:=obKV) (k:=idK x) (v:=x) rfl rfl Tryz.underlying62 ajb_ rfl rfl rfl (by rw[z5_ _ _ _ _ (by omega),z5_ _ _ _ _ (by omega)];exact zL_ _ _ _) hM (fun o2 ho2=> ?_)
   rw[qw_ _ _ _ _ _ (by omega),qw_ _ _ _ _ _ (by omega),qR_]
   refine ko @jT_ ?_
   refine Cw.permL (M:=(b1,o2):: (b2, .cells #[vm b1] 64 (0,0)):: ((b6, .cells (a8 (idK x).l) 42 (0,0)):: (b5, .cells #[vi x.k,vs x.t] 38 (0,0))::DG)) (by classical exact List.perm_iff_count.2 fun a=>by simp only[List.count_append,List.count_cons,List.count_nil]<;>omega) ?_
   first|with_reducible refine ks [] @jT_ ?_|refine kp @jT_ ?_
   exact Again.mk ⟨k+1,o2,(b6, .cells (a8 (idK x).l) 42 (0,0)):: (b5, .cells #[vi x.k,vs x.t] 38 (0,0))::DG⟩ (by show l.length - (k+1)<l.length - k;omega) ⟨hlt,by show MapG _ _ o2 (vI_ (l.take (k+1)));rw[hob];exact ho2,⟨hw6,hw5,hN⟩⟩ rfl rfl
 ·obtain rfl:k=l.length:=by omega
  rw[List.take_length] at hM
  have hd0:decide ((l.length:Int)< (l.length:Int))=false:=by simp
  first|with_reducible refine ks [] (And.intro @jT_ @hd0) ?_|refine kp (And.intro @jT_ @hd0) ?_
  refine Ow.ifacePtr rfl Tryz.underlying61 rfl ?_
  refine ko @jT_ ?_
  refine⟨_,(ke @jT_), ?_⟩
  exact⟨Ext.of_new hNN,b2,b1,o,rfl,by simp,by simp,hM⟩
end Go.Proofs
end
section
open Go Go.Proofs Go.Sx Go.StP Go.RooP
namespace Go.Proofs
set_option maxRecDepth 10000
set_option maxHeartbeats 400000
set_option linter.unusedSimpArgs false
theorem Vy_ {D:zb_} {E:TypeId} {m n:Nat} {v:Value} {cs:List Value} (h:GrI D E m v n cs):Value.oneCell' v=true∧v.cells= #[v]:=by
 obtain⟨X,-,h⟩:=h;exact h.cell
set_option linter.defProp false
end Go.Proofs
end
section
open Go Go.Proofs Go.Sx Go.StP Go.RooP
namespace Go.Proofs
set_option maxRecDepth 10000
set_option maxHeartbeats 400000
set_option linter.unusedSimpArgs false
set_option linter.defProp false
end Go.Proofs
end
section
open Go Go.Proofs Go.Sx Go.StP Go.RooP
namespace Go.Proofs
set_option maxRecDepth 10000
set_option maxHeartbeats 400000
set_option linter.unusedSimpArgs false
theorem aiR_ (a b:ObK):eqD Tryz.prog 8 38 (obV a.k a.t) (obV b.k b.t)=some (decide (a=b)):=by
 have p0: ∀o:ObK,Sx.partV (false,1) #[vi o.k,vs o.t] 0=some (vi o.k):=fun _=>rfl
 have p1: ∀o:ObK,Sx.partV (false,1) #[vi o.k,vs o.t] 1=some (vs o.t):=fun _=>rfl
 have e1: ∀a b:Int,eqD Tryz.prog 7 3 (vi a) (vi b)=some (a==b):=fun a b=>by unfold eqD;rw[Tryz.underlying3];rfl
 have e2: ∀a b:List UInt8,eqD Tryz.prog 7 9 (vs a) (vs b)=some (a==b):=fun a b=>by
  unfold eqD;rw[Tryz.underlying9];simp only[vs,VF_]
 have a1:z3_ Tryz.prog 3=some (false,1):=id (by kernel_rfl)
 have a2:z3_ Tryz.prog 9=some (false,1):=id (by kernel_rfl)
 unfold eqD obV
 rw[Tryz.underlying38]
 simp only
 rw[show Tryz.prog.stoodInHeld 38=false by kernel_rfl]
 simp only[Bool.false_eq_true, ↓reduceIte,k1_,kW_,a1,a2,p0,p1,e1,e2]
 obtain⟨k,t⟩:=a
 obtain⟨k',t'⟩:=b
 have e:decide ((⟨k,t⟩:ObK)=⟨k',t'⟩)=((k==k')&& (t==t')):=by rw[Bool.eq_iff_iff];simp
 rw[e]
 cases(k==k')<;>cases(t==t')<;>rfl
theorem alj_ (a b:ObK):q0_ Tryz.prog .neq 38 (obV a.k a.t) (obV b.k b.t)=some (.bool (!decide (a=b))):=by
 have h:=aiR_ a b
 unfold q0_ eqX obV at*;rw[show Tryz.prog.eqGuardType Tryz.prog.depth 38=false by kernel_rfl];simp[qy_,h]
def Ku_ (l:List ObK):Bool:=decide (40<l.length) ||l.any fun o=>decide (2500<o.t.length)
theorem afp_ {l:List ObK} (h:Ku_ l=false):l.length≤40∧ ∀o,o∈l→o.t.length≤2500:=by
 unfold Ku_ at h
 rw[Bool.or_eq_false_iff,decide_eq_false_iff_not,List.any_eq_false] at h
 exact⟨by omega,fun o ho=>by have:=h.2 o ho;simpa using this⟩
theorem aik_ {w:World} {v:Value} {l:List ObK} {b off:Nat} {arr:Array Value} {E:TypeId} {fz:Nat×Nat} (h:RowS 2 qm_ jg_ w v l b off arr E fz) {k n:Nat} (hk:k<l.length):
  zn_ (some (false,n)) (some (.cells arr E fz)) (off+k*2+1)=some (vs (l.getD k jg_).t):=h.cell hk (by omega)
set_option linter.defProp false
def qF_:=And.intro (@zv_) (@zu_)
theorem V1_ (v:Value) (l:List ObK) (w:World) (hv:RowX 2 qm_ jg_ w v l []):
  Rets Tryz.prog 5 #[v] w (fun v' D=>v'= .bool (Ku_ l)∧D= []):=by
 obtain⟨rb,off,arr,E,fz,hr,-⟩:=hv
 have ln:=fun x=>hr.len x
 refine Rets.enterV Tryz.func5 rfl (rs:= [.tmp 2]) Tryz.results5 Tryz.ntmps5 ?_
 refine kf ?_
 unfold Ku_
 by_cases h40:40<l.length
 ·have d1:decide ((40:Int)< (l.length:Int))=true:=decide_eq_true (by omega)
  rw[decide_eq_true h40]
  first|with_reducible refine ks [] (And.intro @qF_ (And.intro @ln (@d1))) ?_|refine kp (And.intro @qF_ (And.intro @ln (@d1))) ?_
  refine⟨_,(ke @qF_),trivial, ?_⟩
  rfl
 ·have d1:decide ((40:Int)< (l.length:Int))=false:=decide_eq_false (by omega)
  rw[decide_eq_false h40,Bool.false_or]
  first|with_reducible refine ks [] (And.intro @qF_ (And.intro @ln (@d1))) ?_|refine kp (And.intro @qF_ (And.intro @ln (@d1))) ?_
  refine Cw.loopG (G:=Nat) [7,8,9,10,13,14,15,16,17,18,19,2,11,12,3] (fun g=> [(3,vi g)]) (fun g=> []) (fun g=>g≤l.length∧(l.take g).any (fun o=>decide (2500<o.t.length))=false) (fun g=>l.length - g) 0 rfl rfl ?_ ?_
  ·exact⟨Nat.zero_le _,rfl⟩
  intro k jk hk
  refine kv ?_
  obtain⟨h1,h2⟩:=hk
  by_cases hk:k<l.length
  ·have hd0:decide ((k:Int)< (l.length:Int))=true:=decide_eq_true (by omega)
   have ix:=hr.idx true k hk
   have ld:=fun n=>aik_ (n:=n) hr hk
   have rd:=hr.has (by omega)
   have hts:=StP.take_snoc (z:=jg_) hk
   have hm:l.getD k jg_∈l:=by rw[List.getD_eq_getElem?_getD,List.getElem?_eq_getElem hk];exact List.getElem_mem _
   generalize l.getD k jg_=o at*
   by_cases h25:2500<o.t.length
   ·have d2:decide ((2500:Int)< (o.t.length:Int))=true:=decide_eq_true (by omega)
    have e:l.any (fun o=>decide (2500<o.t.length))=true:=List.any_eq_true.2 ⟨o,hm,decide_eq_true h25⟩
    rw[e]
    first|with_reducible refine ks [] (And.intro @qF_ (And.intro @ln (And.intro @hd0 (And.intro @ix (And.intro @rd (And.intro @ld (@d2))))))) ?_|refine kp (And.intro @qF_ (And.intro @ln (And.intro @hd0 (And.intro @ix (And.intro @rd (And.intro @ld (@d2))))))) ?_
    refine⟨_,(ke @qF_),trivial, ?_⟩
    rfl
   ·have d2:decide ((2500:Int)< (o.t.length:Int))=false:=decide_eq_false (by omega)
    first|with_reducible refine ks [] (And.intro @qF_ (And.intro @ln (And.intro @hd0 (And.intro @ix (And.intro @rd (And.intro @ld (@d2))))))) ?_|refine kp (And.intro @qF_ (And.intro @ln (And.intro @hd0 (And.intro @ix (And.intro @rd (And.intro @ld (@d2))))))) ?_
    refine Again.mk (k+1) (by omega) ⟨hk, ?_⟩ rfl rfl
    rw[hts,List.any_append,h2]
    simp[h25]
  ·obtain rfl:k=l.length:=by omega
   rw[List.take_length] at h2
   have hd0:decide ((l.length:Int)< (l.length:Int))=false:=by simp
   rw[h2]
   first|with_reducible refine ks [] (And.intro @qF_ (And.intro @ln (@hd0))) ?_|refine kp (And.intro @qF_ (And.intro @ln (@hd0))) ?_
   refine⟨_,(ke @qF_),trivial, ?_⟩
   rfl
def ClK (a b:ObK):Prop:=a≠b∧rdK a=true∧rdK b=true∧idK a=idK b
theorem ak1_ {l:List ObK} (h: ∀p,p<l.length→ ∀q,q<p→ ¬ClK (l.getD p jg_) (l.getD q jg_)):NoCl l:=by
 intro a ha b hb hra hrb he
 obtain⟨i,hi,rfl⟩:=List.getElem_of_mem ha
 obtain⟨j,hj,rfl⟩:=List.getElem_of_mem hb
 have gd: ∀k (hk:k<l.length),l.getD k jg_=l[k]:=fun k hk=>by rw[List.getD_eq_getElem?_getD,List.getElem?_eq_getElem hk];rfl
 refine Classical.byContradiction fun hne=> ?_
 rcases Nat.lt_trichotomy i j with hij|hij|hij
 ·exact h j hj i hij ⟨by rw[gd _ hj,gd _ hi];exact Ne.symm hne,by rw[gd _ hj];exact hrb,by rw[gd _ hi];exact hra,by rw[gd _ hj,gd _ hi];exact he.symm⟩
 ·subst hij;exact hne rfl
 ·exact h i hi j hij ⟨by rw[gd _ hj,gd _ hi];exact hne,by rw[gd _ hi];exact hra,by rw[gd _ hj];exact hrb,by rw[gd _ hj,gd _ hi];exact he⟩
set_option linter.defProp false
def zE_:=And.intro (And.intro (@zv_) (@zu_)) (And.intro (@alj_) (@aiJ_))
theorem KJ_ (v:Value) (l:List ObK) (w:World) (hv:RowX 2 qm_ jg_ w v l []) (hl:l.length<1000000) (ht: ∀o,o∈l→o.t.length<100000):
  Rets Tryz.prog 6 #[v] w (fun v' D=>(∃b,v'= .bool b∧(b=false→NoCl l))∧D= []):=by
 obtain⟨rb,off,arr,E,fz,hr,-⟩:=hv
 have ln:=fun x=>hr.len x
 have gm: ∀k,k<l.length→l.getD k jg_∈l:=fun k hk=>by rw[List.getD_eq_getElem?_getD,List.getElem?_eq_getElem hk];exact List.getElem_mem _
 refine Rets.enterV Tryz.func6 rfl (rs:= [.tmp 2]) Tryz.results6 Tryz.ntmps6 ?_
 refine kf ?_
 first|with_reducible refine ks [] @zE_ ?_|refine kp @zE_ ?_
 refine Cw.loopG (G:=Nat) [5,6,7,8,4,11,12,13,16,17,18,19,20,21,22,23,24,25,26,27,28,29,30,31,32,33,34,35,36,37,38,39,40,41,42,43,44,45,46,47,48,49,50,51,2,14,15,9,10,3] (fun g=> [(3,vi g)]) (fun g=> []) (fun g=>g≤l.length∧(∀p,p<g→ ∀q,q<p→ ¬ClK (l.getD p jg_) (l.getD q jg_))) (fun g=>l.length - g) 0 rfl rfl ?_ ?_
 ·exact⟨Nat.zero_le _,fun p hp=>absurd hp (Nat.not_lt_zero _)⟩
 intro i ji hi
 refine kv ?_
 obtain⟨hi,hpi⟩:=hi
 by_cases hlt:i<l.length
 ·have hd0:decide ((i:Int)< (l.length:Int))=true:=decide_eq_true (by omega)
  have ixi:=hr.idx true i hlt
  have ldi:=kx_ hr hlt
  have rd:=hr.has (by omega)
  have hti:=ht _ (gm i hlt)
  first|with_reducible refine ks [] (And.intro @zE_ (And.intro @ln (@hd0))) ?_|refine kp (And.intro @zE_ (And.intro @ln (@hd0))) ?_
  refine Cw.loopG (G:=Nat) [11,12,13,16,17,18,19,20,21,22,23,24,25,26,27,28,29,30,31,32,33,34,35,36,37,38,39,40,41,42,43,44,45,46,47,48,49,50,51,2,14,15,4] (fun g=> [(4,vi g)]) (fun g=> []) (fun g=>g≤i∧(∀q,q<g→ ¬ClK (l.getD i jg_) (l.getD q jg_))) (fun g=>i - g) 0 rfl rfl ?_ ?_
  ·exact⟨Nat.zero_le _,fun p hp=>absurd hp (Nat.not_lt_zero _)⟩
  intro k jk hk
  refine kv ?_
  obtain⟨hk,hpk⟩:=hk
  by_cases hkt:k<i
  ·have hd1:decide ((k:Int)< (i:Int))=true:=decide_eq_true (by omega)
   have ixk:=hr.idx true k (show k<l.length by omega)
   have ldk:=kx_ hr (show k<l.length by omega)
   have htk:=ht _ (gm k (by omega))
   have next: ¬ClK (l.getD i jg_) (l.getD k jg_)→ ∀q,q<k+1→ ¬ClK (l.getD i jg_) (l.getD q jg_):=fun h q hq=>by
    by_cases e:q=k
    ·subst e;exact h
    ·exact hpk q (by omega)
   generalize l.getD i jg_=a at*
   generalize hb:l.getD k jg_=b at*
   first|with_reducible refine ks [] (And.intro @zE_ @hd1) ?_|refine kp (And.intro @zE_ @hd1) ?_
   by_cases hab:a=b
   ·have eab:decide (a=b)=true:=decide_eq_true hab
    refine Cw.regionS [rb] [0,1,2,4,5,6,3,7,8,9,10,11,12,13,14,15,16,17,18,19,20,21,22,23,24,25,26,29,30,31,27,32,28,33,34,35] [] (by kernel_rfl) (by kernel_rfl) (by kernel_rfl) ?_
    refine kya ?_
    refine kq (And.intro @zE_ (And.intro @ixi (And.intro @rd (And.intro @ldi (And.intro @ixk (And.intro @ldk (And.intro @eab (@Bool.not_true)))))))) ?_
    exact Again.mk (k+1) (by omega) ⟨hkt,next fun h=>h.1 hab⟩ rfl rfl
   ·have eab:decide (a=b)=false:=decide_eq_false hab
    refine Cw.regionS [rb] [0,1,2,4,5,6,3,7,8,9,10,11,12,13,14,15,16,17,18,19,20,21,22,23,24,25,26,29,30,31,27,32,28,33,34,35] [] (by kernel_rfl) (by kernel_rfl) (by kernel_rfl) ?_
    refine kya ?_
    refine kq (And.intro @zE_ (And.intro @ixi (And.intro @rd (And.intro @ldi (And.intro @ixk (And.intro @ldk (And.intro @eab (@Bool.not_false)))))))) ?_
    refine Ow.softA ?_
    refine Ow.callFV rfl Tryz.call20 (fun w' hw'=>vZ_ a.k a.t w') ?_
    rw[←wQ_,show kH_ a.k a.t=rdK a from rfl]
    with_reducible refine Ow.nilD ?_
    cases hra:rdK a with
    |false=>
     refine kq @zE_ ?_
     try with_reducible refine Ow.nil ?_
     first|with_reducible refine ks [] @zE_ ?_|refine kp @zE_ ?_
     exact Again.mk (k+1) (by omega) ⟨hkt,next fun h=>by have:=h.2.1;rw[hra] at this;cases this⟩ rfl rfl
    |true=>
     refine kq (And.intro @zE_ (And.intro @ixi (And.intro @rd (And.intro @ldi (And.intro @ixk (@ldk)))))) ?_
     refine Ow.softA ?_
     refine Ow.callFV rfl Tryz.call20 (fun w' hw'=>vZ_ b.k b.t w') ?_
     rw[←wQ_,show kH_ b.k b.t=rdK b from rfl]
     with_reducible refine Ow.nilD ?_
     cases hrb:rdK b with
     |false=>
      refine kq @zE_ ?_
      try with_reducible refine Ow.nil ?_
      first|with_reducible refine ks [] @zE_ ?_|refine kp @zE_ ?_
      exact Again.mk (k+1) (by omega) ⟨hkt,next fun h=>by have:=h.2.2.1;rw[hrb] at this;cases this⟩ rfl rfl
     |true=>
      refine kq (And.intro @zE_ (And.intro @ixi (And.intro @rd (And.intro @ldi (And.intro @ixk (@ldk)))))) ?_
      refine Ow.softA ?_
      refine Ow.callFV rfl Tryz.call21 (fun w' hw'=>Kd_ a.k a.t w' (by omega)) ?_
      rw[akF_ hra]
      with_reducible refine Ow.nilD ?_
      refine kq (And.intro @zE_ (And.intro @ixi (And.intro @rd (And.intro @ldi (And.intro @ixk (@ldk)))))) ?_
      refine Ow.softA ?_
      refine Ow.callFV rfl Tryz.call21 (fun w' hw'=>Kd_ b.k b.t w' (by omega)) ?_
      rw[akF_ hrb]
      with_reducible refine Ow.nilD ?_
      refine kq @zE_ ?_
      cases hq: ((idK a).l==(idK b).l) with
      |false=>
       try with_reducible refine Ow.nil ?_
       first|with_reducible refine ks [] @zE_ ?_|refine kp @zE_ ?_
       exact Again.mk (k+1) (by omega) ⟨hkt,next fun h=>by rw[h.2.2.2] at hq;simp at hq⟩ rfl rfl
      |true=>
       try with_reducible refine Ow.nil ?_
       first|with_reducible refine ks [] @zE_ ?_|refine kp @zE_ ?_
       refine⟨_,(ke @zE_),trivial, ?_⟩
       exact⟨true,rfl,fun h=>by cases h⟩
  ·obtain rfl:k=i:=by omega
   have hd1:decide ((k:Int)< (k:Int))=false:=by simp
   first|with_reducible refine ks [] (And.intro @zE_ @hd1) ?_|refine kp (And.intro @zE_ @hd1) ?_
   refine Again.mk (k+1) (by omega) ⟨hlt,fun p hp q hq=> ?_⟩ rfl rfl
   by_cases e:p=k
   ·subst e;exact hpk q hq
   ·exact hpi p (by omega) q hq
 ·obtain rfl:i=l.length:=by omega
  have hd0:decide ((l.length:Int)< (l.length:Int))=false:=by simp
  first|with_reducible refine ks [] (And.intro @zE_ (And.intro @ln (@hd0))) ?_|refine kp (And.intro @zE_ (And.intro @ln (@hd0))) ?_
  refine⟨_,(ke @zE_),trivial, ?_⟩
  exact⟨false,rfl,fun _=>ak1_ hpi⟩
end Go.Proofs
end
section
namespace Go.Proofs
open Go Go.Shelf
set_option maxRecDepth 100000
def Tryz.sortOn_ren:Go.Shelf.Ren:=⟨fun|6=>25|15=>47|14=>46|28=>88|29=>89|20=>80|21=>81|22=>82|23=>83|24=>84|25=>85|26=>86|27=>87|46=>113|47=>114|48=>115|49=>116|50=>117|57=>130|n=>n,fun|22=>68|24=>70|25=>72|3=>3|39=>107|0=>0|53=>148|55=>152|4=>4|46=>157|45=>156|50=>88|5=>5|9=>9|66=>194|70=>198|76=>214|77=>215|n=>n,fun|n=>n⟩
theorem Tryz.sortOn:Go.Proofs.SlLaysF0.n6 Tryz.prog Tryz.sortOn_ren:={
 mixed:=by kernel_rfl
 f6:=⟨Tryz.f25.name,by decide,Tryz.func25.trans (congrArg some (by kernel_rfl))⟩
 f14:=⟨Tryz.f46.name,by decide,Tryz.func46.trans (congrArg some (by kernel_rfl))⟩
 f15:=Tryz.func47.trans (congrArg some (by kernel_rfl))
 f20:=⟨Tryz.f80.name,by decide,Tryz.func80.trans (congrArg some (by kernel_rfl))⟩
 f21:=⟨Tryz.f81.name,by decide,Tryz.func81.trans (congrArg some (by kernel_rfl))⟩
 f22:=⟨Tryz.f82.name,by decide,Tryz.func82.trans (congrArg some (by kernel_rfl))⟩
 f23:=⟨Tryz.f83.name,by decide,Tryz.func83.trans (congrArg some (by kernel_rfl))⟩
 f24:=⟨Tryz.f84.name,by decide,Tryz.func84.trans (congrArg some (by kernel_rfl))⟩
 f25:=⟨Tryz.f85.name,by decide,Tryz.func85.trans (congrArg some (by kernel_rfl))⟩
 f26:=⟨Tryz.f86.name,by decide,Tryz.func86.trans (congrArg some (by kernel_rfl))⟩
 f27:=⟨Tryz.f87.name,by decide,Tryz.func87.trans (congrArg some (by kernel_rfl))⟩
 f28:=Tryz.func88.trans (congrArg some (by kernel_rfl))
 f29:=Tryz.func89.trans (congrArg some (by kernel_rfl))
 f46:=⟨Tryz.f113.name,by decide,Tryz.func113.trans (congrArg some (by kernel_rfl))⟩
 f47:=Tryz.func114.trans (congrArg some (by kernel_rfl))
 f48:=Tryz.func115.trans (congrArg some (by kernel_rfl))
 f49:=⟨Tryz.f116.name,by decide,Tryz.func116.trans (congrArg some (by kernel_rfl))⟩
 f50:=⟨Tryz.f117.name,by decide,Tryz.func117.trans (congrArg some (by kernel_rfl))⟩
 f57:=⟨Tryz.f130.name,by decide,Tryz.func130.trans (congrArg some (by kernel_rfl))⟩
 t0:=Tryz.underlying0
 a0:=Tryz.isAgg0
 z0:=Tryz.sizeOf0
 v0:=Tryz.zeroValue0
 t3:=Tryz.underlying3
 a3:=Tryz.isAgg3
 z3:=Tryz.sizeOf3
 v3:=Tryz.zeroValue3
 t4:=Tryz.underlying4
 a4:=Tryz.isAgg4
 z4:=Tryz.sizeOf4
 v4:=Tryz.zeroValue4
 t5:=Tryz.underlying5
 a5:=Tryz.isAgg5
 z5:=Tryz.sizeOf5
 v5:=Tryz.zeroValue5
 t9:=Tryz.underlying9
 a9:=Tryz.isAgg9
 z9:=Tryz.sizeOf9
 v9:=Tryz.zeroValue9
 t22:=Tryz.underlying68
 a22:=Tryz.isAgg68
 z22:=Tryz.sizeOf68
 v22:=Tryz.zeroValue68
 t25:=Tryz.underlying72
 a25:=Tryz.isAgg72
 z25:=Tryz.sizeOf72
 v25:=Tryz.zeroValue72
 t39:=Tryz.underlying107
 a39:=Tryz.isAgg107
 z39:=Tryz.sizeOf107
 v39:=Tryz.zeroValue107
 t45:=Tryz.underlying156
 a45:=Tryz.isAgg156
 z45:=Tryz.sizeOf156
 v45:=Tryz.zeroValue156
 t46:=Tryz.underlying157
 a46:=Tryz.isAgg157
 z46:=Tryz.sizeOf157
 v46:=Tryz.zeroValue157
 t50:=Tryz.underlying88
 a50:=Tryz.isAgg88
 z50:=Tryz.sizeOf88
 v50:=Tryz.zeroValue88
 t53:=Tryz.underlying148
 a53:=Tryz.isAgg148
 z53:=Tryz.sizeOf148
 v53:=Tryz.zeroValue148
 t55:=Tryz.underlying152
 a55:=Tryz.isAgg152
 z55:=Tryz.sizeOf152
 v55:=Tryz.zeroValue152
 t66:=Tryz.underlying194
 a66:=Tryz.isAgg194
 z66:=Tryz.sizeOf194
 v66:=Tryz.zeroValue194
 t70:=Tryz.underlying198
 a70:=Tryz.isAgg198
 z70:=Tryz.sizeOf198
 v70:=Tryz.zeroValue198
 t76:=Tryz.underlying214
 a76:=Tryz.isAgg214
 z76:=Tryz.sizeOf214
 v76:=Tryz.zeroValue214
 t77:=Tryz.underlying215
 a77:=Tryz.isAgg215
 z77:=Tryz.sizeOf215
 v77:=Tryz.zeroValue215}
end Go.Proofs
end
namespace Go.Sx
open Go Go.Proofs Go.Shelf Go.Sort
section
variable {α:Type} [Inhabited α] {enc:α→List Value} {k:Nat}
theorem aco_ {P:Program} {ρ:Ren} (L:SlLaysF0.n6 P ρ) (aE: ∀w,(isAgg (ρ.t 24)).run P w= .ok true w) (zE: ∀w,(Go.sizeOf (ρ.t 24)).run P w= .ok k w) (hk: ∀x,(enc x).length=k) (h1: ∀x,∀v∈enc x,v.oneCell'=true) (cf:α→α→Int) (hO:SWO (ltOf cf)) (g:FuncId) (cb:Array Value)
  (eg: ∀args w,(callFunc g args).run P w= .ok (.enter g args) w)
  {w:World} {b c:Nat} {E:TypeId} {l:List α} {rest:List Value} (hcmp:CmpLays P g cb enc k cf b 0 l.length w) (hb:w.heap[b]? =some (.cells ((l.map enc).flatten++rest).toArray E (0,0))) (hsz:l.length<4611686018427387904):
  Rets P (ρ.f 6) #[vsl b 0 l.length c, .func (.func g) #[] cb] w (fun v D=> ∃o,D= [(b,o)]∧v= .tuple #[]∧ ∃l':List α,l'.Perm l∧l'.Pairwise (fun x y=>ltOf cf y x=false)∧o= .cells ((l'.map enc).flatten++rest).toArray E (0,0)):=by
 have hbl:=(Array.getElem?_eq_some_iff.1 hb).1
 have hH:HoldsK enc k w b 0 l.toArray:=by
  unfold HoldsK Holds
  intro t ht
  rw[size_flatK,List.size_toArray] at ht
  rw[get_flatK _ _ _ _ (by rw[List.size_toArray];exact ht)]
  have h:=Ke_ hk l t ht
  have hlt:=(List.getElem?_eq_some_iff.1 h).1
  refine⟨?_, ?_⟩
  ·simp only[World.cell?,hb,Option.isSome_none,Bool.false_eq_true, ↓reduceIte,Nat.zero_add,List.getElem?_toArray,id]
   rw[List.getElem?_append_left hlt,h];simp
  ·simp only[World.frozen?,hb];simp
 have hcon:=AnyQ.slices_SortFunc L k aE zE enc hk h1 cf hO g cb b 0 c l.toArray w eg (by rw[List.size_toArray];exact hcmp) hH hbl (by rw[List.size_toArray];exact hsz)
 refine Calls.mono hcon ?_
 rintro e w' ⟨rfl,d',n,os,hp,hs,rfl⟩
 obtain⟨l',rfl⟩: ∃l':List α,d'=l'.toArray:=⟨d'.toList,by simp⟩
 obtain⟨hz,-,hp⟩:=hp
 rw[List.size_toArray,List.size_toArray] at hz
 have hfl: ∀m:List α,(m.map enc).flatten.length=m.length*k:=fun m=>by
  have:=congrArg Array.size (aa8_ (enc:=enc) hk m)
  rw[size_flatK,List.size_toArray,List.size_toArray] at this
  exact this.symm
 have hob: (sortWorldK enc k w b 0 n l'.toArray os).heap[b]? =some (.cells ((l'.map enc).flatten++rest).toArray E (0,0)):=by
  show((w.heap.modify b (onCells (putCells id 0 (flatK enc k l'.toArray))))++os)[b]? =_
  rw[Array.getElem?_append_left (by rw[Array.size_modify];exact hbl),Array.getElem?_modify,if_pos rfl,hb,aa8_ hk,Option.map_some]
  simp only[onCells]
  rw[VZ_ (by rw[hfl,hfl,hz])]
 refine⟨.tuple #[],[(b,_)],rfl,⟨?_,by simp[keys], ?_, ?_,rfl,rfl,rfl⟩,_,rfl,rfl,l', ?_, ?_,rfl⟩
 ·intro b' o' hm
  simp only[List.mem_singleton,Prod.mk.injEq] at hm
  rw[hm.1,hm.2];exact hob
 ·intro b' hb' hn
  have hne:b≠b':=fun h=>hn (by simp[keys,h])
  show((w.heap.modify b (onCells (putCells id 0 (flatK enc k l'.toArray))))++os)[b']? =_
  rw[Array.getElem?_append_left (by rw[Array.size_modify];exact hb'),Array.getElem?_modify,if_neg hne]
 ·show w.heap.size≤ ((w.heap.modify b (onCells (putCells id 0 (flatK enc k l'.toArray))))++os).size
  rw[Array.size_append,Array.size_modify];omega
 ·have h2:List.take l.length l'=l':=List.take_of_length_le (by omega)
  rw[←h2]
  simpa using hp
 ·rw[List.pairwise_iff_getElem]
  intro i j hi hj hij
  have:=hs i j (Nat.zero_le _) hij (by rw[List.size_toArray];omega)
  simpa [hi,hj] using this
end
section
variable {α:Type} {m:Nat} {enc:α→List Value} {z:α} {w:World} {v:Value} {l:List α}
theorem SlV.mid (h:SlV m enc z w v l) {k q:Nat} (hkq:k≤q) (hk:q≤l.length) (a:Bool): ∃v',qS_ (.sl (a,m)) v (some (some (k:Int))) (some (some (q:Int)))=some v'∧SlV m enc z w v' ((l.drop k).take (q - k)):=by
 obtain⟨b,off,c,arr,E,fz,hr,hc,hv⟩:=h
 have hl: ((l.drop k).take (q - k)).length=q - k:=by simp;omega
 rcases hv with⟨rfl,rfl,rfl⟩ | ⟨rfl,hhas,hsz⟩
 ·obtain rfl:q=0:=by simpa using hk
  obtain rfl:k=0:=by omega
  exact⟨.slice none 0 0,rfl,SlV.nil w⟩
 ·have hsl:qS_ (.sl (a,m)) (vsl b off l.length c) (some (some (k:Int))) (some (some (q:Int)))=some (vsl b (if c=k then off else off+k*m) (q - k) (c - k)):=by
   unfold qS_ vsl
   simp only[Xr_ _ _ _ _ (⟨by omega,by omega,by omega⟩: (0:Int)≤ (k:Int)∧(k:Int)≤ (q:Int)∧(q:Int)≤ (c:Int)),Int.toNat_natCast]
   by_cases hck:c=k
   ·simp[hck]
   ·simp only[hck, ↓reduceIte,Option.map_some,qP_]
  refine⟨_,hsl, ?_⟩
  have hkm:k*m+ (q - k)*m=q*m:=by rw[←Nat.add_mul];congr 1;omega
  have hqm:q*m≤l.length*m:=Nat.mul_le_mul_right _ hk
  by_cases hck:c=k
  ·have h0:q - k=0:=by omega
   rw[if_pos hck]
   refine⟨b,off,c - k,arr,E,fz,RowS.sl' hl.symm (fun h=>by omega) (fun i hi=>by omega),by omega, .inr ⟨by rw[hl],hhas,by rw[hl,h0];omega⟩⟩
  ·rw[if_neg hck]
   refine⟨b,off+k*m,c - k,arr,E,fz,RowS.sl' hl.symm (fun h=>hhas) ?_,by omega, .inr ⟨by rw[hl],hhas,by rw[hl];omega⟩⟩
   intro i hi j hj
   rw[hl] at hi
   rw[List.getD_eq_getElem?_getD,List.getElem?_take_of_lt hi,List.getElem?_drop,←List.getD_eq_getElem?_getD,←hr.get (k+i) (by omega) j hj]
   congr 1
   rw[Nat.add_mul];omega
end
end Go.Sx
