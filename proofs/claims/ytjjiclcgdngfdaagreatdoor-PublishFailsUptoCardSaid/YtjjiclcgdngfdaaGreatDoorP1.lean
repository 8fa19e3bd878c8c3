/-
  Part 1 of the walk: contracts of the functions that the law reaches, and the calculus they stand on.
  No conditions.
-/
import Derived.Test.YtjjiclcgdngfdaaGreatDoorP0
import Derived.RangeFuncLeaves
import Derived.RangeFuncIn
import Derived.RangeFuncSeq
import Derived.RangeFuncRecord
import Derived.TacticsIn
import Derived.Maps.RangeRun
import Derived.Test.YtjjiclcgdngfdaaGreatDoorProg
import Derived.Lib.Small
import Derived.Lib.Walk
import Derived.Lib.Bytealg
import Derived.Deep.Draws
import Derived.Deep.QuietTactic
namespace Go.Sx
open Go
section
variable {P:Program} {w0:World} {f:Fr} {L:za_} {N:Fr→za_→Prop} {K:ky_} {l:List Oper} {listed:List Bool} {n:Nat} {R ts:List Nat} {a d:Nat} {z:Obj}
theorem Md.next_sofnil (R ts:List Nat): (Md.sof R [] ts).next= .sof R [] ts:=(rfl)
theorem aaT_ {Q:Exit→Act→World→Prop} {o:Oper} {x:Act} {d:Option Tmp} {v:Value} {K:Act→World→Prop} (hd: ∀t,d=some t→o.dst≠some t)
  (hQ: ∀c a w,Q (.panic c) a w→Q (.panic c) (a.put d v) w) (r:Result Next) (h:o.upon P x (fun a' w'=>K (a'.put d v) w') Q r):
  o.upon P (x.put d v) K Q r:=by
 have comm: ∀u,(x.put o.dst u).put d v=(x.put d v).put o.dst u:=fun u=>(Act.put_comm x v u hd).symm
 match r,h with
 | .ok (.value u) _,h=>show K _ _;rw[←comm];exact h
 | .ok .skip _,h=>show K _ _;rw[←comm];exact h
 | .ok (.defer e) w',h=>
  have h':K ((({x with defers:=e::x.defers}:Act).put o.dst undef).put d v) w':=h
  rw[←Act.put_comm _ v undef hd,←Act.put_defers] at h'
  exact h'
 | .ok (.enter f args) _,h=>
  refine Calls.mono h fun e w'' he=> ?_
  match e,he with
  | .returned u,he=>show K _ _;rw[←comm];exact he
  | .panicked c,he=>exact hQ _ _ _ he
  | .outgrown,he=>exact he
 | .ok (.row row args) _,h=>exact Rows.mono h fun u w'' he=>by rw[←comm];exact he
 | .halt (.panic u) _,h=>exact hQ _ _ _ h
theorem aaW_ {ops:Array Oper} {Q:Exit→Act→World→Prop} {j:Nat} {oj:Oper} {d:Option Tmp} {v:Value} (hj:ops[j]? =some oj) (h1: ∀t,d=some t→t∉oj.looksAt ops) (h2: ∀t,d=some t→oj.dst≠some t) (hsj: ∀cs b,oj.op≠ .select cs b)
  (hQ: ∀c a w,Q (.panic c) a w→Q (.panic c) (a.put d v) w) {K:Act→World→Prop} {x:Act} {w:World}
  (h:wpOp P ops Q j (fun a' w'=>K (a'.put d v) w') x w):wpOp P ops Q j K (x.put d v) w:=by
 unfold wpOp at h ⊢
 simp only[hj] at h ⊢
 rw[wanted_put oj x d v h1]
 cases hw:Region.wanted oj (yielded ops x.tmps) with
 |true=>
  rw[hw] at h
  simp only[if_true] at h ⊢
  rcases h with h| ⟨hasks,hl⟩
  ·left
   unfold Oper.wp at h ⊢
   rw[execOp_put oj hsj x d v h1]
   exact aaT_ h2 hQ _ h
  ·right
   exact⟨by unfold Oper.asks at*;rwa [execOp_put oj hsj x d v h1],hl⟩
 |false=>
  rw[hw] at h
  simp only[Bool.false_eq_true,if_false] at h ⊢
  rw[Act.put_comm x v undef h2]
  exact h
structure Drift (P:Program) (l:List Oper) (ts:List Nat) (a d:Nat) (z:Obj):Prop where
 here: ∃oa t zv,l.toArray[a]? =some oa∧oa.op= .alloc t∧oa.dst=some d∧oa.guard=none∧zX_ P t=some zv∧z= .cells zv.cells t
 ts:a∉ts
 sel:Region.noSelect l.toArray=true
def atG_ (l:List Oper) (ts:List Nat) (a d:Nat):Bool:=
 (match vC_ l a with
 |some oa=>(match oa.op with| .alloc _=>true|_=>false)&&oa.dst==some d&&oa.guard==none
 |none=>false)&& !ts.contains a&&Region.noSelect l.toArray
def OwD (P:Program) (w0:World) (l:List Oper) (R ts:List Nat) (a d:Nat) (z:Obj) (n:Nat) (listed:List Bool) (f:Fr) (L:za_) (N:Fr→za_→Prop):Prop:=
 (∀w,Hp w0 L w→x4_ P l.toArray (jU_ w0 N) ts (SR w0 R L) (n+1) listed.toArray (act f) w)∧
 (∀b w,w0.heap.size≤b→b∉keys L→Hp w0 (L++ [(b,z)]) w→x4_ P l.toArray (jU_ w0 N) ts (SR w0 R L) n (listed.set a true).toArray (act (WP_ f d (vp b 0))) w)
theorem SR.ofE {w:World} {b:Nat} (hb:w0.heap.size≤b) (h:Hp w0 (L++ [(b,z)]) w):SR w0 R L w:=by
 intro r _ o ho
 unfold zz_ at ho
 split at ho
 ·rename_i o' hl
  cases ho
  exact h.has _ _ (List.mem_append_left _ (zx_ hl))
 ·rename_i hl
  have hlt:=(Array.getElem?_eq_some_iff.1 ho).1
  rw[h.old r hlt ?_];exact ho
  intro hm
  simp only[keys,List.map_append,List.map_cons,List.map_nil,List.mem_append,List.mem_singleton] at hm
  rcases hm with hm|hm
  ·exact Qr_ hl hm
  ·omega
theorem aju_ {c:List PanicEntry} {x x':Act} {w:World} (h:jU_ w0 N (.panic c) x w):jU_ w0 N (.panic c) x' w:=zV_ h
theorem Hp.perm {w:World} {M:za_} (h:Hp w0 L w) (hp:M.Perm L):Hp w0 M w:=
 h.same (fun _=>hp.mem_iff) ((List.Perm.nodup_iff (hp.map Prod.fst)).2 h.nodup)
def chkD (P:Program) (l:List Oper) (ts:List Nat) (a:Nat):List Nat→List Bool→Option (List Bool)
 | [],listed=>some listed
 |k::is,listed=>
  match vC_ l k,vC_ l a with
  |some o,some oa=>if k !=a&& !ts.contains k&& (ts.all fun t=> !listed.toArray.getD t true&& !(listed.set a true).toArray.getD t true)&& (Region.ready .any l.toArray listed.toArray).contains k&&Region.free .any l.toArray listed.toArray k&&
    (Region.ready .any l.toArray (listed.set a true).toArray).contains k&&Region.free .any l.toArray (listed.set a true).toArray k&&o.apart l.toArray oa&&
    (xZ_ P o.op|| (Vo_ o.op&&Xr_ l.toArray ts listed.toArray k&&Xr_ l.toArray ts (listed.set a true).toArray k)) then chkD P l ts a is (listed.set k true) else none
  |_,_=>none
theorem OwD.step {k:Nat} {o:Oper} {v:Value} (hD:Drift P l ts a d z) (hk:vC_ l k=some o) {rest:List Bool} (hc:chkD P l ts a [k] listed=some rest)
  (hY:YieldsC P l.toArray (SR w0 R L) (xZ_ P o.op=true) o v (act f)) (h:OwD P w0 l R ts a d z n rest (qN_ f o.dst v) L N):OwD P w0 l R ts a d z (n+1) listed f L N:=by
 obtain⟨⟨oa,t,zv,ha,hop,hdst,hg,hz,rfl⟩,hats,hns⟩:=hD
 have hoi:l.toArray[k]? =some o:=by rw[xX_] at hk;simpa using hk
 have ha':vC_ l a=some oa:=by rw[xX_];simpa using ha
 unfold chkD at hc
 rw[hk,ha'] at hc
 simp only at hc
 split at hc
 ·rename_i hcc
  simp only[chkD,Option.some.injEq] at hc
  subst hc
  simp only[Bool.and_eq_true,Bool.or_eq_true,Bool.not_eq_true',List.all_eq_true,List.contains_eq_mem,decide_eq_true_eq,decide_eq_false_iff_not,bne_iff_ne,ne_eq] at hcc
  obtain⟨⟨⟨⟨⟨⟨⟨⟨c1,c2⟩,c3⟩,c4⟩,c5⟩,c6⟩,c7⟩,c8⟩,c9⟩:=hcc
  obtain⟨q1,q2,q3⟩:=Oper.apart_spec c8
  have hsel:=Region.noSelect_spec hns
  have hset: (listed.set k true).set a true=(listed.set a true).set k true:=List.set_comm _ _ c1
  refine⟨fun w hw=> ?_,fun b w hb hbL hw=> ?_⟩
  ·refine v2_ hoi c2 hsel (fun c a w h=>zV_ h) _ _ _ _ (x7_ (P:=P) hoi c4 c5 (c9.imp id fun h=>⟨h.1.1,h.1.2,fun t ht=>(c3 t ht).1⟩)) (.inr fun t ht=>(c3 t ht).1) hY ?_
   rw[z8_,qs_]
   exact h.1 w hw
  ·have hY2:YieldsC P l.toArray (SR w0 R L) (xZ_ P o.op=true) o v (act (WP_ f d (vp b 0))):=by
    refine hY.left (hsel k o · · hoi) (oj:=oa) q3 ⟨vp b 0,[], ?_⟩
    rw[hdst]
    exact(z8_ f (some d) (vp b 0)).symm
   refine v2_ hoi c2 hsel (fun c a w h=>zV_ h) _ _ _ _ (x7_ (P:=P) hoi c6 c7 (c9.imp id fun h=>⟨h.1.1,h.2,fun t ht=>(c3 t ht).2⟩)) (.inr fun t ht=>(c3 t ht).2) hY2 ?_
   have e: (act (WP_ f d (vp b 0))).put o.dst v=act (WP_ (qN_ f o.dst v) d (vp b 0)):=by
    have e1:act (WP_ f d (vp b 0))=(act f).put (some d) (vp b 0):=(z8_ f (some d) (vp b 0)).symm
    rw[e1,Act.put_comm (act f) (x:=some d) (y:=o.dst) (vp b 0) v (fun t ht hod=>by cases ht;exact q2 _ hod hdst),z8_,z8_];rfl
   rw[e,qs_,←hset]
   exact h.2 b w hb hbL hw
 ·cases hc
theorem akC_ {k:Nat} {is:List Nat} {listed listed':List Bool} (h:chkD P l ts a (k::is) listed=some listed'):chkD P l ts a [k] listed=some (listed.set k true)∧chkD P l ts a is (listed.set k true)=some listed':=by
 rw[chkD] at h
 cases ho:vC_ l k with
 |none=>rw[ho] at h;cases h
 |some o=>
  cases hoa:vC_ l a with
  |none=>rw[ho,hoa] at h;cases h
  |some oa=>
   rw[ho,hoa] at h
   simp only at h
   split at h
   ·rename_i hcc
    refine⟨?_,h⟩
    rw[chkD,ho,hoa]
    simp only
    rw[if_pos hcc];rfl
   ·cases h
theorem OwD.runs {k:Md→List Oper→Fr→za_→Prop} (hD:Drift P l ts a d z): ∀ (is:List Nat) {listed listed':List Bool} {f:Fr} {L:za_},chkD P l ts a is listed=some listed'→
  (∀md r f' L',k md r f' L'→r= []∧OwD P w0 l R ts a d z n listed' f' L' N)→vcL P w0 l.toArray false (.sof R [] []) (xW_ l is) f L k→OwD P w0 l R ts a d z (is.length+n) listed f L N
 | [],listed,listed',f,L,hc,hk,h=>by
  cases hc
  rw[List.length_nil,Nat.zero_add]
  exact(hk _ _ _ _ h).2
 |i::is,listed,listed',f,L,hc,hk,h=>by
  obtain⟨hc1,hc2⟩:=akC_ hc
  rw[ze_] at h
  cases ho:vC_ l i with
  |none=>unfold chkD at hc1;rw[ho] at hc1;cases hc1
  |some o=>
   rw[ho,zf_] at h
   unfold vcL at h
   rw[List.length_cons,show is.length+1+n=(is.length+n)+1 by omega]
   cases hs:zq_ l.toArray f o with
   |true=>
    rw[hs] at h
    have hw0:Region.wanted o (yielded l.toArray (act f).tmps)=false:=by rw[qu_,hs];rfl
    exact OwD.step hD ho hc1 (v:=undef) (.inr ⟨hw0,rfl⟩) (OwD.runs hD is hc2 hk h)
   |false=>
    rw[hs] at h
    have hw0:Region.wanted o (yielded l.toArray (act f).tmps)=true:=by rw[qu_,hs];rfl
    simp only[ib,vcB] at h
    split at h
    ·cases hrd:rdOk (.sof R [] []) f o.op with
     |false=>rw[hrd] at h;exact absurd (hk _ _ _ _ h).1 (by simp)
     |true=>
      rw[hrd] at h
      simp only at h
      cases hv:wf_ P w0 L f o.op with
      |none=>rw[hv] at h;exact absurd (hk _ _ _ _ h).1 (by simp)
      |some v=>
       rw[hv] at h
       refine OwD.step hD ho hc1 (v:=v) (.inl ⟨hw0,fun w hw=> ?_⟩) (OwD.runs hD is hc2 hk h)
       rw[jT_]
       rcases hw with hp|hw
       ·exact jj_ (Hp.refl w) (kk_ hp hv w)
       ·exact jj_ (Hp.refl w) (ZK_ hrd hv hw)
    ·exact absurd (hk _ _ _ _ h).1 (by simp)
    ·exact absurd (hk _ _ _ _ h).1 (by simp)
theorem OwD.run (is:List Nat) (listed':List Bool) (n:Nat) {m:Nat} (hm:m=is.length+n) (hD:Drift P l ts a d z) (hc:chkD P l ts a is listed=some listed')
  (h: ∀k:Md→List Oper→Fr→za_→Prop,(∀md f L,OwD P w0 l R ts a d z n listed' f L N→k md [] f L)→nl (xW_ l is) fun l'=>vcL P w0 l.toArray false (.sof R [] []) l' f L k):OwD P w0 l R ts a d z m listed f L N:=by
 subst hm
 refine OwD.runs (k:=fun _ r f' L'=>r= []∧OwD P w0 l R ts a d z n listed' f' L' N) hD is hc (fun _ _ _ _ h=>h) ?_
 exact h _ fun _ _ _ h=>⟨rfl,h⟩
theorem Ws_ {t:TypeId} {zv:Value} {oa:Oper} {Q:Exit→Act→World→Prop} {X:Act→World→Prop} {w:World} (ha:l.toArray[a]? =some oa) (hop:oa.op= .alloc t) (hdst:oa.dst=some d) (hg:oa.guard=none) (hz:zX_ P t=some zv)
  (h:X (act (WP_ f d (vp w.heap.size 0))) (w.alloc (.cells zv.cells t))):wpOp P l.toArray Q a X (act f) w:=by
 obtain⟨dst,op,ty,pos,after,guard⟩:=oa
 simp only at hop hdst hg
 subst hop;subst hdst;subst hg
 unfold wpOp
 simp only[ha]
 have hw:Region.wanted ⟨some d, .alloc t,ty,pos,after,none⟩ (yielded l.toArray (act f).tmps)=true:=by rw[qu_];rfl
 rw[hw]
 simp only[↓reduceIte]
 left
 unfold Oper.wp
 have hr: (execOp (act f).eval ⟨some d, .alloc t,ty,pos,after,none⟩).run P w= .ok (.value (vp w.heap.size 0)) (w.alloc (.cells zv.cells t)):=by
  simp only[execOp,Instr.alloc,Sem.run_bind,xK_ hz w,Result.andThen_ok]
  rfl
 rw[hr]
 show X ((act f).put (some d) (vp w.heap.size 0)) _
 rw[z8_]
 exact h
theorem Zr_ {L':za_} (hS: ∀b,b∈R→zz_ w0 L' b=zz_ w0 L b):SR w0 R L=SR w0 R L':=by
 funext v
 unfold SR
 apply propext
 constructor
 ·intro hh b hb o ho;exact hh b hb o (by rw[←hS b hb];exact ho)
 ·intro hh b hb o ho;exact hh b hb o (by rw[hS b hb];exact ho)
def agj_ (l:List Oper) (ts:List Nat) (a:Nat) (ks:List Nat) (listed:List Bool):Bool:=
 ((Region.ready .any l.toArray listed.toArray).all fun i=>i==a||ks.contains i)&& (Region.ready .any l.toArray listed.toArray != [])&& ((Region.ready .any l.toArray (listed.set a true).toArray).all fun i=>ks.contains i)&& (Region.ready .any l.toArray (listed.set a true).toArray != [])&&ks.all fun k=>
  match vC_ l k,vC_ l a with
  |some o,some oa=>k !=a&& !ts.contains k&&o.apart l.toArray oa
  |_,_=>false
theorem OwD.softs (ks:List Nat) (hD:Drift P l ts a d z) (hs:agj_ l ts a ks listed=true)
  (h: ∀k,k∈ks→ ∀o,vC_ l k=some o→ ∀E,(E= []∨ ∃b,E= [(b,z)]∧w0.heap.size≤b∧b∉keys L)→Ow P w0 l.toArray .seq [o] f (L++E) (fun f' L''=> ∃L',(L'++E).Perm L''∧(∀r,r∈R→zz_ w0 L' r=zz_ w0 L r)∧OwD P w0 l R ts a d z n (listed.set k true) f' L' N)):
  OwD P w0 l R ts a d z (n+1) listed f L N:=by
 obtain⟨⟨oa,t,zv,ha,hop,hdst,hg,hz,rfl⟩,hats,hns⟩:=hD
 have ha':vC_ l a=some oa:=by rw[xX_];simpa using ha
 unfold agj_ at hs
 simp only[Bool.and_eq_true,List.all_eq_true,Bool.or_eq_true,beq_iff_eq,bne_iff_ne,ne_eq,List.contains_eq_mem,decide_eq_true_eq] at hs
 obtain⟨⟨⟨⟨c3,c4⟩,c5⟩,c5'⟩,c6⟩:=hs
 have hsel:=Region.noSelect_spec hns
 have hkk: ∀k,k∈ks→ ∃o,vC_ l k=some o∧k≠a∧k∉ts∧o.apart l.toArray oa=true:=by
  intro k hk
  have:=c6 k hk
  rw[ha'] at this
  cases ho:vC_ l k with
  |none=>rw[ho] at this;cases this
  |some o=>
   rw[ho] at this
   simp only[Bool.and_eq_true,Bool.not_eq_true',bne_iff_ne,ne_eq,decide_eq_false_iff_not] at this
   exact⟨o,rfl,this.1.1,this.1.2,this.2⟩
 have t2: ∀b w,w0.heap.size≤b→b∉keys L→Hp w0 (L++ [(b, .cells zv.cells t)]) w→x4_ P l.toArray (jU_ w0 N) ts (SR w0 R L) (n+1) (listed.set a true).toArray (act (WP_ f d (vp b 0))) w:=by
  intro b w hb hbL hw
  refine⟨fun _=>SR.ofE hb hw,(fun h=>absurd h c5'), ?_⟩
  intro k hi
  have hkm:=c5 k hi
  obtain⟨o,hk,c1,c2,c7⟩:=hkk k hkm
  have hoi:l.toArray[k]? =some o:=by rw[xX_] at hk;simpa using hk
  obtain⟨q1,q2,q3⟩:=Oper.apart_spec c7
  have hset: (listed.set k true).set a true=(listed.set a true).set k true:=List.set_comm _ _ c1
  have e1:act (WP_ f d (vp b 0))=(act f).put (some d) (vp b 0):=(z8_ f (some d) (vp b 0)).symm
  rw[e1]
  refine aaW_ hoi (fun t ht=>by cases ht;exact q3 d hdst) (fun t ht=>by cases ht;exact fun hod=>q2 d hod hdst) (hsel _ o · · hoi) (fun c a w h=>aju_ h) ?_
  refine ZO_ hoi (X:=fun a' w'=>x4_ P l.toArray (jU_ w0 N) ts (SR w0 R L) n ((listed.set a true).toArray.setIfInBounds k true) (a'.put (some d) (vp b 0)) w') ?_ hw
  intro w' hw'
  refine kY_ ?_ (h k hkm o hk [(b, .cells zv.cells t)] (.inr ⟨b,rfl,hb,hbL⟩) w' hw')
  rintro f' L'' ⟨L',hpm,hR,hO⟩ w'' hw''
  have hw3:=hw''.perm hpm
  rw[z8_,qs_,←hset,Zr_ hR]
  refine hO.2 b w'' hb (fun hm=> ?_) hw3
  have hnd:=hw3.nodup
  rw[zs_,List.nodup_append] at hnd
  exact hnd.2.2 b hm b (by simp[keys]) rfl
 refine⟨fun w hw=>⟨fun _=>SR.of hw,fun h=>absurd h c4,fun k hi=> ?_⟩,t2⟩
 rcases c3 k hi with rfl|hkm
 ·refine Ws_ ha hop hdst hg hz ?_
  rw[qs_]
  refine t2 _ _ hw.size (fun hm=>Nat.lt_irrefl _ (hw.lt hm)) (hw.alloc _)
 ·obtain⟨o,hk,c1,c2,c7⟩:=hkk k hkm
  have hoi:l.toArray[k]? =some o:=by rw[xX_] at hk;simpa using hk
  refine ZO_ hoi (X:=x4_ P l.toArray (jU_ w0 N) ts (SR w0 R L) (n+1) (listed.toArray.setIfInBounds k true)) ?_ hw
  intro w' hw'
  have h1:=h k hkm o hk [] (.inl rfl)
  rw[List.append_nil] at h1
  refine kY_ ?_ (h1 w' hw')
  rintro f' L'' ⟨L',hpm,hR,hO⟩ w'' hw''
  rw[List.append_nil] at hpm
  rw[qs_,Zr_ hR]
  exact hO.1 w'' (hw''.perm hpm)
theorem OwD.soft (k:Nat) (o:Oper) (hD:Drift P l ts a d z) (hk:vC_ l k=some o) (hs:agj_ l ts a [k] listed=true)
  (h: ∀E,(E= []∨ ∃b,E= [(b,z)]∧w0.heap.size≤b∧b∉keys L)→Ow P w0 l.toArray .seq [o] f (L++E) (fun f' L''=> ∃L',(L'++E).Perm L''∧(∀r,r∈R→zz_ w0 L' r=zz_ w0 L r)∧OwD P w0 l R ts a d z n (listed.set k true) f' L' N)):
  OwD P w0 l R ts a d z (n+1) listed f L N:=OwD.softs [k] hD hs fun k' hk' o' ho'=>by
 rw[List.mem_singleton] at hk'
 subst hk'
 rw[hk] at ho'
 cases ho'
 exact h
theorem OwD.two (k k2:Nat) (o o2:Oper) (hD:Drift P l ts a d z) (hk:vC_ l k=some o) (hk2:vC_ l k2=some o2) (hs:agj_ l ts a [k,k2] listed=true)
  (h: ∀E,(E= []∨ ∃b,E= [(b,z)]∧w0.heap.size≤b∧b∉keys L)→Ow P w0 l.toArray .seq [o] f (L++E) (fun f' L''=> ∃L',(L'++E).Perm L''∧(∀r,r∈R→zz_ w0 L' r=zz_ w0 L r)∧OwD P w0 l R ts a d z n (listed.set k true) f' L' N))
  (h2: ∀E,(E= []∨ ∃b,E= [(b,z)]∧w0.heap.size≤b∧b∉keys L)→Ow P w0 l.toArray .seq [o2] f (L++E) (fun f' L''=> ∃L',(L'++E).Perm L''∧(∀r,r∈R→zz_ w0 L' r=zz_ w0 L r)∧OwD P w0 l R ts a d z n (listed.set k2 true) f' L' N)):
  OwD P w0 l R ts a d z (n+1) listed f L N:=OwD.softs [k,k2] hD hs fun k' hk' o' ho'=>by
 simp only[List.mem_cons,List.not_mem_nil,or_false] at hk'
 rcases hk' with rfl|rfl
 ·rw[hk] at ho';cases ho';exact h
 ·rw[hk2] at ho';cases ho';exact h2
theorem OwD.real (is:List Nat) {m:Nat} (hm:m=is.length) (hD:Drift P l ts a d z) (hr:Region.ready .any l.toArray listed.toArray= [a]) (hB:Js_ P l.toArray ts is (listed.set a true).toArray=true) (hts: (ts.all fun t=> !(listed.set a true).toArray.getD t true)=true)
  (hl:is.map (fun i:Nat=>l[i]?)=(xW_ l is).map some) (hR: ∀r,r∈R→r∈keys L∨r<w0.heap.size)
  (h:nl (xW_ l is) fun l'=> ∀b,w0.heap.size≤b→b∉keys L→Ow P w0 l.toArray (.sof R is ts) l' (WP_ f d (vp b 0)) (L++ [(b,z)]) N):OwD P w0 l R ts a d z m listed f L N:=by
 subst hm
 obtain⟨⟨oa,t,zv,ha,hop,hdst,hg,hz,rfl⟩,hats,hns⟩:=hD
 simp only[List.all_eq_true,Bool.not_eq_true'] at hts
 revert hl h
 generalize xW_ l is=l'
 intro hl h
 have hlen:is.length=l'.length:=by have:=congrArg List.length hl;simpa using this
 have hF:Fits P l.toArray ts is l' (listed.set a true).toArray:=⟨hlen,fun j=>by
  have:=congrArg (·[j]?) hl
  simp only[List.getElem?_map] at this
  cases hj:is[j]? with
  |none=>
   rw[hj] at this
   simp only[Option.map_none] at this
   cases hj':l'[j]? with
   |none=>rfl
   |some x=>rw[hj'] at this;cases this
  |some i=>
   rw[hj] at this
   simp only[Option.map_some] at this
   cases hj':l'[j]? with
   |none=>rw[hj'] at this;cases this
   |some x=>
    rw[hj'] at this
    simp only[Option.map_some,Option.some.injEq] at this
    simp[this],hns,hB⟩
 have hRb: ∀b,w0.heap.size≤b→b∉keys L→ ∀r,r∈R→zz_ w0 (L++ [(b,Obj.cells zv.cells t)]) r=zz_ w0 L r:=by
  intro b hb hbL r hr
  unfold zz_
  cases hlk:look L r with
  |some o=>rw[zj_ hlk]
  |none=>
   have hrn:r∉keys L:=Qr_ hlk
   have hne:b≠r:=by
    rcases hR r hr with h|h
    ·exact absurd h hrn
    ·omega
   rw[zW_ hrn]
   unfold look
   rw[if_neg hne];rfl
 have t2: ∀b w,w0.heap.size≤b→b∉keys L→Hp w0 (L++ [(b, .cells zv.cells t)]) w→x4_ P l.toArray (jU_ w0 N) ts (SR w0 R L) is.length (listed.set a true).toArray (act (WP_ f d (vp b 0))) w:=by
  intro b w hb hbL hw
  rw[hlen,Zr_ (hRb b hb hbL)]
  exact h b hb hbL _ hF (fun t ht=>hts t ht) w hw
 refine⟨fun w hw=>⟨fun _=>SR.of hw,(fun h=>by rw[hr] at h;cases h),fun i hi=> ?_⟩,t2⟩
 rw[hr,List.mem_singleton] at hi
 subst hi
 refine Ws_ ha hop hdst hg hz ?_
 rw[qs_]
 exact t2 _ _ hw.size (fun hm=>Nat.lt_irrefl _ (hw.lt hm)) (hw.alloc _)
end
end Go.Sx
namespace Go.Sx
open Go
def Gr (L:za_) (E:TypeId) (m:Nat) (v:Value) (n:Nat) (cs:List Value):Prop:=
 Buf L E m v n cs∨(n=0∧cs= []∧ ∃b,v=vsl b 0 0 0∧look L b=some (.cells #[] E (0,0)))
theorem Gr.nl {L:za_} {E:TypeId} {m:Nat}:Gr L E m (.slice none 0 0) 0 []:= .inl .nl
theorem Grew.any {w0:World} {v v':Value} {L L':za_} (h:Grew w0 v L L') (hv:slB v=none):Grew w0 v' L L':=
 ⟨h.keys,h.new,fun c o _ hl=>h.look c o (by rw[hv];simp) hl⟩
theorem Gr.keep {L L':za_} {E:TypeId} {m n:Nat} {v:Value} {cs:List Value} (h:Gr L E m v n cs) (hk: ∀b o,slB v=some b→look L b=some o→look L' b=some o):Gr L' E m v n cs:=by
 rcases h with h| ⟨h1,h2,b,rfl,h3⟩
 ·exact .inl (h.keep hk)
 ·exact .inr ⟨h1,h2,b,rfl,hk b _ rfl h3⟩
theorem Gr.app {L M:za_} {E:TypeId} {m n:Nat} {v:Value} {cs:List Value} (h:Gr L E m v n cs):Gr (L++M) E m v n cs:=h.keep fun _ _ _ hl=>zj_ hl
theorem Gr.len {L:za_} {E:TypeId} {m n:Nat} {v:Value} {cs:List Value} (h:Gr L E m v n cs) (x:Bool×Nat):Kg_ (.sl x) v=some (vi n):=by
 rcases h with h| ⟨rfl,rfl,b,rfl,-⟩
 ·exact h.len x
 ·rfl
theorem Gr.cell {L:za_} {E:TypeId} {m n:Nat} {v:Value} {cs:List Value} (h:Gr L E m v n cs):Value.oneCell' v=true∧v.cells= #[v]:=by
 rcases h with h| ⟨rfl,rfl,b,rfl,-⟩
 ·exact h.cell
 ·exact⟨rfl,rfl⟩
theorem Gr.key {L:za_} {E:TypeId} {m n:Nat} {v:Value} {cs:List Value} (h:Gr L E m v n cs) {b:Nat} (hb:slB v=some b):b∈keys L:=by
 rcases h with h| ⟨rfl,rfl,c,rfl,hl⟩
 ·rcases h.inv with⟨rfl,-,-⟩ | ⟨c,cc,rest,rfl,hl,-⟩
  ·cases hb
  ·cases hb;exact zh_ hl
 ·cases hb;exact zh_ hl
section
variable {α:Type} {m:Nat} {enc:α→List Value} {z:α} {w:World} {v:Value} {l:List α}
theorem Gr.slM {L:za_} {E:TypeId} {n:Nat} {cs:List Value} (h:Gr L E m v n cs) (hw: ∀b o,(b,o)∈L→w.heap[b]? =some o) (hl:l.length=n) (hcs:cs=(l.map enc).flatten) (hm: ∀x,(enc x).length=m):SlV m enc z w v l:=by
 rcases h with h| ⟨rfl,rfl,b,rfl,hlk⟩
 ·exact h.slM hw hl hcs hm
 ·obtain rfl:l= []:=List.eq_nil_of_length_eq_zero hl
  exact SlV.sl (l:=([]:List α)) (off:=0) (c:=0) (hw _ _ (zx_ hlk)) (fun k hk=>by simp at hk) (Nat.le_refl 0) (by simp)
theorem Gr.slV {L:za_} {E:TypeId} {n:Nat} {cs:List Value} {w0:World} (h:Gr L E m v n cs) (hw:Hp w0 L w) (hl:l.length=n) (hcs:cs=(l.map enc).flatten) (hm: ∀x,(enc x).length=m):SlV m enc z w v l:=h.slM hw.has hl hcs hm
theorem JA_ (hm: ∀x,(enc x).length=m) (arr:Array Value): ∀ (ls:List α) (off:Nat),off+ls.length*m≤arr.size→(∀k j,k<ls.length→j<m→arr[off+k*m+j]? =(enc (ls.getD k z))[j]?)→
  (arr.extract off (off+ls.length*m)).toList=(ls.map enc).flatten
 | [],off,_,_=>by simp
 |r::ls,off,hs,h=>by
  have hlm: (r::ls).length*m=m+ls.length*m:=by rw[List.length_cons,Nat.add_mul,Nat.one_mul,Nat.add_comm]
  rw[hlm] at hs ⊢
  have ih:=JA_ hm arr ls (off+m) (by omega) (fun k j hk hj=>by
   have:=h (k+1) j (by simpa using hk) hj
   rw[List.getD_cons_succ] at this
   rw[←this];congr 1;rw[Nat.add_mul,Nat.one_mul];omega)
  have h0: (arr.extract off (off+m)).toList=enc r:=by
   apply List.ext_getElem?
   intro j
   rw[Array.getElem?_toList,Array.getElem?_extract]
   by_cases hj:j<m
   ·rw[if_pos (by omega)]
    have:=h 0 j (by simp) hj
    simpa using this
   ·rw[if_neg (by omega),List.getElem?_eq_none (by rw[hm];omega)]
  rw[List.map_cons,List.flatten_cons,←ih,←h0,←Array.toList_append]
  congr 1
  rw[Array.extract_append_extract]
  congr 1<;>omega
theorem amb_ (hm: ∀x,(enc x).length=m) (l:List α): (l.map enc).flatten.length=l.length*m:=by
 induction l with
 |nil=>simp
 |cons x r ih=>rw[List.map_cons,List.flatten_cons,List.length_append,ih,hm,List.length_cons,Nat.add_mul,Nat.one_mul,Nat.add_comm]
theorem AppX.one1 {P:Program} {b:Nat} {E:TypeId} {fz:Nat×Nat} {cs:List Value} (hb:w.heap[b]? =some (.cells cs.toArray E fz)) (hm:cs.length=m) (h1:cs.all Value.oneCell'=true):AppX P w m (vsl b 0 1 1) 1 cs:=by
 refine AppX.block (w0:=w) (L:= []) (by rw[QC_];exact hb) (by simp;omega) ?_ h1 (Hp.refl w)
 rw[List.extract_toArray,List.extract_eq_take_drop,List.drop_zero,List.take_of_length_le (by omega)]
theorem SlV.appX {P:Program} (h:SlV m enc z w v l) (hm: ∀x,(enc x).length=m) (h1: ∀x,(enc x).all Value.oneCell'=true):AppX P w m v l.length (l.map enc).flatten:=by
 obtain⟨b,off,c,arr,E,fz,hr,hc,hv⟩:=h
 rcases hv with⟨rfl,rfl,rfl⟩ | ⟨rfl,hhas,hsz⟩
 ·exact AppX.nil P w m
 ·refine AppX.block (w0:=w) (L:= []) (by rw[QC_];exact hhas) hsz (JA_ (z:=z) hm arr l off hsz (fun k j hk hj=>hr.get k hk j hj)) ?_ (Hp.refl w)
  rw[List.all_flatten,List.all_map,List.all_eq_true]
  exact fun r _=>h1 r
end
section
variable {P:Program} {w0:World} {f:Fr} {L:za_} {N:Fr→za_→Prop} {ops:Array Oper} {rest:List Oper} {md:Md}
 {d:Option Tmp} {ty:TypeId} {ps:String} {af:Array Edge} {g:Option (Nat×Bool)}
theorem Ow.appendG {ts tx e:TypeId} {m:Bool×Nat} {z:Value} {s x:Operand} {n k:Nat} {cs new:List Value} {dx:TypeDesc} {md':Md} (sv:Value) (hsv:ev f s=sv) (he:md.turn=some md')
  (hs:zq_ ops f ⟨d, .call ⟨.builtin .append, #[s,x], #[ts,tx]⟩,ty,ps,af,g⟩=false)
  (hu:P.underlying ts=some (.slice e)) (hm:zZ_ P e=some m) (hi:k6_ P e=true) (hz:zX_ P e=some z) (hzs:z.cells.size=m.2) (hux:P.underlying tx=some dx) (hnx: ∀k,dx≠ .int k)
  (hB:Gr L e m.2 sv n cs) (hX: ∀w,Hp w0 L w→AppX P w m.2 (ev f x) k new) (hlen:new.length=k*m.2) (hbig:2* (n+k)+768≤2^38)
  (hn: ∀v' L',Gr L' e m.2 v' (n+k) (cs++new)→(0<k→Buf L' e m.2 v' (n+k) (cs++new))→Grew w0 sv L L'→(slB v'=slB sv∨ ∃c,slB v'=some c∧jR_ L c)→Ow P w0 ops md' rest (qN_ f d v') L' N):
  Ow P w0 ops md (⟨d, .call ⟨.builtin .append, #[s,x], #[ts,tx]⟩,ty,ps,af,g⟩::rest) f L N:=by
 rcases hB with hB| ⟨rfl,rfl,b,rfl,hlk⟩
 ·exact Ow.append sv hsv he hs hu hm hi hz hzs hux hnx hB hX hbig fun v' L' h1 h2 h3=>hn v' L' (.inl h1) (fun _=>h1) h2 h3
 ·refine Ow.appendEm hsv he hs hu hm hi hz hzs hux hnx hX hbig (fun h0=> ?_) (fun v' L' hk h1 h2 h3=> ?_)
  ·subst h0
   obtain rfl:new= []:=List.eq_nil_of_length_eq_zero (by rw[hlen,Nat.zero_mul])
   exact hn _ L (.inr ⟨rfl,rfl,b,rfl,hlk⟩) (fun h=>absurd h (Nat.lt_irrefl 0)) (Grew.refl _ _ _) (.inl rfl)
  ·exact hn v' L' (.inl h1) (fun _=>h1) (h2.any rfl) (.inr h3)
end
end Go.Sx
namespace Go.Sx
open Go
theorem aiX_ {w0:World} {L M:za_} {r:Nat} (h:r∈keys L):zz_ w0 (L++M) r=zz_ w0 L r:=by
 obtain⟨o,ho⟩:=Xc_ h
 rw[zb_ ho,zb_ (zj_ ho)]
theorem kj_ {w0:World} {L M:za_} {R:List Nat} (h: ∀r,r∈R→r∈keys L): ∀r,r∈R→zz_ w0 (L++M) r=zz_ w0 L r:=fun r hr=>aiX_ (h r hr)
theorem New.of_le {n:Nat}: ∀ {D:za_},(∀c,c∈keys D→n≤c)→New n D
 | [],_=>trivial
 | (b,o)::r,h=>⟨h b (by simp[keys]),New.of_le fun c hc=>h c (by simp only[keys,List.map_cons,List.mem_cons] at hc ⊢;exact .inr hc)⟩
theorem ahd_ {w0:World} {L M:za_} {r:Nat} (h:r∉keys M):zz_ w0 (M++L) r=zz_ w0 L r:=by
 unfold zz_;rw[zW_ h]
theorem Ext.new0 {w:World} {D:za_} (h:Ext w [] D):New w.heap.size D:=by
 have hn:=h.new
 have key: ∀ (D:za_),(∀c,c∈Sx.keys D→w.heap.size≤c)→New w.heap.size D:=by
  intro D
  induction D with
  |nil=>intro _;trivial
  |cons p r ih=>
   obtain⟨b,o⟩:=p
   intro hh
   exact⟨hh b (by simp[Sx.keys]),ih fun c hc=>hh c (by simp only[Sx.keys,List.map_cons,List.mem_cons] at hc ⊢;exact .inr hc)⟩
 refine key D fun c hc=> ?_
 rcases hn c hc with h1|h1
 ·cases h1
 ·exact h1
theorem Ext.of_new {w:World} {D:za_} (h:New w.heap.size D):Ext w [] D:=⟨fun c hc=> .inr (h.le c hc),fun c hc=>by cases hc⟩
section
variable {P:Program} {w0:World} {f:Fr} {L:za_} {N:Fr→za_→Prop} {K:ky_} {ops:Array Oper} {rest:List Oper} {md:Md}
 {d:Option Tmp} {ty:TypeId} {ps:String} {af:Array Edge} {g:Option (Nat×Bool)}
theorem v4_ {b:Nat} {o:Obj}: ∀ {B:za_},(keys B).Nodup→(b,o)∈B→look B b=some o
 | [],_,h=>by cases h
 | (c,x)::q,hn,h=>by
  simp only[keys,List.map_cons,List.nodup_cons] at hn
  unfold look
  rcases List.mem_cons.1 h with h|h
  ·cases h;rw[if_pos rfl]
  ·have:c≠b:=fun e=>hn.1 (e▸List.mem_map.2 ⟨_,h,rfl⟩)
   rw[if_neg this]
   exact v4_ hn.2 h
theorem SR.perm {R:List Nat} {M:za_} (h:M.Perm L) (hn: (keys L).Nodup):SR w0 R M=SR w0 R L:=by
 refine Zr_ fun r _=> ?_
 have hk: ∀ (A B:za_),A.Perm B→(keys B).Nodup→ ∀o,look A r=some o→look B r=some o:=fun A B hp hB o ho=>v4_ hB (hp.mem_iff.1 (zx_ ho))
 have hnM: (keys M).Nodup:=(List.Perm.nodup_iff (h.map Prod.fst)).2 hn
 unfold zz_
 cases hl:look L r with
 |some o=>rw[hk L M h.symm hnM o hl]
 |none=>
  cases hm:look M r with
  |none=>rfl
  |some o=>rw[hk M L h hn o hm] at hl;cases hl
theorem OwD.permL {l:List Oper} {listed:List Bool} {n:Nat} {R ts:List Nat} {a d:Nat} {z:Obj} {M:za_} (hp:M.Perm L) (h:OwD P w0 l R ts a d z n listed f M N):OwD P w0 l R ts a d z n listed f L N:=by
 refine⟨fun w hw=> ?_,fun b w hb hbL hw=> ?_⟩
 ·have:=h.1 w (hw.perm hp)
  rw[SR.perm hp hw.nodup] at this
  exact this
 ·have hnd: (keys L).Nodup:=by
   have:=hw.nodup
   rw[zs_,List.nodup_append] at this
   exact this.1
  have:=h.2 b w hb (fun hm=>hbL (by have:=(hp.map Prod.fst).mem_iff.1 hm;exact this)) (hw.perm (hp.append_right _))
  rw[SR.perm hp hnd] at this
  exact this
theorem Cw.permL {c:Code} {M:za_} (hp:M.Perm L) (h:Cw P w0 c f M K):Cw P w0 c f L K:=fun w hw=>h w (hw.perm hp)
theorem Ow.permL {M:za_} {l:List Oper} (hp:M.Perm L) (h:Ow P w0 ops .seq l f M N):Ow P w0 ops .seq l f L N:=fun w hw=>h w (hw.perm hp)
theorem Ow.callC {l:List Operand} {ts:Array TypeId} {k:FuncId} {S:Value→za_→Prop} {md':Md} (he:md.turn=some md')
  (hs:zq_ ops f ⟨d, .call ⟨.value (.func k),l.toArray,ts⟩,ty,ps,af,g⟩=false)
  (hk: ∀a w,(callFunc k a).run P w= .ok (.enter k a) w)
  (hc: ∀w,Hp w0 L w→Rets P k (l.map (ev f)).toArray w (XS w [] S))
  (hn: ∀B v D,jR_ L B→w0.heap.size≤B→New B D→S v D→Ow P w0 ops md' rest (qN_ f d v) (L++D) N):
  Ow P w0 ops md (⟨d, .call ⟨.value (.func k),l.toArray,ts⟩,ty,ps,af,g⟩::rest) f L N:=
 Ow.callN he hs hk (S:=fun B v D=>New B D∧S v D) (fun w hw=>(hc w hw).mono fun _v _D h=>⟨h.1.new0,h.2⟩) (fun _ _ _ h=>h.1) (fun B v D hA hB hS=>hn B v D hA hB hS.1 hS.2)
theorem Hp.part {w:World} {X Y:za_} (h:Hp w0 (X++Y) w):Hp w X w:=
 ⟨fun b o hm=>h.has b o (List.mem_append_left _ hm),by have:=h.nodup;rw[zs_,List.nodup_append] at this;exact this.1,fun _ _ _=>rfl,Nat.le_refl _,rfl,rfl,rfl⟩
theorem Hp.join {w w':World} {X Y D:za_} (h:Hp w0 (X++Y) w) (k:Hp w D w') (h1: ∀c,c∈keys X→c∈keys D) (h2: ∀c,c∈keys D→c∈keys X∨w.heap.size≤c):Hp w0 (D++Y) w':=by
 have hnd:=h.nodup
 rw[zs_,List.nodup_append] at hnd
 have hY: ∀c,c∈keys Y→c∉keys D:=by
  intro c hc hd
  rcases h2 c hd with hx|hx
  ·exact hnd.2.2 c hx c hc rfl
  ·have:=h.lt (b:=c) (by rw[zs_];exact List.mem_append_right _ hc)
   omega
 have ht:=h.trans k
 have e: (X++Y).filter (fun p=> !(keys D).contains p.1)=Y:=by
  rw[List.filter_append,jt_ hY]
  have:X.filter (fun p=> !(keys D).contains p.1)= []:=by
   rw[List.filter_eq_nil_iff]
   intro p hp
   have:=h1 p.1 (List.mem_map.2 ⟨p,hp,rfl⟩)
   simp[this]
  rw[this,List.nil_append]
 rw[e] at ht
 exact ht.perm List.perm_append_comm
theorem Ow.appendX {ts tx e:TypeId} {m:Bool×Nat} {z:Value} {s x:Operand} {n k:Nat} {cs new:List Value} {dx:TypeDesc} {md':Md} {X Y:za_} (sv:Value) (hL:L=X++Y) (hsv:ev f s=sv) (he:md.turn=some md')
  (hs:zq_ ops f ⟨d, .call ⟨.builtin .append, #[s,x], #[ts,tx]⟩,ty,ps,af,g⟩=false)
  (hu:P.underlying ts=some (.slice e)) (hm:zZ_ P e=some m) (hi:k6_ P e=true) (hz:zX_ P e=some z) (hzs:z.cells.size=m.2) (hux:P.underlying tx=some dx) (hnx: ∀k,dx≠ .int k)
  (hB:Gr X e m.2 sv n cs) (hX: ∀w,Hp w0 L w→AppX P w m.2 (ev f x) k new) (hk:0<k) (hbig:2* (n+k)+768≤2^38)
  (hn: ∀B v' D,jR_ L B→w0.heap.size≤B→Buf D e m.2 v' (n+k) (cs++new)→(∀c,c∈keys X→c∈keys D)→(∀c,c∈keys D→c∈keys X∨B≤c)→(∀c o,slB sv≠some c→look X c=some o→look D c=some o)→Ow P w0 ops md' rest (qN_ f d v') (D++Y) N):
  Ow P w0 ops md (⟨d, .call ⟨.builtin .append, #[s,x], #[ts,tx]⟩,ty,ps,af,g⟩::rest) f L N:=by
 subst hL
 refine Ow.step he rfl hs fun w hw=> ?_
 have hp:=hw.part
 have hA:jR_ (X++Y) w.heap.size:=z9_ fun b hb=>hw.lt hb
 have fin: ∀v' w' D,(Builtin.append_ #[ts,tx] ty #[sv,ev f x]).run P w= .ok v' w'→Hp w D w'→Buf D e m.2 v' (n+k) (cs++new)→(∀c,c∈keys X→c∈keys D)→(∀c,c∈keys D→c∈keys X∨w.heap.size≤c)→(∀c o,slB sv≠some c→look X c=some o→look D c=some o)→
   (∃v w' L',(execOp (ev f) ⟨d, .call ⟨.builtin .append, #[s,x], #[ts,tx]⟩,ty,ps,af,g⟩).run P w= .ok (.value v) w'∧Hp w0 L' w'∧Ow P w0 ops md' rest (qN_ f d v) L' N):=by
  intro v' w' D hr hD hb h1 h2 h3
  refine⟨v',w',D++Y, ?_,hw.join hD h1 h2,hn w.heap.size v' D hA hw.size hb h1 h2 h3⟩
  simp only[execOp,resolve,Sem.run_bind,Sem.run_pure,Result.andThen_ok,invoke,builtin,List.map_toArray,List.map_cons,List.map_nil,hsv]
  rw[hr]
  rfl
 have hX': ∀w',Hp w [] w'→True:=fun _ _=>trivial
 rcases hB with hB| ⟨rfl,rfl,b,rfl,hlk⟩
 ·obtain⟨v',w',D,hr,hD,hb,hg,-⟩:=Q0_ (w0:=w) (L:=X) (ty:=ty) (x:=ev f x) hp hu hm hi hz hzs hux hnx hB (fun w2 hw2=>hX w2 (by
   refine hw.join hw2 (fun c hc=>hc) (fun c hc=> .inl hc))) hbig
  exact .inl (fin v' w' D hr hD hb hg.keys (fun c hc=>(hg.new c hc).imp id And.right) hg.look)
 ·rcases wQ_ (w0:=w) (L:=X) (ty:=ty) (b:=b) (x:=ev f x) hp hu hm hi hz hzs hux hnx (fun w2 hw2=>hX w2 (by
   refine hw.join hw2 (fun c hc=>hc) (fun c hc=> .inl hc))) hbig with⟨h0,-⟩ | ⟨-,v',w',D,hr,hD,hb,hg,-⟩
  ·omega
  ·exact .inl (fin v' w' D hr hD hb hg.keys (fun c hc=>(hg.new c hc).imp id And.right) (fun c o _ hl=>hg.look c o (by simp[slB]) hl))
end
def GrI (D:za_) (E:TypeId) (m:Nat) (v:Value) (n:Nat) (cs:List Value):Prop:= ∃X,(∀p,p∈X→p∈D)∧Gr X E m v n cs
theorem Gr.i {X D:za_} {E:TypeId} {m n:Nat} {v:Value} {cs:List Value} (h:Gr X E m v n cs) (hX: ∀p,p∈X→p∈D):GrI D E m v n cs:=⟨X,hX,h⟩
theorem GrI.mono {D D':za_} {E:TypeId} {m n:Nat} {v:Value} {cs:List Value} (h:GrI D E m v n cs) (hX: ∀p,p∈D→p∈D'):GrI D' E m v n cs:=by
 obtain⟨X,h1,h2⟩:=h;exact⟨X,fun p hp=>hX p (h1 p hp),h2⟩
theorem GrI.slV {α:Type} {m:Nat} {enc:α→List Value} {z:α} {w0 w:World} {v:Value} {l:List α} {D:za_} {E:TypeId} {n:Nat} {cs:List Value} (h:GrI D E m v n cs) (hw:Hp w0 D w) (hl:l.length=n) (hcs:cs=(l.map enc).flatten) (hm: ∀x,(enc x).length=m):SlV m enc z w v l:=by
 obtain⟨X,h1,h2⟩:=h
 exact h2.slM (fun b o hm=>hw.has b o (h1 _ hm)) hl hcs hm
section
variable {P:Program} {w0:World} {f:Fr} {L:za_} {N:Fr→za_→Prop}
theorem ad8_ {L _M:za_} {b:Nat} {o:Obj} (h:b∉keys L):look (L++ [(b,o)]) b=some o:=by
 rw[zW_ h];exact xT_ _ _ _
end
end Go.Sx
namespace Go.Sx
open Go
theorem q0_ {P:Program} {t e:TypeId} {m:Nat} {zc:Array Value} {cs:List Value} (hu:P.underlying t=some (.slice e)) (ha:zZ_ P e=some (true,m)) (hz:zX_ P e=some (.agg zc)) (hm:0<m∧m≤16777216) (hc:cs.length=m):
  X4_ P t 1 [(0, .agg cs.toArray)]=some (e,cs.toArray):=by
 have h2:Value.cells (.agg cs.toArray)=cs.toArray:=zg_ _
 have hg: ¬ (1*m>2^24):=by simp;omega
 have h0: ¬ (1*m=0):=by omega
 simp only[X4_,hu,ha,hz,Option.map_some]
 rw[if_neg hg,if_neg h0]
 simp only
 generalize hI: (Array.range (1*m)).map (fun x=>(Value.cells (.agg zc))[x% (Value.cells (.agg zc)).size]!)=I
 have hIs:I.size=m:=by rw[←hI];simp
 have hfl:Instr.fill (fun i=>some (i*m,m)) I [(0,Value.agg cs.toArray)]=some cs.toArray:=by
  unfold Instr.fill
  have s3:cs.toArray.size=m:=by simp[hc]
  simp only[h2,s3,hIs,Nat.zero_mul,ne_eq,not_true_eq_false,decide_false,Bool.false_or,Nat.zero_add,Nat.lt_irrefl,gt_iff_lt,Bool.false_eq_true, ↓reduceIte]
  unfold Instr.fill
  congr 1
  have hz:=Q6_ cs 0 0 I
  rw[Nat.add_zero,af0_ I cs (by rw[hc,hIs])] at hz
  simp only[Nat.zero_add] at hz
  rw[←Array.foldl_toList,Array.toList_zipIdx]
  exact hz
 rw[hfl]
 rfl
end Go.Sx
namespace Go.Sx
open Go
abbrev ltB (a b:List UInt8):Bool:=Op.bytesLess a b
theorem VY_: ∀ (x y:List UInt8),ltB x y=decide (x<y)
 | [],[]=>by simp[ltB,Op.bytesLess]
 |_::_,[]=>by simp[ltB,Op.bytesLess]
 | [],_::_=>by simp[ltB,Op.bytesLess]
 |a::x,b::y=>by
  have ih:=VY_ x y
  simp only[ltB] at ih ⊢
  rw[Op.bytesLess,ih]
  simp only[List.cons_lt_cons_iff]
  by_cases h1:a<b<;>by_cases h2:a=b<;>by_cases h3:x<y<;>simp[h1,h2,h3]
theorem Zu_ (a:List UInt8):ltB a a=false:=by
 rw[VY_];simp
theorem wy_ {a b c:List UInt8} (h:ltB a b=true) (k:ltB b c=true):ltB a c=true:=by
 rw[VY_,decide_eq_true_eq] at*
 exact List.lt_trans h k
theorem aj1_ {a b:List UInt8} (h:ltB a b=true):ltB b a=false:=by
 cases hb:ltB b a
 ·rfl
 ·have:=wy_ h hb
  rw[Zu_] at this;cases this
theorem Qg_ {a b:List UInt8} (h:ltB a b=false) (hne:a≠b):ltB b a=true:=by
 rw[VY_,decide_eq_false_iff_not] at h
 rw[VY_,decide_eq_true_eq]
 rcases Std.Trichotomous.rel_or_eq_or_rel_swap (r:=(· < · :List UInt8→List UInt8→Prop)) (a:=a) (b:=b) with h1|h1|h1
 ·exact absurd h1 h
 ·exact absurd h1 hne
 ·exact h1
end Go.Sx
namespace Go.StP
open Go Go.Sx
variable {α:Type} (key:α→List UInt8)
def lt (a b:α):Bool:=ltB (key a) (key b)
def Sorted (l:List α):Prop:=l.Pairwise fun a b=>lt key b a=false
def of (k:List UInt8) (l:List α):List α:=l.filter fun a=>key a==k
def St (l l':List α):Prop:= ∀k,of key k l'=of key k l
theorem St.refl (l:List α):St key l l:=fun _=>rfl
variable {key}
theorem St.trans {a b c:List α} (h:St key a b) (h':St key b c):St key a c:=fun k=>(h' k).trans (h k)
theorem St.symm {a b:List α} (h:St key a b):St key b a:=fun k=>(h k).symm
theorem agl_ (k:List UInt8) (a b:List α):of key k (a++b)=of key k a++of key k b:=List.filter_append ..
theorem St.app {a a' b b':List α} (h:St key a a') (h':St key b b'):St key (a++b) (a'++b'):=fun k=>by rw[agl_,agl_,h,h']
theorem aon_ {k:List UInt8} {l:List α} {x:α}:x∈of key k l↔x∈l∧key x=k:=by
 unfold of;rw[List.mem_filter];simp
theorem St.mem {a b:List α} (h:St key a b) (x:α):x∈b↔x∈a:=by
 have e:=h (key x)
 have h1:x∈b↔x∈of key (key x) b:=by rw[aon_];simp
 have h2:x∈a↔x∈of key (key x) a:=by rw[aon_];simp
 rw[h1,h2,e]
theorem alv_ {k:List UInt8} {l:List α} (h: ∀x,x∈l→key x≠k):of key k l= []:=by
 unfold of
 rw[List.filter_eq_nil_iff]
 intro x hx
 simpa using h x hx
theorem St.swap {a b:List α} (h: ∀x,x∈a→ ∀y,y∈b→key x≠key y):St key (a++b) (b++a):=by
 intro k
 rw[agl_,agl_]
 by_cases ha: ∃x,x∈a∧key x=k
 ·obtain⟨x,hx,rfl⟩:=ha
  have:of key (key x) b= []:=alv_ fun y hy e=>h x hx y hy e.symm
  rw[this,List.append_nil,List.nil_append]
 ·have:of key k a= []:=alv_ fun x hx e=>ha ⟨x,hx,e⟩
  rw[this,List.append_nil,List.nil_append]
theorem lt_trans {a b c:α} (h:lt key a b=true) (k:lt key b c=true):lt key a c=true:=wy_ h k
theorem lt_irrefl (a:α):lt key a a=false:=Zu_ _
theorem asR_ {a b:α} (h:lt key a b=false) (k:lt key b a=false):key a=key b:=by
 cases hk:decide (key a=key b)
 ·have hne:key a≠key b:=of_decide_eq_false hk
  have:=Qg_ h hne
  unfold lt at k
  rw[this] at k;cases k
 ·exact of_decide_eq_true hk
theorem St.head {a b:α} {l l':List α} (hs:Sorted key (a::l)) (hs':Sorted key (b::l')) (h:St key (a::l) (b::l')):a=b∧St key l l':=by
 have h1:lt key b a=false:=by
  have hb:b∈a::l:=(h.mem b).1 List.mem_cons_self
  rcases List.mem_cons.1 hb with rfl|hb
  ·exact lt_irrefl _
  ·exact(List.pairwise_cons.1 hs).1 b hb
 have h2:lt key a b=false:=by
  have ha:a∈b::l':=(h.mem a).2 List.mem_cons_self
  rcases List.mem_cons.1 ha with rfl|ha
  ·exact lt_irrefl _
  ·exact(List.pairwise_cons.1 hs').1 a ha
 have hk:key a=key b:=asR_ h2 h1
 have he:=h (key a)
 unfold of at he
 rw[List.filter_cons,List.filter_cons,if_pos (by simp[hk]),if_pos (by simp)] at he
 have hab:b=a:=(List.cons.inj he).1
 refine⟨hab.symm,fun k=> ?_⟩
 have hk':=h k
 subst hab
 unfold of at hk' ⊢
 rw[List.filter_cons,List.filter_cons] at hk'
 split at hk'
 ·exact(List.cons.inj hk').2
 ·exact hk'
theorem St.eq: ∀ {l l':List α},Sorted key l→Sorted key l'→St key l l'→l=l'
 | [],[],_,_,_=>rfl
 | [],b::l',_,_,h=>by
  have:b∈ ([]:List α):=(h.mem b).1 List.mem_cons_self
  cases this
 |a::l,[],_,_,h=>by
  have:a∈ ([]:List α):=(h.mem a).2 List.mem_cons_self
  cases this
 |a::l,b::l',hs,hs',h=>by
  obtain⟨rfl,h'⟩:=St.head hs hs' h
  rw[St.eq (List.pairwise_cons.1 hs).2 (List.pairwise_cons.1 hs').2 h']
theorem Sorted.app {a b:List α} (ha:Sorted key a) (hb:Sorted key b) (h: ∀x,x∈a→ ∀y,y∈b→lt key y x=false):Sorted key (a++b):=
 List.pairwise_append.2 ⟨ha,hb,h⟩
theorem Sorted.left {a b:List α} (h:Sorted key (a++b)):Sorted key a:=(List.pairwise_append.1 h).1
theorem Sorted.right {a b:List α} (h:Sorted key (a++b)):Sorted key b:=(List.pairwise_append.1 h).2.1
end Go.StP
namespace Go.Sx
open Go
section
variable {α:Type} (enc:α→List Value)
def Wt_ (E:TypeId) (rest:List Value) (d:List α):Obj:= .cells ((d.map enc).flatten++rest).toArray E (0,0)
variable {enc} {m:Nat} {E:TypeId} {rest:List Value} {d:List α} {z:α}
theorem abe_ (hm: ∀x,(enc x).length=m) {k:Nat} (hk:k<d.length): ∃A C,(d.map enc).flatten++rest=A++ (enc (d.getD k z)++C)∧A.length=k*m∧ ∀x,((d.set k x).map enc).flatten++rest=A++ (enc x++C):=by
 refine⟨((d.take k).map enc).flatten,((d.drop (k+1)).map enc).flatten++rest, ?_, ?_,fun x=> ?_⟩
 ·have e:d=d.take k++d.getD k z::d.drop (k+1):=by
   rw[List.getD_eq_getElem?_getD,List.getElem?_eq_getElem hk,Option.getD_some,List.getElem_cons_drop,List.take_append_drop]
  have e2:=congrArg (fun l=>(l.map enc).flatten++rest) e
  simp only[List.map_append,List.map_cons,List.flatten_append,List.flatten_cons,List.append_assoc] at e2
  exact e2
 ·rw[amb_ hm,List.length_take,Nat.min_eq_left (Nat.le_of_lt hk)]
 ·have e:d.set k x=d.take k++x::d.drop (k+1):=List.set_eq_take_append_cons_drop.trans (by rw[if_pos hk])
  rw[e]
  simp only[List.map_append,List.map_cons,List.flatten_append,List.flatten_cons,List.append_assoc]
theorem Qo_ (hm: ∀x,(enc x).length=m) (k:Nat) (hk:k<d.length):zl_ (some (true,m)) (some (Wt_ enc E rest d)) (k*m)=some (.agg (enc (d.getD k z)).toArray):=by
 obtain⟨A,C,e,hA,-⟩:=abe_ (z:=z) (rest:=rest) hm hk
 unfold Wt_
 rw[e]
 exact v9_ A _ C E (0,0) hA (hm _)
theorem ai5_ (hm: ∀x,(enc x).length=m) (h1: ∀x,(enc x).all Value.oneCell'=true) (k:Nat) (x:α) (a:Bool) (hk:k<d.length):
  zr_ (some (a,m)) (some (Wt_ enc E rest d)) (k*m) (.agg (enc x).toArray)=some (Wt_ enc E rest (d.set k x)):=by
 obtain⟨A,C,e,hA,e2⟩:=abe_ (z:=x) (rest:=rest) hm hk
 unfold Wt_
 rw[e,e2 x]
 exact zN_ A _ _ C a _ E hA (hm _) (zg_ _) (hm _) (h1 _)
end
section
variable {P:Program} {w0:World} {f:Fr} {L:za_} {N:Fr→za_→Prop} {ops:Array Oper} {rest:List Oper} {md:Md} {d:Option Tmp} {ty:TypeId} {ps:String} {af:Array Edge} {g:Option (Nat×Bool)}
end
end Go.Sx
namespace Go.StP
open Go Go.Sx
variable {α:Type} {key:α→List UInt8} {z:α}
theorem Wj_ {a b:List α} {k:Nat} (h:k<a.length): (a++b).getD k z=a.getD k z:=by
 rw[List.getD_eq_getElem?_getD,List.getD_eq_getElem?_getD,List.getElem?_append_left h]
theorem V4_ {a b:List α} {k:Nat} (h:a.length≤k): (a++b).getD k z=b.getD (k - a.length) z:=by
 rw[List.getD_eq_getElem?_getD,List.getD_eq_getElem?_getD,List.getElem?_append_right h]
theorem v5_ {l:List α} {k:Nat} (h:k<l.length):l.getD k z∈l:=by
 rw[List.getD_eq_getElem?_getD,List.getElem?_eq_getElem h];exact List.getElem_mem h
theorem akf_ {l:List α} {k n:Nat} (h:k<n): (l.take n).getD k z=l.getD k z:=by
 rw[List.getD_eq_getElem?_getD,List.getD_eq_getElem?_getD,List.getElem?_take,if_pos h]
theorem ajH_ {l:List α} {k:Nat} (h:k<l.length):l.drop k=l.getD k z::l.drop (k+1):=by
 rw[List.getD_eq_getElem?_getD,List.getElem?_eq_getElem h]
 exact List.drop_eq_getElem_cons h
theorem take_snoc {l:List α} {k:Nat} (h:k<l.length):l.take (k+1)=l.take k++ [l.getD k z]:=by
 rw[List.getD_eq_getElem?_getD,List.getElem?_eq_getElem h]
 exact List.take_succ_eq_append_getElem h
theorem Sorted.at_ {l:List α} (h:Sorted key l) {i j:Nat} (hij:i≤j) (hj:j<l.length):lt key (l.getD j z) (l.getD i z)=false:=by
 rcases Nat.lt_or_eq_of_le hij with h1|rfl
 ·have:=List.pairwise_iff_getElem.1 h i j (by omega) hj h1
  rw[List.getD_eq_getElem?_getD,List.getD_eq_getElem?_getD,List.getElem?_eq_getElem hj,List.getElem?_eq_getElem (show i<l.length by omega)]
  exact this
 ·exact lt_irrefl _
def avm_ (a s:List α) (x:α) (b:List α) (k:Nat):List α:=a++ (s.take k++ (x:: (s.drop k++b)))
end Go.StP
namespace Go.Sx
open Go
theorem VI_ {α:Type}: (∀ (a:α) (l:List α),(a::l).length=l.length+1)∧([]:List α).length=0∧(∀ (l:List α) (i:Nat) (a:α),(l.set i a).length=l.length)∧(∀ (l m:List α),(l++m).length=l.length+m.length)∧
  (∀ (n:Nat) (a:α),(List.replicate n a).length=n)∧(∀ (n:Nat) (l:List α),(l.take n).length=min n l.length)∧(∀ (n:Nat) (l:List α),(l.drop n).length=l.length - n)∧ ∀ {β:Type} (f:α→β) (l:List α),(l.map f).length=l.length:=
 ⟨fun _ _=>List.length_cons,List.length_nil,fun _ _ _=>List.length_set,fun _ _=>List.length_append,fun _ _=>List.length_replicate,fun _ _=>List.length_take,fun _ _=>List.length_drop,fun _ _=>List.length_map ..⟩
theorem Vi_: (∀n:Nat,((n:Int)).toNat=n)∧(∀l:List UInt8,(a8 l).size=l.length)∧(∀l:List UInt32,(a32 l).size=l.length)∧(∀p:Prop,(p∧p)=p)∧(∀p:Prop,(p∧True)=p)∧ ∀p:Prop,(True∧p)=p:=
 ⟨Int.toNat_natCast,Q5_,Qh_,fun _=>and_self _,fun _=>and_true _,fun _=>true_and _⟩
inductive Tag {α:Type} (x:α):Type
 |mk:Tag x
def seqN (F:Fr→za_→ky_→Prop) (K:ky_) (f:Fr) (L:za_):Prop:=F f L K
def cdC (v:Value) (A B S:Prop) (_:Tag (A,B,S)):Prop:=
 match v with
 | .bool true=>A
 | .bool false=>B
 |_=>S
abbrev CwS (P:Program) (w0:World) (c:Code) (f:Fr) (L:za_) (K:ky_) (_:Tag (c,K)):Prop:=Cw P w0 c f L K
abbrev OwS (P:Program) (w0:World) (ops:Array Oper) (md:Md) (l:List Oper) (f:Fr) (L:za_) (N:Fr→za_→Prop) (_:Tag (ops,l,N)):Prop:=Ow P w0 ops md l f L N
def bsK (K:ky_) (e:Exit) (f:Fr) (L:za_):Dep K:=K e f L
def bsN (N:Fr→za_→Prop) (f:Fr) (L:za_):Dep N:=N f L
abbrev bsR (K:ky_) (e:Exit) (f:Fr) (L:za_) (_:Tag K):Prop:=K e f L
abbrev bsM (N:Fr→za_→Prop) (f:Fr) (L:za_) (_:Tag N):Prop:=N f L
def owk (P:Program) (w0:World) (ops:Array Oper) (N:Fr→za_→Prop) (md:Md) (l:List Oper) (f:Fr) (L:za_):Dep (ops,N):=
 match l with
 | []=>N f L
 |o::r=>Ow P w0 ops md (o::r) f L N
def fid:Code→Nat
 | .seq a _=>fid a
 | .region i _ _=>i
 | .block _ c=>fid c
 | .loop c=>fid c
 | .scope c=>fid c
 |_=>500000
def adw_ (z:List Nat) (c:Code):Bool:=match z with
 | []=>false
 |k::r=>(k==1000000+fid c) ||adw_ r c
def vcC (P:Program) (w0:World) (z:List Nat):Code→Fr→za_→ky_→Prop
 | .seq x y,f,L,K=>ib (adw_ z (.seq x y)) (CwS P w0 (.seq x y) f L K .mk) (vcC P w0 z x f L (ww_ (seqN (fun f L K=>ib (z.contains 999999) (CwS P w0 y f L K .mk) (vcC P w0 z y f L K)) K) K))
 | .skip,f,L,K=>K .normal f L
 | .exit i,f,L,K=>K (.exit i) f L
 | .goto i,f,L,K=>K (.goto i) f L
 | .ret,f,L,K=>K .ret f L
 | .label l,f,L,K=>ib (z.contains 999999) (Cw P w0 (.label l) f L K) (K .normal f L)
 | .block id c,f,L,K=>vcC P w0 z c f L (k3_ id K)
 | .cond c x y,f,L,K=> ∃b,ev f c= .bool b∧(b=true→vcC P w0 z x f L K)∧(b=false→vcC P w0 z y f L K)
 | .region id ops false,f,L,K=>ib (z.contains id) (Cw P w0 (.region id ops false) f L K) (vcL P w0 ops true .seq ops.toList f L (owk P w0 ops (K .normal)))
 |c,f,L,K=>Cw P w0 c f L K
section
variable {P:Program} {w0:World} {f:Fr} {L:za_} {K:ky_} {N:Fr→za_→Prop} {ops:Array Oper} {md:Md} {l:List Oper}
theorem an6_ (h:owk P w0 ops N md l f L):Ow P w0 ops md l f L N:=by
 cases l with
 |nil=>exact Ow.nil h
 |cons o r=>exact h
theorem Ow.go (he:md.eff=true) (h:vcL P w0 ops true md l f L (owk P w0 ops (bsN N))):Ow P w0 ops md l f L N:=
 vg_ _ (fun _ _ _ _ h=>an6_ h) true l md f L (fun _=>he) h
theorem Ow.goQ (h:vcL P w0 ops false md l f L (owk P w0 ops (bsN N))):Ow P w0 ops md l f L N:=
 vg_ _ (fun _ _ _ _ h=>an6_ h) false l md f L (fun e=>by cases e) h
theorem vx_ {z:List Nat}: ∀ (c:Code) {f:Fr} {L:za_} {K:ky_},vcC P w0 z c f L K→Cw P w0 c f L K
 | .seq x y,f,L,K,h=>by
   unfold vcC at h
   cases hs:adw_ z (.seq x y) with
   |true=>rw[hs] at h;exact h
   |false=>
    rw[hs] at h
    refine Cw.seq ((vx_ x h).mono fun e f L k=> ?_)
    cases e with
    |normal=>
     have k':ib (z.contains 999999) (CwS P w0 y f L K .mk) (vcC P w0 z y f L K):=k
     cases hz:z.contains 999999 with
     |true=>rw[hz] at k';exact k'
     |false=>rw[hz] at k';exact vx_ y k'
    |_=>exact k
 | .skip,_,_,_,h=>Cw.skip h
 | .exit _,_,_,_,h=>Cw.exit h
 | .goto _,_,_,_,h=>Cw.goto h
 | .ret,_,_,_,h=>Cw.ret h
 | .label l,_,_,_,h=>by
   unfold vcC at h
   cases hz:z.contains 999999 with
   |true=>rw[hz] at h;exact h
   |false=>rw[hz] at h;exact Cw.label h
 | .block id c,_,_,_,h=>Cw.block (vx_ c h)
 | .cond c x y,_,_,_,⟨b,hb,h1,h2⟩=>Cw.cond hb (fun e=>vx_ x (h1 e)) (fun e=>vx_ y (h2 e))
 | .region id ops false,f,L,K,h=>by
   obtain⟨l⟩:=ops
   unfold vcC at h
   cases hz:z.contains id with
   |true=>rw[hz] at h;exact h
   |false=>rw[hz] at h;exact Cw.region (Ow.go rfl h)
 | .region _ _ true,_,_,_,h=>h
 | .loop _,_,_,_,h=>h
 | .rangeFunc _ _ _ _,_,_,_,h=>h
 | .scope _,_,_,_,h=>h
 | .refuse _,_,_,_,h=>h
end
class Steps (c:Code):Prop
instance {x y:Code}:Steps (.seq x y):=⟨⟩
instance:Steps .skip:=⟨⟩
instance {i:Nat}:Steps (.exit i):=⟨⟩
instance {i:Nat}:Steps (.goto i):=⟨⟩
instance:Steps .ret:=⟨⟩
instance {i:Nat} {c:Code}:Steps (.block i c):=⟨⟩
instance {c:Operand} {x y:Code}:Steps (.cond c x y):=⟨⟩
instance {i:Nat} {ops:Array Oper}:Steps (.region i ops false):=⟨⟩
theorem Cw.go {P:Program} {w0:World} {c:Code} {f:Fr} {L:za_} {K:ky_} (z:List Nat) [Steps c] (h:vcC P w0 z c f L (bsK K)):Cw P w0 c f L K:=vx_ c h
@[congr] theorem arQ_ {v v':Value} {A B S:Prop} {t:Tag (A,B,S)} (h:v=v'):cdC v A B S t=cdC v' A B S t:=by rw[h]
section
variable (P:Program) (w0:World) (z:List Nat) (f:Fr) (L:za_) (K:ky_) (N:Fr→za_→Prop) (ops:Array Oper) (md:Md)
theorem anl_ (x y:Code):vcC P w0 [] (.seq x y) f L K=vcC P w0 [] x f L (ww_ (seqN (fun f L K=>vcC P w0 [] y f L K) K) K):=(rfl)
theorem ank_ (k:Nat) (z:List Nat) (x y:Code):vcC P w0 (k::z) (.seq x y) f L K=ib (adw_ (k::z) (.seq x y)) (CwS P w0 (.seq x y) f L K .mk) (vcC P w0 (k::z) x f L (ww_ (seqN (fun f L K=>ib ((k::z).contains 999999) (CwS P w0 y f L K .mk) (vcC P w0 (k::z) y f L K)) K) K)):=(rfl)
theorem aml_:vcC P w0 z .skip f L K=K .normal f L:=(rfl)
theorem amy_ (i:Nat):vcC P w0 z (.exit i) f L K=K (.exit i) f L:=(rfl)
theorem al9_ (i:Nat):vcC P w0 z (.goto i) f L K=K (.goto i) f L:=(rfl)
theorem ap6_:vcC P w0 z .ret f L K=K .ret f L:=(rfl)
theorem ako_ (i:Nat):vcC P w0 z (.label i) f L K=ib (z.contains 999999) (CwS P w0 (.label i) f L K .mk) (K .normal f L):=(rfl)
theorem alL_ (i:Nat) (c:Code):vcC P w0 z (.block i c) f L K=vcC P w0 z c f L (k3_ i K):=(rfl)
theorem amz_ (c:Operand) (x y:Code):vcC P w0 z (.cond c x y) f L K=cdC (ev f c) (vcC P w0 z x f L K) (vcC P w0 z y f L K) (vcC P w0 z (.cond c x y) f L K) .mk:=by
 unfold cdC
 split
 ·rename_i h;simp[vcC,h]
 ·rename_i h;simp[vcC,h]
 ·rfl
theorem ahP_ (i:Nat) (l:List Oper):vcC P w0 z (.region i l.toArray false) f L K=ib (z.contains i) (CwS P w0 (.region i l.toArray false) f L K .mk) (vcL P w0 l.toArray true .seq l f L (owk P w0 l.toArray (K .normal))):=(rfl)
theorem aj4_ (i:Nat) (ops:Array Oper):vcC P w0 z (.region i ops true) f L K=CwS P w0 (.region i ops true) f L K .mk:=(rfl)
theorem anw_ (c:Code):vcC P w0 z (.loop c) f L K=CwS P w0 (.loop c) f L K .mk:=(rfl)
theorem akA_ (c:Code):vcC P w0 z (.scope c) f L K=CwS P w0 (.scope c) f L K .mk:=(rfl)
theorem aiK_ (x:Operand) (p:Array Tmp) (a c:Code):vcC P w0 z (.rangeFunc x p a c) f L K=CwS P w0 (.rangeFunc x p a c) f L K .mk:=(rfl)
theorem api_ (F:Fr→za_→ky_→Prop):bsN (seqN F K) f L=F f L K:=(rfl)
theorem atb_ (e:Exit):bsN (K e) f L=bsK K e f L:=(rfl)
theorem arV_ (c:Code):bsN (fun f L=>Cw P w0 c f L K) f L=CwS P w0 c f L K .mk:=(rfl)
theorem ao3_:ww_ N K .normal f L=bsN N f L:=(rfl)
theorem apE_ (i:Nat):ww_ N K (.exit i) f L=K (.exit i) f L:=(rfl)
theorem apm_ (i:Nat):ww_ N K (.goto i) f L=K (.goto i) f L:=(rfl)
theorem apI_:ww_ N K .ret f L=K .ret f L:=(rfl)
theorem an0_ (i:Nat):k3_ i K .normal f L=K .normal f L:=(rfl)
theorem amZ_ (i j:Nat):k3_ i K (.goto j) f L=K (.goto j) f L:=(rfl)
theorem anH_ (i:Nat):k3_ i K .ret f L=K .ret f L:=(rfl)
theorem amd_ (i j:Nat):k3_ i K (.exit j) f L=ib (j==i) (K .normal f L) (K (.exit j) f L):=by
 by_cases h:j=i
 ·have e: (j==i)=true:=beq_iff_eq.2 h
  rw[e]
  simp[k3_,ib,h]
 ·have e: (j==i)=false:=beq_eq_false_iff_ne.2 h
  rw[e]
  simp[k3_,ib,h]
theorem al6_ (A:Nat→Fr→za_→Prop):wt_ A K .normal f L=K .normal f L:=(rfl)
theorem an1_ (A:Nat→Fr→za_→Prop) (i:Nat):wt_ A K (.exit i) f L=K (.exit i) f L:=(rfl)
theorem ame_ (A:Nat→Fr→za_→Prop) (i:Nat):wt_ A K (.goto i) f L=bsN (A i) f L:=(rfl)
theorem alV_ (A:Nat→Fr→za_→Prop):wt_ A K .ret f L=K .ret f L:=(rfl)
theorem ao6_:owk P w0 ops N md [] f L=bsN N f L:=(rfl)
theorem apt_ (e:Exit):bsK K e f L=bsR K e f L .mk:=(rfl)
theorem apB_:bsN N f L=bsM N f L .mk:=(rfl)
theorem aru_:bsN (bsN N) f L=bsN N f L:=(rfl)
theorem aqH_ (e:Exit):bsK (bsK K) e f L=bsK K e f L:=(rfl)
theorem am9_ (e:Exit):bsK (ww_ N K) e f L=ww_ N (bsK K) e f L:=by cases e<;>rfl
theorem aiD_ (i:Nat) (e:Exit):bsK (k3_ i K) e f L=k3_ i (bsK K) e f L:=by cases e<;>rfl
theorem aiG_ (A:Nat→Fr→za_→Prop) (e:Exit):bsK (wt_ A K) e f L=wt_ A (bsK K) e f L:=by cases e<;>rfl
theorem al3_ (o:Oper) (r:List Oper):owk P w0 ops N md (o::r) f L=OwS P w0 ops md (o::r) f L N .mk:=(rfl)
end
section
variable (A B S:Prop) (t:Tag (A,B,S))
theorem asA_:cdC (.bool true) A B S t=A:=(rfl)
theorem asr_:cdC (.bool false) A B S t=B:=(rfl)
theorem anh_ (b:Bool) (h:b=true):cdC (.bool b) A B S t=A:=by rw[h];rfl
theorem anL_ (b:Bool) (h:b=false):cdC (.bool b) A B S t=B:=by rw[h];rfl
theorem arp_ (p:Prop) [Decidable p] (h:p):cdC (.bool (decide p)) A B S t=A:=anh_ A B S t _ (decide_eq_true h)
theorem arY_ (p:Prop) [Decidable p] (h: ¬p):cdC (.bool (decide p)) A B S t=B:=anL_ A B S t _ (decide_eq_false h)
theorem asX_ (a b:Int) (h:a=b):cdC (.bool (a==b)) A B S t=A:=anh_ A B S t _ (beq_iff_eq.2 h)
theorem asJ_ (a b:Int) (h: ¬a=b):cdC (.bool (a==b)) A B S t=B:=anL_ A B S t _ (beq_eq_false_iff_ne.2 h)
theorem asG_ (a b:Int) (h: ¬a=b):cdC (.bool (a !=b)) A B S t=A:=anh_ A B S t _ (bne_iff_ne.2 h)
theorem asp_ (a b:Int) (h:a=b):cdC (.bool (a !=b)) A B S t=B:=anL_ A B S t _ (by rw[h];simp)
end
theorem aoY_ (w0:World) (L:za_) (v:Value):Vd_ w0 L .no v=none:=(rfl)
theorem aqn_ (w0:World) (L:za_) (e:TypeId) (v:Value):Vd_ w0 L (.strBytes e) v=none:=(rfl)
theorem aqJ_ (v:Value):Kg_ .no v=none:=by unfold Kg_;split<;>first|rfl| (rename_i h;cases h)
theorem ajX_ (c:Code):adw_ [] c=false:=(rfl)
theorem agP_ (k:Nat) (r:List Nat) (c:Code):adw_ (k::r) c=((k==1000000+fid c) ||adw_ r c):=(rfl)
theorem aoy_ (a b:Code):fid (.seq a b)=fid a:=(rfl)
theorem aic_ (i:Nat) (o:Array Oper) (d:Bool):fid (.region i o d)=i:=(rfl)
theorem ak8_ (i:Nat) (c:Code):fid (.block i c)=fid c:=(rfl)
theorem anU_ (c:Operand) (x y:Code):fid (.cond c x y)=500000:=(rfl)
theorem alU_ (c:Code):fid (.loop c)=fid c:=(rfl)
theorem ajP_ (c:Code):fid (.scope c)=fid c:=(rfl)
theorem ajU_ (i:Nat):fid (.label i)=500000:=(rfl)
theorem anA_ (i:Nat):fid (.goto i)=500000:=(rfl)
theorem anM_ (i:Nat):fid (.exit i)=500000:=(rfl)
theorem anI_:fid .skip=500000:=(rfl)
theorem aqo_:fid .ret=500000:=(rfl)
theorem ajI_ (x:Operand) (p:Array Tmp) (a c:Code):fid (.rangeFunc x p a c)=500000:=(rfl)
def allF (j:Nat→Value):Nat→Nat→Fr
 |_,0=> []
 |k,n+1=>j k::allF j (k+1) n
theorem arf_ (j:Nat→Value) (k:Nat):allF j k 0= []:=(rfl)
theorem arw_ (j:Nat→Value) (k n:Nat):allF j k (n+1)=j k::allF j (k+1) n:=(rfl)
def CutM {G:Type} (n:Nat) (S:G→List (Nat×Value)) (H:G→za_) (J:G→Prop) (f':Fr) (L':za_):Prop:=
 ∃g,J g∧L'=H g∧f'=pin (allF (Zq_ f') 0 n) (S g)
theorem CutM.mk {G:Type} {n:Nat} {S:G→List (Nat×Value)} {H:G→za_} {J:G→Prop} {f':Fr} {L':za_} (g:G) (hJ:J g) (hL:L'=H g) (hf:f'=pin (allF (Zq_ f') 0 n) (S g)):CutM n S H J f' L':=⟨g,hJ,hL,hf⟩
theorem Cw.cut {P:Program} {w0:World} {x y:Code} {f:Fr} {L:za_} {K:ky_} {G:Type} (n:Nat) (S:G→List (Nat×Value)) (H:G→za_) (J:G→Prop) (h1:Cw P w0 x f L (ww_ (CutM n S H J) K))
  (h2: ∀ (g:G) (j:Nat→Value),J g→Cw P w0 y (pin (allF j 0 n) (S g)) (H g) K):Cw P w0 (.seq x y) f L K:=by
 refine Cw.seq (h1.mono fun e f L k=> ?_)
 cases e with
 |normal=>
  obtain⟨g,hJ,rfl,hf⟩:=k
  have:=h2 g (Zq_ f) hJ
  rw[←hf] at this
  exact this
 |_=>exact k
theorem cdC.splitp {p:Prop} [Decidable p] {A B S:Prop} {t:Tag (A,B,S)} (ht:p→A) (he: ¬p→B):cdC (.bool (decide p)) A B S t:=by
 by_cases h:p
 ·rw[arp_ A B S t p h];exact ht h
 ·rw[arY_ A B S t p h];exact he h
theorem cdC.split {b:Bool} {A B S:Prop} {t:Tag (A,B,S)} (ht:b=true→A) (he:b=false→B):cdC (.bool b) A B S t:=by
 cases b with
 |true=>exact ht rfl
 |false=>exact he rfl
end Go.Sx
namespace Go.Sx
open Go
def Kr_ (r:Option Nat):Fence:={Fence.wide with round:=r}
def KD_:Op→Bool
 | .defer _=>false
 |_=>true
section
variable {P:Program} {w0:World} {f:Fr} {L:za_} {K:ky_} {N:Fr→za_→Prop} {ops:Array Oper} {rest:List Oper} {r:Option Nat} {n:Nat}
theorem adc_ {k:FuncId} {args:Array Value} {w:World} {R:Ending→World→Prop} (h:Calls P k args w R):CallsIn (Kr_ r) n P k args w R:=
 (callsIn_wide.2 h:CallsIn Fence.wide n P k args w R)
theorem agK_ {row:String} {args:Array Value} {w:World} {R:Value→World→Prop} (h:Rows P row args w R):RowsIn (Kr_ r) n P row args w R:=
 (fun c cs _=>let ⟨v,w',hr,s⟩:=h c cs;⟨v,w',hr,stepsIn_wide.2 s⟩:RowsIn Fence.wide n P row args w R)
theorem aoV_ {o:Oper} {a:Act} {w:World} {next:Act→World→Prop} {Q:Exit→Act→World→Prop} (hd:KD_ o.op=true) (h:o.wp P a w next Q):o.wpIn (Kr_ r) n P a w next Q:=by
 refine⟨fun _ _=>trivial, ?_⟩
 rw[Oper.semAt_eq _ _ _ (fun c e=>by rw[e] at hd;cases hd)]
 unfold Oper.wp at h
 generalize (execOp a.eval o).run P w=x at h
 match x,h with
 | .ok (.value v) _,h=>exact h
 | .ok .skip _,h=>exact h
 | .ok (.defer e) _,h=>exact h
 | .ok (.enter k args) w',h=>
  have h':Calls P k args w' _:=h
  exact⟨fun(e:false=true)=>(by cases e),adc_ h'⟩
 | .ok (.row row args) w',h=>
  have h':Rows P row args w' _:=h
  exact⟨fun(e:false=true)=>(by cases e),agK_ h'⟩
 | .halt (.panic u) _,h=>exact h
theorem ady_ {Q:Exit→Act→World→Prop} {l2:List Oper}: ∀ (l1:List Oper) (a:Act) (w:World),(l1.all fun o=>KD_ o.op)=true→
  wpList P ops (fun e a w=>e= .normal∧wpListIn (Kr_ r) n P ops Q l2 a w) l1 a w→wpListIn (Kr_ r) n P ops Q (l1++l2) a w
 | [],_,_,_,h=>h.2
 |o::l1,a,w,hd,h=>by
  rw[List.cons_append]
  unfold wpList at h
  unfold wpListIn
  rw[List.all_cons,Bool.and_eq_true] at hd
  split at h
  ·rename_i hw
   rw[if_pos hw]
   rcases h with h| ⟨-,hl⟩
   ·exact aoV_ hd.1 (wL_ (fun a w hx=>ady_ l1 a w hd.2 hx) (fun e a w hne hq=>hne hq.1) h)
   ·obtain⟨_,_,he,-⟩:=hl
    cases he
  ·rename_i hw
   rw[if_neg hw]
   exact⟨fun _ _=>trivial,ady_ l1 _ _ hd.2 h⟩
def OwI (r:Option Nat) (P:Program) (w0:World) (ops:Array Oper) (l:List Oper) (f:Fr) (L:za_) (N:Fr→za_→Prop):Prop:=
 ∀w,Hp w0 L w→wpListIn (Kr_ r) 0 P ops (jU_ w0 N) l (act f) w
theorem OwI.nil (h:N f L):OwI r P w0 ops [] f L N:=fun _ hw=>⟨rfl,rfl,L,hw,by simpa [act] using h⟩
theorem OwI.pre {l1 l2:List Oper} (hd: (l1.all fun o=>KD_ o.op)=true) (h:Ow P w0 ops .seq l1 f L (fun f' L'=>OwI r P w0 ops l2 f' L' N)):OwI r P w0 ops (l1++l2) f L N:=by
 intro w hw
 refine ady_ l1 _ _ hd ?_
 have h1:=h w hw
 have mono: ∀ (l:List Oper) (a:Act) (w:World),wpList P ops (jU_ w0 (fun f' L'=>OwI r P w0 ops l2 f' L' N)) l a w→wpList P ops (fun e a w=>e= .normal∧wpListIn (Kr_ r) 0 P ops (jU_ w0 N) l2 a w) l a w:=by
  intro l
  induction l with
  |nil=>
   rintro a w ⟨-,hd',L',hp,hO⟩
   refine⟨rfl, ?_⟩
   have:=hO w hp
   rwa [←XI_ hd'] at this
  |cons o l ih=>
   intro a w h
   unfold wpList at h ⊢
   split at h
   ·rename_i hw
    rw[if_pos hw]
    rcases h with h| ⟨-,hl⟩
    ·exact .inl (wL_ ih (fun e a w hne hq=>hne hq.1) h)
    ·obtain⟨_,_,he,-⟩:=hl
     cases he
   ·rename_i hw
    rw[if_neg hw]
    exact ih _ _ h
 exact mono l1 _ _ h1
theorem Ow.mono_seq {l:List Oper} {N':Fr→za_→Prop} (h:Ow P w0 ops .seq l f L N) (hN: ∀f L,N f L→N' f L):Ow P w0 ops .seq l f L N':=by
 intro w hw
 have h1:=h w hw
 clear h
 revert h1
 generalize act f=a
 clear hw
 induction l generalizing a w with
 |nil=>rintro⟨h1,h2,L',h3,h4⟩;exact⟨h1,h2,L',h3,hN _ _ h4⟩
 |cons o l ih=>
  intro h
  unfold wpList at h ⊢
  split at h
  ·rename_i hw
   rw[if_pos hw]
   rcases h with h| ⟨-,hl⟩
   ·exact .inl (wL_ (fun a w hx=>ih w a hx) (fun e a w hne hq=>hne hq.1) h)
   ·obtain⟨_,_,he,-⟩:=hl
    cases he
  ·rename_i hw
   rw[if_neg hw]
   exact ih _ _ h
theorem OwI.all {l:List Oper} (hd: (l.all fun o=>KD_ o.op)=true) (h:Ow P w0 ops .seq l f L N):OwI r P w0 ops l f L N:=by
 have:=OwI.pre (r:=r) (l2:= []) (N:=N) hd (Ow.mono_seq h (fun f L hN=>OwI.nil hN))
 simpa using this
def CwR (r:Option Nat) (P:Program) (w0:World) (c:Code) (f:Fr) (L:za_) (K:ky_):Prop:= ∀w,Hp w0 L w→c.wpIn (Kr_ r) 0 P (post w0 K) (act f) w
theorem CwR.region {id:Nat} {l:List Oper} (hd: (l.all fun o=>KD_ o.op)=true) (h:Ow P w0 l.toArray .seq l f L (K .normal)):CwR r P w0 (.region id l.toArray false) f L K:=
 fun w hw=>wpIn_mono (wpIn_region_lit (OwI.all hd h w hw)) fun _ _ _ h=>km_ h
theorem CwR.block {id:Nat} {c:Code} (h:CwR r P w0 c f L (k3_ id K)):CwR r P w0 (.block id c) f L K:=by
 intro w hw
 refine wpIn_block (wpIn_mono (h w hw) ?_)
 rintro e a w' ⟨hd,L',hp,k⟩
 cases e with
 |exit i=>
  simp only[Exit.inBlock]
  simp only[k3_] at k
  split
  ·rename_i e;rw[if_pos e] at k;exact⟨hd,L',hp,k⟩
  ·rename_i e;rw[if_neg e] at k;exact⟨hd,L',hp,k⟩
 |_=>exact⟨hd,L',hp,k⟩
theorem Hp.put {w:World} (h:Hp w0 L w) {b:Nat} {o:Obj} (hb:b∈keys L):Hp w0 (setB L b o) (w.putObj b o):=h.set hb rfl rfl rfl rfl
theorem YieldAt.of {l:Nat} {rc:Loop} {X:za_} {args:Array Value} {w:World} {r0:Option Nat} {S:za_→Prop} (hX:Hp w X w) (hl:look X l=some (.loop rc)) (hr:rc.state= .ready) (hp:rc.pending=none) (hs:args.size=rc.params.size)
  (h:CwR (some l) P w rc.assign ((rc.params.zip args).foldl (fun tmps (p:Tmp×Value)=>tmps.setIfInBounds p.1 p.2) rc.tmps).toList X (fun e f1 L1=>e= .normal∧look L1 l=some (.loop rc)∧
   CwR (some l) P w rc.body f1 (setB L1 l (.loop {rc with state:= .busy})) (fun e _ L2=>e= .normal∧look L2 l=some (.loop {rc with state:= .busy})∧S (setB L2 l (.loop rc))))):
  YieldAt (Kr_ r0) 0 P l args w (fun e w'=> ∃D,e= .returned (.bool true)∧Hp w D w'∧S D):=by
 obtain⟨st,pe,fn0,tm,pa,asg,bo,de⟩:=rc
 obtain rfl:st= .ready:=hr
 obtain rfl:pe=none:=hp
 have hl0:=hX.has _ _ (zx_ hl)
 refine⟨fn0,_,asg,bo,run_yield hl0 hs,roundIn_of_wpIn (F:=Kr_ r0) (n:=0) trivial ?_⟩
 have h1:=h w hX
 have ea:act ((pa.zip args).foldl (fun tmps (p:Tmp×Value)=>tmps.setIfInBounds p.1 p.2) tm).toList={tmps:=(pa.zip args).foldl (fun tmps (p:Tmp×Value)=>tmps.setIfInBounds p.1 p.2) tm,defers:= []}:=by
  simp[act]
 simp only at h1
 rw[ea] at h1
 refine wpIn_mono h1 ?_
 rintro e a1 w1 ⟨hd1,L1,hp1,rfl,hl1,hbody⟩
 have hb1:=run_beginRound (P:=P) (hp1.has _ _ (zx_ hl1)) rfl
 refine⟨_,hb1, ?_⟩
 have h2:=hbody _ (hp1.put (o:= .loop {state:= .busy,pending:=none,fn:=fn0,tmps:=tm,params:=pa,assign:=asg,body:=bo,defers:=de}) (zh_ hl1))
 rw[←XI_ hd1] at h2
 refine wpIn_mono h2 ?_
 rintro e a2 w2 ⟨hd2,L2,hp2,rfl,hl2,hS⟩
 have he:=run_endRound (P:=P) none (hp2.has _ _ (zx_ hl2))
 exact⟨_,_,he,_,rfl,hp2.put (zh_ hl2),hS⟩
def asW_ (ds:List Deferred) (w0:World) (K:ky_) (e:Exit) (a:Act) (w:World):Prop:=a.defers=ds∧ ∃L,Hp w0 L w∧K e a.tmps.toList L
def CwE (ds:List Deferred) (P:Program) (w0:World) (c:Code) (f:Fr) (L:za_) (K:ky_):Prop:= ∀w,Hp w0 L w→c.wp P (asW_ ds w0 K) ⟨f.toArray,ds⟩ w
theorem CwE.seq {ds:List Deferred} {x y:Code} (h:CwE ds P w0 x f L (ww_ (fun f L=>CwE ds P w0 y f L K) K)):CwE ds P w0 (.seq x y) f L K:=by
 intro w hw
 refine wp_seq (wp_mono (h w hw) ?_)
 rintro e a w' ⟨hd,L',hp,k⟩
 cases e with
 |normal=>
  have:=k w' hp
  have ea:a=⟨a.tmps.toList.toArray,ds⟩:=by cases a;simp only at hd;subst hd;simp
  rw[ea]
  exact this
 |_=>exact⟨hd,L',hp,k⟩
theorem CwE.ret {ds:List Deferred} (h:K .ret f L):CwE ds P w0 .ret f L K:=fun _ hw=>wp_ret ⟨rfl,L,hw,by simpa using h⟩
def evVs (P:Program) (w0:World) (L:za_):List Oper→Fr→Option Fr
 | [],f=>some f
 |o::r,f=>match o.guard,wf_ P w0 L f o.op with
  |none,some v=>evVs P w0 L r (qN_ f o.dst v)
  |_,_=>none
theorem VX_ {ds:List Deferred} {Q:Exit→Act→World→Prop} {w:World} (hw:Hp w0 L w): ∀ (l:List Oper) (f f':Fr),evVs P w0 L l f=some f'→Q .normal ⟨f'.toArray,ds⟩ w→wpList P ops Q l ⟨f.toArray,ds⟩ w
 | [],f,f',h,hQ=>by cases h;exact hQ
 |o::l,f,f',h,hQ=>by
  unfold evVs at h
  split at h
  ·rename_i v hg hv
   unfold wpList
   have hwn:Region.wanted o (yielded ops (⟨f.toArray,ds⟩:Act).tmps)=true:=by unfold Region.wanted;rw[hg]
   rw[if_pos hwn]
   refine .inl ?_
   unfold Oper.wp
   have he: (⟨f.toArray,ds⟩:Act).eval=ev f:=by
    have:=jT_ f
    funext x
    exact(congrFun this x)
   rw[he,jj_ hw hv]
   have hp: (⟨f.toArray,ds⟩:Act).put o.dst v=⟨(qN_ f o.dst v).toArray,ds⟩:=by
    have:=z8_ f o.dst v
    cases hd:o.dst with
    |none=>rfl
    |some d=>simp only[Act.put,qN_,alj_]
   show wpList P ops Q l ((⟨f.toArray,ds⟩:Act).put o.dst v) w
   rw[hp]
   exact VX_ hw l _ f' h hQ
  ·cases h
theorem CwE.region {ds:List Deferred} {id:Nat} {l:List Oper} {f':Fr} (h:evVs P w0 L l f=some f') (hk:K .normal f' L):CwE ds P w0 (.region id l.toArray false) f L K:=
 fun w hw=>wp_region_lit (VX_ hw l f f' h ⟨rfl,L,hw,by simpa using hk⟩)
theorem Gr.at_ {L:za_} {E:TypeId} {m n:Nat} {v:Value} {cs:List Value} (h:Gr L E m v n cs) {b:Nat} (hb:slB v=some b): ∃a,look L b=some (.cells a E (0,0)):=by
 rcases h with h| ⟨rfl,rfl,c,rfl,hl⟩
 ·rcases h.inv with⟨rfl,-,-⟩ | ⟨c,cc,rest,rfl,hl,-⟩
  ·cases hb
  ·have:c=b:=by simpa [slB,vsl] using hb
   subst this;exact⟨_,hl⟩
 ·have:c=b:=by simpa [slB,vsl] using hb
  subst this;exact⟨_,hl⟩
theorem Gr.ne {L:za_} {E:TypeId} {m n:Nat} {v:Value} {cs:List Value} (h:Gr L E m v n cs) {b:Nat} {o:Obj} (hl:look L b=some o) (ho: ∀a,o≠ .cells a E (0,0)):slB v≠some b:=fun e=>by
 obtain⟨a,ha⟩:=h.at_ e
 rw[hl] at ha
 exact ho a (Option.some.inj ha)
theorem Gr.setB {L:za_} {E:TypeId} {m n:Nat} {v:Value} {cs:List Value} (h:Gr L E m v n cs) {b:Nat} (hb:slB v≠some b) (x:Obj):Gr (setB L b x) E m v n cs:=
 h.keep fun c o hc ho=>by rw[zk_ (fun e:b=c=>hb (by rw[e];exact hc))];exact ho
def recR (fn:FuncId) (f:Fr) (ps:Array Tmp) (assign body:Code) (dk:Nat) (st:LoopState):Loop:={state:=st,pending:=none,fn,tmps:=f.toArray,params:=ps,assign,body,defers:=dk}
def auC_ (P:Program) (gf:Nat) (lb:Array Value) {α:Type} (enc:α→Value) (xs:List α) (w:World):Prop:=
 ∀ (l:Nat) (J:List α→za_→Prop) (w1:World) (X:za_),(∀b,b<w.heap.size→w1.heap[b]? =w.heap[b]?)→(∀b,b∈keys X→w.heap.size≤b)→w.heap.size≤w1.heap.size→Hp w1 X w1→J [] X→(∀pre X Y,J pre X→J pre (X++Y))→
  (∀pre x post X2 w2,xs=pre++x::post→Hp w2 X2 w2→(∀b,b∈keys X2→w.heap.size≤b)→J pre X2→YieldAt (Kr_ none) 0 P l #[enc x] w2 (fun e w3=> ∃D,e= .returned (.bool true)∧Hp w2 D w3∧Ext w2 X2 D∧J (pre++ [x]) D))→
  Rets P gf (#[.func (.yield l) #[] #[]]++lb) w1 (XS w1 X (fun _ D=>J xs D))
end
end Go.Sx
namespace Go.Sx
open Go
section
variable {α:Type} {m:Nat} {enc:α→List Value} {z:α} {w:World} {v:Value} {l:List α}
theorem SlV.dropE (h:SlV m enc z w v l) {k:Nat} (hk:k≤l.length) (a:Bool): ∃v',jK_ (.sl (a,m)) v (some (some (k:Int))) none=some v'∧SlV m enc z w v' (l.drop k)∧(∀b,slB v'=some b→slB v=some b):=by
 obtain⟨b,off,c,arr,E,fz,hr,hc,hv⟩:=h
 have hl: (l.drop k).length=l.length - k:=by simp
 rcases hv with⟨rfl,rfl,rfl⟩ | ⟨rfl,hhas,hsz⟩
 ·obtain rfl:k=0:=by simpa using hk
  exact⟨.slice none 0 0,rfl,SlV.nil w,fun b hb=>hb⟩
 ·have hsl:jK_ (.sl (a,m)) (vsl b off l.length c) (some (some (k:Int))) none=some (vsl b (if c=k then off else off+k*m) (l.length - k) (c - k)):=by
   unfold jK_ vsl
   simp only[aol_ _ _ _ (⟨by omega,by omega⟩: (0:Int)≤ (k:Int)∧(k:Int)≤ (l.length:Int)),Int.toNat_natCast]
   by_cases hck:c=k
   ·simp[hck]
   ·simp only[hck, ↓reduceIte,Option.map_some,jI_]
  refine⟨_,hsl, ?_,fun b' hb=>hb⟩
  have hkm:k*m+ (l.length - k)*m=l.length*m:=by rw[←Nat.add_mul];congr 1;omega
  by_cases hck:c=k
  ·have h0:l.length - k=0:=by omega
   rw[if_pos hck]
   refine⟨b,off,c - k,arr,E,fz,RowS.sl' hl.symm (fun h=>by omega) (fun i hi=>by omega),by omega, .inr ⟨by rw[hl],hhas,by rw[hl,h0];omega⟩⟩
  ·rw[if_neg hck]
   refine⟨b,off+k*m,c - k,arr,E,fz,RowS.sl' hl.symm (fun h=>hhas) ?_,by omega, .inr ⟨by rw[hl],hhas,by rw[hl];omega⟩⟩
   intro i hi j hj
   rw[hl] at hi
   rw[List.getD_eq_getElem?_getD,List.getElem?_drop,←List.getD_eq_getElem?_getD,←hr.get (k+i) (by omega) j hj]
   congr 1
   rw[Nat.add_mul];omega
end
section
variable {P:Program} {w0:World} {f:Fr} {L:za_} {N:Fr→za_→Prop} {ops:Array Oper} {rest:List Oper} {md:Md} {d:Option Tmp} {ty:TypeId} {ps:String} {af:Array Edge} {g:Option (Nat×Bool)}
end
section
variable {P:Program} {w0:World} {f:Fr} {L:za_} {K:ky_}
theorem Cw.world {c:Code} (h: ∀w,Hp w0 L w→Cw P w0 c f L K):Cw P w0 c f L K:=fun w hw=>h w hw w hw
theorem Gr.read {E:TypeId} {m n:Nat} {v:Value} {cs:List Value} (h:Gr L E m v n cs) {b:Nat} (hb:slB v=some b) {w:World} (hw:Hp w0 L w) {o:Obj} (ho:w.heap[b]? =some o):zz_ w0 L b=some o:=by
 obtain⟨a,ha⟩:=h.at_ hb
 rw[hw.has _ _ (zx_ ha)] at ho
 rw[zb_ ha];exact ho
end
end Go.Sx
namespace Go.Sx
open Go
section
variable {α β:Type} [BEq α] [LawfulBEq α] (encK:α→Value) (encV:β→Value)
def JZ_ (k:α):List (α×β)→Nat→Option (Nat×β)
 | [],_=>none
 |p::r,i=>if k==p.1 then some (i,p.2) else JZ_ k r (i+1)
def updG (k:α) (v:β):List (α×β)→List (α×β)
 | []=> [(k,v)]
 |p::r=>if k==p.1 then(p.1,v)::r else p::updG k v r
def getG (k:α) (z:β) (m:List (α×β)):β:=match m.find? fun p=>k==p.1 with|some p=>p.2|none=>z
def kE_ (p:α×β):Value×Value:=(encK p.1,encV p.2)
def w9_ (o:Obj) (m:List (α×β)):Prop:= ∃es clock,o= .map es clock∧es.toList.map (fun e=>(e.key,e.val))=m.map (kE_ encK encV)∧(es.toList.map (·.born)++ [clock]).Pairwise (· < ·)
structure KeyOk (P:Program) (kt:TypeId) (encK:α→Value):Prop where
 find: ∀ {β:Type} (encV:β→Value) (w:World) (k:α) (es:List MapEntry) (m:List (α×β)),es.map (fun e=>(e.key,e.val))=m.map (kE_ encK encV)→(Instr.findKey kt (encK k) es).run P w= .ok ((JZ_ k m 0).map fun p=>(p.1,encV p.2)) w
 check: ∀ (w:World) (e:Bool) (k:α),(Instr.checkKey e 10000 kt (encK k)).run P w= .ok () w
 bits: ∀k,Instr.sameBits 10000 (encK k) (encK k)=true
variable {encK encV}
omit [LawfulBEq α] in
theorem Xw_ {kd:TypeDesc} (hs: ∀a b,Instr.sameNow kd (encK a) (encK b)=some (a==b)) (k:α): ∀ (es:List MapEntry) (m:List (α×β)) (i:Nat),es.map (fun e=>(e.key,e.val))=m.map (kE_ encK encV)→
  Instr.findNow kd (encK k) es i=some ((JZ_ k m i).map fun p=>(p.1,encV p.2))
 | [],[],i,_=>rfl
 | [],_::_,_,h=>by cases h
 |_::_,[],_,h=>by cases h
 |e::es,p::m,i,h=>by
  simp only[List.map_cons,List.cons.injEq,kE_,Prod.mk.injEq] at h
  obtain⟨⟨h1,h2⟩,h3⟩:=h
  unfold Instr.findNow
  have hs:Instr.sameNow kd (encK k) e.key=some (k==p.1):=by rw[h1,hs]
  rw[hs]
  unfold JZ_
  cases hk: (k==p.1)
  ·simp only[Bool.false_eq_true, ↓reduceIte]
   exact Xw_ ‹_› k es m (i+1) h3
  ·simp[h2]
theorem XN_ (k:α): ∀ (m:List (α×β)) (i j:Nat) (v:β),JZ_ k m i=some (j,v)→i≤j∧ ∃a,m[j - i]? =some (k,a)∧a=v
 | [],_,_,_,h=>by cases h
 |p::r,i,j,v,h=>by
  unfold JZ_ at h
  split at h
  ·rename_i hk
   cases h
   refine⟨Nat.le_refl _,p.2, ?_,rfl⟩
   rw[Nat.sub_self,List.getElem?_cons_zero,eq_of_beq hk]
  ·obtain⟨h1,a,h2,h3⟩:=XN_ k r (i+1) j v h
   refine⟨by omega,a, ?_,h3⟩
   rw[show j - i=(j - (i+1))+1 by omega,List.getElem?_cons_succ];exact h2
theorem acb_ (k:α) (v:β): ∀ (es:List MapEntry) (m:List (α×β)) (i j:Nat) (a:β),es.map (fun e=>(e.key,e.val))=m.map (kE_ encK encV)→JZ_ k m i=some (j,a)→
  (es.modify (j - i) fun e=>{e with key:=encK k,val:=encV v}).map (fun e=>(e.key,e.val))=(updG k v m).map (kE_ encK encV)
 | [],[],_,_,_,_,h=>by cases h
 | [],_::_,_,_,_,h,_=>by cases h
 |_::_,[],_,_,_,h,_=>by cases h
 |e::es,p::m,i,j,a,h,hf=>by
  simp only[List.map_cons,List.cons.injEq,kE_,Prod.mk.injEq] at h
  obtain⟨⟨h1,h2⟩,h3⟩:=h
  unfold JZ_ at hf
  unfold updG
  split at hf
  ·rename_i hk
   cases hf
   rw[if_pos hk,Nat.sub_self]
   simp only[List.modify_zero_cons,List.map_cons,kE_,eq_of_beq hk]
   rw[h3]
  ·rename_i hk
   have hle:=(XN_ k m (i+1) j a hf).1
   rw[if_neg hk,show j - i=(j - (i+1))+1 by omega]
   simp only[List.modify_succ_cons,List.map_cons,kE_]
   rw[acb_ k v es m (i+1) j a h3 hf,h1,h2]
omit [LawfulBEq α] in
theorem acP_ (k:α) (v:β): ∀ (m:List (α×β)) (i:Nat),JZ_ k m i=none→updG k v m=m++ [(k,v)]
 | [],_,_=>rfl
 |p::r,i,h=>by
  unfold JZ_ at h
  split at h
  ·cases h
  ·rename_i hk
   unfold updG
   rw[if_neg hk,acP_ k v r (i+1) h];rfl
omit [LawfulBEq α] in
theorem acu_ (k:α): ∀ (m:List (α×β)) (i:Nat),(JZ_ k m i).map Prod.snd=(m.find? fun p=>k==p.1).map Prod.snd
 | [],_=>rfl
 |p::r,i=>by
  unfold JZ_
  rw[List.find?_cons]
  cases h: (k==p.1)
  ·simp only[Bool.false_eq_true, ↓reduceIte];exact acu_ k r (i+1)
  ·rfl
theorem anB_ {k:α} {m:List (α×β)} {es:List MapEntry} {j:Nat} {a:β} (h:es.map (fun e=>(e.key,e.val))=m.map (kE_ encK encV)) (hf:JZ_ k m 0=some (j,a)): ∃e,es[j]? =some e∧e.key=encK k:=by
 obtain⟨-,a',h1,rfl⟩:=XN_ k m 0 j a hf
 rw[Nat.sub_zero] at h1
 have:=congrArg (·[j]?) h
 simp only[List.getElem?_map,h1,Option.map_some] at this
 cases he:es[j]? with
 |none=>rw[he] at this;cases this
 |some e=>
  rw[he] at this
  simp only[Option.map_some,Option.some.injEq,kE_,Prod.mk.injEq] at this
  exact⟨e,rfl,this.1⟩
theorem KeyOk.int {P:Program} {kt:TypeId} {k0:IntKind} (hu:P.underlying kt=some (.int k0)):KeyOk P kt vi where
 find encV w k es m h:=by
  simp only[Instr.findKey,Sem.run_bind,run_underlying hu w,Result.andThen_ok]
  rw[Xw_ (encK:=vi) (fun a b=>by simp[Instr.sameNow,vi]) k es m 0 h]
  rfl
 check w e k:=by
  unfold Instr.checkKey
  simp only[Sem.run_bind,run_underlying hu w,Result.andThen_ok]
  rfl
 bits k:=by simp[vi,Instr.sameBits]
variable {P:Program} {w0:World} {f:Fr} {L:za_} {N:Fr→za_→Prop} {ops:Array Oper} {rest:List Oper} {md:Md}
 {d:Option Tmp} {ty:TypeId} {ps:String} {af:Array Edge} {g:Option (Nat×Bool)}
omit [BEq α] [LawfulBEq α] in
theorem Ow.makeMapG {t:TypeId} {md':Md} (he:md.turn=some md') (hs:zq_ ops f ⟨d, .makeMap t none,ty,ps,af,g⟩=false)
  (hn: ∀b o,jR_ L b→w0.heap.size≤b→w9_ encK encV o []→Ow P w0 ops md' rest (qN_ f d (vm b)) (L++ [(b,o)]) N):
  Ow P w0 ops md (⟨d, .makeMap t none,ty,ps,af,g⟩::rest) f L N:=by
 refine Ow.step he rfl hs fun w hw=> .inl ⟨vm w.heap.size,w.alloc (.map #[] 0),_, ?_,hw.alloc _,hn _ _ (z9_ fun b hb=>hw.lt hb) hw.size ⟨#[],0,rfl,rfl,List.pairwise_singleton _ _⟩⟩
 simp only[execOp,Instr.makeMap,Sem.run_bind,Option.map_none]
 rfl
theorem Ow.mapUpdateG {t kt vt:TypeId} {x y z:Operand} {b:Nat} {o:Obj} {m:List (α×β)} {k:α} {v:β} {md':Md} (he:md.turn=some md') (hs:zq_ ops f ⟨d, .mapUpdate t x y z,ty,ps,af,g⟩=false) (hu:P.underlying t=some (.map kt vt)) (hk:KeyOk P kt encK)
  (hx:ev f x=vm b) (hy:ev f y=encK k) (hz:ev f z=encV v) (hl:look L b=some o) (hm:w9_ encK encV o m)
  (hn: ∀o',w9_ encK encV o' (updG k v m)→Ow P w0 ops md' rest (qN_ f d undef) (setB L b o') N):
  Ow P w0 ops md (⟨d, .mapUpdate t x y z,ty,ps,af,g⟩::rest) f L N:=by
 obtain⟨es,c,rfl,hes,hbo⟩:=hm
 refine Ow.step he rfl hs fun w hw=> ?_
 have hb:=hw.has _ _ (zx_ hl)
 have hfk:=hk.find encV w k es.toList m hes
 cases hf:JZ_ k m 0 with
 |none=>
  rw[hf] at hfk
  refine .inr (.inl ⟨{w with heap:=w.heap.setIfInBounds b (.map (es.push {key:=encK k,val:=encV v,born:=c}) (c+1))},_, ?_,hw.set (zh_ hl) rfl rfl rfl rfl,hn _ ⟨_,_,rfl, ?_,by rw[Array.toList_push];exact acY_ hbo rfl⟩⟩)
  ·have: (Instr.mapUpdate t (vm b) (encK k) (encV v)).run P w= .ok () {w with heap:=w.heap.setIfInBounds b (.map (es.push {key:=encK k,val:=encV v,born:=c}) (c+1))}:=by
    simp only[Instr.mapUpdate,vm,Sem.run_bind,run_underlying hu w,Result.andThen_ok,q1_ hb,hk.check,hfk,Option.map_none,xx_ hb]
   simp only[execOp,Sem.run_bind,hx,hy,hz]
   rw[this];rfl
  ·rw[acP_ k v m 0 hf,Array.toList_push,List.map_append,hes,List.map_append];rfl
 |some p=>
  obtain⟨j,a⟩:=p
  rw[hf] at hfk
  obtain⟨e,hej,hek⟩:=anB_ hes hf
  have hej':es[j]? =some e:=by simpa using hej
  have hkt: (Instr.keyThatStays (((es[j]?).map (·.key)).getD (encK k)) (encK k)).run P w= .ok (encK k) w:=by
   rw[hej',Option.map_some,Option.getD_some,hek]
   unfold Instr.keyThatStays
   rw[if_pos (hk.bits k)];rfl
  refine .inr (.inl ⟨{w with heap:=w.heap.setIfInBounds b (.map (es.modify j fun e=>{e with key:=encK k,val:=encV v}) c)},_, ?_,hw.set (zh_ hl) rfl rfl rfl rfl,hn _ ⟨_,_,rfl, ?_,by rw[Array.toList_modify,Xj_ (g:=fun e=>{e with key:=encK k,val:=encV v}) fun _=>rfl];exact hbo⟩⟩)
  ·have: (Instr.mapUpdate t (vm b) (encK k) (encV v)).run P w= .ok () {w with heap:=w.heap.setIfInBounds b (.map (es.modify j fun e=>{e with key:=encK k,val:=encV v}) c)}:=by
    simp only[Instr.mapUpdate,vm,Sem.run_bind,run_underlying hu w,Result.andThen_ok,q1_ hb,hk.check,hfk,Option.map_some,hkt,xx_ hb]
   simp only[execOp,Sem.run_bind,hx,hy,hz]
   rw[this];rfl
  ·rw[Array.toList_modify]
   have:=acb_ k v es.toList m 0 j a hes hf
   rw[Nat.sub_zero] at this
   exact this
omit [LawfulBEq α] in
theorem Ow.mapGetG {t kt vt:TypeId} {x y:Operand} {b:Nat} {o:Obj} {m:List (α×β)} {k:α} {z:β} {md':Md} (he:md.turn=some md') (hs:zq_ ops f ⟨d, .lookup t x y false,ty,ps,af,g⟩=false) (hu:P.underlying t=some (.map kt vt)) (hk:KeyOk P kt encK)
  (hz:zX_ P vt=some (encV z)) (hx:ev f x=vm b) (hy:ev f y=encK k) (hl:zz_ w0 L b=some o) (hm:w9_ encK encV o m)
  (hn:Ow P w0 ops md' rest (qN_ f d (encV (getG k z m))) L N):
  Ow P w0 ops md (⟨d, .lookup t x y false,ty,ps,af,g⟩::rest) f L N:=by
 obtain⟨es,c,rfl,hes,-⟩:=hm
 refine Ow.step he rfl hs fun w hw=> ?_
 have hb:=hw.read hl
 have hfk:=hk.find encV w k es.toList m hes
 refine .inl ⟨encV (getG k z m),w,L, ?_,hw,hn⟩
 have hff:=acu_ k m 0
 have: (Instr.lookup t (vm b) (encK k) false).run P w= .ok (encV (getG k z m)) w:=by
  cases hf:JZ_ k m 0 with
  |none=>
   rw[hf] at hfk hff
   have hg:getG k z m=z:=by
    unfold getG
    cases h:m.find? fun p=>k==p.1 with
    |none=>rfl
    |some q=>rw[h] at hff;cases hff
   simp only[Instr.lookup,vm,Sem.run_bind,run_underlying hu w,Result.andThen_ok,q1_ hb,Sem.run_pure,hk.check,hfk,Option.map_none,xK_ hz w,hg,Bool.false_eq_true, ↓reduceIte]
  |some p=>
   obtain⟨j,a⟩:=p
   rw[hf] at hfk hff
   have hg:getG k z m=a:=by
    unfold getG
    cases h:m.find? fun p=>k==p.1 with
    |none=>rw[h] at hff;cases hff
    |some q=>rw[h] at hff;simp only[Option.map_some,Option.some.injEq] at hff;exact hff.symm
   simp only[Instr.lookup,vm,Sem.run_bind,run_underlying hu w,Result.andThen_ok,q1_ hb,Sem.run_pure,hk.check,hfk,Option.map_some,hg,Bool.false_eq_true, ↓reduceIte]
 simp only[execOp,Sem.run_bind,hx,hy]
 rw[this];rfl
end
section
variable {P:Program} {w0:World} {f:Fr} {L:za_} {N:Fr→za_→Prop} {ops:Array Oper} {rest:List Oper} {md:Md} {d:Option Tmp} {ty:TypeId} {ps:String} {af:Array Edge} {g:Option (Nat×Bool)}
theorem Ow.callFnXC {x y:Operand} {b:Value} {cap ars:Array Value} (ha: #[b]++cap=ars) {ts:Array TypeId} {k:FuncId} {X Y:za_} {S:Value→za_→Prop} {md':Md} (hL:L=X++Y) (he:md.turn=some md')
  (hs:zq_ ops f ⟨d, .call ⟨.value x, #[y],ts⟩,ty,ps,af,g⟩=false)
  (hx:ev f x= .func (.func k) #[] cap) (hy:ev f y=b)
  (hk: ∀a w,(callFunc k a).run P w= .ok (.enter k a) w)
  (hc: ∀w,Hp w0 L w→(∀p,p∈X→w.heap[p.1]? =some p.2)→(keys X).Nodup→Rets P k ars w (XS w X S))
  (hn: ∀v D,Came w0 L X D→S v D→Ow P w0 ops md' rest (qN_ f d v) (D++Y) N):
  Ow P w0 ops md (⟨d, .call ⟨.value x, #[y],ts⟩,ty,ps,af,g⟩::rest) f L N:=by
 subst hL
 have hnd: ∀w,Hp w0 (X++Y) w→(keys X).Nodup∧ ∀c,c∈keys Y→c∉keys X:=by
  intro w hw
  have:=hw.nodup
  rw[zs_,List.nodup_append] at this
  exact⟨this.1,fun c hc hx=>this.2.2 c hx c hc rfl⟩
 refine Ow.call (S:=fun B v D=>((∀c,c∈keys D→c∈keys X∨B≤c)∧(∀c,c∈keys X→c∈keys D)∧S v D)∧ ∃w,Hp w0 (X++Y) w∧w.heap.size=B) he hs hx hk (fun w hw=> ?_) ?_
 ·show Rets P k (#[]++ #[y].map (ev f)++cap) w _
  rw[show(#[]++ #[y].map (ev f)++cap:Array Value)=ars by rw[←ha];simp[hy]]
  refine Calls.mono (hc w hw (fun p hp=>hw.has _ _ (List.mem_append_left _ hp)) (hnd w hw).1) ?_
  rintro e w' ⟨v,D,he,hp,hS⟩
  exact⟨v,D,he,hp,⟨hS.1.new,hS.1.all,hS.2⟩,w,hw,rfl⟩
 ·rintro B v D hab hB ⟨⟨h1,h2,h3⟩,w1,hw1,hwB⟩
  refine⟨D++Y, ?_,hn v D ⟨fun c hc=>(h1 c hc).imp id fun h=>⟨z9_ fun b hb=>by have:=hw1.lt hb;omega,by have:=hw1.size;omega⟩,h2⟩ h3⟩
  intro w w' hwb h k
  have ht:=h.trans k
  have hY: ∀c,c∈keys Y→c∉keys D:=by
   intro c hc hd
   rcases h1 c hd with hx|hx
   ·exact(hnd w h).2 c hc hx
   ·have:=h.lt (b:=c) (by rw[zs_];exact List.mem_append_right _ hc)
    omega
  have e1:X.filter (fun p=> !(keys D).contains p.1)= []:=by
   rw[List.filter_eq_nil_iff]
   intro p hp
   have:=h2 p.1 (List.mem_map.2 ⟨p,hp,rfl⟩)
   simpa using this
  have e2:Y.filter (fun p=> !(keys D).contains p.1)=Y:=jt_ hY
  rw[List.filter_append,e1,e2,List.nil_append] at ht
  refine ht.same (fun p=>by simp[or_comm]) ?_
  have:=ht.nodup
  rw[zs_] at this ⊢
  exact(List.perm_append_comm.nodup_iff).1 this
end
end Go.Sx
namespace Go.Sx
open Go
theorem Ext.perm {w:World} {X D D':za_} (h:Ext w X D) (hp:D'.Perm D):Ext w X D':=
 ⟨fun c hc=>h.new c ((hp.map Prod.fst).mem_iff.1 hc),fun c hc=>(hp.map Prod.fst).mem_iff.2 (h.all c hc)⟩
section
variable {P:Program} {w0:World} {f:Fr} {L:za_} {N:Fr→za_→Prop} {ops:Array Oper} {rest:List Oper} {md:Md} {d:Option Tmp} {ty:TypeId} {ps:String} {af:Array Edge} {g:Option (Nat×Bool)}
theorem Ow.callFnX2 {x y y2:Operand} {b b2:Value} {ts:Array TypeId} {k:FuncId} {X Y:za_} {S:Value→za_→Prop} {md':Md} (hL:L=X++Y) (he:md.turn=some md')
  (hs:zq_ ops f ⟨d, .call ⟨.value x, #[y,y2],ts⟩,ty,ps,af,g⟩=false)
  (hx:ev f x= .func (.func k) #[] #[]) (hy:ev f y=b) (hy2:ev f y2=b2)
  (hk: ∀a w,(callFunc k a).run P w= .ok (.enter k a) w)
  (hc: ∀w,Hp w0 L w→(∀p,p∈X→w.heap[p.1]? =some p.2)→(keys X).Nodup→Rets P k #[b,b2] w (XS w X S))
  (hn: ∀v D,Came w0 L X D→S v D→Ow P w0 ops md' rest (qN_ f d v) (D++Y) N):
  Ow P w0 ops md (⟨d, .call ⟨.value x, #[y,y2],ts⟩,ty,ps,af,g⟩::rest) f L N:=by
 subst hL
 have hnd: ∀w,Hp w0 (X++Y) w→(keys X).Nodup∧ ∀c,c∈keys Y→c∉keys X:=by
  intro w hw
  have:=hw.nodup
  rw[zs_,List.nodup_append] at this
  exact⟨this.1,fun c hc hx=>this.2.2 c hx c hc rfl⟩
 refine Ow.call (S:=fun B v D=>((∀c,c∈keys D→c∈keys X∨B≤c)∧(∀c,c∈keys X→c∈keys D)∧S v D)∧ ∃w,Hp w0 (X++Y) w∧w.heap.size=B) he hs hx hk (fun w hw=> ?_) ?_
 ·show Rets P k (#[]++ #[y,y2].map (ev f)++ #[]) w _
  rw[show(#[]++ #[y,y2].map (ev f)++ #[]:Array Value)= #[b,b2] by simp[hy,hy2]]
  refine Calls.mono (hc w hw (fun p hp=>hw.has _ _ (List.mem_append_left _ hp)) (hnd w hw).1) ?_
  rintro e w' ⟨v,D,he,hp,hS⟩
  exact⟨v,D,he,hp,⟨hS.1.new,hS.1.all,hS.2⟩,w,hw,rfl⟩
 ·rintro B v D hab hB ⟨⟨h1,h2,h3⟩,w1,hw1,hwB⟩
  refine⟨D++Y, ?_,hn v D ⟨fun c hc=>(h1 c hc).imp id fun h=>⟨z9_ fun b hb=>by have:=hw1.lt hb;omega,by have:=hw1.size;omega⟩,h2⟩ h3⟩
  intro w w' hwb h k
  have ht:=h.trans k
  have hY: ∀c,c∈keys Y→c∉keys D:=by
   intro c hc hd
   rcases h1 c hd with hx|hx
   ·exact(hnd w h).2 c hc hx
   ·have:=h.lt (b:=c) (by rw[zs_];exact List.mem_append_right _ hc)
    omega
  have e1:X.filter (fun p=> !(keys D).contains p.1)= []:=by
   rw[List.filter_eq_nil_iff]
   intro p hp
   have:=h2 p.1 (List.mem_map.2 ⟨p,hp,rfl⟩)
   simpa using this
  have e2:Y.filter (fun p=> !(keys D).contains p.1)=Y:=jt_ hY
  rw[List.filter_append,e1,e2,List.nil_append] at ht
  refine ht.same (fun p=>by simp[or_comm]) ?_
  have:=ht.nodup
  rw[zs_] at this ⊢
  exact(List.perm_append_comm.nodup_iff).1 this
end
end Go.Sx
namespace Go.Sx
open Go
section
variable {P:Program} {w0:World} {l:List Oper} {R ts:List Nat} {n:Nat} {listed:List Bool} {f:Fr} {L:za_} {N:Fr→za_→Prop}
def OwG (P:Program) (w0:World) (l:List Oper) (R ts:List Nat) (n:Nat) (listed:List Bool) (f:Fr) (L:za_) (N:Fr→za_→Prop):Prop:=
 ∀w,Hp w0 L w→x4_ P l.toArray (jU_ w0 N) ts (SR w0 R L) n listed.toArray (act f) w
theorem Cw.regionG {id:Nat} {K:ky_} (R ts:List Nat) (m:Nat) (hl:l.length=m) (hm:P.follows .mixedOrders=true) (h:OwG P w0 l R ts m (List.replicate m false) f L (K .normal)):Cw P w0 (.region id l.toArray true) f L K:=by
 intro w hw
 subst hl
 refine wp_mono (wp_region_any hm ?_) fun _ _ _ h=>km_ h
 have:=Zo_ _ _ _ _ (h _ hw.drew)
 simpa using this
def chkG (P:Program) (l:List Oper) (ts:List Nat):List Nat→List Bool→Option (List Bool)
 | [],listed=>some listed
 |k::is,listed=>
  match vC_ l k with
  |some o=>if !ts.contains k&& (ts.all fun t=> !listed.toArray.getD t true)&& (Region.ready .any l.toArray listed.toArray).contains k&&Region.free .any l.toArray listed.toArray k&&
    (xZ_ P o.op|| (Vo_ o.op&&Xr_ l.toArray ts listed.toArray k)) then chkG P l ts is (listed.set k true) else none
  |none=>none
theorem OwG.step {k:Nat} {o:Oper} {v:Value} (hns:Region.noSelect l.toArray=true) (hk:vC_ l k=some o) {rest:List Bool} (hc:chkG P l ts [k] listed=some rest)
  (hY:YieldsC P l.toArray (SR w0 R L) (xZ_ P o.op=true) o v (act f)) (h:OwG P w0 l R ts n rest (qN_ f o.dst v) L N):OwG P w0 l R ts (n+1) listed f L N:=by
 have hoi:l.toArray[k]? =some o:=by rw[xX_] at hk;simpa using hk
 unfold chkG at hc
 rw[hk] at hc
 simp only at hc
 split at hc
 ·rename_i hcc
  simp only[chkG,Option.some.injEq] at hc
  subst hc
  simp only[Bool.and_eq_true,Bool.or_eq_true,Bool.not_eq_true',List.all_eq_true,List.contains_eq_mem,decide_eq_true_eq,decide_eq_false_iff_not] at hcc
  obtain⟨⟨⟨⟨c2,c3⟩,c4⟩,c5⟩,c9⟩:=hcc
  have hsel:=Region.noSelect_spec hns
  intro w hw
  refine v2_ hoi c2 hsel (fun c a w h=>zV_ h) _ _ _ _ (x7_ (P:=P) hoi c4 c5 (c9.imp id fun h=>⟨h.1,h.2,fun t ht=>c3 t ht⟩)) (.inr fun t ht=>c3 t ht) hY ?_
  rw[z8_,qs_]
  exact h w hw
 ·cases hc
theorem alE_ {k:Nat} {is:List Nat} {listed listed':List Bool} (h:chkG P l ts (k::is) listed=some listed'):chkG P l ts [k] listed=some (listed.set k true)∧chkG P l ts is (listed.set k true)=some listed':=by
 rw[chkG] at h
 cases ho:vC_ l k with
 |none=>rw[ho] at h;cases h
 |some o=>
  rw[ho] at h
  simp only at h
  split at h
  ·rename_i hcc
   refine⟨?_,h⟩
   rw[chkG,ho]
   simp only
   rw[if_pos hcc];rfl
  ·cases h
theorem OwG.runs {k:Md→List Oper→Fr→za_→Prop} (hns:Region.noSelect l.toArray=true): ∀ (is:List Nat) {listed listed':List Bool} {f:Fr} {L:za_},chkG P l ts is listed=some listed'→
  (∀md r f' L',k md r f' L'→r= []∧OwG P w0 l R ts n listed' f' L' N)→vcL P w0 l.toArray false (.sof R [] []) (xW_ l is) f L k→OwG P w0 l R ts (is.length+n) listed f L N
 | [],listed,listed',f,L,hc,hk,h=>by
  cases hc
  rw[List.length_nil,Nat.zero_add]
  exact(hk _ _ _ _ h).2
 |i::is,listed,listed',f,L,hc,hk,h=>by
  obtain⟨hc1,hc2⟩:=alE_ hc
  rw[ze_] at h
  cases ho:vC_ l i with
  |none=>unfold chkG at hc1;rw[ho] at hc1;cases hc1
  |some o=>
   rw[ho,zf_] at h
   unfold vcL at h
   rw[List.length_cons,show is.length+1+n=(is.length+n)+1 by omega]
   cases hs:zq_ l.toArray f o with
   |true=>
    rw[hs] at h
    have hw0:Region.wanted o (yielded l.toArray (act f).tmps)=false:=by rw[qu_,hs];rfl
    exact OwG.step hns ho hc1 (v:=undef) (.inr ⟨hw0,rfl⟩) (OwG.runs hns is hc2 hk h)
   |false=>
    rw[hs] at h
    have hw0:Region.wanted o (yielded l.toArray (act f).tmps)=true:=by rw[qu_,hs];rfl
    simp only[ib,vcB] at h
    split at h
    ·cases hrd:rdOk (.sof R [] []) f o.op with
     |false=>rw[hrd] at h;exact absurd (hk _ _ _ _ h).1 (by simp)
     |true=>
      rw[hrd] at h
      simp only at h
      cases hv:wf_ P w0 L f o.op with
      |none=>rw[hv] at h;exact absurd (hk _ _ _ _ h).1 (by simp)
      |some v=>
       rw[hv] at h
       refine OwG.step hns ho hc1 (v:=v) (.inl ⟨hw0,fun w hw=> ?_⟩) (OwG.runs hns is hc2 hk h)
       rw[jT_]
       rcases hw with hp|hw
       ·exact jj_ (Hp.refl w) (kk_ hp hv w)
       ·exact jj_ (Hp.refl w) (ZK_ hrd hv hw)
    ·exact absurd (hk _ _ _ _ h).1 (by simp)
    ·exact absurd (hk _ _ _ _ h).1 (by simp)
theorem OwG.run (is:List Nat) (listed':List Bool) (n:Nat) {m:Nat} (hm:m=is.length+n) (hns:Region.noSelect l.toArray=true) (hc:chkG P l ts is listed=some listed')
  (h: ∀k:Md→List Oper→Fr→za_→Prop,(∀md f L,OwG P w0 l R ts n listed' f L N→k md [] f L)→nl (xW_ l is) fun l'=>vcL P w0 l.toArray false (.sof R [] []) l' f L k):OwG P w0 l R ts m listed f L N:=by
 subst hm
 refine OwG.runs (k:=fun _ r f' L'=>r= []∧OwG P w0 l R ts n listed' f' L' N) hns is hc (fun _ _ _ _ h=>h) ?_
 exact h _ fun _ _ _ h=>⟨rfl,h⟩
def afY_ (l:List Oper) (ts:List Nat) (ks:List Nat) (listed:List Bool):Bool:=
 ((Region.ready .any l.toArray listed.toArray).all fun i=>ks.contains i)&& (Region.ready .any l.toArray listed.toArray != [])&&ks.all fun k=> !ts.contains k
theorem OwG.softs (ks:List Nat) (hs:afY_ l ts ks listed=true)
  (h: ∀k,k∈ks→ ∀o,vC_ l k=some o→Ow P w0 l.toArray .seq [o] f L (fun f' L'=>(∀r,r∈R→zz_ w0 L' r=zz_ w0 L r)∧OwG P w0 l R ts n (listed.set k true) f' L' N)):
  OwG P w0 l R ts (n+1) listed f L N:=by
 unfold afY_ at hs
 simp only[Bool.and_eq_true,List.all_eq_true,bne_iff_ne,ne_eq,List.contains_eq_mem,decide_eq_true_eq,Bool.not_eq_true',decide_eq_false_iff_not] at hs
 obtain⟨⟨c3,c4⟩,c6⟩:=hs
 intro w hw
 refine⟨fun _=>SR.of hw,fun hr=>absurd hr c4,fun i hi=> ?_⟩
 have hik:=c3 i hi
 obtain⟨-,oi,hoi,-⟩:=mem_ready.1 hi
 have hni:vC_ l i=some oi:=by rw[xX_];simpa using hoi
 refine ZO_ hoi (X:=x4_ P l.toArray (jU_ w0 N) ts (SR w0 R L) n (listed.toArray.setIfInBounds i true)) ?_ hw
 intro w' hw'
 have h1:=h i hik oi hni w' hw'
 refine kY_ ?_ h1
 rintro f' L' ⟨hS,hO⟩ w'' hw''
 rw[Zr_ hS,qs_]
 exact hO w'' hw''
theorem OwG.one (i:Nat) (oi:Oper) (hs:afY_ l ts [i] listed=true) (hi:vC_ l i=some oi)
  (h:Ow P w0 l.toArray .seq [oi] f L (fun f' L'=>(∀r,r∈R→zz_ w0 L' r=zz_ w0 L r)∧OwG P w0 l R ts n (listed.set i true) f' L' N)):OwG P w0 l R ts (n+1) listed f L N:=
 OwG.softs [i] hs fun k hk o ho=>by
  rw[List.mem_singleton] at hk
  subst hk
  rw[hi] at ho
  cases ho
  exact h
theorem OwG.two (i j:Nat) (oi oj:Oper) (hs:afY_ l ts [i,j] listed=true) (hi:vC_ l i=some oi) (hj:vC_ l j=some oj)
  (h1:Ow P w0 l.toArray .seq [oi] f L (fun f' L'=>(∀r,r∈R→zz_ w0 L' r=zz_ w0 L r)∧OwG P w0 l R ts n (listed.set i true) f' L' N))
  (h2:Ow P w0 l.toArray .seq [oj] f L (fun f' L'=>(∀r,r∈R→zz_ w0 L' r=zz_ w0 L r)∧OwG P w0 l R ts n (listed.set j true) f' L' N)):OwG P w0 l R ts (n+1) listed f L N:=
 OwG.softs [i,j] hs fun k hk o ho=>by
  simp only[List.mem_cons,List.not_mem_nil,or_false] at hk
  rcases hk with rfl|rfl
  ·rw[hi] at ho;cases ho;exact h1
  ·rw[hj] at ho;cases ho;exact h2
theorem OwG.permL {M:za_} (hp:M.Perm L) (hR: ∀r,r∈R→zz_ w0 M r=zz_ w0 L r) (h:OwG P w0 l R ts n listed f M N):OwG P w0 l R ts n listed f L N:=by
 intro w hw
 rw[Zr_ hR]
 exact h w (hw.perm hp)
def ard_ (P:Program) (l:List Oper) (is ts:List Nat) (listed:List Bool):Bool:=
 Region.noSelect l.toArray&&Js_ P l.toArray ts is listed.toArray&&ts.all fun t=> !listed.toArray.getD t true
theorem OwG.rest (is:List Nat) {m:Nat} (hm:m=is.length) (hB:ard_ P l is ts listed=true) (hl:is.map (fun i:Nat=>l[i]?)=(xW_ l is).map some)
  (h:nl (xW_ l is) fun l'=>Ow P w0 l.toArray (.sof R is ts) l' f L N):OwG P w0 l R ts m listed f L N:=by
 subst hm
 revert hl h
 generalize xW_ l is=l'
 intro hl h w hw
 simp only[ard_,Bool.and_eq_true,List.all_eq_true,Bool.not_eq_true'] at hB
 obtain⟨⟨h1,h4⟩,h5⟩:=hB
 have hlen:is.length=l'.length:=by have:=congrArg List.length hl;simpa using this
 have hF:Fits P l.toArray ts is l' listed.toArray:=⟨hlen,fun j=>by
  have:=congrArg (·[j]?) hl
  simp only[List.getElem?_map] at this
  cases hj:is[j]? with
  |none=>
   rw[hj] at this
   simp only[Option.map_none] at this
   cases hj':l'[j]? with
   |none=>rfl
   |some x=>rw[hj'] at this;cases this
  |some i=>
   rw[hj] at this
   simp only[Option.map_some] at this
   cases hj':l'[j]? with
   |none=>rw[hj'] at this;cases this
   |some x=>
    rw[hj'] at this
    simp only[Option.map_some,Option.some.injEq] at this
    simp[this],h1,h4⟩
 rw[hlen]
 exact(h:Ow P w0 l.toArray (.sof R is ts) l' f L N) listed.toArray hF (fun t ht=>h5 t ht) w hw
end
def CutO {G:Type} (M:List Nat) (S:G→List (Nat×Value)) (H:G→za_) (J:G→Prop) (f f':Fr) (L':za_):Prop:=
 ∃g,J g∧L'=H g∧f'=pin (qV_ (Zq_ f') M 0 f) (S g)
theorem CutO.mk {G:Type} {M:List Nat} {S:G→List (Nat×Value)} {H:G→za_} {J:G→Prop} {f f':Fr} {L':za_} (g:G) (hJ:J g) (hL:L'=H g) (hf:f'=pin (qV_ (Zq_ f') M 0 f) (S g)):CutO M S H J f f' L':=⟨g,hJ,hL,hf⟩
theorem Cw.cutO {P:Program} {w0:World} {x y:Code} {f:Fr} {L:za_} {K:ky_} {G:Type} (M:List Nat) (S:G→List (Nat×Value)) (H:G→za_) (J:G→Prop) (h1:Cw P w0 x f L (ww_ (CutO M S H J f) K))
  (h2: ∀ (g:G) (j:Nat→Value),J g→Cw P w0 y (pin (qV_ j M 0 f) (S g)) (H g) K):Cw P w0 (.seq x y) f L K:=by
 refine Cw.seq (h1.mono fun e f' L' k=> ?_)
 cases e with
 |normal=>
  obtain⟨g,hJ,rfl,hf⟩:=k
  have:=h2 g (Zq_ f') hJ
  rw[←hf] at this
  exact this
 |_=>exact k
end Go.Sx
namespace Go.Sx
open Go
def kv (e:MapEntry):Value×Value:=(e.key,e.val)
def ItR (o:Obj) (bm:Nat) (om:Obj) (m dn lf:Vals):Prop:=
 ∃es clock,∃ds:List MapEntry,om= .map es clock∧(es.toList.map (·.born)++ [clock]).Pairwise (· < ·)∧o= .mapIter (some bm) clock (ds.map (·.born)).toArray clock∧
  ds.map kv=dn.map Zx_∧(∀d,d∈ds→d∈es.toList)∧((es.toList.filter fun e=> !(ds.map (·.born)).contains e.born).map kv=lf.map Zx_)∧(dn++lf).Perm m
theorem Q7_ {l:List MapEntry} {c:Nat} (h: (l.map (·.born)++ [c]).Pairwise (· < ·)): (l.map (·.born)).Nodup:=
 ((List.pairwise_append.1 h).1).imp fun h=>Nat.ne_of_lt h
theorem ao4_ {l:List MapEntry} {c:Nat} (h: (l.map (·.born)++ [c]).Pairwise (· < ·)): ∀x,x∈l→x.born<c:=fun x hx=>
 (List.pairwise_append.1 h).2.2 _ (List.mem_map.2 ⟨x,hx,rfl⟩) c (List.mem_singleton.2 rfl)
theorem abZ_ (es:Array MapEntry) (ds:List MapEntry): (leftOf es (ds.map (·.born)).toArray).toList=es.toList.filter fun e=> !(ds.map (·.born)).contains e.born:=by
 unfold leftOf
 rw[Array.toList_filter]
 simp
theorem ItR.start {bm:Nat} {om:Obj} {m:Vals} (h:MapR om m): ∃es clock,om= .map es clock∧ItR (.mapIter (some bm) clock #[] clock) bm om m [] m:=by
 obtain⟨es,clock,rfl,h1,h2⟩:=h
 refine⟨es,clock,rfl,es,clock,[],rfl,h2,rfl,rfl,(fun d hd=>by cases hd), ?_,by rw[List.nil_append]⟩
 rw[show(es.toList.filter fun e=> !(([]:List MapEntry).map (·.born)).contains e.born)=es.toList from List.filter_eq_self.2 (fun _ _=>rfl)]
 exact h1
theorem ItR.step {bm:Nat} {om:Obj} {m dn lf:Vals} {es:Array MapEntry} {clock:Nat} {ds:List MapEntry} {e:MapEntry} (hb: (es.toList.map (·.born)++ [clock]).Pairwise (· < ·))
  (hd:ds.map kv=dn.map Zx_) (hm: ∀d,d∈ds→d∈es.toList) (hl: (es.toList.filter fun e=> !(ds.map (·.born)).contains e.born).map kv=lf.map Zx_) (hp: (dn++lf).Perm m)
  (he:e∈es.toList.filter fun e=> !(ds.map (·.born)).contains e.born) (hom:om= .map es clock):
  ∃p lf',kv e=Zx_ p∧lf.length=lf'.length+1∧ItR (.mapIter (some bm) clock ((ds.map (·.born)).toArray.push e.born) clock) bm om m (dn++ [p]) lf':=by
 obtain⟨A,C,hAC⟩:=List.append_of_mem he
 rw[hAC,List.map_append,List.map_cons] at hl
 obtain⟨l1,l2,rfl,h1,h2⟩:=List.append_eq_map_iff.1 hl
 obtain⟨p,l3,rfl,h3,h4⟩:=(List.map_eq_cons_iff.1 h2)
 refine⟨p,l1++l3,h3.symm,by simp;omega,es,clock,ds++ [e],hom,hb,by simp,by simp[hd,h3], ?_, ?_, ?_⟩
 ·intro d hd'
  rcases List.mem_append.1 hd' with h|h
  ·exact hm d h
  ·rw[List.mem_singleton] at h;subst h;exact(List.mem_filter.1 he).1
 ·have hnd: ((A++e::C).map (·.born)).Nodup:=by
   rw[←hAC]
   exact(Q7_ hb).sublist ((List.filter_sublist).map _)
  have e1: (es.toList.filter fun x=> !((ds++ [e]).map (·.born)).contains x.born)=(A++e::C).filter fun x=> !(x.born==e.born):=by
   rw[←hAC,List.filter_filter]
   refine List.filter_congr fun x hx=> ?_
   simp only[List.map_append,List.map_cons,List.map_nil,List.contains_append,List.contains_cons,List.contains_nil,Bool.or_false,Bool.not_or]
   rw[Bool.and_comm]
  rw[List.map_append,List.map_cons,List.nodup_append] at hnd
  obtain⟨-,hn2,hn3⟩:=hnd
  rw[List.nodup_cons] at hn2
  have e2: ((A++e::C).filter fun x=> !(x.born==e.born))=A++C:=by
   rw[List.filter_append,List.filter_cons]
   simp only[beq_self_eq_true,Bool.not_true,Bool.false_eq_true, ↓reduceIte]
   congr 1
   ·refine List.filter_eq_self.2 fun x hx=> ?_
    have:=hn3 x.born (List.mem_map.2 ⟨x,hx,rfl⟩) e.born List.mem_cons_self
    simpa using this
   ·refine List.filter_eq_self.2 fun x hx=> ?_
    have:x.born≠e.born:=fun h=>hn2.1 (h▸List.mem_map.2 ⟨x,hx,rfl⟩)
    simpa using this
  rw[e1,e2,List.map_append,List.map_append,h1,h4]
 ·refine List.Perm.trans ?_ hp
  rw[List.append_assoc]
  refine List.Perm.append_left dn ?_
  rw[List.singleton_append]
  exact List.perm_middle.symm
section
variable {P:Program} {w0:World} {f:Fr} {L:za_} {N:Fr→za_→Prop} {ops:Array Oper} {rest:List Oper} {md:Md}
 {d:Option Tmp} {ty:TypeId} {ps:String} {af:Array Edge} {g:Option (Nat×Bool)}
def itv (b:Nat):Value:= .pointer (some ⟨b,0,none⟩)
end
end Go.Sx
namespace Go.Sx
open Go
def ItG {α β:Type} (encK:α→Value) (encV:β→Value) (o:Obj) (bm:Nat) (om:Obj) (m dn lf:List (α×β)):Prop:=
 ∃es clock,∃ds:List MapEntry,om= .map es clock∧(es.toList.map (·.born)++ [clock]).Pairwise (· < ·)∧o= .mapIter (some bm) clock (ds.map (·.born)).toArray clock∧
  ds.map kv=dn.map (kE_ encK encV)∧(∀d,d∈ds→d∈es.toList)∧((es.toList.filter fun e=> !(ds.map (·.born)).contains e.born).map kv=lf.map (kE_ encK encV))∧(dn++lf).Perm m
theorem ItG.start {α β:Type} {encK:α→Value} {encV:β→Value} {bm:Nat} {om:Obj} {m:List (α×β)} (h:w9_ encK encV om m): ∃es clock,om= .map es clock∧ItG encK encV (.mapIter (some bm) clock #[] clock) bm om m [] m:=by
 obtain⟨es,clock,rfl,h1,h2⟩:=h
 refine⟨es,clock,rfl,es,clock,[],rfl,h2,rfl,rfl,(fun d hd=>by cases hd), ?_,by rw[List.nil_append]⟩
 rw[show(es.toList.filter fun e=> !(([]:List MapEntry).map (·.born)).contains e.born)=es.toList from List.filter_eq_self.2 (fun _ _=>rfl)]
 exact h1
theorem ItG.step {α β:Type} {encK:α→Value} {encV:β→Value} {bm:Nat} {om:Obj} {m dn lf:List (α×β)} {es:Array MapEntry} {clock:Nat} {ds:List MapEntry} {e:MapEntry} (hb: (es.toList.map (·.born)++ [clock]).Pairwise (· < ·))
  (hd:ds.map kv=dn.map (kE_ encK encV)) (hm: ∀d,d∈ds→d∈es.toList) (hl: (es.toList.filter fun e=> !(ds.map (·.born)).contains e.born).map kv=lf.map (kE_ encK encV)) (hp: (dn++lf).Perm m)
  (he:e∈es.toList.filter fun e=> !(ds.map (·.born)).contains e.born) (hom:om= .map es clock):
  ∃p lf',kv e=kE_ encK encV p∧lf.length=lf'.length+1∧ItG encK encV (.mapIter (some bm) clock ((ds.map (·.born)).toArray.push e.born) clock) bm om m (dn++ [p]) lf':=by
 obtain⟨A,C,hAC⟩:=List.append_of_mem he
 rw[hAC,List.map_append,List.map_cons] at hl
 obtain⟨l1,l2,rfl,h1,h2⟩:=List.append_eq_map_iff.1 hl
 obtain⟨p,l3,rfl,h3,h4⟩:=(List.map_eq_cons_iff.1 h2)
 refine⟨p,l1++l3,h3.symm,by simp;omega,es,clock,ds++ [e],hom,hb,by simp,by simp[hd,h3], ?_, ?_, ?_⟩
 ·intro d hd'
  rcases List.mem_append.1 hd' with h|h
  ·exact hm d h
  ·rw[List.mem_singleton] at h;subst h;exact(List.mem_filter.1 he).1
 ·have hnd: ((A++e::C).map (·.born)).Nodup:=by
   rw[←hAC]
   exact(Q7_ hb).sublist ((List.filter_sublist).map _)
  have e1: (es.toList.filter fun x=> !((ds++ [e]).map (·.born)).contains x.born)=(A++e::C).filter fun x=> !(x.born==e.born):=by
   rw[←hAC,List.filter_filter]
   refine List.filter_congr fun x hx=> ?_
   simp only[List.map_append,List.map_cons,List.map_nil,List.contains_append,List.contains_cons,List.contains_nil,Bool.or_false,Bool.not_or]
   rw[Bool.and_comm]
  rw[List.map_append,List.map_cons,List.nodup_append] at hnd
  obtain⟨-,hn2,hn3⟩:=hnd
  rw[List.nodup_cons] at hn2
  have e2: ((A++e::C).filter fun x=> !(x.born==e.born))=A++C:=by
   rw[List.filter_append,List.filter_cons]
   simp only[beq_self_eq_true,Bool.not_true,Bool.false_eq_true, ↓reduceIte]
   congr 1
   ·refine List.filter_eq_self.2 fun x hx=> ?_
    have:=hn3 x.born (List.mem_map.2 ⟨x,hx,rfl⟩) e.born List.mem_cons_self
    simpa using this
   ·refine List.filter_eq_self.2 fun x hx=> ?_
    have:x.born≠e.born:=fun h=>hn2.1 (h▸List.mem_map.2 ⟨x,hx,rfl⟩)
    simpa using this
  rw[e1,e2,List.map_append,List.map_append,h1,h4]
 ·refine List.Perm.trans ?_ hp
  rw[List.append_assoc]
  refine List.Perm.append_left dn ?_
  rw[List.singleton_append]
  exact List.perm_middle.symm
section
variable {α β:Type} {encK:α→Value} {encV:β→Value} {P:Program} {w0:World} {f:Fr} {L:za_} {N:Fr→za_→Prop} {ops:Array Oper} {rest:List Oper} {md:Md}
 {d:Option Tmp} {ty:TypeId} {ps:String} {af:Array Edge} {g:Option (Nat×Bool)}
theorem Ow.rangeMapG {t kt vt:TypeId} {x:Operand} {bm:Nat} {om:Obj} {m:List (α×β)} {md':Md} (he:md.turn=some md') (hs:zq_ ops f ⟨d, .range t x,ty,ps,af,g⟩=false) (hu:P.underlying t=some (.map kt vt))
  (hx:ev f x=vm bm) (hl:zz_ w0 L bm=some om) (hm:w9_ encK encV om m)
  (hn: ∀b o,jR_ L b→w0.heap.size≤b→ItG encK encV o bm om m [] m→Ow P w0 ops md' rest (qN_ f d (itv b)) (L++ [(b,o)]) N):
  Ow P w0 ops md (⟨d, .range t x,ty,ps,af,g⟩::rest) f L N:=by
 obtain⟨es,clock,rfl,hI⟩:=ItG.start (bm:=bm) hm
 refine Ow.step he rfl hs fun w hw=> .inl ⟨itv w.heap.size,w.alloc (.mapIter (some bm) clock #[] clock),_, ?_,hw.alloc _,hn _ _ (z9_ fun b hb=>hw.lt hb) hw.size hI⟩
 have hb:=hw.read hl
 have: (Instr.range t (vm bm)).run P w= .ok (itv w.heap.size) (w.alloc (.mapIter (some bm) clock #[] clock)):=by
  simp only[Instr.range,vm,Sem.run_bind,run_underlying hu w,Result.andThen_ok,q1_ hb]
  rfl
 simp only[execOp,Sem.run_bind,hx]
 rw[this];rfl
theorem Ow.nextMapG {x:Operand} {r bm:Nat} {o om:Obj} {m dn lf:List (α×β)} {md':Md} (he:md.turn=some md') (hs:zq_ ops f ⟨d, .next x false,ty,ps,af,g⟩=false)
  (hx:ev f x=itv r) (hl:look L r=some o) (hlm:zz_ w0 L bm=some om) (hI:ItG encK encV o bm om m dn lf)
  (h0:lf= []→Ow P w0 ops md' rest (qN_ f d (.tuple #[.bool false])) L N)
  (h1: ∀p o' lf',lf.length=lf'.length+1→ItG encK encV o' bm om m (dn++ [p]) lf'→Ow P w0 ops md' rest (qN_ f d (.tuple #[.bool true,encK p.1,encV p.2])) (setB L r o') N):
  Ow P w0 ops md (⟨d, .next x false,ty,ps,af,g⟩::rest) f L N:=by
 refine Ow.step he rfl hs fun w hw=> ?_
 have hr:=hw.has _ _ (zx_ hl)
 have hb:=hw.read hlm
 obtain⟨es,clock,ds,rfl,hbo,rfl,hd,hm,hlf,hp⟩:=hI
 rcases run_next_at (P:=P) w ty r bm clock clock (ds.map (·.born)).toArray es clock hr hb (ao4_ hbo) (Nat.le_refl _) with⟨hz,hrun⟩ | ⟨e,hem,w1,hw1,hrun⟩
 ·refine .inl ⟨.tuple #[.bool false],w,L, ?_,hw,h0 ?_⟩
  ·simp only[execOp,Sem.run_bind,hx,itv]
   rw[hrun];rfl
  ·have: (leftOf es (ds.map (·.born)).toArray).toList= []:=by
    rw[Array.toList_eq_nil_iff];exact Array.eq_empty_of_size_eq_zero hz
   rw[abZ_] at this
   rw[this] at hlf
   exact(List.map_eq_nil_iff.1 hlf.symm)
 ·rw[abZ_] at hem
  obtain⟨p,lf',hk,hlen,hI'⟩:=ItG.step (bm:=bm) hbo hd hm hlf hp hem rfl
  simp only[kv,kE_,Prod.mk.injEq] at hk
  have hw1':Hp w0 L w1:=by rcases hw1 with rfl|rfl;exact hw;exact hw.drew
  refine .inl ⟨.tuple #[.bool true,encK p.1,encV p.2],ChangeMaps.setBlock w1 r (.mapIter (some bm) clock ((ds.map (·.born)).toArray.push e.born) clock),_, ?_,hw1'.set (zh_ hl) rfl rfl rfl rfl,h1 p _ lf' hlen hI'⟩
  simp only[execOp,Sem.run_bind,hx,itv]
  rw[hrun,hk.1,hk.2];rfl
theorem Ow.entryMapG {x:Operand} {r bm:Nat} {o om:Obj} {m dn lf:List (α×β)} {p:α×β} {md':Md} (he:md.turn=some md') (hs:zq_ ops f ⟨d, .entry x,ty,ps,af,g⟩=false)
  (hx:ev f x=itv r) (hl:zz_ w0 L r=some o) (hlm:zz_ w0 L bm=some om) (hI:ItG encK encV o bm om m (dn++ [p]) lf)
  (hn:Ow P w0 ops md' rest (qN_ f d (.tuple #[encK p.1,encV p.2])) L N):
  Ow P w0 ops md (⟨d, .entry x,ty,ps,af,g⟩::rest) f L N:=by
 refine Ow.step he rfl hs fun w hw=> .inl ⟨_,w,L, ?_,hw,hn⟩
 have hr:=hw.read hl
 have hb:=hw.read hlm
 obtain⟨es,clock,ds,rfl,hbo,rfl,hd,hm,hlf,hp⟩:=hI
 rw[List.map_append,List.map_cons,List.map_nil] at hd
 obtain⟨d1,d2,rfl,-,h2⟩:=List.map_eq_append_iff.1 hd
 obtain⟨e,d3,rfl,h3,h4⟩:=List.map_eq_cons_iff.1 h2
 obtain rfl:=List.map_eq_nil_iff.1 h4
 simp only[kv,kE_,Prod.mk.injEq] at h3
 have hs': ((d1++ [e]).map (·.born)).toArray=(d1.map (·.born)).toArray.push e.born:=by simp
 rw[hs'] at hr
 have hrun:=run_entry_at (P:=P) w r bm clock (d1.map (·.born)).toArray es clock e hr hb (hm e (by simp)) (Q7_ hbo)
 simp only[execOp,Sem.run_bind,hx,itv]
 rw[hrun,h3.1,h3.2];rfl
end
theorem ads_ (l:List UInt8):Instr.sameBits 10000 (.agg (a8 l)) (.agg (a8 l))=true:=by
 show Instr.sameBits (9999+1) _ _=true
 unfold Instr.sameBits
 simp only[beq_self_eq_true,Bool.true_and,List.all_eq_true]
 intro p hp
 obtain⟨i,hi,rfl⟩:=List.getElem_of_mem hp
 rw[List.getElem_zip]
 simp[a8,Instr.sameBits]
theorem aa3_ {P:Program} {t e:TypeId} {n:Nat} (hu:P.underlying t=some (.array n e)) (he:P.underlying e=some (.int .u8)) (hm:zZ_ P e=some (false,1)) (l l':List UInt8) (hl:l.length=n) (hl':l'.length=n) (w:World):
  (Op.equal t (.agg (a8 l)) (.agg (a8 l'))).run P w= .ok (l==l') w:=
 ak4_ P 8 9992 t _ _ _ (afS_ (d:=6) hu he hm l l' hl hl') w
theorem KL_ {P:Program} {t e:TypeId} {n:Nat} (hu:P.underlying t=some (.array n e)) (he:P.underlying e=some (.int .u8)) (hm:zZ_ P e=some (false,1)) (l:List UInt8) (hl:l.length=n) (em:Bool) (w:World):
  (Instr.checkKey em 10000 t (.agg (a8 l))).run P w= .ok () w:=by
 show(Instr.checkKey em (9999+1) t (.agg (a8 l))).run P w= .ok () w
 rw[Instr.checkKey]
 simp only[Sem.run_bind,run_underlying hu,Result.andThen_ok]
 simp only[Std.Legacy.Range.forIn_eq_forIn_range',Std.Legacy.Range.size,Nat.sub_zero,Nat.add_one_sub_one,Nat.div_one]
 have each: ∀j,j∈List.range' 0 n→j<l.length:=by
  intro j hj
  rw[List.mem_range'] at hj
  obtain⟨i,hi,rfl⟩:=hj
  omega
 generalize List.range' 0 n=is at each
 induction is with
 |nil=>simp
 |cons j is ih=>
  have hj:=each j (by simp)
  have p1: (part e (a8 l) (j*1)).run P w= .ok (v8 (l.getD j 0)) w:=by
   refine xo_ hm ?_ w
   simp[partV,a8,v8,hj]
  have p2: (Instr.checkKey em 9999 e (v8 (l.getD j 0))).run P w= .ok () w:=by
   show(Instr.checkKey em (9998+1) e (v8 (l.getD j 0))).run P w= .ok () w
   rw[Instr.checkKey]
   simp only[Sem.run_bind,run_underlying he,Result.andThen_ok,v8]
   rfl
  simp only[List.forIn_cons,Sem.run_bind,zP_ hm w,Result.andThen_ok,p1,p2,Sem.run_pure]
  exact ih (fun y hy=>each y (by simp[hy]))
theorem ahR_ {n:Nat} {e:TypeId} (x:Value): ∀ (es:List MapEntry) (i:Nat),es≠ []→Instr.findNow (.array n e) x es i=none
 | [],_,h=>absurd rfl h
 |_::_,_,_=>by cases x<;>rfl
theorem Ju_ {α β:Type} [BEq α] {P:Program} {kt:TypeId} {encK:α→Value} {encV:β→Value} (he: ∀a b w,(Op.equal kt (encK a) (encK b)).run P w= .ok (a==b) w) (w:World) (k:α): ∀ (es:List MapEntry) (m:List (α×β)) (i:Nat),es.map (fun e=>(e.key,e.val))=m.map (kE_ encK encV)→
  (Instr.findAsking kt (encK k) es i).run P w= .ok ((JZ_ k m i).map fun p=>(p.1,encV p.2)) w
 | [],[],_,_=>rfl
 | [],_::_,_,h=>by cases h
 |_::_,[],_,h=>by cases h
 |e::es,p::m,i,h=>by
  simp only[List.map_cons,List.cons.injEq,kE_,Prod.mk.injEq] at h
  obtain⟨⟨h1,h2⟩,h3⟩:=h
  unfold Instr.findAsking JZ_
  rw[Sem.run_bind,h1,he]
  simp only[Result.andThen_ok]
  cases hk: (k==p.1)
  ·simp only[Bool.false_eq_true, ↓reduceIte]
   exact Ju_ he w k es m (i+1) h3
  ·simp[h2]
theorem KeyOk.arr {α:Type} [BEq α] {P:Program} {kt e:TypeId} {n:Nat} (hu:P.underlying kt=some (.array n e)) (he:P.underlying e=some (.int .u8)) (hm:zZ_ P e=some (false,1)) (bs:α→List UInt8) (hb: ∀a,(bs a).length=n) (hq: ∀a b,(bs a==bs b)=(a==b)):
  KeyOk P kt (fun a:α=> .agg (a8 (bs a))) where
 find encV w k es m h:=by
  cases es with
  |nil=>
   cases m with
   |nil=>simp only[Instr.findKey,Sem.run_bind,run_underlying hu w,Result.andThen_ok];rfl
   |cons=>cases h
  |cons e0 es=>
   simp only[Instr.findKey,Sem.run_bind,run_underlying hu w,Result.andThen_ok]
   rw[ahR_ _ _ _ (by simp)]
   exact Ju_ (encK:=fun a:α=> .agg (a8 (bs a))) (fun a b w=>by rw[aa3_ hu he hm _ _ (hb a) (hb b) w,hq]) w k _ m 0 h
 check w e k:=KL_ hu he hm _ (hb k) e w
 bits k:=ads_ _
section
variable {α β:Type} [BEq α] [LawfulBEq α] {encK:α→Value} {encV:β→Value} {P:Program} {w0:World} {f:Fr} {L:za_} {N:Fr→za_→Prop} {ops:Array Oper} {rest:List Oper} {md:Md}
 {d:Option Tmp} {ty:TypeId} {ps:String} {af:Array Edge} {g:Option (Nat×Bool)}
def hasG (k:α) (m:List (α×β)):Bool:=m.any fun p=>k==p.1
omit [LawfulBEq α] in
end
end Go.Sx
namespace Go.Sx
open Go
theorem KeyOk.str {P:Program} {kt:TypeId} (hu:P.underlying kt=some .string):KeyOk P kt vs where
 find encV w k es m h:=by
  simp only[Instr.findKey,Sem.run_bind,run_underlying hu w,Result.andThen_ok]
  rw[Xw_ (encK:=vs) (fun a b=>by simp only[vs,Instr.sameNow,Kw_]) k es m 0 h]
  rfl
 check w e k:=by
  unfold Instr.checkKey
  simp only[Sem.run_bind,run_underlying hu w,Result.andThen_ok,vs]
  rfl
 bits k:=by simp only[vs,Instr.sameBits,Kw_,beq_self_eq_true]
section
variable {α β:Type} [BEq α] [LawfulBEq α]
def delG (k:α):List (α×β)→List (α×β)
 | []=> []
 |p::r=>if k==p.1 then r else p::delG k r
variable {encK:α→Value} {encV:β→Value}
omit [LawfulBEq α] in
theorem ajg_ (k:α): ∀ (m:List (α×β)) (i j:Nat) (a:β),JZ_ k m i=some (j,a)→i≤j
 | [],_,_,_,h=>by cases h
 |p::r,i,j,a,h=>by
  unfold JZ_ at h
  split at h
  ·cases h;exact Nat.le_refl _
  ·have:=ajg_ k r (i+1) j a h;omega
omit [LawfulBEq α] in
theorem acK_ (k:α): ∀ (es:List MapEntry) (m:List (α×β)) (i j:Nat) (a:β),es.map (fun e=>(e.key,e.val))=m.map (kE_ encK encV)→JZ_ k m i=some (j,a)→
  (es.eraseIdx (j - i)).map (fun e=>(e.key,e.val))=(delG k m).map (kE_ encK encV)
 | [],[],_,_,_,_,h=>by cases h
 | [],_::_,_,_,_,h,_=>by cases h
 |_::_,[],_,_,_,h,_=>by cases h
 |e::es,p::m,i,j,a,h,hf=>by
  simp only[List.map_cons,List.cons.injEq] at h
  obtain⟨h1,h3⟩:=h
  unfold JZ_ at hf
  unfold delG
  split at hf
  ·rename_i hk
   cases hf
   rw[if_pos hk,Nat.sub_self]
   exact h3
  ·rename_i hk
   have hle:=ajg_ k m (i+1) j a hf
   rw[if_neg hk,show j - i=(j - (i+1))+1 by omega]
   simp only[List.eraseIdx_cons_succ,List.map_cons]
   rw[acK_ k es m (i+1) j a h3 hf,h1]
omit [LawfulBEq α] in
theorem abW_ (k:α): ∀ (m:List (α×β)) (i:Nat),JZ_ k m i=none→delG k m=m
 | [],_,_=>rfl
 |p::r,i,h=>by
  unfold JZ_ at h
  split at h
  ·cases h
  ·rename_i hk
   unfold delG
   rw[if_neg hk,abW_ k r (i+1) h]
variable {P:Program} {w0:World} {f:Fr} {L:za_} {N:Fr→za_→Prop} {ops:Array Oper} {rest:List Oper} {md:Md}
 {d:Option Tmp} {ty:TypeId} {ps:String} {af:Array Edge} {g:Option (Nat×Bool)}
omit [LawfulBEq α] in
theorem Ow.mapDeleteG {t kt vt:TypeId} {x y:Operand} {t2:TypeId} {b:Nat} {o:Obj} {m:List (α×β)} {k:α} {md':Md} (he:md.turn=some md') (hs:zq_ ops f ⟨d, .call ⟨.builtin .delete, #[x,y], #[t,t2]⟩,ty,ps,af,g⟩=false) (hu:P.underlying t=some (.map kt vt)) (hk:KeyOk P kt encK)
  (hx:ev f x=vm b) (hy:ev f y=encK k) (hl:look L b=some o) (hm:w9_ encK encV o m)
  (hn: ∀o',w9_ encK encV o' (delG k m)→Ow P w0 ops md' rest (qN_ f d (.tuple #[])) (setB L b o') N):
  Ow P w0 ops md (⟨d, .call ⟨.builtin .delete, #[x,y], #[t,t2]⟩,ty,ps,af,g⟩::rest) f L N:=by
 obtain⟨es,c,rfl,hes,hbo⟩:=hm
 refine Ow.step he rfl hs fun w hw=> ?_
 have hb:=hw.has _ _ (zx_ hl)
 have hfk:=hk.find encV w k es.toList m hes
 cases hf:JZ_ k m 0 with
 |none=>
  rw[hf] at hfk
  refine .inl ⟨.tuple #[],{w with heap:=w.heap.setIfInBounds b (.map es c)},_, ?_,hw.set (zh_ hl) rfl rfl rfl rfl,hn _ ⟨es,c,rfl,by rw[abW_ k m 0 hf];exact hes,hbo⟩⟩
  have: (Builtin.delete_ #[t,t2] ty #[vm b,encK k]).run P w= .ok (.tuple #[]) {w with heap:=w.heap.setIfInBounds b (.map es c)}:=by
   simp only[Builtin.delete_,vm,List.getElem?_toArray,List.getElem?_cons_zero,List.getElem?_cons_succ,Sem.run_bind,run_underlying hu w,Result.andThen_ok,q1_ hb,hk.check,hfk,Option.map_none,xx_ hb]
   rfl
  simp only[execOp,resolve,Sem.run_bind,Sem.run_pure,Result.andThen_ok,invoke,builtin,List.map_toArray,List.map_cons,List.map_nil,hx,hy]
  rw[this];rfl
 |some p=>
  obtain⟨j,a⟩:=p
  rw[hf] at hfk
  refine .inl ⟨.tuple #[],{w with heap:=w.heap.setIfInBounds b (.map (es.eraseIdxIfInBounds j) c)},_, ?_,hw.set (zh_ hl) rfl rfl rfl rfl,hn _ ⟨_,c,rfl, ?_,by rw[Array.toList_eraseIdxIfInBounds];exact ahS_ hbo⟩⟩
  ·have: (Builtin.delete_ #[t,t2] ty #[vm b,encK k]).run P w= .ok (.tuple #[]) {w with heap:=w.heap.setIfInBounds b (.map (es.eraseIdxIfInBounds j) c)}:=by
    simp only[Builtin.delete_,vm,List.getElem?_toArray,List.getElem?_cons_zero,List.getElem?_cons_succ,Sem.run_bind,run_underlying hu w,Result.andThen_ok,q1_ hb,hk.check,hfk,Option.map_some,xx_ hb]
    rfl
   simp only[execOp,resolve,Sem.run_bind,Sem.run_pure,Result.andThen_ok,invoke,builtin,List.map_toArray,List.map_cons,List.map_nil,hx,hy]
   rw[this];rfl
  ·have:=acK_ (encK:=encK) (encV:=encV) k es.toList m 0 j a hes hf
   rw[Nat.sub_zero] at this
   rw[←this]
   simp
omit [BEq α] [LawfulBEq α] in
theorem Ow.mapClearG {t kt vt:TypeId} {x:Operand} {b:Nat} {o:Obj} {m:List (α×β)} {md':Md} (he:md.turn=some md') (hs:zq_ ops f ⟨d, .call ⟨.builtin .clear, #[x], #[t]⟩,ty,ps,af,g⟩=false) (hu:P.underlying t=some (.map kt vt))
  (hx:ev f x=vm b) (hl:look L b=some o) (hm:w9_ encK encV o m)
  (hn: ∀o',w9_ encK encV o' []→Ow P w0 ops md' rest (qN_ f d (.tuple #[])) (setB L b o') N):
  Ow P w0 ops md (⟨d, .call ⟨.builtin .clear, #[x], #[t]⟩,ty,ps,af,g⟩::rest) f L N:=by
 obtain⟨es,c,rfl,hes,hbo⟩:=hm
 refine Ow.step he rfl hs fun w hw=> ?_
 have hb:=hw.has _ _ (zx_ hl)
 refine .inl ⟨.tuple #[],{w with heap:=w.heap.setIfInBounds b (.map #[] c)},_, ?_,hw.set (zh_ hl) rfl rfl rfl rfl,hn _ ⟨#[],c,rfl,rfl,List.pairwise_singleton _ _⟩⟩
 have: (Builtin.clear_ #[t] ty #[vm b]).run P w= .ok (.tuple #[]) {w with heap:=w.heap.setIfInBounds b (.map #[] c)}:=by
  simp only[Builtin.clear_,vm,List.getElem?_toArray,List.getElem?_cons_zero,Sem.run_bind,run_underlying hu w,Result.andThen_ok,q1_ hb,xx_ hb]
  rfl
 simp only[execOp,resolve,Sem.run_bind,Sem.run_pure,Result.andThen_ok,invoke,builtin,List.map_toArray,List.map_cons,List.map_nil,hx]
 rw[this];rfl
end
section
variable {P:Program} {w0:World} {f:Fr} {L:za_} {N:Fr→za_→Prop} {ops:Array Oper} {rest:List Oper} {md:Md}
 {d:Option Tmp} {ty:TypeId} {ps:String} {af:Array Edge} {g:Option (Nat×Bool)}
theorem Ow.ifaceMap {t kt vt:TypeId} {x:Operand} {v:Value} (hs:zq_ ops f ⟨d, .makeInterface t x,ty,ps,af,g⟩=false) (hu:P.underlying t=some (.map kt vt)) (hx:ev f x=v)
  (hn:Ow P w0 ops md.next rest (qN_ f d (.iface t v)) L N):Ow P w0 ops md (⟨d, .makeInterface t x,ty,ps,af,g⟩::rest) f L N:=by
 refine Ow.calm rfl rfl hs (fun w hw=> .inl ⟨.iface t v,w,L, ?_,hw,rfl,rfl⟩) hn
 simp only[execOp,Instr.makeInterface,Sem.run_bind,run_underlying hu w,Result.andThen_ok,hx]
 rfl
theorem Ow.assertMap {t kt vt xt:TypeId} {x:Operand} {v:Value} (hs:zq_ ops f ⟨d, .typeAssert x xt t false,ty,ps,af,g⟩=false) (hu:P.underlying t=some (.map kt vt)) (hx:ev f x= .iface t v)
  (hn:Ow P w0 ops md.next rest (qN_ f d v) L N):Ow P w0 ops md (⟨d, .typeAssert x xt t false,ty,ps,af,g⟩::rest) f L N:=by
 refine Ow.calm rfl rfl hs (fun w hw=> .inl ⟨v,w,L, ?_,hw,rfl,rfl⟩) hn
 simp only[execOp,Instr.typeAssert,Sem.run_bind,run_underlying hu w,Result.andThen_ok,hx, ↓reduceIte]
 rfl
theorem Ow.cloneMap {α β:Type} {encK:α→Value} {encV:β→Value} {x:Operand} {ts:Array TypeId} {k:FuncId} {it:TypeId} {b:Nat} {o:Obj} {m:List (α×β)} {md':Md} (he:md.turn=some md')
  (hs:zq_ ops f ⟨d, .call ⟨.value (.func k), #[x],ts⟩,ty,ps,af,g⟩=false)
  (hk: ∀a w,(callFunc k #[a]).run P w=((Extern.MapsClone.clone #[a]).run P w).andThen fun v w=> .ok (.value v) w)
  (hx:ev f x= .iface it (vm b)) (hl:zz_ w0 L b=some o) (hm:w9_ encK encV o m)
  (hn: ∀c o',jR_ L c→w0.heap.size≤c→w9_ encK encV o' m→Ow P w0 ops md' rest (qN_ f d (.iface it (vm c))) (L++ [(c,o')]) N):
  Ow P w0 ops md (⟨d, .call ⟨.value (.func k), #[x],ts⟩,ty,ps,af,g⟩::rest) f L N:=by
 obtain⟨es,c,rfl,hes,hbo⟩:=hm
 refine Ow.step he rfl hs fun w hw=> .inl ⟨.iface it (vm w.heap.size),w.alloc (.map es c),_, ?_,hw.alloc _,hn _ _ (z9_ fun b hb=>hw.lt hb) hw.size ⟨es,c,rfl,hes,hbo⟩⟩
 have hb:=hw.read hl
 have hA:Array.map (ev f) #[x]= #[.iface it (vm b)]:=by simp[hx]
 have h: (callFunc k #[.iface it (vm b)]).run P w= .ok (.value (.iface it (vm w.heap.size))) (w.alloc (.map es c)):=by
  rw[hk]
  have hc:Extern.MapsClone.clone #[.iface it (vm b)]=(getObj b>>=fun o=>match o with| .map es c=>(newObj (.map es c)>>=fun r=>pure (.iface it (.map (some r)))) |_=>stuck "maps.clone: a map expected"):=rfl
  rw[hc,Sem.run_bind,q1_ hb]
  rfl
 simp only[execOp,resolve,Deferred.ofValue,akw_,Sem.run_bind,Sem.run_pure,Result.andThen_ok,invoke,hA]
 simpa using h
end
end Go.Sx
namespace Go.Sx
open Go
def tmpR:ResultVar→Bool
 | .tmp _=>true
 | .cell _ _=>false
theorem Hp.later {w0 w1 w2:World} {L D:za_} (h:Hp w0 L w1) (k:Hp w1 D w2) (hD:New w1.heap.size D):Hp w0 (L++D) w2:=
 Mrg.fresh hD.le w1 w2 rfl h k
theorem Ow.world {P:Program} {w0:World} {ops:Array Oper} {l:List Oper} {f:Fr} {L:za_} {N:Fr→za_→Prop} (h: ∀w,Hp w0 L w→Ow P w0 ops .seq l f L N):Ow P w0 ops .seq l f L N:=fun w hw=>h w hw w hw
theorem Rets.chunk {P:Program} {k:FuncId} {args:Array Value} {w:World} {S:Value→Obj→Prop} {X:za_} {b:Nat} (hX: ∀p,p∈X→w.heap[p.1]? =some p.2) (hn: (keys X).Nodup) (hb:b∈keys X)
  (h:Rets P k args w (fun v D=> ∃o,D= [(b,o)]∧S v o)):Rets P k args w (XS w X (fun v D=> ∃o,D=setB X b o∧S v o)):=
 Calls.mono h fun e w' ⟨v,D,he,hp,o,hD,hS⟩=>⟨v,setB X b o,he,by subst hD;exact Mrg.set hb w w' rfl ((Hp.refl w).ownX hX hn) hp,(Ext.refl w X).setB,o,rfl,hS⟩
theorem Rets.toX {P:Program} {k:FuncId} {a:Array Value} {w:World} {S:Value→Prop} (h:Rets P k a w (fun v D=>S v∧D= [])):Rets P k a w (XS w [] (fun v D=>D= []∧S v)):=
 h.mono fun v D ⟨h1,h2⟩=>⟨by subst h2;exact Ext.refl w [],h2,h1⟩
theorem Gr.rowL {α:Type} {m:Nat} {enc:α→List Value} {z:α} {w0 w:World} {v:Value} {l:List α} {L:za_} {E:TypeId} {n:Nat} (h:Gr L E m v n (l.map enc).flatten) (hn:l.length=n) (hw:Hp w0 L w) (hm: ∀x,(enc x).length=m):
  ∃b off arr F fz,RowS m enc z w v l b off arr F fz∧(0<l.length→look L b=some (.cells arr F fz)):=by
 obtain⟨b,off,c,arr,F,fz,hr,hc,⟨rfl,rfl,rfl⟩ | ⟨rfl,hb,hsz⟩⟩:=h.slV (z:=z) hw hn rfl hm
 ·exact⟨b,off,arr,F,fz,hr,fun h0=>absurd h0 (by simp)⟩
 ·refine⟨b,off,arr,F,fz,hr,fun _=> ?_⟩
  obtain⟨o,ho⟩:=Xc_ (h.key (b:=b) rfl)
  have:=hw.has _ _ (zx_ ho)
  rw[hb] at this
  rw[ho,this]
theorem GrI.rowL {α:Type} {m:Nat} {enc:α→List Value} {z:α} {w0 w:World} {v:Value} {l:List α} {D:za_} {E:TypeId} {n:Nat} (h:GrI D E m v n (l.map enc).flatten) (hn:l.length=n) (hw:Hp w0 D w) (hm: ∀x,(enc x).length=m):
  ∃b off arr F fz,RowS m enc z w v l b off arr F fz∧(0<l.length→look D b=some (.cells arr F fz)):=by
 obtain⟨X,hX,h⟩:=h
 obtain⟨b,off,c,arr,F,fz,hr,hc,⟨rfl,rfl,rfl⟩ | ⟨rfl,hb,hsz⟩⟩:=h.slM (z:=z) (fun b o hm=>hw.has b o (hX _ hm)) hn rfl hm
 ·exact⟨b,off,arr,F,fz,hr,fun h0=>absurd h0 (by simp)⟩
 ·refine⟨b,off,arr,F,fz,hr,fun _=> ?_⟩
  obtain⟨o,ho⟩:=Xc_ (h.key (b:=b) rfl)
  have hm:=hX _ (zx_ ho)
  have:=hw.has _ _ hm
  rw[hb] at this
  rw[v4_ hw.nodup hm,this]
end Go.Sx
section
namespace Go.Sx
open Go
set_option maxRecDepth 100000
set_option linter.defProp false
def S0:=And.intro (And.intro (And.intro (And.intro (And.intro (And.intro (@amR_) (And.intro (@anN_) (@ao0_))) (And.intro (@am1_) (And.intro (@ais_) (@amL_)))) (And.intro (And.intro (@ak2_) (And.intro (@amw_) (@afg_))) (And.intro (And.intro (@abh_) (@aaJ_)) (And.intro (@alp_) (@aak_))))) (And.intro (And.intro (And.intro (@aiQ_) (And.intro (@anD_) (@afl_))) (And.intro (And.intro (@ak0_) (@abo_)) (And.intro (@aoM_) (@aqb_)))) (And.intro (And.intro (@ai4_) (And.intro (@aee_) (@aiE_))) (And.intro (And.intro (@apJ_) (@ajK_)) (And.intro (@Vg_) (@aam_)))))) (And.intro (And.intro (And.intro (And.intro (@alZ_) (And.intro (@aid_) (@amP_))) (And.intro (@ag4_) (And.intro (@alh_) (@apl_)))) (And.intro (And.intro (@apU_) (And.intro (@JP_) (@ZA_))) (And.intro (And.intro (@adE_) (@ahF_)) (And.intro (@W7_) (@akV_))))) (And.intro (And.intro (And.intro (@anm_) (And.intro (@agY_) (@Q4_))) (And.intro (And.intro (@acF_) (@VB_)) (And.intro (@akt_) (@amE_)))) (And.intro (And.intro (@apS_) (And.intro (@amH_) (@qB_))) (And.intro (And.intro (@amO_) (@ai3_)) (And.intro (@akw_) (@qA_))))))) (And.intro (And.intro (And.intro (And.intro (And.intro (@qJ_) (And.intro (@zG_) (@zF_))) (And.intro (@ae5_) (And.intro (@Vf_) (@anl_)))) (And.intro (And.intro (@ank_) (And.intro (@ajX_) (@agP_))) (And.intro (And.intro (@aoy_) (@aic_)) (And.intro (@ak8_) (@anU_))))) (And.intro (And.intro (And.intro (@alU_) (And.intro (@ajP_) (@ajU_))) (And.intro (And.intro (@anA_) (@anM_)) (And.intro (@anI_) (@aqo_)))) (And.intro (And.intro (@ajI_) (And.intro (@aml_) (@amy_))) (And.intro (And.intro (@al9_) (@ap6_)) (And.intro (@ako_) (@alL_)))))) (And.intro (And.intro (And.intro (And.intro (@amz_) (And.intro (@ahP_) (@aj4_))) (And.intro (And.intro (@anw_) (@akA_)) (And.intro (@aiK_) (@api_)))) (And.intro (And.intro (@ao3_) (And.intro (@apE_) (@apm_))) (And.intro (And.intro (@apI_) (@an0_)) (And.intro (@amZ_) (@anH_))))) (And.intro (And.intro (And.intro (@amd_) (And.intro (@al6_) (@an1_))) (And.intro (And.intro (@ame_) (@alV_)) (And.intro (@ao6_) (@al3_)))) (And.intro (And.intro (@atb_) (And.intro (@arV_) (@aru_))) (And.intro (And.intro (@aqH_) (@am9_)) (And.intro (@aiD_) (@aiG_)))))))
def S1:=And.intro (And.intro (And.intro (And.intro (And.intro (And.intro (And.intro (And.intro (@amQ_) (@aqi_)) (And.intro (@ap2_) (And.intro (@ary_) (@aoQ_)))) (And.intro (And.intro (@arB_) (@agk_)) (And.intro (@agD_) (And.intro (@abI_) (@akv_))))) (And.intro (And.intro (And.intro (@ahA_) (@aeg_)) (And.intro (@ano_) (And.intro (@ab6_) (@anY_)))) (And.intro (And.intro (@amY_) (@beq_true)) (And.intro (@beq_false) (And.intro (@Bool.not_true) (@Bool.not_false)))))) (And.intro (And.intro (And.intro (And.intro (@Md.next_seq) (@Md.next_any)) (And.intro (@Md.next_qui) (And.intro (@Md.next_sof) (@adr_)))) (And.intro (And.intro (@adK_) (@adk_)) (And.intro (@Vy_) (And.intro (@Vk_) (@VC_))))) (And.intro (And.intro (And.intro (@aq2_) (@apn_)) (And.intro (@anV_) (And.intro (@alX_) (@amq_)))) (And.intro (And.intro (@ar1_) (And.intro (@apd_) (@apW_))) (And.intro (@aoH_) (And.intro (@ap9_) (@ap3_))))))) (And.intro (And.intro (And.intro (And.intro (And.intro (@agG_) (@aif_)) (And.intro (@ahx_) (And.intro (@ain_) (@ajo_)))) (And.intro (And.intro (@ah8_) (@ahU_)) (And.intro (@Wm_) (And.intro (@aht_) (@ahu_))))) (And.intro (And.intro (And.intro (@aiu_) (@ahy_)) (And.intro (@aib_) (And.intro (@agL_) (@akG_)))) (And.intro (And.intro (@adg_) (And.intro (@XO_) (@ahQ_))) (And.intro (@aas_) (And.intro (@aax_) (@Jk_)))))) (And.intro (And.intro (And.intro (And.intro (@Jj_) (@aap_)) (And.intro (@aay_) (And.intro (@ahz_) (@Vx_)))) (And.intro (And.intro (@VD_) (@ada_)) (And.intro (@Vt_) (And.intro (@K8_) (@aeD_))))) (And.intro (And.intro (And.intro (@K2_) (@Ve_)) (And.intro (@aeh_) (And.intro (@adG_) (@adW_)))) (And.intro (And.intro (@afh_) (And.intro (@adn_) (@aiw_))) (And.intro (@aem_) (And.intro (@adU_) (@afq_)))))))) (And.intro (And.intro (And.intro (And.intro (And.intro (And.intro (@ac5_) (@adQ_)) (And.intro (@adP_) (And.intro (@aft_) (@ac6_)))) (And.intro (And.intro (@aeW_) (@ah3_)) (And.intro (@abG_) (And.intro (@Jp_) (@aeU_))))) (And.intro (And.intro (And.intro (@K1_) (@KT_)) (And.intro (@ZY_) (And.intro (@Z5_) (@K0_)))) (And.intro (And.intro (@VE_) (And.intro (@aey_) (@X1_))) (And.intro (@Kz_) (And.intro (@acG_) (@Xl_)))))) (And.intro (And.intro (And.intro (And.intro (@XK_) (@abx_)) (And.intro (@X0_) (And.intro (@XP_) (@abS_)))) (And.intro (And.intro (@adp_) (@aeV_)) (And.intro (@adb_) (And.intro (@afy_) (@ah6_))))) (And.intro (And.intro (And.intro (@aeO_) (@kJ_)) (And.intro (@kv_) (And.intro (@ael_) (@adx_)))) (And.intro (And.intro (@adf_) (And.intro (@adi_) (@ade_))) (And.intro (@afz_) (And.intro (@ahv_) (@aa2_))))))) (And.intro (And.intro (And.intro (And.intro (And.intro (@JE_) (@afA_)) (And.intro (@Vp_) (And.intro (@Vs_) (@Z1_)))) (And.intro (And.intro (@Qa_) (@VG_)) (And.intro (@VA_) (And.intro (@afn_) (@Xy_))))) (And.intro (And.intro (And.intro (@X6_) (@abp_)) (And.intro (@KE_) (And.intro (@KF_) (@aa6_)))) (And.intro (And.intro (@KI_) (And.intro (@Ks_) (@abi_))) (And.intro (@adX_) (And.intro (@add_) (@aeH_)))))) (And.intro (And.intro (And.intro (And.intro (@ad2_) (@ahT_)) (And.intro (@aeK_) (And.intro (@aeZ_) (@ad0_)))) (And.intro (And.intro (@aek_) (@ad6_)) (And.intro (@aeA_) (And.intro (@aeb_) (@aeG_))))) (And.intro (And.intro (And.intro (@afa_) (@agT_)) (And.intro (@ab4_) (And.intro (@Jg_) (@afw_)))) (And.intro (And.intro (@Va_) (And.intro (@Vn_) (@Z9_))) (And.intro (@Qj_) (And.intro (@Vv_) (@KX_))))))))) (And.intro (And.intro (And.intro (And.intro (And.intro (And.intro (And.intro (@aeY_) (@Ka_)) (And.intro (@Kd_) (And.intro (@abv_) (@KQ_)))) (And.intro (And.intro (@XQ_) (@aca_)) (And.intro (@KO_) (And.intro (@XD_) (@abt_))))) (And.intro (And.intro (And.intro (@aiU_) (@ajL_)) (And.intro (@abw_) (And.intro (@ajn_) (@alb_)))) (And.intro (And.intro (@akI_) (And.intro (@akU_) (@ajF_))) (And.intro (@aja_) (And.intro (@aj7_) (@ajD_)))))) (And.intro (And.intro (And.intro (And.intro (@amU_) (@aqT_)) (And.intro (@acq_) (And.intro (@alg_) (@akl_)))) (And.intro (And.intro (@akh_) (@ai6_)) (And.intro (@alO_) (And.intro (@alr_) (@akq_))))) (And.intro (And.intro (And.intro (@apq_) (@alG_)) (And.intro (@apZ_) (And.intro (@acR_) (@aaV_)))) (And.intro (And.intro (@Vh_) (And.intro (@aqX_) (@ara_))) (And.intro (@am7_) (And.intro (@aho_) (@aes_))))))) (And.intro (And.intro (And.intro (And.intro (And.intro (@adH_) (@afs_)) (And.intro (@ahZ_) (And.intro (@apO_) (@apV_)))) (And.intro (And.intro (@alN_) (@ac9_)) (And.intro (@aci_) (And.intro (@acp_) (@ab7_))))) (And.intro (And.intro (And.intro (@afx_) (@apR_)) (And.intro (@ap5_) (And.intro (@alo_) (@aeC_)))) (And.intro (And.intro (@abC_) (And.intro (@ab2_) (@aby_))) (And.intro (@afj_) (And.intro (@ao2_) (@ap7_)))))) (And.intro (And.intro (And.intro (And.intro (@akW_) (@ac4_)) (And.intro (@ab0_) (And.intro (@abV_) (@abN_)))) (And.intro (And.intro (@aeN_) (@aqR_)) (And.intro (@art_) (And.intro (@amv_) (@ahr_))))) (And.intro (And.intro (And.intro (@adv_) (@adY_)) (And.intro (@aer_) (And.intro (@aha_) (@anQ_)))) (And.intro (And.intro (@amA_) (And.intro (@aab_) (@aoU_))) (And.intro (@ae1_) (And.intro (@Z7_) (@xL_)))))))) (And.intro (And.intro (And.intro (And.intro (And.intro (And.intro (@asE_) (@apD_)) (And.intro (@aq1_) (And.intro (@aq4_) (@WF_)))) (And.intro (And.intro (@Vz_) (@xT_)) (And.intro (@vq_) (And.intro (@ZW_) (@QN_))))) (And.intro (And.intro (And.intro (@wC_) (@ahl_)) (And.intro (@amD_) (And.intro (@anz_) (@aiF_)))) (And.intro (And.intro (@amC_) (And.intro (@KM_) (@ag5_))) (And.intro (@acf_) (And.intro (@aih_) (@ad1_)))))) (And.intro (And.intro (And.intro (And.intro (@amc_) (@ajh_)) (And.intro (@agn_) (And.intro (@amg_) (@alc_)))) (And.intro (And.intro (@aks_) (@aqB_)) (And.intro (@aqD_) (And.intro (@Option.map_some.{0,0}) (@Option.map_none.{0,0}))))) (And.intro (And.intro (And.intro (@WW_) (@Wx_)) (And.intro (@QS_) (And.intro (@agF_) (@aae_)))) (And.intro (And.intro (@aaI_) (And.intro (@Wz_) (@anu_))) (And.intro (@ani_) (And.intro (@or_i) (@asY_))))))) (And.intro (And.intro (And.intro (And.intro (And.intro (@Ww_) (@aaf_)) (And.intro (@Vc_) (And.intro (@zg_) (@List.cons_append.{0})))) (And.intro (And.intro (@List.nil_append.{0}) (@List.contains_cons.{0})) (And.intro (@List.contains_nil.{0}) (And.intro (@Bool.or_false) (@Bool.false_or))))) (And.intro (And.intro (And.intro (@Bool.or_true) (@Bool.true_or)) (And.intro (@Bool.false_eq_true) (And.intro (@aiW_) (@agW_)))) (And.intro (And.intro (@ahc_) (And.intro (@am8_) (@aj3_))) (And.intro (@Nat.add_sub_cancel_left) (And.intro (@List.set_set.{0}) (@Int.toNat_natCast)))))) (And.intro (And.intro (And.intro (And.intro (@Nat.mul_one) (@Nat.zero_add)) (And.intro (@Nat.add_zero) (And.intro (@ge_iff_le.{0}) (@gt_iff_lt.{0})))) (And.intro (And.intro (@beq_self_eq_true.{0}) (@asA_)) (And.intro (@asr_) (And.intro (@anh_) (@anL_))))) (And.intro (And.intro (And.intro (@arp_) (@arY_)) (And.intro (@asX_) (And.intro (@asJ_) (@asG_)))) (And.intro (And.intro (@asp_) (And.intro (@aoY_) (@aqn_))) (And.intro (@aqJ_) (And.intro (@apt_) (@apB_)))))))))
end Go.Sx
end
section
open Go Go.Proofs Go.Sx
namespace Go.Proofs
theorem Tryz.ix24:ixT Tryz.prog 24= .sl (false,1):=id (by kernel_rfl)
theorem Tryz.ix23:ixT Tryz.prog 23= .sl (true,6):=id (by kernel_rfl)
theorem Tryz.ix22:ixT Tryz.prog 22= .sl (true,3):=id (by kernel_rfl)
theorem Tryz.ix9:ixT Tryz.prog 9= .str:=id (by kernel_rfl)
theorem Tryz.ix71:ixT Tryz.prog 71= .sl (true,4):=id (by kernel_rfl)
theorem Tryz.ix72:ixT Tryz.prog 72= .sl (false,1):=id (by kernel_rfl)
theorem Tryz.ix93:ixT Tryz.prog 93= .sl (true,5):=id (by kernel_rfl)
theorem Tryz.ix94:ixT Tryz.prog 94= .sl (true,2):=id (by kernel_rfl)
theorem Tryz.ix106:ixT Tryz.prog 106= .sl (true,32):=id (by kernel_rfl)
theorem Tryz.ix131:ixT Tryz.prog 131= .arr 3 (false,1):=id (by kernel_rfl)
theorem Tryz.ix128:ixT Tryz.prog 128= .sl (false,1):=id (by kernel_rfl)
theorem Tryz.ix58:ixT Tryz.prog 58= .sl (true,2):=id (by kernel_rfl)
theorem Tryz.ix57:ixT Tryz.prog 57= .arr 3 (true,3):=id (by kernel_rfl)
theorem Tryz.ix54:ixT Tryz.prog 54= .sl (true,4):=id (by kernel_rfl)
theorem Tryz.ix53:ixT Tryz.prog 53= .sl (true,2):=id (by kernel_rfl)
theorem Tryz.ix84:ixT Tryz.prog 84= .arr 32 (false,1):=id (by kernel_rfl)
theorem Tryz.ix196:ixT Tryz.prog 196= .sl (false,1):=id (by kernel_rfl)
theorem Tryz.ix209:ixT Tryz.prog 209= .arr 4 (false,1):=id (by kernel_rfl)
theorem Tryz.ix218:ixT Tryz.prog 218= .arr 64 (false,1):=id (by kernel_rfl)
theorem Tryz.ix168:ixT Tryz.prog 168= .sl (true,34):=id (by kernel_rfl)
theorem Tryz.ix227:ixT Tryz.prog 227= .arr 8 (false,1):=id (by kernel_rfl)
theorem Tryz.ix200:ixT Tryz.prog 200= .sl (false,1):=id (by kernel_rfl)
theorem Tryz.ix236:ixT Tryz.prog 236= .arr 6 (false,1):=id (by kernel_rfl)
theorem Tryz.ix255:ixT Tryz.prog 255= .arr 8 (false,1):=id (by kernel_rfl)
theorem Tryz.ix256:ixT Tryz.prog 256= .arr 64 (false,1):=id (by kernel_rfl)
theorem Tryz.ix260:ixT Tryz.prog 260= .sl (true,3):=id (by kernel_rfl)
theorem Tryz.ix269:ixT Tryz.prog 269= .arr 4 (false,1):=id (by kernel_rfl)
theorem Tryz.ix294:ixT Tryz.prog 294= .arr 16 (false,1):=id (by kernel_rfl)
theorem Tryz.ix297:ixT Tryz.prog 297= .sl (true,2):=id (by kernel_rfl)
theorem Tryz.ag31:zZ_ Tryz.prog 31=some (true,6):=id (by kernel_rfl)
theorem Tryz.ag3:zZ_ Tryz.prog 3=some (false,1):=id (by kernel_rfl)
theorem Tryz.ag36:zZ_ Tryz.prog 36=some (true,3):=id (by kernel_rfl)
theorem Tryz.ag9:zZ_ Tryz.prog 9=some (false,1):=id (by kernel_rfl)
theorem Tryz.ag24:zZ_ Tryz.prog 24=some (false,1):=id (by kernel_rfl)
theorem Tryz.ag66:zZ_ Tryz.prog 66=some (true,4):=id (by kernel_rfl)
theorem Tryz.ag4:zZ_ Tryz.prog 4=some (false,1):=id (by kernel_rfl)
theorem Tryz.ag82:zZ_ Tryz.prog 82=some (true,2):=id (by kernel_rfl)
theorem Tryz.ag84:zZ_ Tryz.prog 84=some (true,32):=id (by kernel_rfl)
theorem Tryz.ag97:zZ_ Tryz.prog 97=some (true,5):=id (by kernel_rfl)
theorem Tryz.ag121:zZ_ Tryz.prog 121=some (false,1):=id (by kernel_rfl)
theorem Tryz.ag127:zZ_ Tryz.prog 127=some (false,1):=id (by kernel_rfl)
theorem Tryz.ag126:zZ_ Tryz.prog 126=some (true,2):=id (by kernel_rfl)
theorem Tryz.ag131:zZ_ Tryz.prog 131=some (true,3):=id (by kernel_rfl)
theorem Tryz.ag128:zZ_ Tryz.prog 128=some (false,1):=id (by kernel_rfl)
theorem Tryz.ag137:zZ_ Tryz.prog 137=some (false,1):=id (by kernel_rfl)
theorem Tryz.ag58:zZ_ Tryz.prog 58=some (false,1):=id (by kernel_rfl)
theorem Tryz.ag141:zZ_ Tryz.prog 141=some (true,2):=id (by kernel_rfl)
theorem Tryz.ag53:zZ_ Tryz.prog 53=some (false,1):=id (by kernel_rfl)
theorem Tryz.ag144:zZ_ Tryz.prog 144=some (true,2):=id (by kernel_rfl)
theorem Tryz.ag123:zZ_ Tryz.prog 123=some (true,5):=id (by kernel_rfl)
theorem Tryz.ag130:zZ_ Tryz.prog 130=some (true,3):=id (by kernel_rfl)
theorem Tryz.ag60:zZ_ Tryz.prog 60=some (true,13):=id (by kernel_rfl)
theorem Tryz.ag119:zZ_ Tryz.prog 119=some (false,1):=id (by kernel_rfl)
theorem Tryz.ag54:zZ_ Tryz.prog 54=some (false,1):=id (by kernel_rfl)
theorem Tryz.ag150:zZ_ Tryz.prog 150=some (true,4):=id (by kernel_rfl)
theorem Tryz.ag5:zZ_ Tryz.prog 5=some (false,1):=id (by kernel_rfl)
theorem Tryz.ag172:zZ_ Tryz.prog 172=some (true,34):=id (by kernel_rfl)
theorem Tryz.ag193:zZ_ Tryz.prog 193=some (true,7):=id (by kernel_rfl)
theorem Tryz.ag198:zZ_ Tryz.prog 198=some (true,5):=id (by kernel_rfl)
theorem Tryz.ag196:zZ_ Tryz.prog 196=some (false,1):=id (by kernel_rfl)
theorem Tryz.ag204:zZ_ Tryz.prog 204=some (true,2):=id (by kernel_rfl)
theorem Tryz.ag209:zZ_ Tryz.prog 209=some (true,4):=id (by kernel_rfl)
theorem Tryz.ag217:zZ_ Tryz.prog 217=some (true,3):=id (by kernel_rfl)
theorem Tryz.ag218:zZ_ Tryz.prog 218=some (true,64):=id (by kernel_rfl)
theorem Tryz.ag221:zZ_ Tryz.prog 221=some (true,34):=id (by kernel_rfl)
theorem Tryz.ag106:zZ_ Tryz.prog 106=some (false,1):=id (by kernel_rfl)
theorem Tryz.ag227:zZ_ Tryz.prog 227=some (true,8):=id (by kernel_rfl)
theorem Tryz.ag207:zZ_ Tryz.prog 207=some (false,1):=id (by kernel_rfl)
theorem Tryz.ag124:zZ_ Tryz.prog 124=some (false,1):=id (by kernel_rfl)
theorem Tryz.ag236:zZ_ Tryz.prog 236=some (true,6):=id (by kernel_rfl)
theorem Tryz.ag235:zZ_ Tryz.prog 235=some (false,1):=id (by kernel_rfl)
theorem Tryz.ag250:zZ_ Tryz.prog 250=some (true,3):=id (by kernel_rfl)
theorem Tryz.ag32:zZ_ Tryz.prog 32=some (false,1):=id (by kernel_rfl)
theorem Tryz.ag254:zZ_ Tryz.prog 254=some (true,75):=id (by kernel_rfl)
theorem Tryz.ag255:zZ_ Tryz.prog 255=some (true,8):=id (by kernel_rfl)
theorem Tryz.ag256:zZ_ Tryz.prog 256=some (true,64):=id (by kernel_rfl)
theorem Tryz.ag269:zZ_ Tryz.prog 269=some (true,4):=id (by kernel_rfl)
theorem Tryz.ag271:zZ_ Tryz.prog 271=some (true,36):=id (by kernel_rfl)
theorem Tryz.ag268:zZ_ Tryz.prog 268=some (false,1):=id (by kernel_rfl)
theorem Tryz.ag200:zZ_ Tryz.prog 200=some (false,1):=id (by kernel_rfl)
theorem Tryz.ag252:zZ_ Tryz.prog 252=some (false,1):=id (by kernel_rfl)
theorem Tryz.ag279:zZ_ Tryz.prog 279=some (true,3):=id (by kernel_rfl)
theorem Tryz.ag72:zZ_ Tryz.prog 72=some (false,1):=id (by kernel_rfl)
theorem Tryz.ag210:zZ_ Tryz.prog 210=some (false,1):=id (by kernel_rfl)
theorem Tryz.ag168:zZ_ Tryz.prog 168=some (false,1):=id (by kernel_rfl)
theorem Tryz.ag199:zZ_ Tryz.prog 199=some (false,1):=id (by kernel_rfl)
theorem Tryz.ag301:zZ_ Tryz.prog 301=some (false,1):=id (by kernel_rfl)
theorem Tryz.ag311:zZ_ Tryz.prog 311=some (true,2):=id (by kernel_rfl)
theorem Tryz.ag309:zZ_ Tryz.prog 309=some (false,1):=id (by kernel_rfl)
theorem Tryz.ag294:zZ_ Tryz.prog 294=some (true,16):=id (by kernel_rfl)
theorem Tryz.zr84:zX_ Tryz.prog 84=some (.agg (a8 (List.replicate 32 0))):=id (by kernel_rfl)
theorem Tryz.zr193:zX_ Tryz.prog 193=some (.agg #[(vs []),(vs []),(vs []),(.bool false),(vi 0),(.bool false),(.bool false)]):=id (by kernel_rfl)
theorem Tryz.zr227:zX_ Tryz.prog 227=some (.agg (a32 (List.replicate 8 0))):=id (by kernel_rfl)
theorem Tryz.zr236:zX_ Tryz.prog 236=some (.agg #[.nilFunc, .nilFunc, .nilFunc, .nilFunc, .nilFunc, .nilFunc]):=id (by kernel_rfl)
theorem Tryz.zr255:zX_ Tryz.prog 255=some (.agg (a8 (List.replicate 8 0))):=id (by kernel_rfl)
theorem Tryz.zr256:zX_ Tryz.prog 256=some (.agg (a32 (List.replicate 64 0))):=id (by kernel_rfl)
theorem Tryz.fl31_0:qL_ Tryz.prog 31 0=some (0,(false,1)):=id (by kernel_rfl)
theorem Tryz.fl36_0:qL_ Tryz.prog 36 0=some (0,(false,1)):=id (by kernel_rfl)
theorem Tryz.fl36_1:qL_ Tryz.prog 36 1=some (1,(false,1)):=id (by kernel_rfl)
theorem Tryz.fl31_2:qL_ Tryz.prog 31 2=some (2,(false,1)):=id (by kernel_rfl)
theorem Tryz.fl31_3:qL_ Tryz.prog 31 3=some (3,(false,1)):=id (by kernel_rfl)
theorem Tryz.fl31_4:qL_ Tryz.prog 31 4=some (4,(false,1)):=id (by kernel_rfl)
theorem Tryz.fl36_2:qL_ Tryz.prog 36 2=some (2,(false,1)):=id (by kernel_rfl)
theorem Tryz.fl31_1:qL_ Tryz.prog 31 1=some (1,(false,1)):=id (by kernel_rfl)
theorem Tryz.fl31_5:qL_ Tryz.prog 31 5=some (5,(false,1)):=id (by kernel_rfl)
theorem Tryz.fl60_2:qL_ Tryz.prog 60 2=some (10,(false,1)):=id (by kernel_rfl)
theorem Tryz.fl66_0:qL_ Tryz.prog 66 0=some (0,(false,1)):=id (by kernel_rfl)
theorem Tryz.fl66_1:qL_ Tryz.prog 66 1=some (1,(false,1)):=id (by kernel_rfl)
theorem Tryz.fl66_2:qL_ Tryz.prog 66 2=some (2,(false,1)):=id (by kernel_rfl)
theorem Tryz.fl66_3:qL_ Tryz.prog 66 3=some (3,(false,1)):=id (by kernel_rfl)
theorem Tryz.fl82_1:qL_ Tryz.prog 82 1=some (1,(false,1)):=id (by kernel_rfl)
theorem Tryz.fl97_2:qL_ Tryz.prog 97 2=some (2,(true,2)):=id (by kernel_rfl)
theorem Tryz.fl97_0:qL_ Tryz.prog 97 0=some (0,(false,1)):=id (by kernel_rfl)
theorem Tryz.fl97_1:qL_ Tryz.prog 97 1=some (1,(false,1)):=id (by kernel_rfl)
theorem Tryz.fl97_3:qL_ Tryz.prog 97 3=some (4,(false,1)):=id (by kernel_rfl)
theorem Tryz.fl123_0:qL_ Tryz.prog 123 0=some (0,(false,1)):=id (by kernel_rfl)
theorem Tryz.fl130_0:qL_ Tryz.prog 130 0=some (0,(false,1)):=id (by kernel_rfl)
theorem Tryz.fl126_0:qL_ Tryz.prog 126 0=some (0,(false,1)):=id (by kernel_rfl)
theorem Tryz.fl126_1:qL_ Tryz.prog 126 1=some (1,(false,1)):=id (by kernel_rfl)
theorem Tryz.fl130_2:qL_ Tryz.prog 130 2=some (2,(false,1)):=id (by kernel_rfl)
theorem Tryz.fl130_1:qL_ Tryz.prog 130 1=some (1,(false,1)):=id (by kernel_rfl)
theorem Tryz.fl123_4:qL_ Tryz.prog 123 4=some (4,(false,1)):=id (by kernel_rfl)
theorem Tryz.fl123_3:qL_ Tryz.prog 123 3=some (3,(false,1)):=id (by kernel_rfl)
theorem Tryz.fl60_1:qL_ Tryz.prog 60 1=some (9,(false,1)):=id (by kernel_rfl)
theorem Tryz.fl60_0:qL_ Tryz.prog 60 0=some (0,(true,9)):=id (by kernel_rfl)
theorem Tryz.fl56_0:qL_ Tryz.prog 56 0=some (0,(false,1)):=id (by kernel_rfl)
theorem Tryz.fl56_1:qL_ Tryz.prog 56 1=some (1,(false,1)):=id (by kernel_rfl)
theorem Tryz.fl60_4:qL_ Tryz.prog 60 4=some (12,(false,1)):=id (by kernel_rfl)
theorem Tryz.fl60_3:qL_ Tryz.prog 60 3=some (11,(false,1)):=id (by kernel_rfl)
theorem Tryz.fl56_2:qL_ Tryz.prog 56 2=some (2,(false,1)):=id (by kernel_rfl)
theorem Tryz.fl144_1:qL_ Tryz.prog 144 1=some (1,(false,1)):=id (by kernel_rfl)
theorem Tryz.fl141_0:qL_ Tryz.prog 141 0=some (0,(false,1)):=id (by kernel_rfl)
theorem Tryz.fl141_1:qL_ Tryz.prog 141 1=some (1,(false,1)):=id (by kernel_rfl)
theorem Tryz.fl150_0:qL_ Tryz.prog 150 0=some (0,(false,1)):=id (by kernel_rfl)
theorem Tryz.fl150_3:qL_ Tryz.prog 150 3=some (3,(false,1)):=id (by kernel_rfl)
theorem Tryz.fl123_2:qL_ Tryz.prog 123 2=some (2,(false,1)):=id (by kernel_rfl)
theorem Tryz.fl82_0:qL_ Tryz.prog 82 0=some (0,(false,1)):=id (by kernel_rfl)
theorem Tryz.fl144_0:qL_ Tryz.prog 144 0=some (0,(false,1)):=id (by kernel_rfl)
theorem Tryz.fl123_1:qL_ Tryz.prog 123 1=some (1,(false,1)):=id (by kernel_rfl)
theorem Tryz.fl150_1:qL_ Tryz.prog 150 1=some (1,(false,1)):=id (by kernel_rfl)
theorem Tryz.fl150_2:qL_ Tryz.prog 150 2=some (2,(false,1)):=id (by kernel_rfl)
theorem Tryz.fl198_3:qL_ Tryz.prog 198 3=some (3,(false,1)):=id (by kernel_rfl)
theorem Tryz.fl217_2:qL_ Tryz.prog 217 2=some (2,(false,1)):=id (by kernel_rfl)
theorem Tryz.fl217_1:qL_ Tryz.prog 217 1=some (1,(false,1)):=id (by kernel_rfl)
theorem Tryz.fl221_1:qL_ Tryz.prog 221 1=some (1,(false,1)):=id (by kernel_rfl)
theorem Tryz.fl221_0:qL_ Tryz.prog 221 0=some (0,(false,1)):=id (by kernel_rfl)
theorem Tryz.fl221_2:qL_ Tryz.prog 221 2=some (2,(true,32)):=id (by kernel_rfl)
theorem Tryz.fl172_0:qL_ Tryz.prog 172 0=some (0,(true,32)):=id (by kernel_rfl)
theorem Tryz.fl172_1:qL_ Tryz.prog 172 1=some (32,(false,1)):=id (by kernel_rfl)
theorem Tryz.fl172_2:qL_ Tryz.prog 172 2=some (33,(false,1)):=id (by kernel_rfl)
theorem Tryz.fl193_4:qL_ Tryz.prog 193 4=some (4,(false,1)):=id (by kernel_rfl)
theorem Tryz.fl193_3:qL_ Tryz.prog 193 3=some (3,(false,1)):=id (by kernel_rfl)
theorem Tryz.fl193_6:qL_ Tryz.prog 193 6=some (6,(false,1)):=id (by kernel_rfl)
theorem Tryz.fl193_5:qL_ Tryz.prog 193 5=some (5,(false,1)):=id (by kernel_rfl)
theorem Tryz.fl193_0:qL_ Tryz.prog 193 0=some (0,(false,1)):=id (by kernel_rfl)
theorem Tryz.fl193_1:qL_ Tryz.prog 193 1=some (1,(false,1)):=id (by kernel_rfl)
theorem Tryz.fl198_1:qL_ Tryz.prog 198 1=some (1,(false,1)):=id (by kernel_rfl)
theorem Tryz.fl198_0:qL_ Tryz.prog 198 0=some (0,(false,1)):=id (by kernel_rfl)
theorem Tryz.fl198_4:qL_ Tryz.prog 198 4=some (4,(false,1)):=id (by kernel_rfl)
theorem Tryz.fl198_2:qL_ Tryz.prog 198 2=some (2,(false,1)):=id (by kernel_rfl)
theorem Tryz.fl204_0:qL_ Tryz.prog 204 0=some (0,(true,2)):=id (by kernel_rfl)
theorem Tryz.fl250_1:qL_ Tryz.prog 250 1=some (1,(false,1)):=id (by kernel_rfl)
theorem Tryz.fl250_0:qL_ Tryz.prog 250 0=some (0,(false,1)):=id (by kernel_rfl)
theorem Tryz.fl250_2:qL_ Tryz.prog 250 2=some (2,(false,1)):=id (by kernel_rfl)
theorem Tryz.fl217_0:qL_ Tryz.prog 217 0=some (0,(false,1)):=id (by kernel_rfl)
theorem Tryz.fl202_1:qL_ Tryz.prog 202 1=some (1,(false,1)):=id (by kernel_rfl)
theorem Tryz.fl254_4:qL_ Tryz.prog 254 4=some (74,(false,1)):=id (by kernel_rfl)
theorem Tryz.fl254_3:qL_ Tryz.prog 254 3=some (73,(false,1)):=id (by kernel_rfl)
theorem Tryz.fl254_1:qL_ Tryz.prog 254 1=some (1,(true,8)):=id (by kernel_rfl)
theorem Tryz.fl279_0:qL_ Tryz.prog 279 0=some (0,(false,1)):=id (by kernel_rfl)
theorem Tryz.fl279_1:qL_ Tryz.prog 279 1=some (1,(false,1)):=id (by kernel_rfl)
theorem Tryz.fl279_2:qL_ Tryz.prog 279 2=some (2,(false,1)):=id (by kernel_rfl)
theorem Tryz.fl193_2:qL_ Tryz.prog 193 2=some (2,(false,1)):=id (by kernel_rfl)
theorem Tryz.fl271_0:qL_ Tryz.prog 271 0=some (0,(false,1)):=id (by kernel_rfl)
theorem Tryz.fl271_1:qL_ Tryz.prog 271 1=some (1,(false,1)):=id (by kernel_rfl)
theorem Tryz.fl271_2:qL_ Tryz.prog 271 2=some (2,(true,34)):=id (by kernel_rfl)
theorem Tryz.fl202_0:qL_ Tryz.prog 202 0=some (0,(false,1)):=id (by kernel_rfl)
theorem Tryz.fl254_0:qL_ Tryz.prog 254 0=some (0,(false,1)):=id (by kernel_rfl)
theorem Tryz.fl254_2:qL_ Tryz.prog 254 2=some (9,(true,64)):=id (by kernel_rfl)
theorem Tryz.fl311_0:qL_ Tryz.prog 311 0=some (0,(false,1)):=id (by kernel_rfl)
theorem Tryz.fl311_1:qL_ Tryz.prog 311 1=some (1,(false,1)):=id (by kernel_rfl)
theorem Tryz.cv5_3:cvT Tryz.prog 5 3= .int .i64:=id (by kernel_rfl)
theorem Tryz.cv3_5:cvT Tryz.prog 3 5= .int .u8:=id (by kernel_rfl)
theorem Tryz.cv119_3:cvT Tryz.prog 119 3= .int .i64:=id (by kernel_rfl)
theorem Tryz.cv207_5:cvT Tryz.prog 207 5= .int .u8:=id (by kernel_rfl)
theorem Tryz.cv200_9:cvT Tryz.prog 200 9= .bytesStr:=id (by kernel_rfl)
theorem Tryz.cv3_219:cvT Tryz.prog 3 219= .int .u64:=id (by kernel_rfl)
theorem Tryz.cv3_252:cvT Tryz.prog 3 252= .int .u64:=id (by kernel_rfl)
theorem Tryz.cv252_5:cvT Tryz.prog 252 5= .int .u8:=id (by kernel_rfl)
theorem Tryz.cv5_207:cvT Tryz.prog 5 207= .int .u32:=id (by kernel_rfl)
theorem Tryz.cv219_207:cvT Tryz.prog 219 207= .int .u32:=id (by kernel_rfl)
theorem Tryz.cv199_292:cvT Tryz.prog 199 292= .no:=id (by kernel_rfl)
theorem Tryz.cv292_199:cvT Tryz.prog 292 199= .no:=id (by kernel_rfl)
theorem Tryz.cv3_301:cvT Tryz.prog 3 301= .int .u64:=id (by kernel_rfl)
theorem Tryz.cv219_3:cvT Tryz.prog 219 3= .int .i64:=id (by kernel_rfl)
theorem Tryz.cv3_312:cvT Tryz.prog 3 312= .no:=id (by kernel_rfl)
theorem Tryz.cv312_3:cvT Tryz.prog 312 3= .no:=id (by kernel_rfl)
set_option linter.defProp false
def Tryz.fx:=And.intro (And.intro (And.intro (And.intro (And.intro (And.intro (And.intro (@Tryz.ix24) (@Tryz.ix23)) (And.intro (@Tryz.ix22) (And.intro (@Tryz.ix9) (@Tryz.ix71)))) (And.intro (And.intro (@Tryz.ix72) (And.intro (@Tryz.ix93) (@Tryz.ix94))) (And.intro (@Tryz.ix106) (And.intro (@Tryz.ix131) (@Tryz.ix128))))) (And.intro (And.intro (And.intro (@Tryz.ix58) (And.intro (@Tryz.ix57) (@Tryz.ix54))) (And.intro (@Tryz.ix53) (And.intro (@Tryz.ix84) (@Tryz.ix196)))) (And.intro (And.intro (@Tryz.ix209) (And.intro (@Tryz.ix218) (@Tryz.ix168))) (And.intro (@Tryz.ix227) (And.intro (@Tryz.ix200) (@Tryz.ix236)))))) (And.intro (And.intro (And.intro (And.intro (@Tryz.ix255) (And.intro (@Tryz.ix256) (@Tryz.ix260))) (And.intro (@Tryz.ix269) (And.intro (@Tryz.ix294) (@Tryz.ix297)))) (And.intro (And.intro (@Tryz.ag31) (And.intro (@Tryz.ag3) (@Tryz.ag36))) (And.intro (@Tryz.ag9) (And.intro (@Tryz.ag24) (@Tryz.ag66))))) (And.intro (And.intro (And.intro (@Tryz.ag4) (And.intro (@Tryz.ag82) (@Tryz.ag84))) (And.intro (@Tryz.ag97) (And.intro (@Tryz.ag121) (@Tryz.ag127)))) (And.intro (And.intro (@Tryz.ag126) (And.intro (@Tryz.ag131) (@Tryz.ag128))) (And.intro (@Tryz.ag137) (And.intro (@Tryz.ag58) (@Tryz.ag141))))))) (And.intro (And.intro (And.intro (And.intro (And.intro (@Tryz.ag53) (And.intro (@Tryz.ag144) (@Tryz.ag123))) (And.intro (@Tryz.ag130) (And.intro (@Tryz.ag60) (@Tryz.ag119)))) (And.intro (And.intro (@Tryz.ag54) (And.intro (@Tryz.ag150) (@Tryz.ag5))) (And.intro (@Tryz.ag172) (And.intro (@Tryz.ag193) (@Tryz.ag198))))) (And.intro (And.intro (And.intro (@Tryz.ag196) (And.intro (@Tryz.ag204) (@Tryz.ag209))) (And.intro (@Tryz.ag217) (And.intro (@Tryz.ag218) (@Tryz.ag221)))) (And.intro (And.intro (@Tryz.ag106) (And.intro (@Tryz.ag227) (@Tryz.ag207))) (And.intro (@Tryz.ag124) (And.intro (@Tryz.ag236) (@Tryz.ag235)))))) (And.intro (And.intro (And.intro (And.intro (@Tryz.ag250) (And.intro (@Tryz.ag32) (@Tryz.ag254))) (And.intro (@Tryz.ag255) (And.intro (@Tryz.ag256) (@Tryz.ag269)))) (And.intro (And.intro (@Tryz.ag271) (And.intro (@Tryz.ag268) (@Tryz.ag200))) (And.intro (@Tryz.ag252) (And.intro (@Tryz.ag279) (@Tryz.ag72))))) (And.intro (And.intro (And.intro (@Tryz.ag210) (And.intro (@Tryz.ag168) (@Tryz.ag199))) (And.intro (@Tryz.ag301) (And.intro (@Tryz.ag311) (@Tryz.ag309)))) (And.intro (And.intro (@Tryz.ag294) (And.intro (@Tryz.fl31_0) (@Tryz.fl36_0))) (And.intro (@Tryz.fl36_1) (And.intro (@Tryz.fl31_2) (@Tryz.fl31_3)))))))) (And.intro (And.intro (And.intro (And.intro (And.intro (And.intro (@Tryz.fl31_4) (And.intro (@Tryz.fl36_2) (@Tryz.fl31_1))) (And.intro (@Tryz.fl31_5) (And.intro (@Tryz.fl60_2) (@Tryz.fl66_0)))) (And.intro (And.intro (@Tryz.fl66_1) (And.intro (@Tryz.fl66_2) (@Tryz.fl66_3))) (And.intro (@Tryz.fl82_1) (And.intro (@Tryz.fl97_2) (@Tryz.fl97_0))))) (And.intro (And.intro (And.intro (@Tryz.fl97_1) (And.intro (@Tryz.fl97_3) (@Tryz.fl123_0))) (And.intro (@Tryz.fl130_0) (And.intro (@Tryz.fl126_0) (@Tryz.fl126_1)))) (And.intro (And.intro (@Tryz.fl130_2) (And.intro (@Tryz.fl130_1) (@Tryz.fl123_4))) (And.intro (@Tryz.fl123_3) (And.intro (@Tryz.fl60_1) (@Tryz.fl60_0)))))) (And.intro (And.intro (And.intro (And.intro (@Tryz.fl56_0) (And.intro (@Tryz.fl56_1) (@Tryz.fl60_4))) (And.intro (@Tryz.fl60_3) (And.intro (@Tryz.fl56_2) (@Tryz.fl144_1)))) (And.intro (And.intro (@Tryz.fl141_0) (And.intro (@Tryz.fl141_1) (@Tryz.fl150_0))) (And.intro (@Tryz.fl150_3) (And.intro (@Tryz.fl123_2) (@Tryz.fl82_0))))) (And.intro (And.intro (And.intro (@Tryz.fl144_0) (And.intro (@Tryz.fl123_1) (@Tryz.fl150_1))) (And.intro (@Tryz.fl150_2) (And.intro (@Tryz.fl198_3) (@Tryz.fl217_2)))) (And.intro (And.intro (@Tryz.fl217_1) (And.intro (@Tryz.fl221_1) (@Tryz.fl221_0))) (And.intro (@Tryz.fl221_2) (And.intro (@Tryz.fl172_0) (@Tryz.fl172_1))))))) (And.intro (And.intro (And.intro (And.intro (And.intro (@Tryz.fl172_2) (And.intro (@Tryz.fl193_4) (@Tryz.fl193_3))) (And.intro (@Tryz.fl193_6) (And.intro (@Tryz.fl193_5) (@Tryz.fl193_0)))) (And.intro (And.intro (@Tryz.fl193_1) (And.intro (@Tryz.fl198_1) (@Tryz.fl198_0))) (And.intro (@Tryz.fl198_4) (And.intro (@Tryz.fl198_2) (@Tryz.fl204_0))))) (And.intro (And.intro (And.intro (@Tryz.fl250_1) (And.intro (@Tryz.fl250_0) (@Tryz.fl250_2))) (And.intro (@Tryz.fl217_0) (And.intro (@Tryz.fl202_1) (@Tryz.fl254_4)))) (And.intro (And.intro (@Tryz.fl254_3) (And.intro (@Tryz.fl254_1) (@Tryz.fl279_0))) (And.intro (@Tryz.fl279_1) (And.intro (@Tryz.fl279_2) (@Tryz.fl193_2)))))) (And.intro (And.intro (And.intro (And.intro (@Tryz.fl271_0) (And.intro (@Tryz.fl271_1) (@Tryz.fl271_2))) (And.intro (@Tryz.fl202_0) (And.intro (@Tryz.fl254_0) (@Tryz.fl254_2)))) (And.intro (And.intro (@Tryz.fl311_0) (And.intro (@Tryz.fl311_1) (@Tryz.cv5_3))) (And.intro (@Tryz.cv3_5) (And.intro (@Tryz.cv119_3) (@Tryz.cv207_5))))) (And.intro (And.intro (And.intro (@Tryz.cv200_9) (And.intro (@Tryz.cv3_219) (@Tryz.cv3_252))) (And.intro (@Tryz.cv252_5) (And.intro (@Tryz.cv5_207) (@Tryz.cv219_207)))) (And.intro (And.intro (@Tryz.cv199_292) (And.intro (@Tryz.cv292_199) (@Tryz.cv3_301))) (And.intro (@Tryz.cv219_3) (And.intro (@Tryz.cv3_312) (@Tryz.cv312_3))))))))
theorem kp {X A G:Prop} (x:X) (h:G) (e:X→A=G:=by intro x;(try simp(disch:=(first|assumption|omega| (simp only[VI_,Vi_,UInt64.reduceToNat];try omega))) only[↓Sx.S0,Sx.S1,Tryz.fx,Nat.reduceAdd,Nat.reducePow,Int.reducePow,Nat.reduceBEq, ↓reduceIte,UInt8.reduceToNat,UInt16.reduceToNat,UInt32.reduceToNat,UInt64.reduceToNat,Int.reduceToNat,x]);exact rfl):A:=(e x).mpr h
section
variable {P:Program} {w0:World} {f:Fr} {L:za_} {K:ky_} {N:Fr→za_→Prop} {ops:Array Oper} {md:Md} {l:List Oper} {X G:Prop}
theorem ks {c:Code} (z:List Nat) [Sx.Steps c] (x:X) (h:G) (e:X→vcC P w0 z c f L (bsK K)=G:=by intro x;(try simp(disch:=(first|assumption|omega| (simp only[VI_,Vi_,UInt64.reduceToNat];try omega))) only[↓Sx.S0,Sx.S1,Tryz.fx,Nat.reduceAdd,Nat.reducePow,Int.reducePow,Nat.reduceBEq, ↓reduceIte,UInt8.reduceToNat,UInt16.reduceToNat,UInt32.reduceToNat,UInt64.reduceToNat,Int.reduceToNat,x]);exact rfl):Cw P w0 c f L K:=Cw.go z ((e x).mpr h)
theorem ko (x:X) (h:G) (e:X→vcL P w0 ops true md l f L (owk P w0 ops (bsN N))=G:=by intro x;(try simp(disch:=(first|assumption|omega| (simp only[VI_,Vi_,UInt64.reduceToNat];try omega))) only[↓Sx.S0,Sx.S1,Tryz.fx,Nat.reduceAdd,Nat.reducePow,Int.reducePow,Nat.reduceBEq, ↓reduceIte,UInt8.reduceToNat,UInt16.reduceToNat,UInt32.reduceToNat,UInt64.reduceToNat,Int.reduceToNat,x]);exact rfl) (he:md.eff=true:=by rfl):Ow P w0 ops md l f L N:=Ow.go he ((e x).mpr h)
theorem kq (x:X) (h:G) (e:X→vcL P w0 ops false md l f L (owk P w0 ops (bsN N))=G:=by intro x;(try simp(disch:=(first|assumption|omega| (simp only[VI_,Vi_,UInt64.reduceToNat];try omega))) only[↓Sx.S0,Sx.S1,Tryz.fx,Nat.reduceAdd,Nat.reducePow,Int.reducePow,Nat.reduceBEq, ↓reduceIte,UInt8.reduceToNat,UInt16.reduceToNat,UInt32.reduceToNat,UInt64.reduceToNat,Int.reduceToNat,x]);exact rfl):Ow P w0 ops md l f L N:=Ow.goQ ((e x).mpr h)
end
theorem ke {α:Type} {X:Prop} {a b:α} (x:X) (e:X→a=b:=by intro x;(try simp(disch:=(first|assumption|omega| (simp only[VI_,Vi_,UInt64.reduceToNat];try omega))) only[↓Sx.S0,Sx.S1,Tryz.fx,Nat.reduceAdd,Nat.reducePow,Int.reducePow,Nat.reduceBEq, ↓reduceIte,UInt8.reduceToNat,UInt16.reduceToNat,UInt32.reduceToNat,UInt64.reduceToNat,Int.reduceToNat,x]);exact rfl):a=b:=e x
theorem kn {A G:Prop} (h:G) (e:A=G:=by(try simp(disch:=(first|assumption|omega| (simp only[VI_,Vi_,UInt64.reduceToNat];try omega))) only[ZW_,QN_,List.cons_append,List.nil_append]);exact rfl):A:=e.mpr h
theorem kf {A G:Prop} (h:G) (e:A=G:=by simp only[List.size_toArray,List.length_cons,List.length_nil,Nat.reduceAdd,Nat.reduceSub,List.replicate_succ,List.replicate_zero,List.cons_append,List.nil_append];exact rfl):A:=e.mpr h
theorem kv {A G:Prop} (h:G) (e:A=G:=by simp only[qV_,pin,agk_,agD_,List.contains_cons,List.contains_nil,Nat.reduceBEq,Bool.or_false,Bool.false_or,Bool.or_true,Bool.true_or,Nat.reduceAdd, ↓reduceIte,Bool.false_eq_true];exact rfl):A:=e.mpr h
set_option maxRecDepth 10000
set_option maxHeartbeats 1000000
set_option linter.unusedSimpArgs false
theorem Xz_ (p v:Value) (E:TypeId) (n:Nat):zl_ (some (false,n)) (some (.cells #[p,v] E (0,0))) 0=some p:=(rfl)
theorem Xu_ (p v:Value) (E:TypeId) (n:Nat):zl_ (some (false,n)) (some (.cells #[p,v] E (0,0))) 1=some v:=(rfl)
theorem amG_ (p v x:Value) (E:TypeId) (hx:Value.oneCell' x=true∧x.cells= #[x]):zr_ (some (false,1)) (some (.cells #[p,v] E (0,0))) 0 x=some (.cells #[x,v] E (0,0)):=by
 simp[zr_,hx,Jv_]
theorem Xi_ (p v:Value) (b o:Nat) (E:TypeId):zr_ (some (false,1)) (some (.cells #[p,v] E (0,0))) 0 (vp b o)=some (.cells #[vp b o,v] E (0,0)):=amG_ _ _ _ _ ⟨rfl,rfl⟩
theorem nilB (b o:Nat):qD_ Tryz.prog .eql 199 (vp b o) (.pointer none)=some (.bool false):=by
 simp[qD_,eqX,qg_,qf_,Tryz.underlying199,vp]
theorem apL_:qD_ Tryz.prog .eql 199 (.pointer none) (.pointer none)=some (.bool true):=by
 simp[qD_,eqX,qg_,qf_,Tryz.underlying199]
set_option linter.defProp false
def auV_:=And.intro (And.intro (@Xz_) (@Xu_)) (And.intro (@Xi_) (And.intro (@nilB) (@apL_)))
end Go.Proofs
end
section
open Go Go.Proofs Go.Sx
namespace Go.Proofs
set_option maxRecDepth 10000
set_option maxHeartbeats 1000000
set_option linter.unusedSimpArgs false
set_option linter.defProp false
def avq_:=And.intro (And.intro (@Xz_) (@Xu_)) (And.intro (@Xi_) (And.intro (@nilB) (@apL_)))
def BldAt (b:Nat) (l:List UInt8) (X:za_):Prop:=
 ∃p v,Sx.look X b=some (.cells #[p,v] 204 (0,0))∧(p= .pointer none∨p=vp b 0)∧Buf X 5 1 v l.length (l.map v8)∧slB v≠some b
end Go.Proofs
end
section
open Go Go.Proofs Go.Sx
namespace Go.Proofs
set_option maxRecDepth 10000
set_option maxHeartbeats 1000000
set_option linter.unusedSimpArgs false
set_option linter.defProp false
def aua_:=And.intro (And.intro (@Xz_) (@Xu_)) (And.intro (@Xi_) (And.intro (@nilB) (@apL_)))
end Go.Proofs
end
section
open Go Go.Proofs Go.Sx
namespace Go.Proofs
set_option maxRecDepth 10000
set_option maxHeartbeats 1000000
set_option linter.unusedSimpArgs false
theorem nilW (b o:Nat):qD_ Tryz.prog .eql 242 (vp b o) (.pointer none)=some (.bool false):=by
 simp[qD_,eqX,qg_,qf_,Tryz.underlying242,vp]
set_option linter.defProp false
def avS_:=And.intro (@Xz_) (And.intro (@Xu_) (@nilW))
structure WG where
 g:Nat
 D:za_
def maxN:Int:=1099511627775
def KS_ (n:Nat):List UInt8:=if h:n<128 then [UInt8.ofNat n] else UInt8.ofNat (n%128+128)::KS_ (n / 128)
termination_by n
decreasing_by omega
def jg_ (n:Int):Nat:=(if(if maxN<n then maxN else n)>0 then(if maxN<n then maxN else n) else 0).toNat
def asI_ (l:List Int):List UInt8:=(l.map fun n=>KS_ (jg_ n)).flatten
theorem vo_ {n:Nat} (h:n<128):KS_ n= [UInt8.ofNat n]:=by rw[KS_];simp[h]
theorem J3_ {n:Nat} (h: ¬n<128):KS_ n=UInt8.ofNat (n%128+128)::KS_ (n / 128):=by rw[KS_];simp[h]
theorem vZ_: ∀ (k n:Nat),n<128^k→0<k→(KS_ n).length≤k
 |0,n,h,h0=>absurd h0 (by omega)
 |k+1,n,h,_=>by
  by_cases hn:n<128
  ·rw[vo_ hn];simp
  ·rw[J3_ hn]
   have hk:0<k:=by
    rcases Nat.eq_zero_or_pos k with rfl|hk
    ·simp at h;omega
    ·exact hk
   have:=vZ_ k (n / 128) (by rw[Nat.pow_succ] at h;omega) hk
   simp only[List.length_cons];omega
theorem ak9_ (n:Int):jg_ n<1099511627776:=by unfold jg_ maxN;split<;>split at* <;>omega
theorem jm_ (n:Int): (KS_ (jg_ n)).length≤6:=vZ_ 6 _ (by have:=ak9_ n;omega) (by omega)
theorem J6_ (m:Nat):UInt8.ofInt (m:Int)=UInt8.ofNat m:=by
 apply UInt8.toBitVec_inj.1
 apply BitVec.eq_of_toNat_eq
 simp[UInt8.ofInt,UInt8.ofNat]
 omega
structure NG where
 m:Nat
 pre:List UInt8
 D:za_
end Go.Proofs
end
section
open Go Go.Proofs Go.Sx
namespace Go.Proofs
set_option maxRecDepth 10000
set_option maxHeartbeats 1000000
set_option linter.unusedSimpArgs false
set_option linter.defProp false
def auz_:=And.intro (And.intro (@Xz_) (@Xu_)) (And.intro (@nilW) (And.intro (@aiF_) (@KM_)))
theorem BldAt.app {b:Nat} {l:List UInt8} {X Y:za_} (h:BldAt b l X):BldAt b l (X++Y):=by
 obtain⟨p,v,h1,h2,h3,h4⟩:=h
 exact⟨p,v,zj_ h1,h2,h3.app,h4⟩
def Q2_ (s:List UInt8):List UInt8:=KS_ (jg_ s.length)++s
def atg_ (ls:List (List UInt8)):List UInt8:=(ls.map Q2_).flatten
def idC (id:List UInt8):List Value:=id.map v8
structure IdL where
 l:List UInt8
 h:l.length=32
def J5_ (x:IdL):List Value:=x.l.map v8
def id0:IdL:=⟨List.replicate 32 0,by simp⟩
theorem aiH_ (x:IdL): (J5_ x).toArray=a8 x.l:=rfl
def idsL (ls:List IdL):List UInt8:=(ls.map IdL.l).flatten
end Go.Proofs
end
section
open Go Go.Proofs Go.Sx
namespace Go.Proofs
set_option maxRecDepth 10000
set_option maxHeartbeats 1000000
set_option linter.unusedSimpArgs false
structure Rd where
 s:List UInt8
 at_:Nat
 err:Nat
def rdC (r:Rd):Array Value:= #[vs r.s,vi r.at_,vi r.err]
theorem x6_ (s:List UInt8) (a e:Int) (E:TypeId) (n:Nat):zl_ (some (false,n)) (some (.cells #[vs s,vi a,vi e] E (0,0))) 0=some (vs s):=(rfl)
theorem kb_ (s:List UInt8) (a e:Int) (E:TypeId) (n:Nat):zl_ (some (false,n)) (some (.cells #[vs s,vi a,vi e] E (0,0))) 1=some (vi a):=(rfl)
theorem kf_ (s:List UInt8) (a e:Int) (E:TypeId) (n:Nat):zl_ (some (false,n)) (some (.cells #[vs s,vi a,vi e] E (0,0))) 2=some (vi e):=(rfl)
theorem xj_ (s:List UInt8) (a e x:Int) (E:TypeId):zr_ (some (false,1)) (some (.cells #[vs s,vi a,vi e] E (0,0))) 1 (vi x)=some (.cells #[vs s,vi x,vi e] E (0,0)):=by
 simp[zr_,Jv_,vi,Value.cells,Value.oneCell']
theorem xt_ (s:List UInt8) (a e x:Int) (E:TypeId):zr_ (some (false,1)) (some (.cells #[vs s,vi a,vi e] E (0,0))) 2 (vi x)=some (.cells #[vs s,vi a,vi x] E (0,0)):=by
 simp[zr_,Jv_,vi,Value.cells,Value.oneCell']
theorem nilR (b o:Nat):qD_ Tryz.prog .eql 210 (vp b o) (.pointer none)=some (.bool false):=by
 simp[qD_,eqX,qg_,qf_,Tryz.underlying210,vp]
theorem aqh_:qD_ Tryz.prog .eql 210 (.pointer none) (.pointer none)=some (.bool true):=by
 simp[qD_,eqX,qg_,qf_,Tryz.underlying210]
theorem aoE_ (b o:Nat):qD_ Tryz.prog .neq 210 (vp b o) (.pointer none)=some (.bool true):=by
 simp[qD_,eqX,qg_,qf_,Tryz.underlying210,vp]
theorem alM_:qD_ Tryz.prog .neq 210 (.pointer none) (.pointer none)=some (.bool false):=by
 simp[qD_,eqX,qg_,qf_,Tryz.underlying210]
set_option linter.defProp false
def auN_:=And.intro (And.intro (And.intro (@x6_) (@kb_)) (And.intro (@kf_) (@xj_))) (And.intro (And.intro (@xt_) (@nilR)) (And.intro (@aqh_) (And.intro (@aoE_) (@alM_))))
def js_ (s:List UInt8) (a:Nat) (e n:Int):List UInt8×Nat×Int:=
 if e≠0 then([],a,e) else if n<0 then([],a,2) else if(s.length:Int) - a<n then([],a,3) else((s.drop a).take n.toNat,a+n.toNat,0)
end Go.Proofs
end
section
open Go Go.Proofs Go.Sx
namespace Go.Proofs
set_option maxRecDepth 10000
set_option maxHeartbeats 8000000
set_option linter.unusedSimpArgs false
set_option linter.defProp false
def auw_:=And.intro (And.intro (And.intro (@x6_) (@kb_)) (And.intro (@kf_) (@xj_))) (And.intro (And.intro (@xt_) (@nilR)) (And.intro (@aqh_) (And.intro (@aoE_) (@alM_))))
def ji_ (most:Int):List UInt8→Nat→Nat→Except Nat (Nat×Nat)
 | [],_,_=> .error 3
 |c::r,k,n=>
  if 128≤c.toNat then(if k+1=6 then .error 4 else ji_ most r (k+1) (n+c.toNat%128*128^k))
  else if c.toNat=0∧0<k then .error 2
  else if n+c.toNat%128*128^k≤1099511627775∧((n+c.toNat%128*128^k:Nat):Int)≤most then .ok (n+c.toNat%128*128^k,k+1)
  else .error 4
def zB_ (s:List UInt8) (a:Nat) (e most:Int):Int×Nat×Int:=
 if e≠0 then(0,a,e) else match ji_ most (s.drop a) 0 0 with
  | .ok (n,k)=>(n,a+k,0)
  | .error x=>(0,a,x)
theorem akR_ {s:List UInt8} {a:Nat} {e most:Int} {n k:Nat} (he:e=0) (h:ji_ most (s.drop a) 0 0= .ok (n,k)):zB_ s a e most=((n:Int),a+k,0):=by
 unfold zB_;rw[if_neg (by simp[he]),h]
theorem vJ_ {s:List UInt8} {a:Nat} {e most:Int} {x:Nat} (he:e=0) (h:ji_ most (s.drop a) 0 0= .error x):zB_ s a e most=(0,a,(x:Int)):=by
 unfold zB_;rw[if_neg (by simp[he]),h]
structure NumS where
 more:Bool
 k:Nat
 n:Nat
 x:Nat
end Go.Proofs
end
section
open Go Go.Proofs Go.Sx
namespace Go.Proofs
set_option maxRecDepth 10000
set_option maxHeartbeats 2000000
set_option linter.unusedSimpArgs false
set_option linter.defProp false
def avl_:=And.intro (And.intro (And.intro (@x6_) (@kb_)) (And.intro (@kf_) (@xj_))) (And.intro (And.intro (@xt_) (@nilR)) (And.intro (@aqh_) (And.intro (@aoE_) (@alM_))))
theorem W9_ (most:Int): ∀ (l:List UInt8) (k n m k':Nat),ji_ most l k n= .ok (m,k')→k<k'∧k'≤k+l.length
 | [],k,n,m,k',h=>by cases h
 |c::r,k,n,m,k',h=>by
  unfold ji_ at h
  split at h
  ·split at h
   ·cases h
   ·have:=W9_ most r (k+1) _ m k' h
    simp only[List.length_cons];omega
  ·split at h
   ·cases h
   ·split at h
    ·cases h;simp only[List.length_cons];omega
    ·cases h
theorem jo_ {s:List UInt8} {a:Nat} {e most:Int} (ha:a≤s.length):a≤ (zB_ s a e most).2.1∧(zB_ s a e most).2.1≤s.length:=by
 unfold zB_
 split
 ·exact⟨Nat.le_refl _,ha⟩
 ·cases h:ji_ most (s.drop a) 0 0 with
  |error x=>exact⟨Nat.le_refl _,ha⟩
  |ok p=>
   obtain⟨n,k⟩:=p
   have:=W9_ most _ _ _ _ _ h
   rw[List.length_drop] at this
   exact⟨by show a≤a+k;omega,by show a+k≤s.length;omega⟩
theorem WM_ {s:List UInt8} {a:Nat} {e n:Int} (ha:a≤s.length):a≤ (js_ s a e n).2.1∧(js_ s a e n).2.1≤s.length:=by
 unfold js_
 split
 ·exact⟨Nat.le_refl _,ha⟩
 ·split
  ·exact⟨Nat.le_refl _,ha⟩
  ·split
   ·exact⟨Nat.le_refl _,ha⟩
   ·exact⟨by show a≤a+n.toNat;omega,by show a+n.toNat≤s.length;omega⟩
def z3_ (s:List UInt8) (a:Nat) (e most:Int):List UInt8×Nat×Int:=
 let p:=zB_ s a e most
 let q:=js_ s p.2.1 p.2.2 p.1
 if q.2.2≠0 then([],a,q.2.2) else q
def z32:List UInt8:=List.replicate 32 0
def idR (s:List UInt8) (a:Nat) (e:Int):List UInt8×Nat×Int:=
 let q:=js_ s a e 32
 (if q.1.length=32 then q.1 else z32,q.2)
theorem am0_ {s:List UInt8} {a:Nat} {e:Int} (_ha:a≤s.length): (js_ s a e 32).1= []∨(js_ s a e 32).1.length=32:=by
 unfold js_
 split
 ·exact .inl rfl
 ·split
  ·exact .inl rfl
  ·split
   ·exact .inl rfl
   ·right
    show((s.drop a).take 32).length=32
    rw[List.length_take,List.length_drop];omega
end Go.Proofs
end
section
open Go Go.Proofs Go.Sx
namespace Go.Proofs
set_option maxRecDepth 10000
set_option maxHeartbeats 4000000
set_option linter.unusedSimpArgs false
set_option linter.defProp false
def zA_:=And.intro (And.intro (And.intro (@zd_) (@v7_)) (And.intro (@v0_) (And.intro (@vN_) (@zc_)))) (And.intro (And.intro (@x6_) (@kb_)) (And.intro (@kf_) (And.intro (@xj_) (@xt_))))
theorem ZF_ (b:Nat) (s:List UInt8) (a:Nat) (e n:Int) (w:World) (ha:a≤s.length) (hs:s.length<1099511627776) (ho:w.heap[b]? =some (.cells #[vs s,vi a,vi e] 217 (0,0))):
  Rets Tryz.prog 182 #[vp b 0,vi n] w (fun v D=> ∃o,D= [(b,o)]∧v=vs (js_ s a e n).1∧o= .cells #[vs s,vi (js_ s a e n).2.1,vi (js_ s a e n).2.2] 217 (0,0)):=by
 refine Rets.enterM Tryz.func182 rfl (rs:= [.tmp 4]) Tryz.results182 Tryz.ntmps182 ho ?_
 refine kf ?_
 first|with_reducible refine ks [] @zA_ ?_|refine kp @zA_ ?_
 unfold js_
 by_cases he:e=0
 ·subst he
  rw[if_neg (fun h=>h rfl)]
  first|with_reducible refine ks [] @zA_ ?_|refine kp @zA_ ?_
  by_cases hn:n<0
  ·rw[if_pos hn]
   first|with_reducible refine ks [] @zA_ ?_|refine kp @zA_ ?_
   refine⟨_,_,_,(ke @zA_),rfl,trivial, ?_⟩
   exact⟨rfl,rfl⟩
  ·rw[if_neg hn]
   first|with_reducible refine ks [] @zA_ ?_|refine kp @zA_ ?_
   refine Cw.regionS [b] [0,1,2,5,6,7,10,3,4,8,9,11] [] (by kernel_rfl) (by kernel_rfl) (by kernel_rfl) ?_
   simp only[zu_, ↓zi_, ↓ze_, ↓zG_, ↓zF_,zf_]
   refine kq @zA_ ?_
   try with_reducible refine Ow.nil ?_
   first|with_reducible refine ks [] @zA_ ?_|refine kp @zA_ ?_
   by_cases hl: (s.length:Int) - a<n
   ·rw[if_pos hl]
    first|with_reducible refine ks [] @zA_ ?_|refine kp @zA_ ?_
    refine⟨_,_,_,(ke @zA_),rfl,trivial, ?_⟩
    exact⟨rfl,rfl⟩
   ·rw[if_neg hl]
    obtain⟨m,rfl⟩: ∃m:Nat,n=(m:Int):=⟨n.toNat,by omega⟩
    first|with_reducible refine ks [] @zA_ ?_|refine kp @zA_ ?_
    refine Cw.regionS [b] [0,1,2,4,5,6,8,9,10,12,3,7,11,13,14,15] [] (by kernel_rfl) (by kernel_rfl) (by kernel_rfl) ?_
    simp only[zu_, ↓zi_, ↓ze_, ↓zG_, ↓zF_,zf_]
    refine kq @zA_ ?_
    try with_reducible refine Ow.nil ?_
    first|with_reducible refine ks [] @zA_ ?_|refine kp @zA_ ?_
    refine⟨_,_,_,(ke @zA_),rfl,trivial, ?_⟩
    refine⟨?_, ?_⟩
    ·simp only[vr_,Int.toNat_natCast]
     rw[List.drop_take,Nat.add_sub_cancel_left]
    ·rw[Int.toNat_natCast,Int.natCast_add]
 ·rw[if_pos he]
  first|with_reducible refine ks [] @zA_ ?_|refine kp @zA_ ?_
  refine⟨_,_,_,(ke @zA_),rfl,trivial, ?_⟩
  exact⟨rfl,rfl⟩
theorem v1_ (b:Nat) (s:List UInt8) (a e:Int) (w:World) (ho:w.heap[b]? =some (.cells #[vs s,vi a,vi e] 217 (0,0))):
  Rets Tryz.prog 145 #[vp b 0] w (fun v D=>v=vi (if e≠0 then e else if a<s.length then 5 else 0)∧D= []):=by
 refine Rets.enterV Tryz.func145 rfl (rs:= [.tmp 2]) Tryz.results145 Tryz.ntmps145 ?_
 refine kf ?_
 first|with_reducible refine ks [] (And.intro @zA_ @ho) ?_|refine kp (And.intro @zA_ @ho) ?_
 by_cases he:e=0
 ·first|with_reducible refine ks [] @zA_ ?_|refine kp @zA_ ?_
  refine Cw.regionS [b] [0,1,2,4,5,6,3,7,8,9] [] (by kernel_rfl) (by kernel_rfl) (by kernel_rfl) ?_
  simp only[zu_, ↓zi_, ↓ze_, ↓zG_, ↓zF_,zf_]
  refine kq (And.intro @zA_ @ho) ?_
  try with_reducible refine Ow.nil ?_
  first|with_reducible refine ks [] @zA_ ?_|refine kp @zA_ ?_
  refine cdC.splitp (fun hc=> ?_) (fun hc=> ?_)
  ·first|with_reducible refine ks [] @zA_ ?_|refine kp @zA_ ?_
   refine⟨_,(ke @zA_),trivial, ?_⟩
   simp[hc,he,vr_]
  ·first|with_reducible refine ks [] @zA_ ?_|refine kp @zA_ ?_
   refine⟨_,(ke @zA_),trivial, ?_⟩
   simp[hc,he,vr_]
 ·first|with_reducible refine ks [] (And.intro @zA_ @ho) ?_|refine kp (And.intro @zA_ @ho) ?_
  refine⟨_,(ke @zA_),trivial, ?_⟩
  simp[he,vr_]
structure KN where
 k:Nat
 n:Nat
theorem xG_ (b:Nat) (s:List UInt8) (a:Nat) (e most:Int) (w:World) (ha:a≤s.length) (hs:s.length<1099511627776) (ho:w.heap[b]? =some (.cells #[vs s,vi a,vi e] 217 (0,0))):
  Rets Tryz.prog 146 #[vp b 0,vi most] w (fun v D=> ∃o,D= [(b,o)]∧v=vi (zB_ s a e most).1∧o= .cells #[vs s,vi (zB_ s a e most).2.1,vi (zB_ s a e most).2.2] 217 (0,0)):=by
 refine Rets.enterM Tryz.func146 rfl (rs:= [.tmp 4]) Tryz.results146 Tryz.ntmps146 ho ?_
 refine kf ?_
 first|with_reducible refine ks [] @zA_ ?_|refine kp @zA_ ?_
 by_cases he:e=0
 ·subst he
  first|with_reducible refine ks [] @zA_ ?_|refine kp @zA_ ?_
  refine Cw.loopG (G:=KN) [14,15,18,19,20,21,22,23,24,25,26,27,28,29,30,31,32,4,33,34,35,36,37,38,39,40,41,42,43,44,8,45,46,47,48,49,50,5,51,52,6,53,54,55,56,57,58,59,60,61,62,63,64,65,66,67,68,69,70,71,72,73,74,75,76,77,78,79,80,81,82,83,84,16,17,7] (fun g=> [(5,vi g.n),(6,vi (128^g.k:Nat)),(7,vi g.k)]) (fun g=> [(b, .cells #[vs s,vi a,vi 0] 217 (0,0))]) (fun g=>g.k≤6∧(g.k<6→ji_ most (s.drop a) 0 0=ji_ most (s.drop (a+g.k)) g.k g.n∧a+g.k≤s.length∧g.n<128^g.k)∧(g.k=6→ji_ most (s.drop a) 0 0= .error 4)) (fun g=>6 - g.k) ⟨0,0⟩ rfl rfl ?_ ?_
  ·exact⟨by simp,fun _=>⟨rfl,by simpa using ha,by simp⟩,fun h=>by cases h⟩
  intro g j hg
  refine kv ?_
  obtain⟨k,n⟩:=g
  simp only at hg ⊢
  obtain⟨hk6,hg1,hg2⟩:=hg
  by_cases hk:k<6
  ·obtain⟨hgo,hak,hn⟩:=hg1 hk
   first|with_reducible refine ks [] @zA_ ?_|refine kp @zA_ ?_
   refine Cw.regionS [b] [0,1,2,4,6,7,8,3,5,9,10,11] [] (by kernel_rfl) (by kernel_rfl) (by kernel_rfl) ?_
   simp only[zu_, ↓zi_, ↓ze_, ↓zG_, ↓zF_,zf_]
   refine kq @zA_ ?_
   try with_reducible refine Ow.nil ?_
   first|with_reducible refine ks [] @zA_ ?_|refine kp @zA_ ?_
   by_cases hend:a+k=s.length
   ·first|with_reducible refine ks [] @zA_ ?_|refine kp @zA_ ?_
    rw[vJ_ (x:=3) rfl (by rw[hgo,hend,List.drop_length];rfl)]
    refine⟨_,_,_,(ke @zA_),rfl,trivial, ?_⟩
    exact⟨rfl,rfl⟩
   ·have hak':a+k<s.length:=by omega
    have hdrop:s.drop (a+k)=s.getD (a+k) 0::s.drop (a+k+1):=by
     rw[List.drop_eq_getElem_cons hak',List.getD_eq_getElem?_getD,List.getElem?_eq_getElem hak'];rfl
    rw[hdrop] at hgo
    first|with_reducible refine ks [] @zA_ ?_|refine kp @zA_ ?_
    refine Cw.regionS [b] [0,1,2,4,5,6,8,3,7,9,10,11,12] [] (by kernel_rfl) (by kernel_rfl) (by kernel_rfl) ?_
    simp only[zu_, ↓zi_, ↓ze_, ↓zG_, ↓zF_,zf_]
    have hcast: ((a:Int)+ (k:Int))=((a+k:Nat):Int):=by omega
    refine kq (And.intro @zA_ @hcast) ?_
    try with_reducible refine Ow.nil ?_
    generalize s.getD (a+k) 0=c at*
    have hp:128^k≤34359738368:=Nat.pow_le_pow_right (by omega) (show k≤5 by omega)
    have hp0:0<128^k:=Nat.pow_pos (by omega)
    have hcl:=c.toNat_lt
    have hdm:c.toNat%128*128^k≤127*128^k:=Nat.mul_le_mul_right _ (by omega)
    have hcm: ((c.toNat:Int)%128)=((c.toNat%128:Nat):Int):=by omega
    have hmul:zn_ .mul (vi ((c.toNat%128:Nat):Int)) (vi ((128^k:Nat):Int))=some (vi ((c.toNat%128*128^k:Nat):Int)):=by
     rw[abw_ _ _ (by rw[←Int.natCast_mul];omega),←Int.natCast_mul]
    have hpow: (((128^k:Nat):Int)*128)=((128^ (k+1):Nat):Int):=by rw[Nat.pow_succ,Int.natCast_mul];rfl
    have hlt:n+c.toNat%128*128^k<128^ (k+1):=by rw[Nat.pow_succ];omega
    first|with_reducible refine ks [] (And.intro @zA_ (And.intro @hcm (And.intro @hmul (@hpow)))) ?_|refine kp (And.intro @zA_ (And.intro @hcm (And.intro @hmul (@hpow)))) ?_
    rw[show((n:Int)+ ((c.toNat%128*128^k:Nat):Int))=((n+c.toNat%128*128^k:Nat):Int) from(Int.natCast_add _ _).symm]
    by_cases hc128:128≤c.toNat
    ·first|with_reducible refine ks [] @zA_ ?_|refine kp @zA_ ?_
     refine Again.mk (KN.mk (k+1) (n+c.toNat%128*128^k)) (by show 6 - (k+1)<6 - k;omega) ⟨by show k+1≤6;omega,fun h=>⟨?_,by show a+ (k+1)≤s.length;omega,hlt⟩,fun h=> ?_⟩ rfl rfl
     ·show ji_ most (s.drop a) 0 0=ji_ most (s.drop (a+ (k+1))) (k+1) (n+c.toNat%128*128^k)
      have h':k+1<6:=h
      rw[hgo,ji_,if_pos hc128,if_neg (by omega)]
      rfl
     ·have h':k+1=6:=h
      rw[hgo,ji_,if_pos hc128,if_pos h']
    ·by_cases hz:c.toNat=0
     ·have e0: ((c.toNat:Int)==0)=true:=by simp[hz]
      first|with_reducible refine ks [] (And.intro @zA_ @e0) ?_|refine kp (And.intro @zA_ @e0) ?_
      by_cases hk0:0<k
      ·first|with_reducible refine ks [] @zA_ ?_|refine kp @zA_ ?_
       rw[vJ_ (x:=2) rfl (by rw[hgo,ji_,if_neg hc128,if_pos ⟨hz,hk0⟩])]
       refine⟨_,_,_,(ke @zA_),rfl,trivial, ?_⟩
       exact⟨rfl,rfl⟩
      ·have hc0: ¬ (c.toNat=0∧0<k):=fun h=>hk0 h.2
       first|with_reducible refine ks [] @zA_ ?_|refine kp @zA_ ?_
       by_cases hm:n+c.toNat%128*128^k≤1099511627775
       ·have e1:decide ((1099511627775:Int)< ((n+c.toNat%128*128^k:Nat):Int))=false:=decide_eq_false (by omega)
        first|with_reducible refine ks [] (And.intro @zA_ @e1) ?_|refine kp (And.intro @zA_ @e1) ?_
        by_cases hmo: ((n+c.toNat%128*128^k:Nat):Int)≤most
        ·first|with_reducible refine ks [] @zA_ ?_|refine kp @zA_ ?_
         rw[akR_ rfl (by rw[hgo,ji_,if_neg hc128,if_neg hc0,if_pos ⟨hm,hmo⟩])]
         refine⟨_,_,_,(ke @zA_),rfl,trivial, ?_⟩
         exact⟨rfl,rfl⟩
        ·first|with_reducible refine ks [] @zA_ ?_|refine kp @zA_ ?_
         rw[vJ_ (x:=4) rfl (by rw[hgo,ji_,if_neg hc128,if_neg hc0,if_neg (fun h=>hmo h.2)])]
         refine⟨_,_,_,(ke @zA_),rfl,trivial, ?_⟩
         exact⟨rfl,rfl⟩
       ·have e1:decide ((1099511627775:Int)< ((n+c.toNat%128*128^k:Nat):Int))=true:=decide_eq_true (by omega)
        first|with_reducible refine ks [] (And.intro @zA_ @e1) ?_|refine kp (And.intro @zA_ @e1) ?_
        rw[vJ_ (x:=4) rfl (by rw[hgo,ji_,if_neg hc128,if_neg hc0,if_neg (fun h=>hm h.1)])]
        refine⟨_,_,_,(ke @zA_),rfl,trivial, ?_⟩
        exact⟨rfl,rfl⟩
     ·have e0: ((c.toNat:Int)==0)=false:=by simp;omega
      have hc0: ¬ (c.toNat=0∧0<k):=fun h=>hz h.1
      first|with_reducible refine ks [] (And.intro @zA_ @e0) ?_|refine kp (And.intro @zA_ @e0) ?_
      by_cases hm:n+c.toNat%128*128^k≤1099511627775
      ·have e1:decide ((1099511627775:Int)< ((n+c.toNat%128*128^k:Nat):Int))=false:=decide_eq_false (by omega)
       first|with_reducible refine ks [] (And.intro @zA_ @e1) ?_|refine kp (And.intro @zA_ @e1) ?_
       by_cases hmo: ((n+c.toNat%128*128^k:Nat):Int)≤most
       ·first|with_reducible refine ks [] @zA_ ?_|refine kp @zA_ ?_
        rw[akR_ rfl (by rw[hgo,ji_,if_neg hc128,if_neg hc0,if_pos ⟨hm,hmo⟩])]
        refine⟨_,_,_,(ke @zA_),rfl,trivial, ?_⟩
        exact⟨rfl,rfl⟩
       ·first|with_reducible refine ks [] @zA_ ?_|refine kp @zA_ ?_
        rw[vJ_ (x:=4) rfl (by rw[hgo,ji_,if_neg hc128,if_neg hc0,if_neg (fun h=>hmo h.2)])]
        refine⟨_,_,_,(ke @zA_),rfl,trivial, ?_⟩
        exact⟨rfl,rfl⟩
      ·have e1:decide ((1099511627775:Int)< ((n+c.toNat%128*128^k:Nat):Int))=true:=decide_eq_true (by omega)
       first|with_reducible refine ks [] (And.intro @zA_ @e1) ?_|refine kp (And.intro @zA_ @e1) ?_
       rw[vJ_ (x:=4) rfl (by rw[hgo,ji_,if_neg hc128,if_neg hc0,if_neg (fun h=>hm h.1)])]
       refine⟨_,_,_,(ke @zA_),rfl,trivial, ?_⟩
       exact⟨rfl,rfl⟩
  ·have hke:k=6:=by omega
   first|with_reducible refine ks [] @zA_ ?_|refine kp @zA_ ?_
   rw[vJ_ (x:=4) rfl (hg2 hke)]
   refine⟨_,_,_,(ke @zA_),rfl,trivial, ?_⟩
   exact⟨rfl,rfl⟩
 ·first|with_reducible refine ks [] @zA_ ?_|refine kp @zA_ ?_
  unfold zB_
  refine⟨_,_,_,(ke @zA_),rfl,trivial, ?_⟩
  simp[he,vr_]
end Go.Proofs
end
section
open Go Go.Proofs Go.Sx
namespace Go.Proofs
set_option maxRecDepth 10000
set_option maxHeartbeats 4000000
set_option linter.unusedSimpArgs false
set_option linter.defProp false
def jw_:=And.intro (And.intro (And.intro (@zd_) (@v7_)) (And.intro (@v0_) (And.intro (@vN_) (@zc_)))) (And.intro (And.intro (@x6_) (@kb_)) (And.intro (@kf_) (And.intro (@xj_) (@xt_))))
theorem k1_ (b:Nat) (s:List UInt8) (a:Nat) (e most:Int) (w:World) (ha:a≤s.length) (hs:s.length<1099511627776) (ho:w.heap[b]? =some (.cells #[vs s,vi a,vi e] 217 (0,0))):
  Rets Tryz.prog 144 #[vp b 0,vi most] w (fun v D=> ∃o,D= [(b,o)]∧v=vs (z3_ s a e most).1∧o= .cells #[vs s,vi (z3_ s a e most).2.1,vi (z3_ s a e most).2.2] 217 (0,0)):=by
 refine Rets.enterM Tryz.func144 rfl (rs:= [.tmp 4]) Tryz.results144 Tryz.ntmps144 ho ?_
 refine kf ?_
 first|with_reducible refine ks [] @jw_ ?_|refine kp @jw_ ?_
 by_cases he:e=0
 ·first|with_reducible refine ks [] @jw_ ?_|refine kp @jw_ ?_
  have hp:=jo_ (e:=e) (most:=most) ha
  unfold z3_
  refine Ow.callM rfl rfl Tryz.call146 (by simp[keys]) (fun w' hw'=>xG_ b s a e most w' ha hs (hw'.has _ _ List.mem_cons_self)) ?_
  generalize zB_ s a e most=p at*
  obtain⟨n,a1,e1⟩:=p
  simp only at hp ⊢
  refine ko @jw_ ?_
  first|with_reducible refine ks [] @jw_ ?_|refine kp @jw_ ?_
  refine Ow.callM rfl rfl Tryz.call182 (by simp[keys]) (fun w' hw'=>ZF_ b s a1 e1 n w' hp.2 hs (hw'.has _ _ List.mem_cons_self)) ?_
  generalize js_ s a1 e1 n=q at*
  obtain⟨t,a2,e2⟩:=q
  simp only
  refine ko @jw_ ?_
  first|with_reducible refine ks [] @jw_ ?_|refine kp @jw_ ?_
  by_cases he2:e2=0
  ·first|with_reducible refine ks [] @jw_ ?_|refine kp @jw_ ?_
   refine⟨_,_,_,(ke @jw_),rfl,trivial, ?_⟩
   simp[he2,vr_]
  ·first|with_reducible refine ks [] @jw_ ?_|refine kp @jw_ ?_
   refine⟨_,_,_,(ke @jw_),rfl,trivial, ?_⟩
   simp[he2,vr_]
 ·first|with_reducible refine ks [] @jw_ ?_|refine kp @jw_ ?_
  have:z3_ s a e most=([],a,e):=by
   unfold z3_ zB_ js_
   simp[he]
  rw[this]
  refine⟨_,_,_,(ke @jw_),rfl,trivial, ?_⟩
  exact⟨rfl,rfl⟩
def W0_ (t:List UInt8) (g:Nat):List UInt8:=t.take g++List.replicate (32 - g) 0
theorem ak1_ (t:List UInt8) (g:Nat) (h:g≤t.length) (h2:t.length≤32): (W0_ t g).length=32:=by
 unfold W0_;rw[List.length_append,List.length_take,List.length_replicate];omega
theorem ahV_ (t:List UInt8) (g:Nat) (h:g<t.length) (h2:t.length≤32): (W0_ t g).set g (t.getD g 0)=W0_ t (g+1):=by
 unfold W0_
 have hl: (t.take g).length=g:=by rw[List.length_take];omega
 obtain⟨m,hm⟩: ∃m,32 - g=m+1:=⟨31 - g,by omega⟩
 rw[hm,List.replicate_succ,List.set_append_right _ _ (by omega),hl,Nat.sub_self,List.set_cons_zero,List.take_succ_eq_append_getElem h,List.getD_eq_getElem?_getD,List.getElem?_eq_getElem h,show 32 - (g+1)=m by omega,List.append_assoc]
 rfl
theorem aiS_ (t:List UInt8) (h:t= []∨t.length=32):W0_ t t.length=(if t.length=32 then t else z32):=by
 unfold W0_
 rcases h with rfl|h
 ·rfl
 ·rw[if_pos h,h,List.take_of_length_le (by omega)];simp
theorem Q8_ (b:Nat) (s:List UInt8) (a:Nat) (e:Int) (w:World) (ha:a≤s.length) (hs:s.length<1099511627776) (ho:w.heap[b]? =some (.cells #[vs s,vi a,vi e] 217 (0,0))):
  Rets Tryz.prog 147 #[vp b 0] w (fun v D=> ∃o,D= [(b,o)]∧v= .agg (a8 (idR s a e).1)∧o= .cells #[vs s,vi (idR s a e).2.1,vi (idR s a e).2.2] 217 (0,0)):=by
 have hbl:=(Array.getElem?_eq_some_iff.1 ho).1
 have hq:=am0_ (e:=e) ha
 unfold idR
 refine Rets.enterM Tryz.func147 rfl (rs:= [.cell 2 84]) Tryz.results147 Tryz.ntmps147 ho ?_
 refine kf ?_
 first|with_reducible refine ks [] @jw_ ?_|refine kp @jw_ ?_
 refine Ow.alloc rfl rfl Tryz.zr84 fun b2 hb2 hw2=> ?_
 obtain⟨h12,-⟩:=hb2
 refine ko @jw_ ?_
 first|with_reducible refine ks [] @jw_ ?_|refine kp @jw_ ?_
 refine Ow.callM rfl rfl Tryz.call182 (by simp[keys]) (fun w' hw'=>ZF_ b s a e 32 w' ha hs (hw'.has _ _ List.mem_cons_self)) ?_
 generalize js_ s a e 32=q at*
 obtain⟨t,a2,e2⟩:=q
 simp only at hq ⊢
 have ht32:t.length≤32:=by rcases hq with rfl|h<;>simp_all
 refine ko @jw_ ?_
 first|with_reducible refine ks [] @jw_ ?_|refine kp @jw_ ?_
 refine Ow.alloc rfl rfl Tryz.zr84 fun b3 hb3 hw3=> ?_
 refine ko @jw_ ?_
 obtain⟨h13,h23,-⟩:=hb3
 rw[show a8 (List.replicate 32 0)=a8 (W0_ t 0) from rfl]
 first|with_reducible refine ks [] @jw_ ?_|refine kp @jw_ ?_
 refine Cw.loopG (G:=Nat) [8,9,10,11,14,15,16,17,18,12,13,5] (fun g=> [(5,vi g)]) (fun g=> [(b, .cells #[vs s,vi a2,vi e2] 217 (0,0)),(b2, .cells (a8 z32) 84 (0,0)),(b3, .cells (a8 (W0_ t g)) 84 (0,0))]) (fun g=>g≤t.length) (fun g=>t.length - g) 0 rfl rfl ?_ ?_
 ·omega
 intro g j hg
 refine kv ?_
 by_cases hlt:g<t.length
 ·have hil:=ak1_ t g hg ht32
  first|with_reducible refine ks [] @jw_ ?_|refine kp @jw_ ?_
  refine Again.mk (g+1) (by omega) (by omega) ?_ rfl
  rw[ahV_ t g hlt ht32]
 ·obtain rfl:g=t.length:=by omega
  rw[aiS_ t hq]
  have hil: (if t.length=32 then t else z32).length=32:=by
   split
   ·assumption
   ·simp[z32]
  have hz32:z32.length=32:=by simp[z32]
  generalize (if t.length=32 then t else z32)=id at*
  first|with_reducible refine ks [] @jw_ ?_|refine kp @jw_ ?_
  refine⟨_,_,_,(ke @jw_),rfl,⟨hw2,hw3,trivial⟩, ?_⟩
  exact⟨rfl,rfl⟩
end Go.Proofs
end
section
open Go Go.Proofs Go.Sx Go.StP
namespace Go.Proofs
set_option maxRecDepth 10000
set_option maxHeartbeats 4000000
set_option linter.unusedSimpArgs false
structure EntL where
 name:List UInt8
 kind:Int
 id:IdL
def jX_ (r:EntL):List Value:= [vs r.name]++ ([vi r.kind]++ (r.id.l.map v8))
def x2_:EntL:=⟨[],0,id0⟩
theorem xe_ (r:EntL): (jX_ r).length=34:=by simp[jX_,r.id.h]
theorem qv_ (r:EntL):Value.cells (.agg (jX_ r).toArray)=(jX_ r).toArray:=zg_ _
theorem W2_ (r:EntL): (jX_ r).all Value.oneCell'=true:=by
 unfold jX_
 simp only[List.all_append,List.all_cons,List.all_nil,ZU_,Bool.and_true,Bool.true_and]
 rfl
theorem amt_:zX_ Tryz.prog 221=some (.agg (jX_ x2_).toArray):=id (by kernel_rfl)
theorem an9_:zZ_ Tryz.prog 221=some (true,34):=id (by kernel_rfl)
theorem XT_ (r:EntL):jX_ r=([]:List Value)++ (([vs r.name])++ ([vi r.kind]++ (r.id.l.map v8))):=by
 unfold jX_;simp only[List.append_assoc,List.nil_append,List.append_nil]
theorem arg_ (r:EntL):Sx.partV (false,1) (jX_ r).toArray 0=some (vs r.name):=by
 rw[XT_];exact QA_ _ _ _ (by simp)
theorem kt_ (r:EntL) (n:Nat) (E:TypeId) (fz:Nat×Nat):zl_ (some (false,n)) (some (.cells (jX_ r).toArray E fz)) 0=some (vs r.name):=by
 rw[XT_];exact z1_ _ _ _ n E fz (by simp)
theorem W1_ {w:World} {v:Value} {l:List EntL} {b off:Nat} {arr:Array Value} {E:TypeId} {fz:Nat×Nat} (h:RowS 34 jX_ x2_ w v l b off arr E fz) {k:Nat} (hk:k<l.length) (n:Nat):zl_ (some (false,n)) (some (.cells arr E fz)) (off+k*34+0)=some (vs (l.getD k x2_).name):=by
 rw[RowS.cell h hk (by omega)];generalize l.getD k x2_=r;rw[XT_];exact Qd_ _ _ _ (by simp)
theorem VV_ (r:EntL) (x:List UInt8) (a:Bool) (E:TypeId):zr_ (some (a,1)) (some (.cells (jX_ r).toArray E (0,0))) 0 (vs x)=some (.cells (jX_ {r with name:=x}).toArray E (0,0)):=by
 rw[XT_ r,XT_ {r with name:=x}];exact zN_ _ _ _ _ a _ E (by simp) rfl (rfl) rfl (rfl)
theorem X3_ (r:EntL):jX_ r=(([vs r.name]))++ (([vi r.kind])++ (r.id.l.map v8)):=by
 unfold jX_;simp only[List.append_assoc,List.nil_append,List.append_nil]
theorem arc_ (r:EntL):Sx.partV (false,1) (jX_ r).toArray 1=some (vi r.kind):=by
 rw[X3_];exact QA_ _ _ _ (by simp)
theorem vz_ (r:EntL) (n:Nat) (E:TypeId) (fz:Nat×Nat):zl_ (some (false,n)) (some (.cells (jX_ r).toArray E fz)) 1=some (vi r.kind):=by
 rw[X3_];exact z1_ _ _ _ n E fz (by simp)
theorem agE_ {w:World} {v:Value} {l:List EntL} {b off:Nat} {arr:Array Value} {E:TypeId} {fz:Nat×Nat} (h:RowS 34 jX_ x2_ w v l b off arr E fz) {k:Nat} (hk:k<l.length) (n:Nat):zl_ (some (false,n)) (some (.cells arr E fz)) (off+k*34+1)=some (vi (l.getD k x2_).kind):=by
 rw[RowS.cell h hk (by omega)];generalize l.getD k x2_=r;rw[X3_];exact Qd_ _ _ _ (by simp)
theorem VJ_ (r:EntL) (x:Int) (a:Bool) (E:TypeId):zr_ (some (a,1)) (some (.cells (jX_ r).toArray E (0,0))) 1 (vi x)=some (.cells (jX_ {r with kind:=x}).toArray E (0,0)):=by
 rw[X3_ r,X3_ {r with kind:=x}];exact zN_ _ _ _ _ a _ E (by simp) rfl (rfl) rfl (rfl)
theorem Kc_ (r:EntL):jX_ r=(([vs r.name])++ ([vi r.kind]))++ ((r.id.l.map v8)++ (([]:List Value))):=by
 unfold jX_;simp only[List.append_assoc,List.nil_append,List.append_nil]
theorem aqO_ (r:EntL):Sx.partV (true,32) (jX_ r).toArray 2=some (Value.agg (a8 r.id.l)):=by
 rw[Kc_,amx_ _ _ _ (by simp) (by simp[r.id.h])];rfl
theorem vs_ (r:EntL) (E:TypeId) (fz:Nat×Nat):zl_ (some (true,32)) (some (.cells (jX_ r).toArray E fz)) 2=some (Value.agg (a8 r.id.l)):=by
 rw[Kc_,v9_ _ _ _ E fz (by simp) (by simp[r.id.h])];rfl
theorem aqY_ (r:EntL): (jX_ r).toArray.extract 2 34=a8 r.id.l:=by
 rw[Kc_];exact adF_ (o:=2) (n:=32) _ _ _ (by simp) (by simp[r.id.h])
theorem amp_ {w:World} {v:Value} {l:List EntL} {b off:Nat} {arr:Array Value} {E:TypeId} {fz:Nat×Nat} (h:RowS 34 jX_ x2_ w v l b off arr E fz) {k:Nat} (hk:k<l.length):zl_ (some (true,32)) (some (.cells arr E fz)) (off+k*34+2)=some (Value.agg (a8 (l.getD k x2_).id.l)):=by
 rw[RowS.part h xe_ hk (by omega) (by omega),aqY_]
theorem Wg_ (r:EntL) (x:IdL) (a:Bool) (E:TypeId):zr_ (some (a,32)) (some (.cells (jX_ r).toArray E (0,0))) 2 (Value.agg (a8 x.l))=some (.cells (jX_ {r with id:=x}).toArray E (0,0)):=by
 rw[Kc_ r,Kc_ {r with id:=x}];exact zN_ _ _ _ _ a _ E (by simp) (by simp[r.id.h]) (zg_ _) (by simp[x.h]) (ZU_ _)
theorem jp_ (r:EntL) (E:TypeId) (fz:Nat×Nat):zl_ (some (true,34)) (some (.cells (jX_ r).toArray E fz)) 0=some (.agg (jX_ r).toArray):=xk_ _ E fz 34 (by rw[List.size_toArray,xe_])
theorem ai1_ (old:Array Value) (r:EntL) (a:Bool) (E:TypeId) (h:old.size=34):zr_ (some (a,34)) (some (.cells old E (0,0))) 0 (.agg (jX_ r).toArray)=some (.cells (jX_ r).toArray E (0,0)):=j0_ _ a old E (xe_ r) (W2_ r) h
theorem qn_ (r r':EntL) (a:Bool) (E:TypeId):zr_ (some (a,34)) (some (.cells (jX_ r').toArray E (0,0))) 0 (.agg (jX_ r).toArray)=some (.cells (jX_ r).toArray E (0,0)):=ai1_ _ r a E (by rw[List.size_toArray,xe_])
theorem anC_:Tryz.prog.stoodInHeld 221=false:=by kernel_rfl
theorem am6_:Tryz.prog.eqGuardType Tryz.prog.depth 221=false:=by kernel_rfl
theorem arm_ (r r':EntL):eqD Tryz.prog 8 221 (.agg (jX_ r).toArray) (.agg (jX_ r').toArray)=some ((r.name==r'.name)&& (r.kind==r'.kind)&& (r.id.l==r'.id.l)):=by
 have hs: ∀ (a b:List UInt8),eqD Tryz.prog 7 9 (vs a) (vs b)=some (a==b):=by
  intro a b;unfold eqD;rw[Tryz.underlying9];simp only[vs,Kw_]
 have hi: ∀ (a b:Int),eqD Tryz.prog 7 3 (vi a) (vi b)=some (a==b):=by
  intro a b;unfold eqD;rw[Tryz.underlying3];rfl
 have hd: ∀ (a b:IdL),eqD Tryz.prog 7 84 (.agg (a8 a.l)) (.agg (a8 b.l))=some (a.l==b.l):=fun a b=>afS_ (d:=5) Tryz.underlying84 Tryz.underlying5 Tryz.ag5 _ _ a.h b.h
 have ags:zZ_ Tryz.prog 9=some (false,1):=id (by kernel_rfl)
 have agi:zZ_ Tryz.prog 3=some (false,1):=id (by kernel_rfl)
 have agd:zZ_ Tryz.prog 84=some (true,32):=id (by kernel_rfl)
 unfold eqD
 rw[Tryz.underlying221]
 simp only
 rw[anC_]
 simp only[Bool.false_eq_true, ↓reduceIte,xN_,kx_,ags,agi,agd,arg_,arc_,aqO_,hs,hi,hd]
 cases(r.name==r'.name)<;>cases(r.kind==r'.kind)<;>cases(r.id.l==r'.id.l)<;>simp
theorem asq_ (r r':EntL):qD_ Tryz.prog .neq 221 (.agg (jX_ r).toArray) (.agg (jX_ r').toArray)=some (.bool (!((r.name==r'.name)&& (r.kind==r'.kind)&& (r.id.l==r'.id.l)))):=by
 unfold qD_ eqX;rw[am6_];simp[qg_,arm_]
def cmpS (a b:List UInt8):Int:=if ltB a b then -1 else if ltB b a then 1 else 0
theorem aqd_ (a b:List UInt8): (!(Op.bytesLess a b||a==b))=ltB b a:=by
 cases h:ltB a b
 ·have h':Op.bytesLess a b=false:=h
  rw[h',Bool.false_or]
  by_cases e:a=b
  ·subst e;rw[h];simp
  ·rw[Qg_ h e];simp[e]
 ·have h':Op.bytesLess a b=true:=h
  rw[h',aj1_ h];rfl
set_option linter.defProp false
def avK_:=And.intro (@kt_) (@qv_)
def cmpE (a b:EntL):Int:=cmpS a.name b.name
end Go.Proofs
end
section
open Go Go.Proofs Go.Sx Go.StP
namespace Go.Proofs
set_option maxRecDepth 10000
set_option maxHeartbeats 4000000
set_option linter.unusedSimpArgs false
def swp {α:Type} (a x m y c:List α) (i:Nat):List α:=a++ ((y.take i++x.drop i)++ (m++ ((x.take i++y.drop i)++c)))
section
variable {α:Type} {a x m y c:List α} {i k:Nat} {z:α}
end
abbrev entO (rest:List Value) (d:List EntL):Obj:=Wt_ jX_ 221 rest d
theorem vA_ {rest:List Value} {d:List EntL} (k:Nat) (hk:k<d.length):zl_ (some (true,34)) (some (entO rest d)) (k*34)=some (.agg (jX_ (d.getD k x2_)).toArray):=Qo_ (z:=x2_) xe_ k hk
theorem kg_ {rest:List Value} {d:List EntL} (k:Nat) (x:EntL) (a:Bool) (hk:k<d.length):zr_ (some (a,34)) (some (entO rest d)) (k*34) (.agg (jX_ x).toArray)=some (entO rest (d.set k x)):=ai5_ xe_ W2_ k x a hk
set_option linter.defProp false
def au3_:=And.intro (And.intro (@vA_) (@kg_)) (And.intro (@jp_) (And.intro (@qn_) (@qv_)))
structure RotG where
 A:List EntL
 U:List EntL
 V:List EntL
 B:List EntL
end Go.Proofs
end
section
open Go Go.Proofs Go.Sx Go.StP
namespace Go.Proofs
set_option maxRecDepth 10000
set_option maxHeartbeats 4000000
set_option linter.unusedSimpArgs false
abbrev ltE (a b:EntL):Bool:=StP.lt EntL.name a b
abbrev adR_ (l:List EntL):Prop:=StP.Sorted EntL.name l
abbrev StE (l l':List EntL):Prop:=StP.St EntL.name l l'
theorem ae2_ (a b:EntL):decide (cmpE a b<0)=ltE a b:=by
 unfold cmpE cmpS ltE StP.lt
 cases h:ltB a.name b.name
 ·rw[if_neg (by simp)]
  split<;>rfl
 ·rw[if_pos rfl];rfl
structure InsG where
 S:List EntL
 R:List EntL
set_option linter.defProp false
def auh_:=And.intro (And.intro (@vA_) (And.intro (@kg_) (@jp_))) (And.intro (@qn_) (And.intro (@qv_) (@ae2_)))
end Go.Proofs
end
section
open Go Go.Proofs Go.Sx Go.StP
namespace Go.Proofs
set_option maxRecDepth 10000
set_option maxHeartbeats 4000000
set_option linter.unusedSimpArgs false
theorem aa7_ (p q:Nat) (h:p+q<4611686018427387904):IntKind.wrap .i64 ((jZ_ (UInt64.ofInt ((p:Int)+ (q:Int))) 1).toNat:Int)=(((p+q) / 2:Nat):Int):=by
 have e: (UInt64.ofInt ((p:Int)+ (q:Int))).toNat=p+q:=by
  have h2:UInt64.ofInt ((p:Int)+ (q:Int))=UInt64.ofNat (((p:Int)+ (q:Int))%2^64).toNat:=rfl
  rw[h2,UInt64.toNat_ofNat']
  omega
 have e2: (jZ_ (UInt64.ofInt ((p:Int)+ (q:Int))) 1).toNat=(p+q) / 2:=by
  unfold jZ_
  rw[e,UInt64.toNat_ofNat',Nat.pow_one]
  omega
 rw[e2,jH_ _ (by omega)]
structure BsG where
 i:Nat
 j:Nat
def ath_ (rb:Nat) (A X Y B:List EntL) (rest:List Value) (v:Value) (D:za_):Prop:=
 ∃o,D= [(rb,o)]∧v= .tuple #[]∧ ∃Z,o=entO rest (A++ (Z++B))∧Z.length=X.length+Y.length∧adR_ Z∧StE (X++Y) Z
set_option linter.defProp false
def auE_:=And.intro (And.intro (@vA_) (And.intro (@kg_) (@jp_))) (And.intro (And.intro (@qn_) (@qv_)) (And.intro (@ae2_) (@aa7_)))
end Go.Proofs
end
section
open Go Go.Proofs Go.Sx Go.StP
namespace Go.Proofs
set_option maxRecDepth 10000
set_option maxHeartbeats 4000000
set_option linter.unusedSimpArgs false
set_option linter.defProp false
def auA_:=And.intro (And.intro (@vA_) (And.intro (@kg_) (@jp_))) (And.intro (And.intro (@qn_) (@qv_)) (And.intro (@ae2_) (@aa7_)))
end Go.Proofs
end
section
open Go Go.Proofs Go.Sx Go.StP
namespace Go.Proofs
set_option maxRecDepth 10000
set_option maxHeartbeats 4000000
set_option linter.unusedSimpArgs false
def Blks (k:Nat) (ls:List (List EntL)):Prop:= ∀x,x∈ls→x.length=k∧adR_ x
structure StG where
 k:Nat
 ls:List (List EntL)
 r:List EntL
structure StH where
 l2:List (List EntL)
 ls:List (List EntL)
end Go.Proofs
end
section
open Go Go.Proofs Go.Sx Go.StP
namespace Go.Proofs
set_option maxRecDepth 10000
set_option maxHeartbeats 4000000
set_option linter.unusedSimpArgs false
abbrev EntS (w:World) (v:Value) (l:List EntL):Prop:=SlV 34 jX_ x2_ w v l
structure ValG where
 k:Nat
 X:za_
set_option linter.defProp false
def aut_:=And.intro (And.intro (@vA_) (@kg_)) (And.intro (@jp_) (And.intro (@qn_) (@qv_)))
end Go.Proofs
end
section
open Go Go.Proofs Go.Sx Go.StP
namespace Go.Proofs
set_option maxRecDepth 10000
set_option maxHeartbeats 4000000
set_option linter.unusedSimpArgs false
set_option linter.defProp false
def auU_:=And.intro (And.intro (@vA_) (@kg_)) (And.intro (@jp_) (And.intro (@qn_) (@qv_)))
end Go.Proofs
end
section
open Go Go.Proofs Go.Sx Go.StP
namespace Go.Proofs
set_option maxRecDepth 10000
set_option maxHeartbeats 4000000
set_option linter.unusedSimpArgs false
def SortOf (l Z:List EntL):Prop:=Z.length=l.length∧adR_ Z∧StE l Z
theorem SortOf.eq {l Z Z':List EntL} (h:SortOf l Z) (h':SortOf l Z'):Z=Z':=StP.St.eq h.2.1 h'.2.1 (h.2.2.symm.trans h'.2.2)
end Go.Proofs
end
section
open Go Go.Proofs Go.Sx
namespace Go.Proofs
set_option maxRecDepth 10000
set_option maxHeartbeats 4000000
set_option linter.unusedSimpArgs false
def badR (c:Int):Bool:=decide (c<33) ||decide (126<c) || (c==47)
def JX_ (b:UInt8):Bool:=decide (b.toNat<33) ||decide (126<b.toNat) || (b.toNat==47)
theorem eqb (a b:Bool):qD_ Tryz.prog .eql 4 (.bool a) (.bool b)=some (.bool (a==b)):=by
 simp[qD_,eqX,qg_,qf_,Tryz.underlying4]
theorem Jr_ (a:Value): (#[a]:Array Value)[0]? =some a:=(rfl)
set_option linter.defProp false
def jE_:=And.intro (And.intro (And.intro (@zd_) (And.intro (@v7_) (@v0_))) (And.intro (And.intro (@vN_) (@zc_)) (And.intro (@af4_) (@XS_)))) (And.intro (And.intro (And.intro (@Kq_) (@XB_)) (And.intro (@ajM_) (@Jr_))) (And.intro (And.intro (@Sx.tup3_0) (@Sx.tup3_1)) (And.intro (@Sx.tup3_2) (@eqb))))
theorem and_ (l:List UInt8) (i:Nat) (h:i<l.length):badR ((Utf8.decode ⟨l.toArray⟩ i).1:Nat)=JX_ (l.getD i 0)∧(JX_ (l.getD i 0)=false→(Utf8.decode ⟨l.toArray⟩ i).2=1):=by
 obtain⟨h0,h1,h2⟩:=adu_ l i h
 by_cases hc: (l.getD i 0).toNat<128
 ·rw[h1 hc]
  refine⟨?_,fun _=>rfl⟩
  unfold badR JX_
  congr 1
  ·congr 1
   ·apply decide_eq_decide.2;omega
   ·apply decide_eq_decide.2;omega
  ·rw[Bool.eq_iff_iff,beq_iff_eq,beq_iff_eq];omega
 ·have h2':=h2 (by omega)
  have hb:JX_ (l.getD i 0)=true:=by
   unfold JX_
   rw[decide_eq_true (show 126< (l.getD i 0).toNat by omega)];simp
  rw[hb]
  refine⟨?_,fun h=>by cases h⟩
  unfold badR
  rw[decide_eq_true (show(126:Int)< (((Utf8.decode ⟨l.toArray⟩ i).1:Nat):Int) by omega)];simp
theorem VH_ (s:List UInt8) (k:FuncId) (hk: ∀a w,(callFunc k a).run Tryz.prog w= .ok (.enter k a) w) (hc: ∀c w,Rets Tryz.prog k #[VT_ c] w (fun v D=>v= .bool (badR c)∧D= [])) (w:World) (hs:s.length<1099511627776):
  Rets Tryz.prog 191 #[vs s, .func (.func k) #[] #[], .bool true] w (fun v D=> ∃n:Int,v=vi n∧(0≤n↔s.any JX_=true)∧D= []):=by
 refine Rets.mono (S:=fun v D=>(∃n:Int,v=vi n∧(0≤n↔s.any JX_=true))∧D= []) ?_ (by rintro v D ⟨⟨n,h1,h2⟩,h3⟩;exact⟨n,h1,h2,h3⟩)
 refine Rets.enterV Tryz.func191 rfl (rs:= [.tmp 6]) Tryz.results191 Tryz.ntmps191 ?_
 refine kf ?_
 first|with_reducible refine ks [] @jE_ ?_|refine kp @jE_ ?_
 refine Ow.rangeText rfl rfl Tryz.underlying9 rfl fun b1 hb1 hw1=> ?_
 refine ko @jE_ ?_
 first|with_reducible refine ks [] @jE_ ?_|refine kp @jE_ ?_
 refine Cw.loopG (G:=Nat) [11,12,13,14,7,8,15,16,17,18,19,20,6] (fun g=> []) (fun g=> [(b1, .stringIter ⟨s.toArray⟩ g)]) (fun g=>g≤s.length∧ ∀i,i<g→JX_ (s.getD i 0)=false) (fun g=>s.length - g) 0 rfl rfl ?_ ?_
 ·exact⟨by omega,fun i hi=>by omega⟩
 intro g j hg
 refine kv ?_
 obtain⟨hgL,hgood⟩:=hg
 by_cases hlt:g<s.length
 ·have hbr:=and_ s g hlt
  first|with_reducible refine ks [] @jE_ ?_|refine kp @jE_ ?_
  refine Ow.nextText rfl rfl rfl (xT_ _ _ _) hlt ?_
  rw[ZW_]
  generalize hdd:Utf8.decode ⟨s.toArray⟩ g=dd at*
  obtain⟨c,n⟩:=dd
  simp only at hbr ⊢
  refine ko @jE_ ?_
  first|with_reducible refine ks [] @jE_ ?_|refine kp @jE_ ?_
  refine Ow.callFn1 (v:= .bool (badR c)) (k:=k) rfl rfl rfl hk (fun w' hw'=>hc _ w') ?_
  rw[hbr.1]
  refine ko @jE_ ?_
  cases hbb:JX_ (s.getD g 0)
  ·first|with_reducible refine ks [] @jE_ ?_|refine kp @jE_ ?_
   refine Again.mk (g+1) (by omega) ⟨by omega,fun i hi=> ?_⟩ ?_ rfl
   ·by_cases hig:i=g
    ·rw[hig];exact hbb
    ·exact hgood i (by omega)
   ·rw[hbr.2 hbb]
  ·first|with_reducible refine ks [] @jE_ ?_|refine kp @jE_ ?_
   refine⟨_,(ke @jE_),⟨hw1,trivial⟩, ?_⟩
   refine⟨(g:Int),rfl,⟨fun _=> ?_,fun _=>by omega⟩⟩
   rw[List.any_eq_true]
   refine⟨s.getD g 0, ?_,hbb⟩
   rw[List.getD_eq_getElem?_getD,List.getElem?_eq_getElem hlt]
   exact List.getElem_mem hlt
 ·obtain rfl:g=s.length:=by omega
  first|with_reducible refine ks [] @jE_ ?_|refine kp @jE_ ?_
  refine Ow.nextOver rfl rfl rfl (xT_ _ _ _) hlt ?_
  refine ko @jE_ ?_
  first|with_reducible refine ks [] @jE_ ?_|refine kp @jE_ ?_
  refine⟨_,(ke @jE_),⟨hw1,trivial⟩, ?_⟩
  refine⟨-1,rfl,⟨fun h=>by omega,fun h=> ?_⟩⟩
  rw[List.any_eq_true] at h
  obtain⟨x,hx,hxb⟩:=h
  obtain⟨i,hi,rfl⟩:=List.getElem_of_mem hx
  have:=hgood i hi
  rw[List.getD_eq_getElem?_getD,List.getElem?_eq_getElem hi] at this
  exact absurd hxb (by simpa using this)
theorem Vw_ (s:List UInt8) (k:FuncId) (hk: ∀a w,(callFunc k a).run Tryz.prog w= .ok (.enter k a) w) (hc: ∀c w,Rets Tryz.prog k #[VT_ c] w (fun v D=>v= .bool (badR c)∧D= [])) (w:World) (hs:s.length<1099511627776):
  Rets Tryz.prog 160 #[vs s, .func (.func k) #[] #[]] w (fun v D=> ∃n:Int,v=vi n∧(0≤n↔s.any JX_=true)∧D= []):=by
 refine Rets.mono (S:=fun v D=>(∃n:Int,v=vi n∧(0≤n↔s.any JX_=true))∧D= []) ?_ (by rintro v D ⟨⟨n,h1,h2⟩,h3⟩;exact⟨n,h1,h2,h3⟩)
 refine Rets.enterV Tryz.func160 rfl (rs:= [.tmp 4]) Tryz.results160 Tryz.ntmps160 ?_
 refine kf ?_
 first|with_reducible refine ks [] @jE_ ?_|refine kp @jE_ ?_
 refine Ow.callF rfl rfl Tryz.call191 (S:=fun _ v D=> ∃n:Int,v=vi n∧(0≤n↔s.any JX_=true)∧D= []) (fun w' hw'=>VH_ s k hk hc w' hs) ?_
 rintro B v D - - ⟨n,rfl,hn,rfl⟩
 refine⟨_,Mrg.nil, ?_⟩
 refine ko @jE_ ?_
 first|with_reducible refine ks [] @jE_ ?_|refine kp @jE_ ?_
 refine⟨_,(ke @jE_),trivial, ?_⟩
 exact⟨n,rfl,hn⟩
theorem Je_ (s:List UInt8) (k:FuncId) (hk: ∀a w,(callFunc k a).run Tryz.prog w= .ok (.enter k a) w) (hc: ∀c w,Rets Tryz.prog k #[VT_ c] w (fun v D=>v= .bool (badR c)∧D= [])) (w:World) (hs:s.length<1099511627776):
  Rets Tryz.prog 118 #[vs s, .func (.func k) #[] #[]] w (fun v D=>v= .bool (s.any JX_)∧D= []):=by
 refine Rets.enterV Tryz.func118 rfl (rs:= [.tmp 4]) Tryz.results118 Tryz.ntmps118 ?_
 refine kf ?_
 first|with_reducible refine ks [] @jE_ ?_|refine kp @jE_ ?_
 refine Ow.callF rfl rfl Tryz.call160 (S:=fun _ v D=> ∃n:Int,v=vi n∧(0≤n↔s.any JX_=true)∧D= []) (fun w' hw'=>Vw_ s k hk hc w' hs) ?_
 rintro B v D - - ⟨n,rfl,hn,rfl⟩
 refine⟨_,Mrg.nil, ?_⟩
 refine ko @jE_ ?_
 first|with_reducible refine ks [] @jE_ ?_|refine kp @jE_ ?_
 refine⟨_,(ke @jE_),trivial, ?_⟩
 exact congrArg Value.bool (by rw[Bool.eq_iff_iff,decide_eq_true_eq];exact hn)
set_option linter.defProp false
def vT_:=And.intro (And.intro (@zd_) (@v7_)) (And.intro (@v0_) (And.intro (@vN_) (@zc_)))
def ahj_ (s:List UInt8):Bool:= !(s== [])&&decide (s.length≤32)&& !(s.any JX_)
theorem ap1_ (c:UInt8):JX_ c=(decide (c<33) ||decide (126<c) || (c==47)):=by
 unfold JX_
 congr 1
 rw[Bool.eq_iff_iff,beq_iff_eq,beq_iff_eq,←UInt8.toNat_inj];rfl
theorem abA_ (s:List UInt8) (w:World) (hs:s.length<1099511627776):
  Rets Tryz.prog 183 #[vs s] w (fun v D=>v= .bool (ahj_ s)∧D= []):=by
 refine Rets.enterV Tryz.func183 rfl (rs:= [.tmp 2]) Tryz.results183 Tryz.ntmps183 ?_
 refine kf ?_
 first|with_reducible refine ks [] @vT_ ?_|refine kp @vT_ ?_
 refine Cw.loopG (G:=Nat) [4,5,6,7,10,11,12,13,14,15,16,17,18,19,20,21,22,23,24,25,2,8,9,3] (fun g=> [(3,vi g)]) (fun g=> []) (fun g=>g≤s.length∧ ∀i,i<g→JX_ (s.getD i 0)=false) (fun g=>s.length - g) 0 rfl rfl ?_ ?_
 ·exact⟨by omega,fun i hi=>by omega⟩
 intro g j hg
 refine kv ?_
 obtain⟨hgL,hgood⟩:=hg
 by_cases hlt:g<s.length
 ·have hb:=ap1_ (s.getD g 0)
  have hbad:JX_ (s.getD g 0)=true→ahj_ s=false:=by
   intro h
   have:s.any JX_=true:=List.any_eq_true.2 ⟨s.getD g 0,by rw[List.getD_eq_getElem?_getD,List.getElem?_eq_getElem hlt];exact List.getElem_mem hlt,h⟩
   unfold ahj_
   rw[this];simp
  have hgo:JX_ (s.getD g 0)=false→ ∀i,i<g+1→JX_ (s.getD i 0)=false:=fun h i hi=>by
   by_cases hig:i=g
   ·rw[hig];exact h
   ·exact hgood i (by omega)
  generalize hc:s.getD g 0=c at*
  cases h1:decide (c<33)
  ·cases h2:decide (126<c)
   ·cases h3: (c==47)
    ·first|with_reducible refine ks [] (And.intro @vT_ (And.intro @hc (And.intro @h1 (And.intro @h2 (@h3))))) ?_|refine kp (And.intro @vT_ (And.intro @hc (And.intro @h1 (And.intro @h2 (@h3))))) ?_
     refine Again.mk (g+1) (by omega) ⟨by omega,hgo (by rw[hb,h1,h2,h3];rfl)⟩ rfl rfl
    ·first|with_reducible refine ks [] (And.intro @vT_ (And.intro @hc (And.intro @h1 (And.intro @h2 (@h3))))) ?_|refine kp (And.intro @vT_ (And.intro @hc (And.intro @h1 (And.intro @h2 (@h3))))) ?_
     rw[hbad (by rw[hb,h1,h2,h3];rfl)]
     refine⟨_,(ke @vT_),trivial, ?_⟩
     rfl
   ·first|with_reducible refine ks [] (And.intro @vT_ (And.intro @hc (And.intro @h1 (@h2)))) ?_|refine kp (And.intro @vT_ (And.intro @hc (And.intro @h1 (@h2)))) ?_
    rw[hbad (by rw[hb,h1,h2];rfl)]
    refine⟨_,(ke @vT_),trivial, ?_⟩
    rfl
  ·first|with_reducible refine ks [] (And.intro @vT_ (And.intro @hc (@h1))) ?_|refine kp (And.intro @vT_ (And.intro @hc (@h1))) ?_
   rw[hbad (by rw[hb,h1];simp)]
   refine⟨_,(ke @vT_),trivial, ?_⟩
   rfl
 ·obtain rfl:g=s.length:=by omega
  have hany:s.any JX_=false:=by
   rw[List.any_eq_false]
   intro x hx
   obtain⟨i,hi,rfl⟩:=List.getElem_of_mem hx
   have:=hgood i hi
   rw[List.getD_eq_getElem?_getD,List.getElem?_eq_getElem hi] at this
   simpa using this
  unfold ahj_
  rw[hany]
  cases h1:decide (1≤ (s.length:Int))
  ·have e0: (s== [])=true:=by
    have:=of_decide_eq_false h1
    rw[List.eq_nil_of_length_eq_zero (show s.length=0 by omega)];rfl
   first|with_reducible refine ks [] (And.intro @vT_ @h1) ?_|refine kp (And.intro @vT_ @h1) ?_
   refine⟨_,(ke @vT_),trivial, ?_⟩
   simp only[vr_,e0,Bool.not_true,Bool.false_and]
  ·have e0: (s== [])=false:=by
    have:=of_decide_eq_true h1
    cases s with
    |nil=>simp at this
    |cons x r=>rfl
   have e1:decide ((s.length:Int)≤32)=decide (s.length≤32):=decide_eq_decide.2 (by omega)
   first|with_reducible refine ks [] (And.intro @vT_ @h1) ?_|refine kp (And.intro @vT_ @h1) ?_
   refine⟨_,(ke @vT_),trivial, ?_⟩
   simp only[vr_,e0,e1,Bool.not_false,Bool.true_and,Bool.and_true]
end Go.Proofs
end
section
open Go Go.Proofs Go.Sx Go.StP
namespace Go.Proofs
set_option maxRecDepth 10000
set_option maxHeartbeats 4000000
set_option linter.unusedSimpArgs false
def wj_ (l:List EntL) (i:Nat):Bool:=
 ahj_ (l.getD i x2_).name&& ((l.getD i x2_).kind==1|| (l.getD i x2_).kind==2)&& (i==0||ltB (l.getD (i - 1) x2_).name (l.getD i x2_).name)
def vt_ (l:List EntL):Bool:=decide (l.length≤32)&& (List.range l.length).all (wj_ l)
theorem ZZ_ {l:List EntL} {k:Nat} (hk:k<l.length) (h:wj_ l k=false):vt_ l=false:=by
 unfold vt_
 have: (List.range l.length).all (wj_ l)=false:=by
  rw[List.all_eq_false]
  exact⟨k,List.mem_range.2 hk,by simp[h]⟩
 rw[this,Bool.and_false]
theorem aia_ {l:List EntL} (h: ∀i,i<l.length→wj_ l i=true):vt_ l=decide (l.length≤32):=by
 unfold vt_
 have: (List.range l.length).all (wj_ l)=true:=List.all_eq_true.2 fun i hi=>h i (List.mem_range.1 hi)
 rw[this,Bool.and_true]
set_option linter.defProp false
def auy_:=And.intro (And.intro (And.intro (@kt_) (@vz_)) (And.intro (@vs_) (@jp_))) (And.intro (And.intro (@qn_) (@qv_)) (And.intro (@zd_) (@zc_)))
def afU_ (l:List EntL):Prop:= ∀i,i<l.length→(l.getD i x2_).name.length<1099511627776
end Go.Proofs
end
section
open Go Go.Proofs Go.Sx Go.StP
namespace Go.Proofs
set_option maxRecDepth 10000
set_option maxHeartbeats 4000000
set_option linter.unusedSimpArgs false
set_option linter.defProp false
def vc_:=And.intro (And.intro (And.intro (@kt_) (@vz_)) (And.intro (@vs_) (@jp_))) (And.intro (And.intro (@qn_) (@qv_)) (And.intro (@zd_) (@zc_)))
theorem ajS_ (a b:List UInt8): (Op.bytesLess a b||a==b)= !ltB b a:=by rw[←aqd_,Bool.not_not]
theorem Vu_ (v:Value) (l:List EntL) (w:World) (hv:EntS w v l) (hl:l.length<1000000) (hsh:afU_ l):
  Rets Tryz.prog 148 #[v] w (fun v' D=>v'= .bool (vt_ l)∧D= []):=by
 obtain⟨b,off,arr,E,fz,hr⟩:=hv.row
 have ln:=hv.len
 refine Rets.enterV Tryz.func148 rfl (rs:= [.tmp 2]) Tryz.results148 Tryz.ntmps148 ?_
 refine kf ?_
 by_cases h32:32<l.length
 ·first|with_reducible refine ks [] (And.intro @vc_ @ln) ?_|refine kp (And.intro @vc_ @ln) ?_
  have:vt_ l=false:=by unfold vt_;rw[decide_eq_false (by omega),Bool.false_and]
  rw[this]
  refine⟨_,(ke @vc_),trivial, ?_⟩
  rfl
 ·first|with_reducible refine ks [] (And.intro @vc_ @ln) ?_|refine kp (And.intro @vc_ @ln) ?_
  refine Cw.loopG (G:=Nat) [7,8,9,10,13,14,15,16,17,18,19,20,21,22,23,24,25,26,27,28,29,30,31,32,33,34,35,2,36,37,38,39,40,41,42,43,44,45,46,47,48,49,50,51,11,12,3] (fun g=> [(3,vi g)]) (fun g=> []) (fun g=>g≤l.length∧ ∀i,i<g→wj_ l i=true) (fun g=>l.length - g) 0 rfl rfl ?_ ?_
  ·exact⟨Nat.zero_le _,fun i hi=>absurd hi (Nat.not_lt_zero i)⟩
  ·intro k jk hk
   refine kv ?_
   obtain⟨h1,h2⟩:=hk
   by_cases hk:k<l.length
   ·have h0:0<l.length:=by omega
    have hbl:=hr.lt h0
    have r2:=hr.has h0
    have i2:=hr.idx true k hk
    have m0: ∀n,zl_ (some (false,n)) (some (.cells arr E fz)) (off+k*34)=some (vs (l.getD k x2_).name):=fun n=>W1_ hr hk n
    have m1: ∀n,zl_ (some (false,n)) (some (.cells arr E fz)) (off+k*34+1)=some (vi (l.getD k x2_).kind):=fun n=>agE_ hr hk n
    have hs:=hsh k hk
    first|with_reducible refine ks [] (And.intro @vc_ (And.intro @ln (And.intro @r2 (And.intro @i2 (And.intro @m0 (@m1)))))) ?_|refine kp (And.intro @vc_ (And.intro @ln (And.intro @r2 (And.intro @i2 (And.intro @m0 (@m1)))))) ?_
    refine Ow.callFV rfl Tryz.call183 (fun w' hw'=>abA_ (l.getD k x2_).name w' hs) ?_
    cases hn:ahj_ (l.getD k x2_).name
    ·have e0:wj_ l k=false:=by unfold wj_;rw[hn];rfl
     rw[ZZ_ hk e0]
     refine ko @vc_ ?_
     refine⟨_,(ke @vc_),trivial, ?_⟩
     rfl
    ·cases hk1:decide ((l.getD k x2_).kind<1)
     ·cases hk2:decide (2< (l.getD k x2_).kind)
      ·have hkk: ((l.getD k x2_).kind==1|| (l.getD k x2_).kind==2)=true:=by
        have q1:=of_decide_eq_false hk1
        have q2:=of_decide_eq_false hk2
        rcases(show(l.getD k x2_).kind=1∨(l.getD k x2_).kind=2 by omega) with h|h<;>rw[h]<;>rfl
       refine ko (And.intro @vc_ (And.intro @r2 (And.intro @i2 (And.intro @m0 (And.intro @m1 (And.intro @hk1 (@hk2))))))) ?_
       by_cases h0k:k=0
       ·have d1:decide ((0:Int)< (k:Int))=false:=decide_eq_false (by omega)
        have e1:wj_ l k=true:=by unfold wj_;rw[hn,hkk,h0k];rfl
        refine Cw.regionS [b] [0,1,2,3,4,5,6,8,9,10,11,12,7,13,14,15] [] (by kernel_rfl) (by kernel_rfl) (by kernel_rfl) ?_
        simp only[zu_, ↓zi_, ↓ze_, ↓zG_, ↓zF_,zf_]
        refine kq (And.intro @vc_ @d1) ?_
        exact Again.mk (k+1) (by omega) ⟨by omega,fun i hi=>by
         rcases Nat.lt_succ_iff_lt_or_eq.1 hi with h|rfl
         ·exact h2 i h
         ·exact e1⟩ rfl rfl
       ·have d1:decide ((0:Int)< (k:Int))=true:=decide_eq_true (by omega)
        have i3:qC_ (.sl (true,34)) v (some ((k:Int) - 1))=some (vp b (off+ (k - 1)*34)):=by
         rw[show(k:Int) - 1=((k - 1:Nat):Int) by omega];exact hr.idx true (k - 1) (by omega)
        have l3: ∀n,zl_ (some (false,n)) (some (.cells arr E fz)) (off+ (k - 1)*34)=some (vs (l.getD (k - 1) x2_).name):=fun n=>W1_ hr (show k - 1<l.length by omega) n
        have ek: (k==0)=false:=beq_eq_false_iff_ne.2 h0k
        cases hl3:ltB (l.getD (k - 1) x2_).name (l.getD k x2_).name
        ·have e1:wj_ l k=false:=by unfold wj_;rw[hn,hkk,ek];exact hl3
         rw[ZZ_ hk e1]
         refine Cw.regionS [b] [0,1,2,3,4,5,6,8,9,10,11,12,7,13,14,15] [] (by kernel_rfl) (by kernel_rfl) (by kernel_rfl) ?_
         simp only[zu_, ↓zi_, ↓ze_, ↓zG_, ↓zF_,zf_]
         refine kq (And.intro @vc_ (And.intro @d1 (And.intro @i2 (And.intro @i3 (And.intro @r2 (And.intro @m0 (And.intro @l3 (And.intro @ajS_ (@hl3))))))))) ?_
         refine⟨_,(ke @vc_),trivial, ?_⟩
         rfl
        ·have e1:wj_ l k=true:=by unfold wj_;rw[hn,hkk,ek];exact hl3
         refine Cw.regionS [b] [0,1,2,3,4,5,6,8,9,10,11,12,7,13,14,15] [] (by kernel_rfl) (by kernel_rfl) (by kernel_rfl) ?_
         simp only[zu_, ↓zi_, ↓ze_, ↓zG_, ↓zF_,zf_]
         refine kq (And.intro @vc_ (And.intro @d1 (And.intro @i2 (And.intro @i3 (And.intro @r2 (And.intro @m0 (And.intro @l3 (And.intro @ajS_ (@hl3))))))))) ?_
         exact Again.mk (k+1) (by omega) ⟨by omega,fun i hi=>by
          rcases Nat.lt_succ_iff_lt_or_eq.1 hi with h|rfl
          ·exact h2 i h
          ·exact e1⟩ rfl rfl
      ·have e0:wj_ l k=false:=by
        have q2:=of_decide_eq_true hk2
        unfold wj_
        rw[hn,show((l.getD k x2_).kind==1)=false from beq_eq_false_iff_ne.2 (by omega),show((l.getD k x2_).kind==2)=false from beq_eq_false_iff_ne.2 (by omega)];rfl
       rw[ZZ_ hk e0]
       refine ko (And.intro @vc_ (And.intro @r2 (And.intro @i2 (And.intro @m0 (And.intro @m1 (And.intro @hk1 (@hk2))))))) ?_
       refine⟨_,(ke @vc_),trivial, ?_⟩
       rfl
     ·have e0:wj_ l k=false:=by
       have q2:=of_decide_eq_true hk1
       unfold wj_
       rw[hn,show((l.getD k x2_).kind==1)=false from beq_eq_false_iff_ne.2 (by omega),show((l.getD k x2_).kind==2)=false from beq_eq_false_iff_ne.2 (by omega)];rfl
      rw[ZZ_ hk e0]
      refine ko (And.intro @vc_ (And.intro @r2 (And.intro @i2 (And.intro @m0 (And.intro @m1 (@hk1)))))) ?_
      refine⟨_,(ke @vc_),trivial, ?_⟩
      rfl
   ·obtain rfl:k=l.length:=by omega
    rw[aia_ h2,show decide (l.length≤32)=true from decide_eq_true (by omega)]
    first|with_reducible refine ks [] (And.intro @vc_ @ln) ?_|refine kp (And.intro @vc_ @ln) ?_
    refine⟨_,(ke @vc_),trivial, ?_⟩
    rfl
end Go.Proofs
end
section
open Go Go.Proofs Go.Sx Go.StP
namespace Go.Proofs
set_option maxRecDepth 10000
set_option maxHeartbeats 4000000
set_option linter.unusedSimpArgs false
theorem w5_ (x:IdL): (J5_ x).length=32:=by simp[J5_,x.h]
theorem aaZ_ (x:IdL): (J5_ x).all Value.oneCell'=true:=ZU_ _
abbrev IdS (w:World) (v:Value) (l:List IdL):Prop:=SlV 32 J5_ id0 w v l
theorem akT_ {w:World} {v:Value} {l:List IdL} {b off:Nat} {arr:Array Value} {E:TypeId} {fz:Nat×Nat} (h:RowS 32 J5_ id0 w v l b off arr E fz) {k:Nat} (hk:k<l.length):
  zl_ (some (true,32)) (some (.cells arr E fz)) (off+k*32)=some (.agg (a8 (l.getD k id0).l)):=RowS.load h w5_ (by omega) hk
theorem aip_ (a b:IdL):qD_ Tryz.prog .eql 84 (.agg (a8 a.l)) (.agg (a8 b.l))=some (.bool (a.l==b.l)):=
 ao9_ Tryz.underlying84 Tryz.underlying5 Tryz.ag5 (by kernel_rfl) a.l b.l ⟨a.h,b.h⟩
theorem amM_ (a b:IdL):qD_ Tryz.prog .neq 84 (.agg (a8 a.l)) (.agg (a8 b.l))=some (.bool (!(a.l==b.l))):=
 al2_ Tryz.underlying84 Tryz.underlying5 Tryz.ag5 (by kernel_rfl) a.l b.l ⟨a.h,b.h⟩
instance:DecidableEq IdL:=fun a b=>if h:a.l=b.l then .isTrue (by cases a;cases b;simp only at h;subst h;rfl) else .isFalse (fun e=>h (by rw[e]))
theorem IdL.ext' {a b:IdL} (h:a.l=b.l):a=b:=by cases a;cases b;simp only at h;subst h;rfl
def idxG (x:IdL):List IdL→Nat→Int
 | [],_=> -1
 |y::r,i=>if x.l==y.l then(i:Int) else idxG x r (i+1)
theorem xE_ (x:IdL) (E:TypeId) (fz:Nat×Nat):zl_ (some (true,32)) (some (.cells (a8 x.l) E fz)) 0=some (.agg (a8 x.l)):=KM_ _ E fz 32 x.h
set_option linter.defProp false
def avC_:=And.intro (And.intro (@aip_) (@amM_)) (And.intro (@xE_) (And.intro (@zd_) (@zc_)))
end Go.Proofs
end
section
open Go Go.Proofs Go.Sx Go.StP
namespace Go.Proofs
set_option maxRecDepth 100000
set_option maxHeartbeats 400000
set_option linter.unusedSimpArgs false
structure RwL where
 id:IdL
 place:Int
 spot:Int
def rwC (r:RwL):List Value:=r.id.l.map v8++ ([vi r.place]++ ([vi r.spot]))
def rw0:RwL:=⟨id0,0,0⟩
theorem afB_ (r:RwL): (rwC r).length=34:=by simp[rwC,r.id.h]
theorem ke_ (r:RwL):Value.cells (.agg (rwC r).toArray)=(rwC r).toArray:=zg_ _
theorem aps_ (r:RwL): (rwC r).all Value.oneCell'=true:=by
 unfold rwC
 simp only[List.all_append,List.all_cons,List.all_nil,ZU_,Bool.and_true,Bool.true_and]
 rfl
theorem arG_ (r:RwL):rwC r=([]:List Value)++ ((r.id.l.map v8)++ ([vi r.place]++ ([vi r.spot]))):=by
 unfold rwC;simp only[List.append_assoc,List.nil_append,List.append_nil]
theorem J1_ (r:RwL) (E:TypeId) (fz:Nat×Nat):zl_ (some (true,32)) (some (.cells (rwC r).toArray E fz)) 0=some (Value.agg (a8 r.id.l)):=by
 rw[arG_,v9_ _ _ _ E fz (by simp) (by simp[r.id.h])];rfl
theorem ajJ_ (r:RwL):rwC r=((r.id.l.map v8))++ (([vi r.place])++ ([vi r.spot])):=by
 unfold rwC;simp only[List.append_assoc,List.nil_append,List.append_nil]
theorem Xg_ (r:RwL) (n:Nat) (E:TypeId) (fz:Nat×Nat):zl_ (some (false,n)) (some (.cells (rwC r).toArray E fz)) 32=some (vi r.place):=by
 rw[ajJ_];exact z1_ _ _ _ n E fz (by simp[r.id.h])
theorem aiT_ (r:RwL) (x:Int) (a:Bool) (E:TypeId):zr_ (some (a,1)) (some (.cells (rwC r).toArray E (0,0))) 32 (vi x)=some (.cells (rwC {r with place:=x}).toArray E (0,0)):=by
 rw[ajJ_ r,ajJ_ {r with place:=x}];exact zN_ _ _ _ _ a _ E (by simp[r.id.h]) rfl (rfl) rfl (rfl)
theorem alx_ (r:RwL):rwC r=((r.id.l.map v8)++ ([vi r.place]))++ (([vi r.spot])++ (([]:List Value))):=by
 unfold rwC;simp only[List.append_assoc,List.nil_append,List.append_nil]
theorem JS_ (r:RwL) (n:Nat) (E:TypeId) (fz:Nat×Nat):zl_ (some (false,n)) (some (.cells (rwC r).toArray E fz)) 33=some (vi r.spot):=by
 rw[alx_];exact z1_ _ _ _ n E fz (by simp[r.id.h])
theorem ajs_ (r:RwL) (x:Int) (a:Bool) (E:TypeId):zr_ (some (a,1)) (some (.cells (rwC r).toArray E (0,0))) 33 (vi x)=some (.cells (rwC {r with spot:=x}).toArray E (0,0)):=by
 rw[alx_ r,alx_ {r with spot:=x}];exact zN_ _ _ _ _ a _ E (by simp[r.id.h]) rfl (rfl) rfl (rfl)
theorem wW_ (r:RwL) (E:TypeId) (fz:Nat×Nat):zl_ (some (true,34)) (some (.cells (rwC r).toArray E fz)) 0=some (.agg (rwC r).toArray):=xk_ _ E fz 34 (by rw[List.size_toArray,afB_])
theorem am2_ (old:Array Value) (r:RwL) (a:Bool) (E:TypeId) (h:old.size=34):zr_ (some (a,34)) (some (.cells old E (0,0))) 0 (.agg (rwC r).toArray)=some (.cells (rwC r).toArray E (0,0)):=j0_ _ a old E (afB_ r) (aps_ r) h
theorem xJ_ (r r':RwL) (a:Bool) (E:TypeId):zr_ (some (a,34)) (some (.cells (rwC r').toArray E (0,0))) 0 (.agg (rwC r).toArray)=some (.cells (rwC r).toArray E (0,0)):=am2_ _ r a E (by rw[List.size_toArray,afB_])
def asM_ (arr:Array Value) (off:Nat) (l:List UInt8):Prop:= ∀j,j<l.length→arr[off+j]? =some (v8 (l.getD j 0))
def cmpI (x y:IdL):Int:=cmpS x.l y.l
set_option linter.defProp false
def avI_:=And.intro (@zd_) (And.intro (@zc_) (@ke_))
def af5_ (a b:RwL):Int:=cmpS a.id.l b.id.l
end Go.Proofs
end
section
open Go Go.Proofs Go.Sx Go.StP
namespace Go.Proofs
set_option maxRecDepth 10000
set_option maxHeartbeats 4000000
set_option linter.unusedSimpArgs false
set_option linter.defProp false
def at0_:=And.intro (@wW_) (And.intro (@xJ_) (@ke_))
structure rws_RotG where
 A:List RwL
 U:List RwL
 V:List RwL
 B:List RwL
end Go.Proofs
end
section
open Go Go.Proofs Go.Sx Go.StP
namespace Go.Proofs
set_option maxRecDepth 10000
set_option maxHeartbeats 4000000
set_option linter.unusedSimpArgs false
abbrev akg_ (a b:RwL):Bool:=StP.lt (fun r:RwL=>r.id.l) a b
abbrev KR_ (l:List RwL):Prop:=StP.Sorted (fun r:RwL=>r.id.l) l
abbrev apu_ (l l':List RwL):Prop:=StP.St (fun r:RwL=>r.id.l) l l'
theorem ZP_ (a b:RwL):decide (af5_ a b<0)=akg_ a b:=by
 unfold af5_ cmpS akg_ StP.lt
 cases h:ltB a.id.l b.id.l
 ·rw[if_neg (by simp)]
  split<;>rfl
 ·rw[if_pos rfl];rfl
structure rws_InsG where
 S:List RwL
 R:List RwL
set_option linter.defProp false
def auW_:=And.intro (And.intro (@wW_) (@xJ_)) (And.intro (@ke_) (@ZP_))
end Go.Proofs
end
section
open Go Go.Proofs Go.Sx Go.StP
namespace Go.Proofs
set_option maxRecDepth 10000
set_option maxHeartbeats 4000000
set_option linter.unusedSimpArgs false
set_option linter.defProp false
def auO_:=And.intro (And.intro (@wW_) (@xJ_)) (And.intro (@ke_) (And.intro (@ZP_) (@aa7_)))
end Go.Proofs
end
section
open Go Go.Proofs Go.Sx Go.StP
namespace Go.Proofs
set_option maxRecDepth 10000
set_option maxHeartbeats 4000000
set_option linter.unusedSimpArgs false
set_option linter.defProp false
def au0_:=And.intro (And.intro (@wW_) (@xJ_)) (And.intro (@ke_) (And.intro (@ZP_) (@aa7_)))
end Go.Proofs
end
section
open Go Go.Proofs Go.Sx Go.StP
namespace Go.Proofs
set_option maxRecDepth 10000
set_option maxHeartbeats 4000000
set_option linter.unusedSimpArgs false
def asa_ (k:Nat) (ls:List (List RwL)):Prop:= ∀x,x∈ls→x.length=k∧KR_ x
structure rws_StG where
 k:Nat
 ls:List (List RwL)
 r:List RwL
structure rws_StH where
 l2:List (List RwL)
 ls:List (List RwL)
end Go.Proofs
end
section
open Go Go.Proofs Go.Sx Go.StP
namespace Go.Proofs
set_option maxRecDepth 10000
set_option maxHeartbeats 4000000
set_option linter.unusedSimpArgs false
def rws_SortOf (l Z:List RwL):Prop:=Z.length=l.length∧KR_ Z∧apu_ l Z
theorem rws_SortOf.eq {l Z Z':List RwL} (h:rws_SortOf l Z) (h':rws_SortOf l Z'):Z=Z':=StP.St.eq h.2.1 h'.2.1 (h.2.2.symm.trans h'.2.2)
end Go.Proofs
end
section
open Go Go.Proofs Go.Sx Go.StP
namespace Go.Proofs
set_option maxRecDepth 10000
set_option maxHeartbeats 1000000
set_option linter.unusedSimpArgs false
abbrev RwSl (w:World) (v:Value) (l:List RwL):Prop:=SlV 34 rwC rw0 w v l
def atc_ (r:RwL):Bool:= !(decide (r.place<0))&& !(decide (1099511627775<r.place))&& !(decide (r.spot<0))&& !(decide (1099511627775<r.spot))
def okTo (l:List RwL):Nat→Bool
 |0=>true
 |k+1=>okTo l k&& (decide (k=0) ||decide (cmpI (l.getD (k - 1) rw0).id (l.getD k rw0).id<0))&&atc_ (l.getD k rw0)
def atd_ (i:IdL):Nat:=(i.l.getD 0 0).toNat / 16
def fanV (l:List RwL) (d:Nat):Nat:=l.countP fun r=>decide (atd_ r.id≤d)
def fanL (l:List RwL):List Nat:=(List.range 16).map (fanV l)
def fanM (l:List RwL) (r:RwL) (g:Nat):List Nat:=(List.range 16).map fun j=>if j<g then fanV (l++ [r]) j else fanV l j
set_option linter.defProp false
def auP_:=And.intro (@zd_) (@zc_)
end Go.Proofs
end
section
open Go Go.Proofs Go.Sx Go.StP
namespace Go.Proofs
set_option maxRecDepth 10000
set_option maxHeartbeats 1000000
set_option linter.unusedSimpArgs false
structure OfG where
 k:Nat
 DG:za_
set_option linter.defProp false
def avT_:=And.intro (And.intro (And.intro (@zd_) (@zc_)) (And.intro (@ke_) (And.intro (@wW_) (@J1_)))) (And.intro (And.intro (@Xg_) (@JS_)) (And.intro (@xJ_) (And.intro (@Sx.tup2_0) (@Sx.tup2_1))))
end Go.Proofs
end
section
open Go Go.Proofs Go.Sx Go.StP
namespace Go.Proofs
set_option maxRecDepth 10000
set_option maxHeartbeats 4000000
set_option linter.unusedSimpArgs false
structure ComL where
 tree:IdL
 par:List IdL
 text:List UInt8
def jl_ (t:IdL) (p:Value) (x:List UInt8):List Value:=t.l.map v8++ ([p]++ [vs x])
theorem Zn_ (t:IdL) (p:Value) (x:List UInt8): (jl_ t p x).length=34:=by simp[jl_,t.h]
theorem anW_ (t:IdL) (p:Value) (x:List UInt8) (hp:Value.oneCell' p=true): (jl_ t p x).all Value.oneCell'=true:=by
 unfold jl_
 simp only[List.all_append,List.all_cons,List.all_nil,ZU_,hp,Bool.and_true,Bool.true_and]
 rfl
theorem kF_ (t:IdL) (p:Value) (x:List UInt8):Value.cells (.agg (jl_ t p x).toArray)=(jl_ t p x).toArray:=zg_ _
theorem wT_ (t:IdL) (p:Value) (x:List UInt8) (E:TypeId) (fz:Nat×Nat):zl_ (some (true,32)) (some (.cells (jl_ t p x).toArray E fz)) 0=some (.agg (a8 t.l)):=by
 unfold jl_;exact v9_ [] _ _ E fz rfl (by simp[t.h])
theorem wV_ (t:IdL) (p:Value) (x:List UInt8) (n:Nat) (E:TypeId) (fz:Nat×Nat):zl_ (some (false,n)) (some (.cells (jl_ t p x).toArray E fz)) 32=some p:=by
 unfold jl_;exact z1_ _ _ p n E fz (by simp[t.h])
theorem w7_ (t:IdL) (p:Value) (x:List UInt8) (n:Nat) (E:TypeId) (fz:Nat×Nat):zl_ (some (false,n)) (some (.cells (jl_ t p x).toArray E fz)) 33=some (vs x):=by
 have e:jl_ t p x=(t.l.map v8++ [p])++ ([vs x]++ []):=by unfold jl_;simp only[List.append_assoc,List.append_nil]
 rw[e];exact z1_ _ _ (vs x) n E fz (by simp[t.h])
theorem Z2_ (t:IdL) (p:Value) (x:List UInt8) (E:TypeId) (fz:Nat×Nat):zl_ (some (true,34)) (some (.cells (jl_ t p x).toArray E fz)) 0=some (.agg (jl_ t p x).toArray):=xk_ _ E fz 34 (by rw[List.size_toArray,Zn_])
theorem KH_ (old:Array Value) (t:IdL) (p:Value) (x:List UInt8) (a:Bool) (E:TypeId) (h:old.size=34) (hp:Value.oneCell' p=true):zr_ (some (a,34)) (some (.cells old E (0,0))) 0 (.agg (jl_ t p x).toArray)=some (.cells (jl_ t p x).toArray E (0,0)):=j0_ _ a old E (Zn_ t p x) (anW_ t p x hp) h
def K9_ (l:List IdL) (i:Nat):Bool:= !((l.take i).any fun y=>(l.getD i id0).l==y.l)
def ZQ_ (c:ComL):Bool:=(decide (c.par.length≤4)&&decide (c.text.length≤64))&& (List.range c.par.length).all (K9_ c.par)
theorem anp_ {c:ComL} {k:Nat} (hk:k<c.par.length) (h:K9_ c.par k=false):ZQ_ c=false:=by
 unfold ZQ_
 have: (List.range c.par.length).all (K9_ c.par)=false:=by
  rw[List.all_eq_false]
  exact⟨k,List.mem_range.2 hk,by simp[h]⟩
 rw[this,Bool.and_false]
theorem alq_ {c:ComL} (h: ∀i,i<c.par.length→K9_ c.par i=true):ZQ_ c=(decide (c.par.length≤4)&&decide (c.text.length≤64)):=by
 unfold ZQ_
 have: (List.range c.par.length).all (K9_ c.par)=true:=List.all_eq_true.2 fun i hi=>h i (List.mem_range.1 hi)
 rw[this,Bool.and_true]
abbrev ComS (w:World) (v:Value) (c:ComL):Prop:= ∃p,v= .agg (jl_ c.tree p c.text).toArray∧IdS w p c.par
theorem SlV.one {α:Type} {m:Nat} {enc:α→List Value} {z:α} {w:World} {v:Value} {l:List α} (h:SlV m enc z w v l):Value.oneCell' v=true∧v.cells= #[v]:=by
 obtain⟨b,off,c,arr,E,fz,-,-,⟨rfl,-,-⟩ | ⟨rfl,-,-⟩⟩:=h<;>exact⟨rfl,rfl⟩
set_option linter.defProp false
def auX_:=And.intro (And.intro (And.intro (@aip_) (@amM_)) (And.intro (@xE_) (And.intro (@zd_) (@zc_)))) (And.intro (And.intro (@wT_) (@wV_)) (And.intro (@w7_) (And.intro (@Z2_) (@kF_))))
end Go.Proofs
end
section
open Go Go.Proofs Go.Sx Go.StP
namespace Go.Proofs
set_option maxRecDepth 10000
set_option maxHeartbeats 4000000
set_option linter.unusedSimpArgs false
set_option linter.defProp false
def xM_:=And.intro (And.intro (And.intro (@aip_) (@amM_)) (And.intro (@xE_) (And.intro (@zd_) (@zc_)))) (And.intro (And.intro (@wT_) (@wV_)) (And.intro (@w7_) (And.intro (@Z2_) (@kF_))))
theorem ans_ {l:List IdL} {k:Nat} {x:IdL} (hk:k<l.length) (h: ((l.take k).any fun y=>x.l==y.l)=false) (h2: (x.l==(l.getD k id0).l)=false): ((l.take (k+1)).any fun y=>x.l==y.l)=false:=by
 rw[take_snoc (z:=id0) hk,List.any_append,h,Bool.false_or,List.any_cons,h2];rfl
theorem apP_ {l:List IdL} {k i:Nat} {x:IdL} (hk:k<l.length) (hi:k<i) (h2: (x.l==(l.getD k id0).l)=true): ((l.take i).any fun y=>x.l==y.l)=true:=by
 rw[List.any_eq_true]
 refine⟨l.getD k id0, ?_,h2⟩
 rw[←akf_ (l:=l) (z:=id0) hi]
 exact v5_ (by rw[List.length_take];omega)
theorem JR_ (v:Value) (c:ComL) (w:World) (hv:ComS w v c) (hl:c.par.length<1000000) (ht:c.text.length<1099511627776):
  Rets Tryz.prog 150 #[v] w (fun v' D=>v'= .bool (ZQ_ c)∧D= []):=by
 obtain⟨p,rfl,hp⟩:=hv
 obtain⟨b,off,arr,E,fz,hr⟩:=hp.row
 have ln:=hp.len
 refine Rets.enterV Tryz.func150 rfl (rs:= [.tmp 2]) Tryz.results150 Tryz.ntmps150 ?_
 refine kf ?_
 first|with_reducible refine ks [] @xM_ ?_|refine kp @xM_ ?_
 refine Ow.box rfl rfl fun bx hbx hwx=> ?_
 simp only[qB_,qA_,qJ_,zg_,List.nil_append,List.cons_append]
 refine Ow.go rfl ?_
 simp(disch:=(first|assumption|omega| (simp only[VI_,Vi_,UInt64.reduceToNat];try omega))) only[↓Sx.S0,Sx.S1,Tryz.fx,xM_,Nat.reduceAdd,Nat.reducePow,Int.reducePow,Nat.reduceBEq, ↓reduceIte,UInt8.reduceToNat,UInt16.reduceToNat,UInt32.reduceToNat,UInt64.reduceToNat,Int.reduceToNat]
 by_cases h4:4<c.par.length
 ·have d1:decide (4< ((c.par.length:Nat):Int))=true:=decide_eq_true (by omega)
  first|with_reducible refine ks [] (And.intro @xM_ (And.intro @ln (@d1))) ?_|refine kp (And.intro @xM_ (And.intro @ln (@d1))) ?_
  have:ZQ_ c=false:=by unfold ZQ_;rw[show decide (c.par.length≤4)=false from decide_eq_false (by omega)];rfl
  rw[this]
  refine⟨_,(ke @xM_),⟨hwx,trivial⟩, ?_⟩
  rfl
 have d1:decide (4< ((c.par.length:Nat):Int))=false:=decide_eq_false (by omega)
 by_cases h64:64<c.text.length
 ·have d2:decide (64< ((c.text.length:Nat):Int))=true:=decide_eq_true (by omega)
  first|with_reducible refine ks [] (And.intro @xM_ (And.intro @ln (And.intro @d1 (@d2)))) ?_|refine kp (And.intro @xM_ (And.intro @ln (And.intro @d1 (@d2)))) ?_
  have:ZQ_ c=false:=by unfold ZQ_;rw[show decide (c.text.length≤64)=false from decide_eq_false (by omega),Bool.and_false];rfl
  rw[this]
  refine⟨_,(ke @xM_),⟨hwx,trivial⟩, ?_⟩
  rfl
 have d2:decide (64< ((c.text.length:Nat):Int))=false:=decide_eq_false (by omega)
 first|with_reducible refine ks [] (And.intro @xM_ (And.intro @ln (And.intro @d1 (@d2)))) ?_|refine kp (And.intro @xM_ (And.intro @ln (And.intro @d1 (@d2)))) ?_
 refine Cw.loopG (G:=Nat) [15,16,17,18,19,4,22,23,24,27,28,29,30,31,32,33,34,35,36,37,2,25,26,20,21,3] (fun g=> [(3,vi g)]) (fun g=> [(bx, .cells (jl_ c.tree p c.text).toArray 172 (0,0))]) (fun g=>g≤c.par.length∧ ∀i,i<g→K9_ c.par i=true) (fun g=>c.par.length - g) 0 rfl rfl ?_ ?_
 ·exact⟨Nat.zero_le _,fun i hi=>absurd hi (Nat.not_lt_zero i)⟩
 ·intro i ji hi
  refine kv ?_
  obtain⟨h1,h2⟩:=hi
  by_cases hi:i<c.par.length
  ·have h0:0<c.par.length:=by omega
   have hbl:=hr.lt h0
   have hnb:bx≠b:=by omega
   have r2:=hr.has h0
   have i2:=hr.idx true i hi
   have l2:=akT_ hr hi
   first|with_reducible refine ks [] (And.intro @xM_ @ln) ?_|refine kp (And.intro @xM_ @ln) ?_
   refine Cw.loopG (G:=Nat) [22,23,24,27,28,29,30,31,32,33,34,35,36,37,2,25,26,4] (fun g=> [(4,vi g)]) (fun g=> [(bx, .cells (jl_ c.tree p c.text).toArray 172 (0,0))]) (fun g=>g≤i∧((c.par.take g).any fun y=>(c.par.getD i id0).l==y.l)=false) (fun g=>i - g) 0 rfl rfl ?_ ?_
   ·exact⟨Nat.zero_le _,rfl⟩
   ·intro k jk hk
    refine kv ?_
    obtain⟨g1,g2⟩:=hk
    by_cases hk:k<i
    ·have i3:=hr.idx true k (show k<c.par.length by omega)
     have l3:=akT_ hr (show k<c.par.length by omega)
     first|with_reducible refine ks [] @xM_ ?_|refine kp @xM_ ?_
     refine Cw.regionS [bx,b] [0,2,5,7,1,3,4,6,8,9,10] [] (by kernel_rfl) (by kernel_rfl) (by kernel_rfl) ?_
     simp only[zu_, ↓zi_, ↓ze_, ↓zG_, ↓zF_,zf_]
     refine kq (And.intro @xM_ (And.intro @i2 (And.intro @r2 (And.intro @l2 (And.intro @i3 (@l3)))))) ?_
     cases hq: ((c.par.getD i id0).l==(c.par.getD k id0).l)
     ·first|with_reducible refine ks [] (And.intro @xM_ @hq) ?_|refine kp (And.intro @xM_ @hq) ?_
      exact Again.mk (k+1) (by omega) ⟨by omega,ans_ (by omega) g2 hq⟩ rfl rfl
     ·have e1:K9_ c.par i=false:=by unfold K9_;rw[apP_ (by omega) hk hq];rfl
      rw[anp_ hi e1]
      first|with_reducible refine ks [] (And.intro @xM_ @hq) ?_|refine kp (And.intro @xM_ @hq) ?_
      refine⟨_,(ke @xM_),⟨hwx,trivial⟩, ?_⟩
      rfl
    ·obtain rfl:k=i:=by omega
     have e1:K9_ c.par k=true:=by unfold K9_;rw[g2];rfl
     first|with_reducible refine ks [] @xM_ ?_|refine kp @xM_ ?_
     exact Again.mk (k+1) (by omega) ⟨by omega,fun i hi=>by
      rcases Nat.lt_succ_iff_lt_or_eq.1 hi with h|rfl
      ·exact h2 i h
      ·exact e1⟩ rfl rfl
  ·obtain rfl:i=c.par.length:=by omega
   rw[alq_ h2,show decide (c.par.length≤4)=true from decide_eq_true (by omega),show decide (c.text.length≤64)=true from decide_eq_true (by omega)]
   first|with_reducible refine ks [] (And.intro @xM_ @ln) ?_|refine kp (And.intro @xM_ @ln) ?_
   refine⟨_,(ke @xM_),⟨hwx,trivial⟩, ?_⟩
   rfl
def ave_ (a b:ComL):Bool:=(a.tree.l==b.tree.l)&& (a.text==b.text)&&decide (a.par=b.par)
end Go.Proofs
end
section
open Go Go.Proofs Go.Sx
namespace Go.Proofs
set_option maxRecDepth 10000
set_option maxHeartbeats 4000000
set_option linter.unusedSimpArgs false
theorem vB_ {n:Nat} (h:n<1099511627776):jg_ (n:Int)=n:=by unfold jg_ maxN;omega
theorem wM_: ∀ (k:Nat) (n:Int) (w:World),jg_ n≤k→
  Rets Tryz.prog 184 #[vi n] w (fun v D=>v=vs (KS_ (jg_ n))∧D= []):=by
 intro k
 induction k using Nat.strongRecOn with
 |ind k ih=>
  intro n w hk
  refine Rets.enterV Tryz.func184 rfl (rs:= [.tmp 2]) Tryz.results184 Tryz.ntmps184 ?_
  refine kf ?_
  by_cases h0:n<0
  ·have d1:decide (n<0)=true:=decide_eq_true h0
   have e:jg_ n=0:=by unfold jg_ maxN;omega
   rw[e]
   first|with_reducible refine ks [] @d1 ?_|refine kp @d1 ?_
   refine Ow.buildSlice (e:=5) #[v8 0] rfl rfl (by kernel_rfl) fun b1 hb1 hw1=> ?_
   rw[show(#[v8 0]:Array Value)=a8 [0] from rfl]
   refine ko @Nat.add_zero ?_
   first|with_reducible refine ks [] @Nat.add_zero ?_|refine kp @Nat.add_zero ?_
   refine⟨_,(ke @Nat.add_zero),⟨hw1,trivial⟩, ?_⟩
   rw[vo_ (by omega)];rfl
  ·have d1:decide (n<0)=false:=decide_eq_false h0
   generalize hm:jg_ n=m at hk ⊢
   have hm2:m≤1099511627775:=by unfold jg_ maxN at hm;omega
   by_cases h1:n>1099511627775
   ·have d2:decide (1099511627775<n)=true:=decide_eq_true h1
    have e: (1099511627775:Int)=(m:Int):=by unfold jg_ maxN at hm;omega
    first|with_reducible refine ks [5] (And.intro @d1 @d2) ?_|refine kp (And.intro @d1 @d2) ?_
    rw[e]
    by_cases h2:m<128
    ·have d3:decide ((m:Int)<128)=true:=decide_eq_true (by omega)
     rw[vo_ h2]
     first|with_reducible refine ks [] (And.intro @d1 @d3) ?_|refine kp (And.intro @d1 @d3) ?_
     generalize hc:UInt8.ofInt (m:Int)=c
     have hc':c=UInt8.ofNat m:=by rw[←hc,J6_]
     refine Ow.buildSlice (e:=5) #[v8 c] rfl rfl (by kernel_rfl) fun b1 hb1 hw1=> ?_
     rw[show(#[v8 c]:Array Value)=a8 [c] from rfl]
     have e4:List.take 1 (List.drop 0 [c])= [c]:=rfl
     refine ko @e4 ?_
     first|with_reducible refine ks [] @Nat.add_zero ?_|refine kp @Nat.add_zero ?_
     refine⟨_,(ke @Nat.add_zero),⟨hw1,trivial⟩, ?_⟩
     rw[hc'];rfl
    ·have d3:decide ((m:Int)<128)=false:=decide_eq_false (by omega)
     have ih2:=fun w=>ih (m / 128) (by omega) ((m / 128:Nat):Int) w (by rw[vB_ (by omega)];omega)
     rw[vB_ (by omega)] at ih2
     have hl2:=vZ_ 6 (m / 128) (by omega) (by omega)
     rw[J3_ h2]
     first|with_reducible refine ks [] (And.intro @d1 @d3) ?_|refine kp (And.intro @d1 @d3) ?_
     refine Cw.regionK 11 (by kernel_rfl) (by kernel_rfl) ?_
     refine OwK.run [0,1,2,3,6,7] [true,true,true,true,false,false,true,true,false,false,false] 5 rfl (by kernel_rfl) (by kernel_rfl) fun k hk=> ?_
     simp only[zu_, ↓zi_, ↓ze_, ↓zG_, ↓zF_,zf_]
     simp(disch:=(first|assumption|omega| (simp only[VI_,Vi_,UInt64.reduceToNat];try omega))) only[↓Sx.S0,Sx.S1,Tryz.fx,Nat.reduceAdd,Nat.reducePow,Int.reducePow,Nat.reduceBEq, ↓reduceIte,UInt8.reduceToNat,UInt16.reduceToNat,UInt32.reduceToNat,UInt64.reduceToNat,Int.reduceToNat]
     (with_reducible refine hk _ _ _ ?_);clear hk k
     generalize hc:UInt8.ofInt ((m:Int)%128+128)=c
     have hc':c=UInt8.ofNat (m%128+128):=by rw[←hc,show((m:Int)%128+128)=((m%128+128:Nat):Int) from rfl,J6_]
     rw[show(m:Int) / 128=((m / 128:Nat):Int) from rfl]
     refine OwK.two 4 8 _ _ (by kernel_rfl) rfl rfl ?_ ?_
     ·refine Ow.buildSlice (e:=5) #[v8 c] rfl rfl (by kernel_rfl) fun b1 hb1 hw1=> ?_
      rw[show(#[v8 c]:Array Value)=a8 [c] from rfl]
      have e4:List.take 1 (List.drop 0 [c])= [c]:=rfl
      refine ko @e4 ?_
      try with_reducible refine Ow.nil ?_
      refine OwK.two 5 8 _ _ (by kernel_rfl) rfl rfl ?_ ?_
      ·refine ko @e4 ?_
       refine OwK.rest [8,9,10] [4,8] rfl (by kernel_rfl) (by kernel_rfl) ?_
       simp only[zu_, ↓zi_, ↓ze_, ↓zG_, ↓zF_,zf_]
       refine Ow.callFV rfl Tryz.call184 (fun w' hw'=>ih2 w') ?_
       refine ko @Nat.add_zero ?_
       first|with_reducible refine ks [] @Nat.add_zero ?_|refine kp @Nat.add_zero ?_
       refine⟨_,(ke @Nat.add_zero),⟨hw1,trivial⟩, ?_⟩
       rw[hc'];rfl
      ·refine Ow.callFV rfl Tryz.call184 (fun w' hw'=>ih2 w') ?_
       refine ko @Nat.add_zero ?_
       refine OwK.rest [5,9,10] [4,8] rfl (by kernel_rfl) (by kernel_rfl) ?_
       simp only[zu_, ↓zi_, ↓ze_, ↓zG_, ↓zF_,zf_]
       refine ko @e4 ?_
       first|with_reducible refine ks [] @Nat.add_zero ?_|refine kp @Nat.add_zero ?_
       refine⟨_,(ke @Nat.add_zero),⟨hw1,trivial⟩, ?_⟩
       rw[hc'];rfl
     ·refine Ow.callFV rfl Tryz.call184 (fun w' hw'=>ih2 w') ?_
      refine ko @Nat.add_zero ?_
      refine OwK.rest [4,5,9,10] [4,8] rfl (by kernel_rfl) (by kernel_rfl) ?_
      simp only[zu_, ↓zi_, ↓ze_, ↓zG_, ↓zF_,zf_]
      refine Ow.buildSlice (e:=5) #[v8 c] rfl rfl (by kernel_rfl) fun b1 hb1 hw1=> ?_
      rw[show(#[v8 c]:Array Value)=a8 [c] from rfl]
      have e4:List.take 1 (List.drop 0 [c])= [c]:=rfl
      refine ko @e4 ?_
      first|with_reducible refine ks [] @Nat.add_zero ?_|refine kp @Nat.add_zero ?_
      refine⟨_,(ke @Nat.add_zero),⟨hw1,trivial⟩, ?_⟩
      rw[hc'];rfl
   ·have d2:decide (1099511627775<n)=false:=decide_eq_false h1
    have e:n=(m:Int):=by unfold jg_ maxN at hm;omega
    subst e
    first|with_reducible refine ks [5] (And.intro @d1 @d2) ?_|refine kp (And.intro @d1 @d2) ?_
    by_cases h2:m<128
    ·have d3:decide ((m:Int)<128)=true:=decide_eq_true (by omega)
     rw[vo_ h2]
     first|with_reducible refine ks [] (And.intro @d1 @d3) ?_|refine kp (And.intro @d1 @d3) ?_
     generalize hc:UInt8.ofInt (m:Int)=c
     have hc':c=UInt8.ofNat m:=by rw[←hc,J6_]
     refine Ow.buildSlice (e:=5) #[v8 c] rfl rfl (by kernel_rfl) fun b1 hb1 hw1=> ?_
     rw[show(#[v8 c]:Array Value)=a8 [c] from rfl]
     have e4:List.take 1 (List.drop 0 [c])= [c]:=rfl
     refine ko @e4 ?_
     first|with_reducible refine ks [] @Nat.add_zero ?_|refine kp @Nat.add_zero ?_
     refine⟨_,(ke @Nat.add_zero),⟨hw1,trivial⟩, ?_⟩
     rw[hc'];rfl
    ·have d3:decide ((m:Int)<128)=false:=decide_eq_false (by omega)
     have ih2:=fun w=>ih (m / 128) (by omega) ((m / 128:Nat):Int) w (by rw[vB_ (by omega)];omega)
     rw[vB_ (by omega)] at ih2
     have hl2:=vZ_ 6 (m / 128) (by omega) (by omega)
     rw[J3_ h2]
     first|with_reducible refine ks [] (And.intro @d1 @d3) ?_|refine kp (And.intro @d1 @d3) ?_
     refine Cw.regionK 11 (by kernel_rfl) (by kernel_rfl) ?_
     refine OwK.run [0,1,2,3,6,7] [true,true,true,true,false,false,true,true,false,false,false] 5 rfl (by kernel_rfl) (by kernel_rfl) fun k hk=> ?_
     simp only[zu_, ↓zi_, ↓ze_, ↓zG_, ↓zF_,zf_]
     simp(disch:=(first|assumption|omega| (simp only[VI_,Vi_,UInt64.reduceToNat];try omega))) only[↓Sx.S0,Sx.S1,Tryz.fx,Nat.reduceAdd,Nat.reducePow,Int.reducePow,Nat.reduceBEq, ↓reduceIte,UInt8.reduceToNat,UInt16.reduceToNat,UInt32.reduceToNat,UInt64.reduceToNat,Int.reduceToNat]
     (with_reducible refine hk _ _ _ ?_);clear hk k
     generalize hc:UInt8.ofInt ((m:Int)%128+128)=c
     have hc':c=UInt8.ofNat (m%128+128):=by rw[←hc,show((m:Int)%128+128)=((m%128+128:Nat):Int) from rfl,J6_]
     rw[show(m:Int) / 128=((m / 128:Nat):Int) from rfl]
     refine OwK.two 4 8 _ _ (by kernel_rfl) rfl rfl ?_ ?_
     ·refine Ow.buildSlice (e:=5) #[v8 c] rfl rfl (by kernel_rfl) fun b1 hb1 hw1=> ?_
      rw[show(#[v8 c]:Array Value)=a8 [c] from rfl]
      have e4:List.take 1 (List.drop 0 [c])= [c]:=rfl
      refine ko @e4 ?_
      try with_reducible refine Ow.nil ?_
      refine OwK.two 5 8 _ _ (by kernel_rfl) rfl rfl ?_ ?_
      ·refine ko @e4 ?_
       refine OwK.rest [8,9,10] [4,8] rfl (by kernel_rfl) (by kernel_rfl) ?_
       simp only[zu_, ↓zi_, ↓ze_, ↓zG_, ↓zF_,zf_]
       refine Ow.callFV rfl Tryz.call184 (fun w' hw'=>ih2 w') ?_
       refine ko @Nat.add_zero ?_
       first|with_reducible refine ks [] @Nat.add_zero ?_|refine kp @Nat.add_zero ?_
       refine⟨_,(ke @Nat.add_zero),⟨hw1,trivial⟩, ?_⟩
       rw[hc'];rfl
      ·refine Ow.callFV rfl Tryz.call184 (fun w' hw'=>ih2 w') ?_
       refine ko @Nat.add_zero ?_
       refine OwK.rest [5,9,10] [4,8] rfl (by kernel_rfl) (by kernel_rfl) ?_
       simp only[zu_, ↓zi_, ↓ze_, ↓zG_, ↓zF_,zf_]
       refine ko @e4 ?_
       first|with_reducible refine ks [] @Nat.add_zero ?_|refine kp @Nat.add_zero ?_
       refine⟨_,(ke @Nat.add_zero),⟨hw1,trivial⟩, ?_⟩
       rw[hc'];rfl
     ·refine Ow.callFV rfl Tryz.call184 (fun w' hw'=>ih2 w') ?_
      refine ko @Nat.add_zero ?_
      refine OwK.rest [4,5,9,10] [4,8] rfl (by kernel_rfl) (by kernel_rfl) ?_
      simp only[zu_, ↓zi_, ↓ze_, ↓zG_, ↓zF_,zf_]
      refine Ow.buildSlice (e:=5) #[v8 c] rfl rfl (by kernel_rfl) fun b1 hb1 hw1=> ?_
      rw[show(#[v8 c]:Array Value)=a8 [c] from rfl]
      have e4:List.take 1 (List.drop 0 [c])= [c]:=rfl
      refine ko @e4 ?_
      first|with_reducible refine ks [] @Nat.add_zero ?_|refine kp @Nat.add_zero ?_
      refine⟨_,(ke @Nat.add_zero),⟨hw1,trivial⟩, ?_⟩
      rw[hc'];rfl
theorem vh_ (s:List UInt8) (w:World) (hs:s.length<1099511627776):
  Rets Tryz.prog 154 #[vs s] w (fun v D=>v=vs (Q2_ s)∧D= []):=by
 have hnl:=jm_ (s.length:Int)
 refine Rets.enterV Tryz.func154 rfl (rs:= [.tmp 2]) Tryz.results154 Tryz.ntmps154 ?_
 refine kf ?_
 first|with_reducible refine ks [] @Nat.add_zero ?_|refine kp @Nat.add_zero ?_
 refine Ow.callFV rfl Tryz.call184 (fun w' hw'=>wM_ _ _ w' (Nat.le_refl _)) ?_
 refine ko @Nat.add_zero ?_
 first|with_reducible refine ks [] @Nat.add_zero ?_|refine kp @Nat.add_zero ?_
 refine⟨_,(ke @Nat.add_zero),trivial, ?_⟩
 rfl
theorem aaM_ (x:IdL) (w:World):
  Rets Tryz.prog 185 #[.agg (a8 x.l)] w (fun v D=>v=vs x.l∧D= []):=by
 have hxl:=x.h
 refine Rets.enterV Tryz.func185 rfl (rs:= [.tmp 2]) Tryz.results185 Tryz.ntmps185 ?_
 refine kf ?_
 first|with_reducible refine ks [] @Nat.add_zero ?_|refine kp @Nat.add_zero ?_
 refine Ow.box rfl rfl fun bx hbx hwx=> ?_
 simp only[qB_,qA_,qJ_,zg_,List.nil_append,List.cons_append]
 refine Ow.go rfl ?_
 simp(disch:=(first|assumption|omega| (simp only[VI_,Vi_,UInt64.reduceToNat];try omega))) only[↓Sx.S0,Sx.S1,Tryz.fx,Nat.reduceAdd,Nat.reducePow,Int.reducePow,Nat.reduceBEq, ↓reduceIte,UInt8.reduceToNat,UInt16.reduceToNat,UInt32.reduceToNat,UInt64.reduceToNat,Int.reduceToNat]
 have e4:List.take 32 (List.drop 0 x.l)=x.l:=by rw[List.drop_zero,List.take_of_length_le (by omega)]
 first|with_reducible refine ks [] @e4 ?_|refine kp @e4 ?_
 refine⟨_,(ke @Nat.add_zero),⟨hwx,trivial⟩, ?_⟩
 rfl
end Go.Proofs
end
section
open Go Go.Proofs Go.Sx Go.StP
namespace Go.Proofs
set_option maxRecDepth 10000
set_option maxHeartbeats 400000
set_option linter.unusedSimpArgs false
set_option linter.defProp false
def XV_:=And.intro (And.intro (And.intro (@kt_) (@vz_)) (And.intro (@vs_) (@jp_))) (And.intro (And.intro (@qn_) (@qv_)) (And.intro (@zd_) (@zc_)))
def entB (e:EntL):List UInt8:=(KS_ (jg_ e.kind)++Q2_ e.name)++e.id.l
def k9_ (l:List EntL):List UInt8:=(l.map entB).flatten
theorem V3_ {l:List EntL} {k:Nat} (hk:k<l.length):k9_ (l.take (k+1))=k9_ (l.take k)++entB (l.getD k x2_):=by
 unfold k9_
 rw[List.take_succ_eq_append_getElem hk,List.map_append,List.flatten_append,List.getD_eq_getElem?_getD,List.getElem?_eq_getElem hk]
 simp
theorem ae4_ {l:List EntL} {k:Nat} (hk:k<l.length):k9_ (l.take (k+1))=k9_ (l.take k)++KS_ (jg_ (l.getD k x2_).kind)++Q2_ (l.getD k x2_).name++ (l.getD k x2_).id.l:=by
 rw[V3_ hk];simp only[entB,List.append_assoc]
theorem wY_ {s:List UInt8} (h:s.length<1099511627776): (Q2_ s).length<1099511627783:=by
 have:=jm_ (s.length:Int)
 unfold Q2_;rw[List.length_append];omega
theorem acm_ {l:List EntL} (hsh:afU_ l): ∀k,k≤l.length→(k9_ (l.take k)).length≤k*1099511627830
 |0,_=>by simp[k9_]
 |k+1,hk=>by
  have ih:=acm_ hsh k (by omega)
  have h1:=wY_ (hsh k hk)
  have h2:=jm_ (l.getD k x2_).kind
  have h3:=(l.getD k x2_).id.h
  rw[V3_ hk]
  unfold entB
  simp only[List.length_append]
  omega
theorem WJ_ (v:Value) (l:List EntL) (w:World) (hv:EntS w v l) (hl:l.length<1000000) (hsh:afU_ l):
  Rets Tryz.prog 149 #[v] w (fun v' D=>v'=vs (k9_ l)∧D= []):=by
 obtain⟨b,off,arr,E,fz,hr⟩:=hv.row
 have ln:=hv.len
 refine Rets.enterV Tryz.func149 rfl (rs:= [.tmp 2]) Tryz.results149 Tryz.ntmps149 ?_
 refine kf ?_
 first|with_reducible refine ks [] (And.intro @XV_ @ln) ?_|refine kp (And.intro @XV_ @ln) ?_
 refine Cw.loopG (G:=Nat) [5,6,7,8,11,12,13,14,15,16,17,18,19,20,21,22,23,24,25,26,27,28,29,30,31,32,3,9,10,4] (fun g=> [(3,vs (k9_ (l.take g))),(4,vi g)]) (fun g=> []) (fun g=>g≤l.length) (fun g=>l.length - g) 0 rfl rfl ?_ ?_
 ·exact Nat.zero_le _
 ·intro k jk hk
  refine kv ?_
  have h1:k≤l.length:=hk
  clear hk
  by_cases hk:k<l.length
  ·have h0:0<l.length:=by omega
   have hbl:=hr.lt h0
   have r2:=hr.has h0
   have i2:=hr.idx true k hk
   have m0: ∀n,zl_ (some (false,n)) (some (.cells arr E fz)) (off+k*34)=some (vs (l.getD k x2_).name):=fun n=>W1_ hr hk n
   have m1: ∀n,zl_ (some (false,n)) (some (.cells arr E fz)) (off+k*34+1)=some (vi (l.getD k x2_).kind):=fun n=>agE_ hr hk n
   have m2:zl_ (some (true,32)) (some (.cells arr E fz)) (off+k*34+2)=some (.agg (a8 (l.getD k x2_).id.l)):=amp_ hr hk
   have hs:=hsh k hk
   have t1:=acm_ hsh k h1
   have t2:=wY_ hs
   have t3:=jm_ (l.getD k x2_).kind
   have t4:=(l.getD k x2_).id.h
   first|with_reducible refine ks [] (And.intro @XV_ @ln) ?_|refine kp (And.intro @XV_ @ln) ?_
   refine Cw.regionS [b] [0,1,2,3,4,8,9,10,11,15,16,17,18,5,12,19,6,7,13,14,20,21,22] [] (by kernel_rfl) (by kernel_rfl) (by kernel_rfl) ?_
   simp only[zu_, ↓zi_, ↓ze_, ↓zG_, ↓zF_,zf_]
   refine kq (And.intro @XV_ (And.intro @r2 (And.intro @i2 (And.intro @m0 (And.intro @m1 (@m2)))))) ?_
   refine Ow.callFV rfl Tryz.call184 (fun w' hw'=>wM_ _ _ w' (Nat.le_refl _)) ?_
   refine kq (And.intro @XV_ (And.intro @r2 (And.intro @i2 (And.intro @m0 (And.intro @m1 (@m2)))))) ?_
   refine Ow.callFV rfl Tryz.call154 (fun w' hw'=>vh_ _ w' hs) ?_
   refine kq (And.intro @XV_ (And.intro @r2 (And.intro @i2 (And.intro @m0 (And.intro @m1 (@m2)))))) ?_
   refine Ow.callFV rfl Tryz.call185 (fun w' hw'=>aaM_ _ w') ?_
   refine kq (And.intro @XV_ (And.intro @r2 (And.intro @i2 (And.intro @m0 (And.intro @m1 (@m2)))))) ?_
   exact Again.mk (k+1) (by omega) (by omega) rfl (by rw[ae4_ hk];rfl)
  ·obtain rfl:k=l.length:=by omega
   first|with_reducible refine ks [] (And.intro @XV_ @ln) ?_|refine kp (And.intro @XV_ @ln) ?_
   refine⟨_,(ke @XV_),trivial, ?_⟩
   rw[List.take_length];rfl
def idsB (l:List IdL):List UInt8:=(l.map IdL.l).flatten
theorem ai0_ {l:List IdL} {k:Nat} (hk:k<l.length):idsB (l.take (k+1))=idsB (l.take k)++ (l.getD k id0).l:=by
 unfold idsB
 rw[List.take_succ_eq_append_getElem hk,List.map_append,List.flatten_append,List.getD_eq_getElem?_getD,List.getElem?_eq_getElem hk]
 simp
theorem afQ_: ∀ (l:List IdL),(idsB l).length=l.length*32
 | []=>rfl
 |x::r=>by
  have h:=afQ_ r
  have:=x.h
  unfold idsB at h ⊢
  rw[List.map_cons,List.flatten_cons,List.length_append,h,List.length_cons]
  omega
def adL_ (c:ComL):List UInt8:=c.tree.l++KS_ (jg_ c.par.length)
def comB (c:ComL):List UInt8:=adL_ c++idsB c.par++Q2_ c.text
set_option linter.defProp false
def ZH_:=And.intro (And.intro (And.intro (@aip_) (@amM_)) (And.intro (@xE_) (And.intro (@zd_) (@zc_)))) (And.intro (And.intro (@wT_) (@wV_)) (And.intro (@w7_) (And.intro (@Z2_) (@kF_))))
theorem KA_ (v:Value) (c:ComL) (w:World) (hv:ComS w v c) (hl:c.par.length<1000000) (ht:c.text.length<1099511627776):
  Rets Tryz.prog 151 #[v] w (fun v' D=>v'=vs (comB c)∧D= []):=by
 obtain⟨p,rfl,hp⟩:=hv
 obtain⟨b,off,arr,E,fz,hr⟩:=hp.row
 have ln:=hp.len
 have t2:=wY_ ht
 have t3:=jm_ (c.par.length:Int)
 have t4:=c.tree.h
 have t5: (adL_ c).length≤38:=by unfold adL_;rw[List.length_append];omega
 refine Rets.enterV Tryz.func151 rfl (rs:= [.tmp 2]) Tryz.results151 Tryz.ntmps151 ?_
 refine kf ?_
 first|with_reducible refine ks [] @ZH_ ?_|refine kp @ZH_ ?_
 refine Ow.box rfl rfl fun bx hbx hwx=> ?_
 simp only[qB_,qA_,qJ_,zg_,List.nil_append,List.cons_append]
 refine Ow.go rfl ?_
 simp(disch:=(first|assumption|omega| (simp only[VI_,Vi_,UInt64.reduceToNat];try omega))) only[↓Sx.S0,Sx.S1,Tryz.fx,ZH_,Nat.reduceAdd,Nat.reducePow,Int.reducePow,Nat.reduceBEq, ↓reduceIte,UInt8.reduceToNat,UInt16.reduceToNat,UInt32.reduceToNat,UInt64.reduceToNat,Int.reduceToNat]
 first|with_reducible refine ks [] (And.intro @ZH_ @ln) ?_|refine kp (And.intro @ZH_ @ln) ?_
 refine Cw.regionS [bx] [0,3,1,4,5,2,6,7,8] [] (by kernel_rfl) (by kernel_rfl) (by kernel_rfl) ?_
 simp only[zu_, ↓zi_, ↓ze_, ↓zG_, ↓zF_,zf_]
 refine kq (And.intro @ZH_ @ln) ?_
 refine Ow.callFV rfl Tryz.call185 (fun w' hw'=>aaM_ _ w') ?_
 refine kq (And.intro @ZH_ @ln) ?_
 refine Ow.callFV rfl Tryz.call184 (fun w' hw'=>wM_ _ _ w' (Nat.le_refl _)) ?_
 refine kq (And.intro @ZH_ @ln) ?_
 rw[show c.tree.l++KS_ (jg_ c.par.length)=adL_ c++idsB (c.par.take 0) by simp[adL_,idsB]]
 refine Cw.loopG (G:=Nat) [13,14,15,16,17,20,21,22,23,24,25,26,27,3,18,19,4] (fun g=> [(3,vs (adL_ c++idsB (c.par.take g))),(4,vi g)]) (fun g=> [(bx, .cells (jl_ c.tree p c.text).toArray 172 (0,0))]) (fun g=>g≤c.par.length) (fun g=>c.par.length - g) 0 rfl rfl ?_ ?_
 ·exact Nat.zero_le _
 ·intro k jk hk
  refine kv ?_
  have h1:k≤c.par.length:=hk
  clear hk
  have t6:=afQ_ (c.par.take k)
  rw[List.length_take,Nat.min_eq_left h1] at t6
  by_cases hk:k<c.par.length
  ·have h0:0<c.par.length:=by omega
   have hbl:=hr.lt h0
   have hnb:bx≠b:=by omega
   have r2:=hr.has h0
   have i2:=hr.idx true k hk
   have l2:=akT_ hr hk
   have hxl:=(c.par.getD k id0).h
   first|with_reducible refine ks [] (And.intro @ZH_ (And.intro @ln (And.intro @r2 (And.intro @i2 (@l2))))) ?_|refine kp (And.intro @ZH_ (And.intro @ln (And.intro @r2 (And.intro @i2 (@l2))))) ?_
   refine Ow.callFV rfl Tryz.call185 (fun w' hw'=>aaM_ _ w') ?_
   refine ko (And.intro @ZH_ (And.intro @ln (And.intro @r2 (And.intro @i2 (@l2))))) ?_
   exact Again.mk (k+1) (by omega) (by omega) rfl (by rw[ai0_ hk,←List.append_assoc];rfl)
  ·obtain rfl:k=c.par.length:=by omega
   rw[List.take_length]
   rw[List.take_length] at t6
   first|with_reducible refine ks [] (And.intro @ZH_ @ln) ?_|refine kp (And.intro @ZH_ @ln) ?_
   refine Ow.callFV rfl Tryz.call154 (fun w' hw'=>vh_ _ w' ht) ?_
   refine ko @ZH_ ?_
   refine⟨_,(ke @ZH_),⟨hwx,trivial⟩, ?_⟩
   rfl
end Go.Proofs
end
section
open Go Go.Proofs Go.Sx Go.StP
namespace Go.Proofs
set_option maxRecDepth 10000
set_option maxHeartbeats 400000
set_option linter.unusedSimpArgs false
instance:DecidableEq EntL:=fun a b=>if h:a.name=b.name∧a.kind=b.kind∧a.id.l=b.id.l then .isTrue (by cases a;cases b;simp only at h;obtain⟨rfl,rfl,h3⟩:=h;rw[IdL.ext' h3]) else .isFalse (fun e=>h (by rw[e];exact⟨rfl,rfl,rfl⟩))
theorem EntL.ext' {a b:EntL} (h: (a.name==b.name&&a.kind==b.kind&&a.id.l==b.id.l)=true):a=b:=by
 simp only[Bool.and_eq_true,beq_iff_eq] at h
 cases a;cases b;simp only at h;obtain⟨⟨rfl,rfl⟩,h3⟩:=h;rw[IdL.ext' h3]
set_option linter.defProp false
def auI_:=And.intro (And.intro (And.intro (@kt_) (@vz_)) (And.intro (@vs_) (@jp_))) (And.intro (And.intro (@qn_) (@qv_)) (And.intro (@zd_) (And.intro (@zc_) (@asq_))))
end Go.Proofs
end
section
open Go Go.Proofs Go.Sx Go.StP
namespace Go.Proofs
set_option maxRecDepth 10000
set_option maxHeartbeats 400000
set_option linter.unusedSimpArgs false
structure SoG where
 g:Nat
 Z:List EntL
 v:Value
 D:za_
set_option linter.defProp false
def auv_:=And.intro (And.intro (And.intro (@kt_) (@vz_)) (And.intro (@vs_) (@jp_))) (And.intro (And.intro (@qn_) (@qv_)) (And.intro (@zd_) (@zc_)))
end Go.Proofs
end
section
open Go Go.Proofs Go.Sx Go.StP
namespace Go.Proofs
set_option maxRecDepth 10000
set_option maxHeartbeats 400000
set_option linter.unusedSimpArgs false
def JL_ (l:List UInt8):IdL:=if h:l.length=32 then⟨l,h⟩ else id0
theorem J2_ {l:List UInt8} (h:l.length=32): (JL_ l).l=l:=by unfold JL_;rw[dif_pos h]
theorem aaG_ (s:List UInt8) (a:Nat) (e:Int): (idR s a e).1.length=32:=by
 unfold idR
 simp only
 split
 ·assumption
 ·simp[z32]
theorem abY_ {s:List UInt8} {a:Nat} {e:Int} (ha:a≤s.length):a≤ (idR s a e).2.1∧(idR s a e).2.1≤s.length:=WM_ ha
theorem vW_ {s:List UInt8} {a:Nat} {e most:Int} (ha:a≤s.length):a≤ (z3_ s a e most).2.1∧(z3_ s a e most).2.1≤s.length:=by
 have hp:=jo_ (e:=e) (most:=most) ha
 have hq:=WM_ (e:=(zB_ s a e most).2.2) (n:=(zB_ s a e most).1) hp.2
 unfold z3_
 simp only
 split
 ·exact⟨Nat.le_refl _,ha⟩
 ·exact⟨by omega,hq.2⟩
theorem Xv_ (s:List UInt8) (a:Nat) (e most:Int): (z3_ s a e most).1.length≤s.length:=by
 have: ∀ (b:Nat) (e n:Int),(js_ s b e n).1.length≤s.length:=by
  intro b e n
  unfold js_
  split
  ·simp
  ·split
   ·simp
   ·split
    ·simp
    ·simp only[List.length_take,List.length_drop];omega
 unfold z3_
 simp only
 split
 ·simp
 ·exact this _ _ _
theorem agp_ {s:List UInt8} {a:Nat} {e n:Int} (he:e≠0): (js_ s a e n).2=(a,e):=by unfold js_;rw[if_pos he]
theorem ak7_ {s:List UInt8} {a:Nat} {e most:Int} (he:e≠0): (zB_ s a e most).2=(a,e):=by unfold zB_;rw[if_pos he]
theorem aau_ {s:List UInt8} {a:Nat} {e most:Int} (he:e≠0): (z3_ s a e most).2=(a,e):=by
 unfold z3_
 simp only[ak7_ he,agp_ he]
 rw[if_pos he]
theorem ajB_ {s:List UInt8} {a:Nat} {e:Int} (he:e≠0): (idR s a e).2=(a,e):=by unfold idR;simp only[agp_ he]
theorem akE_ {s:List UInt8} {a:Nat} {e n:Int} (h:e≠5): (js_ s a e n).2.2≠5:=by
 unfold js_
 split
 ·exact h
 ·split
  ·show(2:Int)≠5;decide
  ·split
   ·show(3:Int)≠5;decide
   ·show(0:Int)≠5;decide
theorem aoS_ (most:Int): ∀ (l:List UInt8) (k n x:Nat),ji_ most l k n= .error x→x≠5:=by
 intro l
 induction l with
 |nil=>intro k n x h;unfold ji_ at h;cases h;decide
 |cons c r ih=>
  intro k n x h
  unfold ji_ at h
  split at h
  ·split at h
   ·cases h;decide
   ·exact ih _ _ _ h
  ·split at h
   ·cases h;decide
   ·split at h
    ·cases h
    ·cases h;decide
theorem akd_ (most:Int): ∀ (l:List UInt8) (k n:Nat),ji_ most l k n≠ .error 0:=by
 intro l
 induction l with
 |nil=>intro k n h;unfold ji_ at h;cases h
 |cons c r ih=>
  intro k n h
  unfold ji_ at h
  split at h
  ·split at h
   ·cases h
   ·exact ih _ _ h
  ·split at h
   ·cases h
   ·split at h
    ·cases h
    ·cases h
theorem aiN_ {s:List UInt8} {a:Nat} {e most:Int} (h:e≠5): (zB_ s a e most).2.2≠5:=by
 unfold zB_
 split
 ·exact h
 ·split
  ·show(0:Int)≠5;decide
  ·rename_i x hx
   have:=aoS_ _ _ _ _ _ hx
   show((x:Nat):Int)≠5
   omega
theorem aoW_ {s:List UInt8} {a:Nat} {e most:Int} (h:e≠5): (z3_ s a e most).2.2≠5:=by
 unfold z3_
 simp only
 split
 ·exact akE_ (aiN_ h)
 ·exact akE_ (aiN_ h)
theorem asO_ {s:List UInt8} {a:Nat} {e:Int} (h:e≠5): (idR s a e).2.2≠5:=by unfold idR;exact akE_ h
theorem akb_ {s:List UInt8} {a:Nat} {e most:Int} (h: (zB_ s a e most).2.2=0):a< (zB_ s a e most).2.1:=by
 unfold zB_ at h ⊢
 split
 ·rename_i he
  rw[if_pos he] at h
  exact absurd h he
 ·rename_i he
  rw[if_neg he] at h
  split
  ·rename_i n k hk
   have:=W9_ _ _ _ _ _ _ hk
   show a<a+k
   omega
  ·rename_i x hx
   rw[hx] at h
   exfalso
   have:x=0:=by have: ((x:Nat):Int)=0:=h;omega
   subst this
   exact akd_ _ _ _ _ hx
def K4_ (s:List UInt8) (a:Nat) (e:Int):EntL×Nat×Int:=
 let p:=zB_ s a e 2
 let q:=z3_ s p.2.1 p.2.2 32
 let i:=idR s q.2.1 q.2.2
 (⟨q.1,p.1,JL_ i.1⟩,i.2)
theorem aeP_ {s:List UInt8} {a:Nat} {e:Int} (ha:a≤s.length):a≤ (K4_ s a e).2.1∧(K4_ s a e).2.1≤s.length:=by
 have h1:=jo_ (e:=e) (most:=2) ha
 have h2:=vW_ (e:=(zB_ s a e 2).2.2) (most:=32) h1.2
 have h3:=abY_ (e:=(z3_ s (zB_ s a e 2).2.1 (zB_ s a e 2).2.2 32).2.2) h2.2
 unfold K4_
 exact⟨by simp only;omega,h3.2⟩
theorem aq8_ {s:List UInt8} {a:Nat} {e:Int} (h:e≠5): (K4_ s a e).2.2≠5:=asO_ (aoW_ (aiN_ h))
theorem aiP_ {s:List UInt8} {a:Nat} {e:Int} (ha:a≤s.length) (h: (K4_ s a e).2.2=0):a< (K4_ s a e).2.1:=by
 have h1:=jo_ (e:=e) (most:=2) ha
 have h2:=vW_ (e:=(zB_ s a e 2).2.2) (most:=32) h1.2
 have h3:=abY_ (e:=(z3_ s (zB_ s a e 2).2.1 (zB_ s a e 2).2.2 32).2.2) h2.2
 unfold K4_ at h ⊢
 simp only at h ⊢
 have e2: (z3_ s (zB_ s a e 2).2.1 (zB_ s a e 2).2.2 32).2.2=0:=Decidable.byContradiction fun hn=>by rw[ajB_ hn] at h;exact hn h
 have e1: (zB_ s a e 2).2.2=0:=Decidable.byContradiction fun hn=>by rw[aau_ hn] at e2;exact hn e2
 have:=akb_ e1
 omega
def kV_ (s:List UInt8):Nat→Nat→Int→List EntL→List EntL×Nat×Int
 |0,a,e,l=>(l,a,e)
 |n+1,a,e,l=>if e=0∧a<s.length then kV_ s n (K4_ s a e).2.1 (K4_ s a e).2.2 (l++ [(K4_ s a e).1]) else(l,a,e)
theorem XJ_ {s:List UInt8} {n a:Nat} {e:Int} {l:List EntL} (h:e=0∧a<s.length):kV_ s (n+1) a e l=kV_ s n (K4_ s a e).2.1 (K4_ s a e).2.2 (l++ [(K4_ s a e).1]):=by rw[kV_,if_pos h]
theorem QL_ {s:List UInt8} {n a:Nat} {e:Int} {l:List EntL} (h: ¬ (e=0∧a<s.length)):kV_ s n a e l=(l,a,e):=by
 cases n with
 |zero=>rfl
 |succ n=>rw[kV_,if_neg h]
def xa_ (s:List UInt8):List EntL×Nat×Int:=kV_ s (s.length+1) 0 0 []
structure EntsJ (s:List UInt8) (n a:Nat) (e:Int) (l:List EntL):Prop where
 go:xa_ s=kV_ s n a e l
 le:a≤s.length
 five:e≠5
 fuel:e=0→s.length<a+n
 cnt:l.length+n=s.length+1
 short: ∀i,i<l.length→(l.getD i x2_).name.length≤s.length
theorem EntsJ.init (s:List UInt8):EntsJ s (s.length+1) 0 0 []:=⟨rfl,Nat.zero_le _,by decide,fun _=>by omega,by simp,fun i hi=>by simp at hi⟩
theorem EntsJ.next {s:List UInt8} {n a:Nat} {e:Int} {l:List EntL} (h:EntsJ s n a e l) (hc:e=0∧a<s.length): ∃m,n=m+1∧EntsJ s m (K4_ s a e).2.1 (K4_ s a e).2.2 (l++ [(K4_ s a e).1]):=by
 have:=h.fuel hc.1
 obtain⟨m,rfl⟩: ∃m,n=m+1:=⟨n - 1,by omega⟩
 refine⟨m,rfl,h.go.trans (XJ_ hc),(aeP_ h.le).2,aq8_ h.five,fun h0=> ?_, ?_,fun i hi=> ?_⟩
 ·have:=aiP_ h.le h0;omega
 ·have:=h.cnt;simp only[List.length_append,List.length_cons,List.length_nil];omega
 ·by_cases hlt:i<l.length
  ·rw[Wj_ hlt];exact h.short i hlt
  ·have:i=l.length:=by simp only[List.length_append,List.length_cons,List.length_nil] at hi;omega
   subst this
   rw[V4_ (Nat.le_refl _),Nat.sub_self]
   exact Xv_ _ _ _ _
theorem EntsJ.done {s:List UInt8} {n a:Nat} {e:Int} {l:List EntL} (h:EntsJ s n a e l) (hc: ¬ (e=0∧a<s.length)):xa_ s=(l,a,e):=h.go.trans (QL_ hc)
theorem EntsJ.sh {s:List UInt8} {n a:Nat} {e:Int} {l:List EntL} (h:EntsJ s n a e l) (hs:s.length<1000000):afU_ l:=fun i hi=>by have:=h.short i hi;omega
end Go.Proofs
end
section
open Go Go.Proofs Go.Sx Go.StP
namespace Go.Proofs
set_option maxRecDepth 10000
set_option maxHeartbeats 400000
set_option linter.unusedSimpArgs false
theorem adl_:j6_ (Zk_ Tryz.prog 221) (zX_ Tryz.prog 221) []=some (.agg (jX_ x2_).toArray):=by
 rw[show Zk_ Tryz.prog 221=some [(0,1),(1,1),(2,32)] from id (by kernel_rfl),amt_];rfl
theorem ai7_ (s:List UInt8):j6_ (Zk_ Tryz.prog 217) (zX_ Tryz.prog 217) [(0,vs s)]=some (.agg #[vs s,vi 0,vi 0]):=by
 have hp:Zk_ Tryz.prog 217=some [(0,1),(1,1),(2,1)]:=id (by kernel_rfl)
 have hz:zX_ Tryz.prog 217=some (.agg #[vs [],vi 0,vi 0]):=id (by kernel_rfl)
 rw[hp,hz];rfl
def adq_ (s:List UInt8):Option (List EntL):=if(xa_ s).2.2=0∧vt_ (xa_ s).1=true∧k9_ (xa_ s).1=s then some (xa_ s).1 else none
def ajV_ (s:List UInt8) (v:Value) (D:za_):Prop:=
 match adq_ s with
 |some l=> ∃v1,v= .tuple #[v1, .bool true]∧Gr D 221 34 v1 l.length (l.map jX_).flatten
 |none=>v= .tuple #[.slice none 0 0, .bool false]
structure EnG where
 n:Nat
 a:Nat
 e:Int
 l:List EntL
 v:Value
 D:za_
set_option linter.defProp false
def je_:=And.intro (And.intro (And.intro (@x6_) (And.intro (@kb_) (@kf_))) (And.intro (@xj_) (And.intro (@xt_) (@jp_)))) (And.intro (And.intro (@VV_) (And.intro (@VJ_) (@Wg_))) (And.intro (And.intro (@qn_) (@qv_)) (And.intro (@zd_) (@zc_))))
theorem aaE_ (s:List UInt8) (w:World) (hs:s.length<100000):
  Rets Tryz.prog 108 #[vs s] w (XS w [] (ajV_ s)):=by
 refine Rets.enterX Tryz.func108 rfl (rs:= [.tmp 2, .tmp 3]) Tryz.results108 Tryz.ntmps108 (fun p hp=>by cases hp) (by simp[keys]) ?_
 refine kf ?_
 first|with_reducible refine ks [] @je_ ?_|refine kp @je_ ?_
 refine Ow.build ((.agg #[vs s,vi 0,vi 0])) rfl (by kernel_rfl) ?_
 refine ko @je_ ?_
 refine Ow.box rfl rfl fun br hbr hwr=> ?_
 simp only[qB_,qA_,qJ_,zg_,List.nil_append]
 refine ko @je_ ?_
 refine Cw.loopG (G:=EnG) [10,11,12,13,14,15,16,17,18,19,20,21,22,23,24,6,25,26,27,28,29,30,31,32,33,34,35,36,37,5] (fun q=> [(5,q.v)]) (fun q=>(br, .cells #[vs s,vi q.a,vi q.e] 217 (0,0))::q.D) (fun q=>EntsJ s q.n q.a q.e q.l∧New (br+1) q.D∧Gr q.D 221 34 q.v q.l.length (q.l.map jX_).flatten) (fun q=>q.n) ⟨s.length+1,0,0,[], .slice none 0 0,[]⟩ rfl rfl ?_ ?_
 ·exact⟨EntsJ.init s,trivial,Gr.nl⟩
 ·intro q jq hq
  refine kv ?_
  obtain⟨n,a,e,l,v,D⟩:=q
  simp only at hq ⊢
  obtain⟨hJ,hN,hG⟩:=hq
  have hle:=hJ.le
  by_cases hc:e=0∧a<s.length
  ·obtain⟨m,rfl,hJ'⟩:=hJ.next hc
   obtain⟨he,hlt⟩:=hc
   have d1: (e==0)=true:=by simp[he]
   have d2:decide ((a:Int)< (s.length:Int))=true:=decide_eq_true (by omega)
   have hp:=jo_ (e:=e) (most:=2) hle
   have hq:=vW_ (e:=(zB_ s a e 2).2.2) (most:=32) hp.2
   have heq:K4_ s a e=(⟨(z3_ s (zB_ s a e 2).2.1 (zB_ s a e 2).2.2 32).1,(zB_ s a e 2).1,JL_ (idR s (z3_ s (zB_ s a e 2).2.1 (zB_ s a e 2).2.2 32).2.1 (z3_ s (zB_ s a e 2).2.1 (zB_ s a e 2).2.2 32).2.2).1⟩,(idR s (z3_ s (zB_ s a e 2).2.1 (zB_ s a e 2).2.2 32).2.1 (z3_ s (zB_ s a e 2).2.1 (zB_ s a e 2).2.2 32).2.2).2):=rfl
   have hil:=aaG_ s (z3_ s (zB_ s a e 2).2.1 (zB_ s a e 2).2.2 32).2.1 (z3_ s (zB_ s a e 2).2.1 (zB_ s a e 2).2.2 32).2.2
   first|with_reducible refine ks [] (And.intro @je_ (And.intro @d1 (@d2))) ?_|refine kp (And.intro @je_ (And.intro @d1 (@d2))) ?_
   refine Ow.build (.agg (jX_ x2_).toArray) rfl adl_ ?_
   refine ko @je_ ?_
   refine Ow.alloc rfl rfl amt_ fun b6 hb6 hw6=> ?_
   simp only[zg_,List.nil_append,List.cons_append]
   have hr6:br<b6:=zv_ hb6 (by simp[keys])
   refine Ow.permL (M:=(b6,Obj.cells (jX_ x2_).toArray 221 (0,0)):: (br, .cells #[vs s,vi a,vi e] 217 (0,0))::D) (by classical exact List.perm_iff_count.2 fun a=>by simp only[List.count_append,List.count_cons,List.count_nil]<;>omega) ?_
   refine ko @je_ ?_
   refine Ow.callM rfl rfl Tryz.call146 (by simp[keys]) (fun w' hw'=>xG_ br s a e 2 w' hle (by omega) (hw'.has _ _ (List.mem_cons_of_mem _ List.mem_cons_self))) ?_
   generalize zB_ s a e 2=p at*
   obtain⟨kd,a1,e1⟩:=p
   simp only at hp hq heq hil ⊢
   refine kn ?_
   refine ko @je_ ?_
   first|with_reducible refine ks [] @je_ ?_|refine kp @je_ ?_
   refine Ow.callM rfl rfl Tryz.call144 (by simp[keys]) (fun w' hw'=>k1_ br s a1 e1 32 w' hp.2 (by omega) (hw'.has _ _ (List.mem_cons_of_mem _ List.mem_cons_self))) ?_
   generalize z3_ s a1 e1 32=q at*
   obtain⟨tt,a2,e2⟩:=q
   simp only at hq heq hil ⊢
   refine kn ?_
   refine ko @je_ ?_
   first|with_reducible refine ks [] @je_ ?_|refine kp @je_ ?_
   refine Ow.callM rfl rfl Tryz.call147 (by simp[keys]) (fun w' hw'=>Q8_ br s a2 e2 w' hq.2 (by omega) (hw'.has _ _ (List.mem_cons_of_mem _ List.mem_cons_self))) ?_
   generalize idR s a2 e2=i at*
   obtain⟨il,a3,e3⟩:=i
   simp only at heq hil ⊢
   obtain⟨I,hI⟩: ∃I,JL_ il=I:=⟨_,rfl⟩
   have hiI:il=I.l:=by rw[←hI,J2_ hil]
   rw[hI] at heq
   rw[hiI]
   refine kn ?_
   refine ko @je_ ?_
   generalize hx: ({name:=tt,kind:=kd,id:=I}:EntL)=x
   rw[hx] at heq
   rw[heq] at hJ'
   refine Ow.buildSlice (e:=221) (jX_ x).toArray rfl rfl (q0_ Tryz.underlying168 an9_ amt_ (by decide) (xe_ x)) fun b13 hb13 hw13=> ?_
   have hr13:br<b13:=zv_ hb13 (by simp[keys])
   refine Ow.permL (M:=D++ ((b6,Obj.cells (jX_ x).toArray 221 (0,0)):: (br, .cells #[vs s,vi a3,vi e3] 217 (0,0)):: [(b13,Obj.cells (jX_ x).toArray 221 (0,0))])) (by classical exact List.perm_iff_count.2 fun a=>by simp only[List.count_append,List.count_cons,List.count_nil]<;>omega) ?_
   refine ko @je_ ?_
   refine Ow.appendX (e:=221) (k:=1) (new:=jX_ x) (X:=D) v rfl rfl rfl rfl Tryz.underlying168 an9_ (by kernel_rfl) amt_ (by rw[qv_,List.size_toArray,xe_]) Tryz.underlying168 (by intro k h;cases h) hG (fun w' hw'=>AppX.one1 (hw'.has b13 (.cells (jX_ x).toArray 221 (0,0)) (by simp)) (xe_ _) (W2_ _)) (by omega) (by have:=hJ.cnt;omega) (fun B v4 D4 hA4 hB4 hbuf hk1 hk2 hlk=> ?_)
   have hB13:b13<B:=zv_ hA4 (by simp[zs_,keys])
   have hN4:New (br+1) D4:=New.of_le fun q hq=>by
    rcases hk2 q hq with h|h
    ·exact hN.le q h
    ·omega
   refine Ow.permL (M:=(br, .cells #[vs s,vi a3,vi e3] 217 (0,0)):: (D4++ [(b6,Obj.cells (jX_ x).toArray 221 (0,0)),(b13,Obj.cells (jX_ x).toArray 221 (0,0))])) (by classical exact List.perm_iff_count.2 fun a=>by simp only[List.count_append,List.count_cons,List.count_nil]<;>omega) ?_
   refine ko @je_ ?_
   refine Again.mk (EnG.mk m a3 e3 (l++ [x]) v4 (D4++ [(b6,Obj.cells (jX_ x).toArray 221 (0,0)),(b13,Obj.cells (jX_ x).toArray 221 (0,0))])) (by show m<m+1;omega) ⟨hJ',hN4.app ⟨by omega,by omega,trivial⟩, ?_⟩ rfl rfl
   show Gr _ _ _ _ (l++ [x]).length ((l++ [x]).map jX_).flatten
   rw[List.length_append,List.map_append,List.flatten_append,show([x].map jX_).flatten=jX_ x by simp]
   exact Gr.app (.inl hbuf)
  ·have hd:=hJ.done hc
   have hsh:=hJ.sh (by omega)
   have hcn:=hJ.cnt
   have hR:adq_ s=if e=0∧vt_ l=true∧k9_ l=s then some l else none:=by unfold adq_;rw[hd]
   unfold ajV_
   rw[hR]
   have hNe:New w.heap.size ((br,Obj.cells #[vs s,vi a,vi e] 217 (0,0))::D):=⟨hwr,New.mono (by omega) hN⟩
   by_cases he:e=0
   ·have d1: (e==0)=true:=by simp[he]
    have d2:decide ((a:Int)< (s.length:Int))=false:=decide_eq_false (by omega)
    have hend: (if e≠0 then e else if(a:Int)< (s.length:Int) then 5 else 0)=(0:Int):=by rw[if_neg (by simp[he]),if_neg (by omega)]
    first|with_reducible refine ks [] (And.intro @je_ (And.intro @d1 (@d2))) ?_|refine kp (And.intro @je_ (And.intro @d1 (@d2))) ?_
    refine Ow.callFV rfl Tryz.call145 (fun w' hw'=>v1_ br s a e w' (hw'.has _ _ (by simp))) ?_
    rw[hend]
    have d4: ((0:Int) !=0)=false:=rfl
    refine ko (And.intro @je_ @d4) ?_
    refine Ow.callFV rfl Tryz.call148 (fun w' hw'=>Vu_ v l w' (hG.slM (fun b o hm=>hw'.has b o (by simp[hm])) rfl rfl xe_) (by omega) hsh) ?_
    cases hr:vt_ l
    ·rw[if_neg (by simp)]
     refine ko @je_ ?_
     first|with_reducible refine ks [] @je_ ?_|refine kp @je_ ?_
     refine⟨_,(ke @je_), ?_⟩
     exact⟨Ext.of_new hNe,rfl⟩
    ·refine ko @je_ ?_
     refine Ow.callFV rfl Tryz.call149 (fun w' hw'=>WJ_ v l w' (hG.slM (fun b o hm=>hw'.has b o (by simp[hm])) rfl rfl xe_) (by omega) hsh) ?_
     by_cases hb:k9_ l=s
     ·have d3: (k9_ l !=s)=false:=by simp[hb]
      rw[if_pos ⟨he,rfl,hb⟩]
      refine ko (And.intro @je_ @d3) ?_
      first|with_reducible refine ks [] @je_ ?_|refine kp @je_ ?_
      refine⟨_,(ke @je_), ?_⟩
      exact⟨Ext.of_new hNe,v,rfl,hG.keep fun b o hb ho=>by rw[Sx.look,if_neg (by have:=hN.le b (zh_ ho);omega)];exact ho⟩
     ·have d3: (k9_ l !=s)=true:=by simp[hb]
      rw[if_neg (fun h=>hb h.2.2)]
      refine ko (And.intro @je_ @d3) ?_
      first|with_reducible refine ks [] @je_ ?_|refine kp @je_ ?_
      refine⟨_,(ke @je_), ?_⟩
      exact⟨Ext.of_new hNe,rfl⟩
   ·have d1: (e==0)=false:=by simp[he]
    have d3: (e !=0)=true:=by simp[he]
    have hend: (if e≠0 then e else if(a:Int)< (s.length:Int) then 5 else 0)=e:=by rw[if_pos he]
    rw[if_neg (fun h=>he h.1)]
    first|with_reducible refine ks [] (And.intro @je_ @d1) ?_|refine kp (And.intro @je_ @d1) ?_
    refine Ow.callFV rfl Tryz.call145 (fun w' hw'=>v1_ br s a e w' (hw'.has _ _ (by simp))) ?_
    rw[hend]
    refine ko (And.intro @je_ @d3) ?_
    first|with_reducible refine ks [] @je_ ?_|refine kp @je_ ?_
    refine⟨_,(ke @je_), ?_⟩
    exact⟨Ext.of_new hNe,rfl⟩
end Go.Proofs
end
section
open Go Go.Proofs Go.Sx Go.StP
namespace Go.Proofs
set_option maxRecDepth 10000
set_option maxHeartbeats 400000
set_option linter.unusedSimpArgs false
theorem ZC_ (most:Int): ∀ (l:List UInt8) (k n m k':Nat),ji_ most l k n= .ok (m,k')→(m:Int)≤most
 | [],_,_,_,_,h=>by simp[ji_] at h
 |c::r,k,n,m,k',h=>by
  unfold ji_ at h
  split at h
  ·split at h
   ·cases h
   ·exact ZC_ most r _ _ _ _ h
  ·split at h
   ·cases h
   ·split at h
    ·rename_i hh
     cases h
     exact hh.2
    ·cases h
theorem jJ_ {s:List UInt8} {a:Nat} {e most:Int} (h0:0≤most):0≤ (zB_ s a e most).1∧(zB_ s a e most).1≤most:=by
 unfold zB_
 split
 ·exact⟨Int.le_refl 0,h0⟩
 ·split
  ·rename_i n k h
   exact⟨Int.natCast_nonneg _,ZC_ most _ _ _ _ _ h⟩
  ·exact⟨Int.le_refl 0,h0⟩
def qH_ (s:List UInt8) (a:Nat) (e:Int):Nat→List IdL×Nat×Int
 |0=>([],a,e)
 |n+1=>let p:=qH_ s a e n;let i:=idR s p.2.1 p.2.2;(p.1++ [JL_ i.1],i.2)
theorem XF_ (s:List UInt8) (a:Nat) (e:Int): ∀n,(qH_ s a e n).1.length=n
 |0=>rfl
 |n+1=>by simp only[qH_,List.length_append,List.length_cons,List.length_nil,XF_ s a e n]
theorem Xd_ {s:List UInt8} {a:Nat} {e:Int} (ha:a≤s.length): ∀n,(qH_ s a e n).2.1≤s.length
 |0=>ha
 |n+1=>(abY_ (Xd_ ha n)).2
def comN (s:List UInt8):Int×Nat×Int:=zB_ s (idR s 0 0).2.1 (idR s 0 0).2.2 4
def Xq_ (s:List UInt8):List IdL×Nat×Int:=qH_ s (comN s).2.1 (comN s).2.2 (comN s).1.toNat
def comT (s:List UInt8):List UInt8×Nat×Int:=z3_ s (Xq_ s).2.1 (Xq_ s).2.2 64
def Zy_ (s:List UInt8):ComL×Nat×Int:=(⟨JL_ (idR s 0 0).1,(Xq_ s).1,(comT s).1⟩,(comT s).2)
def vO_ (s:List UInt8) (a:Nat) (e:Int):Int:=if e≠0 then e else if(a:Int)< (s.length:Int) then 5 else 0
def aen_ (s:List UInt8):Option ComL:=if vO_ s (Zy_ s).2.1 (Zy_ s).2.2=0∧ZQ_ (Zy_ s).1=true∧comB (Zy_ s).1=s then some (Zy_ s).1 else none
theorem agJ_ (t x:IdL) (p:Value) (y:List UInt8) (a:Bool) (E:TypeId):zr_ (some (a,32)) (some (.cells (jl_ t p y).toArray E (0,0))) 0 (.agg (a8 x.l))=some (.cells (jl_ x p y).toArray E (0,0)):=
 zN_ [] _ _ _ a _ E rfl (by simp[t.h]) (zg_ _) (by simp[x.h]) (ZU_ _)
theorem ahD_ (t:IdL) (p q:Value) (y:List UInt8) (a:Bool) (E:TypeId) (hq:Value.oneCell' q=true∧q.cells= #[q]):zr_ (some (a,1)) (some (.cells (jl_ t p y).toArray E (0,0))) 32 q=some (.cells (jl_ t q y).toArray E (0,0)):=
 zN_ (t.l.map v8) [p] [q] [vs y] a _ E (by simp[t.h]) rfl hq.2 rfl (by simp[hq.1])
theorem agQ_ (t:IdL) (p:Value) (y z:List UInt8) (a:Bool) (E:TypeId):zr_ (some (a,1)) (some (.cells (jl_ t p y).toArray E (0,0))) 33 (vs z)=some (.cells (jl_ t p z).toArray E (0,0)):=by
 have e: ∀y,jl_ t p y=(t.l.map v8++ [p])++ ([vs y]++ []):=fun y=>by unfold jl_;simp only[List.append_assoc,List.append_nil]
 rw[e,e];exact zN_ _ _ _ _ a _ E (by simp[t.h]) rfl rfl rfl rfl
theorem anE_:zX_ Tryz.prog 172=some (.agg (jl_ id0 (.slice none 0 0) []).toArray):=id (by kernel_rfl)
theorem Zj_:j6_ (Zk_ Tryz.prog 172) (zX_ Tryz.prog 172) []=some (.agg (jl_ id0 (.slice none 0 0) []).toArray):=by
 rw[show Zk_ Tryz.prog 172=some [(0,32),(32,1),(33,1)] from id (by kernel_rfl),anE_];rfl
theorem afV_:zZ_ Tryz.prog 84=some (true,32):=id (by kernel_rfl)
theorem ag7_:zX_ Tryz.prog 84=some (.agg (a8 id0.l)):=id (by kernel_rfl)
end Go.Proofs
end
section
open Go Go.Proofs Go.Sx Go.StP
namespace Go.Proofs
set_option maxRecDepth 10000
set_option maxHeartbeats 400000
set_option linter.unusedSimpArgs false
theorem ab1_ {b:Nat} {x:Obj}: ∀ {D L:za_},b∉keys D→setB (D++L) b x=D++setB L b x
 | [],_,_=>rfl
 | (c,y)::r,L,h=>by
  simp only[keys,List.map_cons,List.mem_cons,not_or] at h
  rw[List.cons_append,QN_ _ _ _ _ _ (Ne.symm h.1),ab1_ (by simpa [keys] using h.2)];rfl
def akL_ (s:List UInt8) (v:Value) (D:za_):Prop:=
 match aen_ s with
 |some c=> ∃p,v= .tuple #[.agg (jl_ c.tree p c.text).toArray, .bool true]∧Gr D 84 32 p c.par.length (c.par.map J5_).flatten
 |none=>v= .tuple #[.agg (jl_ id0 (.slice none 0 0) []).toArray, .bool false]
theorem JF_ (b:Nat) (s:List UInt8) (a:Nat) (e:Int) (w:World) (ho:w.heap[b]? =some (.cells #[vs s,vi a,vi e] 217 (0,0))):
  Rets Tryz.prog 145 #[vp b 0] w (fun v D=>v=vi (vO_ s a e)∧D= []):=v1_ b s a e w ho
structure CmG where
 g:Nat
 v:Value
 D:za_
set_option linter.defProp false
def q8_:=And.intro (And.intro (And.intro (@x6_) (And.intro (@kb_) (@kf_))) (And.intro (And.intro (@xj_) (@xt_)) (And.intro (@wT_) (@wV_)))) (And.intro (And.intro (@w7_) (And.intro (@Z2_) (@kF_))) (And.intro (And.intro (@agJ_) (@agQ_)) (And.intro (@zd_) (@zc_))))
theorem aac_ (s:List UInt8) (w:World) (hs:s.length<100000):
  Rets Tryz.prog 109 #[vs s] w (XS w [] (akL_ s)):=by
 refine Rets.enterX Tryz.func109 rfl (rs:= [.cell 2 172, .tmp 3]) Tryz.results109 Tryz.ntmps109 (fun p hp=>by cases hp) (by simp[keys]) ?_
 refine kf ?_
 first|with_reducible refine ks [] @q8_ ?_|refine kp @q8_ ?_
 refine Ow.alloc rfl rfl anE_ fun b2 hb2 hw2=> ?_
 simp only[zg_,List.nil_append,List.cons_append]
 refine ko @q8_ ?_
 refine Ow.build ((.agg #[vs s,vi 0,vi 0])) rfl (by kernel_rfl) ?_
 refine ko @q8_ ?_
 refine Ow.box rfl rfl fun br hbr hwr=> ?_
 have h2r:b2<br:=zv_ hbr (by simp[keys])
 simp only[qB_,qA_,qJ_,zg_,List.nil_append,List.cons_append]
 refine ko @q8_ ?_
 refine Ow.build (.agg (jl_ id0 (.slice none 0 0) []).toArray) rfl Zj_ ?_
 refine ko @q8_ ?_
 refine Ow.alloc rfl rfl anE_ fun b5 hb5 hw5=> ?_
 simp only[zg_,List.nil_append,List.cons_append]
 have h25:b2<b5:=zv_ hb5 (by simp[keys])
 have hr5:br<b5:=zv_ hb5 (by simp[keys])
 have st5: ∀a E,zr_ (some (a,34)) (some (.cells (jl_ id0 (.slice none 0 0) []).toArray E (0,0))) 0 (.agg (jl_ id0 (.slice none 0 0) []).toArray)=some (.cells (jl_ id0 (.slice none 0 0) []).toArray E (0,0)):=fun a E=>KH_ _ _ _ _ a E (by rw[List.size_toArray,Zn_]) rfl
 refine ko (And.intro @q8_ @st5) ?_
 refine Ow.callM rfl rfl Tryz.call147 (by simp[keys]) (fun w' hw'=>Q8_ br s 0 0 w' (Nat.zero_le _) (by omega) (hw'.has _ _ (List.mem_cons_of_mem _ List.mem_cons_self))) ?_
 have ip:=abY_ (s:=s) (a:=0) (e:=0) (Nat.zero_le _)
 have np:=jo_ (e:=(idR s 0 0).2.2) (most:=4) ip.2
 have nm:=jJ_ (s:=s) (a:=(idR s 0 0).2.1) (e:=(idR s 0 0).2.2) (most:=4) (by decide)
 obtain⟨T,hT⟩: ∃T,JL_ (idR s 0 0).1=T:=⟨_,rfl⟩
 have hiT: (idR s 0 0).1=T.l:=by rw[←hT,J2_ (aaG_ s 0 0)]
 have hcE:Zy_ s=(⟨T,(Xq_ s).1,(comT s).1⟩,(comT s).2):=by unfold Zy_;rw[hT]
 rw[hiT]
 refine kn ?_
 refine ko @q8_ ?_
 refine Ow.callM rfl rfl Tryz.call146 (by simp[keys]) (fun w' hw'=>xG_ br s _ _ 4 w' ip.2 (by omega) (hw'.has _ _ (List.mem_cons_of_mem _ List.mem_cons_self))) ?_
 have hP:Xq_ s=qH_ s (zB_ s (idR s 0 0).2.1 (idR s 0 0).2.2 4).2.1 (zB_ s (idR s 0 0).2.1 (idR s 0 0).2.2 4).2.2 (zB_ s (idR s 0 0).2.1 (idR s 0 0).2.2 4).1.toNat:=rfl
 generalize zB_ s (idR s 0 0).2.1 (idR s 0 0).2.2 4=nr at*
 obtain⟨cn,na,ne⟩:=nr
 simp only at np nm hP ⊢
 obtain⟨k,rfl⟩:=Int.eq_ofNat_of_zero_le nm.1
 rw[Int.toNat_natCast] at hP
 refine kn ?_
 refine ko @q8_ ?_
 refine Cw.permL (M:=(b5, .cells (jl_ T (.slice none 0 0) []).toArray 172 (0,0)):: (br, .cells #[vs s,vi na,vi ne] 217 (0,0)):: (b2, .cells (jl_ id0 (.slice none 0 0) []).toArray 172 (0,0)):: []) (by classical exact List.perm_iff_count.2 fun a=>by simp only[List.count_append,List.count_cons,List.count_nil]<;>omega) ?_
 refine Cw.loopG (G:=CmG) [17,18,19,22,23,24,25,26,27,28,20,21,7] (fun q=> [(7,vi q.g)]) (fun q=>(b5, .cells (jl_ T q.v []).toArray 172 (0,0)):: (br, .cells #[vs s,vi (qH_ s na ne q.g).2.1,vi (qH_ s na ne q.g).2.2] 217 (0,0)):: (b2, .cells (jl_ id0 (.slice none 0 0) []).toArray 172 (0,0))::q.D) (fun q=>q.g≤k∧New (b5+1) q.D∧Gr q.D 84 32 q.v q.g ((qH_ s na ne q.g).1.map J5_).flatten) (fun q=>k - q.g) ⟨0, .slice none 0 0,[]⟩ rfl rfl ?_ ?_
 ·exact⟨Nat.zero_le _,trivial,Gr.nl⟩
 ·intro q jq hq
  refine kv ?_
  obtain⟨g,v,D⟩:=q
  simp only at hq ⊢
  obtain⟨hgk,hN,hG⟩:=hq
  have gle:=Xd_ (e:=ne) np.2 g
  by_cases hlt:g<k
  ·have hgs:qH_ s na ne (g+1)=((qH_ s na ne g).1++ [JL_ (idR s (qH_ s na ne g).2.1 (qH_ s na ne g).2.2).1],(idR s (qH_ s na ne g).2.1 (qH_ s na ne g).2.2).2):=rfl
   first|with_reducible refine ks [7] @q8_ ?_|refine kp @q8_ ?_
   refine Cw.regionS [b5] [0,2,1,3,4,5,6,7] [7] (by kernel_rfl) (by kernel_rfl) (by kernel_rfl) ?_
   simp only[zu_, ↓zi_, ↓ze_, ↓zG_, ↓zF_,zf_]
   refine kq @q8_ ?_
   refine Ow.soft rfl rfl rfl ?_
   refine Ow.callM rfl rfl Tryz.call147 (by simp[keys]) (fun w' hw'=>Q8_ br s (qH_ s na ne g).2.1 (qH_ s na ne g).2.2 w' gle (by omega) (hw'.has _ _ (List.mem_cons_of_mem _ List.mem_cons_self))) ?_
   with_reducible refine Ow.nil ?_
   refine⟨fun b hb=>abj_ (by simp only[List.mem_cons,List.not_mem_nil,or_false] at hb;omega), ?_⟩
   have hil:=aaG_ s (qH_ s na ne g).2.1 (qH_ s na ne g).2.2
   obtain⟨I,hI⟩: ∃I,JL_ (idR s (qH_ s na ne g).2.1 (qH_ s na ne g).2.2).1=I:=⟨_,rfl⟩
   have hiI: (idR s (qH_ s na ne g).2.1 (qH_ s na ne g).2.2).1=I.l:=by rw[←hI,J2_ hil]
   rw[hI] at hgs
   have hg1: (qH_ s na ne (g+1)).1=(qH_ s na ne g).1++ [I]:=by rw[hgs]
   have hg2: (qH_ s na ne (g+1)).2=(idR s (qH_ s na ne g).2.1 (qH_ s na ne g).2.2).2:=by rw[hgs]
   rw[hiI,←hg2]
   refine kn ?_
   refine Ow.soft rfl rfl rfl ?_
   refine Ow.buildSlice (e:=84) (a8 I.l) rfl rfl (q0_ (cs:=I.l.map v8) Tryz.underlying106 afV_ ag7_ (by decide) (by simp[I.h])) fun b13 hb13 hw13=> ?_
   have hr13:b5<b13:=zv_ hb13 (by simp[keys])
   with_reducible refine Ow.nil ?_
   refine⟨kj_ (by simp[keys]), ?_⟩
   try simp only[List.cons_append,List.nil_append]
   refine Ow.soft rfl rfl rfl ?_
   refine Ow.permL (M:=D++ ((b5,Obj.cells (jl_ T v []).toArray 172 (0,0)):: (br,Obj.cells #[vs s,vi (qH_ s na ne (g+1)).2.1,vi (qH_ s na ne (g+1)).2.2] 217 (0,0)):: (b2,Obj.cells (jl_ id0 (.slice none 0 0) []).toArray 172 (0,0)):: [(b13,Obj.cells (a8 I.l) 84 (0,0))])) (by classical exact List.perm_iff_count.2 fun a=>by simp only[List.count_append,List.count_cons,List.count_nil]<;>omega) ?_
   refine Ow.appendX (e:=84) (k:=1) (new:=J5_ I) (X:=D) v rfl rfl rfl rfl Tryz.underlying106 afV_ (by kernel_rfl) ag7_ (by rw[zg_,Q5_,id0.h]) Tryz.underlying106 (by intro k h;cases h) hG (fun w' hw'=>AppX.one1 (hw'.has b13 (.cells (a8 I.l) 84 (0,0)) (by simp)) (w5_ I) (aaZ_ I)) (by omega) (by omega) (fun B v4 D4 hA4 hB4 hbuf hk1 hk2 hlk=> ?_)
   have hB13:b13<B:=zv_ hA4 (by simp[zs_,keys])
   have hN4:New (b5+1) D4:=New.of_le fun q hq=>by
    rcases hk2 q hq with h|h
    ·exact hN.le q h
    ·omega
   have h54:b5∉keys D4:=hN4.not (by omega)
   with_reducible refine Ow.nil ?_
   refine⟨fun q hq=> ?_, ?_⟩
   ·rw[List.mem_singleton] at hq
    subst hq
    rw[ahd_ h54]
    simp only[wC_]
   have hlk5: ∀M,Sx.look (D4++M) b5=Sx.look M b5:=fun M=>zW_ h54
   have hsb5: ∀M x,setB (D4++M) b5 x=D4++setB M b5 x:=fun M x=>ab1_ h54
   have st5:=fun a E=>ahD_ T v v4 [] a E hbuf.cell
   refine kq (And.intro @q8_ (And.intro @hlk5 (And.intro @hsb5 (And.intro @st5 (@KP_))))) ?_
   have hst7:kS_ (zZ_ Tryz.prog 106) (D4++ [(b5,Obj.cells (jl_ T v []).toArray 172 (0,0)),(br,Obj.cells #[vs s,vi (qH_ s na ne (g+1)).2.1,vi (qH_ s na ne (g+1)).2.2] 217 (0,0)),(b2,Obj.cells (jl_ id0 (.slice none 0 0) []).toArray 172 (0,0)),(b13,Obj.cells (a8 I.l) 84 (0,0))]) (vp b5 32) v4=
     some (D4++ [(b5,Obj.cells (jl_ T v4 []).toArray 172 (0,0)),(br,Obj.cells #[vs s,vi (qH_ s na ne (g+1)).2.1,vi (qH_ s na ne (g+1)).2.2] 217 (0,0)),(b2,Obj.cells (jl_ id0 (.slice none 0 0) []).toArray 172 (0,0)),(b13,Obj.cells (a8 I.l) 84 (0,0))]):=by
    rw[Tryz.ag106,acf_,hlk5]
    simp only[xT_,st5,agn_,hsb5,ZW_]
   refine Ow.store rfl rfl rfl hst7 ?_
   refine ko @q8_ ?_
   refine Cw.permL (M:=(b5,Obj.cells (jl_ T v4 []).toArray 172 (0,0)):: (br,Obj.cells #[vs s,vi (qH_ s na ne (g+1)).2.1,vi (qH_ s na ne (g+1)).2.2] 217 (0,0)):: (b2,Obj.cells (jl_ id0 (.slice none 0 0) []).toArray 172 (0,0)):: (D4++ [(b13,Obj.cells (a8 I.l) 84 (0,0))])) (by classical exact List.perm_iff_count.2 fun a=>by simp only[List.count_append,List.count_cons,List.count_nil]<;>omega) ?_
   first|with_reducible refine ks [] @q8_ ?_|refine kp @q8_ ?_
   refine Again.mk (CmG.mk (g+1) v4 (D4++ [(b13,Obj.cells (a8 I.l) 84 (0,0))])) (by show k - (g+1)<k - g;omega) ⟨by show g+1≤k;omega,hN4.app ⟨by omega,trivial⟩, ?_⟩ rfl rfl
   show Gr _ _ _ _ (g+1) ((qH_ s na ne (g+1)).1.map J5_).flatten
   rw[hg1,List.map_append,List.flatten_append,show([I].map J5_).flatten=J5_ I by simp]
   exact Gr.app (.inl hbuf)
  ·obtain rfl:g=k:=by omega
   rw[←hP] at hG
   rw[←hP] at gle
   rw[←hP]
   have tp:=vW_ (e:=(Xq_ s).2.2) (most:=64) gle
   first|with_reducible refine ks [] @q8_ ?_|refine kp @q8_ ?_
   refine Ow.callM rfl rfl Tryz.call144 (by simp[keys]) (fun w' hw'=>k1_ br s (Xq_ s).2.1 (Xq_ s).2.2 64 w' gle (by omega) (hw'.has _ _ (List.mem_cons_of_mem _ List.mem_cons_self))) ?_
   refine kn ?_
   refine ko @q8_ ?_
   have hT2:comT s=z3_ s (Xq_ s).2.1 (Xq_ s).2.2 64:=rfl
   have htl:=Xv_ s (Xq_ s).2.1 (Xq_ s).2.2 64
   rw[hT2] at hcE
   generalize z3_ s (Xq_ s).2.1 (Xq_ s).2.2 64=tx at*
   obtain⟨tt,a3,e3⟩:=tx
   simp only at tp hcE htl ⊢
   have hPl: (Xq_ s).1.length=g:=by rw[hP,XF_]
   generalize (Xq_ s).1=pl at*
   have hg4:g≤4:=by omega
   have hC: ∀w',Hp w ((b5,Obj.cells (jl_ T v tt).toArray 172 (0,0)):: (br, .cells #[vs s,vi a3,vi e3] 217 (0,0)):: (b2,Obj.cells (jl_ id0 (.slice none 0 0) []).toArray 172 (0,0))::D) w'→ComS w' (.agg (jl_ T v tt).toArray) ⟨T,pl,tt⟩:=fun w' hw'=>
    ⟨v,rfl,hG.slM (fun b o hm=>hw'.has b o (by simp[hm])) hPl rfl w5_⟩
   have hNe:New w.heap.size ((b5,Obj.cells (jl_ T v tt).toArray 172 (0,0)):: (br, .cells #[vs s,vi a3,vi e3] 217 (0,0)):: (b2,Obj.cells (jl_ id0 (.slice none 0 0) []).toArray 172 (0,0))::D):=⟨hw5,hwr,hw2,New.mono (by omega) hN⟩
   have hR:aen_ s=if vO_ s a3 e3=0∧ZQ_ ⟨T,pl,tt⟩=true∧comB ⟨T,pl,tt⟩=s then some ⟨T,pl,tt⟩ else none:=by unfold aen_;rw[hcE]
   have stz: ∀a E,zr_ (some (a,34)) (some (.cells (jl_ id0 (.slice none 0 0) []).toArray E (0,0))) 0 (.agg (jl_ id0 (.slice none 0 0) []).toArray)=some (.cells (jl_ id0 (.slice none 0 0) []).toArray E (0,0)):=st5
   unfold akL_
   rw[hR]
   refine Ow.callFV rfl Tryz.call145 (fun w' hw'=>JF_ br s a3 e3 w' (hw'.has _ _ (List.mem_cons_of_mem _ List.mem_cons_self))) ?_
   by_cases he:vO_ s a3 e3=0
   ·have d1: (vO_ s a3 e3 !=0)=false:=by simp[he]
    refine ko (And.intro @q8_ @d1) ?_
    refine Ow.callFV rfl Tryz.call150 (fun w' hw'=>JR_ _ _ w' (hC w' hw') (by show pl.length<1000000;omega) (by show tt.length<1099511627776;omega)) ?_
    cases hr:ZQ_ ⟨T,pl,tt⟩
    ·rw[if_neg (by simp)]
     refine ko @q8_ ?_
     refine Ow.build (.agg (jl_ id0 (.slice none 0 0) []).toArray) rfl Zj_ ?_
     refine ko (And.intro @q8_ @stz) ?_
     first|with_reducible refine ks [] @q8_ ?_|refine kp @q8_ ?_
     refine⟨_,(ke @q8_), ?_⟩
     exact⟨Ext.of_new hNe,rfl⟩
    ·refine ko @q8_ ?_
     refine Ow.callFV rfl Tryz.call151 (fun w' hw'=>KA_ _ _ w' (hC w' hw') (by show pl.length<1000000;omega) (by show tt.length<1099511627776;omega)) ?_
     by_cases hb:comB ⟨T,pl,tt⟩=s
     ·have d3: (comB ⟨T,pl,tt⟩ !=s)=false:=by simp[hb]
      have stq: ∀a E,zr_ (some (a,34)) (some (.cells (jl_ id0 (.slice none 0 0) []).toArray E (0,0))) 0 (.agg (jl_ T v tt).toArray)=some (.cells (jl_ T v tt).toArray E (0,0)):=fun a E=>KH_ _ _ _ _ a E (by rw[List.size_toArray,Zn_]) hG.cell.1
      rw[if_pos ⟨he,rfl,hb⟩]
      refine ko (And.intro @q8_ (And.intro @d3 (@stq))) ?_
      first|with_reducible refine ks [] @q8_ ?_|refine kp @q8_ ?_
      refine⟨_,(ke @q8_), ?_⟩
      refine⟨Ext.of_new ⟨hw5,hwr,hw2,New.mono (by omega) hN⟩,v,rfl, ?_⟩
      show Gr _ _ _ _ pl.length (pl.map J5_).flatten
      rw[hPl]
      exact hG.keep fun b o hb ho=>by
       have:=hN.le b (zh_ ho)
       simp(disch:=omega) only[vq_]
       exact ho
     ·have d3: (comB ⟨T,pl,tt⟩ !=s)=true:=by simp[hb]
      rw[if_neg (fun h=>hb h.2.2)]
      refine ko (And.intro @q8_ @d3) ?_
      refine Ow.build (.agg (jl_ id0 (.slice none 0 0) []).toArray) rfl Zj_ ?_
      refine ko (And.intro @q8_ @stz) ?_
      first|with_reducible refine ks [] @q8_ ?_|refine kp @q8_ ?_
      refine⟨_,(ke @q8_), ?_⟩
      exact⟨Ext.of_new hNe,rfl⟩
   ·have d1: (vO_ s a3 e3 !=0)=true:=by simp[he]
    rw[if_neg (fun h=>he h.1)]
    refine ko (And.intro @q8_ @d1) ?_
    refine Ow.build (.agg (jl_ id0 (.slice none 0 0) []).toArray) rfl Zj_ ?_
    refine ko (And.intro @q8_ @stz) ?_
    first|with_reducible refine ks [] @q8_ ?_|refine kp @q8_ ?_
    refine⟨_,(ke @q8_), ?_⟩
    exact⟨Ext.of_new hNe,rfl⟩
end Go.Proofs
end
