/-
  Part 1 of the walk: contracts of the functions that the law reaches, and the calculus they stand on.
  No conditions.
-/
import Derived.Test.YtjjiclcgdngfdaaGreatDoorM0
import Derived.Maps.RangeRun
import Derived.RangeFuncLeaves
import Derived.RangeFuncIn
import Derived.RangeFuncSeq
import Derived.RangeFuncRecord
import Derived.TacticsIn
import Derived.Test.YtjjiclcgdngfdaaGreatDoorProg
namespace Go.Sx
open Go
section
variable {P:Program} {w0:World} {l:List Oper} {R ts:List Nat} {n:Nat} {listed:List Bool} {f:Fr} {L:zb_} {N:Fr→zb_→Prop}
def OwG (P:Program) (w0:World) (l:List Oper) (R ts:List Nat) (n:Nat) (listed:List Bool) (f:Fr) (L:zb_) (N:Fr→zb_→Prop):Prop:=
 ∀w,Hp w0 L w→ka_ P l.toArray (jZ_ w0 N) ts (SR w0 R L) n listed.toArray (act f) w
theorem Cw.regionG {id:Nat} {K:kg_} (R ts:List Nat) (m:Nat) (hl:l.length=m) (hm:P.follows .mixedOrders=true) (h:OwG P w0 l R ts m (List.replicate m false) f L (K .normal)):Cw P w0 (.region id l.toArray true) f L K:=by
 intro w hw
 subst hl
 refine wp_mono (wp_region_any hm ?_) fun _ _ _ h=>xL_ h
 have:=vr_ _ _ _ _ (h _ hw.drew)
 simpa using this
def chkG (P:Program) (l:List Oper) (ts:List Nat):List Nat→List Bool→Option (List Bool)
 | [],listed=>some listed
 |k::is,listed=>
  match vt_ l k with
  |some o=>if !ts.contains k&& (ts.all fun t=> !listed.toArray.getD t true)&& (Region.ready .any l.toArray listed.toArray).contains k&&Region.free .any l.toArray listed.toArray k&&
    (xK_ P o.op|| (VT_ o.op&&XT_ l.toArray ts listed.toArray k)) then chkG P l ts is (listed.set k true) else none
  |none=>none
theorem OwG.step {k:Nat} {o:Oper} {v:Value} (hns:Region.noSelect l.toArray=true) (hk:vt_ l k=some o) {rest:List Bool} (hc:chkG P l ts [k] listed=some rest)
  (hY:YieldsC P l.toArray (SR w0 R L) (xK_ P o.op=true) o v (act f)) (h:OwG P w0 l R ts n rest (qu_ f o.dst v) L N):OwG P w0 l R ts (n+1) listed f L N:=by
 have hoi:l.toArray[k]? =some o:=by rw[xG_] at hk;simpa using hk
 unfold chkG at hc
 rw[hk] at hc
 simp only at hc
 split at hc
 ·rename_i hcc
  simp only[chkG,Option.some.injEq] at hc
  subst hc
  simp only[Bool.and_eq_true,Bool.or_eq_true,Bool.not_eq_true',List.all_eq_true,List.contains_eq_mem,decide_eq_true_eq,decide_eq_false_iff_not] at hcc
  obtain⟨⟨⟨⟨c2,c3⟩,c4⟩,c5⟩,c9⟩:=hcc
  have hsel:=Region.noSelect_spec hns
  intro w hw
  refine v7_ hoi c2 hsel (fun c a w h=>zZ_ h) _ _ _ _ (kd_ (P:=P) hoi c4 c5 (c9.imp id fun h=>⟨h.1,h.2,fun t ht=>c3 t ht⟩)) (.inr fun t ht=>c3 t ht) hY ?_
  rw[z8_,qp_]
  exact h w hw
 ·cases hc
theorem anp_ {k:Nat} {is:List Nat} {listed listed':List Bool} (h:chkG P l ts (k::is) listed=some listed'):chkG P l ts [k] listed=some (listed.set k true)∧chkG P l ts is (listed.set k true)=some listed':=by
 rw[chkG] at h
 cases ho:vt_ l k with
 |none=>rw[ho] at h;cases h
 |some o=>
  rw[ho] at h
  simp only at h
  split at h
  ·rename_i hcc
   refine⟨?_,h⟩
   rw[chkG,ho]
   simp only
   rw[if_pos hcc];rfl
  ·cases h
theorem OwG.runs {k:Md→List Oper→Fr→zb_→Prop} (hns:Region.noSelect l.toArray=true): ∀ (is:List Nat) {listed listed':List Bool} {f:Fr} {L:zb_},chkG P l ts is listed=some listed'→
  (∀md r f' L',k md r f' L'→r= []∧OwG P w0 l R ts n listed' f' L' N)→vcL P w0 l.toArray false (.sof R [] []) (x3_ l is) f L k→OwG P w0 l R ts (is.length+n) listed f L N
 | [],listed,listed',f,L,hc,hk,h=>by
  cases hc
  rw[List.length_nil,Nat.zero_add]
  exact(hk _ _ _ _ h).2
 |i::is,listed,listed',f,L,hc,hk,h=>by
  obtain⟨hc1,hc2⟩:=anp_ hc
  rw[zc_] at h
  cases ho:vt_ l i with
  |none=>unfold chkG at hc1;rw[ho] at hc1;cases hc1
  |some o=>
   rw[ho,zd_] at h
   unfold vcL at h
   rw[List.length_cons,show is.length+1+n=(is.length+n)+1 by omega]
   cases hs:zn_ l.toArray f o with
   |true=>
    rw[hs] at h
    have hw0:Region.wanted o (yielded l.toArray (act f).tmps)=false:=by rw[qt_,hs];rfl
    exact OwG.step hns ho hc1 (v:=undef) (.inr ⟨hw0,rfl⟩) (OwG.runs hns is hc2 hk h)
   |false=>
    rw[hs] at h
    have hw0:Region.wanted o (yielded l.toArray (act f).tmps)=true:=by rw[qt_,hs];rfl
    simp only[ib,vcB] at h
    split at h
    ·cases hrd:rdOk (.sof R [] []) f o.op with
     |false=>rw[hrd] at h;exact absurd (hk _ _ _ _ h).1 (by simp)
     |true=>
      rw[hrd] at h
      simp only at h
      cases hv:k4_ P w0 L f o.op with
      |none=>rw[hv] at h;exact absurd (hk _ _ _ _ h).1 (by simp)
      |some v=>
       rw[hv] at h
       refine OwG.step hns ho hc1 (v:=v) (.inl ⟨hw0,fun w hw=> ?_⟩) (OwG.runs hns is hc2 hk h)
       rw[jY_]
       rcases hw with hp|hw
       ·exact jg_ (Hp.refl w) (kq_ hp hv w)
       ·exact jg_ (Hp.refl w) (Z8_ hrd hv hw)
    ·exact absurd (hk _ _ _ _ h).1 (by simp)
    ·exact absurd (hk _ _ _ _ h).1 (by simp)
theorem OwG.run (is:List Nat) (listed':List Bool) (n:Nat) {m:Nat} (hm:m=is.length+n) (hns:Region.noSelect l.toArray=true) (hc:chkG P l ts is listed=some listed')
  (h: ∀k:Md→List Oper→Fr→zb_→Prop,(∀md f L,OwG P w0 l R ts n listed' f L N→k md [] f L)→nl (x3_ l is) fun l'=>vcL P w0 l.toArray false (.sof R [] []) l' f L k):OwG P w0 l R ts m listed f L N:=by
 subst hm
 refine OwG.runs (k:=fun _ r f' L'=>r= []∧OwG P w0 l R ts n listed' f' L' N) hns is hc (fun _ _ _ _ h=>h) ?_
 exact h _ fun _ _ _ h=>⟨rfl,h⟩
def ahw_ (l:List Oper) (ts:List Nat) (ks:List Nat) (listed:List Bool):Bool:=
 ((Region.ready .any l.toArray listed.toArray).all fun i=>ks.contains i)&& (Region.ready .any l.toArray listed.toArray != [])&&ks.all fun k=> !ts.contains k
theorem OwG.softs (ks:List Nat) (hs:ahw_ l ts ks listed=true)
  (h: ∀k,k∈ks→ ∀o,vt_ l k=some o→Ow P w0 l.toArray .seq [o] f L (fun f' L'=>(∀r,r∈R→zz_ w0 L' r=zz_ w0 L r)∧OwG P w0 l R ts n (listed.set k true) f' L' N)):
  OwG P w0 l R ts (n+1) listed f L N:=by
 unfold ahw_ at hs
 simp only[Bool.and_eq_true,List.all_eq_true,bne_iff_ne,ne_eq,List.contains_eq_mem,decide_eq_true_eq,Bool.not_eq_true',decide_eq_false_iff_not] at hs
 obtain⟨⟨c3,c4⟩,c6⟩:=hs
 intro w hw
 refine⟨fun _=>SR.of hw,fun hr=>absurd hr c4,fun i hi=> ?_⟩
 have hik:=c3 i hi
 obtain⟨-,oi,hoi,-⟩:=mem_ready.1 hi
 have hni:vt_ l i=some oi:=by rw[xG_];simpa using hoi
 refine Qd_ hoi (X:=ka_ P l.toArray (jZ_ w0 N) ts (SR w0 R L) n (listed.toArray.setIfInBounds i true)) ?_ hw
 intro w' hw'
 have h1:=h i hik oi hni w' hw'
 refine kX_ ?_ h1
 rintro f' L' ⟨hS,hO⟩ w'' hw''
 rw[Zr_ hS,qp_]
 exact hO w'' hw''
theorem OwG.one (i:Nat) (oi:Oper) (hs:ahw_ l ts [i] listed=true) (hi:vt_ l i=some oi)
  (h:Ow P w0 l.toArray .seq [oi] f L (fun f' L'=>(∀r,r∈R→zz_ w0 L' r=zz_ w0 L r)∧OwG P w0 l R ts n (listed.set i true) f' L' N)):OwG P w0 l R ts (n+1) listed f L N:=
 OwG.softs [i] hs fun k hk o ho=>by
  rw[List.mem_singleton] at hk
  subst hk
  rw[hi] at ho
  cases ho
  exact h
theorem OwG.two (i j:Nat) (oi oj:Oper) (hs:ahw_ l ts [i,j] listed=true) (hi:vt_ l i=some oi) (hj:vt_ l j=some oj)
  (h1:Ow P w0 l.toArray .seq [oi] f L (fun f' L'=>(∀r,r∈R→zz_ w0 L' r=zz_ w0 L r)∧OwG P w0 l R ts n (listed.set i true) f' L' N))
  (h2:Ow P w0 l.toArray .seq [oj] f L (fun f' L'=>(∀r,r∈R→zz_ w0 L' r=zz_ w0 L r)∧OwG P w0 l R ts n (listed.set j true) f' L' N)):OwG P w0 l R ts (n+1) listed f L N:=
 OwG.softs [i,j] hs fun k hk o ho=>by
  simp only[List.mem_cons,List.not_mem_nil,or_false] at hk
  rcases hk with rfl|rfl
  ·rw[hi] at ho;cases ho;exact h1
  ·rw[hj] at ho;cases ho;exact h2
theorem OwG.permL {M:zb_} (hp:M.Perm L) (hR: ∀r,r∈R→zz_ w0 M r=zz_ w0 L r) (h:OwG P w0 l R ts n listed f M N):OwG P w0 l R ts n listed f L N:=by
 intro w hw
 rw[Zr_ hR]
 exact h w (hw.perm hp)
def as1_ (P:Program) (l:List Oper) (is ts:List Nat) (listed:List Bool):Bool:=
 Region.noSelect l.toArray&&J7_ P l.toArray ts is listed.toArray&&ts.all fun t=> !listed.toArray.getD t true
theorem OwG.rest (is:List Nat) {m:Nat} (hm:m=is.length) (hB:as1_ P l is ts listed=true) (hl:is.map (fun i:Nat=>l[i]?)=(x3_ l is).map some)
  (h:nl (x3_ l is) fun l'=>Ow P w0 l.toArray (.sof R is ts) l' f L N):OwG P w0 l R ts m listed f L N:=by
 subst hm
 revert hl h
 generalize x3_ l is=l'
 intro hl h w hw
 simp only[as1_,Bool.and_eq_true,List.all_eq_true,Bool.not_eq_true'] at hB
 obtain⟨⟨h1,h4⟩,h5⟩:=hB
 have hlen:is.length=l'.length:=by have:=congrArg List.length hl;simpa using this
 have hF:Fits P l.toArray ts is l' listed.toArray:=⟨hlen,fun j=>by
  have:=congrArg (·[j]?) hl
  simp only[List.getElem?_map] at this
  cases hj:is[j]? with
  |none=>
   rw[hj] at this
   simp only[Option.map_none] at this
   cases hj':l'[j]? with
   |none=>rfl
   |some x=>rw[hj'] at this;cases this
  |some i=>
   rw[hj] at this
   simp only[Option.map_some] at this
   cases hj':l'[j]? with
   |none=>rw[hj'] at this;cases this
   |some x=>
    rw[hj'] at this
    simp only[Option.map_some,Option.some.injEq] at this
    simp[this],h1,h4⟩
 rw[hlen]
 exact(h:Ow P w0 l.toArray (.sof R is ts) l' f L N) listed.toArray hF (fun t ht=>h5 t ht) w hw
end
def CutO {G:Type} (M:List Nat) (S:G→List (Nat×Value)) (H:G→zb_) (J:G→Prop) (f f':Fr) (L':zb_):Prop:=
 ∃g,J g∧L'=H g∧f'=pin (qS_ (Zq_ f') M 0 f) (S g)
theorem CutO.mk {G:Type} {M:List Nat} {S:G→List (Nat×Value)} {H:G→zb_} {J:G→Prop} {f f':Fr} {L':zb_} (g:G) (hJ:J g) (hL:L'=H g) (hf:f'=pin (qS_ (Zq_ f') M 0 f) (S g)):CutO M S H J f f' L':=⟨g,hJ,hL,hf⟩
theorem Cw.cutO {P:Program} {w0:World} {x y:Code} {f:Fr} {L:zb_} {K:kg_} {G:Type} (M:List Nat) (S:G→List (Nat×Value)) (H:G→zb_) (J:G→Prop) (h1:Cw P w0 x f L (wA_ (CutO M S H J f) K))
  (h2: ∀ (g:G) (j:Nat→Value),J g→Cw P w0 y (pin (qS_ j M 0 f) (S g)) (H g) K):Cw P w0 (.seq x y) f L K:=by
 refine Cw.seq (h1.mono fun e f' L' k=> ?_)
 cases e with
 |normal=>
  obtain⟨g,hJ,rfl,hf⟩:=k
  have:=h2 g (Zq_ f') hJ
  rw[←hf] at this
  exact this
 |_=>exact k
end Go.Sx
namespace Go.Sx
open Go
section
variable {P:Program} {w0:World} {f:Fr} {L:zb_} {N:Fr→zb_→Prop} {ops:Array Oper} {rest:List Oper} {md:Md}
 {d:Option Tmp} {ty:TypeId} {ps:String} {af:Array Edge} {g:Option (Nat×Bool)}
theorem acA_ {w:World} {s dt t:TypeId} {b off:Nat} {m:Bool×Nat} {cs:Array Value} {E:TypeId} {fz:Nat×Nat} (hb:w.heap[b]? =some (.cells cs E fz)) (ho:off<cs.size) (hm:z0_ P t=some m) (hm0:m.2≠0)
  (hs:P.underlying s=some (.pointer t)) (hd:P.underlying dt=some .unsafePointer): (convert s dt (vp b off)).run P w= .ok (vp b off) w:=by
 have hsh:w.shape? b=some (E,cs.size):=by simp only[World.shape?,hb]
 have e1: ∀ {α β:Type} (a:α) (f:α→World→Result β),(Sem.run P (pure a) w).andThen f=f a w:=fun _ _=>rfl
 have e2: (shape b).run P w= .ok (some (E,cs.size)) w:=by show Result.ok (w.shape? b) w=_;rw[hsh]
 have hv: (Conv.seenAt ⟨b,off,none⟩).run P w= .ok ⟨b,off,none⟩ w:=by
  simp only[Conv.seenAt,viewAt,Sem.run_bind,e2,Result.andThen_ok,Option.isSome_some, ↓reduceIte]
  rfl
 have hci: (cellsIn b).run P w= .ok (some cs.size) w:=by
  simp only[cellsIn,Sem.run_bind,e2,Result.andThen_ok]
  rfl
 have hno: (decide (m.2=0) ||decide (off≥cs.size)&& (none:Option Nat).isNone)=false:=by
  have: ¬ (off≥cs.size):=by omega
  simp[hm0,this]
 have hu: (Conv.unsafePointer s dt (vp b off)).run P w= .ok (vp b off) w:=by
  simp only[Conv.unsafePointer,vp,Sem.run_bind,run_underlying hs w,run_underlying hd w,Result.andThen_ok,hv,hci,zF_ hm w]
  rw[if_neg (by rw[hno];simp)]
  rfl
 unfold convert
 simp only[vp,Sem.run_bind,run_underlying hs w,run_underlying hd w,Result.andThen_ok]
 exact hu
theorem ab1_ {w:World} {s dt t:TypeId} {b off:Nat} {m:Bool×Nat} {cs:Array Value} {E:TypeId} {fz:Nat×Nat} (hb:w.heap[b]? =some (.cells cs E fz)) (hm:z0_ P t=some m) (hla:liesAt P P.depth E (cs.size / P.cellsOf E) off t 1=true)
  (hs:P.underlying s=some .unsafePointer) (hd:P.underlying dt=some (.pointer t)): (convert s dt (vp b off)).run P w= .ok (vp b off) w:=by
 have hsh:w.shape? b=some (E,cs.size):=by simp only[World.shape?,hb]
 have e2: (shape b).run P w= .ok (some (E,cs.size)) w:=by show Result.ok (w.shape? b) w=_;rw[hsh]
 have hv: (Conv.seenAt ⟨b,off,none⟩).run P w= .ok ⟨b,off,none⟩ w:=by
  simp only[Conv.seenAt,viewAt,Sem.run_bind,e2,Result.andThen_ok,Option.isSome_some, ↓reduceIte]
  rfl
 have hva: (variablesAt ⟨b,off,none⟩ t 1).run P w= .ok true w:=by
  simp only[variablesAt,program,Sem.run_bind]
  show Result.andThen (Result.ok P w) _=_
  simp only[Result.andThen_ok,e2]
  rw[hla]
  rfl
 have hu: (Conv.unsafePointer s dt (vp b off)).run P w= .ok (vp b off) w:=by
  simp only[Conv.unsafePointer,vp,Sem.run_bind,run_underlying hs w,run_underlying hd w,Result.andThen_ok,hv,zF_ hm w,hva]
  by_cases h0:m.2=0
  ·simp[h0]
  ·simp[h0]
 unfold convert
 simp only[vp,Sem.run_bind,run_underlying hs w,run_underlying hd w,Result.andThen_ok]
 exact hu
theorem Ow.toUnsafe {s dt t:TypeId} {x:Operand} {b off:Nat} {m:Bool×Nat} {cs:Array Value} {E:TypeId} {fz:Nat×Nat} {md':Md} (he:md.turn=some md') (hsk:zn_ ops f ⟨d, .convert s dt x,ty,ps,af,g⟩=false)
  (hcv:cvT P s dt= .no) (hx:ev f x=vp b off) (hb:zz_ w0 L b=some (.cells cs E fz)) (ho:off<cs.size) (hm:z0_ P t=some m) (hm0:m.2≠0) (hs:P.underlying s=some (.pointer t)) (hd:P.underlying dt=some .unsafePointer)
  (hn:Ow P w0 ops md' rest (qu_ f d (vp b off)) L N):Ow P w0 ops md (⟨d, .convert s dt x,ty,ps,af,g⟩::rest) f L N:=by
 refine Ow.step he (by simp[xK_,hcv]) hsk fun w hw=> .inl ⟨vp b off,w,L, ?_,hw,hn⟩
 simp only[execOp,Sem.run_bind,hx,acA_ (hw.read hb) ho hm hm0 hs hd]
 rfl
theorem Ow.ofUnsafe {s dt t:TypeId} {x:Operand} {b off:Nat} {m:Bool×Nat} {cs:Array Value} {E:TypeId} {fz:Nat×Nat} {md':Md} (he:md.turn=some md') (hsk:zn_ ops f ⟨d, .convert s dt x,ty,ps,af,g⟩=false)
  (hcv:cvT P s dt= .no) (hx:ev f x=vp b off) (hb:zz_ w0 L b=some (.cells cs E fz)) (hm:z0_ P t=some m) (hla:liesAt P P.depth E (cs.size / P.cellsOf E) off t 1=true) (hs:P.underlying s=some .unsafePointer) (hd:P.underlying dt=some (.pointer t))
  (hn:Ow P w0 ops md' rest (qu_ f d (vp b off)) L N):Ow P w0 ops md (⟨d, .convert s dt x,ty,ps,af,g⟩::rest) f L N:=by
 refine Ow.step he (by simp[xK_,hcv]) hsk fun w hw=> .inl ⟨vp b off,w,L, ?_,hw,hn⟩
 simp only[execOp,Sem.run_bind,hx,ab1_ (hw.read hb) hm hla hs hd]
 rfl
theorem Ow.neqSame {t t' e:TypeId} {x y:Operand} {b off:Nat} {m:Bool×Nat} (hs:zn_ ops f ⟨d, .binOp .neq t x y t',ty,ps,af,g⟩=false) (hu:P.underlying t=some (.pointer e)) (hm:z0_ P e=some m) (hx:ev f x=vp b off) (hy:ev f y=vp b off)
  (hn:Ow P w0 ops md.next rest (qu_ f d (.bool false)) L N):Ow P w0 ops md (⟨d, .binOp .neq t x y t',ty,ps,af,g⟩::rest) f L N:=by
 refine Ow.pureV rfl hs (fun w=> ?_) hn
 have he: (Op.equal t (vp b off) (vp b off)).run P w= .ok true w:=by
  show(Op.equalIn 10000 t (vp b off) (vp b off)).run P w=_
  unfold Op.equalIn
  simp only[vp,Sem.run_bind,run_underlying hu w,Result.andThen_ok,zF_ hm w]
  by_cases h0:m.2=0
  ·simp[h0]
  ·simp only[h0,ne_eq,not_false_eq_true, ↓reduceIte,sameAddr,beq_self_eq_true]
   rfl
 simp only[execOp,Sem.run_bind,hx,hy]
 have hg: (eqGuard .neq t x y (vp b off) (vp b off)).run P w= .ok () w:=rfl
 have hb:binOp .neq t (vp b off) (vp b off)=(do pure (.bool (!(←Op.equal t (vp b off) (vp b off)))):Sem Value):=rfl
 rw[hg,Result.andThen_ok,hb,Sem.run_bind,he]
 rfl
theorem wx_ {w0:World} {L:zb_} {b c:Nat} {x:Obj} (h:b≠c):zz_ w0 (setB L b x) c=zz_ w0 L c:=by
 unfold zz_;rw[zm_ h]
theorem Ow.callExt {l:List Operand} {ts:Array TypeId} {k:FuncId} {v:Value} {md':Md} (he:md.turn=some md')
  (hs:zn_ ops f ⟨d, .call ⟨.value (.func k),l.toArray,ts⟩,ty,ps,af,g⟩=false)
  (hv: ∀w,(callFunc k (l.map (ev f)).toArray).run P w= .ok (.value v) w)
  (hn:Ow P w0 ops md' rest (qu_ f d v) L N):
  Ow P w0 ops md (⟨d, .call ⟨.value (.func k),l.toArray,ts⟩,ty,ps,af,g⟩::rest) f L N:=by
 refine Ow.step he rfl hs fun w hw=> .inl ⟨v,w,L, ?_,hw,hn⟩
 have:=hv w
 simp only[execOp,resolve,Deferred.ofValue,ev,Sem.run_bind,Sem.run_pure,Result.andThen_ok,invoke]
 simpa using this
theorem Ow.minI {x y:Operand} {ts:Array TypeId} {a b:Int} (hs:zn_ ops f ⟨d, .call ⟨.builtin .min, #[x,y],ts⟩,ty,ps,af,g⟩=false) (hx:ev f x=vi a) (hy:ev f y=vi b)
  (hn:Ow P w0 ops md.next rest (qu_ f d (vi (if b<a then b else a))) L N):Ow P w0 ops md (⟨d, .call ⟨.builtin .min, #[x,y],ts⟩,ty,ps,af,g⟩::rest) f L N:=by
 refine Ow.calm rfl rfl hs (fun w hw=> .inl ⟨vi (if b<a then b else a),w,L, ?_,hw,rfl,rfl⟩) hn
 simp only[execOp,resolve,Sem.run_bind,Sem.run_pure,Result.andThen_ok,invoke,builtin,List.map_toArray,List.map_cons,List.map_nil,hx,hy]
 rfl
theorem Ow.maxI {x y:Operand} {ts:Array TypeId} {a b:Int} (hs:zn_ ops f ⟨d, .call ⟨.builtin .max, #[x,y],ts⟩,ty,ps,af,g⟩=false) (hx:ev f x=vi a) (hy:ev f y=vi b)
  (hn:Ow P w0 ops md.next rest (qu_ f d (vi (if b>a then b else a))) L N):Ow P w0 ops md (⟨d, .call ⟨.builtin .max, #[x,y],ts⟩,ty,ps,af,g⟩::rest) f L N:=by
 refine Ow.calm rfl rfl hs (fun w hw=> .inl ⟨vi (if b>a then b else a),w,L, ?_,hw,rfl,rfl⟩) hn
 simp only[execOp,resolve,Sem.run_bind,Sem.run_pure,Result.andThen_ok,invoke,builtin,List.map_toArray,List.map_cons,List.map_nil,hx,hy]
 rfl
end
structure Ext (w:World) (X D:zb_):Prop where
 new: ∀c,c∈keys D→c∈keys X∨w.heap.size≤c
 all: ∀c,c∈keys X→c∈keys D
theorem Ext.refl (w:World) (X:zb_):Ext w X X:=⟨fun _ h=> .inl h,fun _ h=>h⟩
theorem Ext.setB {w:World} {X D:zb_} {b:Nat} {o:Obj} (h:Ext w X D):Ext w X (setB D b o):=⟨fun c hc=>h.new c (by rwa [xu_] at hc),fun c hc=>by rw[xu_];exact h.all c hc⟩
theorem Ext.app {w:World} {X D:zb_} {b:Nat} {o:Obj} (h:Ext w X D) (hb:w.heap.size≤b):Ext w X (D++ [(b,o)]):=
 ⟨fun c hc=>by
  rw[zj_] at hc
  rcases List.mem_append.1 hc with hc|hc
  ·exact h.new c hc
  ·simp only[keys,List.map_cons,List.map_nil,List.mem_singleton] at hc
   exact .inr (hc▸hb),fun c hc=>by rw[zj_];exact List.mem_append_left _ (h.all c hc)⟩
theorem Ext.grew {w:World} {X D D':zb_} {v:Value} (h:Ext w X D) (hg:Grew w v D D'):Ext w X D':=
 ⟨fun c hc=>by
  rcases hg.new c hc with hc| ⟨-,hc⟩
  ·exact h.new c hc
  ·exact .inr hc,fun c hc=>hg.keys c (h.all c hc)⟩
theorem Ext.keys {w:World} {X D D':zb_} (h:Ext w X D) (hk:Sx.keys D'=Sx.keys D):Ext w X D':=⟨fun c hc=>h.new c (hk▸hc),fun c hc=>hk▸h.all c hc⟩
theorem qN_ {w0:World} {L:zb_} {b:Nat} (h:b∉Sx.keys L):zz_ w0 L b=w0.heap[b]? :=by
 unfold zz_
 cases hl:look L b with
 |none=>rfl
 |some o=>exact absurd (zh_ hl) h
theorem Ext.not {w:World} {X D:zb_} (h:Ext w X D) {b:Nat} (hb:b<w.heap.size) (hn:b∉Sx.keys X):b∉Sx.keys D:=fun hm=>by
 rcases h.new b hm with h|h
 ·exact hn h
 ·omega
theorem Ext.old {w:World} {X D:zb_} (h:Ext w X D) {b:Nat} {o:Obj} (hb:w.heap[b]? =some o) (hn:b∉Sx.keys X):zz_ w D b=some o:=by
 rw[qN_ (h.not (Array.getElem?_eq_some_iff.1 hb).1 hn)];exact hb
def XS (w:World) (X:zb_) (S:Value→zb_→Prop) (v:Value) (D:zb_):Prop:=Ext w X D∧S v D
structure Came (w0:World) (L X D:zb_):Prop where
 new: ∀c,c∈Sx.keys D→c∈Sx.keys X∨(jV_ L c∧w0.heap.size≤c)
 all: ∀c,c∈Sx.keys X→c∈Sx.keys D
theorem Ext.came {w:World} {X D D' Y L:zb_} (h:Ext w X (D++Y)) (hc:Came w L D D'):Ext w X (D'++Y):=by
 refine⟨fun c hm=> ?_,fun c hm=> ?_⟩
 ·rw[zj_] at hm
  rcases List.mem_append.1 hm with hm|hm
  ·rcases hc.new c hm with hm| ⟨-,hm⟩
   ·exact h.new c (by rw[zj_];exact List.mem_append_left _ hm)
   ·exact .inr hm
  ·exact h.new c (by rw[zj_];exact List.mem_append_right _ hm)
 ·have:=h.all c hm
  rw[zj_] at this ⊢
  rcases List.mem_append.1 this with hm|hm
  ·exact List.mem_append_left _ (hc.all c hm)
  ·exact List.mem_append_right _ hm
theorem Ext.came0 {w:World} {X D D' L:zb_} (h:Ext w X D) (hc:Came w L D D'):Ext w X D':=by
 have:=Ext.came (Y:= []) (by simpa using h) hc
 simpa using this
theorem Hp.ownX {w0 w:World} {X:zb_} (h:Hp w0 [] w) (hX: ∀p,p∈X→w0.heap[p.1]? =some p.2) (hn: (keys X).Nodup):Hp w0 X w:=by
 refine⟨fun b o hm=> ?_,hn,fun b hb _=>h.old b hb (by simp[keys]),h.size,h.tape,h.os,h.output⟩
 have:=hX (b,o) hm
 simp only at this
 rw[h.old b (Array.getElem?_eq_some_iff.1 this).1 (by simp[keys])]
 exact this
theorem Rets.enterX {P:Program} {k:FuncId} {fn:Func} {c:Code} {rs:List ResultVar} {args:Array Value} {w:World} {S:Value→zb_→Prop} {n:Nat} {X:zb_}
  (hf:P.funcs[k]? =some fn) (hb:fn.body=some c) (hr:fn.results=rs.toArray) (hn:fn.ntmps=n) (hX: ∀p,p∈X→w.heap[p.1]? =some p.2) (hnd: (keys X).Nodup)
  (h:Cw P w c (args.toList++List.replicate (n - args.size) undef) X (retK P w rs (XS w X S))):Rets P k args w (XS w X S):=
 Rets.enter hf hb hr hn fun w' hw'=>h w' (hw'.ownX hX hnd)
section
variable {P:Program} {w0:World} {f:Fr} {L:zb_} {N:Fr→zb_→Prop} {ops:Array Oper} {rest:List Oper} {md:Md}
 {d:Option Tmp} {ty:TypeId} {ps:String} {af:Array Edge} {g:Option (Nat×Bool)}
theorem Ow.callX {l:List Operand} {ts:Array TypeId} {k:FuncId} {X Y:zb_} {S:Value→zb_→Prop} {md':Md} (hL:L=X++Y) (he:md.turn=some md')
  (hs:zn_ ops f ⟨d, .call ⟨.value (.func k),l.toArray,ts⟩,ty,ps,af,g⟩=false)
  (hk: ∀a w,(callFunc k a).run P w= .ok (.enter k a) w)
  (hc: ∀w,Hp w0 L w→(∀p,p∈X→w.heap[p.1]? =some p.2)→(keys X).Nodup→Rets P k (l.map (ev f)).toArray w (XS w X S))
  (hn: ∀v D,Came w0 L X D→S v D→Ow P w0 ops md' rest (qu_ f d v) (D++Y) N):
  Ow P w0 ops md (⟨d, .call ⟨.value (.func k),l.toArray,ts⟩,ty,ps,af,g⟩::rest) f L N:=by
 subst hL
 have hnd: ∀w,Hp w0 (X++Y) w→(keys X).Nodup∧ ∀c,c∈keys Y→c∉keys X:=by
  intro w hw
  have:=hw.nodup
  rw[zj_,List.nodup_append] at this
  exact⟨this.1,fun c hc hx=>this.2.2 c hx c hc rfl⟩
 refine Ow.callF (S:=fun B v D=>((∀c,c∈keys D→c∈keys X∨B≤c)∧(∀c,c∈keys X→c∈keys D)∧S v D)∧ ∃w,Hp w0 (X++Y) w∧w.heap.size=B) he hs hk (fun w hw=> ?_) ?_
 ·refine Calls.mono (hc w hw (fun p hp=>hw.has _ _ (List.mem_append_left _ hp)) (hnd w hw).1) ?_
  rintro e w' ⟨v,D,he,hp,hS⟩
  exact⟨v,D,he,hp,⟨hS.1.new,hS.1.all,hS.2⟩,w,hw,rfl⟩
 ·rintro B v D hab hB ⟨⟨h1,h2,h3⟩,w1,hw1,hwB⟩
  refine⟨D++Y, ?_,hn v D ⟨fun c hc=>(h1 c hc).imp id fun h=>⟨z2_ fun b hb=>by have:=hw1.lt hb;omega,by have:=hw1.size;omega⟩,h2⟩ h3⟩
  intro w w' hwb h k
  have ht:=h.trans k
  have hY: ∀c,c∈keys Y→c∉keys D:=by
   intro c hc hd
   rcases h1 c hd with hx|hx
   ·exact(hnd w h).2 c hc hx
   ·have:=h.lt (b:=c) (by rw[zj_];exact List.mem_append_right _ hc)
    omega
  have e1:X.filter (fun p=> !(keys D).contains p.1)= []:=by
   rw[List.filter_eq_nil_iff]
   intro p hp
   have:=h2 p.1 (List.mem_map.2 ⟨p,hp,rfl⟩)
   simpa using this
  have e2:Y.filter (fun p=> !(keys D).contains p.1)=Y:=qT_ hY
  rw[List.filter_append,e1,e2,List.nil_append] at ht
  refine ht.same (fun p=>by simp[or_comm]) ?_
  have:=ht.nodup
  rw[zj_] at this ⊢
  exact(List.perm_append_comm.nodup_iff).1 this
end
structure OneS {α:Type} (enc:α→Value) (z:α) (w:World) (v:Value) (l:List α) (b off:Nat) (arr:Array Value) (E:TypeId) (fz:Nat×Nat):Prop where
 len: ∀m,KK_ (.sl m) v=some (vi l.length)
 idx: ∀m (k:Nat),k<l.length→qe_ (.sl m) v (some (k:Int))=some (vp b (off+k*m.2))
 has:0<l.length→w.heap[b]? =some (.cells arr E fz)
 get: ∀k,k<l.length→arr[off+k]? =some (enc (l.getD k z))
theorem OneS.sl {α:Type} {enc:α→Value} {z:α} {w:World} {l:List α} {b off n c:Nat} {arr:Array Value} {E:TypeId} {fz:Nat×Nat} (hn:n=l.length)
  (has:w.heap[b]? =some (.cells arr E fz)) (get: ∀k,k<l.length→arr[off+k]? =some (enc (l.getD k z))):OneS enc z w (vsl b off n c) l b off arr E fz:=by
 subst hn
 exact⟨fun _=>rfl,fun m k h=>by rw[xX_ _ _ _ _ _ _ (by omega)];simp,fun _=>has,get⟩
theorem OneS.lit {α:Type} {enc:α→Value} {z:α} {w:World} {b n c:Nat} {E:TypeId} {fz:Nat×Nat} {arr:Array Value} (l:List α) (hn:n=l.length) (ha:arr=(l.map enc).toArray) (has:w.heap[b]? =some (.cells arr E fz)):OneS enc z w (vsl b 0 n c) l b 0 arr E fz:=
 OneS.sl hn has (by intro k hk;rw[ha,Nat.zero_add,List.getElem?_toArray,List.getElem?_map,List.getD_eq_getElem?_getD,List.getElem?_eq_getElem hk];rfl)
structure RowS {α:Type} (m:Nat) (enc:α→List Value) (z:α) (w:World) (v:Value) (l:List α) (b off:Nat) (arr:Array Value) (E:TypeId) (fz:Nat×Nat):Prop where
 len: ∀x,KK_ (.sl x) v=some (vi l.length)
 idx: ∀a (k:Nat),k<l.length→qe_ (.sl (a,m)) v (some (k:Int))=some (vp b (off+k*m))
 has:0<l.length→w.heap[b]? =some (.cells arr E fz)
 get: ∀k,k<l.length→ ∀j,j<m→arr[off+k*m+j]? =(enc (l.getD k z))[j]?
theorem RowS.sl {α:Type} {m:Nat} {enc:α→List Value} {z:α} {w:World} {l:List α} {b off n c:Nat} {arr:Array Value} {E:TypeId} {fz:Nat×Nat} (hn:n=l.length)
  (has:w.heap[b]? =some (.cells arr E fz)) (get: ∀k,k<l.length→ ∀j,j<m→arr[off+k*m+j]? =(enc (l.getD k z))[j]?):RowS m enc z w (vsl b off n c) l b off arr E fz:=by
 subst hn
 exact⟨fun _=>rfl,fun a k h=>by rw[xX_ _ _ _ _ _ _ (by omega)];simp,fun _=>has,get⟩
theorem RowS.nil {α:Type} {m:Nat} {enc:α→List Value} {z:α} (w:World) (n c:Nat) (hn:n=0):RowS m enc z w (.slice none n c) [] 0 0 #[] 0 (0,0):=by
 subst hn
 exact⟨fun _=>rfl,fun _ _ h=>absurd h (Nat.not_lt_zero _),fun h=>absurd h (Nat.not_lt_zero _),fun _ h=>absurd h (Nat.not_lt_zero _)⟩
theorem RowS.load {α:Type} {m:Nat} {enc:α→List Value} {z:α} {w:World} {v:Value} {l:List α} {b off:Nat} {arr:Array Value} {E:TypeId} {fz:Nat×Nat} (h:RowS m enc z w v l b off arr E fz) (hm: ∀x,(enc x).length=m) (h0:0<m) {k:Nat} (hk:k<l.length):
  zt_ (some (true,m)) (some (.cells arr E fz)) (off+k*m)=some (.agg (enc (l.getD k z)).toArray):=by
 have hg:=h.get k hk
 have hsz:off+k*m+m≤arr.size:=by
  have h1:=hg (m - 1) (by omega)
  rw[List.getElem?_eq_getElem (by rw[hm];omega)] at h1
  have:=(Array.getElem?_eq_some_iff.1 h1).1
  omega
 simp only[zt_,hsz, ↓reduceIte]
 congr 2
 apply Array.ext_getElem?
 intro j
 rw[Array.getElem?_extract]
 by_cases hj:j<m
 ·rw[if_pos (by omega),hg j hj,List.getElem?_toArray]
 ·rw[if_neg (by omega),List.getElem?_toArray,List.getElem?_eq_none (by rw[hm];omega)]
theorem RowS.cell {α:Type} {m:Nat} {enc:α→List Value} {z:α} {w:World} {v:Value} {l:List α} {b off:Nat} {arr:Array Value} {E:TypeId} {fz:Nat×Nat} (h:RowS m enc z w v l b off arr E fz) {k j n:Nat} (hk:k<l.length) (hj:j<m):
  zt_ (some (false,n)) (some (.cells arr E fz)) (off+k*m+j)=(enc (l.getD k z))[j]? :=h.get k hk j hj
end Go.Sx
namespace Go.Sx
open Go
section
variable {P:Program} {w0:World} {f:Fr} {L:zb_} {N:Fr→zb_→Prop} {ops:Array Oper} {rest:List Oper} {md:Md}
 {d:Option Tmp} {ty:TypeId} {ps:String} {af:Array Edge} {g:Option (Nat×Bool)}
theorem XZ_ (l:List UInt8) (k size:Nat) (w:World): (Builtin.firstCells size k (vs l)).run P w= .ok ((l.take k).map v8).toArray w:=by
 simp only[vs,Builtin.firstCells]
 show Result.ok _ w=_
 congr 1
 have: ((ByteArray.mk l.toArray).extract 0 k).data=(l.take k).toArray:=by
  rw[ByteArray.data_extract]
  simp
 rw[this]
 simp
 rfl
theorem zp_ (R:List Nat) (x:UInt8):rdIn R (v8 x)=true:=(rfl)
theorem wd_ (R:List Nat) (x:UInt16):rdIn R (v16 x)=true:=(rfl)
theorem v4_ (R:List Nat) (x:UInt32):rdIn R (v32 x)=true:=(rfl)
theorem vP_ (R:List Nat) (x:UInt64):rdIn R (v64 x)=true:=(rfl)
theorem zo_ (R:List Nat) (x:Int):rdIn R (vi x)=true:=(rfl)
theorem Ow.copyText {td tx e:TypeId} {m:Bool×Nat} {x y:Operand} {b off n c:Nat} {l:List UInt8} {cs:Array Value} {E:TypeId} {md':Md} (he:md.turn=some md')
  (hs:zn_ ops f ⟨d, .call ⟨.builtin .copy, #[x,y], #[td,tx]⟩,ty,ps,af,g⟩=false) (hu:P.underlying td=some (.slice e)) (hm:z0_ P e=some m)
  (hx:ev f x=vsl b off n c) (hy:ev f y=vs l) (hl:look L b=some (.cells cs E (0,0))) (hn:off+n≤cs.size)
  (hO:Ow P w0 ops md' rest (qu_ f d (vi (min l.length n:Nat))) (setB L b (.cells (Jf_ cs off ((l.take (min l.length n)).map v8)) E (0,0))) N):
  Ow P w0 ops md (⟨d, .call ⟨.builtin .copy, #[x,y], #[td,tx]⟩,ty,ps,af,g⟩::rest) f L N:=by
 refine Ow.step he rfl hs fun w hw=> ?_
 have hb:=hw.has _ _ (zy_ hl)
 have hlt:=(Array.getElem?_eq_some_iff.1 hb).1
 have hlen: (Builtin.lenOf (vs l)).run P w= .ok l.length w:=by simp only[vs,Builtin.lenOf,wz_];rfl
 have hfc:=XZ_ (P:=P) l (min l.length n) m.2 w
 have hst:=xO_ (P:=P) (b:=b) (off:=off) (E:=E) (fz:=(0,0)) ((l.take (min l.length n)).map v8) 0 cs w hb (by
  rw[List.length_map,List.length_take];have:=Nat.min_le_right l.length n;omega) (.inl (Nat.le_refl 0)) (by rw[List.all_map,List.all_eq_true];intro x _;rfl)
 refine .inl ⟨vi (min l.length n:Nat),{w with heap:=w.heap.setIfInBounds b (.cells (Jf_ cs off ((l.take (min l.length n)).map v8)) E (0,0))},_, ?_,hw.set (zh_ hl) rfl rfl rfl rfl,hO⟩
 simp only[execOp,resolve,Sem.run_bind,Sem.run_pure,Result.andThen_ok,invoke,builtin,List.map_toArray,List.map_cons,List.map_nil,hx,hy]
 have: (Builtin.copy_ #[td,tx] ty #[vsl b off n c,vs l]).run P w= .ok (vi (min l.length n:Nat)) {w with heap:=w.heap.setIfInBounds b (.cells (Jf_ cs off ((l.take (min l.length n)).map v8)) E (0,0))}:=by
  simp only[Builtin.copy_,vsl,List.getElem?_toArray,List.getElem?_cons_zero,List.getElem?_cons_succ,Sem.run_bind,run_underlying hu w,Result.andThen_ok,hlen,zF_ hm w]
  rw[show l.length.min n=min l.length n from rfl,hfc]
  simp only[Result.andThen_ok]
  rw[hst]
  rfl
 rw[this]
 rfl
end
end Go.Sx
namespace Go.Sx
open Go
section
variable {P:Program} {w0:World} {f:Fr} {L:zb_} {N:Fr→zb_→Prop} {ops:Array Oper} {rest:List Oper} {md:Md}
 {d:Option Tmp} {ty:TypeId} {ps:String} {af:Array Edge} {g:Option (Nat×Bool)}
def VC_ (n:Int):Value:= .int .i32 n
theorem ahE_ (op:BinOp) (t:TypeId) (a b:Int):qI_ P op t (VC_ a) (VC_ b)=zr_ op (VC_ a) (VC_ b):=(rfl)
theorem Kk_ (a b:Int):zr_ .lss (VC_ a) (VC_ b)=some (.bool (decide (a<b))):=by simp[zr_,VC_,jL_,QR_]
theorem KV_ (a b:Int):zr_ .gtr (VC_ a) (VC_ b)=some (.bool (decide (b<a))):=by simp[zr_,VC_,jL_,QR_]
theorem X0_ (a b:Int):zr_ .eql (VC_ a) (VC_ b)=some (.bool (a==b)):=by simp[zr_,VC_,jL_,QR_]
theorem alv_ (n:Int):Value.int .i32 n=VC_ n:=(rfl)
theorem Ow.callFn1 {x y:Operand} {ts:Array TypeId} {k:FuncId} {v a:Value} (hs:zn_ ops f ⟨d, .call ⟨.value x, #[y],ts⟩,ty,ps,af,g⟩=false) (hx:ev f x= .func (.func k) #[] #[]) (hy:ev f y=a)
  (hk: ∀a w,(callFunc k a).run P w= .ok (.enter k a) w) (hc: ∀w,Hp w0 L w→Rets P k #[a] w (fun v' D=>v'=v∧D= [])) (hn:Ow P w0 ops md.next rest (qu_ f d v) L N):
  Ow P w0 ops md (⟨d, .call ⟨.value x, #[y],ts⟩,ty,ps,af,g⟩::rest) f L N:=
 Ow.callV hs hx hk (fun w hw=>by simpa [hy] using hc w hw) hn
theorem Ow.rangeText {t:TypeId} {x:Operand} {l:List UInt8} {md':Md} (he:md.turn=some md') (hs:zn_ ops f ⟨d, .range t x,ty,ps,af,g⟩=false) (hu:P.underlying t=some .string) (hx:ev f x=vs l)
  (hn: ∀b,jV_ L b→w0.heap.size≤b→Ow P w0 ops md' rest (qu_ f d (vp b 0)) (L++ [(b, .stringIter ⟨l.toArray⟩ 0)]) N):
  Ow P w0 ops md (⟨d, .range t x,ty,ps,af,g⟩::rest) f L N:=by
 refine Ow.step he rfl hs fun w hw=> .inl ⟨vp w.heap.size 0,w.alloc (.stringIter ⟨l.toArray⟩ 0),_, ?_,hw.alloc _,hn _ (z2_ fun b hb=>hw.lt hb) hw.size⟩
 simp only[execOp,Instr.range,Sem.run_bind,run_underlying hu w,Result.andThen_ok,hx,vs]
 rfl
theorem Ow.nextText {x:Operand} {b:Nat} {l:List UInt8} {pos:Nat} {md':Md} (he:md.turn=some md') (hs:zn_ ops f ⟨d, .next x true,ty,ps,af,g⟩=false) (hx:ev f x=vp b 0) (hl:look L b=some (.stringIter ⟨l.toArray⟩ pos)) (hp:pos<l.length)
  (hn:Ow P w0 ops md' rest (qu_ f d (.tuple #[.bool true,vi pos,VC_ (Utf8.decode ⟨l.toArray⟩ pos).1])) (setB L b (.stringIter ⟨l.toArray⟩ (pos+ (Utf8.decode ⟨l.toArray⟩ pos).2))) N):
  Ow P w0 ops md (⟨d, .next x true,ty,ps,af,g⟩::rest) f L N:=by
 refine Ow.step he rfl hs fun w hw=> ?_
 have hb:=hw.has _ _ (zy_ hl)
 refine .inl ⟨_,{w with heap:=w.heap.setIfInBounds b (.stringIter ⟨l.toArray⟩ (pos+ (Utf8.decode ⟨l.toArray⟩ pos).2))},_, ?_,hw.set (zh_ hl) rfl rfl rfl rfl,hn⟩
 have hg: (getObj b).run P w= .ok (.stringIter ⟨l.toArray⟩ pos) w:=by
  simp only[getObj,Sem.run,hb]
 have hst: ∀o,(setObj b o).run P w= .ok () {w with heap:=w.heap.setIfInBounds b o}:=by
  intro o;simp only[setObj,Sem.run,hb]
 have hsz:pos< (ByteArray.mk l.toArray).size:=by rw[wz_];exact hp
 have: (Instr.next (vp b 0) true ty).run P w= .ok (.tuple #[.bool true,vi pos,VC_ (Utf8.decode ⟨l.toArray⟩ pos).1]) {w with heap:=w.heap.setIfInBounds b (.stringIter ⟨l.toArray⟩ (pos+ (Utf8.decode ⟨l.toArray⟩ pos).2))}:=by
  simp only[Instr.next,vp,Sem.run_bind,hg,Result.andThen_ok,hsz, ↓reduceIte,hst]
  rfl
 simp only[execOp,Sem.run_bind,hx]
 rw[this]
 rfl
theorem Ow.nextOver {x:Operand} {b:Nat} {l:List UInt8} {pos:Nat} {md':Md} (he:md.turn=some md') (hs:zn_ ops f ⟨d, .next x true,ty,ps,af,g⟩=false) (hx:ev f x=vp b 0) (hl:look L b=some (.stringIter ⟨l.toArray⟩ pos)) (hp: ¬pos<l.length)
  (hn:Ow P w0 ops md' rest (qu_ f d (.tuple #[.bool false])) L N):
  Ow P w0 ops md (⟨d, .next x true,ty,ps,af,g⟩::rest) f L N:=by
 refine Ow.step he rfl hs fun w hw=> ?_
 have hb:=hw.has _ _ (zy_ hl)
 refine .inl ⟨.tuple #[.bool false],w,_, ?_,hw,hn⟩
 have hg: (getObj b).run P w= .ok (.stringIter ⟨l.toArray⟩ pos) w:=by
  simp only[getObj,Sem.run,hb]
 have hsz: ¬pos< (ByteArray.mk l.toArray).size:=by rw[wz_];exact hp
 have: (Instr.next (vp b 0) true ty).run P w= .ok (.tuple #[.bool false]) w:=by
  simp only[Instr.next,vp,Sem.run_bind,hg,Result.andThen_ok,hsz, ↓reduceIte]
  rfl
 simp only[execOp,Sem.run_bind,hx]
 rw[this]
 rfl
end
theorem aeO_ (l:List UInt8) (i:Nat) (h:i<l.length):0< (Utf8.decode ⟨l.toArray⟩ i).2∧
  ((l.getD i 0).toNat<128→Utf8.decode ⟨l.toArray⟩ i=((l.getD i 0).toNat,1))∧(128≤ (l.getD i 0).toNat→128≤ (Utf8.decode ⟨l.toArray⟩ i).1):=by
 have hb: ((ByteArray.mk l.toArray).get! (i+0))=l.getD i 0:=by
  simp[ByteArray.get!,h]
 unfold Utf8.decode
 simp only[hb]
 generalize (l.getD i 0).toNat=b0
 refine⟨?_,fun h1=> ?_,fun h1=> ?_⟩
 ·(repeat' split)<;>simp
 ·rw[if_pos h1]
 ·rw[if_neg (by omega)]
  (repeat' split)<;>first
   | (simp only[Utf8.runeError];omega)
   | (rename_i hc;simp only[Bool.and_eq_true,decide_eq_true_eq,ge_iff_le] at hc;omega)
   | (rename_i hc;simp only[ge_iff_le] at hc;omega)
end Go.Sx
namespace Go.Sx
open Go
abbrev Vals:=List (List UInt8×List UInt8)
def fnd (k:List UInt8):Vals→Nat→Option (Nat×List UInt8)
 | [],_=>none
 |p::r,i=>if k==p.1 then some (i,p.2) else fnd k r (i+1)
def updV (k v:List UInt8):Vals→Vals
 | []=> [(k,v)]
 |p::r=>if k==p.1 then(p.1,v)::r else p::updV k v r
def ZF_ (p:List UInt8×List UInt8):Value×Value:=(vs p.1, .agg (a8 p.2))
def MapR (o:Obj) (m:Vals):Prop:= ∃es clock,o= .map es clock∧es.toList.map (fun e=>(e.key,e.val))=m.map ZF_∧(es.toList.map (·.born)++ [clock]).Pairwise (· < ·)
theorem aeg_ {es:List MapEntry} {c:Nat} {e:MapEntry} (h: (es.map (·.born)++ [c]).Pairwise (· < ·)) (he:e.born=c): ((es++ [e]).map (·.born)++ [c+1]).Pairwise (· < ·):=by
 rw[List.map_append,List.map_cons,List.map_nil,he]
 refine List.pairwise_append.2 ⟨h,List.pairwise_singleton _ _, ?_⟩
 intro a ha b hb
 rw[List.mem_singleton] at hb
 subst hb
 rcases List.mem_append.1 ha with hm|hm
 ·have:=(List.pairwise_append.1 h).2.2 a hm c (List.mem_singleton.2 rfl)
  omega
 ·rw[List.mem_singleton] at hm
  omega
theorem XN_ {es:List MapEntry} {j:Nat} {g:MapEntry→MapEntry} (hg: ∀e,(g e).born=e.born): (es.modify j g).map (·.born)=es.map (·.born):=by
 apply List.ext_getElem?
 intro i
 rw[List.getElem?_map,List.getElem?_map,List.getElem?_modify]
 cases es[i]? with
 |none=>rfl
 |some e=>
  by_cases h:j=i
  ·simp[h,hg]
  ·simp[h]
theorem aju_ {es:List MapEntry} {c j:Nat} (h: (es.map (·.born)++ [c]).Pairwise (· < ·)): ((es.eraseIdx j).map (·.born)++ [c]).Pairwise (· < ·):=
 h.sublist (((List.eraseIdx_sublist es j).map _).append_right [c])
theorem adD_ (a b:List UInt8): ((ByteArray.mk a.toArray)==(ByteArray.mk b.toArray))=(a==b):=by
 show(a.toArray==b.toArray)=(a==b)
 simp
theorem WP_ (k:List UInt8): ∀ (es:List MapEntry) (m:Vals) (i:Nat),es.map (fun e=>(e.key,e.val))=m.map ZF_→
  Instr.findNow .string (vs k) es i=some ((fnd k m i).map fun p=>(p.1, .agg (a8 p.2)))
 | [],[],i,_=>rfl
 | [],_::_,_,h=>by cases h
 |_::_,[],_,h=>by cases h
 |e::es,p::m,i,h=>by
  simp only[List.map_cons,List.cons.injEq,ZF_,Prod.mk.injEq] at h
  obtain⟨⟨h1,h2⟩,h3⟩:=h
  unfold Instr.findNow
  have hs:Instr.sameNow .string (vs k) e.key=some (k==p.1):=by
   rw[h1]
   simp only[vs,Instr.sameNow,adD_]
  rw[hs]
  unfold fnd
  cases hk: (k==p.1)
  ·simp only[Bool.false_eq_true, ↓reduceIte]
   exact WP_ k es m (i+1) h3
  ·simp[h2]
theorem abo_ (k:List UInt8): ∀ (m:Vals) (i j:Nat) (v:List UInt8),fnd k m i=some (j,v)→i≤j∧ ∃a,m[j - i]? =some (k,a)∧a=v
 | [],_,_,_,h=>by cases h
 |p::r,i,j,v,h=>by
  unfold fnd at h
  split at h
  ·rename_i hk
   cases h
   refine⟨Nat.le_refl _,p.2, ?_,rfl⟩
   rw[Nat.sub_self,List.getElem?_cons_zero,eq_of_beq hk]
  ·obtain⟨h1,a,h2,h3⟩:=abo_ k r (i+1) j v h
   refine⟨by omega,a, ?_,h3⟩
   rw[show j - i=(j - (i+1))+1 by omega,List.getElem?_cons_succ];exact h2
theorem ac1_ (k v:List UInt8): ∀ (es:List MapEntry) (m:Vals) (i j:Nat) (a:List UInt8),es.map (fun e=>(e.key,e.val))=m.map ZF_→fnd k m i=some (j,a)→
  (es.modify (j - i) fun e=>{e with key:=vs k,val:= .agg (a8 v)}).map (fun e=>(e.key,e.val))=(updV k v m).map ZF_
 | [],[],_,_,_,_,h=>by cases h
 | [],_::_,_,_,_,h,_=>by cases h
 |_::_,[],_,_,_,h,_=>by cases h
 |e::es,p::m,i,j,a,h,hf=>by
  simp only[List.map_cons,List.cons.injEq,ZF_,Prod.mk.injEq] at h
  obtain⟨⟨h1,h2⟩,h3⟩:=h
  unfold fnd at hf
  unfold updV
  split at hf
  ·rename_i hk
   cases hf
   rw[if_pos hk,Nat.sub_self]
   simp only[List.modify_zero_cons,List.map_cons,ZF_,eq_of_beq hk]
   rw[h3]
  ·rename_i hk
   have hle:=(abo_ k m (i+1) j a hf).1
   rw[if_neg hk,show j - i=(j - (i+1))+1 by omega]
   simp only[List.modify_succ_cons,List.map_cons,ZF_]
   rw[ac1_ k v es m (i+1) j a h3 hf,h1,h2]
theorem adJ_ (k v:List UInt8): ∀ (m:Vals) (i:Nat),fnd k m i=none→updV k v m=m++ [(k,v)]
 | [],_,_=>rfl
 |p::r,i,h=>by
  unfold fnd at h
  split at h
  ·cases h
  ·rename_i hk
   unfold updV
   rw[if_neg hk,adJ_ k v r (i+1) h];rfl
section
variable {P:Program} {w0:World} {f:Fr} {L:zb_} {N:Fr→zb_→Prop} {ops:Array Oper} {rest:List Oper} {md:Md}
 {d:Option Tmp} {ty:TypeId} {ps:String} {af:Array Edge} {g:Option (Nat×Bool)}
theorem agQ_ {w:World} {t:TypeId} (hu:P.underlying t=some .string) (k:List UInt8) (es:List MapEntry) (m:Vals) (h:es.map (fun e=>(e.key,e.val))=m.map ZF_):
  (Instr.findKey t (vs k) es).run P w= .ok ((fnd k m 0).map fun p=>(p.1, .agg (a8 p.2))) w:=by
 simp only[Instr.findKey,Sem.run_bind,run_underlying hu w,Result.andThen_ok,WP_ k es m 0 h]
 rfl
theorem J1_ {w:World} {t:TypeId} (hu:P.underlying t=some .string) (e:Bool) (k:List UInt8): (Instr.checkKey e 10000 t (vs k)).run P w= .ok () w:=by
 unfold Instr.checkKey
 simp only[Sem.run_bind,run_underlying hu w,Result.andThen_ok,vs]
 rfl
theorem qY_ {w:World} {b:Nat} {es:Array MapEntry} {c:Nat} (hb:w.heap[b]? =some (.map es c)): (getObj b).run P w= .ok (.map es c) w:=by
 simp only[getObj,Sem.run,hb]
theorem xE_ {w:World} {b:Nat} {es:Array MapEntry} {c:Nat} (hb:w.heap[b]? =some (.map es c)) (o:Obj): (setObj b o).run P w= .ok () {w with heap:=w.heap.setIfInBounds b o}:=by
 simp only[setObj,Sem.run,hb]
def vm (b:Nat):Value:= .map (some b)
theorem Ow.makeMap {t:TypeId} {md':Md} (he:md.turn=some md') (hs:zn_ ops f ⟨d, .makeMap t none,ty,ps,af,g⟩=false)
  (hn: ∀b o,jV_ L b→w0.heap.size≤b→MapR o []→Ow P w0 ops md' rest (qu_ f d (vm b)) (L++ [(b,o)]) N):
  Ow P w0 ops md (⟨d, .makeMap t none,ty,ps,af,g⟩::rest) f L N:=by
 refine Ow.step he rfl hs fun w hw=> .inl ⟨vm w.heap.size,w.alloc (.map #[] 0),_, ?_,hw.alloc _,hn _ _ (z2_ fun b hb=>hw.lt hb) hw.size ⟨#[],0,rfl,rfl,List.pairwise_singleton _ _⟩⟩
 simp only[execOp,Instr.makeMap,Sem.run_bind,Option.map_none]
 rfl
theorem aqo_ {k:List UInt8} {m:Vals} {es:List MapEntry} {j:Nat} {a:List UInt8} (h:es.map (fun e=>(e.key,e.val))=m.map ZF_) (hf:fnd k m 0=some (j,a)): ∃e,es[j]? =some e∧e.key=vs k:=by
 obtain⟨-,a',h1,rfl⟩:=abo_ k m 0 j a hf
 rw[Nat.sub_zero] at h1
 have:=congrArg (·[j]?) h
 simp only[List.getElem?_map,h1,Option.map_some] at this
 cases he:es[j]? with
 |none=>rw[he] at this;cases this
 |some e=>
  rw[he] at this
  simp only[Option.map_some,Option.some.injEq,ZF_,Prod.mk.injEq] at this
  exact⟨e,rfl,this.1⟩
theorem Ow.mapUpdate {t kt vt:TypeId} {x y z:Operand} {b:Nat} {o:Obj} {m:Vals} {k v:List UInt8} {md':Md} (he:md.turn=some md') (hs:zn_ ops f ⟨d, .mapUpdate t x y z,ty,ps,af,g⟩=false) (hu:P.underlying t=some (.map kt vt)) (huk:P.underlying kt=some .string)
  (hx:ev f x=vm b) (hy:ev f y=vs k) (hz:ev f z= .agg (a8 v)) (hl:look L b=some o) (hm:MapR o m)
  (hn: ∀o',MapR o' (updV k v m)→Ow P w0 ops md' rest (qu_ f d undef) (setB L b o') N):
  Ow P w0 ops md (⟨d, .mapUpdate t x y z,ty,ps,af,g⟩::rest) f L N:=by
 obtain⟨es,c,rfl,hes,hbo⟩:=hm
 refine Ow.step he rfl hs fun w hw=> ?_
 have hb:=hw.has _ _ (zy_ hl)
 have hfk:=agQ_ (w:=w) huk k es.toList m hes
 cases hf:fnd k m 0 with
 |none=>
  rw[hf] at hfk
  refine .inr (.inl ⟨{w with heap:=w.heap.setIfInBounds b (.map (es.push {key:=vs k,val:= .agg (a8 v),born:=c}) (c+1))},_, ?_,hw.set (zh_ hl) rfl rfl rfl rfl,hn _ ⟨_,_,rfl, ?_,by rw[Array.toList_push];exact aeg_ hbo rfl⟩⟩)
  ·have: (Instr.mapUpdate t (vm b) (vs k) (.agg (a8 v))).run P w= .ok () {w with heap:=w.heap.setIfInBounds b (.map (es.push {key:=vs k,val:= .agg (a8 v),born:=c}) (c+1))}:=by
    simp only[Instr.mapUpdate,vm,Sem.run_bind,run_underlying hu w,Result.andThen_ok,qY_ hb,J1_ huk,hfk,Option.map_none,xE_ hb]
   simp only[execOp,Sem.run_bind,hx,hy,hz]
   rw[this];rfl
  ·rw[adJ_ k v m 0 hf,Array.toList_push,List.map_append,hes,List.map_append];rfl
 |some p=>
  obtain⟨j,a⟩:=p
  rw[hf] at hfk
  obtain⟨e,hej,hek⟩:=aqo_ hes hf
  have hej':es[j]? =some e:=by simpa using hej
  have hkt: (Instr.keyThatStays (((es[j]?).map (·.key)).getD (vs k)) (vs k)).run P w= .ok (vs k) w:=by
   rw[hej',Option.map_some,Option.getD_some,hek]
   unfold Instr.keyThatStays
   have:Instr.sameBits 10000 (vs k) (vs k)=true:=by simp[vs,Instr.sameBits,adD_]
   rw[if_pos this];rfl
  refine .inr (.inl ⟨{w with heap:=w.heap.setIfInBounds b (.map (es.modify j fun e=>{e with key:=vs k,val:= .agg (a8 v)}) c)},_, ?_,hw.set (zh_ hl) rfl rfl rfl rfl,hn _ ⟨_,_,rfl, ?_,by rw[Array.toList_modify,XN_ (g:=fun e=>{e with key:=vs k,val:= .agg (a8 v)}) fun _=>rfl];exact hbo⟩⟩)
  ·have: (Instr.mapUpdate t (vm b) (vs k) (.agg (a8 v))).run P w= .ok () {w with heap:=w.heap.setIfInBounds b (.map (es.modify j fun e=>{e with key:=vs k,val:= .agg (a8 v)}) c)}:=by
    simp only[Instr.mapUpdate,vm,Sem.run_bind,run_underlying hu w,Result.andThen_ok,qY_ hb,J1_ huk,hfk,Option.map_some,hkt,xE_ hb]
   simp only[execOp,Sem.run_bind,hx,hy,hz]
   rw[this];rfl
  ·rw[Array.toList_modify]
   have:=ac1_ k v es.toList m 0 j a hes hf
   rw[Nat.sub_zero] at this
   exact this
end
end Go.Sx
namespace Go.Sx
open Go
section
variable {P:Program} {w0:World} {f:Fr} {L:zb_} {N:Fr→zb_→Prop} {ops:Array Oper} {rest:List Oper} {md:Md}
 {d:Option Tmp} {ty:TypeId} {ps:String} {af:Array Edge} {g:Option (Nat×Bool)}
end
end Go.Sx
namespace Go.Sx
open Go
def kv (e:MapEntry):Value×Value:=(e.key,e.val)
def ItR (o:Obj) (bm:Nat) (om:Obj) (m dn lf:Vals):Prop:=
 ∃es clock,∃ds:List MapEntry,om= .map es clock∧(es.toList.map (·.born)++ [clock]).Pairwise (· < ·)∧o= .mapIter (some bm) clock (ds.map (·.born)).toArray clock∧
  ds.map kv=dn.map ZF_∧(∀d,d∈ds→d∈es.toList)∧((es.toList.filter fun e=> !(ds.map (·.born)).contains e.born).map kv=lf.map ZF_)∧(dn++lf).Perm m
theorem JM_ {l:List MapEntry} {c:Nat} (h: (l.map (·.born)++ [c]).Pairwise (· < ·)): (l.map (·.born)).Nodup:=
 ((List.pairwise_append.1 h).1).imp fun h=>Nat.ne_of_lt h
theorem aqN_ {l:List MapEntry} {c:Nat} (h: (l.map (·.born)++ [c]).Pairwise (· < ·)): ∀x,x∈l→x.born<c:=fun x hx=>
 (List.pairwise_append.1 h).2.2 _ (List.mem_map.2 ⟨x,hx,rfl⟩) c (List.mem_singleton.2 rfl)
theorem adc_ (es:Array MapEntry) (ds:List MapEntry): (leftOf es (ds.map (·.born)).toArray).toList=es.toList.filter fun e=> !(ds.map (·.born)).contains e.born:=by
 unfold leftOf
 rw[Array.toList_filter]
 simp
theorem ItR.start {bm:Nat} {om:Obj} {m:Vals} (h:MapR om m): ∃es clock,om= .map es clock∧ItR (.mapIter (some bm) clock #[] clock) bm om m [] m:=by
 obtain⟨es,clock,rfl,h1,h2⟩:=h
 refine⟨es,clock,rfl,es,clock,[],rfl,h2,rfl,rfl,(fun d hd=>by cases hd), ?_,by rw[List.nil_append]⟩
 rw[show(es.toList.filter fun e=> !(([]:List MapEntry).map (·.born)).contains e.born)=es.toList from List.filter_eq_self.2 (fun _ _=>rfl)]
 exact h1
theorem ItR.step {bm:Nat} {om:Obj} {m dn lf:Vals} {es:Array MapEntry} {clock:Nat} {ds:List MapEntry} {e:MapEntry} (hb: (es.toList.map (·.born)++ [clock]).Pairwise (· < ·))
  (hd:ds.map kv=dn.map ZF_) (hm: ∀d,d∈ds→d∈es.toList) (hl: (es.toList.filter fun e=> !(ds.map (·.born)).contains e.born).map kv=lf.map ZF_) (hp: (dn++lf).Perm m)
  (he:e∈es.toList.filter fun e=> !(ds.map (·.born)).contains e.born) (hom:om= .map es clock):
  ∃p lf',kv e=ZF_ p∧lf.length=lf'.length+1∧ItR (.mapIter (some bm) clock ((ds.map (·.born)).toArray.push e.born) clock) bm om m (dn++ [p]) lf':=by
 obtain⟨A,C,hAC⟩:=List.append_of_mem he
 rw[hAC,List.map_append,List.map_cons] at hl
 obtain⟨l1,l2,rfl,h1,h2⟩:=List.append_eq_map_iff.1 hl
 obtain⟨p,l3,rfl,h3,h4⟩:=(List.map_eq_cons_iff.1 h2)
 refine⟨p,l1++l3,h3.symm,by simp;omega,es,clock,ds++ [e],hom,hb,by simp,by simp[hd,h3], ?_, ?_, ?_⟩
 ·intro d hd'
  rcases List.mem_append.1 hd' with h|h
  ·exact hm d h
  ·rw[List.mem_singleton] at h;subst h;exact(List.mem_filter.1 he).1
 ·have hnd: ((A++e::C).map (·.born)).Nodup:=by
   rw[←hAC]
   exact(JM_ hb).sublist ((List.filter_sublist).map _)
  have e1: (es.toList.filter fun x=> !((ds++ [e]).map (·.born)).contains x.born)=(A++e::C).filter fun x=> !(x.born==e.born):=by
   rw[←hAC,List.filter_filter]
   refine List.filter_congr fun x hx=> ?_
   simp only[List.map_append,List.map_cons,List.map_nil,List.contains_append,List.contains_cons,List.contains_nil,Bool.or_false,Bool.not_or]
   rw[Bool.and_comm]
  rw[List.map_append,List.map_cons,List.nodup_append] at hnd
  obtain⟨-,hn2,hn3⟩:=hnd
  rw[List.nodup_cons] at hn2
  have e2: ((A++e::C).filter fun x=> !(x.born==e.born))=A++C:=by
   rw[List.filter_append,List.filter_cons]
   simp only[beq_self_eq_true,Bool.not_true,Bool.false_eq_true, ↓reduceIte]
   congr 1
   ·refine List.filter_eq_self.2 fun x hx=> ?_
    have:=hn3 x.born (List.mem_map.2 ⟨x,hx,rfl⟩) e.born List.mem_cons_self
    simpa using this
   ·refine List.filter_eq_self.2 fun x hx=> ?_
    have:x.born≠e.born:=fun h=>hn2.1 (h▸List.mem_map.2 ⟨x,hx,rfl⟩)
    simpa using this
  rw[e1,e2,List.map_append,List.map_append,h1,h4]
 ·refine List.Perm.trans ?_ hp
  rw[List.append_assoc]
  refine List.Perm.append_left dn ?_
  rw[List.singleton_append]
  exact List.perm_middle.symm
section
variable {P:Program} {w0:World} {f:Fr} {L:zb_} {N:Fr→zb_→Prop} {ops:Array Oper} {rest:List Oper} {md:Md}
 {d:Option Tmp} {ty:TypeId} {ps:String} {af:Array Edge} {g:Option (Nat×Bool)}
def itv (b:Nat):Value:= .pointer (some ⟨b,0,none⟩)
end
end Go.Sx
namespace Go.Sx
open Go
theorem akZ_ (A B C:List Value) {o n:Nat} (hA:A.length=o) (hB:B.length=n): (A++ (B++C)).toArray.extract o (o+n)=B.toArray:=by
 subst hA;subst hB
 rw[List.extract_toArray,List.extract_eq_take_drop,List.drop_left,Nat.add_sub_cancel_left,List.take_left]
theorem ar3_ (A C:List Value) (v:Value) {o:Nat} (hA:A.length=o): (A++ ([v]++C)).toArray[o]? =some v:=by
 subst hA;simp
theorem aaF_ (A C:List Value) (v:Value) {o:Nat} (hA:A.length=o): (A++ ([v]++C))[o]? =some v:=by
 subst hA;simp
theorem Q8_ (A B C:List Value) {o n:Nat} (E:TypeId) (fz:Nat×Nat) (hA:A.length=o) (hB:B.length=n):zt_ (some (true,n)) (some (.cells (A++ (B++C)).toArray E fz)) o=some (.agg B.toArray):=by
 have hs:o+n≤ (A++ (B++C)).toArray.size:=by
  simp only[List.size_toArray,List.length_append];omega
 unfold zt_
 simp only[hs, ↓reduceIte]
 rw[akZ_ A B C hA hB]
theorem j4_ (A C:List Value) (v:Value) {o:Nat} (n:Nat) (E:TypeId) (fz:Nat×Nat) (hA:A.length=o):zt_ (some (false,n)) (some (.cells (A++ ([v]++C)).toArray E fz)) o=some v:=by
 rw[loadV_one];exact ar3_ A C v hA
theorem zO_ (A B B' C:List Value) {o n:Nat} (a:Bool) (x:Value) (E:TypeId) (hA:A.length=o) (hB:B.length=n) (hx:x.cells=B'.toArray) (hB':B'.length=n) (ho:B'.all Value.oneCell'=true):
  zv_ (some (a,n)) (some (.cells (A++ (B++C)).toArray E (0,0))) o x=some (.cells (A++ (B'++C)).toArray E (0,0)):=by
 subst hA
 have hp:=aeV_ B' A B C (by rw[hB,hB'])
 rw[List.append_assoc,List.append_assoc] at hp
 unfold zv_
 simp only[hx]
 rw[if_pos ⟨by rw[List.size_toArray,hB'],by simp only[List.size_toArray,List.length_append];omega, .inl (Nat.le_refl 0),ho⟩,hp]
theorem ky_ (cs:List Value) {n:Nat} (a:Bool) (old:Array Value) (E:TypeId) (hn:cs.length=n) (ho:cs.all Value.oneCell'=true) (h:old.size=n):
  zv_ (some (a,n)) (some (.cells old E (0,0))) 0 (.agg cs.toArray)=some (.cells cs.toArray E (0,0)):=
 Qw_ n a cs.toArray old E ⟨by rw[List.size_toArray,hn],h⟩ ho
theorem XL_ (l:List UInt8): (l.map v8).all Value.oneCell'=true:=by
 rw[List.all_map]
 exact List.all_eq_true.2 fun x _=>rfl
theorem RowS.part {α:Type} {m:Nat} {enc:α→List Value} {z:α} {w:World} {v:Value} {l:List α} {b off:Nat} {arr:Array Value} {E:TypeId} {fz:Nat×Nat} (h:RowS m enc z w v l b off arr E fz) (hm: ∀x,(enc x).length=m) {k o n:Nat} (hk:k<l.length) (ho:o+n≤m) (hn:0<n):
  zt_ (some (true,n)) (some (.cells arr E fz)) (off+k*m+o)=some (.agg ((enc (l.getD k z)).toArray.extract o (o+n))):=by
 have hg: ∀i,i<n→arr[off+k*m+ (o+i)]? =(enc (l.getD k z))[o+i]? :=fun i hi=>h.get k hk (o+i) (by omega)
 have hlen:=hm (l.getD k z)
 have hsz:off+k*m+o+n≤arr.size:=by
  have h1:=hg (n - 1) (by omega)
  rw[List.getElem?_eq_getElem (by omega)] at h1
  have:=(Array.getElem?_eq_some_iff.1 h1).1
  omega
 unfold zt_
 simp only[hsz, ↓reduceIte]
 congr 2
 apply Array.ext_getElem?
 intro i
 by_cases hi:i<n
 ·rw[Array.getElem?_extract,Array.getElem?_extract,if_pos (by omega),if_pos (by rw[List.size_toArray];omega)]
  have hh:=hg i hi
  rw[show off+k*m+ (o+i)=off+k*m+o+i by omega] at hh
  rw[hh]
  exact(List.getElem?_toArray ..).symm
 ·rw[Array.getElem?_eq_none (by rw[Array.size_extract];omega),Array.getElem?_eq_none (by rw[Array.size_extract];omega)]
end Go.Sx
namespace Go.Sx
open Go
theorem Cw.forget {P:Program} {w0:World} {c:Code} {f:Fr} {L:zb_} {K:kg_} (M:zb_) (hM: ∀p,p∈M→p∈L) (hn: (keys M).Nodup) (hnew: ∀p,p∈L→p.1∉keys M→w0.heap.size≤p.1)
  (h:Cw P w0 c f M K):Cw P w0 c f L K:=fun w hw=>h w (hw.drop hM hn fun p hp hlt hk=>by have:=hnew p hp hk;omega)
end Go.Sx
namespace Go.Sx
open Go
def SlV {α:Type} (m:Nat) (enc:α→List Value) (z:α) (w:World) (v:Value) (l:List α):Prop:=
 ∃b off c arr E fz,RowS m enc z w v l b off arr E fz∧l.length≤c∧((v= .slice none 0 0∧l= []∧c=0)∨(v=vsl b off l.length c∧w.heap[b]? =some (.cells arr E fz)∧off+l.length*m≤arr.size))
section
variable {α:Type} {m:Nat} {enc:α→List Value} {z:α} {w:World} {v:Value} {l:List α}
theorem RowS.sl' {b off n c:Nat} {arr:Array Value} {E:TypeId} {fz:Nat×Nat} (hn:n=l.length)
  (has:0<l.length→w.heap[b]? =some (.cells arr E fz)) (get: ∀k,k<l.length→ ∀j,j<m→arr[off+k*m+j]? =(enc (l.getD k z))[j]?):RowS m enc z w (vsl b off n c) l b off arr E fz:=by
 subst hn
 exact⟨fun x=>rfl,fun a k hk=>xX_ _ _ _ _ _ _ ⟨by omega,by omega⟩,has,get⟩
theorem SlV.nil (w:World):SlV m enc z w (.slice none 0 0) []:=⟨0,0,0, #[],0,(0,0),RowS.nil w 0 0 rfl,Nat.le_refl _, .inl ⟨rfl,rfl,rfl⟩⟩
theorem SlV.row (h:SlV m enc z w v l): ∃b off arr E fz,RowS m enc z w v l b off arr E fz:=by
 obtain⟨b,off,c,arr,E,fz,hr,-⟩:=h;exact⟨b,off,arr,E,fz,hr⟩
theorem SlV.sl {b off c:Nat} {arr:Array Value} {E:TypeId} {fz:Nat×Nat} (has:w.heap[b]? =some (.cells arr E fz)) (get: ∀k,k<l.length→ ∀j,j<m→arr[off+k*m+j]? =(enc (l.getD k z))[j]?) (hc:l.length≤c) (hs:off+l.length*m≤arr.size):SlV m enc z w (vsl b off l.length c) l:=
 ⟨b,off,c,arr,E,fz,RowS.sl rfl has get,hc, .inr ⟨rfl,has,hs⟩⟩
theorem RowS.old {w':World} {b off:Nat} {arr:Array Value} {E:TypeId} {fz:Nat×Nat} {L:zb_} (h:RowS m enc z w v l b off arr E fz) (hw:Hp w L w') (hb:0<l.length→b∉keys L):RowS m enc z w' v l b off arr E fz:=
 ⟨h.len,h.idx,fun hl=>by have hh:=h.has hl;rw[hw.old b (Array.getElem?_eq_some_iff.1 hh).1 (hb hl)];exact hh,h.get⟩
theorem RowS.lt {b off:Nat} {arr:Array Value} {E:TypeId} {fz:Nat×Nat} (h:RowS m enc z w v l b off arr E fz) (hl:0<l.length):b<w.heap.size:=(Array.getElem?_eq_some_iff.1 (h.has hl)).1
theorem SlV.old {w':World} {L:zb_} (h:SlV m enc z w v l) (hw:Hp w L w') (hb: ∀b,slB v=some b→b<w.heap.size→b∉keys L):SlV m enc z w' v l:=by
 obtain⟨b,off,c,arr,E,fz,hr,hc,hv⟩:=h
 rcases hv with⟨rfl,rfl,rfl⟩ | ⟨rfl,hhas,hsz⟩
 ·exact SlV.nil w'
 ·have hnb:=hb b rfl (Array.getElem?_eq_some_iff.1 hhas).1
  refine⟨b,off,c,arr,E,fz,hr.old hw (fun _=>hnb),hc, .inr ⟨rfl, ?_,hsz⟩⟩
  rw[hw.old b (Array.getElem?_eq_some_iff.1 hhas).1 hnb];exact hhas
theorem New.not {L:zb_} {n b:Nat} (h:New n L) (hb:b<n):b∉keys L:=fun hm=>by have:=h.le b hm;omega
theorem SlV.oldN {w':World} {L:zb_} (h:SlV m enc z w v l) (hw:Hp w L w') (hn:New w.heap.size L):SlV m enc z w' v l:=h.old hw fun _ _ hb=>hn.not hb
theorem SlV.len (h:SlV m enc z w v l) (x:Bool×Nat):KK_ (.sl x) v=some (vi l.length):=by
 obtain⟨b,off,arr,E,fz,hr⟩:=h.row
 exact hr.len x
theorem SlV.take (h:SlV m enc z w v l) {k:Nat} (hk:k≤l.length) (a:Bool): ∃v',jB_ (.sl (a,m)) v none (some (some (k:Int)))=some v'∧SlV m enc z w v' (l.take k)∧(∀b,slB v'=some b→slB v=some b):=by
 obtain⟨b,off,c,arr,E,fz,hr,hc,hv⟩:=h
 have hl: (l.take k).length=k:=by simp;omega
 rcases hv with⟨rfl,rfl,rfl⟩ | ⟨rfl,hhas,hsz⟩
 ·obtain rfl:k=0:=by simpa using hk
  refine⟨.slice none 0 0,rfl,SlV.nil w,fun b hb=>hb⟩
 ·refine⟨vsl b off k c, ?_, ?_,fun b hb=>hb⟩
  ·unfold jB_ vsl
   simp only[apT_ _ _ _ (⟨by omega,by omega⟩: (0:Int)≤ (k:Int)∧(k:Int)≤ (c:Int)),Int.toNat_natCast,Nat.zero_mul,Nat.sub_zero,Option.map_some,jK_,Nat.add_zero]
   split<;>rfl
  ·refine⟨b,off,c,arr,E,fz,RowS.sl' hl.symm (fun h0=>hr.has (by omega)) ?_,by omega, .inr ⟨by rw[hl],hhas,by rw[hl];have:k*m≤l.length*m:=Nat.mul_le_mul_right _ hk;omega⟩⟩
   ·intro i hi j hj
    rw[hl] at hi
    rw[hr.get i (by omega) j hj]
    congr 2
    rw[List.getD_eq_getElem?_getD,List.getD_eq_getElem?_getD,List.getElem?_take_of_lt hi]
theorem Buf.slM {L:zb_} {E:TypeId} {n:Nat} {cs:List Value} (h:Buf L E m v n cs) (hw: ∀b o,(b,o)∈L→w.heap[b]? =some o) (hl:l.length=n) (hcs:cs=(l.map enc).flatten) (hm: ∀x,(enc x).length=m):SlV m enc z w v l:=by
 rcases h.inv with⟨rfl,rfl,rfl⟩ | ⟨b,c,rest,rfl,hlk,hlen,hnc,h0,hrest⟩
 ·have:l= []:=by simpa using hl
  subst this;exact SlV.nil w
 ·subst hl
  refine SlV.sl (hw _ _ (zy_ hlk)) ?_ hnc (by rw[List.size_toArray,List.length_append,hlen];omega)
  intro k hk j hj
  rw[Nat.zero_add,List.getElem?_toArray,List.getElem?_append_left (by rw[hlen];have: (k+1)*m≤l.length*m:=Nat.mul_le_mul_right _ hk;rw[Nat.add_mul,Nat.one_mul] at this;omega),hcs]
  clear hlen hrest hlk hcs hnc h
  induction l generalizing k with
  |nil=>simp at hk
  |cons x r ih=>
   rw[List.map_cons,List.flatten_cons]
   cases k with
   |zero=>
    rw[Nat.zero_mul,Nat.zero_add,List.getElem?_append_left (by rw[hm];exact hj),List.getD_cons_zero]
   |succ k=>
    rw[List.getElem?_append_right (by rw[hm,Nat.add_mul,Nat.one_mul];omega),hm,List.getD_cons_succ]
    have:=ih (k:=k) (by simpa using hk)
    rw[←this]
    congr 1
    rw[Nat.add_mul,Nat.one_mul];omega
theorem Buf.slV {L:zb_} {E:TypeId} {n:Nat} {cs:List Value} {w0:World} (h:Buf L E m v n cs) (hw:Hp w0 L w) (hl:l.length=n) (hcs:cs=(l.map enc).flatten) (hm: ∀x,(enc x).length=m):SlV m enc z w v l:=h.slM hw.has hl hcs hm
end
end Go.Sx
namespace Go.Sx
open Go
theorem New.mono {n m:Nat} (h:n≤m): ∀ {L:zb_},New m L→New n L
 | [],_=>trivial
 | (_,_)::_,hL=>⟨Nat.le_trans h hL.1,New.mono h hL.2⟩
theorem New.app {n:Nat} {M:zb_}: ∀ {L:zb_},New n L→New n M→New n (L++M)
 | [],_,hM=>hM
 | (_,_)::_,hL,hM=>⟨hL.1,New.app hL.2 hM⟩
section
variable {P:Program} {w0:World} {f:Fr} {L:zb_} {N:Fr→zb_→Prop} {ops:Array Oper} {rest:List Oper} {md:Md}
 {d:Option Tmp} {ty:TypeId} {ps:String} {af:Array Edge} {g:Option (Nat×Bool)}
theorem Ow.callN {l:List Operand} {ts:Array TypeId} {k:FuncId} {S:Nat→Value→zb_→Prop} {md':Md} (he:md.turn=some md')
  (hs:zn_ ops f ⟨d, .call ⟨.value (.func k),l.toArray,ts⟩,ty,ps,af,g⟩=false)
  (hk: ∀a w,(callFunc k a).run P w= .ok (.enter k a) w)
  (hc: ∀w,Hp w0 L w→Rets P k (l.map (ev f)).toArray w (fun v D=>S w.heap.size v D))
  (hnew: ∀B v D,S B v D→New B D)
  (hn: ∀B v D,jV_ L B→w0.heap.size≤B→S B v D→Ow P w0 ops md' rest (qu_ f d v) (L++D) N):
  Ow P w0 ops md (⟨d, .call ⟨.value (.func k),l.toArray,ts⟩,ty,ps,af,g⟩::rest) f L N:=by
 refine Ow.callF he hs hk (S:=S) hc ?_
 intro B v D ha hB hS
 exact⟨_,Mrg.fresh (hnew B v D hS).le,hn B v D ha hB hS⟩
theorem Cw.forgetN {c:Code} {K:kg_} (M:zb_) (hnew:New w0.heap.size L) (hM: ∀p,p∈M→p∈L) (hn: (keys M).Nodup) (h:Cw P w0 c f M K):Cw P w0 c f L K:=
 Cw.forget M hM hn (fun p hp _=>hnew.le _ (List.mem_map.2 ⟨p,hp,rfl⟩)) h
end
end Go.Sx
section
namespace Go.Sx
open Go
set_option linter.unusedSimpArgs false
section
variable {P:Program} {w0:World} {L:zb_}
theorem wS_ {w:World} {ts tx ty e:TypeId} {m:Bool×Nat} {z x:Value} {b k:Nat} {new:List Value} (hw:Hp w0 L w)
  (hu:P.underlying ts=some (.slice e)) (hm:z0_ P e=some m) (hi:k3_ P e=true) (hz:zM_ P e=some z) (hzs:z.cells.size=m.2) {d:TypeDesc} (hux:P.underlying tx=some d) (hnx: ∀k,d≠ .int k)
  (hXa: ∀w,Hp w0 L w→AppX P w m.2 x k new) (hbig:2* (0+k)+768≤2^38):
  (k=0∧(Builtin.append_ #[ts,tx] ty #[vsl b 0 0 0,x]).run P w= .ok (vsl b 0 0 0) w)∨
  (0<k∧ ∃v' w' L',(Builtin.append_ #[ts,tx] ty #[vsl b 0 0 0,x]).run P w= .ok v' w'∧Hp w0 L' w'∧Buf L' e m.2 v' (0+k) ([]++new)∧Grew w0 (.slice none 0 0) L L'∧ ∃c,slB v'=some c∧jV_ L c):=by
 obtain⟨i,hi,hb0,hbig⟩:=wX_ hi hbig
 have hti: ∀w,(typeInfo e).run P w= .ok i w:=by
  intro w
  simp only[typeInfo,program,Sem.run_bind]
  show Result.andThen (Result.ok P w) _=_
  simp only[Result.andThen_ok,hi]
  rfl
 have hmd: (match d with| .int _=>true|_=>false)=false:=by
  cases d<;>first|rfl|exact absurd rfl (hnx _)
 have e1: ∀ {α β:Type} (a:α) (f:α→World→Result β),(Sem.run P (pure a) w).andThen f=f a w:=fun _ _=>rfl
 have hX:=hXa w hw
 have hxl:=hX.len
 have hxc:=hX.cells
 have hzv:=xU_ (P:=P) hz
 have room: ∀ (b:Nat) (w:World),(askRoom b).run P w= .ok () w:=by
  intro b w
  unfold askRoom
  split<;>rfl
 have zc: ∀j,(Builtin.zeroCells z.cells j).toList.length=j*m.2:=by
  intro j;simp[Builtin.zeroCells,hzs]
 have hbg: ∀c,c<0+k→ ¬ (Builtin.nextslicecap (0+k) c*i.bytes>2^48):=by
  intro c hc
  have:=wv_ hc
  have h2:=Nat.mul_le_mul_right i.bytes this
  omega
 by_cases hk:k=0
 ·subst hk
  have hnew:new= []:=List.eq_nil_of_length_eq_zero (by have:=hX.size;omega)
  subst hnew
  refine .inl ⟨rfl, ?_⟩
  simp only[Builtin.append_,vsl,List.getElem?_toArray,List.getElem?_cons_zero,List.getElem?_cons_succ,Sem.run_bind,run_underlying hu w,Result.andThen_ok,zF_ hm w,run_underlying hux w,hmd,e1,Bool.false_eq_true, ↓reduceIte,hxl,Bool.not_false,Nat.add_zero,Nat.le_refl,hxc]
  rfl
 ·have hpos: ¬0+k≤0:=by omega
  have hbg':=hbg 0 (by omega)
  simp only[Builtin.append_,List.getElem?_toArray,List.getElem?_cons_zero,List.getElem?_cons_succ,Sem.run_bind,run_underlying hu w,Result.andThen_ok,zF_ hm w,run_underlying hux w,hmd,e1,Bool.false_eq_true, ↓reduceIte,hxl,Bool.not_false,hpos,vsl,hti,hb0,or_false,and_false,hbg']
  have hch: (choose (Question.appendCap (0+k) 0 e)).run P w= .ok ((0+k)+w.tape w.drawn (.appendCap (0+k) 0 e)% (2^63 - (0+k))) w.drew:=rfl
  rw[hch]
  generalize hcc: (0+k)+w.tape w.drawn (.appendCap (0+k) 0 e)% (2^63 - (0+k))=c
  have hw1:=hw.drew
  have hX1:=hXa _ hw1
  have hold: (Builtin.firstCells m.2 0 (Value.slice (some ⟨b,0,none⟩) 0 0)).run P w.drew= .ok #[] w.drew:=by
   simp only[Builtin.firstCells,Nat.zero_mul];rfl
  simp only[Result.andThen_ok,room,hold,hX1.cells,hzv]
  refine .inr ⟨by omega,_,_,L++ [(w.drew.heap.size, .cells ([]++new++ (Builtin.zeroCells z.cells (c - (0+k))).toList).toArray e (0,0))],rfl, ?_, .at_ (b:=w.drew.heap.size) (rest:=(Builtin.zeroCells z.cells (c - (0+k))).toList) ?_ ?_ ?_ (by omega) (by omega), ?_,⟨_,rfl,z2_ fun b hb=>hw1.lt hb⟩⟩
  ·have ea: ([]++new++ (Builtin.zeroCells z.cells (c - (0+k))).toList).toArray= #[]++new.toArray++Builtin.zeroCells z.cells (c - (0+k)):=by apply Array.ext';simp
   rw[ea]
   exact hw1.alloc _
  ·rw[zG_ (fun hm=>Nat.lt_irrefl _ (hw1.lt hm))]
   simp[look]
  ·rw[List.nil_append,hX.size,Nat.zero_add]
  ·exact zc _
  ·refine⟨fun c hc=>by rw[zj_];exact List.mem_append_left _ hc,fun c hc=> ?_,fun c o hne ho=>zk_ ho⟩
   rw[zj_] at hc
   rcases List.mem_append.1 hc with hc|hc
   ·exact .inl hc
   ·right
    simp only[keys,List.map_cons,List.map_nil,List.mem_singleton] at hc
    subst hc
    exact⟨z2_ fun b hb=>hw1.lt hb,hw1.size⟩
end
section
variable {P:Program} {w0:World} {f:Fr} {L:zb_} {N:Fr→zb_→Prop} {ops:Array Oper} {rest:List Oper} {md:Md}
 {d:Option Tmp} {ty:TypeId} {ps:String} {af:Array Edge} {g:Option (Nat×Bool)}
theorem Ow.appendEm {ts tx e:TypeId} {m:Bool×Nat} {z:Value} {s x:Operand} {b k:Nat} {new:List Value} {dx:TypeDesc} {md':Md} (hsv:ev f s=vsl b 0 0 0) (he:md.turn=some md')
  (hs:zn_ ops f ⟨d, .call ⟨.builtin .append, #[s,x], #[ts,tx]⟩,ty,ps,af,g⟩=false)
  (hu:P.underlying ts=some (.slice e)) (hm:z0_ P e=some m) (hi:k3_ P e=true) (hz:zM_ P e=some z) (hzs:z.cells.size=m.2) (hux:P.underlying tx=some dx) (hnx: ∀k,dx≠ .int k)
  (hX: ∀w,Hp w0 L w→AppX P w m.2 (ev f x) k new) (hbig:2* (0+k)+768≤2^38)
  (hn0:k=0→Ow P w0 ops md' rest (qu_ f d (vsl b 0 0 0)) L N)
  (hn: ∀v' L',0<k→Buf L' e m.2 v' (0+k) ([]++new)→Grew w0 (.slice none 0 0) L L'→(∃c,slB v'=some c∧jV_ L c)→Ow P w0 ops md' rest (qu_ f d v') L' N):
  Ow P w0 ops md (⟨d, .call ⟨.builtin .append, #[s,x], #[ts,tx]⟩,ty,ps,af,g⟩::rest) f L N:=by
 refine Ow.step he rfl hs fun w hw=> ?_
 rcases wS_ (ty:=ty) (b:=b) hw hu hm hi hz hzs hux hnx hX hbig with⟨hk,hr⟩ | ⟨hk,v',w',L',hr,hp,hb,hg,hsl⟩
 ·refine .inl ⟨_,w,L, ?_,hw,hn0 hk⟩
  simp only[execOp,resolve,Sem.run_bind,Sem.run_pure,Result.andThen_ok,invoke,builtin,List.map_toArray,List.map_cons,List.map_nil,hsv]
  rw[hr]
  rfl
 ·refine .inl ⟨v',w',L', ?_,hp,hn v' L' hk hb hg hsl⟩
  simp only[execOp,resolve,Sem.run_bind,Sem.run_pure,Result.andThen_ok,invoke,builtin,List.map_toArray,List.map_cons,List.map_nil,hsv]
  rw[hr]
  rfl
end
end Go.Sx
end
namespace Go.Sx
open Go
def Gr (L:zb_) (E:TypeId) (m:Nat) (v:Value) (n:Nat) (cs:List Value):Prop:=
 Buf L E m v n cs∨(n=0∧cs= []∧ ∃b,v=vsl b 0 0 0∧look L b=some (.cells #[] E (0,0)))
theorem Gr.nl {L:zb_} {E:TypeId} {m:Nat}:Gr L E m (.slice none 0 0) 0 []:= .inl .nl
theorem Grew.any {w0:World} {v v':Value} {L L':zb_} (h:Grew w0 v L L') (hv:slB v=none):Grew w0 v' L L':=
 ⟨h.keys,h.new,fun c o _ hl=>h.look c o (by rw[hv];simp) hl⟩
theorem Gr.keep {L L':zb_} {E:TypeId} {m n:Nat} {v:Value} {cs:List Value} (h:Gr L E m v n cs) (hk: ∀b o,slB v=some b→look L b=some o→look L' b=some o):Gr L' E m v n cs:=by
 rcases h with h| ⟨h1,h2,b,rfl,h3⟩
 ·exact .inl (h.keep hk)
 ·exact .inr ⟨h1,h2,b,rfl,hk b _ rfl h3⟩
theorem Gr.app {L M:zb_} {E:TypeId} {m n:Nat} {v:Value} {cs:List Value} (h:Gr L E m v n cs):Gr (L++M) E m v n cs:=h.keep fun _ _ _ hl=>zk_ hl
theorem Gr.len {L:zb_} {E:TypeId} {m n:Nat} {v:Value} {cs:List Value} (h:Gr L E m v n cs) (x:Bool×Nat):KK_ (.sl x) v=some (vi n):=by
 rcases h with h| ⟨rfl,rfl,b,rfl,-⟩
 ·exact h.len x
 ·rfl
theorem Gr.cell {L:zb_} {E:TypeId} {m n:Nat} {v:Value} {cs:List Value} (h:Gr L E m v n cs):Value.oneCell' v=true∧v.cells= #[v]:=by
 rcases h with h| ⟨rfl,rfl,b,rfl,-⟩
 ·exact h.cell
 ·exact⟨rfl,rfl⟩
theorem Gr.key {L:zb_} {E:TypeId} {m n:Nat} {v:Value} {cs:List Value} (h:Gr L E m v n cs) {b:Nat} (hb:slB v=some b):b∈keys L:=by
 rcases h with h| ⟨rfl,rfl,c,rfl,hl⟩
 ·rcases h.inv with⟨rfl,-,-⟩ | ⟨c,cc,rest,rfl,hl,-⟩
  ·cases hb
  ·cases hb;exact zh_ hl
 ·cases hb;exact zh_ hl
section
variable {α:Type} {m:Nat} {enc:α→List Value} {z:α} {w:World} {v:Value} {l:List α}
theorem Gr.slM {L:zb_} {E:TypeId} {n:Nat} {cs:List Value} (h:Gr L E m v n cs) (hw: ∀b o,(b,o)∈L→w.heap[b]? =some o) (hl:l.length=n) (hcs:cs=(l.map enc).flatten) (hm: ∀x,(enc x).length=m):SlV m enc z w v l:=by
 rcases h with h| ⟨rfl,rfl,b,rfl,hlk⟩
 ·exact h.slM hw hl hcs hm
 ·obtain rfl:l= []:=List.eq_nil_of_length_eq_zero hl
  exact SlV.sl (l:=([]:List α)) (off:=0) (c:=0) (hw _ _ (zy_ hlk)) (fun k hk=>by simp at hk) (Nat.le_refl 0) (by simp)
theorem Gr.slV {L:zb_} {E:TypeId} {n:Nat} {cs:List Value} {w0:World} (h:Gr L E m v n cs) (hw:Hp w0 L w) (hl:l.length=n) (hcs:cs=(l.map enc).flatten) (hm: ∀x,(enc x).length=m):SlV m enc z w v l:=h.slM hw.has hl hcs hm
theorem J9_ (hm: ∀x,(enc x).length=m) (arr:Array Value): ∀ (ls:List α) (off:Nat),off+ls.length*m≤arr.size→(∀k j,k<ls.length→j<m→arr[off+k*m+j]? =(enc (ls.getD k z))[j]?)→
  (arr.extract off (off+ls.length*m)).toList=(ls.map enc).flatten
 | [],off,_,_=>by simp
 |r::ls,off,hs,h=>by
  have hlm: (r::ls).length*m=m+ls.length*m:=by rw[List.length_cons,Nat.add_mul,Nat.one_mul,Nat.add_comm]
  rw[hlm] at hs ⊢
  have ih:=J9_ hm arr ls (off+m) (by omega) (fun k j hk hj=>by
   have:=h (k+1) j (by simpa using hk) hj
   rw[List.getD_cons_succ] at this
   rw[←this];congr 1;rw[Nat.add_mul,Nat.one_mul];omega)
  have h0: (arr.extract off (off+m)).toList=enc r:=by
   apply List.ext_getElem?
   intro j
   rw[Array.getElem?_toList,Array.getElem?_extract]
   by_cases hj:j<m
   ·rw[if_pos (by omega)]
    have:=h 0 j (by simp) hj
    simpa using this
   ·rw[if_neg (by omega),List.getElem?_eq_none (by rw[hm];omega)]
  rw[List.map_cons,List.flatten_cons,←ih,←h0,←Array.toList_append]
  congr 1
  rw[Array.extract_append_extract]
  congr 1<;>omega
theorem ahc_ (hm: ∀x,(enc x).length=m) (l:List α): (l.map enc).flatten.length=l.length*m:=by
 induction l with
 |nil=>simp
 |cons x r ih=>rw[List.map_cons,List.flatten_cons,List.length_append,ih,hm,List.length_cons,Nat.add_mul,Nat.one_mul,Nat.add_comm]
theorem AppX.one1 {P:Program} {b:Nat} {E:TypeId} {fz:Nat×Nat} {cs:List Value} (hb:w.heap[b]? =some (.cells cs.toArray E fz)) (hm:cs.length=m) (h1:cs.all Value.oneCell'=true):AppX P w m (vsl b 0 1 1) 1 cs:=by
 refine AppX.block (w0:=w) (L:= []) (by rw[Jc_];exact hb) (by simp;omega) ?_ h1 (Hp.refl w)
 rw[List.extract_toArray,List.extract_eq_take_drop,List.drop_zero,List.take_of_length_le (by omega)]
theorem SlV.appX {P:Program} (h:SlV m enc z w v l) (hm: ∀x,(enc x).length=m) (h1: ∀x,(enc x).all Value.oneCell'=true):AppX P w m v l.length (l.map enc).flatten:=by
 obtain⟨b,off,c,arr,E,fz,hr,hc,hv⟩:=h
 rcases hv with⟨rfl,rfl,rfl⟩ | ⟨rfl,hhas,hsz⟩
 ·exact AppX.nil P w m
 ·refine AppX.block (w0:=w) (L:= []) (by rw[Jc_];exact hhas) hsz (J9_ (z:=z) hm arr l off hsz (fun k j hk hj=>hr.get k hk j hj)) ?_ (Hp.refl w)
  rw[List.all_flatten,List.all_map,List.all_eq_true]
  exact fun r _=>h1 r
end
section
variable {P:Program} {w0:World} {f:Fr} {L:zb_} {N:Fr→zb_→Prop} {ops:Array Oper} {rest:List Oper} {md:Md}
 {d:Option Tmp} {ty:TypeId} {ps:String} {af:Array Edge} {g:Option (Nat×Bool)}
theorem Ow.appendG {ts tx e:TypeId} {m:Bool×Nat} {z:Value} {s x:Operand} {n k:Nat} {cs new:List Value} {dx:TypeDesc} {md':Md} (sv:Value) (hsv:ev f s=sv) (he:md.turn=some md')
  (hs:zn_ ops f ⟨d, .call ⟨.builtin .append, #[s,x], #[ts,tx]⟩,ty,ps,af,g⟩=false)
  (hu:P.underlying ts=some (.slice e)) (hm:z0_ P e=some m) (hi:k3_ P e=true) (hz:zM_ P e=some z) (hzs:z.cells.size=m.2) (hux:P.underlying tx=some dx) (hnx: ∀k,dx≠ .int k)
  (hB:Gr L e m.2 sv n cs) (hX: ∀w,Hp w0 L w→AppX P w m.2 (ev f x) k new) (hlen:new.length=k*m.2) (hbig:2* (n+k)+768≤2^38)
  (hn: ∀v' L',Gr L' e m.2 v' (n+k) (cs++new)→(0<k→Buf L' e m.2 v' (n+k) (cs++new))→Grew w0 sv L L'→(slB v'=slB sv∨ ∃c,slB v'=some c∧jV_ L c)→Ow P w0 ops md' rest (qu_ f d v') L' N):
  Ow P w0 ops md (⟨d, .call ⟨.builtin .append, #[s,x], #[ts,tx]⟩,ty,ps,af,g⟩::rest) f L N:=by
 rcases hB with hB| ⟨rfl,rfl,b,rfl,hlk⟩
 ·exact Ow.append sv hsv he hs hu hm hi hz hzs hux hnx hB hX hbig fun v' L' h1 h2 h3=>hn v' L' (.inl h1) (fun _=>h1) h2 h3
 ·refine Ow.appendEm hsv he hs hu hm hi hz hzs hux hnx hX hbig (fun h0=> ?_) (fun v' L' hk h1 h2 h3=> ?_)
  ·subst h0
   obtain rfl:new= []:=List.eq_nil_of_length_eq_zero (by rw[hlen,Nat.zero_mul])
   exact hn _ L (.inr ⟨rfl,rfl,b,rfl,hlk⟩) (fun h=>absurd h (Nat.lt_irrefl 0)) (Grew.refl _ _ _) (.inl rfl)
  ·exact hn v' L' (.inl h1) (fun _=>h1) (h2.any rfl) (.inr h3)
end
end Go.Sx
namespace Go.Sx
open Go
theorem akB_ {w0:World} {L M:zb_} {r:Nat} (h:r∈keys L):zz_ w0 (L++M) r=zz_ w0 L r:=by
 obtain⟨o,ho⟩:=XI_ h
 rw[ze_ ho,ze_ (zk_ ho)]
theorem Zl_ {w0:World} {L M:zb_} {R:List Nat} (h: ∀r,r∈R→r∈keys L): ∀r,r∈R→zz_ w0 (L++M) r=zz_ w0 L r:=fun r hr=>akB_ (h r hr)
theorem New.of_le {n:Nat}: ∀ {D:zb_},(∀c,c∈keys D→n≤c)→New n D
 | [],_=>trivial
 | (b,o)::r,h=>⟨h b (by simp[keys]),New.of_le fun c hc=>h c (by simp only[keys,List.map_cons,List.mem_cons] at hc ⊢;exact .inr hc)⟩
theorem Zg_ {w0:World} {L M:zb_} {r:Nat} (h:r∉keys M):zz_ w0 (M++L) r=zz_ w0 L r:=by
 unfold zz_;rw[zG_ h]
theorem Ext.new0 {w:World} {D:zb_} (h:Ext w [] D):New w.heap.size D:=by
 have hn:=h.new
 have key: ∀ (D:zb_),(∀c,c∈Sx.keys D→w.heap.size≤c)→New w.heap.size D:=by
  intro D
  induction D with
  |nil=>intro _;trivial
  |cons p r ih=>
   obtain⟨b,o⟩:=p
   intro hh
   exact⟨hh b (by simp[Sx.keys]),ih fun c hc=>hh c (by simp only[Sx.keys,List.map_cons,List.mem_cons] at hc ⊢;exact .inr hc)⟩
 refine key D fun c hc=> ?_
 rcases hn c hc with h1|h1
 ·cases h1
 ·exact h1
theorem Ext.of_new {w:World} {D:zb_} (h:New w.heap.size D):Ext w [] D:=⟨fun c hc=> .inr (h.le c hc),fun c hc=>by cases hc⟩
section
variable {P:Program} {w0:World} {f:Fr} {L:zb_} {N:Fr→zb_→Prop} {K:kg_} {ops:Array Oper} {rest:List Oper} {md:Md}
 {d:Option Tmp} {ty:TypeId} {ps:String} {af:Array Edge} {g:Option (Nat×Bool)}
theorem wb_ {b:Nat} {o:Obj}: ∀ {B:zb_},(keys B).Nodup→(b,o)∈B→look B b=some o
 | [],_,h=>by cases h
 | (c,x)::q,hn,h=>by
  simp only[keys,List.map_cons,List.nodup_cons] at hn
  unfold look
  rcases List.mem_cons.1 h with h|h
  ·cases h;rw[if_pos rfl]
  ·have:c≠b:=fun e=>hn.1 (e▸List.mem_map.2 ⟨_,h,rfl⟩)
   rw[if_neg this]
   exact wb_ hn.2 h
theorem SR.perm {R:List Nat} {M:zb_} (h:M.Perm L) (hn: (keys L).Nodup):SR w0 R M=SR w0 R L:=by
 refine Zr_ fun r _=> ?_
 have hk: ∀ (A B:zb_),A.Perm B→(keys B).Nodup→ ∀o,look A r=some o→look B r=some o:=fun A B hp hB o ho=>wb_ hB (hp.mem_iff.1 (zy_ ho))
 have hnM: (keys M).Nodup:=(List.Perm.nodup_iff (h.map Prod.fst)).2 hn
 unfold zz_
 cases hl:look L r with
 |some o=>rw[hk L M h.symm hnM o hl]
 |none=>
  cases hm:look M r with
  |none=>rfl
  |some o=>rw[hk M L h hn o hm] at hl;cases hl
theorem OwD.permL {l:List Oper} {listed:List Bool} {n:Nat} {R ts:List Nat} {a d:Nat} {z:Obj} {M:zb_} (hp:M.Perm L) (h:OwD P w0 l R ts a d z n listed f M N):OwD P w0 l R ts a d z n listed f L N:=by
 refine⟨fun w hw=> ?_,fun b w hb hbL hw=> ?_⟩
 ·have:=h.1 w (hw.perm hp)
  rw[SR.perm hp hw.nodup] at this
  exact this
 ·have hnd: (keys L).Nodup:=by
   have:=hw.nodup
   rw[zj_,List.nodup_append] at this
   exact this.1
  have:=h.2 b w hb (fun hm=>hbL (by have:=(hp.map Prod.fst).mem_iff.1 hm;exact this)) (hw.perm (hp.append_right _))
  rw[SR.perm hp hnd] at this
  exact this
theorem Cw.permL {c:Code} {M:zb_} (hp:M.Perm L) (h:Cw P w0 c f M K):Cw P w0 c f L K:=fun w hw=>h w (hw.perm hp)
theorem Ow.permL {M:zb_} {l:List Oper} (hp:M.Perm L) (h:Ow P w0 ops .seq l f M N):Ow P w0 ops .seq l f L N:=fun w hw=>h w (hw.perm hp)
theorem Ow.callC {l:List Operand} {ts:Array TypeId} {k:FuncId} {S:Value→zb_→Prop} {md':Md} (he:md.turn=some md')
  (hs:zn_ ops f ⟨d, .call ⟨.value (.func k),l.toArray,ts⟩,ty,ps,af,g⟩=false)
  (hk: ∀a w,(callFunc k a).run P w= .ok (.enter k a) w)
  (hc: ∀w,Hp w0 L w→Rets P k (l.map (ev f)).toArray w (XS w [] S))
  (hn: ∀B v D,jV_ L B→w0.heap.size≤B→New B D→S v D→Ow P w0 ops md' rest (qu_ f d v) (L++D) N):
  Ow P w0 ops md (⟨d, .call ⟨.value (.func k),l.toArray,ts⟩,ty,ps,af,g⟩::rest) f L N:=
 Ow.callN he hs hk (S:=fun B v D=>New B D∧S v D) (fun w hw=>(hc w hw).mono fun _v _D h=>⟨h.1.new0,h.2⟩) (fun _ _ _ h=>h.1) (fun B v D hA hB hS=>hn B v D hA hB hS.1 hS.2)
theorem Hp.part {w:World} {X Y:zb_} (h:Hp w0 (X++Y) w):Hp w X w:=
 ⟨fun b o hm=>h.has b o (List.mem_append_left _ hm),by have:=h.nodup;rw[zj_,List.nodup_append] at this;exact this.1,fun _ _ _=>rfl,Nat.le_refl _,rfl,rfl,rfl⟩
theorem Hp.join {w w':World} {X Y D:zb_} (h:Hp w0 (X++Y) w) (k:Hp w D w') (h1: ∀c,c∈keys X→c∈keys D) (h2: ∀c,c∈keys D→c∈keys X∨w.heap.size≤c):Hp w0 (D++Y) w':=by
 have hnd:=h.nodup
 rw[zj_,List.nodup_append] at hnd
 have hY: ∀c,c∈keys Y→c∉keys D:=by
  intro c hc hd
  rcases h2 c hd with hx|hx
  ·exact hnd.2.2 c hx c hc rfl
  ·have:=h.lt (b:=c) (by rw[zj_];exact List.mem_append_right _ hc)
   omega
 have ht:=h.trans k
 have e: (X++Y).filter (fun p=> !(keys D).contains p.1)=Y:=by
  rw[List.filter_append,qT_ hY]
  have:X.filter (fun p=> !(keys D).contains p.1)= []:=by
   rw[List.filter_eq_nil_iff]
   intro p hp
   have:=h1 p.1 (List.mem_map.2 ⟨p,hp,rfl⟩)
   simp[this]
  rw[this,List.nil_append]
 rw[e] at ht
 exact ht.perm List.perm_append_comm
theorem Ow.appendX {ts tx e:TypeId} {m:Bool×Nat} {z:Value} {s x:Operand} {n k:Nat} {cs new:List Value} {dx:TypeDesc} {md':Md} {X Y:zb_} (sv:Value) (hL:L=X++Y) (hsv:ev f s=sv) (he:md.turn=some md')
  (hs:zn_ ops f ⟨d, .call ⟨.builtin .append, #[s,x], #[ts,tx]⟩,ty,ps,af,g⟩=false)
  (hu:P.underlying ts=some (.slice e)) (hm:z0_ P e=some m) (hi:k3_ P e=true) (hz:zM_ P e=some z) (hzs:z.cells.size=m.2) (hux:P.underlying tx=some dx) (hnx: ∀k,dx≠ .int k)
  (hB:Gr X e m.2 sv n cs) (hX: ∀w,Hp w0 L w→AppX P w m.2 (ev f x) k new) (hk:0<k) (hbig:2* (n+k)+768≤2^38)
  (hn: ∀B v' D,jV_ L B→w0.heap.size≤B→Buf D e m.2 v' (n+k) (cs++new)→(∀c,c∈keys X→c∈keys D)→(∀c,c∈keys D→c∈keys X∨B≤c)→(∀c o,slB sv≠some c→look X c=some o→look D c=some o)→Ow P w0 ops md' rest (qu_ f d v') (D++Y) N):
  Ow P w0 ops md (⟨d, .call ⟨.builtin .append, #[s,x], #[ts,tx]⟩,ty,ps,af,g⟩::rest) f L N:=by
 subst hL
 refine Ow.step he rfl hs fun w hw=> ?_
 have hp:=hw.part
 have hA:jV_ (X++Y) w.heap.size:=z2_ fun b hb=>hw.lt hb
 have fin: ∀v' w' D,(Builtin.append_ #[ts,tx] ty #[sv,ev f x]).run P w= .ok v' w'→Hp w D w'→Buf D e m.2 v' (n+k) (cs++new)→(∀c,c∈keys X→c∈keys D)→(∀c,c∈keys D→c∈keys X∨w.heap.size≤c)→(∀c o,slB sv≠some c→look X c=some o→look D c=some o)→
   (∃v w' L',(execOp (ev f) ⟨d, .call ⟨.builtin .append, #[s,x], #[ts,tx]⟩,ty,ps,af,g⟩).run P w= .ok (.value v) w'∧Hp w0 L' w'∧Ow P w0 ops md' rest (qu_ f d v) L' N):=by
  intro v' w' D hr hD hb h1 h2 h3
  refine⟨v',w',D++Y, ?_,hw.join hD h1 h2,hn w.heap.size v' D hA hw.size hb h1 h2 h3⟩
  simp only[execOp,resolve,Sem.run_bind,Sem.run_pure,Result.andThen_ok,invoke,builtin,List.map_toArray,List.map_cons,List.map_nil,hsv]
  rw[hr]
  rfl
 have hX': ∀w',Hp w [] w'→True:=fun _ _=>trivial
 rcases hB with hB| ⟨rfl,rfl,b,rfl,hlk⟩
 ·obtain⟨v',w',D,hr,hD,hb,hg,-⟩:=JD_ (w0:=w) (L:=X) (ty:=ty) (x:=ev f x) hp hu hm hi hz hzs hux hnx hB (fun w2 hw2=>hX w2 (by
   refine hw.join hw2 (fun c hc=>hc) (fun c hc=> .inl hc))) hbig
  exact .inl (fin v' w' D hr hD hb hg.keys (fun c hc=>(hg.new c hc).imp id And.right) hg.look)
 ·rcases wS_ (w0:=w) (L:=X) (ty:=ty) (b:=b) (x:=ev f x) hp hu hm hi hz hzs hux hnx (fun w2 hw2=>hX w2 (by
   refine hw.join hw2 (fun c hc=>hc) (fun c hc=> .inl hc))) hbig with⟨h0,-⟩ | ⟨-,v',w',D,hr,hD,hb,hg,-⟩
  ·omega
  ·exact .inl (fin v' w' D hr hD hb hg.keys (fun c hc=>(hg.new c hc).imp id And.right) (fun c o _ hl=>hg.look c o (by simp[slB]) hl))
end
def GrI (D:zb_) (E:TypeId) (m:Nat) (v:Value) (n:Nat) (cs:List Value):Prop:= ∃X,(∀p,p∈X→p∈D)∧Gr X E m v n cs
theorem Gr.i {X D:zb_} {E:TypeId} {m n:Nat} {v:Value} {cs:List Value} (h:Gr X E m v n cs) (hX: ∀p,p∈X→p∈D):GrI D E m v n cs:=⟨X,hX,h⟩
theorem GrI.mono {D D':zb_} {E:TypeId} {m n:Nat} {v:Value} {cs:List Value} (h:GrI D E m v n cs) (hX: ∀p,p∈D→p∈D'):GrI D' E m v n cs:=by
 obtain⟨X,h1,h2⟩:=h;exact⟨X,fun p hp=>hX p (h1 p hp),h2⟩
theorem GrI.slV {α:Type} {m:Nat} {enc:α→List Value} {z:α} {w0 w:World} {v:Value} {l:List α} {D:zb_} {E:TypeId} {n:Nat} {cs:List Value} (h:GrI D E m v n cs) (hw:Hp w0 D w) (hl:l.length=n) (hcs:cs=(l.map enc).flatten) (hm: ∀x,(enc x).length=m):SlV m enc z w v l:=by
 obtain⟨X,h1,h2⟩:=h
 exact h2.slM (fun b o hm=>hw.has b o (h1 _ hm)) hl hcs hm
section
variable {P:Program} {w0:World} {f:Fr} {L:zb_} {N:Fr→zb_→Prop}
theorem Kx_ {L _M:zb_} {b:Nat} {o:Obj} (h:b∉keys L):look (L++ [(b,o)]) b=some o:=by
 rw[zG_ h];exact z3_ _ _ _
theorem WV_ {b:Nat} {o x:Obj}: ∀ {L:zb_},b∉keys L→setB (L++ [(b,o)]) b x=L++ [(b,x)]
 | [],_=>by rw[List.nil_append,xi_];rfl
 | (c,y)::r,h=>by
  simp only[keys,List.map_cons,List.mem_cons,not_or] at h
  rw[List.cons_append,xF_ _ _ _ _ _ (Ne.symm h.1),WV_ (by simpa [keys] using h.2)];rfl
end
end Go.Sx
namespace Go.Sx
open Go
theorem qA_ {P:Program} {t e:TypeId} {m:Nat} {zc:Array Value} {cs:List Value} (hu:P.underlying t=some (.slice e)) (ha:z0_ P e=some (true,m)) (hz:zM_ P e=some (.agg zc)) (hm:0<m∧m≤16777216) (hc:cs.length=m):
  Kz_ P t 1 [(0, .agg cs.toArray)]=some (e,cs.toArray):=by
 have h2:Value.cells (.agg cs.toArray)=cs.toArray:=za_ _
 have hg: ¬ (1*m>2^24):=by simp;omega
 have h0: ¬ (1*m=0):=by omega
 simp only[Kz_,hu,ha,hz,Option.map_some]
 rw[if_neg hg,if_neg h0]
 simp only
 generalize hI: (Array.range (1*m)).map (fun x=>(Value.cells (.agg zc))[x% (Value.cells (.agg zc)).size]!)=I
 have hIs:I.size=m:=by rw[←hI];simp
 have hfl:Instr.fill (fun i=>some (i*m,m)) I [(0,Value.agg cs.toArray)]=some cs.toArray:=by
  unfold Instr.fill
  have s3:cs.toArray.size=m:=by simp[hc]
  simp only[h2,s3,hIs,Nat.zero_mul,ne_eq,not_true_eq_false,decide_false,Bool.false_or,Nat.zero_add,Nat.lt_irrefl,gt_iff_lt,Bool.false_eq_true, ↓reduceIte]
  unfold Instr.fill
  congr 1
  have hz:=JL_ cs 0 0 I
  rw[Nat.add_zero,ahy_ I cs (by rw[hc,hIs])] at hz
  simp only[Nat.zero_add] at hz
  rw[←Array.foldl_toList,Array.toList_zipIdx]
  exact hz
 rw[hfl]
 rfl
end Go.Sx
namespace Go.Sx
open Go
abbrev ltB (a b:List UInt8):Bool:=Op.bytesLess a b
theorem Wy_: ∀ (x y:List UInt8),ltB x y=decide (x<y)
 | [],[]=>by simp[ltB,Op.bytesLess]
 |_::_,[]=>by simp[ltB,Op.bytesLess]
 | [],_::_=>by simp[ltB,Op.bytesLess]
 |a::x,b::y=>by
  have ih:=Wy_ x y
  simp only[ltB] at ih ⊢
  rw[Op.bytesLess,ih]
  simp only[List.cons_lt_cons_iff]
  by_cases h1:a<b<;>by_cases h2:a=b<;>by_cases h3:x<y<;>simp[h1,h2,h3]
theorem JS_ (a:List UInt8):ltB a a=false:=by
 rw[Wy_];simp
theorem Kl_ {a b c:List UInt8} (h:ltB a b=true) (k:ltB b c=true):ltB a c=true:=by
 rw[Wy_,decide_eq_true_eq] at*
 exact List.lt_trans h k
theorem alJ_ {a b:List UInt8} (h:ltB a b=true):ltB b a=false:=by
 cases hb:ltB b a
 ·rfl
 ·have:=Kl_ h hb
  rw[JS_] at this;cases this
theorem KG_ {a b:List UInt8} (h:ltB a b=false) (hne:a≠b):ltB b a=true:=by
 rw[Wy_,decide_eq_false_iff_not] at h
 rw[Wy_,decide_eq_true_eq]
 rcases Std.Trichotomous.rel_or_eq_or_rel_swap (r:=(· < · :List UInt8→List UInt8→Prop)) (a:=a) (b:=b) with h1|h1|h1
 ·exact absurd h1 h
 ·exact absurd h1 hne
 ·exact h1
end Go.Sx
namespace Go.StP
open Go Go.Sx
variable {α:Type} (key:α→List UInt8)
def lt (a b:α):Bool:=ltB (key a) (key b)
def Sorted (l:List α):Prop:=l.Pairwise fun a b=>lt key b a=false
def of (k:List UInt8) (l:List α):List α:=l.filter fun a=>key a==k
def St (l l':List α):Prop:= ∀k,of key k l'=of key k l
theorem St.refl (l:List α):St key l l:=fun _=>rfl
variable {key}
theorem St.trans {a b c:List α} (h:St key a b) (h':St key b c):St key a c:=fun k=>(h' k).trans (h k)
theorem St.symm {a b:List α} (h:St key a b):St key b a:=fun k=>(h k).symm
theorem ahV_ (k:List UInt8) (a b:List α):of key k (a++b)=of key k a++of key k b:=List.filter_append ..
theorem St.app {a a' b b':List α} (h:St key a a') (h':St key b b'):St key (a++b) (a'++b'):=fun k=>by rw[ahV_,ahV_,h,h']
theorem ap4_ {k:List UInt8} {l:List α} {x:α}:x∈of key k l↔x∈l∧key x=k:=by
 unfold of;rw[List.mem_filter];simp
theorem St.mem {a b:List α} (h:St key a b) (x:α):x∈b↔x∈a:=by
 have e:=h (key x)
 have h1:x∈b↔x∈of key (key x) b:=by rw[ap4_];simp
 have h2:x∈a↔x∈of key (key x) a:=by rw[ap4_];simp
 rw[h1,h2,e]
theorem ani_ {k:List UInt8} {l:List α} (h: ∀x,x∈l→key x≠k):of key k l= []:=by
 unfold of
 rw[List.filter_eq_nil_iff]
 intro x hx
 simpa using h x hx
theorem St.swap {a b:List α} (h: ∀x,x∈a→ ∀y,y∈b→key x≠key y):St key (a++b) (b++a):=by
 intro k
 rw[ahV_,ahV_]
 by_cases ha: ∃x,x∈a∧key x=k
 ·obtain⟨x,hx,rfl⟩:=ha
  have:of key (key x) b= []:=ani_ fun y hy e=>h x hx y hy e.symm
  rw[this,List.append_nil,List.nil_append]
 ·have:of key k a= []:=ani_ fun x hx e=>ha ⟨x,hx,e⟩
  rw[this,List.append_nil,List.nil_append]
theorem lt_trans {a b c:α} (h:lt key a b=true) (k:lt key b c=true):lt key a c=true:=Kl_ h k
theorem lt_irrefl (a:α):lt key a a=false:=JS_ _
theorem aus_ {a b:α} (h:lt key a b=false) (k:lt key b a=false):key a=key b:=by
 cases hk:decide (key a=key b)
 ·have hne:key a≠key b:=of_decide_eq_false hk
  have:=KG_ h hne
  unfold lt at k
  rw[this] at k;cases k
 ·exact of_decide_eq_true hk
theorem St.head {a b:α} {l l':List α} (hs:Sorted key (a::l)) (hs':Sorted key (b::l')) (h:St key (a::l) (b::l')):a=b∧St key l l':=by
 have h1:lt key b a=false:=by
  have hb:b∈a::l:=(h.mem b).1 List.mem_cons_self
  rcases List.mem_cons.1 hb with rfl|hb
  ·exact lt_irrefl _
  ·exact(List.pairwise_cons.1 hs).1 b hb
 have h2:lt key a b=false:=by
  have ha:a∈b::l':=(h.mem a).2 List.mem_cons_self
  rcases List.mem_cons.1 ha with rfl|ha
  ·exact lt_irrefl _
  ·exact(List.pairwise_cons.1 hs').1 a ha
 have hk:key a=key b:=aus_ h2 h1
 have he:=h (key a)
 unfold of at he
 rw[List.filter_cons,List.filter_cons,if_pos (by simp[hk]),if_pos (by simp)] at he
 have hab:b=a:=(List.cons.inj he).1
 refine⟨hab.symm,fun k=> ?_⟩
 have hk':=h k
 subst hab
 unfold of at hk' ⊢
 rw[List.filter_cons,List.filter_cons] at hk'
 split at hk'
 ·exact(List.cons.inj hk').2
 ·exact hk'
theorem St.eq: ∀ {l l':List α},Sorted key l→Sorted key l'→St key l l'→l=l'
 | [],[],_,_,_=>rfl
 | [],b::l',_,_,h=>by
  have:b∈ ([]:List α):=(h.mem b).1 List.mem_cons_self
  cases this
 |a::l,[],_,_,h=>by
  have:a∈ ([]:List α):=(h.mem a).2 List.mem_cons_self
  cases this
 |a::l,b::l',hs,hs',h=>by
  obtain⟨rfl,h'⟩:=St.head hs hs' h
  rw[St.eq (List.pairwise_cons.1 hs).2 (List.pairwise_cons.1 hs').2 h']
theorem Sorted.app {a b:List α} (ha:Sorted key a) (hb:Sorted key b) (h: ∀x,x∈a→ ∀y,y∈b→lt key y x=false):Sorted key (a++b):=
 List.pairwise_append.2 ⟨ha,hb,h⟩
theorem Sorted.left {a b:List α} (h:Sorted key (a++b)):Sorted key a:=(List.pairwise_append.1 h).1
theorem Sorted.right {a b:List α} (h:Sorted key (a++b)):Sorted key b:=(List.pairwise_append.1 h).2.1
end Go.StP
namespace Go.Sx
open Go
section
variable {α:Type} (enc:α→List Value)
def rowO (E:TypeId) (rest:List Value) (d:List α):Obj:= .cells ((d.map enc).flatten++rest).toArray E (0,0)
variable {enc} {m:Nat} {E:TypeId} {rest:List Value} {d:List α} {z:α}
theorem akO_ (hm: ∀x,(enc x).length=m) {k:Nat} (hk:k<d.length): ∃A C,(d.map enc).flatten++rest=A++ (enc (d.getD k z)++C)∧A.length=k*m∧ ∀x,((d.set k x).map enc).flatten++rest=A++ (enc x++C):=by
 refine⟨((d.take k).map enc).flatten,((d.drop (k+1)).map enc).flatten++rest, ?_, ?_,fun x=> ?_⟩
 ·have e:d=d.take k++d.getD k z::d.drop (k+1):=by
   rw[List.getD_eq_getElem?_getD,List.getElem?_eq_getElem hk,Option.getD_some,List.getElem_cons_drop,List.take_append_drop]
  have e2:=congrArg (fun l=>(l.map enc).flatten++rest) e
  simp only[List.map_append,List.map_cons,List.flatten_append,List.flatten_cons,List.append_assoc] at e2
  exact e2
 ·rw[ahc_ hm,List.length_take,Nat.min_eq_left (Nat.le_of_lt hk)]
 ·have e:d.set k x=d.take k++x::d.drop (k+1):=List.set_eq_take_append_cons_drop.trans (by rw[if_pos hk])
  rw[e]
  simp only[List.map_append,List.map_cons,List.flatten_append,List.flatten_cons,List.append_assoc]
theorem XK_ (hm: ∀x,(enc x).length=m) (k:Nat) (hk:k<d.length):zt_ (some (true,m)) (some (rowO enc E rest d)) (k*m)=some (.agg (enc (d.getD k z)).toArray):=by
 obtain⟨A,C,e,hA,-⟩:=akO_ (z:=z) (rest:=rest) hm hk
 unfold rowO
 rw[e]
 exact Q8_ A _ C E (0,0) hA (hm _)
end
section
variable {P:Program} {w0:World} {f:Fr} {L:zb_} {N:Fr→zb_→Prop} {ops:Array Oper} {rest:List Oper} {md:Md} {d:Option Tmp} {ty:TypeId} {ps:String} {af:Array Edge} {g:Option (Nat×Bool)}
end
end Go.Sx
namespace Go.StP
open Go Go.Sx
variable {α:Type} {key:α→List UInt8} {z:α}
theorem W3_ {a b:List α} {k:Nat} (h:k<a.length): (a++b).getD k z=a.getD k z:=by
 rw[List.getD_eq_getElem?_getD,List.getD_eq_getElem?_getD,List.getElem?_append_left h]
theorem WG_ {a b:List α} {k:Nat} (h:a.length≤k): (a++b).getD k z=b.getD (k - a.length) z:=by
 rw[List.getD_eq_getElem?_getD,List.getD_eq_getElem?_getD,List.getElem?_append_right h]
theorem xQ_ {l:List α} {k:Nat} (h:k<l.length):l.getD k z∈l:=by
 rw[List.getD_eq_getElem?_getD,List.getElem?_eq_getElem h];exact List.getElem_mem h
theorem al1_ {l:List α} {k n:Nat} (h:k<n): (l.take n).getD k z=l.getD k z:=by
 rw[List.getD_eq_getElem?_getD,List.getD_eq_getElem?_getD,List.getElem?_take,if_pos h]
theorem Kq_ {l:List α} {k:Nat} (h:k<l.length):l.drop k=l.getD k z::l.drop (k+1):=by
 rw[List.getD_eq_getElem?_getD,List.getElem?_eq_getElem h]
 exact List.drop_eq_getElem_cons h
theorem take_snoc {l:List α} {k:Nat} (h:k<l.length):l.take (k+1)=l.take k++ [l.getD k z]:=by
 rw[List.getD_eq_getElem?_getD,List.getElem?_eq_getElem h]
 exact List.take_succ_eq_append_getElem h
theorem Sorted.at_ {l:List α} (h:Sorted key l) {i j:Nat} (hij:i≤j) (hj:j<l.length):lt key (l.getD j z) (l.getD i z)=false:=by
 rcases Nat.lt_or_eq_of_le hij with h1|rfl
 ·have:=List.pairwise_iff_getElem.1 h i j (by omega) hj h1
  rw[List.getD_eq_getElem?_getD,List.getD_eq_getElem?_getD,List.getElem?_eq_getElem hj,List.getElem?_eq_getElem (show i<l.length by omega)]
  exact this
 ·exact lt_irrefl _
end Go.StP
namespace Go.Sx
open Go
def VZ_ (r:Option Nat):Fence:={Fence.wide with round:=r}
def Vc_:Op→Bool
 | .defer _=>false
 |_=>true
section
variable {P:Program} {w0:World} {f:Fr} {L:zb_} {K:kg_} {N:Fr→zb_→Prop} {ops:Array Oper} {rest:List Oper} {r:Option Nat} {n:Nat}
theorem aeu_ {k:FuncId} {args:Array Value} {w:World} {R:Ending→World→Prop} (h:Calls P k args w R):CallsIn (VZ_ r) n P k args w R:=
 (callsIn_wide.2 h:CallsIn Fence.wide n P k args w R)
theorem aip_ {row:String} {args:Array Value} {w:World} {R:Value→World→Prop} (h:Rows P row args w R):RowsIn (VZ_ r) n P row args w R:=
 (fun c cs _=>let ⟨v,w',hr,s⟩:=h c cs;⟨v,w',hr,stepsIn_wide.2 s⟩:RowsIn Fence.wide n P row args w R)
theorem aqB_ {o:Oper} {a:Act} {w:World} {next:Act→World→Prop} {Q:Exit→Act→World→Prop} (hd:Vc_ o.op=true) (h:o.wp P a w next Q):o.wpIn (VZ_ r) n P a w next Q:=by
 refine⟨fun _ _=>trivial, ?_⟩
 rw[Oper.semAt_eq _ _ _ (fun c e=>by rw[e] at hd;cases hd)]
 unfold Oper.wp at h
 generalize (execOp a.eval o).run P w=x at h
 match x,h with
 | .ok (.value v) _,h=>exact h
 | .ok .skip _,h=>exact h
 | .ok (.defer e) _,h=>exact h
 | .ok (.enter k args) w',h=>
  have h':Calls P k args w' _:=h
  exact⟨fun(e:false=true)=>(by cases e),aeu_ h'⟩
 | .ok (.row row args) w',h=>
  have h':Rows P row args w' _:=h
  exact⟨fun(e:false=true)=>(by cases e),aip_ h'⟩
 | .halt (.panic u) _,h=>exact h
theorem aeT_ {Q:Exit→Act→World→Prop} {l2:List Oper}: ∀ (l1:List Oper) (a:Act) (w:World),(l1.all fun o=>Vc_ o.op)=true→
  wpList P ops (fun e a w=>e= .normal∧wpListIn (VZ_ r) n P ops Q l2 a w) l1 a w→wpListIn (VZ_ r) n P ops Q (l1++l2) a w
 | [],_,_,_,h=>h.2
 |o::l1,a,w,hd,h=>by
  rw[List.cons_append]
  unfold wpList at h
  unfold wpListIn
  rw[List.all_cons,Bool.and_eq_true] at hd
  split at h
  ·rename_i hw
   rw[if_pos hw]
   rcases h with h| ⟨-,hl⟩
   ·exact aqB_ hd.1 (wP_ (fun a w hx=>aeT_ l1 a w hd.2 hx) (fun e a w hne hq=>hne hq.1) h)
   ·obtain⟨_,_,he,-⟩:=hl
    cases he
  ·rename_i hw
   rw[if_neg hw]
   exact⟨fun _ _=>trivial,aeT_ l1 _ _ hd.2 h⟩
def OwI (r:Option Nat) (P:Program) (w0:World) (ops:Array Oper) (l:List Oper) (f:Fr) (L:zb_) (N:Fr→zb_→Prop):Prop:=
 ∀w,Hp w0 L w→wpListIn (VZ_ r) 0 P ops (jZ_ w0 N) l (act f) w
theorem OwI.nil (h:N f L):OwI r P w0 ops [] f L N:=fun _ hw=>⟨rfl,rfl,L,hw,by simpa [act] using h⟩
theorem OwI.pre {l1 l2:List Oper} (hd: (l1.all fun o=>Vc_ o.op)=true) (h:Ow P w0 ops .seq l1 f L (fun f' L'=>OwI r P w0 ops l2 f' L' N)):OwI r P w0 ops (l1++l2) f L N:=by
 intro w hw
 refine aeT_ l1 _ _ hd ?_
 have h1:=h w hw
 have mono: ∀ (l:List Oper) (a:Act) (w:World),wpList P ops (jZ_ w0 (fun f' L'=>OwI r P w0 ops l2 f' L' N)) l a w→wpList P ops (fun e a w=>e= .normal∧wpListIn (VZ_ r) 0 P ops (jZ_ w0 N) l2 a w) l a w:=by
  intro l
  induction l with
  |nil=>
   rintro a w ⟨-,hd',L',hp,hO⟩
   refine⟨rfl, ?_⟩
   have:=hO w hp
   rwa [←X6_ hd'] at this
  |cons o l ih=>
   intro a w h
   unfold wpList at h ⊢
   split at h
   ·rename_i hw
    rw[if_pos hw]
    rcases h with h| ⟨-,hl⟩
    ·exact .inl (wP_ ih (fun e a w hne hq=>hne hq.1) h)
    ·obtain⟨_,_,he,-⟩:=hl
     cases he
   ·rename_i hw
    rw[if_neg hw]
    exact ih _ _ h
 exact mono l1 _ _ h1
theorem Ow.mono_seq {l:List Oper} {N':Fr→zb_→Prop} (h:Ow P w0 ops .seq l f L N) (hN: ∀f L,N f L→N' f L):Ow P w0 ops .seq l f L N':=by
 intro w hw
 have h1:=h w hw
 clear h
 revert h1
 generalize act f=a
 clear hw
 induction l generalizing a w with
 |nil=>rintro⟨h1,h2,L',h3,h4⟩;exact⟨h1,h2,L',h3,hN _ _ h4⟩
 |cons o l ih=>
  intro h
  unfold wpList at h ⊢
  split at h
  ·rename_i hw
   rw[if_pos hw]
   rcases h with h| ⟨-,hl⟩
   ·exact .inl (wP_ (fun a w hx=>ih w a hx) (fun e a w hne hq=>hne hq.1) h)
   ·obtain⟨_,_,he,-⟩:=hl
    cases he
  ·rename_i hw
   rw[if_neg hw]
   exact ih _ _ h
theorem OwI.all {l:List Oper} (hd: (l.all fun o=>Vc_ o.op)=true) (h:Ow P w0 ops .seq l f L N):OwI r P w0 ops l f L N:=by
 have:=OwI.pre (r:=r) (l2:= []) (N:=N) hd (Ow.mono_seq h (fun f L hN=>OwI.nil hN))
 simpa using this
def CwR (r:Option Nat) (P:Program) (w0:World) (c:Code) (f:Fr) (L:zb_) (K:kg_):Prop:= ∀w,Hp w0 L w→c.wpIn (VZ_ r) 0 P (post w0 K) (act f) w
theorem CwR.region {id:Nat} {l:List Oper} (hd: (l.all fun o=>Vc_ o.op)=true) (h:Ow P w0 l.toArray .seq l f L (K .normal)):CwR r P w0 (.region id l.toArray false) f L K:=
 fun w hw=>wpIn_mono (wpIn_region_lit (OwI.all hd h w hw)) fun _ _ _ h=>xL_ h
theorem CwR.block {id:Nat} {c:Code} (h:CwR r P w0 c f L (k0_ id K)):CwR r P w0 (.block id c) f L K:=by
 intro w hw
 refine wpIn_block (wpIn_mono (h w hw) ?_)
 rintro e a w' ⟨hd,L',hp,k⟩
 cases e with
 |exit i=>
  simp only[Exit.inBlock]
  simp only[k0_] at k
  split
  ·rename_i e;rw[if_pos e] at k;exact⟨hd,L',hp,k⟩
  ·rename_i e;rw[if_neg e] at k;exact⟨hd,L',hp,k⟩
 |_=>exact⟨hd,L',hp,k⟩
theorem Hp.put {w:World} (h:Hp w0 L w) {b:Nat} {o:Obj} (hb:b∈keys L):Hp w0 (setB L b o) (w.putObj b o):=h.set hb rfl rfl rfl rfl
theorem YieldAt.of {l:Nat} {rc:Loop} {X:zb_} {args:Array Value} {w:World} {r0:Option Nat} {S:zb_→Prop} (hX:Hp w X w) (hl:look X l=some (.loop rc)) (hr:rc.state= .ready) (hp:rc.pending=none) (hs:args.size=rc.params.size)
  (h:CwR (some l) P w rc.assign ((rc.params.zip args).foldl (fun tmps (p:Tmp×Value)=>tmps.setIfInBounds p.1 p.2) rc.tmps).toList X (fun e f1 L1=>e= .normal∧look L1 l=some (.loop rc)∧
   CwR (some l) P w rc.body f1 (setB L1 l (.loop {rc with state:= .busy})) (fun e _ L2=>e= .normal∧look L2 l=some (.loop {rc with state:= .busy})∧S (setB L2 l (.loop rc))))):
  YieldAt (VZ_ r0) 0 P l args w (fun e w'=> ∃D,e= .returned (.bool true)∧Hp w D w'∧S D):=by
 obtain⟨st,pe,fn0,tm,pa,asg,bo,de⟩:=rc
 obtain rfl:st= .ready:=hr
 obtain rfl:pe=none:=hp
 have hl0:=hX.has _ _ (zy_ hl)
 refine⟨fn0,_,asg,bo,run_yield hl0 hs,roundIn_of_wpIn (F:=VZ_ r0) (n:=0) trivial ?_⟩
 have h1:=h w hX
 have ea:act ((pa.zip args).foldl (fun tmps (p:Tmp×Value)=>tmps.setIfInBounds p.1 p.2) tm).toList={tmps:=(pa.zip args).foldl (fun tmps (p:Tmp×Value)=>tmps.setIfInBounds p.1 p.2) tm,defers:= []}:=by
  simp[act]
 simp only at h1
 rw[ea] at h1
 refine wpIn_mono h1 ?_
 rintro e a1 w1 ⟨hd1,L1,hp1,rfl,hl1,hbody⟩
 have hb1:=run_beginRound (P:=P) (hp1.has _ _ (zy_ hl1)) rfl
 refine⟨_,hb1, ?_⟩
 have h2:=hbody _ (hp1.put (o:= .loop {state:= .busy,pending:=none,fn:=fn0,tmps:=tm,params:=pa,assign:=asg,body:=bo,defers:=de}) (zh_ hl1))
 rw[←X6_ hd1] at h2
 refine wpIn_mono h2 ?_
 rintro e a2 w2 ⟨hd2,L2,hp2,rfl,hl2,hS⟩
 have he:=run_endRound (P:=P) none (hp2.has _ _ (zy_ hl2))
 exact⟨_,_,he,_,rfl,hp2.put (zh_ hl2),hS⟩
def auu_ (ds:List Deferred) (w0:World) (K:kg_) (e:Exit) (a:Act) (w:World):Prop:=a.defers=ds∧ ∃L,Hp w0 L w∧K e a.tmps.toList L
def CwE (ds:List Deferred) (P:Program) (w0:World) (c:Code) (f:Fr) (L:zb_) (K:kg_):Prop:= ∀w,Hp w0 L w→c.wp P (auu_ ds w0 K) ⟨f.toArray,ds⟩ w
theorem CwE.seq {ds:List Deferred} {x y:Code} (h:CwE ds P w0 x f L (wA_ (fun f L=>CwE ds P w0 y f L K) K)):CwE ds P w0 (.seq x y) f L K:=by
 intro w hw
 refine wp_seq (wp_mono (h w hw) ?_)
 rintro e a w' ⟨hd,L',hp,k⟩
 cases e with
 |normal=>
  have:=k w' hp
  have ea:a=⟨a.tmps.toList.toArray,ds⟩:=by cases a;simp only at hd;subst hd;simp
  rw[ea]
  exact this
 |_=>exact⟨hd,L',hp,k⟩
theorem CwE.ret {ds:List Deferred} (h:K .ret f L):CwE ds P w0 .ret f L K:=fun _ hw=>wp_ret ⟨rfl,L,hw,by simpa using h⟩
def evVs (P:Program) (w0:World) (L:zb_):List Oper→Fr→Option Fr
 | [],f=>some f
 |o::r,f=>match o.guard,k4_ P w0 L f o.op with
  |none,some v=>evVs P w0 L r (qu_ f o.dst v)
  |_,_=>none
theorem Ww_ {ds:List Deferred} {Q:Exit→Act→World→Prop} {w:World} (hw:Hp w0 L w): ∀ (l:List Oper) (f f':Fr),evVs P w0 L l f=some f'→Q .normal ⟨f'.toArray,ds⟩ w→wpList P ops Q l ⟨f.toArray,ds⟩ w
 | [],f,f',h,hQ=>by cases h;exact hQ
 |o::l,f,f',h,hQ=>by
  unfold evVs at h
  split at h
  ·rename_i v hg hv
   unfold wpList
   have hwn:Region.wanted o (yielded ops (⟨f.toArray,ds⟩:Act).tmps)=true:=by unfold Region.wanted;rw[hg]
   rw[if_pos hwn]
   refine .inl ?_
   unfold Oper.wp
   have he: (⟨f.toArray,ds⟩:Act).eval=ev f:=by
    have:=jY_ f
    funext x
    exact(congrFun this x)
   rw[he,jg_ hw hv]
   have hp: (⟨f.toArray,ds⟩:Act).put o.dst v=⟨(qu_ f o.dst v).toArray,ds⟩:=by
    have:=z8_ f o.dst v
    cases hd:o.dst with
    |none=>rfl
    |some d=>simp only[Act.put,qu_,am7_]
   show wpList P ops Q l ((⟨f.toArray,ds⟩:Act).put o.dst v) w
   rw[hp]
   exact Ww_ hw l _ f' h hQ
  ·cases h
theorem CwE.region {ds:List Deferred} {id:Nat} {l:List Oper} {f':Fr} (h:evVs P w0 L l f=some f') (hk:K .normal f' L):CwE ds P w0 (.region id l.toArray false) f L K:=
 fun w hw=>wp_region_lit (Ww_ hw l f f' h ⟨rfl,L,hw,by simpa using hk⟩)
theorem Gr.at_ {L:zb_} {E:TypeId} {m n:Nat} {v:Value} {cs:List Value} (h:Gr L E m v n cs) {b:Nat} (hb:slB v=some b): ∃a,look L b=some (.cells a E (0,0)):=by
 rcases h with h| ⟨rfl,rfl,c,rfl,hl⟩
 ·rcases h.inv with⟨rfl,-,-⟩ | ⟨c,cc,rest,rfl,hl,-⟩
  ·cases hb
  ·have:c=b:=by simpa [slB,vsl] using hb
   subst this;exact⟨_,hl⟩
 ·have:c=b:=by simpa [slB,vsl] using hb
  subst this;exact⟨_,hl⟩
theorem Gr.ne {L:zb_} {E:TypeId} {m n:Nat} {v:Value} {cs:List Value} (h:Gr L E m v n cs) {b:Nat} {o:Obj} (hl:look L b=some o) (ho: ∀a,o≠ .cells a E (0,0)):slB v≠some b:=fun e=>by
 obtain⟨a,ha⟩:=h.at_ e
 rw[hl] at ha
 exact ho a (Option.some.inj ha)
theorem Gr.setB {L:zb_} {E:TypeId} {m n:Nat} {v:Value} {cs:List Value} (h:Gr L E m v n cs) {b:Nat} (hb:slB v≠some b) (x:Obj):Gr (setB L b x) E m v n cs:=
 h.keep fun c o hc ho=>by rw[zm_ (fun e:b=c=>hb (by rw[e];exact hc))];exact ho
end
end Go.Sx
namespace Go.Sx
open Go
section
variable {α:Type} {m:Nat} {enc:α→List Value} {z:α} {w:World} {v:Value} {l:List α}
theorem SlV.dropE (h:SlV m enc z w v l) {k:Nat} (hk:k≤l.length) (a:Bool): ∃v',jB_ (.sl (a,m)) v (some (some (k:Int))) none=some v'∧SlV m enc z w v' (l.drop k)∧(∀b,slB v'=some b→slB v=some b):=by
 obtain⟨b,off,c,arr,E,fz,hr,hc,hv⟩:=h
 have hl: (l.drop k).length=l.length - k:=by simp
 rcases hv with⟨rfl,rfl,rfl⟩ | ⟨rfl,hhas,hsz⟩
 ·obtain rfl:k=0:=by simpa using hk
  exact⟨.slice none 0 0,rfl,SlV.nil w,fun b hb=>hb⟩
 ·have hsl:jB_ (.sl (a,m)) (vsl b off l.length c) (some (some (k:Int))) none=some (vsl b (if c=k then off else off+k*m) (l.length - k) (c - k)):=by
   unfold jB_ vsl
   simp only[ap3_ _ _ _ (⟨by omega,by omega⟩: (0:Int)≤ (k:Int)∧(k:Int)≤ (l.length:Int)),Int.toNat_natCast]
   by_cases hck:c=k
   ·simp[hck]
   ·simp only[hck, ↓reduceIte,Option.map_some,jK_]
  refine⟨_,hsl, ?_,fun b' hb=>hb⟩
  have hkm:k*m+ (l.length - k)*m=l.length*m:=by rw[←Nat.add_mul];congr 1;omega
  by_cases hck:c=k
  ·have h0:l.length - k=0:=by omega
   rw[if_pos hck]
   refine⟨b,off,c - k,arr,E,fz,RowS.sl' hl.symm (fun h=>by omega) (fun i hi=>by omega),by omega, .inr ⟨by rw[hl],hhas,by rw[hl,h0];omega⟩⟩
  ·rw[if_neg hck]
   refine⟨b,off+k*m,c - k,arr,E,fz,RowS.sl' hl.symm (fun h=>hhas) ?_,by omega, .inr ⟨by rw[hl],hhas,by rw[hl];omega⟩⟩
   intro i hi j hj
   rw[hl] at hi
   rw[List.getD_eq_getElem?_getD,List.getElem?_drop,←List.getD_eq_getElem?_getD,←hr.get (k+i) (by omega) j hj]
   congr 1
   rw[Nat.add_mul];omega
end
section
variable {P:Program} {w0:World} {f:Fr} {L:zb_} {N:Fr→zb_→Prop} {ops:Array Oper} {rest:List Oper} {md:Md} {d:Option Tmp} {ty:TypeId} {ps:String} {af:Array Edge} {g:Option (Nat×Bool)}
theorem Ow.callFnX {x y:Operand} {b:Value} {ts:Array TypeId} {k:FuncId} {X Y:zb_} {S:Value→zb_→Prop} {md':Md} (hL:L=X++Y) (he:md.turn=some md')
  (hs:zn_ ops f ⟨d, .call ⟨.value x, #[y],ts⟩,ty,ps,af,g⟩=false)
  (hx:ev f x= .func (.func k) #[] #[]) (hy:ev f y=b)
  (hk: ∀a w,(callFunc k a).run P w= .ok (.enter k a) w)
  (hc: ∀w,Hp w0 L w→(∀p,p∈X→w.heap[p.1]? =some p.2)→(keys X).Nodup→Rets P k #[b] w (XS w X S))
  (hn: ∀v D,Came w0 L X D→S v D→Ow P w0 ops md' rest (qu_ f d v) (D++Y) N):
  Ow P w0 ops md (⟨d, .call ⟨.value x, #[y],ts⟩,ty,ps,af,g⟩::rest) f L N:=by
 subst hL
 have hnd: ∀w,Hp w0 (X++Y) w→(keys X).Nodup∧ ∀c,c∈keys Y→c∉keys X:=by
  intro w hw
  have:=hw.nodup
  rw[zj_,List.nodup_append] at this
  exact⟨this.1,fun c hc hx=>this.2.2 c hx c hc rfl⟩
 refine Ow.call (S:=fun B v D=>((∀c,c∈keys D→c∈keys X∨B≤c)∧(∀c,c∈keys X→c∈keys D)∧S v D)∧ ∃w,Hp w0 (X++Y) w∧w.heap.size=B) he hs hx hk (fun w hw=> ?_) ?_
 ·show Rets P k (#[]++ #[y].map (ev f)++ #[]) w _
  rw[show(#[]++ #[y].map (ev f)++ #[]:Array Value)= #[b] by simp[hy]]
  refine Calls.mono (hc w hw (fun p hp=>hw.has _ _ (List.mem_append_left _ hp)) (hnd w hw).1) ?_
  rintro e w' ⟨v,D,he,hp,hS⟩
  exact⟨v,D,he,hp,⟨hS.1.new,hS.1.all,hS.2⟩,w,hw,rfl⟩
 ·rintro B v D hab hB ⟨⟨h1,h2,h3⟩,w1,hw1,hwB⟩
  refine⟨D++Y, ?_,hn v D ⟨fun c hc=>(h1 c hc).imp id fun h=>⟨z2_ fun b hb=>by have:=hw1.lt hb;omega,by have:=hw1.size;omega⟩,h2⟩ h3⟩
  intro w w' hwb h k
  have ht:=h.trans k
  have hY: ∀c,c∈keys Y→c∉keys D:=by
   intro c hc hd
   rcases h1 c hd with hx|hx
   ·exact(hnd w h).2 c hc hx
   ·have:=h.lt (b:=c) (by rw[zj_];exact List.mem_append_right _ hc)
    omega
  have e1:X.filter (fun p=> !(keys D).contains p.1)= []:=by
   rw[List.filter_eq_nil_iff]
   intro p hp
   have:=h2 p.1 (List.mem_map.2 ⟨p,hp,rfl⟩)
   simpa using this
  have e2:Y.filter (fun p=> !(keys D).contains p.1)=Y:=qT_ hY
  rw[List.filter_append,e1,e2,List.nil_append] at ht
  refine ht.same (fun p=>by simp[or_comm]) ?_
  have:=ht.nodup
  rw[zj_] at this ⊢
  exact(List.perm_append_comm.nodup_iff).1 this
end
section
variable {P:Program} {w0:World} {f:Fr} {L:zb_} {K:kg_}
theorem Cw.world {c:Code} (h: ∀w,Hp w0 L w→Cw P w0 c f L K):Cw P w0 c f L K:=fun w hw=>h w hw w hw
theorem Gr.read {E:TypeId} {m n:Nat} {v:Value} {cs:List Value} (h:Gr L E m v n cs) {b:Nat} (hb:slB v=some b) {w:World} (hw:Hp w0 L w) {o:Obj} (ho:w.heap[b]? =some o):zz_ w0 L b=some o:=by
 obtain⟨a,ha⟩:=h.at_ hb
 rw[hw.has _ _ (zy_ ha)] at ho
 rw[ze_ ha];exact ho
end
end Go.Sx
namespace Go.Sx
open Go
section
variable {α β:Type} [BEq α] [LawfulBEq α] (encK:α→Value) (encV:β→Value)
def Xz_ (k:α):List (α×β)→Nat→Option (Nat×β)
 | [],_=>none
 |p::r,i=>if k==p.1 then some (i,p.2) else Xz_ k r (i+1)
def updG (k:α) (v:β):List (α×β)→List (α×β)
 | []=> [(k,v)]
 |p::r=>if k==p.1 then(p.1,v)::r else p::updG k v r
def getG (k:α) (z:β) (m:List (α×β)):β:=match m.find? fun p=>k==p.1 with|some p=>p.2|none=>z
def kC_ (p:α×β):Value×Value:=(encK p.1,encV p.2)
def Zz_ (o:Obj) (m:List (α×β)):Prop:= ∃es clock,o= .map es clock∧es.toList.map (fun e=>(e.key,e.val))=m.map (kC_ encK encV)∧(es.toList.map (·.born)++ [clock]).Pairwise (· < ·)
structure KeyOk (P:Program) (kt:TypeId) (encK:α→Value):Prop where
 find: ∀ {β:Type} (encV:β→Value) (w:World) (k:α) (es:List MapEntry) (m:List (α×β)),es.map (fun e=>(e.key,e.val))=m.map (kC_ encK encV)→(Instr.findKey kt (encK k) es).run P w= .ok ((Xz_ k m 0).map fun p=>(p.1,encV p.2)) w
 check: ∀ (w:World) (e:Bool) (k:α),(Instr.checkKey e 10000 kt (encK k)).run P w= .ok () w
 bits: ∀k,Instr.sameBits 10000 (encK k) (encK k)=true
variable {encK encV}
omit [LawfulBEq α] in
theorem XV_ {kd:TypeDesc} (hs: ∀a b,Instr.sameNow kd (encK a) (encK b)=some (a==b)) (k:α): ∀ (es:List MapEntry) (m:List (α×β)) (i:Nat),es.map (fun e=>(e.key,e.val))=m.map (kC_ encK encV)→
  Instr.findNow kd (encK k) es i=some ((Xz_ k m i).map fun p=>(p.1,encV p.2))
 | [],[],i,_=>rfl
 | [],_::_,_,h=>by cases h
 |_::_,[],_,h=>by cases h
 |e::es,p::m,i,h=>by
  simp only[List.map_cons,List.cons.injEq,kC_,Prod.mk.injEq] at h
  obtain⟨⟨h1,h2⟩,h3⟩:=h
  unfold Instr.findNow
  have hs:Instr.sameNow kd (encK k) e.key=some (k==p.1):=by rw[h1,hs]
  rw[hs]
  unfold Xz_
  cases hk: (k==p.1)
  ·simp only[Bool.false_eq_true, ↓reduceIte]
   exact XV_ ‹_› k es m (i+1) h3
  ·simp[h2]
theorem Kf_ (k:α): ∀ (m:List (α×β)) (i j:Nat) (v:β),Xz_ k m i=some (j,v)→i≤j∧ ∃a,m[j - i]? =some (k,a)∧a=v
 | [],_,_,_,h=>by cases h
 |p::r,i,j,v,h=>by
  unfold Xz_ at h
  split at h
  ·rename_i hk
   cases h
   refine⟨Nat.le_refl _,p.2, ?_,rfl⟩
   rw[Nat.sub_self,List.getElem?_cons_zero,eq_of_beq hk]
  ·obtain⟨h1,a,h2,h3⟩:=Kf_ k r (i+1) j v h
   refine⟨by omega,a, ?_,h3⟩
   rw[show j - i=(j - (i+1))+1 by omega,List.getElem?_cons_succ];exact h2
theorem adp_ (k:α) (v:β): ∀ (es:List MapEntry) (m:List (α×β)) (i j:Nat) (a:β),es.map (fun e=>(e.key,e.val))=m.map (kC_ encK encV)→Xz_ k m i=some (j,a)→
  (es.modify (j - i) fun e=>{e with key:=encK k,val:=encV v}).map (fun e=>(e.key,e.val))=(updG k v m).map (kC_ encK encV)
 | [],[],_,_,_,_,h=>by cases h
 | [],_::_,_,_,_,h,_=>by cases h
 |_::_,[],_,_,_,h,_=>by cases h
 |e::es,p::m,i,j,a,h,hf=>by
  simp only[List.map_cons,List.cons.injEq,kC_,Prod.mk.injEq] at h
  obtain⟨⟨h1,h2⟩,h3⟩:=h
  unfold Xz_ at hf
  unfold updG
  split at hf
  ·rename_i hk
   cases hf
   rw[if_pos hk,Nat.sub_self]
   simp only[List.modify_zero_cons,List.map_cons,kC_,eq_of_beq hk]
   rw[h3]
  ·rename_i hk
   have hle:=(Kf_ k m (i+1) j a hf).1
   rw[if_neg hk,show j - i=(j - (i+1))+1 by omega]
   simp only[List.modify_succ_cons,List.map_cons,kC_]
   rw[adp_ k v es m (i+1) j a h3 hf,h1,h2]
omit [LawfulBEq α] in
theorem ad8_ (k:α) (v:β): ∀ (m:List (α×β)) (i:Nat),Xz_ k m i=none→updG k v m=m++ [(k,v)]
 | [],_,_=>rfl
 |p::r,i,h=>by
  unfold Xz_ at h
  split at h
  ·cases h
  ·rename_i hk
   unfold updG
   rw[if_neg hk,ad8_ k v r (i+1) h];rfl
omit [LawfulBEq α] in
theorem adH_ (k:α): ∀ (m:List (α×β)) (i:Nat),(Xz_ k m i).map Prod.snd=(m.find? fun p=>k==p.1).map Prod.snd
 | [],_=>rfl
 |p::r,i=>by
  unfold Xz_
  rw[List.find?_cons]
  cases h: (k==p.1)
  ·simp only[Bool.false_eq_true, ↓reduceIte];exact adH_ k r (i+1)
  ·rfl
theorem apl_ {k:α} {m:List (α×β)} {es:List MapEntry} {j:Nat} {a:β} (h:es.map (fun e=>(e.key,e.val))=m.map (kC_ encK encV)) (hf:Xz_ k m 0=some (j,a)): ∃e,es[j]? =some e∧e.key=encK k:=by
 obtain⟨-,a',h1,rfl⟩:=Kf_ k m 0 j a hf
 rw[Nat.sub_zero] at h1
 have:=congrArg (·[j]?) h
 simp only[List.getElem?_map,h1,Option.map_some] at this
 cases he:es[j]? with
 |none=>rw[he] at this;cases this
 |some e=>
  rw[he] at this
  simp only[Option.map_some,Option.some.injEq,kC_,Prod.mk.injEq] at this
  exact⟨e,rfl,this.1⟩
theorem KeyOk.int {P:Program} {kt:TypeId} {k0:IntKind} (hu:P.underlying kt=some (.int k0)):KeyOk P kt vi where
 find encV w k es m h:=by
  simp only[Instr.findKey,Sem.run_bind,run_underlying hu w,Result.andThen_ok]
  rw[XV_ (encK:=vi) (fun a b=>by simp[Instr.sameNow,vi]) k es m 0 h]
  rfl
 check w e k:=by
  unfold Instr.checkKey
  simp only[Sem.run_bind,run_underlying hu w,Result.andThen_ok]
  rfl
 bits k:=by simp[vi,Instr.sameBits]
variable {P:Program} {w0:World} {f:Fr} {L:zb_} {N:Fr→zb_→Prop} {ops:Array Oper} {rest:List Oper} {md:Md}
 {d:Option Tmp} {ty:TypeId} {ps:String} {af:Array Edge} {g:Option (Nat×Bool)}
omit [BEq α] [LawfulBEq α] in
theorem Ow.makeMapG {t:TypeId} {md':Md} (he:md.turn=some md') (hs:zn_ ops f ⟨d, .makeMap t none,ty,ps,af,g⟩=false)
  (hn: ∀b o,jV_ L b→w0.heap.size≤b→Zz_ encK encV o []→Ow P w0 ops md' rest (qu_ f d (vm b)) (L++ [(b,o)]) N):
  Ow P w0 ops md (⟨d, .makeMap t none,ty,ps,af,g⟩::rest) f L N:=by
 refine Ow.step he rfl hs fun w hw=> .inl ⟨vm w.heap.size,w.alloc (.map #[] 0),_, ?_,hw.alloc _,hn _ _ (z2_ fun b hb=>hw.lt hb) hw.size ⟨#[],0,rfl,rfl,List.pairwise_singleton _ _⟩⟩
 simp only[execOp,Instr.makeMap,Sem.run_bind,Option.map_none]
 rfl
theorem Ow.mapUpdateG {t kt vt:TypeId} {x y z:Operand} {b:Nat} {o:Obj} {m:List (α×β)} {k:α} {v:β} {md':Md} (he:md.turn=some md') (hs:zn_ ops f ⟨d, .mapUpdate t x y z,ty,ps,af,g⟩=false) (hu:P.underlying t=some (.map kt vt)) (hk:KeyOk P kt encK)
  (hx:ev f x=vm b) (hy:ev f y=encK k) (hz:ev f z=encV v) (hl:look L b=some o) (hm:Zz_ encK encV o m)
  (hn: ∀o',Zz_ encK encV o' (updG k v m)→Ow P w0 ops md' rest (qu_ f d undef) (setB L b o') N):
  Ow P w0 ops md (⟨d, .mapUpdate t x y z,ty,ps,af,g⟩::rest) f L N:=by
 obtain⟨es,c,rfl,hes,hbo⟩:=hm
 refine Ow.step he rfl hs fun w hw=> ?_
 have hb:=hw.has _ _ (zy_ hl)
 have hfk:=hk.find encV w k es.toList m hes
 cases hf:Xz_ k m 0 with
 |none=>
  rw[hf] at hfk
  refine .inr (.inl ⟨{w with heap:=w.heap.setIfInBounds b (.map (es.push {key:=encK k,val:=encV v,born:=c}) (c+1))},_, ?_,hw.set (zh_ hl) rfl rfl rfl rfl,hn _ ⟨_,_,rfl, ?_,by rw[Array.toList_push];exact aeg_ hbo rfl⟩⟩)
  ·have: (Instr.mapUpdate t (vm b) (encK k) (encV v)).run P w= .ok () {w with heap:=w.heap.setIfInBounds b (.map (es.push {key:=encK k,val:=encV v,born:=c}) (c+1))}:=by
    simp only[Instr.mapUpdate,vm,Sem.run_bind,run_underlying hu w,Result.andThen_ok,qY_ hb,hk.check,hfk,Option.map_none,xE_ hb]
   simp only[execOp,Sem.run_bind,hx,hy,hz]
   rw[this];rfl
  ·rw[ad8_ k v m 0 hf,Array.toList_push,List.map_append,hes,List.map_append];rfl
 |some p=>
  obtain⟨j,a⟩:=p
  rw[hf] at hfk
  obtain⟨e,hej,hek⟩:=apl_ hes hf
  have hej':es[j]? =some e:=by simpa using hej
  have hkt: (Instr.keyThatStays (((es[j]?).map (·.key)).getD (encK k)) (encK k)).run P w= .ok (encK k) w:=by
   rw[hej',Option.map_some,Option.getD_some,hek]
   unfold Instr.keyThatStays
   rw[if_pos (hk.bits k)];rfl
  refine .inr (.inl ⟨{w with heap:=w.heap.setIfInBounds b (.map (es.modify j fun e=>{e with key:=encK k,val:=encV v}) c)},_, ?_,hw.set (zh_ hl) rfl rfl rfl rfl,hn _ ⟨_,_,rfl, ?_,by rw[Array.toList_modify,XN_ (g:=fun e=>{e with key:=encK k,val:=encV v}) fun _=>rfl];exact hbo⟩⟩)
  ·have: (Instr.mapUpdate t (vm b) (encK k) (encV v)).run P w= .ok () {w with heap:=w.heap.setIfInBounds b (.map (es.modify j fun e=>{e with key:=encK k,val:=encV v}) c)}:=by
    simp only[Instr.mapUpdate,vm,Sem.run_bind,run_underlying hu w,Result.andThen_ok,qY_ hb,hk.check,hfk,Option.map_some,hkt,xE_ hb]
   simp only[execOp,Sem.run_bind,hx,hy,hz]
   rw[this];rfl
  ·rw[Array.toList_modify]
   have:=adp_ k v es.toList m 0 j a hes hf
   rw[Nat.sub_zero] at this
   exact this
omit [LawfulBEq α] in
theorem Ow.mapGetG {t kt vt:TypeId} {x y:Operand} {b:Nat} {o:Obj} {m:List (α×β)} {k:α} {z:β} {md':Md} (he:md.turn=some md') (hs:zn_ ops f ⟨d, .lookup t x y false,ty,ps,af,g⟩=false) (hu:P.underlying t=some (.map kt vt)) (hk:KeyOk P kt encK)
  (hz:zM_ P vt=some (encV z)) (hx:ev f x=vm b) (hy:ev f y=encK k) (hl:zz_ w0 L b=some o) (hm:Zz_ encK encV o m)
  (hn:Ow P w0 ops md' rest (qu_ f d (encV (getG k z m))) L N):
  Ow P w0 ops md (⟨d, .lookup t x y false,ty,ps,af,g⟩::rest) f L N:=by
 obtain⟨es,c,rfl,hes,-⟩:=hm
 refine Ow.step he rfl hs fun w hw=> ?_
 have hb:=hw.read hl
 have hfk:=hk.find encV w k es.toList m hes
 refine .inl ⟨encV (getG k z m),w,L, ?_,hw,hn⟩
 have hff:=adH_ k m 0
 have: (Instr.lookup t (vm b) (encK k) false).run P w= .ok (encV (getG k z m)) w:=by
  cases hf:Xz_ k m 0 with
  |none=>
   rw[hf] at hfk hff
   have hg:getG k z m=z:=by
    unfold getG
    cases h:m.find? fun p=>k==p.1 with
    |none=>rfl
    |some q=>rw[h] at hff;cases hff
   simp only[Instr.lookup,vm,Sem.run_bind,run_underlying hu w,Result.andThen_ok,qY_ hb,Sem.run_pure,hk.check,hfk,Option.map_none,xU_ hz w,hg,Bool.false_eq_true, ↓reduceIte]
  |some p=>
   obtain⟨j,a⟩:=p
   rw[hf] at hfk hff
   have hg:getG k z m=a:=by
    unfold getG
    cases h:m.find? fun p=>k==p.1 with
    |none=>rw[h] at hff;cases hff
    |some q=>rw[h] at hff;simp only[Option.map_some,Option.some.injEq] at hff;exact hff.symm
   simp only[Instr.lookup,vm,Sem.run_bind,run_underlying hu w,Result.andThen_ok,qY_ hb,Sem.run_pure,hk.check,hfk,Option.map_some,hg,Bool.false_eq_true, ↓reduceIte]
 simp only[execOp,Sem.run_bind,hx,hy]
 rw[this];rfl
end
section
variable {P:Program} {w0:World} {f:Fr} {L:zb_} {N:Fr→zb_→Prop} {ops:Array Oper} {rest:List Oper} {md:Md} {d:Option Tmp} {ty:TypeId} {ps:String} {af:Array Edge} {g:Option (Nat×Bool)}
theorem Ow.callFnXC {x y:Operand} {b:Value} {cap ars:Array Value} (ha: #[b]++cap=ars) {ts:Array TypeId} {k:FuncId} {X Y:zb_} {S:Value→zb_→Prop} {md':Md} (hL:L=X++Y) (he:md.turn=some md')
  (hs:zn_ ops f ⟨d, .call ⟨.value x, #[y],ts⟩,ty,ps,af,g⟩=false)
  (hx:ev f x= .func (.func k) #[] cap) (hy:ev f y=b)
  (hk: ∀a w,(callFunc k a).run P w= .ok (.enter k a) w)
  (hc: ∀w,Hp w0 L w→(∀p,p∈X→w.heap[p.1]? =some p.2)→(keys X).Nodup→Rets P k ars w (XS w X S))
  (hn: ∀v D,Came w0 L X D→S v D→Ow P w0 ops md' rest (qu_ f d v) (D++Y) N):
  Ow P w0 ops md (⟨d, .call ⟨.value x, #[y],ts⟩,ty,ps,af,g⟩::rest) f L N:=by
 subst hL
 have hnd: ∀w,Hp w0 (X++Y) w→(keys X).Nodup∧ ∀c,c∈keys Y→c∉keys X:=by
  intro w hw
  have:=hw.nodup
  rw[zj_,List.nodup_append] at this
  exact⟨this.1,fun c hc hx=>this.2.2 c hx c hc rfl⟩
 refine Ow.call (S:=fun B v D=>((∀c,c∈keys D→c∈keys X∨B≤c)∧(∀c,c∈keys X→c∈keys D)∧S v D)∧ ∃w,Hp w0 (X++Y) w∧w.heap.size=B) he hs hx hk (fun w hw=> ?_) ?_
 ·show Rets P k (#[]++ #[y].map (ev f)++cap) w _
  rw[show(#[]++ #[y].map (ev f)++cap:Array Value)=ars by rw[←ha];simp[hy]]
  refine Calls.mono (hc w hw (fun p hp=>hw.has _ _ (List.mem_append_left _ hp)) (hnd w hw).1) ?_
  rintro e w' ⟨v,D,he,hp,hS⟩
  exact⟨v,D,he,hp,⟨hS.1.new,hS.1.all,hS.2⟩,w,hw,rfl⟩
 ·rintro B v D hab hB ⟨⟨h1,h2,h3⟩,w1,hw1,hwB⟩
  refine⟨D++Y, ?_,hn v D ⟨fun c hc=>(h1 c hc).imp id fun h=>⟨z2_ fun b hb=>by have:=hw1.lt hb;omega,by have:=hw1.size;omega⟩,h2⟩ h3⟩
  intro w w' hwb h k
  have ht:=h.trans k
  have hY: ∀c,c∈keys Y→c∉keys D:=by
   intro c hc hd
   rcases h1 c hd with hx|hx
   ·exact(hnd w h).2 c hc hx
   ·have:=h.lt (b:=c) (by rw[zj_];exact List.mem_append_right _ hc)
    omega
  have e1:X.filter (fun p=> !(keys D).contains p.1)= []:=by
   rw[List.filter_eq_nil_iff]
   intro p hp
   have:=h2 p.1 (List.mem_map.2 ⟨p,hp,rfl⟩)
   simpa using this
  have e2:Y.filter (fun p=> !(keys D).contains p.1)=Y:=qT_ hY
  rw[List.filter_append,e1,e2,List.nil_append] at ht
  refine ht.same (fun p=>by simp[or_comm]) ?_
  have:=ht.nodup
  rw[zj_] at this ⊢
  exact(List.perm_append_comm.nodup_iff).1 this
end
end Go.Sx
namespace Go.Sx
open Go
def ItG {α β:Type} (encK:α→Value) (encV:β→Value) (o:Obj) (bm:Nat) (om:Obj) (m dn lf:List (α×β)):Prop:=
 ∃es clock,∃ds:List MapEntry,om= .map es clock∧(es.toList.map (·.born)++ [clock]).Pairwise (· < ·)∧o= .mapIter (some bm) clock (ds.map (·.born)).toArray clock∧
  ds.map kv=dn.map (kC_ encK encV)∧(∀d,d∈ds→d∈es.toList)∧((es.toList.filter fun e=> !(ds.map (·.born)).contains e.born).map kv=lf.map (kC_ encK encV))∧(dn++lf).Perm m
theorem ItG.start {α β:Type} {encK:α→Value} {encV:β→Value} {bm:Nat} {om:Obj} {m:List (α×β)} (h:Zz_ encK encV om m): ∃es clock,om= .map es clock∧ItG encK encV (.mapIter (some bm) clock #[] clock) bm om m [] m:=by
 obtain⟨es,clock,rfl,h1,h2⟩:=h
 refine⟨es,clock,rfl,es,clock,[],rfl,h2,rfl,rfl,(fun d hd=>by cases hd), ?_,by rw[List.nil_append]⟩
 rw[show(es.toList.filter fun e=> !(([]:List MapEntry).map (·.born)).contains e.born)=es.toList from List.filter_eq_self.2 (fun _ _=>rfl)]
 exact h1
theorem ItG.step {α β:Type} {encK:α→Value} {encV:β→Value} {bm:Nat} {om:Obj} {m dn lf:List (α×β)} {es:Array MapEntry} {clock:Nat} {ds:List MapEntry} {e:MapEntry} (hb: (es.toList.map (·.born)++ [clock]).Pairwise (· < ·))
  (hd:ds.map kv=dn.map (kC_ encK encV)) (hm: ∀d,d∈ds→d∈es.toList) (hl: (es.toList.filter fun e=> !(ds.map (·.born)).contains e.born).map kv=lf.map (kC_ encK encV)) (hp: (dn++lf).Perm m)
  (he:e∈es.toList.filter fun e=> !(ds.map (·.born)).contains e.born) (hom:om= .map es clock):
  ∃p lf',kv e=kC_ encK encV p∧lf.length=lf'.length+1∧ItG encK encV (.mapIter (some bm) clock ((ds.map (·.born)).toArray.push e.born) clock) bm om m (dn++ [p]) lf':=by
 obtain⟨A,C,hAC⟩:=List.append_of_mem he
 rw[hAC,List.map_append,List.map_cons] at hl
 obtain⟨l1,l2,rfl,h1,h2⟩:=List.append_eq_map_iff.1 hl
 obtain⟨p,l3,rfl,h3,h4⟩:=(List.map_eq_cons_iff.1 h2)
 refine⟨p,l1++l3,h3.symm,by simp;omega,es,clock,ds++ [e],hom,hb,by simp,by simp[hd,h3], ?_, ?_, ?_⟩
 ·intro d hd'
  rcases List.mem_append.1 hd' with h|h
  ·exact hm d h
  ·rw[List.mem_singleton] at h;subst h;exact(List.mem_filter.1 he).1
 ·have hnd: ((A++e::C).map (·.born)).Nodup:=by
   rw[←hAC]
   exact(JM_ hb).sublist ((List.filter_sublist).map _)
  have e1: (es.toList.filter fun x=> !((ds++ [e]).map (·.born)).contains x.born)=(A++e::C).filter fun x=> !(x.born==e.born):=by
   rw[←hAC,List.filter_filter]
   refine List.filter_congr fun x hx=> ?_
   simp only[List.map_append,List.map_cons,List.map_nil,List.contains_append,List.contains_cons,List.contains_nil,Bool.or_false,Bool.not_or]
   rw[Bool.and_comm]
  rw[List.map_append,List.map_cons,List.nodup_append] at hnd
  obtain⟨-,hn2,hn3⟩:=hnd
  rw[List.nodup_cons] at hn2
  have e2: ((A++e::C).filter fun x=> !(x.born==e.born))=A++C:=by
   rw[List.filter_append,List.filter_cons]
   simp only[beq_self_eq_true,Bool.not_true,Bool.false_eq_true, ↓reduceIte]
   congr 1
   ·refine List.filter_eq_self.2 fun x hx=> ?_
    have:=hn3 x.born (List.mem_map.2 ⟨x,hx,rfl⟩) e.born List.mem_cons_self
    simpa using this
   ·refine List.filter_eq_self.2 fun x hx=> ?_
    have:x.born≠e.born:=fun h=>hn2.1 (h▸List.mem_map.2 ⟨x,hx,rfl⟩)
    simpa using this
  rw[e1,e2,List.map_append,List.map_append,h1,h4]
 ·refine List.Perm.trans ?_ hp
  rw[List.append_assoc]
  refine List.Perm.append_left dn ?_
  rw[List.singleton_append]
  exact List.perm_middle.symm
section
variable {α β:Type} {encK:α→Value} {encV:β→Value} {P:Program} {w0:World} {f:Fr} {L:zb_} {N:Fr→zb_→Prop} {ops:Array Oper} {rest:List Oper} {md:Md}
 {d:Option Tmp} {ty:TypeId} {ps:String} {af:Array Edge} {g:Option (Nat×Bool)}
theorem Ow.rangeMapG {t kt vt:TypeId} {x:Operand} {bm:Nat} {om:Obj} {m:List (α×β)} {md':Md} (he:md.turn=some md') (hs:zn_ ops f ⟨d, .range t x,ty,ps,af,g⟩=false) (hu:P.underlying t=some (.map kt vt))
  (hx:ev f x=vm bm) (hl:zz_ w0 L bm=some om) (hm:Zz_ encK encV om m)
  (hn: ∀b o,jV_ L b→w0.heap.size≤b→ItG encK encV o bm om m [] m→Ow P w0 ops md' rest (qu_ f d (itv b)) (L++ [(b,o)]) N):
  Ow P w0 ops md (⟨d, .range t x,ty,ps,af,g⟩::rest) f L N:=by
 obtain⟨es,clock,rfl,hI⟩:=ItG.start (bm:=bm) hm
 refine Ow.step he rfl hs fun w hw=> .inl ⟨itv w.heap.size,w.alloc (.mapIter (some bm) clock #[] clock),_, ?_,hw.alloc _,hn _ _ (z2_ fun b hb=>hw.lt hb) hw.size hI⟩
 have hb:=hw.read hl
 have: (Instr.range t (vm bm)).run P w= .ok (itv w.heap.size) (w.alloc (.mapIter (some bm) clock #[] clock)):=by
  simp only[Instr.range,vm,Sem.run_bind,run_underlying hu w,Result.andThen_ok,qY_ hb]
  rfl
 simp only[execOp,Sem.run_bind,hx]
 rw[this];rfl
theorem Ow.nextMapG {x:Operand} {r bm:Nat} {o om:Obj} {m dn lf:List (α×β)} {md':Md} (he:md.turn=some md') (hs:zn_ ops f ⟨d, .next x false,ty,ps,af,g⟩=false)
  (hx:ev f x=itv r) (hl:look L r=some o) (hlm:zz_ w0 L bm=some om) (hI:ItG encK encV o bm om m dn lf)
  (h0:lf= []→Ow P w0 ops md' rest (qu_ f d (.tuple #[.bool false])) L N)
  (h1: ∀p o' lf',lf.length=lf'.length+1→ItG encK encV o' bm om m (dn++ [p]) lf'→Ow P w0 ops md' rest (qu_ f d (.tuple #[.bool true,encK p.1,encV p.2])) (setB L r o') N):
  Ow P w0 ops md (⟨d, .next x false,ty,ps,af,g⟩::rest) f L N:=by
 refine Ow.step he rfl hs fun w hw=> ?_
 have hr:=hw.has _ _ (zy_ hl)
 have hb:=hw.read hlm
 obtain⟨es,clock,ds,rfl,hbo,rfl,hd,hm,hlf,hp⟩:=hI
 rcases run_next_at (P:=P) w ty r bm clock clock (ds.map (·.born)).toArray es clock hr hb (aqN_ hbo) (Nat.le_refl _) with⟨hz,hrun⟩ | ⟨e,hem,w1,hw1,hrun⟩
 ·refine .inl ⟨.tuple #[.bool false],w,L, ?_,hw,h0 ?_⟩
  ·simp only[execOp,Sem.run_bind,hx,itv]
   rw[hrun];rfl
  ·have: (leftOf es (ds.map (·.born)).toArray).toList= []:=by
    rw[Array.toList_eq_nil_iff];exact Array.eq_empty_of_size_eq_zero hz
   rw[adc_] at this
   rw[this] at hlf
   exact(List.map_eq_nil_iff.1 hlf.symm)
 ·rw[adc_] at hem
  obtain⟨p,lf',hk,hlen,hI'⟩:=ItG.step (bm:=bm) hbo hd hm hlf hp hem rfl
  simp only[kv,kC_,Prod.mk.injEq] at hk
  have hw1':Hp w0 L w1:=by rcases hw1 with rfl|rfl;exact hw;exact hw.drew
  refine .inl ⟨.tuple #[.bool true,encK p.1,encV p.2],ChangeMaps.setBlock w1 r (.mapIter (some bm) clock ((ds.map (·.born)).toArray.push e.born) clock),_, ?_,hw1'.set (zh_ hl) rfl rfl rfl rfl,h1 p _ lf' hlen hI'⟩
  simp only[execOp,Sem.run_bind,hx,itv]
  rw[hrun,hk.1,hk.2];rfl
theorem Ow.entryMapG {x:Operand} {r bm:Nat} {o om:Obj} {m dn lf:List (α×β)} {p:α×β} {md':Md} (he:md.turn=some md') (hs:zn_ ops f ⟨d, .entry x,ty,ps,af,g⟩=false)
  (hx:ev f x=itv r) (hl:zz_ w0 L r=some o) (hlm:zz_ w0 L bm=some om) (hI:ItG encK encV o bm om m (dn++ [p]) lf)
  (hn:Ow P w0 ops md' rest (qu_ f d (.tuple #[encK p.1,encV p.2])) L N):
  Ow P w0 ops md (⟨d, .entry x,ty,ps,af,g⟩::rest) f L N:=by
 refine Ow.step he rfl hs fun w hw=> .inl ⟨_,w,L, ?_,hw,hn⟩
 have hr:=hw.read hl
 have hb:=hw.read hlm
 obtain⟨es,clock,ds,rfl,hbo,rfl,hd,hm,hlf,hp⟩:=hI
 rw[List.map_append,List.map_cons,List.map_nil] at hd
 obtain⟨d1,d2,rfl,-,h2⟩:=List.map_eq_append_iff.1 hd
 obtain⟨e,d3,rfl,h3,h4⟩:=List.map_eq_cons_iff.1 h2
 obtain rfl:=List.map_eq_nil_iff.1 h4
 simp only[kv,kC_,Prod.mk.injEq] at h3
 have hs': ((d1++ [e]).map (·.born)).toArray=(d1.map (·.born)).toArray.push e.born:=by simp
 rw[hs'] at hr
 have hrun:=run_entry_at (P:=P) w r bm clock (d1.map (·.born)).toArray es clock e hr hb (hm e (by simp)) (JM_ hbo)
 simp only[execOp,Sem.run_bind,hx,itv]
 rw[hrun,h3.1,h3.2];rfl
end
theorem aeM_ (l:List UInt8):Instr.sameBits 10000 (.agg (a8 l)) (.agg (a8 l))=true:=by
 show Instr.sameBits (9999+1) _ _=true
 unfold Instr.sameBits
 simp only[beq_self_eq_true,Bool.true_and,List.all_eq_true]
 intro p hp
 obtain⟨i,hi,rfl⟩:=List.getElem_of_mem hp
 rw[List.getElem_zip]
 simp[a8,Instr.sameBits]
theorem abX_ {P:Program} {t e:TypeId} {n:Nat} (hu:P.underlying t=some (.array n e)) (he:P.underlying e=some (.int .u8)) (hm:z0_ P e=some (false,1)) (l l':List UInt8) (hl:l.length=n) (hl':l'.length=n) (w:World):
  (Op.equal t (.agg (a8 l)) (.agg (a8 l'))).run P w= .ok (l==l') w:=
 amT_ P 8 9992 t _ _ _ (alh_ (d:=6) hu he hm l l' hl hl') w
theorem Vk_ {P:Program} {t e:TypeId} {n:Nat} (hu:P.underlying t=some (.array n e)) (he:P.underlying e=some (.int .u8)) (hm:z0_ P e=some (false,1)) (l:List UInt8) (hl:l.length=n) (em:Bool) (w:World):
  (Instr.checkKey em 10000 t (.agg (a8 l))).run P w= .ok () w:=by
 show(Instr.checkKey em (9999+1) t (.agg (a8 l))).run P w= .ok () w
 rw[Instr.checkKey]
 simp only[Sem.run_bind,run_underlying hu,Result.andThen_ok]
 simp only[Std.Legacy.Range.forIn_eq_forIn_range',Std.Legacy.Range.size,Nat.sub_zero,Nat.add_one_sub_one,Nat.div_one]
 have each: ∀j,j∈List.range' 0 n→j<l.length:=by
  intro j hj
  rw[List.mem_range'] at hj
  obtain⟨i,hi,rfl⟩:=hj
  omega
 generalize List.range' 0 n=is at each
 induction is with
 |nil=>simp
 |cons j is ih=>
  have hj:=each j (by simp)
  have p1: (part e (a8 l) (j*1)).run P w= .ok (v8 (l.getD j 0)) w:=by
   refine xv_ hm ?_ w
   simp[partV,a8,v8,hj]
  have p2: (Instr.checkKey em 9999 e (v8 (l.getD j 0))).run P w= .ok () w:=by
   show(Instr.checkKey em (9998+1) e (v8 (l.getD j 0))).run P w= .ok () w
   rw[Instr.checkKey]
   simp only[Sem.run_bind,run_underlying he,Result.andThen_ok,v8]
   rfl
  simp only[List.forIn_cons,Sem.run_bind,zF_ hm w,Result.andThen_ok,p1,p2,Sem.run_pure]
  exact ih (fun y hy=>each y (by simp[hy]))
theorem ajs_ {n:Nat} {e:TypeId} (x:Value): ∀ (es:List MapEntry) (i:Nat),es≠ []→Instr.findNow (.array n e) x es i=none
 | [],_,h=>absurd rfl h
 |_::_,_,_=>by cases x<;>rfl
theorem J8_ {α β:Type} [BEq α] {P:Program} {kt:TypeId} {encK:α→Value} {encV:β→Value} (he: ∀a b w,(Op.equal kt (encK a) (encK b)).run P w= .ok (a==b) w) (w:World) (k:α): ∀ (es:List MapEntry) (m:List (α×β)) (i:Nat),es.map (fun e=>(e.key,e.val))=m.map (kC_ encK encV)→
  (Instr.findAsking kt (encK k) es i).run P w= .ok ((Xz_ k m i).map fun p=>(p.1,encV p.2)) w
 | [],[],_,_=>rfl
 | [],_::_,_,h=>by cases h
 |_::_,[],_,h=>by cases h
 |e::es,p::m,i,h=>by
  simp only[List.map_cons,List.cons.injEq,kC_,Prod.mk.injEq] at h
  obtain⟨⟨h1,h2⟩,h3⟩:=h
  unfold Instr.findAsking Xz_
  rw[Sem.run_bind,h1,he]
  simp only[Result.andThen_ok]
  cases hk: (k==p.1)
  ·simp only[Bool.false_eq_true, ↓reduceIte]
   exact J8_ he w k es m (i+1) h3
  ·simp[h2]
theorem KeyOk.arr {α:Type} [BEq α] {P:Program} {kt e:TypeId} {n:Nat} (hu:P.underlying kt=some (.array n e)) (he:P.underlying e=some (.int .u8)) (hm:z0_ P e=some (false,1)) (bs:α→List UInt8) (hb: ∀a,(bs a).length=n) (hq: ∀a b,(bs a==bs b)=(a==b)):
  KeyOk P kt (fun a:α=> .agg (a8 (bs a))) where
 find encV w k es m h:=by
  cases es with
  |nil=>
   cases m with
   |nil=>simp only[Instr.findKey,Sem.run_bind,run_underlying hu w,Result.andThen_ok];rfl
   |cons=>cases h
  |cons e0 es=>
   simp only[Instr.findKey,Sem.run_bind,run_underlying hu w,Result.andThen_ok]
   rw[ajs_ _ _ _ (by simp)]
   exact J8_ (encK:=fun a:α=> .agg (a8 (bs a))) (fun a b w=>by rw[abX_ hu he hm _ _ (hb a) (hb b) w,hq]) w k _ m 0 h
 check w e k:=Vk_ hu he hm _ (hb k) e w
 bits k:=aeM_ _
section
variable {α β:Type} [BEq α] [LawfulBEq α] {encK:α→Value} {encV:β→Value} {P:Program} {w0:World} {f:Fr} {L:zb_} {N:Fr→zb_→Prop} {ops:Array Oper} {rest:List Oper} {md:Md}
 {d:Option Tmp} {ty:TypeId} {ps:String} {af:Array Edge} {g:Option (Nat×Bool)}
omit [LawfulBEq α] in
end
end Go.Sx
namespace Go.Sx
open Go
theorem KeyOk.str {P:Program} {kt:TypeId} (hu:P.underlying kt=some .string):KeyOk P kt vs where
 find encV w k es m h:=by
  simp only[Instr.findKey,Sem.run_bind,run_underlying hu w,Result.andThen_ok]
  rw[XV_ (encK:=vs) (fun a b=>by simp only[vs,Instr.sameNow,adD_]) k es m 0 h]
  rfl
 check w e k:=by
  unfold Instr.checkKey
  simp only[Sem.run_bind,run_underlying hu w,Result.andThen_ok,vs]
  rfl
 bits k:=by simp only[vs,Instr.sameBits,adD_,beq_self_eq_true]
section
variable {α β:Type} [BEq α] [LawfulBEq α]
def delG (k:α):List (α×β)→List (α×β)
 | []=> []
 |p::r=>if k==p.1 then r else p::delG k r
variable {encK:α→Value} {encV:β→Value}
omit [LawfulBEq α] in
theorem ak4_ (k:α): ∀ (m:List (α×β)) (i j:Nat) (a:β),Xz_ k m i=some (j,a)→i≤j
 | [],_,_,_,h=>by cases h
 |p::r,i,j,a,h=>by
  unfold Xz_ at h
  split at h
  ·cases h;exact Nat.le_refl _
  ·have:=ak4_ k r (i+1) j a h;omega
omit [LawfulBEq α] in
theorem ad1_ (k:α): ∀ (es:List MapEntry) (m:List (α×β)) (i j:Nat) (a:β),es.map (fun e=>(e.key,e.val))=m.map (kC_ encK encV)→Xz_ k m i=some (j,a)→
  (es.eraseIdx (j - i)).map (fun e=>(e.key,e.val))=(delG k m).map (kC_ encK encV)
 | [],[],_,_,_,_,h=>by cases h
 | [],_::_,_,_,_,h,_=>by cases h
 |_::_,[],_,_,_,h,_=>by cases h
 |e::es,p::m,i,j,a,h,hf=>by
  simp only[List.map_cons,List.cons.injEq] at h
  obtain⟨h1,h3⟩:=h
  unfold Xz_ at hf
  unfold delG
  split at hf
  ·rename_i hk
   cases hf
   rw[if_pos hk,Nat.sub_self]
   exact h3
  ·rename_i hk
   have hle:=ak4_ k m (i+1) j a hf
   rw[if_neg hk,show j - i=(j - (i+1))+1 by omega]
   simp only[List.eraseIdx_cons_succ,List.map_cons]
   rw[ad1_ k es m (i+1) j a h3 hf,h1]
omit [LawfulBEq α] in
theorem ac8_ (k:α): ∀ (m:List (α×β)) (i:Nat),Xz_ k m i=none→delG k m=m
 | [],_,_=>rfl
 |p::r,i,h=>by
  unfold Xz_ at h
  split at h
  ·cases h
  ·rename_i hk
   unfold delG
   rw[if_neg hk,ac8_ k r (i+1) h]
variable {P:Program} {w0:World} {f:Fr} {L:zb_} {N:Fr→zb_→Prop} {ops:Array Oper} {rest:List Oper} {md:Md}
 {d:Option Tmp} {ty:TypeId} {ps:String} {af:Array Edge} {g:Option (Nat×Bool)}
omit [LawfulBEq α] in
theorem Ow.mapDeleteG {t kt vt:TypeId} {x y:Operand} {t2:TypeId} {b:Nat} {o:Obj} {m:List (α×β)} {k:α} {md':Md} (he:md.turn=some md') (hs:zn_ ops f ⟨d, .call ⟨.builtin .delete, #[x,y], #[t,t2]⟩,ty,ps,af,g⟩=false) (hu:P.underlying t=some (.map kt vt)) (hk:KeyOk P kt encK)
  (hx:ev f x=vm b) (hy:ev f y=encK k) (hl:look L b=some o) (hm:Zz_ encK encV o m)
  (hn: ∀o',Zz_ encK encV o' (delG k m)→Ow P w0 ops md' rest (qu_ f d (.tuple #[])) (setB L b o') N):
  Ow P w0 ops md (⟨d, .call ⟨.builtin .delete, #[x,y], #[t,t2]⟩,ty,ps,af,g⟩::rest) f L N:=by
 obtain⟨es,c,rfl,hes,hbo⟩:=hm
 refine Ow.step he rfl hs fun w hw=> ?_
 have hb:=hw.has _ _ (zy_ hl)
 have hfk:=hk.find encV w k es.toList m hes
 cases hf:Xz_ k m 0 with
 |none=>
  rw[hf] at hfk
  refine .inl ⟨.tuple #[],{w with heap:=w.heap.setIfInBounds b (.map es c)},_, ?_,hw.set (zh_ hl) rfl rfl rfl rfl,hn _ ⟨es,c,rfl,by rw[ac8_ k m 0 hf];exact hes,hbo⟩⟩
  have: (Builtin.delete_ #[t,t2] ty #[vm b,encK k]).run P w= .ok (.tuple #[]) {w with heap:=w.heap.setIfInBounds b (.map es c)}:=by
   simp only[Builtin.delete_,vm,List.getElem?_toArray,List.getElem?_cons_zero,List.getElem?_cons_succ,Sem.run_bind,run_underlying hu w,Result.andThen_ok,qY_ hb,hk.check,hfk,Option.map_none,xE_ hb]
   rfl
  simp only[execOp,resolve,Sem.run_bind,Sem.run_pure,Result.andThen_ok,invoke,builtin,List.map_toArray,List.map_cons,List.map_nil,hx,hy]
  rw[this];rfl
 |some p=>
  obtain⟨j,a⟩:=p
  rw[hf] at hfk
  refine .inl ⟨.tuple #[],{w with heap:=w.heap.setIfInBounds b (.map (es.eraseIdxIfInBounds j) c)},_, ?_,hw.set (zh_ hl) rfl rfl rfl rfl,hn _ ⟨_,c,rfl, ?_,by rw[Array.toList_eraseIdxIfInBounds];exact aju_ hbo⟩⟩
  ·have: (Builtin.delete_ #[t,t2] ty #[vm b,encK k]).run P w= .ok (.tuple #[]) {w with heap:=w.heap.setIfInBounds b (.map (es.eraseIdxIfInBounds j) c)}:=by
    simp only[Builtin.delete_,vm,List.getElem?_toArray,List.getElem?_cons_zero,List.getElem?_cons_succ,Sem.run_bind,run_underlying hu w,Result.andThen_ok,qY_ hb,hk.check,hfk,Option.map_some,xE_ hb]
    rfl
   simp only[execOp,resolve,Sem.run_bind,Sem.run_pure,Result.andThen_ok,invoke,builtin,List.map_toArray,List.map_cons,List.map_nil,hx,hy]
   rw[this];rfl
  ·have:=ad1_ (encK:=encK) (encV:=encV) k es.toList m 0 j a hes hf
   rw[Nat.sub_zero] at this
   rw[←this]
   simp
omit [BEq α] [LawfulBEq α] in
theorem Ow.mapClearG {t kt vt:TypeId} {x:Operand} {b:Nat} {o:Obj} {m:List (α×β)} {md':Md} (he:md.turn=some md') (hs:zn_ ops f ⟨d, .call ⟨.builtin .clear, #[x], #[t]⟩,ty,ps,af,g⟩=false) (hu:P.underlying t=some (.map kt vt))
  (hx:ev f x=vm b) (hl:look L b=some o) (hm:Zz_ encK encV o m)
  (hn: ∀o',Zz_ encK encV o' []→Ow P w0 ops md' rest (qu_ f d (.tuple #[])) (setB L b o') N):
  Ow P w0 ops md (⟨d, .call ⟨.builtin .clear, #[x], #[t]⟩,ty,ps,af,g⟩::rest) f L N:=by
 obtain⟨es,c,rfl,hes,hbo⟩:=hm
 refine Ow.step he rfl hs fun w hw=> ?_
 have hb:=hw.has _ _ (zy_ hl)
 refine .inl ⟨.tuple #[],{w with heap:=w.heap.setIfInBounds b (.map #[] c)},_, ?_,hw.set (zh_ hl) rfl rfl rfl rfl,hn _ ⟨#[],c,rfl,rfl,List.pairwise_singleton _ _⟩⟩
 have: (Builtin.clear_ #[t] ty #[vm b]).run P w= .ok (.tuple #[]) {w with heap:=w.heap.setIfInBounds b (.map #[] c)}:=by
  simp only[Builtin.clear_,vm,List.getElem?_toArray,List.getElem?_cons_zero,Sem.run_bind,run_underlying hu w,Result.andThen_ok,qY_ hb,xE_ hb]
  rfl
 simp only[execOp,resolve,Sem.run_bind,Sem.run_pure,Result.andThen_ok,invoke,builtin,List.map_toArray,List.map_cons,List.map_nil,hx]
 rw[this];rfl
end
section
variable {P:Program} {w0:World} {f:Fr} {L:zb_} {N:Fr→zb_→Prop} {ops:Array Oper} {rest:List Oper} {md:Md}
 {d:Option Tmp} {ty:TypeId} {ps:String} {af:Array Edge} {g:Option (Nat×Bool)}
theorem Ow.ifaceMap {t kt vt:TypeId} {x:Operand} {v:Value} (hs:zn_ ops f ⟨d, .makeInterface t x,ty,ps,af,g⟩=false) (hu:P.underlying t=some (.map kt vt)) (hx:ev f x=v)
  (hn:Ow P w0 ops md.next rest (qu_ f d (.iface t v)) L N):Ow P w0 ops md (⟨d, .makeInterface t x,ty,ps,af,g⟩::rest) f L N:=by
 refine Ow.calm rfl rfl hs (fun w hw=> .inl ⟨.iface t v,w,L, ?_,hw,rfl,rfl⟩) hn
 simp only[execOp,Instr.makeInterface,Sem.run_bind,run_underlying hu w,Result.andThen_ok,hx]
 rfl
theorem Ow.assertMap {t kt vt xt:TypeId} {x:Operand} {v:Value} (hs:zn_ ops f ⟨d, .typeAssert x xt t false,ty,ps,af,g⟩=false) (hu:P.underlying t=some (.map kt vt)) (hx:ev f x= .iface t v)
  (hn:Ow P w0 ops md.next rest (qu_ f d v) L N):Ow P w0 ops md (⟨d, .typeAssert x xt t false,ty,ps,af,g⟩::rest) f L N:=by
 refine Ow.calm rfl rfl hs (fun w hw=> .inl ⟨v,w,L, ?_,hw,rfl,rfl⟩) hn
 simp only[execOp,Instr.typeAssert,Sem.run_bind,run_underlying hu w,Result.andThen_ok,hx, ↓reduceIte]
 rfl
theorem Ow.cloneMap {α β:Type} {encK:α→Value} {encV:β→Value} {x:Operand} {ts:Array TypeId} {k:FuncId} {it:TypeId} {b:Nat} {o:Obj} {m:List (α×β)} {md':Md} (he:md.turn=some md')
  (hs:zn_ ops f ⟨d, .call ⟨.value (.func k), #[x],ts⟩,ty,ps,af,g⟩=false)
  (hk: ∀a w,(callFunc k #[a]).run P w=((Extern.MapsClone.clone #[a]).run P w).andThen fun v w=> .ok (.value v) w)
  (hx:ev f x= .iface it (vm b)) (hl:zz_ w0 L b=some o) (hm:Zz_ encK encV o m)
  (hn: ∀c o',jV_ L c→w0.heap.size≤c→Zz_ encK encV o' m→Ow P w0 ops md' rest (qu_ f d (.iface it (vm c))) (L++ [(c,o')]) N):
  Ow P w0 ops md (⟨d, .call ⟨.value (.func k), #[x],ts⟩,ty,ps,af,g⟩::rest) f L N:=by
 obtain⟨es,c,rfl,hes,hbo⟩:=hm
 refine Ow.step he rfl hs fun w hw=> .inl ⟨.iface it (vm w.heap.size),w.alloc (.map es c),_, ?_,hw.alloc _,hn _ _ (z2_ fun b hb=>hw.lt hb) hw.size ⟨es,c,rfl,hes,hbo⟩⟩
 have hb:=hw.read hl
 have hA:Array.map (ev f) #[x]= #[.iface it (vm b)]:=by simp[hx]
 have h: (callFunc k #[.iface it (vm b)]).run P w= .ok (.value (.iface it (vm w.heap.size))) (w.alloc (.map es c)):=by
  rw[hk]
  have hc:Extern.MapsClone.clone #[.iface it (vm b)]=(getObj b>>=fun o=>match o with| .map es c=>(newObj (.map es c)>>=fun r=>pure (.iface it (.map (some r)))) |_=>stuck "maps.clone: a map expected"):=rfl
  rw[hc,Sem.run_bind,qY_ hb]
  rfl
 simp only[execOp,resolve,Deferred.ofValue,amo_,Sem.run_bind,Sem.run_pure,Result.andThen_ok,invoke,hA]
 simpa using h
end
end Go.Sx
namespace Go.Sx
open Go
theorem Hp.later {w0 w1 w2:World} {L D:zb_} (h:Hp w0 L w1) (k:Hp w1 D w2) (hD:New w1.heap.size D):Hp w0 (L++D) w2:=
 Mrg.fresh hD.le w1 w2 rfl h k
theorem Ow.world {P:Program} {w0:World} {ops:Array Oper} {l:List Oper} {f:Fr} {L:zb_} {N:Fr→zb_→Prop} (h: ∀w,Hp w0 L w→Ow P w0 ops .seq l f L N):Ow P w0 ops .seq l f L N:=fun w hw=>h w hw w hw
theorem Rets.chunk {P:Program} {k:FuncId} {args:Array Value} {w:World} {S:Value→Obj→Prop} {X:zb_} {b:Nat} (hX: ∀p,p∈X→w.heap[p.1]? =some p.2) (hn: (keys X).Nodup) (hb:b∈keys X)
  (h:Rets P k args w (fun v D=> ∃o,D= [(b,o)]∧S v o)):Rets P k args w (XS w X (fun v D=> ∃o,D=setB X b o∧S v o)):=
 Calls.mono h fun e w' ⟨v,D,he,hp,o,hD,hS⟩=>⟨v,setB X b o,he,by subst hD;exact Mrg.set hb w w' rfl ((Hp.refl w).ownX hX hn) hp,(Ext.refl w X).setB,o,rfl,hS⟩
theorem Rets.toX {P:Program} {k:FuncId} {a:Array Value} {w:World} {S:Value→Prop} (h:Rets P k a w (fun v D=>S v∧D= [])):Rets P k a w (XS w [] (fun v D=>D= []∧S v)):=
 h.mono fun v D ⟨h1,h2⟩=>⟨by subst h2;exact Ext.refl w [],h2,h1⟩
theorem Gr.rowL {α:Type} {m:Nat} {enc:α→List Value} {z:α} {w0 w:World} {v:Value} {l:List α} {L:zb_} {E:TypeId} {n:Nat} (h:Gr L E m v n (l.map enc).flatten) (hn:l.length=n) (hw:Hp w0 L w) (hm: ∀x,(enc x).length=m):
  ∃b off arr F fz,RowS m enc z w v l b off arr F fz∧(0<l.length→look L b=some (.cells arr F fz)):=by
 obtain⟨b,off,c,arr,F,fz,hr,hc,⟨rfl,rfl,rfl⟩ | ⟨rfl,hb,hsz⟩⟩:=h.slV (z:=z) hw hn rfl hm
 ·exact⟨b,off,arr,F,fz,hr,fun h0=>absurd h0 (by simp)⟩
 ·refine⟨b,off,arr,F,fz,hr,fun _=> ?_⟩
  obtain⟨o,ho⟩:=XI_ (h.key (b:=b) rfl)
  have:=hw.has _ _ (zy_ ho)
  rw[hb] at this
  rw[ho,this]
theorem GrI.rowL {α:Type} {m:Nat} {enc:α→List Value} {z:α} {w0 w:World} {v:Value} {l:List α} {D:zb_} {E:TypeId} {n:Nat} (h:GrI D E m v n (l.map enc).flatten) (hn:l.length=n) (hw:Hp w0 D w) (hm: ∀x,(enc x).length=m):
  ∃b off arr F fz,RowS m enc z w v l b off arr F fz∧(0<l.length→look D b=some (.cells arr F fz)):=by
 obtain⟨X,hX,h⟩:=h
 obtain⟨b,off,c,arr,F,fz,hr,hc,⟨rfl,rfl,rfl⟩ | ⟨rfl,hb,hsz⟩⟩:=h.slM (z:=z) (fun b o hm=>hw.has b o (hX _ hm)) hn rfl hm
 ·exact⟨b,off,arr,F,fz,hr,fun h0=>absurd h0 (by simp)⟩
 ·refine⟨b,off,arr,F,fz,hr,fun _=> ?_⟩
  obtain⟨o,ho⟩:=XI_ (h.key (b:=b) rfl)
  have hm:=hX _ (zy_ ho)
  have:=hw.has _ _ hm
  rw[hb] at this
  rw[wb_ hw.nodup hm,this]
end Go.Sx
section
namespace Go.Sx
open Go
set_option maxRecDepth 100000
set_option linter.defProp false
def S0:=And.intro (And.intro (And.intro (And.intro (And.intro (And.intro (@aoD_) (And.intro (@apv_) (@aqH_))) (And.intro (@aoP_) (And.intro (@aj0_) (@aov_)))) (And.intro (And.intro (@amR_) (And.intro (@aoi_) (@agE_))) (And.intro (And.intro (@acg_) (@abz_)) (And.intro (@anc_) (@aa7_))))) (And.intro (And.intro (And.intro (@akv_) (And.intro (@apm_) (@agL_))) (And.intro (And.intro (@amP_) (@acn_)) (And.intro (@aqs_) (@ar0_)))) (And.intro (And.intro (@akK_) (And.intro (@afA_) (@akg_))) (And.intro (And.intro (@arr_) (@alt_)) (And.intro (@VM_) (@aa8_)))))) (And.intro (And.intro (And.intro (And.intro (@anL_) (And.intro (@ajP_) (@aoB_))) (And.intro (@aiJ_) (And.intro (@am5_) (@aq4_)))) (And.intro (And.intro (@arG_) (And.intro (@Xn_) (@ZP_))) (And.intro (And.intro (@ae1_) (@ajf_)) (And.intro (@aaV_) (@amL_))))) (And.intro (And.intro (And.intro (@ao9_) (And.intro (@aiE_) (@JI_))) (And.intro (And.intro (@adW_) (@V9_)) (And.intro (@amk_) (@aoq_)))) (And.intro (And.intro (@arE_) (And.intro (@aot_) (@zY_))) (And.intro (And.intro (@aoy_) (@akH_)) (And.intro (@amo_) (@zV_))))))) (And.intro (And.intro (And.intro (And.intro (And.intro (@zX_) (And.intro (@zx_) (@zw_))) (And.intro (@agu_) (And.intro (@VL_) (@ao8_)))) (And.intro (And.intro (@ao7_) (And.intro (@alG_) (@ait_))) (And.intro (And.intro (@aqh_) (@ajN_)) (And.intro (@amY_) (@apz_))))) (And.intro (And.intro (And.intro (@anE_) (And.intro (@aly_) (@alD_))) (And.intro (And.intro (@apk_) (@apu_)) (And.intro (@apr_) (@asg_)))) (And.intro (And.intro (@alr_) (And.intro (@an7_) (@aoj_))) (And.intro (And.intro (@anS_) (@arU_)) (And.intro (@amc_) (@anw_)))))) (And.intro (And.intro (And.intro (And.intro (@aok_) (And.intro (@ajq_) (@alM_))) (And.intro (And.intro (@aph_) (@amt_)) (And.intro (@akn_) (@aq0_)))) (And.intro (And.intro (@aqM_) (And.intro (@arm_) (@aq5_))) (And.intro (And.intro (@arq_) (@apJ_)) (And.intro (@aoL_) (@apq_))))) (And.intro (And.intro (And.intro (@anW_) (And.intro (@anQ_) (@apK_))) (And.intro (And.intro (@anY_) (@anG_)) (And.intro (@aqP_) (@anO_)))) (And.intro (And.intro (@auE_) (And.intro (@atz_) (@atd_))) (And.intro (And.intro (@asA_) (@aoT_)) (And.intro (@akf_) (@aki_)))))))
def S1:=And.intro (And.intro (And.intro (And.intro (And.intro (And.intro (And.intro (And.intro (@aoC_) (@ar8_)) (And.intro (@arQ_) (And.intro (@ath_) (@aqx_)))) (And.intro (And.intro (@atk_) (@Xb_)) (And.intro (@Xe_) (And.intro (@wE_) (@amn_))))) (And.intro (And.intro (And.intro (@ajb_) (@afD_)) (And.intro (@apb_) (And.intro (@adi_) (@apE_)))) (And.intro (And.intro (@aoK_) (@beq_true)) (And.intro (@beq_false) (And.intro (@Bool.not_true) (@Bool.not_false)))))) (And.intro (And.intro (And.intro (And.intro (@Md.next_seq) (@Md.next_any)) (And.intro (@Md.next_qui) (And.intro (@Md.next_sof) (@aeL_)))) (And.intro (And.intro (@ae8_) (@aeE_)) (And.intro (@V6_) (And.intro (@VO_) (@Wa_))))) (And.intro (And.intro (And.intro (@asP_) (@aq6_)) (And.intro (@apA_) (And.intro (@anJ_) (@aoe_)))) (And.intro (And.intro (@atF_) (And.intro (@aqW_) (@arK_))) (And.intro (@aqq_) (And.intro (@arX_) (@arR_))))))) (And.intro (And.intro (And.intro (And.intro (And.intro (@aii_) (@ajQ_)) (And.intro (@ai8_) (And.intro (@ajX_) (@ak9_)))) (And.intro (And.intro (@ajL_) (@ajw_)) (And.intro (@W8_) (And.intro (@ai3_) (@ai4_))))) (And.intro (And.intro (And.intro (@aj2_) (@ai9_)) (And.intro (@ajM_) (And.intro (@aiq_) (@amy_)))) (And.intro (And.intro (@aez_) (And.intro (@Kg_) (@ajr_))) (And.intro (@abe_) (And.intro (@abj_) (@J0_)))))) (And.intro (And.intro (And.intro (And.intro (@JZ_) (@aba_)) (And.intro (@abk_) (And.intro (@aja_) (@V4_)))) (And.intro (And.intro (@Wc_) (@aes_)) (And.intro (@V0_) (And.intro (@VF_) (@af1_))))) (And.intro (And.intro (And.intro (@Vz_) (@VK_)) (And.intro (@afE_) (And.intro (@ae2_) (@afk_)))) (And.intro (And.intro (@agF_) (And.intro (@aeH_) (@aj5_))) (And.intro (@afK_) (And.intro (@afg_) (@agR_)))))))) (And.intro (And.intro (And.intro (And.intro (And.intro (And.intro (@aem_) (@afd_)) (And.intro (@afc_) (And.intro (@agU_) (@aen_)))) (And.intro (And.intro (@agn_) (@ajE_)) (And.intro (@acQ_) (And.intro (@J6_) (@agk_))))) (And.intro (And.intro (And.intro (@Vy_) (@Vs_)) (And.intro (@Qm_) (And.intro (@Qs_) (@Vx_)))) (And.intro (And.intro (@Wd_) (And.intro (@afU_) (@Ku_))) (And.intro (@K8_) (And.intro (@adY_) (@XP_)))))) (And.intro (And.intro (And.intro (And.intro (@Kc_) (@acB_)) (And.intro (@Kt_) (And.intro (@Kh_) (@ac2_)))) (And.intro (And.intro (@aeJ_) (@agl_)) (And.intro (@aet_) (And.intro (@agY_) (@ajJ_))))) (And.intro (And.intro (And.intro (@age_) (@kG_)) (And.intro (@kt_) (And.intro (@afJ_) (@aeS_)))) (And.intro (And.intro (@aey_) (And.intro (@aeA_) (@aex_))) (And.intro (@agZ_) (And.intro (@ai5_) (@abW_))))))) (And.intro (And.intro (And.intro (And.intro (And.intro (@Xd_) (@ag0_)) (And.intro (@VU_) (And.intro (@VX_) (@Qo_)))) (And.intro (And.intro (@QA_) (@We_)) (And.intro (@V8_) (And.intro (@agN_) (@XW_))))) (And.intro (And.intro (And.intro (@KA_) (@aco_)) (And.intro (@Vd_) (And.intro (@Ve_) (@ab4_)))) (And.intro (And.intro (@Vj_) (And.intro (@KX_) (@ach_))) (And.intro (@afl_) (And.intro (@aev_) (@af9_)))))) (And.intro (And.intro (And.intro (And.intro (@afr_) (@ajv_)) (And.intro (@agc_) (And.intro (@agp_) (@afp_)))) (And.intro (And.intro (@afH_) (@aft_)) (And.intro (@afW_) (And.intro (@afx_) (@af6_))))) (And.intro (And.intro (And.intro (@agx_) (@aiy_)) (And.intro (@adh_) (And.intro (@JW_) (@agW_)))) (And.intro (And.intro (@VG_) (And.intro (@VS_) (@Qz_))) (And.intro (@QN_) (And.intro (@V2_) (@Vv_))))))))) (And.intro (And.intro (And.intro (And.intro (And.intro (And.intro (And.intro (@ago_) (@KF_)) (And.intro (@KH_) (And.intro (@acv_) (@Vp_)))) (And.intro (And.intro (@Ki_) (@ado_)) (And.intro (@Vo_) (And.intro (@X1_) (@acs_))))) (And.intro (And.intro (And.intro (@akz_) (@alu_)) (And.intro (@acx_) (And.intro (@ak8_) (@am0_)))) (And.intro (And.intro (@amB_) (And.intro (@amK_) (@alp_))) (And.intro (@akU_) (And.intro (@alS_) (@aln_)))))) (And.intro (And.intro (And.intro (And.intro (@aoF_) (@asI_)) (And.intro (@adB_) (And.intro (@am4_) (@al8_)))) (And.intro (And.intro (@al3_) (@akP_)) (And.intro (@anA_) (And.intro (@and_) (@amf_))))) (And.intro (And.intro (And.intro (@aq9_) (@ans_)) (And.intro (@arN_) (And.intro (@aea_) (@abP_)))) (And.intro (And.intro (@ZI_) (And.intro (@asL_) (@asZ_))) (And.intro (@aoS_) (And.intro (@aiZ_) (@afQ_))))))) (And.intro (And.intro (And.intro (And.intro (And.intro (@ae3_) (@agT_)) (And.intro (@ajz_) (And.intro (@arx_) (@arH_)))) (And.intro (And.intro (@anz_) (@aeq_)) (And.intro (@adt_) (And.intro (@adA_) (@adk_))))) (And.intro (And.intro (And.intro (@agX_) (@arD_)) (And.intro (@arT_) (And.intro (@anb_) (@afZ_)))) (And.intro (And.intro (@acK_) (And.intro (@adf_) (@acC_))) (And.intro (@agJ_) (And.intro (@aqK_) (@arV_)))))) (And.intro (And.intro (And.intro (And.intro (@amM_) (@ael_)) (And.intro (@add_) (And.intro (@ac6_) (@acW_)))) (And.intro (And.intro (@agd_) (@asH_)) (And.intro (@atc_) (And.intro (@aoh_) (@ai0_))))) (And.intro (And.intro (And.intro (@aeP_) (@afm_)) (And.intro (@afP_) (And.intro (@aiO_) (@apx_)))) (And.intro (And.intro (@aol_) (And.intro (@aa0_) (@aqA_))) (And.intro (@ags_) (And.intro (@Qx_) (@xX_)))))))) (And.intro (And.intro (And.intro (And.intro (And.intro (And.intro (@auc_) (@arl_)) (And.intro (@asO_) (And.intro (@asQ_) (@aap_)))) (And.intro (And.intro (@V7_) (@z3_)) (And.intro (@qW_) (And.intro (@xi_) (@xF_))))) (And.intro (And.intro (And.intro (@xr_) (@Jz_)) (And.intro (@aoo_) (And.intro (@apj_) (@akh_)))) (And.intro (And.intro (@aon_) (And.intro (@Vl_) (@aiK_))) (And.intro (@wV_) (And.intro (@ajR_) (@afq_)))))) (And.intro (And.intro (And.intro (And.intro (@anV_) (@ak5_)) (And.intro (@Q1_) (And.intro (@an1_) (@am1_)))) (And.intro (And.intro (@ami_) (@asv_)) (And.intro (@asw_) (And.intro (@Option.map_some.{0,0}) (@Option.map_none.{0,0}))))) (And.intro (And.intro (And.intro (@aaI_) (@aai_)) (And.intro (@Jt_) (And.intro (@aih_) (@aa2_)))) (And.intro (And.intro (@aby_) (And.intro (@aak_) (@apf_))) (And.intro (@ao5_) (And.intro (@or_i) (@auv_))))))) (And.intro (And.intro (And.intro (And.intro (And.intro (@aah_) (@aa3_)) (And.intro (@VI_) (And.intro (@za_) (@List.cons_append.{0})))) (And.intro (And.intro (@List.nil_append.{0}) (@List.contains_cons.{0})) (And.intro (@List.contains_nil.{0}) (And.intro (@Bool.or_false) (@Bool.false_or))))) (And.intro (And.intro (And.intro (@Bool.or_true) (@Bool.true_or)) (And.intro (@Bool.false_eq_true) (And.intro (@abY_) (@Wr_)))) (And.intro (And.intro (@WA_) (And.intro (@ahK_) (@alL_))) (And.intro (@Nat.add_sub_cancel_left) (And.intro (@List.set_set.{0}) (@Int.toNat_natCast)))))) (And.intro (And.intro (And.intro (And.intro (@Nat.mul_one) (@Nat.zero_add)) (And.intro (@Nat.add_zero) (And.intro (@ge_iff_le.{0}) (@gt_iff_lt.{0})))) (And.intro (And.intro (@beq_self_eq_true.{0}) (@aua_)) (And.intro (@at6_) (And.intro (@ao3_) (@apt_))))) (And.intro (And.intro (And.intro (@ata_) (@atE_)) (And.intro (@atm_) (And.intro (@asS_) (@aue_)))) (And.intro (And.intro (@at4_) (And.intro (@aqE_) (@asd_))) (And.intro (@asD_) (And.intro (@arc_) (@ari_)))))))))
end Go.Sx
end
section
open Go Go.Proofs Go.Sx
namespace Go.Proofs
theorem Tryz.ix24:ixT Tryz.prog 24= .sl (false,1):=id (by kernel_rfl)
theorem Tryz.ix23:ixT Tryz.prog 23= .sl (true,6):=id (by kernel_rfl)
theorem Tryz.ix22:ixT Tryz.prog 22= .sl (true,3):=id (by kernel_rfl)
theorem Tryz.ix9:ixT Tryz.prog 9= .str:=id (by kernel_rfl)
theorem Tryz.ix71:ixT Tryz.prog 71= .sl (true,4):=id (by kernel_rfl)
theorem Tryz.ix72:ixT Tryz.prog 72= .sl (false,1):=id (by kernel_rfl)
theorem Tryz.ix93:ixT Tryz.prog 93= .sl (true,5):=id (by kernel_rfl)
theorem Tryz.ix94:ixT Tryz.prog 94= .sl (true,2):=id (by kernel_rfl)
theorem Tryz.ix106:ixT Tryz.prog 106= .sl (true,32):=id (by kernel_rfl)
theorem Tryz.ix131:ixT Tryz.prog 131= .arr 3 (false,1):=id (by kernel_rfl)
theorem Tryz.ix128:ixT Tryz.prog 128= .sl (false,1):=id (by kernel_rfl)
theorem Tryz.ix58:ixT Tryz.prog 58= .sl (true,2):=id (by kernel_rfl)
theorem Tryz.ix57:ixT Tryz.prog 57= .arr 3 (true,3):=id (by kernel_rfl)
theorem Tryz.ix54:ixT Tryz.prog 54= .sl (true,4):=id (by kernel_rfl)
theorem Tryz.ix53:ixT Tryz.prog 53= .sl (true,2):=id (by kernel_rfl)
theorem Tryz.ix84:ixT Tryz.prog 84= .arr 32 (false,1):=id (by kernel_rfl)
theorem Tryz.ix196:ixT Tryz.prog 196= .sl (false,1):=id (by kernel_rfl)
theorem Tryz.ix209:ixT Tryz.prog 209= .arr 4 (false,1):=id (by kernel_rfl)
theorem Tryz.ix218:ixT Tryz.prog 218= .arr 64 (false,1):=id (by kernel_rfl)
theorem Tryz.ix168:ixT Tryz.prog 168= .sl (true,34):=id (by kernel_rfl)
theorem Tryz.ix227:ixT Tryz.prog 227= .arr 8 (false,1):=id (by kernel_rfl)
theorem Tryz.ix200:ixT Tryz.prog 200= .sl (false,1):=id (by kernel_rfl)
theorem Tryz.ix236:ixT Tryz.prog 236= .arr 6 (false,1):=id (by kernel_rfl)
theorem Tryz.ix255:ixT Tryz.prog 255= .arr 8 (false,1):=id (by kernel_rfl)
theorem Tryz.ix256:ixT Tryz.prog 256= .arr 64 (false,1):=id (by kernel_rfl)
theorem Tryz.ix260:ixT Tryz.prog 260= .sl (true,3):=id (by kernel_rfl)
theorem Tryz.ix269:ixT Tryz.prog 269= .arr 4 (false,1):=id (by kernel_rfl)
theorem Tryz.ix294:ixT Tryz.prog 294= .arr 16 (false,1):=id (by kernel_rfl)
theorem Tryz.ix297:ixT Tryz.prog 297= .sl (true,2):=id (by kernel_rfl)
theorem Tryz.ag31:z0_ Tryz.prog 31=some (true,6):=id (by kernel_rfl)
theorem Tryz.ag3:z0_ Tryz.prog 3=some (false,1):=id (by kernel_rfl)
theorem Tryz.ag36:z0_ Tryz.prog 36=some (true,3):=id (by kernel_rfl)
theorem Tryz.ag9:z0_ Tryz.prog 9=some (false,1):=id (by kernel_rfl)
theorem Tryz.ag24:z0_ Tryz.prog 24=some (false,1):=id (by kernel_rfl)
theorem Tryz.ag66:z0_ Tryz.prog 66=some (true,4):=id (by kernel_rfl)
theorem Tryz.ag4:z0_ Tryz.prog 4=some (false,1):=id (by kernel_rfl)
theorem Tryz.ag82:z0_ Tryz.prog 82=some (true,2):=id (by kernel_rfl)
theorem Tryz.ag84:z0_ Tryz.prog 84=some (true,32):=id (by kernel_rfl)
theorem Tryz.ag97:z0_ Tryz.prog 97=some (true,5):=id (by kernel_rfl)
theorem Tryz.ag121:z0_ Tryz.prog 121=some (false,1):=id (by kernel_rfl)
theorem Tryz.ag127:z0_ Tryz.prog 127=some (false,1):=id (by kernel_rfl)
theorem Tryz.ag126:z0_ Tryz.prog 126=some (true,2):=id (by kernel_rfl)
theorem Tryz.ag131:z0_ Tryz.prog 131=some (true,3):=id (by kernel_rfl)
theorem Tryz.ag128:z0_ Tryz.prog 128=some (false,1):=id (by kernel_rfl)
theorem Tryz.ag137:z0_ Tryz.prog 137=some (false,1):=id (by kernel_rfl)
theorem Tryz.ag58:z0_ Tryz.prog 58=some (false,1):=id (by kernel_rfl)
theorem Tryz.ag141:z0_ Tryz.prog 141=some (true,2):=id (by kernel_rfl)
theorem Tryz.ag53:z0_ Tryz.prog 53=some (false,1):=id (by kernel_rfl)
theorem Tryz.ag144:z0_ Tryz.prog 144=some (true,2):=id (by kernel_rfl)
theorem Tryz.ag123:z0_ Tryz.prog 123=some (true,5):=id (by kernel_rfl)
theorem Tryz.ag130:z0_ Tryz.prog 130=some (true,3):=id (by kernel_rfl)
theorem Tryz.ag60:z0_ Tryz.prog 60=some (true,13):=id (by kernel_rfl)
theorem Tryz.ag119:z0_ Tryz.prog 119=some (false,1):=id (by kernel_rfl)
theorem Tryz.ag54:z0_ Tryz.prog 54=some (false,1):=id (by kernel_rfl)
theorem Tryz.ag150:z0_ Tryz.prog 150=some (true,4):=id (by kernel_rfl)
theorem Tryz.ag5:z0_ Tryz.prog 5=some (false,1):=id (by kernel_rfl)
theorem Tryz.ag172:z0_ Tryz.prog 172=some (true,34):=id (by kernel_rfl)
theorem Tryz.ag193:z0_ Tryz.prog 193=some (true,7):=id (by kernel_rfl)
theorem Tryz.ag198:z0_ Tryz.prog 198=some (true,5):=id (by kernel_rfl)
theorem Tryz.ag196:z0_ Tryz.prog 196=some (false,1):=id (by kernel_rfl)
theorem Tryz.ag204:z0_ Tryz.prog 204=some (true,2):=id (by kernel_rfl)
theorem Tryz.ag209:z0_ Tryz.prog 209=some (true,4):=id (by kernel_rfl)
theorem Tryz.ag217:z0_ Tryz.prog 217=some (true,3):=id (by kernel_rfl)
theorem Tryz.ag218:z0_ Tryz.prog 218=some (true,64):=id (by kernel_rfl)
theorem Tryz.ag221:z0_ Tryz.prog 221=some (true,34):=id (by kernel_rfl)
theorem Tryz.ag106:z0_ Tryz.prog 106=some (false,1):=id (by kernel_rfl)
theorem Tryz.ag227:z0_ Tryz.prog 227=some (true,8):=id (by kernel_rfl)
theorem Tryz.ag207:z0_ Tryz.prog 207=some (false,1):=id (by kernel_rfl)
theorem Tryz.ag124:z0_ Tryz.prog 124=some (false,1):=id (by kernel_rfl)
theorem Tryz.ag236:z0_ Tryz.prog 236=some (true,6):=id (by kernel_rfl)
theorem Tryz.ag235:z0_ Tryz.prog 235=some (false,1):=id (by kernel_rfl)
theorem Tryz.ag250:z0_ Tryz.prog 250=some (true,3):=id (by kernel_rfl)
theorem Tryz.ag32:z0_ Tryz.prog 32=some (false,1):=id (by kernel_rfl)
theorem Tryz.ag254:z0_ Tryz.prog 254=some (true,75):=id (by kernel_rfl)
theorem Tryz.ag255:z0_ Tryz.prog 255=some (true,8):=id (by kernel_rfl)
theorem Tryz.ag256:z0_ Tryz.prog 256=some (true,64):=id (by kernel_rfl)
theorem Tryz.ag269:z0_ Tryz.prog 269=some (true,4):=id (by kernel_rfl)
theorem Tryz.ag271:z0_ Tryz.prog 271=some (true,36):=id (by kernel_rfl)
theorem Tryz.ag268:z0_ Tryz.prog 268=some (false,1):=id (by kernel_rfl)
theorem Tryz.ag200:z0_ Tryz.prog 200=some (false,1):=id (by kernel_rfl)
theorem Tryz.ag252:z0_ Tryz.prog 252=some (false,1):=id (by kernel_rfl)
theorem Tryz.ag279:z0_ Tryz.prog 279=some (true,3):=id (by kernel_rfl)
theorem Tryz.ag72:z0_ Tryz.prog 72=some (false,1):=id (by kernel_rfl)
theorem Tryz.ag210:z0_ Tryz.prog 210=some (false,1):=id (by kernel_rfl)
theorem Tryz.ag168:z0_ Tryz.prog 168=some (false,1):=id (by kernel_rfl)
theorem Tryz.ag199:z0_ Tryz.prog 199=some (false,1):=id (by kernel_rfl)
theorem Tryz.ag301:z0_ Tryz.prog 301=some (false,1):=id (by kernel_rfl)
theorem Tryz.ag311:z0_ Tryz.prog 311=some (true,2):=id (by kernel_rfl)
theorem Tryz.ag309:z0_ Tryz.prog 309=some (false,1):=id (by kernel_rfl)
theorem Tryz.ag294:z0_ Tryz.prog 294=some (true,16):=id (by kernel_rfl)
theorem Tryz.zr84:zM_ Tryz.prog 84=some (.agg (a8 (List.replicate 32 0))):=id (by kernel_rfl)
theorem Tryz.zr193:zM_ Tryz.prog 193=some (.agg #[(vs []),(vs []),(vs []),(.bool false),(vi 0),(.bool false),(.bool false)]):=id (by kernel_rfl)
theorem Tryz.zr209:zM_ Tryz.prog 209=some (.agg (a8 (List.replicate 4 0))):=id (by kernel_rfl)
theorem Tryz.zr218:zM_ Tryz.prog 218=some (.agg (a8 (List.replicate 64 0))):=id (by kernel_rfl)
theorem Tryz.zr227:zM_ Tryz.prog 227=some (.agg (a32 (List.replicate 8 0))):=id (by kernel_rfl)
theorem Tryz.zr5:zM_ Tryz.prog 5=some (v8 0):=id (by kernel_rfl)
theorem Tryz.zr236:zM_ Tryz.prog 236=some (.agg #[.nilFunc, .nilFunc, .nilFunc, .nilFunc, .nilFunc, .nilFunc]):=id (by kernel_rfl)
theorem Tryz.zr255:zM_ Tryz.prog 255=some (.agg (a8 (List.replicate 8 0))):=id (by kernel_rfl)
theorem Tryz.zr256:zM_ Tryz.prog 256=some (.agg (a32 (List.replicate 64 0))):=id (by kernel_rfl)
theorem Tryz.fl31_0:qG_ Tryz.prog 31 0=some (0,(false,1)):=id (by kernel_rfl)
theorem Tryz.fl36_0:qG_ Tryz.prog 36 0=some (0,(false,1)):=id (by kernel_rfl)
theorem Tryz.fl36_1:qG_ Tryz.prog 36 1=some (1,(false,1)):=id (by kernel_rfl)
theorem Tryz.fl31_2:qG_ Tryz.prog 31 2=some (2,(false,1)):=id (by kernel_rfl)
theorem Tryz.fl31_3:qG_ Tryz.prog 31 3=some (3,(false,1)):=id (by kernel_rfl)
theorem Tryz.fl31_4:qG_ Tryz.prog 31 4=some (4,(false,1)):=id (by kernel_rfl)
theorem Tryz.fl36_2:qG_ Tryz.prog 36 2=some (2,(false,1)):=id (by kernel_rfl)
theorem Tryz.fl31_1:qG_ Tryz.prog 31 1=some (1,(false,1)):=id (by kernel_rfl)
theorem Tryz.fl31_5:qG_ Tryz.prog 31 5=some (5,(false,1)):=id (by kernel_rfl)
theorem Tryz.fl60_2:qG_ Tryz.prog 60 2=some (10,(false,1)):=id (by kernel_rfl)
theorem Tryz.fl66_0:qG_ Tryz.prog 66 0=some (0,(false,1)):=id (by kernel_rfl)
theorem Tryz.fl66_1:qG_ Tryz.prog 66 1=some (1,(false,1)):=id (by kernel_rfl)
theorem Tryz.fl66_2:qG_ Tryz.prog 66 2=some (2,(false,1)):=id (by kernel_rfl)
theorem Tryz.fl66_3:qG_ Tryz.prog 66 3=some (3,(false,1)):=id (by kernel_rfl)
theorem Tryz.fl82_1:qG_ Tryz.prog 82 1=some (1,(false,1)):=id (by kernel_rfl)
theorem Tryz.fl97_2:qG_ Tryz.prog 97 2=some (2,(true,2)):=id (by kernel_rfl)
theorem Tryz.fl97_0:qG_ Tryz.prog 97 0=some (0,(false,1)):=id (by kernel_rfl)
theorem Tryz.fl97_1:qG_ Tryz.prog 97 1=some (1,(false,1)):=id (by kernel_rfl)
theorem Tryz.fl97_3:qG_ Tryz.prog 97 3=some (4,(false,1)):=id (by kernel_rfl)
theorem Tryz.fl123_0:qG_ Tryz.prog 123 0=some (0,(false,1)):=id (by kernel_rfl)
theorem Tryz.fl130_0:qG_ Tryz.prog 130 0=some (0,(false,1)):=id (by kernel_rfl)
theorem Tryz.fl126_0:qG_ Tryz.prog 126 0=some (0,(false,1)):=id (by kernel_rfl)
theorem Tryz.fl126_1:qG_ Tryz.prog 126 1=some (1,(false,1)):=id (by kernel_rfl)
theorem Tryz.fl130_2:qG_ Tryz.prog 130 2=some (2,(false,1)):=id (by kernel_rfl)
theorem Tryz.fl130_1:qG_ Tryz.prog 130 1=some (1,(false,1)):=id (by kernel_rfl)
theorem Tryz.fl123_4:qG_ Tryz.prog 123 4=some (4,(false,1)):=id (by kernel_rfl)
theorem Tryz.fl123_3:qG_ Tryz.prog 123 3=some (3,(false,1)):=id (by kernel_rfl)
theorem Tryz.fl60_1:qG_ Tryz.prog 60 1=some (9,(false,1)):=id (by kernel_rfl)
theorem Tryz.fl60_0:qG_ Tryz.prog 60 0=some (0,(true,9)):=id (by kernel_rfl)
theorem Tryz.fl56_0:qG_ Tryz.prog 56 0=some (0,(false,1)):=id (by kernel_rfl)
theorem Tryz.fl56_1:qG_ Tryz.prog 56 1=some (1,(false,1)):=id (by kernel_rfl)
theorem Tryz.fl60_4:qG_ Tryz.prog 60 4=some (12,(false,1)):=id (by kernel_rfl)
theorem Tryz.fl60_3:qG_ Tryz.prog 60 3=some (11,(false,1)):=id (by kernel_rfl)
theorem Tryz.fl56_2:qG_ Tryz.prog 56 2=some (2,(false,1)):=id (by kernel_rfl)
theorem Tryz.fl144_1:qG_ Tryz.prog 144 1=some (1,(false,1)):=id (by kernel_rfl)
theorem Tryz.fl141_0:qG_ Tryz.prog 141 0=some (0,(false,1)):=id (by kernel_rfl)
theorem Tryz.fl141_1:qG_ Tryz.prog 141 1=some (1,(false,1)):=id (by kernel_rfl)
theorem Tryz.fl150_0:qG_ Tryz.prog 150 0=some (0,(false,1)):=id (by kernel_rfl)
theorem Tryz.fl150_3:qG_ Tryz.prog 150 3=some (3,(false,1)):=id (by kernel_rfl)
theorem Tryz.fl123_2:qG_ Tryz.prog 123 2=some (2,(false,1)):=id (by kernel_rfl)
theorem Tryz.fl82_0:qG_ Tryz.prog 82 0=some (0,(false,1)):=id (by kernel_rfl)
theorem Tryz.fl144_0:qG_ Tryz.prog 144 0=some (0,(false,1)):=id (by kernel_rfl)
theorem Tryz.fl123_1:qG_ Tryz.prog 123 1=some (1,(false,1)):=id (by kernel_rfl)
theorem Tryz.fl150_1:qG_ Tryz.prog 150 1=some (1,(false,1)):=id (by kernel_rfl)
theorem Tryz.fl150_2:qG_ Tryz.prog 150 2=some (2,(false,1)):=id (by kernel_rfl)
theorem Tryz.fl198_3:qG_ Tryz.prog 198 3=some (3,(false,1)):=id (by kernel_rfl)
theorem Tryz.fl217_2:qG_ Tryz.prog 217 2=some (2,(false,1)):=id (by kernel_rfl)
theorem Tryz.fl217_1:qG_ Tryz.prog 217 1=some (1,(false,1)):=id (by kernel_rfl)
theorem Tryz.fl221_1:qG_ Tryz.prog 221 1=some (1,(false,1)):=id (by kernel_rfl)
theorem Tryz.fl221_0:qG_ Tryz.prog 221 0=some (0,(false,1)):=id (by kernel_rfl)
theorem Tryz.fl221_2:qG_ Tryz.prog 221 2=some (2,(true,32)):=id (by kernel_rfl)
theorem Tryz.fl172_0:qG_ Tryz.prog 172 0=some (0,(true,32)):=id (by kernel_rfl)
theorem Tryz.fl172_1:qG_ Tryz.prog 172 1=some (32,(false,1)):=id (by kernel_rfl)
theorem Tryz.fl172_2:qG_ Tryz.prog 172 2=some (33,(false,1)):=id (by kernel_rfl)
theorem Tryz.fl193_4:qG_ Tryz.prog 193 4=some (4,(false,1)):=id (by kernel_rfl)
theorem Tryz.fl193_3:qG_ Tryz.prog 193 3=some (3,(false,1)):=id (by kernel_rfl)
theorem Tryz.fl193_6:qG_ Tryz.prog 193 6=some (6,(false,1)):=id (by kernel_rfl)
theorem Tryz.fl193_5:qG_ Tryz.prog 193 5=some (5,(false,1)):=id (by kernel_rfl)
theorem Tryz.fl193_0:qG_ Tryz.prog 193 0=some (0,(false,1)):=id (by kernel_rfl)
theorem Tryz.fl193_1:qG_ Tryz.prog 193 1=some (1,(false,1)):=id (by kernel_rfl)
theorem Tryz.fl198_1:qG_ Tryz.prog 198 1=some (1,(false,1)):=id (by kernel_rfl)
theorem Tryz.fl198_0:qG_ Tryz.prog 198 0=some (0,(false,1)):=id (by kernel_rfl)
theorem Tryz.fl198_4:qG_ Tryz.prog 198 4=some (4,(false,1)):=id (by kernel_rfl)
theorem Tryz.fl198_2:qG_ Tryz.prog 198 2=some (2,(false,1)):=id (by kernel_rfl)
theorem Tryz.fl204_0:qG_ Tryz.prog 204 0=some (0,(true,2)):=id (by kernel_rfl)
theorem Tryz.fl250_1:qG_ Tryz.prog 250 1=some (1,(false,1)):=id (by kernel_rfl)
theorem Tryz.fl250_0:qG_ Tryz.prog 250 0=some (0,(false,1)):=id (by kernel_rfl)
theorem Tryz.fl250_2:qG_ Tryz.prog 250 2=some (2,(false,1)):=id (by kernel_rfl)
theorem Tryz.fl217_0:qG_ Tryz.prog 217 0=some (0,(false,1)):=id (by kernel_rfl)
theorem Tryz.fl202_1:qG_ Tryz.prog 202 1=some (1,(false,1)):=id (by kernel_rfl)
theorem Tryz.fl254_4:qG_ Tryz.prog 254 4=some (74,(false,1)):=id (by kernel_rfl)
theorem Tryz.fl254_3:qG_ Tryz.prog 254 3=some (73,(false,1)):=id (by kernel_rfl)
theorem Tryz.fl254_1:qG_ Tryz.prog 254 1=some (1,(true,8)):=id (by kernel_rfl)
theorem Tryz.fl279_0:qG_ Tryz.prog 279 0=some (0,(false,1)):=id (by kernel_rfl)
theorem Tryz.fl279_1:qG_ Tryz.prog 279 1=some (1,(false,1)):=id (by kernel_rfl)
theorem Tryz.fl279_2:qG_ Tryz.prog 279 2=some (2,(false,1)):=id (by kernel_rfl)
theorem Tryz.fl193_2:qG_ Tryz.prog 193 2=some (2,(false,1)):=id (by kernel_rfl)
theorem Tryz.fl271_0:qG_ Tryz.prog 271 0=some (0,(false,1)):=id (by kernel_rfl)
theorem Tryz.fl271_1:qG_ Tryz.prog 271 1=some (1,(false,1)):=id (by kernel_rfl)
theorem Tryz.fl271_2:qG_ Tryz.prog 271 2=some (2,(true,34)):=id (by kernel_rfl)
theorem Tryz.fl202_0:qG_ Tryz.prog 202 0=some (0,(false,1)):=id (by kernel_rfl)
theorem Tryz.fl254_0:qG_ Tryz.prog 254 0=some (0,(false,1)):=id (by kernel_rfl)
theorem Tryz.fl254_2:qG_ Tryz.prog 254 2=some (9,(true,64)):=id (by kernel_rfl)
theorem Tryz.fl311_0:qG_ Tryz.prog 311 0=some (0,(false,1)):=id (by kernel_rfl)
theorem Tryz.fl311_1:qG_ Tryz.prog 311 1=some (1,(false,1)):=id (by kernel_rfl)
theorem Tryz.cv5_3:cvT Tryz.prog 5 3= .int .i64:=id (by kernel_rfl)
theorem Tryz.cv3_5:cvT Tryz.prog 3 5= .int .u8:=id (by kernel_rfl)
theorem Tryz.cv119_3:cvT Tryz.prog 119 3= .int .i64:=id (by kernel_rfl)
theorem Tryz.cv207_5:cvT Tryz.prog 207 5= .int .u8:=id (by kernel_rfl)
theorem Tryz.cv200_9:cvT Tryz.prog 200 9= .bytesStr:=id (by kernel_rfl)
theorem Tryz.cv3_219:cvT Tryz.prog 3 219= .int .u64:=id (by kernel_rfl)
theorem Tryz.cv3_252:cvT Tryz.prog 3 252= .int .u64:=id (by kernel_rfl)
theorem Tryz.cv252_5:cvT Tryz.prog 252 5= .int .u8:=id (by kernel_rfl)
theorem Tryz.cv5_207:cvT Tryz.prog 5 207= .int .u32:=id (by kernel_rfl)
theorem Tryz.cv219_207:cvT Tryz.prog 219 207= .int .u32:=id (by kernel_rfl)
theorem Tryz.cv199_292:cvT Tryz.prog 199 292= .no:=id (by kernel_rfl)
theorem Tryz.cv292_199:cvT Tryz.prog 292 199= .no:=id (by kernel_rfl)
theorem Tryz.cv3_301:cvT Tryz.prog 3 301= .int .u64:=id (by kernel_rfl)
theorem Tryz.cv219_3:cvT Tryz.prog 219 3= .int .i64:=id (by kernel_rfl)
theorem Tryz.cv3_312:cvT Tryz.prog 3 312= .no:=id (by kernel_rfl)
theorem Tryz.cv312_3:cvT Tryz.prog 312 3= .no:=id (by kernel_rfl)
set_option linter.defProp false
def Tryz.fx:=And.intro (And.intro (And.intro (And.intro (And.intro (And.intro (And.intro (@Tryz.ix24) (@Tryz.ix23)) (And.intro (@Tryz.ix22) (And.intro (@Tryz.ix9) (@Tryz.ix71)))) (And.intro (And.intro (@Tryz.ix72) (And.intro (@Tryz.ix93) (@Tryz.ix94))) (And.intro (@Tryz.ix106) (And.intro (@Tryz.ix131) (@Tryz.ix128))))) (And.intro (And.intro (And.intro (@Tryz.ix58) (And.intro (@Tryz.ix57) (@Tryz.ix54))) (And.intro (@Tryz.ix53) (And.intro (@Tryz.ix84) (@Tryz.ix196)))) (And.intro (And.intro (@Tryz.ix209) (And.intro (@Tryz.ix218) (@Tryz.ix168))) (And.intro (@Tryz.ix227) (And.intro (@Tryz.ix200) (@Tryz.ix236)))))) (And.intro (And.intro (And.intro (And.intro (@Tryz.ix255) (And.intro (@Tryz.ix256) (@Tryz.ix260))) (And.intro (@Tryz.ix269) (And.intro (@Tryz.ix294) (@Tryz.ix297)))) (And.intro (And.intro (@Tryz.ag31) (And.intro (@Tryz.ag3) (@Tryz.ag36))) (And.intro (@Tryz.ag9) (And.intro (@Tryz.ag24) (@Tryz.ag66))))) (And.intro (And.intro (And.intro (@Tryz.ag4) (And.intro (@Tryz.ag82) (@Tryz.ag84))) (And.intro (@Tryz.ag97) (And.intro (@Tryz.ag121) (@Tryz.ag127)))) (And.intro (And.intro (@Tryz.ag126) (And.intro (@Tryz.ag131) (@Tryz.ag128))) (And.intro (@Tryz.ag137) (And.intro (@Tryz.ag58) (@Tryz.ag141))))))) (And.intro (And.intro (And.intro (And.intro (And.intro (@Tryz.ag53) (And.intro (@Tryz.ag144) (@Tryz.ag123))) (And.intro (@Tryz.ag130) (And.intro (@Tryz.ag60) (@Tryz.ag119)))) (And.intro (And.intro (@Tryz.ag54) (And.intro (@Tryz.ag150) (@Tryz.ag5))) (And.intro (@Tryz.ag172) (And.intro (@Tryz.ag193) (@Tryz.ag198))))) (And.intro (And.intro (And.intro (@Tryz.ag196) (And.intro (@Tryz.ag204) (@Tryz.ag209))) (And.intro (@Tryz.ag217) (And.intro (@Tryz.ag218) (@Tryz.ag221)))) (And.intro (And.intro (@Tryz.ag106) (And.intro (@Tryz.ag227) (@Tryz.ag207))) (And.intro (@Tryz.ag124) (And.intro (@Tryz.ag236) (@Tryz.ag235)))))) (And.intro (And.intro (And.intro (And.intro (@Tryz.ag250) (And.intro (@Tryz.ag32) (@Tryz.ag254))) (And.intro (@Tryz.ag255) (And.intro (@Tryz.ag256) (@Tryz.ag269)))) (And.intro (And.intro (@Tryz.ag271) (And.intro (@Tryz.ag268) (@Tryz.ag200))) (And.intro (@Tryz.ag252) (And.intro (@Tryz.ag279) (@Tryz.ag72))))) (And.intro (And.intro (And.intro (@Tryz.ag210) (And.intro (@Tryz.ag168) (@Tryz.ag199))) (And.intro (@Tryz.ag301) (And.intro (@Tryz.ag311) (@Tryz.ag309)))) (And.intro (And.intro (@Tryz.ag294) (And.intro (@Tryz.fl31_0) (@Tryz.fl36_0))) (And.intro (@Tryz.fl36_1) (And.intro (@Tryz.fl31_2) (@Tryz.fl31_3)))))))) (And.intro (And.intro (And.intro (And.intro (And.intro (And.intro (@Tryz.fl31_4) (And.intro (@Tryz.fl36_2) (@Tryz.fl31_1))) (And.intro (@Tryz.fl31_5) (And.intro (@Tryz.fl60_2) (@Tryz.fl66_0)))) (And.intro (And.intro (@Tryz.fl66_1) (And.intro (@Tryz.fl66_2) (@Tryz.fl66_3))) (And.intro (@Tryz.fl82_1) (And.intro (@Tryz.fl97_2) (@Tryz.fl97_0))))) (And.intro (And.intro (And.intro (@Tryz.fl97_1) (And.intro (@Tryz.fl97_3) (@Tryz.fl123_0))) (And.intro (@Tryz.fl130_0) (And.intro (@Tryz.fl126_0) (@Tryz.fl126_1)))) (And.intro (And.intro (@Tryz.fl130_2) (And.intro (@Tryz.fl130_1) (@Tryz.fl123_4))) (And.intro (@Tryz.fl123_3) (And.intro (@Tryz.fl60_1) (@Tryz.fl60_0)))))) (And.intro (And.intro (And.intro (And.intro (@Tryz.fl56_0) (And.intro (@Tryz.fl56_1) (@Tryz.fl60_4))) (And.intro (@Tryz.fl60_3) (And.intro (@Tryz.fl56_2) (@Tryz.fl144_1)))) (And.intro (And.intro (@Tryz.fl141_0) (And.intro (@Tryz.fl141_1) (@Tryz.fl150_0))) (And.intro (@Tryz.fl150_3) (And.intro (@Tryz.fl123_2) (@Tryz.fl82_0))))) (And.intro (And.intro (And.intro (@Tryz.fl144_0) (And.intro (@Tryz.fl123_1) (@Tryz.fl150_1))) (And.intro (@Tryz.fl150_2) (And.intro (@Tryz.fl198_3) (@Tryz.fl217_2)))) (And.intro (And.intro (@Tryz.fl217_1) (And.intro (@Tryz.fl221_1) (@Tryz.fl221_0))) (And.intro (@Tryz.fl221_2) (And.intro (@Tryz.fl172_0) (@Tryz.fl172_1))))))) (And.intro (And.intro (And.intro (And.intro (And.intro (@Tryz.fl172_2) (And.intro (@Tryz.fl193_4) (@Tryz.fl193_3))) (And.intro (@Tryz.fl193_6) (And.intro (@Tryz.fl193_5) (@Tryz.fl193_0)))) (And.intro (And.intro (@Tryz.fl193_1) (And.intro (@Tryz.fl198_1) (@Tryz.fl198_0))) (And.intro (@Tryz.fl198_4) (And.intro (@Tryz.fl198_2) (@Tryz.fl204_0))))) (And.intro (And.intro (And.intro (@Tryz.fl250_1) (And.intro (@Tryz.fl250_0) (@Tryz.fl250_2))) (And.intro (@Tryz.fl217_0) (And.intro (@Tryz.fl202_1) (@Tryz.fl254_4)))) (And.intro (And.intro (@Tryz.fl254_3) (And.intro (@Tryz.fl254_1) (@Tryz.fl279_0))) (And.intro (@Tryz.fl279_1) (And.intro (@Tryz.fl279_2) (@Tryz.fl193_2)))))) (And.intro (And.intro (And.intro (And.intro (@Tryz.fl271_0) (And.intro (@Tryz.fl271_1) (@Tryz.fl271_2))) (And.intro (@Tryz.fl202_0) (And.intro (@Tryz.fl254_0) (@Tryz.fl254_2)))) (And.intro (And.intro (@Tryz.fl311_0) (And.intro (@Tryz.fl311_1) (@Tryz.cv5_3))) (And.intro (@Tryz.cv3_5) (And.intro (@Tryz.cv119_3) (@Tryz.cv207_5))))) (And.intro (And.intro (And.intro (@Tryz.cv200_9) (And.intro (@Tryz.cv3_219) (@Tryz.cv3_252))) (And.intro (@Tryz.cv252_5) (And.intro (@Tryz.cv5_207) (@Tryz.cv219_207)))) (And.intro (And.intro (@Tryz.cv199_292) (And.intro (@Tryz.cv292_199) (@Tryz.cv3_301))) (And.intro (@Tryz.cv219_3) (And.intro (@Tryz.cv3_312) (@Tryz.cv312_3))))))))
theorem kp {X A G:Prop} (x:X) (h:G) (e:X→A=G:=by intro x;(try simp(disch:=(first|assumption|omega| (simp only[kK_,kw_,UInt64.reduceToNat];try omega))) only[↓Sx.S0,Sx.S1,Tryz.fx,Nat.reduceAdd,Nat.reducePow,Int.reducePow,Nat.reduceBEq, ↓reduceIte,UInt8.reduceToNat,UInt16.reduceToNat,UInt32.reduceToNat,UInt64.reduceToNat,Int.reduceToNat,x]);exact rfl):A:=(e x).mpr h
section
variable {P:Program} {w0:World} {f:Fr} {L:zb_} {K:kg_} {N:Fr→zb_→Prop} {ops:Array Oper} {md:Md} {l:List Oper} {X G:Prop}
theorem ks {c:Code} (z:List Nat) [Sx.Steps c] (x:X) (h:G) (e:X→vcC P w0 z c f L (bsK K)=G:=by intro x;(try simp(disch:=(first|assumption|omega| (simp only[kK_,kw_,UInt64.reduceToNat];try omega))) only[↓Sx.S0,Sx.S1,Tryz.fx,Nat.reduceAdd,Nat.reducePow,Int.reducePow,Nat.reduceBEq, ↓reduceIte,UInt8.reduceToNat,UInt16.reduceToNat,UInt32.reduceToNat,UInt64.reduceToNat,Int.reduceToNat,x]);exact rfl):Cw P w0 c f L K:=Cw.go z ((e x).mpr h)
theorem ko (x:X) (h:G) (e:X→vcL P w0 ops true md l f L (owk P w0 ops (bsN N))=G:=by intro x;(try simp(disch:=(first|assumption|omega| (simp only[kK_,kw_,UInt64.reduceToNat];try omega))) only[↓Sx.S0,Sx.S1,Tryz.fx,Nat.reduceAdd,Nat.reducePow,Int.reducePow,Nat.reduceBEq, ↓reduceIte,UInt8.reduceToNat,UInt16.reduceToNat,UInt32.reduceToNat,UInt64.reduceToNat,Int.reduceToNat,x]);exact rfl) (he:md.eff=true:=by rfl):Ow P w0 ops md l f L N:=Ow.go he ((e x).mpr h)
theorem kq (x:X) (h:G) (e:X→vcL P w0 ops false md l f L (owk P w0 ops (bsN N))=G:=by intro x;(try simp(disch:=(first|assumption|omega| (simp only[kK_,kw_,UInt64.reduceToNat];try omega))) only[↓Sx.S0,Sx.S1,Tryz.fx,Nat.reduceAdd,Nat.reducePow,Int.reducePow,Nat.reduceBEq, ↓reduceIte,UInt8.reduceToNat,UInt16.reduceToNat,UInt32.reduceToNat,UInt64.reduceToNat,Int.reduceToNat,x]);exact rfl):Ow P w0 ops md l f L N:=Ow.goQ ((e x).mpr h)
end
theorem ke {α:Type} {X:Prop} {a b:α} (x:X) (e:X→a=b:=by intro x;(try simp(disch:=(first|assumption|omega| (simp only[kK_,kw_,UInt64.reduceToNat];try omega))) only[↓Sx.S0,Sx.S1,Tryz.fx,Nat.reduceAdd,Nat.reducePow,Int.reducePow,Nat.reduceBEq, ↓reduceIte,UInt8.reduceToNat,UInt16.reduceToNat,UInt32.reduceToNat,UInt64.reduceToNat,Int.reduceToNat,x]);exact rfl):a=b:=e x
theorem kn {A G:Prop} (h:G) (e:A=G:=by(try simp(disch:=(first|assumption|omega| (simp only[kK_,kw_,UInt64.reduceToNat];try omega))) only[xi_,xF_,List.cons_append,List.nil_append]);exact rfl):A:=e.mpr h
theorem kf {A G:Prop} (h:G) (e:A=G:=by simp only[List.size_toArray,List.length_cons,List.length_nil,Nat.reduceAdd,Nat.reduceSub,List.replicate_succ,List.replicate_zero,List.cons_append,List.nil_append];exact rfl):A:=e.mpr h
theorem kv {A G:Prop} (h:G) (e:A=G:=by simp only[qS_,pin,Xb_,Xe_,List.contains_cons,List.contains_nil,Nat.reduceBEq,Bool.or_false,Bool.false_or,Bool.or_true,Bool.true_or,Nat.reduceAdd, ↓reduceIte,Bool.false_eq_true];exact rfl):A:=e.mpr h
set_option maxRecDepth 10000
set_option maxHeartbeats 1000000
set_option linter.unusedSimpArgs false
theorem XX_ (p v:Value) (E:TypeId) (n:Nat):zt_ (some (false,n)) (some (.cells #[p,v] E (0,0))) 0=some p:=(rfl)
theorem XU_ (p v:Value) (E:TypeId) (n:Nat):zt_ (some (false,n)) (some (.cells #[p,v] E (0,0))) 1=some v:=(rfl)
theorem aos_ (p v x:Value) (E:TypeId) (hx:Value.oneCell' x=true∧x.cells= #[x]):zv_ (some (false,1)) (some (.cells #[p,v] E (0,0))) 0 x=some (.cells #[x,v] E (0,0)):=by
 simp[zv_,hx,Jf_]
theorem ahL_ (p v x:Value) (E:TypeId) (hx:Value.oneCell' x=true∧x.cells= #[x]):zv_ (some (false,1)) (some (.cells #[p,v] E (0,0))) 1 x=some (.cells #[p,x] E (0,0)):=by
 simp[zv_,hx,Jf_]
theorem XM_ (p v:Value) (b o:Nat) (E:TypeId):zv_ (some (false,1)) (some (.cells #[p,v] E (0,0))) 0 (vp b o)=some (.cells #[vp b o,v] E (0,0)):=aos_ _ _ _ _ ⟨rfl,rfl⟩
theorem nilB (b o:Nat):qI_ Tryz.prog .eql 199 (vp b o) (.pointer none)=some (.bool false):=by
 simp[qI_,eqX,qz_,qq_,Tryz.underlying199,vp]
theorem art_:qI_ Tryz.prog .eql 199 (.pointer none) (.pointer none)=some (.bool true):=by
 simp[qI_,eqX,qz_,qq_,Tryz.underlying199]
set_option linter.defProp false
def Z6_:=And.intro (And.intro (@XX_) (@XU_)) (And.intro (@XM_) (And.intro (@nilB) (@art_)))
theorem aud_:liesAt Tryz.prog Tryz.prog.depth 204 ((#[Value.pointer none,Value.pointer none]:Array Value).size / Tryz.prog.cellsOf 204) 0 202 1=true:=id (by kernel_rfl)
theorem aggB:z0_ Tryz.prog 202=some (true,2):=id (by kernel_rfl)
theorem apG_ (x:Value) (w:World): (callFunc 230 #[x]).run Tryz.prog w= .ok (.value x) w:=by kernel_rfl
theorem ZG_ (b:Nat) (p v:Value) (w:World) (hp:p= .pointer none∨p=vp b 0) (ho:w.heap[b]? =some (.cells #[p,v] 204 (0,0))):
  Rets Tryz.prog 204 #[vp b 0] w (fun v' D=> ∃o,D= [(b,o)]∧v'= .tuple #[]∧o= .cells #[vp b 0,v] 204 (0,0)):=by
 refine Rets.enterM Tryz.func204 rfl (rs:= []) Tryz.results204 Tryz.ntmps204 ho ?_
 refine kf ?_
 rcases hp with rfl|rfl
 ·first|with_reducible refine ks [] @Z6_ ?_|refine kp @Z6_ ?_
  refine Ow.toUnsafe rfl rfl (by kernel_rfl) rfl (ze_ (z3_ _ _ _)) (by simp) aggB (by decide) Tryz.underlying199 Tryz.underlying292 ?_
  refine Ow.callExt (v:=vp b 0) rfl rfl (fun w=>apG_ _ w) ?_
  refine Ow.ofUnsafe rfl rfl (by kernel_rfl) rfl (ze_ (z3_ _ _ _)) aggB aud_ Tryz.underlying292 Tryz.underlying199 ?_
  refine ko @Z6_ ?_
  first|with_reducible refine ks [] @Z6_ ?_|refine kp @Z6_ ?_
  refine⟨_,_,_,(ke @Z6_),rfl,trivial, ?_⟩
  exact⟨rfl,rfl⟩
 ·first|with_reducible refine ks [2] @Z6_ ?_|refine kp @Z6_ ?_
  refine Cw.region ?_
  refine Ow.value rfl rfl rfl ?_
  refine Ow.value (v:=vp b 0) rfl rfl (by simp(disch:=(first|assumption|omega| (simp only[kK_,kw_,UInt64.reduceToNat];try omega))) only[↓Sx.S0,Sx.S1,Tryz.fx,Z6_,Nat.reduceAdd,Nat.reducePow,Int.reducePow,Nat.reduceBEq, ↓reduceIte,UInt8.reduceToNat,UInt16.reduceToNat,UInt32.reduceToNat,UInt64.reduceToNat,Int.reduceToNat,k4_]) ?_
  refine Ow.value (v:=vp b 0) rfl rfl (by simp(disch:=(first|assumption|omega| (simp only[kK_,kw_,UInt64.reduceToNat];try omega))) only[↓Sx.S0,Sx.S1,Tryz.fx,Z6_,Nat.reduceAdd,Nat.reducePow,Int.reducePow,Nat.reduceBEq, ↓reduceIte,UInt8.reduceToNat,UInt16.reduceToNat,UInt32.reduceToNat,UInt64.reduceToNat,Int.reduceToNat,k4_]) ?_
  refine Ow.value (v:=vp b 0) rfl rfl (by simp(disch:=(first|assumption|omega| (simp only[kK_,kw_,UInt64.reduceToNat];try omega))) only[↓Sx.S0,Sx.S1,Tryz.fx,Z6_,Nat.reduceAdd,Nat.reducePow,Int.reducePow,Nat.reduceBEq, ↓reduceIte,UInt8.reduceToNat,UInt16.reduceToNat,UInt32.reduceToNat,UInt64.reduceToNat,Int.reduceToNat,k4_]) ?_
  refine Ow.value rfl rfl rfl ?_
  refine Ow.neqSame rfl Tryz.underlying199 aggB rfl rfl ?_
  refine ko @Z6_ ?_
  first|with_reducible refine ks [] @Z6_ ?_|refine kp @Z6_ ?_
  refine⟨_,_,_,(ke @Z6_),rfl,trivial, ?_⟩
  exact⟨rfl,rfl⟩
end Go.Proofs
end
section
open Go Go.Proofs Go.Sx
namespace Go.Proofs
set_option maxRecDepth 10000
set_option maxHeartbeats 1000000
set_option linter.unusedSimpArgs false
set_option linter.defProp false
def VY_:=And.intro (And.intro (@XX_) (@XU_)) (And.intro (@XM_) (And.intro (@nilB) (@art_)))
def BldAt (b:Nat) (l:List UInt8) (X:zb_):Prop:=
 ∃p v,Sx.look X b=some (.cells #[p,v] 204 (0,0))∧(p= .pointer none∨p=vp b 0)∧Buf X 5 1 v l.length (l.map v8)∧slB v≠some b
theorem ZH_ (b:Nat) (X:zb_) (l:List UInt8) (c:UInt8) (w:World) (hB:BldAt b l X) (hX: ∀p,p∈X→w.heap[p.1]? =some p.2) (hn: (keys X).Nodup) (hl:l.length<34359738368):
  Rets Tryz.prog 205 #[vp b 0,v8 c] w (XS w X (fun v D=>v= .nilIface∧BldAt b (l++ [c]) D)):=by
 obtain⟨p,v,hlk,hp,hb,hsl⟩:=hB
 refine Rets.enterX Tryz.func205 rfl (rs:= [.tmp 4]) Tryz.results205 Tryz.ntmps205 hX hn ?_
 refine kf ?_
 first|with_reducible refine ks [] @VY_ ?_|refine kp @VY_ ?_
 refine Ow.callM rfl rfl Tryz.call204 (zh_ hlk) (fun w' hw'=>ZG_ b p v w' hp (hw'.has _ _ (zy_ hlk))) ?_
 have lk1:=qa_ (x:= .cells #[vp b 0,v] 204 (0,0)) hlk
 have rd1:=ze_ (w0:=w) lk1
 have hb1:Buf (setB X b (.cells #[vp b 0,v] 204 (0,0))) 5 1 v l.length (l.map v8):=hb.setO hsl
 have kx:Ext w X (setB X b (.cells #[vp b 0,v] 204 (0,0))):=(Ext.refl w X).setB
 generalize setB X b (.cells #[vp b 0,v] 204 (0,0))=X1 at*
 refine ko @VY_ ?_
 first|with_reducible refine ks [] (And.intro @VY_ @rd1) ?_|refine kp (And.intro @VY_ @rd1) ?_
 refine Ow.buildSlice (e:=5) #[v8 c] rfl rfl (by kernel_rfl) fun b3 hb3 hw3=> ?_
 have lk3:Sx.look (X1++ [(b3, .cells #[v8 c] 5 (0,0))]) b3=some (.cells #[v8 c] 5 (0,0)):=xM_ hb3
 have hb2:Buf (X1++ [(b3, .cells #[v8 c] 5 (0,0))]) 5 1 v l.length (l.map v8):=hb1.app
 refine ko @VY_ ?_
 refine Ow.append (e:=5) _ rfl rfl rfl Tryz.underlying200 Tryz.ag5 (by kernel_rfl) Tryz.zr5 (by kernel_rfl) Tryz.underlying200 (by intro k h;cases h) hb2 (fun w' hw'=>AppX.block (k:=1) (new:= [v8 c]) (ze_ lk3) (by simp) (by simp) rfl hw') (by omega) (fun v2 L2 hB2 hG2 hS2=> ?_)
 have lk2:Sx.look L2 b=some (.cells #[vp b 0,v] 204 (0,0)):=hG2.look b _ hsl (zk_ lk1)
 have st2:zv_ (some (false,1)) (some (.cells #[vp b 0,v] 204 (0,0))) 1 v2=some (.cells #[vp b 0,v2] 204 (0,0)):=ahL_ _ _ _ _ hB2.cell
 refine ko (And.intro @VY_ (And.intro @lk2 (And.intro @st2 (@Jb_)))) ?_
 first|with_reducible refine ks [] @VY_ ?_|refine kp @VY_ ?_
 refine⟨_,(ke @VY_), ?_⟩
 have ex:=(kx.app (o:= .cells #[v8 c] 5 (0,0)) hw3).grew hG2
 have hs2:slB v2≠some b:=by
  rcases hS2 with h| ⟨c',h,ha⟩
  ·rw[h];exact hsl
  ·rw[h]
   intro e
   cases e
   exact Nat.lt_irrefl _ (zi_ ha (zh_ (zk_ lk1)))
 refine⟨ex.setB,rfl,vp b 0,v2,qa_ lk2, .inr rfl, ?_,hs2⟩
 rw[List.length_append,List.map_append]
 exact hB2.setO hs2
end Go.Proofs
end
section
open Go Go.Proofs Go.Sx
namespace Go.Proofs
set_option maxRecDepth 10000
set_option maxHeartbeats 1000000
set_option linter.unusedSimpArgs false
set_option linter.defProp false
def kc_:=And.intro (And.intro (@XX_) (@XU_)) (And.intro (@XM_) (And.intro (@nilB) (@art_)))
theorem Xm_ (b:Nat) (X:zb_) (l s:List UInt8) (w:World) (hB:BldAt b l X) (hX: ∀p,p∈X→w.heap[p.1]? =some p.2) (hn: (keys X).Nodup) (hl:l.length+s.length<34359738368):
  Rets Tryz.prog 170 #[vp b 0,vs s] w (XS w X (fun v D=>v= .tuple #[vi s.length, .nilIface]∧BldAt b (l++s) D)):=by
 obtain⟨p,v,hlk,hp,hb,hsl⟩:=hB
 refine Rets.enterX Tryz.func170 rfl (rs:= [.tmp 4, .tmp 5]) Tryz.results170 Tryz.ntmps170 hX hn ?_
 refine kf ?_
 first|with_reducible refine ks [] @kc_ ?_|refine kp @kc_ ?_
 refine Ow.callM rfl rfl Tryz.call204 (zh_ hlk) (fun w' hw'=>ZG_ b p v w' hp (hw'.has _ _ (zy_ hlk))) ?_
 have lk1:=qa_ (x:= .cells #[vp b 0,v] 204 (0,0)) hlk
 have rd1:=ze_ (w0:=w) lk1
 have hb1:Buf (setB X b (.cells #[vp b 0,v] 204 (0,0))) 5 1 v l.length (l.map v8):=hb.setO hsl
 have kx:Ext w X (setB X b (.cells #[vp b 0,v] 204 (0,0))):=(Ext.refl w X).setB
 generalize setB X b (.cells #[vp b 0,v] 204 (0,0))=X1 at*
 refine ko @kc_ ?_
 first|with_reducible refine ks [] (And.intro @kc_ @rd1) ?_|refine kp (And.intro @kc_ @rd1) ?_
 refine Ow.append (e:=5) _ rfl rfl rfl Tryz.underlying200 Tryz.ag5 (by kernel_rfl) Tryz.zr5 (by kernel_rfl) Tryz.underlying9 (by intro k h;cases h) hb1 (fun w' hw'=>AppX.text _ w' s) (by omega) (fun v2 L2 hB2 hG2 hS2=> ?_)
 have lk2:Sx.look L2 b=some (.cells #[vp b 0,v] 204 (0,0)):=hG2.look b _ hsl lk1
 have st2:zv_ (some (false,1)) (some (.cells #[vp b 0,v] 204 (0,0))) 1 v2=some (.cells #[vp b 0,v2] 204 (0,0)):=ahL_ _ _ _ _ hB2.cell
 refine ko (And.intro @kc_ (And.intro @lk2 (And.intro @st2 (@Jb_)))) ?_
 first|with_reducible refine ks [] @kc_ ?_|refine kp @kc_ ?_
 refine⟨_,(ke @kc_), ?_⟩
 have ex:=kx.grew hG2
 have hs2:slB v2≠some b:=by
  rcases hS2 with h| ⟨c',h,ha⟩
  ·rw[h];exact hsl
  ·rw[h]
   intro e
   cases e
   exact Nat.lt_irrefl _ (zi_ ha (zh_ lk1))
 refine⟨ex.setB,rfl,vp b 0,v2,qa_ lk2, .inr rfl, ?_,hs2⟩
 rw[List.length_append,List.map_append]
 exact hB2.setO hs2
theorem adb_ (b:Nat) (X:zb_) (l:List UInt8) (w:World) (hB:BldAt b l X) (hX: ∀p,p∈X→w.heap[p.1]? =some p.2) (hn: (keys X).Nodup) (hl:l.length<34359738368):
  Rets Tryz.prog 172 #[vp b 0] w (XS w X (fun v _D=>v=vs l)):=by
 obtain⟨p,v,hlk,hp,hb,hsl⟩:=hB
 have rd1:=ze_ (w0:=w) hlk
 refine Rets.enterX Tryz.func172 rfl (rs:= [.tmp 2]) Tryz.results172 Tryz.ntmps172 hX hn ?_
 refine kf ?_
 first|with_reducible refine ks [] @kc_ ?_|refine kp @kc_ ?_
 refine Cw.regionS [b] [0,1,2,5,6,7,3,8,9,4,10,11] [] (by kernel_rfl) (by kernel_rfl) (by kernel_rfl) ?_
 simp only[zl_, ↓zg_, ↓zc_, ↓zx_, ↓zw_,zd_]
 refine Ow.goQ ?_
 simp(disch:=(first|assumption|omega| (simp only[kK_,kw_,UInt64.reduceToNat];try omega))) only[↓Sx.S0,Sx.S1,Tryz.fx,kc_,Nat.reduceAdd,Nat.reducePow,Int.reducePow,Nat.reduceBEq, ↓reduceIte,UInt8.reduceToNat,UInt16.reduceToNat,UInt32.reduceToNat,UInt64.reduceToNat,Int.reduceToNat,rd1,hb.len]
 refine Ow.soft rfl rfl rfl ?_
 rcases hb.inv with⟨rfl,h0,-⟩ | ⟨b2,c,rest,rfl,hl2,h1,h3,h4,-⟩
 ·obtain rfl:l= []:=List.eq_nil_of_length_eq_zero h0
  refine Ow.sliceData (v:= .pointer none) rfl rfl (.inl ⟨0,0,rfl,rfl⟩) ?_
  with_reducible refine Ow.nil ?_
  refine⟨by intro b hb;simp only[List.mem_cons,List.not_mem_nil,or_false] at hb;(try subst hb);rfl, ?_⟩
  refine Ow.soft rfl rfl rfl ?_
  refine Ow.unsafeStringNil rfl rfl rfl rfl ?_
  with_reducible refine Ow.nil ?_
  refine⟨by intro b hb;simp only[List.mem_cons,List.not_mem_nil,or_false] at hb;(try subst hb);rfl, ?_⟩
  refine kq @kc_ ?_
  try with_reducible refine Ow.nil ?_
  first|with_reducible refine ks [] @kc_ ?_|refine kp @kc_ ?_
  refine⟨_,(ke @kc_), ?_⟩
  exact⟨Ext.refl _ _,rfl⟩
 ·refine Ow.sliceData (v:=vp b2 0) rfl rfl (.inr ⟨b2,_,c,rfl,by omega,rfl⟩) ?_
  with_reducible refine Ow.nil ?_
  refine⟨by intro b hb;simp only[List.mem_cons,List.not_mem_nil,or_false] at hb;(try subst hb);rfl, ?_⟩
  by_cases h0:l.length=0
  ·obtain rfl:l= []:=List.eq_nil_of_length_eq_zero h0
   refine Ow.soft rfl rfl rfl ?_
   refine Ow.unsafeStringNil rfl rfl rfl rfl ?_
   with_reducible refine Ow.nil ?_
   refine⟨by intro b hb;simp only[List.mem_cons,List.not_mem_nil,or_false] at hb;(try subst hb);rfl, ?_⟩
   refine kq @kc_ ?_
   try with_reducible refine Ow.nil ?_
   first|with_reducible refine ks [] @kc_ ?_|refine kp @kc_ ?_
   refine⟨_,(ke @kc_), ?_⟩
   exact⟨Ext.refl _ _,rfl⟩
  ·refine Ow.soft rfl rfl rfl ?_
   refine Ow.unsafeString rfl rfl rfl rfl hl2 (by omega) (by omega) Tryz.underlying273 (by kernel_rfl) (of_decide_eq_true (by kernel_rfl)) ?_
   with_reducible refine Ow.nil ?_
   refine⟨by intro b hb;simp only[List.mem_cons,List.not_mem_nil,or_false] at hb;(try subst hb);exact wx_ (fun e=>hsl (by rw[←e];rfl)), ?_⟩
   refine kq @kc_ ?_
   try with_reducible refine Ow.nil ?_
   first|with_reducible refine ks [] @kc_ ?_|refine kp @kc_ ?_
   refine⟨_,(ke @kc_), ?_⟩
   exact⟨(Ext.refl _ _).setB,rfl⟩
end Go.Proofs
end
section
open Go Go.Proofs Go.Sx
namespace Go.Proofs
set_option maxRecDepth 10000
set_option maxHeartbeats 1000000
set_option linter.unusedSimpArgs false
theorem nilW (b o:Nat):qI_ Tryz.prog .eql 242 (vp b o) (.pointer none)=some (.bool false):=by
 simp[qI_,eqX,qz_,qq_,Tryz.underlying242,vp]
set_option linter.defProp false
def x2_:=And.intro (@XX_) (And.intro (@XU_) (@nilW))
structure WG where
 g:Nat
 D:zb_
theorem Wb_ (l:List (List UInt8)) (g:Nat) (h:g<l.length): (l.take (g+1)).flatten=(l.take g).flatten++l.getD g []:=by
 rw[List.take_add_one,List.getElem?_eq_getElem h,List.flatten_append,List.getD_eq_getElem?_getD,List.getElem?_eq_getElem h]
 simp
theorem abI_ (l:List (List UInt8)) (g:Nat): (l.take g).flatten.length≤l.flatten.length:=by
 conv=>rhs;rw[←List.take_append_drop g l,List.flatten_append,List.length_append]
 omega
theorem aee_ (b:Nat) (X:zb_) (l:List UInt8) (x:Value) (b2 off:Nat) (ls:List (List UInt8)) (arr:Array Value) (E:TypeId) (fz:Nat×Nat) (w:World) (hB:BldAt b l X) (hX: ∀p,p∈X→w.heap[p.1]? =some p.2) (hn: (keys X).Nodup)
  (hS:StrS w x ls b2 off arr E fz) (hne:0<ls.length→b2∉keys X) (hl:l.length+ls.flatten.length<34359738368) (hls:ls.length<34359738368):
  Rets Tryz.prog 133 #[vp b 0,x] w (XS w X (fun v D=>v= .tuple #[]∧BldAt b (l++ls.flatten) D)):=by
 refine Rets.enterX Tryz.func133 rfl (rs:= []) Tryz.results133 Tryz.ntmps133 hX hn ?_
 refine kf ?_
 ((try with_reducible refine Cw.go [] ?_);(try simp(disch:=(first|assumption|omega| (simp only[kK_,kw_,UInt64.reduceToNat];try omega))) only[↓Sx.S0,Sx.S1,Tryz.fx,x2_,Nat.reduceAdd,Nat.reducePow,Int.reducePow,Nat.reduceBEq, ↓reduceIte,UInt8.reduceToNat,UInt16.reduceToNat,UInt32.reduceToNat,UInt64.reduceToNat,Int.reduceToNat,hS.len]))
 refine Cw.loopG (G:=WG) [11,12,13,5,14,15,16,17,18,19,10] (fun g=> [(10,vi g.g)]) (fun g=>g.D) (fun g=>g.g≤ls.length∧Ext w X g.D∧BldAt b (l++ (ls.take g.g).flatten) g.D) (fun g=>ls.length - g.g) ⟨0,X⟩ rfl rfl ?_ ?_
 ·exact⟨by simp,Ext.refl _ _,by simpa using hB⟩
 intro g j hg
 refine kv ?_
 obtain⟨g,D⟩:=g
 simp only at hg ⊢
 obtain⟨hgL,hE,hBD⟩:=hg
 by_cases hlt:g<ls.length
 ·have hlg:=hS.get g hlt
  have hrd:=hE.old (hS.has (by omega)) (hne (by omega))
  ((try with_reducible refine Cw.go [] ?_);(try simp(disch:=(first|assumption|omega| (simp only[kK_,kw_,UInt64.reduceToNat];try omega))) only[↓Sx.S0,Sx.S1,Tryz.fx,x2_,Nat.reduceAdd,Nat.reducePow,Int.reducePow,Nat.reduceBEq, ↓reduceIte,UInt8.reduceToNat,UInt16.reduceToNat,UInt32.reduceToNat,UInt64.reduceToNat,Int.reduceToNat,Sx.loadV_one,hrd,hlg,hS.idx]))
  have hfl:=Wb_ ls g hlt
  have hfle:=abI_ ls (g+1)
  have hfl2:=congrArg List.length hfl
  rw[List.length_append] at hfl2
  refine Ow.callX (Y:= []) (by simp) rfl rfl Tryz.call170 (fun w' hw' hX hn=>Xm_ b D _ (ls.getD g []) w' hBD hX hn (by rw[List.length_append];omega)) (fun v2 D2 hC hS2=> ?_)
  rw[List.append_nil]
  obtain⟨rfl,hB2⟩:=hS2
  refine ko @x2_ ?_
  first|with_reducible refine ks [] @x2_ ?_|refine kp @x2_ ?_
  refine Again.mk (WG.mk (g+1) D2) (by show ls.length - (g+1)<ls.length - g;omega) ⟨by show g+1≤ls.length;omega,hE.came0 hC, ?_⟩ rfl rfl
  show BldAt b (l++ (ls.take (g+1)).flatten) D2
  rw[hfl,←List.append_assoc]
  exact hB2
 ·obtain rfl:g=ls.length:=by omega
  first|with_reducible refine ks [] @x2_ ?_|refine kp @x2_ ?_
  refine⟨_,(ke @x2_), ?_⟩
  rw[List.take_length] at hBD
  exact⟨hE,rfl,hBD⟩
def maxN:Int:=1099511627775
def ZE_ (n:Nat):List UInt8:=if h:n<128 then [UInt8.ofNat n] else UInt8.ofNat (n%128+128)::ZE_ (n / 128)
termination_by n
decreasing_by omega
def qK_ (n:Int):Nat:=(if(if maxN<n then maxN else n)>0 then(if maxN<n then maxN else n) else 0).toNat
def Z3_ (l:List Int):List UInt8:=(l.map fun n=>ZE_ (qK_ n)).flatten
theorem xb_ {n:Nat} (h:n<128):ZE_ n= [UInt8.ofNat n]:=by rw[ZE_];simp[h]
theorem v0_ {n:Nat} (h: ¬n<128):ZE_ n=UInt8.ofNat (n%128+128)::ZE_ (n / 128):=by rw[ZE_];simp[h]
theorem kB_: ∀ (k n:Nat),n<128^k→0<k→(ZE_ n).length≤k
 |0,n,h,h0=>absurd h0 (by omega)
 |k+1,n,h,_=>by
  by_cases hn:n<128
  ·rw[xb_ hn];simp
  ·rw[v0_ hn]
   have hk:0<k:=by
    rcases Nat.eq_zero_or_pos k with rfl|hk
    ·simp at h;omega
    ·exact hk
   have:=kB_ k (n / 128) (by rw[Nat.pow_succ] at h;omega) hk
   simp only[List.length_cons];omega
theorem adL_ (n:Int):qK_ n<1099511627776:=by unfold qK_ maxN;split<;>split at* <;>omega
theorem zP_ (n:Int): (ZE_ (qK_ n)).length≤6:=kB_ 6 _ (by have:=adL_ n;omega) (by omega)
theorem asJ_: ∀b:BitVec 8,b.toNat<128→(b|||128#8)=b+128#8:=by decide
theorem Zk_ (m:Nat):UInt8.ofInt (m:Int)=UInt8.ofNat m:=by
 apply UInt8.toBitVec_inj.1
 apply BitVec.eq_of_toNat_eq
 simp[UInt8.ofInt,UInt8.ofNat]
 omega
theorem aq2_ (m:Nat):UInt8.ofInt ((m:Int)%128) |||128=UInt8.ofNat (m%128+128):=by
 rw[show((m:Int)%128)=((m%128:Nat):Int) by omega,Zk_]
 apply UInt8.toBitVec_inj.1
 have h:=asJ_ (BitVec.ofNat 8 (m%128)) (by simp[BitVec.toNat_ofNat];omega)
 have h1: (UInt8.ofNat (m%128) |||128).toBitVec=BitVec.ofNat 8 (m%128) |||128#8:=rfl
 rw[h1,h]
 apply BitVec.eq_of_toNat_eq
 simp[UInt8.ofNat]
structure NG where
 m:Nat
 pre:List UInt8
 D:zb_
theorem acd_ (b:Nat) (X:zb_) (l:List UInt8) (x:Value) (b2 off:Nat) (ls:List Int) (arr:Array Value) (E:TypeId) (fz:Nat×Nat) (w:World) (hB:BldAt b l X) (hX: ∀p,p∈X→w.heap[p.1]? =some p.2) (hn: (keys X).Nodup)
  (hS:OneS vi 0 w x ls b2 off arr E fz) (hne:0<ls.length→b2∉keys X) (hl:l.length+ls.length*6<34359738368):
  Rets Tryz.prog 171 #[vp b 0,x] w (XS w X (fun v D=>v= .tuple #[]∧BldAt b (l++Z3_ ls) D)):=by
 refine Rets.enterX Tryz.func171 rfl (rs:= []) Tryz.results171 Tryz.ntmps171 hX hn ?_
 refine kf ?_
 ((try with_reducible refine Cw.go [] ?_);(try simp(disch:=(first|assumption|omega| (simp only[kK_,kw_,UInt64.reduceToNat];try omega))) only[↓Sx.S0,Sx.S1,Tryz.fx,x2_,Nat.reduceAdd,Nat.reducePow,Int.reducePow,Nat.reduceBEq, ↓reduceIte,UInt8.reduceToNat,UInt16.reduceToNat,UInt32.reduceToNat,UInt64.reduceToNat,Int.reduceToNat,hS.len]))
 refine Cw.loopG (G:=WG) [11,12,13,5,14,15,16,17,18,21,22,23,24,25,26,27,28,19,20,29,30,31,32,33,34,35,10] (fun g=> [(10,vi g.g)]) (fun g=>g.D) (fun g=>g.g≤ls.length∧Ext w X g.D∧BldAt b (l++Z3_ (ls.take g.g)) g.D) (fun g=>ls.length - g.g) ⟨0,X⟩ rfl rfl ?_ ?_
 ·exact⟨by simp,Ext.refl _ _,by simpa [Z3_] using hB⟩
 intro g j hg
 refine kv ?_
 obtain⟨g,D⟩:=g
 simp only at hg ⊢
 obtain⟨hgL,hE,hBD⟩:=hg
 by_cases hlt:g<ls.length
 ·have hlg:=hS.get g hlt
  have hrd:=hE.old (hS.has (by omega)) (hne (by omega))
  ((try with_reducible refine Cw.go [] ?_);(try simp(disch:=(first|assumption|omega| (simp only[kK_,kw_,UInt64.reduceToNat];try omega))) only[↓Sx.S0,Sx.S1,Tryz.fx,x2_,Nat.reduceAdd,Nat.reducePow,Int.reducePow,Nat.reduceBEq, ↓reduceIte,UInt8.reduceToNat,UInt16.reduceToNat,UInt32.reduceToNat,UInt64.reduceToNat,Int.reduceToNat,Sx.loadV_one,hrd,hlg,hS.idx]))
  refine Ow.minI rfl rfl rfl ?_
  refine Ow.maxI rfl rfl rfl ?_
  have hcl: (if(if maxN<ls.getD g 0 then maxN else ls.getD g 0)>0 then(if maxN<ls.getD g 0 then maxN else ls.getD g 0) else 0)=(qK_ (ls.getD g 0):Int):=by
   unfold qK_;omega
  have hcl': (if(if 1099511627775<ls.getD g 0 then 1099511627775 else ls.getD g 0)>0 then(if 1099511627775<ls.getD g 0 then 1099511627775 else ls.getD g 0) else 0)=(qK_ (ls.getD g 0):Int):=hcl
  rw[hcl']
  have hcb:=adL_ (ls.getD g 0)
  have hpl: (Z3_ (ls.take g)).length≤g*6:=by
   unfold Z3_
   rw[List.length_flatten,List.map_map]
   have: ∀ (q:List Int),(q.map (List.length∘fun n=>ZE_ (qK_ n))).sum≤q.length*6:=by
    intro q
    induction q with
    |nil=>simp
    |cons y r ih=>have:=zP_ y;simp only[List.map_cons,List.sum_cons,List.length_cons,Function.comp];omega
   have h2:=this (ls.take g)
   rw[List.length_take] at h2
   have:min g ls.length*6≤g*6:=Nat.mul_le_mul_right _ (Nat.min_le_left _ _)
   omega
  have hnl:=zP_ (ls.getD g 0)
  have hsucc:Z3_ (ls.take (g+1))=Z3_ (ls.take g)++ZE_ (qK_ (ls.getD g 0)):=by
   unfold Z3_
   rw[List.take_succ_eq_append_getElem hlt,List.map_append,List.flatten_append,List.getD_eq_getElem?_getD,List.getElem?_eq_getElem hlt]
   simp only[List.map_cons,List.map_nil,List.flatten_cons,List.flatten_nil,List.append_nil,Option.getD_some]
  generalize qK_ (ls.getD g 0)=m0 at*
  refine ko @x2_ ?_
  first|with_reducible refine ks [] @x2_ ?_|refine kp @x2_ ?_
  refine Cw.loopG (G:=NG) [17,18,21,22,23,24,25,26,27,28,19,20,5] (fun q=> [(5,vi q.m)]) (fun q=>q.D) (fun q=>q.m≤m0∧Ext w X q.D∧ZE_ m0=q.pre++ZE_ q.m∧BldAt b (l++Z3_ (ls.take g)++q.pre) q.D) (fun q=>q.m) ⟨m0,[],D⟩ rfl rfl ?_ ?_
  ·exact⟨Nat.le_refl _,hE,rfl,by rwa [List.append_nil]⟩
  intro q jq hq
  refine kv ?_
  obtain⟨m,pre,D1⟩:=q
  simp only at hq ⊢
  obtain⟨hqm,hE1,hpre,hB1⟩:=hq
  have hpl2:=congrArg List.length hpre
  rw[List.length_append] at hpl2
  by_cases hm:m<128
  ·first|with_reducible refine ks [] @x2_ ?_|refine kp @x2_ ?_
   rw[xb_ hm] at hpre hpl2
   have hlen: (l++Z3_ (ls.take g)++pre).length+1<34359738368:=by
    rw[List.length_append,List.length_append]
    simp only[List.length_cons,List.length_nil] at hpl2
    omega
   refine Ow.callX (Y:= []) (by simp) rfl rfl Tryz.call205 (fun w' hw' hX hn=>ZH_ b D1 _ _ w' hB1 hX hn (by omega)) (fun v2 D2 hC hS2=> ?_)
   rw[List.append_nil]
   obtain⟨rfl,hB2⟩:=hS2
   rw[Zk_] at hB2
   refine ko @x2_ ?_
   first|with_reducible refine ks [] @x2_ ?_|refine kp @x2_ ?_
   refine Again.mk (WG.mk (g+1) D2) (by show ls.length - (g+1)<ls.length - g;omega) ⟨by show g+1≤ls.length;omega,hE1.came0 hC, ?_⟩ rfl rfl
   show BldAt b (l++Z3_ (ls.take (g+1))) D2
   rw[hsucc,hpre,←List.append_assoc,←List.append_assoc]
   exact hB2
  ·first|with_reducible refine ks [] @x2_ ?_|refine kp @x2_ ?_
   rw[v0_ hm] at hpre hpl2
   have hlen: (l++Z3_ (ls.take g)++pre).length+1<34359738368:=by
    rw[List.length_append,List.length_append]
    simp only[List.length_cons] at hpl2
    omega
   refine Ow.callX (Y:= []) (by simp) rfl rfl Tryz.call205 (fun w' hw' hX hn=>ZH_ b D1 _ _ w' hB1 hX hn (by omega)) (fun v2 D2 hC hS2=> ?_)
   rw[List.append_nil]
   obtain⟨rfl,hB2⟩:=hS2
   rw[aq2_] at hB2
   refine ko @x2_ ?_
   first|with_reducible refine ks [] @x2_ ?_|refine kp @x2_ ?_
   refine Again.mk (NG.mk (m / 128) (pre++ [UInt8.ofNat (m%128+128)]) D2) (by show m / 128<m;omega) ⟨by show m / 128≤m0;omega,hE1.came0 hC, ?_, ?_⟩ rfl rfl
   ·show ZE_ m0=pre++ [UInt8.ofNat (m%128+128)]++ZE_ (m / 128)
    rw[hpre];simp
   ·show BldAt b (l++Z3_ (ls.take g)++ (pre++ [UInt8.ofNat (m%128+128)])) D2
    rw[←List.append_assoc]
    exact hB2
 ·obtain rfl:g=ls.length:=by omega
  first|with_reducible refine ks [] @x2_ ?_|refine kp @x2_ ?_
  refine⟨_,(ke @x2_), ?_⟩
  rw[List.take_length] at hBD
  exact⟨hE,rfl,hBD⟩
end Go.Proofs
end
section
open Go Go.Proofs Go.Sx
namespace Go.Proofs
set_option maxRecDepth 10000
set_option maxHeartbeats 1000000
set_option linter.unusedSimpArgs false
set_option linter.defProp false
def vS_:=And.intro (And.intro (@XX_) (@XU_)) (And.intro (@nilW) (And.intro (@akh_) (@Vl_)))
theorem BldAt.app {b:Nat} {l:List UInt8} {X Y:zb_} (h:BldAt b l X):BldAt b l (X++Y):=by
 obtain⟨p,v,h1,h2,h3,h4⟩:=h
 exact⟨p,v,zk_ h1,h2,h3.app,h4⟩
def xg_ (s:List UInt8):List UInt8:=ZE_ (qK_ s.length)++s
def vg_ (ls:List (List UInt8)):List UInt8:=(ls.map xg_).flatten
theorem ana_ (n:Int):Z3_ [n]=ZE_ (qK_ n):=by simp[Z3_]
theorem agq_ (ls:List (List UInt8)) (g:Nat) (h:g<ls.length):vg_ (ls.take (g+1))=vg_ (ls.take g)++xg_ (ls.getD g []):=by
 unfold vg_
 rw[List.take_succ_eq_append_getElem h,List.map_append,List.flatten_append,List.getD_eq_getElem?_getD,List.getElem?_eq_getElem h]
 simp only[List.map_cons,List.map_nil,List.flatten_cons,List.flatten_nil,List.append_nil,Option.getD_some]
theorem VA_ (ls:List (List UInt8)) (g:Nat): (vg_ (ls.take g)).length≤ (vg_ ls).length:=by
 conv=>rhs;rw[←List.take_append_drop g ls]
 unfold vg_
 rw[List.map_append,List.flatten_append,List.length_append];omega
theorem aiQ_ (b:Nat) (X:zb_) (l:List UInt8) (x:Value) (b2 off:Nat) (ls:List (List UInt8)) (arr:Array Value) (E:TypeId) (fz:Nat×Nat) (w:World) (hB:BldAt b l X) (hX: ∀p,p∈X→w.heap[p.1]? =some p.2) (hn: (keys X).Nodup)
  (hS:StrS w x ls b2 off arr E fz) (hne:0<ls.length→b2∉keys X) (hl:l.length+ (vg_ ls).length<17179869184) (hls:ls.length<17179869184):
  Rets Tryz.prog 134 #[vp b 0,x] w (XS w X (fun v D=>v= .tuple #[]∧BldAt b (l++vg_ ls) D)):=by
 refine Rets.enterX Tryz.func134 rfl (rs:= []) Tryz.results134 Tryz.ntmps134 hX hn ?_
 refine kf ?_
 ((try with_reducible refine Cw.go [] ?_);(try simp(disch:=(first|assumption|omega| (simp only[kK_,kw_,UInt64.reduceToNat];try omega))) only[↓Sx.S0,Sx.S1,Tryz.fx,vS_,Nat.reduceAdd,Nat.reducePow,Int.reducePow,Nat.reduceBEq, ↓reduceIte,UInt8.reduceToNat,UInt16.reduceToNat,UInt32.reduceToNat,UInt64.reduceToNat,Int.reduceToNat,hS.len]))
 refine Cw.loopG (G:=WG) [9,10,11,5,12,13,14,15,16,17,18,19,20,21,8] (fun g=> [(8,vi g.g)]) (fun g=>g.D) (fun g=>g.g≤ls.length∧Ext w X g.D∧BldAt b (l++vg_ (ls.take g.g)) g.D) (fun g=>ls.length - g.g) ⟨0,X⟩ rfl rfl ?_ ?_
 ·exact⟨by simp,Ext.refl _ _,by simpa [vg_] using hB⟩
 intro g j hg
 refine kv ?_
 obtain⟨g,D⟩:=g
 simp only at hg ⊢
 obtain⟨hgL,hE,hBD⟩:=hg
 by_cases hlt:g<ls.length
 ·have hlg:=hS.get g hlt
  have hrd:=hE.old (hS.has (by omega)) (hne (by omega))
  have hsu:=agq_ ls g hlt
  have hle:=VA_ ls (g+1)
  have hsl:=congrArg List.length hsu
  rw[List.length_append] at hsl
  have htl: (xg_ (ls.getD g [])).length=(ZE_ (qK_ (ls.getD g []).length)).length+ (ls.getD g []).length:=by unfold xg_;rw[List.length_append]
  ((try with_reducible refine Cw.go [] ?_);(try simp(disch:=(first|assumption|omega| (simp only[kK_,kw_,UInt64.reduceToNat];try omega))) only[↓Sx.S0,Sx.S1,Tryz.fx,vS_,Nat.reduceAdd,Nat.reducePow,Int.reducePow,Nat.reduceBEq, ↓reduceIte,UInt8.reduceToNat,UInt16.reduceToNat,UInt32.reduceToNat,UInt64.reduceToNat,Int.reduceToNat,Sx.loadV_one,hrd,hlg,hS.idx]))
  refine Ow.buildSlice (e:=3) #[vi (ls.getD g []).length] rfl rfl (by kernel_rfl) fun b3 hb3 hw3=> ?_
  refine ko @vS_ ?_
  refine Ow.callX (Y:= [(b3, .cells #[vi (ls.getD g []).length] 3 (0,0))]) (by simp) rfl rfl Tryz.call171 (fun w' hw' hX hn=>acd_ b D _ _ b3 0 [((ls.getD g []).length:Int)] _ _ _ w' hBD hX hn (OneS.lit [((ls.getD g []).length:Int)] rfl rfl (hw'.has _ _ (List.mem_append_right _ List.mem_cons_self))) (fun _ hm=>Nat.lt_irrefl _ (zi_ hb3 hm)) (by rw[List.length_append];simp only[List.length_cons,List.length_nil];omega)) (fun v2 D2 hC hS2=> ?_)
  obtain⟨rfl,hB2⟩:=hS2
  have hE2:=(hE.app (o:= .cells #[vi (ls.getD g []).length] 3 (0,0)) hw3).came hC
  rw[ana_] at hB2
  have hB3:=BldAt.app (Y:= [(b3, .cells #[vi (ls.getD g []).length] 3 (0,0))]) hB2
  generalize D2++ [(b3,Obj.cells #[vi (ls.getD g []).length] 3 (0,0))]=D3 at*
  refine ko @vS_ ?_
  first|with_reducible refine ks [] @vS_ ?_|refine kp @vS_ ?_
  refine Ow.buildSlice (e:=9) #[vs (ls.getD g [])] rfl rfl (by kernel_rfl) fun b4 hb4 hw4=> ?_
  refine ko @vS_ ?_
  refine Ow.callX (Y:= [(b4, .cells #[vs (ls.getD g [])] 9 (0,0))]) (by simp) rfl rfl Tryz.call133 (fun w' hw' hX hn=>aee_ b D3 _ _ b4 0 [ls.getD g []] _ _ _ w' hB3 hX hn (StrS.lit [ls.getD g []] rfl rfl (hw'.has _ _ (List.mem_append_right _ List.mem_cons_self))) (fun _ hm=>Nat.lt_irrefl _ (zi_ hb4 hm)) (by rw[List.length_append,List.length_append];simp only[List.flatten_cons,List.flatten_nil,List.append_nil];omega) (by simp)) (fun v4 D4 hC4 hS4=> ?_)
  obtain⟨rfl,hB4⟩:=hS4
  have hE4:=(hE2.app (o:= .cells #[vs (ls.getD g [])] 9 (0,0)) hw4).came hC4
  have hB5:=BldAt.app (Y:= [(b4, .cells #[vs (ls.getD g [])] 9 (0,0))]) hB4
  generalize D4++ [(b4,Obj.cells #[vs (ls.getD g [])] 9 (0,0))]=D5 at*
  refine ko @vS_ ?_
  first|with_reducible refine ks [] @vS_ ?_|refine kp @vS_ ?_
  refine Again.mk (WG.mk (g+1) D5) (by show ls.length - (g+1)<ls.length - g;omega) ⟨by show g+1≤ls.length;omega,hE4, ?_⟩ rfl rfl
  show BldAt b (l++vg_ (ls.take (g+1))) D5
  rw[hsu]
  simpa [xg_] using hB5
 ·obtain rfl:g=ls.length:=by omega
  first|with_reducible refine ks [] @vS_ ?_|refine kp @vS_ ?_
  refine⟨_,(ke @vS_), ?_⟩
  rw[List.take_length] at hBD
  exact⟨hE,rfl,hBD⟩
structure IdL where
 l:List UInt8
 h:l.length=32
def Z7_ (x:IdL):List Value:=x.l.map v8
def id0:IdL:=⟨List.replicate 32 0,by simp⟩
theorem aae_ (x:IdL): (Z7_ x).toArray=a8 x.l:=rfl
theorem aef_ (b:Nat) (X:zb_) (l:List UInt8) (w:World) (hB:BldAt b l X) (hX: ∀p,p∈X→w.heap[p.1]? =some p.2) (hn: (keys X).Nodup) (hl:l.length<34359738368):
  Rets Tryz.prog 135 #[vp b 0] w (XS w X (fun v _=>v=vs l)):=by
 refine Rets.enterX Tryz.func135 rfl (rs:= [.tmp 2]) Tryz.results135 Tryz.ntmps135 hX hn ?_
 refine kf ?_
 first|with_reducible refine ks [] @vS_ ?_|refine kp @vS_ ?_
 refine Ow.callX (Y:= []) (by simp) rfl rfl Tryz.call172 (fun w' hw' hX hn=>adb_ b X l w' hB hX hn hl) (fun v2 D2 hC hS2=> ?_)
 subst hS2
 rw[List.append_nil]
 refine ko @vS_ ?_
 first|with_reducible refine ks [] @vS_ ?_|refine kp @vS_ ?_
 refine⟨_,(ke @vS_), ?_⟩
 exact⟨(Ext.refl _ _).came0 hC,rfl⟩
end Go.Proofs
end
section
open Go Go.Proofs Go.Sx
namespace Go.Proofs
set_option maxRecDepth 10000
set_option maxHeartbeats 1000000
set_option linter.unusedSimpArgs false
theorem kb_ (s:List UInt8) (a e:Int) (E:TypeId) (n:Nat):zt_ (some (false,n)) (some (.cells #[vs s,vi a,vi e] E (0,0))) 0=some (vs s):=(rfl)
theorem ke_ (s:List UInt8) (a e:Int) (E:TypeId) (n:Nat):zt_ (some (false,n)) (some (.cells #[vs s,vi a,vi e] E (0,0))) 1=some (vi a):=(rfl)
theorem kk_ (s:List UInt8) (a e:Int) (E:TypeId) (n:Nat):zt_ (some (false,n)) (some (.cells #[vs s,vi a,vi e] E (0,0))) 2=some (vi e):=(rfl)
theorem xo_ (s:List UInt8) (a e x:Int) (E:TypeId):zv_ (some (false,1)) (some (.cells #[vs s,vi a,vi e] E (0,0))) 1 (vi x)=some (.cells #[vs s,vi x,vi e] E (0,0)):=by
 simp[zv_,Jf_,vi,Value.cells,Value.oneCell']
theorem xy_ (s:List UInt8) (a e x:Int) (E:TypeId):zv_ (some (false,1)) (some (.cells #[vs s,vi a,vi e] E (0,0))) 2 (vi x)=some (.cells #[vs s,vi a,vi x] E (0,0)):=by
 simp[zv_,Jf_,vi,Value.cells,Value.oneCell']
theorem nilR (b o:Nat):qI_ Tryz.prog .eql 210 (vp b o) (.pointer none)=some (.bool false):=by
 simp[qI_,eqX,qz_,qq_,Tryz.underlying210,vp]
theorem ar7_:qI_ Tryz.prog .eql 210 (.pointer none) (.pointer none)=some (.bool true):=by
 simp[qI_,eqX,qz_,qq_,Tryz.underlying210]
theorem aqm_ (b o:Nat):qI_ Tryz.prog .neq 210 (vp b o) (.pointer none)=some (.bool true):=by
 simp[qI_,eqX,qz_,qq_,Tryz.underlying210,vp]
theorem any_:qI_ Tryz.prog .neq 210 (.pointer none) (.pointer none)=some (.bool false):=by
 simp[qI_,eqX,qz_,qq_,Tryz.underlying210]
set_option linter.defProp false
def zT_:=And.intro (And.intro (And.intro (@kb_) (@ke_)) (And.intro (@kk_) (@xo_))) (And.intro (And.intro (@xy_) (@nilR)) (And.intro (@ar7_) (And.intro (@aqm_) (@any_))))
theorem QG_ (b:Nat) (s:List UInt8) (a e:Int) (w:World) (ho:w.heap[b]? =some (.cells #[vs s,vi a,vi e] 250 (0,0))):
  Rets Tryz.prog 176 #[vp b 0] w (fun v D=>v=vi e∧D= []):=by
 refine Rets.enterV Tryz.func176 rfl (rs:= [.tmp 2]) Tryz.results176 Tryz.ntmps176 ?_
 refine kf ?_
 first|with_reducible refine ks [] (And.intro @zT_ @ho) ?_|refine kp (And.intro @zT_ @ho) ?_
 refine⟨_,(ke @zT_),trivial, ?_⟩
 rfl
theorem anH_ (b:Nat) (s:List UInt8) (a e:Int) (w:World) (ho:w.heap[b]? =some (.cells #[vs s,vi a,vi e] 250 (0,0))):
  Rets Tryz.prog 178 #[vp b 0] w (fun v D=>v=vi a∧D= []):=by
 refine Rets.enterV Tryz.func178 rfl (rs:= [.tmp 2]) Tryz.results178 Tryz.ntmps178 ?_
 refine kf ?_
 first|with_reducible refine ks [] (And.intro @zT_ @ho) ?_|refine kp (And.intro @zT_ @ho) ?_
 refine⟨_,(ke @zT_),trivial, ?_⟩
 rfl
theorem akk_ (b:Nat) (s:List UInt8) (a e:Int) (w:World) (ho:w.heap[b]? =some (.cells #[vs s,vi a,vi e] 250 (0,0))):
  Rets Tryz.prog 142 #[vp b 0] w (fun v D=>v=vi (if e≠0 then e else if a<s.length then 5 else 0)∧D= []):=by
 refine Rets.enterV Tryz.func142 rfl (rs:= [.tmp 2]) Tryz.results142 Tryz.ntmps142 ?_
 refine kf ?_
 first|with_reducible refine ks [] @zT_ ?_|refine kp @zT_ ?_
 refine Ow.callFV rfl Tryz.call176 (fun w' hw'=>QG_ b s a e w' (by rw[hw'.old b (Array.getElem?_eq_some_iff.1 ho).1 (by simp[keys])];exact ho)) ?_
 refine ko @zT_ ?_
 first|with_reducible refine ks [] @zT_ ?_|refine kp @zT_ ?_
 by_cases he:e=0
 ·first|with_reducible refine ks [] @zT_ ?_|refine kp @zT_ ?_
  refine Cw.regionS [b] [0,1,2,4,5,6,3,7,8,9] [] (by kernel_rfl) (by kernel_rfl) (by kernel_rfl) ?_
  simp only[zl_, ↓zg_, ↓zc_, ↓zx_, ↓zw_,zd_]
  refine kq (And.intro @zT_ @ho) ?_
  try with_reducible refine Ow.nil ?_
  first|with_reducible refine ks [] @zT_ ?_|refine kp @zT_ ?_
  refine cdC.splitp (fun hc=> ?_) (fun hc=> ?_)
  ·first|with_reducible refine ks [] @zT_ ?_|refine kp @zT_ ?_
   refine⟨_,(ke @zT_),trivial, ?_⟩
   simp[hc,he,xW_]
  ·first|with_reducible refine ks [] @zT_ ?_|refine kp @zT_ ?_
   refine⟨_,(ke @zT_),trivial, ?_⟩
   simp[hc,he,xW_]
 ·first|with_reducible refine ks [] @zT_ ?_|refine kp @zT_ ?_
  refine⟨_,(ke @zT_),trivial, ?_⟩
  simp[he,xW_]
theorem xI_ (b:Nat) (s:List UInt8) (a e x y:Int) (w:World) (ho:w.heap[b]? =some (.cells #[vs s,vi a,vi e] 250 (0,0))):
  Rets Tryz.prog 177 #[vp b 0,vi x,vi y] w (fun v D=> ∃o,D= [(b,o)]∧v= .tuple #[]∧o= .cells #[vs s,vi (if e=0 then y else a),vi (if e=0 then x else e)] 250 (0,0)):=by
 refine Rets.enterM Tryz.func177 rfl (rs:= []) Tryz.results177 Tryz.ntmps177 ho ?_
 refine kf ?_
 first|with_reducible refine ks [] @zT_ ?_|refine kp @zT_ ?_
 by_cases he:e=0
 ·first|with_reducible refine ks [] @zT_ ?_|refine kp @zT_ ?_
  refine⟨_,_,_,(ke @zT_),rfl,trivial, ?_⟩
  simp[he,xW_]
 ·first|with_reducible refine ks [] @zT_ ?_|refine kp @zT_ ?_
  refine⟨_,_,_,(ke @zT_),rfl,trivial, ?_⟩
  simp[he,xW_]
def jw_ (s:List UInt8) (a:Nat) (e n:Int):List UInt8×Nat×Int:=
 if e≠0 then([],a,e) else if n<0 then([],a,2) else if(s.length:Int) - a<n then([],a,3) else((s.drop a).take n.toNat,a+n.toNat,0)
theorem KW_ (b:Nat) (s:List UInt8) (a:Nat) (e n:Int) (w:World) (ha:a≤s.length) (hs:s.length<9223372036854775808) (ho:w.heap[b]? =some (.cells #[vs s,vi a,vi e] 250 (0,0))):
  Rets Tryz.prog 140 #[vp b 0,vi n] w (fun v D=> ∃o,D= [(b,o)]∧v=vs (jw_ s a e n).1∧o= .cells #[vs s,vi (jw_ s a e n).2.1,vi (jw_ s a e n).2.2] 250 (0,0)):=by
 refine Rets.enterM Tryz.func140 rfl (rs:= [.tmp 4]) Tryz.results140 Tryz.ntmps140 ho ?_
 refine kf ?_
 first|with_reducible refine ks [] @zT_ ?_|refine kp @zT_ ?_
 refine Ow.callFV rfl Tryz.call176 (fun w' hw'=>QG_ b s a e w' (hw'.has _ _ List.mem_cons_self)) ?_
 refine ko @zT_ ?_
 first|with_reducible refine ks [] @zT_ ?_|refine kp @zT_ ?_
 unfold jw_
 by_cases he:e=0
 ·subst he
  rw[if_neg (fun h=>h rfl)]
  first|with_reducible refine ks [] @zT_ ?_|refine kp @zT_ ?_
  by_cases hn:n<0
  ·rw[if_pos hn]
   first|with_reducible refine ks [] @zT_ ?_|refine kp @zT_ ?_
   refine Ow.callM rfl rfl Tryz.call177 (by simp[keys]) (fun w' hw'=>xI_ b s a 0 2 a w' (hw'.has _ _ List.mem_cons_self)) ?_
   refine ko @zT_ ?_
   first|with_reducible refine ks [] @zT_ ?_|refine kp @zT_ ?_
   refine⟨_,_,_,(ke @zT_),rfl,trivial, ?_⟩
   exact⟨rfl,rfl⟩
  ·rw[if_neg hn]
   first|with_reducible refine ks [] @zT_ ?_|refine kp @zT_ ?_
   refine Cw.regionS [b] [0,1,2,3,6,7,8,4,5,9,10,11,12] [] (by kernel_rfl) (by kernel_rfl) (by kernel_rfl) ?_
   simp only[zl_, ↓zg_, ↓zc_, ↓zx_, ↓zw_,zd_]
   refine kq @zT_ ?_
   try with_reducible refine Ow.nil ?_
   first|with_reducible refine ks [] @zT_ ?_|refine kp @zT_ ?_
   by_cases hl: (s.length:Int) - a<n
   ·rw[if_pos hl]
    first|with_reducible refine ks [] @zT_ ?_|refine kp @zT_ ?_
    refine Ow.callM rfl rfl Tryz.call177 (by simp[keys]) (fun w' hw'=>xI_ b s a 0 3 a w' (hw'.has _ _ List.mem_cons_self)) ?_
    refine ko @zT_ ?_
    first|with_reducible refine ks [] @zT_ ?_|refine kp @zT_ ?_
    refine⟨_,_,_,(ke @zT_),rfl,trivial, ?_⟩
    exact⟨rfl,rfl⟩
   ·rw[if_neg hl]
    obtain⟨m,rfl⟩: ∃m:Nat,n=(m:Int):=⟨n.toNat,by omega⟩
    first|with_reducible refine ks [] @zT_ ?_|refine kp @zT_ ?_
    refine Cw.regionS [b] [0,1,2,4,5,6,8,9,10,12,3,7,11,13,14,15] [] (by kernel_rfl) (by kernel_rfl) (by kernel_rfl) ?_
    simp only[zl_, ↓zg_, ↓zc_, ↓zx_, ↓zw_,zd_]
    refine kq @zT_ ?_
    try with_reducible refine Ow.nil ?_
    first|with_reducible refine ks [] @zT_ ?_|refine kp @zT_ ?_
    refine⟨_,_,_,(ke @zT_),rfl,trivial, ?_⟩
    refine⟨?_, ?_⟩
    ·simp only[xW_,Int.toNat_natCast]
     rw[List.drop_take,Nat.add_sub_cancel_left]
    ·rw[Int.toNat_natCast,Int.natCast_add]
 ·rw[if_pos he]
  first|with_reducible refine ks [] @zT_ ?_|refine kp @zT_ ?_
  refine⟨_,_,_,(ke @zT_),rfl,trivial, ?_⟩
  exact⟨rfl,rfl⟩
end Go.Proofs
end
section
open Go Go.Proofs Go.Sx
namespace Go.Proofs
set_option maxRecDepth 10000
set_option maxHeartbeats 8000000
set_option linter.unusedSimpArgs false
set_option linter.defProp false
def zH_:=And.intro (And.intro (And.intro (@kb_) (@ke_)) (And.intro (@kk_) (@xo_))) (And.intro (And.intro (@xy_) (@nilR)) (And.intro (@ar7_) (And.intro (@aqm_) (@any_))))
def z5_ (most:Int):List UInt8→Nat→Nat→Except Nat (Nat×Nat)
 | [],_,_=> .error 3
 |c::r,k,n=>
  if 128≤c.toNat then(if k+1=6 then .error 4 else z5_ most r (k+1) (n+c.toNat%128*128^k))
  else if c.toNat=0∧0<k then .error 2
  else if n+c.toNat%128*128^k≤1099511627775∧((n+c.toNat%128*128^k:Nat):Int)≤most then .ok (n+c.toNat%128*128^k,k+1)
  else .error 4
def zD_ (s:List UInt8) (a:Nat) (e most:Int):Int×Nat×Int:=
 if e≠0 then(0,a,e) else match z5_ most (s.drop a) 0 0 with
  | .ok (n,k)=>(n,a+k,0)
  | .error x=>(0,a,x)
theorem K0_ {s:List UInt8} {a:Nat} {e most:Int} {n k:Nat} (he:e=0) (h:z5_ most (s.drop a) 0 0= .ok (n,k)):zD_ s a e most=((n:Int),a+k,0):=by
 unfold zD_;rw[if_neg (by simp[he]),h]
theorem j3_ {s:List UInt8} {a:Nat} {e most:Int} {x:Nat} (he:e=0) (h:z5_ most (s.drop a) 0 0= .error x):zD_ s a e most=(0,a,(x:Int)):=by
 unfold zD_;rw[if_neg (by simp[he]),h]
structure NumS where
 more:Bool
 k:Nat
 n:Nat
 x:Nat
theorem wJ_ (b:Nat) (s:List UInt8) (a:Nat) (e most:Int) (w:World) (ha:a≤s.length) (hs:s.length<9223372036854775808) (ho:w.heap[b]? =some (.cells #[vs s,vi a,vi e] 250 (0,0))):
  Rets Tryz.prog 179 #[vp b 0,vi most] w (fun v D=> ∃o,D= [(b,o)]∧v=vi (zD_ s a e most).1∧o= .cells #[vs s,vi (zD_ s a e most).2.1,vi (zD_ s a e most).2.2] 250 (0,0)):=by
 refine Rets.enterM Tryz.func179 rfl (rs:= [.tmp 4]) Tryz.results179 Tryz.ntmps179 ho ?_
 refine kf ?_
 first|with_reducible refine ks [] @zH_ ?_|refine kp @zH_ ?_
 by_cases he:e=0
 ·subst he
  refine Cw.scopeL (G:=NumS) (fun g=>(if g.more then 1 else 0)) [10,11,12,4,5,6,7,13,14,15,16,8,9,17,18,19,20,21,22,23,24,25,26,27,28,29,30,31,32,33,34,35,36,37,38,39,40,41,42,43,44,45,46,47,48,49,50,51,52,53,54,55,56,57,58,59,60,61,62,63,64,65,66,67,68,69,70,71,72,73] (fun g=>(if g.more then [(5,vi g.n),(6,vi (7*g.k:Nat)),(8,vi 3),(9,vi a)] else [(8,vi g.x),(9,vi a)])) (fun g=> [(b, .cells #[vs s,vi (a+g.k:Nat),vi 0] 250 (0,0))]) (fun g=>a+g.k≤s.length∧(if g.more then z5_ most (s.drop a) 0 0=z5_ most (s.drop (a+g.k)) g.k g.n∧g.n<128^g.k∧g.k<6 else z5_ most (s.drop a) 0 0= .error g.x)) (fun g=>(if g.more then 7 - g.k else 0)) ?_ ?_ ?_
  ·intro g
   obtain⟨m,k,n,x⟩:=g
   cases m<;>rfl
  ·intro g j hg
   obtain⟨m,k,n,x⟩:=g
   obtain⟨hk,hg⟩:=hg
   simp only at hk
   cases m with
   |false=>
    simp only[Bool.false_eq_true, ↓reduceIte] at hg ⊢
    simp only[ZB_,hasL,Bool.or_false,Bool.false_or,Bool.or_true,Bool.true_or,Nat.reduceBEq,beq_self_eq_true, ↓reduceIte,Bool.false_eq_true]
    refine kv ?_
    try with_reducible refine kT_ ?_
    first|with_reducible refine ks [] @zH_ ?_|refine kp @zH_ ?_
    refine Ow.callM rfl rfl Tryz.call177 (by simp[keys]) (fun w' hw'=>xI_ b s _ 0 x a w' (hw'.has _ _ List.mem_cons_self)) ?_
    refine ko @zH_ ?_
    first|with_reducible refine ks [] @zH_ ?_|refine kp @zH_ ?_
    rw[j3_ rfl hg]
    refine⟨_,_,_,(ke @zH_),rfl,trivial, ?_⟩
    simp[xW_]
   |true=>
    simp only[↓reduceIte] at hg ⊢
    obtain⟨hgo,hn,hk6⟩:=hg
    simp only[ZB_,hasL,Bool.or_false,Bool.false_or,Bool.or_true,Bool.true_or,Nat.reduceBEq,beq_self_eq_true, ↓reduceIte,Bool.false_eq_true]
    refine kv ?_
    try with_reducible refine kT_ ?_
    first|with_reducible refine ks [] @zH_ ?_|refine kp @zH_ ?_
    refine Cw.regionS [b] [0,1,2,4,5,6,3,7,8,9] [] (by kernel_rfl) (by kernel_rfl) (by kernel_rfl) ?_
    simp only[zl_, ↓zg_, ↓zc_, ↓zx_, ↓zw_,zd_]
    refine kq @zH_ ?_
    try with_reducible refine Ow.nil ?_
    by_cases hend:a+k=s.length
    ·first|with_reducible refine ks [] @zH_ ?_|refine kp @zH_ ?_
     refine Jump.mk (NumS.mk false k n 3) rfl (by show 0<7 - k;omega) ⟨hk, ?_⟩ rfl rfl
     show z5_ most (s.drop a) 0 0= .error 3
     rw[hgo,hend,List.drop_length];rfl
    ·first|with_reducible refine ks [] @zH_ ?_|refine kp @zH_ ?_
     have hak:a+k<s.length:=by omega
     have hdrop:s.drop (a+k)=s.getD (a+k) 0::s.drop (a+k+1):=by
      rw[List.drop_eq_getElem_cons hak,List.getD_eq_getElem?_getD,List.getElem?_eq_getElem hak];rfl
     rw[hdrop] at hgo
     refine Cw.regionS [b] [0,1,2,4,5,6,3,7,8,9] [] (by kernel_rfl) (by kernel_rfl) (by kernel_rfl) ?_
     simp only[zl_, ↓zg_, ↓zc_, ↓zx_, ↓zw_,zd_]
     refine kq @zH_ ?_
     try with_reducible refine Ow.nil ?_
     generalize s.getD (a+k) 0=c at*
     have hp:128^k≤34359738368:=Nat.pow_le_pow_right (by omega) (show k≤5 by omega)
     have hp0:0<128^k:=Nat.pow_pos (by omega)
     have hd: (c%128).toNat=c.toNat%128:=by simp
     have hcl:=c.toNat_lt
     have hdm:c.toNat%128*128^k≤127*128^k:=Nat.mul_le_mul_right _ (by omega)
     have hshl:zr_ .shl (vi ((c.toNat%128:Nat):Int)) (vi ((7*k:Nat):Int))=some (vi ((c.toNat%128*128^k:Nat):Int)):=by
      have h2: (2:Int)^ (7*k)=((128^k:Nat):Int):=by
       rw[Int.pow_mul];push_cast;rfl
      have:=akM_ ((c.toNat%128:Nat):Int) .i64 (7*k) (by rw[h2];refine⟨by omega,by omega, ?_⟩;rw[←Int.natCast_mul];omega)
      rw[h2,←Int.natCast_mul] at this
      exact this
     have hor:zr_ .or (vi (n:Int)) (vi ((c.toNat%128*128^k:Nat):Int))=some (vi ((n+c.toNat%128*128^k:Nat):Int)):=by
      have:=or_i (n:Int) ((c.toNat%128*128^k:Nat):Int) ⟨by omega,by omega,by omega,by omega⟩
      rw[this]
      congr 3
      rw[Int.toNat_natCast,Int.toNat_natCast,show 128^k=2^ (7*k) by rw[Nat.pow_mul],Nat.mul_comm,Nat.or_comm,←Nat.two_pow_add_eq_or_of_lt (by rw[Nat.pow_mul];exact hn),Nat.add_comm]
     have hlt:n+c.toNat%128*128^k<128^ (k+1):=by rw[Nat.pow_succ];omega
     have hrem:zr_ .rem (v8 c) (v8 128)=some (v8 (c%128)):=W8_ _ _ (by decide)
     first|with_reducible refine ks [] (And.intro @zH_ (And.intro @hrem (And.intro @hd (And.intro @hshl (@hor))))) ?_|refine kp (And.intro @zH_ (And.intro @hrem (And.intro @hd (And.intro @hshl (@hor))))) ?_
     have hle:decide ((128:UInt8)≤c)=decide (128≤c.toNat):=by simp[UInt8.le_iff_toNat_le]
     cases h128:decide ((128:UInt8)≤c)
     ·rw[h128] at hle
      have hc128: ¬128≤c.toNat:=of_decide_eq_false hle.symm
      cases hz: (c==0)
      ·have hc0: ¬ (c.toNat=0∧0<k):=by
        rintro⟨h0,-⟩
        have:c=0:=UInt8.toNat_inj.1 h0
        rw[this] at hz
        exact absurd hz (by decide)
       first|with_reducible refine ks [] (And.intro @zH_ @hz) ?_|refine kp (And.intro @zH_ @hz) ?_
       by_cases hm:n+c.toNat%128*128^k≤1099511627775
       ·have e1:decide (((n+c.toNat%128*128^k:Nat):Int)≤1099511627775)=true:=decide_eq_true (by omega)
        first|with_reducible refine ks [] (And.intro @zH_ @e1) ?_|refine kp (And.intro @zH_ @e1) ?_
        by_cases hmo: ((n+c.toNat%128*128^k:Nat):Int)≤most
        ·first|with_reducible refine ks [] @zH_ ?_|refine kp @zH_ ?_
         rw[K0_ rfl (by rw[hgo,z5_,if_neg hc128,if_neg hc0,if_pos ⟨hm,hmo⟩])]
         refine⟨_,_,_,(ke @zH_),rfl,trivial, ?_⟩
         exact⟨rfl,rfl⟩
        ·first|with_reducible refine ks [] @zH_ ?_|refine kp @zH_ ?_
         refine Ow.callM rfl rfl Tryz.call177 (by simp[keys]) (fun w' hw'=>xI_ b s _ 0 4 a w' (hw'.has _ _ List.mem_cons_self)) ?_
         refine ko @zH_ ?_
         first|with_reducible refine ks [] @zH_ ?_|refine kp @zH_ ?_
         rw[j3_ (x:=4) rfl (by rw[hgo,z5_,if_neg hc128,if_neg hc0,if_neg (fun h=>hmo h.2)])]
         refine⟨_,_,_,(ke @zH_),rfl,trivial, ?_⟩
         exact⟨rfl,rfl⟩
       ·have e1:decide (((n+c.toNat%128*128^k:Nat):Int)≤1099511627775)=false:=decide_eq_false (by omega)
        first|with_reducible refine ks [] (And.intro @zH_ @e1) ?_|refine kp (And.intro @zH_ @e1) ?_
        refine Ow.callM rfl rfl Tryz.call177 (by simp[keys]) (fun w' hw'=>xI_ b s _ 0 4 a w' (hw'.has _ _ List.mem_cons_self)) ?_
        refine ko @zH_ ?_
        first|with_reducible refine ks [] @zH_ ?_|refine kp @zH_ ?_
        rw[j3_ (x:=4) rfl (by rw[hgo,z5_,if_neg hc128,if_neg hc0,if_neg (fun h=>hm h.1)])]
        refine⟨_,_,_,(ke @zH_),rfl,trivial, ?_⟩
        exact⟨rfl,rfl⟩
      ·have hcz:c=0:=eq_of_beq hz
       have hct:c.toNat=0:=by rw[hcz];rfl
       first|with_reducible refine ks [] (And.intro @zH_ @hz) ?_|refine kp (And.intro @zH_ @hz) ?_
       by_cases hk0:0<k
       ·first|with_reducible refine ks [] @zH_ ?_|refine kp @zH_ ?_
        refine Jump.mk (NumS.mk false (k+1) n 2) rfl (by show 0<7 - k;omega) ⟨by show a+ (k+1)≤s.length;omega, ?_⟩ rfl rfl
        show z5_ most (s.drop a) 0 0= .error 2
        rw[hgo,z5_,if_neg hc128,if_pos ⟨hct,hk0⟩]
       ·have hc0: ¬ (c.toNat=0∧0<k):=fun h=>hk0 h.2
        first|with_reducible refine ks [] @zH_ ?_|refine kp @zH_ ?_
        by_cases hm:n+c.toNat%128*128^k≤1099511627775
        ·have e1:decide (((n+c.toNat%128*128^k:Nat):Int)≤1099511627775)=true:=decide_eq_true (by omega)
         first|with_reducible refine ks [] (And.intro @zH_ @e1) ?_|refine kp (And.intro @zH_ @e1) ?_
         by_cases hmo: ((n+c.toNat%128*128^k:Nat):Int)≤most
         ·first|with_reducible refine ks [] @zH_ ?_|refine kp @zH_ ?_
          rw[K0_ rfl (by rw[hgo,z5_,if_neg hc128,if_neg hc0,if_pos ⟨hm,hmo⟩])]
          refine⟨_,_,_,(ke @zH_),rfl,trivial, ?_⟩
          exact⟨rfl,rfl⟩
         ·first|with_reducible refine ks [] @zH_ ?_|refine kp @zH_ ?_
          refine Ow.callM rfl rfl Tryz.call177 (by simp[keys]) (fun w' hw'=>xI_ b s _ 0 4 a w' (hw'.has _ _ List.mem_cons_self)) ?_
          refine ko @zH_ ?_
          first|with_reducible refine ks [] @zH_ ?_|refine kp @zH_ ?_
          rw[j3_ (x:=4) rfl (by rw[hgo,z5_,if_neg hc128,if_neg hc0,if_neg (fun h=>hmo h.2)])]
          refine⟨_,_,_,(ke @zH_),rfl,trivial, ?_⟩
          exact⟨rfl,rfl⟩
        ·have e1:decide (((n+c.toNat%128*128^k:Nat):Int)≤1099511627775)=false:=decide_eq_false (by omega)
         first|with_reducible refine ks [] (And.intro @zH_ @e1) ?_|refine kp (And.intro @zH_ @e1) ?_
         refine Ow.callM rfl rfl Tryz.call177 (by simp[keys]) (fun w' hw'=>xI_ b s _ 0 4 a w' (hw'.has _ _ List.mem_cons_self)) ?_
         refine ko @zH_ ?_
         first|with_reducible refine ks [] @zH_ ?_|refine kp @zH_ ?_
         rw[j3_ (x:=4) rfl (by rw[hgo,z5_,if_neg hc128,if_neg hc0,if_neg (fun h=>hm h.1)])]
         refine⟨_,_,_,(ke @zH_),rfl,trivial, ?_⟩
         exact⟨rfl,rfl⟩
     ·rw[h128] at hle
      have hc128:128≤c.toNat:=of_decide_eq_true hle.symm
      first|with_reducible refine ks [] @zH_ ?_|refine kp @zH_ ?_
      by_cases hk5:k=5
      ·first|with_reducible refine ks [] @zH_ ?_|refine kp @zH_ ?_
       refine Jump.mk (NumS.mk false (k+1) n 4) rfl (by show 0<7 - k;omega) ⟨by show a+ (k+1)≤s.length;omega, ?_⟩ rfl rfl
       show z5_ most (s.drop a) 0 0= .error 4
       rw[hgo,z5_,if_pos hc128,if_pos (by omega)]
      ·first|with_reducible refine ks [] @zH_ ?_|refine kp @zH_ ?_
       refine Jump.mk (NumS.mk true (k+1) (n+c.toNat%128*128^k) 0) rfl (by show 7 - (k+1)<7 - k;omega) ⟨by show a+ (k+1)≤s.length;omega, ?_⟩ rfl rfl
       show z5_ most (s.drop a) 0 0=z5_ most (s.drop (a+ (k+1))) (k+1) (n+c.toNat%128*128^k)∧n+c.toNat%128*128^k<128^ (k+1)∧k+1<6
       refine⟨?_,hlt,by omega⟩
       rw[hgo,z5_,if_pos hc128,if_neg (by omega)]
       rfl
  ·intro key
   have key0:=fun f'=>key (NumS.mk true 0 0 0) f'
   simp only[ZB_,hasL,Bool.or_false,Bool.false_or,Bool.or_true,Bool.true_or,Nat.reduceBEq,beq_self_eq_true, ↓reduceIte,Bool.false_eq_true] at key0
   clear key
   repeat ((try with_reducible refine Cw.go [999999] ?_);(simp(disch:=(first|assumption|omega| (simp only[kK_,kw_,UInt64.reduceToNat];try omega))) only[↓Sx.S0,Sx.S1,Tryz.fx,zH_,Nat.reduceAdd,Nat.reducePow,Int.reducePow,Nat.reduceBEq, ↓reduceIte,UInt8.reduceToNat,UInt16.reduceToNat,UInt32.reduceToNat,UInt64.reduceToNat,Int.reduceToNat]))
   refine Ow.callFV rfl Tryz.call176 (fun w' hw'=>QG_ b s a 0 w' (hw'.has _ _ List.mem_cons_self)) ?_
   refine ko @zH_ ?_
   repeat ((try with_reducible refine Cw.go [999999] ?_);(simp(disch:=(first|assumption|omega| (simp only[kK_,kw_,UInt64.reduceToNat];try omega))) only[↓Sx.S0,Sx.S1,Tryz.fx,zH_,Nat.reduceAdd,Nat.reducePow,Int.reducePow,Nat.reduceBEq, ↓reduceIte,UInt8.reduceToNat,UInt16.reduceToNat,UInt32.reduceToNat,UInt64.reduceToNat,Int.reduceToNat]))
   repeat ((try with_reducible refine Cw.go [999999] ?_);(simp(disch:=(first|assumption|omega| (simp only[kK_,kw_,UInt64.reduceToNat];try omega))) only[↓Sx.S0,Sx.S1,Tryz.fx,zH_,Nat.reduceAdd,Nat.reducePow,Int.reducePow,Nat.reduceBEq, ↓reduceIte,UInt8.reduceToNat,UInt16.reduceToNat,UInt32.reduceToNat,UInt64.reduceToNat,Int.reduceToNat]))
   refine Cw.regionS [b] [0,1,2,4,3,5] [] (by kernel_rfl) (by kernel_rfl) (by kernel_rfl) ?_
   simp only[zl_, ↓zg_, ↓zc_, ↓zx_, ↓zw_,zd_]
   refine kq @zH_ ?_
   try with_reducible refine Ow.nil ?_
   repeat ((try with_reducible refine Cw.go [999999] ?_);(simp(disch:=(first|assumption|omega| (simp only[kK_,kw_,UInt64.reduceToNat];try omega))) only[↓Sx.S0,Sx.S1,Tryz.fx,zH_,Nat.reduceAdd,Nat.reducePow,Int.reducePow,Nat.reduceBEq, ↓reduceIte,UInt8.reduceToNat,UInt16.reduceToNat,UInt32.reduceToNat,UInt64.reduceToNat,Int.reduceToNat]))
   refine Cw.label ?_
   refine key0 _ ⟨by omega,rfl,by omega,by omega⟩ ?_
   rfl
 ·refine Cw.scopeS ?_
  first|with_reducible refine ks [] @zH_ ?_|refine kp @zH_ ?_
  refine Ow.callFV rfl Tryz.call176 (fun w' hw'=>QG_ b s a e w' (hw'.has _ _ List.mem_cons_self)) ?_
  refine ko @zH_ ?_
  first|with_reducible refine ks [] @zH_ ?_|refine kp @zH_ ?_
  unfold zD_
  refine⟨_,_,_,(ke @zH_),rfl,trivial, ?_⟩
  simp[he,xW_]
end Go.Proofs
end
section
open Go Go.Proofs Go.Sx
namespace Go.Proofs
set_option maxRecDepth 10000
set_option maxHeartbeats 2000000
set_option linter.unusedSimpArgs false
set_option linter.defProp false
def jp_:=And.intro (And.intro (And.intro (@kb_) (@ke_)) (And.intro (@kk_) (@xo_))) (And.intro (And.intro (@xy_) (@nilR)) (And.intro (@ar7_) (And.intro (@aqm_) (@any_))))
theorem aaW_ (most:Int): ∀ (l:List UInt8) (k n m k':Nat),z5_ most l k n= .ok (m,k')→k<k'∧k'≤k+l.length
 | [],k,n,m,k',h=>by cases h
 |c::r,k,n,m,k',h=>by
  unfold z5_ at h
  split at h
  ·split at h
   ·cases h
   ·have:=aaW_ most r (k+1) _ m k' h
    simp only[List.length_cons];omega
  ·split at h
   ·cases h
   ·split at h
    ·cases h;simp only[List.length_cons];omega
    ·cases h
theorem qO_ {s:List UInt8} {a:Nat} {e most:Int} (ha:a≤s.length):a≤ (zD_ s a e most).2.1∧(zD_ s a e most).2.1≤s.length:=by
 unfold zD_
 split
 ·exact⟨Nat.le_refl _,ha⟩
 ·cases h:z5_ most (s.drop a) 0 0 with
  |error x=>exact⟨Nat.le_refl _,ha⟩
  |ok p=>
   obtain⟨n,k⟩:=p
   have:=aaW_ most _ _ _ _ _ h
   rw[List.length_drop] at this
   exact⟨by show a≤a+k;omega,by show a+k≤s.length;omega⟩
theorem Ju_ {s:List UInt8} {a:Nat} {e n:Int} (ha:a≤s.length):a≤ (jw_ s a e n).2.1∧(jw_ s a e n).2.1≤s.length:=by
 unfold jw_
 split
 ·exact⟨Nat.le_refl _,ha⟩
 ·split
  ·exact⟨Nat.le_refl _,ha⟩
  ·split
   ·exact⟨Nat.le_refl _,ha⟩
   ·exact⟨by show a≤a+n.toNat;omega,by show a+n.toNat≤s.length;omega⟩
def zL_ (s:List UInt8) (a:Nat) (e most:Int):List UInt8×Nat×Int:=
 let p:=zD_ s a e most
 let q:=jw_ s p.2.1 p.2.2 p.1
 if q.2.2≠0 then([],a,q.2.2) else q
theorem Ji_ (b:Nat) (s:List UInt8) (a:Nat) (e most:Int) (w:World) (ha:a≤s.length) (hs:s.length<9223372036854775808) (ho:w.heap[b]? =some (.cells #[vs s,vi a,vi e] 250 (0,0))):
  Rets Tryz.prog 141 #[vp b 0,vi most] w (fun v D=> ∃o,D= [(b,o)]∧v=vs (zL_ s a e most).1∧o= .cells #[vs s,vi (zL_ s a e most).2.1,vi (zL_ s a e most).2.2] 250 (0,0)):=by
 refine Rets.enterM Tryz.func141 rfl (rs:= [.tmp 4]) Tryz.results141 Tryz.ntmps141 ho ?_
 refine kf ?_
 first|with_reducible refine ks [] @jp_ ?_|refine kp @jp_ ?_
 refine Ow.callFV rfl Tryz.call178 (fun w' hw'=>anH_ b s a e w' (hw'.has _ _ List.mem_cons_self)) ?_
 refine ko @jp_ ?_
 first|with_reducible refine ks [] @jp_ ?_|refine kp @jp_ ?_
 have hp:=qO_ (e:=e) (most:=most) ha
 unfold zL_
 refine Ow.callM rfl rfl Tryz.call179 (by simp[keys]) (fun w' hw'=>wJ_ b s a e most w' ha hs (hw'.has _ _ List.mem_cons_self)) ?_
 generalize zD_ s a e most=p at*
 obtain⟨n,a1,e1⟩:=p
 simp only at hp ⊢
 refine ko @jp_ ?_
 refine Ow.callM rfl rfl Tryz.call140 (by simp[keys]) (fun w' hw'=>KW_ b s a1 e1 n w' hp.2 hs (hw'.has _ _ List.mem_cons_self)) ?_
 have hq:=Ju_ (e:=e1) (n:=n) hp.2
 generalize jw_ s a1 e1 n=q at*
 obtain⟨t,a2,e2⟩:=q
 simp only at hq ⊢
 refine ko @jp_ ?_
 first|with_reducible refine ks [] @jp_ ?_|refine kp @jp_ ?_
 by_cases he:e2=0
 ·first|with_reducible refine ks [] @jp_ ?_|refine kp @jp_ ?_
  refine⟨_,_,_,(ke @jp_),rfl,trivial, ?_⟩
  simp[he,xW_]
 ·first|with_reducible refine ks [] @jp_ ?_|refine kp @jp_ ?_
  refine Ow.minI rfl rfl rfl ?_
  have hmin: (if(a:Int)< (a2:Int) then(a:Int) else(a2:Int))=a:=by split<;>omega
  rw[hmin]
  refine ko @jp_ ?_
  first|with_reducible refine ks [] @jp_ ?_|refine kp @jp_ ?_
  refine⟨_,_,_,(ke @jp_),rfl,trivial, ?_⟩
  simp[he,xW_]
def z32:List UInt8:=List.replicate 32 0
def idR (s:List UInt8) (a:Nat) (e:Int):List UInt8×Nat×Int:=
 let q:=jw_ s a e 32
 (if q.1.length=32 then q.1 else z32,q.2)
theorem ahF_ {s:List UInt8} {a:Nat} {e:Int} (_ha:a≤s.length): (jw_ s a e 32).1= []∨(jw_ s a e 32).1.length=32:=by
 unfold jw_
 split
 ·exact .inl rfl
 ·split
  ·exact .inl rfl
  ·split
   ·exact .inl rfl
   ·right
    show((s.drop a).take 32).length=32
    rw[List.length_take,List.length_drop];omega
theorem aqJ_ {t:List UInt8} (h:t= []∨t.length=32):Jf_ (a8 (List.replicate 32 0)) 0 ((t.take (min t.length 32)).map v8)=a8 (if t.length=32 then t else z32):=by
 rcases h with rfl|h
 ·rfl
 ·rw[if_pos h,h,Nat.min_self,List.take_of_length_le (by omega)]
  have:=ah6_ (t.map v8) [] ((List.replicate 32 (0:UInt8)).map v8) (by simp[h])
  simp only[List.nil_append,List.length_nil] at this
  show Jf_ ((List.replicate 32 (0:UInt8)).map v8).toArray 0 (t.map v8)=(t.map v8).toArray
  rw[this]
  rw[List.drop_eq_nil_of_le (by simp[h]),List.append_nil]
theorem aaA_ (b:Nat) (s:List UInt8) (a:Nat) (e:Int) (w:World) (ha:a≤s.length) (hs:s.length<9223372036854775808) (ho:w.heap[b]? =some (.cells #[vs s,vi a,vi e] 250 (0,0))):
  Rets Tryz.prog 227 #[vp b 0] w (fun v D=> ∃o,D= [(b,o)]∧v= .agg (a8 (idR s a e).1)∧o= .cells #[vs s,vi (idR s a e).2.1,vi (idR s a e).2.2] 250 (0,0)):=by
 have hbl:=(Array.getElem?_eq_some_iff.1 ho).1
 have hq:=ahF_ (e:=e) ha
 unfold idR
 refine Rets.enterM Tryz.func227 rfl (rs:= [.cell 2 84]) Tryz.results227 Tryz.ntmps227 ho ?_
 refine kf ?_
 first|with_reducible refine ks [] @jp_ ?_|refine kp @jp_ ?_
 refine Ow.alloc rfl rfl Tryz.zr84 fun b2 hb2 hw2=> ?_
 refine ko @jp_ ?_
 first|with_reducible refine ks [] @jp_ ?_|refine kp @jp_ ?_
 refine Ow.alloc rfl rfl Tryz.zr84 fun b3 hb3 hw3=> ?_
 obtain⟨h13,h23,-⟩:=hb3
 obtain⟨h12,-⟩:=hb2
 refine ko @jp_ ?_
 first|with_reducible refine ks [] @jp_ ?_|refine kp @jp_ ?_
 refine Cw.regionS [] [0,1,2,3] [] (by kernel_rfl) (by kernel_rfl) (by kernel_rfl) ?_
 simp only[zl_, ↓zg_, ↓zc_, ↓zx_, ↓zw_,zd_]
 refine kq @jp_ ?_
 refine Ow.soft rfl rfl rfl ?_
 refine Ow.callM rfl rfl Tryz.call140 (by simp[keys]) (fun w' hw'=>KW_ b s a e 32 w' ha hs (hw'.has _ _ List.mem_cons_self)) ?_
 generalize jw_ s a e 32=q at*
 obtain⟨t,a2,e2⟩:=q
 simp only at hq ⊢
 try with_reducible refine Ow.nil ?_
 refine⟨fun b hb=>absurd hb (by simp), ?_⟩
 simp(disch:=omega) only[xi_]
 refine Ow.soft rfl rfl rfl ?_
 refine Ow.copyText (cs:=a8 (List.replicate 32 0)) (E:=84) (e:=5) rfl rfl Tryz.underlying200 Tryz.ag5 rfl rfl (by simp(disch:=omega) only[qW_,z3_]) (by rw[v9_];simp) ?_
 rw[aqJ_ hq]
 have hil: (if t.length=32 then t else z32).length=32:=by
  split
  ·assumption
  ·simp[z32]
 generalize (if t.length=32 then t else z32)=id at*
 try with_reducible refine Ow.nil ?_
 refine⟨fun b hb=>absurd hb (by simp), ?_⟩
 simp(disch:=omega) only[xi_,xF_]
 refine kq @jp_ ?_
 try with_reducible refine Ow.nil ?_
 first|with_reducible refine ks [] @jp_ ?_|refine kp @jp_ ?_
 refine⟨_,_,_,(ke @jp_),rfl,⟨hw2,hw3,trivial⟩, ?_⟩
 exact⟨rfl,rfl⟩
theorem acf_ (s:List UInt8) (w:World):
  Rets Tryz.prog 138 #[vs s] w (fun v D=> ∃b,w.heap.size≤b∧v=vp b 0∧D= [(b, .cells #[vs s,vi 0,vi 0] 250 (0,0))]):=by
 refine Rets.enter Tryz.func138 rfl (rs:= [.tmp 2]) Tryz.results138 Tryz.ntmps138 ?_
 refine kf ?_
 first|with_reducible refine ks [] @jp_ ?_|refine kp @jp_ ?_
 refine Ow.build (.agg #[vs s,vi 0,vi 0]) rfl (by kernel_rfl) ?_
 refine ko @jp_ ?_
 refine Ow.box rfl rfl fun b1 hb1 hw1=> ?_
 refine ko @jp_ ?_
 first|with_reducible refine ks [] @jp_ ?_|refine kp @jp_ ?_
 refine⟨_,(by simp only[Wr_,abY_,ahK_,zV_,zX_,WA_];rfl),b1,hw1,rfl, ?_⟩
 rfl
end Go.Proofs
end
section
open Go Go.Proofs Go.Sx
namespace Go.Proofs
set_option maxRecDepth 10000
set_option maxHeartbeats 4000000
set_option linter.unusedSimpArgs false
set_option linter.defProp false
def zC_:=And.intro (And.intro (And.intro (@zp_) (@wd_)) (And.intro (@v4_) (And.intro (@vP_) (@zo_)))) (And.intro (And.intro (@kb_) (@ke_)) (And.intro (@kk_) (And.intro (@xo_) (@xy_))))
theorem ZZ_ (b:Nat) (s:List UInt8) (a:Nat) (e n:Int) (w:World) (ha:a≤s.length) (hs:s.length<1099511627776) (ho:w.heap[b]? =some (.cells #[vs s,vi a,vi e] 217 (0,0))):
  Rets Tryz.prog 182 #[vp b 0,vi n] w (fun v D=> ∃o,D= [(b,o)]∧v=vs (jw_ s a e n).1∧o= .cells #[vs s,vi (jw_ s a e n).2.1,vi (jw_ s a e n).2.2] 217 (0,0)):=by
 refine Rets.enterM Tryz.func182 rfl (rs:= [.tmp 4]) Tryz.results182 Tryz.ntmps182 ho ?_
 refine kf ?_
 first|with_reducible refine ks [] @zC_ ?_|refine kp @zC_ ?_
 unfold jw_
 by_cases he:e=0
 ·subst he
  rw[if_neg (fun h=>h rfl)]
  first|with_reducible refine ks [] @zC_ ?_|refine kp @zC_ ?_
  by_cases hn:n<0
  ·rw[if_pos hn]
   first|with_reducible refine ks [] @zC_ ?_|refine kp @zC_ ?_
   refine⟨_,_,_,(ke @zC_),rfl,trivial, ?_⟩
   exact⟨rfl,rfl⟩
  ·rw[if_neg hn]
   first|with_reducible refine ks [] @zC_ ?_|refine kp @zC_ ?_
   refine Cw.regionS [b] [0,1,2,5,6,7,10,3,4,8,9,11] [] (by kernel_rfl) (by kernel_rfl) (by kernel_rfl) ?_
   simp only[zl_, ↓zg_, ↓zc_, ↓zx_, ↓zw_,zd_]
   refine kq @zC_ ?_
   try with_reducible refine Ow.nil ?_
   first|with_reducible refine ks [] @zC_ ?_|refine kp @zC_ ?_
   by_cases hl: (s.length:Int) - a<n
   ·rw[if_pos hl]
    first|with_reducible refine ks [] @zC_ ?_|refine kp @zC_ ?_
    refine⟨_,_,_,(ke @zC_),rfl,trivial, ?_⟩
    exact⟨rfl,rfl⟩
   ·rw[if_neg hl]
    obtain⟨m,rfl⟩: ∃m:Nat,n=(m:Int):=⟨n.toNat,by omega⟩
    first|with_reducible refine ks [] @zC_ ?_|refine kp @zC_ ?_
    refine Cw.regionS [b] [0,1,2,4,5,6,8,9,10,12,3,7,11,13,14,15] [] (by kernel_rfl) (by kernel_rfl) (by kernel_rfl) ?_
    simp only[zl_, ↓zg_, ↓zc_, ↓zx_, ↓zw_,zd_]
    refine kq @zC_ ?_
    try with_reducible refine Ow.nil ?_
    first|with_reducible refine ks [] @zC_ ?_|refine kp @zC_ ?_
    refine⟨_,_,_,(ke @zC_),rfl,trivial, ?_⟩
    refine⟨?_, ?_⟩
    ·simp only[xW_,Int.toNat_natCast]
     rw[List.drop_take,Nat.add_sub_cancel_left]
    ·rw[Int.toNat_natCast,Int.natCast_add]
 ·rw[if_pos he]
  first|with_reducible refine ks [] @zC_ ?_|refine kp @zC_ ?_
  refine⟨_,_,_,(ke @zC_),rfl,trivial, ?_⟩
  exact⟨rfl,rfl⟩
theorem v5_ (b:Nat) (s:List UInt8) (a e:Int) (w:World) (ho:w.heap[b]? =some (.cells #[vs s,vi a,vi e] 217 (0,0))):
  Rets Tryz.prog 145 #[vp b 0] w (fun v D=>v=vi (if e≠0 then e else if a<s.length then 5 else 0)∧D= []):=by
 refine Rets.enterV Tryz.func145 rfl (rs:= [.tmp 2]) Tryz.results145 Tryz.ntmps145 ?_
 refine kf ?_
 first|with_reducible refine ks [] (And.intro @zC_ @ho) ?_|refine kp (And.intro @zC_ @ho) ?_
 by_cases he:e=0
 ·first|with_reducible refine ks [] @zC_ ?_|refine kp @zC_ ?_
  refine Cw.regionS [b] [0,1,2,4,5,6,3,7,8,9] [] (by kernel_rfl) (by kernel_rfl) (by kernel_rfl) ?_
  simp only[zl_, ↓zg_, ↓zc_, ↓zx_, ↓zw_,zd_]
  refine kq (And.intro @zC_ @ho) ?_
  try with_reducible refine Ow.nil ?_
  first|with_reducible refine ks [] @zC_ ?_|refine kp @zC_ ?_
  refine cdC.splitp (fun hc=> ?_) (fun hc=> ?_)
  ·first|with_reducible refine ks [] @zC_ ?_|refine kp @zC_ ?_
   refine⟨_,(ke @zC_),trivial, ?_⟩
   simp[hc,he,xW_]
  ·first|with_reducible refine ks [] @zC_ ?_|refine kp @zC_ ?_
   refine⟨_,(ke @zC_),trivial, ?_⟩
   simp[hc,he,xW_]
 ·first|with_reducible refine ks [] (And.intro @zC_ @ho) ?_|refine kp (And.intro @zC_ @ho) ?_
  refine⟨_,(ke @zC_),trivial, ?_⟩
  simp[he,xW_]
structure KN where
 k:Nat
 n:Nat
theorem xP_ (b:Nat) (s:List UInt8) (a:Nat) (e most:Int) (w:World) (ha:a≤s.length) (hs:s.length<1099511627776) (ho:w.heap[b]? =some (.cells #[vs s,vi a,vi e] 217 (0,0))):
  Rets Tryz.prog 146 #[vp b 0,vi most] w (fun v D=> ∃o,D= [(b,o)]∧v=vi (zD_ s a e most).1∧o= .cells #[vs s,vi (zD_ s a e most).2.1,vi (zD_ s a e most).2.2] 217 (0,0)):=by
 refine Rets.enterM Tryz.func146 rfl (rs:= [.tmp 4]) Tryz.results146 Tryz.ntmps146 ho ?_
 refine kf ?_
 first|with_reducible refine ks [] @zC_ ?_|refine kp @zC_ ?_
 by_cases he:e=0
 ·subst he
  first|with_reducible refine ks [] @zC_ ?_|refine kp @zC_ ?_
  refine Cw.loopG (G:=KN) [14,15,18,19,20,21,22,23,24,25,26,27,28,29,30,31,32,4,33,34,35,36,37,38,39,40,41,42,43,44,8,45,46,47,48,49,50,5,51,52,6,53,54,55,56,57,58,59,60,61,62,63,64,65,66,67,68,69,70,71,72,73,74,75,76,77,78,79,80,81,82,83,84,16,17,7] (fun g=> [(5,vi g.n),(6,vi (128^g.k:Nat)),(7,vi g.k)]) (fun g=> [(b, .cells #[vs s,vi a,vi 0] 217 (0,0))]) (fun g=>g.k≤6∧(g.k<6→z5_ most (s.drop a) 0 0=z5_ most (s.drop (a+g.k)) g.k g.n∧a+g.k≤s.length∧g.n<128^g.k)∧(g.k=6→z5_ most (s.drop a) 0 0= .error 4)) (fun g=>6 - g.k) ⟨0,0⟩ rfl rfl ?_ ?_
  ·exact⟨by simp,fun _=>⟨rfl,by simpa using ha,by simp⟩,fun h=>by cases h⟩
  intro g j hg
  refine kv ?_
  obtain⟨k,n⟩:=g
  simp only at hg ⊢
  obtain⟨hk6,hg1,hg2⟩:=hg
  by_cases hk:k<6
  ·obtain⟨hgo,hak,hn⟩:=hg1 hk
   first|with_reducible refine ks [] @zC_ ?_|refine kp @zC_ ?_
   refine Cw.regionS [b] [0,1,2,4,6,7,8,3,5,9,10,11] [] (by kernel_rfl) (by kernel_rfl) (by kernel_rfl) ?_
   simp only[zl_, ↓zg_, ↓zc_, ↓zx_, ↓zw_,zd_]
   refine kq @zC_ ?_
   try with_reducible refine Ow.nil ?_
   first|with_reducible refine ks [] @zC_ ?_|refine kp @zC_ ?_
   by_cases hend:a+k=s.length
   ·first|with_reducible refine ks [] @zC_ ?_|refine kp @zC_ ?_
    rw[j3_ (x:=3) rfl (by rw[hgo,hend,List.drop_length];rfl)]
    refine⟨_,_,_,(ke @zC_),rfl,trivial, ?_⟩
    exact⟨rfl,rfl⟩
   ·have hak':a+k<s.length:=by omega
    have hdrop:s.drop (a+k)=s.getD (a+k) 0::s.drop (a+k+1):=by
     rw[List.drop_eq_getElem_cons hak',List.getD_eq_getElem?_getD,List.getElem?_eq_getElem hak'];rfl
    rw[hdrop] at hgo
    first|with_reducible refine ks [] @zC_ ?_|refine kp @zC_ ?_
    refine Cw.regionS [b] [0,1,2,4,5,6,8,3,7,9,10,11,12] [] (by kernel_rfl) (by kernel_rfl) (by kernel_rfl) ?_
    simp only[zl_, ↓zg_, ↓zc_, ↓zx_, ↓zw_,zd_]
    have hcast: ((a:Int)+ (k:Int))=((a+k:Nat):Int):=by omega
    refine kq (And.intro @zC_ @hcast) ?_
    try with_reducible refine Ow.nil ?_
    generalize s.getD (a+k) 0=c at*
    have hp:128^k≤34359738368:=Nat.pow_le_pow_right (by omega) (show k≤5 by omega)
    have hp0:0<128^k:=Nat.pow_pos (by omega)
    have hcl:=c.toNat_lt
    have hdm:c.toNat%128*128^k≤127*128^k:=Nat.mul_le_mul_right _ (by omega)
    have hcm: ((c.toNat:Int)%128)=((c.toNat%128:Nat):Int):=by omega
    have hmul:zr_ .mul (vi ((c.toNat%128:Nat):Int)) (vi ((128^k:Nat):Int))=some (vi ((c.toNat%128*128^k:Nat):Int)):=by
     rw[acx_ _ _ (by rw[←Int.natCast_mul];omega),←Int.natCast_mul]
    have hpow: (((128^k:Nat):Int)*128)=((128^ (k+1):Nat):Int):=by rw[Nat.pow_succ,Int.natCast_mul];rfl
    have hlt:n+c.toNat%128*128^k<128^ (k+1):=by rw[Nat.pow_succ];omega
    first|with_reducible refine ks [] (And.intro @zC_ (And.intro @hcm (And.intro @hmul (@hpow)))) ?_|refine kp (And.intro @zC_ (And.intro @hcm (And.intro @hmul (@hpow)))) ?_
    rw[show((n:Int)+ ((c.toNat%128*128^k:Nat):Int))=((n+c.toNat%128*128^k:Nat):Int) from(Int.natCast_add _ _).symm]
    by_cases hc128:128≤c.toNat
    ·first|with_reducible refine ks [] @zC_ ?_|refine kp @zC_ ?_
     refine Again.mk (KN.mk (k+1) (n+c.toNat%128*128^k)) (by show 6 - (k+1)<6 - k;omega) ⟨by show k+1≤6;omega,fun h=>⟨?_,by show a+ (k+1)≤s.length;omega,hlt⟩,fun h=> ?_⟩ rfl rfl
     ·show z5_ most (s.drop a) 0 0=z5_ most (s.drop (a+ (k+1))) (k+1) (n+c.toNat%128*128^k)
      have h':k+1<6:=h
      rw[hgo,z5_,if_pos hc128,if_neg (by omega)]
      rfl
     ·have h':k+1=6:=h
      rw[hgo,z5_,if_pos hc128,if_pos h']
    ·by_cases hz:c.toNat=0
     ·have e0: ((c.toNat:Int)==0)=true:=by simp[hz]
      first|with_reducible refine ks [] (And.intro @zC_ @e0) ?_|refine kp (And.intro @zC_ @e0) ?_
      by_cases hk0:0<k
      ·first|with_reducible refine ks [] @zC_ ?_|refine kp @zC_ ?_
       rw[j3_ (x:=2) rfl (by rw[hgo,z5_,if_neg hc128,if_pos ⟨hz,hk0⟩])]
       refine⟨_,_,_,(ke @zC_),rfl,trivial, ?_⟩
       exact⟨rfl,rfl⟩
      ·have hc0: ¬ (c.toNat=0∧0<k):=fun h=>hk0 h.2
       first|with_reducible refine ks [] @zC_ ?_|refine kp @zC_ ?_
       by_cases hm:n+c.toNat%128*128^k≤1099511627775
       ·have e1:decide ((1099511627775:Int)< ((n+c.toNat%128*128^k:Nat):Int))=false:=decide_eq_false (by omega)
        first|with_reducible refine ks [] (And.intro @zC_ @e1) ?_|refine kp (And.intro @zC_ @e1) ?_
        by_cases hmo: ((n+c.toNat%128*128^k:Nat):Int)≤most
        ·first|with_reducible refine ks [] @zC_ ?_|refine kp @zC_ ?_
         rw[K0_ rfl (by rw[hgo,z5_,if_neg hc128,if_neg hc0,if_pos ⟨hm,hmo⟩])]
         refine⟨_,_,_,(ke @zC_),rfl,trivial, ?_⟩
         exact⟨rfl,rfl⟩
        ·first|with_reducible refine ks [] @zC_ ?_|refine kp @zC_ ?_
         rw[j3_ (x:=4) rfl (by rw[hgo,z5_,if_neg hc128,if_neg hc0,if_neg (fun h=>hmo h.2)])]
         refine⟨_,_,_,(ke @zC_),rfl,trivial, ?_⟩
         exact⟨rfl,rfl⟩
       ·have e1:decide ((1099511627775:Int)< ((n+c.toNat%128*128^k:Nat):Int))=true:=decide_eq_true (by omega)
        first|with_reducible refine ks [] (And.intro @zC_ @e1) ?_|refine kp (And.intro @zC_ @e1) ?_
        rw[j3_ (x:=4) rfl (by rw[hgo,z5_,if_neg hc128,if_neg hc0,if_neg (fun h=>hm h.1)])]
        refine⟨_,_,_,(ke @zC_),rfl,trivial, ?_⟩
        exact⟨rfl,rfl⟩
     ·have e0: ((c.toNat:Int)==0)=false:=by simp;omega
      have hc0: ¬ (c.toNat=0∧0<k):=fun h=>hz h.1
      first|with_reducible refine ks [] (And.intro @zC_ @e0) ?_|refine kp (And.intro @zC_ @e0) ?_
      by_cases hm:n+c.toNat%128*128^k≤1099511627775
      ·have e1:decide ((1099511627775:Int)< ((n+c.toNat%128*128^k:Nat):Int))=false:=decide_eq_false (by omega)
       first|with_reducible refine ks [] (And.intro @zC_ @e1) ?_|refine kp (And.intro @zC_ @e1) ?_
       by_cases hmo: ((n+c.toNat%128*128^k:Nat):Int)≤most
       ·first|with_reducible refine ks [] @zC_ ?_|refine kp @zC_ ?_
        rw[K0_ rfl (by rw[hgo,z5_,if_neg hc128,if_neg hc0,if_pos ⟨hm,hmo⟩])]
        refine⟨_,_,_,(ke @zC_),rfl,trivial, ?_⟩
        exact⟨rfl,rfl⟩
       ·first|with_reducible refine ks [] @zC_ ?_|refine kp @zC_ ?_
        rw[j3_ (x:=4) rfl (by rw[hgo,z5_,if_neg hc128,if_neg hc0,if_neg (fun h=>hmo h.2)])]
        refine⟨_,_,_,(ke @zC_),rfl,trivial, ?_⟩
        exact⟨rfl,rfl⟩
      ·have e1:decide ((1099511627775:Int)< ((n+c.toNat%128*128^k:Nat):Int))=true:=decide_eq_true (by omega)
       first|with_reducible refine ks [] (And.intro @zC_ @e1) ?_|refine kp (And.intro @zC_ @e1) ?_
       rw[j3_ (x:=4) rfl (by rw[hgo,z5_,if_neg hc128,if_neg hc0,if_neg (fun h=>hm h.1)])]
       refine⟨_,_,_,(ke @zC_),rfl,trivial, ?_⟩
       exact⟨rfl,rfl⟩
  ·have hke:k=6:=by omega
   first|with_reducible refine ks [] @zC_ ?_|refine kp @zC_ ?_
   rw[j3_ (x:=4) rfl (hg2 hke)]
   refine⟨_,_,_,(ke @zC_),rfl,trivial, ?_⟩
   exact⟨rfl,rfl⟩
 ·first|with_reducible refine ks [] @zC_ ?_|refine kp @zC_ ?_
  unfold zD_
  refine⟨_,_,_,(ke @zC_),rfl,trivial, ?_⟩
  simp[he,xW_]
end Go.Proofs
end
section
open Go Go.Proofs Go.Sx
namespace Go.Proofs
set_option maxRecDepth 10000
set_option maxHeartbeats 4000000
set_option linter.unusedSimpArgs false
set_option linter.defProp false
def jG_:=And.intro (And.intro (And.intro (@zp_) (@wd_)) (And.intro (@v4_) (And.intro (@vP_) (@zo_)))) (And.intro (And.intro (@kb_) (@ke_)) (And.intro (@kk_) (And.intro (@xo_) (@xy_))))
theorem kZ_ (b:Nat) (s:List UInt8) (a:Nat) (e most:Int) (w:World) (ha:a≤s.length) (hs:s.length<1099511627776) (ho:w.heap[b]? =some (.cells #[vs s,vi a,vi e] 217 (0,0))):
  Rets Tryz.prog 144 #[vp b 0,vi most] w (fun v D=> ∃o,D= [(b,o)]∧v=vs (zL_ s a e most).1∧o= .cells #[vs s,vi (zL_ s a e most).2.1,vi (zL_ s a e most).2.2] 217 (0,0)):=by
 refine Rets.enterM Tryz.func144 rfl (rs:= [.tmp 4]) Tryz.results144 Tryz.ntmps144 ho ?_
 refine kf ?_
 first|with_reducible refine ks [] @jG_ ?_|refine kp @jG_ ?_
 by_cases he:e=0
 ·first|with_reducible refine ks [] @jG_ ?_|refine kp @jG_ ?_
  have hp:=qO_ (e:=e) (most:=most) ha
  unfold zL_
  refine Ow.callM rfl rfl Tryz.call146 (by simp[keys]) (fun w' hw'=>xP_ b s a e most w' ha hs (hw'.has _ _ List.mem_cons_self)) ?_
  generalize zD_ s a e most=p at*
  obtain⟨n,a1,e1⟩:=p
  simp only at hp ⊢
  refine ko @jG_ ?_
  first|with_reducible refine ks [] @jG_ ?_|refine kp @jG_ ?_
  refine Ow.callM rfl rfl Tryz.call182 (by simp[keys]) (fun w' hw'=>ZZ_ b s a1 e1 n w' hp.2 hs (hw'.has _ _ List.mem_cons_self)) ?_
  generalize jw_ s a1 e1 n=q at*
  obtain⟨t,a2,e2⟩:=q
  simp only
  refine ko @jG_ ?_
  first|with_reducible refine ks [] @jG_ ?_|refine kp @jG_ ?_
  by_cases he2:e2=0
  ·first|with_reducible refine ks [] @jG_ ?_|refine kp @jG_ ?_
   refine⟨_,_,_,(ke @jG_),rfl,trivial, ?_⟩
   simp[he2,xW_]
  ·first|with_reducible refine ks [] @jG_ ?_|refine kp @jG_ ?_
   refine⟨_,_,_,(ke @jG_),rfl,trivial, ?_⟩
   simp[he2,xW_]
 ·first|with_reducible refine ks [] @jG_ ?_|refine kp @jG_ ?_
  have:zL_ s a e most=([],a,e):=by
   unfold zL_ zD_ jw_
   simp[he]
  rw[this]
  refine⟨_,_,_,(ke @jG_),rfl,trivial, ?_⟩
  exact⟨rfl,rfl⟩
def aaL_ (t:List UInt8) (g:Nat):List UInt8:=t.take g++List.replicate (32 - g) 0
theorem amQ_ (t:List UInt8) (g:Nat) (h:g≤t.length) (h2:t.length≤32): (aaL_ t g).length=32:=by
 unfold aaL_;rw[List.length_append,List.length_take,List.length_replicate];omega
theorem ajx_ (t:List UInt8) (g:Nat) (h:g<t.length) (h2:t.length≤32): (aaL_ t g).set g (t.getD g 0)=aaL_ t (g+1):=by
 unfold aaL_
 have hl: (t.take g).length=g:=by rw[List.length_take];omega
 obtain⟨m,hm⟩: ∃m,32 - g=m+1:=⟨31 - g,by omega⟩
 rw[hm,List.replicate_succ,List.set_append_right _ _ (by omega),hl,Nat.sub_self,List.set_cons_zero,List.take_succ_eq_append_getElem h,List.getD_eq_getElem?_getD,List.getElem?_eq_getElem h,show 32 - (g+1)=m by omega,List.append_assoc]
 rfl
theorem akw_ (t:List UInt8) (h:t= []∨t.length=32):aaL_ t t.length=(if t.length=32 then t else z32):=by
 unfold aaL_
 rcases h with rfl|h
 ·rfl
 ·rw[if_pos h,h,List.take_of_length_le (by omega)];simp
theorem JN_ (b:Nat) (s:List UInt8) (a:Nat) (e:Int) (w:World) (ha:a≤s.length) (hs:s.length<1099511627776) (ho:w.heap[b]? =some (.cells #[vs s,vi a,vi e] 217 (0,0))):
  Rets Tryz.prog 147 #[vp b 0] w (fun v D=> ∃o,D= [(b,o)]∧v= .agg (a8 (idR s a e).1)∧o= .cells #[vs s,vi (idR s a e).2.1,vi (idR s a e).2.2] 217 (0,0)):=by
 have hbl:=(Array.getElem?_eq_some_iff.1 ho).1
 have hq:=ahF_ (e:=e) ha
 unfold idR
 refine Rets.enterM Tryz.func147 rfl (rs:= [.cell 2 84]) Tryz.results147 Tryz.ntmps147 ho ?_
 refine kf ?_
 first|with_reducible refine ks [] @jG_ ?_|refine kp @jG_ ?_
 refine Ow.alloc rfl rfl Tryz.zr84 fun b2 hb2 hw2=> ?_
 obtain⟨h12,-⟩:=hb2
 refine ko @jG_ ?_
 first|with_reducible refine ks [] @jG_ ?_|refine kp @jG_ ?_
 refine Ow.callM rfl rfl Tryz.call182 (by simp[keys]) (fun w' hw'=>ZZ_ b s a e 32 w' ha hs (hw'.has _ _ List.mem_cons_self)) ?_
 generalize jw_ s a e 32=q at*
 obtain⟨t,a2,e2⟩:=q
 simp only at hq ⊢
 have ht32:t.length≤32:=by rcases hq with rfl|h<;>simp_all
 refine ko @jG_ ?_
 first|with_reducible refine ks [] @jG_ ?_|refine kp @jG_ ?_
 refine Ow.alloc rfl rfl Tryz.zr84 fun b3 hb3 hw3=> ?_
 refine ko @jG_ ?_
 obtain⟨h13,h23,-⟩:=hb3
 rw[show a8 (List.replicate 32 0)=a8 (aaL_ t 0) from rfl]
 first|with_reducible refine ks [] @jG_ ?_|refine kp @jG_ ?_
 refine Cw.loopG (G:=Nat) [8,9,10,11,14,15,16,17,18,12,13,5] (fun g=> [(5,vi g)]) (fun g=> [(b, .cells #[vs s,vi a2,vi e2] 217 (0,0)),(b2, .cells (a8 z32) 84 (0,0)),(b3, .cells (a8 (aaL_ t g)) 84 (0,0))]) (fun g=>g≤t.length) (fun g=>t.length - g) 0 rfl rfl ?_ ?_
 ·omega
 intro g j hg
 refine kv ?_
 by_cases hlt:g<t.length
 ·have hil:=amQ_ t g hg ht32
  first|with_reducible refine ks [] @jG_ ?_|refine kp @jG_ ?_
  refine Again.mk (g+1) (by omega) (by omega) ?_ rfl
  rw[ajx_ t g hlt ht32]
 ·obtain rfl:g=t.length:=by omega
  rw[akw_ t hq]
  have hil: (if t.length=32 then t else z32).length=32:=by
   split
   ·assumption
   ·simp[z32]
  have hz32:z32.length=32:=by simp[z32]
  generalize (if t.length=32 then t else z32)=id at*
  first|with_reducible refine ks [] @jG_ ?_|refine kp @jG_ ?_
  refine⟨_,_,_,(ke @jG_),rfl,⟨hw2,hw3,trivial⟩, ?_⟩
  exact⟨rfl,rfl⟩
end Go.Proofs
end
section
open Go Go.Proofs Go.Sx Go.StP
namespace Go.Proofs
set_option maxRecDepth 10000
set_option maxHeartbeats 4000000
set_option linter.unusedSimpArgs false
structure EntL where
 name:List UInt8
 kind:Int
 id:IdL
def jq_ (r:EntL):List Value:= [vs r.name]++ ([vi r.kind]++ (r.id.l.map v8))
def jT_:EntL:=⟨[],0,id0⟩
theorem jr_ (r:EntL): (jq_ r).length=34:=by simp[jq_,r.id.h]
theorem kJ_ (r:EntL):Value.cells (.agg (jq_ r).toArray)=(jq_ r).toArray:=za_ _
theorem aaO_ (r:EntL): (jq_ r).all Value.oneCell'=true:=by
 unfold jq_
 simp only[List.all_append,List.all_cons,List.all_nil,XL_,Bool.and_true,Bool.true_and]
 rfl
theorem aaK_:zM_ Tryz.prog 221=some (.agg (jq_ jT_).toArray):=id (by kernel_rfl)
theorem ahl_:z0_ Tryz.prog 221=some (true,34):=id (by kernel_rfl)
theorem aaC_ (r:EntL):jq_ r=([]:List Value)++ (([vs r.name])++ ([vi r.kind]++ (r.id.l.map v8))):=by
 unfold jq_;simp only[List.append_assoc,List.nil_append,List.append_nil]
theorem X7_ (r:EntL) (n:Nat) (E:TypeId) (fz:Nat×Nat):zt_ (some (false,n)) (some (.cells (jq_ r).toArray E fz)) 0=some (vs r.name):=by
 rw[aaC_];exact j4_ _ _ _ n E fz (by simp)
theorem QF_ {w:World} {v:Value} {l:List EntL} {b off:Nat} {arr:Array Value} {E:TypeId} {fz:Nat×Nat} (h:RowS 34 jq_ jT_ w v l b off arr E fz) {k:Nat} (hk:k<l.length) (n:Nat):zt_ (some (false,n)) (some (.cells arr E fz)) (off+k*34+0)=some (vs (l.getD k jT_).name):=by
 rw[RowS.cell h hk (by omega)];generalize l.getD k jT_=r;rw[aaC_];exact aaF_ _ _ _ (by simp)
theorem Wu_ (r:EntL) (x:List UInt8) (a:Bool) (E:TypeId):zv_ (some (a,1)) (some (.cells (jq_ r).toArray E (0,0))) 0 (vs x)=some (.cells (jq_ {r with name:=x}).toArray E (0,0)):=by
 rw[aaC_ r,aaC_ {r with name:=x}];exact zO_ _ _ _ _ a _ E (by simp) rfl (rfl) rfl (rfl)
theorem aaR_ (r:EntL):jq_ r=(([vs r.name]))++ (([vi r.kind])++ (r.id.l.map v8)):=by
 unfold jq_;simp only[List.append_assoc,List.nil_append,List.append_nil]
theorem Vb_ (r:EntL) (n:Nat) (E:TypeId) (fz:Nat×Nat):zt_ (some (false,n)) (some (.cells (jq_ r).toArray E fz)) 1=some (vi r.kind):=by
 rw[aaR_];exact j4_ _ _ _ n E fz (by simp)
theorem aif_ {w:World} {v:Value} {l:List EntL} {b off:Nat} {arr:Array Value} {E:TypeId} {fz:Nat×Nat} (h:RowS 34 jq_ jT_ w v l b off arr E fz) {k:Nat} (hk:k<l.length) (n:Nat):zt_ (some (false,n)) (some (.cells arr E fz)) (off+k*34+1)=some (vi (l.getD k jT_).kind):=by
 rw[RowS.cell h hk (by omega)];generalize l.getD k jT_=r;rw[aaR_];exact aaF_ _ _ _ (by simp)
theorem Wg_ (r:EntL) (x:Int) (a:Bool) (E:TypeId):zv_ (some (a,1)) (some (.cells (jq_ r).toArray E (0,0))) 1 (vi x)=some (.cells (jq_ {r with kind:=x}).toArray E (0,0)):=by
 rw[aaR_ r,aaR_ {r with kind:=x}];exact zO_ _ _ _ _ a _ E (by simp) rfl (rfl) rfl (rfl)
theorem aaY_ (r:EntL):jq_ r=(([vs r.name])++ ([vi r.kind]))++ ((r.id.l.map v8)++ (([]:List Value))):=by
 unfold jq_;simp only[List.append_assoc,List.nil_append,List.append_nil]
theorem Km_ (r:EntL) (E:TypeId) (fz:Nat×Nat):zt_ (some (true,32)) (some (.cells (jq_ r).toArray E fz)) 2=some (Value.agg (a8 r.id.l)):=by
 rw[aaY_,Q8_ _ _ _ E fz (by simp) (by simp[r.id.h])];rfl
theorem asM_ (r:EntL): (jq_ r).toArray.extract 2 34=a8 r.id.l:=by
 rw[aaY_];exact akZ_ (o:=2) (n:=32) _ _ _ (by simp) (by simp[r.id.h])
theorem aod_ {w:World} {v:Value} {l:List EntL} {b off:Nat} {arr:Array Value} {E:TypeId} {fz:Nat×Nat} (h:RowS 34 jq_ jT_ w v l b off arr E fz) {k:Nat} (hk:k<l.length):zt_ (some (true,32)) (some (.cells arr E fz)) (off+k*34+2)=some (Value.agg (a8 (l.getD k jT_).id.l)):=by
 rw[RowS.part h jr_ hk (by omega) (by omega),asM_]
theorem WZ_ (r:EntL) (x:IdL) (a:Bool) (E:TypeId):zv_ (some (a,32)) (some (.cells (jq_ r).toArray E (0,0))) 2 (Value.agg (a8 x.l))=some (.cells (jq_ {r with id:=x}).toArray E (0,0)):=by
 rw[aaY_ r,aaY_ {r with id:=x}];exact zO_ _ _ _ _ a _ E (by simp) (by simp[r.id.h]) (za_ _) (by simp[x.h]) (XL_ _)
theorem QJ_ (r:EntL) (E:TypeId) (fz:Nat×Nat):zt_ (some (true,34)) (some (.cells (jq_ r).toArray E fz)) 0=some (.agg (jq_ r).toArray):=kR_ _ E fz 34 (by rw[List.size_toArray,jr_])
theorem akG_ (old:Array Value) (r:EntL) (a:Bool) (E:TypeId) (h:old.size=34):zv_ (some (a,34)) (some (.cells old E (0,0))) 0 (.agg (jq_ r).toArray)=some (.cells (jq_ r).toArray E (0,0)):=ky_ _ a old E (jr_ r) (aaO_ r) h
theorem kr_ (r r':EntL) (a:Bool) (E:TypeId):zv_ (some (a,34)) (some (.cells (jq_ r').toArray E (0,0))) 0 (.agg (jq_ r).toArray)=some (.cells (jq_ r).toArray E (0,0)):=akG_ _ r a E (by rw[List.size_toArray,jr_])
theorem ase_ {w:World} {v:Value} {l:List EntL} {b off:Nat} {arr:Array Value} {E:TypeId} {fz:Nat×Nat} (h:RowS 34 jq_ jT_ w v l b off arr E fz) {k:Nat} (hk:k<l.length):zt_ (some (true,34)) (some (.cells arr E fz)) (off+k*34)=some (.agg (jq_ (l.getD k jT_)).toArray):=RowS.load h jr_ (by omega) hk
theorem ar2_ (a b:List UInt8): (!(Op.bytesLess a b||a==b))=ltB b a:=by
 cases h:ltB a b
 ·have h':Op.bytesLess a b=false:=h
  rw[h',Bool.false_or]
  by_cases e:a=b
  ·subst e;rw[h];simp
  ·rw[KG_ h e];simp[e]
 ·have h':Op.bytesLess a b=true:=h
  rw[h',alJ_ h];rfl
set_option linter.defProp false
end Go.Proofs
end
section
open Go Go.Proofs Go.Sx Go.StP
namespace Go.Proofs
set_option maxRecDepth 10000
set_option maxHeartbeats 4000000
set_option linter.unusedSimpArgs false
section
variable {α:Type} {a x m y c:List α} {i k:Nat} {z:α}
end
set_option linter.defProp false
end Go.Proofs
end
section
open Go Go.Proofs Go.Sx Go.StP
namespace Go.Proofs
set_option maxRecDepth 10000
set_option maxHeartbeats 4000000
set_option linter.unusedSimpArgs false
abbrev aqT_ (l:List EntL):Prop:=StP.Sorted EntL.name l
abbrev StE (l l':List EntL):Prop:=StP.St EntL.name l l'
set_option linter.defProp false
end Go.Proofs
end
section
open Go Go.Proofs Go.Sx Go.StP
namespace Go.Proofs
set_option maxRecDepth 10000
set_option maxHeartbeats 4000000
set_option linter.unusedSimpArgs false
set_option linter.defProp false
end Go.Proofs
end
section
open Go Go.Proofs Go.Sx Go.StP
namespace Go.Proofs
set_option maxRecDepth 10000
set_option maxHeartbeats 4000000
set_option linter.unusedSimpArgs false
set_option linter.defProp false
end Go.Proofs
end
section
open Go Go.Proofs Go.Sx Go.StP
namespace Go.Proofs
set_option maxRecDepth 10000
set_option maxHeartbeats 4000000
set_option linter.unusedSimpArgs false
end Go.Proofs
end
section
open Go Go.Proofs Go.Sx Go.StP
namespace Go.Proofs
set_option maxRecDepth 10000
set_option maxHeartbeats 4000000
set_option linter.unusedSimpArgs false
abbrev EntS (w:World) (v:Value) (l:List EntL):Prop:=SlV 34 jq_ jT_ w v l
set_option linter.defProp false
end Go.Proofs
end
section
open Go Go.Proofs Go.Sx Go.StP
namespace Go.Proofs
set_option maxRecDepth 10000
set_option maxHeartbeats 4000000
set_option linter.unusedSimpArgs false
set_option linter.defProp false
end Go.Proofs
end
section
open Go Go.Proofs Go.Sx Go.StP
namespace Go.Proofs
set_option maxRecDepth 10000
set_option maxHeartbeats 4000000
set_option linter.unusedSimpArgs false
def SortOf (l Z:List EntL):Prop:=Z.length=l.length∧aqT_ Z∧StE l Z
theorem SortOf.eq {l Z Z':List EntL} (h:SortOf l Z) (h':SortOf l Z'):Z=Z':=StP.St.eq h.2.1 h'.2.1 (h.2.2.symm.trans h'.2.2)
end Go.Proofs
end
section
open Go Go.Proofs Go.Sx
namespace Go.Proofs
set_option maxRecDepth 10000
set_option maxHeartbeats 4000000
set_option linter.unusedSimpArgs false
def badR (c:Int):Bool:=decide (c<33) ||decide (126<c) || (c==47)
def Jm_ (b:UInt8):Bool:=decide (b.toNat<33) ||decide (126<b.toNat) || (b.toNat==47)
theorem eqb (a b:Bool):qI_ Tryz.prog .eql 4 (.bool a) (.bool b)=some (.bool (a==b)):=by
 simp[qI_,eqX,qz_,qq_,Tryz.underlying4]
theorem WD_ (a:Value): (#[a]:Array Value)[0]? =some a:=(rfl)
set_option linter.defProp false
def qb_:=And.intro (And.intro (And.intro (@zp_) (And.intro (@wd_) (@v4_))) (And.intro (And.intro (@vP_) (@zo_)) (And.intro (@ahE_) (@Kk_)))) (And.intro (And.intro (And.intro (@KV_) (@X0_)) (And.intro (@alv_) (@WD_))) (And.intro (And.intro (@Sx.tup3_0) (@Sx.tup3_1)) (And.intro (@Sx.tup3_2) (@eqb))))
theorem acw_ (c:Int) (w:World):Rets Tryz.prog 249 #[VC_ c] w (fun v D=>v= .bool (badR c)∧D= []):=by
 refine Rets.enterV Tryz.func249 rfl (rs:= [.tmp 2]) Tryz.results249 Tryz.ntmps249 ?_
 refine kf ?_
 unfold badR
 cases h1:decide (c<33)
 ·cases h2:decide (126<c)
  ·first|with_reducible refine ks [] (And.intro @qb_ (And.intro @h1 (@h2))) ?_|refine kp (And.intro @qb_ (And.intro @h1 (@h2))) ?_
   refine⟨_,(ke @qb_),trivial, ?_⟩
   simp[xW_]
  ·first|with_reducible refine ks [] (And.intro @qb_ (And.intro @h1 (@h2))) ?_|refine kp (And.intro @qb_ (And.intro @h1 (@h2))) ?_
   refine⟨_,(ke @qb_),trivial, ?_⟩
   simp[xW_]
 ·first|with_reducible refine ks [] (And.intro @qb_ @h1) ?_|refine kp (And.intro @qb_ @h1) ?_
  refine⟨_,(ke @qb_),trivial, ?_⟩
  simp[xW_]
theorem ao0_ (l:List UInt8) (i:Nat) (h:i<l.length):badR ((Utf8.decode ⟨l.toArray⟩ i).1:Nat)=Jm_ (l.getD i 0)∧(Jm_ (l.getD i 0)=false→(Utf8.decode ⟨l.toArray⟩ i).2=1):=by
 obtain⟨h0,h1,h2⟩:=aeO_ l i h
 by_cases hc: (l.getD i 0).toNat<128
 ·rw[h1 hc]
  refine⟨?_,fun _=>rfl⟩
  unfold badR Jm_
  congr 1
  ·congr 1
   ·apply decide_eq_decide.2;omega
   ·apply decide_eq_decide.2;omega
  ·rw[Bool.eq_iff_iff,beq_iff_eq,beq_iff_eq];omega
 ·have h2':=h2 (by omega)
  have hb:Jm_ (l.getD i 0)=true:=by
   unfold Jm_
   rw[decide_eq_true (show 126< (l.getD i 0).toNat by omega)];simp
  rw[hb]
  refine⟨?_,fun h=>by cases h⟩
  unfold badR
  rw[decide_eq_true (show(126:Int)< (((Utf8.decode ⟨l.toArray⟩ i).1:Nat):Int) by omega)];simp
theorem Wf_ (s:List UInt8) (k:FuncId) (hk: ∀a w,(callFunc k a).run Tryz.prog w= .ok (.enter k a) w) (hc: ∀c w,Rets Tryz.prog k #[VC_ c] w (fun v D=>v= .bool (badR c)∧D= [])) (w:World) (hs:s.length<1099511627776):
  Rets Tryz.prog 191 #[vs s, .func (.func k) #[] #[], .bool true] w (fun v D=> ∃n:Int,v=vi n∧(0≤n↔s.any Jm_=true)∧D= []):=by
 refine Rets.mono (S:=fun v D=>(∃n:Int,v=vi n∧(0≤n↔s.any Jm_=true))∧D= []) ?_ (by rintro v D ⟨⟨n,h1,h2⟩,h3⟩;exact⟨n,h1,h2,h3⟩)
 refine Rets.enterV Tryz.func191 rfl (rs:= [.tmp 6]) Tryz.results191 Tryz.ntmps191 ?_
 refine kf ?_
 first|with_reducible refine ks [] @qb_ ?_|refine kp @qb_ ?_
 refine Ow.rangeText rfl rfl Tryz.underlying9 rfl fun b1 hb1 hw1=> ?_
 refine ko @qb_ ?_
 first|with_reducible refine ks [] @qb_ ?_|refine kp @qb_ ?_
 refine Cw.loopG (G:=Nat) [11,12,13,14,7,8,15,16,17,18,19,20,6] (fun g=> []) (fun g=> [(b1, .stringIter ⟨s.toArray⟩ g)]) (fun g=>g≤s.length∧ ∀i,i<g→Jm_ (s.getD i 0)=false) (fun g=>s.length - g) 0 rfl rfl ?_ ?_
 ·exact⟨by omega,fun i hi=>by omega⟩
 intro g j hg
 refine kv ?_
 obtain⟨hgL,hgood⟩:=hg
 by_cases hlt:g<s.length
 ·have hbr:=ao0_ s g hlt
  first|with_reducible refine ks [] @qb_ ?_|refine kp @qb_ ?_
  refine Ow.nextText rfl rfl rfl (z3_ _ _ _) hlt ?_
  rw[xi_]
  generalize hdd:Utf8.decode ⟨s.toArray⟩ g=dd at*
  obtain⟨c,n⟩:=dd
  simp only at hbr ⊢
  refine ko @qb_ ?_
  first|with_reducible refine ks [] @qb_ ?_|refine kp @qb_ ?_
  refine Ow.callFn1 (v:= .bool (badR c)) (k:=k) rfl rfl rfl hk (fun w' hw'=>hc _ w') ?_
  rw[hbr.1]
  refine ko @qb_ ?_
  cases hbb:Jm_ (s.getD g 0)
  ·first|with_reducible refine ks [] @qb_ ?_|refine kp @qb_ ?_
   refine Again.mk (g+1) (by omega) ⟨by omega,fun i hi=> ?_⟩ ?_ rfl
   ·by_cases hig:i=g
    ·rw[hig];exact hbb
    ·exact hgood i (by omega)
   ·rw[hbr.2 hbb]
  ·first|with_reducible refine ks [] @qb_ ?_|refine kp @qb_ ?_
   refine⟨_,(ke @qb_),⟨hw1,trivial⟩, ?_⟩
   refine⟨(g:Int),rfl,⟨fun _=> ?_,fun _=>by omega⟩⟩
   rw[List.any_eq_true]
   refine⟨s.getD g 0, ?_,hbb⟩
   rw[List.getD_eq_getElem?_getD,List.getElem?_eq_getElem hlt]
   exact List.getElem_mem hlt
 ·obtain rfl:g=s.length:=by omega
  first|with_reducible refine ks [] @qb_ ?_|refine kp @qb_ ?_
  refine Ow.nextOver rfl rfl rfl (z3_ _ _ _) hlt ?_
  refine ko @qb_ ?_
  first|with_reducible refine ks [] @qb_ ?_|refine kp @qb_ ?_
  refine⟨_,(ke @qb_),⟨hw1,trivial⟩, ?_⟩
  refine⟨-1,rfl,⟨fun h=>by omega,fun h=> ?_⟩⟩
  rw[List.any_eq_true] at h
  obtain⟨x,hx,hxb⟩:=h
  obtain⟨i,hi,rfl⟩:=List.getElem_of_mem hx
  have:=hgood i hi
  rw[List.getD_eq_getElem?_getD,List.getElem?_eq_getElem hi] at this
  exact absurd hxb (by simpa using this)
theorem V3_ (s:List UInt8) (k:FuncId) (hk: ∀a w,(callFunc k a).run Tryz.prog w= .ok (.enter k a) w) (hc: ∀c w,Rets Tryz.prog k #[VC_ c] w (fun v D=>v= .bool (badR c)∧D= [])) (w:World) (hs:s.length<1099511627776):
  Rets Tryz.prog 160 #[vs s, .func (.func k) #[] #[]] w (fun v D=> ∃n:Int,v=vi n∧(0≤n↔s.any Jm_=true)∧D= []):=by
 refine Rets.mono (S:=fun v D=>(∃n:Int,v=vi n∧(0≤n↔s.any Jm_=true))∧D= []) ?_ (by rintro v D ⟨⟨n,h1,h2⟩,h3⟩;exact⟨n,h1,h2,h3⟩)
 refine Rets.enterV Tryz.func160 rfl (rs:= [.tmp 4]) Tryz.results160 Tryz.ntmps160 ?_
 refine kf ?_
 first|with_reducible refine ks [] @qb_ ?_|refine kp @qb_ ?_
 refine Ow.callF rfl rfl Tryz.call191 (S:=fun _ v D=> ∃n:Int,v=vi n∧(0≤n↔s.any Jm_=true)∧D= []) (fun w' hw'=>Wf_ s k hk hc w' hs) ?_
 rintro B v D - - ⟨n,rfl,hn,rfl⟩
 refine⟨_,Mrg.nil, ?_⟩
 refine ko @qb_ ?_
 first|with_reducible refine ks [] @qb_ ?_|refine kp @qb_ ?_
 refine⟨_,(ke @qb_),trivial, ?_⟩
 exact⟨n,rfl,hn⟩
theorem vH_ (s:List UInt8) (k:FuncId) (hk: ∀a w,(callFunc k a).run Tryz.prog w= .ok (.enter k a) w) (hc: ∀c w,Rets Tryz.prog k #[VC_ c] w (fun v D=>v= .bool (badR c)∧D= [])) (w:World) (hs:s.length<1099511627776):
  Rets Tryz.prog 118 #[vs s, .func (.func k) #[] #[]] w (fun v D=>v= .bool (s.any Jm_)∧D= []):=by
 refine Rets.enterV Tryz.func118 rfl (rs:= [.tmp 4]) Tryz.results118 Tryz.ntmps118 ?_
 refine kf ?_
 first|with_reducible refine ks [] @qb_ ?_|refine kp @qb_ ?_
 refine Ow.callF rfl rfl Tryz.call160 (S:=fun _ v D=> ∃n:Int,v=vi n∧(0≤n↔s.any Jm_=true)∧D= []) (fun w' hw'=>V3_ s k hk hc w' hs) ?_
 rintro B v D - - ⟨n,rfl,hn,rfl⟩
 refine⟨_,Mrg.nil, ?_⟩
 refine ko @qb_ ?_
 first|with_reducible refine ks [] @qb_ ?_|refine kp @qb_ ?_
 refine⟨_,(ke @qb_),trivial, ?_⟩
 exact congrArg Value.bool (by rw[Bool.eq_iff_iff,decide_eq_true_eq];exact hn)
theorem afi_ (s:List UInt8) (w:World) (hs:s.length<1099511627776):
  Rets Tryz.prog 242 #[vs s] w (fun v D=>v= .bool (!(s== [])&&decide (s.length≤32)&& !(s.any Jm_))∧D= []):=by
 refine Rets.enterV Tryz.func242 rfl (rs:= [.tmp 2]) Tryz.results242 Tryz.ntmps242 ?_
 refine kf ?_
 cases h0: (s != [])
 ·have e0: (s== [])=true:=by simpa using h0
  first|with_reducible refine ks [] (And.intro @qb_ @h0) ?_|refine kp (And.intro @qb_ @h0) ?_
  refine⟨_,(ke @qb_),trivial, ?_⟩
  simp[xW_,e0]
 ·have e0: (s== [])=false:=by simpa using h0
  cases h1:decide ((s.length:Int)≤32)
  ·have e1:decide (s.length≤32)=false:=decide_eq_false (by have:=of_decide_eq_false h1;omega)
   first|with_reducible refine ks [] (And.intro @qb_ (And.intro @h0 (@h1))) ?_|refine kp (And.intro @qb_ (And.intro @h0 (@h1))) ?_
   refine⟨_,(ke @qb_),trivial, ?_⟩
   simp only[xW_,e0,e1,Bool.not_false,Bool.true_and,Bool.false_and,Bool.and_false]
  ·have e1:decide (s.length≤32)=true:=decide_eq_true (by have:=of_decide_eq_true h1;omega)
   first|with_reducible refine ks [] (And.intro @qb_ (And.intro @h0 (@h1))) ?_|refine kp (And.intro @qb_ (And.intro @h0 (@h1))) ?_
   refine Ow.callFV rfl Tryz.call118 (fun w' hw'=>vH_ s 249 Tryz.call249 acw_ w' hs) ?_
   refine ko @qb_ ?_
   first|with_reducible refine ks [] @qb_ ?_|refine kp @qb_ ?_
   refine⟨_,(ke @qb_),trivial, ?_⟩
   simp only[xW_,e0,e1,Bool.not_false,Bool.true_and]
set_option linter.defProp false
def vW_:=And.intro (And.intro (@zp_) (@wd_)) (And.intro (@v4_) (And.intro (@vP_) (@zo_)))
def acJ_ (s:List UInt8):Bool:= !(s== [])&&decide (s.length≤32)&& !(s.any Jm_)
theorem arP_ (c:UInt8):Jm_ c=(decide (c<33) ||decide (126<c) || (c==47)):=by
 unfold Jm_
 congr 1
 rw[Bool.eq_iff_iff,beq_iff_eq,beq_iff_eq,←UInt8.toNat_inj];rfl
theorem acG_ (s:List UInt8) (w:World) (hs:s.length<1099511627776):
  Rets Tryz.prog 183 #[vs s] w (fun v D=>v= .bool (acJ_ s)∧D= []):=by
 refine Rets.enterV Tryz.func183 rfl (rs:= [.tmp 2]) Tryz.results183 Tryz.ntmps183 ?_
 refine kf ?_
 first|with_reducible refine ks [] @vW_ ?_|refine kp @vW_ ?_
 refine Cw.loopG (G:=Nat) [4,5,6,7,10,11,12,13,14,15,16,17,18,19,20,21,22,23,24,25,2,8,9,3] (fun g=> [(3,vi g)]) (fun g=> []) (fun g=>g≤s.length∧ ∀i,i<g→Jm_ (s.getD i 0)=false) (fun g=>s.length - g) 0 rfl rfl ?_ ?_
 ·exact⟨by omega,fun i hi=>by omega⟩
 intro g j hg
 refine kv ?_
 obtain⟨hgL,hgood⟩:=hg
 by_cases hlt:g<s.length
 ·have hb:=arP_ (s.getD g 0)
  have hbad:Jm_ (s.getD g 0)=true→acJ_ s=false:=by
   intro h
   have:s.any Jm_=true:=List.any_eq_true.2 ⟨s.getD g 0,by rw[List.getD_eq_getElem?_getD,List.getElem?_eq_getElem hlt];exact List.getElem_mem hlt,h⟩
   unfold acJ_
   rw[this];simp
  have hgo:Jm_ (s.getD g 0)=false→ ∀i,i<g+1→Jm_ (s.getD i 0)=false:=fun h i hi=>by
   by_cases hig:i=g
   ·rw[hig];exact h
   ·exact hgood i (by omega)
  generalize hc:s.getD g 0=c at*
  cases h1:decide (c<33)
  ·cases h2:decide (126<c)
   ·cases h3: (c==47)
    ·first|with_reducible refine ks [] (And.intro @vW_ (And.intro @hc (And.intro @h1 (And.intro @h2 (@h3))))) ?_|refine kp (And.intro @vW_ (And.intro @hc (And.intro @h1 (And.intro @h2 (@h3))))) ?_
     refine Again.mk (g+1) (by omega) ⟨by omega,hgo (by rw[hb,h1,h2,h3];rfl)⟩ rfl rfl
    ·first|with_reducible refine ks [] (And.intro @vW_ (And.intro @hc (And.intro @h1 (And.intro @h2 (@h3))))) ?_|refine kp (And.intro @vW_ (And.intro @hc (And.intro @h1 (And.intro @h2 (@h3))))) ?_
     rw[hbad (by rw[hb,h1,h2,h3];rfl)]
     refine⟨_,(ke @vW_),trivial, ?_⟩
     rfl
   ·first|with_reducible refine ks [] (And.intro @vW_ (And.intro @hc (And.intro @h1 (@h2)))) ?_|refine kp (And.intro @vW_ (And.intro @hc (And.intro @h1 (@h2)))) ?_
    rw[hbad (by rw[hb,h1,h2];rfl)]
    refine⟨_,(ke @vW_),trivial, ?_⟩
    rfl
  ·first|with_reducible refine ks [] (And.intro @vW_ (And.intro @hc (@h1))) ?_|refine kp (And.intro @vW_ (And.intro @hc (@h1))) ?_
   rw[hbad (by rw[hb,h1];simp)]
   refine⟨_,(ke @vW_),trivial, ?_⟩
   rfl
 ·obtain rfl:g=s.length:=by omega
  have hany:s.any Jm_=false:=by
   rw[List.any_eq_false]
   intro x hx
   obtain⟨i,hi,rfl⟩:=List.getElem_of_mem hx
   have:=hgood i hi
   rw[List.getD_eq_getElem?_getD,List.getElem?_eq_getElem hi] at this
   simpa using this
  unfold acJ_
  rw[hany]
  cases h1:decide (1≤ (s.length:Int))
  ·have e0: (s== [])=true:=by
    have:=of_decide_eq_false h1
    rw[List.eq_nil_of_length_eq_zero (show s.length=0 by omega)];rfl
   first|with_reducible refine ks [] (And.intro @vW_ @h1) ?_|refine kp (And.intro @vW_ @h1) ?_
   refine⟨_,(ke @vW_),trivial, ?_⟩
   simp only[xW_,e0,Bool.not_true,Bool.false_and]
  ·have e0: (s== [])=false:=by
    have:=of_decide_eq_true h1
    cases s with
    |nil=>simp at this
    |cons x r=>rfl
   have e1:decide ((s.length:Int)≤32)=decide (s.length≤32):=decide_eq_decide.2 (by omega)
   first|with_reducible refine ks [] (And.intro @vW_ @h1) ?_|refine kp (And.intro @vW_ @h1) ?_
   refine⟨_,(ke @vW_),trivial, ?_⟩
   simp only[xW_,e0,e1,Bool.not_false,Bool.true_and,Bool.and_true]
end Go.Proofs
end
section
open Go Go.Proofs Go.Sx Go.StP
namespace Go.Proofs
set_option maxRecDepth 10000
set_option maxHeartbeats 4000000
set_option linter.unusedSimpArgs false
def jE_ (l:List EntL) (i:Nat):Bool:=
 acJ_ (l.getD i jT_).name&& ((l.getD i jT_).kind==1|| (l.getD i jT_).kind==2)&& (i==0||ltB (l.getD (i - 1) jT_).name (l.getD i jT_).name)
def kv_ (l:List EntL):Bool:=decide (l.length≤32)&& (List.range l.length).all (jE_ l)
theorem xR_ {l:List EntL} {k:Nat} (hk:k<l.length) (h:jE_ l k=false):kv_ l=false:=by
 unfold kv_
 have: (List.range l.length).all (jE_ l)=false:=by
  rw[List.all_eq_false]
  exact⟨k,List.mem_range.2 hk,by simp[h]⟩
 rw[this,Bool.and_false]
theorem W7_ {l:List EntL} (h: ∀i,i<l.length→jE_ l i=true):kv_ l=decide (l.length≤32):=by
 unfold kv_
 have: (List.range l.length).all (jE_ l)=true:=List.all_eq_true.2 fun i hi=>h i (List.mem_range.1 hi)
 rw[this,Bool.and_true]
set_option linter.defProp false
def xm_:=And.intro (And.intro (And.intro (@X7_) (@Vb_)) (And.intro (@Km_) (@QJ_))) (And.intro (And.intro (@kr_) (@kJ_)) (And.intro (@zp_) (@zo_)))
def acM_ (l:List EntL):Prop:= ∀i,i<l.length→(l.getD i jT_).name.length<1099511627776
theorem ac7_ (s:List UInt8) (w:World) (hs:s.length<1099511627776):Rets Tryz.prog 242 #[vs s] w (fun v D=>v= .bool (acJ_ s)∧D= []):=afi_ s w hs
theorem abv_ {a b:Int} {c:Bool} (h: (a !=b)=c): (a==b)= !c:=by rw[←h];simp[bne]
theorem ab3_ (v:Value) (l:List EntL) (w:World) (hv:EntS w v l) (hl:l.length<1000000) (hsh:acM_ l):
  Rets Tryz.prog 228 #[v] w (fun v' D=>v'= .bool (kv_ l)∧D= []):=by
 obtain⟨b,off,arr,E,fz,hr⟩:=hv.row
 have ln:=hv.len
 refine Rets.enterV Tryz.func228 rfl (rs:= [.tmp 2]) Tryz.results228 Tryz.ntmps228 ?_
 refine kf ?_
 first|with_reducible refine ks [] (And.intro @xm_ @ln) ?_|refine kp (And.intro @xm_ @ln) ?_
 refine Cw.loopG (G:=Nat) [8,9,10,11,4,3,12,13,14,15,16,17,18,19,20,21,22,23,24,25,26,27,28,29,30,31,32,33,34,35,36,37,38,39,40,2,41,7] (fun g=> [(7,vi g)]) (fun g=> []) (fun g=>g≤l.length∧ ∀i,i<g→jE_ l i=true) (fun g=>l.length - g) 0 rfl rfl ?_ ?_
 ·exact⟨Nat.zero_le _,fun i hi=>absurd hi (Nat.not_lt_zero i)⟩
 ·intro k jk hk
  refine kv ?_
  obtain⟨h1,h2⟩:=hk
  by_cases hk:k<l.length
  ·have h0:0<l.length:=by omega
   have hbl:=hr.lt h0
   have r2:=hr.has h0
   have i2:=hr.idx true k hk
   have l2:=ase_ hr hk
   first|with_reducible refine ks [6] (And.intro @xm_ (And.intro @r2 (And.intro @i2 (@l2)))) ?_|refine kp (And.intro @xm_ (And.intro @r2 (And.intro @i2 (@l2)))) ?_
   refine Ow.alloc rfl rfl aaK_ fun b4 hb4 hw4=> ?_
   simp only[za_,List.nil_append,List.cons_append]
   have hn4:b4≠b:=by omega
   refine ko @xm_ ?_
   have hs:=hsh k hk
   refine Cw.regionS [b4,b] [0,1,2,3,4,5,6,7,8,9,10,11,12,13,14,15,16,17,18,19,20,21,22,24,23,25,26,27,28] [] (by kernel_rfl) (by kernel_rfl) (by kernel_rfl) ?_
   simp only[zl_, ↓zg_, ↓zc_, ↓zx_, ↓zw_,zd_]
   refine kq @xm_ ?_
   refine Ow.callFV rfl Tryz.call242 (fun w' hw'=>ac7_ (l.getD k jT_).name w' hs) ?_
   cases hn:acJ_ (l.getD k jT_).name
   ·have e0:jE_ l k=false:=by unfold jE_;rw[hn];rfl
    rw[xR_ hk e0]
    refine kq @xm_ ?_
    refine⟨_,(ke @xm_),⟨hw4,trivial⟩, ?_⟩
    rfl
   ·cases hk1: ((l.getD k jT_).kind !=1)
    ·have hkk: ((l.getD k jT_).kind==1|| (l.getD k jT_).kind==2)=true:=by rw[abv_ hk1];rfl
     by_cases h0k:k=0
     ·have d1:decide ((0:Int)< (k:Int))=false:=decide_eq_false (by omega)
      have e1:jE_ l k=true:=by unfold jE_;rw[hn,hkk,h0k];rfl
      refine kq (And.intro @xm_ (And.intro @hk1 (@d1))) ?_
      refine Cw.forgetN [] (by exact⟨hw4,trivial⟩) (by intro p hp;simp only[List.mem_cons,List.not_mem_nil,or_false] at hp ⊢;all_goals (first| (rcases hp with rfl|hp<;>simp_all) | (subst hp;simp) |simp_all)) (by simp[keys]<;>omega) ?_
      first|with_reducible refine ks [] @xm_ ?_|refine kp @xm_ ?_
      exact Again.mk (k+1) (by omega) ⟨by omega,fun i hi=>by
       rcases Nat.lt_succ_iff_lt_or_eq.1 hi with h|rfl
       ·exact h2 i h
       ·exact e1⟩ rfl rfl
     ·have d1:decide ((0:Int)< (k:Int))=true:=decide_eq_true (by omega)
      have i3:qe_ (.sl (true,34)) v (some ((k:Int) - 1))=some (vp b (off+ (k - 1)*34)):=by
       rw[show(k:Int) - 1=((k - 1:Nat):Int) by omega];exact hr.idx true (k - 1) (by omega)
      have l3: ∀n,zt_ (some (false,n)) (some (.cells arr E fz)) (off+ (k - 1)*34)=some (vs (l.getD (k - 1) jT_).name):=fun n=>QF_ hr (show k - 1<l.length by omega) n
      have ek: (k==0)=false:=beq_eq_false_iff_ne.2 h0k
      cases hl3:Op.bytesLess (l.getD (k - 1) jT_).name (l.getD k jT_).name
      ·have e1:jE_ l k=false:=by unfold jE_;rw[hn,hkk,ek];exact hl3
       rw[xR_ hk e1]
       refine kq (And.intro @xm_ (And.intro @hk1 (And.intro @d1 (And.intro @i3 (And.intro @r2 (And.intro @l3 (@hl3))))))) ?_
       refine⟨_,(ke @xm_),⟨hw4,trivial⟩, ?_⟩
       rfl
      ·have e1:jE_ l k=true:=by unfold jE_;rw[hn,hkk,ek];exact hl3
       refine kq (And.intro @xm_ (And.intro @hk1 (And.intro @d1 (And.intro @i3 (And.intro @r2 (And.intro @l3 (@hl3))))))) ?_
       refine Cw.forgetN [] (by exact⟨hw4,trivial⟩) (by intro p hp;simp only[List.mem_cons,List.not_mem_nil,or_false] at hp ⊢;all_goals (first| (rcases hp with rfl|hp<;>simp_all) | (subst hp;simp) |simp_all)) (by simp[keys]<;>omega) ?_
       first|with_reducible refine ks [] @xm_ ?_|refine kp @xm_ ?_
       exact Again.mk (k+1) (by omega) ⟨by omega,fun i hi=>by
        rcases Nat.lt_succ_iff_lt_or_eq.1 hi with h|rfl
        ·exact h2 i h
        ·exact e1⟩ rfl rfl
    ·cases hk2: ((l.getD k jT_).kind !=2)
     ·have hkk: ((l.getD k jT_).kind==1|| (l.getD k jT_).kind==2)=true:=by rw[abv_ hk2];simp
      by_cases h0k:k=0
      ·have d1:decide ((0:Int)< (k:Int))=false:=decide_eq_false (by omega)
       have e1:jE_ l k=true:=by unfold jE_;rw[hn,hkk,h0k];rfl
       refine kq (And.intro @xm_ (And.intro @hk1 (And.intro @hk2 (@d1)))) ?_
       refine Cw.forgetN [] (by exact⟨hw4,trivial⟩) (by intro p hp;simp only[List.mem_cons,List.not_mem_nil,or_false] at hp ⊢;all_goals (first| (rcases hp with rfl|hp<;>simp_all) | (subst hp;simp) |simp_all)) (by simp[keys]<;>omega) ?_
       first|with_reducible refine ks [] @xm_ ?_|refine kp @xm_ ?_
       exact Again.mk (k+1) (by omega) ⟨by omega,fun i hi=>by
        rcases Nat.lt_succ_iff_lt_or_eq.1 hi with h|rfl
        ·exact h2 i h
        ·exact e1⟩ rfl rfl
      ·have d1:decide ((0:Int)< (k:Int))=true:=decide_eq_true (by omega)
       have i3:qe_ (.sl (true,34)) v (some ((k:Int) - 1))=some (vp b (off+ (k - 1)*34)):=by
        rw[show(k:Int) - 1=((k - 1:Nat):Int) by omega];exact hr.idx true (k - 1) (by omega)
       have l3: ∀n,zt_ (some (false,n)) (some (.cells arr E fz)) (off+ (k - 1)*34)=some (vs (l.getD (k - 1) jT_).name):=fun n=>QF_ hr (show k - 1<l.length by omega) n
       have ek: (k==0)=false:=beq_eq_false_iff_ne.2 h0k
       cases hl3:Op.bytesLess (l.getD (k - 1) jT_).name (l.getD k jT_).name
       ·have e1:jE_ l k=false:=by unfold jE_;rw[hn,hkk,ek];exact hl3
        rw[xR_ hk e1]
        refine kq (And.intro @xm_ (And.intro @hk1 (And.intro @hk2 (And.intro @d1 (And.intro @i3 (And.intro @r2 (And.intro @l3 (@hl3)))))))) ?_
        refine⟨_,(ke @xm_),⟨hw4,trivial⟩, ?_⟩
        rfl
       ·have e1:jE_ l k=true:=by unfold jE_;rw[hn,hkk,ek];exact hl3
        refine kq (And.intro @xm_ (And.intro @hk1 (And.intro @hk2 (And.intro @d1 (And.intro @i3 (And.intro @r2 (And.intro @l3 (@hl3)))))))) ?_
        refine Cw.forgetN [] (by exact⟨hw4,trivial⟩) (by intro p hp;simp only[List.mem_cons,List.not_mem_nil,or_false] at hp ⊢;all_goals (first| (rcases hp with rfl|hp<;>simp_all) | (subst hp;simp) |simp_all)) (by simp[keys]<;>omega) ?_
        first|with_reducible refine ks [] @xm_ ?_|refine kp @xm_ ?_
        exact Again.mk (k+1) (by omega) ⟨by omega,fun i hi=>by
         rcases Nat.lt_succ_iff_lt_or_eq.1 hi with h|rfl
         ·exact h2 i h
         ·exact e1⟩ rfl rfl
     ·have e0:jE_ l k=false:=by
       unfold jE_
       rw[hn,abv_ hk1,abv_ hk2];rfl
      rw[xR_ hk e0]
      refine kq (And.intro @xm_ (And.intro @hk1 (@hk2))) ?_
      refine⟨_,(ke @xm_),⟨hw4,trivial⟩, ?_⟩
      rfl
  ·obtain rfl:k=l.length:=by omega
   rw[W7_ h2]
   first|with_reducible refine ks [] (And.intro @xm_ @ln) ?_|refine kp (And.intro @xm_ @ln) ?_
   refine⟨_,(ke @xm_),trivial, ?_⟩
   exact congrArg Value.bool (decide_eq_decide.2 (by omega))
end Go.Proofs
end
section
open Go Go.Proofs Go.Sx Go.StP
namespace Go.Proofs
set_option maxRecDepth 10000
set_option maxHeartbeats 4000000
set_option linter.unusedSimpArgs false
set_option linter.defProp false
def k8_:=And.intro (And.intro (And.intro (@X7_) (@Vb_)) (And.intro (@Km_) (@QJ_))) (And.intro (And.intro (@kr_) (@kJ_)) (And.intro (@zp_) (@zo_)))
theorem alC_ (a b:List UInt8): (Op.bytesLess a b||a==b)= !ltB b a:=by rw[←ar2_,Bool.not_not]
theorem V1_ (v:Value) (l:List EntL) (w:World) (hv:EntS w v l) (hl:l.length<1000000) (hsh:acM_ l):
  Rets Tryz.prog 148 #[v] w (fun v' D=>v'= .bool (kv_ l)∧D= []):=by
 obtain⟨b,off,arr,E,fz,hr⟩:=hv.row
 have ln:=hv.len
 refine Rets.enterV Tryz.func148 rfl (rs:= [.tmp 2]) Tryz.results148 Tryz.ntmps148 ?_
 refine kf ?_
 by_cases h32:32<l.length
 ·first|with_reducible refine ks [] (And.intro @k8_ @ln) ?_|refine kp (And.intro @k8_ @ln) ?_
  have:kv_ l=false:=by unfold kv_;rw[decide_eq_false (by omega),Bool.false_and]
  rw[this]
  refine⟨_,(ke @k8_),trivial, ?_⟩
  rfl
 ·first|with_reducible refine ks [] (And.intro @k8_ @ln) ?_|refine kp (And.intro @k8_ @ln) ?_
  refine Cw.loopG (G:=Nat) [7,8,9,10,13,14,15,16,17,18,19,20,21,22,23,24,25,26,27,28,29,30,31,32,33,34,35,2,36,37,38,39,40,41,42,43,44,45,46,47,48,49,50,51,11,12,3] (fun g=> [(3,vi g)]) (fun g=> []) (fun g=>g≤l.length∧ ∀i,i<g→jE_ l i=true) (fun g=>l.length - g) 0 rfl rfl ?_ ?_
  ·exact⟨Nat.zero_le _,fun i hi=>absurd hi (Nat.not_lt_zero i)⟩
  ·intro k jk hk
   refine kv ?_
   obtain⟨h1,h2⟩:=hk
   by_cases hk:k<l.length
   ·have h0:0<l.length:=by omega
    have hbl:=hr.lt h0
    have r2:=hr.has h0
    have i2:=hr.idx true k hk
    have m0: ∀n,zt_ (some (false,n)) (some (.cells arr E fz)) (off+k*34)=some (vs (l.getD k jT_).name):=fun n=>QF_ hr hk n
    have m1: ∀n,zt_ (some (false,n)) (some (.cells arr E fz)) (off+k*34+1)=some (vi (l.getD k jT_).kind):=fun n=>aif_ hr hk n
    have hs:=hsh k hk
    first|with_reducible refine ks [] (And.intro @k8_ (And.intro @ln (And.intro @r2 (And.intro @i2 (And.intro @m0 (@m1)))))) ?_|refine kp (And.intro @k8_ (And.intro @ln (And.intro @r2 (And.intro @i2 (And.intro @m0 (@m1)))))) ?_
    refine Ow.callFV rfl Tryz.call183 (fun w' hw'=>acG_ (l.getD k jT_).name w' hs) ?_
    cases hn:acJ_ (l.getD k jT_).name
    ·have e0:jE_ l k=false:=by unfold jE_;rw[hn];rfl
     rw[xR_ hk e0]
     refine ko @k8_ ?_
     refine⟨_,(ke @k8_),trivial, ?_⟩
     rfl
    ·cases hk1:decide ((l.getD k jT_).kind<1)
     ·cases hk2:decide (2< (l.getD k jT_).kind)
      ·have hkk: ((l.getD k jT_).kind==1|| (l.getD k jT_).kind==2)=true:=by
        have q1:=of_decide_eq_false hk1
        have q2:=of_decide_eq_false hk2
        rcases(show(l.getD k jT_).kind=1∨(l.getD k jT_).kind=2 by omega) with h|h<;>rw[h]<;>rfl
       refine ko (And.intro @k8_ (And.intro @r2 (And.intro @i2 (And.intro @m0 (And.intro @m1 (And.intro @hk1 (@hk2))))))) ?_
       by_cases h0k:k=0
       ·have d1:decide ((0:Int)< (k:Int))=false:=decide_eq_false (by omega)
        have e1:jE_ l k=true:=by unfold jE_;rw[hn,hkk,h0k];rfl
        refine Cw.regionS [b] [0,1,2,3,4,5,6,8,9,10,11,12,7,13,14,15] [] (by kernel_rfl) (by kernel_rfl) (by kernel_rfl) ?_
        simp only[zl_, ↓zg_, ↓zc_, ↓zx_, ↓zw_,zd_]
        refine kq (And.intro @k8_ @d1) ?_
        exact Again.mk (k+1) (by omega) ⟨by omega,fun i hi=>by
         rcases Nat.lt_succ_iff_lt_or_eq.1 hi with h|rfl
         ·exact h2 i h
         ·exact e1⟩ rfl rfl
       ·have d1:decide ((0:Int)< (k:Int))=true:=decide_eq_true (by omega)
        have i3:qe_ (.sl (true,34)) v (some ((k:Int) - 1))=some (vp b (off+ (k - 1)*34)):=by
         rw[show(k:Int) - 1=((k - 1:Nat):Int) by omega];exact hr.idx true (k - 1) (by omega)
        have l3: ∀n,zt_ (some (false,n)) (some (.cells arr E fz)) (off+ (k - 1)*34)=some (vs (l.getD (k - 1) jT_).name):=fun n=>QF_ hr (show k - 1<l.length by omega) n
        have ek: (k==0)=false:=beq_eq_false_iff_ne.2 h0k
        cases hl3:ltB (l.getD (k - 1) jT_).name (l.getD k jT_).name
        ·have e1:jE_ l k=false:=by unfold jE_;rw[hn,hkk,ek];exact hl3
         rw[xR_ hk e1]
         refine Cw.regionS [b] [0,1,2,3,4,5,6,8,9,10,11,12,7,13,14,15] [] (by kernel_rfl) (by kernel_rfl) (by kernel_rfl) ?_
         simp only[zl_, ↓zg_, ↓zc_, ↓zx_, ↓zw_,zd_]
         refine kq (And.intro @k8_ (And.intro @d1 (And.intro @i2 (And.intro @i3 (And.intro @r2 (And.intro @m0 (And.intro @l3 (And.intro @alC_ (@hl3))))))))) ?_
         refine⟨_,(ke @k8_),trivial, ?_⟩
         rfl
        ·have e1:jE_ l k=true:=by unfold jE_;rw[hn,hkk,ek];exact hl3
         refine Cw.regionS [b] [0,1,2,3,4,5,6,8,9,10,11,12,7,13,14,15] [] (by kernel_rfl) (by kernel_rfl) (by kernel_rfl) ?_
         simp only[zl_, ↓zg_, ↓zc_, ↓zx_, ↓zw_,zd_]
         refine kq (And.intro @k8_ (And.intro @d1 (And.intro @i2 (And.intro @i3 (And.intro @r2 (And.intro @m0 (And.intro @l3 (And.intro @alC_ (@hl3))))))))) ?_
         exact Again.mk (k+1) (by omega) ⟨by omega,fun i hi=>by
          rcases Nat.lt_succ_iff_lt_or_eq.1 hi with h|rfl
          ·exact h2 i h
          ·exact e1⟩ rfl rfl
      ·have e0:jE_ l k=false:=by
        have q2:=of_decide_eq_true hk2
        unfold jE_
        rw[hn,show((l.getD k jT_).kind==1)=false from beq_eq_false_iff_ne.2 (by omega),show((l.getD k jT_).kind==2)=false from beq_eq_false_iff_ne.2 (by omega)];rfl
       rw[xR_ hk e0]
       refine ko (And.intro @k8_ (And.intro @r2 (And.intro @i2 (And.intro @m0 (And.intro @m1 (And.intro @hk1 (@hk2))))))) ?_
       refine⟨_,(ke @k8_),trivial, ?_⟩
       rfl
     ·have e0:jE_ l k=false:=by
       have q2:=of_decide_eq_true hk1
       unfold jE_
       rw[hn,show((l.getD k jT_).kind==1)=false from beq_eq_false_iff_ne.2 (by omega),show((l.getD k jT_).kind==2)=false from beq_eq_false_iff_ne.2 (by omega)];rfl
      rw[xR_ hk e0]
      refine ko (And.intro @k8_ (And.intro @r2 (And.intro @i2 (And.intro @m0 (And.intro @m1 (@hk1)))))) ?_
      refine⟨_,(ke @k8_),trivial, ?_⟩
      rfl
   ·obtain rfl:k=l.length:=by omega
    rw[W7_ h2,show decide (l.length≤32)=true from decide_eq_true (by omega)]
    first|with_reducible refine ks [] (And.intro @k8_ @ln) ?_|refine kp (And.intro @k8_ @ln) ?_
    refine⟨_,(ke @k8_),trivial, ?_⟩
    rfl
end Go.Proofs
end
