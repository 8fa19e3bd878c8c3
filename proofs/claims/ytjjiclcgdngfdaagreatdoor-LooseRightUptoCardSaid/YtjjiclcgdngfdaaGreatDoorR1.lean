/-
  Part 1 of the walk: contracts of the functions that the law reaches, and the calculus they stand on.
  No conditions.
-/
import Derived.Test.YtjjiclcgdngfdaaGreatDoorR0
import Derived.Maps.RangeRun
import Derived.RangeFuncLeaves
import Derived.RangeFuncIn
import Derived.RangeFuncSeq
import Derived.RangeFuncRecord
import Derived.TacticsIn
import Derived.Test.YtjjiclcgdngfdaaGreatDoorProg
namespace Go.Sx
open Go
section
variable {P:Program} {w0:World} {l:List Oper} {R ts:List Nat} {n:Nat} {listed:List Bool} {f:Fr} {L:aA} {N:Fr→aA→Prop}
def OwG (P:Program) (w0:World) (l:List Oper) (R ts:List Nat) (n:Nat) (listed:List Bool) (f:Fr) (L:aA) (N:Fr→aA→Prop):Prop:=
 ∀w,Hp w0 L w→kU P l.toArray (eU w0 N) ts (SR w0 R L) n listed.toArray (act f) w
theorem Cw.regionG {id:Nat} {K:cM} (R ts:List Nat) (m:Nat) (hl:l.length=m) (hm:P.follows .mixedOrders=true) (h:OwG P w0 l R ts m (List.replicate m false) f L (K .normal)):Cw P w0 (.region id l.toArray true) f L K:=by
 intro w hw
 subst hl
 refine wp_mono (wp_region_any hm ?_) fun _ _ _ h=>wX h
 have:=EO _ _ _ _ (h _ hw.drew)
 simpa using this
def chkG (P:Program) (l:List Oper) (ts:List Nat):List Nat→List Bool→Option (List Bool)
 | [],listed=>some listed
 |k::is,listed=>
  match dG l k with
  |some o=>if !ts.contains k&& (ts.all fun t=> !listed.toArray.getD t true)&& (Region.ready .any l.toArray listed.toArray).contains k&&Region.free .any l.toArray listed.toArray k&&
    (fY P o.op|| (pF o.op&&tB l.toArray ts listed.toArray k)) then chkG P l ts is (listed.set k true) else none
  |none=>none
theorem OwG.step {k:Nat} {o:Oper} {v:Value} (du:Region.noSelect l.toArray=true) (hk:dG l k=some o) {rest:List Bool} (hc:chkG P l ts [k] listed=some rest)
  (hY:YieldsC P l.toArray (SR w0 R L) (fY P o.op=true) o v (act f)) (h:OwG P w0 l R ts n rest (aS f o.dst v) L N):OwG P w0 l R ts (n+1) listed f L N:=by
 have iR:l.toArray[k]? =some o:=by rw[mq] at hk;simpa using hk
 unfold chkG at hc
 rw[hk] at hc
 simp only at hc
 split at hc
 ·rename_i lB
  simp only[chkG,Option.some.injEq] at hc
  subst hc
  simp only[Bool.and_eq_true,Bool.or_eq_true,Bool.not_eq_true',List.all_eq_true,List.contains_eq_mem,decide_eq_true_eq,decide_eq_false_iff_not] at lB
  obtain⟨⟨⟨⟨c2,c3⟩,c4⟩,c5⟩,c9⟩:=lB
  have iC:=Region.noSelect_spec du
  intro w hw
  refine ri iR c2 iC (fun c a w h=>lb h) _ _ _ _ (rU (P:=P) iR c4 c5 (c9.imp id fun h=>⟨h.1,h.2,fun t ht=>c3 t ht⟩)) (.inr fun t ht=>c3 t ht) hY ?_
  rw[fN,nV]
  exact h w hw
 ·cases hc
theorem Ph {k:Nat} {is:List Nat} {listed listed':List Bool} (h:chkG P l ts (k::is) listed=some listed'):chkG P l ts [k] listed=some (listed.set k true)∧chkG P l ts is (listed.set k true)=some listed':=by
 rw[chkG] at h
 cases ho:dG l k with
 |none=>rw[ho] at h;cases h
 |some o=>
  rw[ho] at h
  simp only at h
  split at h
  ·rename_i lB
   refine⟨?_,h⟩
   rw[chkG,ho]
   simp only
   rw[if_pos lB];rfl
  ·cases h
theorem OwG.runs {k:Md→List Oper→Fr→aA→Prop} (du:Region.noSelect l.toArray=true): ∀ (is:List Nat) {listed listed':List Bool} {f:Fr} {L:aA},chkG P l ts is listed=some listed'→
  (∀md r f' L',k md r f' L'→r= []∧OwG P w0 l R ts n listed' f' L' N)→vcL P w0 l.toArray false (.sof R [] []) (gA l is) f L k→OwG P w0 l R ts (is.length+n) listed f L N
 | [],listed,listed',f,L,hc,hk,h=>by
  cases hc
  rw[List.length_nil,Nat.zero_add]
  exact(hk _ _ _ _ h).2
 |i::is,listed,listed',f,L,hc,hk,h=>by
  obtain⟨dA,dL⟩:=Ph hc
  rw[ac] at h
  cases ho:dG l i with
  |none=>unfold chkG at dA;rw[ho] at dA;cases dA
  |some o=>
   rw[ho,ad] at h
   unfold vcL at h
   rw[List.length_cons,show is.length+1+n=(is.length+n)+1 by omega]
   cases hs:bA l.toArray f o with
   |true=>
    rw[hs] at h
    have eR:Region.wanted o (yielded l.toArray (act f).tmps)=false:=by rw[kW,hs];rfl
    exact OwG.step du ho dA (v:=undef) (.inr ⟨eR,rfl⟩) (OwG.runs du is dL hk h)
   |false=>
    rw[hs] at h
    have eR:Region.wanted o (yielded l.toArray (act f).tmps)=true:=by rw[kW,hs];rfl
    simp only[ib,vcB] at h
    split at h
    ·cases bY:rdOk (.sof R [] []) f o.op with
     |false=>rw[bY] at h;exact absurd (hk _ _ _ _ h).1 (by simp)
     |true=>
      rw[bY] at h
      simp only at h
      cases hv:iF P w0 L f o.op with
      |none=>rw[hv] at h;exact absurd (hk _ _ _ _ h).1 (by simp)
      |some v=>
       rw[hv] at h
       refine OwG.step du ho dA (v:=v) (.inl ⟨eR,fun w hw=> ?_⟩) (OwG.runs du is dL hk h)
       rw[pj]
       rcases hw with hp|hw
       ·exact nT (Hp.refl w) (xT hp hv w)
       ·exact nT (Hp.refl w) (HX bY hv hw)
    ·exact absurd (hk _ _ _ _ h).1 (by simp)
    ·exact absurd (hk _ _ _ _ h).1 (by simp)
theorem OwG.run (is:List Nat) (listed':List Bool) (n:Nat) {m:Nat} (hm:m=is.length+n) (du:Region.noSelect l.toArray=true) (hc:chkG P l ts is listed=some listed')
  (h: ∀k:Md→List Oper→Fr→aA→Prop,(∀md f L,OwG P w0 l R ts n listed' f L N→k md [] f L)→nl (gA l is) fun l'=>vcL P w0 l.toArray false (.sof R [] []) l' f L k):OwG P w0 l R ts m listed f L N:=by
 subst hm
 refine OwG.runs (k:=fun _ r f' L'=>r= []∧OwG P w0 l R ts n listed' f' L' N) du is hc (fun _ _ _ _ h=>h) ?_
 exact h _ fun _ _ _ h=>⟨rfl,h⟩
def qT (l:List Oper) (ts:List Nat) (ks:List Nat) (listed:List Bool):Bool:=
 ((Region.ready .any l.toArray listed.toArray).all fun i=>ks.contains i)&& (Region.ready .any l.toArray listed.toArray != [])&&ks.all fun k=> !ts.contains k
theorem OwG.softs (ks:List Nat) (hs:qT l ts ks listed=true)
  (h: ∀k,k∈ks→ ∀o,dG l k=some o→Ow P w0 l.toArray .seq [o] f L (fun f' L'=>(∀r,r∈R→aP w0 L' r=aP w0 L r)∧OwG P w0 l R ts n (listed.set k true) f' L' N)):
  OwG P w0 l R ts (n+1) listed f L N:=by
 unfold qT at hs
 simp only[Bool.and_eq_true,List.all_eq_true,bne_iff_ne,ne_eq,List.contains_eq_mem,decide_eq_true_eq,Bool.not_eq_true',decide_eq_false_iff_not] at hs
 obtain⟨⟨c3,c4⟩,c6⟩:=hs
 intro w hw
 refine⟨fun _=>SR.of hw,fun hr=>absurd hr c4,fun i hi=> ?_⟩
 have hik:=c3 i hi
 obtain⟨-,oi,iR,-⟩:=mem_ready.1 hi
 have hni:dG l i=some oi:=by rw[mq];simpa using iR
 refine tE iR (X:=kU P l.toArray (eU w0 N) ts (SR w0 R L) n (listed.toArray.setIfInBounds i true)) ?_ hw
 intro w' aB
 have h1:=h i hik oi hni w' aB
 refine GT ?_ h1
 rintro f' L' ⟨hS,hO⟩ w'' lR
 rw[wk hS,nV]
 exact hO w'' lR
theorem OwG.one (i:Nat) (oi:Oper) (hs:qT l ts [i] listed=true) (hi:dG l i=some oi)
  (h:Ow P w0 l.toArray .seq [oi] f L (fun f' L'=>(∀r,r∈R→aP w0 L' r=aP w0 L r)∧OwG P w0 l R ts n (listed.set i true) f' L' N)):OwG P w0 l R ts (n+1) listed f L N:=
 OwG.softs [i] hs fun k hk o ho=>by
  rw[List.mem_singleton] at hk
  subst hk
  rw[hi] at ho
  cases ho
  exact h
theorem OwG.two (i j:Nat) (oi oj:Oper) (hs:qT l ts [i,j] listed=true) (hi:dG l i=some oi) (hj:dG l j=some oj)
  (h1:Ow P w0 l.toArray .seq [oi] f L (fun f' L'=>(∀r,r∈R→aP w0 L' r=aP w0 L r)∧OwG P w0 l R ts n (listed.set i true) f' L' N))
  (h2:Ow P w0 l.toArray .seq [oj] f L (fun f' L'=>(∀r,r∈R→aP w0 L' r=aP w0 L r)∧OwG P w0 l R ts n (listed.set j true) f' L' N)):OwG P w0 l R ts (n+1) listed f L N:=
 OwG.softs [i,j] hs fun k hk o ho=>by
  simp only[List.mem_cons,List.not_mem_nil,or_false] at hk
  rcases hk with rfl|rfl
  ·rw[hi] at ho;cases ho;exact h1
  ·rw[hj] at ho;cases ho;exact h2
theorem OwG.permL {M:aA} (hp:M.Perm L) (hR: ∀r,r∈R→aP w0 M r=aP w0 L r) (h:OwG P w0 l R ts n listed f M N):OwG P w0 l R ts n listed f L N:=by
 intro w hw
 rw[wk hR]
 exact h w (hw.perm hp)
def CV (P:Program) (l:List Oper) (is ts:List Nat) (listed:List Bool):Bool:=
 Region.noSelect l.toArray&&rx P l.toArray ts is listed.toArray&&ts.all fun t=> !listed.toArray.getD t true
theorem OwG.rest (is:List Nat) {m:Nat} (hm:m=is.length) (hB:CV P l is ts listed=true) (hl:is.map (fun i:Nat=>l[i]?)=(gA l is).map some)
  (h:nl (gA l is) fun l'=>Ow P w0 l.toArray (.sof R is ts) l' f L N):OwG P w0 l R ts m listed f L N:=by
 subst hm
 revert hl h
 generalize gA l is=l'
 intro hl h w hw
 simp only[CV,Bool.and_eq_true,List.all_eq_true,Bool.not_eq_true'] at hB
 obtain⟨⟨h1,h4⟩,h5⟩:=hB
 have aL:is.length=l'.length:=by have:=congrArg List.length hl;simpa using this
 have hF:Fits P l.toArray ts is l' listed.toArray:=⟨aL,fun j=>by
  have:=congrArg (·[j]?) hl
  simp only[List.getElem?_map] at this
  cases hj:is[j]? with
  |none=>
   rw[hj] at this
   simp only[Option.map_none] at this
   cases fe:l'[j]? with
   |none=>rfl
   |some x=>rw[fe] at this;cases this
  |some i=>
   rw[hj] at this
   simp only[Option.map_some] at this
   cases fe:l'[j]? with
   |none=>rw[fe] at this;cases this
   |some x=>
    rw[fe] at this
    simp only[Option.map_some,Option.some.injEq] at this
    simp[this],h1,h4⟩
 rw[aL]
 exact(h:Ow P w0 l.toArray (.sof R is ts) l' f L N) listed.toArray hF (fun t ht=>h5 t ht) w hw
end
def CutO {G:Type} (M:List Nat) (S:G→List (Nat×Value)) (H:G→aA) (J:G→Prop) (f f':Fr) (L':aA):Prop:=
 ∃g,J g∧L'=H g∧f'=pin (kV (eC f') M 0 f) (S g)
theorem CutO.mk {G:Type} {M:List Nat} {S:G→List (Nat×Value)} {H:G→aA} {J:G→Prop} {f f':Fr} {L':aA} (g:G) (hJ:J g) (hL:L'=H g) (hf:f'=pin (kV (eC f') M 0 f) (S g)):CutO M S H J f f' L':=⟨g,hJ,hL,hf⟩
theorem Cw.cutO {P:Program} {w0:World} {x y:Code} {f:Fr} {L:aA} {K:cM} {G:Type} (M:List Nat) (S:G→List (Nat×Value)) (H:G→aA) (J:G→Prop) (h1:Cw P w0 x f L (k4 (CutO M S H J f) K))
  (h2: ∀ (g:G) (j:Nat→Value),J g→Cw P w0 y (pin (kV j M 0 f) (S g)) (H g) K):Cw P w0 (.seq x y) f L K:=by
 refine Cw.seq (h1.mono fun e f' L' k=> ?_)
 cases e with
 |normal=>
  obtain⟨g,hJ,rfl,hf⟩:=k
  have:=h2 g (eC f') hJ
  rw[←hf] at this
  exact this
 |_=>exact k
end Go.Sx
namespace Go.Sx
open Go
section
variable {P:Program} {w0:World} {f:Fr} {L:aA} {N:Fr→aA→Prop} {ops:Array Oper} {rest:List Oper} {md:Md}
 {d:Option Tmp} {ty:TypeId} {ps:String} {af:Array Edge} {g:Option (Nat×Bool)}
theorem Ic {w:World} {s dt t:TypeId} {b off:Nat} {m:Bool×Nat} {cs:Array Value} {E:TypeId} {fz:Nat×Nat} (hb:w.heap[b]? =some (.cells cs E fz)) (ho:off<cs.size) (hm:aM P t=some m) (sS:m.2≠0)
  (hs:P.underlying s=some (.pointer t)) (hd:P.underlying dt=some .unsafePointer): (convert s dt (vp b off)).run P w= .ok (vp b off) w:=by
 have g4:w.shape? b=some (E,cs.size):=by simp only[World.shape?,hb]
 have e1: ∀ {α β:Type} (a:α) (f:α→World→Result β),(Sem.run P (pure a) w).andThen f=f a w:=fun _ _=>rfl
 have e2: (shape b).run P w= .ok (some (E,cs.size)) w:=by show Result.ok (w.shape? b) w=_;rw[g4]
 have hv: (Conv.seenAt ⟨b,off,none⟩).run P w= .ok ⟨b,off,none⟩ w:=by
  simp only[Conv.seenAt,viewAt,Sem.run_bind,e2,Result.andThen_ok,Option.isSome_some, ↓reduceIte]
  rfl
 have Fo: (cellsIn b).run P w= .ok (some cs.size) w:=by
  simp only[cellsIn,Sem.run_bind,e2,Result.andThen_ok]
  rfl
 have j4: (decide (m.2=0) ||decide (off≥cs.size)&& (none:Option Nat).isNone)=false:=by
  have: ¬ (off≥cs.size):=by omega
  simp[sS,this]
 have hu: (Conv.unsafePointer s dt (vp b off)).run P w= .ok (vp b off) w:=by
  simp only[Conv.unsafePointer,vp,Sem.run_bind,run_underlying hs w,run_underlying hd w,Result.andThen_ok,hv,Fo,gO hm w]
  rw[if_neg (by rw[j4];simp)]
  rfl
 unfold convert
 simp only[vp,Sem.run_bind,run_underlying hs w,run_underlying hd w,Result.andThen_ok]
 exact hu
theorem J3 {w:World} {s dt t:TypeId} {b off:Nat} {m:Bool×Nat} {cs:Array Value} {E:TypeId} {fz:Nat×Nat} (hb:w.heap[b]? =some (.cells cs E fz)) (hm:aM P t=some m) (Wm:liesAt P P.depth E (cs.size / P.cellsOf E) off t 1=true)
  (hs:P.underlying s=some .unsafePointer) (hd:P.underlying dt=some (.pointer t)): (convert s dt (vp b off)).run P w= .ok (vp b off) w:=by
 have g4:w.shape? b=some (E,cs.size):=by simp only[World.shape?,hb]
 have e2: (shape b).run P w= .ok (some (E,cs.size)) w:=by show Result.ok (w.shape? b) w=_;rw[g4]
 have hv: (Conv.seenAt ⟨b,off,none⟩).run P w= .ok ⟨b,off,none⟩ w:=by
  simp only[Conv.seenAt,viewAt,Sem.run_bind,e2,Result.andThen_ok,Option.isSome_some, ↓reduceIte]
  rfl
 have Xo: (variablesAt ⟨b,off,none⟩ t 1).run P w= .ok true w:=by
  simp only[variablesAt,program,Sem.run_bind]
  show Result.andThen (Result.ok P w) _=_
  simp only[Result.andThen_ok,e2]
  rw[Wm]
  rfl
 have hu: (Conv.unsafePointer s dt (vp b off)).run P w= .ok (vp b off) w:=by
  simp only[Conv.unsafePointer,vp,Sem.run_bind,run_underlying hs w,run_underlying hd w,Result.andThen_ok,hv,gO hm w,Xo]
  by_cases h0:m.2=0
  ·simp[h0]
  ·simp[h0]
 unfold convert
 simp only[vp,Sem.run_bind,run_underlying hs w,run_underlying hd w,Result.andThen_ok]
 exact hu
theorem Ow.toUnsafe {s dt t:TypeId} {x:Operand} {b off:Nat} {m:Bool×Nat} {cs:Array Value} {E:TypeId} {fz:Nat×Nat} {md':Md} (he:md.turn=some md') (nN:bA ops f ⟨d, .convert s dt x,ty,ps,af,g⟩=false)
  (vQ:cvT P s dt= .no) (hx:ev f x=vp b off) (hb:aP w0 L b=some (.cells cs E fz)) (ho:off<cs.size) (hm:aM P t=some m) (sS:m.2≠0) (hs:P.underlying s=some (.pointer t)) (hd:P.underlying dt=some .unsafePointer)
  (hn:Ow P w0 ops md' rest (aS f d (vp b off)) L N):Ow P w0 ops md (⟨d, .convert s dt x,ty,ps,af,g⟩::rest) f L N:=by
 refine Ow.step he (by simp[fY,vQ]) nN fun w hw=> .inl ⟨vp b off,w,L, ?_,hw,hn⟩
 simp only[execOp,Sem.run_bind,hx,Ic (hw.read hb) ho hm sS hs hd]
 rfl
theorem Ow.ofUnsafe {s dt t:TypeId} {x:Operand} {b off:Nat} {m:Bool×Nat} {cs:Array Value} {E:TypeId} {fz:Nat×Nat} {md':Md} (he:md.turn=some md') (nN:bA ops f ⟨d, .convert s dt x,ty,ps,af,g⟩=false)
  (vQ:cvT P s dt= .no) (hx:ev f x=vp b off) (hb:aP w0 L b=some (.cells cs E fz)) (hm:aM P t=some m) (Wm:liesAt P P.depth E (cs.size / P.cellsOf E) off t 1=true) (hs:P.underlying s=some .unsafePointer) (hd:P.underlying dt=some (.pointer t))
  (hn:Ow P w0 ops md' rest (aS f d (vp b off)) L N):Ow P w0 ops md (⟨d, .convert s dt x,ty,ps,af,g⟩::rest) f L N:=by
 refine Ow.step he (by simp[fY,vQ]) nN fun w hw=> .inl ⟨vp b off,w,L, ?_,hw,hn⟩
 simp only[execOp,Sem.run_bind,hx,J3 (hw.read hb) hm Wm hs hd]
 rfl
theorem Ow.neqSame {t t' e:TypeId} {x y:Operand} {b off:Nat} {m:Bool×Nat} (hs:bA ops f ⟨d, .binOp .neq t x y t',ty,ps,af,g⟩=false) (hu:P.underlying t=some (.pointer e)) (hm:aM P e=some m) (hx:ev f x=vp b off) (hy:ev f y=vp b off)
  (hn:Ow P w0 ops md.next rest (aS f d (.bool false)) L N):Ow P w0 ops md (⟨d, .binOp .neq t x y t',ty,ps,af,g⟩::rest) f L N:=by
 refine Ow.pureV rfl hs (fun w=> ?_) hn
 have he: (Op.equal t (vp b off) (vp b off)).run P w= .ok true w:=by
  show(Op.equalIn 10000 t (vp b off) (vp b off)).run P w=_
  unfold Op.equalIn
  simp only[vp,Sem.run_bind,run_underlying hu w,Result.andThen_ok,gO hm w]
  by_cases h0:m.2=0
  ·simp[h0]
  ·simp only[h0,ne_eq,not_false_eq_true, ↓reduceIte,sameAddr,beq_self_eq_true]
   rfl
 simp only[execOp,Sem.run_bind,hx,hy]
 have hg: (eqGuard .neq t x y (vp b off) (vp b off)).run P w= .ok () w:=rfl
 have hb:binOp .neq t (vp b off) (vp b off)=(do pure (.bool (!(←Op.equal t (vp b off) (vp b off)))):Sem Value):=rfl
 rw[hg,Result.andThen_ok,hb,Sem.run_bind,he]
 rfl
theorem Xx {w0:World} {L:aA} {b c:Nat} {x:Obj} (h:b≠c):aP w0 (setB L b x) c=aP w0 L c:=by
 unfold aP;rw[eO h]
theorem Ow.callExt {l:List Operand} {ts:Array TypeId} {k:FuncId} {v:Value} {md':Md} (he:md.turn=some md')
  (hs:bA ops f ⟨d, .call ⟨.value (.func k),l.toArray,ts⟩,ty,ps,af,g⟩=false)
  (hv: ∀w,(callFunc k (l.map (ev f)).toArray).run P w= .ok (.value v) w)
  (hn:Ow P w0 ops md' rest (aS f d v) L N):
  Ow P w0 ops md (⟨d, .call ⟨.value (.func k),l.toArray,ts⟩,ty,ps,af,g⟩::rest) f L N:=by
 refine Ow.step he rfl hs fun w hw=> .inl ⟨v,w,L, ?_,hw,hn⟩
 have:=hv w
 simp only[execOp,resolve,Deferred.ofValue,ev,Sem.run_bind,Sem.run_pure,Result.andThen_ok,invoke]
 simpa using this
theorem Ow.minI {x y:Operand} {ts:Array TypeId} {a b:Int} (hs:bA ops f ⟨d, .call ⟨.builtin .min, #[x,y],ts⟩,ty,ps,af,g⟩=false) (hx:ev f x=vi a) (hy:ev f y=vi b)
  (hn:Ow P w0 ops md.next rest (aS f d (vi (if b<a then b else a))) L N):Ow P w0 ops md (⟨d, .call ⟨.builtin .min, #[x,y],ts⟩,ty,ps,af,g⟩::rest) f L N:=by
 refine Ow.calm rfl rfl hs (fun w hw=> .inl ⟨vi (if b<a then b else a),w,L, ?_,hw,rfl,rfl⟩) hn
 simp only[execOp,resolve,Sem.run_bind,Sem.run_pure,Result.andThen_ok,invoke,builtin,List.map_toArray,List.map_cons,List.map_nil,hx,hy]
 rfl
theorem Ow.maxI {x y:Operand} {ts:Array TypeId} {a b:Int} (hs:bA ops f ⟨d, .call ⟨.builtin .max, #[x,y],ts⟩,ty,ps,af,g⟩=false) (hx:ev f x=vi a) (hy:ev f y=vi b)
  (hn:Ow P w0 ops md.next rest (aS f d (vi (if b>a then b else a))) L N):Ow P w0 ops md (⟨d, .call ⟨.builtin .max, #[x,y],ts⟩,ty,ps,af,g⟩::rest) f L N:=by
 refine Ow.calm rfl rfl hs (fun w hw=> .inl ⟨vi (if b>a then b else a),w,L, ?_,hw,rfl,rfl⟩) hn
 simp only[execOp,resolve,Sem.run_bind,Sem.run_pure,Result.andThen_ok,invoke,builtin,List.map_toArray,List.map_cons,List.map_nil,hx,hy]
 rfl
end
structure Ext (w:World) (X D:aA):Prop where
 new: ∀c,c∈keys D→c∈keys X∨w.heap.size≤c
 all: ∀c,c∈keys X→c∈keys D
theorem Ext.refl (w:World) (X:aA):Ext w X X:=⟨fun _ h=> .inl h,fun _ h=>h⟩
theorem Ext.setB {w:World} {X D:aA} {b:Nat} {o:Obj} (h:Ext w X D):Ext w X (setB D b o):=⟨fun c hc=>h.new c (by rwa [pg] at hc),fun c hc=>by rw[pg];exact h.all c hc⟩
theorem Ext.app {w:World} {X D:aA} {b:Nat} {o:Obj} (h:Ext w X D) (hb:w.heap.size≤b):Ext w X (D++ [(b,o)]):=
 ⟨fun c hc=>by
  rw[bM] at hc
  rcases List.mem_append.1 hc with hc|hc
  ·exact h.new c hc
  ·simp only[keys,List.map_cons,List.map_nil,List.mem_singleton] at hc
   exact .inr (hc▸hb),fun c hc=>by rw[bM];exact List.mem_append_left _ (h.all c hc)⟩
theorem Ext.grew {w:World} {X D D':aA} {v:Value} (h:Ext w X D) (hg:Grew w v D D'):Ext w X D':=
 ⟨fun c hc=>by
  rcases hg.new c hc with hc| ⟨-,hc⟩
  ·exact h.new c hc
  ·exact .inr hc,fun c hc=>hg.keys c (h.all c hc)⟩
theorem Ext.keys {w:World} {X D D':aA} (h:Ext w X D) (hk:Sx.keys D'=Sx.keys D):Ext w X D':=⟨fun c hc=>h.new c (hk▸hc),fun c hc=>hk▸h.all c hc⟩
theorem lW {w0:World} {L:aA} {b:Nat} (h:b∉Sx.keys L):aP w0 L b=w0.heap[b]? :=by
 unfold aP
 cases hl:look L b with
 |none=>rfl
 |some o=>exact absurd (cJ hl) h
theorem Ext.not {w:World} {X D:aA} (h:Ext w X D) {b:Nat} (hb:b<w.heap.size) (hn:b∉Sx.keys X):b∉Sx.keys D:=fun hm=>by
 rcases h.new b hm with h|h
 ·exact hn h
 ·omega
theorem Ext.old {w:World} {X D:aA} (h:Ext w X D) {b:Nat} {o:Obj} (hb:w.heap[b]? =some o) (hn:b∉Sx.keys X):aP w D b=some o:=by
 rw[lW (h.not (Array.getElem?_eq_some_iff.1 hb).1 hn)];exact hb
def XS (w:World) (X:aA) (S:Value→aA→Prop) (v:Value) (D:aA):Prop:=Ext w X D∧S v D
structure Came (w0:World) (L X D:aA):Prop where
 new: ∀c,c∈Sx.keys D→c∈Sx.keys X∨(eS L c∧w0.heap.size≤c)
 all: ∀c,c∈Sx.keys X→c∈Sx.keys D
theorem Ext.came {w:World} {X D D' Y L:aA} (h:Ext w X (D++Y)) (hc:Came w L D D'):Ext w X (D'++Y):=by
 refine⟨fun c hm=> ?_,fun c hm=> ?_⟩
 ·rw[bM] at hm
  rcases List.mem_append.1 hm with hm|hm
  ·rcases hc.new c hm with hm| ⟨-,hm⟩
   ·exact h.new c (by rw[bM];exact List.mem_append_left _ hm)
   ·exact .inr hm
  ·exact h.new c (by rw[bM];exact List.mem_append_right _ hm)
 ·have:=h.all c hm
  rw[bM] at this ⊢
  rcases List.mem_append.1 this with hm|hm
  ·exact List.mem_append_left _ (hc.all c hm)
  ·exact List.mem_append_right _ hm
theorem Ext.came0 {w:World} {X D D' L:aA} (h:Ext w X D) (hc:Came w L D D'):Ext w X D':=by
 have:=Ext.came (Y:= []) (by simpa using h) hc
 simpa using this
theorem Hp.ownX {w0 w:World} {X:aA} (h:Hp w0 [] w) (hX: ∀p,p∈X→w0.heap[p.1]? =some p.2) (hn: (keys X).Nodup):Hp w0 X w:=by
 refine⟨fun b o hm=> ?_,hn,fun b hb _=>h.old b hb (by simp[keys]),h.size,h.tape,h.os,h.output⟩
 have:=hX (b,o) hm
 simp only at this
 rw[h.old b (Array.getElem?_eq_some_iff.1 this).1 (by simp[keys])]
 exact this
theorem Rets.enterX {P:Program} {k:FuncId} {fn:Func} {c:Code} {rs:List ResultVar} {args:Array Value} {w:World} {S:Value→aA→Prop} {n:Nat} {X:aA}
  (hf:P.funcs[k]? =some fn) (hb:fn.body=some c) (hr:fn.results=rs.toArray) (hn:fn.ntmps=n) (hX: ∀p,p∈X→w.heap[p.1]? =some p.2) (bE: (keys X).Nodup)
  (h:Cw P w c (args.toList++List.replicate (n - args.size) undef) X (retK P w rs (XS w X S))):Rets P k args w (XS w X S):=
 Rets.enter hf hb hr hn fun w' aB=>h w' (aB.ownX hX bE)
section
variable {P:Program} {w0:World} {f:Fr} {L:aA} {N:Fr→aA→Prop} {ops:Array Oper} {rest:List Oper} {md:Md}
 {d:Option Tmp} {ty:TypeId} {ps:String} {af:Array Edge} {g:Option (Nat×Bool)}
theorem Ow.callX {l:List Operand} {ts:Array TypeId} {k:FuncId} {X Y:aA} {S:Value→aA→Prop} {md':Md} (hL:L=X++Y) (he:md.turn=some md')
  (hs:bA ops f ⟨d, .call ⟨.value (.func k),l.toArray,ts⟩,ty,ps,af,g⟩=false)
  (hk: ∀a w,(callFunc k a).run P w= .ok (.enter k a) w)
  (hc: ∀w,Hp w0 L w→(∀p,p∈X→w.heap[p.1]? =some p.2)→(keys X).Nodup→Rets P k (l.map (ev f)).toArray w (XS w X S))
  (hn: ∀v D,Came w0 L X D→S v D→Ow P w0 ops md' rest (aS f d v) (D++Y) N):
  Ow P w0 ops md (⟨d, .call ⟨.value (.func k),l.toArray,ts⟩,ty,ps,af,g⟩::rest) f L N:=by
 subst hL
 have bE: ∀w,Hp w0 (X++Y) w→(keys X).Nodup∧ ∀c,c∈keys Y→c∉keys X:=by
  intro w hw
  have:=hw.nodup
  rw[bM,List.nodup_append] at this
  exact⟨this.1,fun c hc hx=>this.2.2 c hx c hc rfl⟩
 refine Ow.callF (S:=fun B v D=>((∀c,c∈keys D→c∈keys X∨B≤c)∧(∀c,c∈keys X→c∈keys D)∧S v D)∧ ∃w,Hp w0 (X++Y) w∧w.heap.size=B) he hs hk (fun w hw=> ?_) ?_
 ·refine Calls.mono (hc w hw (fun p hp=>hw.has _ _ (List.mem_append_left _ hp)) (bE w hw).1) ?_
  rintro e w' ⟨v,D,he,hp,hS⟩
  exact⟨v,D,he,hp,⟨hS.1.new,hS.1.all,hS.2⟩,w,hw,rfl⟩
 ·rintro B v D jM hB ⟨⟨h1,h2,h3⟩,w1,aF,Xs⟩
  refine⟨D++Y, ?_,hn v D ⟨fun c hc=>(h1 c hc).imp id fun h=>⟨gh fun b hb=>by have:=aF.lt hb;omega,by have:=aF.size;omega⟩,h2⟩ h3⟩
  intro w w' EE h k
  have ht:=h.trans k
  have hY: ∀c,c∈keys Y→c∉keys D:=by
   intro c hc hd
   rcases h1 c hd with hx|hx
   ·exact(bE w h).2 c hc hx
   ·have:=h.lt (b:=c) (by rw[bM];exact List.mem_append_right _ hc)
    omega
  have e1:X.filter (fun p=> !(keys D).contains p.1)= []:=by
   rw[List.filter_eq_nil_iff]
   intro p hp
   have:=h2 p.1 (List.mem_map.2 ⟨p,hp,rfl⟩)
   simpa using this
  have e2:Y.filter (fun p=> !(keys D).contains p.1)=Y:=xV hY
  rw[List.filter_append,e1,e2,List.nil_append] at ht
  refine ht.same (fun p=>by simp[or_comm]) ?_
  have:=ht.nodup
  rw[bM] at this ⊢
  exact(List.perm_append_comm.nodup_iff).1 this
end
structure OneS {α:Type} (enc:α→Value) (z:α) (w:World) (v:Value) (l:List α) (b off:Nat) (arr:Array Value) (E:TypeId) (fz:Nat×Nat):Prop where
 len: ∀m,gP (.sl m) v=some (vi l.length)
 idx: ∀m (k:Nat),k<l.length→lZ (.sl m) v (some (k:Int))=some (vp b (off+k*m.2))
 has:0<l.length→w.heap[b]? =some (.cells arr E fz)
 get: ∀k,k<l.length→arr[off+k]? =some (enc (l.getD k z))
theorem OneS.sl {α:Type} {enc:α→Value} {z:α} {w:World} {l:List α} {b off n c:Nat} {arr:Array Value} {E:TypeId} {fz:Nat×Nat} (hn:n=l.length)
  (has:w.heap[b]? =some (.cells arr E fz)) (get: ∀k,k<l.length→arr[off+k]? =some (enc (l.getD k z))):OneS enc z w (vsl b off n c) l b off arr E fz:=by
 subst hn
 exact⟨fun _=>rfl,fun m k h=>by rw[Ef _ _ _ _ _ _ (by omega)];simp,fun _=>has,get⟩
theorem OneS.lit {α:Type} {enc:α→Value} {z:α} {w:World} {b n c:Nat} {E:TypeId} {fz:Nat×Nat} {arr:Array Value} (l:List α) (hn:n=l.length) (ha:arr=(l.map enc).toArray) (has:w.heap[b]? =some (.cells arr E fz)):OneS enc z w (vsl b 0 n c) l b 0 arr E fz:=
 OneS.sl hn has (by intro k hk;rw[ha,Nat.zero_add,List.getElem?_toArray,List.getElem?_map,List.getD_eq_getElem?_getD,List.getElem?_eq_getElem hk];rfl)
structure RowS {α:Type} (m:Nat) (enc:α→List Value) (z:α) (w:World) (v:Value) (l:List α) (b off:Nat) (arr:Array Value) (E:TypeId) (fz:Nat×Nat):Prop where
 len: ∀x,gP (.sl x) v=some (vi l.length)
 idx: ∀a (k:Nat),k<l.length→lZ (.sl (a,m)) v (some (k:Int))=some (vp b (off+k*m))
 has:0<l.length→w.heap[b]? =some (.cells arr E fz)
 get: ∀k,k<l.length→ ∀j,j<m→arr[off+k*m+j]? =(enc (l.getD k z))[j]?
theorem RowS.sl {α:Type} {m:Nat} {enc:α→List Value} {z:α} {w:World} {l:List α} {b off n c:Nat} {arr:Array Value} {E:TypeId} {fz:Nat×Nat} (hn:n=l.length)
  (has:w.heap[b]? =some (.cells arr E fz)) (get: ∀k,k<l.length→ ∀j,j<m→arr[off+k*m+j]? =(enc (l.getD k z))[j]?):RowS m enc z w (vsl b off n c) l b off arr E fz:=by
 subst hn
 exact⟨fun _=>rfl,fun a k h=>by rw[Ef _ _ _ _ _ _ (by omega)];simp,fun _=>has,get⟩
theorem RowS.nil {α:Type} {m:Nat} {enc:α→List Value} {z:α} (w:World) (n c:Nat) (hn:n=0):RowS m enc z w (.slice none n c) [] 0 0 #[] 0 (0,0):=by
 subst hn
 exact⟨fun _=>rfl,fun _ _ h=>absurd h (Nat.not_lt_zero _),fun h=>absurd h (Nat.not_lt_zero _),fun _ h=>absurd h (Nat.not_lt_zero _)⟩
theorem RowS.load {α:Type} {m:Nat} {enc:α→List Value} {z:α} {w:World} {v:Value} {l:List α} {b off:Nat} {arr:Array Value} {E:TypeId} {fz:Nat×Nat} (h:RowS m enc z w v l b off arr E fz) (hm: ∀x,(enc x).length=m) (h0:0<m) {k:Nat} (hk:k<l.length):
  aI (some (true,m)) (some (.cells arr E fz)) (off+k*m)=some (.agg (enc (l.getD k z)).toArray):=by
 have hg:=h.get k hk
 have g5:off+k*m+m≤arr.size:=by
  have h1:=hg (m - 1) (by omega)
  rw[List.getElem?_eq_getElem (by rw[hm];omega)] at h1
  have:=(Array.getElem?_eq_some_iff.1 h1).1
  omega
 simp only[aI,g5, ↓reduceIte]
 congr 2
 apply Array.ext_getElem?
 intro j
 rw[Array.getElem?_extract]
 by_cases hj:j<m
 ·rw[if_pos (by omega),hg j hj,List.getElem?_toArray]
 ·rw[if_neg (by omega),List.getElem?_toArray,List.getElem?_eq_none (by rw[hm];omega)]
theorem RowS.cell {α:Type} {m:Nat} {enc:α→List Value} {z:α} {w:World} {v:Value} {l:List α} {b off:Nat} {arr:Array Value} {E:TypeId} {fz:Nat×Nat} (h:RowS m enc z w v l b off arr E fz) {k j n:Nat} (hk:k<l.length) (hj:j<m):
  aI (some (false,n)) (some (.cells arr E fz)) (off+k*m+j)=(enc (l.getD k z))[j]? :=h.get k hk j hj
end Go.Sx
namespace Go.Sx
open Go
section
variable {P:Program} {w0:World} {f:Fr} {L:aA} {N:Fr→aA→Prop} {ops:Array Oper} {rest:List Oper} {md:Md}
 {d:Option Tmp} {ty:TypeId} {ps:String} {af:Array Edge} {g:Option (Nat×Bool)}
theorem Km_ (l:List UInt8) (k size:Nat) (w:World): (Builtin.firstCells size k (vs l)).run P w= .ok ((l.take k).map v8).toArray w:=by
 simp only[vs,Builtin.firstCells]
 show Result.ok _ w=_
 congr 1
 have: ((ByteArray.mk l.toArray).extract 0 k).data=(l.take k).toArray:=by
  rw[ByteArray.data_extract]
  simp
 rw[this]
 simp
 rfl
theorem ay (R:List Nat) (x:UInt8):rdIn R (v8 x)=true:=(rfl)
theorem wR (R:List Nat) (x:UInt16):rdIn R (v16 x)=true:=(rfl)
theorem wP (R:List Nat) (x:UInt32):rdIn R (v32 x)=true:=(rfl)
theorem wK (R:List Nat) (x:UInt64):rdIn R (v64 x)=true:=(rfl)
theorem ax (R:List Nat) (x:Int):rdIn R (vi x)=true:=(rfl)
theorem Ow.copyText {td tx e:TypeId} {m:Bool×Nat} {x y:Operand} {b off n c:Nat} {l:List UInt8} {cs:Array Value} {E:TypeId} {md':Md} (he:md.turn=some md')
  (hs:bA ops f ⟨d, .call ⟨.builtin .copy, #[x,y], #[td,tx]⟩,ty,ps,af,g⟩=false) (hu:P.underlying td=some (.slice e)) (hm:aM P e=some m)
  (hx:ev f x=vsl b off n c) (hy:ev f y=vs l) (hl:look L b=some (.cells cs E (0,0))) (hn:off+n≤cs.size)
  (hO:Ow P w0 ops md' rest (aS f d (vi (min l.length n:Nat))) (setB L b (.cells (fJ cs off ((l.take (min l.length n)).map v8)) E (0,0))) N):
  Ow P w0 ops md (⟨d, .call ⟨.builtin .copy, #[x,y], #[td,tx]⟩,ty,ps,af,g⟩::rest) f L N:=by
 refine Ow.step he rfl hs fun w hw=> ?_
 have hb:=hw.has _ _ (cO hl)
 have aD:=(Array.getElem?_eq_some_iff.1 hb).1
 have aL: (Builtin.lenOf (vs l)).run P w= .ok l.length w:=by simp only[vs,Builtin.lenOf,sm];rfl
 have hfc:=Km_ (P:=P) l (min l.length n) m.2 w
 have bF:=Ge (P:=P) (b:=b) (off:=off) (E:=E) (fz:=(0,0)) ((l.take (min l.length n)).map v8) 0 cs w hb (by
  rw[List.length_map,List.length_take];have:=Nat.min_le_right l.length n;omega) (.inl (Nat.le_refl 0)) (by rw[List.all_map,List.all_eq_true];intro x _;rfl)
 refine .inl ⟨vi (min l.length n:Nat),{w with heap:=w.heap.setIfInBounds b (.cells (fJ cs off ((l.take (min l.length n)).map v8)) E (0,0))},_, ?_,hw.set (cJ hl) rfl rfl rfl rfl,hO⟩
 simp only[execOp,resolve,Sem.run_bind,Sem.run_pure,Result.andThen_ok,invoke,builtin,List.map_toArray,List.map_cons,List.map_nil,hx,hy]
 have: (Builtin.copy_ #[td,tx] ty #[vsl b off n c,vs l]).run P w= .ok (vi (min l.length n:Nat)) {w with heap:=w.heap.setIfInBounds b (.cells (fJ cs off ((l.take (min l.length n)).map v8)) E (0,0))}:=by
  simp only[Builtin.copy_,vsl,List.getElem?_toArray,List.getElem?_cons_zero,List.getElem?_cons_succ,Sem.run_bind,run_underlying hu w,Result.andThen_ok,aL,gO hm w]
  rw[show l.length.min n=min l.length n from rfl,hfc]
  simp only[Result.andThen_ok]
  rw[bF]
  rfl
 rw[this]
 rfl
end
end Go.Sx
namespace Go.Sx
open Go
section
variable {P:Program} {w0:World} {f:Fr} {L:aA} {N:Fr→aA→Prop} {ops:Array Oper} {rest:List Oper} {md:Md}
 {d:Option Tmp} {ty:TypeId} {ps:String} {af:Array Edge} {g:Option (Nat×Bool)}
def gz (n:Int):Value:= .int .i32 n
theorem AJ (op:BinOp) (t:TypeId) (a b:Int):aT P op t (gz a) (gz b)=aC op (gz a) (gz b):=(rfl)
theorem Y7 (a b:Int):aC .lss (gz a) (gz b)=some (.bool (decide (a<b))):=by simp[aC,gz,bC,f5]
theorem Yf (a b:Int):aC .gtr (gz a) (gz b)=some (.bool (decide (b<a))):=by simp[aC,gz,bC,f5]
theorem YD (a b:Int):aC .eql (gz a) (gz b)=some (.bool (a==b)):=by simp[aC,gz,bC,f5]
theorem BN (n:Int):Value.int .i32 n=gz n:=(rfl)
theorem Ow.callFn1 {x y:Operand} {ts:Array TypeId} {k:FuncId} {v a:Value} (hs:bA ops f ⟨d, .call ⟨.value x, #[y],ts⟩,ty,ps,af,g⟩=false) (hx:ev f x= .func (.func k) #[] #[]) (hy:ev f y=a)
  (hk: ∀a w,(callFunc k a).run P w= .ok (.enter k a) w) (hc: ∀w,Hp w0 L w→Rets P k #[a] w (fun v' D=>v'=v∧D= [])) (hn:Ow P w0 ops md.next rest (aS f d v) L N):
  Ow P w0 ops md (⟨d, .call ⟨.value x, #[y],ts⟩,ty,ps,af,g⟩::rest) f L N:=
 Ow.callV hs hx hk (fun w hw=>by simpa [hy] using hc w hw) hn
theorem Ow.rangeText {t:TypeId} {x:Operand} {l:List UInt8} {md':Md} (he:md.turn=some md') (hs:bA ops f ⟨d, .range t x,ty,ps,af,g⟩=false) (hu:P.underlying t=some .string) (hx:ev f x=vs l)
  (hn: ∀b,eS L b→w0.heap.size≤b→Ow P w0 ops md' rest (aS f d (vp b 0)) (L++ [(b, .stringIter ⟨l.toArray⟩ 0)]) N):
  Ow P w0 ops md (⟨d, .range t x,ty,ps,af,g⟩::rest) f L N:=by
 refine Ow.step he rfl hs fun w hw=> .inl ⟨vp w.heap.size 0,w.alloc (.stringIter ⟨l.toArray⟩ 0),_, ?_,hw.alloc _,hn _ (gh fun b hb=>hw.lt hb) hw.size⟩
 simp only[execOp,Instr.range,Sem.run_bind,run_underlying hu w,Result.andThen_ok,hx,vs]
 rfl
theorem Ow.nextText {x:Operand} {b:Nat} {l:List UInt8} {pos:Nat} {md':Md} (he:md.turn=some md') (hs:bA ops f ⟨d, .next x true,ty,ps,af,g⟩=false) (hx:ev f x=vp b 0) (hl:look L b=some (.stringIter ⟨l.toArray⟩ pos)) (hp:pos<l.length)
  (hn:Ow P w0 ops md' rest (aS f d (.tuple #[.bool true,vi pos,gz (Utf8.decode ⟨l.toArray⟩ pos).1])) (setB L b (.stringIter ⟨l.toArray⟩ (pos+ (Utf8.decode ⟨l.toArray⟩ pos).2))) N):
  Ow P w0 ops md (⟨d, .next x true,ty,ps,af,g⟩::rest) f L N:=by
 refine Ow.step he rfl hs fun w hw=> ?_
 have hb:=hw.has _ _ (cO hl)
 refine .inl ⟨_,{w with heap:=w.heap.setIfInBounds b (.stringIter ⟨l.toArray⟩ (pos+ (Utf8.decode ⟨l.toArray⟩ pos).2))},_, ?_,hw.set (cJ hl) rfl rfl rfl rfl,hn⟩
 have hg: (getObj b).run P w= .ok (.stringIter ⟨l.toArray⟩ pos) w:=by
  simp only[getObj,Sem.run,hb]
 have bF: ∀o,(setObj b o).run P w= .ok () {w with heap:=w.heap.setIfInBounds b o}:=by
  intro o;simp only[setObj,Sem.run,hb]
 have g5:pos< (ByteArray.mk l.toArray).size:=by rw[sm];exact hp
 have: (Instr.next (vp b 0) true ty).run P w= .ok (.tuple #[.bool true,vi pos,gz (Utf8.decode ⟨l.toArray⟩ pos).1]) {w with heap:=w.heap.setIfInBounds b (.stringIter ⟨l.toArray⟩ (pos+ (Utf8.decode ⟨l.toArray⟩ pos).2))}:=by
  simp only[Instr.next,vp,Sem.run_bind,hg,Result.andThen_ok,g5, ↓reduceIte,bF]
  rfl
 simp only[execOp,Sem.run_bind,hx]
 rw[this]
 rfl
theorem Ow.nextOver {x:Operand} {b:Nat} {l:List UInt8} {pos:Nat} {md':Md} (he:md.turn=some md') (hs:bA ops f ⟨d, .next x true,ty,ps,af,g⟩=false) (hx:ev f x=vp b 0) (hl:look L b=some (.stringIter ⟨l.toArray⟩ pos)) (hp: ¬pos<l.length)
  (hn:Ow P w0 ops md' rest (aS f d (.tuple #[.bool false])) L N):
  Ow P w0 ops md (⟨d, .next x true,ty,ps,af,g⟩::rest) f L N:=by
 refine Ow.step he rfl hs fun w hw=> ?_
 have hb:=hw.has _ _ (cO hl)
 refine .inl ⟨.tuple #[.bool false],w,_, ?_,hw,hn⟩
 have hg: (getObj b).run P w= .ok (.stringIter ⟨l.toArray⟩ pos) w:=by
  simp only[getObj,Sem.run,hb]
 have g5: ¬pos< (ByteArray.mk l.toArray).size:=by rw[sm];exact hp
 have: (Instr.next (vp b 0) true ty).run P w= .ok (.tuple #[.bool false]) w:=by
  simp only[Instr.next,vp,Sem.run_bind,hg,Result.andThen_ok,g5, ↓reduceIte]
  rfl
 simp only[execOp,Sem.run_bind,hx]
 rw[this]
 rfl
end
theorem Kg (l:List UInt8) (i:Nat) (h:i<l.length):0< (Utf8.decode ⟨l.toArray⟩ i).2∧
  ((l.getD i 0).toNat<128→Utf8.decode ⟨l.toArray⟩ i=((l.getD i 0).toNat,1))∧(128≤ (l.getD i 0).toNat→128≤ (Utf8.decode ⟨l.toArray⟩ i).1):=by
 have hb: ((ByteArray.mk l.toArray).get! (i+0))=l.getD i 0:=by
  simp[ByteArray.get!,h]
 unfold Utf8.decode
 simp only[hb]
 generalize (l.getD i 0).toNat=b0
 refine⟨?_,fun h1=> ?_,fun h1=> ?_⟩
 ·(repeat' split)<;>simp
 ·rw[if_pos h1]
 ·rw[if_neg (by omega)]
  (repeat' split)<;>first
   | (simp only[Utf8.runeError];omega)
   | (rename_i hc;simp only[Bool.and_eq_true,decide_eq_true_eq,ge_iff_le] at hc;omega)
   | (rename_i hc;simp only[ge_iff_le] at hc;omega)
end Go.Sx
namespace Go.Sx
open Go
abbrev Vals:=List (List UInt8×List UInt8)
def fnd (k:List UInt8):Vals→Nat→Option (Nat×List UInt8)
 | [],_=>none
 |p::r,i=>if k==p.1 then some (i,p.2) else fnd k r (i+1)
def updV (k v:List UInt8):Vals→Vals
 | []=> [(k,v)]
 |p::r=>if k==p.1 then(p.1,v)::r else p::updV k v r
def kE (p:List UInt8×List UInt8):Value×Value:=(vs p.1, .agg (a8 p.2))
def MapR (o:Obj) (m:Vals):Prop:= ∃es clock,o= .map es clock∧es.toList.map (fun e=>(e.key,e.val))=m.map kE∧(es.toList.map (·.born)++ [clock]).Pairwise (· < ·)
theorem zw {es:List MapEntry} {c:Nat} {e:MapEntry} (h: (es.map (·.born)++ [c]).Pairwise (· < ·)) (he:e.born=c): ((es++ [e]).map (·.born)++ [c+1]).Pairwise (· < ·):=by
 rw[List.map_append,List.map_cons,List.map_nil,he]
 refine List.pairwise_append.2 ⟨h,List.pairwise_singleton _ _, ?_⟩
 intro a ha b hb
 rw[List.mem_singleton] at hb
 subst hb
 rcases List.mem_append.1 ha with hm|hm
 ·have:=(List.pairwise_append.1 h).2.2 a hm c (List.mem_singleton.2 rfl)
  omega
 ·rw[List.mem_singleton] at hm
  omega
theorem Z0 {es:List MapEntry} {j:Nat} {g:MapEntry→MapEntry} (hg: ∀e,(g e).born=e.born): (es.modify j g).map (·.born)=es.map (·.born):=by
 apply List.ext_getElem?
 intro i
 rw[List.getElem?_map,List.getElem?_map,List.getElem?_modify]
 cases es[i]? with
 |none=>rfl
 |some e=>
  by_cases h:j=i
  ·simp[h,hg]
  ·simp[h]
theorem MX {es:List MapEntry} {c j:Nat} (h: (es.map (·.born)++ [c]).Pairwise (· < ·)): ((es.eraseIdx j).map (·.born)++ [c]).Pairwise (· < ·):=
 h.sublist (((List.eraseIdx_sublist es j).map _).append_right [c])
theorem nj (a b:List UInt8): ((ByteArray.mk a.toArray)==(ByteArray.mk b.toArray))=(a==b):=by
 show(a.toArray==b.toArray)=(a==b)
 simp
theorem yg (k:List UInt8): ∀ (es:List MapEntry) (m:Vals) (i:Nat),es.map (fun e=>(e.key,e.val))=m.map kE→
  Instr.findNow .string (vs k) es i=some ((fnd k m i).map fun p=>(p.1, .agg (a8 p.2)))
 | [],[],i,_=>rfl
 | [],_::_,_,h=>by cases h
 |_::_,[],_,h=>by cases h
 |e::es,p::m,i,h=>by
  simp only[List.map_cons,List.cons.injEq,kE,Prod.mk.injEq] at h
  obtain⟨⟨h1,h2⟩,h3⟩:=h
  unfold Instr.findNow
  have hs:Instr.sameNow .string (vs k) e.key=some (k==p.1):=by
   rw[h1]
   simp only[vs,Instr.sameNow,nj]
  rw[hs]
  unfold fnd
  cases hk: (k==p.1)
  ·simp only[Bool.false_eq_true, ↓reduceIte]
   exact yg k es m (i+1) h3
  ·simp[h2]
theorem tc (k:List UInt8): ∀ (m:Vals) (i j:Nat) (v:List UInt8),fnd k m i=some (j,v)→i≤j∧ ∃a,m[j - i]? =some (k,a)∧a=v
 | [],_,_,_,h=>by cases h
 |p::r,i,j,v,h=>by
  unfold fnd at h
  split at h
  ·rename_i hk
   cases h
   refine⟨Nat.le_refl _,p.2, ?_,rfl⟩
   rw[Nat.sub_self,List.getElem?_cons_zero,eq_of_beq hk]
  ·obtain⟨h1,a,h2,h3⟩:=tc k r (i+1) j v h
   refine⟨by omega,a, ?_,h3⟩
   rw[show j - i=(j - (i+1))+1 by omega,List.getElem?_cons_succ];exact h2
theorem zp (k v:List UInt8): ∀ (es:List MapEntry) (m:Vals) (i j:Nat) (a:List UInt8),es.map (fun e=>(e.key,e.val))=m.map kE→fnd k m i=some (j,a)→
  (es.modify (j - i) fun e=>{e with key:=vs k,val:= .agg (a8 v)}).map (fun e=>(e.key,e.val))=(updV k v m).map kE
 | [],[],_,_,_,_,h=>by cases h
 | [],_::_,_,_,_,h,_=>by cases h
 |_::_,[],_,_,_,h,_=>by cases h
 |e::es,p::m,i,j,a,h,hf=>by
  simp only[List.map_cons,List.cons.injEq,kE,Prod.mk.injEq] at h
  obtain⟨⟨h1,h2⟩,h3⟩:=h
  unfold fnd at hf
  unfold updV
  split at hf
  ·rename_i hk
   cases hf
   rw[if_pos hk,Nat.sub_self]
   simp only[List.modify_zero_cons,List.map_cons,kE,eq_of_beq hk]
   rw[h3]
  ·rename_i hk
   have dN:=(tc k m (i+1) j a hf).1
   rw[if_neg hk,show j - i=(j - (i+1))+1 by omega]
   simp only[List.modify_succ_cons,List.map_cons,kE]
   rw[zp k v es m (i+1) j a h3 hf,h1,h2]
theorem zx (k v:List UInt8): ∀ (m:Vals) (i:Nat),fnd k m i=none→updV k v m=m++ [(k,v)]
 | [],_,_=>rfl
 |p::r,i,h=>by
  unfold fnd at h
  split at h
  ·cases h
  ·rename_i hk
   unfold updV
   rw[if_neg hk,zx k v r (i+1) h];rfl
section
variable {P:Program} {w0:World} {f:Fr} {L:aA} {N:Fr→aA→Prop} {ops:Array Oper} {rest:List Oper} {md:Md}
 {d:Option Tmp} {ty:TypeId} {ps:String} {af:Array Edge} {g:Option (Nat×Bool)}
theorem Lw {w:World} {t:TypeId} (hu:P.underlying t=some .string) (k:List UInt8) (es:List MapEntry) (m:Vals) (h:es.map (fun e=>(e.key,e.val))=m.map kE):
  (Instr.findKey t (vs k) es).run P w= .ok ((fnd k m 0).map fun p=>(p.1, .agg (a8 p.2))) w:=by
 simp only[Instr.findKey,Sem.run_bind,run_underlying hu w,Result.andThen_ok,yg k es m 0 h]
 rfl
theorem ZA {w:World} {t:TypeId} (hu:P.underlying t=some .string) (e:Bool) (k:List UInt8): (Instr.checkKey e 10000 t (vs k)).run P w= .ok () w:=by
 unfold Instr.checkKey
 simp only[Sem.run_bind,run_underlying hu w,Result.andThen_ok,vs]
 rfl
theorem p5 {w:World} {b:Nat} {es:Array MapEntry} {c:Nat} (hb:w.heap[b]? =some (.map es c)): (getObj b).run P w= .ok (.map es c) w:=by
 simp only[getObj,Sem.run,hb]
theorem wT {w:World} {b:Nat} {es:Array MapEntry} {c:Nat} (hb:w.heap[b]? =some (.map es c)) (o:Obj): (setObj b o).run P w= .ok () {w with heap:=w.heap.setIfInBounds b o}:=by
 simp only[setObj,Sem.run,hb]
def vm (b:Nat):Value:= .map (some b)
theorem Ow.makeMap {t:TypeId} {md':Md} (he:md.turn=some md') (hs:bA ops f ⟨d, .makeMap t none,ty,ps,af,g⟩=false)
  (hn: ∀b o,eS L b→w0.heap.size≤b→MapR o []→Ow P w0 ops md' rest (aS f d (vm b)) (L++ [(b,o)]) N):
  Ow P w0 ops md (⟨d, .makeMap t none,ty,ps,af,g⟩::rest) f L N:=by
 refine Ow.step he rfl hs fun w hw=> .inl ⟨vm w.heap.size,w.alloc (.map #[] 0),_, ?_,hw.alloc _,hn _ _ (gh fun b hb=>hw.lt hb) hw.size ⟨#[],0,rfl,rfl,List.pairwise_singleton _ _⟩⟩
 simp only[execOp,Instr.makeMap,Sem.run_bind,Option.map_none]
 rfl
theorem SE {k:List UInt8} {m:Vals} {es:List MapEntry} {j:Nat} {a:List UInt8} (h:es.map (fun e=>(e.key,e.val))=m.map kE) (hf:fnd k m 0=some (j,a)): ∃e,es[j]? =some e∧e.key=vs k:=by
 obtain⟨-,a',h1,rfl⟩:=tc k m 0 j a hf
 rw[Nat.sub_zero] at h1
 have:=congrArg (·[j]?) h
 simp only[List.getElem?_map,h1,Option.map_some] at this
 cases he:es[j]? with
 |none=>rw[he] at this;cases this
 |some e=>
  rw[he] at this
  simp only[Option.map_some,Option.some.injEq,kE,Prod.mk.injEq] at this
  exact⟨e,rfl,this.1⟩
theorem Ow.mapUpdate {t kt vt:TypeId} {x y z:Operand} {b:Nat} {o:Obj} {m:Vals} {k v:List UInt8} {md':Md} (he:md.turn=some md') (hs:bA ops f ⟨d, .mapUpdate t x y z,ty,ps,af,g⟩=false) (hu:P.underlying t=some (.map kt vt)) (xH:P.underlying kt=some .string)
  (hx:ev f x=vm b) (hy:ev f y=vs k) (hz:ev f z= .agg (a8 v)) (hl:look L b=some o) (hm:MapR o m)
  (hn: ∀o',MapR o' (updV k v m)→Ow P w0 ops md' rest (aS f d undef) (setB L b o') N):
  Ow P w0 ops md (⟨d, .mapUpdate t x y z,ty,ps,af,g⟩::rest) f L N:=by
 obtain⟨es,c,rfl,iO,gT⟩:=hm
 refine Ow.step he rfl hs fun w hw=> ?_
 have hb:=hw.has _ _ (cO hl)
 have ft:=Lw (w:=w) xH k es.toList m iO
 cases hf:fnd k m 0 with
 |none=>
  rw[hf] at ft
  refine .inr (.inl ⟨{w with heap:=w.heap.setIfInBounds b (.map (es.push {key:=vs k,val:= .agg (a8 v),born:=c}) (c+1))},_, ?_,hw.set (cJ hl) rfl rfl rfl rfl,hn _ ⟨_,_,rfl, ?_,by rw[Array.toList_push];exact zw gT rfl⟩⟩)
  ·have: (Instr.mapUpdate t (vm b) (vs k) (.agg (a8 v))).run P w= .ok () {w with heap:=w.heap.setIfInBounds b (.map (es.push {key:=vs k,val:= .agg (a8 v),born:=c}) (c+1))}:=by
    simp only[Instr.mapUpdate,vm,Sem.run_bind,run_underlying hu w,Result.andThen_ok,p5 hb,ZA xH,ft,Option.map_none,wT hb]
   simp only[execOp,Sem.run_bind,hx,hy,hz]
   rw[this];rfl
  ·rw[zx k v m 0 hf,Array.toList_push,List.map_append,iO,List.map_append];rfl
 |some p=>
  obtain⟨j,a⟩:=p
  rw[hf] at ft
  obtain⟨e,WT,WU⟩:=SE iO hf
  have vT:es[j]? =some e:=by simpa using WT
  have fw: (Instr.keyThatStays (((es[j]?).map (·.key)).getD (vs k)) (vs k)).run P w= .ok (vs k) w:=by
   rw[vT,Option.map_some,Option.getD_some,WU]
   unfold Instr.keyThatStays
   have:Instr.sameBits 10000 (vs k) (vs k)=true:=by simp[vs,Instr.sameBits,nj]
   rw[if_pos this];rfl
  refine .inr (.inl ⟨{w with heap:=w.heap.setIfInBounds b (.map (es.modify j fun e=>{e with key:=vs k,val:= .agg (a8 v)}) c)},_, ?_,hw.set (cJ hl) rfl rfl rfl rfl,hn _ ⟨_,_,rfl, ?_,by rw[Array.toList_modify,Z0 (g:=fun e=>{e with key:=vs k,val:= .agg (a8 v)}) fun _=>rfl];exact gT⟩⟩)
  ·have: (Instr.mapUpdate t (vm b) (vs k) (.agg (a8 v))).run P w= .ok () {w with heap:=w.heap.setIfInBounds b (.map (es.modify j fun e=>{e with key:=vs k,val:= .agg (a8 v)}) c)}:=by
    simp only[Instr.mapUpdate,vm,Sem.run_bind,run_underlying hu w,Result.andThen_ok,p5 hb,ZA xH,ft,Option.map_some,fw,wT hb]
   simp only[execOp,Sem.run_bind,hx,hy,hz]
   rw[this];rfl
  ·rw[Array.toList_modify]
   have:=zp k v es.toList m 0 j a iO hf
   rw[Nat.sub_zero] at this
   exact this
end
end Go.Sx
namespace Go.Sx
open Go
section
variable {P:Program} {w0:World} {f:Fr} {L:aA} {N:Fr→aA→Prop} {ops:Array Oper} {rest:List Oper} {md:Md}
 {d:Option Tmp} {ty:TypeId} {ps:String} {af:Array Edge} {g:Option (Nat×Bool)}
end
end Go.Sx
namespace Go.Sx
open Go
def kv (e:MapEntry):Value×Value:=(e.key,e.val)
def ItR (o:Obj) (bm:Nat) (om:Obj) (m dn lf:Vals):Prop:=
 ∃es clock,∃ds:List MapEntry,om= .map es clock∧(es.toList.map (·.born)++ [clock]).Pairwise (· < ·)∧o= .mapIter (some bm) clock (ds.map (·.born)).toArray clock∧
  ds.map kv=dn.map kE∧(∀d,d∈ds→d∈es.toList)∧((es.toList.filter fun e=> !(ds.map (·.born)).contains e.born).map kv=lf.map kE)∧(dn++lf).Perm m
theorem Gh {l:List MapEntry} {c:Nat} (h: (l.map (·.born)++ [c]).Pairwise (· < ·)): (l.map (·.born)).Nodup:=
 ((List.pairwise_append.1 h).1).imp fun h=>Nat.ne_of_lt h
theorem Tb {l:List MapEntry} {c:Nat} (h: (l.map (·.born)++ [c]).Pairwise (· < ·)): ∀x,x∈l→x.born<c:=fun x hx=>
 (List.pairwise_append.1 h).2.2 _ (List.mem_map.2 ⟨x,hx,rfl⟩) c (List.mem_singleton.2 rfl)
theorem zS (es:Array MapEntry) (ds:List MapEntry): (leftOf es (ds.map (·.born)).toArray).toList=es.toList.filter fun e=> !(ds.map (·.born)).contains e.born:=by
 unfold leftOf
 rw[Array.toList_filter]
 simp
theorem ItR.start {bm:Nat} {om:Obj} {m:Vals} (h:MapR om m): ∃es clock,om= .map es clock∧ItR (.mapIter (some bm) clock #[] clock) bm om m [] m:=by
 obtain⟨es,clock,rfl,h1,h2⟩:=h
 refine⟨es,clock,rfl,es,clock,[],rfl,h2,rfl,rfl,(fun d hd=>by cases hd), ?_,by rw[List.nil_append]⟩
 rw[show(es.toList.filter fun e=> !(([]:List MapEntry).map (·.born)).contains e.born)=es.toList from List.filter_eq_self.2 (fun _ _=>rfl)]
 exact h1
theorem ItR.step {bm:Nat} {om:Obj} {m dn lf:Vals} {es:Array MapEntry} {clock:Nat} {ds:List MapEntry} {e:MapEntry} (hb: (es.toList.map (·.born)++ [clock]).Pairwise (· < ·))
  (hd:ds.map kv=dn.map kE) (hm: ∀d,d∈ds→d∈es.toList) (hl: (es.toList.filter fun e=> !(ds.map (·.born)).contains e.born).map kv=lf.map kE) (hp: (dn++lf).Perm m)
  (he:e∈es.toList.filter fun e=> !(ds.map (·.born)).contains e.born) (kH:om= .map es clock):
  ∃p lf',kv e=kE p∧lf.length=lf'.length+1∧ItR (.mapIter (some bm) clock ((ds.map (·.born)).toArray.push e.born) clock) bm om m (dn++ [p]) lf':=by
 obtain⟨A,C,ut⟩:=List.append_of_mem he
 rw[ut,List.map_append,List.map_cons] at hl
 obtain⟨l1,l2,rfl,h1,h2⟩:=List.append_eq_map_iff.1 hl
 obtain⟨p,l3,rfl,h3,h4⟩:=(List.map_eq_cons_iff.1 h2)
 refine⟨p,l1++l3,h3.symm,by simp;omega,es,clock,ds++ [e],kH,hb,by simp,by simp[hd,h3], ?_, ?_, ?_⟩
 ·intro d iz
  rcases List.mem_append.1 iz with h|h
  ·exact hm d h
  ·rw[List.mem_singleton] at h;subst h;exact(List.mem_filter.1 he).1
 ·have bE: ((A++e::C).map (·.born)).Nodup:=by
   rw[←ut]
   exact(Gh hb).sublist ((List.filter_sublist).map _)
  have e1: (es.toList.filter fun x=> !((ds++ [e]).map (·.born)).contains x.born)=(A++e::C).filter fun x=> !(x.born==e.born):=by
   rw[←ut,List.filter_filter]
   refine List.filter_congr fun x hx=> ?_
   simp only[List.map_append,List.map_cons,List.map_nil,List.contains_append,List.contains_cons,List.contains_nil,Bool.or_false,Bool.not_or]
   rw[Bool.and_comm]
  rw[List.map_append,List.map_cons,List.nodup_append] at bE
  obtain⟨-,nJ,XB⟩:=bE
  rw[List.nodup_cons] at nJ
  have e2: ((A++e::C).filter fun x=> !(x.born==e.born))=A++C:=by
   rw[List.filter_append,List.filter_cons]
   simp only[beq_self_eq_true,Bool.not_true,Bool.false_eq_true, ↓reduceIte]
   congr 1
   ·refine List.filter_eq_self.2 fun x hx=> ?_
    have:=XB x.born (List.mem_map.2 ⟨x,hx,rfl⟩) e.born List.mem_cons_self
    simpa using this
   ·refine List.filter_eq_self.2 fun x hx=> ?_
    have:x.born≠e.born:=fun h=>nJ.1 (h▸List.mem_map.2 ⟨x,hx,rfl⟩)
    simpa using this
  rw[e1,e2,List.map_append,List.map_append,h1,h4]
 ·refine List.Perm.trans ?_ hp
  rw[List.append_assoc]
  refine List.Perm.append_left dn ?_
  rw[List.singleton_append]
  exact List.perm_middle.symm
section
variable {P:Program} {w0:World} {f:Fr} {L:aA} {N:Fr→aA→Prop} {ops:Array Oper} {rest:List Oper} {md:Md}
 {d:Option Tmp} {ty:TypeId} {ps:String} {af:Array Edge} {g:Option (Nat×Bool)}
def itv (b:Nat):Value:= .pointer (some ⟨b,0,none⟩)
end
end Go.Sx
namespace Go.Sx
open Go
theorem Bc (A B C:List Value) {o n:Nat} (hA:A.length=o) (hB:B.length=n): (A++ (B++C)).toArray.extract o (o+n)=B.toArray:=by
 subst hA;subst hB
 rw[List.extract_toArray,List.extract_eq_take_drop,List.drop_left,Nat.add_sub_cancel_left,List.take_left]
theorem U0 (A C:List Value) (v:Value) {o:Nat} (hA:A.length=o): (A++ ([v]++C)).toArray[o]? =some v:=by
 subst hA;simp
theorem FF (A C:List Value) (v:Value) {o:Nat} (hA:A.length=o): (A++ ([v]++C))[o]? =some v:=by
 subst hA;simp
theorem xu (A B C:List Value) {o n:Nat} (E:TypeId) (fz:Nat×Nat) (hA:A.length=o) (hB:B.length=n):aI (some (true,n)) (some (.cells (A++ (B++C)).toArray E fz)) o=some (.agg B.toArray):=by
 have hs:o+n≤ (A++ (B++C)).toArray.size:=by
  simp only[List.size_toArray,List.length_append];omega
 unfold aI
 simp only[hs, ↓reduceIte]
 rw[Bc A B C hA hB]
theorem lS (A C:List Value) (v:Value) {o:Nat} (n:Nat) (E:TypeId) (fz:Nat×Nat) (hA:A.length=o):aI (some (false,n)) (some (.cells (A++ ([v]++C)).toArray E fz)) o=some v:=by
 rw[loadV_one];exact U0 A C v hA
theorem gj (A B B' C:List Value) {o n:Nat} (a:Bool) (x:Value) (E:TypeId) (hA:A.length=o) (hB:B.length=n) (hx:x.cells=B'.toArray) (ZV:B'.length=n) (ho:B'.all Value.oneCell'=true):
  ab (some (a,n)) (some (.cells (A++ (B++C)).toArray E (0,0))) o x=some (.cells (A++ (B'++C)).toArray E (0,0)):=by
 subst hA
 have hp:=uB B' A B C (by rw[hB,ZV])
 rw[List.append_assoc,List.append_assoc] at hp
 unfold ab
 simp only[hx]
 rw[if_pos ⟨by rw[List.size_toArray,ZV],by simp only[List.size_toArray,List.length_append];omega, .inl (Nat.le_refl 0),ho⟩,hp]
theorem xh (cs:List Value) {n:Nat} (a:Bool) (old:Array Value) (E:TypeId) (hn:cs.length=n) (ho:cs.all Value.oneCell'=true) (h:old.size=n):
  ab (some (a,n)) (some (.cells old E (0,0))) 0 (.agg cs.toArray)=some (.cells cs.toArray E (0,0)):=
 F0 n a cs.toArray old E ⟨by rw[List.size_toArray,hn],h⟩ ho
theorem rr (l:List UInt8): (l.map v8).all Value.oneCell'=true:=by
 rw[List.all_map]
 exact List.all_eq_true.2 fun x _=>rfl
theorem RowS.part {α:Type} {m:Nat} {enc:α→List Value} {z:α} {w:World} {v:Value} {l:List α} {b off:Nat} {arr:Array Value} {E:TypeId} {fz:Nat×Nat} (h:RowS m enc z w v l b off arr E fz) (hm: ∀x,(enc x).length=m) {k o n:Nat} (hk:k<l.length) (ho:o+n≤m) (hn:0<n):
  aI (some (true,n)) (some (.cells arr E fz)) (off+k*m+o)=some (.agg ((enc (l.getD k z)).toArray.extract o (o+n))):=by
 have hg: ∀i,i<n→arr[off+k*m+ (o+i)]? =(enc (l.getD k z))[o+i]? :=fun i hi=>h.get k hk (o+i) (by omega)
 have aL:=hm (l.getD k z)
 have g5:off+k*m+o+n≤arr.size:=by
  have h1:=hg (n - 1) (by omega)
  rw[List.getElem?_eq_getElem (by omega)] at h1
  have:=(Array.getElem?_eq_some_iff.1 h1).1
  omega
 unfold aI
 simp only[g5, ↓reduceIte]
 congr 2
 apply Array.ext_getElem?
 intro i
 by_cases hi:i<n
 ·rw[Array.getElem?_extract,Array.getElem?_extract,if_pos (by omega),if_pos (by rw[List.size_toArray];omega)]
  have hh:=hg i hi
  rw[show off+k*m+ (o+i)=off+k*m+o+i by omega] at hh
  rw[hh]
  exact(List.getElem?_toArray ..).symm
 ·rw[Array.getElem?_eq_none (by rw[Array.size_extract];omega),Array.getElem?_eq_none (by rw[Array.size_extract];omega)]
end Go.Sx
namespace Go.Sx
open Go
theorem Cw.forget {P:Program} {w0:World} {c:Code} {f:Fr} {L:aA} {K:cM} (M:aA) (hM: ∀p,p∈M→p∈L) (hn: (keys M).Nodup) (j3: ∀p,p∈L→p.1∉keys M→w0.heap.size≤p.1)
  (h:Cw P w0 c f M K):Cw P w0 c f L K:=fun w hw=>h w (hw.drop hM hn fun p hp aD hk=>by have:=j3 p hp hk;omega)
end Go.Sx
namespace Go.Sx
open Go
def SlV {α:Type} (m:Nat) (enc:α→List Value) (z:α) (w:World) (v:Value) (l:List α):Prop:=
 ∃b off c arr E fz,RowS m enc z w v l b off arr E fz∧l.length≤c∧((v= .slice none 0 0∧l= []∧c=0)∨(v=vsl b off l.length c∧w.heap[b]? =some (.cells arr E fz)∧off+l.length*m≤arr.size))
section
variable {α:Type} {m:Nat} {enc:α→List Value} {z:α} {w:World} {v:Value} {l:List α}
theorem RowS.sl' {b off n c:Nat} {arr:Array Value} {E:TypeId} {fz:Nat×Nat} (hn:n=l.length)
  (has:0<l.length→w.heap[b]? =some (.cells arr E fz)) (get: ∀k,k<l.length→ ∀j,j<m→arr[off+k*m+j]? =(enc (l.getD k z))[j]?):RowS m enc z w (vsl b off n c) l b off arr E fz:=by
 subst hn
 exact⟨fun x=>rfl,fun a k hk=>Ef _ _ _ _ _ _ ⟨by omega,by omega⟩,has,get⟩
theorem SlV.nil (w:World):SlV m enc z w (.slice none 0 0) []:=⟨0,0,0, #[],0,(0,0),RowS.nil w 0 0 rfl,Nat.le_refl _, .inl ⟨rfl,rfl,rfl⟩⟩
theorem SlV.row (h:SlV m enc z w v l): ∃b off arr E fz,RowS m enc z w v l b off arr E fz:=by
 obtain⟨b,off,c,arr,E,fz,hr,-⟩:=h;exact⟨b,off,arr,E,fz,hr⟩
theorem SlV.sl {b off c:Nat} {arr:Array Value} {E:TypeId} {fz:Nat×Nat} (has:w.heap[b]? =some (.cells arr E fz)) (get: ∀k,k<l.length→ ∀j,j<m→arr[off+k*m+j]? =(enc (l.getD k z))[j]?) (hc:l.length≤c) (hs:off+l.length*m≤arr.size):SlV m enc z w (vsl b off l.length c) l:=
 ⟨b,off,c,arr,E,fz,RowS.sl rfl has get,hc, .inr ⟨rfl,has,hs⟩⟩
theorem RowS.old {w':World} {b off:Nat} {arr:Array Value} {E:TypeId} {fz:Nat×Nat} {L:aA} (h:RowS m enc z w v l b off arr E fz) (hw:Hp w L w') (hb:0<l.length→b∉keys L):RowS m enc z w' v l b off arr E fz:=
 ⟨h.len,h.idx,fun hl=>by have hh:=h.has hl;rw[hw.old b (Array.getElem?_eq_some_iff.1 hh).1 (hb hl)];exact hh,h.get⟩
theorem RowS.lt {b off:Nat} {arr:Array Value} {E:TypeId} {fz:Nat×Nat} (h:RowS m enc z w v l b off arr E fz) (hl:0<l.length):b<w.heap.size:=(Array.getElem?_eq_some_iff.1 (h.has hl)).1
theorem SlV.old {w':World} {L:aA} (h:SlV m enc z w v l) (hw:Hp w L w') (hb: ∀b,slB v=some b→b<w.heap.size→b∉keys L):SlV m enc z w' v l:=by
 obtain⟨b,off,c,arr,E,fz,hr,hc,hv⟩:=h
 rcases hv with⟨rfl,rfl,rfl⟩ | ⟨rfl,dq,g5⟩
 ·exact SlV.nil w'
 ·have rC:=hb b rfl (Array.getElem?_eq_some_iff.1 dq).1
  refine⟨b,off,c,arr,E,fz,hr.old hw (fun _=>rC),hc, .inr ⟨rfl, ?_,g5⟩⟩
  rw[hw.old b (Array.getElem?_eq_some_iff.1 dq).1 rC];exact dq
theorem New.not {L:aA} {n b:Nat} (h:New n L) (hb:b<n):b∉keys L:=fun hm=>by have:=h.le b hm;omega
theorem SlV.oldN {w':World} {L:aA} (h:SlV m enc z w v l) (hw:Hp w L w') (hn:New w.heap.size L):SlV m enc z w' v l:=h.old hw fun _ _ hb=>hn.not hb
theorem SlV.len (h:SlV m enc z w v l) (x:Bool×Nat):gP (.sl x) v=some (vi l.length):=by
 obtain⟨b,off,arr,E,fz,hr⟩:=h.row
 exact hr.len x
theorem SlV.take (h:SlV m enc z w v l) {k:Nat} (hk:k≤l.length) (a:Bool): ∃v',gZ (.sl (a,m)) v none (some (some (k:Int)))=some v'∧SlV m enc z w v' (l.take k)∧(∀b,slB v'=some b→slB v=some b):=by
 obtain⟨b,off,c,arr,E,fz,hr,hc,hv⟩:=h
 have hl: (l.take k).length=k:=by simp;omega
 rcases hv with⟨rfl,rfl,rfl⟩ | ⟨rfl,dq,g5⟩
 ·obtain rfl:k=0:=by simpa using hk
  refine⟨.slice none 0 0,rfl,SlV.nil w,fun b hb=>hb⟩
 ·refine⟨vsl b off k c, ?_, ?_,fun b hb=>hb⟩
  ·unfold gZ vsl
   simp only[C2 _ _ _ (⟨by omega,by omega⟩: (0:Int)≤ (k:Int)∧(k:Int)≤ (c:Int)),Int.toNat_natCast,Nat.zero_mul,Nat.sub_zero,Option.map_some,ml,Nat.add_zero]
   split<;>rfl
  ·refine⟨b,off,c,arr,E,fz,RowS.sl' hl.symm (fun h0=>hr.has (by omega)) ?_,by omega, .inr ⟨by rw[hl],dq,by rw[hl];have:k*m≤l.length*m:=Nat.mul_le_mul_right _ hk;omega⟩⟩
   ·intro i hi j hj
    rw[hl] at hi
    rw[hr.get i (by omega) j hj]
    congr 2
    rw[List.getD_eq_getElem?_getD,List.getD_eq_getElem?_getD,List.getElem?_take_of_lt hi]
theorem Buf.slM {L:aA} {E:TypeId} {n:Nat} {cs:List Value} (h:Buf L E m v n cs) (hw: ∀b o,(b,o)∈L→w.heap[b]? =some o) (hl:l.length=n) (dZ:cs=(l.map enc).flatten) (hm: ∀x,(enc x).length=m):SlV m enc z w v l:=by
 rcases h.inv with⟨rfl,rfl,rfl⟩ | ⟨b,c,rest,rfl,bl,aL,XC,h0,oY⟩
 ·have:l= []:=by simpa using hl
  subst this;exact SlV.nil w
 ·subst hl
  refine SlV.sl (hw _ _ (cO bl)) ?_ XC (by rw[List.size_toArray,List.length_append,aL];omega)
  intro k hk j hj
  rw[Nat.zero_add,List.getElem?_toArray,List.getElem?_append_left (by rw[aL];have: (k+1)*m≤l.length*m:=Nat.mul_le_mul_right _ hk;rw[Nat.add_mul,Nat.one_mul] at this;omega),dZ]
  clear aL oY bl dZ XC h
  induction l generalizing k with
  |nil=>simp at hk
  |cons x r ih=>
   rw[List.map_cons,List.flatten_cons]
   cases k with
   |zero=>
    rw[Nat.zero_mul,Nat.zero_add,List.getElem?_append_left (by rw[hm];exact hj),List.getD_cons_zero]
   |succ k=>
    rw[List.getElem?_append_right (by rw[hm,Nat.add_mul,Nat.one_mul];omega),hm,List.getD_cons_succ]
    have:=ih (k:=k) (by simpa using hk)
    rw[←this]
    congr 1
    rw[Nat.add_mul,Nat.one_mul];omega
theorem Buf.slV {L:aA} {E:TypeId} {n:Nat} {cs:List Value} {w0:World} (h:Buf L E m v n cs) (hw:Hp w0 L w) (hl:l.length=n) (dZ:cs=(l.map enc).flatten) (hm: ∀x,(enc x).length=m):SlV m enc z w v l:=h.slM hw.has hl dZ hm
end
end Go.Sx
namespace Go.Sx
open Go
theorem New.mono {n m:Nat} (h:n≤m): ∀ {L:aA},New m L→New n L
 | [],_=>trivial
 | (_,_)::_,hL=>⟨Nat.le_trans h hL.1,New.mono h hL.2⟩
theorem New.app {n:Nat} {M:aA}: ∀ {L:aA},New n L→New n M→New n (L++M)
 | [],_,hM=>hM
 | (_,_)::_,hL,hM=>⟨hL.1,New.app hL.2 hM⟩
section
variable {P:Program} {w0:World} {f:Fr} {L:aA} {N:Fr→aA→Prop} {ops:Array Oper} {rest:List Oper} {md:Md}
 {d:Option Tmp} {ty:TypeId} {ps:String} {af:Array Edge} {g:Option (Nat×Bool)}
theorem Ow.callN {l:List Operand} {ts:Array TypeId} {k:FuncId} {S:Nat→Value→aA→Prop} {md':Md} (he:md.turn=some md')
  (hs:bA ops f ⟨d, .call ⟨.value (.func k),l.toArray,ts⟩,ty,ps,af,g⟩=false)
  (hk: ∀a w,(callFunc k a).run P w= .ok (.enter k a) w)
  (hc: ∀w,Hp w0 L w→Rets P k (l.map (ev f)).toArray w (fun v D=>S w.heap.size v D))
  (j3: ∀B v D,S B v D→New B D)
  (hn: ∀B v D,eS L B→w0.heap.size≤B→S B v D→Ow P w0 ops md' rest (aS f d v) (L++D) N):
  Ow P w0 ops md (⟨d, .call ⟨.value (.func k),l.toArray,ts⟩,ty,ps,af,g⟩::rest) f L N:=by
 refine Ow.callF he hs hk (S:=S) hc ?_
 intro B v D ha hB hS
 exact⟨_,Mrg.fresh (j3 B v D hS).le,hn B v D ha hB hS⟩
theorem Cw.forgetN {c:Code} {K:cM} (M:aA) (j3:New w0.heap.size L) (hM: ∀p,p∈M→p∈L) (hn: (keys M).Nodup) (h:Cw P w0 c f M K):Cw P w0 c f L K:=
 Cw.forget M hM hn (fun p hp _=>j3.le _ (List.mem_map.2 ⟨p,hp,rfl⟩)) h
end
end Go.Sx
section
namespace Go.Sx
open Go
set_option linter.unusedSimpArgs false
section
variable {P:Program} {w0:World} {L:aA}
theorem Xw {w:World} {ts tx ty e:TypeId} {m:Bool×Nat} {z x:Value} {b k:Nat} {new:List Value} (hw:Hp w0 L w)
  (hu:P.underlying ts=some (.slice e)) (hm:aM P e=some m) (hi:px P e=true) (hz:am P e=some z) (kN:z.cells.size=m.2) {d:TypeDesc} (iS:P.underlying tx=some d) (dO: ∀k,d≠ .int k)
  (wy: ∀w,Hp w0 L w→AppX P w m.2 x k new) (cb:2* (0+k)+768≤2^38):
  (k=0∧(Builtin.append_ #[ts,tx] ty #[vsl b 0 0 0,x]).run P w= .ok (vsl b 0 0 0) w)∨
  (0<k∧ ∃v' w' L',(Builtin.append_ #[ts,tx] ty #[vsl b 0 0 0,x]).run P w= .ok v' w'∧Hp w0 L' w'∧Buf L' e m.2 v' (0+k) ([]++new)∧Grew w0 (.slice none 0 0) L L'∧ ∃c,slB v'=some c∧eS L c):=by
 obtain⟨i,hi,fT,cb⟩:=I0 hi cb
 have GB: ∀w,(typeInfo e).run P w= .ok i w:=by
  intro w
  simp only[typeInfo,program,Sem.run_bind]
  show Result.andThen (Result.ok P w) _=_
  simp only[Result.andThen_ok,hi]
  rfl
 have oM: (match d with| .int _=>true|_=>false)=false:=by
  cases d<;>first|rfl|exact absurd rfl (dO _)
 have e1: ∀ {α β:Type} (a:α) (f:α→World→Result β),(Sem.run P (pure a) w).andThen f=f a w:=fun _ _=>rfl
 have hX:=wy w hw
 have gp:=hX.len
 have GG:=hX.cells
 have sb:=sr (P:=P) hz
 have room: ∀ (b:Nat) (w:World),(askRoom b).run P w= .ok () w:=by
  intro b w
  unfold askRoom
  split<;>rfl
 have zc: ∀j,(Builtin.zeroCells z.cells j).toList.length=j*m.2:=by
  intro j;simp[Builtin.zeroCells,kN]
 have Fj: ∀c,c<0+k→ ¬ (Builtin.nextslicecap (0+k) c*i.bytes>2^48):=by
  intro c hc
  have:=wH_ hc
  have h2:=Nat.mul_le_mul_right i.bytes this
  omega
 by_cases hk:k=0
 ·subst hk
  have j3:new= []:=List.eq_nil_of_length_eq_zero (by have:=hX.size;omega)
  subst j3
  refine .inl ⟨rfl, ?_⟩
  simp only[Builtin.append_,vsl,List.getElem?_toArray,List.getElem?_cons_zero,List.getElem?_cons_succ,Sem.run_bind,run_underlying hu w,Result.andThen_ok,gO hm w,run_underlying iS w,oM,e1,Bool.false_eq_true, ↓reduceIte,gp,Bool.not_false,Nat.add_zero,Nat.le_refl,GG]
  rfl
 ·have w4: ¬0+k≤0:=by omega
  have oB:=Fj 0 (by omega)
  simp only[Builtin.append_,List.getElem?_toArray,List.getElem?_cons_zero,List.getElem?_cons_succ,Sem.run_bind,run_underlying hu w,Result.andThen_ok,gO hm w,run_underlying iS w,oM,e1,Bool.false_eq_true, ↓reduceIte,gp,Bool.not_false,w4,vsl,GB,fT,or_false,and_false,oB]
  have DO: (choose (Question.appendCap (0+k) 0 e)).run P w= .ok ((0+k)+w.tape w.drawn (.appendCap (0+k) 0 e)% (2^63 - (0+k))) w.drew:=rfl
  rw[DO]
  generalize lB: (0+k)+w.tape w.drawn (.appendCap (0+k) 0 e)% (2^63 - (0+k))=c
  have aF:=hw.drew
  have Cy:=wy _ aF
  have fy: (Builtin.firstCells m.2 0 (Value.slice (some ⟨b,0,none⟩) 0 0)).run P w.drew= .ok #[] w.drew:=by
   simp only[Builtin.firstCells,Nat.zero_mul];rfl
  simp only[Result.andThen_ok,room,fy,Cy.cells,sb]
  refine .inr ⟨by omega,_,_,L++ [(w.drew.heap.size, .cells ([]++new++ (Builtin.zeroCells z.cells (c - (0+k))).toList).toArray e (0,0))],rfl, ?_, .at_ (b:=w.drew.heap.size) (rest:=(Builtin.zeroCells z.cells (c - (0+k))).toList) ?_ ?_ ?_ (by omega) (by omega), ?_,⟨_,rfl,gh fun b hb=>aF.lt hb⟩⟩
  ·have ea: ([]++new++ (Builtin.zeroCells z.cells (c - (0+k))).toList).toArray= #[]++new.toArray++Builtin.zeroCells z.cells (c - (0+k)):=by apply Array.ext';simp
   rw[ea]
   exact aF.alloc _
  ·rw[gi (fun hm=>Nat.lt_irrefl _ (aF.lt hm))]
   simp[look]
  ·rw[List.nil_append,hX.size,Nat.zero_add]
  ·exact zc _
  ·refine⟨fun c hc=>by rw[bM];exact List.mem_append_left _ hc,fun c hc=> ?_,fun c o aO ho=>bL ho⟩
   rw[bM] at hc
   rcases List.mem_append.1 hc with hc|hc
   ·exact .inl hc
   ·right
    simp only[keys,List.map_cons,List.map_nil,List.mem_singleton] at hc
    subst hc
    exact⟨gh fun b hb=>aF.lt hb,aF.size⟩
end
section
variable {P:Program} {w0:World} {f:Fr} {L:aA} {N:Fr→aA→Prop} {ops:Array Oper} {rest:List Oper} {md:Md}
 {d:Option Tmp} {ty:TypeId} {ps:String} {af:Array Edge} {g:Option (Nat×Bool)}
theorem Ow.appendEm {ts tx e:TypeId} {m:Bool×Nat} {z:Value} {s x:Operand} {b k:Nat} {new:List Value} {dx:TypeDesc} {md':Md} (gH:ev f s=vsl b 0 0 0) (he:md.turn=some md')
  (hs:bA ops f ⟨d, .call ⟨.builtin .append, #[s,x], #[ts,tx]⟩,ty,ps,af,g⟩=false)
  (hu:P.underlying ts=some (.slice e)) (hm:aM P e=some m) (hi:px P e=true) (hz:am P e=some z) (kN:z.cells.size=m.2) (iS:P.underlying tx=some dx) (dO: ∀k,dx≠ .int k)
  (hX: ∀w,Hp w0 L w→AppX P w m.2 (ev f x) k new) (cb:2* (0+k)+768≤2^38)
  (X9:k=0→Ow P w0 ops md' rest (aS f d (vsl b 0 0 0)) L N)
  (hn: ∀v' L',0<k→Buf L' e m.2 v' (0+k) ([]++new)→Grew w0 (.slice none 0 0) L L'→(∃c,slB v'=some c∧eS L c)→Ow P w0 ops md' rest (aS f d v') L' N):
  Ow P w0 ops md (⟨d, .call ⟨.builtin .append, #[s,x], #[ts,tx]⟩,ty,ps,af,g⟩::rest) f L N:=by
 refine Ow.step he rfl hs fun w hw=> ?_
 rcases Xw (ty:=ty) (b:=b) hw hu hm hi hz kN iS dO hX cb with⟨hk,hr⟩ | ⟨hk,v',w',L',hr,hp,hb,hg,cN⟩
 ·refine .inl ⟨_,w,L, ?_,hw,X9 hk⟩
  simp only[execOp,resolve,Sem.run_bind,Sem.run_pure,Result.andThen_ok,invoke,builtin,List.map_toArray,List.map_cons,List.map_nil,gH]
  rw[hr]
  rfl
 ·refine .inl ⟨v',w',L', ?_,hp,hn v' L' hk hb hg cN⟩
  simp only[execOp,resolve,Sem.run_bind,Sem.run_pure,Result.andThen_ok,invoke,builtin,List.map_toArray,List.map_cons,List.map_nil,gH]
  rw[hr]
  rfl
end
end Go.Sx
end
namespace Go.Sx
open Go
def Gr (L:aA) (E:TypeId) (m:Nat) (v:Value) (n:Nat) (cs:List Value):Prop:=
 Buf L E m v n cs∨(n=0∧cs= []∧ ∃b,v=vsl b 0 0 0∧look L b=some (.cells #[] E (0,0)))
theorem Gr.nl {L:aA} {E:TypeId} {m:Nat}:Gr L E m (.slice none 0 0) 0 []:= .inl .nl
theorem Grew.any {w0:World} {v v':Value} {L L':aA} (h:Grew w0 v L L') (hv:slB v=none):Grew w0 v' L L':=
 ⟨h.keys,h.new,fun c o _ hl=>h.look c o (by rw[hv];simp) hl⟩
theorem Gr.keep {L L':aA} {E:TypeId} {m n:Nat} {v:Value} {cs:List Value} (h:Gr L E m v n cs) (hk: ∀b o,slB v=some b→look L b=some o→look L' b=some o):Gr L' E m v n cs:=by
 rcases h with h| ⟨h1,h2,b,rfl,h3⟩
 ·exact .inl (h.keep hk)
 ·exact .inr ⟨h1,h2,b,rfl,hk b _ rfl h3⟩
theorem Gr.app {L M:aA} {E:TypeId} {m n:Nat} {v:Value} {cs:List Value} (h:Gr L E m v n cs):Gr (L++M) E m v n cs:=h.keep fun _ _ _ hl=>bL hl
theorem Gr.len {L:aA} {E:TypeId} {m n:Nat} {v:Value} {cs:List Value} (h:Gr L E m v n cs) (x:Bool×Nat):gP (.sl x) v=some (vi n):=by
 rcases h with h| ⟨rfl,rfl,b,rfl,-⟩
 ·exact h.len x
 ·rfl
theorem Gr.cell {L:aA} {E:TypeId} {m n:Nat} {v:Value} {cs:List Value} (h:Gr L E m v n cs):Value.oneCell' v=true∧v.cells= #[v]:=by
 rcases h with h| ⟨rfl,rfl,b,rfl,-⟩
 ·exact h.cell
 ·exact⟨rfl,rfl⟩
theorem Gr.key {L:aA} {E:TypeId} {m n:Nat} {v:Value} {cs:List Value} (h:Gr L E m v n cs) {b:Nat} (hb:slB v=some b):b∈keys L:=by
 rcases h with h| ⟨rfl,rfl,c,rfl,hl⟩
 ·rcases h.inv with⟨rfl,-,-⟩ | ⟨c,cc,rest,rfl,hl,-⟩
  ·cases hb
  ·cases hb;exact cJ hl
 ·cases hb;exact cJ hl
section
variable {α:Type} {m:Nat} {enc:α→List Value} {z:α} {w:World} {v:Value} {l:List α}
theorem Gr.slM {L:aA} {E:TypeId} {n:Nat} {cs:List Value} (h:Gr L E m v n cs) (hw: ∀b o,(b,o)∈L→w.heap[b]? =some o) (hl:l.length=n) (dZ:cs=(l.map enc).flatten) (hm: ∀x,(enc x).length=m):SlV m enc z w v l:=by
 rcases h with h| ⟨rfl,rfl,b,rfl,bl⟩
 ·exact h.slM hw hl dZ hm
 ·obtain rfl:l= []:=List.eq_nil_of_length_eq_zero hl
  exact SlV.sl (l:=([]:List α)) (off:=0) (c:=0) (hw _ _ (cO bl)) (fun k hk=>by simp at hk) (Nat.le_refl 0) (by simp)
theorem Gr.slV {L:aA} {E:TypeId} {n:Nat} {cs:List Value} {w0:World} (h:Gr L E m v n cs) (hw:Hp w0 L w) (hl:l.length=n) (dZ:cs=(l.map enc).flatten) (hm: ∀x,(enc x).length=m):SlV m enc z w v l:=h.slM hw.has hl dZ hm
theorem ZF (hm: ∀x,(enc x).length=m) (arr:Array Value): ∀ (ls:List α) (off:Nat),off+ls.length*m≤arr.size→(∀k j,k<ls.length→j<m→arr[off+k*m+j]? =(enc (ls.getD k z))[j]?)→
  (arr.extract off (off+ls.length*m)).toList=(ls.map enc).flatten
 | [],off,_,_=>by simp
 |r::ls,off,hs,h=>by
  have nI: (r::ls).length*m=m+ls.length*m:=by rw[List.length_cons,Nat.add_mul,Nat.one_mul,Nat.add_comm]
  rw[nI] at hs ⊢
  have ih:=ZF hm arr ls (off+m) (by omega) (fun k j hk hj=>by
   have:=h (k+1) j (by simpa using hk) hj
   rw[List.getD_cons_succ] at this
   rw[←this];congr 1;rw[Nat.add_mul,Nat.one_mul];omega)
  have h0: (arr.extract off (off+m)).toList=enc r:=by
   apply List.ext_getElem?
   intro j
   rw[Array.getElem?_toList,Array.getElem?_extract]
   by_cases hj:j<m
   ·rw[if_pos (by omega)]
    have:=h 0 j (by simp) hj
    simpa using this
   ·rw[if_neg (by omega),List.getElem?_eq_none (by rw[hm];omega)]
  rw[List.map_cons,List.flatten_cons,←ih,←h0,←Array.toList_append]
  congr 1
  rw[Array.extract_append_extract]
  congr 1<;>omega
theorem AT (hm: ∀x,(enc x).length=m) (l:List α): (l.map enc).flatten.length=l.length*m:=by
 induction l with
 |nil=>simp
 |cons x r ih=>rw[List.map_cons,List.flatten_cons,List.length_append,ih,hm,List.length_cons,Nat.add_mul,Nat.one_mul,Nat.add_comm]
theorem AppX.one1 {P:Program} {b:Nat} {E:TypeId} {fz:Nat×Nat} {cs:List Value} (hb:w.heap[b]? =some (.cells cs.toArray E fz)) (hm:cs.length=m) (h1:cs.all Value.oneCell'=true):AppX P w m (vsl b 0 1 1) 1 cs:=by
 refine AppX.block (w0:=w) (L:= []) (by rw[Eo];exact hb) (by simp;omega) ?_ h1 (Hp.refl w)
 rw[List.extract_toArray,List.extract_eq_take_drop,List.drop_zero,List.take_of_length_le (by omega)]
theorem SlV.appX {P:Program} (h:SlV m enc z w v l) (hm: ∀x,(enc x).length=m) (h1: ∀x,(enc x).all Value.oneCell'=true):AppX P w m v l.length (l.map enc).flatten:=by
 obtain⟨b,off,c,arr,E,fz,hr,hc,hv⟩:=h
 rcases hv with⟨rfl,rfl,rfl⟩ | ⟨rfl,dq,g5⟩
 ·exact AppX.nil P w m
 ·refine AppX.block (w0:=w) (L:= []) (by rw[Eo];exact dq) g5 (ZF (z:=z) hm arr l off g5 (fun k j hk hj=>hr.get k hk j hj)) ?_ (Hp.refl w)
  rw[List.all_flatten,List.all_map,List.all_eq_true]
  exact fun r _=>h1 r
end
section
variable {P:Program} {w0:World} {f:Fr} {L:aA} {N:Fr→aA→Prop} {ops:Array Oper} {rest:List Oper} {md:Md}
 {d:Option Tmp} {ty:TypeId} {ps:String} {af:Array Edge} {g:Option (Nat×Bool)}
theorem Ow.appendG {ts tx e:TypeId} {m:Bool×Nat} {z:Value} {s x:Operand} {n k:Nat} {cs new:List Value} {dx:TypeDesc} {md':Md} (sv:Value) (gH:ev f s=sv) (he:md.turn=some md')
  (hs:bA ops f ⟨d, .call ⟨.builtin .append, #[s,x], #[ts,tx]⟩,ty,ps,af,g⟩=false)
  (hu:P.underlying ts=some (.slice e)) (hm:aM P e=some m) (hi:px P e=true) (hz:am P e=some z) (kN:z.cells.size=m.2) (iS:P.underlying tx=some dx) (dO: ∀k,dx≠ .int k)
  (hB:Gr L e m.2 sv n cs) (hX: ∀w,Hp w0 L w→AppX P w m.2 (ev f x) k new) (aL:new.length=k*m.2) (cb:2* (n+k)+768≤2^38)
  (hn: ∀v' L',Gr L' e m.2 v' (n+k) (cs++new)→(0<k→Buf L' e m.2 v' (n+k) (cs++new))→Grew w0 sv L L'→(slB v'=slB sv∨ ∃c,slB v'=some c∧eS L c)→Ow P w0 ops md' rest (aS f d v') L' N):
  Ow P w0 ops md (⟨d, .call ⟨.builtin .append, #[s,x], #[ts,tx]⟩,ty,ps,af,g⟩::rest) f L N:=by
 rcases hB with hB| ⟨rfl,rfl,b,rfl,bl⟩
 ·exact Ow.append sv gH he hs hu hm hi hz kN iS dO hB hX cb fun v' L' h1 h2 h3=>hn v' L' (.inl h1) (fun _=>h1) h2 h3
 ·refine Ow.appendEm gH he hs hu hm hi hz kN iS dO hX cb (fun h0=> ?_) (fun v' L' hk h1 h2 h3=> ?_)
  ·subst h0
   obtain rfl:new= []:=List.eq_nil_of_length_eq_zero (by rw[aL,Nat.zero_mul])
   exact hn _ L (.inr ⟨rfl,rfl,b,rfl,bl⟩) (fun h=>absurd h (Nat.lt_irrefl 0)) (Grew.refl _ _ _) (.inl rfl)
  ·exact hn v' L' (.inl h1) (fun _=>h1) (h2.any rfl) (.inr h3)
end
end Go.Sx
namespace Go.Sx
open Go
theorem NV {w0:World} {L M:aA} {r:Nat} (h:r∈keys L):aP w0 (L++M) r=aP w0 L r:=by
 obtain⟨o,ho⟩:=F6 h
 rw[aY ho,aY (bL ho)]
theorem FX {w0:World} {L M:aA} {R:List Nat} (h: ∀r,r∈R→r∈keys L): ∀r,r∈R→aP w0 (L++M) r=aP w0 L r:=fun r hr=>NV (h r hr)
theorem New.of_le {n:Nat}: ∀ {D:aA},(∀c,c∈keys D→n≤c)→New n D
 | [],_=>trivial
 | (b,o)::r,h=>⟨h b (by simp[keys]),New.of_le fun c hc=>h c (by simp only[keys,List.map_cons,List.mem_cons] at hc ⊢;exact .inr hc)⟩
theorem FW {w0:World} {L M:aA} {r:Nat} (h:r∉keys M):aP w0 (M++L) r=aP w0 L r:=by
 unfold aP;rw[gi h]
theorem Ext.new0 {w:World} {D:aA} (h:Ext w [] D):New w.heap.size D:=by
 have hn:=h.new
 have key: ∀ (D:aA),(∀c,c∈Sx.keys D→w.heap.size≤c)→New w.heap.size D:=by
  intro D
  induction D with
  |nil=>intro _;trivial
  |cons p r ih=>
   obtain⟨b,o⟩:=p
   intro hh
   exact⟨hh b (by simp[Sx.keys]),ih fun c hc=>hh c (by simp only[Sx.keys,List.map_cons,List.mem_cons] at hc ⊢;exact .inr hc)⟩
 refine key D fun c hc=> ?_
 rcases hn c hc with h1|h1
 ·cases h1
 ·exact h1
theorem Ext.of_new {w:World} {D:aA} (h:New w.heap.size D):Ext w [] D:=⟨fun c hc=> .inr (h.le c hc),fun c hc=>by cases hc⟩
section
variable {P:Program} {w0:World} {f:Fr} {L:aA} {N:Fr→aA→Prop} {K:cM} {ops:Array Oper} {rest:List Oper} {md:Md}
 {d:Option Tmp} {ty:TypeId} {ps:String} {af:Array Edge} {g:Option (Nat×Bool)}
theorem Gc {b:Nat} {o:Obj}: ∀ {B:aA},(keys B).Nodup→(b,o)∈B→look B b=some o
 | [],_,h=>by cases h
 | (c,x)::q,hn,h=>by
  simp only[keys,List.map_cons,List.nodup_cons] at hn
  unfold look
  rcases List.mem_cons.1 h with h|h
  ·cases h;rw[if_pos rfl]
  ·have:c≠b:=fun e=>hn.1 (e▸List.mem_map.2 ⟨_,h,rfl⟩)
   rw[if_neg this]
   exact Gc hn.2 h
theorem SR.perm {R:List Nat} {M:aA} (h:M.Perm L) (hn: (keys L).Nodup):SR w0 R M=SR w0 R L:=by
 refine wk fun r _=> ?_
 have hk: ∀ (A B:aA),A.Perm B→(keys B).Nodup→ ∀o,look A r=some o→look B r=some o:=fun A B hp hB o ho=>Gc hB (hp.mem_iff.1 (cO ho))
 have hnM: (keys M).Nodup:=(List.Perm.nodup_iff (h.map Prod.fst)).2 hn
 unfold aP
 cases hl:look L r with
 |some o=>rw[hk L M h.symm hnM o hl]
 |none=>
  cases hm:look M r with
  |none=>rfl
  |some o=>rw[hk M L h hn o hm] at hl;cases hl
theorem OwD.permL {l:List Oper} {listed:List Bool} {n:Nat} {R ts:List Nat} {a d:Nat} {z:Obj} {M:aA} (hp:M.Perm L) (h:OwD P w0 l R ts a d z n listed f M N):OwD P w0 l R ts a d z n listed f L N:=by
 refine⟨fun w hw=> ?_,fun b w hb lA hw=> ?_⟩
 ·have:=h.1 w (hw.perm hp)
  rw[SR.perm hp hw.nodup] at this
  exact this
 ·have bE: (keys L).Nodup:=by
   have:=hw.nodup
   rw[bM,List.nodup_append] at this
   exact this.1
  have:=h.2 b w hb (fun hm=>lA (by have:=(hp.map Prod.fst).mem_iff.1 hm;exact this)) (hw.perm (hp.append_right _))
  rw[SR.perm hp bE] at this
  exact this
theorem Cw.permL {c:Code} {M:aA} (hp:M.Perm L) (h:Cw P w0 c f M K):Cw P w0 c f L K:=fun w hw=>h w (hw.perm hp)
theorem Ow.permL {M:aA} {l:List Oper} (hp:M.Perm L) (h:Ow P w0 ops .seq l f M N):Ow P w0 ops .seq l f L N:=fun w hw=>h w (hw.perm hp)
theorem Ow.callC {l:List Operand} {ts:Array TypeId} {k:FuncId} {S:Value→aA→Prop} {md':Md} (he:md.turn=some md')
  (hs:bA ops f ⟨d, .call ⟨.value (.func k),l.toArray,ts⟩,ty,ps,af,g⟩=false)
  (hk: ∀a w,(callFunc k a).run P w= .ok (.enter k a) w)
  (hc: ∀w,Hp w0 L w→Rets P k (l.map (ev f)).toArray w (XS w [] S))
  (hn: ∀B v D,eS L B→w0.heap.size≤B→New B D→S v D→Ow P w0 ops md' rest (aS f d v) (L++D) N):
  Ow P w0 ops md (⟨d, .call ⟨.value (.func k),l.toArray,ts⟩,ty,ps,af,g⟩::rest) f L N:=
 Ow.callN he hs hk (S:=fun B v D=>New B D∧S v D) (fun w hw=>(hc w hw).mono fun _v _D h=>⟨h.1.new0,h.2⟩) (fun _ _ _ h=>h.1) (fun B v D hA hB hS=>hn B v D hA hB hS.1 hS.2)
theorem Hp.part {w:World} {X Y:aA} (h:Hp w0 (X++Y) w):Hp w X w:=
 ⟨fun b o hm=>h.has b o (List.mem_append_left _ hm),by have:=h.nodup;rw[bM,List.nodup_append] at this;exact this.1,fun _ _ _=>rfl,Nat.le_refl _,rfl,rfl,rfl⟩
theorem Hp.join {w w':World} {X Y D:aA} (h:Hp w0 (X++Y) w) (k:Hp w D w') (h1: ∀c,c∈keys X→c∈keys D) (h2: ∀c,c∈keys D→c∈keys X∨w.heap.size≤c):Hp w0 (D++Y) w':=by
 have bE:=h.nodup
 rw[bM,List.nodup_append] at bE
 have hY: ∀c,c∈keys Y→c∉keys D:=by
  intro c hc hd
  rcases h2 c hd with hx|hx
  ·exact bE.2.2 c hx c hc rfl
  ·have:=h.lt (b:=c) (by rw[bM];exact List.mem_append_right _ hc)
   omega
 have ht:=h.trans k
 have e: (X++Y).filter (fun p=> !(keys D).contains p.1)=Y:=by
  rw[List.filter_append,xV hY]
  have:X.filter (fun p=> !(keys D).contains p.1)= []:=by
   rw[List.filter_eq_nil_iff]
   intro p hp
   have:=h1 p.1 (List.mem_map.2 ⟨p,hp,rfl⟩)
   simp[this]
  rw[this,List.nil_append]
 rw[e] at ht
 exact ht.perm List.perm_append_comm
theorem Ow.appendX {ts tx e:TypeId} {m:Bool×Nat} {z:Value} {s x:Operand} {n k:Nat} {cs new:List Value} {dx:TypeDesc} {md':Md} {X Y:aA} (sv:Value) (hL:L=X++Y) (gH:ev f s=sv) (he:md.turn=some md')
  (hs:bA ops f ⟨d, .call ⟨.builtin .append, #[s,x], #[ts,tx]⟩,ty,ps,af,g⟩=false)
  (hu:P.underlying ts=some (.slice e)) (hm:aM P e=some m) (hi:px P e=true) (hz:am P e=some z) (kN:z.cells.size=m.2) (iS:P.underlying tx=some dx) (dO: ∀k,dx≠ .int k)
  (hB:Gr X e m.2 sv n cs) (hX: ∀w,Hp w0 L w→AppX P w m.2 (ev f x) k new) (hk:0<k) (cb:2* (n+k)+768≤2^38)
  (hn: ∀B v' D,eS L B→w0.heap.size≤B→Buf D e m.2 v' (n+k) (cs++new)→(∀c,c∈keys X→c∈keys D)→(∀c,c∈keys D→c∈keys X∨B≤c)→(∀c o,slB sv≠some c→look X c=some o→look D c=some o)→Ow P w0 ops md' rest (aS f d v') (D++Y) N):
  Ow P w0 ops md (⟨d, .call ⟨.builtin .append, #[s,x], #[ts,tx]⟩,ty,ps,af,g⟩::rest) f L N:=by
 subst hL
 refine Ow.step he rfl hs fun w hw=> ?_
 have hp:=hw.part
 have hA:eS (X++Y) w.heap.size:=gh fun b hb=>hw.lt hb
 have fin: ∀v' w' D,(Builtin.append_ #[ts,tx] ty #[sv,ev f x]).run P w= .ok v' w'→Hp w D w'→Buf D e m.2 v' (n+k) (cs++new)→(∀c,c∈keys X→c∈keys D)→(∀c,c∈keys D→c∈keys X∨w.heap.size≤c)→(∀c o,slB sv≠some c→look X c=some o→look D c=some o)→
   (∃v w' L',(execOp (ev f) ⟨d, .call ⟨.builtin .append, #[s,x], #[ts,tx]⟩,ty,ps,af,g⟩).run P w= .ok (.value v) w'∧Hp w0 L' w'∧Ow P w0 ops md' rest (aS f d v) L' N):=by
  intro v' w' D hr hD hb h1 h2 h3
  refine⟨v',w',D++Y, ?_,hw.join hD h1 h2,hn w.heap.size v' D hA hw.size hb h1 h2 h3⟩
  simp only[execOp,resolve,Sem.run_bind,Sem.run_pure,Result.andThen_ok,invoke,builtin,List.map_toArray,List.map_cons,List.map_nil,gH]
  rw[hr]
  rfl
 have bD: ∀w',Hp w [] w'→True:=fun _ _=>trivial
 rcases hB with hB| ⟨rfl,rfl,b,rfl,bl⟩
 ·obtain⟨v',w',D,hr,hD,hb,hg,-⟩:=H4 (w0:=w) (L:=X) (ty:=ty) (x:=ev f x) hp hu hm hi hz kN iS dO hB (fun w2 bH=>hX w2 (by
   refine hw.join bH (fun c hc=>hc) (fun c hc=> .inl hc))) cb
  exact .inl (fin v' w' D hr hD hb hg.keys (fun c hc=>(hg.new c hc).imp id And.right) hg.look)
 ·rcases Xw (w0:=w) (L:=X) (ty:=ty) (b:=b) (x:=ev f x) hp hu hm hi hz kN iS dO (fun w2 bH=>hX w2 (by
   refine hw.join bH (fun c hc=>hc) (fun c hc=> .inl hc))) cb with⟨h0,-⟩ | ⟨-,v',w',D,hr,hD,hb,hg,-⟩
  ·omega
  ·exact .inl (fin v' w' D hr hD hb hg.keys (fun c hc=>(hg.new c hc).imp id And.right) (fun c o _ hl=>hg.look c o (by simp[slB]) hl))
end
def GrI (D:aA) (E:TypeId) (m:Nat) (v:Value) (n:Nat) (cs:List Value):Prop:= ∃X,(∀p,p∈X→p∈D)∧Gr X E m v n cs
theorem Gr.i {X D:aA} {E:TypeId} {m n:Nat} {v:Value} {cs:List Value} (h:Gr X E m v n cs) (hX: ∀p,p∈X→p∈D):GrI D E m v n cs:=⟨X,hX,h⟩
theorem GrI.mono {D D':aA} {E:TypeId} {m n:Nat} {v:Value} {cs:List Value} (h:GrI D E m v n cs) (hX: ∀p,p∈D→p∈D'):GrI D' E m v n cs:=by
 obtain⟨X,h1,h2⟩:=h;exact⟨X,fun p hp=>hX p (h1 p hp),h2⟩
theorem GrI.slV {α:Type} {m:Nat} {enc:α→List Value} {z:α} {w0 w:World} {v:Value} {l:List α} {D:aA} {E:TypeId} {n:Nat} {cs:List Value} (h:GrI D E m v n cs) (hw:Hp w0 D w) (hl:l.length=n) (dZ:cs=(l.map enc).flatten) (hm: ∀x,(enc x).length=m):SlV m enc z w v l:=by
 obtain⟨X,h1,h2⟩:=h
 exact h2.slM (fun b o hm=>hw.has b o (h1 _ hm)) hl dZ hm
section
variable {P:Program} {w0:World} {f:Fr} {L:aA} {N:Fr→aA→Prop}
theorem Y3 {L _M:aA} {b:Nat} {o:Obj} (h:b∉keys L):look (L++ [(b,o)]) b=some o:=by
 rw[gi h];exact ii _ _ _
theorem yl {b:Nat} {o x:Obj}: ∀ {L:aA},b∉keys L→setB (L++ [(b,o)]) b x=L++ [(b,x)]
 | [],_=>by rw[List.nil_append,rn];rfl
 | (c,y)::r,h=>by
  simp only[keys,List.map_cons,List.mem_cons,not_or] at h
  rw[List.cons_append,wU _ _ _ _ _ (Ne.symm h.1),yl (by simpa [keys] using h.2)];rfl
end
end Go.Sx
namespace Go.Sx
open Go
theorem lV {P:Program} {t e:TypeId} {m:Nat} {zc:Array Value} {cs:List Value} (hu:P.underlying t=some (.slice e)) (ha:aM P e=some (true,m)) (hz:am P e=some (.agg zc)) (hm:0<m∧m≤16777216) (hc:cs.length=m):
  t7 P t 1 [(0, .agg cs.toArray)]=some (e,cs.toArray):=by
 have h2:Value.cells (.agg cs.toArray)=cs.toArray:=aV _
 have hg: ¬ (1*m>2^24):=by simp;omega
 have h0: ¬ (1*m=0):=by omega
 simp only[t7,hu,ha,hz,Option.map_some]
 rw[if_neg hg,if_neg h0]
 simp only
 generalize hI: (Array.range (1*m)).map (fun x=>(Value.cells (.agg zc))[x% (Value.cells (.agg zc)).size]!)=I
 have Za:I.size=m:=by rw[←hI];simp
 have fv:Instr.fill (fun i=>some (i*m,m)) I [(0,Value.agg cs.toArray)]=some cs.toArray:=by
  unfold Instr.fill
  have s3:cs.toArray.size=m:=by simp[hc]
  simp only[h2,s3,Za,Nat.zero_mul,ne_eq,not_true_eq_false,decide_false,Bool.false_or,Nat.zero_add,Nat.lt_irrefl,gt_iff_lt,Bool.false_eq_true, ↓reduceIte]
  unfold Instr.fill
  congr 1
  have hz:=Gg cs 0 0 I
  rw[Nat.add_zero,AF I cs (by rw[hc,Za])] at hz
  simp only[Nat.zero_add] at hz
  rw[←Array.foldl_toList,Array.toList_zipIdx]
  exact hz
 rw[fv]
 rfl
end Go.Sx
namespace Go.Sx
open Go
abbrev ltB (a b:List UInt8):Bool:=Op.bytesLess a b
theorem wh: ∀ (x y:List UInt8),ltB x y=decide (x<y)
 | [],[]=>by simp[ltB,Op.bytesLess]
 |_::_,[]=>by simp[ltB,Op.bytesLess]
 | [],_::_=>by simp[ltB,Op.bytesLess]
 |a::x,b::y=>by
  have ih:=wh x y
  simp only[ltB] at ih ⊢
  rw[Op.bytesLess,ih]
  simp only[List.cons_lt_cons_iff]
  by_cases h1:a<b<;>by_cases h2:a=b<;>by_cases h3:x<y<;>simp[h1,h2,h3]
theorem Gl (a:List UInt8):ltB a a=false:=by
 rw[wh];simp
theorem HH {a b c:List UInt8} (h:ltB a b=true) (k:ltB b c=true):ltB a c=true:=by
 rw[wh,decide_eq_true_eq] at*
 exact List.lt_trans h k
theorem PR {a b:List UInt8} (h:ltB a b=true):ltB b a=false:=by
 cases hb:ltB b a
 ·rfl
 ·have:=HH h hb
  rw[Gl] at this;cases this
theorem Hj {a b:List UInt8} (h:ltB a b=false) (aO:a≠b):ltB b a=true:=by
 rw[wh,decide_eq_false_iff_not] at h
 rw[wh,decide_eq_true_eq]
 rcases Std.Trichotomous.rel_or_eq_or_rel_swap (r:=(· < · :List UInt8→List UInt8→Prop)) (a:=a) (b:=b) with h1|h1|h1
 ·exact absurd h1 h
 ·exact absurd h1 aO
 ·exact h1
end Go.Sx
namespace Go.StP
open Go Go.Sx
variable {α:Type} (key:α→List UInt8)
def lt (a b:α):Bool:=ltB (key a) (key b)
def Sorted (l:List α):Prop:=l.Pairwise fun a b=>lt key b a=false
def of (k:List UInt8) (l:List α):List α:=l.filter fun a=>key a==k
def St (l l':List α):Prop:= ∀k,of key k l'=of key k l
theorem St.refl (l:List α):St key l l:=fun _=>rfl
variable {key}
theorem St.trans {a b c:List α} (h:St key a b) (h':St key b c):St key a c:=fun k=>(h' k).trans (h k)
theorem St.symm {a b:List α} (h:St key a b):St key b a:=fun k=>(h k).symm
theorem qd (k:List UInt8) (a b:List α):of key k (a++b)=of key k a++of key k b:=List.filter_append ..
theorem St.app {a a' b b':List α} (h:St key a a') (h':St key b b'):St key (a++b) (a'++b'):=fun k=>by rw[qd,qd,h,h']
theorem CD {k:List UInt8} {l:List α} {x:α}:x∈of key k l↔x∈l∧key x=k:=by
 unfold of;rw[List.mem_filter];simp
theorem St.mem {a b:List α} (h:St key a b) (x:α):x∈b↔x∈a:=by
 have e:=h (key x)
 have h1:x∈b↔x∈of key (key x) b:=by rw[CD];simp
 have h2:x∈a↔x∈of key (key x) a:=by rw[CD];simp
 rw[h1,h2,e]
theorem Bq {k:List UInt8} {l:List α} (h: ∀x,x∈l→key x≠k):of key k l= []:=by
 unfold of
 rw[List.filter_eq_nil_iff]
 intro x hx
 simpa using h x hx
theorem St.swap {a b:List α} (h: ∀x,x∈a→ ∀y,y∈b→key x≠key y):St key (a++b) (b++a):=by
 intro k
 rw[qd,qd]
 by_cases ha: ∃x,x∈a∧key x=k
 ·obtain⟨x,hx,rfl⟩:=ha
  have:of key (key x) b= []:=Bq fun y hy e=>h x hx y hy e.symm
  rw[this,List.append_nil,List.nil_append]
 ·have:of key k a= []:=Bq fun x hx e=>ha ⟨x,hx,e⟩
  rw[this,List.append_nil,List.nil_append]
theorem lt_trans {a b c:α} (h:lt key a b=true) (k:lt key b c=true):lt key a c=true:=HH h k
theorem lt_irrefl (a:α):lt key a a=false:=Gl _
theorem Vi {a b:α} (h:lt key a b=false) (k:lt key b a=false):key a=key b:=by
 cases hk:decide (key a=key b)
 ·have aO:key a≠key b:=of_decide_eq_false hk
  have:=Hj h aO
  unfold lt at k
  rw[this] at k;cases k
 ·exact of_decide_eq_true hk
theorem St.head {a b:α} {l l':List α} (hs:Sorted key (a::l)) (sW:Sorted key (b::l')) (h:St key (a::l) (b::l')):a=b∧St key l l':=by
 have h1:lt key b a=false:=by
  have hb:b∈a::l:=(h.mem b).1 List.mem_cons_self
  rcases List.mem_cons.1 hb with rfl|hb
  ·exact lt_irrefl _
  ·exact(List.pairwise_cons.1 hs).1 b hb
 have h2:lt key a b=false:=by
  have ha:a∈b::l':=(h.mem a).2 List.mem_cons_self
  rcases List.mem_cons.1 ha with rfl|ha
  ·exact lt_irrefl _
  ·exact(List.pairwise_cons.1 sW).1 a ha
 have hk:key a=key b:=Vi h2 h1
 have he:=h (key a)
 unfold of at he
 rw[List.filter_cons,List.filter_cons,if_pos (by simp[hk]),if_pos (by simp)] at he
 have jM:b=a:=(List.cons.inj he).1
 refine⟨jM.symm,fun k=> ?_⟩
 have ce:=h k
 subst jM
 unfold of at ce ⊢
 rw[List.filter_cons,List.filter_cons] at ce
 split at ce
 ·exact(List.cons.inj ce).2
 ·exact ce
theorem St.eq: ∀ {l l':List α},Sorted key l→Sorted key l'→St key l l'→l=l'
 | [],[],_,_,_=>rfl
 | [],b::l',_,_,h=>by
  have:b∈ ([]:List α):=(h.mem b).1 List.mem_cons_self
  cases this
 |a::l,[],_,_,h=>by
  have:a∈ ([]:List α):=(h.mem a).2 List.mem_cons_self
  cases this
 |a::l,b::l',hs,sW,h=>by
  obtain⟨rfl,h'⟩:=St.head hs sW h
  rw[St.eq (List.pairwise_cons.1 hs).2 (List.pairwise_cons.1 sW).2 h']
theorem Sorted.app {a b:List α} (ha:Sorted key a) (hb:Sorted key b) (h: ∀x,x∈a→ ∀y,y∈b→lt key y x=false):Sorted key (a++b):=
 List.pairwise_append.2 ⟨ha,hb,h⟩
theorem Sorted.left {a b:List α} (h:Sorted key (a++b)):Sorted key a:=(List.pairwise_append.1 h).1
theorem Sorted.right {a b:List α} (h:Sorted key (a++b)):Sorted key b:=(List.pairwise_append.1 h).2.1
end Go.StP
namespace Go.Sx
open Go
section
variable {α:Type} (enc:α→List Value)
def rowO (E:TypeId) (rest:List Value) (d:List α):Obj:= .cells ((d.map enc).flatten++rest).toArray E (0,0)
variable {enc} {m:Nat} {E:TypeId} {rest:List Value} {d:List α} {z:α}
theorem Oi (hm: ∀x,(enc x).length=m) {k:Nat} (hk:k<d.length): ∃A C,(d.map enc).flatten++rest=A++ (enc (d.getD k z)++C)∧A.length=k*m∧ ∀x,((d.set k x).map enc).flatten++rest=A++ (enc x++C):=by
 refine⟨((d.take k).map enc).flatten,((d.drop (k+1)).map enc).flatten++rest, ?_, ?_,fun x=> ?_⟩
 ·have e:d=d.take k++d.getD k z::d.drop (k+1):=by
   rw[List.getD_eq_getElem?_getD,List.getElem?_eq_getElem hk,Option.getD_some,List.getElem_cons_drop,List.take_append_drop]
  have e2:=congrArg (fun l=>(l.map enc).flatten++rest) e
  simp only[List.map_append,List.map_cons,List.flatten_append,List.flatten_cons,List.append_assoc] at e2
  exact e2
 ·rw[AT hm,List.length_take,Nat.min_eq_left (Nat.le_of_lt hk)]
 ·have e:d.set k x=d.take k++x::d.drop (k+1):=List.set_eq_take_append_cons_drop.trans (by rw[if_pos hk])
  rw[e]
  simp only[List.map_append,List.map_cons,List.flatten_append,List.flatten_cons,List.append_assoc]
theorem F8 (hm: ∀x,(enc x).length=m) (k:Nat) (hk:k<d.length):aI (some (true,m)) (some (rowO enc E rest d)) (k*m)=some (.agg (enc (d.getD k z)).toArray):=by
 obtain⟨A,C,e,hA,-⟩:=Oi (z:=z) (rest:=rest) hm hk
 unfold rowO
 rw[e]
 exact xu A _ C E (0,0) hA (hm _)
end
section
variable {P:Program} {w0:World} {f:Fr} {L:aA} {N:Fr→aA→Prop} {ops:Array Oper} {rest:List Oper} {md:Md} {d:Option Tmp} {ty:TypeId} {ps:String} {af:Array Edge} {g:Option (Nat×Bool)}
end
end Go.Sx
namespace Go.StP
open Go Go.Sx
variable {α:Type} {key:α→List UInt8} {z:α}
theorem yM {a b:List α} {k:Nat} (h:k<a.length): (a++b).getD k z=a.getD k z:=by
 rw[List.getD_eq_getElem?_getD,List.getD_eq_getElem?_getD,List.getElem?_append_left h]
theorem yZ {a b:List α} {k:Nat} (h:a.length≤k): (a++b).getD k z=b.getD (k - a.length) z:=by
 rw[List.getD_eq_getElem?_getD,List.getD_eq_getElem?_getD,List.getElem?_append_right h]
theorem nX {l:List α} {k:Nat} (h:k<l.length):l.getD k z∈l:=by
 rw[List.getD_eq_getElem?_getD,List.getElem?_eq_getElem h];exact List.getElem_mem h
theorem Pf {l:List α} {k n:Nat} (h:k<n): (l.take n).getD k z=l.getD k z:=by
 rw[List.getD_eq_getElem?_getD,List.getD_eq_getElem?_getD,List.getElem?_take,if_pos h]
theorem HK {l:List α} {k:Nat} (h:k<l.length):l.drop k=l.getD k z::l.drop (k+1):=by
 rw[List.getD_eq_getElem?_getD,List.getElem?_eq_getElem h]
 exact List.drop_eq_getElem_cons h
theorem take_snoc {l:List α} {k:Nat} (h:k<l.length):l.take (k+1)=l.take k++ [l.getD k z]:=by
 rw[List.getD_eq_getElem?_getD,List.getElem?_eq_getElem h]
 exact List.take_succ_eq_append_getElem h
theorem Sorted.at_ {l:List α} (h:Sorted key l) {i j:Nat} (mW:i≤j) (hj:j<l.length):lt key (l.getD j z) (l.getD i z)=false:=by
 rcases Nat.lt_or_eq_of_le mW with h1|rfl
 ·have:=List.pairwise_iff_getElem.1 h i j (by omega) hj h1
  rw[List.getD_eq_getElem?_getD,List.getD_eq_getElem?_getD,List.getElem?_eq_getElem hj,List.getElem?_eq_getElem (show i<l.length by omega)]
  exact this
 ·exact lt_irrefl _
end Go.StP
namespace Go.Sx
open Go
def pH (r:Option Nat):Fence:={Fence.wide with round:=r}
def yB:Op→Bool
 | .defer _=>false
 |_=>true
section
variable {P:Program} {w0:World} {f:Fr} {L:aA} {K:cM} {N:Fr→aA→Prop} {ops:Array Oper} {rest:List Oper} {r:Option Nat} {n:Nat}
theorem Ju {k:FuncId} {args:Array Value} {w:World} {R:Ending→World→Prop} (h:Calls P k args w R):CallsIn (pH r) n P k args w R:=
 (callsIn_wide.2 h:CallsIn Fence.wide n P k args w R)
theorem MO {row:String} {args:Array Value} {w:World} {R:Value→World→Prop} (h:Rows P row args w R):RowsIn (pH r) n P row args w R:=
 (fun c cs _=>let ⟨v,w',hr,s⟩:=h c cs;⟨v,w',hr,stepsIn_wide.2 s⟩:RowsIn Fence.wide n P row args w R)
theorem TQ {o:Oper} {a:Act} {w:World} {next:Act→World→Prop} {Q:Exit→Act→World→Prop} (hd:yB o.op=true) (h:o.wp P a w next Q):o.wpIn (pH r) n P a w next Q:=by
 refine⟨fun _ _=>trivial, ?_⟩
 rw[Oper.semAt_eq _ _ _ (fun c e=>by rw[e] at hd;cases hd)]
 unfold Oper.wp at h
 generalize (execOp a.eval o).run P w=x at h
 match x,h with
 | .ok (.value v) _,h=>exact h
 | .ok .skip _,h=>exact h
 | .ok (.defer e) _,h=>exact h
 | .ok (.enter k args) w',h=>
  have h':Calls P k args w' _:=h
  exact⟨fun(e:false=true)=>(by cases e),Ju h'⟩
 | .ok (.row row args) w',h=>
  have h':Rows P row args w' _:=h
  exact⟨fun(e:false=true)=>(by cases e),MO h'⟩
 | .halt (.panic u) _,h=>exact h
theorem u9 {Q:Exit→Act→World→Prop} {l2:List Oper}: ∀ (l1:List Oper) (a:Act) (w:World),(l1.all fun o=>yB o.op)=true→
  wpList P ops (fun e a w=>e= .normal∧wpListIn (pH r) n P ops Q l2 a w) l1 a w→wpListIn (pH r) n P ops Q (l1++l2) a w
 | [],_,_,_,h=>h.2
 |o::l1,a,w,hd,h=>by
  rw[List.cons_append]
  unfold wpList at h
  unfold wpListIn
  rw[List.all_cons,Bool.and_eq_true] at hd
  split at h
  ·rename_i hw
   rw[if_pos hw]
   rcases h with h| ⟨-,hl⟩
   ·exact TQ hd.1 (ES (fun a w hx=>u9 l1 a w hd.2 hx) (fun e a w aO hq=>aO hq.1) h)
   ·obtain⟨_,_,he,-⟩:=hl
    cases he
  ·rename_i hw
   rw[if_neg hw]
   exact⟨fun _ _=>trivial,u9 l1 _ _ hd.2 h⟩
def OwI (r:Option Nat) (P:Program) (w0:World) (ops:Array Oper) (l:List Oper) (f:Fr) (L:aA) (N:Fr→aA→Prop):Prop:=
 ∀w,Hp w0 L w→wpListIn (pH r) 0 P ops (eU w0 N) l (act f) w
theorem OwI.nil (h:N f L):OwI r P w0 ops [] f L N:=fun _ hw=>⟨rfl,rfl,L,hw,by simpa [act] using h⟩
theorem OwI.pre {l1 l2:List Oper} (hd: (l1.all fun o=>yB o.op)=true) (h:Ow P w0 ops .seq l1 f L (fun f' L'=>OwI r P w0 ops l2 f' L' N)):OwI r P w0 ops (l1++l2) f L N:=by
 intro w hw
 refine u9 l1 _ _ hd ?_
 have h1:=h w hw
 have mono: ∀ (l:List Oper) (a:Act) (w:World),wpList P ops (eU w0 (fun f' L'=>OwI r P w0 ops l2 f' L' N)) l a w→wpList P ops (fun e a w=>e= .normal∧wpListIn (pH r) 0 P ops (eU w0 N) l2 a w) l a w:=by
  intro l
  induction l with
  |nil=>
   rintro a w ⟨-,iz,L',hp,hO⟩
   refine⟨rfl, ?_⟩
   have:=hO w hp
   rwa [←tC iz] at this
  |cons o l ih=>
   intro a w h
   unfold wpList at h ⊢
   split at h
   ·rename_i hw
    rw[if_pos hw]
    rcases h with h| ⟨-,hl⟩
    ·exact .inl (ES ih (fun e a w aO hq=>aO hq.1) h)
    ·obtain⟨_,_,he,-⟩:=hl
     cases he
   ·rename_i hw
    rw[if_neg hw]
    exact ih _ _ h
 exact mono l1 _ _ h1
theorem Ow.mono_seq {l:List Oper} {N':Fr→aA→Prop} (h:Ow P w0 ops .seq l f L N) (hN: ∀f L,N f L→N' f L):Ow P w0 ops .seq l f L N':=by
 intro w hw
 have h1:=h w hw
 clear h
 revert h1
 generalize act f=a
 clear hw
 induction l generalizing a w with
 |nil=>rintro⟨h1,h2,L',h3,h4⟩;exact⟨h1,h2,L',h3,hN _ _ h4⟩
 |cons o l ih=>
  intro h
  unfold wpList at h ⊢
  split at h
  ·rename_i hw
   rw[if_pos hw]
   rcases h with h| ⟨-,hl⟩
   ·exact .inl (ES (fun a w hx=>ih w a hx) (fun e a w aO hq=>aO hq.1) h)
   ·obtain⟨_,_,he,-⟩:=hl
    cases he
  ·rename_i hw
   rw[if_neg hw]
   exact ih _ _ h
theorem OwI.all {l:List Oper} (hd: (l.all fun o=>yB o.op)=true) (h:Ow P w0 ops .seq l f L N):OwI r P w0 ops l f L N:=by
 have:=OwI.pre (r:=r) (l2:= []) (N:=N) hd (Ow.mono_seq h (fun f L hN=>OwI.nil hN))
 simpa using this
def CwR (r:Option Nat) (P:Program) (w0:World) (c:Code) (f:Fr) (L:aA) (K:cM):Prop:= ∀w,Hp w0 L w→c.wpIn (pH r) 0 P (post w0 K) (act f) w
theorem CwR.region {id:Nat} {l:List Oper} (hd: (l.all fun o=>yB o.op)=true) (h:Ow P w0 l.toArray .seq l f L (K .normal)):CwR r P w0 (.region id l.toArray false) f L K:=
 fun w hw=>wpIn_mono (wpIn_region_lit (OwI.all hd h w hw)) fun _ _ _ h=>wX h
theorem CwR.block {id:Nat} {c:Code} (h:CwR r P w0 c f L (mA id K)):CwR r P w0 (.block id c) f L K:=by
 intro w hw
 refine wpIn_block (wpIn_mono (h w hw) ?_)
 rintro e a w' ⟨hd,L',hp,k⟩
 cases e with
 |exit i=>
  simp only[Exit.inBlock]
  simp only[mA] at k
  split
  ·rename_i e;rw[if_pos e] at k;exact⟨hd,L',hp,k⟩
  ·rename_i e;rw[if_neg e] at k;exact⟨hd,L',hp,k⟩
 |_=>exact⟨hd,L',hp,k⟩
theorem Hp.put {w:World} (h:Hp w0 L w) {b:Nat} {o:Obj} (hb:b∈keys L):Hp w0 (setB L b o) (w.putObj b o):=h.set hb rfl rfl rfl rfl
theorem YieldAt.of {l:Nat} {rc:Loop} {X:aA} {args:Array Value} {w:World} {r0:Option Nat} {S:aA→Prop} (hX:Hp w X w) (hl:look X l=some (.loop rc)) (hr:rc.state= .ready) (hp:rc.pending=none) (hs:args.size=rc.params.size)
  (h:CwR (some l) P w rc.assign ((rc.params.zip args).foldl (fun tmps (p:Tmp×Value)=>tmps.setIfInBounds p.1 p.2) rc.tmps).toList X (fun e f1 L1=>e= .normal∧look L1 l=some (.loop rc)∧
   CwR (some l) P w rc.body f1 (setB L1 l (.loop {rc with state:= .busy})) (fun e _ L2=>e= .normal∧look L2 l=some (.loop {rc with state:= .busy})∧S (setB L2 l (.loop rc))))):
  YieldAt (pH r0) 0 P l args w (fun e w'=> ∃D,e= .returned (.bool true)∧Hp w D w'∧S D):=by
 obtain⟨st,pe,fn0,tm,pa,asg,bo,de⟩:=rc
 obtain rfl:st= .ready:=hr
 obtain rfl:pe=none:=hp
 have xA:=hX.has _ _ (cO hl)
 refine⟨fn0,_,asg,bo,run_yield xA hs,roundIn_of_wpIn (F:=pH r0) (n:=0) trivial ?_⟩
 have h1:=h w hX
 have ea:act ((pa.zip args).foldl (fun tmps (p:Tmp×Value)=>tmps.setIfInBounds p.1 p.2) tm).toList={tmps:=(pa.zip args).foldl (fun tmps (p:Tmp×Value)=>tmps.setIfInBounds p.1 p.2) tm,defers:= []}:=by
  simp[act]
 simp only at h1
 rw[ea] at h1
 refine wpIn_mono h1 ?_
 rintro e a1 w1 ⟨DR,L1,pZ,rfl,js,DL⟩
 have aQ:=run_beginRound (P:=P) (pZ.has _ _ (cO js)) rfl
 refine⟨_,aQ, ?_⟩
 have h2:=DL _ (pZ.put (o:= .loop {state:= .busy,pending:=none,fn:=fn0,tmps:=tm,params:=pa,assign:=asg,body:=bo,defers:=de}) (cJ js))
 rw[←tC DR] at h2
 refine wpIn_mono h2 ?_
 rintro e a2 w2 ⟨sL,L2,lN,rfl,i9,hS⟩
 have he:=run_endRound (P:=P) none (lN.has _ _ (cO i9))
 exact⟨_,_,he,_,rfl,lN.put (cJ i9),hS⟩
def Vk (ds:List Deferred) (w0:World) (K:cM) (e:Exit) (a:Act) (w:World):Prop:=a.defers=ds∧ ∃L,Hp w0 L w∧K e a.tmps.toList L
def CwE (ds:List Deferred) (P:Program) (w0:World) (c:Code) (f:Fr) (L:aA) (K:cM):Prop:= ∀w,Hp w0 L w→c.wp P (Vk ds w0 K) ⟨f.toArray,ds⟩ w
theorem CwE.seq {ds:List Deferred} {x y:Code} (h:CwE ds P w0 x f L (k4 (fun f L=>CwE ds P w0 y f L K) K)):CwE ds P w0 (.seq x y) f L K:=by
 intro w hw
 refine wp_seq (wp_mono (h w hw) ?_)
 rintro e a w' ⟨hd,L',hp,k⟩
 cases e with
 |normal=>
  have:=k w' hp
  have ea:a=⟨a.tmps.toList.toArray,ds⟩:=by cases a;simp only at hd;subst hd;simp
  rw[ea]
  exact this
 |_=>exact⟨hd,L',hp,k⟩
theorem CwE.ret {ds:List Deferred} (h:K .ret f L):CwE ds P w0 .ret f L K:=fun _ hw=>wp_ret ⟨rfl,L,hw,by simpa using h⟩
def evVs (P:Program) (w0:World) (L:aA):List Oper→Fr→Option Fr
 | [],f=>some f
 |o::r,f=>match o.guard,iF P w0 L f o.op with
  |none,some v=>evVs P w0 L r (aS f o.dst v)
  |_,_=>none
theorem Yn {ds:List Deferred} {Q:Exit→Act→World→Prop} {w:World} (hw:Hp w0 L w): ∀ (l:List Oper) (f f':Fr),evVs P w0 L l f=some f'→Q .normal ⟨f'.toArray,ds⟩ w→wpList P ops Q l ⟨f.toArray,ds⟩ w
 | [],f,f',h,hQ=>by cases h;exact hQ
 |o::l,f,f',h,hQ=>by
  unfold evVs at h
  split at h
  ·rename_i v hg hv
   unfold wpList
   have ow:Region.wanted o (yielded ops (⟨f.toArray,ds⟩:Act).tmps)=true:=by unfold Region.wanted;rw[hg]
   rw[if_pos ow]
   refine .inl ?_
   unfold Oper.wp
   have he: (⟨f.toArray,ds⟩:Act).eval=ev f:=by
    have:=pj f
    funext x
    exact(congrFun this x)
   rw[he,nT hw hv]
   have hp: (⟨f.toArray,ds⟩:Act).put o.dst v=⟨(aS f o.dst v).toArray,ds⟩:=by
    have:=fN f o.dst v
    cases hd:o.dst with
    |none=>rfl
    |some d=>simp only[Act.put,aS,Bp]
   show wpList P ops Q l ((⟨f.toArray,ds⟩:Act).put o.dst v) w
   rw[hp]
   exact Yn hw l _ f' h hQ
  ·cases h
theorem CwE.region {ds:List Deferred} {id:Nat} {l:List Oper} {f':Fr} (h:evVs P w0 L l f=some f') (hk:K .normal f' L):CwE ds P w0 (.region id l.toArray false) f L K:=
 fun w hw=>wp_region_lit (Yn hw l f f' h ⟨rfl,L,hw,by simpa using hk⟩)
theorem Gr.at_ {L:aA} {E:TypeId} {m n:Nat} {v:Value} {cs:List Value} (h:Gr L E m v n cs) {b:Nat} (hb:slB v=some b): ∃a,look L b=some (.cells a E (0,0)):=by
 rcases h with h| ⟨rfl,rfl,c,rfl,hl⟩
 ·rcases h.inv with⟨rfl,-,-⟩ | ⟨c,cc,rest,rfl,hl,-⟩
  ·cases hb
  ·have:c=b:=by simpa [slB,vsl] using hb
   subst this;exact⟨_,hl⟩
 ·have:c=b:=by simpa [slB,vsl] using hb
  subst this;exact⟨_,hl⟩
theorem Gr.ne {L:aA} {E:TypeId} {m n:Nat} {v:Value} {cs:List Value} (h:Gr L E m v n cs) {b:Nat} {o:Obj} (hl:look L b=some o) (ho: ∀a,o≠ .cells a E (0,0)):slB v≠some b:=fun e=>by
 obtain⟨a,ha⟩:=h.at_ e
 rw[hl] at ha
 exact ho a (Option.some.inj ha)
theorem Gr.setB {L:aA} {E:TypeId} {m n:Nat} {v:Value} {cs:List Value} (h:Gr L E m v n cs) {b:Nat} (hb:slB v≠some b) (x:Obj):Gr (setB L b x) E m v n cs:=
 h.keep fun c o hc ho=>by rw[eO (fun e:b=c=>hb (by rw[e];exact hc))];exact ho
end
end Go.Sx
namespace Go.Sx
open Go
section
variable {α:Type} {m:Nat} {enc:α→List Value} {z:α} {w:World} {v:Value} {l:List α}
theorem SlV.dropE (h:SlV m enc z w v l) {k:Nat} (hk:k≤l.length) (a:Bool): ∃v',gZ (.sl (a,m)) v (some (some (k:Int))) none=some v'∧SlV m enc z w v' (l.drop k)∧(∀b,slB v'=some b→slB v=some b):=by
 obtain⟨b,off,c,arr,E,fz,hr,hc,hv⟩:=h
 have hl: (l.drop k).length=l.length - k:=by simp
 rcases hv with⟨rfl,rfl,rfl⟩ | ⟨rfl,dq,g5⟩
 ·obtain rfl:k=0:=by simpa using hk
  exact⟨.slice none 0 0,rfl,SlV.nil w,fun b hb=>hb⟩
 ·have cN:gZ (.sl (a,m)) (vsl b off l.length c) (some (some (k:Int))) none=some (vsl b (if c=k then off else off+k*m) (l.length - k) (c - k)):=by
   unfold gZ vsl
   simp only[CC _ _ _ (⟨by omega,by omega⟩: (0:Int)≤ (k:Int)∧(k:Int)≤ (l.length:Int)),Int.toNat_natCast]
   by_cases DP:c=k
   ·simp[DP]
   ·simp only[DP, ↓reduceIte,Option.map_some,ml]
  refine⟨_,cN, ?_,fun b' hb=>hb⟩
  have x9:k*m+ (l.length - k)*m=l.length*m:=by rw[←Nat.add_mul];congr 1;omega
  by_cases DP:c=k
  ·have h0:l.length - k=0:=by omega
   rw[if_pos DP]
   refine⟨b,off,c - k,arr,E,fz,RowS.sl' hl.symm (fun h=>by omega) (fun i hi=>by omega),by omega, .inr ⟨by rw[hl],dq,by rw[hl,h0];omega⟩⟩
  ·rw[if_neg DP]
   refine⟨b,off+k*m,c - k,arr,E,fz,RowS.sl' hl.symm (fun h=>dq) ?_,by omega, .inr ⟨by rw[hl],dq,by rw[hl];omega⟩⟩
   intro i hi j hj
   rw[hl] at hi
   rw[List.getD_eq_getElem?_getD,List.getElem?_drop,←List.getD_eq_getElem?_getD,←hr.get (k+i) (by omega) j hj]
   congr 1
   rw[Nat.add_mul];omega
end
section
variable {P:Program} {w0:World} {f:Fr} {L:aA} {N:Fr→aA→Prop} {ops:Array Oper} {rest:List Oper} {md:Md} {d:Option Tmp} {ty:TypeId} {ps:String} {af:Array Edge} {g:Option (Nat×Bool)}
theorem Ow.callFnX {x y:Operand} {b:Value} {ts:Array TypeId} {k:FuncId} {X Y:aA} {S:Value→aA→Prop} {md':Md} (hL:L=X++Y) (he:md.turn=some md')
  (hs:bA ops f ⟨d, .call ⟨.value x, #[y],ts⟩,ty,ps,af,g⟩=false)
  (hx:ev f x= .func (.func k) #[] #[]) (hy:ev f y=b)
  (hk: ∀a w,(callFunc k a).run P w= .ok (.enter k a) w)
  (hc: ∀w,Hp w0 L w→(∀p,p∈X→w.heap[p.1]? =some p.2)→(keys X).Nodup→Rets P k #[b] w (XS w X S))
  (hn: ∀v D,Came w0 L X D→S v D→Ow P w0 ops md' rest (aS f d v) (D++Y) N):
  Ow P w0 ops md (⟨d, .call ⟨.value x, #[y],ts⟩,ty,ps,af,g⟩::rest) f L N:=by
 subst hL
 have bE: ∀w,Hp w0 (X++Y) w→(keys X).Nodup∧ ∀c,c∈keys Y→c∉keys X:=by
  intro w hw
  have:=hw.nodup
  rw[bM,List.nodup_append] at this
  exact⟨this.1,fun c hc hx=>this.2.2 c hx c hc rfl⟩
 refine Ow.call (S:=fun B v D=>((∀c,c∈keys D→c∈keys X∨B≤c)∧(∀c,c∈keys X→c∈keys D)∧S v D)∧ ∃w,Hp w0 (X++Y) w∧w.heap.size=B) he hs hx hk (fun w hw=> ?_) ?_
 ·show Rets P k (#[]++ #[y].map (ev f)++ #[]) w _
  rw[show(#[]++ #[y].map (ev f)++ #[]:Array Value)= #[b] by simp[hy]]
  refine Calls.mono (hc w hw (fun p hp=>hw.has _ _ (List.mem_append_left _ hp)) (bE w hw).1) ?_
  rintro e w' ⟨v,D,he,hp,hS⟩
  exact⟨v,D,he,hp,⟨hS.1.new,hS.1.all,hS.2⟩,w,hw,rfl⟩
 ·rintro B v D jM hB ⟨⟨h1,h2,h3⟩,w1,aF,Xs⟩
  refine⟨D++Y, ?_,hn v D ⟨fun c hc=>(h1 c hc).imp id fun h=>⟨gh fun b hb=>by have:=aF.lt hb;omega,by have:=aF.size;omega⟩,h2⟩ h3⟩
  intro w w' EE h k
  have ht:=h.trans k
  have hY: ∀c,c∈keys Y→c∉keys D:=by
   intro c hc hd
   rcases h1 c hd with hx|hx
   ·exact(bE w h).2 c hc hx
   ·have:=h.lt (b:=c) (by rw[bM];exact List.mem_append_right _ hc)
    omega
  have e1:X.filter (fun p=> !(keys D).contains p.1)= []:=by
   rw[List.filter_eq_nil_iff]
   intro p hp
   have:=h2 p.1 (List.mem_map.2 ⟨p,hp,rfl⟩)
   simpa using this
  have e2:Y.filter (fun p=> !(keys D).contains p.1)=Y:=xV hY
  rw[List.filter_append,e1,e2,List.nil_append] at ht
  refine ht.same (fun p=>by simp[or_comm]) ?_
  have:=ht.nodup
  rw[bM] at this ⊢
  exact(List.perm_append_comm.nodup_iff).1 this
end
section
variable {P:Program} {w0:World} {f:Fr} {L:aA} {K:cM}
theorem Cw.world {c:Code} (h: ∀w,Hp w0 L w→Cw P w0 c f L K):Cw P w0 c f L K:=fun w hw=>h w hw w hw
theorem Gr.read {E:TypeId} {m n:Nat} {v:Value} {cs:List Value} (h:Gr L E m v n cs) {b:Nat} (hb:slB v=some b) {w:World} (hw:Hp w0 L w) {o:Obj} (ho:w.heap[b]? =some o):aP w0 L b=some o:=by
 obtain⟨a,ha⟩:=h.at_ hb
 rw[hw.has _ _ (cO ha)] at ho
 rw[aY ha];exact ho
end
end Go.Sx
namespace Go.Sx
open Go
section
variable {α β:Type} [BEq α] [LawfulBEq α] (encK:α→Value) (encV:β→Value)
def gB (k:α):List (α×β)→Nat→Option (Nat×β)
 | [],_=>none
 |p::r,i=>if k==p.1 then some (i,p.2) else gB k r (i+1)
def updG (k:α) (v:β):List (α×β)→List (α×β)
 | []=> [(k,v)]
 |p::r=>if k==p.1 then(p.1,v)::r else p::updG k v r
def getG (k:α) (z:β) (m:List (α×β)):β:=match m.find? fun p=>k==p.1 with|some p=>p.2|none=>z
def gb (p:α×β):Value×Value:=(encK p.1,encV p.2)
def eF (o:Obj) (m:List (α×β)):Prop:= ∃es clock,o= .map es clock∧es.toList.map (fun e=>(e.key,e.val))=m.map (gb encK encV)∧(es.toList.map (·.born)++ [clock]).Pairwise (· < ·)
structure KeyOk (P:Program) (kt:TypeId) (encK:α→Value):Prop where
 find: ∀ {β:Type} (encV:β→Value) (w:World) (k:α) (es:List MapEntry) (m:List (α×β)),es.map (fun e=>(e.key,e.val))=m.map (gb encK encV)→(Instr.findKey kt (encK k) es).run P w= .ok ((gB k m 0).map fun p=>(p.1,encV p.2)) w
 check: ∀ (w:World) (e:Bool) (k:α),(Instr.checkKey e 10000 kt (encK k)).run P w= .ok () w
 bits: ∀k,Instr.sameBits 10000 (encK k) (encK k)=true
variable {encK encV}
omit [LawfulBEq α] in
theorem HQ {kd:TypeDesc} (hs: ∀a b,Instr.sameNow kd (encK a) (encK b)=some (a==b)) (k:α): ∀ (es:List MapEntry) (m:List (α×β)) (i:Nat),es.map (fun e=>(e.key,e.val))=m.map (gb encK encV)→
  Instr.findNow kd (encK k) es i=some ((gB k m i).map fun p=>(p.1,encV p.2))
 | [],[],i,_=>rfl
 | [],_::_,_,h=>by cases h
 |_::_,[],_,h=>by cases h
 |e::es,p::m,i,h=>by
  simp only[List.map_cons,List.cons.injEq,gb,Prod.mk.injEq] at h
  obtain⟨⟨h1,h2⟩,h3⟩:=h
  unfold Instr.findNow
  have hs:Instr.sameNow kd (encK k) e.key=some (k==p.1):=by rw[h1,hs]
  rw[hs]
  unfold gB
  cases hk: (k==p.1)
  ·simp only[Bool.false_eq_true, ↓reduceIte]
   exact HQ ‹_› k es m (i+1) h3
  ·simp[h2]
theorem HG (k:α): ∀ (m:List (α×β)) (i j:Nat) (v:β),gB k m i=some (j,v)→i≤j∧ ∃a,m[j - i]? =some (k,a)∧a=v
 | [],_,_,_,h=>by cases h
 |p::r,i,j,v,h=>by
  unfold gB at h
  split at h
  ·rename_i hk
   cases h
   refine⟨Nat.le_refl _,p.2, ?_,rfl⟩
   rw[Nat.sub_self,List.getElem?_cons_zero,eq_of_beq hk]
  ·obtain⟨h1,a,h2,h3⟩:=HG k r (i+1) j v h
   refine⟨by omega,a, ?_,h3⟩
   rw[show j - i=(j - (i+1))+1 by omega,List.getElem?_cons_succ];exact h2
theorem zW (k:α) (v:β): ∀ (es:List MapEntry) (m:List (α×β)) (i j:Nat) (a:β),es.map (fun e=>(e.key,e.val))=m.map (gb encK encV)→gB k m i=some (j,a)→
  (es.modify (j - i) fun e=>{e with key:=encK k,val:=encV v}).map (fun e=>(e.key,e.val))=(updG k v m).map (gb encK encV)
 | [],[],_,_,_,_,h=>by cases h
 | [],_::_,_,_,_,h,_=>by cases h
 |_::_,[],_,_,_,h,_=>by cases h
 |e::es,p::m,i,j,a,h,hf=>by
  simp only[List.map_cons,List.cons.injEq,gb,Prod.mk.injEq] at h
  obtain⟨⟨h1,h2⟩,h3⟩:=h
  unfold gB at hf
  unfold updG
  split at hf
  ·rename_i hk
   cases hf
   rw[if_pos hk,Nat.sub_self]
   simp only[List.modify_zero_cons,List.map_cons,gb,eq_of_beq hk]
   rw[h3]
  ·rename_i hk
   have dN:=(HG k m (i+1) j a hf).1
   rw[if_neg hk,show j - i=(j - (i+1))+1 by omega]
   simp only[List.modify_succ_cons,List.map_cons,gb]
   rw[zW k v es m (i+1) j a h3 hf,h1,h2]
omit [LawfulBEq α] in
theorem AC (k:α) (v:β): ∀ (m:List (α×β)) (i:Nat),gB k m i=none→updG k v m=m++ [(k,v)]
 | [],_,_=>rfl
 |p::r,i,h=>by
  unfold gB at h
  split at h
  ·cases h
  ·rename_i hk
   unfold updG
   rw[if_neg hk,AC k v r (i+1) h];rfl
omit [LawfulBEq α] in
theorem zO (k:α): ∀ (m:List (α×β)) (i:Nat),(gB k m i).map Prod.snd=(m.find? fun p=>k==p.1).map Prod.snd
 | [],_=>rfl
 |p::r,i=>by
  unfold gB
  rw[List.find?_cons]
  cases h: (k==p.1)
  ·simp only[Bool.false_eq_true, ↓reduceIte];exact zO k r (i+1)
  ·rfl
theorem RB {k:α} {m:List (α×β)} {es:List MapEntry} {j:Nat} {a:β} (h:es.map (fun e=>(e.key,e.val))=m.map (gb encK encV)) (hf:gB k m 0=some (j,a)): ∃e,es[j]? =some e∧e.key=encK k:=by
 obtain⟨-,a',h1,rfl⟩:=HG k m 0 j a hf
 rw[Nat.sub_zero] at h1
 have:=congrArg (·[j]?) h
 simp only[List.getElem?_map,h1,Option.map_some] at this
 cases he:es[j]? with
 |none=>rw[he] at this;cases this
 |some e=>
  rw[he] at this
  simp only[Option.map_some,Option.some.injEq,gb,Prod.mk.injEq] at this
  exact⟨e,rfl,this.1⟩
theorem KeyOk.int {P:Program} {kt:TypeId} {k0:IntKind} (hu:P.underlying kt=some (.int k0)):KeyOk P kt vi where
 find encV w k es m h:=by
  simp only[Instr.findKey,Sem.run_bind,run_underlying hu w,Result.andThen_ok]
  rw[HQ (encK:=vi) (fun a b=>by simp[Instr.sameNow,vi]) k es m 0 h]
  rfl
 check w e k:=by
  unfold Instr.checkKey
  simp only[Sem.run_bind,run_underlying hu w,Result.andThen_ok]
  rfl
 bits k:=by simp[vi,Instr.sameBits]
variable {P:Program} {w0:World} {f:Fr} {L:aA} {N:Fr→aA→Prop} {ops:Array Oper} {rest:List Oper} {md:Md}
 {d:Option Tmp} {ty:TypeId} {ps:String} {af:Array Edge} {g:Option (Nat×Bool)}
omit [BEq α] [LawfulBEq α] in
theorem Ow.makeMapG {t:TypeId} {md':Md} (he:md.turn=some md') (hs:bA ops f ⟨d, .makeMap t none,ty,ps,af,g⟩=false)
  (hn: ∀b o,eS L b→w0.heap.size≤b→eF encK encV o []→Ow P w0 ops md' rest (aS f d (vm b)) (L++ [(b,o)]) N):
  Ow P w0 ops md (⟨d, .makeMap t none,ty,ps,af,g⟩::rest) f L N:=by
 refine Ow.step he rfl hs fun w hw=> .inl ⟨vm w.heap.size,w.alloc (.map #[] 0),_, ?_,hw.alloc _,hn _ _ (gh fun b hb=>hw.lt hb) hw.size ⟨#[],0,rfl,rfl,List.pairwise_singleton _ _⟩⟩
 simp only[execOp,Instr.makeMap,Sem.run_bind,Option.map_none]
 rfl
theorem Ow.mapUpdateG {t kt vt:TypeId} {x y z:Operand} {b:Nat} {o:Obj} {m:List (α×β)} {k:α} {v:β} {md':Md} (he:md.turn=some md') (hs:bA ops f ⟨d, .mapUpdate t x y z,ty,ps,af,g⟩=false) (hu:P.underlying t=some (.map kt vt)) (hk:KeyOk P kt encK)
  (hx:ev f x=vm b) (hy:ev f y=encK k) (hz:ev f z=encV v) (hl:look L b=some o) (hm:eF encK encV o m)
  (hn: ∀o',eF encK encV o' (updG k v m)→Ow P w0 ops md' rest (aS f d undef) (setB L b o') N):
  Ow P w0 ops md (⟨d, .mapUpdate t x y z,ty,ps,af,g⟩::rest) f L N:=by
 obtain⟨es,c,rfl,iO,gT⟩:=hm
 refine Ow.step he rfl hs fun w hw=> ?_
 have hb:=hw.has _ _ (cO hl)
 have ft:=hk.find encV w k es.toList m iO
 cases hf:gB k m 0 with
 |none=>
  rw[hf] at ft
  refine .inr (.inl ⟨{w with heap:=w.heap.setIfInBounds b (.map (es.push {key:=encK k,val:=encV v,born:=c}) (c+1))},_, ?_,hw.set (cJ hl) rfl rfl rfl rfl,hn _ ⟨_,_,rfl, ?_,by rw[Array.toList_push];exact zw gT rfl⟩⟩)
  ·have: (Instr.mapUpdate t (vm b) (encK k) (encV v)).run P w= .ok () {w with heap:=w.heap.setIfInBounds b (.map (es.push {key:=encK k,val:=encV v,born:=c}) (c+1))}:=by
    simp only[Instr.mapUpdate,vm,Sem.run_bind,run_underlying hu w,Result.andThen_ok,p5 hb,hk.check,ft,Option.map_none,wT hb]
   simp only[execOp,Sem.run_bind,hx,hy,hz]
   rw[this];rfl
  ·rw[AC k v m 0 hf,Array.toList_push,List.map_append,iO,List.map_append];rfl
 |some p=>
  obtain⟨j,a⟩:=p
  rw[hf] at ft
  obtain⟨e,WT,WU⟩:=RB iO hf
  have vT:es[j]? =some e:=by simpa using WT
  have fw: (Instr.keyThatStays (((es[j]?).map (·.key)).getD (encK k)) (encK k)).run P w= .ok (encK k) w:=by
   rw[vT,Option.map_some,Option.getD_some,WU]
   unfold Instr.keyThatStays
   rw[if_pos (hk.bits k)];rfl
  refine .inr (.inl ⟨{w with heap:=w.heap.setIfInBounds b (.map (es.modify j fun e=>{e with key:=encK k,val:=encV v}) c)},_, ?_,hw.set (cJ hl) rfl rfl rfl rfl,hn _ ⟨_,_,rfl, ?_,by rw[Array.toList_modify,Z0 (g:=fun e=>{e with key:=encK k,val:=encV v}) fun _=>rfl];exact gT⟩⟩)
  ·have: (Instr.mapUpdate t (vm b) (encK k) (encV v)).run P w= .ok () {w with heap:=w.heap.setIfInBounds b (.map (es.modify j fun e=>{e with key:=encK k,val:=encV v}) c)}:=by
    simp only[Instr.mapUpdate,vm,Sem.run_bind,run_underlying hu w,Result.andThen_ok,p5 hb,hk.check,ft,Option.map_some,fw,wT hb]
   simp only[execOp,Sem.run_bind,hx,hy,hz]
   rw[this];rfl
  ·rw[Array.toList_modify]
   have:=zW k v es.toList m 0 j a iO hf
   rw[Nat.sub_zero] at this
   exact this
omit [LawfulBEq α] in
theorem Ow.mapGetG {t kt vt:TypeId} {x y:Operand} {b:Nat} {o:Obj} {m:List (α×β)} {k:α} {z:β} {md':Md} (he:md.turn=some md') (hs:bA ops f ⟨d, .lookup t x y false,ty,ps,af,g⟩=false) (hu:P.underlying t=some (.map kt vt)) (hk:KeyOk P kt encK)
  (hz:am P vt=some (encV z)) (hx:ev f x=vm b) (hy:ev f y=encK k) (hl:aP w0 L b=some o) (hm:eF encK encV o m)
  (hn:Ow P w0 ops md' rest (aS f d (encV (getG k z m))) L N):
  Ow P w0 ops md (⟨d, .lookup t x y false,ty,ps,af,g⟩::rest) f L N:=by
 obtain⟨es,c,rfl,iO,-⟩:=hm
 refine Ow.step he rfl hs fun w hw=> ?_
 have hb:=hw.read hl
 have ft:=hk.find encV w k es.toList m iO
 refine .inl ⟨encV (getG k z m),w,L, ?_,hw,hn⟩
 have oD:=zO k m 0
 have: (Instr.lookup t (vm b) (encK k) false).run P w= .ok (encV (getG k z m)) w:=by
  cases hf:gB k m 0 with
  |none=>
   rw[hf] at ft oD
   have hg:getG k z m=z:=by
    unfold getG
    cases h:m.find? fun p=>k==p.1 with
    |none=>rfl
    |some q=>rw[h] at oD;cases oD
   simp only[Instr.lookup,vm,Sem.run_bind,run_underlying hu w,Result.andThen_ok,p5 hb,Sem.run_pure,hk.check,ft,Option.map_none,sr hz w,hg,Bool.false_eq_true, ↓reduceIte]
  |some p=>
   obtain⟨j,a⟩:=p
   rw[hf] at ft oD
   have hg:getG k z m=a:=by
    unfold getG
    cases h:m.find? fun p=>k==p.1 with
    |none=>rw[h] at oD;cases oD
    |some q=>rw[h] at oD;simp only[Option.map_some,Option.some.injEq] at oD;exact oD.symm
   simp only[Instr.lookup,vm,Sem.run_bind,run_underlying hu w,Result.andThen_ok,p5 hb,Sem.run_pure,hk.check,ft,Option.map_some,hg,Bool.false_eq_true, ↓reduceIte]
 simp only[execOp,Sem.run_bind,hx,hy]
 rw[this];rfl
end
section
variable {P:Program} {w0:World} {f:Fr} {L:aA} {N:Fr→aA→Prop} {ops:Array Oper} {rest:List Oper} {md:Md} {d:Option Tmp} {ty:TypeId} {ps:String} {af:Array Edge} {g:Option (Nat×Bool)}
theorem Ow.callFnXC {x y:Operand} {b:Value} {cap ars:Array Value} (ha: #[b]++cap=ars) {ts:Array TypeId} {k:FuncId} {X Y:aA} {S:Value→aA→Prop} {md':Md} (hL:L=X++Y) (he:md.turn=some md')
  (hs:bA ops f ⟨d, .call ⟨.value x, #[y],ts⟩,ty,ps,af,g⟩=false)
  (hx:ev f x= .func (.func k) #[] cap) (hy:ev f y=b)
  (hk: ∀a w,(callFunc k a).run P w= .ok (.enter k a) w)
  (hc: ∀w,Hp w0 L w→(∀p,p∈X→w.heap[p.1]? =some p.2)→(keys X).Nodup→Rets P k ars w (XS w X S))
  (hn: ∀v D,Came w0 L X D→S v D→Ow P w0 ops md' rest (aS f d v) (D++Y) N):
  Ow P w0 ops md (⟨d, .call ⟨.value x, #[y],ts⟩,ty,ps,af,g⟩::rest) f L N:=by
 subst hL
 have bE: ∀w,Hp w0 (X++Y) w→(keys X).Nodup∧ ∀c,c∈keys Y→c∉keys X:=by
  intro w hw
  have:=hw.nodup
  rw[bM,List.nodup_append] at this
  exact⟨this.1,fun c hc hx=>this.2.2 c hx c hc rfl⟩
 refine Ow.call (S:=fun B v D=>((∀c,c∈keys D→c∈keys X∨B≤c)∧(∀c,c∈keys X→c∈keys D)∧S v D)∧ ∃w,Hp w0 (X++Y) w∧w.heap.size=B) he hs hx hk (fun w hw=> ?_) ?_
 ·show Rets P k (#[]++ #[y].map (ev f)++cap) w _
  rw[show(#[]++ #[y].map (ev f)++cap:Array Value)=ars by rw[←ha];simp[hy]]
  refine Calls.mono (hc w hw (fun p hp=>hw.has _ _ (List.mem_append_left _ hp)) (bE w hw).1) ?_
  rintro e w' ⟨v,D,he,hp,hS⟩
  exact⟨v,D,he,hp,⟨hS.1.new,hS.1.all,hS.2⟩,w,hw,rfl⟩
 ·rintro B v D jM hB ⟨⟨h1,h2,h3⟩,w1,aF,Xs⟩
  refine⟨D++Y, ?_,hn v D ⟨fun c hc=>(h1 c hc).imp id fun h=>⟨gh fun b hb=>by have:=aF.lt hb;omega,by have:=aF.size;omega⟩,h2⟩ h3⟩
  intro w w' EE h k
  have ht:=h.trans k
  have hY: ∀c,c∈keys Y→c∉keys D:=by
   intro c hc hd
   rcases h1 c hd with hx|hx
   ·exact(bE w h).2 c hc hx
   ·have:=h.lt (b:=c) (by rw[bM];exact List.mem_append_right _ hc)
    omega
  have e1:X.filter (fun p=> !(keys D).contains p.1)= []:=by
   rw[List.filter_eq_nil_iff]
   intro p hp
   have:=h2 p.1 (List.mem_map.2 ⟨p,hp,rfl⟩)
   simpa using this
  have e2:Y.filter (fun p=> !(keys D).contains p.1)=Y:=xV hY
  rw[List.filter_append,e1,e2,List.nil_append] at ht
  refine ht.same (fun p=>by simp[or_comm]) ?_
  have:=ht.nodup
  rw[bM] at this ⊢
  exact(List.perm_append_comm.nodup_iff).1 this
end
end Go.Sx
namespace Go.Sx
open Go
def ItG {α β:Type} (encK:α→Value) (encV:β→Value) (o:Obj) (bm:Nat) (om:Obj) (m dn lf:List (α×β)):Prop:=
 ∃es clock,∃ds:List MapEntry,om= .map es clock∧(es.toList.map (·.born)++ [clock]).Pairwise (· < ·)∧o= .mapIter (some bm) clock (ds.map (·.born)).toArray clock∧
  ds.map kv=dn.map (gb encK encV)∧(∀d,d∈ds→d∈es.toList)∧((es.toList.filter fun e=> !(ds.map (·.born)).contains e.born).map kv=lf.map (gb encK encV))∧(dn++lf).Perm m
theorem ItG.start {α β:Type} {encK:α→Value} {encV:β→Value} {bm:Nat} {om:Obj} {m:List (α×β)} (h:eF encK encV om m): ∃es clock,om= .map es clock∧ItG encK encV (.mapIter (some bm) clock #[] clock) bm om m [] m:=by
 obtain⟨es,clock,rfl,h1,h2⟩:=h
 refine⟨es,clock,rfl,es,clock,[],rfl,h2,rfl,rfl,(fun d hd=>by cases hd), ?_,by rw[List.nil_append]⟩
 rw[show(es.toList.filter fun e=> !(([]:List MapEntry).map (·.born)).contains e.born)=es.toList from List.filter_eq_self.2 (fun _ _=>rfl)]
 exact h1
theorem ItG.step {α β:Type} {encK:α→Value} {encV:β→Value} {bm:Nat} {om:Obj} {m dn lf:List (α×β)} {es:Array MapEntry} {clock:Nat} {ds:List MapEntry} {e:MapEntry} (hb: (es.toList.map (·.born)++ [clock]).Pairwise (· < ·))
  (hd:ds.map kv=dn.map (gb encK encV)) (hm: ∀d,d∈ds→d∈es.toList) (hl: (es.toList.filter fun e=> !(ds.map (·.born)).contains e.born).map kv=lf.map (gb encK encV)) (hp: (dn++lf).Perm m)
  (he:e∈es.toList.filter fun e=> !(ds.map (·.born)).contains e.born) (kH:om= .map es clock):
  ∃p lf',kv e=gb encK encV p∧lf.length=lf'.length+1∧ItG encK encV (.mapIter (some bm) clock ((ds.map (·.born)).toArray.push e.born) clock) bm om m (dn++ [p]) lf':=by
 obtain⟨A,C,ut⟩:=List.append_of_mem he
 rw[ut,List.map_append,List.map_cons] at hl
 obtain⟨l1,l2,rfl,h1,h2⟩:=List.append_eq_map_iff.1 hl
 obtain⟨p,l3,rfl,h3,h4⟩:=(List.map_eq_cons_iff.1 h2)
 refine⟨p,l1++l3,h3.symm,by simp;omega,es,clock,ds++ [e],kH,hb,by simp,by simp[hd,h3], ?_, ?_, ?_⟩
 ·intro d iz
  rcases List.mem_append.1 iz with h|h
  ·exact hm d h
  ·rw[List.mem_singleton] at h;subst h;exact(List.mem_filter.1 he).1
 ·have bE: ((A++e::C).map (·.born)).Nodup:=by
   rw[←ut]
   exact(Gh hb).sublist ((List.filter_sublist).map _)
  have e1: (es.toList.filter fun x=> !((ds++ [e]).map (·.born)).contains x.born)=(A++e::C).filter fun x=> !(x.born==e.born):=by
   rw[←ut,List.filter_filter]
   refine List.filter_congr fun x hx=> ?_
   simp only[List.map_append,List.map_cons,List.map_nil,List.contains_append,List.contains_cons,List.contains_nil,Bool.or_false,Bool.not_or]
   rw[Bool.and_comm]
  rw[List.map_append,List.map_cons,List.nodup_append] at bE
  obtain⟨-,nJ,XB⟩:=bE
  rw[List.nodup_cons] at nJ
  have e2: ((A++e::C).filter fun x=> !(x.born==e.born))=A++C:=by
   rw[List.filter_append,List.filter_cons]
   simp only[beq_self_eq_true,Bool.not_true,Bool.false_eq_true, ↓reduceIte]
   congr 1
   ·refine List.filter_eq_self.2 fun x hx=> ?_
    have:=XB x.born (List.mem_map.2 ⟨x,hx,rfl⟩) e.born List.mem_cons_self
    simpa using this
   ·refine List.filter_eq_self.2 fun x hx=> ?_
    have:x.born≠e.born:=fun h=>nJ.1 (h▸List.mem_map.2 ⟨x,hx,rfl⟩)
    simpa using this
  rw[e1,e2,List.map_append,List.map_append,h1,h4]
 ·refine List.Perm.trans ?_ hp
  rw[List.append_assoc]
  refine List.Perm.append_left dn ?_
  rw[List.singleton_append]
  exact List.perm_middle.symm
section
variable {α β:Type} {encK:α→Value} {encV:β→Value} {P:Program} {w0:World} {f:Fr} {L:aA} {N:Fr→aA→Prop} {ops:Array Oper} {rest:List Oper} {md:Md}
 {d:Option Tmp} {ty:TypeId} {ps:String} {af:Array Edge} {g:Option (Nat×Bool)}
theorem Ow.rangeMapG {t kt vt:TypeId} {x:Operand} {bm:Nat} {om:Obj} {m:List (α×β)} {md':Md} (he:md.turn=some md') (hs:bA ops f ⟨d, .range t x,ty,ps,af,g⟩=false) (hu:P.underlying t=some (.map kt vt))
  (hx:ev f x=vm bm) (hl:aP w0 L bm=some om) (hm:eF encK encV om m)
  (hn: ∀b o,eS L b→w0.heap.size≤b→ItG encK encV o bm om m [] m→Ow P w0 ops md' rest (aS f d (itv b)) (L++ [(b,o)]) N):
  Ow P w0 ops md (⟨d, .range t x,ty,ps,af,g⟩::rest) f L N:=by
 obtain⟨es,clock,rfl,hI⟩:=ItG.start (bm:=bm) hm
 refine Ow.step he rfl hs fun w hw=> .inl ⟨itv w.heap.size,w.alloc (.mapIter (some bm) clock #[] clock),_, ?_,hw.alloc _,hn _ _ (gh fun b hb=>hw.lt hb) hw.size hI⟩
 have hb:=hw.read hl
 have: (Instr.range t (vm bm)).run P w= .ok (itv w.heap.size) (w.alloc (.mapIter (some bm) clock #[] clock)):=by
  simp only[Instr.range,vm,Sem.run_bind,run_underlying hu w,Result.andThen_ok,p5 hb]
  rfl
 simp only[execOp,Sem.run_bind,hx]
 rw[this];rfl
theorem Ow.nextMapG {x:Operand} {r bm:Nat} {o om:Obj} {m dn lf:List (α×β)} {md':Md} (he:md.turn=some md') (hs:bA ops f ⟨d, .next x false,ty,ps,af,g⟩=false)
  (hx:ev f x=itv r) (hl:look L r=some o) (nI:aP w0 L bm=some om) (hI:ItG encK encV o bm om m dn lf)
  (h0:lf= []→Ow P w0 ops md' rest (aS f d (.tuple #[.bool false])) L N)
  (h1: ∀p o' lf',lf.length=lf'.length+1→ItG encK encV o' bm om m (dn++ [p]) lf'→Ow P w0 ops md' rest (aS f d (.tuple #[.bool true,encK p.1,encV p.2])) (setB L r o') N):
  Ow P w0 ops md (⟨d, .next x false,ty,ps,af,g⟩::rest) f L N:=by
 refine Ow.step he rfl hs fun w hw=> ?_
 have hr:=hw.has _ _ (cO hl)
 have hb:=hw.read nI
 obtain⟨es,clock,ds,rfl,gT,rfl,hd,hm,kF,hp⟩:=hI
 rcases run_next_at (P:=P) w ty r bm clock clock (ds.map (·.born)).toArray es clock hr hb (Tb gT) (Nat.le_refl _) with⟨hz,od⟩ | ⟨e,Zo,w1,aF,od⟩
 ·refine .inl ⟨.tuple #[.bool false],w,L, ?_,hw,h0 ?_⟩
  ·simp only[execOp,Sem.run_bind,hx,itv]
   rw[od];rfl
  ·have: (leftOf es (ds.map (·.born)).toArray).toList= []:=by
    rw[Array.toList_eq_nil_iff];exact Array.eq_empty_of_size_eq_zero hz
   rw[zS] at this
   rw[this] at kF
   exact(List.map_eq_nil_iff.1 kF.symm)
 ·rw[zS] at Zo
  obtain⟨p,lf',hk,aL,l6⟩:=ItG.step (bm:=bm) gT hd hm kF hp Zo rfl
  simp only[kv,gb,Prod.mk.injEq] at hk
  have Xr:Hp w0 L w1:=by rcases aF with rfl|rfl;exact hw;exact hw.drew
  refine .inl ⟨.tuple #[.bool true,encK p.1,encV p.2],ChangeMaps.setBlock w1 r (.mapIter (some bm) clock ((ds.map (·.born)).toArray.push e.born) clock),_, ?_,Xr.set (cJ hl) rfl rfl rfl rfl,h1 p _ lf' aL l6⟩
  simp only[execOp,Sem.run_bind,hx,itv]
  rw[od,hk.1,hk.2];rfl
theorem Ow.entryMapG {x:Operand} {r bm:Nat} {o om:Obj} {m dn lf:List (α×β)} {p:α×β} {md':Md} (he:md.turn=some md') (hs:bA ops f ⟨d, .entry x,ty,ps,af,g⟩=false)
  (hx:ev f x=itv r) (hl:aP w0 L r=some o) (nI:aP w0 L bm=some om) (hI:ItG encK encV o bm om m (dn++ [p]) lf)
  (hn:Ow P w0 ops md' rest (aS f d (.tuple #[encK p.1,encV p.2])) L N):
  Ow P w0 ops md (⟨d, .entry x,ty,ps,af,g⟩::rest) f L N:=by
 refine Ow.step he rfl hs fun w hw=> .inl ⟨_,w,L, ?_,hw,hn⟩
 have hr:=hw.read hl
 have hb:=hw.read nI
 obtain⟨es,clock,ds,rfl,gT,rfl,hd,hm,kF,hp⟩:=hI
 rw[List.map_append,List.map_cons,List.map_nil] at hd
 obtain⟨d1,d2,rfl,-,h2⟩:=List.map_eq_append_iff.1 hd
 obtain⟨e,d3,rfl,h3,h4⟩:=List.map_eq_cons_iff.1 h2
 obtain rfl:=List.map_eq_nil_iff.1 h4
 simp only[kv,gb,Prod.mk.injEq] at h3
 have sW: ((d1++ [e]).map (·.born)).toArray=(d1.map (·.born)).toArray.push e.born:=by simp
 rw[sW] at hr
 have od:=run_entry_at (P:=P) w r bm clock (d1.map (·.born)).toArray es clock e hr hb (hm e (by simp)) (Gh gT)
 simp only[execOp,Sem.run_bind,hx,itv]
 rw[od,h3.1,h3.2];rfl
end
theorem Kf (l:List UInt8):Instr.sameBits 10000 (.agg (a8 l)) (.agg (a8 l))=true:=by
 show Instr.sameBits (9999+1) _ _=true
 unfold Instr.sameBits
 simp only[beq_self_eq_true,Bool.true_and,List.all_eq_true]
 intro p hp
 obtain⟨i,hi,rfl⟩:=List.getElem_of_mem hp
 rw[List.getElem_zip]
 simp[a8,Instr.sameBits]
theorem J1 {P:Program} {t e:TypeId} {n:Nat} (hu:P.underlying t=some (.array n e)) (he:P.underlying e=some (.int .u8)) (hm:aM P e=some (false,1)) (l l':List UInt8) (hl:l.length=n) (lG:l'.length=n) (w:World):
  (Op.equal t (.agg (a8 l)) (.agg (a8 l'))).run P w= .ok (l==l') w:=
 By P 8 9992 t _ _ _ (uS (d:=6) hu he hm l l' hl lG) w
theorem VR_ {P:Program} {t e:TypeId} {n:Nat} (hu:P.underlying t=some (.array n e)) (he:P.underlying e=some (.int .u8)) (hm:aM P e=some (false,1)) (l:List UInt8) (hl:l.length=n) (em:Bool) (w:World):
  (Instr.checkKey em 10000 t (.agg (a8 l))).run P w= .ok () w:=by
 show(Instr.checkKey em (9999+1) t (.agg (a8 l))).run P w= .ok () w
 rw[Instr.checkKey]
 simp only[Sem.run_bind,run_underlying hu,Result.andThen_ok]
 simp only[Std.Legacy.Range.forIn_eq_forIn_range',Std.Legacy.Range.size,Nat.sub_zero,Nat.add_one_sub_one,Nat.div_one]
 have each: ∀j,j∈List.range' 0 n→j<l.length:=by
  intro j hj
  rw[List.mem_range'] at hj
  obtain⟨i,hi,rfl⟩:=hj
  omega
 generalize List.range' 0 n=is at each
 induction is with
 |nil=>simp
 |cons j is ih=>
  have hj:=each j (by simp)
  have p1: (part e (a8 l) (j*1)).run P w= .ok (v8 (l.getD j 0)) w:=by
   refine p9 hm ?_ w
   simp[partV,a8,v8,hj]
  have p2: (Instr.checkKey em 9999 e (v8 (l.getD j 0))).run P w= .ok () w:=by
   show(Instr.checkKey em (9998+1) e (v8 (l.getD j 0))).run P w= .ok () w
   rw[Instr.checkKey]
   simp only[Sem.run_bind,run_underlying he,Result.andThen_ok,v8]
   rfl
  simp only[List.forIn_cons,Sem.run_bind,gO hm w,Result.andThen_ok,p1,p2,Sem.run_pure]
  exact ih (fun y hy=>each y (by simp[hy]))
theorem N2 {n:Nat} {e:TypeId} (x:Value): ∀ (es:List MapEntry) (i:Nat),es≠ []→Instr.findNow (.array n e) x es i=none
 | [],_,h=>absurd rfl h
 |_::_,_,_=>by cases x<;>rfl
theorem ZE {α β:Type} [BEq α] {P:Program} {kt:TypeId} {encK:α→Value} {encV:β→Value} (he: ∀a b w,(Op.equal kt (encK a) (encK b)).run P w= .ok (a==b) w) (w:World) (k:α): ∀ (es:List MapEntry) (m:List (α×β)) (i:Nat),es.map (fun e=>(e.key,e.val))=m.map (gb encK encV)→
  (Instr.findAsking kt (encK k) es i).run P w= .ok ((gB k m i).map fun p=>(p.1,encV p.2)) w
 | [],[],_,_=>rfl
 | [],_::_,_,h=>by cases h
 |_::_,[],_,h=>by cases h
 |e::es,p::m,i,h=>by
  simp only[List.map_cons,List.cons.injEq,gb,Prod.mk.injEq] at h
  obtain⟨⟨h1,h2⟩,h3⟩:=h
  unfold Instr.findAsking gB
  rw[Sem.run_bind,h1,he]
  simp only[Result.andThen_ok]
  cases hk: (k==p.1)
  ·simp only[Bool.false_eq_true, ↓reduceIte]
   exact ZE he w k es m (i+1) h3
  ·simp[h2]
theorem KeyOk.arr {α:Type} [BEq α] {P:Program} {kt e:TypeId} {n:Nat} (hu:P.underlying kt=some (.array n e)) (he:P.underlying e=some (.int .u8)) (hm:aM P e=some (false,1)) (bs:α→List UInt8) (hb: ∀a,(bs a).length=n) (hq: ∀a b,(bs a==bs b)=(a==b)):
  KeyOk P kt (fun a:α=> .agg (a8 (bs a))) where
 find encV w k es m h:=by
  cases es with
  |nil=>
   cases m with
   |nil=>simp only[Instr.findKey,Sem.run_bind,run_underlying hu w,Result.andThen_ok];rfl
   |cons=>cases h
  |cons e0 es=>
   simp only[Instr.findKey,Sem.run_bind,run_underlying hu w,Result.andThen_ok]
   rw[N2 _ _ _ (by simp)]
   exact ZE (encK:=fun a:α=> .agg (a8 (bs a))) (fun a b w=>by rw[J1 hu he hm _ _ (hb a) (hb b) w,hq]) w k _ m 0 h
 check w e k:=VR_ hu he hm _ (hb k) e w
 bits k:=Kf _
section
variable {α β:Type} [BEq α] [LawfulBEq α] {encK:α→Value} {encV:β→Value} {P:Program} {w0:World} {f:Fr} {L:aA} {N:Fr→aA→Prop} {ops:Array Oper} {rest:List Oper} {md:Md}
 {d:Option Tmp} {ty:TypeId} {ps:String} {af:Array Edge} {g:Option (Nat×Bool)}
omit [LawfulBEq α] in
end
end Go.Sx
namespace Go.Sx
open Go
theorem KeyOk.str {P:Program} {kt:TypeId} (hu:P.underlying kt=some .string):KeyOk P kt vs where
 find encV w k es m h:=by
  simp only[Instr.findKey,Sem.run_bind,run_underlying hu w,Result.andThen_ok]
  rw[HQ (encK:=vs) (fun a b=>by simp only[vs,Instr.sameNow,nj]) k es m 0 h]
  rfl
 check w e k:=by
  unfold Instr.checkKey
  simp only[Sem.run_bind,run_underlying hu w,Result.andThen_ok,vs]
  rfl
 bits k:=by simp only[vs,Instr.sameBits,nj,beq_self_eq_true]
section
variable {α β:Type} [BEq α] [LawfulBEq α]
def delG (k:α):List (α×β)→List (α×β)
 | []=> []
 |p::r=>if k==p.1 then r else p::delG k r
variable {encK:α→Value} {encV:β→Value}
omit [LawfulBEq α] in
theorem Be (k:α): ∀ (m:List (α×β)) (i j:Nat) (a:β),gB k m i=some (j,a)→i≤j
 | [],_,_,_,h=>by cases h
 |p::r,i,j,a,h=>by
  unfold gB at h
  split at h
  ·cases h;exact Nat.le_refl _
  ·have:=Be k r (i+1) j a h;omega
omit [LawfulBEq α] in
theorem A7 (k:α): ∀ (es:List MapEntry) (m:List (α×β)) (i j:Nat) (a:β),es.map (fun e=>(e.key,e.val))=m.map (gb encK encV)→gB k m i=some (j,a)→
  (es.eraseIdx (j - i)).map (fun e=>(e.key,e.val))=(delG k m).map (gb encK encV)
 | [],[],_,_,_,_,h=>by cases h
 | [],_::_,_,_,_,h,_=>by cases h
 |_::_,[],_,_,_,h,_=>by cases h
 |e::es,p::m,i,j,a,h,hf=>by
  simp only[List.map_cons,List.cons.injEq] at h
  obtain⟨h1,h3⟩:=h
  unfold gB at hf
  unfold delG
  split at hf
  ·rename_i hk
   cases hf
   rw[if_pos hk,Nat.sub_self]
   exact h3
  ·rename_i hk
   have dN:=Be k m (i+1) j a hf
   rw[if_neg hk,show j - i=(j - (i+1))+1 by omega]
   simp only[List.eraseIdx_cons_succ,List.map_cons]
   rw[A7 k es m (i+1) j a h3 hf,h1]
omit [LawfulBEq α] in
theorem zQ (k:α): ∀ (m:List (α×β)) (i:Nat),gB k m i=none→delG k m=m
 | [],_,_=>rfl
 |p::r,i,h=>by
  unfold gB at h
  split at h
  ·cases h
  ·rename_i hk
   unfold delG
   rw[if_neg hk,zQ k r (i+1) h]
variable {P:Program} {w0:World} {f:Fr} {L:aA} {N:Fr→aA→Prop} {ops:Array Oper} {rest:List Oper} {md:Md}
 {d:Option Tmp} {ty:TypeId} {ps:String} {af:Array Edge} {g:Option (Nat×Bool)}
omit [LawfulBEq α] in
theorem Ow.mapDeleteG {t kt vt:TypeId} {x y:Operand} {t2:TypeId} {b:Nat} {o:Obj} {m:List (α×β)} {k:α} {md':Md} (he:md.turn=some md') (hs:bA ops f ⟨d, .call ⟨.builtin .delete, #[x,y], #[t,t2]⟩,ty,ps,af,g⟩=false) (hu:P.underlying t=some (.map kt vt)) (hk:KeyOk P kt encK)
  (hx:ev f x=vm b) (hy:ev f y=encK k) (hl:look L b=some o) (hm:eF encK encV o m)
  (hn: ∀o',eF encK encV o' (delG k m)→Ow P w0 ops md' rest (aS f d (.tuple #[])) (setB L b o') N):
  Ow P w0 ops md (⟨d, .call ⟨.builtin .delete, #[x,y], #[t,t2]⟩,ty,ps,af,g⟩::rest) f L N:=by
 obtain⟨es,c,rfl,iO,gT⟩:=hm
 refine Ow.step he rfl hs fun w hw=> ?_
 have hb:=hw.has _ _ (cO hl)
 have ft:=hk.find encV w k es.toList m iO
 cases hf:gB k m 0 with
 |none=>
  rw[hf] at ft
  refine .inl ⟨.tuple #[],{w with heap:=w.heap.setIfInBounds b (.map es c)},_, ?_,hw.set (cJ hl) rfl rfl rfl rfl,hn _ ⟨es,c,rfl,by rw[zQ k m 0 hf];exact iO,gT⟩⟩
  have: (Builtin.delete_ #[t,t2] ty #[vm b,encK k]).run P w= .ok (.tuple #[]) {w with heap:=w.heap.setIfInBounds b (.map es c)}:=by
   simp only[Builtin.delete_,vm,List.getElem?_toArray,List.getElem?_cons_zero,List.getElem?_cons_succ,Sem.run_bind,run_underlying hu w,Result.andThen_ok,p5 hb,hk.check,ft,Option.map_none,wT hb]
   rfl
  simp only[execOp,resolve,Sem.run_bind,Sem.run_pure,Result.andThen_ok,invoke,builtin,List.map_toArray,List.map_cons,List.map_nil,hx,hy]
  rw[this];rfl
 |some p=>
  obtain⟨j,a⟩:=p
  rw[hf] at ft
  refine .inl ⟨.tuple #[],{w with heap:=w.heap.setIfInBounds b (.map (es.eraseIdxIfInBounds j) c)},_, ?_,hw.set (cJ hl) rfl rfl rfl rfl,hn _ ⟨_,c,rfl, ?_,by rw[Array.toList_eraseIdxIfInBounds];exact MX gT⟩⟩
  ·have: (Builtin.delete_ #[t,t2] ty #[vm b,encK k]).run P w= .ok (.tuple #[]) {w with heap:=w.heap.setIfInBounds b (.map (es.eraseIdxIfInBounds j) c)}:=by
    simp only[Builtin.delete_,vm,List.getElem?_toArray,List.getElem?_cons_zero,List.getElem?_cons_succ,Sem.run_bind,run_underlying hu w,Result.andThen_ok,p5 hb,hk.check,ft,Option.map_some,wT hb]
    rfl
   simp only[execOp,resolve,Sem.run_bind,Sem.run_pure,Result.andThen_ok,invoke,builtin,List.map_toArray,List.map_cons,List.map_nil,hx,hy]
   rw[this];rfl
  ·have:=A7 (encK:=encK) (encV:=encV) k es.toList m 0 j a iO hf
   rw[Nat.sub_zero] at this
   rw[←this]
   simp
omit [BEq α] [LawfulBEq α] in
theorem Ow.mapClearG {t kt vt:TypeId} {x:Operand} {b:Nat} {o:Obj} {m:List (α×β)} {md':Md} (he:md.turn=some md') (hs:bA ops f ⟨d, .call ⟨.builtin .clear, #[x], #[t]⟩,ty,ps,af,g⟩=false) (hu:P.underlying t=some (.map kt vt))
  (hx:ev f x=vm b) (hl:look L b=some o) (hm:eF encK encV o m)
  (hn: ∀o',eF encK encV o' []→Ow P w0 ops md' rest (aS f d (.tuple #[])) (setB L b o') N):
  Ow P w0 ops md (⟨d, .call ⟨.builtin .clear, #[x], #[t]⟩,ty,ps,af,g⟩::rest) f L N:=by
 obtain⟨es,c,rfl,iO,gT⟩:=hm
 refine Ow.step he rfl hs fun w hw=> ?_
 have hb:=hw.has _ _ (cO hl)
 refine .inl ⟨.tuple #[],{w with heap:=w.heap.setIfInBounds b (.map #[] c)},_, ?_,hw.set (cJ hl) rfl rfl rfl rfl,hn _ ⟨#[],c,rfl,rfl,List.pairwise_singleton _ _⟩⟩
 have: (Builtin.clear_ #[t] ty #[vm b]).run P w= .ok (.tuple #[]) {w with heap:=w.heap.setIfInBounds b (.map #[] c)}:=by
  simp only[Builtin.clear_,vm,List.getElem?_toArray,List.getElem?_cons_zero,Sem.run_bind,run_underlying hu w,Result.andThen_ok,p5 hb,wT hb]
  rfl
 simp only[execOp,resolve,Sem.run_bind,Sem.run_pure,Result.andThen_ok,invoke,builtin,List.map_toArray,List.map_cons,List.map_nil,hx]
 rw[this];rfl
end
section
variable {P:Program} {w0:World} {f:Fr} {L:aA} {N:Fr→aA→Prop} {ops:Array Oper} {rest:List Oper} {md:Md}
 {d:Option Tmp} {ty:TypeId} {ps:String} {af:Array Edge} {g:Option (Nat×Bool)}
theorem Ow.ifaceMap {t kt vt:TypeId} {x:Operand} {v:Value} (hs:bA ops f ⟨d, .makeInterface t x,ty,ps,af,g⟩=false) (hu:P.underlying t=some (.map kt vt)) (hx:ev f x=v)
  (hn:Ow P w0 ops md.next rest (aS f d (.iface t v)) L N):Ow P w0 ops md (⟨d, .makeInterface t x,ty,ps,af,g⟩::rest) f L N:=by
 refine Ow.calm rfl rfl hs (fun w hw=> .inl ⟨.iface t v,w,L, ?_,hw,rfl,rfl⟩) hn
 simp only[execOp,Instr.makeInterface,Sem.run_bind,run_underlying hu w,Result.andThen_ok,hx]
 rfl
theorem Ow.assertMap {t kt vt xt:TypeId} {x:Operand} {v:Value} (hs:bA ops f ⟨d, .typeAssert x xt t false,ty,ps,af,g⟩=false) (hu:P.underlying t=some (.map kt vt)) (hx:ev f x= .iface t v)
  (hn:Ow P w0 ops md.next rest (aS f d v) L N):Ow P w0 ops md (⟨d, .typeAssert x xt t false,ty,ps,af,g⟩::rest) f L N:=by
 refine Ow.calm rfl rfl hs (fun w hw=> .inl ⟨v,w,L, ?_,hw,rfl,rfl⟩) hn
 simp only[execOp,Instr.typeAssert,Sem.run_bind,run_underlying hu w,Result.andThen_ok,hx, ↓reduceIte]
 rfl
theorem Ow.cloneMap {α β:Type} {encK:α→Value} {encV:β→Value} {x:Operand} {ts:Array TypeId} {k:FuncId} {it:TypeId} {b:Nat} {o:Obj} {m:List (α×β)} {md':Md} (he:md.turn=some md')
  (hs:bA ops f ⟨d, .call ⟨.value (.func k), #[x],ts⟩,ty,ps,af,g⟩=false)
  (hk: ∀a w,(callFunc k #[a]).run P w=((Extern.MapsClone.clone #[a]).run P w).andThen fun v w=> .ok (.value v) w)
  (hx:ev f x= .iface it (vm b)) (hl:aP w0 L b=some o) (hm:eF encK encV o m)
  (hn: ∀c o',eS L c→w0.heap.size≤c→eF encK encV o' m→Ow P w0 ops md' rest (aS f d (.iface it (vm c))) (L++ [(c,o')]) N):
  Ow P w0 ops md (⟨d, .call ⟨.value (.func k), #[x],ts⟩,ty,ps,af,g⟩::rest) f L N:=by
 obtain⟨es,c,rfl,iO,gT⟩:=hm
 refine Ow.step he rfl hs fun w hw=> .inl ⟨.iface it (vm w.heap.size),w.alloc (.map es c),_, ?_,hw.alloc _,hn _ _ (gh fun b hb=>hw.lt hb) hw.size ⟨es,c,rfl,iO,gT⟩⟩
 have hb:=hw.read hl
 have hA:Array.map (ev f) #[x]= #[.iface it (vm b)]:=by simp[hx]
 have h: (callFunc k #[.iface it (vm b)]).run P w= .ok (.value (.iface it (vm w.heap.size))) (w.alloc (.map es c)):=by
  rw[hk]
  have hc:Extern.MapsClone.clone #[.iface it (vm b)]=(getObj b>>=fun o=>match o with| .map es c=>(newObj (.map es c)>>=fun r=>pure (.iface it (.map (some r)))) |_=>stuck "maps.clone: a map expected"):=rfl
  rw[hc,Sem.run_bind,p5 hb]
  rfl
 simp only[execOp,resolve,Deferred.ofValue,Bh,Sem.run_bind,Sem.run_pure,Result.andThen_ok,invoke,hA]
 simpa using h
end
end Go.Sx
namespace Go.Sx
open Go
theorem Hp.later {w0 w1 w2:World} {L D:aA} (h:Hp w0 L w1) (k:Hp w1 D w2) (hD:New w1.heap.size D):Hp w0 (L++D) w2:=
 Mrg.fresh hD.le w1 w2 rfl h k
theorem Ow.world {P:Program} {w0:World} {ops:Array Oper} {l:List Oper} {f:Fr} {L:aA} {N:Fr→aA→Prop} (h: ∀w,Hp w0 L w→Ow P w0 ops .seq l f L N):Ow P w0 ops .seq l f L N:=fun w hw=>h w hw w hw
theorem Rets.chunk {P:Program} {k:FuncId} {args:Array Value} {w:World} {S:Value→Obj→Prop} {X:aA} {b:Nat} (hX: ∀p,p∈X→w.heap[p.1]? =some p.2) (hn: (keys X).Nodup) (hb:b∈keys X)
  (h:Rets P k args w (fun v D=> ∃o,D= [(b,o)]∧S v o)):Rets P k args w (XS w X (fun v D=> ∃o,D=setB X b o∧S v o)):=
 Calls.mono h fun e w' ⟨v,D,he,hp,o,hD,hS⟩=>⟨v,setB X b o,he,by subst hD;exact Mrg.set hb w w' rfl ((Hp.refl w).ownX hX hn) hp,(Ext.refl w X).setB,o,rfl,hS⟩
theorem Rets.toX {P:Program} {k:FuncId} {a:Array Value} {w:World} {S:Value→Prop} (h:Rets P k a w (fun v D=>S v∧D= [])):Rets P k a w (XS w [] (fun v D=>D= []∧S v)):=
 h.mono fun v D ⟨h1,h2⟩=>⟨by subst h2;exact Ext.refl w [],h2,h1⟩
theorem Gr.rowL {α:Type} {m:Nat} {enc:α→List Value} {z:α} {w0 w:World} {v:Value} {l:List α} {L:aA} {E:TypeId} {n:Nat} (h:Gr L E m v n (l.map enc).flatten) (hn:l.length=n) (hw:Hp w0 L w) (hm: ∀x,(enc x).length=m):
  ∃b off arr F fz,RowS m enc z w v l b off arr F fz∧(0<l.length→look L b=some (.cells arr F fz)):=by
 obtain⟨b,off,c,arr,F,fz,hr,hc,⟨rfl,rfl,rfl⟩ | ⟨rfl,hb,g5⟩⟩:=h.slV (z:=z) hw hn rfl hm
 ·exact⟨b,off,arr,F,fz,hr,fun h0=>absurd h0 (by simp)⟩
 ·refine⟨b,off,arr,F,fz,hr,fun _=> ?_⟩
  obtain⟨o,ho⟩:=F6 (h.key (b:=b) rfl)
  have:=hw.has _ _ (cO ho)
  rw[hb] at this
  rw[ho,this]
theorem GrI.rowL {α:Type} {m:Nat} {enc:α→List Value} {z:α} {w0 w:World} {v:Value} {l:List α} {D:aA} {E:TypeId} {n:Nat} (h:GrI D E m v n (l.map enc).flatten) (hn:l.length=n) (hw:Hp w0 D w) (hm: ∀x,(enc x).length=m):
  ∃b off arr F fz,RowS m enc z w v l b off arr F fz∧(0<l.length→look D b=some (.cells arr F fz)):=by
 obtain⟨X,hX,h⟩:=h
 obtain⟨b,off,c,arr,F,fz,hr,hc,⟨rfl,rfl,rfl⟩ | ⟨rfl,hb,g5⟩⟩:=h.slM (z:=z) (fun b o hm=>hw.has b o (hX _ hm)) hn rfl hm
 ·exact⟨b,off,arr,F,fz,hr,fun h0=>absurd h0 (by simp)⟩
 ·refine⟨b,off,arr,F,fz,hr,fun _=> ?_⟩
  obtain⟨o,ho⟩:=F6 (h.key (b:=b) rfl)
  have hm:=hX _ (cO ho)
  have:=hw.has _ _ hm
  rw[hb] at this
  rw[Gc hw.nodup hm,this]
end Go.Sx
section
namespace Go.Sx
open Go
set_option maxRecDepth 100000
set_option linter.defProp false
def S0:=And.intro (And.intro (And.intro (And.intro (And.intro (And.intro (@Rk) (And.intro (@SO) (@TW))) (And.intro (@Rx) (And.intro (@OE) (@Rf)))) (And.intro (And.intro (@QC) (And.intro (@Qk) (@Ky))) (And.intro (And.intro (@Ii) (@IB)) (And.intro (@Pu) (@ID))))) (And.intro (And.intro (And.intro (@NR) (And.intro (@RC) (@Ls))) (And.intro (And.intro (@QA) (@Il)) (And.intro (@TG) (@Tx)))) (And.intro (And.intro (@Of) (And.intro (@K5) (@Nf))) (And.intro (And.intro (@UB) (@OG)) (And.intro (@Wj_) (@IF)))))) (And.intro (And.intro (And.intro (And.intro (@Qz) (And.intro (@O2) (@Ri))) (And.intro (@N5) (And.intro (@Pq) (@T8)))) (And.intro (And.intro (@UN) (And.intro (@XJ_) (@Z2_))) (And.intro (And.intro (@Kl) (@Mq)) (And.intro (@IV) (@Q8))))) (And.intro (And.intro (And.intro (@RT) (And.intro (@MG) (@JZ_))) (And.intro (And.intro (@K2) (@WG_)) (And.intro (@PI) (@QK)))) (And.intro (And.intro (@UL) (And.intro (@QO) (@d9))) (And.intro (And.intro (@Rh) (@Od)) (And.intro (@Bh) (@cu))))))) (And.intro (And.intro (And.intro (And.intro (And.intro (@d8) (And.intro (@aj) (@ai))) (And.intro (@LT) (And.intro (@Wi_) (@RS)))) (And.intro (And.intro (@RR) (And.intro (@PO) (@MS))) (And.intro (And.intro (@S6) (@O0)) (And.intro (@Pl) (@SU))))) (And.intro (And.intro (And.intro (@Qr) (And.intro (@OI) (@PM))) (And.intro (And.intro (@RA) (@SN)) (And.intro (@RF) (@Ti)))) (And.intro (And.intro (@OZ) (And.intro (@QZ) (@Ql))) (And.intro (And.intro (@R5) (@Tr)) (And.intro (@PB) (@Qn)))))) (And.intro (And.intro (And.intro (And.intro (@QF) (And.intro (@N0) (@PU))) (And.intro (And.intro (@Rb) (@Ov)) (And.intro (@Nl) (@T2)))) (And.intro (And.intro (@Ta) (And.intro (@U6) (@T9))) (And.intro (And.intro (@UA) (@Sc)) (And.intro (@Ru) (@RE))))) (And.intro (And.intro (And.intro (@QQ) (And.intro (@R3) (@Sd))) (And.intro (And.intro (@QS) (@Qs)) (And.intro (@Td) (@R2)))) (And.intro (And.intro (@Vq) (And.intro (@VY) (@UV))) (And.intro (And.intro (@Uy) (@RG)) (And.intro (@Nd) (@Ng)))))))
def S1:=And.intro (And.intro (And.intro (And.intro (And.intro (And.intro (And.intro (And.intro (@Rj) (@U3)) (And.intro (@Tn) (And.intro (@UZ) (@TL)))) (And.intro (And.intro (@VQ) (@ry)) (And.intro (@s8) (And.intro (@EY) (@PJ))))) (And.intro (And.intro (And.intro (@Mm) (@K7)) (And.intro (@RV) (And.intro (@JH) (@SY)))) (And.intro (And.intro (@Rt) (@beq_true)) (And.intro (@beq_false) (And.intro (@Bool.not_true) (@Bool.not_false)))))) (And.intro (And.intro (And.intro (And.intro (@Md.next_seq) (@Md.next_any)) (And.intro (@Md.next_qui) (And.intro (@Md.next_sof) (@Ke)))) (And.intro (And.intro (@Kq) (@Je)) (And.intro (@WD_) (And.intro (@Wl_) (@WH_))))) (And.intro (And.intro (And.intro (@Ug) (@TA)) (And.intro (@SV) (And.intro (@Qx) (@Qh)))) (And.intro (And.intro (@Vc) (And.intro (@Sw) (@UR))) (And.intro (@SF) (And.intro (@Tu) (@To))))))) (And.intro (And.intro (And.intro (And.intro (And.intro (@MJ) (@O4)) (And.intro (@Mj) (And.intro (@OB) (@OO)))) (And.intro (And.intro (@Nx) (@MZ)) (And.intro (@FM) (And.intro (@NO) (@NP))))) (And.intro (And.intro (And.intro (@NX) (@Mk)) (And.intro (@Nz) (And.intro (@MP) (@Oz)))) (And.intro (And.intro (@JZ) (And.intro (@Y5) (@N1))) (And.intro (@IK) (And.intro (@IL) (@Z9)))))) (And.intro (And.intro (And.intro (And.intro (@Z8) (@IH)) (And.intro (@IM) (And.intro (@Ml) (@WB_)))) (And.intro (And.intro (@WJ_) (@Js)) (And.intro (@Wx_) (And.intro (@Wc_) (@Lk))))) (And.intro (And.intro (And.intro (@V6_) (@Wh_)) (And.intro (@K8) (And.intro (@Km) (@KL)))) (And.intro (And.intro (@Kz) (And.intro (@Jh) (@Na))) (And.intro (@LW) (And.intro (@KJ) (@Lx)))))))) (And.intro (And.intro (And.intro (And.intro (And.intro (And.intro (@Jn) (@KG)) (And.intro (@KE) (And.intro (@M0) (@Jo)))) (And.intro (And.intro (@LN) (@Nr)) (And.intro (@JQ) (And.intro (@ZD) (@LL))))) (And.intro (And.intro (And.intro (@V5_) (@VZ_)) (And.intro (@YM) (And.intro (@YP) (@V4_)))) (And.intro (And.intro (@WK_) (And.intro (@Le) (@KW_))) (And.intro (@VE_) (And.intro (@K3) (@Ka_)))))) (And.intro (And.intro (And.intro (And.intro (@KA_) (@Id)) (And.intro (@KV_) (And.intro (@KF_) (@JV)))) (And.intro (And.intro (@Kd) (@LM)) (And.intro (@Jt) (And.intro (@M4) (@Nv))))) (And.intro (And.intro (And.intro (@LG) (@EL)) (And.intro (@EI) (And.intro (@KB) (@Ki)))) (And.intro (And.intro (@JY) (And.intro (@Ja) (@Jw))) (And.intro (@M5) (And.intro (@Mg) (@J0))))))) (And.intro (And.intro (And.intro (And.intro (And.intro (@ZI) (@M6)) (And.intro (@Wr_) (And.intro (@Wu_) (@YN)))) (And.intro (And.intro (@YU) (@WL_)) (And.intro (@WF_) (And.intro (@Lu) (@Ki_))))) (And.intro (And.intro (And.intro (@K4_) (@Im)) (And.intro (@VK_) (And.intro (@VL_) (@J6)))) (And.intro (And.intro (@VP_) (And.intro (@Vs_) (@Ij))) (And.intro (@KO) (And.intro (@Jv) (@LB)))))) (And.intro (And.intro (And.intro (And.intro (@KS) (@MY)) (And.intro (@LE) (And.intro (@LP) (@KQ)))) (And.intro (And.intro (@KA) (@KU)) (And.intro (@Lf) (And.intro (@KY) (@Lp))))) (And.intro (And.intro (And.intro (@Ks) (@MA)) (And.intro (@JG) (And.intro (@Z6) (@M2)))) (And.intro (And.intro (@Wd_) (And.intro (@Wp_) (@YT))) (And.intro (@YK) (And.intro (@Wz_) (@V2_))))))))) (And.intro (And.intro (And.intro (And.intro (And.intro (And.intro (And.intro (@LO) (@Va_)) (And.intro (@Vc_) (And.intro (@Ip) (@VW_)))) (And.intro (And.intro (@KG_) (@JL)) (And.intro (@VV_) (And.intro (@Kq_) (@In))))) (And.intro (And.intro (And.intro (@NT) (@OH)) (And.intro (@yq) (And.intro (@ON) (@Pn)))) (And.intro (And.intro (@P2) (And.intro (@Q7) (@OY))) (And.intro (@Oo) (And.intro (@PZ) (@OW)))))) (And.intro (And.intro (And.intro (And.intro (@Ro) (@V7)) (And.intro (@J8) (And.intro (@Pp) (@P7)))) (And.intro (And.intro (@P4) (@Oj)) (And.intro (@Qq) (And.intro (@Pv) (@PD))))) (And.intro (And.intro (And.intro (@TD) (@Pj)) (And.intro (@Tl) (And.intro (@Ji) (@It)))) (And.intro (And.intro (@ZN) (And.intro (@Ud) (@Un))) (And.intro (@S4) (And.intro (@NJ) (@Lb))))))) (And.intro (And.intro (And.intro (And.intro (And.intro (@Kn) (@Lz)) (And.intro (@Mc) (And.intro (@UF) (@UO)))) (And.intro (And.intro (@Qp) (@Jr)) (And.intro (@JM) (And.intro (@J7) (@JJ))))) (And.intro (And.intro (And.intro (@M3) (@UK)) (And.intro (@Tq) (And.intro (@Pt) (@Li)))) (And.intro (And.intro (@JO) (And.intro (@JE) (@Ie))) (And.intro (@Lr) (And.intro (@TZ) (@Ts)))))) (And.intro (And.intro (And.intro (And.intro (@Q9) (@Jm)) (And.intro (@JD) (And.intro (@JW) (@JS)))) (And.intro (And.intro (@LF) (@V5)) (And.intro (@UU) (And.intro (@Qj) (@NL))))) (And.intro (And.intro (And.intro (@Kh) (@KP)) (And.intro (@La) (And.intro (@N9) (@SQ)))) (And.intro (And.intro (@QG) (And.intro (@IW) (@TP))) (And.intro (@LR) (And.intro (@YR) (@Ef)))))))) (And.intro (And.intro (And.intro (And.intro (And.intro (And.intro (@VD) (@Sn)) (And.intro (@Uf) (And.intro (@Uh) (@I8)))) (And.intro (And.intro (@WE_) (@ii)) (And.intro (@p4) (And.intro (@rn) (@wU))))) (And.intro (And.intro (And.intro (@pq) (@H1)) (And.intro (@QJ) (And.intro (@R9) (@BK)))) (And.intro (And.intro (@QI) (And.intro (@Hh) (@N6))) (And.intro (@EV) (And.intro (@O5) (@KR)))))) (And.intro (And.intro (And.intro (And.intro (@QP) (@OK)) (And.intro (@xn) (And.intro (@QU) (@Po)))) (And.intro (And.intro (@PG) (@Uv)) (And.intro (@Uw) (And.intro (@Option.map_some.{0,0}) (@Option.map_none.{0,0}))))) (And.intro (And.intro (And.intro (@IS) (@I6)) (And.intro (@JK_) (And.intro (@MI) (@IY)))) (And.intro (And.intro (@IA) (And.intro (@I7) (@RZ))) (And.intro (@RP) (And.intro (@or_i) (@Vl))))))) (And.intro (And.intro (And.intro (And.intro (And.intro (@I5) (@IZ)) (And.intro (@Wf_) (And.intro (@aV) (@List.cons_append.{0})))) (And.intro (And.intro (@List.nil_append.{0}) (@List.contains_cons.{0})) (And.intro (@List.contains_nil.{0}) (And.intro (@Bool.or_false) (@Bool.false_or))))) (And.intro (And.intro (And.intro (@Bool.or_true) (@Bool.true_or)) (And.intro (@Bool.false_eq_true) (And.intro (@zJ) (@Yi)))) (And.intro (And.intro (@yU) (And.intro (@At) (@PT))) (And.intro (@Nat.add_sub_cancel_left) (And.intro (@List.set_set.{0}) (@Int.toNat_natCast)))))) (And.intro (And.intro (And.intro (And.intro (@Nat.mul_one) (@Nat.zero_add)) (And.intro (@Nat.add_zero) (And.intro (@ge_iff_le.{0}) (@gt_iff_lt.{0})))) (And.intro (And.intro (@beq_self_eq_true.{0}) (@VB)) (And.intro (@VP) (And.intro (@qq) (@qr))))) (And.intro (And.intro (And.intro (@CX) (@Ch)) (And.intro (@Cb) (And.intro (@CU) (@VF)))) (And.intro (And.intro (@VN) (And.intro (@TT) (@Tf))) (And.intro (@V1) (And.intro (@Se) (@Sj)))))))))
end Go.Sx
end
section
open Go Go.Proofs Go.Sx
namespace Go.Proofs
theorem Tryz.ix24:ixT Tryz.prog 24= .sl (false,1):=id (by kernel_rfl)
theorem Tryz.ix23:ixT Tryz.prog 23= .sl (true,6):=id (by kernel_rfl)
theorem Tryz.ix22:ixT Tryz.prog 22= .sl (true,3):=id (by kernel_rfl)
theorem Tryz.ix9:ixT Tryz.prog 9= .str:=id (by kernel_rfl)
theorem Tryz.ix71:ixT Tryz.prog 71= .sl (true,4):=id (by kernel_rfl)
theorem Tryz.ix72:ixT Tryz.prog 72= .sl (false,1):=id (by kernel_rfl)
theorem Tryz.ix93:ixT Tryz.prog 93= .sl (true,5):=id (by kernel_rfl)
theorem Tryz.ix94:ixT Tryz.prog 94= .sl (true,2):=id (by kernel_rfl)
theorem Tryz.ix106:ixT Tryz.prog 106= .sl (true,32):=id (by kernel_rfl)
theorem Tryz.ix131:ixT Tryz.prog 131= .arr 3 (false,1):=id (by kernel_rfl)
theorem Tryz.ix128:ixT Tryz.prog 128= .sl (false,1):=id (by kernel_rfl)
theorem Tryz.ix58:ixT Tryz.prog 58= .sl (true,2):=id (by kernel_rfl)
theorem Tryz.ix57:ixT Tryz.prog 57= .arr 3 (true,3):=id (by kernel_rfl)
theorem Tryz.ix54:ixT Tryz.prog 54= .sl (true,4):=id (by kernel_rfl)
theorem Tryz.ix53:ixT Tryz.prog 53= .sl (true,2):=id (by kernel_rfl)
theorem Tryz.ix84:ixT Tryz.prog 84= .arr 32 (false,1):=id (by kernel_rfl)
theorem Tryz.ix196:ixT Tryz.prog 196= .sl (false,1):=id (by kernel_rfl)
theorem Tryz.ix209:ixT Tryz.prog 209= .arr 4 (false,1):=id (by kernel_rfl)
theorem Tryz.ix218:ixT Tryz.prog 218= .arr 64 (false,1):=id (by kernel_rfl)
theorem Tryz.ix168:ixT Tryz.prog 168= .sl (true,34):=id (by kernel_rfl)
theorem Tryz.ix227:ixT Tryz.prog 227= .arr 8 (false,1):=id (by kernel_rfl)
theorem Tryz.ix200:ixT Tryz.prog 200= .sl (false,1):=id (by kernel_rfl)
theorem Tryz.ix236:ixT Tryz.prog 236= .arr 6 (false,1):=id (by kernel_rfl)
theorem Tryz.ix255:ixT Tryz.prog 255= .arr 8 (false,1):=id (by kernel_rfl)
theorem Tryz.ix256:ixT Tryz.prog 256= .arr 64 (false,1):=id (by kernel_rfl)
theorem Tryz.ix260:ixT Tryz.prog 260= .sl (true,3):=id (by kernel_rfl)
theorem Tryz.ix269:ixT Tryz.prog 269= .arr 4 (false,1):=id (by kernel_rfl)
theorem Tryz.ix294:ixT Tryz.prog 294= .arr 16 (false,1):=id (by kernel_rfl)
theorem Tryz.ix297:ixT Tryz.prog 297= .sl (true,2):=id (by kernel_rfl)
theorem Tryz.ag31:aM Tryz.prog 31=some (true,6):=id (by kernel_rfl)
theorem Tryz.ag3:aM Tryz.prog 3=some (false,1):=id (by kernel_rfl)
theorem Tryz.ag36:aM Tryz.prog 36=some (true,3):=id (by kernel_rfl)
theorem Tryz.ag9:aM Tryz.prog 9=some (false,1):=id (by kernel_rfl)
theorem Tryz.ag24:aM Tryz.prog 24=some (false,1):=id (by kernel_rfl)
theorem Tryz.ag66:aM Tryz.prog 66=some (true,4):=id (by kernel_rfl)
theorem Tryz.ag4:aM Tryz.prog 4=some (false,1):=id (by kernel_rfl)
theorem Tryz.ag82:aM Tryz.prog 82=some (true,2):=id (by kernel_rfl)
theorem Tryz.ag84:aM Tryz.prog 84=some (true,32):=id (by kernel_rfl)
theorem Tryz.ag97:aM Tryz.prog 97=some (true,5):=id (by kernel_rfl)
theorem Tryz.ag121:aM Tryz.prog 121=some (false,1):=id (by kernel_rfl)
theorem Tryz.ag127:aM Tryz.prog 127=some (false,1):=id (by kernel_rfl)
theorem Tryz.ag126:aM Tryz.prog 126=some (true,2):=id (by kernel_rfl)
theorem Tryz.ag131:aM Tryz.prog 131=some (true,3):=id (by kernel_rfl)
theorem Tryz.ag128:aM Tryz.prog 128=some (false,1):=id (by kernel_rfl)
theorem Tryz.ag137:aM Tryz.prog 137=some (false,1):=id (by kernel_rfl)
theorem Tryz.ag58:aM Tryz.prog 58=some (false,1):=id (by kernel_rfl)
theorem Tryz.ag141:aM Tryz.prog 141=some (true,2):=id (by kernel_rfl)
theorem Tryz.ag53:aM Tryz.prog 53=some (false,1):=id (by kernel_rfl)
theorem Tryz.ag144:aM Tryz.prog 144=some (true,2):=id (by kernel_rfl)
theorem Tryz.ag123:aM Tryz.prog 123=some (true,5):=id (by kernel_rfl)
theorem Tryz.ag130:aM Tryz.prog 130=some (true,3):=id (by kernel_rfl)
theorem Tryz.ag60:aM Tryz.prog 60=some (true,13):=id (by kernel_rfl)
theorem Tryz.ag119:aM Tryz.prog 119=some (false,1):=id (by kernel_rfl)
theorem Tryz.ag54:aM Tryz.prog 54=some (false,1):=id (by kernel_rfl)
theorem Tryz.ag150:aM Tryz.prog 150=some (true,4):=id (by kernel_rfl)
theorem Tryz.ag5:aM Tryz.prog 5=some (false,1):=id (by kernel_rfl)
theorem Tryz.ag172:aM Tryz.prog 172=some (true,34):=id (by kernel_rfl)
theorem Tryz.ag193:aM Tryz.prog 193=some (true,7):=id (by kernel_rfl)
theorem Tryz.ag198:aM Tryz.prog 198=some (true,5):=id (by kernel_rfl)
theorem Tryz.ag196:aM Tryz.prog 196=some (false,1):=id (by kernel_rfl)
theorem Tryz.ag204:aM Tryz.prog 204=some (true,2):=id (by kernel_rfl)
theorem Tryz.ag209:aM Tryz.prog 209=some (true,4):=id (by kernel_rfl)
theorem Tryz.ag217:aM Tryz.prog 217=some (true,3):=id (by kernel_rfl)
theorem Tryz.ag218:aM Tryz.prog 218=some (true,64):=id (by kernel_rfl)
theorem Tryz.ag221:aM Tryz.prog 221=some (true,34):=id (by kernel_rfl)
theorem Tryz.ag106:aM Tryz.prog 106=some (false,1):=id (by kernel_rfl)
theorem Tryz.ag227:aM Tryz.prog 227=some (true,8):=id (by kernel_rfl)
theorem Tryz.ag207:aM Tryz.prog 207=some (false,1):=id (by kernel_rfl)
theorem Tryz.ag124:aM Tryz.prog 124=some (false,1):=id (by kernel_rfl)
theorem Tryz.ag236:aM Tryz.prog 236=some (true,6):=id (by kernel_rfl)
theorem Tryz.ag235:aM Tryz.prog 235=some (false,1):=id (by kernel_rfl)
theorem Tryz.ag250:aM Tryz.prog 250=some (true,3):=id (by kernel_rfl)
theorem Tryz.ag32:aM Tryz.prog 32=some (false,1):=id (by kernel_rfl)
theorem Tryz.ag254:aM Tryz.prog 254=some (true,75):=id (by kernel_rfl)
theorem Tryz.ag255:aM Tryz.prog 255=some (true,8):=id (by kernel_rfl)
theorem Tryz.ag256:aM Tryz.prog 256=some (true,64):=id (by kernel_rfl)
theorem Tryz.ag269:aM Tryz.prog 269=some (true,4):=id (by kernel_rfl)
theorem Tryz.ag271:aM Tryz.prog 271=some (true,36):=id (by kernel_rfl)
theorem Tryz.ag268:aM Tryz.prog 268=some (false,1):=id (by kernel_rfl)
theorem Tryz.ag200:aM Tryz.prog 200=some (false,1):=id (by kernel_rfl)
theorem Tryz.ag252:aM Tryz.prog 252=some (false,1):=id (by kernel_rfl)
theorem Tryz.ag279:aM Tryz.prog 279=some (true,3):=id (by kernel_rfl)
theorem Tryz.ag72:aM Tryz.prog 72=some (false,1):=id (by kernel_rfl)
theorem Tryz.ag210:aM Tryz.prog 210=some (false,1):=id (by kernel_rfl)
theorem Tryz.ag168:aM Tryz.prog 168=some (false,1):=id (by kernel_rfl)
theorem Tryz.ag199:aM Tryz.prog 199=some (false,1):=id (by kernel_rfl)
theorem Tryz.ag301:aM Tryz.prog 301=some (false,1):=id (by kernel_rfl)
theorem Tryz.ag311:aM Tryz.prog 311=some (true,2):=id (by kernel_rfl)
theorem Tryz.ag309:aM Tryz.prog 309=some (false,1):=id (by kernel_rfl)
theorem Tryz.ag294:aM Tryz.prog 294=some (true,16):=id (by kernel_rfl)
theorem Tryz.zr84:am Tryz.prog 84=some (.agg (a8 (List.replicate 32 0))):=id (by kernel_rfl)
theorem Tryz.zr193:am Tryz.prog 193=some (.agg #[(vs []),(vs []),(vs []),(.bool false),(vi 0),(.bool false),(.bool false)]):=id (by kernel_rfl)
theorem Tryz.zr209:am Tryz.prog 209=some (.agg (a8 (List.replicate 4 0))):=id (by kernel_rfl)
theorem Tryz.zr218:am Tryz.prog 218=some (.agg (a8 (List.replicate 64 0))):=id (by kernel_rfl)
theorem Tryz.zr227:am Tryz.prog 227=some (.agg (a32 (List.replicate 8 0))):=id (by kernel_rfl)
theorem Tryz.zr5:am Tryz.prog 5=some (v8 0):=id (by kernel_rfl)
theorem Tryz.zr236:am Tryz.prog 236=some (.agg #[.nilFunc, .nilFunc, .nilFunc, .nilFunc, .nilFunc, .nilFunc]):=id (by kernel_rfl)
theorem Tryz.zr255:am Tryz.prog 255=some (.agg (a8 (List.replicate 8 0))):=id (by kernel_rfl)
theorem Tryz.zr256:am Tryz.prog 256=some (.agg (a32 (List.replicate 64 0))):=id (by kernel_rfl)
theorem Tryz.fl31_0:aX Tryz.prog 31 0=some (0,(false,1)):=id (by kernel_rfl)
theorem Tryz.fl36_0:aX Tryz.prog 36 0=some (0,(false,1)):=id (by kernel_rfl)
theorem Tryz.fl36_1:aX Tryz.prog 36 1=some (1,(false,1)):=id (by kernel_rfl)
theorem Tryz.fl31_2:aX Tryz.prog 31 2=some (2,(false,1)):=id (by kernel_rfl)
theorem Tryz.fl31_3:aX Tryz.prog 31 3=some (3,(false,1)):=id (by kernel_rfl)
theorem Tryz.fl31_4:aX Tryz.prog 31 4=some (4,(false,1)):=id (by kernel_rfl)
theorem Tryz.fl36_2:aX Tryz.prog 36 2=some (2,(false,1)):=id (by kernel_rfl)
theorem Tryz.fl31_1:aX Tryz.prog 31 1=some (1,(false,1)):=id (by kernel_rfl)
theorem Tryz.fl31_5:aX Tryz.prog 31 5=some (5,(false,1)):=id (by kernel_rfl)
theorem Tryz.fl60_2:aX Tryz.prog 60 2=some (10,(false,1)):=id (by kernel_rfl)
theorem Tryz.fl66_0:aX Tryz.prog 66 0=some (0,(false,1)):=id (by kernel_rfl)
theorem Tryz.fl66_1:aX Tryz.prog 66 1=some (1,(false,1)):=id (by kernel_rfl)
theorem Tryz.fl66_2:aX Tryz.prog 66 2=some (2,(false,1)):=id (by kernel_rfl)
theorem Tryz.fl66_3:aX Tryz.prog 66 3=some (3,(false,1)):=id (by kernel_rfl)
theorem Tryz.fl82_1:aX Tryz.prog 82 1=some (1,(false,1)):=id (by kernel_rfl)
theorem Tryz.fl97_2:aX Tryz.prog 97 2=some (2,(true,2)):=id (by kernel_rfl)
theorem Tryz.fl97_0:aX Tryz.prog 97 0=some (0,(false,1)):=id (by kernel_rfl)
theorem Tryz.fl97_1:aX Tryz.prog 97 1=some (1,(false,1)):=id (by kernel_rfl)
theorem Tryz.fl97_3:aX Tryz.prog 97 3=some (4,(false,1)):=id (by kernel_rfl)
theorem Tryz.fl123_0:aX Tryz.prog 123 0=some (0,(false,1)):=id (by kernel_rfl)
theorem Tryz.fl130_0:aX Tryz.prog 130 0=some (0,(false,1)):=id (by kernel_rfl)
theorem Tryz.fl126_0:aX Tryz.prog 126 0=some (0,(false,1)):=id (by kernel_rfl)
theorem Tryz.fl126_1:aX Tryz.prog 126 1=some (1,(false,1)):=id (by kernel_rfl)
theorem Tryz.fl130_2:aX Tryz.prog 130 2=some (2,(false,1)):=id (by kernel_rfl)
theorem Tryz.fl130_1:aX Tryz.prog 130 1=some (1,(false,1)):=id (by kernel_rfl)
theorem Tryz.fl123_4:aX Tryz.prog 123 4=some (4,(false,1)):=id (by kernel_rfl)
theorem Tryz.fl123_3:aX Tryz.prog 123 3=some (3,(false,1)):=id (by kernel_rfl)
theorem Tryz.fl60_1:aX Tryz.prog 60 1=some (9,(false,1)):=id (by kernel_rfl)
theorem Tryz.fl60_0:aX Tryz.prog 60 0=some (0,(true,9)):=id (by kernel_rfl)
theorem Tryz.fl56_0:aX Tryz.prog 56 0=some (0,(false,1)):=id (by kernel_rfl)
theorem Tryz.fl56_1:aX Tryz.prog 56 1=some (1,(false,1)):=id (by kernel_rfl)
theorem Tryz.fl60_4:aX Tryz.prog 60 4=some (12,(false,1)):=id (by kernel_rfl)
theorem Tryz.fl60_3:aX Tryz.prog 60 3=some (11,(false,1)):=id (by kernel_rfl)
theorem Tryz.fl56_2:aX Tryz.prog 56 2=some (2,(false,1)):=id (by kernel_rfl)
theorem Tryz.fl144_1:aX Tryz.prog 144 1=some (1,(false,1)):=id (by kernel_rfl)
theorem Tryz.fl141_0:aX Tryz.prog 141 0=some (0,(false,1)):=id (by kernel_rfl)
theorem Tryz.fl141_1:aX Tryz.prog 141 1=some (1,(false,1)):=id (by kernel_rfl)
theorem Tryz.fl150_0:aX Tryz.prog 150 0=some (0,(false,1)):=id (by kernel_rfl)
theorem Tryz.fl150_3:aX Tryz.prog 150 3=some (3,(false,1)):=id (by kernel_rfl)
theorem Tryz.fl123_2:aX Tryz.prog 123 2=some (2,(false,1)):=id (by kernel_rfl)
theorem Tryz.fl82_0:aX Tryz.prog 82 0=some (0,(false,1)):=id (by kernel_rfl)
theorem Tryz.fl144_0:aX Tryz.prog 144 0=some (0,(false,1)):=id (by kernel_rfl)
theorem Tryz.fl123_1:aX Tryz.prog 123 1=some (1,(false,1)):=id (by kernel_rfl)
theorem Tryz.fl150_1:aX Tryz.prog 150 1=some (1,(false,1)):=id (by kernel_rfl)
theorem Tryz.fl150_2:aX Tryz.prog 150 2=some (2,(false,1)):=id (by kernel_rfl)
theorem Tryz.fl198_3:aX Tryz.prog 198 3=some (3,(false,1)):=id (by kernel_rfl)
theorem Tryz.fl217_2:aX Tryz.prog 217 2=some (2,(false,1)):=id (by kernel_rfl)
theorem Tryz.fl217_1:aX Tryz.prog 217 1=some (1,(false,1)):=id (by kernel_rfl)
theorem Tryz.fl221_1:aX Tryz.prog 221 1=some (1,(false,1)):=id (by kernel_rfl)
theorem Tryz.fl221_0:aX Tryz.prog 221 0=some (0,(false,1)):=id (by kernel_rfl)
theorem Tryz.fl221_2:aX Tryz.prog 221 2=some (2,(true,32)):=id (by kernel_rfl)
theorem Tryz.fl172_0:aX Tryz.prog 172 0=some (0,(true,32)):=id (by kernel_rfl)
theorem Tryz.fl172_1:aX Tryz.prog 172 1=some (32,(false,1)):=id (by kernel_rfl)
theorem Tryz.fl172_2:aX Tryz.prog 172 2=some (33,(false,1)):=id (by kernel_rfl)
theorem Tryz.fl193_4:aX Tryz.prog 193 4=some (4,(false,1)):=id (by kernel_rfl)
theorem Tryz.fl193_3:aX Tryz.prog 193 3=some (3,(false,1)):=id (by kernel_rfl)
theorem Tryz.fl193_6:aX Tryz.prog 193 6=some (6,(false,1)):=id (by kernel_rfl)
theorem Tryz.fl193_5:aX Tryz.prog 193 5=some (5,(false,1)):=id (by kernel_rfl)
theorem Tryz.fl193_0:aX Tryz.prog 193 0=some (0,(false,1)):=id (by kernel_rfl)
theorem Tryz.fl193_1:aX Tryz.prog 193 1=some (1,(false,1)):=id (by kernel_rfl)
theorem Tryz.fl198_1:aX Tryz.prog 198 1=some (1,(false,1)):=id (by kernel_rfl)
theorem Tryz.fl198_0:aX Tryz.prog 198 0=some (0,(false,1)):=id (by kernel_rfl)
theorem Tryz.fl198_4:aX Tryz.prog 198 4=some (4,(false,1)):=id (by kernel_rfl)
theorem Tryz.fl198_2:aX Tryz.prog 198 2=some (2,(false,1)):=id (by kernel_rfl)
theorem Tryz.fl204_0:aX Tryz.prog 204 0=some (0,(true,2)):=id (by kernel_rfl)
theorem Tryz.fl250_1:aX Tryz.prog 250 1=some (1,(false,1)):=id (by kernel_rfl)
theorem Tryz.fl250_0:aX Tryz.prog 250 0=some (0,(false,1)):=id (by kernel_rfl)
theorem Tryz.fl250_2:aX Tryz.prog 250 2=some (2,(false,1)):=id (by kernel_rfl)
theorem Tryz.fl217_0:aX Tryz.prog 217 0=some (0,(false,1)):=id (by kernel_rfl)
theorem Tryz.fl202_1:aX Tryz.prog 202 1=some (1,(false,1)):=id (by kernel_rfl)
theorem Tryz.fl254_4:aX Tryz.prog 254 4=some (74,(false,1)):=id (by kernel_rfl)
theorem Tryz.fl254_3:aX Tryz.prog 254 3=some (73,(false,1)):=id (by kernel_rfl)
theorem Tryz.fl254_1:aX Tryz.prog 254 1=some (1,(true,8)):=id (by kernel_rfl)
theorem Tryz.fl279_0:aX Tryz.prog 279 0=some (0,(false,1)):=id (by kernel_rfl)
theorem Tryz.fl279_1:aX Tryz.prog 279 1=some (1,(false,1)):=id (by kernel_rfl)
theorem Tryz.fl279_2:aX Tryz.prog 279 2=some (2,(false,1)):=id (by kernel_rfl)
theorem Tryz.fl193_2:aX Tryz.prog 193 2=some (2,(false,1)):=id (by kernel_rfl)
theorem Tryz.fl271_0:aX Tryz.prog 271 0=some (0,(false,1)):=id (by kernel_rfl)
theorem Tryz.fl271_1:aX Tryz.prog 271 1=some (1,(false,1)):=id (by kernel_rfl)
theorem Tryz.fl271_2:aX Tryz.prog 271 2=some (2,(true,34)):=id (by kernel_rfl)
theorem Tryz.fl202_0:aX Tryz.prog 202 0=some (0,(false,1)):=id (by kernel_rfl)
theorem Tryz.fl254_0:aX Tryz.prog 254 0=some (0,(false,1)):=id (by kernel_rfl)
theorem Tryz.fl254_2:aX Tryz.prog 254 2=some (9,(true,64)):=id (by kernel_rfl)
theorem Tryz.fl311_0:aX Tryz.prog 311 0=some (0,(false,1)):=id (by kernel_rfl)
theorem Tryz.fl311_1:aX Tryz.prog 311 1=some (1,(false,1)):=id (by kernel_rfl)
theorem Tryz.cv5_3:cvT Tryz.prog 5 3= .int .i64:=id (by kernel_rfl)
theorem Tryz.cv3_5:cvT Tryz.prog 3 5= .int .u8:=id (by kernel_rfl)
theorem Tryz.cv119_3:cvT Tryz.prog 119 3= .int .i64:=id (by kernel_rfl)
theorem Tryz.cv207_5:cvT Tryz.prog 207 5= .int .u8:=id (by kernel_rfl)
theorem Tryz.cv200_9:cvT Tryz.prog 200 9= .bytesStr:=id (by kernel_rfl)
theorem Tryz.cv3_219:cvT Tryz.prog 3 219= .int .u64:=id (by kernel_rfl)
theorem Tryz.cv3_252:cvT Tryz.prog 3 252= .int .u64:=id (by kernel_rfl)
theorem Tryz.cv252_5:cvT Tryz.prog 252 5= .int .u8:=id (by kernel_rfl)
theorem Tryz.cv5_207:cvT Tryz.prog 5 207= .int .u32:=id (by kernel_rfl)
theorem Tryz.cv219_207:cvT Tryz.prog 219 207= .int .u32:=id (by kernel_rfl)
theorem Tryz.cv199_292:cvT Tryz.prog 199 292= .no:=id (by kernel_rfl)
theorem Tryz.cv292_199:cvT Tryz.prog 292 199= .no:=id (by kernel_rfl)
theorem Tryz.cv3_301:cvT Tryz.prog 3 301= .int .u64:=id (by kernel_rfl)
theorem Tryz.cv219_3:cvT Tryz.prog 219 3= .int .i64:=id (by kernel_rfl)
theorem Tryz.cv3_312:cvT Tryz.prog 3 312= .no:=id (by kernel_rfl)
theorem Tryz.cv312_3:cvT Tryz.prog 312 3= .no:=id (by kernel_rfl)
set_option linter.defProp false
def Tryz.fx:=And.intro (And.intro (And.intro (And.intro (And.intro (And.intro (And.intro (@Tryz.ix24) (@Tryz.ix23)) (And.intro (@Tryz.ix22) (And.intro (@Tryz.ix9) (@Tryz.ix71)))) (And.intro (And.intro (@Tryz.ix72) (And.intro (@Tryz.ix93) (@Tryz.ix94))) (And.intro (@Tryz.ix106) (And.intro (@Tryz.ix131) (@Tryz.ix128))))) (And.intro (And.intro (And.intro (@Tryz.ix58) (And.intro (@Tryz.ix57) (@Tryz.ix54))) (And.intro (@Tryz.ix53) (And.intro (@Tryz.ix84) (@Tryz.ix196)))) (And.intro (And.intro (@Tryz.ix209) (And.intro (@Tryz.ix218) (@Tryz.ix168))) (And.intro (@Tryz.ix227) (And.intro (@Tryz.ix200) (@Tryz.ix236)))))) (And.intro (And.intro (And.intro (And.intro (@Tryz.ix255) (And.intro (@Tryz.ix256) (@Tryz.ix260))) (And.intro (@Tryz.ix269) (And.intro (@Tryz.ix294) (@Tryz.ix297)))) (And.intro (And.intro (@Tryz.ag31) (And.intro (@Tryz.ag3) (@Tryz.ag36))) (And.intro (@Tryz.ag9) (And.intro (@Tryz.ag24) (@Tryz.ag66))))) (And.intro (And.intro (And.intro (@Tryz.ag4) (And.intro (@Tryz.ag82) (@Tryz.ag84))) (And.intro (@Tryz.ag97) (And.intro (@Tryz.ag121) (@Tryz.ag127)))) (And.intro (And.intro (@Tryz.ag126) (And.intro (@Tryz.ag131) (@Tryz.ag128))) (And.intro (@Tryz.ag137) (And.intro (@Tryz.ag58) (@Tryz.ag141))))))) (And.intro (And.intro (And.intro (And.intro (And.intro (@Tryz.ag53) (And.intro (@Tryz.ag144) (@Tryz.ag123))) (And.intro (@Tryz.ag130) (And.intro (@Tryz.ag60) (@Tryz.ag119)))) (And.intro (And.intro (@Tryz.ag54) (And.intro (@Tryz.ag150) (@Tryz.ag5))) (And.intro (@Tryz.ag172) (And.intro (@Tryz.ag193) (@Tryz.ag198))))) (And.intro (And.intro (And.intro (@Tryz.ag196) (And.intro (@Tryz.ag204) (@Tryz.ag209))) (And.intro (@Tryz.ag217) (And.intro (@Tryz.ag218) (@Tryz.ag221)))) (And.intro (And.intro (@Tryz.ag106) (And.intro (@Tryz.ag227) (@Tryz.ag207))) (And.intro (@Tryz.ag124) (And.intro (@Tryz.ag236) (@Tryz.ag235)))))) (And.intro (And.intro (And.intro (And.intro (@Tryz.ag250) (And.intro (@Tryz.ag32) (@Tryz.ag254))) (And.intro (@Tryz.ag255) (And.intro (@Tryz.ag256) (@Tryz.ag269)))) (And.intro (And.intro (@Tryz.ag271) (And.intro (@Tryz.ag268) (@Tryz.ag200))) (And.intro (@Tryz.ag252) (And.intro (@Tryz.ag279) (@Tryz.ag72))))) (And.intro (And.intro (And.intro (@Tryz.ag210) (And.intro (@Tryz.ag168) (@Tryz.ag199))) (And.intro (@Tryz.ag301) (And.intro (@Tryz.ag311) (@Tryz.ag309)))) (And.intro (And.intro (@Tryz.ag294) (And.intro (@Tryz.fl31_0) (@Tryz.fl36_0))) (And.intro (@Tryz.fl36_1) (And.intro (@Tryz.fl31_2) (@Tryz.fl31_3)))))))) (And.intro (And.intro (And.intro (And.intro (And.intro (And.intro (@Tryz.fl31_4) (And.intro (@Tryz.fl36_2) (@Tryz.fl31_1))) (And.intro (@Tryz.fl31_5) (And.intro (@Tryz.fl60_2) (@Tryz.fl66_0)))) (And.intro (And.intro (@Tryz.fl66_1) (And.intro (@Tryz.fl66_2) (@Tryz.fl66_3))) (And.intro (@Tryz.fl82_1) (And.intro (@Tryz.fl97_2) (@Tryz.fl97_0))))) (And.intro (And.intro (And.intro (@Tryz.fl97_1) (And.intro (@Tryz.fl97_3) (@Tryz.fl123_0))) (And.intro (@Tryz.fl130_0) (And.intro (@Tryz.fl126_0) (@Tryz.fl126_1)))) (And.intro (And.intro (@Tryz.fl130_2) (And.intro (@Tryz.fl130_1) (@Tryz.fl123_4))) (And.intro (@Tryz.fl123_3) (And.intro (@Tryz.fl60_1) (@Tryz.fl60_0)))))) (And.intro (And.intro (And.intro (And.intro (@Tryz.fl56_0) (And.intro (@Tryz.fl56_1) (@Tryz.fl60_4))) (And.intro (@Tryz.fl60_3) (And.intro (@Tryz.fl56_2) (@Tryz.fl144_1)))) (And.intro (And.intro (@Tryz.fl141_0) (And.intro (@Tryz.fl141_1) (@Tryz.fl150_0))) (And.intro (@Tryz.fl150_3) (And.intro (@Tryz.fl123_2) (@Tryz.fl82_0))))) (And.intro (And.intro (And.intro (@Tryz.fl144_0) (And.intro (@Tryz.fl123_1) (@Tryz.fl150_1))) (And.intro (@Tryz.fl150_2) (And.intro (@Tryz.fl198_3) (@Tryz.fl217_2)))) (And.intro (And.intro (@Tryz.fl217_1) (And.intro (@Tryz.fl221_1) (@Tryz.fl221_0))) (And.intro (@Tryz.fl221_2) (And.intro (@Tryz.fl172_0) (@Tryz.fl172_1))))))) (And.intro (And.intro (And.intro (And.intro (And.intro (@Tryz.fl172_2) (And.intro (@Tryz.fl193_4) (@Tryz.fl193_3))) (And.intro (@Tryz.fl193_6) (And.intro (@Tryz.fl193_5) (@Tryz.fl193_0)))) (And.intro (And.intro (@Tryz.fl193_1) (And.intro (@Tryz.fl198_1) (@Tryz.fl198_0))) (And.intro (@Tryz.fl198_4) (And.intro (@Tryz.fl198_2) (@Tryz.fl204_0))))) (And.intro (And.intro (And.intro (@Tryz.fl250_1) (And.intro (@Tryz.fl250_0) (@Tryz.fl250_2))) (And.intro (@Tryz.fl217_0) (And.intro (@Tryz.fl202_1) (@Tryz.fl254_4)))) (And.intro (And.intro (@Tryz.fl254_3) (And.intro (@Tryz.fl254_1) (@Tryz.fl279_0))) (And.intro (@Tryz.fl279_1) (And.intro (@Tryz.fl279_2) (@Tryz.fl193_2)))))) (And.intro (And.intro (And.intro (And.intro (@Tryz.fl271_0) (And.intro (@Tryz.fl271_1) (@Tryz.fl271_2))) (And.intro (@Tryz.fl202_0) (And.intro (@Tryz.fl254_0) (@Tryz.fl254_2)))) (And.intro (And.intro (@Tryz.fl311_0) (And.intro (@Tryz.fl311_1) (@Tryz.cv5_3))) (And.intro (@Tryz.cv3_5) (And.intro (@Tryz.cv119_3) (@Tryz.cv207_5))))) (And.intro (And.intro (And.intro (@Tryz.cv200_9) (And.intro (@Tryz.cv3_219) (@Tryz.cv3_252))) (And.intro (@Tryz.cv252_5) (And.intro (@Tryz.cv5_207) (@Tryz.cv219_207)))) (And.intro (And.intro (@Tryz.cv199_292) (And.intro (@Tryz.cv292_199) (@Tryz.cv3_301))) (And.intro (@Tryz.cv219_3) (And.intro (@Tryz.cv3_312) (@Tryz.cv312_3))))))))
theorem kp {X A G:Prop} (x:X) (h:G) (e:X→A=G:=by intro x;(try simp(disch:=(first|assumption|omega| (simp only[cT,cS,UInt64.reduceToNat];try omega))) only[↓Sx.S0,Sx.S1,Tryz.fx,Nat.reduceAdd,Nat.reducePow,Int.reducePow,Nat.reduceBEq, ↓reduceIte,UInt8.reduceToNat,UInt16.reduceToNat,UInt32.reduceToNat,UInt64.reduceToNat,Int.reduceToNat,x]);exact rfl):A:=(e x).mpr h
section
variable {P:Program} {w0:World} {f:Fr} {L:aA} {K:cM} {N:Fr→aA→Prop} {ops:Array Oper} {md:Md} {l:List Oper} {X G:Prop}
theorem ks {c:Code} (z:List Nat) [Sx.Steps c] (x:X) (h:G) (e:X→vcC P w0 z c f L (bsK K)=G:=by intro x;(try simp(disch:=(first|assumption|omega| (simp only[cT,cS,UInt64.reduceToNat];try omega))) only[↓Sx.S0,Sx.S1,Tryz.fx,Nat.reduceAdd,Nat.reducePow,Int.reducePow,Nat.reduceBEq, ↓reduceIte,UInt8.reduceToNat,UInt16.reduceToNat,UInt32.reduceToNat,UInt64.reduceToNat,Int.reduceToNat,x]);exact rfl):Cw P w0 c f L K:=Cw.go z ((e x).mpr h)
theorem ko (x:X) (h:G) (e:X→vcL P w0 ops true md l f L (owk P w0 ops (bsN N))=G:=by intro x;(try simp(disch:=(first|assumption|omega| (simp only[cT,cS,UInt64.reduceToNat];try omega))) only[↓Sx.S0,Sx.S1,Tryz.fx,Nat.reduceAdd,Nat.reducePow,Int.reducePow,Nat.reduceBEq, ↓reduceIte,UInt8.reduceToNat,UInt16.reduceToNat,UInt32.reduceToNat,UInt64.reduceToNat,Int.reduceToNat,x]);exact rfl) (he:md.eff=true:=by rfl):Ow P w0 ops md l f L N:=Ow.go he ((e x).mpr h)
theorem kq (x:X) (h:G) (e:X→vcL P w0 ops false md l f L (owk P w0 ops (bsN N))=G:=by intro x;(try simp(disch:=(first|assumption|omega| (simp only[cT,cS,UInt64.reduceToNat];try omega))) only[↓Sx.S0,Sx.S1,Tryz.fx,Nat.reduceAdd,Nat.reducePow,Int.reducePow,Nat.reduceBEq, ↓reduceIte,UInt8.reduceToNat,UInt16.reduceToNat,UInt32.reduceToNat,UInt64.reduceToNat,Int.reduceToNat,x]);exact rfl):Ow P w0 ops md l f L N:=Ow.goQ ((e x).mpr h)
end
theorem ke {α:Type} {X:Prop} {a b:α} (x:X) (e:X→a=b:=by intro x;(try simp(disch:=(first|assumption|omega| (simp only[cT,cS,UInt64.reduceToNat];try omega))) only[↓Sx.S0,Sx.S1,Tryz.fx,Nat.reduceAdd,Nat.reducePow,Int.reducePow,Nat.reduceBEq, ↓reduceIte,UInt8.reduceToNat,UInt16.reduceToNat,UInt32.reduceToNat,UInt64.reduceToNat,Int.reduceToNat,x]);exact rfl):a=b:=e x
theorem kn {A G:Prop} (h:G) (e:A=G:=by(try simp(disch:=(first|assumption|omega| (simp only[cT,cS,UInt64.reduceToNat];try omega))) only[rn,wU,List.cons_append,List.nil_append]);exact rfl):A:=e.mpr h
theorem kf {A G:Prop} (h:G) (e:A=G:=by simp only[List.size_toArray,List.length_cons,List.length_nil,Nat.reduceAdd,Nat.reduceSub,List.replicate_succ,List.replicate_zero,List.cons_append,List.nil_append];exact rfl):A:=e.mpr h
theorem kv {A G:Prop} (h:G) (e:A=G:=by simp only[kV,pin,ry,s8,List.contains_cons,List.contains_nil,Nat.reduceBEq,Bool.or_false,Bool.false_or,Bool.or_true,Bool.true_or,Nat.reduceAdd, ↓reduceIte,Bool.false_eq_true];exact rfl):A:=e.mpr h
set_option maxRecDepth 10000
set_option maxHeartbeats 1000000
set_option linter.unusedSimpArgs false
theorem xy (p v:Value) (E:TypeId) (n:Nat):aI (some (false,n)) (some (.cells #[p,v] E (0,0))) 0=some p:=(rfl)
theorem xx (p v:Value) (E:TypeId) (n:Nat):aI (some (false,n)) (some (.cells #[p,v] E (0,0))) 1=some v:=(rfl)
theorem QN (p v x:Value) (E:TypeId) (hx:Value.oneCell' x=true∧x.cells= #[x]):ab (some (false,1)) (some (.cells #[p,v] E (0,0))) 0 x=some (.cells #[x,v] E (0,0)):=by
 simp[ab,hx,fJ]
theorem Au (p v x:Value) (E:TypeId) (hx:Value.oneCell' x=true∧x.cells= #[x]):ab (some (false,1)) (some (.cells #[p,v] E (0,0))) 1 x=some (.cells #[p,x] E (0,0)):=by
 simp[ab,hx,fJ]
theorem Hu (p v:Value) (b o:Nat) (E:TypeId):ab (some (false,1)) (some (.cells #[p,v] E (0,0))) 0 (vp b o)=some (.cells #[vp b o,v] E (0,0)):=QN _ _ _ _ ⟨rfl,rfl⟩
theorem nilB (b o:Nat):aT Tryz.prog .eql 199 (vp b o) (.pointer none)=some (.bool false):=by
 simp[aT,eqX,eM,eA,Tryz.underlying199,vp]
theorem un:aT Tryz.prog .eql 199 (.pointer none) (.pointer none)=some (.bool true):=by
 simp[aT,eqX,eM,eA,Tryz.underlying199]
set_option linter.defProp false
def kc:=And.intro (And.intro (@xy) (@xx)) (And.intro (@Hu) (And.intro (@nilB) (@un)))
theorem VE:liesAt Tryz.prog Tryz.prog.depth 204 ((#[Value.pointer none,Value.pointer none]:Array Value).size / Tryz.prog.cellsOf 204) 0 202 1=true:=id (by kernel_rfl)
theorem aggB:aM Tryz.prog 202=some (true,2):=id (by kernel_rfl)
theorem Sa (x:Value) (w:World): (callFunc 230 #[x]).run Tryz.prog w= .ok (.value x) w:=by kernel_rfl
theorem ZL (b:Nat) (p v:Value) (w:World) (hp:p= .pointer none∨p=vp b 0) (ho:w.heap[b]? =some (.cells #[p,v] 204 (0,0))):
  Rets Tryz.prog 204 #[vp b 0] w (fun v' D=> ∃o,D= [(b,o)]∧v'= .tuple #[]∧o= .cells #[vp b 0,v] 204 (0,0)):=by
 refine Rets.enterM Tryz.func204 rfl (rs:= []) Tryz.results204 Tryz.ntmps204 ho ?_
 refine kf ?_
 rcases hp with rfl|rfl
 ·first|with_reducible refine ks [] @kc ?_|refine kp @kc ?_
  refine Ow.toUnsafe rfl rfl (by kernel_rfl) rfl (aY (ii _ _ _)) (by simp) aggB (by decide) Tryz.underlying199 Tryz.underlying292 ?_
  refine Ow.callExt (v:=vp b 0) rfl rfl (fun w=>Sa _ w) ?_
  refine Ow.ofUnsafe rfl rfl (by kernel_rfl) rfl (aY (ii _ _ _)) aggB VE Tryz.underlying292 Tryz.underlying199 ?_
  refine ko @kc ?_
  first|with_reducible refine ks [] @kc ?_|refine kp @kc ?_
  refine⟨_,_,_,(ke @kc),rfl,trivial, ?_⟩
  exact⟨rfl,rfl⟩
 ·first|with_reducible refine ks [2] @kc ?_|refine kp @kc ?_
  refine Cw.region ?_
  refine Ow.value rfl rfl rfl ?_
  refine Ow.value (v:=vp b 0) rfl rfl (by simp(disch:=(first|assumption|omega| (simp only[cT,cS,UInt64.reduceToNat];try omega))) only[↓Sx.S0,Sx.S1,Tryz.fx,kc,Nat.reduceAdd,Nat.reducePow,Int.reducePow,Nat.reduceBEq, ↓reduceIte,UInt8.reduceToNat,UInt16.reduceToNat,UInt32.reduceToNat,UInt64.reduceToNat,Int.reduceToNat,iF]) ?_
  refine Ow.value (v:=vp b 0) rfl rfl (by simp(disch:=(first|assumption|omega| (simp only[cT,cS,UInt64.reduceToNat];try omega))) only[↓Sx.S0,Sx.S1,Tryz.fx,kc,Nat.reduceAdd,Nat.reducePow,Int.reducePow,Nat.reduceBEq, ↓reduceIte,UInt8.reduceToNat,UInt16.reduceToNat,UInt32.reduceToNat,UInt64.reduceToNat,Int.reduceToNat,iF]) ?_
  refine Ow.value (v:=vp b 0) rfl rfl (by simp(disch:=(first|assumption|omega| (simp only[cT,cS,UInt64.reduceToNat];try omega))) only[↓Sx.S0,Sx.S1,Tryz.fx,kc,Nat.reduceAdd,Nat.reducePow,Int.reducePow,Nat.reduceBEq, ↓reduceIte,UInt8.reduceToNat,UInt16.reduceToNat,UInt32.reduceToNat,UInt64.reduceToNat,Int.reduceToNat,iF]) ?_
  refine Ow.value rfl rfl rfl ?_
  refine Ow.neqSame rfl Tryz.underlying199 aggB rfl rfl ?_
  refine ko @kc ?_
  first|with_reducible refine ks [] @kc ?_|refine kp @kc ?_
  refine⟨_,_,_,(ke @kc),rfl,trivial, ?_⟩
  exact⟨rfl,rfl⟩
end Go.Proofs
end
section
open Go Go.Proofs Go.Sx
namespace Go.Proofs
set_option maxRecDepth 10000
set_option maxHeartbeats 1000000
set_option linter.unusedSimpArgs false
set_option linter.defProp false
def pG:=And.intro (And.intro (@xy) (@xx)) (And.intro (@Hu) (And.intro (@nilB) (@un)))
def BldAt (b:Nat) (l:List UInt8) (X:aA):Prop:=
 ∃p v,Sx.look X b=some (.cells #[p,v] 204 (0,0))∧(p= .pointer none∨p=vp b 0)∧Buf X 5 1 v l.length (l.map v8)∧slB v≠some b
theorem ZM (b:Nat) (X:aA) (l:List UInt8) (c:UInt8) (w:World) (hB:BldAt b l X) (hX: ∀p,p∈X→w.heap[p.1]? =some p.2) (hn: (keys X).Nodup) (hl:l.length<34359738368):
  Rets Tryz.prog 205 #[vp b 0,v8 c] w (XS w X (fun v D=>v= .nilIface∧BldAt b (l++ [c]) D)):=by
 obtain⟨p,v,bl,hp,hb,cN⟩:=hB
 refine Rets.enterX Tryz.func205 rfl (rs:= [.tmp 4]) Tryz.results205 Tryz.ntmps205 hX hn ?_
 refine kf ?_
 first|with_reducible refine ks [] @pG ?_|refine kp @pG ?_
 refine Ow.callM rfl rfl Tryz.call204 (cJ bl) (fun w' aB=>ZL b p v w' hp (aB.has _ _ (cO bl))) ?_
 have lk1:=jK (x:= .cells #[vp b 0,v] 204 (0,0)) bl
 have rd1:=aY (w0:=w) lk1
 have aQ:Buf (setB X b (.cells #[vp b 0,v] 204 (0,0))) 5 1 v l.length (l.map v8):=hb.setO cN
 have kx:Ext w X (setB X b (.cells #[vp b 0,v] 204 (0,0))):=(Ext.refl w X).setB
 generalize setB X b (.cells #[vp b 0,v] 204 (0,0))=X1 at*
 refine ko @pG ?_
 first|with_reducible refine ks [] (And.intro @pG @rd1) ?_|refine kp (And.intro @pG @rd1) ?_
 refine Ow.buildSlice (e:=5) #[v8 c] rfl rfl (by kernel_rfl) fun b3 ed gI=> ?_
 have lk3:Sx.look (X1++ [(b3, .cells #[v8 c] 5 (0,0))]) b3=some (.cells #[v8 c] 5 (0,0)):=pB ed
 have aZ:Buf (X1++ [(b3, .cells #[v8 c] 5 (0,0))]) 5 1 v l.length (l.map v8):=aQ.app
 refine ko @pG ?_
 refine Ow.append (e:=5) _ rfl rfl rfl Tryz.underlying200 Tryz.ag5 (by kernel_rfl) Tryz.zr5 (by kernel_rfl) Tryz.underlying200 (by intro k h;cases h) aZ (fun w' aB=>AppX.block (k:=1) (new:= [v8 c]) (aY lk3) (by simp) (by simp) rfl aB) (by omega) (fun v2 L2 dI qt be=> ?_)
 have lk2:Sx.look L2 b=some (.cells #[vp b 0,v] 204 (0,0)):=qt.look b _ cN (bL lk1)
 have st2:ab (some (false,1)) (some (.cells #[vp b 0,v] 204 (0,0))) 1 v2=some (.cells #[vp b 0,v2] 204 (0,0)):=Au _ _ _ _ dI.cell
 refine ko (And.intro @pG (And.intro @lk2 (And.intro @st2 (@qB)))) ?_
 first|with_reducible refine ks [] @pG ?_|refine kp @pG ?_
 refine⟨_,(ke @pG), ?_⟩
 have ex:=(kx.app (o:= .cells #[v8 c] 5 (0,0)) gI).grew qt
 have dT:slB v2≠some b:=by
  rcases be with h| ⟨c',h,ha⟩
  ·rw[h];exact cN
  ·rw[h]
   intro e
   cases e
   exact Nat.lt_irrefl _ (ae ha (cJ (bL lk1)))
 refine⟨ex.setB,rfl,vp b 0,v2,jK lk2, .inr rfl, ?_,dT⟩
 rw[List.length_append,List.map_append]
 exact dI.setO dT
end Go.Proofs
end
section
open Go Go.Proofs Go.Sx
namespace Go.Proofs
set_option maxRecDepth 10000
set_option maxHeartbeats 1000000
set_option linter.unusedSimpArgs false
set_option linter.defProp false
def gJ:=And.intro (And.intro (@xy) (@xx)) (And.intro (@Hu) (And.intro (@nilB) (@un)))
theorem XI_ (b:Nat) (X:aA) (l s:List UInt8) (w:World) (hB:BldAt b l X) (hX: ∀p,p∈X→w.heap[p.1]? =some p.2) (hn: (keys X).Nodup) (hl:l.length+s.length<34359738368):
  Rets Tryz.prog 170 #[vp b 0,vs s] w (XS w X (fun v D=>v= .tuple #[vi s.length, .nilIface]∧BldAt b (l++s) D)):=by
 obtain⟨p,v,bl,hp,hb,cN⟩:=hB
 refine Rets.enterX Tryz.func170 rfl (rs:= [.tmp 4, .tmp 5]) Tryz.results170 Tryz.ntmps170 hX hn ?_
 refine kf ?_
 first|with_reducible refine ks [] @gJ ?_|refine kp @gJ ?_
 refine Ow.callM rfl rfl Tryz.call204 (cJ bl) (fun w' aB=>ZL b p v w' hp (aB.has _ _ (cO bl))) ?_
 have lk1:=jK (x:= .cells #[vp b 0,v] 204 (0,0)) bl
 have rd1:=aY (w0:=w) lk1
 have aQ:Buf (setB X b (.cells #[vp b 0,v] 204 (0,0))) 5 1 v l.length (l.map v8):=hb.setO cN
 have kx:Ext w X (setB X b (.cells #[vp b 0,v] 204 (0,0))):=(Ext.refl w X).setB
 generalize setB X b (.cells #[vp b 0,v] 204 (0,0))=X1 at*
 refine ko @gJ ?_
 first|with_reducible refine ks [] (And.intro @gJ @rd1) ?_|refine kp (And.intro @gJ @rd1) ?_
 refine Ow.append (e:=5) _ rfl rfl rfl Tryz.underlying200 Tryz.ag5 (by kernel_rfl) Tryz.zr5 (by kernel_rfl) Tryz.underlying9 (by intro k h;cases h) aQ (fun w' aB=>AppX.text _ w' s) (by omega) (fun v2 L2 dI qt be=> ?_)
 have lk2:Sx.look L2 b=some (.cells #[vp b 0,v] 204 (0,0)):=qt.look b _ cN lk1
 have st2:ab (some (false,1)) (some (.cells #[vp b 0,v] 204 (0,0))) 1 v2=some (.cells #[vp b 0,v2] 204 (0,0)):=Au _ _ _ _ dI.cell
 refine ko (And.intro @gJ (And.intro @lk2 (And.intro @st2 (@qB)))) ?_
 first|with_reducible refine ks [] @gJ ?_|refine kp @gJ ?_
 refine⟨_,(ke @gJ), ?_⟩
 have ex:=kx.grew qt
 have dT:slB v2≠some b:=by
  rcases be with h| ⟨c',h,ha⟩
  ·rw[h];exact cN
  ·rw[h]
   intro e
   cases e
   exact Nat.lt_irrefl _ (ae ha (cJ lk1))
 refine⟨ex.setB,rfl,vp b 0,v2,jK lk2, .inr rfl, ?_,dT⟩
 rw[List.length_append,List.map_append]
 exact dI.setO dT
theorem JC (b:Nat) (X:aA) (l:List UInt8) (w:World) (hB:BldAt b l X) (hX: ∀p,p∈X→w.heap[p.1]? =some p.2) (hn: (keys X).Nodup) (hl:l.length<34359738368):
  Rets Tryz.prog 172 #[vp b 0] w (XS w X (fun v _D=>v=vs l)):=by
 obtain⟨p,v,bl,hp,hb,cN⟩:=hB
 have rd1:=aY (w0:=w) bl
 refine Rets.enterX Tryz.func172 rfl (rs:= [.tmp 2]) Tryz.results172 Tryz.ntmps172 hX hn ?_
 refine kf ?_
 first|with_reducible refine ks [] @gJ ?_|refine kp @gJ ?_
 refine Cw.regionS [b] [0,1,2,5,6,7,3,8,9,4,10,11] [] (by kernel_rfl) (by kernel_rfl) (by kernel_rfl) ?_
 simp only[ap, ↓ao, ↓ac, ↓aj, ↓ai,ad]
 refine Ow.goQ ?_
 simp(disch:=(first|assumption|omega| (simp only[cT,cS,UInt64.reduceToNat];try omega))) only[↓Sx.S0,Sx.S1,Tryz.fx,gJ,Nat.reduceAdd,Nat.reducePow,Int.reducePow,Nat.reduceBEq, ↓reduceIte,UInt8.reduceToNat,UInt16.reduceToNat,UInt32.reduceToNat,UInt64.reduceToNat,Int.reduceToNat,rd1,hb.len]
 refine Ow.soft rfl rfl rfl ?_
 rcases hb.inv with⟨rfl,h0,-⟩ | ⟨b2,c,rest,rfl,i9,h1,h3,h4,-⟩
 ·obtain rfl:l= []:=List.eq_nil_of_length_eq_zero h0
  refine Ow.sliceData (v:= .pointer none) rfl rfl (.inl ⟨0,0,rfl,rfl⟩) ?_
  with_reducible refine Ow.nil ?_
  refine⟨by intro b hb;simp only[List.mem_cons,List.not_mem_nil,or_false] at hb;(try subst hb);rfl, ?_⟩
  refine Ow.soft rfl rfl rfl ?_
  refine Ow.unsafeStringNil rfl rfl rfl rfl ?_
  with_reducible refine Ow.nil ?_
  refine⟨by intro b hb;simp only[List.mem_cons,List.not_mem_nil,or_false] at hb;(try subst hb);rfl, ?_⟩
  refine kq @gJ ?_
  try with_reducible refine Ow.nil ?_
  first|with_reducible refine ks [] @gJ ?_|refine kp @gJ ?_
  refine⟨_,(ke @gJ), ?_⟩
  exact⟨Ext.refl _ _,rfl⟩
 ·refine Ow.sliceData (v:=vp b2 0) rfl rfl (.inr ⟨b2,_,c,rfl,by omega,rfl⟩) ?_
  with_reducible refine Ow.nil ?_
  refine⟨by intro b hb;simp only[List.mem_cons,List.not_mem_nil,or_false] at hb;(try subst hb);rfl, ?_⟩
  by_cases h0:l.length=0
  ·obtain rfl:l= []:=List.eq_nil_of_length_eq_zero h0
   refine Ow.soft rfl rfl rfl ?_
   refine Ow.unsafeStringNil rfl rfl rfl rfl ?_
   with_reducible refine Ow.nil ?_
   refine⟨by intro b hb;simp only[List.mem_cons,List.not_mem_nil,or_false] at hb;(try subst hb);rfl, ?_⟩
   refine kq @gJ ?_
   try with_reducible refine Ow.nil ?_
   first|with_reducible refine ks [] @gJ ?_|refine kp @gJ ?_
   refine⟨_,(ke @gJ), ?_⟩
   exact⟨Ext.refl _ _,rfl⟩
  ·refine Ow.soft rfl rfl rfl ?_
   refine Ow.unsafeString rfl rfl rfl rfl i9 (by omega) (by omega) Tryz.underlying273 (by kernel_rfl) (of_decide_eq_true (by kernel_rfl)) ?_
   with_reducible refine Ow.nil ?_
   refine⟨by intro b hb;simp only[List.mem_cons,List.not_mem_nil,or_false] at hb;(try subst hb);exact Xx (fun e=>cN (by rw[←e];rfl)), ?_⟩
   refine kq @gJ ?_
   try with_reducible refine Ow.nil ?_
   first|with_reducible refine ks [] @gJ ?_|refine kp @gJ ?_
   refine⟨_,(ke @gJ), ?_⟩
   exact⟨(Ext.refl _ _).setB,rfl⟩
end Go.Proofs
end
section
open Go Go.Proofs Go.Sx
namespace Go.Proofs
set_option maxRecDepth 10000
set_option maxHeartbeats 1000000
set_option linter.unusedSimpArgs false
theorem nilW (b o:Nat):aT Tryz.prog .eql 242 (vp b o) (.pointer none)=some (.bool false):=by
 simp[aT,eqX,eM,eA,Tryz.underlying242,vp]
set_option linter.defProp false
def fm:=And.intro (@xy) (And.intro (@xx) (@nilW))
structure WG where
 g:Nat
 D:aA
theorem WI_ (l:List (List UInt8)) (g:Nat) (h:g<l.length): (l.take (g+1)).flatten=(l.take g).flatten++l.getD g []:=by
 rw[List.take_add_one,List.getElem?_eq_getElem h,List.flatten_append,List.getD_eq_getElem?_getD,List.getElem?_eq_getElem h]
 simp
theorem Iq (l:List (List UInt8)) (g:Nat): (l.take g).flatten.length≤l.flatten.length:=by
 conv=>rhs;rw[←List.take_append_drop g l,List.flatten_append,List.length_append]
 omega
theorem zu (b:Nat) (X:aA) (l:List UInt8) (x:Value) (b2 off:Nat) (ls:List (List UInt8)) (arr:Array Value) (E:TypeId) (fz:Nat×Nat) (w:World) (hB:BldAt b l X) (hX: ∀p,p∈X→w.heap[p.1]? =some p.2) (hn: (keys X).Nodup)
  (hS:StrS w x ls b2 off arr E fz) (aO:0<ls.length→b2∉keys X) (hl:l.length+ls.flatten.length<34359738368) (Fy:ls.length<34359738368):
  Rets Tryz.prog 133 #[vp b 0,x] w (XS w X (fun v D=>v= .tuple #[]∧BldAt b (l++ls.flatten) D)):=by
 refine Rets.enterX Tryz.func133 rfl (rs:= []) Tryz.results133 Tryz.ntmps133 hX hn ?_
 refine kf ?_
 ((try with_reducible refine Cw.go [] ?_);(try simp(disch:=(first|assumption|omega| (simp only[cT,cS,UInt64.reduceToNat];try omega))) only[↓Sx.S0,Sx.S1,Tryz.fx,fm,Nat.reduceAdd,Nat.reducePow,Int.reducePow,Nat.reduceBEq, ↓reduceIte,UInt8.reduceToNat,UInt16.reduceToNat,UInt32.reduceToNat,UInt64.reduceToNat,Int.reduceToNat,hS.len]))
 refine Cw.loopG (G:=WG) [11,12,13,5,14,15,16,17,18,19,10] (fun g=> [(10,vi g.g)]) (fun g=>g.D) (fun g=>g.g≤ls.length∧Ext w X g.D∧BldAt b (l++ (ls.take g.g).flatten) g.D) (fun g=>ls.length - g.g) ⟨0,X⟩ rfl rfl ?_ ?_
 ·exact⟨by simp,Ext.refl _ _,by simpa using hB⟩
 intro g j hg
 refine kv ?_
 obtain⟨g,D⟩:=g
 simp only at hg ⊢
 obtain⟨Fu,hE,pN⟩:=hg
 by_cases aD:g<ls.length
 ·have rB:=hS.get g aD
  have bY:=hE.old (hS.has (by omega)) (aO (by omega))
  ((try with_reducible refine Cw.go [] ?_);(try simp(disch:=(first|assumption|omega| (simp only[cT,cS,UInt64.reduceToNat];try omega))) only[↓Sx.S0,Sx.S1,Tryz.fx,fm,Nat.reduceAdd,Nat.reducePow,Int.reducePow,Nat.reduceBEq, ↓reduceIte,UInt8.reduceToNat,UInt16.reduceToNat,UInt32.reduceToNat,UInt64.reduceToNat,Int.reduceToNat,Sx.loadV_one,bY,rB,hS.idx]))
  have fv:=WI_ ls g aD
  have hfle:=Iq ls (g+1)
  have oF:=congrArg List.length fv
  rw[List.length_append] at oF
  refine Ow.callX (Y:= []) (by simp) rfl rfl Tryz.call170 (fun w' aB hX hn=>XI_ b D _ (ls.getD g []) w' pN hX hn (by rw[List.length_append];omega)) (fun v2 D2 hC be=> ?_)
  rw[List.append_nil]
  obtain⟨rfl,dI⟩:=be
  refine ko @fm ?_
  first|with_reducible refine ks [] @fm ?_|refine kp @fm ?_
  refine Again.mk (WG.mk (g+1) D2) (by show ls.length - (g+1)<ls.length - g;omega) ⟨by show g+1≤ls.length;omega,hE.came0 hC, ?_⟩ rfl rfl
  show BldAt b (l++ (ls.take (g+1)).flatten) D2
  rw[fv,←List.append_assoc]
  exact dI
 ·obtain rfl:g=ls.length:=by omega
  first|with_reducible refine ks [] @fm ?_|refine kp @fm ?_
  refine⟨_,(ke @fm), ?_⟩
  rw[List.take_length] at pN
  exact⟨hE,rfl,pN⟩
def maxN:Int:=1099511627775
def eH (n:Nat):List UInt8:=if h:n<128 then [UInt8.ofNat n] else UInt8.ofNat (n%128+128)::eH (n / 128)
termination_by n
decreasing_by omega
def fC (n:Int):Nat:=(if(if maxN<n then maxN else n)>0 then(if maxN<n then maxN else n) else 0).toNat
def ka (l:List Int):List UInt8:=(l.map fun n=>eH (fC n)).flatten
theorem sx {n:Nat} (h:n<128):eH n= [UInt8.ofNat n]:=by rw[eH];simp[h]
theorem wO {n:Nat} (h: ¬n<128):eH n=UInt8.ofNat (n%128+128)::eH (n / 128):=by rw[eH];simp[h]
theorem EK: ∀ (k n:Nat),n<128^k→0<k→(eH n).length≤k
 |0,n,h,h0=>absurd h0 (by omega)
 |k+1,n,h,_=>by
  by_cases hn:n<128
  ·rw[sx hn];simp
  ·rw[wO hn]
   have hk:0<k:=by
    rcases Nat.eq_zero_or_pos k with rfl|hk
    ·simp at h;omega
    ·exact hk
   have:=EK k (n / 128) (by rw[Nat.pow_succ] at h;omega) hk
   simp only[List.length_cons];omega
theorem zz (n:Int):fC n<1099511627776:=by unfold fC maxN;split<;>split at* <;>omega
theorem nY (n:Int): (eH (fC n)).length≤6:=EK 6 _ (by have:=zz n;omega) (by omega)
theorem V8: ∀b:BitVec 8,b.toNat<128→(b|||128#8)=b+128#8:=by decide
theorem ws (m:Nat):UInt8.ofInt (m:Int)=UInt8.ofNat m:=by
 apply UInt8.toBitVec_inj.1
 apply BitVec.eq_of_toNat_eq
 simp[UInt8.ofInt,UInt8.ofNat]
 omega
theorem T5 (m:Nat):UInt8.ofInt ((m:Int)%128) |||128=UInt8.ofNat (m%128+128):=by
 rw[show((m:Int)%128)=((m%128:Nat):Int) by omega,ws]
 apply UInt8.toBitVec_inj.1
 have h:=V8 (BitVec.ofNat 8 (m%128)) (by simp[BitVec.toNat_ofNat];omega)
 have h1: (UInt8.ofNat (m%128) |||128).toBitVec=BitVec.ofNat 8 (m%128) |||128#8:=rfl
 rw[h1,h]
 apply BitVec.eq_of_toNat_eq
 simp[UInt8.ofNat]
structure NG where
 m:Nat
 pre:List UInt8
 D:aA
theorem Ih (b:Nat) (X:aA) (l:List UInt8) (x:Value) (b2 off:Nat) (ls:List Int) (arr:Array Value) (E:TypeId) (fz:Nat×Nat) (w:World) (hB:BldAt b l X) (hX: ∀p,p∈X→w.heap[p.1]? =some p.2) (hn: (keys X).Nodup)
  (hS:OneS vi 0 w x ls b2 off arr E fz) (aO:0<ls.length→b2∉keys X) (hl:l.length+ls.length*6<34359738368):
  Rets Tryz.prog 171 #[vp b 0,x] w (XS w X (fun v D=>v= .tuple #[]∧BldAt b (l++ka ls) D)):=by
 refine Rets.enterX Tryz.func171 rfl (rs:= []) Tryz.results171 Tryz.ntmps171 hX hn ?_
 refine kf ?_
 ((try with_reducible refine Cw.go [] ?_);(try simp(disch:=(first|assumption|omega| (simp only[cT,cS,UInt64.reduceToNat];try omega))) only[↓Sx.S0,Sx.S1,Tryz.fx,fm,Nat.reduceAdd,Nat.reducePow,Int.reducePow,Nat.reduceBEq, ↓reduceIte,UInt8.reduceToNat,UInt16.reduceToNat,UInt32.reduceToNat,UInt64.reduceToNat,Int.reduceToNat,hS.len]))
 refine Cw.loopG (G:=WG) [11,12,13,5,14,15,16,17,18,21,22,23,24,25,26,27,28,19,20,29,30,31,32,33,34,35,10] (fun g=> [(10,vi g.g)]) (fun g=>g.D) (fun g=>g.g≤ls.length∧Ext w X g.D∧BldAt b (l++ka (ls.take g.g)) g.D) (fun g=>ls.length - g.g) ⟨0,X⟩ rfl rfl ?_ ?_
 ·exact⟨by simp,Ext.refl _ _,by simpa [ka] using hB⟩
 intro g j hg
 refine kv ?_
 obtain⟨g,D⟩:=g
 simp only at hg ⊢
 obtain⟨Fu,hE,pN⟩:=hg
 by_cases aD:g<ls.length
 ·have rB:=hS.get g aD
  have bY:=hE.old (hS.has (by omega)) (aO (by omega))
  ((try with_reducible refine Cw.go [] ?_);(try simp(disch:=(first|assumption|omega| (simp only[cT,cS,UInt64.reduceToNat];try omega))) only[↓Sx.S0,Sx.S1,Tryz.fx,fm,Nat.reduceAdd,Nat.reducePow,Int.reducePow,Nat.reduceBEq, ↓reduceIte,UInt8.reduceToNat,UInt16.reduceToNat,UInt32.reduceToNat,UInt64.reduceToNat,Int.reduceToNat,Sx.loadV_one,bY,rB,hS.idx]))
  refine Ow.minI rfl rfl rfl ?_
  refine Ow.maxI rfl rfl rfl ?_
  have ll: (if(if maxN<ls.getD g 0 then maxN else ls.getD g 0)>0 then(if maxN<ls.getD g 0 then maxN else ls.getD g 0) else 0)=(fC (ls.getD g 0):Int):=by
   unfold fC;omega
  have WQ: (if(if 1099511627775<ls.getD g 0 then 1099511627775 else ls.getD g 0)>0 then(if 1099511627775<ls.getD g 0 then 1099511627775 else ls.getD g 0) else 0)=(fC (ls.getD g 0):Int):=ll
  rw[WQ]
  have hcb:=zz (ls.getD g 0)
  have gG: (ka (ls.take g)).length≤g*6:=by
   unfold ka
   rw[List.length_flatten,List.map_map]
   have: ∀ (q:List Int),(q.map (List.length∘fun n=>eH (fC n))).sum≤q.length*6:=by
    intro q
    induction q with
    |nil=>simp
    |cons y r ih=>have:=nY y;simp only[List.map_cons,List.sum_cons,List.length_cons,Function.comp];omega
   have h2:=this (ls.take g)
   rw[List.length_take] at h2
   have:min g ls.length*6≤g*6:=Nat.mul_le_mul_right _ (Nat.min_le_left _ _)
   omega
  have da:=nY (ls.getD g 0)
  have E4:ka (ls.take (g+1))=ka (ls.take g)++eH (fC (ls.getD g 0)):=by
   unfold ka
   rw[List.take_succ_eq_append_getElem aD,List.map_append,List.flatten_append,List.getD_eq_getElem?_getD,List.getElem?_eq_getElem aD]
   simp only[List.map_cons,List.map_nil,List.flatten_cons,List.flatten_nil,List.append_nil,Option.getD_some]
  generalize fC (ls.getD g 0)=m0 at*
  refine ko @fm ?_
  first|with_reducible refine ks [] @fm ?_|refine kp @fm ?_
  refine Cw.loopG (G:=NG) [17,18,21,22,23,24,25,26,27,28,19,20,5] (fun q=> [(5,vi q.m)]) (fun q=>q.D) (fun q=>q.m≤m0∧Ext w X q.D∧eH m0=q.pre++eH q.m∧BldAt b (l++ka (ls.take g)++q.pre) q.D) (fun q=>q.m) ⟨m0,[],D⟩ rfl rfl ?_ ?_
  ·exact⟨Nat.le_refl _,hE,rfl,by rwa [List.append_nil]⟩
  intro q jq hq
  refine kv ?_
  obtain⟨m,pre,D1⟩:=q
  simp only at hq ⊢
  obtain⟨hqm,cm,oU,fK⟩:=hq
  have oT:=congrArg List.length oU
  rw[List.length_append] at oT
  by_cases hm:m<128
  ·first|with_reducible refine ks [] @fm ?_|refine kp @fm ?_
   rw[sx hm] at oU oT
   have aL: (l++ka (ls.take g)++pre).length+1<34359738368:=by
    rw[List.length_append,List.length_append]
    simp only[List.length_cons,List.length_nil] at oT
    omega
   refine Ow.callX (Y:= []) (by simp) rfl rfl Tryz.call205 (fun w' aB hX hn=>ZM b D1 _ _ w' fK hX hn (by omega)) (fun v2 D2 hC be=> ?_)
   rw[List.append_nil]
   obtain⟨rfl,dI⟩:=be
   rw[ws] at dI
   refine ko @fm ?_
   first|with_reducible refine ks [] @fm ?_|refine kp @fm ?_
   refine Again.mk (WG.mk (g+1) D2) (by show ls.length - (g+1)<ls.length - g;omega) ⟨by show g+1≤ls.length;omega,cm.came0 hC, ?_⟩ rfl rfl
   show BldAt b (l++ka (ls.take (g+1))) D2
   rw[E4,oU,←List.append_assoc,←List.append_assoc]
   exact dI
  ·first|with_reducible refine ks [] @fm ?_|refine kp @fm ?_
   rw[wO hm] at oU oT
   have aL: (l++ka (ls.take g)++pre).length+1<34359738368:=by
    rw[List.length_append,List.length_append]
    simp only[List.length_cons] at oT
    omega
   refine Ow.callX (Y:= []) (by simp) rfl rfl Tryz.call205 (fun w' aB hX hn=>ZM b D1 _ _ w' fK hX hn (by omega)) (fun v2 D2 hC be=> ?_)
   rw[List.append_nil]
   obtain⟨rfl,dI⟩:=be
   rw[T5] at dI
   refine ko @fm ?_
   first|with_reducible refine ks [] @fm ?_|refine kp @fm ?_
   refine Again.mk (NG.mk (m / 128) (pre++ [UInt8.ofNat (m%128+128)]) D2) (by show m / 128<m;omega) ⟨by show m / 128≤m0;omega,cm.came0 hC, ?_, ?_⟩ rfl rfl
   ·show eH m0=pre++ [UInt8.ofNat (m%128+128)]++eH (m / 128)
    rw[oU];simp
   ·show BldAt b (l++ka (ls.take g)++ (pre++ [UInt8.ofNat (m%128+128)])) D2
    rw[←List.append_assoc]
    exact dI
 ·obtain rfl:g=ls.length:=by omega
  first|with_reducible refine ks [] @fm ?_|refine kp @fm ?_
  refine⟨_,(ke @fm), ?_⟩
  rw[List.take_length] at pN
  exact⟨hE,rfl,pN⟩
end Go.Proofs
end
section
open Go Go.Proofs Go.Sx
namespace Go.Proofs
set_option maxRecDepth 10000
set_option maxHeartbeats 1000000
set_option linter.unusedSimpArgs false
set_option linter.defProp false
def jC:=And.intro (And.intro (@xy) (@xx)) (And.intro (@nilW) (And.intro (@BK) (@Hh)))
theorem BldAt.app {b:Nat} {l:List UInt8} {X Y:aA} (h:BldAt b l X):BldAt b l (X++Y):=by
 obtain⟨p,v,h1,h2,h3,h4⟩:=h
 exact⟨p,v,bL h1,h2,h3.app,h4⟩
def eo (s:List UInt8):List UInt8:=eH (fC s.length)++s
def mo (ls:List (List UInt8)):List UInt8:=(ls.map eo).flatten
theorem Ps (n:Int):ka [n]=eH (fC n):=by simp[ka]
theorem LQ (ls:List (List UInt8)) (g:Nat) (h:g<ls.length):mo (ls.take (g+1))=mo (ls.take g)++eo (ls.getD g []):=by
 unfold mo
 rw[List.take_succ_eq_append_getElem h,List.map_append,List.flatten_append,List.getD_eq_getElem?_getD,List.getElem?_eq_getElem h]
 simp only[List.map_cons,List.map_nil,List.flatten_cons,List.flatten_nil,List.append_nil,Option.getD_some]
theorem V7_ (ls:List (List UInt8)) (g:Nat): (mo (ls.take g)).length≤ (mo ls).length:=by
 conv=>rhs;rw[←List.take_append_drop g ls]
 unfold mo
 rw[List.map_append,List.flatten_append,List.length_append];omega
theorem NA (b:Nat) (X:aA) (l:List UInt8) (x:Value) (b2 off:Nat) (ls:List (List UInt8)) (arr:Array Value) (E:TypeId) (fz:Nat×Nat) (w:World) (hB:BldAt b l X) (hX: ∀p,p∈X→w.heap[p.1]? =some p.2) (hn: (keys X).Nodup)
  (hS:StrS w x ls b2 off arr E fz) (aO:0<ls.length→b2∉keys X) (hl:l.length+ (mo ls).length<17179869184) (Fy:ls.length<17179869184):
  Rets Tryz.prog 134 #[vp b 0,x] w (XS w X (fun v D=>v= .tuple #[]∧BldAt b (l++mo ls) D)):=by
 refine Rets.enterX Tryz.func134 rfl (rs:= []) Tryz.results134 Tryz.ntmps134 hX hn ?_
 refine kf ?_
 ((try with_reducible refine Cw.go [] ?_);(try simp(disch:=(first|assumption|omega| (simp only[cT,cS,UInt64.reduceToNat];try omega))) only[↓Sx.S0,Sx.S1,Tryz.fx,jC,Nat.reduceAdd,Nat.reducePow,Int.reducePow,Nat.reduceBEq, ↓reduceIte,UInt8.reduceToNat,UInt16.reduceToNat,UInt32.reduceToNat,UInt64.reduceToNat,Int.reduceToNat,hS.len]))
 refine Cw.loopG (G:=WG) [9,10,11,5,12,13,14,15,16,17,18,19,20,21,8] (fun g=> [(8,vi g.g)]) (fun g=>g.D) (fun g=>g.g≤ls.length∧Ext w X g.D∧BldAt b (l++mo (ls.take g.g)) g.D) (fun g=>ls.length - g.g) ⟨0,X⟩ rfl rfl ?_ ?_
 ·exact⟨by simp,Ext.refl _ _,by simpa [mo] using hB⟩
 intro g j hg
 refine kv ?_
 obtain⟨g,D⟩:=g
 simp only at hg ⊢
 obtain⟨Fu,hE,pN⟩:=hg
 by_cases aD:g<ls.length
 ·have rB:=hS.get g aD
  have bY:=hE.old (hS.has (by omega)) (aO (by omega))
  have hsu:=LQ ls g aD
  have dN:=V7_ ls (g+1)
  have cN:=congrArg List.length hsu
  rw[List.length_append] at cN
  have me: (eo (ls.getD g [])).length=(eH (fC (ls.getD g []).length)).length+ (ls.getD g []).length:=by unfold eo;rw[List.length_append]
  ((try with_reducible refine Cw.go [] ?_);(try simp(disch:=(first|assumption|omega| (simp only[cT,cS,UInt64.reduceToNat];try omega))) only[↓Sx.S0,Sx.S1,Tryz.fx,jC,Nat.reduceAdd,Nat.reducePow,Int.reducePow,Nat.reduceBEq, ↓reduceIte,UInt8.reduceToNat,UInt16.reduceToNat,UInt32.reduceToNat,UInt64.reduceToNat,Int.reduceToNat,Sx.loadV_one,bY,rB,hS.idx]))
  refine Ow.buildSlice (e:=3) #[vi (ls.getD g []).length] rfl rfl (by kernel_rfl) fun b3 ed gI=> ?_
  refine ko @jC ?_
  refine Ow.callX (Y:= [(b3, .cells #[vi (ls.getD g []).length] 3 (0,0))]) (by simp) rfl rfl Tryz.call171 (fun w' aB hX hn=>Ih b D _ _ b3 0 [((ls.getD g []).length:Int)] _ _ _ w' pN hX hn (OneS.lit [((ls.getD g []).length:Int)] rfl rfl (aB.has _ _ (List.mem_append_right _ List.mem_cons_self))) (fun _ hm=>Nat.lt_irrefl _ (ae ed hm)) (by rw[List.length_append];simp only[List.length_cons,List.length_nil];omega)) (fun v2 D2 hC be=> ?_)
  obtain⟨rfl,dI⟩:=be
  have cP:=(hE.app (o:= .cells #[vi (ls.getD g []).length] 3 (0,0)) gI).came hC
  rw[Ps] at dI
  have n8:=BldAt.app (Y:= [(b3, .cells #[vi (ls.getD g []).length] 3 (0,0))]) dI
  generalize D2++ [(b3,Obj.cells #[vi (ls.getD g []).length] 3 (0,0))]=D3 at*
  refine ko @jC ?_
  first|with_reducible refine ks [] @jC ?_|refine kp @jC ?_
  refine Ow.buildSlice (e:=9) #[vs (ls.getD g [])] rfl rfl (by kernel_rfl) fun b4 gS dg=> ?_
  refine ko @jC ?_
  refine Ow.callX (Y:= [(b4, .cells #[vs (ls.getD g [])] 9 (0,0))]) (by simp) rfl rfl Tryz.call133 (fun w' aB hX hn=>zu b D3 _ _ b4 0 [ls.getD g []] _ _ _ w' n8 hX hn (StrS.lit [ls.getD g []] rfl rfl (aB.has _ _ (List.mem_append_right _ List.mem_cons_self))) (fun _ hm=>Nat.lt_irrefl _ (ae gS hm)) (by rw[List.length_append,List.length_append];simp only[List.flatten_cons,List.flatten_nil,List.append_nil];omega) (by simp)) (fun v4 D4 cv bK=> ?_)
  obtain⟨rfl,pM⟩:=bK
  have gQ:=(cP.app (o:= .cells #[vs (ls.getD g [])] 9 (0,0)) dg).came cv
  have n9:=BldAt.app (Y:= [(b4, .cells #[vs (ls.getD g [])] 9 (0,0))]) pM
  generalize D4++ [(b4,Obj.cells #[vs (ls.getD g [])] 9 (0,0))]=D5 at*
  refine ko @jC ?_
  first|with_reducible refine ks [] @jC ?_|refine kp @jC ?_
  refine Again.mk (WG.mk (g+1) D5) (by show ls.length - (g+1)<ls.length - g;omega) ⟨by show g+1≤ls.length;omega,gQ, ?_⟩ rfl rfl
  show BldAt b (l++mo (ls.take (g+1))) D5
  rw[hsu]
  simpa [eo] using n9
 ·obtain rfl:g=ls.length:=by omega
  first|with_reducible refine ks [] @jC ?_|refine kp @jC ?_
  refine⟨_,(ke @jC), ?_⟩
  rw[List.take_length] at pN
  exact⟨hE,rfl,pN⟩
structure IdL where
 l:List UInt8
 h:l.length=32
def eZ (x:IdL):List Value:=x.l.map v8
def id0:IdL:=⟨List.replicate 32 0,by simp⟩
theorem qH (x:IdL): (eZ x).toArray=a8 x.l:=rfl
theorem Jk (b:Nat) (X:aA) (l:List UInt8) (w:World) (hB:BldAt b l X) (hX: ∀p,p∈X→w.heap[p.1]? =some p.2) (hn: (keys X).Nodup) (hl:l.length<34359738368):
  Rets Tryz.prog 135 #[vp b 0] w (XS w X (fun v _=>v=vs l)):=by
 refine Rets.enterX Tryz.func135 rfl (rs:= [.tmp 2]) Tryz.results135 Tryz.ntmps135 hX hn ?_
 refine kf ?_
 first|with_reducible refine ks [] @jC ?_|refine kp @jC ?_
 refine Ow.callX (Y:= []) (by simp) rfl rfl Tryz.call172 (fun w' aB hX hn=>JC b X l w' hB hX hn hl) (fun v2 D2 hC be=> ?_)
 subst be
 rw[List.append_nil]
 refine ko @jC ?_
 first|with_reducible refine ks [] @jC ?_|refine kp @jC ?_
 refine⟨_,(ke @jC), ?_⟩
 exact⟨(Ext.refl _ _).came0 hC,rfl⟩
end Go.Proofs
end
section
open Go Go.Proofs Go.Sx
namespace Go.Proofs
set_option maxRecDepth 10000
set_option maxHeartbeats 1000000
set_option linter.unusedSimpArgs false
theorem rT (s:List UInt8) (a e:Int) (E:TypeId) (n:Nat):aI (some (false,n)) (some (.cells #[vs s,vi a,vi e] E (0,0))) 0=some (vs s):=(rfl)
theorem rX (s:List UInt8) (a e:Int) (E:TypeId) (n:Nat):aI (some (false,n)) (some (.cells #[vs s,vi a,vi e] E (0,0))) 1=some (vi a):=(rfl)
theorem re (s:List UInt8) (a e:Int) (E:TypeId) (n:Nat):aI (some (false,n)) (some (.cells #[vs s,vi a,vi e] E (0,0))) 2=some (vi e):=(rfl)
theorem ro (s:List UInt8) (a e x:Int) (E:TypeId):ab (some (false,1)) (some (.cells #[vs s,vi a,vi e] E (0,0))) 1 (vi x)=some (.cells #[vs s,vi x,vi e] E (0,0)):=by
 simp[ab,fJ,vi,Value.cells,Value.oneCell']
theorem rm (s:List UInt8) (a e x:Int) (E:TypeId):ab (some (false,1)) (some (.cells #[vs s,vi a,vi e] E (0,0))) 2 (vi x)=some (.cells #[vs s,vi a,vi x] E (0,0)):=by
 simp[ab,fJ,vi,Value.cells,Value.oneCell']
theorem nilR (b o:Nat):aT Tryz.prog .eql 210 (vp b o) (.pointer none)=some (.bool false):=by
 simp[aT,eqX,eM,eA,Tryz.underlying210,vp]
theorem ul:aT Tryz.prog .eql 210 (.pointer none) (.pointer none)=some (.bool true):=by
 simp[aT,eqX,eM,eA,Tryz.underlying210]
theorem ug (b o:Nat):aT Tryz.prog .neq 210 (vp b o) (.pointer none)=some (.bool true):=by
 simp[aT,eqX,eM,eA,Tryz.underlying210,vp]
theorem uf:aT Tryz.prog .neq 210 (.pointer none) (.pointer none)=some (.bool false):=by
 simp[aT,eqX,eM,eA,Tryz.underlying210]
set_option linter.defProp false
def bG:=And.intro (And.intro (And.intro (@rT) (@rX)) (And.intro (@re) (@ro))) (And.intro (And.intro (@rm) (@nilR)) (And.intro (@ul) (And.intro (@ug) (@uf))))
theorem Ep (b:Nat) (s:List UInt8) (a e:Int) (w:World) (ho:w.heap[b]? =some (.cells #[vs s,vi a,vi e] 250 (0,0))):
  Rets Tryz.prog 176 #[vp b 0] w (fun v D=>v=vi e∧D= []):=by
 refine Rets.enterV Tryz.func176 rfl (rs:= [.tmp 2]) Tryz.results176 Tryz.ntmps176 ?_
 refine kf ?_
 first|with_reducible refine ks [] (And.intro @bG @ho) ?_|refine kp (And.intro @bG @ho) ?_
 refine⟨_,(ke @bG),trivial, ?_⟩
 rfl
theorem Qu (b:Nat) (s:List UInt8) (a e:Int) (w:World) (ho:w.heap[b]? =some (.cells #[vs s,vi a,vi e] 250 (0,0))):
  Rets Tryz.prog 178 #[vp b 0] w (fun v D=>v=vi a∧D= []):=by
 refine Rets.enterV Tryz.func178 rfl (rs:= [.tmp 2]) Tryz.results178 Tryz.ntmps178 ?_
 refine kf ?_
 first|with_reducible refine ks [] (And.intro @bG @ho) ?_|refine kp (And.intro @bG @ho) ?_
 refine⟨_,(ke @bG),trivial, ?_⟩
 rfl
theorem Nj (b:Nat) (s:List UInt8) (a e:Int) (w:World) (ho:w.heap[b]? =some (.cells #[vs s,vi a,vi e] 250 (0,0))):
  Rets Tryz.prog 142 #[vp b 0] w (fun v D=>v=vi (if e≠0 then e else if a<s.length then 5 else 0)∧D= []):=by
 refine Rets.enterV Tryz.func142 rfl (rs:= [.tmp 2]) Tryz.results142 Tryz.ntmps142 ?_
 refine kf ?_
 first|with_reducible refine ks [] @bG ?_|refine kp @bG ?_
 refine Ow.callFV rfl Tryz.call176 (fun w' aB=>Ep b s a e w' (by rw[aB.old b (Array.getElem?_eq_some_iff.1 ho).1 (by simp[keys])];exact ho)) ?_
 refine ko @bG ?_
 first|with_reducible refine ks [] @bG ?_|refine kp @bG ?_
 by_cases he:e=0
 ·first|with_reducible refine ks [] @bG ?_|refine kp @bG ?_
  refine Cw.regionS [b] [0,1,2,4,5,6,3,7,8,9] [] (by kernel_rfl) (by kernel_rfl) (by kernel_rfl) ?_
  simp only[ap, ↓ao, ↓ac, ↓aj, ↓ai,ad]
  refine kq (And.intro @bG @ho) ?_
  try with_reducible refine Ow.nil ?_
  first|with_reducible refine ks [] @bG ?_|refine kp @bG ?_
  refine cdC.splitp (fun hc=> ?_) (fun hc=> ?_)
  ·first|with_reducible refine ks [] @bG ?_|refine kp @bG ?_
   refine⟨_,(ke @bG),trivial, ?_⟩
   simp[hc,he,bu]
  ·first|with_reducible refine ks [] @bG ?_|refine kp @bG ?_
   refine⟨_,(ke @bG),trivial, ?_⟩
   simp[hc,he,bu]
 ·first|with_reducible refine ks [] @bG ?_|refine kp @bG ?_
  refine⟨_,(ke @bG),trivial, ?_⟩
  simp[he,bu]
theorem wW (b:Nat) (s:List UInt8) (a e x y:Int) (w:World) (ho:w.heap[b]? =some (.cells #[vs s,vi a,vi e] 250 (0,0))):
  Rets Tryz.prog 177 #[vp b 0,vi x,vi y] w (fun v D=> ∃o,D= [(b,o)]∧v= .tuple #[]∧o= .cells #[vs s,vi (if e=0 then y else a),vi (if e=0 then x else e)] 250 (0,0)):=by
 refine Rets.enterM Tryz.func177 rfl (rs:= []) Tryz.results177 Tryz.ntmps177 ho ?_
 refine kf ?_
 first|with_reducible refine ks [] @bG ?_|refine kp @bG ?_
 by_cases he:e=0
 ·first|with_reducible refine ks [] @bG ?_|refine kp @bG ?_
  refine⟨_,_,_,(ke @bG),rfl,trivial, ?_⟩
  simp[he,bu]
 ·first|with_reducible refine ks [] @bG ?_|refine kp @bG ?_
  refine⟨_,_,_,(ke @bG),rfl,trivial, ?_⟩
  simp[he,bu]
def az (s:List UInt8) (a:Nat) (e n:Int):List UInt8×Nat×Int:=
 if e≠0 then([],a,e) else if n<0 then([],a,2) else if(s.length:Int) - a<n then([],a,3) else((s.drop a).take n.toNat,a+n.toNat,0)
theorem Ho (b:Nat) (s:List UInt8) (a:Nat) (e n:Int) (w:World) (ha:a≤s.length) (hs:s.length<9223372036854775808) (ho:w.heap[b]? =some (.cells #[vs s,vi a,vi e] 250 (0,0))):
  Rets Tryz.prog 140 #[vp b 0,vi n] w (fun v D=> ∃o,D= [(b,o)]∧v=vs (az s a e n).1∧o= .cells #[vs s,vi (az s a e n).2.1,vi (az s a e n).2.2] 250 (0,0)):=by
 refine Rets.enterM Tryz.func140 rfl (rs:= [.tmp 4]) Tryz.results140 Tryz.ntmps140 ho ?_
 refine kf ?_
 first|with_reducible refine ks [] @bG ?_|refine kp @bG ?_
 refine Ow.callFV rfl Tryz.call176 (fun w' aB=>Ep b s a e w' (aB.has _ _ List.mem_cons_self)) ?_
 refine ko @bG ?_
 first|with_reducible refine ks [] @bG ?_|refine kp @bG ?_
 unfold az
 by_cases he:e=0
 ·subst he
  rw[if_neg (fun h=>h rfl)]
  first|with_reducible refine ks [] @bG ?_|refine kp @bG ?_
  by_cases hn:n<0
  ·rw[if_pos hn]
   first|with_reducible refine ks [] @bG ?_|refine kp @bG ?_
   refine Ow.callM rfl rfl Tryz.call177 (by simp[keys]) (fun w' aB=>wW b s a 0 2 a w' (aB.has _ _ List.mem_cons_self)) ?_
   refine ko @bG ?_
   first|with_reducible refine ks [] @bG ?_|refine kp @bG ?_
   refine⟨_,_,_,(ke @bG),rfl,trivial, ?_⟩
   exact⟨rfl,rfl⟩
  ·rw[if_neg hn]
   first|with_reducible refine ks [] @bG ?_|refine kp @bG ?_
   refine Cw.regionS [b] [0,1,2,3,6,7,8,4,5,9,10,11,12] [] (by kernel_rfl) (by kernel_rfl) (by kernel_rfl) ?_
   simp only[ap, ↓ao, ↓ac, ↓aj, ↓ai,ad]
   refine kq @bG ?_
   try with_reducible refine Ow.nil ?_
   first|with_reducible refine ks [] @bG ?_|refine kp @bG ?_
   by_cases hl: (s.length:Int) - a<n
   ·rw[if_pos hl]
    first|with_reducible refine ks [] @bG ?_|refine kp @bG ?_
    refine Ow.callM rfl rfl Tryz.call177 (by simp[keys]) (fun w' aB=>wW b s a 0 3 a w' (aB.has _ _ List.mem_cons_self)) ?_
    refine ko @bG ?_
    first|with_reducible refine ks [] @bG ?_|refine kp @bG ?_
    refine⟨_,_,_,(ke @bG),rfl,trivial, ?_⟩
    exact⟨rfl,rfl⟩
   ·rw[if_neg hl]
    obtain⟨m,rfl⟩: ∃m:Nat,n=(m:Int):=⟨n.toNat,by omega⟩
    first|with_reducible refine ks [] @bG ?_|refine kp @bG ?_
    refine Cw.regionS [b] [0,1,2,4,5,6,8,9,10,12,3,7,11,13,14,15] [] (by kernel_rfl) (by kernel_rfl) (by kernel_rfl) ?_
    simp only[ap, ↓ao, ↓ac, ↓aj, ↓ai,ad]
    refine kq @bG ?_
    try with_reducible refine Ow.nil ?_
    first|with_reducible refine ks [] @bG ?_|refine kp @bG ?_
    refine⟨_,_,_,(ke @bG),rfl,trivial, ?_⟩
    refine⟨?_, ?_⟩
    ·simp only[bu,Int.toNat_natCast]
     rw[List.drop_take,Nat.add_sub_cancel_left]
    ·rw[Int.toNat_natCast,Int.natCast_add]
 ·rw[if_pos he]
  first|with_reducible refine ks [] @bG ?_|refine kp @bG ?_
  refine⟨_,_,_,(ke @bG),rfl,trivial, ?_⟩
  exact⟨rfl,rfl⟩
end Go.Proofs
end
section
open Go Go.Proofs Go.Sx
namespace Go.Proofs
set_option maxRecDepth 10000
set_option maxHeartbeats 8000000
set_option linter.unusedSimpArgs false
set_option linter.defProp false
def al:=And.intro (And.intro (And.intro (@rT) (@rX)) (And.intro (@re) (@ro))) (And.intro (And.intro (@rm) (@nilR)) (And.intro (@ul) (And.intro (@ug) (@uf))))
def bU (most:Int):List UInt8→Nat→Nat→Except Nat (Nat×Nat)
 | [],_,_=> .error 3
 |c::r,k,n=>
  if 128≤c.toNat then(if k+1=6 then .error 4 else bU most r (k+1) (n+c.toNat%128*128^k))
  else if c.toNat=0∧0<k then .error 2
  else if n+c.toNat%128*128^k≤1099511627775∧((n+c.toNat%128*128^k:Nat):Int)≤most then .ok (n+c.toNat%128*128^k,k+1)
  else .error 4
def aE (s:List UInt8) (a:Nat) (e most:Int):Int×Nat×Int:=
 if e≠0 then(0,a,e) else match bU most (s.drop a) 0 0 with
  | .ok (n,k)=>(n,a+k,0)
  | .error x=>(0,a,x)
theorem yD {s:List UInt8} {a:Nat} {e most:Int} {n k:Nat} (he:e=0) (h:bU most (s.drop a) 0 0= .ok (n,k)):aE s a e most=((n:Int),a+k,0):=by
 unfold aE;rw[if_neg (by simp[he]),h]
theorem nO {s:List UInt8} {a:Nat} {e most:Int} {x:Nat} (he:e=0) (h:bU most (s.drop a) 0 0= .error x):aE s a e most=(0,a,(x:Int)):=by
 unfold aE;rw[if_neg (by simp[he]),h]
structure NumS where
 more:Bool
 k:Nat
 n:Nat
 x:Nat
theorem Xy (b:Nat) (s:List UInt8) (a:Nat) (e most:Int) (w:World) (ha:a≤s.length) (hs:s.length<9223372036854775808) (ho:w.heap[b]? =some (.cells #[vs s,vi a,vi e] 250 (0,0))):
  Rets Tryz.prog 179 #[vp b 0,vi most] w (fun v D=> ∃o,D= [(b,o)]∧v=vi (aE s a e most).1∧o= .cells #[vs s,vi (aE s a e most).2.1,vi (aE s a e most).2.2] 250 (0,0)):=by
 refine Rets.enterM Tryz.func179 rfl (rs:= [.tmp 4]) Tryz.results179 Tryz.ntmps179 ho ?_
 refine kf ?_
 first|with_reducible refine ks [] @al ?_|refine kp @al ?_
 by_cases he:e=0
 ·subst he
  refine Cw.scopeL (G:=NumS) (fun g=>(if g.more then 1 else 0)) [10,11,12,4,5,6,7,13,14,15,16,8,9,17,18,19,20,21,22,23,24,25,26,27,28,29,30,31,32,33,34,35,36,37,38,39,40,41,42,43,44,45,46,47,48,49,50,51,52,53,54,55,56,57,58,59,60,61,62,63,64,65,66,67,68,69,70,71,72,73] (fun g=>(if g.more then [(5,vi g.n),(6,vi (7*g.k:Nat)),(8,vi 3),(9,vi a)] else [(8,vi g.x),(9,vi a)])) (fun g=> [(b, .cells #[vs s,vi (a+g.k:Nat),vi 0] 250 (0,0))]) (fun g=>a+g.k≤s.length∧(if g.more then bU most (s.drop a) 0 0=bU most (s.drop (a+g.k)) g.k g.n∧g.n<128^g.k∧g.k<6 else bU most (s.drop a) 0 0= .error g.x)) (fun g=>(if g.more then 7 - g.k else 0)) ?_ ?_ ?_
  ·intro g
   obtain⟨m,k,n,x⟩:=g
   cases m<;>rfl
  ·intro g j hg
   obtain⟨m,k,n,x⟩:=g
   obtain⟨hk,hg⟩:=hg
   simp only at hk
   cases m with
   |false=>
    simp only[Bool.false_eq_true, ↓reduceIte] at hg ⊢
    simp only[kA,hasL,Bool.or_false,Bool.false_or,Bool.or_true,Bool.true_or,Nat.reduceBEq,beq_self_eq_true, ↓reduceIte,Bool.false_eq_true]
    refine kv ?_
    try with_reducible refine GL ?_
    first|with_reducible refine ks [] @al ?_|refine kp @al ?_
    refine Ow.callM rfl rfl Tryz.call177 (by simp[keys]) (fun w' aB=>wW b s _ 0 x a w' (aB.has _ _ List.mem_cons_self)) ?_
    refine ko @al ?_
    first|with_reducible refine ks [] @al ?_|refine kp @al ?_
    rw[nO rfl hg]
    refine⟨_,_,_,(ke @al),rfl,trivial, ?_⟩
    simp[bu]
   |true=>
    simp only[↓reduceIte] at hg ⊢
    obtain⟨cX,hn,Zw⟩:=hg
    simp only[kA,hasL,Bool.or_false,Bool.false_or,Bool.or_true,Bool.true_or,Nat.reduceBEq,beq_self_eq_true, ↓reduceIte,Bool.false_eq_true]
    refine kv ?_
    try with_reducible refine GL ?_
    first|with_reducible refine ks [] @al ?_|refine kp @al ?_
    refine Cw.regionS [b] [0,1,2,4,5,6,3,7,8,9] [] (by kernel_rfl) (by kernel_rfl) (by kernel_rfl) ?_
    simp only[ap, ↓ao, ↓ac, ↓aj, ↓ai,ad]
    refine kq @al ?_
    try with_reducible refine Ow.nil ?_
    by_cases lC:a+k=s.length
    ·first|with_reducible refine ks [] @al ?_|refine kp @al ?_
     refine Jump.mk (NumS.mk false k n 3) rfl (by show 0<7 - k;omega) ⟨hk, ?_⟩ rfl rfl
     show bU most (s.drop a) 0 0= .error 3
     rw[cX,lC,List.drop_length];rfl
    ·first|with_reducible refine ks [] @al ?_|refine kp @al ?_
     have vE:a+k<s.length:=by omega
     have oC:s.drop (a+k)=s.getD (a+k) 0::s.drop (a+k+1):=by
      rw[List.drop_eq_getElem_cons vE,List.getD_eq_getElem?_getD,List.getElem?_eq_getElem vE];rfl
     rw[oC] at cX
     refine Cw.regionS [b] [0,1,2,4,5,6,3,7,8,9] [] (by kernel_rfl) (by kernel_rfl) (by kernel_rfl) ?_
     simp only[ap, ↓ao, ↓ac, ↓aj, ↓ai,ad]
     refine kq @al ?_
     try with_reducible refine Ow.nil ?_
     generalize s.getD (a+k) 0=c at*
     have hp:128^k≤34359738368:=Nat.pow_le_pow_right (by omega) (show k≤5 by omega)
     have g3:0<128^k:=Nat.pow_pos (by omega)
     have hd: (c%128).toNat=c.toNat%128:=by simp
     have ll:=c.toNat_lt
     have hdm:c.toNat%128*128^k≤127*128^k:=Nat.mul_le_mul_right _ (by omega)
     have E2:aC .shl (vi ((c.toNat%128:Nat):Int)) (vi ((7*k:Nat):Int))=some (vi ((c.toNat%128*128^k:Nat):Int)):=by
      have h2: (2:Int)^ (7*k)=((128^k:Nat):Int):=by
       rw[Int.pow_mul];push_cast;rfl
      have:=BY ((c.toNat%128:Nat):Int) .i64 (7*k) (by rw[h2];refine⟨by omega,by omega, ?_⟩;rw[←Int.natCast_mul];omega)
      rw[h2,←Int.natCast_mul] at this
      exact this
     have vx:aC .or (vi (n:Int)) (vi ((c.toNat%128*128^k:Nat):Int))=some (vi ((n+c.toNat%128*128^k:Nat):Int)):=by
      have:=or_i (n:Int) ((c.toNat%128*128^k:Nat):Int) ⟨by omega,by omega,by omega,by omega⟩
      rw[this]
      congr 3
      rw[Int.toNat_natCast,Int.toNat_natCast,show 128^k=2^ (7*k) by rw[Nat.pow_mul],Nat.mul_comm,Nat.or_comm,←Nat.two_pow_add_eq_or_of_lt (by rw[Nat.pow_mul];exact hn),Nat.add_comm]
     have aD:n+c.toNat%128*128^k<128^ (k+1):=by rw[Nat.pow_succ];omega
     have oX:aC .rem (v8 c) (v8 128)=some (v8 (c%128)):=FM _ _ (by decide)
     first|with_reducible refine ks [] (And.intro @al (And.intro @oX (And.intro @hd (And.intro @E2 (@vx))))) ?_|refine kp (And.intro @al (And.intro @oX (And.intro @hd (And.intro @E2 (@vx))))) ?_
     have dN:decide ((128:UInt8)≤c)=decide (128≤c.toNat):=by simp[UInt8.le_iff_toNat_le]
     cases Ci:decide ((128:UInt8)≤c)
     ·rw[Ci] at dN
      have bN: ¬128≤c.toNat:=of_decide_eq_false dN.symm
      cases hz: (c==0)
      ·have jP: ¬ (c.toNat=0∧0<k):=by
        rintro⟨h0,-⟩
        have:c=0:=UInt8.toNat_inj.1 h0
        rw[this] at hz
        exact absurd hz (by decide)
       first|with_reducible refine ks [] (And.intro @al @hz) ?_|refine kp (And.intro @al @hz) ?_
       by_cases hm:n+c.toNat%128*128^k≤1099511627775
       ·have e1:decide (((n+c.toNat%128*128^k:Nat):Int)≤1099511627775)=true:=decide_eq_true (by omega)
        first|with_reducible refine ks [] (And.intro @al @e1) ?_|refine kp (And.intro @al @e1) ?_
        by_cases lw: ((n+c.toNat%128*128^k:Nat):Int)≤most
        ·first|with_reducible refine ks [] @al ?_|refine kp @al ?_
         rw[yD rfl (by rw[cX,bU,if_neg bN,if_neg jP,if_pos ⟨hm,lw⟩])]
         refine⟨_,_,_,(ke @al),rfl,trivial, ?_⟩
         exact⟨rfl,rfl⟩
        ·first|with_reducible refine ks [] @al ?_|refine kp @al ?_
         refine Ow.callM rfl rfl Tryz.call177 (by simp[keys]) (fun w' aB=>wW b s _ 0 4 a w' (aB.has _ _ List.mem_cons_self)) ?_
         refine ko @al ?_
         first|with_reducible refine ks [] @al ?_|refine kp @al ?_
         rw[nO (x:=4) rfl (by rw[cX,bU,if_neg bN,if_neg jP,if_neg (fun h=>lw h.2)])]
         refine⟨_,_,_,(ke @al),rfl,trivial, ?_⟩
         exact⟨rfl,rfl⟩
       ·have e1:decide (((n+c.toNat%128*128^k:Nat):Int)≤1099511627775)=false:=decide_eq_false (by omega)
        first|with_reducible refine ks [] (And.intro @al @e1) ?_|refine kp (And.intro @al @e1) ?_
        refine Ow.callM rfl rfl Tryz.call177 (by simp[keys]) (fun w' aB=>wW b s _ 0 4 a w' (aB.has _ _ List.mem_cons_self)) ?_
        refine ko @al ?_
        first|with_reducible refine ks [] @al ?_|refine kp @al ?_
        rw[nO (x:=4) rfl (by rw[cX,bU,if_neg bN,if_neg jP,if_neg (fun h=>hm h.1)])]
        refine⟨_,_,_,(ke @al),rfl,trivial, ?_⟩
        exact⟨rfl,rfl⟩
      ·have hcz:c=0:=eq_of_beq hz
       have Fp:c.toNat=0:=by rw[hcz];rfl
       first|with_reducible refine ks [] (And.intro @al @hz) ?_|refine kp (And.intro @al @hz) ?_
       by_cases oI:0<k
       ·first|with_reducible refine ks [] @al ?_|refine kp @al ?_
        refine Jump.mk (NumS.mk false (k+1) n 2) rfl (by show 0<7 - k;omega) ⟨by show a+ (k+1)≤s.length;omega, ?_⟩ rfl rfl
        show bU most (s.drop a) 0 0= .error 2
        rw[cX,bU,if_neg bN,if_pos ⟨Fp,oI⟩]
       ·have jP: ¬ (c.toNat=0∧0<k):=fun h=>oI h.2
        first|with_reducible refine ks [] @al ?_|refine kp @al ?_
        by_cases hm:n+c.toNat%128*128^k≤1099511627775
        ·have e1:decide (((n+c.toNat%128*128^k:Nat):Int)≤1099511627775)=true:=decide_eq_true (by omega)
         first|with_reducible refine ks [] (And.intro @al @e1) ?_|refine kp (And.intro @al @e1) ?_
         by_cases lw: ((n+c.toNat%128*128^k:Nat):Int)≤most
         ·first|with_reducible refine ks [] @al ?_|refine kp @al ?_
          rw[yD rfl (by rw[cX,bU,if_neg bN,if_neg jP,if_pos ⟨hm,lw⟩])]
          refine⟨_,_,_,(ke @al),rfl,trivial, ?_⟩
          exact⟨rfl,rfl⟩
         ·first|with_reducible refine ks [] @al ?_|refine kp @al ?_
          refine Ow.callM rfl rfl Tryz.call177 (by simp[keys]) (fun w' aB=>wW b s _ 0 4 a w' (aB.has _ _ List.mem_cons_self)) ?_
          refine ko @al ?_
          first|with_reducible refine ks [] @al ?_|refine kp @al ?_
          rw[nO (x:=4) rfl (by rw[cX,bU,if_neg bN,if_neg jP,if_neg (fun h=>lw h.2)])]
          refine⟨_,_,_,(ke @al),rfl,trivial, ?_⟩
          exact⟨rfl,rfl⟩
        ·have e1:decide (((n+c.toNat%128*128^k:Nat):Int)≤1099511627775)=false:=decide_eq_false (by omega)
         first|with_reducible refine ks [] (And.intro @al @e1) ?_|refine kp (And.intro @al @e1) ?_
         refine Ow.callM rfl rfl Tryz.call177 (by simp[keys]) (fun w' aB=>wW b s _ 0 4 a w' (aB.has _ _ List.mem_cons_self)) ?_
         refine ko @al ?_
         first|with_reducible refine ks [] @al ?_|refine kp @al ?_
         rw[nO (x:=4) rfl (by rw[cX,bU,if_neg bN,if_neg jP,if_neg (fun h=>hm h.1)])]
         refine⟨_,_,_,(ke @al),rfl,trivial, ?_⟩
         exact⟨rfl,rfl⟩
     ·rw[Ci] at dN
      have bN:128≤c.toNat:=of_decide_eq_true dN.symm
      first|with_reducible refine ks [] @al ?_|refine kp @al ?_
      by_cases Zv:k=5
      ·first|with_reducible refine ks [] @al ?_|refine kp @al ?_
       refine Jump.mk (NumS.mk false (k+1) n 4) rfl (by show 0<7 - k;omega) ⟨by show a+ (k+1)≤s.length;omega, ?_⟩ rfl rfl
       show bU most (s.drop a) 0 0= .error 4
       rw[cX,bU,if_pos bN,if_pos (by omega)]
      ·first|with_reducible refine ks [] @al ?_|refine kp @al ?_
       refine Jump.mk (NumS.mk true (k+1) (n+c.toNat%128*128^k) 0) rfl (by show 7 - (k+1)<7 - k;omega) ⟨by show a+ (k+1)≤s.length;omega, ?_⟩ rfl rfl
       show bU most (s.drop a) 0 0=bU most (s.drop (a+ (k+1))) (k+1) (n+c.toNat%128*128^k)∧n+c.toNat%128*128^k<128^ (k+1)∧k+1<6
       refine⟨?_,aD,by omega⟩
       rw[cX,bU,if_pos bN,if_neg (by omega)]
       rfl
  ·intro key
   have key0:=fun f'=>key (NumS.mk true 0 0 0) f'
   simp only[kA,hasL,Bool.or_false,Bool.false_or,Bool.or_true,Bool.true_or,Nat.reduceBEq,beq_self_eq_true, ↓reduceIte,Bool.false_eq_true] at key0
   clear key
   repeat ((try with_reducible refine Cw.go [999999] ?_);(simp(disch:=(first|assumption|omega| (simp only[cT,cS,UInt64.reduceToNat];try omega))) only[↓Sx.S0,Sx.S1,Tryz.fx,al,Nat.reduceAdd,Nat.reducePow,Int.reducePow,Nat.reduceBEq, ↓reduceIte,UInt8.reduceToNat,UInt16.reduceToNat,UInt32.reduceToNat,UInt64.reduceToNat,Int.reduceToNat]))
   refine Ow.callFV rfl Tryz.call176 (fun w' aB=>Ep b s a 0 w' (aB.has _ _ List.mem_cons_self)) ?_
   refine ko @al ?_
   repeat ((try with_reducible refine Cw.go [999999] ?_);(simp(disch:=(first|assumption|omega| (simp only[cT,cS,UInt64.reduceToNat];try omega))) only[↓Sx.S0,Sx.S1,Tryz.fx,al,Nat.reduceAdd,Nat.reducePow,Int.reducePow,Nat.reduceBEq, ↓reduceIte,UInt8.reduceToNat,UInt16.reduceToNat,UInt32.reduceToNat,UInt64.reduceToNat,Int.reduceToNat]))
   repeat ((try with_reducible refine Cw.go [999999] ?_);(simp(disch:=(first|assumption|omega| (simp only[cT,cS,UInt64.reduceToNat];try omega))) only[↓Sx.S0,Sx.S1,Tryz.fx,al,Nat.reduceAdd,Nat.reducePow,Int.reducePow,Nat.reduceBEq, ↓reduceIte,UInt8.reduceToNat,UInt16.reduceToNat,UInt32.reduceToNat,UInt64.reduceToNat,Int.reduceToNat]))
   refine Cw.regionS [b] [0,1,2,4,3,5] [] (by kernel_rfl) (by kernel_rfl) (by kernel_rfl) ?_
   simp only[ap, ↓ao, ↓ac, ↓aj, ↓ai,ad]
   refine kq @al ?_
   try with_reducible refine Ow.nil ?_
   repeat ((try with_reducible refine Cw.go [999999] ?_);(simp(disch:=(first|assumption|omega| (simp only[cT,cS,UInt64.reduceToNat];try omega))) only[↓Sx.S0,Sx.S1,Tryz.fx,al,Nat.reduceAdd,Nat.reducePow,Int.reducePow,Nat.reduceBEq, ↓reduceIte,UInt8.reduceToNat,UInt16.reduceToNat,UInt32.reduceToNat,UInt64.reduceToNat,Int.reduceToNat]))
   refine Cw.label ?_
   refine key0 _ ⟨by omega,rfl,by omega,by omega⟩ ?_
   rfl
 ·refine Cw.scopeS ?_
  first|with_reducible refine ks [] @al ?_|refine kp @al ?_
  refine Ow.callFV rfl Tryz.call176 (fun w' aB=>Ep b s a e w' (aB.has _ _ List.mem_cons_self)) ?_
  refine ko @al ?_
  first|with_reducible refine ks [] @al ?_|refine kp @al ?_
  unfold aE
  refine⟨_,_,_,(ke @al),rfl,trivial, ?_⟩
  simp[he,bu]
end Go.Proofs
end
section
open Go Go.Proofs Go.Sx
namespace Go.Proofs
set_option maxRecDepth 10000
set_option maxHeartbeats 2000000
set_option linter.unusedSimpArgs false
set_option linter.defProp false
def df:=And.intro (And.intro (And.intro (@rT) (@rX)) (And.intro (@re) (@ro))) (And.intro (And.intro (@rm) (@nilR)) (And.intro (@ul) (And.intro (@ug) (@uf))))
theorem tq (most:Int): ∀ (l:List UInt8) (k n m k':Nat),bU most l k n= .ok (m,k')→k<k'∧k'≤k+l.length
 | [],k,n,m,k',h=>by cases h
 |c::r,k,n,m,k',h=>by
  unfold bU at h
  split at h
  ·split at h
   ·cases h
   ·have:=tq most r (k+1) _ m k' h
    simp only[List.length_cons];omega
  ·split at h
   ·cases h
   ·split at h
    ·cases h;simp only[List.length_cons];omega
    ·cases h
theorem iD {s:List UInt8} {a:Nat} {e most:Int} (ha:a≤s.length):a≤ (aE s a e most).2.1∧(aE s a e most).2.1≤s.length:=by
 unfold aE
 split
 ·exact⟨Nat.le_refl _,ha⟩
 ·cases h:bU most (s.drop a) 0 0 with
  |error x=>exact⟨Nat.le_refl _,ha⟩
  |ok p=>
   obtain⟨n,k⟩:=p
   have:=tq most _ _ _ _ _ h
   rw[List.length_drop] at this
   exact⟨by show a≤a+k;omega,by show a+k≤s.length;omega⟩
theorem wc {s:List UInt8} {a:Nat} {e n:Int} (ha:a≤s.length):a≤ (az s a e n).2.1∧(az s a e n).2.1≤s.length:=by
 unfold az
 split
 ·exact⟨Nat.le_refl _,ha⟩
 ·split
  ·exact⟨Nat.le_refl _,ha⟩
  ·split
   ·exact⟨Nat.le_refl _,ha⟩
   ·exact⟨by show a≤a+n.toNat;omega,by show a+n.toNat≤s.length;omega⟩
def an (s:List UInt8) (a:Nat) (e most:Int):List UInt8×Nat×Int:=
 let p:=aE s a e most
 let q:=az s p.2.1 p.2.2 p.1
 if q.2.2≠0 then([],a,q.2.2) else q
theorem Gm (b:Nat) (s:List UInt8) (a:Nat) (e most:Int) (w:World) (ha:a≤s.length) (hs:s.length<9223372036854775808) (ho:w.heap[b]? =some (.cells #[vs s,vi a,vi e] 250 (0,0))):
  Rets Tryz.prog 141 #[vp b 0,vi most] w (fun v D=> ∃o,D= [(b,o)]∧v=vs (an s a e most).1∧o= .cells #[vs s,vi (an s a e most).2.1,vi (an s a e most).2.2] 250 (0,0)):=by
 refine Rets.enterM Tryz.func141 rfl (rs:= [.tmp 4]) Tryz.results141 Tryz.ntmps141 ho ?_
 refine kf ?_
 first|with_reducible refine ks [] @df ?_|refine kp @df ?_
 refine Ow.callFV rfl Tryz.call178 (fun w' aB=>Qu b s a e w' (aB.has _ _ List.mem_cons_self)) ?_
 refine ko @df ?_
 first|with_reducible refine ks [] @df ?_|refine kp @df ?_
 have hp:=iD (e:=e) (most:=most) ha
 unfold an
 refine Ow.callM rfl rfl Tryz.call179 (by simp[keys]) (fun w' aB=>Xy b s a e most w' ha hs (aB.has _ _ List.mem_cons_self)) ?_
 generalize aE s a e most=p at*
 obtain⟨n,a1,e1⟩:=p
 simp only at hp ⊢
 refine ko @df ?_
 refine Ow.callM rfl rfl Tryz.call140 (by simp[keys]) (fun w' aB=>Ho b s a1 e1 n w' hp.2 hs (aB.has _ _ List.mem_cons_self)) ?_
 have hq:=wc (e:=e1) (n:=n) hp.2
 generalize az s a1 e1 n=q at*
 obtain⟨t,a2,e2⟩:=q
 simp only at hq ⊢
 refine ko @df ?_
 first|with_reducible refine ks [] @df ?_|refine kp @df ?_
 by_cases he:e2=0
 ·first|with_reducible refine ks [] @df ?_|refine kp @df ?_
  refine⟨_,_,_,(ke @df),rfl,trivial, ?_⟩
  simp[he,bu]
 ·first|with_reducible refine ks [] @df ?_|refine kp @df ?_
  refine Ow.minI rfl rfl rfl ?_
  have X5: (if(a:Int)< (a2:Int) then(a:Int) else(a2:Int))=a:=by split<;>omega
  rw[X5]
  refine ko @df ?_
  first|with_reducible refine ks [] @df ?_|refine kp @df ?_
  refine⟨_,_,_,(ke @df),rfl,trivial, ?_⟩
  simp[he,bu]
def z32:List UInt8:=List.replicate 32 0
def idR (s:List UInt8) (a:Nat) (e:Int):List UInt8×Nat×Int:=
 let q:=az s a e 32
 (if q.1.length=32 then q.1 else z32,q.2)
theorem AK {s:List UInt8} {a:Nat} {e:Int} (_ha:a≤s.length): (az s a e 32).1= []∨(az s a e 32).1.length=32:=by
 unfold az
 split
 ·exact .inl rfl
 ·split
  ·exact .inl rfl
  ·split
   ·exact .inl rfl
   ·right
    show((s.drop a).take 32).length=32
    rw[List.length_take,List.length_drop];omega
theorem TY {t:List UInt8} (h:t= []∨t.length=32):fJ (a8 (List.replicate 32 0)) 0 ((t.take (min t.length 32)).map v8)=a8 (if t.length=32 then t else z32):=by
 rcases h with rfl|h
 ·rfl
 ·rw[if_pos h,h,Nat.min_self,List.take_of_length_le (by omega)]
  have:=Aj (t.map v8) [] ((List.replicate 32 (0:UInt8)).map v8) (by simp[h])
  simp only[List.nil_append,List.length_nil] at this
  show fJ ((List.replicate 32 (0:UInt8)).map v8).toArray 0 (t.map v8)=(t.map v8).toArray
  rw[this]
  rw[List.drop_eq_nil_of_le (by simp[h]),List.append_nil]
theorem tO (b:Nat) (s:List UInt8) (a:Nat) (e:Int) (w:World) (ha:a≤s.length) (hs:s.length<9223372036854775808) (ho:w.heap[b]? =some (.cells #[vs s,vi a,vi e] 250 (0,0))):
  Rets Tryz.prog 227 #[vp b 0] w (fun v D=> ∃o,D= [(b,o)]∧v= .agg (a8 (idR s a e).1)∧o= .cells #[vs s,vi (idR s a e).2.1,vi (idR s a e).2.2] 250 (0,0)):=by
 have jO:=(Array.getElem?_eq_some_iff.1 ho).1
 have hq:=AK (e:=e) ha
 unfold idR
 refine Rets.enterM Tryz.func227 rfl (rs:= [.cell 2 84]) Tryz.results227 Tryz.ntmps227 ho ?_
 refine kf ?_
 first|with_reducible refine ks [] @df ?_|refine kp @df ?_
 refine Ow.alloc rfl rfl Tryz.zr84 fun b2 aZ bH=> ?_
 refine ko @df ?_
 first|with_reducible refine ks [] @df ?_|refine kp @df ?_
 refine Ow.alloc rfl rfl Tryz.zr84 fun b3 ed gI=> ?_
 obtain⟨ur,wv,-⟩:=ed
 obtain⟨n4,-⟩:=aZ
 refine ko @df ?_
 first|with_reducible refine ks [] @df ?_|refine kp @df ?_
 refine Cw.regionS [] [0,1,2,3] [] (by kernel_rfl) (by kernel_rfl) (by kernel_rfl) ?_
 simp only[ap, ↓ao, ↓ac, ↓aj, ↓ai,ad]
 refine kq @df ?_
 refine Ow.soft rfl rfl rfl ?_
 refine Ow.callM rfl rfl Tryz.call140 (by simp[keys]) (fun w' aB=>Ho b s a e 32 w' ha hs (aB.has _ _ List.mem_cons_self)) ?_
 generalize az s a e 32=q at*
 obtain⟨t,a2,e2⟩:=q
 simp only at hq ⊢
 try with_reducible refine Ow.nil ?_
 refine⟨fun b hb=>absurd hb (by simp), ?_⟩
 simp(disch:=omega) only[rn]
 refine Ow.soft rfl rfl rfl ?_
 refine Ow.copyText (cs:=a8 (List.replicate 32 0)) (E:=84) (e:=5) rfl rfl Tryz.underlying200 Tryz.ag5 rfl rfl (by simp(disch:=omega) only[p4,ii]) (by rw[rj];simp) ?_
 rw[TY hq]
 have gW: (if t.length=32 then t else z32).length=32:=by
  split
  ·assumption
  ·simp[z32]
 generalize (if t.length=32 then t else z32)=id at*
 try with_reducible refine Ow.nil ?_
 refine⟨fun b hb=>absurd hb (by simp), ?_⟩
 simp(disch:=omega) only[rn,wU]
 refine kq @df ?_
 try with_reducible refine Ow.nil ?_
 first|with_reducible refine ks [] @df ?_|refine kp @df ?_
 refine⟨_,_,_,(ke @df),rfl,⟨bH,gI,trivial⟩, ?_⟩
 exact⟨rfl,rfl⟩
theorem z2 (s:List UInt8) (w:World):
  Rets Tryz.prog 138 #[vs s] w (fun v D=> ∃b,w.heap.size≤b∧v=vp b 0∧D= [(b, .cells #[vs s,vi 0,vi 0] 250 (0,0))]):=by
 refine Rets.enter Tryz.func138 rfl (rs:= [.tmp 2]) Tryz.results138 Tryz.ntmps138 ?_
 refine kf ?_
 first|with_reducible refine ks [] @df ?_|refine kp @df ?_
 refine Ow.build (.agg #[vs s,vi 0,vi 0]) rfl (by kernel_rfl) ?_
 refine ko @df ?_
 refine Ow.box rfl rfl fun b1 aQ aF=> ?_
 refine ko @df ?_
 first|with_reducible refine ks [] @df ?_|refine kp @df ?_
 refine⟨_,(by simp only[Yi,zJ,At,cu,d8,yU];rfl),b1,aF,rfl, ?_⟩
 rfl
end Go.Proofs
end
section
open Go Go.Proofs Go.Sx
namespace Go.Proofs
set_option maxRecDepth 10000
set_option maxHeartbeats 4000000
set_option linter.unusedSimpArgs false
set_option linter.defProp false
def aU:=And.intro (And.intro (And.intro (@ay) (@wR)) (And.intro (@wP) (And.intro (@wK) (@ax)))) (And.intro (And.intro (@rT) (@rX)) (And.intro (@re) (And.intro (@ro) (@rm))))
theorem HV (b:Nat) (s:List UInt8) (a:Nat) (e n:Int) (w:World) (ha:a≤s.length) (hs:s.length<1099511627776) (ho:w.heap[b]? =some (.cells #[vs s,vi a,vi e] 217 (0,0))):
  Rets Tryz.prog 182 #[vp b 0,vi n] w (fun v D=> ∃o,D= [(b,o)]∧v=vs (az s a e n).1∧o= .cells #[vs s,vi (az s a e n).2.1,vi (az s a e n).2.2] 217 (0,0)):=by
 refine Rets.enterM Tryz.func182 rfl (rs:= [.tmp 4]) Tryz.results182 Tryz.ntmps182 ho ?_
 refine kf ?_
 first|with_reducible refine ks [] @aU ?_|refine kp @aU ?_
 unfold az
 by_cases he:e=0
 ·subst he
  rw[if_neg (fun h=>h rfl)]
  first|with_reducible refine ks [] @aU ?_|refine kp @aU ?_
  by_cases hn:n<0
  ·rw[if_pos hn]
   first|with_reducible refine ks [] @aU ?_|refine kp @aU ?_
   refine⟨_,_,_,(ke @aU),rfl,trivial, ?_⟩
   exact⟨rfl,rfl⟩
  ·rw[if_neg hn]
   first|with_reducible refine ks [] @aU ?_|refine kp @aU ?_
   refine Cw.regionS [b] [0,1,2,5,6,7,10,3,4,8,9,11] [] (by kernel_rfl) (by kernel_rfl) (by kernel_rfl) ?_
   simp only[ap, ↓ao, ↓ac, ↓aj, ↓ai,ad]
   refine kq @aU ?_
   try with_reducible refine Ow.nil ?_
   first|with_reducible refine ks [] @aU ?_|refine kp @aU ?_
   by_cases hl: (s.length:Int) - a<n
   ·rw[if_pos hl]
    first|with_reducible refine ks [] @aU ?_|refine kp @aU ?_
    refine⟨_,_,_,(ke @aU),rfl,trivial, ?_⟩
    exact⟨rfl,rfl⟩
   ·rw[if_neg hl]
    obtain⟨m,rfl⟩: ∃m:Nat,n=(m:Int):=⟨n.toNat,by omega⟩
    first|with_reducible refine ks [] @aU ?_|refine kp @aU ?_
    refine Cw.regionS [b] [0,1,2,4,5,6,8,9,10,12,3,7,11,13,14,15] [] (by kernel_rfl) (by kernel_rfl) (by kernel_rfl) ?_
    simp only[ap, ↓ao, ↓ac, ↓aj, ↓ai,ad]
    refine kq @aU ?_
    try with_reducible refine Ow.nil ?_
    first|with_reducible refine ks [] @aU ?_|refine kp @aU ?_
    refine⟨_,_,_,(ke @aU),rfl,trivial, ?_⟩
    refine⟨?_, ?_⟩
    ·simp only[bu,Int.toNat_natCast]
     rw[List.drop_take,Nat.add_sub_cancel_left]
    ·rw[Int.toNat_natCast,Int.natCast_add]
 ·rw[if_pos he]
  first|with_reducible refine ks [] @aU ?_|refine kp @aU ?_
  refine⟨_,_,_,(ke @aU),rfl,trivial, ?_⟩
  exact⟨rfl,rfl⟩
theorem GZ (b:Nat) (s:List UInt8) (a e:Int) (w:World) (ho:w.heap[b]? =some (.cells #[vs s,vi a,vi e] 217 (0,0))):
  Rets Tryz.prog 145 #[vp b 0] w (fun v D=>v=vi (if e≠0 then e else if a<s.length then 5 else 0)∧D= []):=by
 refine Rets.enterV Tryz.func145 rfl (rs:= [.tmp 2]) Tryz.results145 Tryz.ntmps145 ?_
 refine kf ?_
 first|with_reducible refine ks [] (And.intro @aU @ho) ?_|refine kp (And.intro @aU @ho) ?_
 by_cases he:e=0
 ·first|with_reducible refine ks [] @aU ?_|refine kp @aU ?_
  refine Cw.regionS [b] [0,1,2,4,5,6,3,7,8,9] [] (by kernel_rfl) (by kernel_rfl) (by kernel_rfl) ?_
  simp only[ap, ↓ao, ↓ac, ↓aj, ↓ai,ad]
  refine kq (And.intro @aU @ho) ?_
  try with_reducible refine Ow.nil ?_
  first|with_reducible refine ks [] @aU ?_|refine kp @aU ?_
  refine cdC.splitp (fun hc=> ?_) (fun hc=> ?_)
  ·first|with_reducible refine ks [] @aU ?_|refine kp @aU ?_
   refine⟨_,(ke @aU),trivial, ?_⟩
   simp[hc,he,bu]
  ·first|with_reducible refine ks [] @aU ?_|refine kp @aU ?_
   refine⟨_,(ke @aU),trivial, ?_⟩
   simp[hc,he,bu]
 ·first|with_reducible refine ks [] (And.intro @aU @ho) ?_|refine kp (And.intro @aU @ho) ?_
  refine⟨_,(ke @aU),trivial, ?_⟩
  simp[he,bu]
structure KN where
 k:Nat
 n:Nat
theorem Gf (b:Nat) (s:List UInt8) (a:Nat) (e most:Int) (w:World) (ha:a≤s.length) (hs:s.length<1099511627776) (ho:w.heap[b]? =some (.cells #[vs s,vi a,vi e] 217 (0,0))):
  Rets Tryz.prog 146 #[vp b 0,vi most] w (fun v D=> ∃o,D= [(b,o)]∧v=vi (aE s a e most).1∧o= .cells #[vs s,vi (aE s a e most).2.1,vi (aE s a e most).2.2] 217 (0,0)):=by
 refine Rets.enterM Tryz.func146 rfl (rs:= [.tmp 4]) Tryz.results146 Tryz.ntmps146 ho ?_
 refine kf ?_
 first|with_reducible refine ks [] @aU ?_|refine kp @aU ?_
 by_cases he:e=0
 ·subst he
  first|with_reducible refine ks [] @aU ?_|refine kp @aU ?_
  refine Cw.loopG (G:=KN) [14,15,18,19,20,21,22,23,24,25,26,27,28,29,30,31,32,4,33,34,35,36,37,38,39,40,41,42,43,44,8,45,46,47,48,49,50,5,51,52,6,53,54,55,56,57,58,59,60,61,62,63,64,65,66,67,68,69,70,71,72,73,74,75,76,77,78,79,80,81,82,83,84,16,17,7] (fun g=> [(5,vi g.n),(6,vi (128^g.k:Nat)),(7,vi g.k)]) (fun g=> [(b, .cells #[vs s,vi a,vi 0] 217 (0,0))]) (fun g=>g.k≤6∧(g.k<6→bU most (s.drop a) 0 0=bU most (s.drop (a+g.k)) g.k g.n∧a+g.k≤s.length∧g.n<128^g.k)∧(g.k=6→bU most (s.drop a) 0 0= .error 4)) (fun g=>6 - g.k) ⟨0,0⟩ rfl rfl ?_ ?_
  ·exact⟨by simp,fun _=>⟨rfl,by simpa using ha,by simp⟩,fun h=>by cases h⟩
  intro g j hg
  refine kv ?_
  obtain⟨k,n⟩:=g
  simp only at hg ⊢
  obtain⟨Zw,jR,lm⟩:=hg
  by_cases hk:k<6
  ·obtain⟨cX,vE,hn⟩:=jR hk
   first|with_reducible refine ks [] @aU ?_|refine kp @aU ?_
   refine Cw.regionS [b] [0,1,2,4,6,7,8,3,5,9,10,11] [] (by kernel_rfl) (by kernel_rfl) (by kernel_rfl) ?_
   simp only[ap, ↓ao, ↓ac, ↓aj, ↓ai,ad]
   refine kq @aU ?_
   try with_reducible refine Ow.nil ?_
   first|with_reducible refine ks [] @aU ?_|refine kp @aU ?_
   by_cases lC:a+k=s.length
   ·first|with_reducible refine ks [] @aU ?_|refine kp @aU ?_
    rw[nO (x:=3) rfl (by rw[cX,lC,List.drop_length];rfl)]
    refine⟨_,_,_,(ke @aU),rfl,trivial, ?_⟩
    exact⟨rfl,rfl⟩
   ·have DA:a+k<s.length:=by omega
    have oC:s.drop (a+k)=s.getD (a+k) 0::s.drop (a+k+1):=by
     rw[List.drop_eq_getElem_cons DA,List.getD_eq_getElem?_getD,List.getElem?_eq_getElem DA];rfl
    rw[oC] at cX
    first|with_reducible refine ks [] @aU ?_|refine kp @aU ?_
    refine Cw.regionS [b] [0,1,2,4,5,6,8,3,7,9,10,11,12] [] (by kernel_rfl) (by kernel_rfl) (by kernel_rfl) ?_
    simp only[ap, ↓ao, ↓ac, ↓aj, ↓ai,ad]
    have DN: ((a:Int)+ (k:Int))=((a+k:Nat):Int):=by omega
    refine kq (And.intro @aU @DN) ?_
    try with_reducible refine Ow.nil ?_
    generalize s.getD (a+k) 0=c at*
    have hp:128^k≤34359738368:=Nat.pow_le_pow_right (by omega) (show k≤5 by omega)
    have g3:0<128^k:=Nat.pow_pos (by omega)
    have ll:=c.toNat_lt
    have hdm:c.toNat%128*128^k≤127*128^k:=Nat.mul_le_mul_right _ (by omega)
    have sJ: ((c.toNat:Int)%128)=((c.toNat%128:Nat):Int):=by omega
    have Dh:aC .mul (vi ((c.toNat%128:Nat):Int)) (vi ((128^k:Nat):Int))=some (vi ((c.toNat%128*128^k:Nat):Int)):=by
     rw[yq _ _ (by rw[←Int.natCast_mul];omega),←Int.natCast_mul]
    have Dt: (((128^k:Nat):Int)*128)=((128^ (k+1):Nat):Int):=by rw[Nat.pow_succ,Int.natCast_mul];rfl
    have aD:n+c.toNat%128*128^k<128^ (k+1):=by rw[Nat.pow_succ];omega
    first|with_reducible refine ks [] (And.intro @aU (And.intro @sJ (And.intro @Dh (@Dt)))) ?_|refine kp (And.intro @aU (And.intro @sJ (And.intro @Dh (@Dt)))) ?_
    rw[show((n:Int)+ ((c.toNat%128*128^k:Nat):Int))=((n+c.toNat%128*128^k:Nat):Int) from(Int.natCast_add _ _).symm]
    by_cases bN:128≤c.toNat
    ·first|with_reducible refine ks [] @aU ?_|refine kp @aU ?_
     refine Again.mk (KN.mk (k+1) (n+c.toNat%128*128^k)) (by show 6 - (k+1)<6 - k;omega) ⟨by show k+1≤6;omega,fun h=>⟨?_,by show a+ (k+1)≤s.length;omega,aD⟩,fun h=> ?_⟩ rfl rfl
     ·show bU most (s.drop a) 0 0=bU most (s.drop (a+ (k+1))) (k+1) (n+c.toNat%128*128^k)
      have h':k+1<6:=h
      rw[cX,bU,if_pos bN,if_neg (by omega)]
      rfl
     ·have h':k+1=6:=h
      rw[cX,bU,if_pos bN,if_pos h']
    ·by_cases hz:c.toNat=0
     ·have e0: ((c.toNat:Int)==0)=true:=by simp[hz]
      first|with_reducible refine ks [] (And.intro @aU @e0) ?_|refine kp (And.intro @aU @e0) ?_
      by_cases oI:0<k
      ·first|with_reducible refine ks [] @aU ?_|refine kp @aU ?_
       rw[nO (x:=2) rfl (by rw[cX,bU,if_neg bN,if_pos ⟨hz,oI⟩])]
       refine⟨_,_,_,(ke @aU),rfl,trivial, ?_⟩
       exact⟨rfl,rfl⟩
      ·have jP: ¬ (c.toNat=0∧0<k):=fun h=>oI h.2
       first|with_reducible refine ks [] @aU ?_|refine kp @aU ?_
       by_cases hm:n+c.toNat%128*128^k≤1099511627775
       ·have e1:decide ((1099511627775:Int)< ((n+c.toNat%128*128^k:Nat):Int))=false:=decide_eq_false (by omega)
        first|with_reducible refine ks [] (And.intro @aU @e1) ?_|refine kp (And.intro @aU @e1) ?_
        by_cases lw: ((n+c.toNat%128*128^k:Nat):Int)≤most
        ·first|with_reducible refine ks [] @aU ?_|refine kp @aU ?_
         rw[yD rfl (by rw[cX,bU,if_neg bN,if_neg jP,if_pos ⟨hm,lw⟩])]
         refine⟨_,_,_,(ke @aU),rfl,trivial, ?_⟩
         exact⟨rfl,rfl⟩
        ·first|with_reducible refine ks [] @aU ?_|refine kp @aU ?_
         rw[nO (x:=4) rfl (by rw[cX,bU,if_neg bN,if_neg jP,if_neg (fun h=>lw h.2)])]
         refine⟨_,_,_,(ke @aU),rfl,trivial, ?_⟩
         exact⟨rfl,rfl⟩
       ·have e1:decide ((1099511627775:Int)< ((n+c.toNat%128*128^k:Nat):Int))=true:=decide_eq_true (by omega)
        first|with_reducible refine ks [] (And.intro @aU @e1) ?_|refine kp (And.intro @aU @e1) ?_
        rw[nO (x:=4) rfl (by rw[cX,bU,if_neg bN,if_neg jP,if_neg (fun h=>hm h.1)])]
        refine⟨_,_,_,(ke @aU),rfl,trivial, ?_⟩
        exact⟨rfl,rfl⟩
     ·have e0: ((c.toNat:Int)==0)=false:=by simp;omega
      have jP: ¬ (c.toNat=0∧0<k):=fun h=>hz h.1
      first|with_reducible refine ks [] (And.intro @aU @e0) ?_|refine kp (And.intro @aU @e0) ?_
      by_cases hm:n+c.toNat%128*128^k≤1099511627775
      ·have e1:decide ((1099511627775:Int)< ((n+c.toNat%128*128^k:Nat):Int))=false:=decide_eq_false (by omega)
       first|with_reducible refine ks [] (And.intro @aU @e1) ?_|refine kp (And.intro @aU @e1) ?_
       by_cases lw: ((n+c.toNat%128*128^k:Nat):Int)≤most
       ·first|with_reducible refine ks [] @aU ?_|refine kp @aU ?_
        rw[yD rfl (by rw[cX,bU,if_neg bN,if_neg jP,if_pos ⟨hm,lw⟩])]
        refine⟨_,_,_,(ke @aU),rfl,trivial, ?_⟩
        exact⟨rfl,rfl⟩
       ·first|with_reducible refine ks [] @aU ?_|refine kp @aU ?_
        rw[nO (x:=4) rfl (by rw[cX,bU,if_neg bN,if_neg jP,if_neg (fun h=>lw h.2)])]
        refine⟨_,_,_,(ke @aU),rfl,trivial, ?_⟩
        exact⟨rfl,rfl⟩
      ·have e1:decide ((1099511627775:Int)< ((n+c.toNat%128*128^k:Nat):Int))=true:=decide_eq_true (by omega)
       first|with_reducible refine ks [] (And.intro @aU @e1) ?_|refine kp (And.intro @aU @e1) ?_
       rw[nO (x:=4) rfl (by rw[cX,bU,if_neg bN,if_neg jP,if_neg (fun h=>hm h.1)])]
       refine⟨_,_,_,(ke @aU),rfl,trivial, ?_⟩
       exact⟨rfl,rfl⟩
  ·have vb:k=6:=by omega
   first|with_reducible refine ks [] @aU ?_|refine kp @aU ?_
   rw[nO (x:=4) rfl (lm vb)]
   refine⟨_,_,_,(ke @aU),rfl,trivial, ?_⟩
   exact⟨rfl,rfl⟩
 ·first|with_reducible refine ks [] @aU ?_|refine kp @aU ?_
  unfold aE
  refine⟨_,_,_,(ke @aU),rfl,trivial, ?_⟩
  simp[he,bu]
end Go.Proofs
end
section
open Go Go.Proofs Go.Sx
namespace Go.Proofs
set_option maxRecDepth 10000
set_option maxHeartbeats 4000000
set_option linter.unusedSimpArgs false
set_option linter.defProp false
def dz:=And.intro (And.intro (And.intro (@ay) (@wR)) (And.intro (@wP) (And.intro (@wK) (@ax)))) (And.intro (And.intro (@rT) (@rX)) (And.intro (@re) (And.intro (@ro) (@rm))))
theorem GU (b:Nat) (s:List UInt8) (a:Nat) (e most:Int) (w:World) (ha:a≤s.length) (hs:s.length<1099511627776) (ho:w.heap[b]? =some (.cells #[vs s,vi a,vi e] 217 (0,0))):
  Rets Tryz.prog 144 #[vp b 0,vi most] w (fun v D=> ∃o,D= [(b,o)]∧v=vs (an s a e most).1∧o= .cells #[vs s,vi (an s a e most).2.1,vi (an s a e most).2.2] 217 (0,0)):=by
 refine Rets.enterM Tryz.func144 rfl (rs:= [.tmp 4]) Tryz.results144 Tryz.ntmps144 ho ?_
 refine kf ?_
 first|with_reducible refine ks [] @dz ?_|refine kp @dz ?_
 by_cases he:e=0
 ·first|with_reducible refine ks [] @dz ?_|refine kp @dz ?_
  have hp:=iD (e:=e) (most:=most) ha
  unfold an
  refine Ow.callM rfl rfl Tryz.call146 (by simp[keys]) (fun w' aB=>Gf b s a e most w' ha hs (aB.has _ _ List.mem_cons_self)) ?_
  generalize aE s a e most=p at*
  obtain⟨n,a1,e1⟩:=p
  simp only at hp ⊢
  refine ko @dz ?_
  first|with_reducible refine ks [] @dz ?_|refine kp @dz ?_
  refine Ow.callM rfl rfl Tryz.call182 (by simp[keys]) (fun w' aB=>HV b s a1 e1 n w' hp.2 hs (aB.has _ _ List.mem_cons_self)) ?_
  generalize az s a1 e1 n=q at*
  obtain⟨t,a2,e2⟩:=q
  simp only
  refine ko @dz ?_
  first|with_reducible refine ks [] @dz ?_|refine kp @dz ?_
  by_cases vS:e2=0
  ·first|with_reducible refine ks [] @dz ?_|refine kp @dz ?_
   refine⟨_,_,_,(ke @dz),rfl,trivial, ?_⟩
   simp[vS,bu]
  ·first|with_reducible refine ks [] @dz ?_|refine kp @dz ?_
   refine⟨_,_,_,(ke @dz),rfl,trivial, ?_⟩
   simp[vS,bu]
 ·first|with_reducible refine ks [] @dz ?_|refine kp @dz ?_
  have:an s a e most=([],a,e):=by
   unfold an aE az
   simp[he]
  rw[this]
  refine⟨_,_,_,(ke @dz),rfl,trivial, ?_⟩
  exact⟨rfl,rfl⟩
def iq (t:List UInt8) (g:Nat):List UInt8:=t.take g++List.replicate (32 - g) 0
theorem QB (t:List UInt8) (g:Nat) (h:g≤t.length) (h2:t.length≤32): (iq t g).length=32:=by
 unfold iq;rw[List.length_append,List.length_take,List.length_replicate];omega
theorem Ma (t:List UInt8) (g:Nat) (h:g<t.length) (h2:t.length≤32): (iq t g).set g (t.getD g 0)=iq t (g+1):=by
 unfold iq
 have hl: (t.take g).length=g:=by rw[List.length_take];omega
 obtain⟨m,hm⟩: ∃m,32 - g=m+1:=⟨31 - g,by omega⟩
 rw[hm,List.replicate_succ,List.set_append_right _ _ (by omega),hl,Nat.sub_self,List.set_cons_zero,List.take_succ_eq_append_getElem h,List.getD_eq_getElem?_getD,List.getElem?_eq_getElem h,show 32 - (g+1)=m by omega,List.append_assoc]
 rfl
theorem NS (t:List UInt8) (h:t= []∨t.length=32):iq t t.length=(if t.length=32 then t else z32):=by
 unfold iq
 rcases h with rfl|h
 ·rfl
 ·rw[if_pos h,h,List.take_of_length_le (by omega)];simp
theorem Gi (b:Nat) (s:List UInt8) (a:Nat) (e:Int) (w:World) (ha:a≤s.length) (hs:s.length<1099511627776) (ho:w.heap[b]? =some (.cells #[vs s,vi a,vi e] 217 (0,0))):
  Rets Tryz.prog 147 #[vp b 0] w (fun v D=> ∃o,D= [(b,o)]∧v= .agg (a8 (idR s a e).1)∧o= .cells #[vs s,vi (idR s a e).2.1,vi (idR s a e).2.2] 217 (0,0)):=by
 have jO:=(Array.getElem?_eq_some_iff.1 ho).1
 have hq:=AK (e:=e) ha
 unfold idR
 refine Rets.enterM Tryz.func147 rfl (rs:= [.cell 2 84]) Tryz.results147 Tryz.ntmps147 ho ?_
 refine kf ?_
 first|with_reducible refine ks [] @dz ?_|refine kp @dz ?_
 refine Ow.alloc rfl rfl Tryz.zr84 fun b2 aZ bH=> ?_
 obtain⟨n4,-⟩:=aZ
 refine ko @dz ?_
 first|with_reducible refine ks [] @dz ?_|refine kp @dz ?_
 refine Ow.callM rfl rfl Tryz.call182 (by simp[keys]) (fun w' aB=>HV b s a e 32 w' ha hs (aB.has _ _ List.mem_cons_self)) ?_
 generalize az s a e 32=q at*
 obtain⟨t,a2,e2⟩:=q
 simp only at hq ⊢
 have E5:t.length≤32:=by rcases hq with rfl|h<;>simp_all
 refine ko @dz ?_
 first|with_reducible refine ks [] @dz ?_|refine kp @dz ?_
 refine Ow.alloc rfl rfl Tryz.zr84 fun b3 ed gI=> ?_
 refine ko @dz ?_
 obtain⟨ur,wv,-⟩:=ed
 rw[show a8 (List.replicate 32 0)=a8 (iq t 0) from rfl]
 first|with_reducible refine ks [] @dz ?_|refine kp @dz ?_
 refine Cw.loopG (G:=Nat) [8,9,10,11,14,15,16,17,18,12,13,5] (fun g=> [(5,vi g)]) (fun g=> [(b, .cells #[vs s,vi a2,vi e2] 217 (0,0)),(b2, .cells (a8 z32) 84 (0,0)),(b3, .cells (a8 (iq t g)) 84 (0,0))]) (fun g=>g≤t.length) (fun g=>t.length - g) 0 rfl rfl ?_ ?_
 ·omega
 intro g j hg
 refine kv ?_
 by_cases aD:g<t.length
 ·have gW:=QB t g hg E5
  first|with_reducible refine ks [] @dz ?_|refine kp @dz ?_
  refine Again.mk (g+1) (by omega) (by omega) ?_ rfl
  rw[Ma t g aD E5]
 ·obtain rfl:g=t.length:=by omega
  rw[NS t hq]
  have gW: (if t.length=32 then t else z32).length=32:=by
   split
   ·assumption
   ·simp[z32]
  have hz32:z32.length=32:=by simp[z32]
  generalize (if t.length=32 then t else z32)=id at*
  first|with_reducible refine ks [] @dz ?_|refine kp @dz ?_
  refine⟨_,_,_,(ke @dz),rfl,⟨bH,gI,trivial⟩, ?_⟩
  exact⟨rfl,rfl⟩
end Go.Proofs
end
section
open Go Go.Proofs Go.Sx Go.StP
namespace Go.Proofs
set_option maxRecDepth 10000
set_option maxHeartbeats 4000000
set_option linter.unusedSimpArgs false
structure EntL where
 name:List UInt8
 kind:Int
 id:IdL
def av (r:EntL):List Value:= [vs r.name]++ ([vi r.kind]++ (r.id.l.map v8))
def bJ:EntL:=⟨[],0,id0⟩
theorem m4 (r:EntL): (av r).length=34:=by simp[av,r.id.h]
theorem wI (r:EntL):Value.cells (.agg (av r).toArray)=(av r).toArray:=aV _
theorem ti (r:EntL): (av r).all Value.oneCell'=true:=by
 unfold av
 simp only[List.all_append,List.all_cons,List.all_nil,rr,Bool.and_true,Bool.true_and]
 rfl
theorem io:am Tryz.prog 221=some (.agg (av bJ).toArray):=id (by kernel_rfl)
theorem qV:aM Tryz.prog 221=some (true,34):=id (by kernel_rfl)
theorem qF (r:EntL):av r=([]:List Value)++ (([vs r.name])++ ([vi r.kind]++ (r.id.l.map v8))):=by
 unfold av;simp only[List.append_assoc,List.nil_append,List.append_nil]
theorem HT (r:EntL) (n:Nat) (E:TypeId) (fz:Nat×Nat):aI (some (false,n)) (some (.cells (av r).toArray E fz)) 0=some (vs r.name):=by
 rw[qF];exact lS _ _ _ n E fz (by simp)
theorem xz {w:World} {v:Value} {l:List EntL} {b off:Nat} {arr:Array Value} {E:TypeId} {fz:Nat×Nat} (h:RowS 34 av bJ w v l b off arr E fz) {k:Nat} (hk:k<l.length) (n:Nat):aI (some (false,n)) (some (.cells arr E fz)) (off+k*34+0)=some (vs (l.getD k bJ).name):=by
 rw[RowS.cell h hk (by omega)];generalize l.getD k bJ=r;rw[qF];exact FF _ _ _ (by simp)
theorem Yl (r:EntL) (x:List UInt8) (a:Bool) (E:TypeId):ab (some (a,1)) (some (.cells (av r).toArray E (0,0))) 0 (vs x)=some (.cells (av {r with name:=x}).toArray E (0,0)):=by
 rw[qF r,qF {r with name:=x}];exact gj _ _ _ _ a _ E (by simp) rfl (rfl) rfl (rfl)
theorem qP (r:EntL):av r=(([vs r.name]))++ (([vi r.kind])++ (r.id.l.map v8)):=by
 unfold av;simp only[List.append_assoc,List.nil_append,List.append_nil]
theorem Hf (r:EntL) (n:Nat) (E:TypeId) (fz:Nat×Nat):aI (some (false,n)) (some (.cells (av r).toArray E fz)) 1=some (vi r.kind):=by
 rw[qP];exact lS _ _ _ n E fz (by simp)
theorem Ap {w:World} {v:Value} {l:List EntL} {b off:Nat} {arr:Array Value} {E:TypeId} {fz:Nat×Nat} (h:RowS 34 av bJ w v l b off arr E fz) {k:Nat} (hk:k<l.length) (n:Nat):aI (some (false,n)) (some (.cells arr E fz)) (off+k*34+1)=some (vi (l.getD k bJ).kind):=by
 rw[RowS.cell h hk (by omega)];generalize l.getD k bJ=r;rw[qP];exact FF _ _ _ (by simp)
theorem Yp (r:EntL) (x:Int) (a:Bool) (E:TypeId):ab (some (a,1)) (some (.cells (av r).toArray E (0,0))) 1 (vi x)=some (.cells (av {r with kind:=x}).toArray E (0,0)):=by
 rw[qP r,qP {r with kind:=x}];exact gj _ _ _ _ a _ E (by simp) rfl (rfl) rfl (rfl)
theorem qQ (r:EntL):av r=(([vs r.name])++ ([vi r.kind]))++ ((r.id.l.map v8)++ (([]:List Value))):=by
 unfold av;simp only[List.append_assoc,List.nil_append,List.append_nil]
theorem HI (r:EntL) (E:TypeId) (fz:Nat×Nat):aI (some (true,32)) (some (.cells (av r).toArray E fz)) 2=some (Value.agg (a8 r.id.l)):=by
 rw[qQ,xu _ _ _ E fz (by simp) (by simp[r.id.h])];rfl
theorem Ue (r:EntL): (av r).toArray.extract 2 34=a8 r.id.l:=by
 rw[qQ];exact Bc (o:=2) (n:=32) _ _ _ (by simp) (by simp[r.id.h])
theorem Qg {w:World} {v:Value} {l:List EntL} {b off:Nat} {arr:Array Value} {E:TypeId} {fz:Nat×Nat} (h:RowS 34 av bJ w v l b off arr E fz) {k:Nat} (hk:k<l.length):aI (some (true,32)) (some (.cells arr E fz)) (off+k*34+2)=some (Value.agg (a8 (l.getD k bJ).id.l)):=by
 rw[RowS.part h m4 hk (by omega) (by omega),Ue]
theorem yp (r:EntL) (x:IdL) (a:Bool) (E:TypeId):ab (some (a,32)) (some (.cells (av r).toArray E (0,0))) 2 (Value.agg (a8 x.l))=some (.cells (av {r with id:=x}).toArray E (0,0)):=by
 rw[qQ r,qQ {r with id:=x}];exact gj _ _ _ _ a _ E (by simp) (by simp[r.id.h]) (aV _) (by simp[x.h]) (rr _)
theorem y3 (r:EntL) (E:TypeId) (fz:Nat×Nat):aI (some (true,34)) (some (.cells (av r).toArray E fz)) 0=some (.agg (av r).toArray):=rV _ E fz 34 (by rw[List.size_toArray,m4])
theorem Oc (old:Array Value) (r:EntL) (a:Bool) (E:TypeId) (h:old.size=34):ab (some (a,34)) (some (.cells old E (0,0))) 0 (.agg (av r).toArray)=some (.cells (av r).toArray E (0,0)):=xh _ a old E (m4 r) (ti r) h
theorem xO (r r':EntL) (a:Bool) (E:TypeId):ab (some (a,34)) (some (.cells (av r').toArray E (0,0))) 0 (.agg (av r).toArray)=some (.cells (av r).toArray E (0,0)):=Oc _ r a E (by rw[List.size_toArray,m4])
theorem Tg {w:World} {v:Value} {l:List EntL} {b off:Nat} {arr:Array Value} {E:TypeId} {fz:Nat×Nat} (h:RowS 34 av bJ w v l b off arr E fz) {k:Nat} (hk:k<l.length):aI (some (true,34)) (some (.cells arr E fz)) (off+k*34)=some (.agg (av (l.getD k bJ)).toArray):=RowS.load h m4 (by omega) hk
theorem Tz (a b:List UInt8): (!(Op.bytesLess a b||a==b))=ltB b a:=by
 cases h:ltB a b
 ·have h':Op.bytesLess a b=false:=h
  rw[h',Bool.false_or]
  by_cases e:a=b
  ·subst e;rw[h];simp
  ·rw[Hj h e];simp[e]
 ·have h':Op.bytesLess a b=true:=h
  rw[h',PR h];rfl
set_option linter.defProp false
end Go.Proofs
end
section
open Go Go.Proofs Go.Sx Go.StP
namespace Go.Proofs
set_option maxRecDepth 10000
set_option maxHeartbeats 4000000
set_option linter.unusedSimpArgs false
section
variable {α:Type} {a x m y c:List α} {i k:Nat} {z:α}
end
set_option linter.defProp false
end Go.Proofs
end
section
open Go Go.Proofs Go.Sx Go.StP
namespace Go.Proofs
set_option maxRecDepth 10000
set_option maxHeartbeats 4000000
set_option linter.unusedSimpArgs false
abbrev Sr (l:List EntL):Prop:=StP.Sorted EntL.name l
abbrev StE (l l':List EntL):Prop:=StP.St EntL.name l l'
set_option linter.defProp false
end Go.Proofs
end
section
open Go Go.Proofs Go.Sx Go.StP
namespace Go.Proofs
set_option maxRecDepth 10000
set_option maxHeartbeats 4000000
set_option linter.unusedSimpArgs false
set_option linter.defProp false
end Go.Proofs
end
section
open Go Go.Proofs Go.Sx Go.StP
namespace Go.Proofs
set_option maxRecDepth 10000
set_option maxHeartbeats 4000000
set_option linter.unusedSimpArgs false
set_option linter.defProp false
end Go.Proofs
end
section
open Go Go.Proofs Go.Sx Go.StP
namespace Go.Proofs
set_option maxRecDepth 10000
set_option maxHeartbeats 4000000
set_option linter.unusedSimpArgs false
end Go.Proofs
end
section
open Go Go.Proofs Go.Sx Go.StP
namespace Go.Proofs
set_option maxRecDepth 10000
set_option maxHeartbeats 4000000
set_option linter.unusedSimpArgs false
abbrev EntS (w:World) (v:Value) (l:List EntL):Prop:=SlV 34 av bJ w v l
set_option linter.defProp false
end Go.Proofs
end
section
open Go Go.Proofs Go.Sx Go.StP
namespace Go.Proofs
set_option maxRecDepth 10000
set_option maxHeartbeats 4000000
set_option linter.unusedSimpArgs false
set_option linter.defProp false
end Go.Proofs
end
section
open Go Go.Proofs Go.Sx Go.StP
namespace Go.Proofs
set_option maxRecDepth 10000
set_option maxHeartbeats 4000000
set_option linter.unusedSimpArgs false
def SortOf (l Z:List EntL):Prop:=Z.length=l.length∧Sr Z∧StE l Z
theorem SortOf.eq {l Z Z':List EntL} (h:SortOf l Z) (h':SortOf l Z'):Z=Z':=StP.St.eq h.2.1 h'.2.1 (h.2.2.symm.trans h'.2.2)
end Go.Proofs
end
section
open Go Go.Proofs Go.Sx
namespace Go.Proofs
set_option maxRecDepth 10000
set_option maxHeartbeats 4000000
set_option linter.unusedSimpArgs false
def badR (c:Int):Bool:=decide (c<33) ||decide (126<c) || (c==47)
def fR (b:UInt8):Bool:=decide (b.toNat<33) ||decide (126<b.toNat) || (b.toNat==47)
theorem eqb (a b:Bool):aT Tryz.prog .eql 4 (.bool a) (.bool b)=some (.bool (a==b)):=by
 simp[aT,eqX,eM,eA,Tryz.underlying4]
theorem t8 (a:Value): (#[a]:Array Value)[0]? =some a:=(rfl)
set_option linter.defProp false
def bZ:=And.intro (And.intro (And.intro (@ay) (And.intro (@wR) (@wP))) (And.intro (And.intro (@wK) (@ax)) (And.intro (@AJ) (@Y7)))) (And.intro (And.intro (And.intro (@Yf) (@YD)) (And.intro (@BN) (@t8))) (And.intro (And.intro (@Sx.tup3_0) (@Sx.tup3_1)) (And.intro (@Sx.tup3_2) (@eqb))))
theorem Ia (c:Int) (w:World):Rets Tryz.prog 249 #[gz c] w (fun v D=>v= .bool (badR c)∧D= []):=by
 refine Rets.enterV Tryz.func249 rfl (rs:= [.tmp 2]) Tryz.results249 Tryz.ntmps249 ?_
 refine kf ?_
 unfold badR
 cases h1:decide (c<33)
 ·cases h2:decide (126<c)
  ·first|with_reducible refine ks [] (And.intro @bZ (And.intro @h1 (@h2))) ?_|refine kp (And.intro @bZ (And.intro @h1 (@h2))) ?_
   refine⟨_,(ke @bZ),trivial, ?_⟩
   simp[bu]
  ·first|with_reducible refine ks [] (And.intro @bZ (And.intro @h1 (@h2))) ?_|refine kp (And.intro @bZ (And.intro @h1 (@h2))) ?_
   refine⟨_,(ke @bZ),trivial, ?_⟩
   simp[bu]
 ·first|with_reducible refine ks [] (And.intro @bZ @h1) ?_|refine kp (And.intro @bZ @h1) ?_
  refine⟨_,(ke @bZ),trivial, ?_⟩
  simp[bu]
theorem RL (l:List UInt8) (i:Nat) (h:i<l.length):badR ((Utf8.decode ⟨l.toArray⟩ i).1:Nat)=fR (l.getD i 0)∧(fR (l.getD i 0)=false→(Utf8.decode ⟨l.toArray⟩ i).2=1):=by
 obtain⟨h0,h1,h2⟩:=Kg l i h
 by_cases hc: (l.getD i 0).toNat<128
 ·rw[h1 hc]
  refine⟨?_,fun _=>rfl⟩
  unfold badR fR
  congr 1
  ·congr 1
   ·apply decide_eq_decide.2;omega
   ·apply decide_eq_decide.2;omega
  ·rw[Bool.eq_iff_iff,beq_iff_eq,beq_iff_eq];omega
 ·have Vs:=h2 (by omega)
  have hb:fR (l.getD i 0)=true:=by
   unfold fR
   rw[decide_eq_true (show 126< (l.getD i 0).toNat by omega)];simp
  rw[hb]
  refine⟨?_,fun h=>by cases h⟩
  unfold badR
  rw[decide_eq_true (show(126:Int)< (((Utf8.decode ⟨l.toArray⟩ i).1:Nat):Int) by omega)];simp
theorem WM_ (s:List UInt8) (k:FuncId) (hk: ∀a w,(callFunc k a).run Tryz.prog w= .ok (.enter k a) w) (hc: ∀c w,Rets Tryz.prog k #[gz c] w (fun v D=>v= .bool (badR c)∧D= [])) (w:World) (hs:s.length<1099511627776):
  Rets Tryz.prog 191 #[vs s, .func (.func k) #[] #[], .bool true] w (fun v D=> ∃n:Int,v=vi n∧(0≤n↔s.any fR=true)∧D= []):=by
 refine Rets.mono (S:=fun v D=>(∃n:Int,v=vi n∧(0≤n↔s.any fR=true))∧D= []) ?_ (by rintro v D ⟨⟨n,h1,h2⟩,h3⟩;exact⟨n,h1,h2,h3⟩)
 refine Rets.enterV Tryz.func191 rfl (rs:= [.tmp 6]) Tryz.results191 Tryz.ntmps191 ?_
 refine kf ?_
 first|with_reducible refine ks [] @bZ ?_|refine kp @bZ ?_
 refine Ow.rangeText rfl rfl Tryz.underlying9 rfl fun b1 aQ aF=> ?_
 refine ko @bZ ?_
 first|with_reducible refine ks [] @bZ ?_|refine kp @bZ ?_
 refine Cw.loopG (G:=Nat) [11,12,13,14,7,8,15,16,17,18,19,20,6] (fun g=> []) (fun g=> [(b1, .stringIter ⟨s.toArray⟩ g)]) (fun g=>g≤s.length∧ ∀i,i<g→fR (s.getD i 0)=false) (fun g=>s.length - g) 0 rfl rfl ?_ ?_
 ·exact⟨by omega,fun i hi=>by omega⟩
 intro g j hg
 refine kv ?_
 obtain⟨Fu,jr⟩:=hg
 by_cases aD:g<s.length
 ·have lk:=RL s g aD
  first|with_reducible refine ks [] @bZ ?_|refine kp @bZ ?_
  refine Ow.nextText rfl rfl rfl (ii _ _ _) aD ?_
  rw[rn]
  generalize x4:Utf8.decode ⟨s.toArray⟩ g=dd at*
  obtain⟨c,n⟩:=dd
  simp only at lk ⊢
  refine ko @bZ ?_
  first|with_reducible refine ks [] @bZ ?_|refine kp @bZ ?_
  refine Ow.callFn1 (v:= .bool (badR c)) (k:=k) rfl rfl rfl hk (fun w' aB=>hc _ w') ?_
  rw[lk.1]
  refine ko @bZ ?_
  cases DF:fR (s.getD g 0)
  ·first|with_reducible refine ks [] @bZ ?_|refine kp @bZ ?_
   refine Again.mk (g+1) (by omega) ⟨by omega,fun i hi=> ?_⟩ ?_ rfl
   ·by_cases WY:i=g
    ·rw[WY];exact DF
    ·exact jr i (by omega)
   ·rw[lk.2 DF]
  ·first|with_reducible refine ks [] @bZ ?_|refine kp @bZ ?_
   refine⟨_,(ke @bZ),⟨aF,trivial⟩, ?_⟩
   refine⟨(g:Int),rfl,⟨fun _=> ?_,fun _=>by omega⟩⟩
   rw[List.any_eq_true]
   refine⟨s.getD g 0, ?_,DF⟩
   rw[List.getD_eq_getElem?_getD,List.getElem?_eq_getElem aD]
   exact List.getElem_mem aD
 ·obtain rfl:g=s.length:=by omega
  first|with_reducible refine ks [] @bZ ?_|refine kp @bZ ?_
  refine Ow.nextOver rfl rfl rfl (ii _ _ _) aD ?_
  refine ko @bZ ?_
  first|with_reducible refine ks [] @bZ ?_|refine kp @bZ ?_
  refine⟨_,(ke @bZ),⟨aF,trivial⟩, ?_⟩
  refine⟨-1,rfl,⟨fun h=>by omega,fun h=> ?_⟩⟩
  rw[List.any_eq_true] at h
  obtain⟨x,hx,hxb⟩:=h
  obtain⟨i,hi,rfl⟩:=List.getElem_of_mem hx
  have:=jr i hi
  rw[List.getD_eq_getElem?_getD,List.getElem?_eq_getElem hi] at this
  exact absurd hxb (by simpa using this)
theorem WA_ (s:List UInt8) (k:FuncId) (hk: ∀a w,(callFunc k a).run Tryz.prog w= .ok (.enter k a) w) (hc: ∀c w,Rets Tryz.prog k #[gz c] w (fun v D=>v= .bool (badR c)∧D= [])) (w:World) (hs:s.length<1099511627776):
  Rets Tryz.prog 160 #[vs s, .func (.func k) #[] #[]] w (fun v D=> ∃n:Int,v=vi n∧(0≤n↔s.any fR=true)∧D= []):=by
 refine Rets.mono (S:=fun v D=>(∃n:Int,v=vi n∧(0≤n↔s.any fR=true))∧D= []) ?_ (by rintro v D ⟨⟨n,h1,h2⟩,h3⟩;exact⟨n,h1,h2,h3⟩)
 refine Rets.enterV Tryz.func160 rfl (rs:= [.tmp 4]) Tryz.results160 Tryz.ntmps160 ?_
 refine kf ?_
 first|with_reducible refine ks [] @bZ ?_|refine kp @bZ ?_
 refine Ow.callF rfl rfl Tryz.call191 (S:=fun _ v D=> ∃n:Int,v=vi n∧(0≤n↔s.any fR=true)∧D= []) (fun w' aB=>WM_ s k hk hc w' hs) ?_
 rintro B v D - - ⟨n,rfl,hn,rfl⟩
 refine⟨_,Mrg.nil, ?_⟩
 refine ko @bZ ?_
 first|with_reducible refine ks [] @bZ ?_|refine kp @bZ ?_
 refine⟨_,(ke @bZ),trivial, ?_⟩
 exact⟨n,rfl,hn⟩
theorem vV_ (s:List UInt8) (k:FuncId) (hk: ∀a w,(callFunc k a).run Tryz.prog w= .ok (.enter k a) w) (hc: ∀c w,Rets Tryz.prog k #[gz c] w (fun v D=>v= .bool (badR c)∧D= [])) (w:World) (hs:s.length<1099511627776):
  Rets Tryz.prog 118 #[vs s, .func (.func k) #[] #[]] w (fun v D=>v= .bool (s.any fR)∧D= []):=by
 refine Rets.enterV Tryz.func118 rfl (rs:= [.tmp 4]) Tryz.results118 Tryz.ntmps118 ?_
 refine kf ?_
 first|with_reducible refine ks [] @bZ ?_|refine kp @bZ ?_
 refine Ow.callF rfl rfl Tryz.call160 (S:=fun _ v D=> ∃n:Int,v=vi n∧(0≤n↔s.any fR=true)∧D= []) (fun w' aB=>WA_ s k hk hc w' hs) ?_
 rintro B v D - - ⟨n,rfl,hn,rfl⟩
 refine⟨_,Mrg.nil, ?_⟩
 refine ko @bZ ?_
 first|with_reducible refine ks [] @bZ ?_|refine kp @bZ ?_
 refine⟨_,(ke @bZ),trivial, ?_⟩
 exact congrArg Value.bool (by rw[Bool.eq_iff_iff,decide_eq_true_eq];exact hn)
theorem KK (s:List UInt8) (w:World) (hs:s.length<1099511627776):
  Rets Tryz.prog 242 #[vs s] w (fun v D=>v= .bool (!(s== [])&&decide (s.length≤32)&& !(s.any fR))∧D= []):=by
 refine Rets.enterV Tryz.func242 rfl (rs:= [.tmp 2]) Tryz.results242 Tryz.ntmps242 ?_
 refine kf ?_
 cases h0: (s != [])
 ·have e0: (s== [])=true:=by simpa using h0
  first|with_reducible refine ks [] (And.intro @bZ @h0) ?_|refine kp (And.intro @bZ @h0) ?_
  refine⟨_,(ke @bZ),trivial, ?_⟩
  simp[bu,e0]
 ·have e0: (s== [])=false:=by simpa using h0
  cases h1:decide ((s.length:Int)≤32)
  ·have e1:decide (s.length≤32)=false:=decide_eq_false (by have:=of_decide_eq_false h1;omega)
   first|with_reducible refine ks [] (And.intro @bZ (And.intro @h0 (@h1))) ?_|refine kp (And.intro @bZ (And.intro @h0 (@h1))) ?_
   refine⟨_,(ke @bZ),trivial, ?_⟩
   simp only[bu,e0,e1,Bool.not_false,Bool.true_and,Bool.false_and,Bool.and_false]
  ·have e1:decide (s.length≤32)=true:=decide_eq_true (by have:=of_decide_eq_true h1;omega)
   first|with_reducible refine ks [] (And.intro @bZ (And.intro @h0 (@h1))) ?_|refine kp (And.intro @bZ (And.intro @h0 (@h1))) ?_
   refine Ow.callFV rfl Tryz.call118 (fun w' aB=>vV_ s 249 Tryz.call249 Ia w' hs) ?_
   refine ko @bZ ?_
   first|with_reducible refine ks [] @bZ ?_|refine kp @bZ ?_
   refine⟨_,(ke @bZ),trivial, ?_⟩
   simp only[bu,e0,e1,Bool.not_false,Bool.true_and]
set_option linter.defProp false
def jD:=And.intro (And.intro (@ay) (@wR)) (And.intro (@wP) (And.intro (@wK) (@ax)))
def jf (s:List UInt8):Bool:= !(s== [])&&decide (s.length≤32)&& !(s.any fR)
theorem Tm (c:UInt8):fR c=(decide (c<33) ||decide (126<c) || (c==47)):=by
 unfold fR
 congr 1
 rw[Bool.eq_iff_iff,beq_iff_eq,beq_iff_eq,←UInt8.toNat_inj];rfl
theorem JN (s:List UInt8) (w:World) (hs:s.length<1099511627776):
  Rets Tryz.prog 183 #[vs s] w (fun v D=>v= .bool (jf s)∧D= []):=by
 refine Rets.enterV Tryz.func183 rfl (rs:= [.tmp 2]) Tryz.results183 Tryz.ntmps183 ?_
 refine kf ?_
 first|with_reducible refine ks [] @jD ?_|refine kp @jD ?_
 refine Cw.loopG (G:=Nat) [4,5,6,7,10,11,12,13,14,15,16,17,18,19,20,21,22,23,24,25,2,8,9,3] (fun g=> [(3,vi g)]) (fun g=> []) (fun g=>g≤s.length∧ ∀i,i<g→fR (s.getD i 0)=false) (fun g=>s.length - g) 0 rfl rfl ?_ ?_
 ·exact⟨by omega,fun i hi=>by omega⟩
 intro g j hg
 refine kv ?_
 obtain⟨Fu,jr⟩:=hg
 by_cases aD:g<s.length
 ·have hb:=Tm (s.getD g 0)
  have vJ:fR (s.getD g 0)=true→jf s=false:=by
   intro h
   have:s.any fR=true:=List.any_eq_true.2 ⟨s.getD g 0,by rw[List.getD_eq_getElem?_getD,List.getElem?_eq_getElem aD];exact List.getElem_mem aD,h⟩
   unfold jf
   rw[this];simp
  have cX:fR (s.getD g 0)=false→ ∀i,i<g+1→fR (s.getD i 0)=false:=fun h i hi=>by
   by_cases WY:i=g
   ·rw[WY];exact h
   ·exact jr i (by omega)
  generalize hc:s.getD g 0=c at*
  cases h1:decide (c<33)
  ·cases h2:decide (126<c)
   ·cases h3: (c==47)
    ·first|with_reducible refine ks [] (And.intro @jD (And.intro @hc (And.intro @h1 (And.intro @h2 (@h3))))) ?_|refine kp (And.intro @jD (And.intro @hc (And.intro @h1 (And.intro @h2 (@h3))))) ?_
     refine Again.mk (g+1) (by omega) ⟨by omega,cX (by rw[hb,h1,h2,h3];rfl)⟩ rfl rfl
    ·first|with_reducible refine ks [] (And.intro @jD (And.intro @hc (And.intro @h1 (And.intro @h2 (@h3))))) ?_|refine kp (And.intro @jD (And.intro @hc (And.intro @h1 (And.intro @h2 (@h3))))) ?_
     rw[vJ (by rw[hb,h1,h2,h3];rfl)]
     refine⟨_,(ke @jD),trivial, ?_⟩
     rfl
   ·first|with_reducible refine ks [] (And.intro @jD (And.intro @hc (And.intro @h1 (@h2)))) ?_|refine kp (And.intro @jD (And.intro @hc (And.intro @h1 (@h2)))) ?_
    rw[vJ (by rw[hb,h1,h2];rfl)]
    refine⟨_,(ke @jD),trivial, ?_⟩
    rfl
  ·first|with_reducible refine ks [] (And.intro @jD (And.intro @hc (@h1))) ?_|refine kp (And.intro @jD (And.intro @hc (@h1))) ?_
   rw[vJ (by rw[hb,h1];simp)]
   refine⟨_,(ke @jD),trivial, ?_⟩
   rfl
 ·obtain rfl:g=s.length:=by omega
  have vF:s.any fR=false:=by
   rw[List.any_eq_false]
   intro x hx
   obtain⟨i,hi,rfl⟩:=List.getElem_of_mem hx
   have:=jr i hi
   rw[List.getD_eq_getElem?_getD,List.getElem?_eq_getElem hi] at this
   simpa using this
  unfold jf
  rw[vF]
  cases h1:decide (1≤ (s.length:Int))
  ·have e0: (s== [])=true:=by
    have:=of_decide_eq_false h1
    rw[List.eq_nil_of_length_eq_zero (show s.length=0 by omega)];rfl
   first|with_reducible refine ks [] (And.intro @jD @h1) ?_|refine kp (And.intro @jD @h1) ?_
   refine⟨_,(ke @jD),trivial, ?_⟩
   simp only[bu,e0,Bool.not_true,Bool.false_and]
  ·have e0: (s== [])=false:=by
    have:=of_decide_eq_true h1
    cases s with
    |nil=>simp at this
    |cons x r=>rfl
   have e1:decide ((s.length:Int)≤32)=decide (s.length≤32):=decide_eq_decide.2 (by omega)
   first|with_reducible refine ks [] (And.intro @jD @h1) ?_|refine kp (And.intro @jD @h1) ?_
   refine⟨_,(ke @jD),trivial, ?_⟩
   simp only[bu,e0,e1,Bool.not_false,Bool.true_and,Bool.and_true]
end Go.Proofs
end
section
open Go Go.Proofs Go.Sx Go.StP
namespace Go.Proofs
set_option maxRecDepth 10000
set_option maxHeartbeats 4000000
set_option linter.unusedSimpArgs false
def dy (l:List EntL) (i:Nat):Bool:=
 jf (l.getD i bJ).name&& ((l.getD i bJ).kind==1|| (l.getD i bJ).kind==2)&& (i==0||ltB (l.getD (i - 1) bJ).name (l.getD i bJ).name)
def lU (l:List EntL):Bool:=decide (l.length≤32)&& (List.range l.length).all (dy l)
theorem sw {l:List EntL} {k:Nat} (hk:k<l.length) (h:dy l k=false):lU l=false:=by
 unfold lU
 have: (List.range l.length).all (dy l)=false:=by
  rw[List.all_eq_false]
  exact⟨k,List.mem_range.2 hk,by simp[h]⟩
 rw[this,Bool.and_false]
theorem yO {l:List EntL} (h: ∀i,i<l.length→dy l i=true):lU l=decide (l.length≤32):=by
 unfold lU
 have: (List.range l.length).all (dy l)=true:=List.all_eq_true.2 fun i hi=>h i (List.mem_range.1 hi)
 rw[this,Bool.and_true]
set_option linter.defProp false
def fH:=And.intro (And.intro (And.intro (@HT) (@Hf)) (And.intro (@HI) (@y3))) (And.intro (And.intro (@xO) (@wI)) (And.intro (@ay) (@ax)))
def nk (l:List EntL):Prop:= ∀i,i<l.length→(l.getD i bJ).name.length<1099511627776
theorem JX (s:List UInt8) (w:World) (hs:s.length<1099511627776):Rets Tryz.prog 242 #[vs s] w (fun v D=>v= .bool (jf s)∧D= []):=KK s w hs
theorem qN {a b:Int} {c:Bool} (h: (a !=b)=c): (a==b)= !c:=by rw[←h];simp[bne]
theorem J5 (v:Value) (l:List EntL) (w:World) (hv:EntS w v l) (hl:l.length<1000000) (g4:nk l):
  Rets Tryz.prog 228 #[v] w (fun v' D=>v'= .bool (lU l)∧D= []):=by
 obtain⟨b,off,arr,E,fz,hr⟩:=hv.row
 have ln:=hv.len
 refine Rets.enterV Tryz.func228 rfl (rs:= [.tmp 2]) Tryz.results228 Tryz.ntmps228 ?_
 refine kf ?_
 first|with_reducible refine ks [] (And.intro @fH @ln) ?_|refine kp (And.intro @fH @ln) ?_
 refine Cw.loopG (G:=Nat) [8,9,10,11,4,3,12,13,14,15,16,17,18,19,20,21,22,23,24,25,26,27,28,29,30,31,32,33,34,35,36,37,38,39,40,2,41,7] (fun g=> [(7,vi g)]) (fun g=> []) (fun g=>g≤l.length∧ ∀i,i<g→dy l i=true) (fun g=>l.length - g) 0 rfl rfl ?_ ?_
 ·exact⟨Nat.zero_le _,fun i hi=>absurd hi (Nat.not_lt_zero i)⟩
 ·intro k jk hk
  refine kv ?_
  obtain⟨h1,h2⟩:=hk
  by_cases hk:k<l.length
  ·have h0:0<l.length:=by omega
   have jO:=hr.lt h0
   have r2:=hr.has h0
   have i2:=hr.idx true k hk
   have l2:=Tg hr hk
   first|with_reducible refine ks [6] (And.intro @fH (And.intro @r2 (And.intro @i2 (@l2)))) ?_|refine kp (And.intro @fH (And.intro @r2 (And.intro @i2 (@l2)))) ?_
   refine Ow.alloc rfl rfl io fun b4 gS dg=> ?_
   simp only[aV,List.nil_append,List.cons_append]
   have hn4:b4≠b:=by omega
   refine ko @fH ?_
   have hs:=g4 k hk
   refine Cw.regionS [b4,b] [0,1,2,3,4,5,6,7,8,9,10,11,12,13,14,15,16,17,18,19,20,21,22,24,23,25,26,27,28] [] (by kernel_rfl) (by kernel_rfl) (by kernel_rfl) ?_
   simp only[ap, ↓ao, ↓ac, ↓aj, ↓ai,ad]
   refine kq @fH ?_
   refine Ow.callFV rfl Tryz.call242 (fun w' aB=>JX (l.getD k bJ).name w' hs) ?_
   cases hn:jf (l.getD k bJ).name
   ·have e0:dy l k=false:=by unfold dy;rw[hn];rfl
    rw[sw hk e0]
    refine kq @fH ?_
    refine⟨_,(ke @fH),⟨dg,trivial⟩, ?_⟩
    rfl
   ·cases dr: ((l.getD k bJ).kind !=1)
    ·have lq: ((l.getD k bJ).kind==1|| (l.getD k bJ).kind==2)=true:=by rw[qN dr];rfl
     by_cases sA:k=0
     ·have d1:decide ((0:Int)< (k:Int))=false:=decide_eq_false (by omega)
      have e1:dy l k=true:=by unfold dy;rw[hn,lq,sA];rfl
      refine kq (And.intro @fH (And.intro @dr (@d1))) ?_
      refine Cw.forgetN [] (by exact⟨dg,trivial⟩) (by intro p hp;simp only[List.mem_cons,List.not_mem_nil,or_false] at hp ⊢;all_goals (first| (rcases hp with rfl|hp<;>simp_all) | (subst hp;simp) |simp_all)) (by simp[keys]<;>omega) ?_
      first|with_reducible refine ks [] @fH ?_|refine kp @fH ?_
      exact Again.mk (k+1) (by omega) ⟨by omega,fun i hi=>by
       rcases Nat.lt_succ_iff_lt_or_eq.1 hi with h|rfl
       ·exact h2 i h
       ·exact e1⟩ rfl rfl
     ·have d1:decide ((0:Int)< (k:Int))=true:=decide_eq_true (by omega)
      have i3:lZ (.sl (true,34)) v (some ((k:Int) - 1))=some (vp b (off+ (k - 1)*34)):=by
       rw[show(k:Int) - 1=((k - 1:Nat):Int) by omega];exact hr.idx true (k - 1) (by omega)
      have l3: ∀n,aI (some (false,n)) (some (.cells arr E fz)) (off+ (k - 1)*34)=some (vs (l.getD (k - 1) bJ).name):=fun n=>xz hr (show k - 1<l.length by omega) n
      have ek: (k==0)=false:=beq_eq_false_iff_ne.2 sA
      cases iQ:Op.bytesLess (l.getD (k - 1) bJ).name (l.getD k bJ).name
      ·have e1:dy l k=false:=by unfold dy;rw[hn,lq,ek];exact iQ
       rw[sw hk e1]
       refine kq (And.intro @fH (And.intro @dr (And.intro @d1 (And.intro @i3 (And.intro @r2 (And.intro @l3 (@iQ))))))) ?_
       refine⟨_,(ke @fH),⟨dg,trivial⟩, ?_⟩
       rfl
      ·have e1:dy l k=true:=by unfold dy;rw[hn,lq,ek];exact iQ
       refine kq (And.intro @fH (And.intro @dr (And.intro @d1 (And.intro @i3 (And.intro @r2 (And.intro @l3 (@iQ))))))) ?_
       refine Cw.forgetN [] (by exact⟨dg,trivial⟩) (by intro p hp;simp only[List.mem_cons,List.not_mem_nil,or_false] at hp ⊢;all_goals (first| (rcases hp with rfl|hp<;>simp_all) | (subst hp;simp) |simp_all)) (by simp[keys]<;>omega) ?_
       first|with_reducible refine ks [] @fH ?_|refine kp @fH ?_
       exact Again.mk (k+1) (by omega) ⟨by omega,fun i hi=>by
        rcases Nat.lt_succ_iff_lt_or_eq.1 hi with h|rfl
        ·exact h2 i h
        ·exact e1⟩ rfl rfl
    ·cases eK: ((l.getD k bJ).kind !=2)
     ·have lq: ((l.getD k bJ).kind==1|| (l.getD k bJ).kind==2)=true:=by rw[qN eK];simp
      by_cases sA:k=0
      ·have d1:decide ((0:Int)< (k:Int))=false:=decide_eq_false (by omega)
       have e1:dy l k=true:=by unfold dy;rw[hn,lq,sA];rfl
       refine kq (And.intro @fH (And.intro @dr (And.intro @eK (@d1)))) ?_
       refine Cw.forgetN [] (by exact⟨dg,trivial⟩) (by intro p hp;simp only[List.mem_cons,List.not_mem_nil,or_false] at hp ⊢;all_goals (first| (rcases hp with rfl|hp<;>simp_all) | (subst hp;simp) |simp_all)) (by simp[keys]<;>omega) ?_
       first|with_reducible refine ks [] @fH ?_|refine kp @fH ?_
       exact Again.mk (k+1) (by omega) ⟨by omega,fun i hi=>by
        rcases Nat.lt_succ_iff_lt_or_eq.1 hi with h|rfl
        ·exact h2 i h
        ·exact e1⟩ rfl rfl
      ·have d1:decide ((0:Int)< (k:Int))=true:=decide_eq_true (by omega)
       have i3:lZ (.sl (true,34)) v (some ((k:Int) - 1))=some (vp b (off+ (k - 1)*34)):=by
        rw[show(k:Int) - 1=((k - 1:Nat):Int) by omega];exact hr.idx true (k - 1) (by omega)
       have l3: ∀n,aI (some (false,n)) (some (.cells arr E fz)) (off+ (k - 1)*34)=some (vs (l.getD (k - 1) bJ).name):=fun n=>xz hr (show k - 1<l.length by omega) n
       have ek: (k==0)=false:=beq_eq_false_iff_ne.2 sA
       cases iQ:Op.bytesLess (l.getD (k - 1) bJ).name (l.getD k bJ).name
       ·have e1:dy l k=false:=by unfold dy;rw[hn,lq,ek];exact iQ
        rw[sw hk e1]
        refine kq (And.intro @fH (And.intro @dr (And.intro @eK (And.intro @d1 (And.intro @i3 (And.intro @r2 (And.intro @l3 (@iQ)))))))) ?_
        refine⟨_,(ke @fH),⟨dg,trivial⟩, ?_⟩
        rfl
       ·have e1:dy l k=true:=by unfold dy;rw[hn,lq,ek];exact iQ
        refine kq (And.intro @fH (And.intro @dr (And.intro @eK (And.intro @d1 (And.intro @i3 (And.intro @r2 (And.intro @l3 (@iQ)))))))) ?_
        refine Cw.forgetN [] (by exact⟨dg,trivial⟩) (by intro p hp;simp only[List.mem_cons,List.not_mem_nil,or_false] at hp ⊢;all_goals (first| (rcases hp with rfl|hp<;>simp_all) | (subst hp;simp) |simp_all)) (by simp[keys]<;>omega) ?_
        first|with_reducible refine ks [] @fH ?_|refine kp @fH ?_
        exact Again.mk (k+1) (by omega) ⟨by omega,fun i hi=>by
         rcases Nat.lt_succ_iff_lt_or_eq.1 hi with h|rfl
         ·exact h2 i h
         ·exact e1⟩ rfl rfl
     ·have e0:dy l k=false:=by
       unfold dy
       rw[hn,qN dr,qN eK];rfl
      rw[sw hk e0]
      refine kq (And.intro @fH (And.intro @dr (@eK))) ?_
      refine⟨_,(ke @fH),⟨dg,trivial⟩, ?_⟩
      rfl
  ·obtain rfl:k=l.length:=by omega
   rw[yO h2]
   first|with_reducible refine ks [] (And.intro @fH @ln) ?_|refine kp (And.intro @fH @ln) ?_
   refine⟨_,(ke @fH),trivial, ?_⟩
   exact congrArg Value.bool (decide_eq_decide.2 (by omega))
end Go.Proofs
end
section
open Go Go.Proofs Go.Sx Go.StP
namespace Go.Proofs
set_option maxRecDepth 10000
set_option maxHeartbeats 4000000
set_option linter.unusedSimpArgs false
set_option linter.defProp false
def iJ:=And.intro (And.intro (And.intro (@HT) (@Hf)) (And.intro (@HI) (@y3))) (And.intro (And.intro (@xO) (@wI)) (And.intro (@ay) (@ax)))
theorem BQ (a b:List UInt8): (Op.bytesLess a b||a==b)= !ltB b a:=by rw[←Tz,Bool.not_not]
theorem Wy_ (v:Value) (l:List EntL) (w:World) (hv:EntS w v l) (hl:l.length<1000000) (g4:nk l):
  Rets Tryz.prog 148 #[v] w (fun v' D=>v'= .bool (lU l)∧D= []):=by
 obtain⟨b,off,arr,E,fz,hr⟩:=hv.row
 have ln:=hv.len
 refine Rets.enterV Tryz.func148 rfl (rs:= [.tmp 2]) Tryz.results148 Tryz.ntmps148 ?_
 refine kf ?_
 by_cases ZR:32<l.length
 ·first|with_reducible refine ks [] (And.intro @iJ @ln) ?_|refine kp (And.intro @iJ @ln) ?_
  have:lU l=false:=by unfold lU;rw[decide_eq_false (by omega),Bool.false_and]
  rw[this]
  refine⟨_,(ke @iJ),trivial, ?_⟩
  rfl
 ·first|with_reducible refine ks [] (And.intro @iJ @ln) ?_|refine kp (And.intro @iJ @ln) ?_
  refine Cw.loopG (G:=Nat) [7,8,9,10,13,14,15,16,17,18,19,20,21,22,23,24,25,26,27,28,29,30,31,32,33,34,35,2,36,37,38,39,40,41,42,43,44,45,46,47,48,49,50,51,11,12,3] (fun g=> [(3,vi g)]) (fun g=> []) (fun g=>g≤l.length∧ ∀i,i<g→dy l i=true) (fun g=>l.length - g) 0 rfl rfl ?_ ?_
  ·exact⟨Nat.zero_le _,fun i hi=>absurd hi (Nat.not_lt_zero i)⟩
  ·intro k jk hk
   refine kv ?_
   obtain⟨h1,h2⟩:=hk
   by_cases hk:k<l.length
   ·have h0:0<l.length:=by omega
    have jO:=hr.lt h0
    have r2:=hr.has h0
    have i2:=hr.idx true k hk
    have m0: ∀n,aI (some (false,n)) (some (.cells arr E fz)) (off+k*34)=some (vs (l.getD k bJ).name):=fun n=>xz hr hk n
    have m1: ∀n,aI (some (false,n)) (some (.cells arr E fz)) (off+k*34+1)=some (vi (l.getD k bJ).kind):=fun n=>Ap hr hk n
    have hs:=g4 k hk
    first|with_reducible refine ks [] (And.intro @iJ (And.intro @ln (And.intro @r2 (And.intro @i2 (And.intro @m0 (@m1)))))) ?_|refine kp (And.intro @iJ (And.intro @ln (And.intro @r2 (And.intro @i2 (And.intro @m0 (@m1)))))) ?_
    refine Ow.callFV rfl Tryz.call183 (fun w' aB=>JN (l.getD k bJ).name w' hs) ?_
    cases hn:jf (l.getD k bJ).name
    ·have e0:dy l k=false:=by unfold dy;rw[hn];rfl
     rw[sw hk e0]
     refine ko @iJ ?_
     refine⟨_,(ke @iJ),trivial, ?_⟩
     rfl
    ·cases dr:decide ((l.getD k bJ).kind<1)
     ·cases eK:decide (2< (l.getD k bJ).kind)
      ·have lq: ((l.getD k bJ).kind==1|| (l.getD k bJ).kind==2)=true:=by
        have q1:=of_decide_eq_false dr
        have q2:=of_decide_eq_false eK
        rcases(show(l.getD k bJ).kind=1∨(l.getD k bJ).kind=2 by omega) with h|h<;>rw[h]<;>rfl
       refine ko (And.intro @iJ (And.intro @r2 (And.intro @i2 (And.intro @m0 (And.intro @m1 (And.intro @dr (@eK))))))) ?_
       by_cases sA:k=0
       ·have d1:decide ((0:Int)< (k:Int))=false:=decide_eq_false (by omega)
        have e1:dy l k=true:=by unfold dy;rw[hn,lq,sA];rfl
        refine Cw.regionS [b] [0,1,2,3,4,5,6,8,9,10,11,12,7,13,14,15] [] (by kernel_rfl) (by kernel_rfl) (by kernel_rfl) ?_
        simp only[ap, ↓ao, ↓ac, ↓aj, ↓ai,ad]
        refine kq (And.intro @iJ @d1) ?_
        exact Again.mk (k+1) (by omega) ⟨by omega,fun i hi=>by
         rcases Nat.lt_succ_iff_lt_or_eq.1 hi with h|rfl
         ·exact h2 i h
         ·exact e1⟩ rfl rfl
       ·have d1:decide ((0:Int)< (k:Int))=true:=decide_eq_true (by omega)
        have i3:lZ (.sl (true,34)) v (some ((k:Int) - 1))=some (vp b (off+ (k - 1)*34)):=by
         rw[show(k:Int) - 1=((k - 1:Nat):Int) by omega];exact hr.idx true (k - 1) (by omega)
        have l3: ∀n,aI (some (false,n)) (some (.cells arr E fz)) (off+ (k - 1)*34)=some (vs (l.getD (k - 1) bJ).name):=fun n=>xz hr (show k - 1<l.length by omega) n
        have ek: (k==0)=false:=beq_eq_false_iff_ne.2 sA
        cases iQ:ltB (l.getD (k - 1) bJ).name (l.getD k bJ).name
        ·have e1:dy l k=false:=by unfold dy;rw[hn,lq,ek];exact iQ
         rw[sw hk e1]
         refine Cw.regionS [b] [0,1,2,3,4,5,6,8,9,10,11,12,7,13,14,15] [] (by kernel_rfl) (by kernel_rfl) (by kernel_rfl) ?_
         simp only[ap, ↓ao, ↓ac, ↓aj, ↓ai,ad]
         refine kq (And.intro @iJ (And.intro @d1 (And.intro @i2 (And.intro @i3 (And.intro @r2 (And.intro @m0 (And.intro @l3 (And.intro @BQ (@iQ))))))))) ?_
         refine⟨_,(ke @iJ),trivial, ?_⟩
         rfl
        ·have e1:dy l k=true:=by unfold dy;rw[hn,lq,ek];exact iQ
         refine Cw.regionS [b] [0,1,2,3,4,5,6,8,9,10,11,12,7,13,14,15] [] (by kernel_rfl) (by kernel_rfl) (by kernel_rfl) ?_
         simp only[ap, ↓ao, ↓ac, ↓aj, ↓ai,ad]
         refine kq (And.intro @iJ (And.intro @d1 (And.intro @i2 (And.intro @i3 (And.intro @r2 (And.intro @m0 (And.intro @l3 (And.intro @BQ (@iQ))))))))) ?_
         exact Again.mk (k+1) (by omega) ⟨by omega,fun i hi=>by
          rcases Nat.lt_succ_iff_lt_or_eq.1 hi with h|rfl
          ·exact h2 i h
          ·exact e1⟩ rfl rfl
      ·have e0:dy l k=false:=by
        have q2:=of_decide_eq_true eK
        unfold dy
        rw[hn,show((l.getD k bJ).kind==1)=false from beq_eq_false_iff_ne.2 (by omega),show((l.getD k bJ).kind==2)=false from beq_eq_false_iff_ne.2 (by omega)];rfl
       rw[sw hk e0]
       refine ko (And.intro @iJ (And.intro @r2 (And.intro @i2 (And.intro @m0 (And.intro @m1 (And.intro @dr (@eK))))))) ?_
       refine⟨_,(ke @iJ),trivial, ?_⟩
       rfl
     ·have e0:dy l k=false:=by
       have q2:=of_decide_eq_true dr
       unfold dy
       rw[hn,show((l.getD k bJ).kind==1)=false from beq_eq_false_iff_ne.2 (by omega),show((l.getD k bJ).kind==2)=false from beq_eq_false_iff_ne.2 (by omega)];rfl
      rw[sw hk e0]
      refine ko (And.intro @iJ (And.intro @r2 (And.intro @i2 (And.intro @m0 (And.intro @m1 (@dr)))))) ?_
      refine⟨_,(ke @iJ),trivial, ?_⟩
      rfl
   ·obtain rfl:k=l.length:=by omega
    rw[yO h2,show decide (l.length≤32)=true from decide_eq_true (by omega)]
    first|with_reducible refine ks [] (And.intro @iJ @ln) ?_|refine kp (And.intro @iJ @ln) ?_
    refine⟨_,(ke @iJ),trivial, ?_⟩
    rfl
end Go.Proofs
end
