/-
  Part 1 of the walk: contracts of the functions that the law reaches, and the calculus they stand on.
  No conditions.
-/
import Derived.Test.YtfdphhalimbpbaaGreatDoorA0
import Derived.RangeFuncLeaves
import Derived.RangeFuncIn
import Derived.RangeFuncSeq
import Derived.RangeFuncRecord
import Derived.TacticsIn
import Derived.Laws.MakeOwn
import Derived.Maps.RangeRun
import Derived.Test.YtfdphhalimbpbaaGreatDoorProg
namespace Go.Sx
open Go
abbrev xk_:=List (List UInt8×List UInt8)
def fnd (k:List UInt8):xk_→Nat→Option (Nat×List UInt8)
 | [],_=>none
 |p::r,i=>if k==p.1 then some (i,p.2) else fnd k r (i+1)
def updV (k v:List UInt8):xk_→xk_
 | []=> [(k,v)]
 |p::r=>if k==p.1 then(p.1,v)::r else p::updV k v r
def delV (k:List UInt8):xk_→xk_
 | []=> []
 |p::r=>if k==p.1 then r else p::delV k r
def ws_ (p:List UInt8×List UInt8):Value×Value:=(vs p.1, .agg (a8 p.2))
def MapR (o:Obj) (m:xk_):Prop:= ∃es clock,o= .map es clock∧es.toList.map (fun e=>(e.key,e.val))=m.map ws_∧(es.toList.map (·.born)++ [clock]).Pairwise (· < ·)
theorem aaS_ {es:List MapEntry} {c:Nat} {e:MapEntry} (h: (es.map (·.born)++ [c]).Pairwise (· < ·)) (he:e.born=c): ((es++ [e]).map (·.born)++ [c+1]).Pairwise (· < ·):=by
 rw[List.map_append,List.map_cons,List.map_nil,he]
 refine List.pairwise_append.2 ⟨h,List.pairwise_singleton _ _, ?_⟩
 intro a ha b hb
 rw[List.mem_singleton] at hb
 subst hb
 rcases List.mem_append.1 ha with hm|hm
 ·have:=(List.pairwise_append.1 h).2.2 a hm c (List.mem_singleton.2 rfl)
  omega
 ·rw[List.mem_singleton] at hm
  omega
theorem Q7_ {es:List MapEntry} {j:Nat} {g:MapEntry→MapEntry} (hg: ∀e,(g e).born=e.born): (es.modify j g).map (·.born)=es.map (·.born):=by
 apply List.ext_getElem?
 intro i
 rw[List.getElem?_map,List.getElem?_map,List.getElem?_modify]
 cases es[i]? with
 |none=>rfl
 |some e=>
  by_cases h:j=i
  ·simp[h,hg]
  ·simp[h]
theorem ae2_ {es:List MapEntry} {c j:Nat} (h: (es.map (·.born)++ [c]).Pairwise (· < ·)): ((es.eraseIdx j).map (·.born)++ [c]).Pairwise (· < ·):=
 h.sublist (((List.eraseIdx_sublist es j).map _).append_right [c])
theorem aao_ (a b:List UInt8): ((ByteArray.mk a.toArray)==(ByteArray.mk b.toArray))=(a==b):=by
 show(a.toArray==b.toArray)=(a==b)
 simp
theorem Ky_ (k:List UInt8): ∀ (es:List MapEntry) (m:xk_) (i:Nat),es.map (fun e=>(e.key,e.val))=m.map ws_→
  Instr.findNow .string (vs k) es i=some ((fnd k m i).map fun p=>(p.1, .agg (a8 p.2)))
 | [],[],i,_=>rfl
 | [],_::_,_,h=>by cases h
 |_::_,[],_,h=>by cases h
 |e::es,p::m,i,h=>by
  simp only[List.map_cons,List.cons.injEq,ws_,Prod.mk.injEq] at h
  obtain⟨⟨h1,h2⟩,h3⟩:=h
  unfold Instr.findNow
  have hs:Instr.sameNow .string (vs k) e.key=some (k==p.1):=by
   rw[h1]
   simp only[vs,Instr.sameNow,aao_]
  rw[hs]
  unfold fnd
  cases hk: (k==p.1)
  ·simp only[Bool.false_eq_true, ↓reduceIte]
   exact Ky_ k es m (i+1) h3
  ·simp[h2]
theorem VJ_ (k:List UInt8): ∀ (m:xk_) (i j:Nat) (v:List UInt8),fnd k m i=some (j,v)→i≤j∧ ∃a,m[j - i]? =some (k,a)∧a=v
 | [],_,_,_,h=>by cases h
 |p::r,i,j,v,h=>by
  unfold fnd at h
  split at h
  ·rename_i hk
   cases h
   refine⟨Nat.le_refl _,p.2, ?_,rfl⟩
   rw[Nat.sub_self,List.getElem?_cons_zero,eq_of_beq hk]
  ·obtain⟨h1,a,h2,h3⟩:=VJ_ k r (i+1) j v h
   refine⟨by omega,a, ?_,h3⟩
   rw[show j - i=(j - (i+1))+1 by omega,List.getElem?_cons_succ];exact h2
theorem WK_ (k v:List UInt8): ∀ (es:List MapEntry) (m:xk_) (i j:Nat) (a:List UInt8),es.map (fun e=>(e.key,e.val))=m.map ws_→fnd k m i=some (j,a)→
  (es.modify (j - i) fun e=>{e with key:=vs k,val:= .agg (a8 v)}).map (fun e=>(e.key,e.val))=(updV k v m).map ws_
 | [],[],_,_,_,_,h=>by cases h
 | [],_::_,_,_,_,h,_=>by cases h
 |_::_,[],_,_,_,h,_=>by cases h
 |e::es,p::m,i,j,a,h,hf=>by
  simp only[List.map_cons,List.cons.injEq,ws_,Prod.mk.injEq] at h
  obtain⟨⟨h1,h2⟩,h3⟩:=h
  unfold fnd at hf
  unfold updV
  split at hf
  ·rename_i hk
   cases hf
   rw[if_pos hk,Nat.sub_self]
   simp only[List.modify_zero_cons,List.map_cons,ws_,eq_of_beq hk]
   rw[h3]
  ·rename_i hk
   have hle:=(VJ_ k m (i+1) j a hf).1
   rw[if_neg hk,show j - i=(j - (i+1))+1 by omega]
   simp only[List.modify_succ_cons,List.map_cons,ws_]
   rw[WK_ k v es m (i+1) j a h3 hf,h1,h2]
theorem aau_ (k v:List UInt8): ∀ (m:xk_) (i:Nat),fnd k m i=none→updV k v m=m++ [(k,v)]
 | [],_,_=>rfl
 |p::r,i,h=>by
  unfold fnd at h
  split at h
  ·cases h
  ·rename_i hk
   unfold updV
   rw[if_neg hk,aau_ k v r (i+1) h];rfl
section
variable {P:Program} {w0:World} {f:Fr} {L:zi_} {N:Fr→zi_→Prop} {ops:Array Oper} {rest:List Oper} {md:Md}
 {d:Option Tmp} {ty:TypeId} {ps:String} {af:Array Edge} {g:Option (Nat×Bool)}
theorem ac5_ {w:World} {t:TypeId} (hu:P.underlying t=some .string) (k:List UInt8) (es:List MapEntry) (m:xk_) (h:es.map (fun e=>(e.key,e.val))=m.map ws_):
  (Instr.findKey t (vs k) es).run P w= .ok ((fnd k m 0).map fun p=>(p.1, .agg (a8 p.2))) w:=by
 simp only[Instr.findKey,Sem.run_bind,run_underlying hu w,Result.andThen_ok,Ky_ k es m 0 h]
 rfl
theorem Qm_ {w:World} {t:TypeId} (hu:P.underlying t=some .string) (e:Bool) (k:List UInt8): (Instr.checkKey e 10000 t (vs k)).run P w= .ok () w:=by
 unfold Instr.checkKey
 simp only[Sem.run_bind,run_underlying hu w,Result.andThen_ok,vs]
 rfl
theorem qQ_ {w:World} {b:Nat} {es:Array MapEntry} {c:Nat} (hb:w.heap[b]? =some (.map es c)): (getObj b).run P w= .ok (.map es c) w:=by
 simp only[getObj,Sem.run,hb]
theorem xX_ {w:World} {b:Nat} {es:Array MapEntry} {c:Nat} (hb:w.heap[b]? =some (.map es c)) (o:Obj): (setObj b o).run P w= .ok () {w with heap:=w.heap.setIfInBounds b o}:=by
 simp only[setObj,Sem.run,hb]
def vm (b:Nat):Value:= .map (some b)
theorem Ow.makeMap {t:TypeId} {md':Md} (he:md.turn=some md') (hs:zt_ ops f ⟨d, .makeMap t none,ty,ps,af,g⟩=false)
  (hn: ∀b o,ju_ L b→w0.heap.size≤b→MapR o []→Ow P w0 ops md' rest (qz_ f d (vm b)) (L++ [(b,o)]) N):
  Ow P w0 ops md (⟨d, .makeMap t none,ty,ps,af,g⟩::rest) f L N:=by
 refine Ow.step he rfl hs fun w hw=> .inl ⟨vm w.heap.size,w.alloc (.map #[] 0),_, ?_,hw.alloc _,hn _ _ (z9_ fun b hb=>hw.lt hb) hw.size ⟨#[],0,rfl,rfl,List.pairwise_singleton _ _⟩⟩
 simp only[execOp,Instr.makeMap,Sem.run_bind,Option.map_none]
 rfl
theorem akR_ {k:List UInt8} {m:xk_} {es:List MapEntry} {j:Nat} {a:List UInt8} (h:es.map (fun e=>(e.key,e.val))=m.map ws_) (hf:fnd k m 0=some (j,a)): ∃e,es[j]? =some e∧e.key=vs k:=by
 obtain⟨-,a',h1,rfl⟩:=VJ_ k m 0 j a hf
 rw[Nat.sub_zero] at h1
 have:=congrArg (·[j]?) h
 simp only[List.getElem?_map,h1,Option.map_some] at this
 cases he:es[j]? with
 |none=>rw[he] at this;cases this
 |some e=>
  rw[he] at this
  simp only[Option.map_some,Option.some.injEq,ws_,Prod.mk.injEq] at this
  exact⟨e,rfl,this.1⟩
theorem Ow.mapUpdate {t kt vt:TypeId} {x y z:Operand} {b:Nat} {o:Obj} {m:xk_} {k v:List UInt8} {md':Md} (he:md.turn=some md') (hs:zt_ ops f ⟨d, .mapUpdate t x y z,ty,ps,af,g⟩=false) (hu:P.underlying t=some (.map kt vt)) (huk:P.underlying kt=some .string)
  (hx:ev f x=vm b) (hy:ev f y=vs k) (hz:ev f z= .agg (a8 v)) (hl:look L b=some o) (hm:MapR o m)
  (hn: ∀o',MapR o' (updV k v m)→Ow P w0 ops md' rest (qz_ f d undef) (setB L b o') N):
  Ow P w0 ops md (⟨d, .mapUpdate t x y z,ty,ps,af,g⟩::rest) f L N:=by
 obtain⟨es,c,rfl,hes,hbo⟩:=hm
 refine Ow.step he rfl hs fun w hw=> ?_
 have hb:=hw.has _ _ (zF_ hl)
 have hfk:=ac5_ (w:=w) huk k es.toList m hes
 cases hf:fnd k m 0 with
 |none=>
  rw[hf] at hfk
  refine .inr (.inl ⟨{w with heap:=w.heap.setIfInBounds b (.map (es.push {key:=vs k,val:= .agg (a8 v),born:=c}) (c+1))},_, ?_,hw.set (zn_ hl) rfl rfl rfl rfl,hn _ ⟨_,_,rfl, ?_,by rw[Array.toList_push];exact aaS_ hbo rfl⟩⟩)
  ·have: (Instr.mapUpdate t (vm b) (vs k) (.agg (a8 v))).run P w= .ok () {w with heap:=w.heap.setIfInBounds b (.map (es.push {key:=vs k,val:= .agg (a8 v),born:=c}) (c+1))}:=by
    simp only[Instr.mapUpdate,vm,Sem.run_bind,run_underlying hu w,Result.andThen_ok,qQ_ hb,Qm_ huk,hfk,Option.map_none,xX_ hb]
   simp only[execOp,Sem.run_bind,hx,hy,hz]
   rw[this];rfl
  ·rw[aau_ k v m 0 hf,Array.toList_push,List.map_append,hes,List.map_append];rfl
 |some p=>
  obtain⟨j,a⟩:=p
  rw[hf] at hfk
  obtain⟨e,hej,hek⟩:=akR_ hes hf
  have hej':es[j]? =some e:=by simpa using hej
  have hkt: (Instr.keyThatStays (((es[j]?).map (·.key)).getD (vs k)) (vs k)).run P w= .ok (vs k) w:=by
   rw[hej',Option.map_some,Option.getD_some,hek]
   unfold Instr.keyThatStays
   have:Instr.sameBits 10000 (vs k) (vs k)=true:=by simp[vs,Instr.sameBits,aao_]
   rw[if_pos this];rfl
  refine .inr (.inl ⟨{w with heap:=w.heap.setIfInBounds b (.map (es.modify j fun e=>{e with key:=vs k,val:= .agg (a8 v)}) c)},_, ?_,hw.set (zn_ hl) rfl rfl rfl rfl,hn _ ⟨_,_,rfl, ?_,by rw[Array.toList_modify,Q7_ (g:=fun e=>{e with key:=vs k,val:= .agg (a8 v)}) fun _=>rfl];exact hbo⟩⟩)
  ·have: (Instr.mapUpdate t (vm b) (vs k) (.agg (a8 v))).run P w= .ok () {w with heap:=w.heap.setIfInBounds b (.map (es.modify j fun e=>{e with key:=vs k,val:= .agg (a8 v)}) c)}:=by
    simp only[Instr.mapUpdate,vm,Sem.run_bind,run_underlying hu w,Result.andThen_ok,qQ_ hb,Qm_ huk,hfk,Option.map_some,hkt,xX_ hb]
   simp only[execOp,Sem.run_bind,hx,hy,hz]
   rw[this];rfl
  ·rw[Array.toList_modify]
   have:=WK_ k v es.toList m 0 j a hes hf
   rw[Nat.sub_zero] at this
   exact this
end
end Go.Sx
namespace Go.Sx
open Go
section
variable {P:Program} {w0:World} {f:Fr} {L:zi_} {N:Fr→zi_→Prop} {ops:Array Oper} {rest:List Oper} {md:Md}
 {d:Option Tmp} {ty:TypeId} {ps:String} {af:Array Edge} {g:Option (Nat×Bool)}
end
end Go.Sx
namespace Go.Sx
open Go
theorem New.mono {n m:Nat} (h:n≤m): ∀ {L:zi_},New m L→New n L
 | [],_=>trivial
 | (_,_)::_,hL=>⟨Nat.le_trans h hL.1,New.mono h hL.2⟩
theorem New.app {n:Nat} {M:zi_}: ∀ {L:zi_},New n L→New n M→New n (L++M)
 | [],_,hM=>hM
 | (_,_)::_,hL,hM=>⟨hL.1,New.app hL.2 hM⟩
section
variable {P:Program} {w0:World} {f:Fr} {L:zi_} {N:Fr→zi_→Prop} {ops:Array Oper} {rest:List Oper} {md:Md}
 {d:Option Tmp} {ty:TypeId} {ps:String} {af:Array Edge} {g:Option (Nat×Bool)}
theorem Ow.callE {l:List Operand} {ts:Array TypeId} {k:FuncId} {b:Nat} {S:Value→Obj→Prop} {md':Md} (he:md.turn=some md')
  (hs:zt_ ops f ⟨d, .call ⟨.value (.func k),l.toArray,ts⟩,ty,ps,af,g⟩=false)
  (hk: ∀a w,(callFunc k a).run P w= .ok (.enter k a) w) (hb:b∈keys L)
  (hc: ∀w,Hp w0 L w→Rets P k (l.map (ev f)).toArray w (fun v D=> ∃o,D= [(b,o)]∧S v o))
  (hn: ∀v o,S v o→Ow P w0 ops md' rest (qz_ f d v) (setB L b o) N):
  Ow P w0 ops md (⟨d, .call ⟨.value (.func k),l.toArray,ts⟩,ty,ps,af,g⟩::rest) f L N:=by
 refine Ow.callF he hs hk (S:=fun _ v D=> ∃o,D= [(b,o)]∧S v o) hc ?_
 rintro B v D - - ⟨o,rfl,hS⟩
 exact⟨_,Mrg.set hb,hn v o hS⟩
theorem Ow.callN {l:List Operand} {ts:Array TypeId} {k:FuncId} {S:Nat→Value→zi_→Prop} {md':Md} (he:md.turn=some md')
  (hs:zt_ ops f ⟨d, .call ⟨.value (.func k),l.toArray,ts⟩,ty,ps,af,g⟩=false)
  (hk: ∀a w,(callFunc k a).run P w= .ok (.enter k a) w)
  (hc: ∀w,Hp w0 L w→Rets P k (l.map (ev f)).toArray w (fun v D=>S w.heap.size v D))
  (hnew: ∀B v D,S B v D→New B D)
  (hn: ∀B v D,ju_ L B→w0.heap.size≤B→S B v D→Ow P w0 ops md' rest (qz_ f d v) (L++D) N):
  Ow P w0 ops md (⟨d, .call ⟨.value (.func k),l.toArray,ts⟩,ty,ps,af,g⟩::rest) f L N:=by
 refine Ow.callF he hs hk (S:=S) hc ?_
 intro B v D ha hB hS
 exact⟨_,Mrg.fresh (hnew B v D hS).le,hn B v D ha hB hS⟩
theorem Cw.forgetN {c:Code} {K:xQ_} (M:zi_) (hnew:New w0.heap.size L) (hM: ∀p,p∈M→p∈L) (hn: (keys M).Nodup) (h:Cw P w0 c f M K):Cw P w0 c f L K:=
 Cw.forget M hM hn (fun p hp _=>hnew.le _ (List.mem_map.2 ⟨p,hp,rfl⟩)) h
end
end Go.Sx
section
namespace Go.Sx
open Go
set_option linter.unusedSimpArgs false
section
variable {P:Program} {w0:World} {L:zi_}
theorem vW_ {w:World} {ts tx ty e:TypeId} {m:Bool×Nat} {z x:Value} {b k:Nat} {new:List Value} (hw:Hp w0 L w)
  (hu:P.underlying ts=some (.slice e)) (hm:zU_ P e=some m) (hi:xB_ P e=true) (hz:z8_ P e=some z) (hzs:z.cells.size=m.2) {d:TypeDesc} (hux:P.underlying tx=some d) (hnx: ∀k,d≠ .int k)
  (hXa: ∀w,Hp w0 L w→AppX P w m.2 x k new) (hbig:2* (0+k)+768≤2^38):
  (k=0∧(Builtin.append_ #[ts,tx] ty #[vsl b 0 0 0,x]).run P w= .ok (vsl b 0 0 0) w)∨
  (0<k∧ ∃v' w' L',(Builtin.append_ #[ts,tx] ty #[vsl b 0 0 0,x]).run P w= .ok v' w'∧Hp w0 L' w'∧Buf L' e m.2 v' (0+k) ([]++new)∧Grew w0 (.slice none 0 0) L L'∧ ∃c,slB v'=some c∧ju_ L c):=by
 obtain⟨i,hi,hb0,hbig⟩:=kt_ hi hbig
 have hti: ∀w,(typeInfo e).run P w= .ok i w:=by
  intro w
  simp only[typeInfo,program,Sem.run_bind]
  show Result.andThen (Result.ok P w) _=_
  simp only[Result.andThen_ok,hi]
  rfl
 have hmd: (match d with| .int _=>true|_=>false)=false:=by
  cases d<;>first|rfl|exact absurd rfl (hnx _)
 have e1: ∀ {α β:Type} (a:α) (f:α→World→Result β),(Sem.run P (pure a) w).andThen f=f a w:=fun _ _=>rfl
 have hX:=hXa w hw
 have hxl:=hX.len
 have hxc:=hX.cells
 have hzv:=js_ (P:=P) hz
 have room: ∀ (b:Nat) (w:World),(askRoom b).run P w= .ok () w:=by
  intro b w
  unfold askRoom
  split<;>rfl
 have zc: ∀j,(Builtin.zeroCells z.cells j).toList.length=j*m.2:=by
  intro j;simp[Builtin.zeroCells,hzs]
 have hbg: ∀c,c<0+k→ ¬ (Builtin.nextslicecap (0+k) c*i.bytes>2^48):=by
  intro c hc
  have:=x5_ hc
  have h2:=Nat.mul_le_mul_right i.bytes this
  omega
 by_cases hk:k=0
 ·subst hk
  have hnew:new= []:=List.eq_nil_of_length_eq_zero (by have:=hX.size;omega)
  subst hnew
  refine .inl ⟨rfl, ?_⟩
  simp only[Builtin.append_,vsl,List.getElem?_toArray,List.getElem?_cons_zero,List.getElem?_cons_succ,Sem.run_bind,run_underlying hu w,Result.andThen_ok,run_sizeOf hm w,run_underlying hux w,hmd,e1,Bool.false_eq_true, ↓reduceIte,hxl,Bool.not_false,Nat.add_zero,Nat.le_refl,hxc]
  rfl
 ·have hpos: ¬0+k≤0:=by omega
  have hbg':=hbg 0 (by omega)
  simp only[Builtin.append_,List.getElem?_toArray,List.getElem?_cons_zero,List.getElem?_cons_succ,Sem.run_bind,run_underlying hu w,Result.andThen_ok,run_sizeOf hm w,run_underlying hux w,hmd,e1,Bool.false_eq_true, ↓reduceIte,hxl,Bool.not_false,hpos,vsl,hti,hb0,or_false,and_false,hbg']
  have hch: (choose (Question.appendCap (0+k) 0 e)).run P w= .ok ((0+k)+w.tape w.drawn (.appendCap (0+k) 0 e)% (2^63 - (0+k))) w.drew:=rfl
  rw[hch]
  generalize hcc: (0+k)+w.tape w.drawn (.appendCap (0+k) 0 e)% (2^63 - (0+k))=c
  have hw1:=hw.drew
  have hX1:=hXa _ hw1
  have hold: (Builtin.firstCells m.2 0 (Value.slice (some ⟨b,0,none⟩) 0 0)).run P w.drew= .ok #[] w.drew:=by
   simp only[Builtin.firstCells,Nat.zero_mul];rfl
  simp only[Result.andThen_ok,room,hold,hX1.cells,hzv]
  refine .inr ⟨by omega,_,_,L++ [(w.drew.heap.size, .cells ([]++new++ (Builtin.zeroCells z.cells (c - (0+k))).toList).toArray e (0,0))],rfl, ?_, .at_ (b:=w.drew.heap.size) (rest:=(Builtin.zeroCells z.cells (c - (0+k))).toList) ?_ ?_ ?_ (by omega) (by omega), ?_,⟨_,rfl,z9_ fun b hb=>hw1.lt hb⟩⟩
  ·have ea: ([]++new++ (Builtin.zeroCells z.cells (c - (0+k))).toList).toArray= #[]++new.toArray++Builtin.zeroCells z.cells (c - (0+k)):=by apply Array.ext';simp
   rw[ea]
   exact hw1.alloc _
  ·rw[z3_ (fun hm=>Nat.lt_irrefl _ (hw1.lt hm))]
   simp[look]
  ·rw[List.nil_append,hX.size,Nat.zero_add]
  ·exact zc _
  ·refine⟨fun c hc=>by rw[zd_];exact List.mem_append_left _ hc,fun c hc=> ?_,fun c o hne ho=>zp_ ho⟩
   rw[zd_] at hc
   rcases List.mem_append.1 hc with hc|hc
   ·exact .inl hc
   ·right
    simp only[keys,List.map_cons,List.map_nil,List.mem_singleton] at hc
    subst hc
    exact⟨z9_ fun b hb=>hw1.lt hb,hw1.size⟩
end
section
variable {P:Program} {w0:World} {f:Fr} {L:zi_} {N:Fr→zi_→Prop} {ops:Array Oper} {rest:List Oper} {md:Md}
 {d:Option Tmp} {ty:TypeId} {ps:String} {af:Array Edge} {g:Option (Nat×Bool)}
theorem Ow.appendEm {ts tx e:TypeId} {m:Bool×Nat} {z:Value} {s x:Operand} {b k:Nat} {new:List Value} {dx:TypeDesc} {md':Md} (hsv:ev f s=vsl b 0 0 0) (he:md.turn=some md')
  (hs:zt_ ops f ⟨d, .call ⟨.builtin .append, #[s,x], #[ts,tx]⟩,ty,ps,af,g⟩=false)
  (hu:P.underlying ts=some (.slice e)) (hm:zU_ P e=some m) (hi:xB_ P e=true) (hz:z8_ P e=some z) (hzs:z.cells.size=m.2) (hux:P.underlying tx=some dx) (hnx: ∀k,dx≠ .int k)
  (hX: ∀w,Hp w0 L w→AppX P w m.2 (ev f x) k new) (hbig:2* (0+k)+768≤2^38)
  (hn0:k=0→Ow P w0 ops md' rest (qz_ f d (vsl b 0 0 0)) L N)
  (hn: ∀v' L',0<k→Buf L' e m.2 v' (0+k) ([]++new)→Grew w0 (.slice none 0 0) L L'→(∃c,slB v'=some c∧ju_ L c)→Ow P w0 ops md' rest (qz_ f d v') L' N):
  Ow P w0 ops md (⟨d, .call ⟨.builtin .append, #[s,x], #[ts,tx]⟩,ty,ps,af,g⟩::rest) f L N:=by
 refine Ow.step he rfl hs fun w hw=> ?_
 rcases vW_ (ty:=ty) (b:=b) hw hu hm hi hz hzs hux hnx hX hbig with⟨hk,hr⟩ | ⟨hk,v',w',L',hr,hp,hb,hg,hsl⟩
 ·refine .inl ⟨_,w,L, ?_,hw,hn0 hk⟩
  simp only[execOp,resolve,Sem.run_bind,Sem.run_pure,Result.andThen_ok,invoke,builtin,List.map_toArray,List.map_cons,List.map_nil,hsv]
  rw[hr]
  rfl
 ·refine .inl ⟨v',w',L', ?_,hp,hn v' L' hk hb hg hsl⟩
  simp only[execOp,resolve,Sem.run_bind,Sem.run_pure,Result.andThen_ok,invoke,builtin,List.map_toArray,List.map_cons,List.map_nil,hsv]
  rw[hr]
  rfl
end
end Go.Sx
end
namespace Go.Sx
open Go
section
variable {P:Program} {w0:World} {f:Fr} {L:zi_} {N:Fr→zi_→Prop} {K:xQ_} {l:List Oper} {listed:List Bool} {n:Nat} {R ts:List Nat} {a d:Nat} {z:Obj}
theorem Md.next_sofnil (R ts:List Nat): (Md.sof R [] ts).next= .sof R [] ts:=(rfl)
theorem VY_ {Q:Exit→Act→World→Prop} {o:Oper} {x:Act} {d:Option Tmp} {v:Value} {K:Act→World→Prop} (hd: ∀t,d=some t→o.dst≠some t)
  (hQ: ∀c a w,Q (.panic c) a w→Q (.panic c) (a.put d v) w) (r:Result Next) (h:o.upon P x (fun a' w'=>K (a'.put d v) w') Q r):
  o.upon P (x.put d v) K Q r:=by
 have comm: ∀u,(x.put o.dst u).put d v=(x.put d v).put o.dst u:=fun u=>(Act.put_comm x v u hd).symm
 match r,h with
 | .ok (.value u) _,h=>show K _ _;rw[←comm];exact h
 | .ok .skip _,h=>show K _ _;rw[←comm];exact h
 | .ok (.defer e) w',h=>
  have h':K ((({x with defers:=e::x.defers}:Act).put o.dst undef).put d v) w':=h
  rw[←Act.put_comm _ v undef hd,←Act.put_defers] at h'
  exact h'
 | .ok (.enter f args) _,h=>
  refine Calls.mono h fun e w'' he=> ?_
  match e,he with
  | .returned u,he=>show K _ _;rw[←comm];exact he
  | .panicked c,he=>exact hQ _ _ _ he
  | .outgrown,he=>exact he
 | .ok (.row row args) _,h=>exact Rows.mono h fun u w'' he=>by rw[←comm];exact he
 | .halt (.panic u) _,h=>exact hQ _ _ _ h
theorem V0_ {ops:Array Oper} {Q:Exit→Act→World→Prop} {j:Nat} {oj:Oper} {d:Option Tmp} {v:Value} (hj:ops[j]? =some oj) (h1: ∀t,d=some t→t∉oj.looksAt ops) (h2: ∀t,d=some t→oj.dst≠some t) (hsj: ∀cs b,oj.op≠ .select cs b)
  (hQ: ∀c a w,Q (.panic c) a w→Q (.panic c) (a.put d v) w) {K:Act→World→Prop} {x:Act} {w:World}
  (h:wpOp P ops Q j (fun a' w'=>K (a'.put d v) w') x w):wpOp P ops Q j K (x.put d v) w:=by
 unfold wpOp at h ⊢
 simp only[hj] at h ⊢
 rw[wanted_put oj x d v h1]
 cases hw:Region.wanted oj (yielded ops x.tmps) with
 |true=>
  rw[hw] at h
  simp only[if_true] at h ⊢
  rcases h with h| ⟨hasks,hl⟩
  ·left
   unfold Oper.wp at h ⊢
   rw[execOp_put oj hsj x d v h1]
   exact VY_ h2 hQ _ h
  ·right
   exact⟨by unfold Oper.asks at*;rwa [execOp_put oj hsj x d v h1],hl⟩
 |false=>
  rw[hw] at h
  simp only[Bool.false_eq_true,if_false] at h ⊢
  rw[Act.put_comm x v undef h2]
  exact h
structure Drift (P:Program) (l:List Oper) (ts:List Nat) (a d:Nat) (z:Obj):Prop where
 here: ∃oa t zv,l.toArray[a]? =some oa∧oa.op= .alloc t∧oa.dst=some d∧oa.guard=none∧z8_ P t=some zv∧z= .cells zv.cells t
 ts:a∉ts
 sel:Region.noSelect l.toArray=true
def OwD (P:Program) (w0:World) (l:List Oper) (R ts:List Nat) (a d:Nat) (z:Obj) (n:Nat) (listed:List Bool) (f:Fr) (L:zi_) (N:Fr→zi_→Prop):Prop:=
 (∀w,Hp w0 L w→xH_ P l.toArray (jM_ w0 N) ts (SR w0 R L) (n+1) listed.toArray (act f) w)∧
 (∀b w,w0.heap.size≤b→b∉keys L→Hp w0 (L++ [(b,z)]) w→xH_ P l.toArray (jM_ w0 N) ts (SR w0 R L) n (listed.set a true).toArray (act (K6_ f d (vp b 0))) w)
theorem SR.ofE {w:World} {b:Nat} (hb:w0.heap.size≤b) (h:Hp w0 (L++ [(b,z)]) w):SR w0 R L w:=by
 intro r _ o ho
 unfold zv_ at ho
 split at ho
 ·rename_i o' hl
  cases ho
  exact h.has _ _ (List.mem_append_left _ (zF_ hl))
 ·rename_i hl
  have hlt:=(Array.getElem?_eq_some_iff.1 ho).1
  rw[h.old r hlt ?_];exact ho
  intro hm
  simp only[keys,List.map_append,List.map_cons,List.map_nil,List.mem_append,List.mem_singleton] at hm
  rcases hm with hm|hm
  ·exact ZA_ hl hm
  ·omega
theorem ago_ {c:List PanicEntry} {x x':Act} {w:World} (h:jM_ w0 N (.panic c) x w):jM_ w0 N (.panic c) x' w:=z5_ h
theorem Hp.perm {w:World} {M:zi_} (h:Hp w0 L w) (hp:M.Perm L):Hp w0 M w:=
 h.same (fun _=>hp.mem_iff) ((List.Perm.nodup_iff (hp.map Prod.fst)).2 h.nodup)
def chkD (P:Program) (l:List Oper) (ts:List Nat) (a:Nat):List Nat→List Bool→Option (List Bool)
 | [],listed=>some listed
 |k::is,listed=>
  match kY_ l k,kY_ l a with
  |some o,some oa=>if k !=a&& !ts.contains k&& (ts.all fun t=> !listed.toArray.getD t true&& !(listed.set a true).toArray.getD t true)&& (Region.ready .any l.toArray listed.toArray).contains k&&Region.free .any l.toArray listed.toArray k&&
    (Region.ready .any l.toArray (listed.set a true).toArray).contains k&&Region.free .any l.toArray (listed.set a true).toArray k&&o.apart l.toArray oa&&
    (xE_ P o.op|| (XQ_ o.op&&Jb_ l.toArray ts listed.toArray k&&Jb_ l.toArray ts (listed.set a true).toArray k)) then chkD P l ts a is (listed.set k true) else none
  |_,_=>none
theorem OwD.step {k:Nat} {o:Oper} {v:Value} (hD:Drift P l ts a d z) (hk:kY_ l k=some o) {rest:List Bool} (hc:chkD P l ts a [k] listed=some rest)
  (hY:YieldsC P l.toArray (SR w0 R L) (xE_ P o.op=true) o v (act f)) (h:OwD P w0 l R ts a d z n rest (qz_ f o.dst v) L N):OwD P w0 l R ts a d z (n+1) listed f L N:=by
 obtain⟨⟨oa,t,zv,ha,hop,hdst,hg,hz,rfl⟩,hats,hns⟩:=hD
 have hoi:l.toArray[k]? =some o:=by rw[xl_] at hk;simpa using hk
 have ha':kY_ l a=some oa:=by rw[xl_];simpa using ha
 unfold chkD at hc
 rw[hk,ha'] at hc
 simp only at hc
 split at hc
 ·rename_i hcc
  simp only[chkD,Option.some.injEq] at hc
  subst hc
  simp only[Bool.and_eq_true,Bool.or_eq_true,Bool.not_eq_true',List.all_eq_true,List.contains_eq_mem,decide_eq_true_eq,decide_eq_false_iff_not,bne_iff_ne,ne_eq] at hcc
  obtain⟨⟨⟨⟨⟨⟨⟨⟨c1,c2⟩,c3⟩,c4⟩,c5⟩,c6⟩,c7⟩,c8⟩,c9⟩:=hcc
  obtain⟨q1,q2,q3⟩:=Oper.apart_spec c8
  have hsel:=Region.noSelect_spec hns
  have hset: (listed.set k true).set a true=(listed.set a true).set k true:=List.set_comm _ _ c1
  refine⟨fun w hw=> ?_,fun b w hb hbL hw=> ?_⟩
  ·refine vs_ hoi c2 hsel (fun c a w h=>z5_ h) _ _ _ _ (xO_ (P:=P) hoi c4 c5 (c9.imp id fun h=>⟨h.1.1,h.1.2,fun t ht=>(c3 t ht).1⟩)) (.inr fun t ht=>(c3 t ht).1) hY ?_
   rw[qa_,qs_]
   exact h.1 w hw
  ·have hY2:YieldsC P l.toArray (SR w0 R L) (xE_ P o.op=true) o v (act (K6_ f d (vp b 0))):=by
    refine hY.left (hsel k o · · hoi) (oj:=oa) q3 ⟨vp b 0,[], ?_⟩
    rw[hdst]
    exact(qa_ f (some d) (vp b 0)).symm
   refine vs_ hoi c2 hsel (fun c a w h=>z5_ h) _ _ _ _ (xO_ (P:=P) hoi c6 c7 (c9.imp id fun h=>⟨h.1.1,h.2,fun t ht=>(c3 t ht).2⟩)) (.inr fun t ht=>(c3 t ht).2) hY2 ?_
   have e: (act (K6_ f d (vp b 0))).put o.dst v=act (K6_ (qz_ f o.dst v) d (vp b 0)):=by
    have e1:act (K6_ f d (vp b 0))=(act f).put (some d) (vp b 0):=(qa_ f (some d) (vp b 0)).symm
    rw[e1,Act.put_comm (act f) (x:=some d) (y:=o.dst) (vp b 0) v (fun t ht hod=>by cases ht;exact q2 _ hod hdst),qa_,qa_];rfl
   rw[e,qs_,←hset]
   exact h.2 b w hb hbL hw
 ·cases hc
theorem aho_ {k:Nat} {is:List Nat} {listed listed':List Bool} (h:chkD P l ts a (k::is) listed=some listed'):chkD P l ts a [k] listed=some (listed.set k true)∧chkD P l ts a is (listed.set k true)=some listed':=by
 rw[chkD] at h
 cases ho:kY_ l k with
 |none=>rw[ho] at h;cases h
 |some o=>
  cases hoa:kY_ l a with
  |none=>rw[ho,hoa] at h;cases h
  |some oa=>
   rw[ho,hoa] at h
   simp only at h
   split at h
   ·rename_i hcc
    refine⟨?_,h⟩
    rw[chkD,ho,hoa]
    simp only
    rw[if_pos hcc];rfl
   ·cases h
theorem OwD.runs {k:Md→List Oper→Fr→zi_→Prop} (hD:Drift P l ts a d z): ∀ (is:List Nat) {listed listed':List Bool} {f:Fr} {L:zi_},chkD P l ts a is listed=some listed'→
  (∀md r f' L',k md r f' L'→r= []∧OwD P w0 l R ts a d z n listed' f' L' N)→vcL P w0 l.toArray false (.sof R [] []) (xC_ l is) f L k→OwD P w0 l R ts a d z (is.length+n) listed f L N
 | [],listed,listed',f,L,hc,hk,h=>by
  cases hc
  rw[List.length_nil,Nat.zero_add]
  exact(hk _ _ _ _ h).2
 |i::is,listed,listed',f,L,hc,hk,h=>by
  obtain⟨hc1,hc2⟩:=aho_ hc
  rw[za_] at h
  cases ho:kY_ l i with
  |none=>unfold chkD at hc1;rw[ho] at hc1;cases hc1
  |some o=>
   rw[ho,zb_] at h
   unfold vcL at h
   rw[List.length_cons,show is.length+1+n=(is.length+n)+1 by omega]
   cases hs:zt_ l.toArray f o with
   |true=>
    rw[hs] at h
    have hw0:Region.wanted o (yielded l.toArray (act f).tmps)=false:=by rw[qo_,hs];rfl
    exact OwD.step hD ho hc1 (v:=undef) (.inr ⟨hw0,rfl⟩) (OwD.runs hD is hc2 hk h)
   |false=>
    rw[hs] at h
    have hw0:Region.wanted o (yielded l.toArray (act f).tmps)=true:=by rw[qo_,hs];rfl
    simp only[ib,vcB] at h
    split at h
    ·cases hrd:Vu_ (.sof R [] []) f o.op with
     |false=>rw[hrd] at h;exact absurd (hk _ _ _ _ h).1 (by simp)
     |true=>
      rw[hrd] at h
      simp only at h
      cases hv:x7_ P w0 L f o.op with
      |none=>rw[hv] at h;exact absurd (hk _ _ _ _ h).1 (by simp)
      |some v=>
       rw[hv] at h
       refine OwD.step hD ho hc1 (v:=v) (.inl ⟨hw0,fun w hw=> ?_⟩) (OwD.runs hD is hc2 hk h)
       rw[jx_]
       rcases hw with hp|hw
       ·exact jc_ (Hp.refl w) (x1_ hp hv w)
       ·exact jc_ (Hp.refl w) (wO_ hrd hv hw)
    ·exact absurd (hk _ _ _ _ h).1 (by simp)
    ·exact absurd (hk _ _ _ _ h).1 (by simp)
theorem OwD.run (is:List Nat) (listed':List Bool) (n:Nat) {m:Nat} (hm:m=is.length+n) (hD:Drift P l ts a d z) (hc:chkD P l ts a is listed=some listed')
  (h: ∀k:Md→List Oper→Fr→zi_→Prop,(∀md f L,OwD P w0 l R ts a d z n listed' f L N→k md [] f L)→nl (xC_ l is) fun l'=>vcL P w0 l.toArray false (.sof R [] []) l' f L k):OwD P w0 l R ts a d z m listed f L N:=by
 subst hm
 refine OwD.runs (k:=fun _ r f' L'=>r= []∧OwD P w0 l R ts a d z n listed' f' L' N) hD is hc (fun _ _ _ _ h=>h) ?_
 exact h _ fun _ _ _ h=>⟨rfl,h⟩
theorem KL_ {t:TypeId} {zv:Value} {oa:Oper} {Q:Exit→Act→World→Prop} {X:Act→World→Prop} {w:World} (ha:l.toArray[a]? =some oa) (hop:oa.op= .alloc t) (hdst:oa.dst=some d) (hg:oa.guard=none) (hz:z8_ P t=some zv)
  (h:X (act (K6_ f d (vp w.heap.size 0))) (w.alloc (.cells zv.cells t))):wpOp P l.toArray Q a X (act f) w:=by
 obtain⟨dst,op,ty,pos,after,guard⟩:=oa
 simp only at hop hdst hg
 subst hop;subst hdst;subst hg
 unfold wpOp
 simp only[ha]
 have hw:Region.wanted ⟨some d, .alloc t,ty,pos,after,none⟩ (yielded l.toArray (act f).tmps)=true:=by rw[qo_];rfl
 rw[hw]
 simp only[↓reduceIte]
 left
 unfold Oper.wp
 have hr: (execOp (act f).eval ⟨some d, .alloc t,ty,pos,after,none⟩).run P w= .ok (.value (vp w.heap.size 0)) (w.alloc (.cells zv.cells t)):=by
  simp only[execOp,Instr.alloc,Sem.run_bind,js_ hz w,Result.andThen_ok]
  rfl
 rw[hr]
 show X ((act f).put (some d) (vp w.heap.size 0)) _
 rw[qa_]
 exact h
theorem wm_ {L':zi_} (hS: ∀b,b∈R→zv_ w0 L' b=zv_ w0 L b):SR w0 R L=SR w0 R L':=by
 funext v
 unfold SR
 apply propext
 constructor
 ·intro hh b hb o ho;exact hh b hb o (by rw[←hS b hb];exact ho)
 ·intro hh b hb o ho;exact hh b hb o (by rw[hS b hb];exact ho)
def adQ_ (l:List Oper) (ts:List Nat) (a:Nat) (ks:List Nat) (listed:List Bool):Bool:=
 ((Region.ready .any l.toArray listed.toArray).all fun i=>i==a||ks.contains i)&& (Region.ready .any l.toArray listed.toArray != [])&& ((Region.ready .any l.toArray (listed.set a true).toArray).all fun i=>ks.contains i)&& (Region.ready .any l.toArray (listed.set a true).toArray != [])&&ks.all fun k=>
  match kY_ l k,kY_ l a with
  |some o,some oa=>k !=a&& !ts.contains k&&o.apart l.toArray oa
  |_,_=>false
theorem OwD.softs (ks:List Nat) (hD:Drift P l ts a d z) (hs:adQ_ l ts a ks listed=true)
  (h: ∀k,k∈ks→ ∀o,kY_ l k=some o→ ∀E,(E= []∨ ∃b,E= [(b,z)]∧w0.heap.size≤b∧b∉keys L)→Ow P w0 l.toArray .seq [o] f (L++E) (fun f' L''=> ∃L',(L'++E).Perm L''∧(∀r,r∈R→zv_ w0 L' r=zv_ w0 L r)∧OwD P w0 l R ts a d z n (listed.set k true) f' L' N)):
  OwD P w0 l R ts a d z (n+1) listed f L N:=by
 obtain⟨⟨oa,t,zv,ha,hop,hdst,hg,hz,rfl⟩,hats,hns⟩:=hD
 have ha':kY_ l a=some oa:=by rw[xl_];simpa using ha
 unfold adQ_ at hs
 simp only[Bool.and_eq_true,List.all_eq_true,Bool.or_eq_true,beq_iff_eq,bne_iff_ne,ne_eq,List.contains_eq_mem,decide_eq_true_eq] at hs
 obtain⟨⟨⟨⟨c3,c4⟩,c5⟩,c5'⟩,c6⟩:=hs
 have hsel:=Region.noSelect_spec hns
 have hkk: ∀k,k∈ks→ ∃o,kY_ l k=some o∧k≠a∧k∉ts∧o.apart l.toArray oa=true:=by
  intro k hk
  have:=c6 k hk
  rw[ha'] at this
  cases ho:kY_ l k with
  |none=>rw[ho] at this;cases this
  |some o=>
   rw[ho] at this
   simp only[Bool.and_eq_true,Bool.not_eq_true',bne_iff_ne,ne_eq,decide_eq_false_iff_not] at this
   exact⟨o,rfl,this.1.1,this.1.2,this.2⟩
 have t2: ∀b w,w0.heap.size≤b→b∉keys L→Hp w0 (L++ [(b, .cells zv.cells t)]) w→xH_ P l.toArray (jM_ w0 N) ts (SR w0 R L) (n+1) (listed.set a true).toArray (act (K6_ f d (vp b 0))) w:=by
  intro b w hb hbL hw
  refine⟨fun _=>SR.ofE hb hw,(fun h=>absurd h c5'), ?_⟩
  intro k hi
  have hkm:=c5 k hi
  obtain⟨o,hk,c1,c2,c7⟩:=hkk k hkm
  have hoi:l.toArray[k]? =some o:=by rw[xl_] at hk;simpa using hk
  obtain⟨q1,q2,q3⟩:=Oper.apart_spec c7
  have hset: (listed.set k true).set a true=(listed.set a true).set k true:=List.set_comm _ _ c1
  have e1:act (K6_ f d (vp b 0))=(act f).put (some d) (vp b 0):=(qa_ f (some d) (vp b 0)).symm
  rw[e1]
  refine V0_ hoi (fun t ht=>by cases ht;exact q3 d hdst) (fun t ht=>by cases ht;exact fun hod=>q2 d hod hdst) (hsel _ o · · hoi) (fun c a w h=>ago_ h) ?_
  refine wS_ hoi (X:=fun a' w'=>xH_ P l.toArray (jM_ w0 N) ts (SR w0 R L) n ((listed.set a true).toArray.setIfInBounds k true) (a'.put (some d) (vp b 0)) w') ?_ hw
  intro w' hw'
  refine ks_ ?_ (h k hkm o hk [(b, .cells zv.cells t)] (.inr ⟨b,rfl,hb,hbL⟩) w' hw')
  rintro f' L'' ⟨L',hpm,hR,hO⟩ w'' hw''
  have hw3:=hw''.perm hpm
  rw[qa_,qs_,←hset,wm_ hR]
  refine hO.2 b w'' hb (fun hm=> ?_) hw3
  have hnd:=hw3.nodup
  rw[zd_,List.nodup_append] at hnd
  exact hnd.2.2 b hm b (by simp[keys]) rfl
 refine⟨fun w hw=>⟨fun _=>SR.of hw,fun h=>absurd h c4,fun k hi=> ?_⟩,t2⟩
 rcases c3 k hi with rfl|hkm
 ·refine KL_ ha hop hdst hg hz ?_
  rw[qs_]
  refine t2 _ _ hw.size (fun hm=>Nat.lt_irrefl _ (hw.lt hm)) (hw.alloc _)
 ·obtain⟨o,hk,c1,c2,c7⟩:=hkk k hkm
  have hoi:l.toArray[k]? =some o:=by rw[xl_] at hk;simpa using hk
  refine wS_ hoi (X:=xH_ P l.toArray (jM_ w0 N) ts (SR w0 R L) (n+1) (listed.toArray.setIfInBounds k true)) ?_ hw
  intro w' hw'
  have h1:=h k hkm o hk [] (.inl rfl)
  rw[List.append_nil] at h1
  refine ks_ ?_ (h1 w' hw')
  rintro f' L'' ⟨L',hpm,hR,hO⟩ w'' hw''
  rw[List.append_nil] at hpm
  rw[qs_,wm_ hR]
  exact hO.1 w'' (hw''.perm hpm)
theorem OwD.soft (k:Nat) (o:Oper) (hD:Drift P l ts a d z) (hk:kY_ l k=some o) (hs:adQ_ l ts a [k] listed=true)
  (h: ∀E,(E= []∨ ∃b,E= [(b,z)]∧w0.heap.size≤b∧b∉keys L)→Ow P w0 l.toArray .seq [o] f (L++E) (fun f' L''=> ∃L',(L'++E).Perm L''∧(∀r,r∈R→zv_ w0 L' r=zv_ w0 L r)∧OwD P w0 l R ts a d z n (listed.set k true) f' L' N)):
  OwD P w0 l R ts a d z (n+1) listed f L N:=OwD.softs [k] hD hs fun k' hk' o' ho'=>by
 rw[List.mem_singleton] at hk'
 subst hk'
 rw[hk] at ho'
 cases ho'
 exact h
theorem OwD.two (k k2:Nat) (o o2:Oper) (hD:Drift P l ts a d z) (hk:kY_ l k=some o) (hk2:kY_ l k2=some o2) (hs:adQ_ l ts a [k,k2] listed=true)
  (h: ∀E,(E= []∨ ∃b,E= [(b,z)]∧w0.heap.size≤b∧b∉keys L)→Ow P w0 l.toArray .seq [o] f (L++E) (fun f' L''=> ∃L',(L'++E).Perm L''∧(∀r,r∈R→zv_ w0 L' r=zv_ w0 L r)∧OwD P w0 l R ts a d z n (listed.set k true) f' L' N))
  (h2: ∀E,(E= []∨ ∃b,E= [(b,z)]∧w0.heap.size≤b∧b∉keys L)→Ow P w0 l.toArray .seq [o2] f (L++E) (fun f' L''=> ∃L',(L'++E).Perm L''∧(∀r,r∈R→zv_ w0 L' r=zv_ w0 L r)∧OwD P w0 l R ts a d z n (listed.set k2 true) f' L' N)):
  OwD P w0 l R ts a d z (n+1) listed f L N:=OwD.softs [k,k2] hD hs fun k' hk' o' ho'=>by
 simp only[List.mem_cons,List.not_mem_nil,or_false] at hk'
 rcases hk' with rfl|rfl
 ·rw[hk] at ho';cases ho';exact h
 ·rw[hk2] at ho';cases ho';exact h2
theorem OwD.real (is:List Nat) {m:Nat} (hm:m=is.length) (hD:Drift P l ts a d z) (hr:Region.ready .any l.toArray listed.toArray= [a]) (hB:Qr_ P l.toArray ts is (listed.set a true).toArray=true) (hts: (ts.all fun t=> !(listed.set a true).toArray.getD t true)=true)
  (hl:is.map (fun i:Nat=>l[i]?)=(xC_ l is).map some) (hR: ∀r,r∈R→r∈keys L∨r<w0.heap.size)
  (h:nl (xC_ l is) fun l'=> ∀b,w0.heap.size≤b→b∉keys L→Ow P w0 l.toArray (.sof R is ts) l' (K6_ f d (vp b 0)) (L++ [(b,z)]) N):OwD P w0 l R ts a d z m listed f L N:=by
 subst hm
 obtain⟨⟨oa,t,zv,ha,hop,hdst,hg,hz,rfl⟩,hats,hns⟩:=hD
 simp only[List.all_eq_true,Bool.not_eq_true'] at hts
 revert hl h
 generalize xC_ l is=l'
 intro hl h
 have hlen:is.length=l'.length:=by have:=congrArg List.length hl;simpa using this
 have hF:Fits P l.toArray ts is l' (listed.set a true).toArray:=⟨hlen,fun j=>by
  have:=congrArg (·[j]?) hl
  simp only[List.getElem?_map] at this
  cases hj:is[j]? with
  |none=>
   rw[hj] at this
   simp only[Option.map_none] at this
   cases hj':l'[j]? with
   |none=>rfl
   |some x=>rw[hj'] at this;cases this
  |some i=>
   rw[hj] at this
   simp only[Option.map_some] at this
   cases hj':l'[j]? with
   |none=>rw[hj'] at this;cases this
   |some x=>
    rw[hj'] at this
    simp only[Option.map_some,Option.some.injEq] at this
    simp[this],hns,hB⟩
 have hRb: ∀b,w0.heap.size≤b→b∉keys L→ ∀r,r∈R→zv_ w0 (L++ [(b,Obj.cells zv.cells t)]) r=zv_ w0 L r:=by
  intro b hb hbL r hr
  unfold zv_
  cases hlk:look L r with
  |some o=>rw[zp_ hlk]
  |none=>
   have hrn:r∉keys L:=ZA_ hlk
   have hne:b≠r:=by
    rcases hR r hr with h|h
    ·exact absurd h hrn
    ·omega
   rw[z3_ hrn]
   unfold look
   rw[if_neg hne];rfl
 have t2: ∀b w,w0.heap.size≤b→b∉keys L→Hp w0 (L++ [(b, .cells zv.cells t)]) w→xH_ P l.toArray (jM_ w0 N) ts (SR w0 R L) is.length (listed.set a true).toArray (act (K6_ f d (vp b 0))) w:=by
  intro b w hb hbL hw
  rw[hlen,wm_ (hRb b hb hbL)]
  exact h b hb hbL _ hF (fun t ht=>hts t ht) w hw
 refine⟨fun w hw=>⟨fun _=>SR.of hw,(fun h=>by rw[hr] at h;cases h),fun i hi=> ?_⟩,t2⟩
 rw[hr,List.mem_singleton] at hi
 subst hi
 refine KL_ ha hop hdst hg hz ?_
 rw[qs_]
 exact t2 _ _ hw.size (fun hm=>Nat.lt_irrefl _ (hw.lt hm)) (hw.alloc _)
theorem Cw.regionD {id:Nat} (R ts:List Nat) (a d t m:Nat) (zv:Value) (hl:l.length=m+1) (hm:P.follows .mixedOrders=true) (hop: ((kY_ l a).map fun o=>(o.op,o.dst,o.guard))=some (.alloc t,some d,none)) (hts:ts.contains a=false) (hns:Region.noSelect l.toArray=true) (hz:z8_ P t=some zv)
  (h:Drift P l ts a d (.cells zv.cells t)→OwD P w0 l R ts a d (.cells zv.cells t) m (List.replicate (m+1) false) f L (K .normal)):Cw P w0 (.region id l.toArray true) f L K:=by
 intro w hw
 refine wp_mono (wp_region_any hm ?_) fun _ _ _ h=>j1_ h
 have hD:Drift P l ts a d (.cells zv.cells t):=by
  cases hn:kY_ l a with
  |none=>rw[hn] at hop;cases hop
  |some oa=>
   rw[hn] at hop
   simp only[Option.map_some,Option.some.injEq,Prod.mk.injEq] at hop
   exact⟨⟨oa,t,zv,by rw[xl_] at hn;simpa using hn,hop.1,hop.2.1,hop.2.2,hz,rfl⟩,by simpa using hts,hns⟩
 have h1:=(h hD).1 w.drew hw.drew
 have:=kX_ _ _ _ _ h1
 simpa [hl] using this
end
end Go.Sx
namespace Go.Sx
open Go
def Gr (L:zi_) (E:TypeId) (m:Nat) (v:Value) (n:Nat) (cs:List Value):Prop:=
 Buf L E m v n cs∨(n=0∧cs= []∧ ∃b,v=vsl b 0 0 0∧look L b=some (.cells #[] E (0,0)))
theorem Gr.nl {L:zi_} {E:TypeId} {m:Nat}:Gr L E m (.slice none 0 0) 0 []:= .inl .nl
theorem Grew.any {w0:World} {v v':Value} {L L':zi_} (h:Grew w0 v L L') (hv:slB v=none):Grew w0 v' L L':=
 ⟨h.keys,h.new,fun c o _ hl=>h.look c o (by rw[hv];simp) hl⟩
theorem Gr.keep {L L':zi_} {E:TypeId} {m n:Nat} {v:Value} {cs:List Value} (h:Gr L E m v n cs) (hk: ∀b o,slB v=some b→look L b=some o→look L' b=some o):Gr L' E m v n cs:=by
 rcases h with h| ⟨h1,h2,b,rfl,h3⟩
 ·exact .inl (h.keep hk)
 ·exact .inr ⟨h1,h2,b,rfl,hk b _ rfl h3⟩
theorem Gr.app {L M:zi_} {E:TypeId} {m n:Nat} {v:Value} {cs:List Value} (h:Gr L E m v n cs):Gr (L++M) E m v n cs:=h.keep fun _ _ _ hl=>zp_ hl
theorem Gr.len {L:zi_} {E:TypeId} {m n:Nat} {v:Value} {cs:List Value} (h:Gr L E m v n cs) (x:Bool×Nat):QV_ (.sl x) v=some (vi n):=by
 rcases h with h| ⟨rfl,rfl,b,rfl,-⟩
 ·exact h.len x
 ·rfl
theorem Gr.cell {L:zi_} {E:TypeId} {m n:Nat} {v:Value} {cs:List Value} (h:Gr L E m v n cs):Value.oneCell' v=true∧v.cells= #[v]:=by
 rcases h with h| ⟨rfl,rfl,b,rfl,-⟩
 ·exact h.cell
 ·exact⟨rfl,rfl⟩
theorem Gr.key {L:zi_} {E:TypeId} {m n:Nat} {v:Value} {cs:List Value} (h:Gr L E m v n cs) {b:Nat} (hb:slB v=some b):b∈keys L:=by
 rcases h with h| ⟨rfl,rfl,c,rfl,hl⟩
 ·rcases h.inv with⟨rfl,-,-⟩ | ⟨c,cc,rest,rfl,hl,-⟩
  ·cases hb
  ·cases hb;exact zn_ hl
 ·cases hb;exact zn_ hl
section
variable {α:Type} {m:Nat} {enc:α→List Value} {z:α} {w:World} {v:Value} {l:List α}
theorem Gr.slM {L:zi_} {E:TypeId} {n:Nat} {cs:List Value} (h:Gr L E m v n cs) (hw: ∀b o,(b,o)∈L→w.heap[b]? =some o) (hl:l.length=n) (hcs:cs=(l.map enc).flatten) (hm: ∀x,(enc x).length=m):SlV m enc z w v l:=by
 rcases h with h| ⟨rfl,rfl,b,rfl,hlk⟩
 ·exact h.slM hw hl hcs hm
 ·obtain rfl:l= []:=List.eq_nil_of_length_eq_zero hl
  exact SlV.sl (l:=([]:List α)) (off:=0) (c:=0) (hw _ _ (zF_ hlk)) (fun k hk=>by simp at hk) (Nat.le_refl 0) (by simp)
theorem Gr.slV {L:zi_} {E:TypeId} {n:Nat} {cs:List Value} {w0:World} (h:Gr L E m v n cs) (hw:Hp w0 L w) (hl:l.length=n) (hcs:cs=(l.map enc).flatten) (hm: ∀x,(enc x).length=m):SlV m enc z w v l:=h.slM hw.has hl hcs hm
theorem Qv_ (hm: ∀x,(enc x).length=m) (arr:Array Value): ∀ (ls:List α) (off:Nat),off+ls.length*m≤arr.size→(∀k j,k<ls.length→j<m→arr[off+k*m+j]? =(enc (ls.getD k z))[j]?)→
  (arr.extract off (off+ls.length*m)).toList=(ls.map enc).flatten
 | [],off,_,_=>by simp
 |r::ls,off,hs,h=>by
  have hlm: (r::ls).length*m=m+ls.length*m:=by rw[List.length_cons,Nat.add_mul,Nat.one_mul,Nat.add_comm]
  rw[hlm] at hs ⊢
  have ih:=Qv_ hm arr ls (off+m) (by omega) (fun k j hk hj=>by
   have:=h (k+1) j (by simpa using hk) hj
   rw[List.getD_cons_succ] at this
   rw[←this];congr 1;rw[Nat.add_mul,Nat.one_mul];omega)
  have h0: (arr.extract off (off+m)).toList=enc r:=by
   apply List.ext_getElem?
   intro j
   rw[Array.getElem?_toList,Array.getElem?_extract]
   by_cases hj:j<m
   ·rw[if_pos (by omega)]
    have:=h 0 j (by simp) hj
    simpa using this
   ·rw[if_neg (by omega),List.getElem?_eq_none (by rw[hm];omega)]
  rw[List.map_cons,List.flatten_cons,←ih,←h0,←Array.toList_append]
  congr 1
  rw[Array.extract_append_extract]
  congr 1<;>omega
theorem k8_ (hm: ∀x,(enc x).length=m) (l:List α): (l.map enc).flatten.length=l.length*m:=by
 induction l with
 |nil=>simp
 |cons x r ih=>rw[List.map_cons,List.flatten_cons,List.length_append,ih,hm,List.length_cons,Nat.add_mul,Nat.one_mul,Nat.add_comm]
theorem AppX.one1 {P:Program} {b:Nat} {E:TypeId} {fz:Nat×Nat} {cs:List Value} (hb:w.heap[b]? =some (.cells cs.toArray E fz)) (hm:cs.length=m) (h1:cs.all Value.oneCell'=true):AppX P w m (vsl b 0 1 1) 1 cs:=by
 refine AppX.block (w0:=w) (L:= []) (by rw[ZK_];exact hb) (by simp;omega) ?_ h1 (Hp.refl w)
 rw[List.extract_toArray,List.extract_eq_take_drop,List.drop_zero,List.take_of_length_le (by omega)]
theorem SlV.appX {P:Program} (h:SlV m enc z w v l) (hm: ∀x,(enc x).length=m) (h1: ∀x,(enc x).all Value.oneCell'=true):AppX P w m v l.length (l.map enc).flatten:=by
 obtain⟨b,off,c,arr,E,fz,hr,hc,hv⟩:=h
 rcases hv with⟨rfl,rfl,rfl⟩ | ⟨rfl,hhas,hsz⟩
 ·exact AppX.nil P w m
 ·refine AppX.block (w0:=w) (L:= []) (by rw[ZK_];exact hhas) hsz (Qv_ (z:=z) hm arr l off hsz (fun k j hk hj=>hr.get k hk j hj)) ?_ (Hp.refl w)
  rw[List.all_flatten,List.all_map,List.all_eq_true]
  exact fun r _=>h1 r
end
section
variable {P:Program} {w0:World} {f:Fr} {L:zi_} {N:Fr→zi_→Prop} {ops:Array Oper} {rest:List Oper} {md:Md}
 {d:Option Tmp} {ty:TypeId} {ps:String} {af:Array Edge} {g:Option (Nat×Bool)}
theorem Ow.appendG {ts tx e:TypeId} {m:Bool×Nat} {z:Value} {s x:Operand} {n k:Nat} {cs new:List Value} {dx:TypeDesc} {md':Md} (sv:Value) (hsv:ev f s=sv) (he:md.turn=some md')
  (hs:zt_ ops f ⟨d, .call ⟨.builtin .append, #[s,x], #[ts,tx]⟩,ty,ps,af,g⟩=false)
  (hu:P.underlying ts=some (.slice e)) (hm:zU_ P e=some m) (hi:xB_ P e=true) (hz:z8_ P e=some z) (hzs:z.cells.size=m.2) (hux:P.underlying tx=some dx) (hnx: ∀k,dx≠ .int k)
  (hB:Gr L e m.2 sv n cs) (hX: ∀w,Hp w0 L w→AppX P w m.2 (ev f x) k new) (hlen:new.length=k*m.2) (hbig:2* (n+k)+768≤2^38)
  (hn: ∀v' L',Gr L' e m.2 v' (n+k) (cs++new)→(0<k→Buf L' e m.2 v' (n+k) (cs++new))→Grew w0 sv L L'→(slB v'=slB sv∨ ∃c,slB v'=some c∧ju_ L c)→Ow P w0 ops md' rest (qz_ f d v') L' N):
  Ow P w0 ops md (⟨d, .call ⟨.builtin .append, #[s,x], #[ts,tx]⟩,ty,ps,af,g⟩::rest) f L N:=by
 rcases hB with hB| ⟨rfl,rfl,b,rfl,hlk⟩
 ·exact Ow.append sv hsv he hs hu hm hi hz hzs hux hnx hB hX hbig fun v' L' h1 h2 h3=>hn v' L' (.inl h1) (fun _=>h1) h2 h3
 ·refine Ow.appendEm hsv he hs hu hm hi hz hzs hux hnx hX hbig (fun h0=> ?_) (fun v' L' hk h1 h2 h3=> ?_)
  ·subst h0
   obtain rfl:new= []:=List.eq_nil_of_length_eq_zero (by rw[hlen,Nat.zero_mul])
   exact hn _ L (.inr ⟨rfl,rfl,b,rfl,hlk⟩) (fun h=>absurd h (Nat.lt_irrefl 0)) (Grew.refl _ _ _) (.inl rfl)
  ·exact hn v' L' (.inl h1) (fun _=>h1) (h2.any rfl) (.inr h3)
end
end Go.Sx
namespace Go.Sx
open Go
theorem j8_ {w0:World} {L M:zi_} {r:Nat} (h:r∈keys L):zv_ w0 (L++M) r=zv_ w0 L r:=by
 obtain⟨o,ho⟩:=ajF_ h
 rw[zg_ ho,zg_ (zp_ ho)]
theorem zq_ {w0:World} {L M:zi_} {R:List Nat} (h: ∀r,r∈R→r∈keys L): ∀r,r∈R→zv_ w0 (L++M) r=zv_ w0 L r:=fun r hr=>j8_ (h r hr)
theorem New.of_le {n:Nat}: ∀ {D:zi_},(∀c,c∈keys D→n≤c)→New n D
 | [],_=>trivial
 | (b,o)::r,h=>⟨h b (by simp[keys]),New.of_le fun c hc=>h c (by simp only[keys,List.map_cons,List.mem_cons] at hc ⊢;exact .inr hc)⟩
theorem kQ_ {w0:World} {L M:zi_} {r:Nat} (h:r∉keys M):zv_ w0 (M++L) r=zv_ w0 L r:=by
 unfold zv_;rw[z3_ h]
theorem Ext.new0 {w:World} {D:zi_} (h:Ext w [] D):New w.heap.size D:=by
 have hn:=h.new
 have key: ∀ (D:zi_),(∀c,c∈Sx.keys D→w.heap.size≤c)→New w.heap.size D:=by
  intro D
  induction D with
  |nil=>intro _;trivial
  |cons p r ih=>
   obtain⟨b,o⟩:=p
   intro hh
   exact⟨hh b (by simp[Sx.keys]),ih fun c hc=>hh c (by simp only[Sx.keys,List.map_cons,List.mem_cons] at hc ⊢;exact .inr hc)⟩
 refine key D fun c hc=> ?_
 rcases hn c hc with h1|h1
 ·cases h1
 ·exact h1
theorem Ext.of_new {w:World} {D:zi_} (h:New w.heap.size D):Ext w [] D:=⟨fun c hc=> .inr (h.le c hc),fun c hc=>by cases hc⟩
section
variable {P:Program} {w0:World} {f:Fr} {L:zi_} {N:Fr→zi_→Prop} {K:xQ_} {ops:Array Oper} {rest:List Oper} {md:Md}
 {d:Option Tmp} {ty:TypeId} {ps:String} {af:Array Edge} {g:Option (Nat×Bool)}
theorem vv_ {b:Nat} {o:Obj}: ∀ {B:zi_},(keys B).Nodup→(b,o)∈B→look B b=some o
 | [],_,h=>by cases h
 | (c,x)::q,hn,h=>by
  simp only[keys,List.map_cons,List.nodup_cons] at hn
  unfold look
  rcases List.mem_cons.1 h with h|h
  ·cases h;rw[if_pos rfl]
  ·have:c≠b:=fun e=>hn.1 (e▸List.mem_map.2 ⟨_,h,rfl⟩)
   rw[if_neg this]
   exact vv_ hn.2 h
theorem SR.perm {R:List Nat} {M:zi_} (h:M.Perm L) (hn: (keys L).Nodup):SR w0 R M=SR w0 R L:=by
 refine wm_ fun r _=> ?_
 have hk: ∀ (A B:zi_),A.Perm B→(keys B).Nodup→ ∀o,look A r=some o→look B r=some o:=fun A B hp hB o ho=>vv_ hB (hp.mem_iff.1 (zF_ ho))
 have hnM: (keys M).Nodup:=(List.Perm.nodup_iff (h.map Prod.fst)).2 hn
 unfold zv_
 cases hl:look L r with
 |some o=>rw[hk L M h.symm hnM o hl]
 |none=>
  cases hm:look M r with
  |none=>rfl
  |some o=>rw[hk M L h hn o hm] at hl;cases hl
theorem OwD.permL {l:List Oper} {listed:List Bool} {n:Nat} {R ts:List Nat} {a d:Nat} {z:Obj} {M:zi_} (hp:M.Perm L) (h:OwD P w0 l R ts a d z n listed f M N):OwD P w0 l R ts a d z n listed f L N:=by
 refine⟨fun w hw=> ?_,fun b w hb hbL hw=> ?_⟩
 ·have:=h.1 w (hw.perm hp)
  rw[SR.perm hp hw.nodup] at this
  exact this
 ·have hnd: (keys L).Nodup:=by
   have:=hw.nodup
   rw[zd_,List.nodup_append] at this
   exact this.1
  have:=h.2 b w hb (fun hm=>hbL (by have:=(hp.map Prod.fst).mem_iff.1 hm;exact this)) (hw.perm (hp.append_right _))
  rw[SR.perm hp hnd] at this
  exact this
theorem Cw.permL {c:Code} {M:zi_} (hp:M.Perm L) (h:Cw P w0 c f M K):Cw P w0 c f L K:=fun w hw=>h w (hw.perm hp)
theorem Ow.permL {M:zi_} {l:List Oper} (hp:M.Perm L) (h:Ow P w0 ops .seq l f M N):Ow P w0 ops .seq l f L N:=fun w hw=>h w (hw.perm hp)
theorem Ow.callC {l:List Operand} {ts:Array TypeId} {k:FuncId} {S:Value→zi_→Prop} {md':Md} (he:md.turn=some md')
  (hs:zt_ ops f ⟨d, .call ⟨.value (.func k),l.toArray,ts⟩,ty,ps,af,g⟩=false)
  (hk: ∀a w,(callFunc k a).run P w= .ok (.enter k a) w)
  (hc: ∀w,Hp w0 L w→Rets P k (l.map (ev f)).toArray w (XS w [] S))
  (hn: ∀B v D,ju_ L B→w0.heap.size≤B→New B D→S v D→Ow P w0 ops md' rest (qz_ f d v) (L++D) N):
  Ow P w0 ops md (⟨d, .call ⟨.value (.func k),l.toArray,ts⟩,ty,ps,af,g⟩::rest) f L N:=
 Ow.callN he hs hk (S:=fun B v D=>New B D∧S v D) (fun w hw=>(hc w hw).mono fun _v _D h=>⟨h.1.new0,h.2⟩) (fun _ _ _ h=>h.1) (fun B v D hA hB hS=>hn B v D hA hB hS.1 hS.2)
theorem Hp.part {w:World} {X Y:zi_} (h:Hp w0 (X++Y) w):Hp w X w:=
 ⟨fun b o hm=>h.has b o (List.mem_append_left _ hm),by have:=h.nodup;rw[zd_,List.nodup_append] at this;exact this.1,fun _ _ _=>rfl,Nat.le_refl _,rfl,rfl,rfl⟩
theorem Hp.join {w w':World} {X Y D:zi_} (h:Hp w0 (X++Y) w) (k:Hp w D w') (h1: ∀c,c∈keys X→c∈keys D) (h2: ∀c,c∈keys D→c∈keys X∨w.heap.size≤c):Hp w0 (D++Y) w':=by
 have hnd:=h.nodup
 rw[zd_,List.nodup_append] at hnd
 have hY: ∀c,c∈keys Y→c∉keys D:=by
  intro c hc hd
  rcases h2 c hd with hx|hx
  ·exact hnd.2.2 c hx c hc rfl
  ·have:=h.lt (b:=c) (by rw[zd_];exact List.mem_append_right _ hc)
   omega
 have ht:=h.trans k
 have e: (X++Y).filter (fun p=> !(keys D).contains p.1)=Y:=by
  rw[List.filter_append,jq_ hY]
  have:X.filter (fun p=> !(keys D).contains p.1)= []:=by
   rw[List.filter_eq_nil_iff]
   intro p hp
   have:=h1 p.1 (List.mem_map.2 ⟨p,hp,rfl⟩)
   simp[this]
  rw[this,List.nil_append]
 rw[e] at ht
 exact ht.perm List.perm_append_comm
theorem Ow.appendX {ts tx e:TypeId} {m:Bool×Nat} {z:Value} {s x:Operand} {n k:Nat} {cs new:List Value} {dx:TypeDesc} {md':Md} {X Y:zi_} (sv:Value) (hL:L=X++Y) (hsv:ev f s=sv) (he:md.turn=some md')
  (hs:zt_ ops f ⟨d, .call ⟨.builtin .append, #[s,x], #[ts,tx]⟩,ty,ps,af,g⟩=false)
  (hu:P.underlying ts=some (.slice e)) (hm:zU_ P e=some m) (hi:xB_ P e=true) (hz:z8_ P e=some z) (hzs:z.cells.size=m.2) (hux:P.underlying tx=some dx) (hnx: ∀k,dx≠ .int k)
  (hB:Gr X e m.2 sv n cs) (hX: ∀w,Hp w0 L w→AppX P w m.2 (ev f x) k new) (hk:0<k) (hbig:2* (n+k)+768≤2^38)
  (hn: ∀B v' D,ju_ L B→w0.heap.size≤B→Buf D e m.2 v' (n+k) (cs++new)→(∀c,c∈keys X→c∈keys D)→(∀c,c∈keys D→c∈keys X∨B≤c)→(∀c o,slB sv≠some c→look X c=some o→look D c=some o)→Ow P w0 ops md' rest (qz_ f d v') (D++Y) N):
  Ow P w0 ops md (⟨d, .call ⟨.builtin .append, #[s,x], #[ts,tx]⟩,ty,ps,af,g⟩::rest) f L N:=by
 subst hL
 refine Ow.step he rfl hs fun w hw=> ?_
 have hp:=hw.part
 have hA:ju_ (X++Y) w.heap.size:=z9_ fun b hb=>hw.lt hb
 have fin: ∀v' w' D,(Builtin.append_ #[ts,tx] ty #[sv,ev f x]).run P w= .ok v' w'→Hp w D w'→Buf D e m.2 v' (n+k) (cs++new)→(∀c,c∈keys X→c∈keys D)→(∀c,c∈keys D→c∈keys X∨w.heap.size≤c)→(∀c o,slB sv≠some c→look X c=some o→look D c=some o)→
   (∃v w' L',(execOp (ev f) ⟨d, .call ⟨.builtin .append, #[s,x], #[ts,tx]⟩,ty,ps,af,g⟩).run P w= .ok (.value v) w'∧Hp w0 L' w'∧Ow P w0 ops md' rest (qz_ f d v) L' N):=by
  intro v' w' D hr hD hb h1 h2 h3
  refine⟨v',w',D++Y, ?_,hw.join hD h1 h2,hn w.heap.size v' D hA hw.size hb h1 h2 h3⟩
  simp only[execOp,resolve,Sem.run_bind,Sem.run_pure,Result.andThen_ok,invoke,builtin,List.map_toArray,List.map_cons,List.map_nil,hsv]
  rw[hr]
  rfl
 have hX': ∀w',Hp w [] w'→True:=fun _ _=>trivial
 rcases hB with hB| ⟨rfl,rfl,b,rfl,hlk⟩
 ·obtain⟨v',w',D,hr,hD,hb,hg,-⟩:=wi_ (w0:=w) (L:=X) (ty:=ty) (x:=ev f x) hp hu hm hi hz hzs hux hnx hB (fun w2 hw2=>hX w2 (by
   refine hw.join hw2 (fun c hc=>hc) (fun c hc=> .inl hc))) hbig
  exact .inl (fin v' w' D hr hD hb hg.keys (fun c hc=>(hg.new c hc).imp id And.right) hg.look)
 ·rcases vW_ (w0:=w) (L:=X) (ty:=ty) (b:=b) (x:=ev f x) hp hu hm hi hz hzs hux hnx (fun w2 hw2=>hX w2 (by
   refine hw.join hw2 (fun c hc=>hc) (fun c hc=> .inl hc))) hbig with⟨h0,-⟩ | ⟨-,v',w',D,hr,hD,hb,hg,-⟩
  ·omega
  ·exact .inl (fin v' w' D hr hD hb hg.keys (fun c hc=>(hg.new c hc).imp id And.right) (fun c o _ hl=>hg.look c o (by simp[slB]) hl))
end
def GrI (D:zi_) (E:TypeId) (m:Nat) (v:Value) (n:Nat) (cs:List Value):Prop:= ∃X,(∀p,p∈X→p∈D)∧Gr X E m v n cs
theorem Gr.i {X D:zi_} {E:TypeId} {m n:Nat} {v:Value} {cs:List Value} (h:Gr X E m v n cs) (hX: ∀p,p∈X→p∈D):GrI D E m v n cs:=⟨X,hX,h⟩
theorem GrI.mono {D D':zi_} {E:TypeId} {m n:Nat} {v:Value} {cs:List Value} (h:GrI D E m v n cs) (hX: ∀p,p∈D→p∈D'):GrI D' E m v n cs:=by
 obtain⟨X,h1,h2⟩:=h;exact⟨X,fun p hp=>hX p (h1 p hp),h2⟩
theorem GrI.slV {α:Type} {m:Nat} {enc:α→List Value} {z:α} {w0 w:World} {v:Value} {l:List α} {D:zi_} {E:TypeId} {n:Nat} {cs:List Value} (h:GrI D E m v n cs) (hw:Hp w0 D w) (hl:l.length=n) (hcs:cs=(l.map enc).flatten) (hm: ∀x,(enc x).length=m):SlV m enc z w v l:=by
 obtain⟨X,h1,h2⟩:=h
 exact h2.slM (fun b o hm=>hw.has b o (h1 _ hm)) hl hcs hm
section
variable {P:Program} {w0:World} {f:Fr} {L:zi_} {N:Fr→zi_→Prop}
theorem vk_ {L _M:zi_} {b:Nat} {o:Obj} (h:b∉keys L):look (L++ [(b,o)]) b=some o:=by
 rw[z3_ h];exact zH_ _ _ _
theorem x2_ {b:Nat} {o x:Obj}: ∀ {L:zi_},b∉keys L→setB (L++ [(b,o)]) b x=L++ [(b,x)]
 | [],_=>by rw[List.nil_append,qt_];rfl
 | (c,y)::r,h=>by
  simp only[keys,List.map_cons,List.mem_cons,not_or] at h
  rw[List.cons_append,z6_ _ _ _ _ _ (Ne.symm h.1),x2_ (by simpa [keys] using h.2)];rfl
end
end Go.Sx
namespace Go.Sx
open Go
theorem qu_ {P:Program} {t e:TypeId} {m:Nat} {zc:Array Value} {cs:List Value} (hu:P.underlying t=some (.slice e)) (ha:zU_ P e=some (true,m)) (hz:z8_ P e=some (.agg zc)) (hm:0<m∧m≤16777216) (hc:cs.length=m):
  kU_ P t 1 [(0, .agg cs.toArray)]=some (e,cs.toArray):=by
 have h2:Value.cells (.agg cs.toArray)=cs.toArray:=ze_ _
 have hg: ¬ (1*m>2^24):=by simp;omega
 have h0: ¬ (1*m=0):=by omega
 simp only[kU_,hu,ha,hz,Option.map_some]
 rw[if_neg hg,if_neg h0]
 simp only
 generalize hI: (Array.range (1*m)).map (fun x=>(Value.cells (.agg zc))[x% (Value.cells (.agg zc)).size]!)=I
 have hIs:I.size=m:=by rw[←hI];simp
 have hfl:Instr.fill (fun i=>some (i*m,m)) I [(0,Value.agg cs.toArray)]=some cs.toArray:=by
  unfold Instr.fill
  have s3:cs.toArray.size=m:=by simp[hc]
  simp only[h2,s3,hIs,Nat.zero_mul,ne_eq,not_true_eq_false,decide_false,Bool.false_or,Nat.zero_add,Nat.lt_irrefl,gt_iff_lt,Bool.false_eq_true, ↓reduceIte]
  unfold Instr.fill
  congr 1
  have hz:=Z5_ cs 0 0 I
  rw[Nat.add_zero,adD_ I cs (by rw[hc,hIs])] at hz
  simp only[Nat.zero_add] at hz
  rw[←Array.foldl_toList,Array.toList_zipIdx]
  exact hz
 rw[hfl]
 rfl
end Go.Sx
namespace Go.Sx
open Go
abbrev ltB (a b:List UInt8):Bool:=Op.bytesLess a b
theorem Zd_: ∀ (x y:List UInt8),ltB x y=decide (x<y)
 | [],[]=>by simp[ltB,Op.bytesLess]
 |_::_,[]=>by simp[ltB,Op.bytesLess]
 | [],_::_=>by simp[ltB,Op.bytesLess]
 |a::x,b::y=>by
  have ih:=Zd_ x y
  simp only[ltB] at ih ⊢
  rw[Op.bytesLess,ih]
  simp only[List.cons_lt_cons_iff]
  by_cases h1:a<b<;>by_cases h2:a=b<;>by_cases h3:x<y<;>simp[h1,h2,h3]
theorem xo_ (a:List UInt8):ltB a a=false:=by
 rw[Zd_];simp
theorem kR_ {a b c:List UInt8} (h:ltB a b=true) (k:ltB b c=true):ltB a c=true:=by
 rw[Zd_,decide_eq_true_eq] at*
 exact List.lt_trans h k
theorem JG_ {a b:List UInt8} (h:ltB a b=true):ltB b a=false:=by
 cases hb:ltB b a
 ·rfl
 ·have:=kR_ h hb
  rw[xo_] at this;cases this
theorem akq_ {a b:List UInt8} (h:ltB a b=true):a≠b:=by
 rintro rfl
 rw[xo_] at h;cases h
theorem x9_ {a b:List UInt8} (h:ltB a b=false) (hne:a≠b):ltB b a=true:=by
 rw[Zd_,decide_eq_false_iff_not] at h
 rw[Zd_,decide_eq_true_eq]
 rcases Std.Trichotomous.rel_or_eq_or_rel_swap (r:=(· < · :List UInt8→List UInt8→Prop)) (a:=a) (b:=b) with h1|h1|h1
 ·exact absurd h1 h
 ·exact absurd h1 hne
 ·exact h1
end Go.Sx
namespace Go.StP
open Go Go.Sx
variable {α:Type} (key:α→List UInt8)
def lt (a b:α):Bool:=ltB (key a) (key b)
def Sorted (l:List α):Prop:=l.Pairwise fun a b=>lt key b a=false
def of (k:List UInt8) (l:List α):List α:=l.filter fun a=>key a==k
def St (l l':List α):Prop:= ∀k,of key k l'=of key k l
theorem St.refl (l:List α):St key l l:=fun _=>rfl
variable {key}
theorem St.trans {a b c:List α} (h:St key a b) (h':St key b c):St key a c:=fun k=>(h' k).trans (h k)
theorem St.symm {a b:List α} (h:St key a b):St key b a:=fun k=>(h k).symm
theorem adR_ (k:List UInt8) (a b:List α):of key k (a++b)=of key k a++of key k b:=List.filter_append ..
theorem St.app {a a' b b':List α} (h:St key a a') (h':St key b b'):St key (a++b) (a'++b'):=fun k=>by rw[adR_,adR_,h,h']
theorem akH_ {k:List UInt8} {l:List α} {x:α}:x∈of key k l↔x∈l∧key x=k:=by
 unfold of;rw[List.mem_filter];simp
theorem St.mem {a b:List α} (h:St key a b) (x:α):x∈b↔x∈a:=by
 have e:=h (key x)
 have h1:x∈b↔x∈of key (key x) b:=by rw[akH_];simp
 have h2:x∈a↔x∈of key (key x) a:=by rw[akH_];simp
 rw[h1,h2,e]
theorem ah5_ {k:List UInt8} {l:List α} (h: ∀x,x∈l→key x≠k):of key k l= []:=by
 unfold of
 rw[List.filter_eq_nil_iff]
 intro x hx
 simpa using h x hx
theorem St.swap {a b:List α} (h: ∀x,x∈a→ ∀y,y∈b→key x≠key y):St key (a++b) (b++a):=by
 intro k
 rw[adR_,adR_]
 by_cases ha: ∃x,x∈a∧key x=k
 ·obtain⟨x,hx,rfl⟩:=ha
  have:of key (key x) b= []:=ah5_ fun y hy e=>h x hx y hy e.symm
  rw[this,List.append_nil,List.nil_append]
 ·have:of key k a= []:=ah5_ fun x hx e=>ha ⟨x,hx,e⟩
  rw[this,List.append_nil,List.nil_append]
theorem alo_ {a b:α} (h:lt key a b=true):key a≠key b:=akq_ h
theorem lt_trans {a b c:α} (h:lt key a b=true) (k:lt key b c=true):lt key a c=true:=kR_ h k
theorem VL_ {a b:α} (h:lt key a b=true):lt key b a=false:=JG_ h
theorem lt_irrefl (a:α):lt key a a=false:=xo_ _
theorem aoi_ {a b:α} (h:lt key a b=false) (k:lt key b a=false):key a=key b:=by
 cases hk:decide (key a=key b)
 ·have hne:key a≠key b:=of_decide_eq_false hk
  have:=x9_ h hne
  unfold lt at k
  rw[this] at k;cases k
 ·exact of_decide_eq_true hk
theorem Zf_ {a b c:α} (h:lt key b a=false) (k:lt key c b=false):lt key c a=false:=by
 cases hc:lt key c a
 ·rfl
 ·by_cases e:key b=key c
  ·unfold lt at*
   rw[e,hc] at h;cases h
  ·have h1:lt key b c=true:=by
    refine x9_ ?_ (fun e'=>e e'.symm)
    exact k
   have:=lt_trans h1 hc
   rw[h] at this;cases this
theorem wC_ {a b c:α} (h:lt key a b=true) (k:lt key c b=false):lt key a c=true:=by
 cases hc:lt key a c
 ·have:=Zf_ (key:=key) (a:=b) (b:=c) (c:=a) k hc
  rw[h] at this;cases this
 ·rfl
theorem XF_ {a b c:α} (h:lt key b a=false) (k:lt key b c=true):lt key a c=true:=by
 cases hc:lt key a c
 ·have:=Zf_ (key:=key) (a:=c) (b:=a) (c:=b) hc h
  rw[k] at this;cases this
 ·rfl
theorem St.head {a b:α} {l l':List α} (hs:Sorted key (a::l)) (hs':Sorted key (b::l')) (h:St key (a::l) (b::l')):a=b∧St key l l':=by
 have h1:lt key b a=false:=by
  have hb:b∈a::l:=(h.mem b).1 List.mem_cons_self
  rcases List.mem_cons.1 hb with rfl|hb
  ·exact lt_irrefl _
  ·exact(List.pairwise_cons.1 hs).1 b hb
 have h2:lt key a b=false:=by
  have ha:a∈b::l':=(h.mem a).2 List.mem_cons_self
  rcases List.mem_cons.1 ha with rfl|ha
  ·exact lt_irrefl _
  ·exact(List.pairwise_cons.1 hs').1 a ha
 have hk:key a=key b:=aoi_ h2 h1
 have he:=h (key a)
 unfold of at he
 rw[List.filter_cons,List.filter_cons,if_pos (by simp[hk]),if_pos (by simp)] at he
 have hab:b=a:=(List.cons.inj he).1
 refine⟨hab.symm,fun k=> ?_⟩
 have hk':=h k
 subst hab
 unfold of at hk' ⊢
 rw[List.filter_cons,List.filter_cons] at hk'
 split at hk'
 ·exact(List.cons.inj hk').2
 ·exact hk'
theorem St.eq: ∀ {l l':List α},Sorted key l→Sorted key l'→St key l l'→l=l'
 | [],[],_,_,_=>rfl
 | [],b::l',_,_,h=>by
  have:b∈ ([]:List α):=(h.mem b).1 List.mem_cons_self
  cases this
 |a::l,[],_,_,h=>by
  have:a∈ ([]:List α):=(h.mem a).2 List.mem_cons_self
  cases this
 |a::l,b::l',hs,hs',h=>by
  obtain⟨rfl,h'⟩:=St.head hs hs' h
  rw[St.eq (List.pairwise_cons.1 hs).2 (List.pairwise_cons.1 hs').2 h']
theorem Sorted.app {a b:List α} (ha:Sorted key a) (hb:Sorted key b) (h: ∀x,x∈a→ ∀y,y∈b→lt key y x=false):Sorted key (a++b):=
 List.pairwise_append.2 ⟨ha,hb,h⟩
theorem Sorted.left {a b:List α} (h:Sorted key (a++b)):Sorted key a:=(List.pairwise_append.1 h).1
theorem Sorted.right {a b:List α} (h:Sorted key (a++b)):Sorted key b:=(List.pairwise_append.1 h).2.1
theorem Sorted.cross {a b:List α} (h:Sorted key (a++b)): ∀x,x∈a→ ∀y,y∈b→lt key y x=false:=(List.pairwise_append.1 h).2.2
theorem aeF_ {a b:List α} {x:α} (h:Sorted key (a++b)) (hb: ∀y,y∈b→lt key x y=true) (ha: ∀y,y∈a→lt key x y=false):Sorted key (a++x::b)∧St key (a++b++ [x]) (a++x::b):=by
 refine⟨Sorted.app h.left (List.pairwise_cons.2 ⟨fun y hy=>VL_ (hb y hy),h.right⟩) ?_, ?_⟩
 ·intro y hy z hz
  rcases List.mem_cons.1 hz with rfl|hz
  ·exact ha y hy
  ·exact h.cross y hy z hz
 ·rw[List.append_assoc]
  refine St.app (St.refl key a) ?_
  exact St.swap (a:=b) (b:= [x]) fun y hy z hz=>by
   rw[List.mem_singleton] at hz
   subst hz
   exact fun e=>alo_ (hb y hy) e.symm
end Go.StP
namespace Go.Sx
open Go
section
variable {α:Type} (enc:α→List Value)
def Qe_ (E:TypeId) (rest:List Value) (d:List α):Obj:= .cells ((d.map enc).flatten++rest).toArray E (0,0)
variable {enc} {m:Nat} {E:TypeId} {rest:List Value} {d:List α} {z:α}
theorem w8_ (hm: ∀x,(enc x).length=m) {k:Nat} (hk:k<d.length): ∃A C,(d.map enc).flatten++rest=A++ (enc (d.getD k z)++C)∧A.length=k*m∧ ∀x,((d.set k x).map enc).flatten++rest=A++ (enc x++C):=by
 refine⟨((d.take k).map enc).flatten,((d.drop (k+1)).map enc).flatten++rest, ?_, ?_,fun x=> ?_⟩
 ·have e:d=d.take k++d.getD k z::d.drop (k+1):=by
   rw[List.getD_eq_getElem?_getD,List.getElem?_eq_getElem hk,Option.getD_some,List.getElem_cons_drop,List.take_append_drop]
  have e2:=congrArg (fun l=>(l.map enc).flatten++rest) e
  simp only[List.map_append,List.map_cons,List.flatten_append,List.flatten_cons,List.append_assoc] at e2
  exact e2
 ·rw[k8_ hm,List.length_take,Nat.min_eq_left (Nat.le_of_lt hk)]
 ·have e:d.set k x=d.take k++x::d.drop (k+1):=List.set_eq_take_append_cons_drop.trans (by rw[if_pos hk])
  rw[e]
  simp only[List.map_append,List.map_cons,List.flatten_append,List.flatten_cons,List.append_assoc]
theorem vr_ (hm: ∀x,(enc x).length=m) (k:Nat) (hk:k<d.length):zA_ (some (true,m)) (some (Qe_ enc E rest d)) (k*m)=some (.agg (enc (d.getD k z)).toArray):=by
 obtain⟨A,C,e,hA,-⟩:=w8_ (z:=z) (rest:=rest) hm hk
 unfold Qe_
 rw[e]
 exact xV_ A _ C E (0,0) hA (hm _)
theorem V8_ (hm: ∀x,(enc x).length=m) (h1: ∀x,(enc x).all Value.oneCell'=true) (k:Nat) (x:α) (a:Bool) (hk:k<d.length):
  zs_ (some (a,m)) (some (Qe_ enc E rest d)) (k*m) (.agg (enc x).toArray)=some (Qe_ enc E rest (d.set k x)):=by
 obtain⟨A,C,e,hA,e2⟩:=w8_ (z:=x) (rest:=rest) hm hk
 unfold Qe_
 rw[e,e2 x]
 exact jz_ A _ _ C a _ E hA (hm _) (ze_ _) (hm _) (h1 _)
end
section
variable {P:Program} {w0:World} {f:Fr} {L:zi_} {N:Fr→zi_→Prop} {ops:Array Oper} {rest:List Oper} {md:Md} {d:Option Tmp} {ty:TypeId} {ps:String} {af:Array Edge} {g:Option (Nat×Bool)}
theorem Ow.callFn2 {x y y2:Operand} {ts:Array TypeId} {k:FuncId} {v a a2:Value} (hs:zt_ ops f ⟨d, .call ⟨.value x, #[y,y2],ts⟩,ty,ps,af,g⟩=false) (hx:ev f x= .func (.func k) #[] #[]) (hy:ev f y=a) (hy2:ev f y2=a2)
  (hk: ∀a w,(callFunc k a).run P w= .ok (.enter k a) w) (hc: ∀w,Hp w0 L w→Rets P k #[a,a2] w (fun v' D=>v'=v∧D= [])) (hn:Ow P w0 ops md.next rest (qz_ f d v) L N):
  Ow P w0 ops md (⟨d, .call ⟨.value x, #[y,y2],ts⟩,ty,ps,af,g⟩::rest) f L N:=
 Ow.callV hs hx hk (fun w hw=>by simpa [hy,hy2] using hc w hw) hn
end
end Go.Sx
namespace Go.StP
open Go Go.Sx
variable {α:Type} {key:α→List UInt8} {z:α}
theorem k0_ {a b:List α} {k:Nat} (h:k<a.length): (a++b).getD k z=a.getD k z:=by
 rw[List.getD_eq_getElem?_getD,List.getD_eq_getElem?_getD,List.getElem?_append_left h]
theorem jC_ {a b:List α} {k:Nat} (h:a.length≤k): (a++b).getD k z=b.getD (k - a.length) z:=by
 rw[List.getD_eq_getElem?_getD,List.getD_eq_getElem?_getD,List.getElem?_append_right h]
theorem Q2_ {l:List α} {k:Nat} (h:k<l.length):l.getD k z∈l:=by
 rw[List.getD_eq_getElem?_getD,List.getElem?_eq_getElem h];exact List.getElem_mem h
theorem mem_getD {l:List α} {x:α} (h:x∈l): ∃k,k<l.length∧l.getD k z=x:=by
 obtain⟨k,hk,rfl⟩:=List.mem_iff_getElem.1 h
 exact⟨k,hk,by rw[List.getD_eq_getElem?_getD,List.getElem?_eq_getElem hk];rfl⟩
theorem getD_take {l:List α} {k n:Nat} (h:k<n): (l.take n).getD k z=l.getD k z:=by
 rw[List.getD_eq_getElem?_getD,List.getD_eq_getElem?_getD,List.getElem?_take,if_pos h]
theorem Zr_ {l:List α} {k n:Nat}: (l.drop n).getD k z=l.getD (n+k) z:=by
 rw[List.getD_eq_getElem?_getD,List.getD_eq_getElem?_getD,List.getElem?_drop]
theorem drop_cons {l:List α} {k:Nat} (h:k<l.length):l.drop k=l.getD k z::l.drop (k+1):=by
 rw[List.getD_eq_getElem?_getD,List.getElem?_eq_getElem h]
 exact List.drop_eq_getElem_cons h
theorem take_snoc {l:List α} {k:Nat} (h:k<l.length):l.take (k+1)=l.take k++ [l.getD k z]:=by
 rw[List.getD_eq_getElem?_getD,List.getElem?_eq_getElem h]
 exact List.take_succ_eq_append_getElem h
theorem Sorted.at_ {l:List α} (h:Sorted key l) {i j:Nat} (hij:i≤j) (hj:j<l.length):lt key (l.getD j z) (l.getD i z)=false:=by
 rcases Nat.lt_or_eq_of_le hij with h1|rfl
 ·have:=List.pairwise_iff_getElem.1 h i j (by omega) hj h1
  rw[List.getD_eq_getElem?_getD,List.getD_eq_getElem?_getD,List.getElem?_eq_getElem hj,List.getElem?_eq_getElem (show i<l.length by omega)]
  exact this
 ·exact lt_irrefl _
theorem Sorted.take_lt {l:List α} (h:Sorted key l) {k:Nat} {x:α} (hk:k≤l.length) (hx:k=0∨lt key (l.getD (k - 1) z) x=true): ∀y,y∈l.take k→lt key y x=true:=by
 intro y hy
 obtain⟨i,hi,rfl⟩:=mem_getD (z:=z) hy
 rw[List.length_take,Nat.min_eq_left hk] at hi
 rw[getD_take hi]
 rcases hx with rfl|hx
 ·omega
 ·exact XF_ (h.at_ (by omega) (by omega)) hx
theorem Sorted.take_le {l:List α} (h:Sorted key l) {k:Nat} {x:α} (hk:k≤l.length) (hx:k=0∨lt key x (l.getD (k - 1) z)=false): ∀y,y∈l.take k→lt key x y=false:=by
 intro y hy
 obtain⟨i,hi,rfl⟩:=mem_getD (z:=z) hy
 rw[List.length_take,Nat.min_eq_left hk] at hi
 rw[getD_take hi]
 rcases hx with rfl|hx
 ·omega
 ·exact Zf_ (h.at_ (by omega) (by omega)) hx
theorem Sorted.drop_gt {l:List α} (h:Sorted key l) {k:Nat} {x:α} (hx:l.length≤k∨lt key x (l.getD k z)=true): ∀y,y∈l.drop k→lt key x y=true:=by
 intro y hy
 obtain⟨i,hi,rfl⟩:=mem_getD (z:=z) hy
 rw[List.length_drop] at hi
 rw[Zr_]
 rcases hx with hx|hx
 ·omega
 ·exact wC_ hx (h.at_ (by omega) (by omega))
theorem Sorted.drop_ge {l:List α} (h:Sorted key l) {k:Nat} {x:α} (hx:l.length≤k∨lt key (l.getD k z) x=false): ∀y,y∈l.drop k→lt key y x=false:=by
 intro y hy
 obtain⟨i,hi,rfl⟩:=mem_getD (z:=z) hy
 rw[List.length_drop] at hi
 rw[Zr_]
 rcases hx with hx|hx
 ·omega
 ·exact Zf_ hx (h.at_ (by omega) (by omega))
theorem afW_ {a c:List α} (u v:α) {i:Nat} (h:i=a.length): ((a++u::v::c).set i v).set (i+1) u=a++v::u::c:=by
 subst h
 rw[List.set_append_right _ _ (Nat.le_refl _),Nat.sub_self,List.set_cons_zero,List.set_append_right _ _ (by omega),show a.length+1 - a.length=1 by omega]
 rfl
theorem at_0 {a c:List α} (u:α) {i:Nat} (h:i=a.length): (a++u::c).getD i z=u:=by
 subst h
 rw[jC_ (Nat.le_refl _),Nat.sub_self];rfl
theorem at_1 {a c:List α} (u v:α) {i:Nat} (h:i=a.length+1): (a++u::v::c).getD i z=v:=by
 subst h
 rw[jC_ (by omega),show a.length+1 - a.length=1 by omega];rfl
def qU_ (a s:List α) (x:α) (b:List α) (k:Nat):List α:=a++ (s.take k++ (x:: (s.drop k++b)))
theorem v7_ (a s:List α) (x:α) (b:List α) (k:Nat): (qU_ a s x b k).length=a.length+s.length+1+b.length:=by
 unfold qU_;simp only[List.length_append,List.length_cons,List.length_take,List.length_drop];omega
theorem ZY_ {a s:List α} {x:α} {b:List α} {k i:Nat} (hk:k≤s.length) (h:i=a.length+k): (qU_ a s x b k).getD i z=x:=by
 unfold qU_
 rw[←List.append_assoc]
 exact at_0 x (by simp only[List.length_append,List.length_take];omega)
theorem acv_ {a s:List α} {x:α} {b:List α} {k i:Nat} (hk:k<s.length) (h:i=a.length+k): (qU_ a s x b (k+1)).getD i z=s.getD k z:=by
 unfold qU_
 rw[take_snoc (z:=z) hk,List.append_assoc,List.singleton_append,←List.append_assoc]
 exact at_0 _ (by simp only[List.length_append,List.length_take];omega)
theorem akS_ {a s:List α} {x:α} {b:List α} {k i:Nat} (hk:k<s.length) (h:i=a.length+k+1): (qU_ a s x b k).getD i z=s.getD k z:=by
 unfold qU_
 rw[drop_cons (z:=z) hk,←List.append_assoc,List.cons_append]
 exact at_1 x _ (by simp only[List.length_append,List.length_take];omega)
theorem aiu_ {a s:List α} {x:α} {b:List α} {k h i:Nat} (hh:h<k) (hk:k≤s.length) (e:i=a.length+h): (qU_ a s x b k).getD i z=s.getD h z:=by
 subst e
 unfold qU_
 rw[jC_ (by omega),Nat.add_sub_cancel_left,k0_ (by rw[List.length_take];omega),getD_take hh]
theorem ajf_ {a s:List α} {x:α} {b:List α} {k h i:Nat} (hh:k≤h) (hk:h<s.length) (e:i=a.length+1+h): (qU_ a s x b k).getD i z=s.getD h z:=by
 subst e
 unfold qU_
 rw[jC_ (by omega),jC_ (by rw[List.length_take];omega),List.length_take,show a.length+1+h - a.length - min k s.length=(h - k)+1 by omega,List.getD_cons_succ,k0_ (by rw[List.length_drop];omega),Zr_,show k+ (h - k)=h by omega]
theorem Kx_ {a s:List α} {x:α} {b:List α} {k i:Nat} (hk:k<s.length) (h:i=a.length+k): ((qU_ a s x b (k+1)).set i x).set (i+1) (s.getD k z)=qU_ a s x b k:=by
 unfold qU_
 rw[take_snoc (z:=z) hk,drop_cons (z:=z) hk,List.append_assoc,List.singleton_append,←List.append_assoc,←List.append_assoc]
 rw[afW_ _ _ (by simp only[List.length_append,List.length_take];omega),List.cons_append]
theorem aiW_ {a s:List α} {x:α} {b:List α} {k i:Nat} (hk:k<s.length) (h:i=a.length+k): ((qU_ a s x b k).set i (s.getD k z)).set (i+1) x=qU_ a s x b (k+1):=by
 unfold qU_
 rw[take_snoc (z:=z) hk,drop_cons (z:=z) hk,List.append_assoc,List.singleton_append,←List.append_assoc,←List.append_assoc,List.cons_append]
 rw[afW_ _ _ (by simp only[List.length_append,List.length_take];omega)]
theorem aap_ {l:List α} {i j:Nat} (h:i≠j) (u v:α): (l.set i u).set j v=(l.set j v).set i u:=List.set_comm _ _ h
theorem Wx_ (a s:List α) (x:α) (b:List α) {k:Nat} (h:s.length≤k):qU_ a s x b k=a++ ((s++ [x])++b):=by
 unfold qU_
 rw[List.take_of_length_le h,List.drop_eq_nil_of_le h,List.nil_append,List.append_assoc,List.singleton_append]
theorem aeV_ (a s:List α) (x:α) (b:List α):qU_ a s x b 0=a++ (([x]++s)++b):=by
 unfold qU_;rfl
theorem Zx_ (a s:List α) (x:α) (b:List α) (k:Nat):qU_ a s x b k=a++ ((s.take k++x::s.drop k)++b):=by
 unfold qU_
 rw[List.append_assoc,List.cons_append]
theorem Qs_ {s:List α} {x:α} {k:Nat} (hs:Sorted key s) (hk:k≤s.length) (h1:k=0∨lt key x (s.getD (k - 1) z)=false) (h2:s.length≤k∨lt key x (s.getD k z)=true):
  Sorted key (s.take k++x::s.drop k)∧St key (s++ [x]) (s.take k++x::s.drop k):=by
 have:=aeF_ (a:=s.take k) (b:=s.drop k) (x:=x) (by rw[List.take_append_drop];exact hs) (hs.drop_gt h2) (hs.take_le hk h1)
 rwa [List.take_append_drop] at this
theorem Vh_ {s:List α} {x:α} {k:Nat} (hs:Sorted key s) (hk:k≤s.length) (h1:k=0∨lt key (s.getD (k - 1) z) x=true) (h2:s.length≤k∨lt key (s.getD k z) x=false):
  Sorted key (s.take k++x::s.drop k)∧St key ([x]++s) (s.take k++x::s.drop k):=by
 have ht:=hs.take_lt hk h1
 have hd:=hs.drop_ge h2
 have hs':Sorted key (s.take k++s.drop k):=by rw[List.take_append_drop];exact hs
 refine⟨Sorted.app hs'.left (List.pairwise_cons.2 ⟨fun y hy=>hd y hy,hs'.right⟩) ?_, ?_⟩
 ·intro y hy w hw
  rcases List.mem_cons.1 hw with rfl|hw
  ·exact VL_ (ht y hy)
  ·exact hs'.cross y hy w hw
 ·have e: [x]++s=([x]++s.take k)++s.drop k:=by rw[List.append_assoc,List.take_append_drop]
  rw[e,show s.take k++x::s.drop k=(s.take k++ [x])++s.drop k by simp]
  refine St.app (St.swap fun y hy w hw=> ?_) (St.refl key _)
  rw[List.mem_singleton] at hy
  subst hy
  exact fun e=>alo_ (ht w hw) e.symm
theorem agP_ {l r:List α} {i j:Nat} {x1 x2:List α} (hl:Sorted key l) (hr:Sorted key r) (hi:i≤l.length) (hj:j≤r.length)
  (h1:j=0∨l.length≤i∨lt key (r.getD (j - 1) z) (l.getD i z)=true) (h2:i=0∨r.length≤j∨lt key (r.getD j z) (l.getD (i - 1) z)=false)
  (s1:Sorted key x1) (t1:St key (l.take i++r.take j) x1) (s2:Sorted key x2) (t2:St key (l.drop i++r.drop j) x2):Sorted key (x1++x2)∧St key (l++r) (x1++x2):=by
 have hl':Sorted key (l.take i++l.drop i):=by rw[List.take_append_drop];exact hl
 have hr':Sorted key (r.take j++r.drop j):=by rw[List.take_append_drop];exact hr
 have ha: ∀x,x∈r.take j→ ∀y,y∈l.drop i→lt key x y=true:=by
  intro x hx y hy
  rcases h1 with rfl|h1|h1
  ·cases hx
  ·rw[List.drop_eq_nil_of_le h1] at hy;cases hy
  ·have:=hr.take_lt (k:=j) (x:=l.getD i z) hj (.inr h1) x hx
   obtain⟨k,hk,rfl⟩:=mem_getD (z:=z) hy
   rw[List.length_drop] at hk
   rw[Zr_]
   exact wC_ this (hl.at_ (by omega) (by omega))
 have hb: ∀x,x∈l.take i→ ∀y,y∈r.drop j→lt key y x=false:=by
  intro x hx y hy
  rcases h2 with rfl|h2|h2
  ·cases hx
  ·rw[List.drop_eq_nil_of_le h2] at hy;cases hy
  ·have:=hr.drop_ge (k:=j) (x:=l.getD (i - 1) z) (.inr h2) y hy
   obtain⟨k,hk,rfl⟩:=mem_getD (z:=z) hx
   rw[List.length_take,Nat.min_eq_left hi] at hk
   rw[getD_take hk]
   exact Zf_ (hl.at_ (by omega) (by omega)) this
 refine⟨Sorted.app s1 s2 fun x hx y hy=> ?_, ?_⟩
 ·rw[t1.mem,List.mem_append] at hx
  rw[t2.mem,List.mem_append] at hy
  rcases hx with hx|hx<;>rcases hy with hy|hy
  ·exact hl'.cross x hx y hy
  ·exact hb x hx y hy
  ·exact VL_ (ha x hx y hy)
  ·exact hr'.cross x hx y hy
 ·have e:l++r=l.take i++ ((l.drop i++r.take j)++r.drop j):=by
   rw[List.append_assoc,List.take_append_drop,←List.append_assoc,List.take_append_drop]
  rw[e]
  refine St.trans (b:=l.take i++ ((r.take j++l.drop i)++r.drop j)) (St.app (St.refl key _) (St.app (St.swap fun x hx y hy e=>alo_ (ha y hy x hx) e.symm) (St.refl key _))) ?_
  rw[show l.take i++ ((r.take j++l.drop i)++r.drop j)=(l.take i++r.take j)++ (l.drop i++r.drop j) by simp only[List.append_assoc]]
  exact St.app t1 t2
end Go.StP
namespace Go.Sx
open Go
theorem qF_ {α:Type}: (∀ (a:α) (l:List α),(a::l).length=l.length+1)∧([]:List α).length=0∧(∀ (l:List α) (i:Nat) (a:α),(l.set i a).length=l.length)∧(∀ (l m:List α),(l++m).length=l.length+m.length)∧
  (∀ (n:Nat) (a:α),(List.replicate n a).length=n)∧(∀ (n:Nat) (l:List α),(l.take n).length=min n l.length)∧(∀ (n:Nat) (l:List α),(l.drop n).length=l.length - n)∧ ∀ {β:Type} (f:α→β) (l:List α),(l.map f).length=l.length:=
 ⟨fun _ _=>List.length_cons,List.length_nil,fun _ _ _=>List.length_set,fun _ _=>List.length_append,fun _ _=>List.length_replicate,fun _ _=>List.length_take,fun _ _=>List.length_drop,fun _ _=>List.length_map ..⟩
theorem qC_: (∀n:Nat,((n:Int)).toNat=n)∧(∀l:List UInt8,(a8 l).size=l.length)∧(∀l:List UInt32,(a32 l).size=l.length)∧(∀p:Prop,(p∧p)=p)∧(∀p:Prop,(p∧True)=p)∧ ∀p:Prop,(True∧p)=p:=
 ⟨Int.toNat_natCast,wU_,Zn_,fun _=>and_self _,fun _=>and_true _,fun _=>true_and _⟩
inductive Tag {α:Type} (x:α):Type
 |mk:Tag x
def seqN (F:Fr→zi_→xQ_→Prop) (K:xQ_) (f:Fr) (L:zi_):Prop:=F f L K
def cdC (v:Value) (A B S:Prop) (_:Tag (A,B,S)):Prop:=
 match v with
 | .bool true=>A
 | .bool false=>B
 |_=>S
abbrev CwS (P:Program) (w0:World) (c:Code) (f:Fr) (L:zi_) (K:xQ_) (_:Tag (c,K)):Prop:=Cw P w0 c f L K
abbrev OwS (P:Program) (w0:World) (ops:Array Oper) (md:Md) (l:List Oper) (f:Fr) (L:zi_) (N:Fr→zi_→Prop) (_:Tag (ops,l,N)):Prop:=Ow P w0 ops md l f L N
def bsK (K:xQ_) (e:Exit) (f:Fr) (L:zi_):Dep K:=K e f L
def bsN (N:Fr→zi_→Prop) (f:Fr) (L:zi_):Dep N:=N f L
abbrev bsR (K:xQ_) (e:Exit) (f:Fr) (L:zi_) (_:Tag K):Prop:=K e f L
abbrev bsM (N:Fr→zi_→Prop) (f:Fr) (L:zi_) (_:Tag N):Prop:=N f L
def owk (P:Program) (w0:World) (ops:Array Oper) (N:Fr→zi_→Prop) (md:Md) (l:List Oper) (f:Fr) (L:zi_):Dep (ops,N):=
 match l with
 | []=>N f L
 |o::r=>Ow P w0 ops md (o::r) f L N
def fid:Code→Nat
 | .seq a _=>fid a
 | .region i _ _=>i
 | .block _ c=>fid c
 | .loop c=>fid c
 | .scope c=>fid c
 |_=>500000
def abl_ (z:List Nat) (c:Code):Bool:=match z with
 | []=>false
 |k::r=>(k==1000000+fid c) ||abl_ r c
def vcC (P:Program) (w0:World) (z:List Nat):Code→Fr→zi_→xQ_→Prop
 | .seq x y,f,L,K=>ib (abl_ z (.seq x y)) (CwS P w0 (.seq x y) f L K .mk) (vcC P w0 z x f L (vK_ (seqN (fun f L K=>ib (z.contains 999999) (CwS P w0 y f L K .mk) (vcC P w0 z y f L K)) K) K))
 | .skip,f,L,K=>K .normal f L
 | .exit i,f,L,K=>K (.exit i) f L
 | .goto i,f,L,K=>K (.goto i) f L
 | .ret,f,L,K=>K .ret f L
 | .label l,f,L,K=>ib (z.contains 999999) (Cw P w0 (.label l) f L K) (K .normal f L)
 | .block id c,f,L,K=>vcC P w0 z c f L (ky_ id K)
 | .cond c x y,f,L,K=> ∃b,ev f c= .bool b∧(b=true→vcC P w0 z x f L K)∧(b=false→vcC P w0 z y f L K)
 | .region id ops false,f,L,K=>ib (z.contains id) (Cw P w0 (.region id ops false) f L K) (vcL P w0 ops true .seq ops.toList f L (owk P w0 ops (K .normal)))
 |c,f,L,K=>Cw P w0 c f L K
section
variable {P:Program} {w0:World} {f:Fr} {L:zi_} {K:xQ_} {N:Fr→zi_→Prop} {ops:Array Oper} {md:Md} {l:List Oper}
theorem aku_ (h:owk P w0 ops N md l f L):Ow P w0 ops md l f L N:=by
 cases l with
 |nil=>exact Ow.nil h
 |cons o r=>exact h
theorem Ow.go (he:md.eff=true) (h:vcL P w0 ops true md l f L (owk P w0 ops (bsN N))):Ow P w0 ops md l f L N:=
 kI_ _ (fun _ _ _ _ h=>aku_ h) true l md f L (fun _=>he) h
theorem Ow.goQ (h:vcL P w0 ops false md l f L (owk P w0 ops (bsN N))):Ow P w0 ops md l f L N:=
 kI_ _ (fun _ _ _ _ h=>aku_ h) false l md f L (fun e=>by cases e) h
theorem kZ_ {z:List Nat}: ∀ (c:Code) {f:Fr} {L:zi_} {K:xQ_},vcC P w0 z c f L K→Cw P w0 c f L K
 | .seq x y,f,L,K,h=>by
   unfold vcC at h
   cases hs:abl_ z (.seq x y) with
   |true=>rw[hs] at h;exact h
   |false=>
    rw[hs] at h
    refine Cw.seq ((kZ_ x h).mono fun e f L k=> ?_)
    cases e with
    |normal=>
     have k':ib (z.contains 999999) (CwS P w0 y f L K .mk) (vcC P w0 z y f L K):=k
     cases hz:z.contains 999999 with
     |true=>rw[hz] at k';exact k'
     |false=>rw[hz] at k';exact kZ_ y k'
    |_=>exact k
 | .skip,_,_,_,h=>Cw.skip h
 | .exit _,_,_,_,h=>Cw.exit h
 | .goto _,_,_,_,h=>Cw.goto h
 | .ret,_,_,_,h=>Cw.ret h
 | .label l,_,_,_,h=>by
   unfold vcC at h
   cases hz:z.contains 999999 with
   |true=>rw[hz] at h;exact h
   |false=>rw[hz] at h;exact Cw.label h
 | .block id c,_,_,_,h=>Cw.block (kZ_ c h)
 | .cond c x y,_,_,_,⟨b,hb,h1,h2⟩=>Cw.cond hb (fun e=>kZ_ x (h1 e)) (fun e=>kZ_ y (h2 e))
 | .region id ops false,f,L,K,h=>by
   obtain⟨l⟩:=ops
   unfold vcC at h
   cases hz:z.contains id with
   |true=>rw[hz] at h;exact h
   |false=>rw[hz] at h;exact Cw.region (Ow.go rfl h)
 | .region _ _ true,_,_,_,h=>h
 | .loop _,_,_,_,h=>h
 | .rangeFunc _ _ _ _,_,_,_,h=>h
 | .scope _,_,_,_,h=>h
 | .refuse _,_,_,_,h=>h
end
class Steps (c:Code):Prop
instance {x y:Code}:Steps (.seq x y):=⟨⟩
instance:Steps .skip:=⟨⟩
instance {i:Nat}:Steps (.exit i):=⟨⟩
instance {i:Nat}:Steps (.goto i):=⟨⟩
instance:Steps .ret:=⟨⟩
instance {i:Nat} {c:Code}:Steps (.block i c):=⟨⟩
instance {c:Operand} {x y:Code}:Steps (.cond c x y):=⟨⟩
instance {i:Nat} {ops:Array Oper}:Steps (.region i ops false):=⟨⟩
theorem Cw.go {P:Program} {w0:World} {c:Code} {f:Fr} {L:zi_} {K:xQ_} (z:List Nat) [Steps c] (h:vcC P w0 z c f L (bsK K)):Cw P w0 c f L K:=kZ_ c h
@[congr] theorem ano_ {v v':Value} {A B S:Prop} {t:Tag (A,B,S)} (h:v=v'):cdC v A B S t=cdC v' A B S t:=by rw[h]
section
variable (P:Program) (w0:World) (z:List Nat) (f:Fr) (L:zi_) (K:xQ_) (N:Fr→zi_→Prop) (ops:Array Oper) (md:Md)
theorem ajK_ (x y:Code):vcC P w0 [] (.seq x y) f L K=vcC P w0 [] x f L (vK_ (seqN (fun f L K=>vcC P w0 [] y f L K) K) K):=(rfl)
theorem ajJ_ (k:Nat) (z:List Nat) (x y:Code):vcC P w0 (k::z) (.seq x y) f L K=ib (abl_ (k::z) (.seq x y)) (CwS P w0 (.seq x y) f L K .mk) (vcC P w0 (k::z) x f L (vK_ (seqN (fun f L K=>ib ((k::z).contains 999999) (CwS P w0 y f L K .mk) (vcC P w0 (k::z) y f L K)) K) K)):=(rfl)
theorem aiN_:vcC P w0 z .skip f L K=K .normal f L:=(rfl)
theorem ai1_ (i:Nat):vcC P w0 z (.exit i) f L K=K (.exit i) f L:=(rfl)
theorem aiz_ (i:Nat):vcC P w0 z (.goto i) f L K=K (.goto i) f L:=(rfl)
theorem al6_:vcC P w0 z .ret f L K=K .ret f L:=(rfl)
theorem ag4_ (i:Nat):vcC P w0 z (.label i) f L K=ib (z.contains 999999) (CwS P w0 (.label i) f L K .mk) (K .normal f L):=(rfl)
theorem aid_ (i:Nat) (c:Code):vcC P w0 z (.block i c) f L K=vcC P w0 z c f L (ky_ i K):=(rfl)
theorem ai2_ (c:Operand) (x y:Code):vcC P w0 z (.cond c x y) f L K=cdC (ev f c) (vcC P w0 z x f L K) (vcC P w0 z y f L K) (vcC P w0 z (.cond c x y) f L K) .mk:=by
 unfold cdC
 split
 ·rename_i h;simp[vcC,h]
 ·rename_i h;simp[vcC,h]
 ·rfl
theorem aeY_ (i:Nat) (l:List Oper):vcC P w0 z (.region i l.toArray false) f L K=ib (z.contains i) (CwS P w0 (.region i l.toArray false) f L K .mk) (vcL P w0 l.toArray true .seq l f L (owk P w0 l.toArray (K .normal))):=(rfl)
theorem agN_ (i:Nat) (ops:Array Oper):vcC P w0 z (.region i ops true) f L K=CwS P w0 (.region i ops true) f L K .mk:=(rfl)
theorem ajQ_ (c:Code):vcC P w0 z (.loop c) f L K=CwS P w0 (.loop c) f L K .mk:=(rfl)
theorem ahn_ (c:Code):vcC P w0 z (.scope c) f L K=CwS P w0 (.scope c) f L K .mk:=(rfl)
theorem afJ_ (x:Operand) (p:Array Tmp) (a c:Code):vcC P w0 z (.rangeFunc x p a c) f L K=CwS P w0 (.rangeFunc x p a c) f L K .mk:=(rfl)
theorem alq_ (F:Fr→zi_→xQ_→Prop):bsN (seqN F K) f L=F f L K:=(rfl)
theorem aow_ (e:Exit):bsN (K e) f L=bsK K e f L:=(rfl)
theorem anq_ (c:Code):bsN (fun f L=>Cw P w0 c f L K) f L=CwS P w0 c f L K .mk:=(rfl)
theorem ald_:vK_ N K .normal f L=bsN N f L:=(rfl)
theorem alH_ (i:Nat):vK_ N K (.exit i) f L=K (.exit i) f L:=(rfl)
theorem alv_ (i:Nat):vK_ N K (.goto i) f L=K (.goto i) f L:=(rfl)
theorem alJ_:vK_ N K .ret f L=K .ret f L:=(rfl)
theorem ako_ (i:Nat):ky_ i K .normal f L=K .normal f L:=(rfl)
theorem ajp_ (i j:Nat):ky_ i K (.goto j) f L=K (.goto j) f L:=(rfl)
theorem aj1_ (i:Nat):ky_ i K .ret f L=K .ret f L:=(rfl)
theorem aiE_ (i j:Nat):ky_ i K (.exit j) f L=ib (j==i) (K .normal f L) (K (.exit j) f L):=by
 by_cases h:j=i
 ·have e: (j==i)=true:=beq_iff_eq.2 h
  rw[e]
  simp[ky_,ib,h]
 ·have e: (j==i)=false:=beq_eq_false_iff_ne.2 h
  rw[e]
  simp[ky_,ib,h]
theorem aiy_ (A:Nat→Fr→zi_→Prop):vz_ A K .normal f L=K .normal f L:=(rfl)
theorem akp_ (A:Nat→Fr→zi_→Prop) (i:Nat):vz_ A K (.exit i) f L=K (.exit i) f L:=(rfl)
theorem aiH_ (A:Nat→Fr→zi_→Prop) (i:Nat):vz_ A K (.goto i) f L=bsN (A i) f L:=(rfl)
theorem aio_ (A:Nat→Fr→zi_→Prop):vz_ A K .ret f L=K .ret f L:=(rfl)
theorem alg_:owk P w0 ops N md [] f L=bsN N f L:=(rfl)
theorem alz_ (e:Exit):bsK K e f L=bsR K e f L .mk:=(rfl)
theorem alC_:bsN N f L=bsM N f L .mk:=(rfl)
theorem and_:bsN (bsN N) f L=bsN N f L:=(rfl)
theorem amG_ (e:Exit):bsK (bsK K) e f L=bsK K e f L:=(rfl)
theorem ajw_ (e:Exit):bsK (vK_ N K) e f L=vK_ N (bsK K) e f L:=by cases e<;>rfl
theorem afz_ (i:Nat) (e:Exit):bsK (ky_ i K) e f L=ky_ i (bsK K) e f L:=by cases e<;>rfl
theorem afD_ (A:Nat→Fr→zi_→Prop) (e:Exit):bsK (vz_ A K) e f L=vz_ A (bsK K) e f L:=by cases e<;>rfl
theorem aiw_ (o:Oper) (r:List Oper):owk P w0 ops N md (o::r) f L=OwS P w0 ops md (o::r) f L N .mk:=(rfl)
end
section
variable (A B S:Prop) (t:Tag (A,B,S))
theorem an1_:cdC (.bool true) A B S t=A:=(rfl)
theorem anY_:cdC (.bool false) A B S t=B:=(rfl)
theorem ajG_ (b:Bool) (h:b=true):cdC (.bool b) A B S t=A:=by rw[h];rfl
theorem aj4_ (b:Bool) (h:b=false):cdC (.bool b) A B S t=B:=by rw[h];rfl
theorem anb_ (p:Prop) [Decidable p] (h:p):cdC (.bool (decide p)) A B S t=A:=ajG_ A B S t _ (decide_eq_true h)
theorem anr_ (p:Prop) [Decidable p] (h: ¬p):cdC (.bool (decide p)) A B S t=B:=aj4_ A B S t _ (decide_eq_false h)
theorem ani_ (a b:Int) (h:a=b):cdC (.bool (a==b)) A B S t=A:=ajG_ A B S t _ (beq_iff_eq.2 h)
theorem am0_ (a b:Int) (h: ¬a=b):cdC (.bool (a==b)) A B S t=B:=aj4_ A B S t _ (beq_eq_false_iff_ne.2 h)
theorem an4_ (a b:Int) (h: ¬a=b):cdC (.bool (a !=b)) A B S t=A:=ajG_ A B S t _ (bne_iff_ne.2 h)
theorem anW_ (a b:Int) (h:a=b):cdC (.bool (a !=b)) A B S t=B:=aj4_ A B S t _ (by rw[h];simp)
end
theorem ak8_ (w0:World) (L:zi_) (v:Value):XI_ w0 L .no v=none:=(rfl)
theorem aml_ (w0:World) (L:zi_) (e:TypeId) (v:Value):XI_ w0 L (.strBytes e) v=none:=(rfl)
theorem amJ_ (v:Value):QV_ .no v=none:=by unfold QV_;split<;>first|rfl| (rename_i h;cases h)
theorem agK_ (c:Code):abl_ [] c=false:=(rfl)
theorem aed_ (k:Nat) (r:List Nat) (c:Code):abl_ (k::r) c=((k==1000000+fid c) ||abl_ r c):=(rfl)
theorem akP_ (a b:Code):fid (.seq a b)=fid a:=(rfl)
theorem afi_ (i:Nat) (o:Array Oper) (d:Bool):fid (.region i o d)=i:=(rfl)
theorem ahT_ (i:Nat) (c:Code):fid (.block i c)=fid c:=(rfl)
theorem akc_ (c:Operand) (x y:Code):fid (.cond c x y)=500000:=(rfl)
theorem ain_ (c:Code):fid (.loop c)=fid c:=(rfl)
theorem agF_ (c:Code):fid (.scope c)=fid c:=(rfl)
theorem agI_ (i:Nat):fid (.label i)=500000:=(rfl)
theorem ajV_ (i:Nat):fid (.goto i)=500000:=(rfl)
theorem aj7_ (i:Nat):fid (.exit i)=500000:=(rfl)
theorem aj2_:fid .skip=500000:=(rfl)
theorem amm_:fid .ret=500000:=(rfl)
theorem agB_ (x:Operand) (p:Array Tmp) (a c:Code):fid (.rangeFunc x p a c)=500000:=(rfl)
def allF (j:Nat→Value):Nat→Nat→Fr
 |_,0=> []
 |k,n+1=>j k::allF j (k+1) n
theorem agX_ (j:Nat→Value) (k:Nat):allF j k 0= []:=(rfl)
theorem ahl_ (j:Nat→Value) (k n:Nat):allF j k (n+1)=j k::allF j (k+1) n:=(rfl)
def CutM {G:Type} (n:Nat) (S:G→List (Nat×Value)) (H:G→zi_) (J:G→Prop) (f':Fr) (L':zi_):Prop:=
 ∃g,J g∧L'=H g∧f'=pin (allF (vC_ f') 0 n) (S g)
theorem CutM.mk {G:Type} {n:Nat} {S:G→List (Nat×Value)} {H:G→zi_} {J:G→Prop} {f':Fr} {L':zi_} (g:G) (hJ:J g) (hL:L'=H g) (hf:f'=pin (allF (vC_ f') 0 n) (S g)):CutM n S H J f' L':=⟨g,hJ,hL,hf⟩
theorem Cw.cut {P:Program} {w0:World} {x y:Code} {f:Fr} {L:zi_} {K:xQ_} {G:Type} (n:Nat) (S:G→List (Nat×Value)) (H:G→zi_) (J:G→Prop) (h1:Cw P w0 x f L (vK_ (CutM n S H J) K))
  (h2: ∀ (g:G) (j:Nat→Value),J g→Cw P w0 y (pin (allF j 0 n) (S g)) (H g) K):Cw P w0 (.seq x y) f L K:=by
 refine Cw.seq (h1.mono fun e f L k=> ?_)
 cases e with
 |normal=>
  obtain⟨g,hJ,rfl,hf⟩:=k
  have:=h2 g (vC_ f) hJ
  rw[←hf] at this
  exact this
 |_=>exact k
theorem cdC.splitp {p:Prop} [Decidable p] {A B S:Prop} {t:Tag (A,B,S)} (ht:p→A) (he: ¬p→B):cdC (.bool (decide p)) A B S t:=by
 by_cases h:p
 ·rw[anb_ A B S t p h];exact ht h
 ·rw[anr_ A B S t p h];exact he h
theorem cdC.split {b:Bool} {A B S:Prop} {t:Tag (A,B,S)} (ht:b=true→A) (he:b=false→B):cdC (.bool b) A B S t:=by
 cases b with
 |true=>exact ht rfl
 |false=>exact he rfl
end Go.Sx
namespace Go.Sx
open Go
def Z3_ (r:Option Nat):Fence:={Fence.wide with round:=r}
def J7_:Op→Bool
 | .defer _=>false
 |_=>true
section
variable {P:Program} {w0:World} {f:Fr} {L:zi_} {K:xQ_} {N:Fr→zi_→Prop} {ops:Array Oper} {rest:List Oper} {r:Option Nat} {n:Nat}
theorem aa3_ {k:FuncId} {args:Array Value} {w:World} {R:Ending→World→Prop} (h:Calls P k args w R):CallsIn (Z3_ r) n P k args w R:=
 (callsIn_wide.2 h:CallsIn Fence.wide n P k args w R)
theorem ad9_ {row:String} {args:Array Value} {w:World} {R:Value→World→Prop} (h:Rows P row args w R):RowsIn (Z3_ r) n P row args w R:=
 (fun c cs _=>let ⟨v,w',hr,s⟩:=h c cs;⟨v,w',hr,stepsIn_wide.2 s⟩:RowsIn Fence.wide n P row args w R)
theorem ak6_ {o:Oper} {a:Act} {w:World} {next:Act→World→Prop} {Q:Exit→Act→World→Prop} (hd:J7_ o.op=true) (h:o.wp P a w next Q):o.wpIn (Z3_ r) n P a w next Q:=by
 refine⟨fun _ _=>trivial, ?_⟩
 rw[Oper.semAt_eq _ _ _ (fun c e=>by rw[e] at hd;cases hd)]
 unfold Oper.wp at h
 generalize (execOp a.eval o).run P w=x at h
 match x,h with
 | .ok (.value v) _,h=>exact h
 | .ok .skip _,h=>exact h
 | .ok (.defer e) _,h=>exact h
 | .ok (.enter k args) w',h=>
  have h':Calls P k args w' _:=h
  exact⟨fun(e:false=true)=>(by cases e),aa3_ h'⟩
 | .ok (.row row args) w',h=>
  have h':Rows P row args w' _:=h
  exact⟨fun(e:false=true)=>(by cases e),ad9_ h'⟩
 | .halt (.panic u) _,h=>exact h
theorem abn_ {Q:Exit→Act→World→Prop} {l2:List Oper}: ∀ (l1:List Oper) (a:Act) (w:World),(l1.all fun o=>J7_ o.op)=true→
  wpList P ops (fun e a w=>e= .normal∧wpListIn (Z3_ r) n P ops Q l2 a w) l1 a w→wpListIn (Z3_ r) n P ops Q (l1++l2) a w
 | [],_,_,_,h=>h.2
 |o::l1,a,w,hd,h=>by
  rw[List.cons_append]
  unfold wpList at h
  unfold wpListIn
  rw[List.all_cons,Bool.and_eq_true] at hd
  split at h
  ·rename_i hw
   rw[if_pos hw]
   rcases h with h| ⟨-,hl⟩
   ·exact ak6_ hd.1 (vT_ (fun a w hx=>abn_ l1 a w hd.2 hx) (fun e a w hne hq=>hne hq.1) h)
   ·obtain⟨_,_,he,-⟩:=hl
    cases he
  ·rename_i hw
   rw[if_neg hw]
   exact⟨fun _ _=>trivial,abn_ l1 _ _ hd.2 h⟩
def OwI (r:Option Nat) (P:Program) (w0:World) (ops:Array Oper) (l:List Oper) (f:Fr) (L:zi_) (N:Fr→zi_→Prop):Prop:=
 ∀w,Hp w0 L w→wpListIn (Z3_ r) 0 P ops (jM_ w0 N) l (act f) w
theorem OwI.nil (h:N f L):OwI r P w0 ops [] f L N:=fun _ hw=>⟨rfl,rfl,L,hw,by simpa [act] using h⟩
theorem OwI.pre {l1 l2:List Oper} (hd: (l1.all fun o=>J7_ o.op)=true) (h:Ow P w0 ops .seq l1 f L (fun f' L'=>OwI r P w0 ops l2 f' L' N)):OwI r P w0 ops (l1++l2) f L N:=by
 intro w hw
 refine abn_ l1 _ _ hd ?_
 have h1:=h w hw
 have mono: ∀ (l:List Oper) (a:Act) (w:World),wpList P ops (jM_ w0 (fun f' L'=>OwI r P w0 ops l2 f' L' N)) l a w→wpList P ops (fun e a w=>e= .normal∧wpListIn (Z3_ r) 0 P ops (jM_ w0 N) l2 a w) l a w:=by
  intro l
  induction l with
  |nil=>
   rintro a w ⟨-,hd',L',hp,hO⟩
   refine⟨rfl, ?_⟩
   have:=hO w hp
   rwa [←Qo_ hd'] at this
  |cons o l ih=>
   intro a w h
   unfold wpList at h ⊢
   split at h
   ·rename_i hw
    rw[if_pos hw]
    rcases h with h| ⟨-,hl⟩
    ·exact .inl (vT_ ih (fun e a w hne hq=>hne hq.1) h)
    ·obtain⟨_,_,he,-⟩:=hl
     cases he
   ·rename_i hw
    rw[if_neg hw]
    exact ih _ _ h
 exact mono l1 _ _ h1
theorem Ow.mono_seq {l:List Oper} {N':Fr→zi_→Prop} (h:Ow P w0 ops .seq l f L N) (hN: ∀f L,N f L→N' f L):Ow P w0 ops .seq l f L N':=by
 intro w hw
 have h1:=h w hw
 clear h
 revert h1
 generalize act f=a
 clear hw
 induction l generalizing a w with
 |nil=>rintro⟨h1,h2,L',h3,h4⟩;exact⟨h1,h2,L',h3,hN _ _ h4⟩
 |cons o l ih=>
  intro h
  unfold wpList at h ⊢
  split at h
  ·rename_i hw
   rw[if_pos hw]
   rcases h with h| ⟨-,hl⟩
   ·exact .inl (vT_ (fun a w hx=>ih w a hx) (fun e a w hne hq=>hne hq.1) h)
   ·obtain⟨_,_,he,-⟩:=hl
    cases he
  ·rename_i hw
   rw[if_neg hw]
   exact ih _ _ h
theorem OwI.all {l:List Oper} (hd: (l.all fun o=>J7_ o.op)=true) (h:Ow P w0 ops .seq l f L N):OwI r P w0 ops l f L N:=by
 have:=OwI.pre (r:=r) (l2:= []) (N:=N) hd (Ow.mono_seq h (fun f L hN=>OwI.nil hN))
 simpa using this
theorem Cw.regionI {id:Nat} {l:List Oper} (h:OwI none P w0 l.toArray l f L (K .normal)):Cw P w0 (.region id l.toArray false) f L K:=by
 intro w hw
 have h1: (Code.region id l.toArray false).wpIn Fence.wide 0 P (jM_ w0 (K .normal)) (act f) w:=wpIn_region_lit (h w hw)
 exact wp_mono (wpIn_wide.1 h1) fun _ _ _ h=>j1_ h
theorem abR_ {x y:Operand} {ts:Array TypeId} {l:Nat} {d:Option Tmp} {ty:TypeId} {ps:String} {af:Array Edge} {g:Option (Nat×Bool)} (hx:ev f x= .func (.yield l) #[] #[]) (w:World):
  (execOp (ev f) ⟨d, .call ⟨.value x, #[y],ts⟩,ty,ps,af,g⟩).run P w=(Instr.yield l #[ev f y]).run P w:=by
 simp only[execOp,resolve,hx,Deferred.ofValue,Sem.run_bind,Sem.run_pure,Result.andThen_ok,invoke]
 simp
theorem OwI.yieldX {x y:Operand} {ts:Array TypeId} {l:Nat} {X Y:zi_} {S:zi_→Prop} {d:Option Tmp} {ty:TypeId} {ps:String} {af:Array Edge} {g:Option (Nat×Bool)} (hL:L=X++Y)
  (hs:zt_ ops f ⟨d, .call ⟨.value x, #[y],ts⟩,ty,ps,af,g⟩=false) (hx:ev f x= .func (.yield l) #[] #[])
  (hc: ∀w,Hp w X w→YieldAt (Z3_ r) 0 P l #[ev f y] w (fun e w'=> ∃D,e= .returned (.bool true)∧Hp w D w'∧Ext w X D∧S D))
  (hn: ∀D,Came w0 L X D→S D→OwI r P w0 ops rest (qz_ f d (.bool true)) (D++Y) N):OwI r P w0 ops (⟨d, .call ⟨.value x, #[y],ts⟩,ty,ps,af,g⟩::rest) f L N:=by
 subst hL
 intro w hw
 unfold wpListIn
 rw[if_pos (by rw[qo_,hs];rfl)]
 refine⟨fun _ _=>trivial, ?_⟩
 rw[Oper.semAt_eq _ _ _ (fun c e=>by cases e),jx_,abR_ hx]
 obtain⟨fn,tmps,assign,body,hy,hR⟩:=hc w hw.part
 rw[hy]
 refine⟨fun(e:false=true)=>(by cases e),hR.mono ?_⟩
 rintro e w' ⟨D,rfl,hp,hX,hS⟩
 have:=hn D ⟨fun c hc=>(hX.new c hc).imp id fun h=>⟨z9_ fun b hb=>Nat.lt_of_lt_of_le (hw.lt hb) h,Nat.le_trans hw.size h⟩,hX.all⟩ hS w' (hw.join hp hX.all hX.new)
 rw[←qa_] at this
 exact this
def CwR (r:Option Nat) (P:Program) (w0:World) (c:Code) (f:Fr) (L:zi_) (K:xQ_):Prop:= ∀w,Hp w0 L w→c.wpIn (Z3_ r) 0 P (post w0 K) (act f) w
theorem CwR.region {id:Nat} {l:List Oper} (hd: (l.all fun o=>J7_ o.op)=true) (h:Ow P w0 l.toArray .seq l f L (K .normal)):CwR r P w0 (.region id l.toArray false) f L K:=
 fun w hw=>wpIn_mono (wpIn_region_lit (OwI.all hd h w hw)) fun _ _ _ h=>j1_ h
theorem CwR.block {id:Nat} {c:Code} (h:CwR r P w0 c f L (ky_ id K)):CwR r P w0 (.block id c) f L K:=by
 intro w hw
 refine wpIn_block (wpIn_mono (h w hw) ?_)
 rintro e a w' ⟨hd,L',hp,k⟩
 cases e with
 |exit i=>
  simp only[Exit.inBlock]
  simp only[ky_] at k
  split
  ·rename_i e;rw[if_pos e] at k;exact⟨hd,L',hp,k⟩
  ·rename_i e;rw[if_neg e] at k;exact⟨hd,L',hp,k⟩
 |_=>exact⟨hd,L',hp,k⟩
theorem Hp.put {w:World} (h:Hp w0 L w) {b:Nat} {o:Obj} (hb:b∈keys L):Hp w0 (setB L b o) (w.putObj b o):=h.set hb rfl rfl rfl rfl
theorem YieldAt.of {l:Nat} {rc:Loop} {X:zi_} {args:Array Value} {w:World} {r0:Option Nat} {S:zi_→Prop} (hX:Hp w X w) (hl:look X l=some (.loop rc)) (hr:rc.state= .ready) (hp:rc.pending=none) (hs:args.size=rc.params.size)
  (h:CwR (some l) P w rc.assign ((rc.params.zip args).foldl (fun tmps (p:Tmp×Value)=>tmps.setIfInBounds p.1 p.2) rc.tmps).toList X (fun e f1 L1=>e= .normal∧look L1 l=some (.loop rc)∧
   CwR (some l) P w rc.body f1 (setB L1 l (.loop {rc with state:= .busy})) (fun e _ L2=>e= .normal∧look L2 l=some (.loop {rc with state:= .busy})∧S (setB L2 l (.loop rc))))):
  YieldAt (Z3_ r0) 0 P l args w (fun e w'=> ∃D,e= .returned (.bool true)∧Hp w D w'∧S D):=by
 obtain⟨st,pe,fn0,tm,pa,asg,bo,de⟩:=rc
 obtain rfl:st= .ready:=hr
 obtain rfl:pe=none:=hp
 have hl0:=hX.has _ _ (zF_ hl)
 refine⟨fn0,_,asg,bo,run_yield hl0 hs,roundIn_of_wpIn (F:=Z3_ r0) (n:=0) trivial ?_⟩
 have h1:=h w hX
 have ea:act ((pa.zip args).foldl (fun tmps (p:Tmp×Value)=>tmps.setIfInBounds p.1 p.2) tm).toList={tmps:=(pa.zip args).foldl (fun tmps (p:Tmp×Value)=>tmps.setIfInBounds p.1 p.2) tm,defers:= []}:=by
  simp[act]
 simp only at h1
 rw[ea] at h1
 refine wpIn_mono h1 ?_
 rintro e a1 w1 ⟨hd1,L1,hp1,rfl,hl1,hbody⟩
 have hb1:=run_beginRound (P:=P) (hp1.has _ _ (zF_ hl1)) rfl
 refine⟨_,hb1, ?_⟩
 have h2:=hbody _ (hp1.put (o:= .loop {state:= .busy,pending:=none,fn:=fn0,tmps:=tm,params:=pa,assign:=asg,body:=bo,defers:=de}) (zn_ hl1))
 rw[←Qo_ hd1] at h2
 refine wpIn_mono h2 ?_
 rintro e a2 w2 ⟨hd2,L2,hp2,rfl,hl2,hS⟩
 have he:=run_endRound (P:=P) none (hp2.has _ _ (zF_ hl2))
 exact⟨_,_,he,_,rfl,hp2.put (zn_ hl2),hS⟩
def aom_ (ds:List Deferred) (w0:World) (K:xQ_) (e:Exit) (a:Act) (w:World):Prop:=a.defers=ds∧ ∃L,Hp w0 L w∧K e a.tmps.toList L
def CwE (ds:List Deferred) (P:Program) (w0:World) (c:Code) (f:Fr) (L:zi_) (K:xQ_):Prop:= ∀w,Hp w0 L w→c.wp P (aom_ ds w0 K) ⟨f.toArray,ds⟩ w
theorem CwE.seq {ds:List Deferred} {x y:Code} (h:CwE ds P w0 x f L (vK_ (fun f L=>CwE ds P w0 y f L K) K)):CwE ds P w0 (.seq x y) f L K:=by
 intro w hw
 refine wp_seq (wp_mono (h w hw) ?_)
 rintro e a w' ⟨hd,L',hp,k⟩
 cases e with
 |normal=>
  have:=k w' hp
  have ea:a=⟨a.tmps.toList.toArray,ds⟩:=by cases a;simp only at hd;subst hd;simp
  rw[ea]
  exact this
 |_=>exact⟨hd,L',hp,k⟩
theorem CwE.ret {ds:List Deferred} (h:K .ret f L):CwE ds P w0 .ret f L K:=fun _ hw=>wp_ret ⟨rfl,L,hw,by simpa using h⟩
def evVs (P:Program) (w0:World) (L:zi_):List Oper→Fr→Option Fr
 | [],f=>some f
 |o::r,f=>match o.guard,x7_ P w0 L f o.op with
  |none,some v=>evVs P w0 L r (qz_ f o.dst v)
  |_,_=>none
theorem Kk_ {ds:List Deferred} {Q:Exit→Act→World→Prop} {w:World} (hw:Hp w0 L w): ∀ (l:List Oper) (f f':Fr),evVs P w0 L l f=some f'→Q .normal ⟨f'.toArray,ds⟩ w→wpList P ops Q l ⟨f.toArray,ds⟩ w
 | [],f,f',h,hQ=>by cases h;exact hQ
 |o::l,f,f',h,hQ=>by
  unfold evVs at h
  split at h
  ·rename_i v hg hv
   unfold wpList
   have hwn:Region.wanted o (yielded ops (⟨f.toArray,ds⟩:Act).tmps)=true:=by unfold Region.wanted;rw[hg]
   rw[if_pos hwn]
   refine .inl ?_
   unfold Oper.wp
   have he: (⟨f.toArray,ds⟩:Act).eval=ev f:=by
    have:=jx_ f
    funext x
    exact(congrFun this x)
   rw[he,jc_ hw hv]
   have hp: (⟨f.toArray,ds⟩:Act).put o.dst v=⟨(qz_ f o.dst v).toArray,ds⟩:=by
    have:=qa_ f o.dst v
    cases hd:o.dst with
    |none=>rfl
    |some d=>simp only[Act.put,qz_,ahY_]
   show wpList P ops Q l ((⟨f.toArray,ds⟩:Act).put o.dst v) w
   rw[hp]
   exact Kk_ hw l _ f' h hQ
  ·cases h
theorem CwE.region {ds:List Deferred} {id:Nat} {l:List Oper} {f':Fr} (h:evVs P w0 L l f=some f') (hk:K .normal f' L):CwE ds P w0 (.region id l.toArray false) f L K:=
 fun w hw=>wp_region_lit (Kk_ hw l f f' h ⟨rfl,L,hw,by simpa using hk⟩)
theorem Gr.at_ {L:zi_} {E:TypeId} {m n:Nat} {v:Value} {cs:List Value} (h:Gr L E m v n cs) {b:Nat} (hb:slB v=some b): ∃a,look L b=some (.cells a E (0,0)):=by
 rcases h with h| ⟨rfl,rfl,c,rfl,hl⟩
 ·rcases h.inv with⟨rfl,-,-⟩ | ⟨c,cc,rest,rfl,hl,-⟩
  ·cases hb
  ·have:c=b:=by simpa [slB,vsl] using hb
   subst this;exact⟨_,hl⟩
 ·have:c=b:=by simpa [slB,vsl] using hb
  subst this;exact⟨_,hl⟩
theorem Gr.ne {L:zi_} {E:TypeId} {m n:Nat} {v:Value} {cs:List Value} (h:Gr L E m v n cs) {b:Nat} {o:Obj} (hl:look L b=some o) (ho: ∀a,o≠ .cells a E (0,0)):slB v≠some b:=fun e=>by
 obtain⟨a,ha⟩:=h.at_ e
 rw[hl] at ha
 exact ho a (Option.some.inj ha)
theorem Gr.setB {L:zi_} {E:TypeId} {m n:Nat} {v:Value} {cs:List Value} (h:Gr L E m v n cs) {b:Nat} (hb:slB v≠some b) (x:Obj):Gr (setB L b x) E m v n cs:=
 h.keep fun c o hc ho=>by rw[zB_ (fun e:b=c=>hb (by rw[e];exact hc))];exact ho
theorem am2_ (p:Tmp) (v:Value) (tm:Array Value): ((#[p]:Array Tmp).zip #[v]).foldl (fun t (q:Tmp×Value)=>t.setIfInBounds q.1 q.2) tm=tm.setIfInBounds p v:=by simp
def recR (fn:FuncId) (f:Fr) (ps:Array Tmp) (assign body:Code) (dk:Nat) (st:LoopState):Loop:={state:=st,pending:=none,fn,tmps:=f.toArray,params:=ps,assign,body,defers:=dk}
theorem aan_ {g:Operand} {ps:Array Tmp} {assign body:Code} {Q:Exit→Act→World→Prop} {gf:Nat} {lb:Array Value} {S:Nat→zi_→Prop} {w:World} (hw:Hp w0 L w) (hg:ev f g= .func (.func gf) #[] lb) (eg: ∀args w,(callFunc gf args).run P w= .ok (.enter gf args) w)
  (hcall: ∀fn dk w1 rc,rc=recR fn f ps assign body dk .ready→ju_ L dk→w0.heap.size≤dk→Hp w0 (L++ [(dk, .deferred (some [])),(dk+1, .loop rc)]) w1→
   Rets P gf (#[.func (.yield (dk+1)) #[] #[]]++lb) w1 (XS w1 (L++ [(dk, .deferred (some [])),(dk+1, .loop rc)]) (fun _ D=>look D (dk+1)=some (.loop rc)∧S dk D)))
  (hnext: ∀dk fn D w3 rc,look D (dk+1)=some (.loop rc)→ju_ L dk→w0.heap.size≤dk→S dk D→Ext w0 L D→Hp w0 (setB D (dk+1) (.loop (recR fn f ps assign body dk .exhausted))) w3→Q .normal ⟨f.toArray,[{target:= .collected dk,args:= #[]}]⟩ w3):
  (Code.rangeFunc g ps assign body).wp P Q (act f) w:=by
 refine wpIn_wide (n:=0) |>.1 (wpIn_rangeFunc ?_)
 intro fn _
 have hw1:Hp w0 (L++ [(w.heap.size, .deferred (some [])),(w.heap.size+1, .loop (recR fn f ps assign body w.heap.size .ready))]) ((w.alloc (.deferred (some []))).alloc (.loop (recR fn f ps assign body w.heap.size .ready))):=by
  have h1:=hw.alloc (.deferred (some []))
  have h2:=h1.alloc (.loop (recR fn f ps assign body w.heap.size .ready))
  rw[World.size_alloc,List.append_assoc] at h2
  exact h2
 have hab:ju_ L w.heap.size:=z9_ fun b hb=>hw.lt hb
 obtain⟨W1,hW1⟩: ∃W1,((w.alloc (.deferred (some []))).alloc (.loop (recR fn f ps assign body w.heap.size .ready)))=W1:=⟨_,rfl⟩
 have hent: (Instr.enterLoop fn (act f).tmps ps assign body Fence.wide.round).run P w= .ok (w.heap.size+1,[{target:= .collected w.heap.size,args:= #[]}]) W1:=by
  rw[←hW1];exact run_enterLoop_outer fn _ _ _ _
 rw[hW1] at hw1
 refine⟨w.heap.size+1,[{target:= .collected w.heap.size,args:= #[]}],W1,{target:= .fn (.func gf) lb,args:= #[.func (.yield (w.heap.size+1)) #[] #[]]},W1,gf, #[.func (.yield (w.heap.size+1)) #[] #[]]++lb,W1,hent, ?_,fun _ _=>trivial, ?_,fun(e:false=true)=>(by cases e), ?_⟩
 ·have hg': (act f).eval g= .func (.func gf) #[] lb:=by rw[K4_];exact hg
  simp only[resolve,hg']
  simp[go_sem]
 ·simp[invoke,go_sem,eg]
 ·refine callsIn_wide.2 (Calls.mono (hcall fn w.heap.size _ _ rfl hab hw.size hw1) ?_)
  rintro e w2 ⟨v,D,rfl,hp,hX,hl,hS⟩
  have hD:Hp w0 D w2:=by
   have:=Hp.join (Y:= []) (by simpa using hw1) hp hX.all hX.new
   simpa using this
  have he:=run_endLoop (P:=P) (hD.has _ _ (zF_ hl)) (by simp[recR])
  refine⟨none,_,he, ?_⟩
  have h3:=hD.put (o:= .loop (recR fn f ps assign body w.heap.size .exhausted)) (zn_ hl)
  refine hnext w.heap.size fn D _ _ hl hab hw.size hS ⟨fun c hc=> ?_,fun c hc=>hX.all c (by rw[zd_];exact List.mem_append_left _ hc)⟩ h3
  rcases hX.new c hc with h|h
  ·rw[zd_,List.mem_append] at h
   rcases h with h|h
   ·exact .inl h
   ·simp[keys] at h
    have:=hw.size
    exact .inr (by omega)
  ·have:=hw1.size
   exact .inr (by omega)
theorem KS_ {x y:Code} {Q:Exit→Act→World→Prop} {w:World} (hw:Hp w0 L w) (h:Cw P w0 x f L (fun e f' L'=>e= .normal∧ ∀w',Hp w0 L' w'→y.wp P Q (act f') w')): (Code.seq x y).wp P Q (act f) w:=by
 refine wp_seq (wp_mono (h w hw) ?_)
 rintro e a w' ⟨hd,L',hp,rfl,k⟩
 have:=k w' hp
 rw[←Qo_ hd] at this
 exact this
def aiR_ (P:Program) (gf:Nat) (lb:Array Value) {α:Type} (enc:α→Value) (xs:List α) (w:World):Prop:=
 ∀ (l:Nat) (J:List α→zi_→Prop) (w1:World) (X:zi_),(∀b,b<w.heap.size→w1.heap[b]? =w.heap[b]?)→(∀b,b∈keys X→w.heap.size≤b)→w.heap.size≤w1.heap.size→Hp w1 X w1→J [] X→(∀pre X Y,J pre X→J pre (X++Y))→
  (∀pre x post X2 w2,xs=pre++x::post→Hp w2 X2 w2→(∀b,b∈keys X2→w.heap.size≤b)→J pre X2→YieldAt (Z3_ none) 0 P l #[enc x] w2 (fun e w3=> ∃D,e= .returned (.bool true)∧Hp w2 D w3∧Ext w2 X2 D∧J (pre++ [x]) D))→
  Rets P gf (#[.func (.yield l) #[] #[]]++lb) w1 (XS w1 X (fun _ D=>J xs D))
theorem Rets.enterR {k:FuncId} {fn:Func} {c:Code} {rs:List ResultVar} {args:Array Value} {w:World} {S:Value→zi_→Prop} {m:Nat}
  (hf:P.funcs[k]? =some fn) (hb:fn.body=some c) (hr:fn.results=rs.toArray) (hn:fn.ntmps=m)
  (h:c.wp P (fun e a w'=>(e= .normal∨e= .ret)∧ ∃dk,a.defers= [{target:= .collected dk,args:= #[]}]∧ ∃L,Hp w L w'∧look L dk=some (.deferred (some []))∧ ∃vs,wR_ P w (setB L dk (.deferred none)) a.tmps.toList rs=some vs∧S (kC_ vs) (setB L dk (.deferred none)))
   (act (args.toList++List.replicate (m - args.size) undef)) w):Rets P k args w S:=by
 refine callsIn_wide (n:=0) |>.1 (callsIn_of_wp_marks hf hb trivial ?_)
 have ea: ({tmps:=args++Array.replicate (fn.ntmps - args.size) undef,defers:= []}:Act)=act (args.toList++List.replicate (m - args.size) undef):=by
  rw[hn];simp[act]
 rw[ea]
 refine wpIn_wide.2 (wp_mono h ?_)
 rintro e a w' ⟨he,dk,hd,L,hp,hl,vs,hv,hS⟩
 have hp':Hp w (setB L dk (.deferred none)) (w'.putObj dk (.deferred none)):=hp.put (zn_ hl)
 have key:LeavesInM Fence.wide 0 P fn a.tmps (fun e w'=> ∃v D,e= .returned v∧Hp w D w'∧S v D) a.defers .returning w':=by
  rw[hd]
  refine⟨by simp, .inl ⟨dk,_,rfl,run_takeDeferred (hp.has _ _ (zF_ hl)), ?_⟩⟩
  have ha: (act a.tmps.toList).tmps=a.tmps:=by simp[act]
  have hres:=wG_ hr hp' hv
  rw[ha] at hres
  exact⟨_,hres,_,_,rfl,hp',hS⟩
 rcases he with rfl|rfl
 ·exact key
 ·exact key
end
end Go.Sx
namespace Go.Sx
open Go
section
variable {α:Type} {m:Nat} {enc:α→List Value} {z:α} {w:World} {v:Value} {l:List α}
theorem SlV.dropE (h:SlV m enc z w v l) {k:Nat} (hk:k≤l.length) (a:Bool): ∃v',qR_ (.sl (a,m)) v (some (some (k:Int))) none=some v'∧SlV m enc z w v' (l.drop k)∧(∀b,slB v'=some b→slB v=some b):=by
 obtain⟨b,off,c,arr,E,fz,hr,hc,hv⟩:=h
 have hl: (l.drop k).length=l.length - k:=by simp
 rcases hv with⟨rfl,rfl,rfl⟩ | ⟨rfl,hhas,hsz⟩
 ·obtain rfl:k=0:=by simpa using hk
  exact⟨.slice none 0 0,rfl,SlV.nil w,fun b hb=>hb⟩
 ·have hsl:qR_ (.sl (a,m)) (vsl b off l.length c) (some (some (k:Int))) none=some (vsl b (if c=k then off else off+k*m) (l.length - k) (c - k)):=by
   unfold qR_ vsl
   simp only[adS_ _ _ _ (⟨by omega,by omega⟩: (0:Int)≤ (k:Int)∧(k:Int)≤ (l.length:Int)),Int.toNat_natCast]
   by_cases hck:c=k
   ·simp[hck]
   ·simp only[hck, ↓reduceIte,Option.map_some,qE_]
  refine⟨_,hsl, ?_,fun b' hb=>hb⟩
  have hkm:k*m+ (l.length - k)*m=l.length*m:=by rw[←Nat.add_mul];congr 1;omega
  by_cases hck:c=k
  ·have h0:l.length - k=0:=by omega
   rw[if_pos hck]
   refine⟨b,off,c - k,arr,E,fz,RowS.sl' hl.symm (fun h=>by omega) (fun i hi=>by omega),by omega, .inr ⟨by rw[hl],hhas,by rw[hl,h0];omega⟩⟩
  ·rw[if_neg hck]
   refine⟨b,off+k*m,c - k,arr,E,fz,RowS.sl' hl.symm (fun h=>hhas) ?_,by omega, .inr ⟨by rw[hl],hhas,by rw[hl];omega⟩⟩
   intro i hi j hj
   rw[hl] at hi
   rw[List.getD_eq_getElem?_getD,List.getElem?_drop,←List.getD_eq_getElem?_getD,←hr.get (k+i) (by omega) j hj]
   congr 1
   rw[Nat.add_mul];omega
end
section
variable {P:Program} {w0:World} {f:Fr} {L:zi_} {N:Fr→zi_→Prop} {ops:Array Oper} {rest:List Oper} {md:Md} {d:Option Tmp} {ty:TypeId} {ps:String} {af:Array Edge} {g:Option (Nat×Bool)}
theorem Ow.callFnX {x y:Operand} {b:Value} {ts:Array TypeId} {k:FuncId} {X Y:zi_} {S:Value→zi_→Prop} {md':Md} (hL:L=X++Y) (he:md.turn=some md')
  (hs:zt_ ops f ⟨d, .call ⟨.value x, #[y],ts⟩,ty,ps,af,g⟩=false)
  (hx:ev f x= .func (.func k) #[] #[]) (hy:ev f y=b)
  (hk: ∀a w,(callFunc k a).run P w= .ok (.enter k a) w)
  (hc: ∀w,Hp w0 L w→(∀p,p∈X→w.heap[p.1]? =some p.2)→(keys X).Nodup→Rets P k #[b] w (XS w X S))
  (hn: ∀v D,Came w0 L X D→S v D→Ow P w0 ops md' rest (qz_ f d v) (D++Y) N):
  Ow P w0 ops md (⟨d, .call ⟨.value x, #[y],ts⟩,ty,ps,af,g⟩::rest) f L N:=by
 subst hL
 have hnd: ∀w,Hp w0 (X++Y) w→(keys X).Nodup∧ ∀c,c∈keys Y→c∉keys X:=by
  intro w hw
  have:=hw.nodup
  rw[zd_,List.nodup_append] at this
  exact⟨this.1,fun c hc hx=>this.2.2 c hx c hc rfl⟩
 refine Ow.call (S:=fun B v D=>((∀c,c∈keys D→c∈keys X∨B≤c)∧(∀c,c∈keys X→c∈keys D)∧S v D)∧ ∃w,Hp w0 (X++Y) w∧w.heap.size=B) he hs hx hk (fun w hw=> ?_) ?_
 ·show Rets P k (#[]++ #[y].map (ev f)++ #[]) w _
  rw[show(#[]++ #[y].map (ev f)++ #[]:Array Value)= #[b] by simp[hy]]
  refine Calls.mono (hc w hw (fun p hp=>hw.has _ _ (List.mem_append_left _ hp)) (hnd w hw).1) ?_
  rintro e w' ⟨v,D,he,hp,hS⟩
  exact⟨v,D,he,hp,⟨hS.1.new,hS.1.all,hS.2⟩,w,hw,rfl⟩
 ·rintro B v D hab hB ⟨⟨h1,h2,h3⟩,w1,hw1,hwB⟩
  refine⟨D++Y, ?_,hn v D ⟨fun c hc=>(h1 c hc).imp id fun h=>⟨z9_ fun b hb=>by have:=hw1.lt hb;omega,by have:=hw1.size;omega⟩,h2⟩ h3⟩
  intro w w' hwb h k
  have ht:=h.trans k
  have hY: ∀c,c∈keys Y→c∉keys D:=by
   intro c hc hd
   rcases h1 c hd with hx|hx
   ·exact(hnd w h).2 c hc hx
   ·have:=h.lt (b:=c) (by rw[zd_];exact List.mem_append_right _ hc)
    omega
  have e1:X.filter (fun p=> !(keys D).contains p.1)= []:=by
   rw[List.filter_eq_nil_iff]
   intro p hp
   have:=h2 p.1 (List.mem_map.2 ⟨p,hp,rfl⟩)
   simpa using this
  have e2:Y.filter (fun p=> !(keys D).contains p.1)=Y:=jq_ hY
  rw[List.filter_append,e1,e2,List.nil_append] at ht
  refine ht.same (fun p=>by simp[or_comm]) ?_
  have:=ht.nodup
  rw[zd_] at this ⊢
  exact(List.perm_append_comm.nodup_iff).1 this
end
section
variable {P:Program} {w0:World} {f:Fr} {L:zi_} {K:xQ_}
theorem Cw.world {c:Code} (h: ∀w,Hp w0 L w→Cw P w0 c f L K):Cw P w0 c f L K:=fun w hw=>h w hw w hw
theorem Gr.read {E:TypeId} {m n:Nat} {v:Value} {cs:List Value} (h:Gr L E m v n cs) {b:Nat} (hb:slB v=some b) {w:World} (hw:Hp w0 L w) {o:Obj} (ho:w.heap[b]? =some o):zv_ w0 L b=some o:=by
 obtain⟨a,ha⟩:=h.at_ hb
 rw[hw.has _ _ (zF_ ha)] at ho
 rw[zg_ ha];exact ho
end
end Go.Sx
namespace Go.Sx
open Go
section
variable {α:Type} {m:Nat} {enc:α→List Value} {z:α}
end
section
variable {P:Program} {w0:World} {f:Fr} {L:zi_} {N:Fr→zi_→Prop} {ops:Array Oper} {rest:List Oper} {md:Md} {d:Option Tmp} {ty:TypeId} {ps:String} {af:Array Edge} {g:Option (Nat×Bool)}
theorem Ow.makeSlice {t e:TypeId} {m:Bool×Nat} {z:Value} {x y:Operand} {n c:Nat} {md':Md} (he:md.turn=some md') (hs:zt_ ops f ⟨d, .makeSlice t x y,ty,ps,af,g⟩=false)
  (hu:P.underlying t=some (.slice e)) (hm:zU_ P e=some m) (hi:xB_ P e=true) (hz:z8_ P e=some z) (hx:ev f x=vi n) (hy:ev f y=vi c) (hnc:n≤c) (hbig:c≤2^38)
  (hn: ∀b,ju_ L b→w0.heap.size≤b→Ow P w0 ops md' rest (qz_ f d (vsl b 0 n c)) (L++ [(b, .cells (madeCells z.cells (c*m.2)) e (0,0))]) N):
  Ow P w0 ops md (⟨d, .makeSlice t x y,ty,ps,af,g⟩::rest) f L N:=by
 refine Ow.step he rfl hs fun w hw=> .inl ⟨vsl w.heap.size 0 n c,w.alloc (.cells (madeCells z.cells (c*m.2)) e (0,0)),_, ?_,hw.alloc _,hn _ (z9_ fun b hb=>hw.lt hb) hw.size⟩
 obtain⟨i,hie,-,hb⟩:=kt_ hi hbig
 have hiz:i.zero=some z:=by
  unfold z8_ at hz
  rw[hie] at hz
  exact hz
 have him:i.size=m.2:=by
  unfold zU_ at hm
  rw[hie] at hm
  split at hm
  ·rename_i h1 h2
   cases h2
   cases hm
   rfl
  ·cases hm
 have hbb: (i.bytes:Int)* (c:Int)≤281474976710656:=by
  have: ((i.bytes*c:Nat):Int)≤281474976710656:=by rw[Nat.mul_comm];exact Int.ofNat_le.2 hb
  rwa [Int.natCast_mul] at this
 have hr:=run_make (P:=P) w t e i z hu hie hiz .i64 .i64 (n:Int) (c:Int) (by omega) (by omega) hbb (by omega)
 simp only[Int.toNat_natCast,him] at hr
 show(execOp (ev f) _).run P w=_
 simp only[execOp,Sem.run_bind]
 rw[hx,hy]
 show((Instr.makeSlice t (.int .i64 (n:Int)) (.int .i64 (c:Int))).run P w).andThen _=_
 rw[hr]
 rfl
theorem Ow.appendXG {ts tx e:TypeId} {m:Bool×Nat} {z:Value} {s x:Operand} {n k:Nat} {cs new:List Value} {dx:TypeDesc} {md':Md} {X Y:zi_} (sv:Value) (hL:L=X++Y) (hsv:ev f s=sv) (he:md.turn=some md')
  (hs:zt_ ops f ⟨d, .call ⟨.builtin .append, #[s,x], #[ts,tx]⟩,ty,ps,af,g⟩=false)
  (hu:P.underlying ts=some (.slice e)) (hm:zU_ P e=some m) (hi:xB_ P e=true) (hz:z8_ P e=some z) (hzs:z.cells.size=m.2) (hux:P.underlying tx=some dx) (hnx: ∀k,dx≠ .int k)
  (hB:Gr X e m.2 sv n cs) (hX: ∀w,Hp w0 L w→AppX P w m.2 (ev f x) k new) (hbig:2* (n+k)+768≤2^38)
  (hn: ∀B v' D,ju_ L B→w0.heap.size≤B→Gr D e m.2 v' (n+k) (cs++new)→(∀c,c∈keys X→c∈keys D)→(∀c,c∈keys D→c∈keys X∨B≤c)→(∀c o,slB sv≠some c→look X c=some o→look D c=some o)→Ow P w0 ops md' rest (qz_ f d v') (D++Y) N):
  Ow P w0 ops md (⟨d, .call ⟨.builtin .append, #[s,x], #[ts,tx]⟩,ty,ps,af,g⟩::rest) f L N:=by
 subst hL
 refine Ow.step he rfl hs fun w hw=> ?_
 have hp:=hw.part
 have hA:ju_ (X++Y) w.heap.size:=z9_ fun b hb=>hw.lt hb
 have fin: ∀v' w' D,(Builtin.append_ #[ts,tx] ty #[sv,ev f x]).run P w= .ok v' w'→Hp w D w'→Gr D e m.2 v' (n+k) (cs++new)→(∀c,c∈keys X→c∈keys D)→(∀c,c∈keys D→c∈keys X∨w.heap.size≤c)→(∀c o,slB sv≠some c→look X c=some o→look D c=some o)→
   (∃v w' L',(execOp (ev f) ⟨d, .call ⟨.builtin .append, #[s,x], #[ts,tx]⟩,ty,ps,af,g⟩).run P w= .ok (.value v) w'∧Hp w0 L' w'∧Ow P w0 ops md' rest (qz_ f d v) L' N):=by
  intro v' w' D hr hD hb h1 h2 h3
  refine⟨v',w',D++Y, ?_,hw.join hD h1 h2,hn w.heap.size v' D hA hw.size hb h1 h2 h3⟩
  simp only[execOp,resolve,Sem.run_bind,Sem.run_pure,Result.andThen_ok,invoke,builtin,List.map_toArray,List.map_cons,List.map_nil,hsv]
  rw[hr]
  rfl
 rcases hB with hB| ⟨rfl,rfl,b,rfl,hlk⟩
 ·obtain⟨v',w',D,hr,hD,hb,hg,-⟩:=wi_ (w0:=w) (L:=X) (ty:=ty) (x:=ev f x) hp hu hm hi hz hzs hux hnx hB (fun w2 hw2=>hX w2 (by
   refine hw.join hw2 (fun c hc=>hc) (fun c hc=> .inl hc))) hbig
  exact .inl (fin v' w' D hr hD (.inl hb) hg.keys (fun c hc=>(hg.new c hc).imp id And.right) hg.look)
 ·rcases vW_ (w0:=w) (L:=X) (ty:=ty) (b:=b) (x:=ev f x) hp hu hm hi hz hzs hux hnx (fun w2 hw2=>hX w2 (by
   refine hw.join hw2 (fun c hc=>hc) (fun c hc=> .inl hc))) hbig with⟨h0,hr⟩ | ⟨-,v',w',D,hr,hD,hb,hg,-⟩
  ·subst h0
   have hnw:=(hX w hw).size
   obtain rfl:new= []:=List.eq_nil_of_length_eq_zero (by rw[hnw,Nat.zero_mul])
   exact .inl (fin _ w X hr hp (.inr ⟨rfl,rfl,b,rfl,hlk⟩) (fun c hc=>hc) (fun c hc=> .inl hc) (fun c o _ hl=>hl))
  ·exact .inl (fin v' w' D hr hD (.inl hb) hg.keys (fun c hc=>(hg.new c hc).imp id And.right) (fun c o _ hl=>hg.look c o (by simp[slB]) hl))
end
theorem aad_ {b:Nat} {o:Obj}: ∀ {D:zi_},look D b=some o→ ∃D',D.Perm ((b,o)::D')
 | [],h=>by cases h
 | (c,x)::r,h=>by
  unfold look at h
  split at h
  ·rename_i e
   cases h
   subst e
   exact⟨r,List.Perm.refl _⟩
  ·obtain⟨D',hD⟩:=aad_ h
   exact⟨(c,x)::D',(hD.cons _).trans (List.Perm.swap _ _ _)⟩
theorem New.perm {n:Nat} {D D':zi_} (h:New n D) (hp:D.Perm D'):New n D':=New.of_le fun c hc=>h.le c ((hp.map Prod.fst).mem_iff.2 hc)
end Go.Sx
namespace Go.Sx
open Go
theorem Hp.later {w0 w1 w2:World} {L D:zi_} (h:Hp w0 L w1) (k:Hp w1 D w2) (hD:New w1.heap.size D):Hp w0 (L++D) w2:=
 Mrg.fresh hD.le w1 w2 rfl h k
theorem Ow.world {P:Program} {w0:World} {ops:Array Oper} {l:List Oper} {f:Fr} {L:zi_} {N:Fr→zi_→Prop} (h: ∀w,Hp w0 L w→Ow P w0 ops .seq l f L N):Ow P w0 ops .seq l f L N:=fun w hw=>h w hw w hw
theorem Rets.chunk {P:Program} {k:FuncId} {args:Array Value} {w:World} {S:Value→Obj→Prop} {X:zi_} {b:Nat} (hX: ∀p,p∈X→w.heap[p.1]? =some p.2) (hn: (keys X).Nodup) (hb:b∈keys X)
  (h:Rets P k args w (fun v D=> ∃o,D= [(b,o)]∧S v o)):Rets P k args w (XS w X (fun v D=> ∃o,D=setB X b o∧S v o)):=
 Calls.mono h fun e w' ⟨v,D,he,hp,o,hD,hS⟩=>⟨v,setB X b o,he,by subst hD;exact Mrg.set hb w w' rfl ((Hp.refl w).ownX hX hn) hp,(Ext.refl w X).setB,o,rfl,hS⟩
theorem Rets.chunkV {P:Program} {k:FuncId} {args:Array Value} {w:World} {S:Value→Prop} {X:zi_} (hX: ∀p,p∈X→w.heap[p.1]? =some p.2) (hn: (keys X).Nodup)
  (h:Rets P k args w (fun v D=>S v∧D= [])):Rets P k args w (XS w X (fun v D=>D=X∧S v)):=
 Calls.mono h fun e w' ⟨v,D,he,hp,hS,hD⟩=>⟨v,X,he,by subst hD;exact((Hp.refl w).ownX hX hn).trans_nil hp,Ext.refl w X,rfl,hS⟩
theorem Rets.toX {P:Program} {k:FuncId} {a:Array Value} {w:World} {S:Value→Prop} (h:Rets P k a w (fun v D=>S v∧D= [])):Rets P k a w (XS w [] (fun v D=>D= []∧S v)):=
 h.mono fun v D ⟨h1,h2⟩=>⟨by subst h2;exact Ext.refl w [],h2,h1⟩
end Go.Sx
namespace Go.Sx
open Go
def kv (e:MapEntry):Value×Value:=(e.key,e.val)
def ItR (o:Obj) (bm:Nat) (om:Obj) (m dn lf:xk_):Prop:=
 ∃es clock,∃ds:List MapEntry,om= .map es clock∧(es.toList.map (·.born)++ [clock]).Pairwise (· < ·)∧o= .mapIter (some bm) clock (ds.map (·.born)).toArray clock∧
  ds.map kv=dn.map ws_∧(∀d,d∈ds→d∈es.toList)∧((es.toList.filter fun e=> !(ds.map (·.born)).contains e.born).map kv=lf.map ws_)∧(dn++lf).Perm m
theorem Z6_ {l:List MapEntry} {c:Nat} (h: (l.map (·.born)++ [c]).Pairwise (· < ·)): (l.map (·.born)).Nodup:=
 ((List.pairwise_append.1 h).1).imp fun h=>Nat.ne_of_lt h
theorem ale_ {l:List MapEntry} {c:Nat} (h: (l.map (·.born)++ [c]).Pairwise (· < ·)): ∀x,x∈l→x.born<c:=fun x hx=>
 (List.pairwise_append.1 h).2.2 _ (List.mem_map.2 ⟨x,hx,rfl⟩) c (List.mem_singleton.2 rfl)
theorem WT_ (es:Array MapEntry) (ds:List MapEntry): (leftOf es (ds.map (·.born)).toArray).toList=es.toList.filter fun e=> !(ds.map (·.born)).contains e.born:=by
 unfold leftOf
 rw[Array.toList_filter]
 simp
theorem ItR.start {bm:Nat} {om:Obj} {m:xk_} (h:MapR om m): ∃es clock,om= .map es clock∧ItR (.mapIter (some bm) clock #[] clock) bm om m [] m:=by
 obtain⟨es,clock,rfl,h1,h2⟩:=h
 refine⟨es,clock,rfl,es,clock,[],rfl,h2,rfl,rfl,(fun d hd=>by cases hd), ?_,by rw[List.nil_append]⟩
 rw[show(es.toList.filter fun e=> !(([]:List MapEntry).map (·.born)).contains e.born)=es.toList from List.filter_eq_self.2 (fun _ _=>rfl)]
 exact h1
theorem ItR.step {bm:Nat} {om:Obj} {m dn lf:xk_} {es:Array MapEntry} {clock:Nat} {ds:List MapEntry} {e:MapEntry} (hb: (es.toList.map (·.born)++ [clock]).Pairwise (· < ·))
  (hd:ds.map kv=dn.map ws_) (hm: ∀d,d∈ds→d∈es.toList) (hl: (es.toList.filter fun e=> !(ds.map (·.born)).contains e.born).map kv=lf.map ws_) (hp: (dn++lf).Perm m)
  (he:e∈es.toList.filter fun e=> !(ds.map (·.born)).contains e.born) (hom:om= .map es clock):
  ∃p lf',kv e=ws_ p∧lf.length=lf'.length+1∧ItR (.mapIter (some bm) clock ((ds.map (·.born)).toArray.push e.born) clock) bm om m (dn++ [p]) lf':=by
 obtain⟨A,C,hAC⟩:=List.append_of_mem he
 rw[hAC,List.map_append,List.map_cons] at hl
 obtain⟨l1,l2,rfl,h1,h2⟩:=List.append_eq_map_iff.1 hl
 obtain⟨p,l3,rfl,h3,h4⟩:=(List.map_eq_cons_iff.1 h2)
 refine⟨p,l1++l3,h3.symm,by simp;omega,es,clock,ds++ [e],hom,hb,by simp,by simp[hd,h3], ?_, ?_, ?_⟩
 ·intro d hd'
  rcases List.mem_append.1 hd' with h|h
  ·exact hm d h
  ·rw[List.mem_singleton] at h;subst h;exact(List.mem_filter.1 he).1
 ·have hnd: ((A++e::C).map (·.born)).Nodup:=by
   rw[←hAC]
   exact(Z6_ hb).sublist ((List.filter_sublist).map _)
  have e1: (es.toList.filter fun x=> !((ds++ [e]).map (·.born)).contains x.born)=(A++e::C).filter fun x=> !(x.born==e.born):=by
   rw[←hAC,List.filter_filter]
   refine List.filter_congr fun x hx=> ?_
   simp only[List.map_append,List.map_cons,List.map_nil,List.contains_append,List.contains_cons,List.contains_nil,Bool.or_false,Bool.not_or]
   rw[Bool.and_comm]
  rw[List.map_append,List.map_cons,List.nodup_append] at hnd
  obtain⟨-,hn2,hn3⟩:=hnd
  rw[List.nodup_cons] at hn2
  have e2: ((A++e::C).filter fun x=> !(x.born==e.born))=A++C:=by
   rw[List.filter_append,List.filter_cons]
   simp only[beq_self_eq_true,Bool.not_true,Bool.false_eq_true, ↓reduceIte]
   congr 1
   ·refine List.filter_eq_self.2 fun x hx=> ?_
    have:=hn3 x.born (List.mem_map.2 ⟨x,hx,rfl⟩) e.born List.mem_cons_self
    simpa using this
   ·refine List.filter_eq_self.2 fun x hx=> ?_
    have:x.born≠e.born:=fun h=>hn2.1 (h▸List.mem_map.2 ⟨x,hx,rfl⟩)
    simpa using this
  rw[e1,e2,List.map_append,List.map_append,h1,h4]
 ·refine List.Perm.trans ?_ hp
  rw[List.append_assoc]
  refine List.Perm.append_left dn ?_
  rw[List.singleton_append]
  exact List.perm_middle.symm
section
variable {P:Program} {w0:World} {f:Fr} {L:zi_} {N:Fr→zi_→Prop} {ops:Array Oper} {rest:List Oper} {md:Md}
 {d:Option Tmp} {ty:TypeId} {ps:String} {af:Array Edge} {g:Option (Nat×Bool)}
def itv (b:Nat):Value:= .pointer (some ⟨b,0,none⟩)
end
end Go.Sx
namespace Go.Sx
open Go
section
variable {α β:Type} [BEq α] [LawfulBEq α] (encK:α→Value) (encV:β→Value)
def QB_ (k:α):List (α×β)→Nat→Option (Nat×β)
 | [],_=>none
 |p::r,i=>if k==p.1 then some (i,p.2) else QB_ k r (i+1)
def XB_ (k:α) (v:β):List (α×β)→List (α×β)
 | []=> [(k,v)]
 |p::r=>if k==p.1 then(p.1,v)::r else p::XB_ k v r
def Jk_ (k:α) (z:β) (m:List (α×β)):β:=match m.find? fun p=>k==p.1 with|some p=>p.2|none=>z
def ko_ (p:α×β):Value×Value:=(encK p.1,encV p.2)
def QP_ (o:Obj) (m:List (α×β)):Prop:= ∃es clock,o= .map es clock∧es.toList.map (fun e=>(e.key,e.val))=m.map (ko_ encK encV)∧(es.toList.map (·.born)++ [clock]).Pairwise (· < ·)
structure KeyOk (P:Program) (kt:TypeId) (encK:α→Value):Prop where
 find: ∀ {β:Type} (encV:β→Value) (w:World) (k:α) (es:List MapEntry) (m:List (α×β)),es.map (fun e=>(e.key,e.val))=m.map (ko_ encK encV)→(Instr.findKey kt (encK k) es).run P w= .ok ((QB_ k m 0).map fun p=>(p.1,encV p.2)) w
 check: ∀ (w:World) (e:Bool) (k:α),(Instr.checkKey e 10000 kt (encK k)).run P w= .ok () w
 bits: ∀k,Instr.sameBits 10000 (encK k) (encK k)=true
variable {encK encV}
omit [LawfulBEq α] in
theorem Jg_ {kd:TypeDesc} (hs: ∀a b,Instr.sameNow kd (encK a) (encK b)=some (a==b)) (k:α): ∀ (es:List MapEntry) (m:List (α×β)) (i:Nat),es.map (fun e=>(e.key,e.val))=m.map (ko_ encK encV)→
  Instr.findNow kd (encK k) es i=some ((QB_ k m i).map fun p=>(p.1,encV p.2))
 | [],[],i,_=>rfl
 | [],_::_,_,h=>by cases h
 |_::_,[],_,h=>by cases h
 |e::es,p::m,i,h=>by
  simp only[List.map_cons,List.cons.injEq,ko_,Prod.mk.injEq] at h
  obtain⟨⟨h1,h2⟩,h3⟩:=h
  unfold Instr.findNow
  have hs:Instr.sameNow kd (encK k) e.key=some (k==p.1):=by rw[h1,hs]
  rw[hs]
  unfold QB_
  cases hk: (k==p.1)
  ·simp only[Bool.false_eq_true, ↓reduceIte]
   exact Jg_ ‹_› k es m (i+1) h3
  ·simp[h2]
theorem Jw_ (k:α): ∀ (m:List (α×β)) (i j:Nat) (v:β),QB_ k m i=some (j,v)→i≤j∧ ∃a,m[j - i]? =some (k,a)∧a=v
 | [],_,_,_,h=>by cases h
 |p::r,i,j,v,h=>by
  unfold QB_ at h
  split at h
  ·rename_i hk
   cases h
   refine⟨Nat.le_refl _,p.2, ?_,rfl⟩
   rw[Nat.sub_self,List.getElem?_cons_zero,eq_of_beq hk]
  ·obtain⟨h1,a,h2,h3⟩:=Jw_ k r (i+1) j v h
   refine⟨by omega,a, ?_,h3⟩
   rw[show j - i=(j - (i+1))+1 by omega,List.getElem?_cons_succ];exact h2
theorem W6_ (k:α) (v:β): ∀ (es:List MapEntry) (m:List (α×β)) (i j:Nat) (a:β),es.map (fun e=>(e.key,e.val))=m.map (ko_ encK encV)→QB_ k m i=some (j,a)→
  (es.modify (j - i) fun e=>{e with key:=encK k,val:=encV v}).map (fun e=>(e.key,e.val))=(XB_ k v m).map (ko_ encK encV)
 | [],[],_,_,_,_,h=>by cases h
 | [],_::_,_,_,_,h,_=>by cases h
 |_::_,[],_,_,_,h,_=>by cases h
 |e::es,p::m,i,j,a,h,hf=>by
  simp only[List.map_cons,List.cons.injEq,ko_,Prod.mk.injEq] at h
  obtain⟨⟨h1,h2⟩,h3⟩:=h
  unfold QB_ at hf
  unfold XB_
  split at hf
  ·rename_i hk
   cases hf
   rw[if_pos hk,Nat.sub_self]
   simp only[List.modify_zero_cons,List.map_cons,ko_,eq_of_beq hk]
   rw[h3]
  ·rename_i hk
   have hle:=(Jw_ k m (i+1) j a hf).1
   rw[if_neg hk,show j - i=(j - (i+1))+1 by omega]
   simp only[List.modify_succ_cons,List.map_cons,ko_]
   rw[W6_ k v es m (i+1) j a h3 hf,h1,h2]
omit [LawfulBEq α] in
theorem aaN_ (k:α) (v:β): ∀ (m:List (α×β)) (i:Nat),QB_ k m i=none→XB_ k v m=m++ [(k,v)]
 | [],_,_=>rfl
 |p::r,i,h=>by
  unfold QB_ at h
  split at h
  ·cases h
  ·rename_i hk
   unfold XB_
   rw[if_neg hk,aaN_ k v r (i+1) h];rfl
omit [LawfulBEq α] in
theorem J1_ (k:α): ∀ (m:List (α×β)) (i:Nat),(QB_ k m i).map Prod.snd=(m.find? fun p=>k==p.1).map Prod.snd
 | [],_=>rfl
 |p::r,i=>by
  unfold QB_
  rw[List.find?_cons]
  cases h: (k==p.1)
  ·simp only[Bool.false_eq_true, ↓reduceIte];exact J1_ k r (i+1)
  ·rfl
theorem ajW_ {k:α} {m:List (α×β)} {es:List MapEntry} {j:Nat} {a:β} (h:es.map (fun e=>(e.key,e.val))=m.map (ko_ encK encV)) (hf:QB_ k m 0=some (j,a)): ∃e,es[j]? =some e∧e.key=encK k:=by
 obtain⟨-,a',h1,rfl⟩:=Jw_ k m 0 j a hf
 rw[Nat.sub_zero] at h1
 have:=congrArg (·[j]?) h
 simp only[List.getElem?_map,h1,Option.map_some] at this
 cases he:es[j]? with
 |none=>rw[he] at this;cases this
 |some e=>
  rw[he] at this
  simp only[Option.map_some,Option.some.injEq,ko_,Prod.mk.injEq] at this
  exact⟨e,rfl,this.1⟩
theorem KeyOk.int {P:Program} {kt:TypeId} {k0:IntKind} (hu:P.underlying kt=some (.int k0)):KeyOk P kt vi where
 find encV w k es m h:=by
  simp only[Instr.findKey,Sem.run_bind,run_underlying hu w,Result.andThen_ok]
  rw[Jg_ (encK:=vi) (fun a b=>by simp[Instr.sameNow,vi]) k es m 0 h]
  rfl
 check w e k:=by
  unfold Instr.checkKey
  simp only[Sem.run_bind,run_underlying hu w,Result.andThen_ok]
  rfl
 bits k:=by simp[vi,Instr.sameBits]
variable {P:Program} {w0:World} {f:Fr} {L:zi_} {N:Fr→zi_→Prop} {ops:Array Oper} {rest:List Oper} {md:Md}
 {d:Option Tmp} {ty:TypeId} {ps:String} {af:Array Edge} {g:Option (Nat×Bool)}
omit [BEq α] [LawfulBEq α] in
theorem Ow.makeMapG {t:TypeId} {md':Md} (he:md.turn=some md') (hs:zt_ ops f ⟨d, .makeMap t none,ty,ps,af,g⟩=false)
  (hn: ∀b o,ju_ L b→w0.heap.size≤b→QP_ encK encV o []→Ow P w0 ops md' rest (qz_ f d (vm b)) (L++ [(b,o)]) N):
  Ow P w0 ops md (⟨d, .makeMap t none,ty,ps,af,g⟩::rest) f L N:=by
 refine Ow.step he rfl hs fun w hw=> .inl ⟨vm w.heap.size,w.alloc (.map #[] 0),_, ?_,hw.alloc _,hn _ _ (z9_ fun b hb=>hw.lt hb) hw.size ⟨#[],0,rfl,rfl,List.pairwise_singleton _ _⟩⟩
 simp only[execOp,Instr.makeMap,Sem.run_bind,Option.map_none]
 rfl
theorem Ow.mapUpdateG {t kt vt:TypeId} {x y z:Operand} {b:Nat} {o:Obj} {m:List (α×β)} {k:α} {v:β} {md':Md} (he:md.turn=some md') (hs:zt_ ops f ⟨d, .mapUpdate t x y z,ty,ps,af,g⟩=false) (hu:P.underlying t=some (.map kt vt)) (hk:KeyOk P kt encK)
  (hx:ev f x=vm b) (hy:ev f y=encK k) (hz:ev f z=encV v) (hl:look L b=some o) (hm:QP_ encK encV o m)
  (hn: ∀o',QP_ encK encV o' (XB_ k v m)→Ow P w0 ops md' rest (qz_ f d undef) (setB L b o') N):
  Ow P w0 ops md (⟨d, .mapUpdate t x y z,ty,ps,af,g⟩::rest) f L N:=by
 obtain⟨es,c,rfl,hes,hbo⟩:=hm
 refine Ow.step he rfl hs fun w hw=> ?_
 have hb:=hw.has _ _ (zF_ hl)
 have hfk:=hk.find encV w k es.toList m hes
 cases hf:QB_ k m 0 with
 |none=>
  rw[hf] at hfk
  refine .inr (.inl ⟨{w with heap:=w.heap.setIfInBounds b (.map (es.push {key:=encK k,val:=encV v,born:=c}) (c+1))},_, ?_,hw.set (zn_ hl) rfl rfl rfl rfl,hn _ ⟨_,_,rfl, ?_,by rw[Array.toList_push];exact aaS_ hbo rfl⟩⟩)
  ·have: (Instr.mapUpdate t (vm b) (encK k) (encV v)).run P w= .ok () {w with heap:=w.heap.setIfInBounds b (.map (es.push {key:=encK k,val:=encV v,born:=c}) (c+1))}:=by
    simp only[Instr.mapUpdate,vm,Sem.run_bind,run_underlying hu w,Result.andThen_ok,qQ_ hb,hk.check,hfk,Option.map_none,xX_ hb]
   simp only[execOp,Sem.run_bind,hx,hy,hz]
   rw[this];rfl
  ·rw[aaN_ k v m 0 hf,Array.toList_push,List.map_append,hes,List.map_append];rfl
 |some p=>
  obtain⟨j,a⟩:=p
  rw[hf] at hfk
  obtain⟨e,hej,hek⟩:=ajW_ hes hf
  have hej':es[j]? =some e:=by simpa using hej
  have hkt: (Instr.keyThatStays (((es[j]?).map (·.key)).getD (encK k)) (encK k)).run P w= .ok (encK k) w:=by
   rw[hej',Option.map_some,Option.getD_some,hek]
   unfold Instr.keyThatStays
   rw[if_pos (hk.bits k)];rfl
  refine .inr (.inl ⟨{w with heap:=w.heap.setIfInBounds b (.map (es.modify j fun e=>{e with key:=encK k,val:=encV v}) c)},_, ?_,hw.set (zn_ hl) rfl rfl rfl rfl,hn _ ⟨_,_,rfl, ?_,by rw[Array.toList_modify,Q7_ (g:=fun e=>{e with key:=encK k,val:=encV v}) fun _=>rfl];exact hbo⟩⟩)
  ·have: (Instr.mapUpdate t (vm b) (encK k) (encV v)).run P w= .ok () {w with heap:=w.heap.setIfInBounds b (.map (es.modify j fun e=>{e with key:=encK k,val:=encV v}) c)}:=by
    simp only[Instr.mapUpdate,vm,Sem.run_bind,run_underlying hu w,Result.andThen_ok,qQ_ hb,hk.check,hfk,Option.map_some,hkt,xX_ hb]
   simp only[execOp,Sem.run_bind,hx,hy,hz]
   rw[this];rfl
  ·rw[Array.toList_modify]
   have:=W6_ k v es.toList m 0 j a hes hf
   rw[Nat.sub_zero] at this
   exact this
omit [LawfulBEq α] in
theorem Ow.mapGetG {t kt vt:TypeId} {x y:Operand} {b:Nat} {o:Obj} {m:List (α×β)} {k:α} {z:β} {md':Md} (he:md.turn=some md') (hs:zt_ ops f ⟨d, .lookup t x y false,ty,ps,af,g⟩=false) (hu:P.underlying t=some (.map kt vt)) (hk:KeyOk P kt encK)
  (hz:z8_ P vt=some (encV z)) (hx:ev f x=vm b) (hy:ev f y=encK k) (hl:zv_ w0 L b=some o) (hm:QP_ encK encV o m)
  (hn:Ow P w0 ops md' rest (qz_ f d (encV (Jk_ k z m))) L N):
  Ow P w0 ops md (⟨d, .lookup t x y false,ty,ps,af,g⟩::rest) f L N:=by
 obtain⟨es,c,rfl,hes,-⟩:=hm
 refine Ow.step he rfl hs fun w hw=> ?_
 have hb:=hw.read hl
 have hfk:=hk.find encV w k es.toList m hes
 refine .inl ⟨encV (Jk_ k z m),w,L, ?_,hw,hn⟩
 have hff:=J1_ k m 0
 have: (Instr.lookup t (vm b) (encK k) false).run P w= .ok (encV (Jk_ k z m)) w:=by
  cases hf:QB_ k m 0 with
  |none=>
   rw[hf] at hfk hff
   have hg:Jk_ k z m=z:=by
    unfold Jk_
    cases h:m.find? fun p=>k==p.1 with
    |none=>rfl
    |some q=>rw[h] at hff;cases hff
   simp only[Instr.lookup,vm,Sem.run_bind,run_underlying hu w,Result.andThen_ok,qQ_ hb,Sem.run_pure,hk.check,hfk,Option.map_none,js_ hz w,hg,Bool.false_eq_true, ↓reduceIte]
  |some p=>
   obtain⟨j,a⟩:=p
   rw[hf] at hfk hff
   have hg:Jk_ k z m=a:=by
    unfold Jk_
    cases h:m.find? fun p=>k==p.1 with
    |none=>rw[h] at hff;cases hff
    |some q=>rw[h] at hff;simp only[Option.map_some,Option.some.injEq] at hff;exact hff.symm
   simp only[Instr.lookup,vm,Sem.run_bind,run_underlying hu w,Result.andThen_ok,qQ_ hb,Sem.run_pure,hk.check,hfk,Option.map_some,hg,Bool.false_eq_true, ↓reduceIte]
 simp only[execOp,Sem.run_bind,hx,hy]
 rw[this];rfl
end
section
variable {P:Program} {w0:World} {f:Fr} {L:zi_} {N:Fr→zi_→Prop} {ops:Array Oper} {rest:List Oper} {md:Md} {d:Option Tmp} {ty:TypeId} {ps:String} {af:Array Edge} {g:Option (Nat×Bool)}
theorem Ow.callFnXC {x y:Operand} {b:Value} {cap ars:Array Value} (ha: #[b]++cap=ars) {ts:Array TypeId} {k:FuncId} {X Y:zi_} {S:Value→zi_→Prop} {md':Md} (hL:L=X++Y) (he:md.turn=some md')
  (hs:zt_ ops f ⟨d, .call ⟨.value x, #[y],ts⟩,ty,ps,af,g⟩=false)
  (hx:ev f x= .func (.func k) #[] cap) (hy:ev f y=b)
  (hk: ∀a w,(callFunc k a).run P w= .ok (.enter k a) w)
  (hc: ∀w,Hp w0 L w→(∀p,p∈X→w.heap[p.1]? =some p.2)→(keys X).Nodup→Rets P k ars w (XS w X S))
  (hn: ∀v D,Came w0 L X D→S v D→Ow P w0 ops md' rest (qz_ f d v) (D++Y) N):
  Ow P w0 ops md (⟨d, .call ⟨.value x, #[y],ts⟩,ty,ps,af,g⟩::rest) f L N:=by
 subst hL
 have hnd: ∀w,Hp w0 (X++Y) w→(keys X).Nodup∧ ∀c,c∈keys Y→c∉keys X:=by
  intro w hw
  have:=hw.nodup
  rw[zd_,List.nodup_append] at this
  exact⟨this.1,fun c hc hx=>this.2.2 c hx c hc rfl⟩
 refine Ow.call (S:=fun B v D=>((∀c,c∈keys D→c∈keys X∨B≤c)∧(∀c,c∈keys X→c∈keys D)∧S v D)∧ ∃w,Hp w0 (X++Y) w∧w.heap.size=B) he hs hx hk (fun w hw=> ?_) ?_
 ·show Rets P k (#[]++ #[y].map (ev f)++cap) w _
  rw[show(#[]++ #[y].map (ev f)++cap:Array Value)=ars by rw[←ha];simp[hy]]
  refine Calls.mono (hc w hw (fun p hp=>hw.has _ _ (List.mem_append_left _ hp)) (hnd w hw).1) ?_
  rintro e w' ⟨v,D,he,hp,hS⟩
  exact⟨v,D,he,hp,⟨hS.1.new,hS.1.all,hS.2⟩,w,hw,rfl⟩
 ·rintro B v D hab hB ⟨⟨h1,h2,h3⟩,w1,hw1,hwB⟩
  refine⟨D++Y, ?_,hn v D ⟨fun c hc=>(h1 c hc).imp id fun h=>⟨z9_ fun b hb=>by have:=hw1.lt hb;omega,by have:=hw1.size;omega⟩,h2⟩ h3⟩
  intro w w' hwb h k
  have ht:=h.trans k
  have hY: ∀c,c∈keys Y→c∉keys D:=by
   intro c hc hd
   rcases h1 c hd with hx|hx
   ·exact(hnd w h).2 c hc hx
   ·have:=h.lt (b:=c) (by rw[zd_];exact List.mem_append_right _ hc)
    omega
  have e1:X.filter (fun p=> !(keys D).contains p.1)= []:=by
   rw[List.filter_eq_nil_iff]
   intro p hp
   have:=h2 p.1 (List.mem_map.2 ⟨p,hp,rfl⟩)
   simpa using this
  have e2:Y.filter (fun p=> !(keys D).contains p.1)=Y:=jq_ hY
  rw[List.filter_append,e1,e2,List.nil_append] at ht
  refine ht.same (fun p=>by simp[or_comm]) ?_
  have:=ht.nodup
  rw[zd_] at this ⊢
  exact(List.perm_append_comm.nodup_iff).1 this
end
end Go.Sx
namespace Go.Sx
open Go
def ItG {α β:Type} (encK:α→Value) (encV:β→Value) (o:Obj) (bm:Nat) (om:Obj) (m dn lf:List (α×β)):Prop:=
 ∃es clock,∃ds:List MapEntry,om= .map es clock∧(es.toList.map (·.born)++ [clock]).Pairwise (· < ·)∧o= .mapIter (some bm) clock (ds.map (·.born)).toArray clock∧
  ds.map kv=dn.map (ko_ encK encV)∧(∀d,d∈ds→d∈es.toList)∧((es.toList.filter fun e=> !(ds.map (·.born)).contains e.born).map kv=lf.map (ko_ encK encV))∧(dn++lf).Perm m
theorem ItG.start {α β:Type} {encK:α→Value} {encV:β→Value} {bm:Nat} {om:Obj} {m:List (α×β)} (h:QP_ encK encV om m): ∃es clock,om= .map es clock∧ItG encK encV (.mapIter (some bm) clock #[] clock) bm om m [] m:=by
 obtain⟨es,clock,rfl,h1,h2⟩:=h
 refine⟨es,clock,rfl,es,clock,[],rfl,h2,rfl,rfl,(fun d hd=>by cases hd), ?_,by rw[List.nil_append]⟩
 rw[show(es.toList.filter fun e=> !(([]:List MapEntry).map (·.born)).contains e.born)=es.toList from List.filter_eq_self.2 (fun _ _=>rfl)]
 exact h1
theorem ItG.step {α β:Type} {encK:α→Value} {encV:β→Value} {bm:Nat} {om:Obj} {m dn lf:List (α×β)} {es:Array MapEntry} {clock:Nat} {ds:List MapEntry} {e:MapEntry} (hb: (es.toList.map (·.born)++ [clock]).Pairwise (· < ·))
  (hd:ds.map kv=dn.map (ko_ encK encV)) (hm: ∀d,d∈ds→d∈es.toList) (hl: (es.toList.filter fun e=> !(ds.map (·.born)).contains e.born).map kv=lf.map (ko_ encK encV)) (hp: (dn++lf).Perm m)
  (he:e∈es.toList.filter fun e=> !(ds.map (·.born)).contains e.born) (hom:om= .map es clock):
  ∃p lf',kv e=ko_ encK encV p∧lf.length=lf'.length+1∧ItG encK encV (.mapIter (some bm) clock ((ds.map (·.born)).toArray.push e.born) clock) bm om m (dn++ [p]) lf':=by
 obtain⟨A,C,hAC⟩:=List.append_of_mem he
 rw[hAC,List.map_append,List.map_cons] at hl
 obtain⟨l1,l2,rfl,h1,h2⟩:=List.append_eq_map_iff.1 hl
 obtain⟨p,l3,rfl,h3,h4⟩:=(List.map_eq_cons_iff.1 h2)
 refine⟨p,l1++l3,h3.symm,by simp;omega,es,clock,ds++ [e],hom,hb,by simp,by simp[hd,h3], ?_, ?_, ?_⟩
 ·intro d hd'
  rcases List.mem_append.1 hd' with h|h
  ·exact hm d h
  ·rw[List.mem_singleton] at h;subst h;exact(List.mem_filter.1 he).1
 ·have hnd: ((A++e::C).map (·.born)).Nodup:=by
   rw[←hAC]
   exact(Z6_ hb).sublist ((List.filter_sublist).map _)
  have e1: (es.toList.filter fun x=> !((ds++ [e]).map (·.born)).contains x.born)=(A++e::C).filter fun x=> !(x.born==e.born):=by
   rw[←hAC,List.filter_filter]
   refine List.filter_congr fun x hx=> ?_
   simp only[List.map_append,List.map_cons,List.map_nil,List.contains_append,List.contains_cons,List.contains_nil,Bool.or_false,Bool.not_or]
   rw[Bool.and_comm]
  rw[List.map_append,List.map_cons,List.nodup_append] at hnd
  obtain⟨-,hn2,hn3⟩:=hnd
  rw[List.nodup_cons] at hn2
  have e2: ((A++e::C).filter fun x=> !(x.born==e.born))=A++C:=by
   rw[List.filter_append,List.filter_cons]
   simp only[beq_self_eq_true,Bool.not_true,Bool.false_eq_true, ↓reduceIte]
   congr 1
   ·refine List.filter_eq_self.2 fun x hx=> ?_
    have:=hn3 x.born (List.mem_map.2 ⟨x,hx,rfl⟩) e.born List.mem_cons_self
    simpa using this
   ·refine List.filter_eq_self.2 fun x hx=> ?_
    have:x.born≠e.born:=fun h=>hn2.1 (h▸List.mem_map.2 ⟨x,hx,rfl⟩)
    simpa using this
  rw[e1,e2,List.map_append,List.map_append,h1,h4]
 ·refine List.Perm.trans ?_ hp
  rw[List.append_assoc]
  refine List.Perm.append_left dn ?_
  rw[List.singleton_append]
  exact List.perm_middle.symm
section
variable {α β:Type} {encK:α→Value} {encV:β→Value} {P:Program} {w0:World} {f:Fr} {L:zi_} {N:Fr→zi_→Prop} {ops:Array Oper} {rest:List Oper} {md:Md}
 {d:Option Tmp} {ty:TypeId} {ps:String} {af:Array Edge} {g:Option (Nat×Bool)}
theorem Ow.rangeMapG {t kt vt:TypeId} {x:Operand} {bm:Nat} {om:Obj} {m:List (α×β)} {md':Md} (he:md.turn=some md') (hs:zt_ ops f ⟨d, .range t x,ty,ps,af,g⟩=false) (hu:P.underlying t=some (.map kt vt))
  (hx:ev f x=vm bm) (hl:zv_ w0 L bm=some om) (hm:QP_ encK encV om m)
  (hn: ∀b o,ju_ L b→w0.heap.size≤b→ItG encK encV o bm om m [] m→Ow P w0 ops md' rest (qz_ f d (itv b)) (L++ [(b,o)]) N):
  Ow P w0 ops md (⟨d, .range t x,ty,ps,af,g⟩::rest) f L N:=by
 obtain⟨es,clock,rfl,hI⟩:=ItG.start (bm:=bm) hm
 refine Ow.step he rfl hs fun w hw=> .inl ⟨itv w.heap.size,w.alloc (.mapIter (some bm) clock #[] clock),_, ?_,hw.alloc _,hn _ _ (z9_ fun b hb=>hw.lt hb) hw.size hI⟩
 have hb:=hw.read hl
 have: (Instr.range t (vm bm)).run P w= .ok (itv w.heap.size) (w.alloc (.mapIter (some bm) clock #[] clock)):=by
  simp only[Instr.range,vm,Sem.run_bind,run_underlying hu w,Result.andThen_ok,qQ_ hb]
  rfl
 simp only[execOp,Sem.run_bind,hx]
 rw[this];rfl
theorem Ow.nextMapG {x:Operand} {r bm:Nat} {o om:Obj} {m dn lf:List (α×β)} {md':Md} (he:md.turn=some md') (hs:zt_ ops f ⟨d, .next x false,ty,ps,af,g⟩=false)
  (hx:ev f x=itv r) (hl:look L r=some o) (hlm:zv_ w0 L bm=some om) (hI:ItG encK encV o bm om m dn lf)
  (h0:lf= []→Ow P w0 ops md' rest (qz_ f d (.tuple #[.bool false])) L N)
  (h1: ∀p o' lf',lf.length=lf'.length+1→ItG encK encV o' bm om m (dn++ [p]) lf'→Ow P w0 ops md' rest (qz_ f d (.tuple #[.bool true,encK p.1,encV p.2])) (setB L r o') N):
  Ow P w0 ops md (⟨d, .next x false,ty,ps,af,g⟩::rest) f L N:=by
 refine Ow.step he rfl hs fun w hw=> ?_
 have hr:=hw.has _ _ (zF_ hl)
 have hb:=hw.read hlm
 obtain⟨es,clock,ds,rfl,hbo,rfl,hd,hm,hlf,hp⟩:=hI
 rcases run_next_at (P:=P) w ty r bm clock clock (ds.map (·.born)).toArray es clock hr hb (ale_ hbo) (Nat.le_refl _) with⟨hz,hrun⟩ | ⟨e,hem,w1,hw1,hrun⟩
 ·refine .inl ⟨.tuple #[.bool false],w,L, ?_,hw,h0 ?_⟩
  ·simp only[execOp,Sem.run_bind,hx,itv]
   rw[hrun];rfl
  ·have: (leftOf es (ds.map (·.born)).toArray).toList= []:=by
    rw[Array.toList_eq_nil_iff];exact Array.eq_empty_of_size_eq_zero hz
   rw[WT_] at this
   rw[this] at hlf
   exact(List.map_eq_nil_iff.1 hlf.symm)
 ·rw[WT_] at hem
  obtain⟨p,lf',hk,hlen,hI'⟩:=ItG.step (bm:=bm) hbo hd hm hlf hp hem rfl
  simp only[kv,ko_,Prod.mk.injEq] at hk
  have hw1':Hp w0 L w1:=by rcases hw1 with rfl|rfl;exact hw;exact hw.drew
  refine .inl ⟨.tuple #[.bool true,encK p.1,encV p.2],ChangeMaps.setBlock w1 r (.mapIter (some bm) clock ((ds.map (·.born)).toArray.push e.born) clock),_, ?_,hw1'.set (zn_ hl) rfl rfl rfl rfl,h1 p _ lf' hlen hI'⟩
  simp only[execOp,Sem.run_bind,hx,itv]
  rw[hrun,hk.1,hk.2];rfl
theorem Ow.entryMapG {x:Operand} {r bm:Nat} {o om:Obj} {m dn lf:List (α×β)} {p:α×β} {md':Md} (he:md.turn=some md') (hs:zt_ ops f ⟨d, .entry x,ty,ps,af,g⟩=false)
  (hx:ev f x=itv r) (hl:zv_ w0 L r=some o) (hlm:zv_ w0 L bm=some om) (hI:ItG encK encV o bm om m (dn++ [p]) lf)
  (hn:Ow P w0 ops md' rest (qz_ f d (.tuple #[encK p.1,encV p.2])) L N):
  Ow P w0 ops md (⟨d, .entry x,ty,ps,af,g⟩::rest) f L N:=by
 refine Ow.step he rfl hs fun w hw=> .inl ⟨_,w,L, ?_,hw,hn⟩
 have hr:=hw.read hl
 have hb:=hw.read hlm
 obtain⟨es,clock,ds,rfl,hbo,rfl,hd,hm,hlf,hp⟩:=hI
 rw[List.map_append,List.map_cons,List.map_nil] at hd
 obtain⟨d1,d2,rfl,-,h2⟩:=List.map_eq_append_iff.1 hd
 obtain⟨e,d3,rfl,h3,h4⟩:=List.map_eq_cons_iff.1 h2
 obtain rfl:=List.map_eq_nil_iff.1 h4
 simp only[kv,ko_,Prod.mk.injEq] at h3
 have hs': ((d1++ [e]).map (·.born)).toArray=(d1.map (·.born)).toArray.push e.born:=by simp
 rw[hs'] at hr
 have hrun:=run_entry_at (P:=P) w r bm clock (d1.map (·.born)).toArray es clock e hr hb (hm e (by simp)) (Z6_ hbo)
 simp only[execOp,Sem.run_bind,hx,itv]
 rw[hrun,h3.1,h3.2];rfl
end
theorem abi_ (l:List UInt8):Instr.sameBits 10000 (.agg (a8 l)) (.agg (a8 l))=true:=by
 show Instr.sameBits (9999+1) _ _=true
 unfold Instr.sameBits
 simp only[beq_self_eq_true,Bool.true_and,List.all_eq_true]
 intro p hp
 obtain⟨i,hi,rfl⟩:=List.getElem_of_mem hp
 rw[List.getElem_zip]
 simp[a8,Instr.sameBits]
theorem V4_ {P:Program} {t e:TypeId} {n:Nat} (hu:P.underlying t=some (.array n e)) (he:P.underlying e=some (.int .u8)) (hm:zU_ P e=some (false,1)) (l l':List UInt8) (hl:l.length=n) (hl':l'.length=n) (w:World):
  (Op.equal t (.agg (a8 l)) (.agg (a8 l'))).run P w= .ok (l==l') w:=
 acH_ P 8 9992 t _ _ _ (ads_ (d:=6) hu he hm l l' hl hl') w
theorem Xf_ {P:Program} {t e:TypeId} {n:Nat} (hu:P.underlying t=some (.array n e)) (he:P.underlying e=some (.int .u8)) (hm:zU_ P e=some (false,1)) (l:List UInt8) (hl:l.length=n) (em:Bool) (w:World):
  (Instr.checkKey em 10000 t (.agg (a8 l))).run P w= .ok () w:=by
 show(Instr.checkKey em (9999+1) t (.agg (a8 l))).run P w= .ok () w
 rw[Instr.checkKey]
 simp only[Sem.run_bind,run_underlying hu,Result.andThen_ok]
 simp only[Std.Legacy.Range.forIn_eq_forIn_range',Std.Legacy.Range.size,Nat.sub_zero,Nat.add_one_sub_one,Nat.div_one]
 have each: ∀j,j∈List.range' 0 n→j<l.length:=by
  intro j hj
  rw[List.mem_range'] at hj
  obtain⟨i,hi,rfl⟩:=hj
  omega
 generalize List.range' 0 n=is at each
 induction is with
 |nil=>simp
 |cons j is ih=>
  have hj:=each j (by simp)
  have p1: (part e (a8 l) (j*1)).run P w= .ok (v8 (l.getD j 0)) w:=by
   refine jl_ hm ?_ w
   simp[partV,a8,v8,hj]
  have p2: (Instr.checkKey em 9999 e (v8 (l.getD j 0))).run P w= .ok () w:=by
   show(Instr.checkKey em (9998+1) e (v8 (l.getD j 0))).run P w= .ok () w
   rw[Instr.checkKey]
   simp only[Sem.run_bind,run_underlying he,Result.andThen_ok,v8]
   rfl
  simp only[List.forIn_cons,Sem.run_bind,run_sizeOf hm w,Result.andThen_ok,p1,p2,Sem.run_pure]
  exact ih (fun y hy=>each y (by simp[hy]))
theorem ae0_ {n:Nat} {e:TypeId} (x:Value): ∀ (es:List MapEntry) (i:Nat),es≠ []→Instr.findNow (.array n e) x es i=none
 | [],_,h=>absurd rfl h
 |_::_,_,_=>by cases x<;>rfl
theorem vP_ {α β:Type} [BEq α] {P:Program} {kt:TypeId} {encK:α→Value} {encV:β→Value} (he: ∀a b w,(Op.equal kt (encK a) (encK b)).run P w= .ok (a==b) w) (w:World) (k:α): ∀ (es:List MapEntry) (m:List (α×β)) (i:Nat),es.map (fun e=>(e.key,e.val))=m.map (ko_ encK encV)→
  (Instr.findAsking kt (encK k) es i).run P w= .ok ((QB_ k m i).map fun p=>(p.1,encV p.2)) w
 | [],[],_,_=>rfl
 | [],_::_,_,h=>by cases h
 |_::_,[],_,h=>by cases h
 |e::es,p::m,i,h=>by
  simp only[List.map_cons,List.cons.injEq,ko_,Prod.mk.injEq] at h
  obtain⟨⟨h1,h2⟩,h3⟩:=h
  unfold Instr.findAsking QB_
  rw[Sem.run_bind,h1,he]
  simp only[Result.andThen_ok]
  cases hk: (k==p.1)
  ·simp only[Bool.false_eq_true, ↓reduceIte]
   exact vP_ he w k es m (i+1) h3
  ·simp[h2]
theorem KeyOk.arr {α:Type} [BEq α] {P:Program} {kt e:TypeId} {n:Nat} (hu:P.underlying kt=some (.array n e)) (he:P.underlying e=some (.int .u8)) (hm:zU_ P e=some (false,1)) (bs:α→List UInt8) (hb: ∀a,(bs a).length=n) (hq: ∀a b,(bs a==bs b)=(a==b)):
  KeyOk P kt (fun a:α=> .agg (a8 (bs a))) where
 find encV w k es m h:=by
  cases es with
  |nil=>
   cases m with
   |nil=>simp only[Instr.findKey,Sem.run_bind,run_underlying hu w,Result.andThen_ok];rfl
   |cons=>cases h
  |cons e0 es=>
   simp only[Instr.findKey,Sem.run_bind,run_underlying hu w,Result.andThen_ok]
   rw[ae0_ _ _ _ (by simp)]
   exact vP_ (encK:=fun a:α=> .agg (a8 (bs a))) (fun a b w=>by rw[V4_ hu he hm _ _ (hb a) (hb b) w,hq]) w k _ m 0 h
 check w e k:=Xf_ hu he hm _ (hb k) e w
 bits k:=abi_ _
section
variable {α β:Type} [BEq α] [LawfulBEq α] {encK:α→Value} {encV:β→Value} {P:Program} {w0:World} {f:Fr} {L:zi_} {N:Fr→zi_→Prop} {ops:Array Oper} {rest:List Oper} {md:Md}
 {d:Option Tmp} {ty:TypeId} {ps:String} {af:Array Edge} {g:Option (Nat×Bool)}
def hasG (k:α) (m:List (α×β)):Bool:=m.any fun p=>k==p.1
omit [LawfulBEq α] in
theorem Ow.mapGet2G {t kt vt:TypeId} {x y:Operand} {b:Nat} {o:Obj} {m:List (α×β)} {k:α} {z:β} {md':Md} (he:md.turn=some md') (hs:zt_ ops f ⟨d, .lookup t x y true,ty,ps,af,g⟩=false) (hu:P.underlying t=some (.map kt vt)) (hk:KeyOk P kt encK)
  (hz:z8_ P vt=some (encV z)) (hx:ev f x=vm b) (hy:ev f y=encK k) (hl:zv_ w0 L b=some o) (hm:QP_ encK encV o m)
  (hn:Ow P w0 ops md' rest (qz_ f d (.tuple #[encV (Jk_ k z m), .bool (hasG k m)])) L N):
  Ow P w0 ops md (⟨d, .lookup t x y true,ty,ps,af,g⟩::rest) f L N:=by
 obtain⟨es,c,rfl,hes,-⟩:=hm
 refine Ow.step he rfl hs fun w hw=> ?_
 have hb:=hw.read hl
 have hfk:=hk.find encV w k es.toList m hes
 refine .inl ⟨.tuple #[encV (Jk_ k z m), .bool (hasG k m)],w,L, ?_,hw,hn⟩
 have hff:=J1_ k m 0
 have hh:hasG k m=(m.find? fun p=>k==p.1).isSome:=by
  unfold hasG;rw[Bool.eq_iff_iff,List.find?_isSome,List.any_eq_true]
 have: (Instr.lookup t (vm b) (encK k) true).run P w= .ok (.tuple #[encV (Jk_ k z m), .bool (hasG k m)]) w:=by
  cases hf:QB_ k m 0 with
  |none=>
   rw[hf] at hfk hff
   cases h:m.find? fun p=>k==p.1 with
   |some q=>rw[h] at hff;cases hff
   |none=>
    have hg:Jk_ k z m=z:=by unfold Jk_;rw[h]
    rw[h] at hh
    simp only[Instr.lookup,vm,Sem.run_bind,run_underlying hu w,Result.andThen_ok,qQ_ hb,Sem.run_pure,hk.check,hfk,Option.map_none,js_ hz w,hg,hh, ↓reduceIte,Option.isSome_none]
  |some p=>
   obtain⟨j,a⟩:=p
   rw[hf] at hfk hff
   cases h:m.find? fun p=>k==p.1 with
   |none=>rw[h] at hff;cases hff
   |some q=>
    have hg:Jk_ k z m=a:=by
     unfold Jk_
     rw[h] at hff ⊢
     simp only[Option.map_some,Option.some.injEq] at hff;exact hff.symm
    rw[h] at hh
    simp only[Instr.lookup,vm,Sem.run_bind,run_underlying hu w,Result.andThen_ok,qQ_ hb,Sem.run_pure,hk.check,hfk,Option.map_some,hg,hh, ↓reduceIte,Option.isSome_some]
 simp only[execOp,Sem.run_bind,hx,hy]
 rw[this];rfl
end
end Go.Sx
namespace Go.Sx
open Go
theorem KeyOk.str {P:Program} {kt:TypeId} (hu:P.underlying kt=some .string):KeyOk P kt vs where
 find encV w k es m h:=by
  simp only[Instr.findKey,Sem.run_bind,run_underlying hu w,Result.andThen_ok]
  rw[Jg_ (encK:=vs) (fun a b=>by simp only[vs,Instr.sameNow,aao_]) k es m 0 h]
  rfl
 check w e k:=by
  unfold Instr.checkKey
  simp only[Sem.run_bind,run_underlying hu w,Result.andThen_ok,vs]
  rfl
 bits k:=by simp only[vs,Instr.sameBits,aao_,beq_self_eq_true]
section
variable {α β:Type} [BEq α] [LawfulBEq α]
def delG (k:α):List (α×β)→List (α×β)
 | []=> []
 |p::r=>if k==p.1 then r else p::delG k r
variable {encK:α→Value} {encV:β→Value}
omit [LawfulBEq α] in
theorem agh_ (k:α): ∀ (m:List (α×β)) (i j:Nat) (a:β),QB_ k m i=some (j,a)→i≤j
 | [],_,_,_,h=>by cases h
 |p::r,i,j,a,h=>by
  unfold QB_ at h
  split at h
  ·cases h;exact Nat.le_refl _
  ·have:=agh_ k r (i+1) j a h;omega
omit [LawfulBEq α] in
theorem aaL_ (k:α): ∀ (es:List MapEntry) (m:List (α×β)) (i j:Nat) (a:β),es.map (fun e=>(e.key,e.val))=m.map (ko_ encK encV)→QB_ k m i=some (j,a)→
  (es.eraseIdx (j - i)).map (fun e=>(e.key,e.val))=(delG k m).map (ko_ encK encV)
 | [],[],_,_,_,_,h=>by cases h
 | [],_::_,_,_,_,h,_=>by cases h
 |_::_,[],_,_,_,h,_=>by cases h
 |e::es,p::m,i,j,a,h,hf=>by
  simp only[List.map_cons,List.cons.injEq] at h
  obtain⟨h1,h3⟩:=h
  unfold QB_ at hf
  unfold delG
  split at hf
  ·rename_i hk
   cases hf
   rw[if_pos hk,Nat.sub_self]
   exact h3
  ·rename_i hk
   have hle:=agh_ k m (i+1) j a hf
   rw[if_neg hk,show j - i=(j - (i+1))+1 by omega]
   simp only[List.eraseIdx_cons_succ,List.map_cons]
   rw[aaL_ k es m (i+1) j a h3 hf,h1]
omit [LawfulBEq α] in
theorem WQ_ (k:α): ∀ (m:List (α×β)) (i:Nat),QB_ k m i=none→delG k m=m
 | [],_,_=>rfl
 |p::r,i,h=>by
  unfold QB_ at h
  split at h
  ·cases h
  ·rename_i hk
   unfold delG
   rw[if_neg hk,WQ_ k r (i+1) h]
variable {P:Program} {w0:World} {f:Fr} {L:zi_} {N:Fr→zi_→Prop} {ops:Array Oper} {rest:List Oper} {md:Md}
 {d:Option Tmp} {ty:TypeId} {ps:String} {af:Array Edge} {g:Option (Nat×Bool)}
omit [LawfulBEq α] in
theorem Ow.mapDeleteG {t kt vt:TypeId} {x y:Operand} {t2:TypeId} {b:Nat} {o:Obj} {m:List (α×β)} {k:α} {md':Md} (he:md.turn=some md') (hs:zt_ ops f ⟨d, .call ⟨.builtin .delete, #[x,y], #[t,t2]⟩,ty,ps,af,g⟩=false) (hu:P.underlying t=some (.map kt vt)) (hk:KeyOk P kt encK)
  (hx:ev f x=vm b) (hy:ev f y=encK k) (hl:look L b=some o) (hm:QP_ encK encV o m)
  (hn: ∀o',QP_ encK encV o' (delG k m)→Ow P w0 ops md' rest (qz_ f d (.tuple #[])) (setB L b o') N):
  Ow P w0 ops md (⟨d, .call ⟨.builtin .delete, #[x,y], #[t,t2]⟩,ty,ps,af,g⟩::rest) f L N:=by
 obtain⟨es,c,rfl,hes,hbo⟩:=hm
 refine Ow.step he rfl hs fun w hw=> ?_
 have hb:=hw.has _ _ (zF_ hl)
 have hfk:=hk.find encV w k es.toList m hes
 cases hf:QB_ k m 0 with
 |none=>
  rw[hf] at hfk
  refine .inl ⟨.tuple #[],{w with heap:=w.heap.setIfInBounds b (.map es c)},_, ?_,hw.set (zn_ hl) rfl rfl rfl rfl,hn _ ⟨es,c,rfl,by rw[WQ_ k m 0 hf];exact hes,hbo⟩⟩
  have: (Builtin.delete_ #[t,t2] ty #[vm b,encK k]).run P w= .ok (.tuple #[]) {w with heap:=w.heap.setIfInBounds b (.map es c)}:=by
   simp only[Builtin.delete_,vm,List.getElem?_toArray,List.getElem?_cons_zero,List.getElem?_cons_succ,Sem.run_bind,run_underlying hu w,Result.andThen_ok,qQ_ hb,hk.check,hfk,Option.map_none,xX_ hb]
   rfl
  simp only[execOp,resolve,Sem.run_bind,Sem.run_pure,Result.andThen_ok,invoke,builtin,List.map_toArray,List.map_cons,List.map_nil,hx,hy]
  rw[this];rfl
 |some p=>
  obtain⟨j,a⟩:=p
  rw[hf] at hfk
  refine .inl ⟨.tuple #[],{w with heap:=w.heap.setIfInBounds b (.map (es.eraseIdxIfInBounds j) c)},_, ?_,hw.set (zn_ hl) rfl rfl rfl rfl,hn _ ⟨_,c,rfl, ?_,by rw[Array.toList_eraseIdxIfInBounds];exact ae2_ hbo⟩⟩
  ·have: (Builtin.delete_ #[t,t2] ty #[vm b,encK k]).run P w= .ok (.tuple #[]) {w with heap:=w.heap.setIfInBounds b (.map (es.eraseIdxIfInBounds j) c)}:=by
    simp only[Builtin.delete_,vm,List.getElem?_toArray,List.getElem?_cons_zero,List.getElem?_cons_succ,Sem.run_bind,run_underlying hu w,Result.andThen_ok,qQ_ hb,hk.check,hfk,Option.map_some,xX_ hb]
    rfl
   simp only[execOp,resolve,Sem.run_bind,Sem.run_pure,Result.andThen_ok,invoke,builtin,List.map_toArray,List.map_cons,List.map_nil,hx,hy]
   rw[this];rfl
  ·have:=aaL_ (encK:=encK) (encV:=encV) k es.toList m 0 j a hes hf
   rw[Nat.sub_zero] at this
   rw[←this]
   simp
omit [BEq α] [LawfulBEq α] in
end
section
variable {P:Program} {w0:World} {f:Fr} {L:zi_} {N:Fr→zi_→Prop} {ops:Array Oper} {rest:List Oper} {md:Md}
 {d:Option Tmp} {ty:TypeId} {ps:String} {af:Array Edge} {g:Option (Nat×Bool)}
end
end Go.Sx
namespace Go.Sx
open Go
inductive Qu (L:zi_) (E:TypeId) (m:Nat):Value→Nat→List Value→Prop
 |nl:Qu L E m (.slice none 0 0) 0 []
 |at_ {b n c:Nat} {pre cs rest:List Value} (hl:look L b=some (.cells (pre++ (cs++rest)).toArray E (0,0))) (h1:cs.length=n*m) (h2:rest.length=(c - n)*m) (h3:n≤c) (h4:0<c):Qu L E m (vsl b pre.length n c) n cs
 |used {b off:Nat}:Qu L E m (vsl b off 0 0) 0 []
theorem Gr.qu {L:zi_} {E:TypeId} {m n:Nat} {v:Value} {cs:List Value} (h:Gr L E m v n cs):Qu L E m v n cs:=by
 rcases h with h| ⟨rfl,rfl,b,rfl,hl⟩
 ·cases h with
  |nl=>exact .nl
  |at_ hl h1 h2 h3 h4=>exact Qu.at_ (pre:= []) hl h1 h2 h3 h4
 ·exact .used
theorem Qu.keep {L L':zi_} {E:TypeId} {m n:Nat} {v:Value} {cs:List Value} (h:Qu L E m v n cs) (hk: ∀b o,slB v=some b→look L b=some o→look L' b=some o):Qu L' E m v n cs:=by
 cases h with
 |nl=>exact .nl
 |at_ hl h1 h2 h3 h4=>exact .at_ (hk _ _ rfl hl) h1 h2 h3 h4
 |used=>exact .used
theorem Qu.app {L M:zi_} {E:TypeId} {m n:Nat} {v:Value} {cs:List Value} (h:Qu L E m v n cs):Qu (L++M) E m v n cs:=h.keep fun _ _ _ ho=>zp_ ho
theorem Qu.cell {L:zi_} {E:TypeId} {m n:Nat} {v:Value} {cs:List Value} (h:Qu L E m v n cs):Value.oneCell' v=true∧v.cells= #[v]:=by cases h<;>exact⟨rfl,rfl⟩
theorem Qu.len {L:zi_} {E:TypeId} {m n:Nat} {v:Value} {cs:List Value} (h:Qu L E m v n cs) (x:Bool×Nat):QV_ (.sl x) v=some (vi n):=by cases h<;>rfl
theorem Qu.head {α:Type} {L:zi_} {E:TypeId} {m:Nat} {v:Value} {enc:α→List Value} {x:α} {l:List α} (h:Qu L E m v (l.length+1) ((x::l).map enc).flatten) (hm: ∀x,(enc x).length=m):
  ∃b off arr,look L b=some (.cells arr E (0,0))∧(∀a,zK_ (.sl (a,m)) v (some 0)=some (vp b off))∧zA_ (some (true,m)) (some (.cells arr E (0,0))) off=some (.agg (enc x).toArray):=by
 generalize hn:l.length+1=n at h
 generalize hc: ((x::l).map enc).flatten=cs at h
 cases h with
 |nl=>omega
 |used=>omega
 | @at_ b n c pre cs rest hl h1 h2 h3 h4=>
  refine⟨b,pre.length,_,hl,fun a=> ?_, ?_⟩
  ·have:=qn_ (a,m) b pre.length n c 0 ⟨by omega,by omega⟩
   simpa using this
  ·rw[←hc,List.map_cons,List.flatten_cons,List.append_assoc]
   exact xV_ _ _ _ E (0,0) rfl (hm x)
theorem Qu.tail {α:Type} {L:zi_} {E:TypeId} {m:Nat} {v:Value} {enc:α→List Value} {x:α} {l:List α} (h:Qu L E m v (l.length+1) ((x::l).map enc).flatten) (hm: ∀x,(enc x).length=m):
  ∃v',(∀a,qR_ (.sl (a,m)) v (some (some 1)) none=some v')∧Qu L E m v' l.length (l.map enc).flatten:=by
 generalize hn:l.length+1=n at h
 generalize hc: ((x::l).map enc).flatten=cs at h
 cases h with
 |nl=>omega
 |used=>omega
 | @at_ b n c pre cs rest hl h1 h2 h3 h4=>
  have hb:=adS_ n c 1 ⟨by omega,by omega⟩
  by_cases h5:c=1
  ·subst h5
   have hl0:l= []:=List.eq_nil_of_length_eq_zero (by omega)
   subst hl0
   refine⟨vsl b pre.length 0 0,fun a=> ?_, .used⟩
   unfold qR_ vsl
   simp only[hb]
   simp;omega
  ·refine⟨vsl b (pre++enc x).length l.length (c - 1),fun a=> ?_, .at_ (pre:=pre++enc x) (rest:=rest) ?_ ?_ ?_ (by omega) (by omega)⟩
   ·unfold qR_ vsl
    simp only[hb]
    rw[if_neg (by simpa using h5)]
    simp[qE_,hm];omega
   ·rw[hl,←hc,List.map_cons,List.flatten_cons];simp
   ·rw[k8_ hm]
   ·rw[h2];congr 1;omega
section
variable {P:Program} {w0:World} {L:zi_}
theorem acP_ {w:World} {ts tx ty e:TypeId} {m:Bool×Nat} {z s x:Value} {n k:Nat} {cs new:List Value} (hw:Hp w0 L w)
  (hu:P.underlying ts=some (.slice e)) (hm:zU_ P e=some m) (hi:xB_ P e=true) (hz:z8_ P e=some z) (hzs:z.cells.size=m.2) {d:TypeDesc} (hux:P.underlying tx=some d) (hnx: ∀k,d≠ .int k)
  (hB:Qu L e m.2 s n cs) (hXa: ∀w,Hp w0 L w→AppX P w m.2 x k new) (hbig:2* (n+k)+768≤2^38):
  ∃v' w' L',(Builtin.append_ #[ts,tx] ty #[s,x]).run P w= .ok v' w'∧Hp w0 L' w'∧Qu L' e m.2 v' (n+k) (cs++new)∧Grew w0 s L L':=by
 have hbk:=hbig
 obtain⟨i,hi2,hb0,hbig⟩:=kt_ hi hbig
 have hti: ∀w,(typeInfo e).run P w= .ok i w:=by
  intro w
  simp only[typeInfo,program,Sem.run_bind]
  show Result.andThen (Result.ok P w) _=_
  simp only[Result.andThen_ok,hi2]
  rfl
 have e1: ∀ {α β:Type} (a:α) (f:α→World→Result β),(Sem.run P (pure a) w).andThen f=f a w:=fun _ _=>rfl
 have hX:=hXa w hw
 have hxl:=hX.len
 have hxc:=hX.cells
 have hzv:=js_ (P:=P) hz
 have room: ∀ (b:Nat) (w:World),(askRoom b).run P w= .ok () w:=by
  intro b w
  unfold askRoom
  split<;>rfl
 have zc: ∀j,(Builtin.zeroCells z.cells j).toList.length=j*m.2:=by
  intro j;simp[Builtin.zeroCells,hzs]
 have hbg: ∀c,c<n+k→ ¬ (Builtin.nextslicecap (n+k) c*i.bytes>2^48):=by
  intro c hc
  have:=x5_ hc
  have h2:=Nat.mul_le_mul_right i.bytes this
  omega
 have out: ∀ (b off c:Nat),¬n+k≤c→cs.length=n*m.2→(∀w,Hp w0 L w→(Builtin.firstCells m.2 n (Value.slice (some ⟨b,off,none⟩) n c)).run P w= .ok cs.toArray w)→
   ∃v' w' L',(Builtin.append_ #[ts,tx] ty #[vsl b off n c,x]).run P w= .ok v' w'∧Hp w0 L' w'∧Qu L' e m.2 v' (n+k) (cs++new)∧Grew w0 (vsl b off n c) L L':=by
  intro b off c hin h1 hold
  have hbg':=hbg c (by omega)
  simp only[Builtin.append_,List.getElem?_toArray,List.getElem?_cons_zero,List.getElem?_cons_succ,Sem.run_bind,run_underlying hu w,Result.andThen_ok,run_sizeOf hm w,run_underlying hux w,e1,Bool.false_eq_true, ↓reduceIte,hxl,Bool.not_false,hin,hti,hb0,or_false,and_false,hbg',vsl]
  have hch: (choose (Question.appendCap (n+k) c e)).run P w= .ok ((n+k)+w.tape w.drawn (.appendCap (n+k) c e)% (2^63 - (n+k))) w.drew:=rfl
  rw[hch]
  generalize hcc: (n+k)+w.tape w.drawn (.appendCap (n+k) c e)% (2^63 - (n+k))=c2
  have hw1:=hw.drew
  have hX1:=hXa _ hw1
  simp only[Result.andThen_ok,room,hold _ hw1,hX1.cells,hzv]
  refine⟨_,_,L++ [(w.drew.heap.size, .cells (cs++new++ (Builtin.zeroCells z.cells (c2 - (n+k))).toList).toArray e (0,0))],rfl, ?_,Qu.at_ (pre:= []) (b:=w.drew.heap.size) (rest:=(Builtin.zeroCells z.cells (c2 - (n+k))).toList) ?_ ?_ ?_ (by omega) (by omega), ?_⟩
  ·have ea: (cs++new++ (Builtin.zeroCells z.cells (c2 - (n+k))).toList).toArray=cs.toArray++new.toArray++Builtin.zeroCells z.cells (c2 - (n+k)):=by apply Array.ext';simp
   rw[ea]
   exact hw1.alloc _
  ·rw[z3_ (fun hm=>Nat.lt_irrefl _ (hw1.lt hm))]
   simp[look]
  ·rw[List.length_append,h1,hX.size,Nat.add_mul]
  ·exact zc _
  ·refine⟨fun c hc=>by rw[zd_];exact List.mem_append_left _ hc,fun c hc=> ?_,fun c o hne ho=>zp_ ho⟩
   rw[zd_] at hc
   rcases List.mem_append.1 hc with hc|hc
   ·exact .inl hc
   ·right
    simp only[keys,List.map_cons,List.map_nil,List.mem_singleton] at hc
    subst hc
    exact⟨z9_ fun b hb=>hw1.lt hb,hw1.size⟩
 cases hB with
 |nl=>
  obtain⟨v',w',L',h1,h2,h3,h4,-⟩:=wi_ (w0:=w0) (L:=L) (ty:=ty) (x:=x) (n:=0) (cs:= []) hw hu hm hi hz hzs hux hnx .nl hXa hbk
  exact⟨v',w',L',h1,h2,(Gr.qu (.inl h3)),h4⟩
 | @used b off=>
  by_cases hk:k=0
  ·subst hk
   have hnew:new= []:=List.eq_nil_of_length_eq_zero (by have:=hX.size;omega)
   subst hnew
   refine⟨vsl b off 0 0,w,L, ?_,hw, .used,Grew.refl _ _ _⟩
   simp only[Builtin.append_,List.getElem?_toArray,List.getElem?_cons_zero,List.getElem?_cons_succ,Sem.run_bind,run_underlying hu w,Result.andThen_ok,run_sizeOf hm w,run_underlying hux w,e1,Bool.false_eq_true, ↓reduceIte,hxl,Bool.not_false,Nat.add_zero,Nat.le_refl,hxc,vsl]
   rfl
  ·exact out b off 0 (by omega) (by simp) (fun w hw=>by
    simp only[Builtin.firstCells,Nat.zero_mul]
    rfl)
 | @at_ b n c pre cs rest hl h1 h2 h3 h4=>
  by_cases hin:n+k≤c
  ·have hhb:=hw.has _ _ (zF_ hl)
   have hsz:=hX.size
   have hst:=je_ (P:=P) (b:=b) (off:=pre.length+n*m.2) (E:=e) (fz:=(0,0)) new 0 (pre++ (cs++rest)).toArray w hhb (by
    simp only[List.size_toArray,List.length_append,h1,h2,hsz,Nat.add_zero]
    have: (n*m.2)+k*m.2≤n*m.2+ (c - n)*m.2:=by
     rw[←Nat.add_mul,←Nat.add_mul]
     exact Nat.mul_le_mul_right _ (by omega)
    omega) (.inl (Nat.le_refl 0)) hX.one
   have epr:pre++ (cs++rest)=(pre++cs)++rest:=by simp
   have epl:pre.length+n*m.2=(pre++cs).length:=by rw[List.length_append,h1]
   simp only[Builtin.append_,List.getElem?_toArray,List.getElem?_cons_zero,List.getElem?_cons_succ,Sem.run_bind,run_underlying hu w,Result.andThen_ok,run_sizeOf hm w,run_underlying hux w,e1,Bool.false_eq_true, ↓reduceIte,hxl,Bool.not_false,hin,hxc,qE_,hst,vsl]
   rw[Nat.add_zero,epl,epr,Q4_ new (pre++cs) rest (by rw[h2,hsz];exact Nat.mul_le_mul_right _ (by omega))]
   refine⟨vsl b pre.length (n+k) c,_,setB L b (.cells (pre++cs++new++rest.drop new.length).toArray e (0,0)),rfl,hw.set (zn_ hl) rfl rfl rfl rfl, .at_ (rest:=rest.drop new.length) (by rw[qy_ hl];simp) ?_ ?_ hin h4, ?_⟩
   ·rw[List.length_append,h1,hsz,Nat.add_mul]
   ·rw[List.length_drop,h2,hsz,←Nat.sub_mul]
    congr 1
    omega
   ·refine⟨fun c hc=>by rw[qP_];exact hc,fun c hc=>by rw[qP_] at hc;exact .inl hc,fun c o hne ho=> ?_⟩
    rw[zB_ (fun e=>hne (by rw[←e];rfl))]
    exact ho
  ·refine out b pre.length c hin h1 (fun w hw=> ?_)
   simp only[Builtin.firstCells]
   rw[qM_ (hw.has _ _ (zF_ hl)) pre.length (n*m.2) (by simp only[List.size_toArray,List.length_append,h1];omega)]
   congr 1
   rw[List.extract_toArray,List.extract_eq_take_drop]
   simp[h1]
variable {f:Fr} {N:Fr→zi_→Prop} {ops:Array Oper} {rest:List Oper} {md:Md}
 {d:Option Tmp} {ty:TypeId} {ps:String} {af:Array Edge} {g:Option (Nat×Bool)}
theorem Ow.appendQ {ts tx e:TypeId} {m:Bool×Nat} {z:Value} {s x:Operand} {n k:Nat} {cs new:List Value} {dx:TypeDesc} {md':Md} {X Y:zi_} (sv:Value) (hL:L=X++Y) (hsv:ev f s=sv) (he:md.turn=some md')
  (hs:zt_ ops f ⟨d, .call ⟨.builtin .append, #[s,x], #[ts,tx]⟩,ty,ps,af,g⟩=false)
  (hu:P.underlying ts=some (.slice e)) (hm:zU_ P e=some m) (hi:xB_ P e=true) (hz:z8_ P e=some z) (hzs:z.cells.size=m.2) (hux:P.underlying tx=some dx) (hnx: ∀k,dx≠ .int k)
  (hB:Qu X e m.2 sv n cs) (hX: ∀w,Hp w0 L w→AppX P w m.2 (ev f x) k new) (hbig:2* (n+k)+768≤2^38)
  (hn: ∀B v' D,ju_ L B→w0.heap.size≤B→Qu D e m.2 v' (n+k) (cs++new)→(∀c,c∈keys X→c∈keys D)→(∀c,c∈keys D→c∈keys X∨B≤c)→(∀c o,slB sv≠some c→look X c=some o→look D c=some o)→Ow P w0 ops md' rest (qz_ f d v') (D++Y) N):
  Ow P w0 ops md (⟨d, .call ⟨.builtin .append, #[s,x], #[ts,tx]⟩,ty,ps,af,g⟩::rest) f L N:=by
 subst hL
 refine Ow.step he rfl hs fun w hw=> ?_
 have hp:=hw.part
 have hA:ju_ (X++Y) w.heap.size:=z9_ fun b hb=>hw.lt hb
 obtain⟨v',w',D,hr,hD,hb,hg⟩:=acP_ (w0:=w) (L:=X) (ty:=ty) (x:=ev f x) hp hu hm hi hz hzs hux hnx hB (fun w2 hw2=>hX w2 (by
   refine hw.join hw2 (fun c hc=>hc) (fun c hc=> .inl hc))) hbig
 refine .inl ⟨v',w',D++Y, ?_,hw.join hD hg.keys (fun c hc=>(hg.new c hc).imp id And.right),hn w.heap.size v' D hA hw.size hb hg.keys (fun c hc=>(hg.new c hc).imp id And.right) hg.look⟩
 simp only[execOp,resolve,Sem.run_bind,Sem.run_pure,Result.andThen_ok,invoke,builtin,List.map_toArray,List.map_cons,List.map_nil,hsv]
 rw[hr]
 rfl
theorem Ow.callIV {x y:Operand} {name:String} {ts:Array TypeId} {k:FuncId} {t:TypeId} {u a v:Value}
  (hs:zt_ ops f ⟨d, .call ⟨.invoke x name, #[y],ts⟩,ty,ps,af,g⟩=false) (hx:ev f x= .iface t u) (hy:ev f y=a)
  (hm: ∀w,(method (P.types.size+Made.depth) t u name).run P w= .ok (k,u) w)
  (hk: ∀a w,(callFunc k a).run P w= .ok (.enter k a) w) (hc: ∀w,Hp w0 L w→Rets P k #[u,a] w (fun v' D=>v'=v∧D= []))
  (hn:Ow P w0 ops md.next rest (qz_ f d v) L N):
  Ow P w0 ops md (⟨d, .call ⟨.invoke x name, #[y],ts⟩,ty,ps,af,g⟩::rest) f L N:=by
 refine Ow.calm rfl rfl hs (fun w hw=> .inr (.inr ⟨k, #[u,a],w, ?_, ?_⟩)) hn
 ·simp only[execOp,resolve,Sem.run_bind,Sem.run_pure,Result.andThen_ok,invoke,List.map_toArray,List.map_cons,List.map_nil,hx,hy]
  have e0: (#[Value.iface t u]++ [a].toArray:Array Value)[0]? =some (.iface t u):=rfl
  have e1: ((#[Value.iface t u]++ [a].toArray:Array Value).extract 1 (#[Value.iface t u]++ [a].toArray:Array Value).size)= #[a]:=rfl
  rw[e0]
  simp only[e1]
  unfold callMethod
  simp only[Sem.run_bind,program]
  show Result.andThen (Result.andThen (Result.ok P w) _) _=_
  simp only[Result.andThen_ok,hm,hk]
  rfl
 ·refine Calls.mono (hc w hw) ?_
  rintro e w' ⟨v',D,rfl,hp,rfl,rfl⟩
  exact⟨_,_,rfl,hw.trans_nil hp,rfl,rfl⟩
end
theorem VU_ (cs:List Value) (h: ∀x,x∈cs→Instr.sameBits 9999 x x=true):Instr.sameBits 10000 (.agg cs.toArray) (.agg cs.toArray)=true:=by
 show Instr.sameBits (9999+1) _ _=true
 unfold Instr.sameBits
 simp only[beq_self_eq_true,Bool.true_and,List.all_eq_true]
 intro p hp
 obtain⟨i,hi,rfl⟩:=List.getElem_of_mem hp
 rw[List.getElem_zip]
 exact h _ (List.getElem_mem _)
theorem aeD_ {fs:Array Field} (x:Value): ∀ (es:List MapEntry) (i:Nat),es≠ []→Instr.findNow (.struct fs) x es i=none
 | [],_,h=>absurd rfl h
 |_::_,_,_=>by cases x<;>rfl
theorem KeyOk.struct {α:Type} [BEq α] {P:Program} {kt:TypeId} {fs:Array Field} (hu:P.underlying kt=some (.struct fs)) (enc:α→Value) (he: ∀a b,eqD P 8 kt (enc a) (enc b)=some (a==b))
  (hc: ∀ (w:World) (e:Bool) (k:α),(Instr.checkKey e 10000 kt (enc k)).run P w= .ok () w) (hb: ∀k,Instr.sameBits 10000 (enc k) (enc k)=true):KeyOk P kt enc where
 find encV w k es m h:=by
  cases es with
  |nil=>
   cases m with
   |nil=>simp only[Instr.findKey,Sem.run_bind,run_underlying hu w,Result.andThen_ok];rfl
   |cons=>cases h
  |cons e0 es=>
   simp only[Instr.findKey,Sem.run_bind,run_underlying hu w,Result.andThen_ok]
   rw[aeD_ _ _ _ (by simp)]
   exact vP_ (encK:=enc) (fun a b w=>acH_ P 8 9992 kt _ _ _ (he a b) w) w k _ m 0 h
 check w e k:=hc w e k
 bits k:=hb k
def adU_ (P:Program) (gf:Nat) (lb:Array Value) {α:Type} (enc:α→Value) (m:List α) (w:World):Prop:=
 ∀ (l:Nat) (J:List α→zi_→Prop) (w1:World) (X:zi_),(∀b,b<w.heap.size→w1.heap[b]? =w.heap[b]?)→(∀b,b∈keys X→w.heap.size≤b)→w.heap.size≤w1.heap.size→Hp w1 X w1→J [] X→(∀pre X Y,J pre X→J pre (X++Y))→
  (∀pre x post X2 w2,(pre++x::post).Perm m→Hp w2 X2 w2→(∀b,b∈keys X2→w.heap.size≤b)→J pre X2→YieldAt (Z3_ none) 0 P l #[enc x] w2 (fun e w3=> ∃D,e= .returned (.bool true)∧Hp w2 D w3∧Ext w2 X2 D∧J (pre++ [x]) D))→
  Rets P gf (#[.func (.yield l) #[] #[]]++lb) w1 (XS w1 X (fun _ D=> ∃xs,xs.Perm m∧J xs D))
end Go.Sx
section
namespace Go.Sx
open Go
set_option maxRecDepth 100000
set_option linter.defProp false
def S0:=And.intro (And.intro (And.intro (And.intro (And.intro (And.intro (@ajk_) (And.intro (@aj8_) (@ala_))) (And.intro (@ajs_) (And.intro (@afr_) (@aja_)))) (And.intro (And.intro (@ahK_) (And.intro (@aiZ_) (@acT_))) (And.intro (And.intro (@Wc_) (@VQ_)) (And.intro (@ah1_) (@Vv_))))) (And.intro (And.intro (And.intro (@afO_) (And.intro (@ajY_) (@ac0_))) (And.intro (And.intro (@ahG_) (@Wj_)) (And.intro (@akV_) (@amb_)))) (And.intro (And.intro (@af5_) (And.intro (@abT_) (@afB_))) (And.intro (And.intro (@alK_) (@agC_)) (And.intro (@XL_) (@Vw_)))))) (And.intro (And.intro (And.intro (And.intro (@ait_) (And.intro (@afk_) (@ajg_))) (And.intro (@aer_) (And.intro (@ahX_) (@alu_)))) (And.intro (And.intro (@alW_) (And.intro (@QG_) (@wF_))) (And.intro (And.intro (@abr_) (@aeS_)) (And.intro (@Vj_) (@ahB_))))) (And.intro (And.intro (And.intro (@ajL_) (And.intro (@aen_) (@Z4_))) (And.intro (And.intro (@aaF_) (@X3_)) (And.intro (@ahd_) (@ai5_)))) (And.intro (And.intro (@alT_) (And.intro (@ai7_) (@zW_))) (And.intro (And.intro (@ajd_) (@af3_)) (And.intro (@alM_) (@zT_))))))) (And.intro (And.intro (And.intro (And.intro (And.intro (@z1_) (And.intro (@zk_) (@zj_))) (And.intro (@acO_) (And.intro (@XK_) (@ajK_)))) (And.intro (And.intro (@ajJ_) (And.intro (@agK_) (@aed_))) (And.intro (And.intro (@akP_) (@afi_)) (And.intro (@ahT_) (@akc_))))) (And.intro (And.intro (And.intro (@ain_) (And.intro (@agF_) (@agI_))) (And.intro (And.intro (@ajV_) (@aj7_)) (And.intro (@aj2_) (@amm_)))) (And.intro (And.intro (@agB_) (And.intro (@aiN_) (@ai1_))) (And.intro (And.intro (@aiz_) (@al6_)) (And.intro (@ag4_) (@aid_)))))) (And.intro (And.intro (And.intro (And.intro (@ai2_) (And.intro (@aeY_) (@agN_))) (And.intro (And.intro (@ajQ_) (@ahn_)) (And.intro (@afJ_) (@alq_)))) (And.intro (And.intro (@ald_) (And.intro (@alH_) (@alv_))) (And.intro (And.intro (@alJ_) (@ako_)) (And.intro (@ajp_) (@aj1_))))) (And.intro (And.intro (And.intro (@aiE_) (And.intro (@aiy_) (@akp_))) (And.intro (And.intro (@aiH_) (@aio_)) (And.intro (@alg_) (@aiw_)))) (And.intro (And.intro (@aow_) (And.intro (@anq_) (@and_))) (And.intro (And.intro (@amG_) (@ajw_)) (And.intro (@afz_) (@afD_)))))))
def S1:=And.intro (And.intro (And.intro (And.intro (And.intro (And.intro (And.intro (And.intro (@ajh_) (@amg_)) (And.intro (@al3_) (And.intro (@anf_) (@ak1_)))) (And.intro (And.intro (@ang_) (@zy_)) (And.intro (@zz_) (And.intro (@zl_) (@ahg_))))) (And.intro (And.intro (And.intro (@aeP_) (@abW_)) (And.intro (@ajM_) (And.intro (@WZ_) (@akl_)))) (And.intro (And.intro (@ajo_) (@beq_true)) (And.intro (@beq_false) (And.intro (@Bool.not_true) (@Bool.not_false)))))) (And.intro (And.intro (And.intro (And.intro (@Md.next_seq) (@Md.next_any)) (And.intro (@Md.next_qui) (And.intro (@Md.next_sof) (@abh_)))) (And.intro (And.intro (@abx_) (@abb_)) (And.intro (@X0_) (And.intro (@XM_) (@X4_))))) (And.intro (And.intro (And.intro (@amW_) (@alw_)) (And.intro (@akd_) (And.intro (@air_) (@aiQ_)))) (And.intro (And.intro (@anu_) (And.intro (@all_) (@alZ_))) (And.intro (@akT_) (And.intro (@al9_) (@al4_))))))) (And.intro (And.intro (And.intro (And.intro (And.intro (@ad6_) (@afl_)) (And.intro (@aeK_) (And.intro (@afp_) (@agm_)))) (And.intro (And.intro (@aff_) (@ae4_)) (And.intro (@KJ_) (And.intro (@aeE_) (@aeG_))))) (And.intro (And.intro (And.intro (@aft_) (@aeM_)) (And.intro (@afh_) (And.intro (@aeb_) (@ahr_)))) (And.intro (And.intro (@aa7_) (And.intro (@Jx_) (@aeZ_))) (And.intro (@VB_) (And.intro (@VG_) (@Qk_)))))) (And.intro (And.intro (And.intro (And.intro (@Qj_) (@Vz_)) (And.intro (@VH_) (And.intro (@aeO_) (@XZ_)))) (And.intro (And.intro (@X6_) (@aa1_)) (And.intro (@XV_) (And.intro (@XA_) (@acj_))))) (And.intro (And.intro (And.intro (@Xt_) (@XJ_)) (And.intro (@abX_) (And.intro (@abt_) (@abH_)))) (And.intro (And.intro (@acU_) (And.intro (@abe_) (@afu_))) (And.intro (@ab3_) (And.intro (@abE_) (@ac6_)))))))) (And.intro (And.intro (And.intro (And.intro (And.intro (And.intro (@aaW_) (@abB_)) (And.intro (@abA_) (And.intro (@ac9_) (@aaX_)))) (And.intro (And.intro (@acE_) (@ae9_)) (And.intro (@WE_) (And.intro (@Qq_) (@acC_))))) (And.intro (And.intro (And.intro (@Xs_) (@Xm_)) (And.intro (@w3_) (And.intro (@w9_) (@Xr_)))) (And.intro (And.intro (@X7_) (And.intro (@ace_) (@JE_))) (And.intro (@J4_) (And.intro (@aaH_) (@Q8_)))))) (And.intro (And.intro (And.intro (And.intro (@Jt_) (@Wu_)) (And.intro (@JD_) (And.intro (@Jy_) (@WL_)))) (And.intro (And.intro (@abg_) (@acD_)) (And.intro (@aa2_) (And.intro (@adc_) (@afe_))))) (And.intro (And.intro (And.intro (@acx_) (@acw_)) (And.intro (@abI_) (And.intro (@ab2_) (@abm_)))) (And.intro (And.intro (@aa6_) (And.intro (@aa8_) (@aa5_))) (And.intro (@add_) (And.intro (@aeH_) (@V2_))))))) (And.intro (And.intro (And.intro (And.intro (And.intro (@Qx_) (@ade_)) (And.intro (@XR_) (And.intro (@XT_) (@w4_)))) (And.intro (And.intro (@Zg_) (@X8_)) (And.intro (@X2_) (And.intro (@ac2_) (@Jh_))))) (And.intro (And.intro (And.intro (@JH_) (@Wk_)) (And.intro (@J9_) (And.intro (@Xa_) (@V7_)))) (And.intro (And.intro (@Xc_) (And.intro (@JV_) (@We_))) (And.intro (@abJ_) (And.intro (@aa4_) (@acq_)))))) (And.intro (And.intro (And.intro (And.intro (@abO_) (@ae3_)) (And.intro (@act_) (And.intro (@acG_) (@abM_)))) (And.intro (And.intro (@abZ_) (@abP_)) (And.intro (@acf_) (And.intro (@abQ_) (@acm_))))) (And.intro (And.intro (And.intro (@acQ_) (@aej_)) (And.intro (@WY_) (And.intro (@Qh_) (@ada_)))) (And.intro (And.intro (@XE_) (And.intro (@XP_) (@Zc_))) (And.intro (@Zs_) (And.intro (@XX_) (@Xo_))))))))) (And.intro (And.intro (And.intro (And.intro (And.intro (And.intro (And.intro (@acF_) (@JK_)) (And.intro (@JM_) (And.intro (@Wp_) (@Xi_)))) (And.intro (And.intro (@Jz_) (@W5_)) (And.intro (@Xh_) (And.intro (@Jm_) (@Wm_))))) (And.intro (And.intro (And.intro (@afS_) (@agD_)) (And.intro (@Wr_) (And.intro (@agl_) (@ahU_)))) (And.intro (And.intro (@ahs_) (And.intro (@ahA_) (@agA_))) (And.intro (@agd_) (And.intro (@agS_) (@agw_)))))) (And.intro (And.intro (And.intro (And.intro (@ajl_) (@amQ_)) (And.intro (@aaj_) (And.intro (@ahW_) (@ag1_)))) (And.intro (And.intro (@ag0_) (@af8_)) (And.intro (@aij_) (And.intro (@ah3_) (@ag8_))))) (And.intro (And.intro (And.intro (@alx_) (@aib_)) (And.intro (@al0_) (And.intro (@aaP_) (@VZ_)))) (And.intro (And.intro (@ww_) (And.intro (@amT_) (@am5_))) (And.intro (@ajv_) (And.intro (@aez_) (@ab7_))))))) (And.intro (And.intro (And.intro (And.intro (And.intro (@abv_) (@ac8_)) (And.intro (@ae7_) (And.intro (@alP_) (@alX_)))) (And.intro (And.intro (@aii_) (@aa0_)) (And.intro (@aac_) (And.intro (@aai_) (@W2_))))) (And.intro (And.intro (And.intro (@adb_) (@alS_)) (And.intro (@al5_) (And.intro (@ah0_) (@ach_)))) (And.intro (And.intro (@WA_) (And.intro (@WW_) (@Wv_))) (And.intro (@acX_) (And.intro (@alc_) (@al7_)))))) (And.intro (And.intro (And.intro (And.intro (@ahD_) (@aaU_)) (And.intro (@WU_) (And.intro (@WN_) (@WH_)))) (And.intro (And.intro (@acu_) (@amP_)) (And.intro (@anc_) (And.intro (@aiY_) (@aeB_))))) (And.intro (And.intro (And.intro (@abk_) (@abL_)) (And.intro (@ab6_) (And.intro (@aeu_) (@aka_)))) (And.intro (And.intro (@ai3_) (And.intro (@Vq_) (@ak4_))) (And.intro (@acK_) (And.intro (@K2_) (@qn_)))))))) (And.intro (And.intro (And.intro (And.intro (And.intro (And.intro (@an2_) (@alG_)) (And.intro (@amV_) (And.intro (@amX_) (@KY_)))) (And.intro (And.intro (@X1_) (@zH_)) (And.intro (@zY_) (And.intro (@qt_) (@z6_))))) (And.intro (And.intro (And.intro (@zV_) (@zx_)) (And.intro (@QU_) (And.intro (@ajU_) (@afC_)))) (And.intro (And.intro (@ai4_) (And.intro (@ZJ_) (@aes_))) (And.intro (@xv_) (And.intro (@afm_) (@abN_)))))) (And.intro (And.intro (And.intro (And.intro (@aiD_) (@agi_)) (And.intro (@kv_) (And.intro (@aiJ_) (@ahV_)))) (And.intro (And.intro (@ahb_) (@amB_)) (And.intro (@amC_) (And.intro (@Option.map_some.{0,0}) (@Option.map_none.{0,0}))))) (And.intro (And.intro (And.intro (@Va_) (@KQ_)) (And.intro (@ZT_) (And.intro (@ad5_) (@Vr_)))) (And.intro (And.intro (@VO_) (And.intro (@KV_) (@ajO_))) (And.intro (@ajH_) (And.intro (@or_i) (@aon_))))))) (And.intro (And.intro (And.intro (And.intro (And.intro (@KP_) (@Vs_)) (And.intro (@XH_) (And.intro (@ze_) (@List.cons_append.{0})))) (And.intro (And.intro (@List.nil_append.{0}) (@List.contains_cons.{0})) (And.intro (@List.contains_nil.{0}) (And.intro (@Bool.or_false) (@Bool.false_or))))) (And.intro (And.intro (And.intro (@Bool.or_true) (@Bool.true_or)) (And.intro (@Bool.false_eq_true) (And.intro (@w5_) (@wc_)))) (And.intro (And.intro (@Kn_) (And.intro (@QW_) (@agM_))) (And.intro (@Nat.add_sub_cancel_left) (And.intro (@List.set_set.{0}) (@Int.toNat_natCast)))))) (And.intro (And.intro (And.intro (And.intro (@Nat.mul_one) (@Nat.zero_add)) (And.intro (@Nat.add_zero) (And.intro (@ge_iff_le.{0}) (@gt_iff_lt.{0})))) (And.intro (And.intro (@beq_self_eq_true.{0}) (@an1_)) (And.intro (@anY_) (And.intro (@ajG_) (@aj4_))))) (And.intro (And.intro (And.intro (@anb_) (@anr_)) (And.intro (@ani_) (And.intro (@am0_) (@an4_)))) (And.intro (And.intro (@anW_) (And.intro (@ak8_) (@aml_))) (And.intro (@amJ_) (And.intro (@alz_) (@alC_)))))))))
end Go.Sx
end
section
open Go Go.Proofs Go.Sx
namespace Go.Proofs
theorem Tryz.ix22:ixT Tryz.prog 22= .sl (true,2):=id (by kernel_rfl)
theorem Tryz.ix30:ixT Tryz.prog 30= .sl (true,32):=id (by kernel_rfl)
theorem Tryz.ix44:ixT Tryz.prog 44= .sl (true,33):=id (by kernel_rfl)
theorem Tryz.ix65:ixT Tryz.prog 65= .sl (false,1):=id (by kernel_rfl)
theorem Tryz.ix71:ixT Tryz.prog 71= .sl (true,33):=id (by kernel_rfl)
theorem Tryz.ix81:ixT Tryz.prog 81= .sl (true,37):=id (by kernel_rfl)
theorem Tryz.ix94:ixT Tryz.prog 94= .sl (true,3):=id (by kernel_rfl)
theorem Tryz.ix122:ixT Tryz.prog 122= .sl (true,34):=id (by kernel_rfl)
theorem Tryz.ix9:ixT Tryz.prog 9= .str:=id (by kernel_rfl)
theorem Tryz.ix24:ixT Tryz.prog 24= .arr 32 (false,1):=id (by kernel_rfl)
theorem Tryz.ix170:ixT Tryz.prog 170= .arr 3 (false,1):=id (by kernel_rfl)
theorem Tryz.ix172:ixT Tryz.prog 172= .sl (false,1):=id (by kernel_rfl)
theorem Tryz.ix179:ixT Tryz.prog 179= .sl (false,1):=id (by kernel_rfl)
theorem Tryz.ix191:ixT Tryz.prog 191= .sl (true,2):=id (by kernel_rfl)
theorem Tryz.ix196:ixT Tryz.prog 196= .arr 3 (true,3):=id (by kernel_rfl)
theorem Tryz.ix193:ixT Tryz.prog 193= .sl (true,4):=id (by kernel_rfl)
theorem Tryz.ix192:ixT Tryz.prog 192= .sl (true,2):=id (by kernel_rfl)
theorem Tryz.ix302:ixT Tryz.prog 302= .sl (false,1):=id (by kernel_rfl)
theorem Tryz.ix251:ixT Tryz.prog 251= .arr 8 (false,1):=id (by kernel_rfl)
theorem Tryz.ix262:ixT Tryz.prog 262= .arr 4 (false,1):=id (by kernel_rfl)
theorem Tryz.ix306:ixT Tryz.prog 306= .arr 8 (false,1):=id (by kernel_rfl)
theorem Tryz.ix307:ixT Tryz.prog 307= .arr 64 (false,1):=id (by kernel_rfl)
theorem Tryz.ix162:ixT Tryz.prog 162= .no:=id (by kernel_rfl)
theorem Tryz.ix232:ixT Tryz.prog 232= .sl (false,1):=id (by kernel_rfl)
theorem Tryz.ix346:ixT Tryz.prog 346= .arr 4 (false,1):=id (by kernel_rfl)
theorem Tryz.ix348:ixT Tryz.prog 348= .arr 6 (false,1):=id (by kernel_rfl)
theorem Tryz.ix362:ixT Tryz.prog 362= .sl (true,3):=id (by kernel_rfl)
theorem Tryz.ix295:ixT Tryz.prog 295= .arr 64 (false,1):=id (by kernel_rfl)
theorem Tryz.ix414:ixT Tryz.prog 414= .arr 16 (false,1):=id (by kernel_rfl)
theorem Tryz.ix408:ixT Tryz.prog 408= .sl (true,2):=id (by kernel_rfl)
theorem Tryz.ag24:zU_ Tryz.prog 24=some (true,32):=id (by kernel_rfl)
theorem Tryz.ag32:zU_ Tryz.prog 32=some (true,2):=id (by kernel_rfl)
theorem Tryz.ag35:zU_ Tryz.prog 35=some (true,2):=id (by kernel_rfl)
theorem Tryz.ag46:zU_ Tryz.prog 46=some (true,7):=id (by kernel_rfl)
theorem Tryz.ag30:zU_ Tryz.prog 30=some (false,1):=id (by kernel_rfl)
theorem Tryz.ag3:zU_ Tryz.prog 3=some (false,1):=id (by kernel_rfl)
theorem Tryz.ag67:zU_ Tryz.prog 67=some (true,37):=id (by kernel_rfl)
theorem Tryz.ag73:zU_ Tryz.prog 73=some (true,2):=id (by kernel_rfl)
theorem Tryz.ag9:zU_ Tryz.prog 9=some (false,1):=id (by kernel_rfl)
theorem Tryz.ag71:zU_ Tryz.prog 71=some (false,1):=id (by kernel_rfl)
theorem Tryz.ag65:zU_ Tryz.prog 65=some (false,1):=id (by kernel_rfl)
theorem Tryz.ag117:zU_ Tryz.prog 117=some (true,34):=id (by kernel_rfl)
theorem Tryz.ag121:zU_ Tryz.prog 121=some (true,1):=id (by kernel_rfl)
theorem Tryz.ag119:zU_ Tryz.prog 119=some (false,1):=id (by kernel_rfl)
theorem Tryz.ag22:zU_ Tryz.prog 22=some (false,1):=id (by kernel_rfl)
theorem Tryz.ag126:zU_ Tryz.prog 126=some (true,34):=id (by kernel_rfl)
theorem Tryz.ag133:zU_ Tryz.prog 133=some (true,5):=id (by kernel_rfl)
theorem Tryz.ag44:zU_ Tryz.prog 44=some (false,1):=id (by kernel_rfl)
theorem Tryz.ag59:zU_ Tryz.prog 59=some (true,33):=id (by kernel_rfl)
theorem Tryz.ag130:zU_ Tryz.prog 130=some (false,1):=id (by kernel_rfl)
theorem Tryz.ag131:zU_ Tryz.prog 131=some (false,1):=id (by kernel_rfl)
theorem Tryz.ag122:zU_ Tryz.prog 122=some (false,1):=id (by kernel_rfl)
theorem Tryz.ag41:zU_ Tryz.prog 41=some (false,1):=id (by kernel_rfl)
theorem Tryz.ag28:zU_ Tryz.prog 28=some (false,1):=id (by kernel_rfl)
theorem Tryz.ag82:zU_ Tryz.prog 82=some (false,1):=id (by kernel_rfl)
theorem Tryz.ag4:zU_ Tryz.prog 4=some (false,1):=id (by kernel_rfl)
theorem Tryz.ag5:zU_ Tryz.prog 5=some (false,1):=id (by kernel_rfl)
theorem Tryz.ag170:zU_ Tryz.prog 170=some (true,3):=id (by kernel_rfl)
theorem Tryz.ag166:zU_ Tryz.prog 166=some (false,1):=id (by kernel_rfl)
theorem Tryz.ag172:zU_ Tryz.prog 172=some (false,1):=id (by kernel_rfl)
theorem Tryz.ag176:zU_ Tryz.prog 176=some (false,1):=id (by kernel_rfl)
theorem Tryz.ag173:zU_ Tryz.prog 173=some (false,1):=id (by kernel_rfl)
theorem Tryz.ag151:zU_ Tryz.prog 151=some (true,4):=id (by kernel_rfl)
theorem Tryz.ag149:zU_ Tryz.prog 149=some (true,33):=id (by kernel_rfl)
theorem Tryz.ag187:zU_ Tryz.prog 187=some (true,3):=id (by kernel_rfl)
theorem Tryz.ag182:zU_ Tryz.prog 182=some (true,2):=id (by kernel_rfl)
theorem Tryz.ag191:zU_ Tryz.prog 191=some (false,1):=id (by kernel_rfl)
theorem Tryz.ag200:zU_ Tryz.prog 200=some (true,2):=id (by kernel_rfl)
theorem Tryz.ag192:zU_ Tryz.prog 192=some (false,1):=id (by kernel_rfl)
theorem Tryz.ag203:zU_ Tryz.prog 203=some (true,2):=id (by kernel_rfl)
theorem Tryz.ag108:zU_ Tryz.prog 108=some (true,4):=id (by kernel_rfl)
theorem Tryz.ag97:zU_ Tryz.prog 97=some (false,1):=id (by kernel_rfl)
theorem Tryz.ag169:zU_ Tryz.prog 169=some (false,1):=id (by kernel_rfl)
theorem Tryz.ag193:zU_ Tryz.prog 193=some (false,1):=id (by kernel_rfl)
theorem Tryz.ag219:zU_ Tryz.prog 219=some (true,4):=id (by kernel_rfl)
theorem Tryz.ag236:zU_ Tryz.prog 236=some (true,2):=id (by kernel_rfl)
theorem Tryz.ag243:zU_ Tryz.prog 243=some (true,3):=id (by kernel_rfl)
theorem Tryz.ag251:zU_ Tryz.prog 251=some (true,8):=id (by kernel_rfl)
theorem Tryz.ag250:zU_ Tryz.prog 250=some (false,1):=id (by kernel_rfl)
theorem Tryz.ag262:zU_ Tryz.prog 262=some (true,4):=id (by kernel_rfl)
theorem Tryz.ag142:zU_ Tryz.prog 142=some (true,36):=id (by kernel_rfl)
theorem Tryz.ag261:zU_ Tryz.prog 261=some (false,1):=id (by kernel_rfl)
theorem Tryz.ag168:zU_ Tryz.prog 168=some (true,5):=id (by kernel_rfl)
theorem Tryz.ag175:zU_ Tryz.prog 175=some (true,3):=id (by kernel_rfl)
theorem Tryz.ag198:zU_ Tryz.prog 198=some (true,13):=id (by kernel_rfl)
theorem Tryz.ag298:zU_ Tryz.prog 298=some (true,75):=id (by kernel_rfl)
theorem Tryz.ag306:zU_ Tryz.prog 306=some (true,8):=id (by kernel_rfl)
theorem Tryz.ag307:zU_ Tryz.prog 307=some (true,64):=id (by kernel_rfl)
theorem Tryz.ag140:zU_ Tryz.prog 140=some (false,1):=id (by kernel_rfl)
theorem Tryz.ag314:zU_ Tryz.prog 314=some (true,3):=id (by kernel_rfl)
theorem Tryz.ag321:zU_ Tryz.prog 321=some (true,7):=id (by kernel_rfl)
theorem Tryz.ag336:zU_ Tryz.prog 336=some (true,5):=id (by kernel_rfl)
theorem Tryz.ag302:zU_ Tryz.prog 302=some (false,1):=id (by kernel_rfl)
theorem Tryz.ag296:zU_ Tryz.prog 296=some (false,1):=id (by kernel_rfl)
theorem Tryz.ag232:zU_ Tryz.prog 232=some (false,1):=id (by kernel_rfl)
theorem Tryz.ag76:zU_ Tryz.prog 76=some (false,1):=id (by kernel_rfl)
theorem Tryz.ag346:zU_ Tryz.prog 346=some (true,4):=id (by kernel_rfl)
theorem Tryz.ag348:zU_ Tryz.prog 348=some (true,6):=id (by kernel_rfl)
theorem Tryz.ag347:zU_ Tryz.prog 347=some (false,1):=id (by kernel_rfl)
theorem Tryz.ag231:zU_ Tryz.prog 231=some (false,1):=id (by kernel_rfl)
theorem Tryz.ag382:zU_ Tryz.prog 382=some (false,1):=id (by kernel_rfl)
theorem Tryz.ag179:zU_ Tryz.prog 179=some (false,1):=id (by kernel_rfl)
theorem Tryz.ag395:zU_ Tryz.prog 395=some (true,3):=id (by kernel_rfl)
theorem Tryz.ag418:zU_ Tryz.prog 418=some (true,2):=id (by kernel_rfl)
theorem Tryz.ag416:zU_ Tryz.prog 416=some (false,1):=id (by kernel_rfl)
theorem Tryz.ag178:zU_ Tryz.prog 178=some (false,1):=id (by kernel_rfl)
theorem Tryz.ag414:zU_ Tryz.prog 414=some (true,16):=id (by kernel_rfl)
theorem Tryz.zr24:z8_ Tryz.prog 24=some (.agg (a8 (List.replicate 32 0))):=id (by kernel_rfl)
theorem Tryz.zr251:z8_ Tryz.prog 251=some (.agg (a32 (List.replicate 8 0))):=id (by kernel_rfl)
theorem Tryz.zr306:z8_ Tryz.prog 306=some (.agg (a8 (List.replicate 8 0))):=id (by kernel_rfl)
theorem Tryz.zr307:z8_ Tryz.prog 307=some (.agg (a32 (List.replicate 64 0))):=id (by kernel_rfl)
theorem Tryz.zr5:z8_ Tryz.prog 5=some (v8 0):=id (by kernel_rfl)
theorem Tryz.fl46_4:qj_ Tryz.prog 46 4=some (5,(false,1)):=id (by kernel_rfl)
theorem Tryz.fl46_5:qj_ Tryz.prog 46 5=some (6,(false,1)):=id (by kernel_rfl)
theorem Tryz.fl59_0:qj_ Tryz.prog 59 0=some (0,(true,32)):=id (by kernel_rfl)
theorem Tryz.fl35_0:qj_ Tryz.prog 35 0=some (0,(false,1)):=id (by kernel_rfl)
theorem Tryz.fl59_1:qj_ Tryz.prog 59 1=some (32,(false,1)):=id (by kernel_rfl)
theorem Tryz.fl67_2:qj_ Tryz.prog 67 2=some (2,(false,1)):=id (by kernel_rfl)
theorem Tryz.fl67_3:qj_ Tryz.prog 67 3=some (3,(true,32)):=id (by kernel_rfl)
theorem Tryz.fl67_1:qj_ Tryz.prog 67 1=some (1,(false,1)):=id (by kernel_rfl)
theorem Tryz.fl67_0:qj_ Tryz.prog 67 0=some (0,(false,1)):=id (by kernel_rfl)
theorem Tryz.fl73_1:qj_ Tryz.prog 73 1=some (1,(false,1)):=id (by kernel_rfl)
theorem Tryz.fl73_0:qj_ Tryz.prog 73 0=some (0,(false,1)):=id (by kernel_rfl)
theorem Tryz.fl67_5:qj_ Tryz.prog 67 5=some (36,(false,1)):=id (by kernel_rfl)
theorem Tryz.fl108_1:qj_ Tryz.prog 108 1=some (1,(true,2)):=id (by kernel_rfl)
theorem Tryz.fl108_2:qj_ Tryz.prog 108 2=some (3,(false,1)):=id (by kernel_rfl)
theorem Tryz.fl35_1:qj_ Tryz.prog 35 1=some (1,(false,1)):=id (by kernel_rfl)
theorem Tryz.fl121_0:qj_ Tryz.prog 121 0=some (0,(false,1)):=id (by kernel_rfl)
theorem Tryz.fl32_0:qj_ Tryz.prog 32 0=some (0,(false,1)):=id (by kernel_rfl)
theorem Tryz.fl32_1:qj_ Tryz.prog 32 1=some (1,(false,1)):=id (by kernel_rfl)
theorem Tryz.fl46_1:qj_ Tryz.prog 46 1=some (2,(false,1)):=id (by kernel_rfl)
theorem Tryz.fl133_1:qj_ Tryz.prog 133 1=some (1,(false,1)):=id (by kernel_rfl)
theorem Tryz.fl133_2:qj_ Tryz.prog 133 2=some (2,(false,1)):=id (by kernel_rfl)
theorem Tryz.fl46_2:qj_ Tryz.prog 46 2=some (3,(false,1)):=id (by kernel_rfl)
theorem Tryz.fl46_0:qj_ Tryz.prog 46 0=some (0,(true,2)):=id (by kernel_rfl)
theorem Tryz.fl46_3:qj_ Tryz.prog 46 3=some (4,(false,1)):=id (by kernel_rfl)
theorem Tryz.fl133_3:qj_ Tryz.prog 133 3=some (3,(false,1)):=id (by kernel_rfl)
theorem Tryz.fl133_4:qj_ Tryz.prog 133 4=some (4,(false,1)):=id (by kernel_rfl)
theorem Tryz.fl142_1:qj_ Tryz.prog 142 1=some (1,(false,1)):=id (by kernel_rfl)
theorem Tryz.fl117_2:qj_ Tryz.prog 117 2=some (2,(true,32)):=id (by kernel_rfl)
theorem Tryz.fl117_1:qj_ Tryz.prog 117 1=some (1,(false,1)):=id (by kernel_rfl)
theorem Tryz.fl142_2:qj_ Tryz.prog 142 2=some (2,(true,34)):=id (by kernel_rfl)
theorem Tryz.fl126_0:qj_ Tryz.prog 126 0=some (0,(true,32)):=id (by kernel_rfl)
theorem Tryz.fl126_1:qj_ Tryz.prog 126 1=some (32,(false,1)):=id (by kernel_rfl)
theorem Tryz.fl133_0:qj_ Tryz.prog 133 0=some (0,(false,1)):=id (by kernel_rfl)
theorem Tryz.fl151_1:qj_ Tryz.prog 151 1=some (1,(true,2)):=id (by kernel_rfl)
theorem Tryz.fl151_0:qj_ Tryz.prog 151 0=some (0,(false,1)):=id (by kernel_rfl)
theorem Tryz.fl151_2:qj_ Tryz.prog 151 2=some (3,(false,1)):=id (by kernel_rfl)
theorem Tryz.fl168_2:qj_ Tryz.prog 168 2=some (2,(false,1)):=id (by kernel_rfl)
theorem Tryz.fl168_3:qj_ Tryz.prog 168 3=some (3,(false,1)):=id (by kernel_rfl)
theorem Tryz.fl67_4:qj_ Tryz.prog 67 4=some (35,(false,1)):=id (by kernel_rfl)
theorem Tryz.fl168_0:qj_ Tryz.prog 168 0=some (0,(false,1)):=id (by kernel_rfl)
theorem Tryz.fl175_2:qj_ Tryz.prog 175 2=some (2,(false,1)):=id (by kernel_rfl)
theorem Tryz.fl175_1:qj_ Tryz.prog 175 1=some (1,(false,1)):=id (by kernel_rfl)
theorem Tryz.fl175_0:qj_ Tryz.prog 175 0=some (0,(false,1)):=id (by kernel_rfl)
theorem Tryz.fl168_4:qj_ Tryz.prog 168 4=some (4,(false,1)):=id (by kernel_rfl)
theorem Tryz.fl182_0:qj_ Tryz.prog 182 0=some (0,(false,1)):=id (by kernel_rfl)
theorem Tryz.fl182_1:qj_ Tryz.prog 182 1=some (1,(false,1)):=id (by kernel_rfl)
theorem Tryz.fl187_2:qj_ Tryz.prog 187 2=some (2,(false,1)):=id (by kernel_rfl)
theorem Tryz.fl187_1:qj_ Tryz.prog 187 1=some (1,(false,1)):=id (by kernel_rfl)
theorem Tryz.fl187_0:qj_ Tryz.prog 187 0=some (0,(false,1)):=id (by kernel_rfl)
theorem Tryz.fl198_1:qj_ Tryz.prog 198 1=some (9,(false,1)):=id (by kernel_rfl)
theorem Tryz.fl198_0:qj_ Tryz.prog 198 0=some (0,(true,9)):=id (by kernel_rfl)
theorem Tryz.fl195_0:qj_ Tryz.prog 195 0=some (0,(false,1)):=id (by kernel_rfl)
theorem Tryz.fl195_1:qj_ Tryz.prog 195 1=some (1,(false,1)):=id (by kernel_rfl)
theorem Tryz.fl108_0:qj_ Tryz.prog 108 0=some (0,(false,1)):=id (by kernel_rfl)
theorem Tryz.fl198_3:qj_ Tryz.prog 198 3=some (11,(false,1)):=id (by kernel_rfl)
theorem Tryz.fl195_2:qj_ Tryz.prog 195 2=some (2,(false,1)):=id (by kernel_rfl)
theorem Tryz.fl198_4:qj_ Tryz.prog 198 4=some (12,(false,1)):=id (by kernel_rfl)
theorem Tryz.fl203_1:qj_ Tryz.prog 203 1=some (1,(false,1)):=id (by kernel_rfl)
theorem Tryz.fl200_0:qj_ Tryz.prog 200 0=some (0,(false,1)):=id (by kernel_rfl)
theorem Tryz.fl200_1:qj_ Tryz.prog 200 1=some (1,(false,1)):=id (by kernel_rfl)
theorem Tryz.fl203_0:qj_ Tryz.prog 203 0=some (0,(false,1)):=id (by kernel_rfl)
theorem Tryz.fl117_0:qj_ Tryz.prog 117 0=some (0,(false,1)):=id (by kernel_rfl)
theorem Tryz.fl243_2:qj_ Tryz.prog 243 2=some (2,(false,1)):=id (by kernel_rfl)
theorem Tryz.fl243_1:qj_ Tryz.prog 243 1=some (1,(false,1)):=id (by kernel_rfl)
theorem Tryz.fl126_2:qj_ Tryz.prog 126 2=some (33,(false,1)):=id (by kernel_rfl)
theorem Tryz.fl168_1:qj_ Tryz.prog 168 1=some (1,(false,1)):=id (by kernel_rfl)
theorem Tryz.fl149_0:qj_ Tryz.prog 149 0=some (0,(false,1)):=id (by kernel_rfl)
theorem Tryz.fl149_1:qj_ Tryz.prog 149 1=some (1,(true,32)):=id (by kernel_rfl)
theorem Tryz.fl198_2:qj_ Tryz.prog 198 2=some (10,(false,1)):=id (by kernel_rfl)
theorem Tryz.fl219_0:qj_ Tryz.prog 219 0=some (0,(false,1)):=id (by kernel_rfl)
theorem Tryz.fl219_3:qj_ Tryz.prog 219 3=some (3,(false,1)):=id (by kernel_rfl)
theorem Tryz.fl219_1:qj_ Tryz.prog 219 1=some (1,(false,1)):=id (by kernel_rfl)
theorem Tryz.fl219_2:qj_ Tryz.prog 219 2=some (2,(false,1)):=id (by kernel_rfl)
theorem Tryz.fl236_0:qj_ Tryz.prog 236 0=some (0,(true,2)):=id (by kernel_rfl)
theorem Tryz.fl243_0:qj_ Tryz.prog 243 0=some (0,(false,1)):=id (by kernel_rfl)
theorem Tryz.fl142_0:qj_ Tryz.prog 142 0=some (0,(false,1)):=id (by kernel_rfl)
theorem Tryz.fl314_1:qj_ Tryz.prog 314 1=some (1,(false,1)):=id (by kernel_rfl)
theorem Tryz.fl314_0:qj_ Tryz.prog 314 0=some (0,(false,1)):=id (by kernel_rfl)
theorem Tryz.fl336_3:qj_ Tryz.prog 336 3=some (3,(false,1)):=id (by kernel_rfl)
theorem Tryz.fl298_4:qj_ Tryz.prog 298 4=some (74,(false,1)):=id (by kernel_rfl)
theorem Tryz.fl298_3:qj_ Tryz.prog 298 3=some (73,(false,1)):=id (by kernel_rfl)
theorem Tryz.fl298_1:qj_ Tryz.prog 298 1=some (1,(true,8)):=id (by kernel_rfl)
theorem Tryz.fl234_1:qj_ Tryz.prog 234 1=some (1,(false,1)):=id (by kernel_rfl)
theorem Tryz.fl314_2:qj_ Tryz.prog 314 2=some (2,(false,1)):=id (by kernel_rfl)
theorem Tryz.fl321_4:qj_ Tryz.prog 321 4=some (4,(false,1)):=id (by kernel_rfl)
theorem Tryz.fl321_3:qj_ Tryz.prog 321 3=some (3,(false,1)):=id (by kernel_rfl)
theorem Tryz.fl321_6:qj_ Tryz.prog 321 6=some (6,(false,1)):=id (by kernel_rfl)
theorem Tryz.fl321_5:qj_ Tryz.prog 321 5=some (5,(false,1)):=id (by kernel_rfl)
theorem Tryz.fl321_0:qj_ Tryz.prog 321 0=some (0,(false,1)):=id (by kernel_rfl)
theorem Tryz.fl321_1:qj_ Tryz.prog 321 1=some (1,(false,1)):=id (by kernel_rfl)
theorem Tryz.fl336_1:qj_ Tryz.prog 336 1=some (1,(false,1)):=id (by kernel_rfl)
theorem Tryz.fl336_0:qj_ Tryz.prog 336 0=some (0,(false,1)):=id (by kernel_rfl)
theorem Tryz.fl336_4:qj_ Tryz.prog 336 4=some (4,(false,1)):=id (by kernel_rfl)
theorem Tryz.fl336_2:qj_ Tryz.prog 336 2=some (2,(false,1)):=id (by kernel_rfl)
theorem Tryz.fl298_0:qj_ Tryz.prog 298 0=some (0,(false,1)):=id (by kernel_rfl)
theorem Tryz.fl298_2:qj_ Tryz.prog 298 2=some (9,(true,64)):=id (by kernel_rfl)
theorem Tryz.fl234_0:qj_ Tryz.prog 234 0=some (0,(false,1)):=id (by kernel_rfl)
theorem Tryz.fl395_0:qj_ Tryz.prog 395 0=some (0,(false,1)):=id (by kernel_rfl)
theorem Tryz.fl395_1:qj_ Tryz.prog 395 1=some (1,(false,1)):=id (by kernel_rfl)
theorem Tryz.fl395_2:qj_ Tryz.prog 395 2=some (2,(false,1)):=id (by kernel_rfl)
theorem Tryz.fl321_2:qj_ Tryz.prog 321 2=some (2,(false,1)):=id (by kernel_rfl)
theorem Tryz.fl418_0:qj_ Tryz.prog 418 0=some (0,(false,1)):=id (by kernel_rfl)
theorem Tryz.fl418_1:qj_ Tryz.prog 418 1=some (1,(false,1)):=id (by kernel_rfl)
theorem Tryz.cv5_3:cvT Tryz.prog 5 3= .int .i64:=id (by kernel_rfl)
theorem Tryz.cv169_3:cvT Tryz.prog 169 3= .int .i64:=id (by kernel_rfl)
theorem Tryz.cv3_253:cvT Tryz.prog 3 253= .int .u64:=id (by kernel_rfl)
theorem Tryz.cv250_5:cvT Tryz.prog 250 5= .int .u8:=id (by kernel_rfl)
theorem Tryz.cv3_5:cvT Tryz.prog 3 5= .int .u8:=id (by kernel_rfl)
theorem Tryz.cv232_9:cvT Tryz.prog 232 9= .bytesStr:=id (by kernel_rfl)
theorem Tryz.cv3_296:cvT Tryz.prog 3 296= .int .u64:=id (by kernel_rfl)
theorem Tryz.cv296_5:cvT Tryz.prog 296 5= .int .u8:=id (by kernel_rfl)
theorem Tryz.cv5_250:cvT Tryz.prog 5 250= .int .u32:=id (by kernel_rfl)
theorem Tryz.cv253_250:cvT Tryz.prog 253 250= .int .u32:=id (by kernel_rfl)
theorem Tryz.cv231_371:cvT Tryz.prog 231 371= .no:=id (by kernel_rfl)
theorem Tryz.cv371_231:cvT Tryz.prog 371 231= .no:=id (by kernel_rfl)
theorem Tryz.cv3_382:cvT Tryz.prog 3 382= .int .u64:=id (by kernel_rfl)
theorem Tryz.cv253_3:cvT Tryz.prog 253 3= .int .i64:=id (by kernel_rfl)
theorem Tryz.cv3_419:cvT Tryz.prog 3 419= .no:=id (by kernel_rfl)
theorem Tryz.cv419_3:cvT Tryz.prog 419 3= .no:=id (by kernel_rfl)
set_option linter.defProp false
def Tryz.fx:=And.intro (And.intro (And.intro (And.intro (And.intro (And.intro (And.intro (@Tryz.ix22) (And.intro (@Tryz.ix30) (@Tryz.ix44))) (And.intro (And.intro (@Tryz.ix65) (@Tryz.ix71)) (And.intro (@Tryz.ix81) (@Tryz.ix94)))) (And.intro (And.intro (@Tryz.ix122) (And.intro (@Tryz.ix9) (@Tryz.ix24))) (And.intro (And.intro (@Tryz.ix170) (@Tryz.ix172)) (And.intro (@Tryz.ix179) (@Tryz.ix191))))) (And.intro (And.intro (And.intro (@Tryz.ix196) (And.intro (@Tryz.ix193) (@Tryz.ix192))) (And.intro (And.intro (@Tryz.ix302) (@Tryz.ix251)) (And.intro (@Tryz.ix262) (@Tryz.ix306)))) (And.intro (And.intro (@Tryz.ix307) (And.intro (@Tryz.ix162) (@Tryz.ix232))) (And.intro (And.intro (@Tryz.ix346) (@Tryz.ix348)) (And.intro (@Tryz.ix362) (@Tryz.ix295)))))) (And.intro (And.intro (And.intro (And.intro (@Tryz.ix414) (And.intro (@Tryz.ix408) (@Tryz.ag24))) (And.intro (And.intro (@Tryz.ag32) (@Tryz.ag35)) (And.intro (@Tryz.ag46) (@Tryz.ag30)))) (And.intro (And.intro (@Tryz.ag3) (And.intro (@Tryz.ag67) (@Tryz.ag73))) (And.intro (And.intro (@Tryz.ag9) (@Tryz.ag71)) (And.intro (@Tryz.ag65) (@Tryz.ag117))))) (And.intro (And.intro (And.intro (@Tryz.ag121) (And.intro (@Tryz.ag119) (@Tryz.ag22))) (And.intro (And.intro (@Tryz.ag126) (@Tryz.ag133)) (And.intro (@Tryz.ag44) (@Tryz.ag59)))) (And.intro (And.intro (@Tryz.ag130) (And.intro (@Tryz.ag131) (@Tryz.ag122))) (And.intro (And.intro (@Tryz.ag41) (@Tryz.ag28)) (And.intro (@Tryz.ag82) (@Tryz.ag4))))))) (And.intro (And.intro (And.intro (And.intro (And.intro (@Tryz.ag5) (And.intro (@Tryz.ag170) (@Tryz.ag166))) (And.intro (And.intro (@Tryz.ag172) (@Tryz.ag176)) (And.intro (@Tryz.ag173) (@Tryz.ag151)))) (And.intro (And.intro (@Tryz.ag149) (And.intro (@Tryz.ag187) (@Tryz.ag182))) (And.intro (And.intro (@Tryz.ag191) (@Tryz.ag200)) (And.intro (@Tryz.ag192) (@Tryz.ag203))))) (And.intro (And.intro (And.intro (@Tryz.ag108) (And.intro (@Tryz.ag97) (@Tryz.ag169))) (And.intro (And.intro (@Tryz.ag193) (@Tryz.ag219)) (And.intro (@Tryz.ag236) (@Tryz.ag243)))) (And.intro (And.intro (@Tryz.ag251) (And.intro (@Tryz.ag250) (@Tryz.ag262))) (And.intro (And.intro (@Tryz.ag142) (@Tryz.ag261)) (And.intro (@Tryz.ag168) (@Tryz.ag175)))))) (And.intro (And.intro (And.intro (And.intro (@Tryz.ag198) (And.intro (@Tryz.ag298) (@Tryz.ag306))) (And.intro (And.intro (@Tryz.ag307) (@Tryz.ag140)) (And.intro (@Tryz.ag314) (@Tryz.ag321)))) (And.intro (And.intro (@Tryz.ag336) (And.intro (@Tryz.ag302) (@Tryz.ag296))) (And.intro (And.intro (@Tryz.ag232) (@Tryz.ag76)) (And.intro (@Tryz.ag346) (@Tryz.ag348))))) (And.intro (And.intro (And.intro (@Tryz.ag347) (And.intro (@Tryz.ag231) (@Tryz.ag382))) (And.intro (And.intro (@Tryz.ag179) (@Tryz.ag395)) (And.intro (@Tryz.ag418) (@Tryz.ag416)))) (And.intro (And.intro (And.intro (@Tryz.ag178) (@Tryz.ag414)) (And.intro (@Tryz.fl46_4) (@Tryz.fl46_5))) (And.intro (And.intro (@Tryz.fl59_0) (@Tryz.fl35_0)) (And.intro (@Tryz.fl59_1) (@Tryz.fl67_2)))))))) (And.intro (And.intro (And.intro (And.intro (And.intro (And.intro (@Tryz.fl67_3) (And.intro (@Tryz.fl67_1) (@Tryz.fl67_0))) (And.intro (And.intro (@Tryz.fl73_1) (@Tryz.fl73_0)) (And.intro (@Tryz.fl67_5) (@Tryz.fl108_1)))) (And.intro (And.intro (@Tryz.fl108_2) (And.intro (@Tryz.fl35_1) (@Tryz.fl121_0))) (And.intro (And.intro (@Tryz.fl32_0) (@Tryz.fl32_1)) (And.intro (@Tryz.fl46_1) (@Tryz.fl133_1))))) (And.intro (And.intro (And.intro (@Tryz.fl133_2) (And.intro (@Tryz.fl46_2) (@Tryz.fl46_0))) (And.intro (And.intro (@Tryz.fl46_3) (@Tryz.fl133_3)) (And.intro (@Tryz.fl133_4) (@Tryz.fl142_1)))) (And.intro (And.intro (@Tryz.fl117_2) (And.intro (@Tryz.fl117_1) (@Tryz.fl142_2))) (And.intro (And.intro (@Tryz.fl126_0) (@Tryz.fl126_1)) (And.intro (@Tryz.fl133_0) (@Tryz.fl151_1)))))) (And.intro (And.intro (And.intro (And.intro (@Tryz.fl151_0) (And.intro (@Tryz.fl151_2) (@Tryz.fl168_2))) (And.intro (And.intro (@Tryz.fl168_3) (@Tryz.fl67_4)) (And.intro (@Tryz.fl168_0) (@Tryz.fl175_2)))) (And.intro (And.intro (@Tryz.fl175_1) (And.intro (@Tryz.fl175_0) (@Tryz.fl168_4))) (And.intro (And.intro (@Tryz.fl182_0) (@Tryz.fl182_1)) (And.intro (@Tryz.fl187_2) (@Tryz.fl187_1))))) (And.intro (And.intro (And.intro (@Tryz.fl187_0) (And.intro (@Tryz.fl198_1) (@Tryz.fl198_0))) (And.intro (And.intro (@Tryz.fl195_0) (@Tryz.fl195_1)) (And.intro (@Tryz.fl108_0) (@Tryz.fl198_3)))) (And.intro (And.intro (@Tryz.fl195_2) (And.intro (@Tryz.fl198_4) (@Tryz.fl203_1))) (And.intro (And.intro (@Tryz.fl200_0) (@Tryz.fl200_1)) (And.intro (@Tryz.fl203_0) (@Tryz.fl117_0))))))) (And.intro (And.intro (And.intro (And.intro (And.intro (@Tryz.fl243_2) (And.intro (@Tryz.fl243_1) (@Tryz.fl126_2))) (And.intro (And.intro (@Tryz.fl168_1) (@Tryz.fl149_0)) (And.intro (@Tryz.fl149_1) (@Tryz.fl198_2)))) (And.intro (And.intro (@Tryz.fl219_0) (And.intro (@Tryz.fl219_3) (@Tryz.fl219_1))) (And.intro (And.intro (@Tryz.fl219_2) (@Tryz.fl236_0)) (And.intro (@Tryz.fl243_0) (@Tryz.fl142_0))))) (And.intro (And.intro (And.intro (@Tryz.fl314_1) (And.intro (@Tryz.fl314_0) (@Tryz.fl336_3))) (And.intro (And.intro (@Tryz.fl298_4) (@Tryz.fl298_3)) (And.intro (@Tryz.fl298_1) (@Tryz.fl234_1)))) (And.intro (And.intro (@Tryz.fl314_2) (And.intro (@Tryz.fl321_4) (@Tryz.fl321_3))) (And.intro (And.intro (@Tryz.fl321_6) (@Tryz.fl321_5)) (And.intro (@Tryz.fl321_0) (@Tryz.fl321_1)))))) (And.intro (And.intro (And.intro (And.intro (@Tryz.fl336_1) (And.intro (@Tryz.fl336_0) (@Tryz.fl336_4))) (And.intro (And.intro (@Tryz.fl336_2) (@Tryz.fl298_0)) (And.intro (@Tryz.fl298_2) (@Tryz.fl234_0)))) (And.intro (And.intro (@Tryz.fl395_0) (And.intro (@Tryz.fl395_1) (@Tryz.fl395_2))) (And.intro (And.intro (@Tryz.fl321_2) (@Tryz.fl418_0)) (And.intro (@Tryz.fl418_1) (@Tryz.cv5_3))))) (And.intro (And.intro (And.intro (@Tryz.cv169_3) (And.intro (@Tryz.cv3_253) (@Tryz.cv250_5))) (And.intro (And.intro (@Tryz.cv3_5) (@Tryz.cv232_9)) (And.intro (@Tryz.cv3_296) (@Tryz.cv296_5)))) (And.intro (And.intro (And.intro (@Tryz.cv5_250) (@Tryz.cv253_250)) (And.intro (@Tryz.cv231_371) (@Tryz.cv371_231))) (And.intro (And.intro (@Tryz.cv3_382) (@Tryz.cv253_3)) (And.intro (@Tryz.cv3_419) (@Tryz.cv419_3))))))))
theorem kp {X A G:Prop} (x:X) (h:G) (e:X→A=G:=by intro x;(try simp(disch:=(first|assumption|omega| (simp only[qF_,qC_,UInt64.reduceToNat];try omega))) only[↓Sx.S0,Sx.S1,Tryz.fx,Nat.reduceAdd,Nat.reducePow,Int.reducePow,Nat.reduceBEq, ↓reduceIte,UInt8.reduceToNat,UInt16.reduceToNat,UInt32.reduceToNat,UInt64.reduceToNat,Int.reduceToNat,x]);exact rfl):A:=(e x).mpr h
section
variable {P:Program} {w0:World} {f:Fr} {L:zi_} {K:xQ_} {N:Fr→zi_→Prop} {ops:Array Oper} {md:Md} {l:List Oper} {X G:Prop}
theorem ks {c:Code} (z:List Nat) [Sx.Steps c] (x:X) (h:G) (e:X→vcC P w0 z c f L (bsK K)=G:=by intro x;(try simp(disch:=(first|assumption|omega| (simp only[qF_,qC_,UInt64.reduceToNat];try omega))) only[↓Sx.S0,Sx.S1,Tryz.fx,Nat.reduceAdd,Nat.reducePow,Int.reducePow,Nat.reduceBEq, ↓reduceIte,UInt8.reduceToNat,UInt16.reduceToNat,UInt32.reduceToNat,UInt64.reduceToNat,Int.reduceToNat,x]);exact rfl):Cw P w0 c f L K:=Cw.go z ((e x).mpr h)
theorem ko (x:X) (h:G) (e:X→vcL P w0 ops true md l f L (owk P w0 ops (bsN N))=G:=by intro x;(try simp(disch:=(first|assumption|omega| (simp only[qF_,qC_,UInt64.reduceToNat];try omega))) only[↓Sx.S0,Sx.S1,Tryz.fx,Nat.reduceAdd,Nat.reducePow,Int.reducePow,Nat.reduceBEq, ↓reduceIte,UInt8.reduceToNat,UInt16.reduceToNat,UInt32.reduceToNat,UInt64.reduceToNat,Int.reduceToNat,x]);exact rfl) (he:md.eff=true:=by rfl):Ow P w0 ops md l f L N:=Ow.go he ((e x).mpr h)
theorem kq (x:X) (h:G) (e:X→vcL P w0 ops false md l f L (owk P w0 ops (bsN N))=G:=by intro x;(try simp(disch:=(first|assumption|omega| (simp only[qF_,qC_,UInt64.reduceToNat];try omega))) only[↓Sx.S0,Sx.S1,Tryz.fx,Nat.reduceAdd,Nat.reducePow,Int.reducePow,Nat.reduceBEq, ↓reduceIte,UInt8.reduceToNat,UInt16.reduceToNat,UInt32.reduceToNat,UInt64.reduceToNat,Int.reduceToNat,x]);exact rfl):Ow P w0 ops md l f L N:=Ow.goQ ((e x).mpr h)
end
theorem ke {α:Type} {X:Prop} {a b:α} (x:X) (e:X→a=b:=by intro x;(try simp(disch:=(first|assumption|omega| (simp only[qF_,qC_,UInt64.reduceToNat];try omega))) only[↓Sx.S0,Sx.S1,Tryz.fx,Nat.reduceAdd,Nat.reducePow,Int.reducePow,Nat.reduceBEq, ↓reduceIte,UInt8.reduceToNat,UInt16.reduceToNat,UInt32.reduceToNat,UInt64.reduceToNat,Int.reduceToNat,x]);exact rfl):a=b:=e x
theorem kn {A G:Prop} (h:G) (e:A=G:=by(try simp(disch:=(first|assumption|omega| (simp only[qF_,qC_,UInt64.reduceToNat];try omega))) only[qt_,z6_,List.cons_append,List.nil_append]);exact rfl):A:=e.mpr h
theorem kf {A G:Prop} (h:G) (e:A=G:=by simp only[List.size_toArray,List.length_cons,List.length_nil,Nat.reduceAdd,Nat.reduceSub,List.replicate_succ,List.replicate_zero,List.cons_append,List.nil_append];exact rfl):A:=e.mpr h
theorem kv {A G:Prop} (h:G) (e:A=G:=by simp only[qL_,pin,zy_,zz_,List.contains_cons,List.contains_nil,Nat.reduceBEq,Bool.or_false,Bool.false_or,Bool.or_true,Bool.true_or,Nat.reduceAdd, ↓reduceIte,Bool.false_eq_true];exact rfl):A:=e.mpr h
set_option maxRecDepth 10000
set_option maxHeartbeats 1000000
set_option linter.unusedSimpArgs false
theorem Jj_ (p v:Value) (E:TypeId) (n:Nat):zA_ (some (false,n)) (some (.cells #[p,v] E (0,0))) 0=some p:=(rfl)
theorem Je_ (p v:Value) (E:TypeId) (n:Nat):zA_ (some (false,n)) (some (.cells #[p,v] E (0,0))) 1=some v:=(rfl)
theorem ai6_ (p v x:Value) (E:TypeId) (hx:Value.oneCell' x=true∧x.cells= #[x]):zs_ (some (false,1)) (some (.cells #[p,v] E (0,0))) 0 x=some (.cells #[x,v] E (0,0)):=by
 simp[zs_,hx,xA_]
theorem adI_ (p v x:Value) (E:TypeId) (hx:Value.oneCell' x=true∧x.cells= #[x]):zs_ (some (false,1)) (some (.cells #[p,v] E (0,0))) 1 x=some (.cells #[p,x] E (0,0)):=by
 simp[zs_,hx,xA_]
theorem Q6_ (p v:Value) (b o:Nat) (E:TypeId):zs_ (some (false,1)) (some (.cells #[p,v] E (0,0))) 0 (vp b o)=some (.cells #[vp b o,v] E (0,0)):=ai6_ _ _ _ _ ⟨rfl,rfl⟩
theorem nilB (b o:Nat):q9_ Tryz.prog .eql 231 (vp b o) (.pointer none)=some (.bool false):=by
 simp[q9_,eqX,qX_,jr_,Tryz.underlying231,vp]
theorem alL_:q9_ Tryz.prog .eql 231 (.pointer none) (.pointer none)=some (.bool true):=by
 simp[q9_,eqX,qX_,jr_,Tryz.underlying231]
set_option linter.defProp false
def wN_:=And.intro (And.intro (@Jj_) (@Je_)) (And.intro (@Q6_) (And.intro (@nilB) (@alL_)))
theorem an3_:liesAt Tryz.prog Tryz.prog.depth 236 ((#[Value.pointer none,Value.pointer none]:Array Value).size / Tryz.prog.cellsOf 236) 0 234 1=true:=id (by kernel_rfl)
theorem aggB:zU_ Tryz.prog 234=some (true,2):=id (by kernel_rfl)
theorem akm_ (x:Value) (w:World): (callFunc 262 #[x]).run Tryz.prog w= .ok (.value x) w:=by kernel_rfl
theorem wt_ (b:Nat) (p v:Value) (w:World) (hp:p= .pointer none∨p=vp b 0) (ho:w.heap[b]? =some (.cells #[p,v] 236 (0,0))):
  Rets Tryz.prog 230 #[vp b 0] w (fun v' D=> ∃o,D= [(b,o)]∧v'= .tuple #[]∧o= .cells #[vp b 0,v] 236 (0,0)):=by
 refine Rets.enterM Tryz.func230 rfl (rs:= []) Tryz.results230 Tryz.ntmps230 ho ?_
 refine kf ?_
 rcases hp with rfl|rfl
 ·first|with_reducible refine ks [] @wN_ ?_|refine kp @wN_ ?_
  refine Ow.toUnsafe rfl rfl (by kernel_rfl) rfl (zg_ (zH_ _ _ _)) (by simp) aggB (by decide) Tryz.underlying231 Tryz.underlying371 ?_
  refine Ow.callExt (v:=vp b 0) rfl rfl (fun w=>akm_ _ w) ?_
  refine Ow.ofUnsafe rfl rfl (by kernel_rfl) rfl (zg_ (zH_ _ _ _)) aggB an3_ Tryz.underlying371 Tryz.underlying231 ?_
  refine ko @wN_ ?_
  first|with_reducible refine ks [] @wN_ ?_|refine kp @wN_ ?_
  refine⟨_,_,_,(ke @wN_),rfl,trivial, ?_⟩
  exact⟨rfl,rfl⟩
 ·first|with_reducible refine ks [2] @wN_ ?_|refine kp @wN_ ?_
  refine Cw.region ?_
  refine Ow.value rfl rfl rfl ?_
  refine Ow.value (v:=vp b 0) rfl rfl (by simp(disch:=(first|assumption|omega| (simp only[qF_,qC_,UInt64.reduceToNat];try omega))) only[↓Sx.S0,Sx.S1,Tryz.fx,wN_,Nat.reduceAdd,Nat.reducePow,Int.reducePow,Nat.reduceBEq, ↓reduceIte,UInt8.reduceToNat,UInt16.reduceToNat,UInt32.reduceToNat,UInt64.reduceToNat,Int.reduceToNat,x7_]) ?_
  refine Ow.value (v:=vp b 0) rfl rfl (by simp(disch:=(first|assumption|omega| (simp only[qF_,qC_,UInt64.reduceToNat];try omega))) only[↓Sx.S0,Sx.S1,Tryz.fx,wN_,Nat.reduceAdd,Nat.reducePow,Int.reducePow,Nat.reduceBEq, ↓reduceIte,UInt8.reduceToNat,UInt16.reduceToNat,UInt32.reduceToNat,UInt64.reduceToNat,Int.reduceToNat,x7_]) ?_
  refine Ow.value (v:=vp b 0) rfl rfl (by simp(disch:=(first|assumption|omega| (simp only[qF_,qC_,UInt64.reduceToNat];try omega))) only[↓Sx.S0,Sx.S1,Tryz.fx,wN_,Nat.reduceAdd,Nat.reducePow,Int.reducePow,Nat.reduceBEq, ↓reduceIte,UInt8.reduceToNat,UInt16.reduceToNat,UInt32.reduceToNat,UInt64.reduceToNat,Int.reduceToNat,x7_]) ?_
  refine Ow.value rfl rfl rfl ?_
  refine Ow.neqSame rfl Tryz.underlying231 aggB rfl rfl ?_
  refine ko @wN_ ?_
  first|with_reducible refine ks [] @wN_ ?_|refine kp @wN_ ?_
  refine⟨_,_,_,(ke @wN_),rfl,trivial, ?_⟩
  exact⟨rfl,rfl⟩
end Go.Proofs
end
section
open Go Go.Proofs Go.Sx
namespace Go.Proofs
set_option maxRecDepth 10000
set_option maxHeartbeats 1000000
set_option linter.unusedSimpArgs false
set_option linter.defProp false
def XU_:=And.intro (And.intro (@Jj_) (@Je_)) (And.intro (@Q6_) (And.intro (@nilB) (@alL_)))
def BldAt (b:Nat) (l:List UInt8) (X:zi_):Prop:=
 ∃p v,Sx.look X b=some (.cells #[p,v] 236 (0,0))∧(p= .pointer none∨p=vp b 0)∧Buf X 5 1 v l.length (l.map v8)∧slB v≠some b
theorem wv_ (b:Nat) (X:zi_) (l:List UInt8) (c:UInt8) (w:World) (hB:BldAt b l X) (hX: ∀p,p∈X→w.heap[p.1]? =some p.2) (hn: (keys X).Nodup) (hl:l.length<34359738368):
  Rets Tryz.prog 191 #[vp b 0,v8 c] w (XS w X (fun v D=>v= .nilIface∧BldAt b (l++ [c]) D)):=by
 obtain⟨p,v,hlk,hp,hb,hsl⟩:=hB
 refine Rets.enterX Tryz.func191 rfl (rs:= [.tmp 4]) Tryz.results191 Tryz.ntmps191 hX hn ?_
 refine kf ?_
 first|with_reducible refine ks [] @XU_ ?_|refine kp @XU_ ?_
 refine Ow.callM rfl rfl Tryz.call230 (zn_ hlk) (fun w' hw'=>wt_ b p v w' hp (hw'.has _ _ (zF_ hlk))) ?_
 have lk1:=qy_ (x:= .cells #[vp b 0,v] 236 (0,0)) hlk
 have rd1:=zg_ (w0:=w) lk1
 have hb1:Buf (setB X b (.cells #[vp b 0,v] 236 (0,0))) 5 1 v l.length (l.map v8):=hb.setO hsl
 have kx:Ext w X (setB X b (.cells #[vp b 0,v] 236 (0,0))):=(Ext.refl w X).setB
 generalize setB X b (.cells #[vp b 0,v] 236 (0,0))=X1 at*
 refine ko @XU_ ?_
 first|with_reducible refine ks [] (And.intro @XU_ @rd1) ?_|refine kp (And.intro @XU_ @rd1) ?_
 refine Ow.buildSlice (e:=5) #[v8 c] rfl rfl (by kernel_rfl) fun b3 hb3 hw3=> ?_
 have lk3:Sx.look (X1++ [(b3, .cells #[v8 c] 5 (0,0))]) b3=some (.cells #[v8 c] 5 (0,0)):=j6_ hb3
 have hb2:Buf (X1++ [(b3, .cells #[v8 c] 5 (0,0))]) 5 1 v l.length (l.map v8):=hb1.app
 refine ko @XU_ ?_
 refine Ow.append (e:=5) _ rfl rfl rfl Tryz.underlying232 Tryz.ag5 (by kernel_rfl) Tryz.zr5 (by kernel_rfl) Tryz.underlying232 (by intro k h;cases h) hb2 (fun w' hw'=>AppX.block (k:=1) (new:= [v8 c]) (zg_ lk3) (by simp) (by simp) rfl hw') (by omega) (fun v2 L2 hB2 hG2 hS2=> ?_)
 have lk2:Sx.look L2 b=some (.cells #[vp b 0,v] 236 (0,0)):=hG2.look b _ hsl (zp_ lk1)
 have st2:zs_ (some (false,1)) (some (.cells #[vp b 0,v] 236 (0,0))) 1 v2=some (.cells #[vp b 0,v2] 236 (0,0)):=adI_ _ _ _ _ hB2.cell
 refine ko (And.intro @XU_ (And.intro @lk2 (And.intro @st2 (@wD_)))) ?_
 first|with_reducible refine ks [] @XU_ ?_|refine kp @XU_ ?_
 refine⟨_,(ke @XU_), ?_⟩
 have ex:=(kx.app (o:= .cells #[v8 c] 5 (0,0)) hw3).grew hG2
 have hs2:slB v2≠some b:=by
  rcases hS2 with h| ⟨c',h,ha⟩
  ·rw[h];exact hsl
  ·rw[h]
   intro e
   cases e
   exact Nat.lt_irrefl _ (zf_ ha (zn_ (zp_ lk1)))
 refine⟨ex.setB,rfl,vp b 0,v2,qy_ lk2, .inr rfl, ?_,hs2⟩
 rw[List.length_append,List.map_append]
 exact hB2.setO hs2
end Go.Proofs
end
section
open Go Go.Proofs Go.Sx
namespace Go.Proofs
set_option maxRecDepth 10000
set_option maxHeartbeats 1000000
set_option linter.unusedSimpArgs false
set_option linter.defProp false
def xL_:=And.intro (And.intro (@Jj_) (@Je_)) (And.intro (@Q6_) (And.intro (@nilB) (@alL_)))
theorem QE_ (b:Nat) (X:zi_) (l s:List UInt8) (w:World) (hB:BldAt b l X) (hX: ∀p,p∈X→w.heap[p.1]? =some p.2) (hn: (keys X).Nodup) (hl:l.length+s.length<34359738368):
  Rets Tryz.prog 208 #[vp b 0,vs s] w (XS w X (fun v D=>v= .tuple #[vi s.length, .nilIface]∧BldAt b (l++s) D)):=by
 obtain⟨p,v,hlk,hp,hb,hsl⟩:=hB
 refine Rets.enterX Tryz.func208 rfl (rs:= [.tmp 4, .tmp 5]) Tryz.results208 Tryz.ntmps208 hX hn ?_
 refine kf ?_
 first|with_reducible refine ks [] @xL_ ?_|refine kp @xL_ ?_
 refine Ow.callM rfl rfl Tryz.call230 (zn_ hlk) (fun w' hw'=>wt_ b p v w' hp (hw'.has _ _ (zF_ hlk))) ?_
 have lk1:=qy_ (x:= .cells #[vp b 0,v] 236 (0,0)) hlk
 have rd1:=zg_ (w0:=w) lk1
 have hb1:Buf (setB X b (.cells #[vp b 0,v] 236 (0,0))) 5 1 v l.length (l.map v8):=hb.setO hsl
 have kx:Ext w X (setB X b (.cells #[vp b 0,v] 236 (0,0))):=(Ext.refl w X).setB
 generalize setB X b (.cells #[vp b 0,v] 236 (0,0))=X1 at*
 refine ko @xL_ ?_
 first|with_reducible refine ks [] (And.intro @xL_ @rd1) ?_|refine kp (And.intro @xL_ @rd1) ?_
 refine Ow.append (e:=5) _ rfl rfl rfl Tryz.underlying232 Tryz.ag5 (by kernel_rfl) Tryz.zr5 (by kernel_rfl) Tryz.underlying9 (by intro k h;cases h) hb1 (fun w' hw'=>AppX.text _ w' s) (by omega) (fun v2 L2 hB2 hG2 hS2=> ?_)
 have lk2:Sx.look L2 b=some (.cells #[vp b 0,v] 236 (0,0)):=hG2.look b _ hsl lk1
 have st2:zs_ (some (false,1)) (some (.cells #[vp b 0,v] 236 (0,0))) 1 v2=some (.cells #[vp b 0,v2] 236 (0,0)):=adI_ _ _ _ _ hB2.cell
 refine ko (And.intro @xL_ (And.intro @lk2 (And.intro @st2 (@wD_)))) ?_
 first|with_reducible refine ks [] @xL_ ?_|refine kp @xL_ ?_
 refine⟨_,(ke @xL_), ?_⟩
 have ex:=kx.grew hG2
 have hs2:slB v2≠some b:=by
  rcases hS2 with h| ⟨c',h,ha⟩
  ·rw[h];exact hsl
  ·rw[h]
   intro e
   cases e
   exact Nat.lt_irrefl _ (zf_ ha (zn_ lk1))
 refine⟨ex.setB,rfl,vp b 0,v2,qy_ lk2, .inr rfl, ?_,hs2⟩
 rw[List.length_append,List.map_append]
 exact hB2.setO hs2
theorem WR_ (b:Nat) (X:zi_) (l:List UInt8) (w:World) (hB:BldAt b l X) (hX: ∀p,p∈X→w.heap[p.1]? =some p.2) (hn: (keys X).Nodup) (hl:l.length<34359738368):
  Rets Tryz.prog 192 #[vp b 0] w (XS w X (fun v _D=>v=vs l)):=by
 obtain⟨p,v,hlk,hp,hb,hsl⟩:=hB
 have rd1:=zg_ (w0:=w) hlk
 refine Rets.enterX Tryz.func192 rfl (rs:= [.tmp 2]) Tryz.results192 Tryz.ntmps192 hX hn ?_
 refine kf ?_
 first|with_reducible refine ks [] @xL_ ?_|refine kp @xL_ ?_
 refine Cw.regionS [b] [0,1,2,5,6,7,3,8,9,4,10,11] [] (by kernel_rfl) (by kernel_rfl) (by kernel_rfl) ?_
 simp only[zh_, ↓zc_, ↓za_, ↓zk_, ↓zj_,zb_]
 refine Ow.goQ ?_
 simp(disch:=(first|assumption|omega| (simp only[qF_,qC_,UInt64.reduceToNat];try omega))) only[↓Sx.S0,Sx.S1,Tryz.fx,xL_,Nat.reduceAdd,Nat.reducePow,Int.reducePow,Nat.reduceBEq, ↓reduceIte,UInt8.reduceToNat,UInt16.reduceToNat,UInt32.reduceToNat,UInt64.reduceToNat,Int.reduceToNat,rd1,hb.len]
 refine Ow.soft rfl rfl rfl ?_
 rcases hb.inv with⟨rfl,h0,-⟩ | ⟨b2,c,rest,rfl,hl2,h1,h3,h4,-⟩
 ·obtain rfl:l= []:=List.eq_nil_of_length_eq_zero h0
  refine Ow.sliceData (v:= .pointer none) rfl rfl (.inl ⟨0,0,rfl,rfl⟩) ?_
  with_reducible refine Ow.nil ?_
  refine⟨by intro b hb;simp only[List.mem_cons,List.not_mem_nil,or_false] at hb;(try subst hb);rfl, ?_⟩
  refine Ow.soft rfl rfl rfl ?_
  refine Ow.unsafeStringNil rfl rfl rfl rfl ?_
  with_reducible refine Ow.nil ?_
  refine⟨by intro b hb;simp only[List.mem_cons,List.not_mem_nil,or_false] at hb;(try subst hb);rfl, ?_⟩
  refine kq @xL_ ?_
  try with_reducible refine Ow.nil ?_
  first|with_reducible refine ks [] @xL_ ?_|refine kp @xL_ ?_
  refine⟨_,(ke @xL_), ?_⟩
  exact⟨Ext.refl _ _,rfl⟩
 ·refine Ow.sliceData (v:=vp b2 0) rfl rfl (.inr ⟨b2,_,c,rfl,by omega,rfl⟩) ?_
  with_reducible refine Ow.nil ?_
  refine⟨by intro b hb;simp only[List.mem_cons,List.not_mem_nil,or_false] at hb;(try subst hb);rfl, ?_⟩
  by_cases h0:l.length=0
  ·obtain rfl:l= []:=List.eq_nil_of_length_eq_zero h0
   refine Ow.soft rfl rfl rfl ?_
   refine Ow.unsafeStringNil rfl rfl rfl rfl ?_
   with_reducible refine Ow.nil ?_
   refine⟨by intro b hb;simp only[List.mem_cons,List.not_mem_nil,or_false] at hb;(try subst hb);rfl, ?_⟩
   refine kq @xL_ ?_
   try with_reducible refine Ow.nil ?_
   first|with_reducible refine ks [] @xL_ ?_|refine kp @xL_ ?_
   refine⟨_,(ke @xL_), ?_⟩
   exact⟨Ext.refl _ _,rfl⟩
  ·refine Ow.soft rfl rfl rfl ?_
   refine Ow.unsafeString rfl rfl rfl rfl hl2 (by omega) (by omega) Tryz.underlying341 (by kernel_rfl) (of_decide_eq_true (by kernel_rfl)) ?_
   with_reducible refine Ow.nil ?_
   refine⟨by intro b hb;simp only[List.mem_cons,List.not_mem_nil,or_false] at hb;(try subst hb);exact jY_ (fun e=>hsl (by rw[←e];rfl)), ?_⟩
   refine kq @xL_ ?_
   try with_reducible refine Ow.nil ?_
   first|with_reducible refine ks [] @xL_ ?_|refine kp @xL_ ?_
   refine⟨_,(ke @xL_), ?_⟩
   exact⟨(Ext.refl _ _).setB,rfl⟩
end Go.Proofs
end
section
open Go Go.Proofs Go.Sx
namespace Go.Proofs
set_option maxRecDepth 10000
set_option maxHeartbeats 1000000
set_option linter.unusedSimpArgs false
theorem nilW (b o:Nat):q9_ Tryz.prog .eql 268 (vp b o) (.pointer none)=some (.bool false):=by
 simp[q9_,eqX,qX_,jr_,Tryz.underlying268,vp]
set_option linter.defProp false
def xz_:=And.intro (@Jj_) (And.intro (@Je_) (@nilW))
structure WG where
 g:Nat
 D:zi_
theorem X5_ (l:List (List UInt8)) (g:Nat) (h:g<l.length): (l.take (g+1)).flatten=(l.take g).flatten++l.getD g []:=by
 rw[List.take_add_one,List.getElem?_eq_getElem h,List.flatten_append,List.getD_eq_getElem?_getD,List.getElem?_eq_getElem h]
 simp
theorem VV_ (l:List (List UInt8)) (g:Nat): (l.take g).flatten.length≤l.flatten.length:=by
 conv=>rhs;rw[←List.take_append_drop g l,List.flatten_append,List.length_append]
 omega
theorem Xe_ (b:Nat) (X:zi_) (l:List UInt8) (x:Value) (b2 off:Nat) (ls:List (List UInt8)) (arr:Array Value) (E:TypeId) (fz:Nat×Nat) (w:World) (hB:BldAt b l X) (hX: ∀p,p∈X→w.heap[p.1]? =some p.2) (hn: (keys X).Nodup)
  (hS:StrS w x ls b2 off arr E fz) (hne:0<ls.length→b2∉keys X) (hl:l.length+ls.flatten.length<34359738368) (hls:ls.length<34359738368):
  Rets Tryz.prog 154 #[vp b 0,x] w (XS w X (fun v D=>v= .tuple #[]∧BldAt b (l++ls.flatten) D)):=by
 refine Rets.enterX Tryz.func154 rfl (rs:= []) Tryz.results154 Tryz.ntmps154 hX hn ?_
 refine kf ?_
 ((try with_reducible refine Cw.go [] ?_);(try simp(disch:=(first|assumption|omega| (simp only[qF_,qC_,UInt64.reduceToNat];try omega))) only[↓Sx.S0,Sx.S1,Tryz.fx,xz_,Nat.reduceAdd,Nat.reducePow,Int.reducePow,Nat.reduceBEq, ↓reduceIte,UInt8.reduceToNat,UInt16.reduceToNat,UInt32.reduceToNat,UInt64.reduceToNat,Int.reduceToNat,hS.len]))
 refine Cw.loopG (G:=WG) [11,12,13,5,14,15,16,17,18,19,10] (fun g=> [(10,vi g.g)]) (fun g=>g.D) (fun g=>g.g≤ls.length∧Ext w X g.D∧BldAt b (l++ (ls.take g.g).flatten) g.D) (fun g=>ls.length - g.g) ⟨0,X⟩ rfl rfl ?_ ?_
 ·exact⟨by simp,Ext.refl _ _,by simpa using hB⟩
 intro g j hg
 refine kv ?_
 obtain⟨g,D⟩:=g
 simp only at hg ⊢
 obtain⟨hgL,hE,hBD⟩:=hg
 by_cases hlt:g<ls.length
 ·have hlg:=hS.get g hlt
  have hrd:=hE.old (hS.has (by omega)) (hne (by omega))
  ((try with_reducible refine Cw.go [] ?_);(try simp(disch:=(first|assumption|omega| (simp only[qF_,qC_,UInt64.reduceToNat];try omega))) only[↓Sx.S0,Sx.S1,Tryz.fx,xz_,Nat.reduceAdd,Nat.reducePow,Int.reducePow,Nat.reduceBEq, ↓reduceIte,UInt8.reduceToNat,UInt16.reduceToNat,UInt32.reduceToNat,UInt64.reduceToNat,Int.reduceToNat,Sx.loadV_one,hrd,hlg,hS.idx]))
  have hfl:=X5_ ls g hlt
  have hfle:=VV_ ls (g+1)
  have hfl2:=congrArg List.length hfl
  rw[List.length_append] at hfl2
  refine Ow.callX (Y:= []) (by simp) rfl rfl Tryz.call208 (fun w' hw' hX hn=>QE_ b D _ (ls.getD g []) w' hBD hX hn (by rw[List.length_append];omega)) (fun v2 D2 hC hS2=> ?_)
  rw[List.append_nil]
  obtain⟨rfl,hB2⟩:=hS2
  refine ko @xz_ ?_
  first|with_reducible refine ks [] @xz_ ?_|refine kp @xz_ ?_
  refine Again.mk (WG.mk (g+1) D2) (by show ls.length - (g+1)<ls.length - g;omega) ⟨by show g+1≤ls.length;omega,hE.came0 hC, ?_⟩ rfl rfl
  show BldAt b (l++ (ls.take (g+1)).flatten) D2
  rw[hfl,←List.append_assoc]
  exact hB2
 ·obtain rfl:g=ls.length:=by omega
  first|with_reducible refine ks [] @xz_ ?_|refine kp @xz_ ?_
  refine⟨_,(ke @xz_), ?_⟩
  rw[List.take_length] at hBD
  exact⟨hE,rfl,hBD⟩
def maxN:Int:=1099511627775
def vq_ (n:Nat):List UInt8:=if h:n<128 then [UInt8.ofNat n] else UInt8.ofNat (n%128+128)::vq_ (n / 128)
termination_by n
decreasing_by omega
def qx_ (n:Int):Nat:=(if(if maxN<n then maxN else n)>0 then(if maxN<n then maxN else n) else 0).toNat
def wK_ (l:List Int):List UInt8:=(l.map fun n=>vq_ (qx_ n)).flatten
theorem jA_ {n:Nat} (h:n<128):vq_ n= [UInt8.ofNat n]:=by rw[vq_];simp[h]
theorem vi_ {n:Nat} (h: ¬n<128):vq_ n=UInt8.ofNat (n%128+128)::vq_ (n / 128):=by rw[vq_];simp[h]
theorem kc_: ∀ (k n:Nat),n<128^k→0<k→(vq_ n).length≤k
 |0,n,h,h0=>absurd h0 (by omega)
 |k+1,n,h,_=>by
  by_cases hn:n<128
  ·rw[jA_ hn];simp
  ·rw[vi_ hn]
   have hk:0<k:=by
    rcases Nat.eq_zero_or_pos k with rfl|hk
    ·simp at h;omega
    ·exact hk
   have:=kc_ k (n / 128) (by rw[Nat.pow_succ] at h;omega) hk
   simp only[List.length_cons];omega
theorem aav_ (n:Int):qx_ n<1099511627776:=by unfold qx_ maxN;split<;>split at* <;>omega
theorem zM_ (n:Int): (vq_ (qx_ n)).length≤6:=kc_ 6 _ (by have:=aav_ n;omega) (by omega)
theorem amR_: ∀b:BitVec 8,b.toNat<128→(b|||128#8)=b+128#8:=by decide
theorem wj_ (m:Nat):UInt8.ofInt (m:Int)=UInt8.ofNat m:=by
 apply UInt8.toBitVec_inj.1
 apply BitVec.eq_of_toNat_eq
 simp[UInt8.ofInt,UInt8.ofNat]
 omega
theorem alr_ (m:Nat):UInt8.ofInt ((m:Int)%128) |||128=UInt8.ofNat (m%128+128):=by
 rw[show((m:Int)%128)=((m%128:Nat):Int) by omega,wj_]
 apply UInt8.toBitVec_inj.1
 have h:=amR_ (BitVec.ofNat 8 (m%128)) (by simp[BitVec.toNat_ofNat];omega)
 have h1: (UInt8.ofNat (m%128) |||128).toBitVec=BitVec.ofNat 8 (m%128) |||128#8:=rfl
 rw[h1,h]
 apply BitVec.eq_of_toNat_eq
 simp[UInt8.ofNat]
structure NG where
 m:Nat
 pre:List UInt8
 D:zi_
theorem Ql_ (b:Nat) (X:zi_) (l:List UInt8) (x:Value) (b2 off:Nat) (ls:List Int) (arr:Array Value) (E:TypeId) (fz:Nat×Nat) (w:World) (hB:BldAt b l X) (hX: ∀p,p∈X→w.heap[p.1]? =some p.2) (hn: (keys X).Nodup)
  (hS:OneS vi 0 w x ls b2 off arr E fz) (hne:0<ls.length→b2∉keys X) (hl:l.length+ls.length*6<34359738368):
  Rets Tryz.prog 123 #[vp b 0,x] w (XS w X (fun v D=>v= .tuple #[]∧BldAt b (l++wK_ ls) D)):=by
 refine Rets.enterX Tryz.func123 rfl (rs:= []) Tryz.results123 Tryz.ntmps123 hX hn ?_
 refine kf ?_
 ((try with_reducible refine Cw.go [] ?_);(try simp(disch:=(first|assumption|omega| (simp only[qF_,qC_,UInt64.reduceToNat];try omega))) only[↓Sx.S0,Sx.S1,Tryz.fx,xz_,Nat.reduceAdd,Nat.reducePow,Int.reducePow,Nat.reduceBEq, ↓reduceIte,UInt8.reduceToNat,UInt16.reduceToNat,UInt32.reduceToNat,UInt64.reduceToNat,Int.reduceToNat,hS.len]))
 refine Cw.loopG (G:=WG) [11,12,13,5,14,15,16,17,18,21,22,23,24,25,26,27,28,19,20,29,30,31,32,33,34,35,10] (fun g=> [(10,vi g.g)]) (fun g=>g.D) (fun g=>g.g≤ls.length∧Ext w X g.D∧BldAt b (l++wK_ (ls.take g.g)) g.D) (fun g=>ls.length - g.g) ⟨0,X⟩ rfl rfl ?_ ?_
 ·exact⟨by simp,Ext.refl _ _,by simpa [wK_] using hB⟩
 intro g j hg
 refine kv ?_
 obtain⟨g,D⟩:=g
 simp only at hg ⊢
 obtain⟨hgL,hE,hBD⟩:=hg
 by_cases hlt:g<ls.length
 ·have hlg:=hS.get g hlt
  have hrd:=hE.old (hS.has (by omega)) (hne (by omega))
  ((try with_reducible refine Cw.go [] ?_);(try simp(disch:=(first|assumption|omega| (simp only[qF_,qC_,UInt64.reduceToNat];try omega))) only[↓Sx.S0,Sx.S1,Tryz.fx,xz_,Nat.reduceAdd,Nat.reducePow,Int.reducePow,Nat.reduceBEq, ↓reduceIte,UInt8.reduceToNat,UInt16.reduceToNat,UInt32.reduceToNat,UInt64.reduceToNat,Int.reduceToNat,Sx.loadV_one,hrd,hlg,hS.idx]))
  refine Ow.minI rfl rfl rfl ?_
  refine Ow.maxI rfl rfl rfl ?_
  have hcl: (if(if maxN<ls.getD g 0 then maxN else ls.getD g 0)>0 then(if maxN<ls.getD g 0 then maxN else ls.getD g 0) else 0)=(qx_ (ls.getD g 0):Int):=by
   unfold qx_;omega
  have hcl': (if(if 1099511627775<ls.getD g 0 then 1099511627775 else ls.getD g 0)>0 then(if 1099511627775<ls.getD g 0 then 1099511627775 else ls.getD g 0) else 0)=(qx_ (ls.getD g 0):Int):=hcl
  rw[hcl']
  have hcb:=aav_ (ls.getD g 0)
  have hpl: (wK_ (ls.take g)).length≤g*6:=by
   unfold wK_
   rw[List.length_flatten,List.map_map]
   have: ∀ (q:List Int),(q.map (List.length∘fun n=>vq_ (qx_ n))).sum≤q.length*6:=by
    intro q
    induction q with
    |nil=>simp
    |cons y r ih=>have:=zM_ y;simp only[List.map_cons,List.sum_cons,List.length_cons,Function.comp];omega
   have h2:=this (ls.take g)
   rw[List.length_take] at h2
   have:min g ls.length*6≤g*6:=Nat.mul_le_mul_right _ (Nat.min_le_left _ _)
   omega
  have hnl:=zM_ (ls.getD g 0)
  have hsucc:wK_ (ls.take (g+1))=wK_ (ls.take g)++vq_ (qx_ (ls.getD g 0)):=by
   unfold wK_
   rw[List.take_succ_eq_append_getElem hlt,List.map_append,List.flatten_append,List.getD_eq_getElem?_getD,List.getElem?_eq_getElem hlt]
   simp only[List.map_cons,List.map_nil,List.flatten_cons,List.flatten_nil,List.append_nil,Option.getD_some]
  generalize qx_ (ls.getD g 0)=m0 at*
  refine ko @xz_ ?_
  first|with_reducible refine ks [] @xz_ ?_|refine kp @xz_ ?_
  refine Cw.loopG (G:=NG) [17,18,21,22,23,24,25,26,27,28,19,20,5] (fun q=> [(5,vi q.m)]) (fun q=>q.D) (fun q=>q.m≤m0∧Ext w X q.D∧vq_ m0=q.pre++vq_ q.m∧BldAt b (l++wK_ (ls.take g)++q.pre) q.D) (fun q=>q.m) ⟨m0,[],D⟩ rfl rfl ?_ ?_
  ·exact⟨Nat.le_refl _,hE,rfl,by rwa [List.append_nil]⟩
  intro q jq hq
  refine kv ?_
  obtain⟨m,pre,D1⟩:=q
  simp only at hq ⊢
  obtain⟨hqm,hE1,hpre,hB1⟩:=hq
  have hpl2:=congrArg List.length hpre
  rw[List.length_append] at hpl2
  by_cases hm:m<128
  ·first|with_reducible refine ks [] @xz_ ?_|refine kp @xz_ ?_
   rw[jA_ hm] at hpre hpl2
   have hlen: (l++wK_ (ls.take g)++pre).length+1<34359738368:=by
    rw[List.length_append,List.length_append]
    simp only[List.length_cons,List.length_nil] at hpl2
    omega
   refine Ow.callX (Y:= []) (by simp) rfl rfl Tryz.call191 (fun w' hw' hX hn=>wv_ b D1 _ _ w' hB1 hX hn (by omega)) (fun v2 D2 hC hS2=> ?_)
   rw[List.append_nil]
   obtain⟨rfl,hB2⟩:=hS2
   rw[wj_] at hB2
   refine ko @xz_ ?_
   first|with_reducible refine ks [] @xz_ ?_|refine kp @xz_ ?_
   refine Again.mk (WG.mk (g+1) D2) (by show ls.length - (g+1)<ls.length - g;omega) ⟨by show g+1≤ls.length;omega,hE1.came0 hC, ?_⟩ rfl rfl
   show BldAt b (l++wK_ (ls.take (g+1))) D2
   rw[hsucc,hpre,←List.append_assoc,←List.append_assoc]
   exact hB2
  ·first|with_reducible refine ks [] @xz_ ?_|refine kp @xz_ ?_
   rw[vi_ hm] at hpre hpl2
   have hlen: (l++wK_ (ls.take g)++pre).length+1<34359738368:=by
    rw[List.length_append,List.length_append]
    simp only[List.length_cons] at hpl2
    omega
   refine Ow.callX (Y:= []) (by simp) rfl rfl Tryz.call191 (fun w' hw' hX hn=>wv_ b D1 _ _ w' hB1 hX hn (by omega)) (fun v2 D2 hC hS2=> ?_)
   rw[List.append_nil]
   obtain⟨rfl,hB2⟩:=hS2
   rw[alr_] at hB2
   refine ko @xz_ ?_
   first|with_reducible refine ks [] @xz_ ?_|refine kp @xz_ ?_
   refine Again.mk (NG.mk (m / 128) (pre++ [UInt8.ofNat (m%128+128)]) D2) (by show m / 128<m;omega) ⟨by show m / 128≤m0;omega,hE1.came0 hC, ?_, ?_⟩ rfl rfl
   ·show vq_ m0=pre++ [UInt8.ofNat (m%128+128)]++vq_ (m / 128)
    rw[hpre];simp
   ·show BldAt b (l++wK_ (ls.take g)++ (pre++ [UInt8.ofNat (m%128+128)])) D2
    rw[←List.append_assoc]
    exact hB2
 ·obtain rfl:g=ls.length:=by omega
  first|with_reducible refine ks [] @xz_ ?_|refine kp @xz_ ?_
  refine⟨_,(ke @xz_), ?_⟩
  rw[List.take_length] at hBD
  exact⟨hE,rfl,hBD⟩
end Go.Proofs
end
section
open Go Go.Proofs Go.Sx
namespace Go.Proofs
set_option maxRecDepth 10000
set_option maxHeartbeats 1000000
set_option linter.unusedSimpArgs false
set_option linter.defProp false
def jW_:=And.intro (And.intro (@Jj_) (@Je_)) (And.intro (@nilW) (And.intro (@afC_) (@ZJ_)))
theorem BldAt.app {b:Nat} {l:List UInt8} {X Y:zi_} (h:BldAt b l X):BldAt b l (X++Y):=by
 obtain⟨p,v,h1,h2,h3,h4⟩:=h
 exact⟨p,v,zp_ h1,h2,h3.app,h4⟩
def jP_ (s:List UInt8):List UInt8:=vq_ (qx_ s.length)++s
def x4_ (ls:List (List UInt8)):List UInt8:=(ls.map jP_).flatten
theorem aaG_ (n:Int):wK_ [n]=vq_ (qx_ n):=by simp[wK_]
theorem acI_ (ls:List (List UInt8)) (g:Nat) (h:g<ls.length):x4_ (ls.take (g+1))=x4_ (ls.take g)++jP_ (ls.getD g []):=by
 unfold x4_
 rw[List.take_succ_eq_append_getElem h,List.map_append,List.flatten_append,List.getD_eq_getElem?_getD,List.getElem?_eq_getElem h]
 simp only[List.map_cons,List.map_nil,List.flatten_cons,List.flatten_nil,List.append_nil,Option.getD_some]
theorem Xv_ (ls:List (List UInt8)) (g:Nat): (x4_ (ls.take g)).length≤ (x4_ ls).length:=by
 conv=>rhs;rw[←List.take_append_drop g ls]
 unfold x4_
 rw[List.map_append,List.flatten_append,List.length_append];omega
theorem Kl_ (b:Nat) (X:zi_) (l:List UInt8) (x:Value) (b2 off:Nat) (ls:List (List UInt8)) (arr:Array Value) (E:TypeId) (fz:Nat×Nat) (w:World) (hB:BldAt b l X) (hX: ∀p,p∈X→w.heap[p.1]? =some p.2) (hn: (keys X).Nodup)
  (hS:StrS w x ls b2 off arr E fz) (hne:0<ls.length→b2∉keys X) (hl:l.length+ (x4_ ls).length<17179869184) (hls:ls.length<17179869184):
  Rets Tryz.prog 124 #[vp b 0,x] w (XS w X (fun v D=>v= .tuple #[]∧BldAt b (l++x4_ ls) D)):=by
 refine Rets.enterX Tryz.func124 rfl (rs:= []) Tryz.results124 Tryz.ntmps124 hX hn ?_
 refine kf ?_
 ((try with_reducible refine Cw.go [] ?_);(try simp(disch:=(first|assumption|omega| (simp only[qF_,qC_,UInt64.reduceToNat];try omega))) only[↓Sx.S0,Sx.S1,Tryz.fx,jW_,Nat.reduceAdd,Nat.reducePow,Int.reducePow,Nat.reduceBEq, ↓reduceIte,UInt8.reduceToNat,UInt16.reduceToNat,UInt32.reduceToNat,UInt64.reduceToNat,Int.reduceToNat,hS.len]))
 refine Cw.loopG (G:=WG) [9,10,11,5,12,13,14,15,16,17,18,19,20,21,8] (fun g=> [(8,vi g.g)]) (fun g=>g.D) (fun g=>g.g≤ls.length∧Ext w X g.D∧BldAt b (l++x4_ (ls.take g.g)) g.D) (fun g=>ls.length - g.g) ⟨0,X⟩ rfl rfl ?_ ?_
 ·exact⟨by simp,Ext.refl _ _,by simpa [x4_] using hB⟩
 intro g j hg
 refine kv ?_
 obtain⟨g,D⟩:=g
 simp only at hg ⊢
 obtain⟨hgL,hE,hBD⟩:=hg
 by_cases hlt:g<ls.length
 ·have hlg:=hS.get g hlt
  have hrd:=hE.old (hS.has (by omega)) (hne (by omega))
  have hsu:=acI_ ls g hlt
  have hle:=Xv_ ls (g+1)
  have hsl:=congrArg List.length hsu
  rw[List.length_append] at hsl
  have htl: (jP_ (ls.getD g [])).length=(vq_ (qx_ (ls.getD g []).length)).length+ (ls.getD g []).length:=by unfold jP_;rw[List.length_append]
  ((try with_reducible refine Cw.go [] ?_);(try simp(disch:=(first|assumption|omega| (simp only[qF_,qC_,UInt64.reduceToNat];try omega))) only[↓Sx.S0,Sx.S1,Tryz.fx,jW_,Nat.reduceAdd,Nat.reducePow,Int.reducePow,Nat.reduceBEq, ↓reduceIte,UInt8.reduceToNat,UInt16.reduceToNat,UInt32.reduceToNat,UInt64.reduceToNat,Int.reduceToNat,Sx.loadV_one,hrd,hlg,hS.idx]))
  refine Ow.buildSlice (e:=3) #[vi (ls.getD g []).length] rfl rfl (by kernel_rfl) fun b3 hb3 hw3=> ?_
  refine ko @jW_ ?_
  refine Ow.callX (Y:= [(b3, .cells #[vi (ls.getD g []).length] 3 (0,0))]) (by simp) rfl rfl Tryz.call123 (fun w' hw' hX hn=>Ql_ b D _ _ b3 0 [((ls.getD g []).length:Int)] _ _ _ w' hBD hX hn (OneS.lit [((ls.getD g []).length:Int)] rfl rfl (hw'.has _ _ (List.mem_append_right _ List.mem_cons_self))) (fun _ hm=>Nat.lt_irrefl _ (zf_ hb3 hm)) (by rw[List.length_append];simp only[List.length_cons,List.length_nil];omega)) (fun v2 D2 hC hS2=> ?_)
  obtain⟨rfl,hB2⟩:=hS2
  have hE2:=(hE.app (o:= .cells #[vi (ls.getD g []).length] 3 (0,0)) hw3).came hC
  rw[aaG_] at hB2
  have hB3:=BldAt.app (Y:= [(b3, .cells #[vi (ls.getD g []).length] 3 (0,0))]) hB2
  generalize D2++ [(b3,Obj.cells #[vi (ls.getD g []).length] 3 (0,0))]=D3 at*
  refine ko @jW_ ?_
  first|with_reducible refine ks [] @jW_ ?_|refine kp @jW_ ?_
  refine Ow.buildSlice (e:=9) #[vs (ls.getD g [])] rfl rfl (by kernel_rfl) fun b4 hb4 hw4=> ?_
  refine ko @jW_ ?_
  refine Ow.callX (Y:= [(b4, .cells #[vs (ls.getD g [])] 9 (0,0))]) (by simp) rfl rfl Tryz.call154 (fun w' hw' hX hn=>Xe_ b D3 _ _ b4 0 [ls.getD g []] _ _ _ w' hB3 hX hn (StrS.lit [ls.getD g []] rfl rfl (hw'.has _ _ (List.mem_append_right _ List.mem_cons_self))) (fun _ hm=>Nat.lt_irrefl _ (zf_ hb4 hm)) (by rw[List.length_append,List.length_append];simp only[List.flatten_cons,List.flatten_nil,List.append_nil];omega) (by simp)) (fun v4 D4 hC4 hS4=> ?_)
  obtain⟨rfl,hB4⟩:=hS4
  have hE4:=(hE2.app (o:= .cells #[vs (ls.getD g [])] 9 (0,0)) hw4).came hC4
  have hB5:=BldAt.app (Y:= [(b4, .cells #[vs (ls.getD g [])] 9 (0,0))]) hB4
  generalize D4++ [(b4,Obj.cells #[vs (ls.getD g [])] 9 (0,0))]=D5 at*
  refine ko @jW_ ?_
  first|with_reducible refine ks [] @jW_ ?_|refine kp @jW_ ?_
  refine Again.mk (WG.mk (g+1) D5) (by show ls.length - (g+1)<ls.length - g;omega) ⟨by show g+1≤ls.length;omega,hE4, ?_⟩ rfl rfl
  show BldAt b (l++x4_ (ls.take (g+1))) D5
  rw[hsu]
  simpa [jP_] using hB5
 ·obtain rfl:g=ls.length:=by omega
  first|with_reducible refine ks [] @jW_ ?_|refine kp @jW_ ?_
  refine⟨_,(ke @jW_), ?_⟩
  rw[List.take_length] at hBD
  exact⟨hE,rfl,hBD⟩
structure IdL where
 l:List UInt8
 h:l.length=32
def z4_ (x:IdL):List Value:=x.l.map v8
def id0:IdL:=⟨List.replicate 32 0,by simp⟩
theorem z0_ (x:IdL): (z4_ x).length=32:=by simp[z4_,x.h]
theorem ZM_ (x:IdL): (z4_ x).toArray=a8 x.l:=rfl
def idsL (ls:List IdL):List UInt8:=(ls.map IdL.l).flatten
theorem afH_ (ls:List IdL) (g:Nat) (h:g<ls.length):idsL (ls.take (g+1))=idsL (ls.take g)++ (ls.getD g id0).l:=by
 unfold idsL
 rw[List.take_succ_eq_append_getElem h,List.map_append,List.flatten_append,List.getD_eq_getElem?_getD,List.getElem?_eq_getElem h]
 simp only[List.map_cons,List.map_nil,List.flatten_cons,List.flatten_nil,List.append_nil,Option.getD_some]
theorem ai9_ (ls:List IdL): (idsL ls).length=32*ls.length:=by
 unfold idsL
 induction ls with
 |nil=>rfl
 |cons x r ih=>rw[List.map_cons,List.flatten_cons,List.length_append,ih,x.h,List.length_cons];omega
theorem aiM_ (b:Nat) (X:zi_) (l:List UInt8) (x:Value) (b2 off:Nat) (ls:List IdL) (arr:Array Value) (E:TypeId) (fz:Nat×Nat) (w:World) (hB:BldAt b l X) (hX: ∀p,p∈X→w.heap[p.1]? =some p.2) (hn: (keys X).Nodup)
  (hS:RowS 32 z4_ id0 w x ls b2 off arr E fz) (hne:0<ls.length→b2∉keys X) (hl:l.length+32*ls.length<17179869184):
  Rets Tryz.prog 125 #[vp b 0,x] w (XS w X (fun v D=>v= .tuple #[]∧BldAt b (l++idsL ls) D)):=by
 refine Rets.enterX Tryz.func125 rfl (rs:= []) Tryz.results125 Tryz.ntmps125 hX hn ?_
 refine kf ?_
 ((try with_reducible refine Cw.go [] ?_);(try simp(disch:=(first|assumption|omega| (simp only[qF_,qC_,UInt64.reduceToNat];try omega))) only[↓Sx.S0,Sx.S1,Tryz.fx,jW_,Nat.reduceAdd,Nat.reducePow,Int.reducePow,Nat.reduceBEq, ↓reduceIte,UInt8.reduceToNat,UInt16.reduceToNat,UInt32.reduceToNat,UInt64.reduceToNat,Int.reduceToNat,hS.len]))
 refine Cw.loopG (G:=WG) [9,10,11,5,12,13,14,15,16,17,8] (fun g=> [(8,vi g.g)]) (fun g=>g.D) (fun g=>g.g≤ls.length∧Ext w X g.D∧BldAt b (l++idsL (ls.take g.g)) g.D) (fun g=>ls.length - g.g) ⟨0,X⟩ rfl rfl ?_ ?_
 ·exact⟨by simp,Ext.refl _ _,by simpa [idsL] using hB⟩
 intro g j hg
 refine kv ?_
 obtain⟨g,D⟩:=g
 simp only at hg ⊢
 obtain⟨hgL,hE,hBD⟩:=hg
 by_cases hlt:g<ls.length
 ·have hrd:=hE.old (hS.has (by omega)) (hne (by omega))
  have hld:=hS.load z0_ (by omega) hlt
  rw[ZM_] at hld
  have hsu:=afH_ ls g hlt
  have hil:=(ls.getD g id0).h
  have hll:=ai9_ (ls.take g)
  rw[List.length_take] at hll
  have hmin:min g ls.length≤g:=Nat.min_le_left _ _
  ((try with_reducible refine Cw.go [] ?_);(try simp(disch:=(first|assumption|omega| (simp only[qF_,qC_,UInt64.reduceToNat];try omega))) only[↓Sx.S0,Sx.S1,Tryz.fx,jW_,Nat.reduceAdd,Nat.reducePow,Int.reducePow,Nat.reduceBEq, ↓reduceIte,UInt8.reduceToNat,UInt16.reduceToNat,UInt32.reduceToNat,UInt64.reduceToNat,Int.reduceToNat,hrd,hld,hS.idx]))
  refine Ow.alloc rfl rfl Tryz.zr24 fun b5 hb5 hw5=> ?_
  refine Ow.go rfl ?_
  simp(disch:=(first|assumption|omega| (simp only[qF_,qC_,UInt64.reduceToNat];try omega))) only[↓Sx.S0,Sx.S1,Tryz.fx,jW_,Nat.reduceAdd,Nat.reducePow,Int.reducePow,Nat.reduceBEq, ↓reduceIte,UInt8.reduceToNat,UInt16.reduceToNat,UInt32.reduceToNat,UInt64.reduceToNat,Int.reduceToNat,j6_ hb5,wh_ hb5,wD_]
  have hE5:=hE.app (o:= .cells (a8 (ls.getD g id0).l) 24 (0,0)) hw5
  have hB5:=BldAt.app (Y:= [(b5, .cells (a8 (ls.getD g id0).l) 24 (0,0))]) hBD
  have rd5:zv_ w (D++ [(b5, .cells (a8 (ls.getD g id0).l) 24 (0,0))]) b5=_:=zg_ (j6_ hb5)
  generalize D++ [(b5,Obj.cells (a8 (ls.getD g id0).l) 24 (0,0))]=D5 at*
  first|with_reducible refine ks [] (And.intro @jW_ @rd5) ?_|refine kp (And.intro @jW_ @rd5) ?_
  have e32:List.take 32 (List.drop 0 (ls.getD g id0).l)=(ls.getD g id0).l:=by rw[List.drop_zero,List.take_of_length_le (by omega)]
  rw[e32]
  refine Ow.buildSlice (e:=9) #[vs (ls.getD g id0).l] rfl rfl (by kernel_rfl) fun b6 hb6 hw6=> ?_
  refine ko @jW_ ?_
  refine Ow.callX (Y:= [(b6, .cells #[vs (ls.getD g id0).l] 9 (0,0))]) (by simp) rfl rfl Tryz.call154 (fun w' hw' hX hn=>Xe_ b D5 _ _ b6 0 [(ls.getD g id0).l] _ _ _ w' hB5 hX hn (StrS.lit [(ls.getD g id0).l] rfl rfl (hw'.has _ _ (List.mem_append_right _ List.mem_cons_self))) (fun _ hm=>Nat.lt_irrefl _ (zf_ hb6 hm)) (by rw[List.length_append];simp only[List.flatten_cons,List.flatten_nil,List.append_nil];omega) (by simp)) (fun v4 D4 hC4 hS4=> ?_)
  obtain⟨rfl,hB4⟩:=hS4
  have hE4:=(hE5.app (o:= .cells #[vs (ls.getD g id0).l] 9 (0,0)) hw6).came hC4
  have hB6:=BldAt.app (Y:= [(b6, .cells #[vs (ls.getD g id0).l] 9 (0,0))]) hB4
  generalize D4++ [(b6,Obj.cells #[vs (ls.getD g id0).l] 9 (0,0))]=D6 at*
  refine ko @jW_ ?_
  first|with_reducible refine ks [] @jW_ ?_|refine kp @jW_ ?_
  refine Again.mk (WG.mk (g+1) D6) (by show ls.length - (g+1)<ls.length - g;omega) ⟨by show g+1≤ls.length;omega,hE4, ?_⟩ rfl rfl
  show BldAt b (l++idsL (ls.take (g+1))) D6
  rw[hsu]
  simpa using hB6
 ·obtain rfl:g=ls.length:=by omega
  first|with_reducible refine ks [] @jW_ ?_|refine kp @jW_ ?_
  refine⟨_,(ke @jW_), ?_⟩
  rw[List.take_length] at hBD
  exact⟨hE,rfl,hBD⟩
theorem Qy_ (b:Nat) (X:zi_) (l:List UInt8) (w:World) (hB:BldAt b l X) (hX: ∀p,p∈X→w.heap[p.1]? =some p.2) (hn: (keys X).Nodup) (hl:l.length<34359738368):
  Rets Tryz.prog 126 #[vp b 0] w (XS w X (fun v _=>v=vs l)):=by
 refine Rets.enterX Tryz.func126 rfl (rs:= [.tmp 2]) Tryz.results126 Tryz.ntmps126 hX hn ?_
 refine kf ?_
 first|with_reducible refine ks [] @jW_ ?_|refine kp @jW_ ?_
 refine Ow.callX (Y:= []) (by simp) rfl rfl Tryz.call192 (fun w' hw' hX hn=>WR_ b X l w' hB hX hn hl) (fun v2 D2 hC hS2=> ?_)
 subst hS2
 rw[List.append_nil]
 refine ko @jW_ ?_
 first|with_reducible refine ks [] @jW_ ?_|refine kp @jW_ ?_
 refine⟨_,(ke @jW_), ?_⟩
 exact⟨(Ext.refl _ _).came0 hC,rfl⟩
end Go.Proofs
end
section
open Go Go.Proofs Go.Sx
namespace Go.Proofs
set_option maxRecDepth 10000
set_option maxHeartbeats 1000000
set_option linter.unusedSimpArgs false
theorem xK_ (s:List UInt8) (a e:Int) (E:TypeId) (n:Nat):zA_ (some (false,n)) (some (.cells #[vs s,vi a,vi e] E (0,0))) 0=some (vs s):=(rfl)
theorem xP_ (s:List UInt8) (a e:Int) (E:TypeId) (n:Nat):zA_ (some (false,n)) (some (.cells #[vs s,vi a,vi e] E (0,0))) 1=some (vi a):=(rfl)
theorem xW_ (s:List UInt8) (a e:Int) (E:TypeId) (n:Nat):zA_ (some (false,n)) (some (.cells #[vs s,vi a,vi e] E (0,0))) 2=some (vi e):=(rfl)
theorem xc_ (s:List UInt8) (a e x:Int) (E:TypeId):zs_ (some (false,1)) (some (.cells #[vs s,vi a,vi e] E (0,0))) 1 (vi x)=some (.cells #[vs s,vi x,vi e] E (0,0)):=by
 simp[zs_,xA_,vi,Value.cells,Value.oneCell']
theorem xh_ (s:List UInt8) (a e x:Int) (E:TypeId):zs_ (some (false,1)) (some (.cells #[vs s,vi a,vi e] E (0,0))) 2 (vi x)=some (.cells #[vs s,vi a,vi x] E (0,0)):=by
 simp[zs_,xA_,vi,Value.cells,Value.oneCell']
theorem nilR (b o:Nat):q9_ Tryz.prog .eql 140 (vp b o) (.pointer none)=some (.bool false):=by
 simp[q9_,eqX,qX_,jr_,Tryz.underlying140,vp]
theorem ame_:q9_ Tryz.prog .eql 140 (.pointer none) (.pointer none)=some (.bool true):=by
 simp[q9_,eqX,qX_,jr_,Tryz.underlying140]
theorem akQ_ (b o:Nat):q9_ Tryz.prog .neq 140 (vp b o) (.pointer none)=some (.bool true):=by
 simp[q9_,eqX,qX_,jr_,Tryz.underlying140,vp]
theorem aif_:q9_ Tryz.prog .neq 140 (.pointer none) (.pointer none)=some (.bool false):=by
 simp[q9_,eqX,qX_,jr_,Tryz.underlying140]
set_option linter.defProp false
def z2_:=And.intro (And.intro (And.intro (@xK_) (@xP_)) (And.intro (@xW_) (@xc_))) (And.intro (And.intro (@xh_) (@nilR)) (And.intro (@ame_) (And.intro (@akQ_) (@aif_))))
theorem Zk_ (b:Nat) (s:List UInt8) (a e:Int) (w:World) (ho:w.heap[b]? =some (.cells #[vs s,vi a,vi e] 314 (0,0))):
  Rets Tryz.prog 218 #[vp b 0] w (fun v D=>v=vi e∧D= []):=by
 refine Rets.enterV Tryz.func218 rfl (rs:= [.tmp 2]) Tryz.results218 Tryz.ntmps218 ?_
 refine kf ?_
 first|with_reducible refine ks [] (And.intro @z2_ @ho) ?_|refine kp (And.intro @z2_ @ho) ?_
 refine⟨_,(ke @z2_),trivial, ?_⟩
 rfl
theorem aip_ (b:Nat) (s:List UInt8) (a e:Int) (w:World) (ho:w.heap[b]? =some (.cells #[vs s,vi a,vi e] 314 (0,0))):
  Rets Tryz.prog 168 #[vp b 0] w (fun v D=>v=vi a∧D= []):=by
 refine Rets.enterV Tryz.func168 rfl (rs:= [.tmp 2]) Tryz.results168 Tryz.ntmps168 ?_
 refine kf ?_
 first|with_reducible refine ks [] (And.intro @z2_ @ho) ?_|refine kp (And.intro @z2_ @ho) ?_
 refine⟨_,(ke @z2_),trivial, ?_⟩
 rfl
theorem afG_ (b:Nat) (s:List UInt8) (a e:Int) (w:World) (ho:w.heap[b]? =some (.cells #[vs s,vi a,vi e] 314 (0,0))):
  Rets Tryz.prog 167 #[vp b 0] w (fun v D=>v=vi (if e≠0 then e else if a<s.length then 5 else 0)∧D= []):=by
 refine Rets.enterV Tryz.func167 rfl (rs:= [.tmp 2]) Tryz.results167 Tryz.ntmps167 ?_
 refine kf ?_
 first|with_reducible refine ks [] @z2_ ?_|refine kp @z2_ ?_
 refine Ow.callFV rfl Tryz.call218 (fun w' hw'=>Zk_ b s a e w' (by rw[hw'.old b (Array.getElem?_eq_some_iff.1 ho).1 (by simp[keys])];exact ho)) ?_
 refine ko @z2_ ?_
 first|with_reducible refine ks [] @z2_ ?_|refine kp @z2_ ?_
 by_cases he:e=0
 ·first|with_reducible refine ks [] @z2_ ?_|refine kp @z2_ ?_
  refine Cw.regionS [b] [0,1,2,4,5,6,3,7,8,9] [] (by kernel_rfl) (by kernel_rfl) (by kernel_rfl) ?_
  simp only[zh_, ↓zc_, ↓za_, ↓zk_, ↓zj_,zb_]
  refine kq (And.intro @z2_ @ho) ?_
  try with_reducible refine Ow.nil ?_
  first|with_reducible refine ks [] @z2_ ?_|refine kp @z2_ ?_
  refine cdC.splitp (fun hc=> ?_) (fun hc=> ?_)
  ·first|with_reducible refine ks [] @z2_ ?_|refine kp @z2_ ?_
   refine⟨_,(ke @z2_),trivial, ?_⟩
   simp[hc,he,kC_]
  ·first|with_reducible refine ks [] @z2_ ?_|refine kp @z2_ ?_
   refine⟨_,(ke @z2_),trivial, ?_⟩
   simp[hc,he,kC_]
 ·first|with_reducible refine ks [] @z2_ ?_|refine kp @z2_ ?_
  refine⟨_,(ke @z2_),trivial, ?_⟩
  simp[he,kC_]
theorem xm_ (b:Nat) (s:List UInt8) (a e x y:Int) (w:World) (ho:w.heap[b]? =some (.cells #[vs s,vi a,vi e] 314 (0,0))):
  Rets Tryz.prog 219 #[vp b 0,vi x,vi y] w (fun v D=> ∃o,D= [(b,o)]∧v= .tuple #[]∧o= .cells #[vs s,vi (if e=0 then y else a),vi (if e=0 then x else e)] 314 (0,0)):=by
 refine Rets.enterM Tryz.func219 rfl (rs:= []) Tryz.results219 Tryz.ntmps219 ho ?_
 refine kf ?_
 first|with_reducible refine ks [] @z2_ ?_|refine kp @z2_ ?_
 by_cases he:e=0
 ·first|with_reducible refine ks [] @z2_ ?_|refine kp @z2_ ?_
  refine⟨_,_,_,(ke @z2_),rfl,trivial, ?_⟩
  simp[he,kC_]
 ·first|with_reducible refine ks [] @z2_ ?_|refine kp @z2_ ?_
  refine⟨_,_,_,(ke @z2_),rfl,trivial, ?_⟩
  simp[he,kC_]
def vA_ (s:List UInt8) (a:Nat) (e n:Int):List UInt8×Nat×Int:=
 if e≠0 then([],a,e) else if n<0 then([],a,2) else if(s.length:Int) - a<n then([],a,3) else((s.drop a).take n.toNat,a+n.toNat,0)
theorem aae_ (b:Nat) (s:List UInt8) (a:Nat) (e n:Int) (w:World) (ha:a≤s.length) (hs:s.length<9223372036854775808) (ho:w.heap[b]? =some (.cells #[vs s,vi a,vi e] 314 (0,0))):
  Rets Tryz.prog 234 #[vp b 0,vi n] w (fun v D=> ∃o,D= [(b,o)]∧v=vs (vA_ s a e n).1∧o= .cells #[vs s,vi (vA_ s a e n).2.1,vi (vA_ s a e n).2.2] 314 (0,0)):=by
 refine Rets.enterM Tryz.func234 rfl (rs:= [.tmp 4]) Tryz.results234 Tryz.ntmps234 ho ?_
 refine kf ?_
 first|with_reducible refine ks [] @z2_ ?_|refine kp @z2_ ?_
 refine Ow.callFV rfl Tryz.call218 (fun w' hw'=>Zk_ b s a e w' (hw'.has _ _ List.mem_cons_self)) ?_
 refine ko @z2_ ?_
 first|with_reducible refine ks [] @z2_ ?_|refine kp @z2_ ?_
 unfold vA_
 by_cases he:e=0
 ·subst he
  rw[if_neg (fun h=>h rfl)]
  first|with_reducible refine ks [] @z2_ ?_|refine kp @z2_ ?_
  by_cases hn:n<0
  ·rw[if_pos hn]
   first|with_reducible refine ks [] @z2_ ?_|refine kp @z2_ ?_
   refine Ow.callM rfl rfl Tryz.call219 (by simp[keys]) (fun w' hw'=>xm_ b s a 0 2 a w' (hw'.has _ _ List.mem_cons_self)) ?_
   refine ko @z2_ ?_
   first|with_reducible refine ks [] @z2_ ?_|refine kp @z2_ ?_
   refine⟨_,_,_,(ke @z2_),rfl,trivial, ?_⟩
   exact⟨rfl,rfl⟩
  ·rw[if_neg hn]
   first|with_reducible refine ks [] @z2_ ?_|refine kp @z2_ ?_
   refine Cw.regionS [b] [0,1,2,3,6,7,8,4,5,9,10,11,12] [] (by kernel_rfl) (by kernel_rfl) (by kernel_rfl) ?_
   simp only[zh_, ↓zc_, ↓za_, ↓zk_, ↓zj_,zb_]
   refine kq @z2_ ?_
   try with_reducible refine Ow.nil ?_
   first|with_reducible refine ks [] @z2_ ?_|refine kp @z2_ ?_
   by_cases hl: (s.length:Int) - a<n
   ·rw[if_pos hl]
    first|with_reducible refine ks [] @z2_ ?_|refine kp @z2_ ?_
    refine Ow.callM rfl rfl Tryz.call219 (by simp[keys]) (fun w' hw'=>xm_ b s a 0 3 a w' (hw'.has _ _ List.mem_cons_self)) ?_
    refine ko @z2_ ?_
    first|with_reducible refine ks [] @z2_ ?_|refine kp @z2_ ?_
    refine⟨_,_,_,(ke @z2_),rfl,trivial, ?_⟩
    exact⟨rfl,rfl⟩
   ·rw[if_neg hl]
    obtain⟨m,rfl⟩: ∃m:Nat,n=(m:Int):=⟨n.toNat,by omega⟩
    first|with_reducible refine ks [] @z2_ ?_|refine kp @z2_ ?_
    refine Cw.regionS [b] [0,1,2,4,5,6,8,9,10,12,3,7,11,13,14,15] [] (by kernel_rfl) (by kernel_rfl) (by kernel_rfl) ?_
    simp only[zh_, ↓zc_, ↓za_, ↓zk_, ↓zj_,zb_]
    refine kq @z2_ ?_
    try with_reducible refine Ow.nil ?_
    first|with_reducible refine ks [] @z2_ ?_|refine kp @z2_ ?_
    refine⟨_,_,_,(ke @z2_),rfl,trivial, ?_⟩
    refine⟨?_, ?_⟩
    ·simp only[kC_,Int.toNat_natCast]
     rw[List.drop_take,Nat.add_sub_cancel_left]
    ·rw[Int.toNat_natCast,Int.natCast_add]
 ·rw[if_pos he]
  first|with_reducible refine ks [] @z2_ ?_|refine kp @z2_ ?_
  refine⟨_,_,_,(ke @z2_),rfl,trivial, ?_⟩
  exact⟨rfl,rfl⟩
end Go.Proofs
end
section
open Go Go.Proofs Go.Sx
namespace Go.Proofs
set_option maxRecDepth 10000
set_option maxHeartbeats 8000000
set_option linter.unusedSimpArgs false
set_option linter.defProp false
def zO_:=And.intro (And.intro (And.intro (@xK_) (@xP_)) (And.intro (@xW_) (@xc_))) (And.intro (And.intro (@xh_) (@nilR)) (And.intro (@ame_) (And.intro (@akQ_) (@aif_))))
def qc_ (most:Int):List UInt8→Nat→Nat→Except Nat (Nat×Nat)
 | [],_,_=> .error 3
 |c::r,k,n=>
  if 128≤c.toNat then(if k+1=6 then .error 4 else qc_ most r (k+1) (n+c.toNat%128*128^k))
  else if c.toNat=0∧0<k then .error 2
  else if n+c.toNat%128*128^k≤1099511627775∧((n+c.toNat%128*128^k:Nat):Int)≤most then .ok (n+c.toNat%128*128^k,k+1)
  else .error 4
def qB_ (s:List UInt8) (a:Nat) (e most:Int):Int×Nat×Int:=
 if e≠0 then(0,a,e) else match qc_ most (s.drop a) 0 0 with
  | .ok (n,k)=>(n,a+k,0)
  | .error x=>(0,a,x)
theorem JW_ {s:List UInt8} {a:Nat} {e most:Int} {n k:Nat} (he:e=0) (h:qc_ most (s.drop a) 0 0= .ok (n,k)):qB_ s a e most=((n:Int),a+k,0):=by
 unfold qB_;rw[if_neg (by simp[he]),h]
theorem jQ_ {s:List UInt8} {a:Nat} {e most:Int} {x:Nat} (he:e=0) (h:qc_ most (s.drop a) 0 0= .error x):qB_ s a e most=(0,a,(x:Int)):=by
 unfold qB_;rw[if_neg (by simp[he]),h]
structure NumS where
 more:Bool
 k:Nat
 n:Nat
 x:Nat
theorem vQ_ (b:Nat) (s:List UInt8) (a:Nat) (e most:Int) (w:World) (ha:a≤s.length) (hs:s.length<9223372036854775808) (ho:w.heap[b]? =some (.cells #[vs s,vi a,vi e] 314 (0,0))):
  Rets Tryz.prog 165 #[vp b 0,vi most] w (fun v D=> ∃o,D= [(b,o)]∧v=vi (qB_ s a e most).1∧o= .cells #[vs s,vi (qB_ s a e most).2.1,vi (qB_ s a e most).2.2] 314 (0,0)):=by
 refine Rets.enterM Tryz.func165 rfl (rs:= [.tmp 4]) Tryz.results165 Tryz.ntmps165 ho ?_
 refine kf ?_
 first|with_reducible refine ks [] @zO_ ?_|refine kp @zO_ ?_
 by_cases he:e=0
 ·subst he
  refine Cw.scopeL (G:=NumS) (fun g=>(if g.more then 1 else 0)) [10,11,12,4,5,6,7,13,14,15,16,8,9,17,18,19,20,21,22,23,24,25,26,27,28,29,30,31,32,33,34,35,36,37,38,39,40,41,42,43,44,45,46,47,48,49,50,51,52,53,54,55,56,57,58,59,60,61,62,63,64,65,66,67,68,69,70,71,72,73] (fun g=>(if g.more then [(5,vi g.n),(6,vi (7*g.k:Nat)),(8,vi 3),(9,vi a)] else [(8,vi g.x),(9,vi a)])) (fun g=> [(b, .cells #[vs s,vi (a+g.k:Nat),vi 0] 314 (0,0))]) (fun g=>a+g.k≤s.length∧(if g.more then qc_ most (s.drop a) 0 0=qc_ most (s.drop (a+g.k)) g.k g.n∧g.n<128^g.k∧g.k<6 else qc_ most (s.drop a) 0 0= .error g.x)) (fun g=>(if g.more then 7 - g.k else 0)) ?_ ?_ ?_
  ·intro g
   obtain⟨m,k,n,x⟩:=g
   cases m<;>rfl
  ·intro g j hg
   obtain⟨m,k,n,x⟩:=g
   obtain⟨hk,hg⟩:=hg
   simp only at hk
   cases m with
   |false=>
    simp only[Bool.false_eq_true, ↓reduceIte] at hg ⊢
    simp only[QC_,hasL,Bool.or_false,Bool.false_or,Bool.or_true,Bool.true_or,Nat.reduceBEq,beq_self_eq_true, ↓reduceIte,Bool.false_eq_true]
    refine kv ?_
    try with_reducible refine Qu_ ?_
    first|with_reducible refine ks [] @zO_ ?_|refine kp @zO_ ?_
    refine Ow.callM rfl rfl Tryz.call219 (by simp[keys]) (fun w' hw'=>xm_ b s _ 0 x a w' (hw'.has _ _ List.mem_cons_self)) ?_
    refine ko @zO_ ?_
    first|with_reducible refine ks [] @zO_ ?_|refine kp @zO_ ?_
    rw[jQ_ rfl hg]
    refine⟨_,_,_,(ke @zO_),rfl,trivial, ?_⟩
    simp[kC_]
   |true=>
    simp only[↓reduceIte] at hg ⊢
    obtain⟨hgo,hn,hk6⟩:=hg
    simp only[QC_,hasL,Bool.or_false,Bool.false_or,Bool.or_true,Bool.true_or,Nat.reduceBEq,beq_self_eq_true, ↓reduceIte,Bool.false_eq_true]
    refine kv ?_
    try with_reducible refine Qu_ ?_
    first|with_reducible refine ks [] @zO_ ?_|refine kp @zO_ ?_
    refine Cw.regionS [b] [0,1,2,4,5,6,3,7,8,9] [] (by kernel_rfl) (by kernel_rfl) (by kernel_rfl) ?_
    simp only[zh_, ↓zc_, ↓za_, ↓zk_, ↓zj_,zb_]
    refine kq @zO_ ?_
    try with_reducible refine Ow.nil ?_
    by_cases hend:a+k=s.length
    ·first|with_reducible refine ks [] @zO_ ?_|refine kp @zO_ ?_
     refine Jump.mk (NumS.mk false k n 3) rfl (by show 0<7 - k;omega) ⟨hk, ?_⟩ rfl rfl
     show qc_ most (s.drop a) 0 0= .error 3
     rw[hgo,hend,List.drop_length];rfl
    ·first|with_reducible refine ks [] @zO_ ?_|refine kp @zO_ ?_
     have hak:a+k<s.length:=by omega
     have hdrop:s.drop (a+k)=s.getD (a+k) 0::s.drop (a+k+1):=by
      rw[List.drop_eq_getElem_cons hak,List.getD_eq_getElem?_getD,List.getElem?_eq_getElem hak];rfl
     rw[hdrop] at hgo
     refine Cw.regionS [b] [0,1,2,4,5,6,3,7,8,9] [] (by kernel_rfl) (by kernel_rfl) (by kernel_rfl) ?_
     simp only[zh_, ↓zc_, ↓za_, ↓zk_, ↓zj_,zb_]
     refine kq @zO_ ?_
     try with_reducible refine Ow.nil ?_
     generalize s.getD (a+k) 0=c at*
     have hp:128^k≤34359738368:=Nat.pow_le_pow_right (by omega) (show k≤5 by omega)
     have hp0:0<128^k:=Nat.pow_pos (by omega)
     have hd: (c%128).toNat=c.toNat%128:=by simp
     have hcl:=c.toNat_lt
     have hdm:c.toNat%128*128^k≤127*128^k:=Nat.mul_le_mul_right _ (by omega)
     have hshl:zw_ .shl (vi ((c.toNat%128:Nat):Int)) (vi ((7*k:Nat):Int))=some (vi ((c.toNat%128*128^k:Nat):Int)):=by
      have h2: (2:Int)^ (7*k)=((128^k:Nat):Int):=by
       rw[Int.pow_mul];push_cast;rfl
      have:=af7_ ((c.toNat%128:Nat):Int) .i64 (7*k) (by rw[h2];refine⟨by omega,by omega, ?_⟩;rw[←Int.natCast_mul];omega)
      rw[h2,←Int.natCast_mul] at this
      exact this
     have hor:zw_ .or (vi (n:Int)) (vi ((c.toNat%128*128^k:Nat):Int))=some (vi ((n+c.toNat%128*128^k:Nat):Int)):=by
      have:=or_i (n:Int) ((c.toNat%128*128^k:Nat):Int) ⟨by omega,by omega,by omega,by omega⟩
      rw[this]
      congr 3
      rw[Int.toNat_natCast,Int.toNat_natCast,show 128^k=2^ (7*k) by rw[Nat.pow_mul],Nat.mul_comm,Nat.or_comm,←Nat.two_pow_add_eq_or_of_lt (by rw[Nat.pow_mul];exact hn),Nat.add_comm]
     have hlt:n+c.toNat%128*128^k<128^ (k+1):=by rw[Nat.pow_succ];omega
     have hrem:zw_ .rem (v8 c) (v8 128)=some (v8 (c%128)):=KJ_ _ _ (by decide)
     first|with_reducible refine ks [] (And.intro @zO_ (And.intro @hrem (And.intro @hd (And.intro @hshl (@hor))))) ?_|refine kp (And.intro @zO_ (And.intro @hrem (And.intro @hd (And.intro @hshl (@hor))))) ?_
     have hle:decide ((128:UInt8)≤c)=decide (128≤c.toNat):=by simp[UInt8.le_iff_toNat_le]
     cases h128:decide ((128:UInt8)≤c)
     ·rw[h128] at hle
      have hc128: ¬128≤c.toNat:=of_decide_eq_false hle.symm
      cases hz: (c==0)
      ·have hc0: ¬ (c.toNat=0∧0<k):=by
        rintro⟨h0,-⟩
        have:c=0:=UInt8.toNat_inj.1 h0
        rw[this] at hz
        exact absurd hz (by decide)
       first|with_reducible refine ks [] (And.intro @zO_ @hz) ?_|refine kp (And.intro @zO_ @hz) ?_
       by_cases hm:n+c.toNat%128*128^k≤1099511627775
       ·have e1:decide (((n+c.toNat%128*128^k:Nat):Int)≤1099511627775)=true:=decide_eq_true (by omega)
        first|with_reducible refine ks [] (And.intro @zO_ @e1) ?_|refine kp (And.intro @zO_ @e1) ?_
        by_cases hmo: ((n+c.toNat%128*128^k:Nat):Int)≤most
        ·first|with_reducible refine ks [] @zO_ ?_|refine kp @zO_ ?_
         rw[JW_ rfl (by rw[hgo,qc_,if_neg hc128,if_neg hc0,if_pos ⟨hm,hmo⟩])]
         refine⟨_,_,_,(ke @zO_),rfl,trivial, ?_⟩
         exact⟨rfl,rfl⟩
        ·first|with_reducible refine ks [] @zO_ ?_|refine kp @zO_ ?_
         refine Ow.callM rfl rfl Tryz.call219 (by simp[keys]) (fun w' hw'=>xm_ b s _ 0 4 a w' (hw'.has _ _ List.mem_cons_self)) ?_
         refine ko @zO_ ?_
         first|with_reducible refine ks [] @zO_ ?_|refine kp @zO_ ?_
         rw[jQ_ (x:=4) rfl (by rw[hgo,qc_,if_neg hc128,if_neg hc0,if_neg (fun h=>hmo h.2)])]
         refine⟨_,_,_,(ke @zO_),rfl,trivial, ?_⟩
         exact⟨rfl,rfl⟩
       ·have e1:decide (((n+c.toNat%128*128^k:Nat):Int)≤1099511627775)=false:=decide_eq_false (by omega)
        first|with_reducible refine ks [] (And.intro @zO_ @e1) ?_|refine kp (And.intro @zO_ @e1) ?_
        refine Ow.callM rfl rfl Tryz.call219 (by simp[keys]) (fun w' hw'=>xm_ b s _ 0 4 a w' (hw'.has _ _ List.mem_cons_self)) ?_
        refine ko @zO_ ?_
        first|with_reducible refine ks [] @zO_ ?_|refine kp @zO_ ?_
        rw[jQ_ (x:=4) rfl (by rw[hgo,qc_,if_neg hc128,if_neg hc0,if_neg (fun h=>hm h.1)])]
        refine⟨_,_,_,(ke @zO_),rfl,trivial, ?_⟩
        exact⟨rfl,rfl⟩
      ·have hcz:c=0:=eq_of_beq hz
       have hct:c.toNat=0:=by rw[hcz];rfl
       first|with_reducible refine ks [] (And.intro @zO_ @hz) ?_|refine kp (And.intro @zO_ @hz) ?_
       by_cases hk0:0<k
       ·first|with_reducible refine ks [] @zO_ ?_|refine kp @zO_ ?_
        refine Jump.mk (NumS.mk false (k+1) n 2) rfl (by show 0<7 - k;omega) ⟨by show a+ (k+1)≤s.length;omega, ?_⟩ rfl rfl
        show qc_ most (s.drop a) 0 0= .error 2
        rw[hgo,qc_,if_neg hc128,if_pos ⟨hct,hk0⟩]
       ·have hc0: ¬ (c.toNat=0∧0<k):=fun h=>hk0 h.2
        first|with_reducible refine ks [] @zO_ ?_|refine kp @zO_ ?_
        by_cases hm:n+c.toNat%128*128^k≤1099511627775
        ·have e1:decide (((n+c.toNat%128*128^k:Nat):Int)≤1099511627775)=true:=decide_eq_true (by omega)
         first|with_reducible refine ks [] (And.intro @zO_ @e1) ?_|refine kp (And.intro @zO_ @e1) ?_
         by_cases hmo: ((n+c.toNat%128*128^k:Nat):Int)≤most
         ·first|with_reducible refine ks [] @zO_ ?_|refine kp @zO_ ?_
          rw[JW_ rfl (by rw[hgo,qc_,if_neg hc128,if_neg hc0,if_pos ⟨hm,hmo⟩])]
          refine⟨_,_,_,(ke @zO_),rfl,trivial, ?_⟩
          exact⟨rfl,rfl⟩
         ·first|with_reducible refine ks [] @zO_ ?_|refine kp @zO_ ?_
          refine Ow.callM rfl rfl Tryz.call219 (by simp[keys]) (fun w' hw'=>xm_ b s _ 0 4 a w' (hw'.has _ _ List.mem_cons_self)) ?_
          refine ko @zO_ ?_
          first|with_reducible refine ks [] @zO_ ?_|refine kp @zO_ ?_
          rw[jQ_ (x:=4) rfl (by rw[hgo,qc_,if_neg hc128,if_neg hc0,if_neg (fun h=>hmo h.2)])]
          refine⟨_,_,_,(ke @zO_),rfl,trivial, ?_⟩
          exact⟨rfl,rfl⟩
        ·have e1:decide (((n+c.toNat%128*128^k:Nat):Int)≤1099511627775)=false:=decide_eq_false (by omega)
         first|with_reducible refine ks [] (And.intro @zO_ @e1) ?_|refine kp (And.intro @zO_ @e1) ?_
         refine Ow.callM rfl rfl Tryz.call219 (by simp[keys]) (fun w' hw'=>xm_ b s _ 0 4 a w' (hw'.has _ _ List.mem_cons_self)) ?_
         refine ko @zO_ ?_
         first|with_reducible refine ks [] @zO_ ?_|refine kp @zO_ ?_
         rw[jQ_ (x:=4) rfl (by rw[hgo,qc_,if_neg hc128,if_neg hc0,if_neg (fun h=>hm h.1)])]
         refine⟨_,_,_,(ke @zO_),rfl,trivial, ?_⟩
         exact⟨rfl,rfl⟩
     ·rw[h128] at hle
      have hc128:128≤c.toNat:=of_decide_eq_true hle.symm
      first|with_reducible refine ks [] @zO_ ?_|refine kp @zO_ ?_
      by_cases hk5:k=5
      ·first|with_reducible refine ks [] @zO_ ?_|refine kp @zO_ ?_
       refine Jump.mk (NumS.mk false (k+1) n 4) rfl (by show 0<7 - k;omega) ⟨by show a+ (k+1)≤s.length;omega, ?_⟩ rfl rfl
       show qc_ most (s.drop a) 0 0= .error 4
       rw[hgo,qc_,if_pos hc128,if_pos (by omega)]
      ·first|with_reducible refine ks [] @zO_ ?_|refine kp @zO_ ?_
       refine Jump.mk (NumS.mk true (k+1) (n+c.toNat%128*128^k) 0) rfl (by show 7 - (k+1)<7 - k;omega) ⟨by show a+ (k+1)≤s.length;omega, ?_⟩ rfl rfl
       show qc_ most (s.drop a) 0 0=qc_ most (s.drop (a+ (k+1))) (k+1) (n+c.toNat%128*128^k)∧n+c.toNat%128*128^k<128^ (k+1)∧k+1<6
       refine⟨?_,hlt,by omega⟩
       rw[hgo,qc_,if_pos hc128,if_neg (by omega)]
       rfl
  ·intro key
   have key0:=fun f'=>key (NumS.mk true 0 0 0) f'
   simp only[QC_,hasL,Bool.or_false,Bool.false_or,Bool.or_true,Bool.true_or,Nat.reduceBEq,beq_self_eq_true, ↓reduceIte,Bool.false_eq_true] at key0
   clear key
   repeat ((try with_reducible refine Cw.go [999999] ?_);(simp(disch:=(first|assumption|omega| (simp only[qF_,qC_,UInt64.reduceToNat];try omega))) only[↓Sx.S0,Sx.S1,Tryz.fx,zO_,Nat.reduceAdd,Nat.reducePow,Int.reducePow,Nat.reduceBEq, ↓reduceIte,UInt8.reduceToNat,UInt16.reduceToNat,UInt32.reduceToNat,UInt64.reduceToNat,Int.reduceToNat]))
   refine Ow.callFV rfl Tryz.call218 (fun w' hw'=>Zk_ b s a 0 w' (hw'.has _ _ List.mem_cons_self)) ?_
   refine ko @zO_ ?_
   repeat ((try with_reducible refine Cw.go [999999] ?_);(simp(disch:=(first|assumption|omega| (simp only[qF_,qC_,UInt64.reduceToNat];try omega))) only[↓Sx.S0,Sx.S1,Tryz.fx,zO_,Nat.reduceAdd,Nat.reducePow,Int.reducePow,Nat.reduceBEq, ↓reduceIte,UInt8.reduceToNat,UInt16.reduceToNat,UInt32.reduceToNat,UInt64.reduceToNat,Int.reduceToNat]))
   repeat ((try with_reducible refine Cw.go [999999] ?_);(simp(disch:=(first|assumption|omega| (simp only[qF_,qC_,UInt64.reduceToNat];try omega))) only[↓Sx.S0,Sx.S1,Tryz.fx,zO_,Nat.reduceAdd,Nat.reducePow,Int.reducePow,Nat.reduceBEq, ↓reduceIte,UInt8.reduceToNat,UInt16.reduceToNat,UInt32.reduceToNat,UInt64.reduceToNat,Int.reduceToNat]))
   refine Cw.regionS [b] [0,1,2,4,3,5] [] (by kernel_rfl) (by kernel_rfl) (by kernel_rfl) ?_
   simp only[zh_, ↓zc_, ↓za_, ↓zk_, ↓zj_,zb_]
   refine kq @zO_ ?_
   try with_reducible refine Ow.nil ?_
   repeat ((try with_reducible refine Cw.go [999999] ?_);(simp(disch:=(first|assumption|omega| (simp only[qF_,qC_,UInt64.reduceToNat];try omega))) only[↓Sx.S0,Sx.S1,Tryz.fx,zO_,Nat.reduceAdd,Nat.reducePow,Int.reducePow,Nat.reduceBEq, ↓reduceIte,UInt8.reduceToNat,UInt16.reduceToNat,UInt32.reduceToNat,UInt64.reduceToNat,Int.reduceToNat]))
   refine Cw.label ?_
   refine key0 _ ⟨by omega,rfl,by omega,by omega⟩ ?_
   rfl
 ·refine Cw.scopeS ?_
  first|with_reducible refine ks [] @zO_ ?_|refine kp @zO_ ?_
  refine Ow.callFV rfl Tryz.call218 (fun w' hw'=>Zk_ b s a e w' (hw'.has _ _ List.mem_cons_self)) ?_
  refine ko @zO_ ?_
  first|with_reducible refine ks [] @zO_ ?_|refine kp @zO_ ?_
  unfold qB_
  refine⟨_,_,_,(ke @zO_),rfl,trivial, ?_⟩
  simp[he,kC_]
end Go.Proofs
end
section
open Go Go.Proofs Go.Sx
namespace Go.Proofs
set_option maxRecDepth 10000
set_option maxHeartbeats 2000000
set_option linter.unusedSimpArgs false
set_option linter.defProp false
def jh_:=And.intro (And.intro (And.intro (@xK_) (@xP_)) (And.intro (@xW_) (@xc_))) (And.intro (And.intro (@xh_) (@nilR)) (And.intro (@ame_) (And.intro (@akQ_) (@aif_))))
theorem Vk_ (most:Int): ∀ (l:List UInt8) (k n m k':Nat),qc_ most l k n= .ok (m,k')→k<k'∧k'≤k+l.length
 | [],k,n,m,k',h=>by cases h
 |c::r,k,n,m,k',h=>by
  unfold qc_ at h
  split at h
  ·split at h
   ·cases h
   ·have:=Vk_ most r (k+1) _ m k' h
    simp only[List.length_cons];omega
  ·split at h
   ·cases h
   ·split at h
    ·cases h;simp only[List.length_cons];omega
    ·cases h
theorem xD_ {s:List UInt8} {a:Nat} {e most:Int} (ha:a≤s.length):a≤ (qB_ s a e most).2.1∧(qB_ s a e most).2.1≤s.length:=by
 unfold qB_
 split
 ·exact⟨Nat.le_refl _,ha⟩
 ·cases h:qc_ most (s.drop a) 0 0 with
  |error x=>exact⟨Nat.le_refl _,ha⟩
  |ok p=>
   obtain⟨n,k⟩:=p
   have:=Vk_ most _ _ _ _ _ h
   rw[List.length_drop] at this
   exact⟨by show a≤a+k;omega,by show a+k≤s.length;omega⟩
theorem abC_ {s:List UInt8} {a:Nat} {e n:Int} (ha:a≤s.length):a≤ (vA_ s a e n).2.1∧(vA_ s a e n).2.1≤s.length:=by
 unfold vA_
 split
 ·exact⟨Nat.le_refl _,ha⟩
 ·split
  ·exact⟨Nat.le_refl _,ha⟩
  ·split
   ·exact⟨Nat.le_refl _,ha⟩
   ·exact⟨by show a≤a+n.toNat;omega,by show a+n.toNat≤s.length;omega⟩
def ql_ (s:List UInt8) (a:Nat) (e most:Int):List UInt8×Nat×Int:=
 let p:=qB_ s a e most
 let q:=vA_ s p.2.1 p.2.2 p.1
 if q.2.2≠0 then([],a,q.2.2) else q
theorem Kd_ (b:Nat) (s:List UInt8) (a:Nat) (e most:Int) (w:World) (ha:a≤s.length) (hs:s.length<9223372036854775808) (ho:w.heap[b]? =some (.cells #[vs s,vi a,vi e] 314 (0,0))):
  Rets Tryz.prog 202 #[vp b 0,vi most] w (fun v D=> ∃o,D= [(b,o)]∧v=vs (ql_ s a e most).1∧o= .cells #[vs s,vi (ql_ s a e most).2.1,vi (ql_ s a e most).2.2] 314 (0,0)):=by
 refine Rets.enterM Tryz.func202 rfl (rs:= [.tmp 4]) Tryz.results202 Tryz.ntmps202 ho ?_
 refine kf ?_
 first|with_reducible refine ks [] @jh_ ?_|refine kp @jh_ ?_
 refine Ow.callFV rfl Tryz.call168 (fun w' hw'=>aip_ b s a e w' (hw'.has _ _ List.mem_cons_self)) ?_
 refine ko @jh_ ?_
 first|with_reducible refine ks [] @jh_ ?_|refine kp @jh_ ?_
 have hp:=xD_ (e:=e) (most:=most) ha
 unfold ql_
 refine Ow.callM rfl rfl Tryz.call165 (by simp[keys]) (fun w' hw'=>vQ_ b s a e most w' ha hs (hw'.has _ _ List.mem_cons_self)) ?_
 generalize qB_ s a e most=p at*
 obtain⟨n,a1,e1⟩:=p
 simp only at hp ⊢
 refine ko @jh_ ?_
 refine Ow.callM rfl rfl Tryz.call234 (by simp[keys]) (fun w' hw'=>aae_ b s a1 e1 n w' hp.2 hs (hw'.has _ _ List.mem_cons_self)) ?_
 have hq:=abC_ (e:=e1) (n:=n) hp.2
 generalize vA_ s a1 e1 n=q at*
 obtain⟨t,a2,e2⟩:=q
 simp only at hq ⊢
 refine ko @jh_ ?_
 first|with_reducible refine ks [] @jh_ ?_|refine kp @jh_ ?_
 by_cases he:e2=0
 ·first|with_reducible refine ks [] @jh_ ?_|refine kp @jh_ ?_
  refine⟨_,_,_,(ke @jh_),rfl,trivial, ?_⟩
  simp[he,kC_]
 ·first|with_reducible refine ks [] @jh_ ?_|refine kp @jh_ ?_
  refine Ow.minI rfl rfl rfl ?_
  have hmin: (if(a:Int)< (a2:Int) then(a:Int) else(a2:Int))=a:=by split<;>omega
  rw[hmin]
  refine ko @jh_ ?_
  first|with_reducible refine ks [] @jh_ ?_|refine kp @jh_ ?_
  refine⟨_,_,_,(ke @jh_),rfl,trivial, ?_⟩
  simp[he,kC_]
def z32:List UInt8:=List.replicate 32 0
def idR (s:List UInt8) (a:Nat) (e:Int):List UInt8×Nat×Int:=
 let q:=vA_ s a e 32
 (if q.1.length=32 then q.1 else z32,q.2)
theorem adF_ {s:List UInt8} {a:Nat} {e:Int} (_ha:a≤s.length): (vA_ s a e 32).1= []∨(vA_ s a e 32).1.length=32:=by
 unfold vA_
 split
 ·exact .inl rfl
 ·split
  ·exact .inl rfl
  ·split
   ·exact .inl rfl
   ·right
    show((s.drop a).take 32).length=32
    rw[List.length_take,List.length_drop];omega
theorem alb_ {t:List UInt8} (h:t= []∨t.length=32):xA_ (a8 (List.replicate 32 0)) 0 ((t.take (min t.length 32)).map v8)=a8 (if t.length=32 then t else z32):=by
 rcases h with rfl|h
 ·rfl
 ·rw[if_pos h,h,Nat.min_self,List.take_of_length_le (by omega)]
  have:=Q4_ (t.map v8) [] ((List.replicate 32 (0:UInt8)).map v8) (by simp[h])
  simp only[List.nil_append,List.length_nil] at this
  show xA_ ((List.replicate 32 (0:UInt8)).map v8).toArray 0 (t.map v8)=(t.map v8).toArray
  rw[this]
  rw[List.drop_eq_nil_of_le (by simp[h]),List.append_nil]
theorem K3_ (b:Nat) (s:List UInt8) (a:Nat) (e:Int) (w:World) (ha:a≤s.length) (hs:s.length<9223372036854775808) (ho:w.heap[b]? =some (.cells #[vs s,vi a,vi e] 314 (0,0))):
  Rets Tryz.prog 203 #[vp b 0] w (fun v D=> ∃o,D= [(b,o)]∧v= .agg (a8 (idR s a e).1)∧o= .cells #[vs s,vi (idR s a e).2.1,vi (idR s a e).2.2] 314 (0,0)):=by
 have hbl:=(Array.getElem?_eq_some_iff.1 ho).1
 have hq:=adF_ (e:=e) ha
 unfold idR
 refine Rets.enterM Tryz.func203 rfl (rs:= [.cell 2 24]) Tryz.results203 Tryz.ntmps203 ho ?_
 refine kf ?_
 first|with_reducible refine ks [] @jh_ ?_|refine kp @jh_ ?_
 refine Ow.alloc rfl rfl Tryz.zr24 fun b2 hb2 hw2=> ?_
 refine ko @jh_ ?_
 first|with_reducible refine ks [] @jh_ ?_|refine kp @jh_ ?_
 refine Ow.alloc rfl rfl Tryz.zr24 fun b3 hb3 hw3=> ?_
 obtain⟨h13,h23,-⟩:=hb3
 obtain⟨h12,-⟩:=hb2
 refine ko @jh_ ?_
 first|with_reducible refine ks [] @jh_ ?_|refine kp @jh_ ?_
 refine Cw.regionS [] [0,1,2,3] [] (by kernel_rfl) (by kernel_rfl) (by kernel_rfl) ?_
 simp only[zh_, ↓zc_, ↓za_, ↓zk_, ↓zj_,zb_]
 refine kq @jh_ ?_
 refine Ow.soft rfl rfl rfl ?_
 refine Ow.callM rfl rfl Tryz.call234 (by simp[keys]) (fun w' hw'=>aae_ b s a e 32 w' ha hs (hw'.has _ _ List.mem_cons_self)) ?_
 generalize vA_ s a e 32=q at*
 obtain⟨t,a2,e2⟩:=q
 simp only at hq ⊢
 try with_reducible refine Ow.nil ?_
 refine⟨fun b hb=>absurd hb (by simp), ?_⟩
 simp(disch:=omega) only[qt_]
 refine Ow.soft rfl rfl rfl ?_
 refine Ow.copyText (cs:=a8 (List.replicate 32 0)) (E:=24) (e:=5) rfl rfl Tryz.underlying232 Tryz.ag5 rfl rfl (by simp(disch:=omega) only[zY_,zH_]) (by rw[wU_];simp) ?_
 rw[alb_ hq]
 have hil: (if t.length=32 then t else z32).length=32:=by
  split
  ·assumption
  ·simp[z32]
 generalize (if t.length=32 then t else z32)=id at*
 try with_reducible refine Ow.nil ?_
 refine⟨fun b hb=>absurd hb (by simp), ?_⟩
 simp(disch:=omega) only[qt_,z6_]
 refine kq @jh_ ?_
 try with_reducible refine Ow.nil ?_
 first|with_reducible refine ks [] @jh_ ?_|refine kp @jh_ ?_
 refine⟨_,_,_,(ke @jh_),rfl,⟨hw2,hw3,trivial⟩, ?_⟩
 exact⟨rfl,rfl⟩
theorem agc_ (s:List UInt8) (w:World):
  Rets Tryz.prog 147 #[vs s] w (fun v D=> ∃b,w.heap.size≤b∧v=vp b 0∧D= [(b, .cells #[vs s,vi 0,vi 0] 314 (0,0))]):=by
 refine Rets.enter Tryz.func147 rfl (rs:= [.tmp 2]) Tryz.results147 Tryz.ntmps147 ?_
 refine kf ?_
 first|with_reducible refine ks [] @jh_ ?_|refine kp @jh_ ?_
 refine Ow.build (.agg #[vs s,vi 0,vi 0]) rfl (by kernel_rfl) ?_
 refine ko @jh_ ?_
 refine Ow.box rfl rfl fun b1 hb1 hw1=> ?_
 refine ko @jh_ ?_
 first|with_reducible refine ks [] @jh_ ?_|refine kp @jh_ ?_
 refine⟨_,(by simp only[wc_,w5_,QW_,zT_,z1_,Kn_];rfl),b1,hw1,rfl, ?_⟩
 rfl
end Go.Proofs
end
section
open Go Go.Proofs Go.Sx
namespace Go.Proofs
set_option maxRecDepth 10000
set_option maxHeartbeats 4000000
set_option linter.unusedSimpArgs false
set_option linter.defProp false
def zE_:=And.intro (And.intro (And.intro (@zJ_) (@Q3_)) (And.intro (@QZ_) (And.intro (@QR_) (@zI_)))) (And.intro (And.intro (@xK_) (@xP_)) (And.intro (@xW_) (And.intro (@xc_) (@xh_))))
theorem Ju_ (b:Nat) (s:List UInt8) (a:Nat) (e n:Int) (w:World) (ha:a≤s.length) (hs:s.length<1099511627776) (ho:w.heap[b]? =some (.cells #[vs s,vi a,vi e] 243 (0,0))):
  Rets Tryz.prog 194 #[vp b 0,vi n] w (fun v D=> ∃o,D= [(b,o)]∧v=vs (vA_ s a e n).1∧o= .cells #[vs s,vi (vA_ s a e n).2.1,vi (vA_ s a e n).2.2] 243 (0,0)):=by
 refine Rets.enterM Tryz.func194 rfl (rs:= [.tmp 4]) Tryz.results194 Tryz.ntmps194 ho ?_
 refine kf ?_
 first|with_reducible refine ks [] @zE_ ?_|refine kp @zE_ ?_
 unfold vA_
 by_cases he:e=0
 ·subst he
  rw[if_neg (fun h=>h rfl)]
  first|with_reducible refine ks [] @zE_ ?_|refine kp @zE_ ?_
  by_cases hn:n<0
  ·rw[if_pos hn]
   first|with_reducible refine ks [] @zE_ ?_|refine kp @zE_ ?_
   refine⟨_,_,_,(ke @zE_),rfl,trivial, ?_⟩
   exact⟨rfl,rfl⟩
  ·rw[if_neg hn]
   first|with_reducible refine ks [] @zE_ ?_|refine kp @zE_ ?_
   refine Cw.regionS [b] [0,1,2,5,6,7,10,3,4,8,9,11] [] (by kernel_rfl) (by kernel_rfl) (by kernel_rfl) ?_
   simp only[zh_, ↓zc_, ↓za_, ↓zk_, ↓zj_,zb_]
   refine kq @zE_ ?_
   try with_reducible refine Ow.nil ?_
   first|with_reducible refine ks [] @zE_ ?_|refine kp @zE_ ?_
   by_cases hl: (s.length:Int) - a<n
   ·rw[if_pos hl]
    first|with_reducible refine ks [] @zE_ ?_|refine kp @zE_ ?_
    refine⟨_,_,_,(ke @zE_),rfl,trivial, ?_⟩
    exact⟨rfl,rfl⟩
   ·rw[if_neg hl]
    obtain⟨m,rfl⟩: ∃m:Nat,n=(m:Int):=⟨n.toNat,by omega⟩
    first|with_reducible refine ks [] @zE_ ?_|refine kp @zE_ ?_
    refine Cw.regionS [b] [0,1,2,4,5,6,8,9,10,12,3,7,11,13,14,15] [] (by kernel_rfl) (by kernel_rfl) (by kernel_rfl) ?_
    simp only[zh_, ↓zc_, ↓za_, ↓zk_, ↓zj_,zb_]
    refine kq @zE_ ?_
    try with_reducible refine Ow.nil ?_
    first|with_reducible refine ks [] @zE_ ?_|refine kp @zE_ ?_
    refine⟨_,_,_,(ke @zE_),rfl,trivial, ?_⟩
    refine⟨?_, ?_⟩
    ·simp only[kC_,Int.toNat_natCast]
     rw[List.drop_take,Nat.add_sub_cancel_left]
    ·rw[Int.toNat_natCast,Int.natCast_add]
 ·rw[if_pos he]
  first|with_reducible refine ks [] @zE_ ?_|refine kp @zE_ ?_
  refine⟨_,_,_,(ke @zE_),rfl,trivial, ?_⟩
  exact⟨rfl,rfl⟩
theorem wQ_ (b:Nat) (s:List UInt8) (a e:Int) (w:World) (ho:w.heap[b]? =some (.cells #[vs s,vi a,vi e] 243 (0,0))):
  Rets Tryz.prog 131 #[vp b 0] w (fun v D=>v=vi (if e≠0 then e else if a<s.length then 5 else 0)∧D= []):=by
 refine Rets.enterV Tryz.func131 rfl (rs:= [.tmp 2]) Tryz.results131 Tryz.ntmps131 ?_
 refine kf ?_
 first|with_reducible refine ks [] (And.intro @zE_ @ho) ?_|refine kp (And.intro @zE_ @ho) ?_
 by_cases he:e=0
 ·first|with_reducible refine ks [] @zE_ ?_|refine kp @zE_ ?_
  refine Cw.regionS [b] [0,1,2,4,5,6,3,7,8,9] [] (by kernel_rfl) (by kernel_rfl) (by kernel_rfl) ?_
  simp only[zh_, ↓zc_, ↓za_, ↓zk_, ↓zj_,zb_]
  refine kq (And.intro @zE_ @ho) ?_
  try with_reducible refine Ow.nil ?_
  first|with_reducible refine ks [] @zE_ ?_|refine kp @zE_ ?_
  refine cdC.splitp (fun hc=> ?_) (fun hc=> ?_)
  ·first|with_reducible refine ks [] @zE_ ?_|refine kp @zE_ ?_
   refine⟨_,(ke @zE_),trivial, ?_⟩
   simp[hc,he,kC_]
  ·first|with_reducible refine ks [] @zE_ ?_|refine kp @zE_ ?_
   refine⟨_,(ke @zE_),trivial, ?_⟩
   simp[hc,he,kC_]
 ·first|with_reducible refine ks [] (And.intro @zE_ @ho) ?_|refine kp (And.intro @zE_ @ho) ?_
  refine⟨_,(ke @zE_),trivial, ?_⟩
  simp[he,kC_]
structure KN where
 k:Nat
 n:Nat
theorem kE_ (b:Nat) (s:List UInt8) (a:Nat) (e most:Int) (w:World) (ha:a≤s.length) (hs:s.length<1099511627776) (ho:w.heap[b]? =some (.cells #[vs s,vi a,vi e] 243 (0,0))):
  Rets Tryz.prog 128 #[vp b 0,vi most] w (fun v D=> ∃o,D= [(b,o)]∧v=vi (qB_ s a e most).1∧o= .cells #[vs s,vi (qB_ s a e most).2.1,vi (qB_ s a e most).2.2] 243 (0,0)):=by
 refine Rets.enterM Tryz.func128 rfl (rs:= [.tmp 4]) Tryz.results128 Tryz.ntmps128 ho ?_
 refine kf ?_
 first|with_reducible refine ks [] @zE_ ?_|refine kp @zE_ ?_
 by_cases he:e=0
 ·subst he
  first|with_reducible refine ks [] @zE_ ?_|refine kp @zE_ ?_
  refine Cw.loopG (G:=KN) [14,15,18,19,20,21,22,23,24,25,26,27,28,29,30,31,32,4,33,34,35,36,37,38,39,40,41,42,43,44,8,45,46,47,48,49,50,5,51,52,6,53,54,55,56,57,58,59,60,61,62,63,64,65,66,67,68,69,70,71,72,73,74,75,76,77,78,79,80,81,82,83,84,16,17,7] (fun g=> [(5,vi g.n),(6,vi (128^g.k:Nat)),(7,vi g.k)]) (fun g=> [(b, .cells #[vs s,vi a,vi 0] 243 (0,0))]) (fun g=>g.k≤6∧(g.k<6→qc_ most (s.drop a) 0 0=qc_ most (s.drop (a+g.k)) g.k g.n∧a+g.k≤s.length∧g.n<128^g.k)∧(g.k=6→qc_ most (s.drop a) 0 0= .error 4)) (fun g=>6 - g.k) ⟨0,0⟩ rfl rfl ?_ ?_
  ·exact⟨by simp,fun _=>⟨rfl,by simpa using ha,by simp⟩,fun h=>by cases h⟩
  intro g j hg
  refine kv ?_
  obtain⟨k,n⟩:=g
  simp only at hg ⊢
  obtain⟨hk6,hg1,hg2⟩:=hg
  by_cases hk:k<6
  ·obtain⟨hgo,hak,hn⟩:=hg1 hk
   first|with_reducible refine ks [] @zE_ ?_|refine kp @zE_ ?_
   refine Cw.regionS [b] [0,1,2,4,6,7,8,3,5,9,10,11] [] (by kernel_rfl) (by kernel_rfl) (by kernel_rfl) ?_
   simp only[zh_, ↓zc_, ↓za_, ↓zk_, ↓zj_,zb_]
   refine kq @zE_ ?_
   try with_reducible refine Ow.nil ?_
   first|with_reducible refine ks [] @zE_ ?_|refine kp @zE_ ?_
   by_cases hend:a+k=s.length
   ·first|with_reducible refine ks [] @zE_ ?_|refine kp @zE_ ?_
    rw[jQ_ (x:=3) rfl (by rw[hgo,hend,List.drop_length];rfl)]
    refine⟨_,_,_,(ke @zE_),rfl,trivial, ?_⟩
    exact⟨rfl,rfl⟩
   ·have hak':a+k<s.length:=by omega
    have hdrop:s.drop (a+k)=s.getD (a+k) 0::s.drop (a+k+1):=by
     rw[List.drop_eq_getElem_cons hak',List.getD_eq_getElem?_getD,List.getElem?_eq_getElem hak'];rfl
    rw[hdrop] at hgo
    first|with_reducible refine ks [] @zE_ ?_|refine kp @zE_ ?_
    refine Cw.regionS [b] [0,1,2,4,5,6,8,3,7,9,10,11,12] [] (by kernel_rfl) (by kernel_rfl) (by kernel_rfl) ?_
    simp only[zh_, ↓zc_, ↓za_, ↓zk_, ↓zj_,zb_]
    have hcast: ((a:Int)+ (k:Int))=((a+k:Nat):Int):=by omega
    refine kq (And.intro @zE_ @hcast) ?_
    try with_reducible refine Ow.nil ?_
    generalize s.getD (a+k) 0=c at*
    have hp:128^k≤34359738368:=Nat.pow_le_pow_right (by omega) (show k≤5 by omega)
    have hp0:0<128^k:=Nat.pow_pos (by omega)
    have hcl:=c.toNat_lt
    have hdm:c.toNat%128*128^k≤127*128^k:=Nat.mul_le_mul_right _ (by omega)
    have hcm: ((c.toNat:Int)%128)=((c.toNat%128:Nat):Int):=by omega
    have hmul:zw_ .mul (vi ((c.toNat%128:Nat):Int)) (vi ((128^k:Nat):Int))=some (vi ((c.toNat%128*128^k:Nat):Int)):=by
     rw[Wr_ _ _ (by rw[←Int.natCast_mul];omega),←Int.natCast_mul]
    have hpow: (((128^k:Nat):Int)*128)=((128^ (k+1):Nat):Int):=by rw[Nat.pow_succ,Int.natCast_mul];rfl
    have hlt:n+c.toNat%128*128^k<128^ (k+1):=by rw[Nat.pow_succ];omega
    first|with_reducible refine ks [] (And.intro @zE_ (And.intro @hcm (And.intro @hmul (@hpow)))) ?_|refine kp (And.intro @zE_ (And.intro @hcm (And.intro @hmul (@hpow)))) ?_
    rw[show((n:Int)+ ((c.toNat%128*128^k:Nat):Int))=((n+c.toNat%128*128^k:Nat):Int) from(Int.natCast_add _ _).symm]
    by_cases hc128:128≤c.toNat
    ·first|with_reducible refine ks [] @zE_ ?_|refine kp @zE_ ?_
     refine Again.mk (KN.mk (k+1) (n+c.toNat%128*128^k)) (by show 6 - (k+1)<6 - k;omega) ⟨by show k+1≤6;omega,fun h=>⟨?_,by show a+ (k+1)≤s.length;omega,hlt⟩,fun h=> ?_⟩ rfl rfl
     ·show qc_ most (s.drop a) 0 0=qc_ most (s.drop (a+ (k+1))) (k+1) (n+c.toNat%128*128^k)
      have h':k+1<6:=h
      rw[hgo,qc_,if_pos hc128,if_neg (by omega)]
      rfl
     ·have h':k+1=6:=h
      rw[hgo,qc_,if_pos hc128,if_pos h']
    ·by_cases hz:c.toNat=0
     ·have e0: ((c.toNat:Int)==0)=true:=by simp[hz]
      first|with_reducible refine ks [] (And.intro @zE_ @e0) ?_|refine kp (And.intro @zE_ @e0) ?_
      by_cases hk0:0<k
      ·first|with_reducible refine ks [] @zE_ ?_|refine kp @zE_ ?_
       rw[jQ_ (x:=2) rfl (by rw[hgo,qc_,if_neg hc128,if_pos ⟨hz,hk0⟩])]
       refine⟨_,_,_,(ke @zE_),rfl,trivial, ?_⟩
       exact⟨rfl,rfl⟩
      ·have hc0: ¬ (c.toNat=0∧0<k):=fun h=>hk0 h.2
       first|with_reducible refine ks [] @zE_ ?_|refine kp @zE_ ?_
       by_cases hm:n+c.toNat%128*128^k≤1099511627775
       ·have e1:decide ((1099511627775:Int)< ((n+c.toNat%128*128^k:Nat):Int))=false:=decide_eq_false (by omega)
        first|with_reducible refine ks [] (And.intro @zE_ @e1) ?_|refine kp (And.intro @zE_ @e1) ?_
        by_cases hmo: ((n+c.toNat%128*128^k:Nat):Int)≤most
        ·first|with_reducible refine ks [] @zE_ ?_|refine kp @zE_ ?_
         rw[JW_ rfl (by rw[hgo,qc_,if_neg hc128,if_neg hc0,if_pos ⟨hm,hmo⟩])]
         refine⟨_,_,_,(ke @zE_),rfl,trivial, ?_⟩
         exact⟨rfl,rfl⟩
        ·first|with_reducible refine ks [] @zE_ ?_|refine kp @zE_ ?_
         rw[jQ_ (x:=4) rfl (by rw[hgo,qc_,if_neg hc128,if_neg hc0,if_neg (fun h=>hmo h.2)])]
         refine⟨_,_,_,(ke @zE_),rfl,trivial, ?_⟩
         exact⟨rfl,rfl⟩
       ·have e1:decide ((1099511627775:Int)< ((n+c.toNat%128*128^k:Nat):Int))=true:=decide_eq_true (by omega)
        first|with_reducible refine ks [] (And.intro @zE_ @e1) ?_|refine kp (And.intro @zE_ @e1) ?_
        rw[jQ_ (x:=4) rfl (by rw[hgo,qc_,if_neg hc128,if_neg hc0,if_neg (fun h=>hm h.1)])]
        refine⟨_,_,_,(ke @zE_),rfl,trivial, ?_⟩
        exact⟨rfl,rfl⟩
     ·have e0: ((c.toNat:Int)==0)=false:=by simp;omega
      have hc0: ¬ (c.toNat=0∧0<k):=fun h=>hz h.1
      first|with_reducible refine ks [] (And.intro @zE_ @e0) ?_|refine kp (And.intro @zE_ @e0) ?_
      by_cases hm:n+c.toNat%128*128^k≤1099511627775
      ·have e1:decide ((1099511627775:Int)< ((n+c.toNat%128*128^k:Nat):Int))=false:=decide_eq_false (by omega)
       first|with_reducible refine ks [] (And.intro @zE_ @e1) ?_|refine kp (And.intro @zE_ @e1) ?_
       by_cases hmo: ((n+c.toNat%128*128^k:Nat):Int)≤most
       ·first|with_reducible refine ks [] @zE_ ?_|refine kp @zE_ ?_
        rw[JW_ rfl (by rw[hgo,qc_,if_neg hc128,if_neg hc0,if_pos ⟨hm,hmo⟩])]
        refine⟨_,_,_,(ke @zE_),rfl,trivial, ?_⟩
        exact⟨rfl,rfl⟩
       ·first|with_reducible refine ks [] @zE_ ?_|refine kp @zE_ ?_
        rw[jQ_ (x:=4) rfl (by rw[hgo,qc_,if_neg hc128,if_neg hc0,if_neg (fun h=>hmo h.2)])]
        refine⟨_,_,_,(ke @zE_),rfl,trivial, ?_⟩
        exact⟨rfl,rfl⟩
      ·have e1:decide ((1099511627775:Int)< ((n+c.toNat%128*128^k:Nat):Int))=true:=decide_eq_true (by omega)
       first|with_reducible refine ks [] (And.intro @zE_ @e1) ?_|refine kp (And.intro @zE_ @e1) ?_
       rw[jQ_ (x:=4) rfl (by rw[hgo,qc_,if_neg hc128,if_neg hc0,if_neg (fun h=>hm h.1)])]
       refine⟨_,_,_,(ke @zE_),rfl,trivial, ?_⟩
       exact⟨rfl,rfl⟩
  ·have hke:k=6:=by omega
   first|with_reducible refine ks [] @zE_ ?_|refine kp @zE_ ?_
   rw[jQ_ (x:=4) rfl (hg2 hke)]
   refine⟨_,_,_,(ke @zE_),rfl,trivial, ?_⟩
   exact⟨rfl,rfl⟩
 ·first|with_reducible refine ks [] @zE_ ?_|refine kp @zE_ ?_
  unfold qB_
  refine⟨_,_,_,(ke @zE_),rfl,trivial, ?_⟩
  simp[he,kC_]
end Go.Proofs
end
section
open Go Go.Proofs Go.Sx
namespace Go.Proofs
set_option maxRecDepth 10000
set_option maxHeartbeats 4000000
set_option linter.unusedSimpArgs false
set_option linter.defProp false
def jy_:=And.intro (And.intro (And.intro (@zJ_) (@Q3_)) (And.intro (@QZ_) (And.intro (@QR_) (@zI_)))) (And.intro (And.intro (@xK_) (@xP_)) (And.intro (@xW_) (And.intro (@xc_) (@xh_))))
theorem Qw_ (b:Nat) (s:List UInt8) (a:Nat) (e most:Int) (w:World) (ha:a≤s.length) (hs:s.length<1099511627776) (ho:w.heap[b]? =some (.cells #[vs s,vi a,vi e] 243 (0,0))):
  Rets Tryz.prog 129 #[vp b 0,vi most] w (fun v D=> ∃o,D= [(b,o)]∧v=vs (ql_ s a e most).1∧o= .cells #[vs s,vi (ql_ s a e most).2.1,vi (ql_ s a e most).2.2] 243 (0,0)):=by
 refine Rets.enterM Tryz.func129 rfl (rs:= [.tmp 4]) Tryz.results129 Tryz.ntmps129 ho ?_
 refine kf ?_
 first|with_reducible refine ks [] @jy_ ?_|refine kp @jy_ ?_
 by_cases he:e=0
 ·first|with_reducible refine ks [] @jy_ ?_|refine kp @jy_ ?_
  have hp:=xD_ (e:=e) (most:=most) ha
  unfold ql_
  refine Ow.callM rfl rfl Tryz.call128 (by simp[keys]) (fun w' hw'=>kE_ b s a e most w' ha hs (hw'.has _ _ List.mem_cons_self)) ?_
  generalize qB_ s a e most=p at*
  obtain⟨n,a1,e1⟩:=p
  simp only at hp ⊢
  refine ko @jy_ ?_
  first|with_reducible refine ks [] @jy_ ?_|refine kp @jy_ ?_
  refine Ow.callM rfl rfl Tryz.call194 (by simp[keys]) (fun w' hw'=>Ju_ b s a1 e1 n w' hp.2 hs (hw'.has _ _ List.mem_cons_self)) ?_
  generalize vA_ s a1 e1 n=q at*
  obtain⟨t,a2,e2⟩:=q
  simp only
  refine ko @jy_ ?_
  first|with_reducible refine ks [] @jy_ ?_|refine kp @jy_ ?_
  by_cases he2:e2=0
  ·first|with_reducible refine ks [] @jy_ ?_|refine kp @jy_ ?_
   refine⟨_,_,_,(ke @jy_),rfl,trivial, ?_⟩
   simp[he2,kC_]
  ·first|with_reducible refine ks [] @jy_ ?_|refine kp @jy_ ?_
   refine⟨_,_,_,(ke @jy_),rfl,trivial, ?_⟩
   simp[he2,kC_]
 ·first|with_reducible refine ks [] @jy_ ?_|refine kp @jy_ ?_
  have:ql_ s a e most=([],a,e):=by
   unfold ql_ qB_ vA_
   simp[he]
  rw[this]
  refine⟨_,_,_,(ke @jy_),rfl,trivial, ?_⟩
  exact⟨rfl,rfl⟩
def Vb_ (t:List UInt8) (g:Nat):List UInt8:=t.take g++List.replicate (32 - g) 0
theorem ahI_ (t:List UInt8) (g:Nat) (h:g≤t.length) (h2:t.length≤32): (Vb_ t g).length=32:=by
 unfold Vb_;rw[List.length_append,List.length_take,List.length_replicate];omega
theorem ae5_ (t:List UInt8) (g:Nat) (h:g<t.length) (h2:t.length≤32): (Vb_ t g).set g (t.getD g 0)=Vb_ t (g+1):=by
 unfold Vb_
 have hl: (t.take g).length=g:=by rw[List.length_take];omega
 obtain⟨m,hm⟩: ∃m,32 - g=m+1:=⟨31 - g,by omega⟩
 rw[hm,List.replicate_succ,List.set_append_right _ _ (by omega),hl,Nat.sub_self,List.set_cons_zero,List.take_succ_eq_append_getElem h,List.getD_eq_getElem?_getD,List.getElem?_eq_getElem h,show 32 - (g+1)=m by omega,List.append_assoc]
 rfl
theorem afQ_ (t:List UInt8) (h:t= []∨t.length=32):Vb_ t t.length=(if t.length=32 then t else z32):=by
 unfold Vb_
 rcases h with rfl|h
 ·rfl
 ·rw[if_pos h,h,List.take_of_length_le (by omega)];simp
theorem Z7_ (b:Nat) (s:List UInt8) (a:Nat) (e:Int) (w:World) (ha:a≤s.length) (hs:s.length<1099511627776) (ho:w.heap[b]? =some (.cells #[vs s,vi a,vi e] 243 (0,0))):
  Rets Tryz.prog 130 #[vp b 0] w (fun v D=> ∃o,D= [(b,o)]∧v= .agg (a8 (idR s a e).1)∧o= .cells #[vs s,vi (idR s a e).2.1,vi (idR s a e).2.2] 243 (0,0)):=by
 have hbl:=(Array.getElem?_eq_some_iff.1 ho).1
 have hq:=adF_ (e:=e) ha
 unfold idR
 refine Rets.enterM Tryz.func130 rfl (rs:= [.cell 2 24]) Tryz.results130 Tryz.ntmps130 ho ?_
 refine kf ?_
 first|with_reducible refine ks [] @jy_ ?_|refine kp @jy_ ?_
 refine Ow.alloc rfl rfl Tryz.zr24 fun b2 hb2 hw2=> ?_
 obtain⟨h12,-⟩:=hb2
 refine ko @jy_ ?_
 first|with_reducible refine ks [] @jy_ ?_|refine kp @jy_ ?_
 refine Ow.callM rfl rfl Tryz.call194 (by simp[keys]) (fun w' hw'=>Ju_ b s a e 32 w' ha hs (hw'.has _ _ List.mem_cons_self)) ?_
 generalize vA_ s a e 32=q at*
 obtain⟨t,a2,e2⟩:=q
 simp only at hq ⊢
 have ht32:t.length≤32:=by rcases hq with rfl|h<;>simp_all
 refine ko @jy_ ?_
 first|with_reducible refine ks [] @jy_ ?_|refine kp @jy_ ?_
 refine Ow.alloc rfl rfl Tryz.zr24 fun b3 hb3 hw3=> ?_
 refine ko @jy_ ?_
 obtain⟨h13,h23,-⟩:=hb3
 rw[show a8 (List.replicate 32 0)=a8 (Vb_ t 0) from rfl]
 first|with_reducible refine ks [] @jy_ ?_|refine kp @jy_ ?_
 refine Cw.loopG (G:=Nat) [8,9,10,11,14,15,16,17,18,12,13,5] (fun g=> [(5,vi g)]) (fun g=> [(b, .cells #[vs s,vi a2,vi e2] 243 (0,0)),(b2, .cells (a8 z32) 24 (0,0)),(b3, .cells (a8 (Vb_ t g)) 24 (0,0))]) (fun g=>g≤t.length) (fun g=>t.length - g) 0 rfl rfl ?_ ?_
 ·omega
 intro g j hg
 refine kv ?_
 by_cases hlt:g<t.length
 ·have hil:=ahI_ t g hg ht32
  first|with_reducible refine ks [] @jy_ ?_|refine kp @jy_ ?_
  refine Again.mk (g+1) (by omega) (by omega) ?_ rfl
  rw[ae5_ t g hlt ht32]
 ·obtain rfl:g=t.length:=by omega
  rw[afQ_ t hq]
  have hil: (if t.length=32 then t else z32).length=32:=by
   split
   ·assumption
   ·simp[z32]
  have hz32:z32.length=32:=by simp[z32]
  generalize (if t.length=32 then t else z32)=id at*
  first|with_reducible refine ks [] @jy_ ?_|refine kp @jy_ ?_
  refine⟨_,_,_,(ke @jy_),rfl,⟨hw2,hw3,trivial⟩, ?_⟩
  exact⟨rfl,rfl⟩
end Go.Proofs
end
