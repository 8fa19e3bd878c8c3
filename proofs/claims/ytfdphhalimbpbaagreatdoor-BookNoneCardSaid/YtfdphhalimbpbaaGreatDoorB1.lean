/-
  Part 1 of the walk: contracts of the functions that the law reaches, and the calculus they stand on.
  No conditions.
-/
import Derived.Test.YtfdphhalimbpbaaGreatDoorB0
import Derived.RangeFuncLeaves
import Derived.RangeFuncIn
import Derived.RangeFuncSeq
import Derived.RangeFuncRecord
import Derived.TacticsIn
import Derived.Maps.RangeRun
import Derived.Test.YtfdphhalimbpbaaGreatDoorProg
import Derived.Lib.Small
import Derived.Lib.Walk
import Derived.Lib.Bytealg
import Derived.Deep.Draws
import Derived.Deep.QuietTactic
import Derived.Lib.Strings
import GoSem.Core.Float
import Derived.Laws.MakeOwn
namespace Go.Sx
open Go
section
variable {P:Program} {w0:World} {f:Fr} {L:za_} {N:Fr→za_→Prop} {ops:Array Oper} {rest:List Oper} {md:Md}
 {d:Option Tmp} {ty:TypeId} {ps:String} {af:Array Edge} {g:Option (Nat×Bool)}
def getV (k:List UInt8) (z:List UInt8) (m:qB_):List UInt8:=match m.find? fun p=>k==p.1 with|some p=>p.2|none=>z
theorem abk_ (k:List UInt8): ∀ (m:qB_) (i:Nat),(fnd k m i).map Prod.snd=(m.find? fun p=>k==p.1).map Prod.snd
 | [],_=>rfl
 |p::r,i=>by
  unfold fnd
  rw[List.find?_cons]
  cases h: (k==p.1)
  ·simp only[Bool.false_eq_true, ↓reduceIte];exact abk_ k r (i+1)
  ·rfl
theorem Ow.mapGet {t kt vt:TypeId} {x y:Operand} {b:Nat} {o:Obj} {m:qB_} {k z:List UInt8} {md':Md} (he:md.turn=some md') (hs:zm_ ops f ⟨d, .lookup t x y false,ty,ps,af,g⟩=false) (hu:P.underlying t=some (.map kt vt)) (huk:P.underlying kt=some .string)
  (hz:zY_ P vt=some (.agg (a8 z))) (hx:ev f x=vm b) (hy:ev f y=vs k) (hl:zs_ w0 L b=some o) (hm:MapR o m)
  (hn:Ow P w0 ops md' rest (qn_ f d (.agg (a8 (getV k z m)))) L N):
  Ow P w0 ops md (⟨d, .lookup t x y false,ty,ps,af,g⟩::rest) f L N:=by
 obtain⟨es,c,rfl,hes,-⟩:=hm
 refine Ow.step he rfl hs fun w hw=> ?_
 have hb:=hw.read hl
 have hfk:=vC_ (w:=w) huk k es.toList m hes
 refine .inl ⟨.agg (a8 (getV k z m)),w,L, ?_,hw,hn⟩
 have hff:=abk_ k m 0
 have: (Instr.lookup t (vm b) (vs k) false).run P w= .ok (.agg (a8 (getV k z m))) w:=by
  cases hf:fnd k m 0 with
  |none=>
   rw[hf] at hfk hff
   have hg:getV k z m=z:=by
    unfold getV
    cases h:m.find? fun p=>k==p.1 with
    |none=>rfl
    |some q=>rw[h] at hff;cases hff
   simp only[Instr.lookup,vm,Sem.run_bind,run_underlying hu w,Result.andThen_ok,zR_ hb,Sem.run_pure,jm_ huk,hfk,Option.map_none,jv_ hz w,hg,Bool.false_eq_true, ↓reduceIte]
  |some p=>
   obtain⟨j,a⟩:=p
   rw[hf] at hfk hff
   have hg:getV k z m=a:=by
    unfold getV
    cases h:m.find? fun p=>k==p.1 with
    |none=>rw[h] at hff;cases hff
    |some q=>rw[h] at hff;simp only[Option.map_some,Option.some.injEq] at hff;exact hff.symm
   simp only[Instr.lookup,vm,Sem.run_bind,run_underlying hu w,Result.andThen_ok,zR_ hb,Sem.run_pure,jm_ huk,hfk,Option.map_some,hg,Bool.false_eq_true, ↓reduceIte]
 simp only[execOp,Sem.run_bind,hx,hy]
 rw[this];rfl
end
end Go.Sx
namespace Go.Sx
open Go
theorem aiz_ (A B C:List Value) {o n:Nat} (hA:A.length=o) (hB:B.length=n): (A++ (B++C)).toArray.extract o (o+n)=B.toArray:=by
 subst hA;subst hB
 rw[List.extract_toArray,List.extract_eq_take_drop,List.drop_left,Nat.add_sub_cancel_left,List.take_left]
theorem ajI_ (A C:List Value) (v:Value) {o:Nat} (hA:A.length=o): (A++ ([v]++C)).toArray[o]? =some v:=by
 subst hA;simp
theorem ahN_ (A B C:List Value) {o n:Nat} (E:TypeId) (fz:Nat×Nat) (hA:A.length=o) (hB:B.length=n):zD_ (some (true,n)) (some (.cells (A++ (B++C)).toArray E fz)) o=some (.agg B.toArray):=by
 have hs:o+n≤ (A++ (B++C)).toArray.size:=by
  simp only[List.size_toArray,List.length_append];omega
 unfold zD_
 simp only[hs, ↓reduceIte]
 rw[aiz_ A B C hA hB]
theorem vY_ (A C:List Value) (v:Value) {o:Nat} (n:Nat) (E:TypeId) (fz:Nat×Nat) (hA:A.length=o):zD_ (some (false,n)) (some (.cells (A++ ([v]++C)).toArray E fz)) o=some v:=by
 rw[loadV_one];exact ajI_ A C v hA
theorem qG_ (A B B' C:List Value) {o n:Nat} (a:Bool) (x:Value) (E:TypeId) (hA:A.length=o) (hB:B.length=n) (hx:x.cells=B'.toArray) (hB':B'.length=n) (ho:B'.all Value.oneCell'=true):
  zz_ (some (a,n)) (some (.cells (A++ (B++C)).toArray E (0,0))) o x=some (.cells (A++ (B'++C)).toArray E (0,0)):=by
 subst hA
 have hp:=adV_ B' A B C (by rw[hB,hB'])
 rw[List.append_assoc,List.append_assoc] at hp
 unfold zz_
 simp only[hx]
 rw[if_pos ⟨by rw[List.size_toArray,hB'],by simp only[List.size_toArray,List.length_append];omega, .inl (Nat.le_refl 0),ho⟩,hp]
theorem RowS.part {α:Type} {m:Nat} {enc:α→List Value} {z:α} {w:World} {v:Value} {l:List α} {b off:Nat} {arr:Array Value} {E:TypeId} {fz:Nat×Nat} (h:RowS m enc z w v l b off arr E fz) (hm: ∀x,(enc x).length=m) {k o n:Nat} (hk:k<l.length) (ho:o+n≤m) (hn:0<n):
  zD_ (some (true,n)) (some (.cells arr E fz)) (off+k*m+o)=some (.agg ((enc (l.getD k z)).toArray.extract o (o+n))):=by
 have hg: ∀i,i<n→arr[off+k*m+ (o+i)]? =(enc (l.getD k z))[o+i]? :=fun i hi=>h.get k hk (o+i) (by omega)
 have hlen:=hm (l.getD k z)
 have hsz:off+k*m+o+n≤arr.size:=by
  have h1:=hg (n - 1) (by omega)
  rw[List.getElem?_eq_getElem (by omega)] at h1
  have:=(Array.getElem?_eq_some_iff.1 h1).1
  omega
 unfold zD_
 simp only[hsz, ↓reduceIte]
 congr 2
 apply Array.ext_getElem?
 intro i
 by_cases hi:i<n
 ·rw[Array.getElem?_extract,Array.getElem?_extract,if_pos (by omega),if_pos (by rw[List.size_toArray];omega)]
  have hh:=hg i hi
  rw[show off+k*m+ (o+i)=off+k*m+o+i by omega] at hh
  rw[hh]
  exact(List.getElem?_toArray ..).symm
 ·rw[Array.getElem?_eq_none (by rw[Array.size_extract];omega),Array.getElem?_eq_none (by rw[Array.size_extract];omega)]
end Go.Sx
namespace Go.Sx
open Go
theorem Cw.forget {P:Program} {w0:World} {c:Code} {f:Fr} {L:za_} {K:j9_} (M:za_) (hM: ∀p,p∈M→p∈L) (hn: (keys M).Nodup) (hnew: ∀p,p∈L→p.1∉keys M→w0.heap.size≤p.1)
  (h:Cw P w0 c f M K):Cw P w0 c f L K:=fun w hw=>h w (hw.drop hM hn fun p hp hlt hk=>by have:=hnew p hp hk;omega)
end Go.Sx
namespace Go.Sx
open Go
def SlV {α:Type} (m:Nat) (enc:α→List Value) (z:α) (w:World) (v:Value) (l:List α):Prop:=
 ∃b off c arr E fz,RowS m enc z w v l b off arr E fz∧l.length≤c∧((v= .slice none 0 0∧l= []∧c=0)∨(v=vsl b off l.length c∧w.heap[b]? =some (.cells arr E fz)∧off+l.length*m≤arr.size))
section
variable {α:Type} {m:Nat} {enc:α→List Value} {z:α} {w:World} {v:Value} {l:List α}
theorem RowS.sl' {b off n c:Nat} {arr:Array Value} {E:TypeId} {fz:Nat×Nat} (hn:n=l.length)
  (has:0<l.length→w.heap[b]? =some (.cells arr E fz)) (get: ∀k,k<l.length→ ∀j,j<m→arr[off+k*m+j]? =(enc (l.getD k z))[j]?):RowS m enc z w (vsl b off n c) l b off arr E fz:=by
 subst hn
 exact⟨fun x=>rfl,fun a k hk=>jU_ _ _ _ _ _ _ ⟨by omega,by omega⟩,has,get⟩
theorem SlV.nil (w:World):SlV m enc z w (.slice none 0 0) []:=⟨0,0,0, #[],0,(0,0),RowS.nil w 0 0 rfl,Nat.le_refl _, .inl ⟨rfl,rfl,rfl⟩⟩
theorem SlV.row (h:SlV m enc z w v l): ∃b off arr E fz,RowS m enc z w v l b off arr E fz:=by
 obtain⟨b,off,c,arr,E,fz,hr,-⟩:=h;exact⟨b,off,arr,E,fz,hr⟩
theorem SlV.sl {b off c:Nat} {arr:Array Value} {E:TypeId} {fz:Nat×Nat} (has:w.heap[b]? =some (.cells arr E fz)) (get: ∀k,k<l.length→ ∀j,j<m→arr[off+k*m+j]? =(enc (l.getD k z))[j]?) (hc:l.length≤c) (hs:off+l.length*m≤arr.size):SlV m enc z w (vsl b off l.length c) l:=
 ⟨b,off,c,arr,E,fz,RowS.sl rfl has get,hc, .inr ⟨rfl,has,hs⟩⟩
theorem RowS.old {w':World} {b off:Nat} {arr:Array Value} {E:TypeId} {fz:Nat×Nat} {L:za_} (h:RowS m enc z w v l b off arr E fz) (hw:Hp w L w') (hb:0<l.length→b∉keys L):RowS m enc z w' v l b off arr E fz:=
 ⟨h.len,h.idx,fun hl=>by have hh:=h.has hl;rw[hw.old b (Array.getElem?_eq_some_iff.1 hh).1 (hb hl)];exact hh,h.get⟩
theorem RowS.lt {b off:Nat} {arr:Array Value} {E:TypeId} {fz:Nat×Nat} (h:RowS m enc z w v l b off arr E fz) (hl:0<l.length):b<w.heap.size:=(Array.getElem?_eq_some_iff.1 (h.has hl)).1
theorem SlV.old {w':World} {L:za_} (h:SlV m enc z w v l) (hw:Hp w L w') (hb: ∀b,slB v=some b→b<w.heap.size→b∉keys L):SlV m enc z w' v l:=by
 obtain⟨b,off,c,arr,E,fz,hr,hc,hv⟩:=h
 rcases hv with⟨rfl,rfl,rfl⟩ | ⟨rfl,hhas,hsz⟩
 ·exact SlV.nil w'
 ·have hnb:=hb b rfl (Array.getElem?_eq_some_iff.1 hhas).1
  refine⟨b,off,c,arr,E,fz,hr.old hw (fun _=>hnb),hc, .inr ⟨rfl, ?_,hsz⟩⟩
  rw[hw.old b (Array.getElem?_eq_some_iff.1 hhas).1 hnb];exact hhas
theorem New.not {L:za_} {n b:Nat} (h:New n L) (hb:b<n):b∉keys L:=fun hm=>by have:=h.le b hm;omega
theorem SlV.oldN {w':World} {L:za_} (h:SlV m enc z w v l) (hw:Hp w L w') (hn:New w.heap.size L):SlV m enc z w' v l:=h.old hw fun _ _ hb=>hn.not hb
theorem SlV.len (h:SlV m enc z w v l) (x:Bool×Nat):XU_ (.sl x) v=some (vi l.length):=by
 obtain⟨b,off,arr,E,fz,hr⟩:=h.row
 exact hr.len x
theorem SlV.take (h:SlV m enc z w v l) {k:Nat} (hk:k≤l.length) (a:Bool): ∃v',q9_ (.sl (a,m)) v none (some (some (k:Int)))=some v'∧SlV m enc z w v' (l.take k)∧(∀b,slB v'=some b→slB v=some b):=by
 obtain⟨b,off,c,arr,E,fz,hr,hc,hv⟩:=h
 have hl: (l.take k).length=k:=by simp;omega
 rcases hv with⟨rfl,rfl,rfl⟩ | ⟨rfl,hhas,hsz⟩
 ·obtain rfl:k=0:=by simpa using hk
  refine⟨.slice none 0 0,rfl,SlV.nil w,fun b hb=>hb⟩
 ·refine⟨vsl b off k c, ?_, ?_,fun b hb=>hb⟩
  ·unfold q9_ vsl
   simp only[ah0_ _ _ _ (⟨by omega,by omega⟩: (0:Int)≤ (k:Int)∧(k:Int)≤ (c:Int)),Int.toNat_natCast,Nat.zero_mul,Nat.sub_zero,Option.map_some,q8_,Nat.add_zero]
   split<;>rfl
  ·refine⟨b,off,c,arr,E,fz,RowS.sl' hl.symm (fun h0=>hr.has (by omega)) ?_,by omega, .inr ⟨by rw[hl],hhas,by rw[hl];have:k*m≤l.length*m:=Nat.mul_le_mul_right _ hk;omega⟩⟩
   ·intro i hi j hj
    rw[hl] at hi
    rw[hr.get i (by omega) j hj]
    congr 2
    rw[List.getD_eq_getElem?_getD,List.getD_eq_getElem?_getD,List.getElem?_take_of_lt hi]
theorem Buf.slM {L:za_} {E:TypeId} {n:Nat} {cs:List Value} (h:Buf L E m v n cs) (hw: ∀b o,(b,o)∈L→w.heap[b]? =some o) (hl:l.length=n) (hcs:cs=(l.map enc).flatten) (hm: ∀x,(enc x).length=m):SlV m enc z w v l:=by
 rcases h.inv with⟨rfl,rfl,rfl⟩ | ⟨b,c,rest,rfl,hlk,hlen,hnc,h0,hrest⟩
 ·have:l= []:=by simpa using hl
  subst this;exact SlV.nil w
 ·subst hl
  refine SlV.sl (hw _ _ (zt_ hlk)) ?_ hnc (by rw[List.size_toArray,List.length_append,hlen];omega)
  intro k hk j hj
  rw[Nat.zero_add,List.getElem?_toArray,List.getElem?_append_left (by rw[hlen];have: (k+1)*m≤l.length*m:=Nat.mul_le_mul_right _ hk;rw[Nat.add_mul,Nat.one_mul] at this;omega),hcs]
  clear hlen hrest hlk hcs hnc h
  induction l generalizing k with
  |nil=>simp at hk
  |cons x r ih=>
   rw[List.map_cons,List.flatten_cons]
   cases k with
   |zero=>
    rw[Nat.zero_mul,Nat.zero_add,List.getElem?_append_left (by rw[hm];exact hj),List.getD_cons_zero]
   |succ k=>
    rw[List.getElem?_append_right (by rw[hm,Nat.add_mul,Nat.one_mul];omega),hm,List.getD_cons_succ]
    have:=ih (k:=k) (by simpa using hk)
    rw[←this]
    congr 1
    rw[Nat.add_mul,Nat.one_mul];omega
theorem Buf.slV {L:za_} {E:TypeId} {n:Nat} {cs:List Value} {w0:World} (h:Buf L E m v n cs) (hw:Hp w0 L w) (hl:l.length=n) (hcs:cs=(l.map enc).flatten) (hm: ∀x,(enc x).length=m):SlV m enc z w v l:=h.slM hw.has hl hcs hm
end
end Go.Sx
namespace Go.Sx
open Go
theorem New.mono {n m:Nat} (h:n≤m): ∀ {L:za_},New m L→New n L
 | [],_=>trivial
 | (_,_)::_,hL=>⟨Nat.le_trans h hL.1,New.mono h hL.2⟩
theorem New.app {n:Nat} {M:za_}: ∀ {L:za_},New n L→New n M→New n (L++M)
 | [],_,hM=>hM
 | (_,_)::_,hL,hM=>⟨hL.1,New.app hL.2 hM⟩
section
variable {P:Program} {w0:World} {f:Fr} {L:za_} {N:Fr→za_→Prop} {ops:Array Oper} {rest:List Oper} {md:Md}
 {d:Option Tmp} {ty:TypeId} {ps:String} {af:Array Edge} {g:Option (Nat×Bool)}
theorem Ow.callE {l:List Operand} {ts:Array TypeId} {k:FuncId} {b:Nat} {S:Value→Obj→Prop} {md':Md} (he:md.turn=some md')
  (hs:zm_ ops f ⟨d, .call ⟨.value (.func k),l.toArray,ts⟩,ty,ps,af,g⟩=false)
  (hk: ∀a w,(callFunc k a).run P w= .ok (.enter k a) w) (hb:b∈keys L)
  (hc: ∀w,Hp w0 L w→Rets P k (l.map (ev f)).toArray w (fun v D=> ∃o,D= [(b,o)]∧S v o))
  (hn: ∀v o,S v o→Ow P w0 ops md' rest (qn_ f d v) (setB L b o) N):
  Ow P w0 ops md (⟨d, .call ⟨.value (.func k),l.toArray,ts⟩,ty,ps,af,g⟩::rest) f L N:=by
 refine Ow.callF he hs hk (S:=fun _ v D=> ∃o,D= [(b,o)]∧S v o) hc ?_
 rintro B v D - - ⟨o,rfl,hS⟩
 exact⟨_,Mrg.set hb,hn v o hS⟩
theorem Ow.callN {l:List Operand} {ts:Array TypeId} {k:FuncId} {S:Nat→Value→za_→Prop} {md':Md} (he:md.turn=some md')
  (hs:zm_ ops f ⟨d, .call ⟨.value (.func k),l.toArray,ts⟩,ty,ps,af,g⟩=false)
  (hk: ∀a w,(callFunc k a).run P w= .ok (.enter k a) w)
  (hc: ∀w,Hp w0 L w→Rets P k (l.map (ev f)).toArray w (fun v D=>S w.heap.size v D))
  (hnew: ∀B v D,S B v D→New B D)
  (hn: ∀B v D,jr_ L B→w0.heap.size≤B→S B v D→Ow P w0 ops md' rest (qn_ f d v) (L++D) N):
  Ow P w0 ops md (⟨d, .call ⟨.value (.func k),l.toArray,ts⟩,ty,ps,af,g⟩::rest) f L N:=by
 refine Ow.callF he hs hk (S:=S) hc ?_
 intro B v D ha hB hS
 exact⟨_,Mrg.fresh (hnew B v D hS).le,hn B v D ha hB hS⟩
theorem Cw.forgetN {c:Code} {K:j9_} (M:za_) (hnew:New w0.heap.size L) (hM: ∀p,p∈M→p∈L) (hn: (keys M).Nodup) (h:Cw P w0 c f M K):Cw P w0 c f L K:=
 Cw.forget M hM hn (fun p hp _=>hnew.le _ (List.mem_map.2 ⟨p,hp,rfl⟩)) h
end
end Go.Sx
section
namespace Go.Sx
open Go
set_option linter.unusedSimpArgs false
section
variable {P:Program} {w0:World} {L:za_}
theorem wY_ {w:World} {ts tx ty e:TypeId} {m:Bool×Nat} {z x:Value} {b k:Nat} {new:List Value} (hw:Hp w0 L w)
  (hu:P.underlying ts=some (.slice e)) (hm:zL_ P e=some m) (hi:x8_ P e=true) (hz:zY_ P e=some z) (hzs:z.cells.size=m.2) {d:TypeDesc} (hux:P.underlying tx=some d) (hnx: ∀k,d≠ .int k)
  (hXa: ∀w,Hp w0 L w→AppX P w m.2 x k new) (hbig:2* (0+k)+768≤2^38):
  (k=0∧(Builtin.append_ #[ts,tx] ty #[vsl b 0 0 0,x]).run P w= .ok (vsl b 0 0 0) w)∨
  (0<k∧ ∃v' w' L',(Builtin.append_ #[ts,tx] ty #[vsl b 0 0 0,x]).run P w= .ok v' w'∧Hp w0 L' w'∧Buf L' e m.2 v' (0+k) ([]++new)∧Grew w0 (.slice none 0 0) L L'∧ ∃c,slB v'=some c∧jr_ L c):=by
 obtain⟨i,hi,hb0,hbig⟩:=kO_ hi hbig
 have hti: ∀w,(typeInfo e).run P w= .ok i w:=by
  intro w
  simp only[typeInfo,program,Sem.run_bind]
  show Result.andThen (Result.ok P w) _=_
  simp only[Result.andThen_ok,hi]
  rfl
 have hmd: (match d with| .int _=>true|_=>false)=false:=by
  cases d<;>first|rfl|exact absurd rfl (hnx _)
 have e1: ∀ {α β:Type} (a:α) (f:α→World→Result β),(Sem.run P (pure a) w).andThen f=f a w:=fun _ _=>rfl
 have hX:=hXa w hw
 have hxl:=hX.len
 have hxc:=hX.cells
 have hzv:=jv_ (P:=P) hz
 have room: ∀ (b:Nat) (w:World),(askRoom b).run P w= .ok () w:=by
  intro b w
  unfold askRoom
  split<;>rfl
 have zc: ∀j,(Builtin.zeroCells z.cells j).toList.length=j*m.2:=by
  intro j;simp[Builtin.zeroCells,hzs]
 have hbg: ∀c,c<0+k→ ¬ (Builtin.nextslicecap (0+k) c*i.bytes>2^48):=by
  intro c hc
  have:=ks_ hc
  have h2:=Nat.mul_le_mul_right i.bytes this
  omega
 by_cases hk:k=0
 ·subst hk
  have hnew:new= []:=List.eq_nil_of_length_eq_zero (by have:=hX.size;omega)
  subst hnew
  refine .inl ⟨rfl, ?_⟩
  simp only[Builtin.append_,vsl,List.getElem?_toArray,List.getElem?_cons_zero,List.getElem?_cons_succ,Sem.run_bind,run_underlying hu w,Result.andThen_ok,zy_ hm w,run_underlying hux w,hmd,e1,Bool.false_eq_true, ↓reduceIte,hxl,Bool.not_false,Nat.add_zero,Nat.le_refl,hxc]
  rfl
 ·have hpos: ¬0+k≤0:=by omega
  have hbg':=hbg 0 (by omega)
  simp only[Builtin.append_,List.getElem?_toArray,List.getElem?_cons_zero,List.getElem?_cons_succ,Sem.run_bind,run_underlying hu w,Result.andThen_ok,zy_ hm w,run_underlying hux w,hmd,e1,Bool.false_eq_true, ↓reduceIte,hxl,Bool.not_false,hpos,vsl,hti,hb0,or_false,and_false,hbg']
  have hch: (choose (Question.appendCap (0+k) 0 e)).run P w= .ok ((0+k)+w.tape w.drawn (.appendCap (0+k) 0 e)% (2^63 - (0+k))) w.drew:=rfl
  rw[hch]
  generalize hcc: (0+k)+w.tape w.drawn (.appendCap (0+k) 0 e)% (2^63 - (0+k))=c
  have hw1:=hw.drew
  have hX1:=hXa _ hw1
  have hold: (Builtin.firstCells m.2 0 (Value.slice (some ⟨b,0,none⟩) 0 0)).run P w.drew= .ok #[] w.drew:=by
   simp only[Builtin.firstCells,Nat.zero_mul];rfl
  simp only[Result.andThen_ok,room,hold,hX1.cells,hzv]
  refine .inr ⟨by omega,_,_,L++ [(w.drew.heap.size, .cells ([]++new++ (Builtin.zeroCells z.cells (c - (0+k))).toList).toArray e (0,0))],rfl, ?_, .at_ (b:=w.drew.heap.size) (rest:=(Builtin.zeroCells z.cells (c - (0+k))).toList) ?_ ?_ ?_ (by omega) (by omega), ?_,⟨_,rfl,z2_ fun b hb=>hw1.lt hb⟩⟩
  ·have ea: ([]++new++ (Builtin.zeroCells z.cells (c - (0+k))).toList).toArray= #[]++new.toArray++Builtin.zeroCells z.cells (c - (0+k)):=by apply Array.ext';simp
   rw[ea]
   exact hw1.alloc _
  ·rw[zG_ (fun hm=>Nat.lt_irrefl _ (hw1.lt hm))]
   simp[look]
  ·rw[List.nil_append,hX.size,Nat.zero_add]
  ·exact zc _
  ·refine⟨fun c hc=>by rw[zc_];exact List.mem_append_left _ hc,fun c hc=> ?_,fun c o hne ho=>zq_ ho⟩
   rw[zc_] at hc
   rcases List.mem_append.1 hc with hc|hc
   ·exact .inl hc
   ·right
    simp only[keys,List.map_cons,List.map_nil,List.mem_singleton] at hc
    subst hc
    exact⟨z2_ fun b hb=>hw1.lt hb,hw1.size⟩
end
section
variable {P:Program} {w0:World} {f:Fr} {L:za_} {N:Fr→za_→Prop} {ops:Array Oper} {rest:List Oper} {md:Md}
 {d:Option Tmp} {ty:TypeId} {ps:String} {af:Array Edge} {g:Option (Nat×Bool)}
theorem Ow.appendEm {ts tx e:TypeId} {m:Bool×Nat} {z:Value} {s x:Operand} {b k:Nat} {new:List Value} {dx:TypeDesc} {md':Md} (hsv:ev f s=vsl b 0 0 0) (he:md.turn=some md')
  (hs:zm_ ops f ⟨d, .call ⟨.builtin .append, #[s,x], #[ts,tx]⟩,ty,ps,af,g⟩=false)
  (hu:P.underlying ts=some (.slice e)) (hm:zL_ P e=some m) (hi:x8_ P e=true) (hz:zY_ P e=some z) (hzs:z.cells.size=m.2) (hux:P.underlying tx=some dx) (hnx: ∀k,dx≠ .int k)
  (hX: ∀w,Hp w0 L w→AppX P w m.2 (ev f x) k new) (hbig:2* (0+k)+768≤2^38)
  (hn0:k=0→Ow P w0 ops md' rest (qn_ f d (vsl b 0 0 0)) L N)
  (hn: ∀v' L',0<k→Buf L' e m.2 v' (0+k) ([]++new)→Grew w0 (.slice none 0 0) L L'→(∃c,slB v'=some c∧jr_ L c)→Ow P w0 ops md' rest (qn_ f d v') L' N):
  Ow P w0 ops md (⟨d, .call ⟨.builtin .append, #[s,x], #[ts,tx]⟩,ty,ps,af,g⟩::rest) f L N:=by
 refine Ow.step he rfl hs fun w hw=> ?_
 rcases wY_ (ty:=ty) (b:=b) hw hu hm hi hz hzs hux hnx hX hbig with⟨hk,hr⟩ | ⟨hk,v',w',L',hr,hp,hb,hg,hsl⟩
 ·refine .inl ⟨_,w,L, ?_,hw,hn0 hk⟩
  simp only[execOp,resolve,Sem.run_bind,Sem.run_pure,Result.andThen_ok,invoke,builtin,List.map_toArray,List.map_cons,List.map_nil,hsv]
  rw[hr]
  rfl
 ·refine .inl ⟨v',w',L', ?_,hp,hn v' L' hk hb hg hsl⟩
  simp only[execOp,resolve,Sem.run_bind,Sem.run_pure,Result.andThen_ok,invoke,builtin,List.map_toArray,List.map_cons,List.map_nil,hsv]
  rw[hr]
  rfl
end
end Go.Sx
end
namespace Go.Sx
open Go
section
variable {P:Program} {w0:World} {f:Fr} {L:za_} {N:Fr→za_→Prop} {K:j9_} {l:List Oper} {listed:List Bool} {n:Nat} {R ts:List Nat} {a d:Nat} {z:Obj}
theorem Md.next_sofnil (R ts:List Nat): (Md.sof R [] ts).next= .sof R [] ts:=(rfl)
theorem Kt_ {Q:Exit→Act→World→Prop} {o:Oper} {x:Act} {d:Option Tmp} {v:Value} {K:Act→World→Prop} (hd: ∀t,d=some t→o.dst≠some t)
  (hQ: ∀c a w,Q (.panic c) a w→Q (.panic c) (a.put d v) w) (r:Result Next) (h:o.upon P x (fun a' w'=>K (a'.put d v) w') Q r):
  o.upon P (x.put d v) K Q r:=by
 have comm: ∀u,(x.put o.dst u).put d v=(x.put d v).put o.dst u:=fun u=>(Act.put_comm x v u hd).symm
 match r,h with
 | .ok (.value u) _,h=>show K _ _;rw[←comm];exact h
 | .ok .skip _,h=>show K _ _;rw[←comm];exact h
 | .ok (.defer e) w',h=>
  have h':K ((({x with defers:=e::x.defers}:Act).put o.dst undef).put d v) w':=h
  rw[←Act.put_comm _ v undef hd,←Act.put_defers] at h'
  exact h'
 | .ok (.enter f args) _,h=>
  refine Calls.mono h fun e w'' he=> ?_
  match e,he with
  | .returned u,he=>show K _ _;rw[←comm];exact he
  | .panicked c,he=>exact hQ _ _ _ he
  | .outgrown,he=>exact he
 | .ok (.row row args) _,h=>exact Rows.mono h fun u w'' he=>by rw[←comm];exact he
 | .halt (.panic u) _,h=>exact hQ _ _ _ h
theorem Kv_ {ops:Array Oper} {Q:Exit→Act→World→Prop} {j:Nat} {oj:Oper} {d:Option Tmp} {v:Value} (hj:ops[j]? =some oj) (h1: ∀t,d=some t→t∉oj.looksAt ops) (h2: ∀t,d=some t→oj.dst≠some t) (hsj: ∀cs b,oj.op≠ .select cs b)
  (hQ: ∀c a w,Q (.panic c) a w→Q (.panic c) (a.put d v) w) {K:Act→World→Prop} {x:Act} {w:World}
  (h:wpOp P ops Q j (fun a' w'=>K (a'.put d v) w') x w):wpOp P ops Q j K (x.put d v) w:=by
 unfold wpOp at h ⊢
 simp only[hj] at h ⊢
 rw[wanted_put oj x d v h1]
 cases hw:Region.wanted oj (yielded ops x.tmps) with
 |true=>
  rw[hw] at h
  simp only[if_true] at h ⊢
  rcases h with h| ⟨hasks,hl⟩
  ·left
   unfold Oper.wp at h ⊢
   rw[execOp_put oj hsj x d v h1]
   exact Kt_ h2 hQ _ h
  ·right
   exact⟨by unfold Oper.asks at*;rwa [execOp_put oj hsj x d v h1],hl⟩
 |false=>
  rw[hw] at h
  simp only[Bool.false_eq_true,if_false] at h ⊢
  rw[Act.put_comm x v undef h2]
  exact h
structure Drift (P:Program) (l:List Oper) (ts:List Nat) (a d:Nat) (z:Obj):Prop where
 here: ∃oa t zv,l.toArray[a]? =some oa∧oa.op= .alloc t∧oa.dst=some d∧oa.guard=none∧zY_ P t=some zv∧z= .cells zv.cells t
 ts:a∉ts
 sel:Region.noSelect l.toArray=true
def OwD (P:Program) (w0:World) (l:List Oper) (R ts:List Nat) (a d:Nat) (z:Obj) (n:Nat) (listed:List Bool) (f:Fr) (L:za_) (N:Fr→za_→Prop):Prop:=
 (∀w,Hp w0 L w→j3_ P l.toArray (jg_ w0 N) ts (SR w0 R L) (n+1) listed.toArray (act f) w)∧
 (∀b w,w0.heap.size≤b→b∉keys L→Hp w0 (L++ [(b,z)]) w→j3_ P l.toArray (jg_ w0 N) ts (SR w0 R L) n (listed.set a true).toArray (act (XF_ f d (vp b 0))) w)
theorem SR.ofE {w:World} {b:Nat} (hb:w0.heap.size≤b) (h:Hp w0 (L++ [(b,z)]) w):SR w0 R L w:=by
 intro r _ o ho
 unfold zs_ at ho
 split at ho
 ·rename_i o' hl
  cases ho
  exact h.has _ _ (List.mem_append_left _ (zt_ hl))
 ·rename_i hl
  have hlt:=(Array.getElem?_eq_some_iff.1 ho).1
  rw[h.old r hlt ?_];exact ho
  intro hm
  simp only[keys,List.map_append,List.map_cons,List.map_nil,List.mem_append,List.mem_singleton] at hm
  rcases hm with hm|hm
  ·exact v6_ hl hm
  ·omega
theorem aef_ {c:List PanicEntry} {x x':Act} {w:World} (h:jg_ w0 N (.panic c) x w):jg_ w0 N (.panic c) x' w:=zM_ h
theorem Hp.perm {w:World} {M:za_} (h:Hp w0 L w) (hp:M.Perm L):Hp w0 M w:=
 h.same (fun _=>hp.mem_iff) ((List.Perm.nodup_iff (hp.map Prod.fst)).2 h.nodup)
def chkD (P:Program) (l:List Oper) (ts:List Nat) (a:Nat):List Nat→List Bool→Option (List Bool)
 | [],listed=>some listed
 |k::is,listed=>
  match xX_ l k,xX_ l a with
  |some o,some oa=>if k !=a&& !ts.contains k&& (ts.all fun t=> !listed.toArray.getD t true&& !(listed.set a true).toArray.getD t true)&& (Region.ready .any l.toArray listed.toArray).contains k&&Region.free .any l.toArray listed.toArray k&&
    (Region.ready .any l.toArray (listed.set a true).toArray).contains k&&Region.free .any l.toArray (listed.set a true).toArray k&&o.apart l.toArray oa&&
    (jZ_ P o.op|| (Jn_ o.op&&ZE_ l.toArray ts listed.toArray k&&ZE_ l.toArray ts (listed.set a true).toArray k)) then chkD P l ts a is (listed.set k true) else none
  |_,_=>none
theorem OwD.step {k:Nat} {o:Oper} {v:Value} (hD:Drift P l ts a d z) (hk:xX_ l k=some o) {rest:List Bool} (hc:chkD P l ts a [k] listed=some rest)
  (hY:YieldsC P l.toArray (SR w0 R L) (jZ_ P o.op=true) o v (act f)) (h:OwD P w0 l R ts a d z n rest (qn_ f o.dst v) L N):OwD P w0 l R ts a d z (n+1) listed f L N:=by
 obtain⟨⟨oa,t,zv,ha,hop,hdst,hg,hz,rfl⟩,hats,hns⟩:=hD
 have hoi:l.toArray[k]? =some o:=by rw[jK_] at hk;simpa using hk
 have ha':xX_ l a=some oa:=by rw[jK_];simpa using ha
 unfold chkD at hc
 rw[hk,ha'] at hc
 simp only at hc
 split at hc
 ·rename_i hcc
  simp only[chkD,Option.some.injEq] at hc
  subst hc
  simp only[Bool.and_eq_true,Bool.or_eq_true,Bool.not_eq_true',List.all_eq_true,List.contains_eq_mem,decide_eq_true_eq,decide_eq_false_iff_not,bne_iff_ne,ne_eq] at hcc
  obtain⟨⟨⟨⟨⟨⟨⟨⟨c1,c2⟩,c3⟩,c4⟩,c5⟩,c6⟩,c7⟩,c8⟩,c9⟩:=hcc
  obtain⟨q1,q2,q3⟩:=Oper.apart_spec c8
  have hsel:=Region.noSelect_spec hns
  have hset: (listed.set k true).set a true=(listed.set a true).set k true:=List.set_comm _ _ c1
  refine⟨fun w hw=> ?_,fun b w hb hbL hw=> ?_⟩
  ·refine kf_ hoi c2 hsel (fun c a w h=>zM_ h) _ _ _ _ (j6_ (P:=P) hoi c4 c5 (c9.imp id fun h=>⟨h.1.1,h.1.2,fun t ht=>(c3 t ht).1⟩)) (.inr fun t ht=>(c3 t ht).1) hY ?_
   rw[zU_,qa_]
   exact h.1 w hw
  ·have hY2:YieldsC P l.toArray (SR w0 R L) (jZ_ P o.op=true) o v (act (XF_ f d (vp b 0))):=by
    refine hY.left (hsel k o · · hoi) (oj:=oa) q3 ⟨vp b 0,[], ?_⟩
    rw[hdst]
    exact(zU_ f (some d) (vp b 0)).symm
   refine kf_ hoi c2 hsel (fun c a w h=>zM_ h) _ _ _ _ (j6_ (P:=P) hoi c6 c7 (c9.imp id fun h=>⟨h.1.1,h.2,fun t ht=>(c3 t ht).2⟩)) (.inr fun t ht=>(c3 t ht).2) hY2 ?_
   have e: (act (XF_ f d (vp b 0))).put o.dst v=act (XF_ (qn_ f o.dst v) d (vp b 0)):=by
    have e1:act (XF_ f d (vp b 0))=(act f).put (some d) (vp b 0):=(zU_ f (some d) (vp b 0)).symm
    rw[e1,Act.put_comm (act f) (x:=some d) (y:=o.dst) (vp b 0) v (fun t ht hod=>by cases ht;exact q2 _ hod hdst),zU_,zU_];rfl
   rw[e,qa_,←hset]
   exact h.2 b w hb hbL hw
 ·cases hc
theorem ae2_ {k:Nat} {is:List Nat} {listed listed':List Bool} (h:chkD P l ts a (k::is) listed=some listed'):chkD P l ts a [k] listed=some (listed.set k true)∧chkD P l ts a is (listed.set k true)=some listed':=by
 rw[chkD] at h
 cases ho:xX_ l k with
 |none=>rw[ho] at h;cases h
 |some o=>
  cases hoa:xX_ l a with
  |none=>rw[ho,hoa] at h;cases h
  |some oa=>
   rw[ho,hoa] at h
   simp only at h
   split at h
   ·rename_i hcc
    refine⟨?_,h⟩
    rw[chkD,ho,hoa]
    simp only
    rw[if_pos hcc];rfl
   ·cases h
theorem OwD.runs {k:Md→List Oper→Fr→za_→Prop} (hD:Drift P l ts a d z): ∀ (is:List Nat) {listed listed':List Bool} {f:Fr} {L:za_},chkD P l ts a is listed=some listed'→
  (∀md r f' L',k md r f' L'→r= []∧OwD P w0 l R ts a d z n listed' f' L' N)→vcL P w0 l.toArray false (.sof R [] []) (jY_ l is) f L k→OwD P w0 l R ts a d z (is.length+n) listed f L N
 | [],listed,listed',f,L,hc,hk,h=>by
  cases hc
  rw[List.length_nil,Nat.zero_add]
  exact(hk _ _ _ _ h).2
 |i::is,listed,listed',f,L,hc,hk,h=>by
  obtain⟨hc1,hc2⟩:=ae2_ hc
  rw[zk_] at h
  cases ho:xX_ l i with
  |none=>unfold chkD at hc1;rw[ho] at hc1;cases hc1
  |some o=>
   rw[ho,zl_] at h
   unfold vcL at h
   rw[List.length_cons,show is.length+1+n=(is.length+n)+1 by omega]
   cases hs:zm_ l.toArray f o with
   |true=>
    rw[hs] at h
    have hw0:Region.wanted o (yielded l.toArray (act f).tmps)=false:=by rw[z4_,hs];rfl
    exact OwD.step hD ho hc1 (v:=undef) (.inr ⟨hw0,rfl⟩) (OwD.runs hD is hc2 hk h)
   |false=>
    rw[hs] at h
    have hw0:Region.wanted o (yielded l.toArray (act f).tmps)=true:=by rw[z4_,hs];rfl
    simp only[ib,vcB] at h
    split at h
    ·cases hrd:X2_ (.sof R [] []) f o.op with
     |false=>rw[hrd] at h;exact absurd (hk _ _ _ _ h).1 (by simp)
     |true=>
      rw[hrd] at h
      simp only at h
      cases hv:xG_ P w0 L f o.op with
      |none=>rw[hv] at h;exact absurd (hk _ _ _ _ h).1 (by simp)
      |some v=>
       rw[hv] at h
       refine OwD.step hD ho hc1 (v:=v) (.inl ⟨hw0,fun w hw=> ?_⟩) (OwD.runs hD is hc2 hk h)
       rw[jf_]
       rcases hw with hp|hw
       ·exact qQ_ (Hp.refl w) (xf_ hp hv w)
       ·exact qQ_ (Hp.refl w) (vs_ hrd hv hw)
    ·exact absurd (hk _ _ _ _ h).1 (by simp)
    ·exact absurd (hk _ _ _ _ h).1 (by simp)
theorem OwD.run (is:List Nat) (listed':List Bool) (n:Nat) {m:Nat} (hm:m=is.length+n) (hD:Drift P l ts a d z) (hc:chkD P l ts a is listed=some listed')
  (h: ∀k:Md→List Oper→Fr→za_→Prop,(∀md f L,OwD P w0 l R ts a d z n listed' f L N→k md [] f L)→nl (jY_ l is) fun l'=>vcL P w0 l.toArray false (.sof R [] []) l' f L k):OwD P w0 l R ts a d z m listed f L N:=by
 subst hm
 refine OwD.runs (k:=fun _ r f' L'=>r= []∧OwD P w0 l R ts a d z n listed' f' L' N) hD is hc (fun _ _ _ _ h=>h) ?_
 exact h _ fun _ _ _ h=>⟨rfl,h⟩
theorem Xm_ {t:TypeId} {zv:Value} {oa:Oper} {Q:Exit→Act→World→Prop} {X:Act→World→Prop} {w:World} (ha:l.toArray[a]? =some oa) (hop:oa.op= .alloc t) (hdst:oa.dst=some d) (hg:oa.guard=none) (hz:zY_ P t=some zv)
  (h:X (act (XF_ f d (vp w.heap.size 0))) (w.alloc (.cells zv.cells t))):wpOp P l.toArray Q a X (act f) w:=by
 obtain⟨dst,op,ty,pos,after,guard⟩:=oa
 simp only at hop hdst hg
 subst hop;subst hdst;subst hg
 unfold wpOp
 simp only[ha]
 have hw:Region.wanted ⟨some d, .alloc t,ty,pos,after,none⟩ (yielded l.toArray (act f).tmps)=true:=by rw[z4_];rfl
 rw[hw]
 simp only[↓reduceIte]
 left
 unfold Oper.wp
 have hr: (execOp (act f).eval ⟨some d, .alloc t,ty,pos,after,none⟩).run P w= .ok (.value (vp w.heap.size 0)) (w.alloc (.cells zv.cells t)):=by
  simp only[execOp,Instr.alloc,Sem.run_bind,jv_ hz w,Result.andThen_ok]
  rfl
 rw[hr]
 show X ((act f).put (some d) (vp w.heap.size 0)) _
 rw[zU_]
 exact h
theorem k6_ {L':za_} (hS: ∀b,b∈R→zs_ w0 L' b=zs_ w0 L b):SR w0 R L=SR w0 R L':=by
 funext v
 unfold SR
 apply propext
 constructor
 ·intro hh b hb o ho;exact hh b hb o (by rw[←hS b hb];exact ho)
 ·intro hh b hb o ho;exact hh b hb o (by rw[hS b hb];exact ho)
def abH_ (l:List Oper) (ts:List Nat) (a:Nat) (ks:List Nat) (listed:List Bool):Bool:=
 ((Region.ready .any l.toArray listed.toArray).all fun i=>i==a||ks.contains i)&& (Region.ready .any l.toArray listed.toArray != [])&& ((Region.ready .any l.toArray (listed.set a true).toArray).all fun i=>ks.contains i)&& (Region.ready .any l.toArray (listed.set a true).toArray != [])&&ks.all fun k=>
  match xX_ l k,xX_ l a with
  |some o,some oa=>k !=a&& !ts.contains k&&o.apart l.toArray oa
  |_,_=>false
theorem OwD.softs (ks:List Nat) (hD:Drift P l ts a d z) (hs:abH_ l ts a ks listed=true)
  (h: ∀k,k∈ks→ ∀o,xX_ l k=some o→ ∀E,(E= []∨ ∃b,E= [(b,z)]∧w0.heap.size≤b∧b∉keys L)→Ow P w0 l.toArray .seq [o] f (L++E) (fun f' L''=> ∃L',(L'++E).Perm L''∧(∀r,r∈R→zs_ w0 L' r=zs_ w0 L r)∧OwD P w0 l R ts a d z n (listed.set k true) f' L' N)):
  OwD P w0 l R ts a d z (n+1) listed f L N:=by
 obtain⟨⟨oa,t,zv,ha,hop,hdst,hg,hz,rfl⟩,hats,hns⟩:=hD
 have ha':xX_ l a=some oa:=by rw[jK_];simpa using ha
 unfold abH_ at hs
 simp only[Bool.and_eq_true,List.all_eq_true,Bool.or_eq_true,beq_iff_eq,bne_iff_ne,ne_eq,List.contains_eq_mem,decide_eq_true_eq] at hs
 obtain⟨⟨⟨⟨c3,c4⟩,c5⟩,c5'⟩,c6⟩:=hs
 have hsel:=Region.noSelect_spec hns
 have hkk: ∀k,k∈ks→ ∃o,xX_ l k=some o∧k≠a∧k∉ts∧o.apart l.toArray oa=true:=by
  intro k hk
  have:=c6 k hk
  rw[ha'] at this
  cases ho:xX_ l k with
  |none=>rw[ho] at this;cases this
  |some o=>
   rw[ho] at this
   simp only[Bool.and_eq_true,Bool.not_eq_true',bne_iff_ne,ne_eq,decide_eq_false_iff_not] at this
   exact⟨o,rfl,this.1.1,this.1.2,this.2⟩
 have t2: ∀b w,w0.heap.size≤b→b∉keys L→Hp w0 (L++ [(b, .cells zv.cells t)]) w→j3_ P l.toArray (jg_ w0 N) ts (SR w0 R L) (n+1) (listed.set a true).toArray (act (XF_ f d (vp b 0))) w:=by
  intro b w hb hbL hw
  refine⟨fun _=>SR.ofE hb hw,(fun h=>absurd h c5'), ?_⟩
  intro k hi
  have hkm:=c5 k hi
  obtain⟨o,hk,c1,c2,c7⟩:=hkk k hkm
  have hoi:l.toArray[k]? =some o:=by rw[jK_] at hk;simpa using hk
  obtain⟨q1,q2,q3⟩:=Oper.apart_spec c7
  have hset: (listed.set k true).set a true=(listed.set a true).set k true:=List.set_comm _ _ c1
  have e1:act (XF_ f d (vp b 0))=(act f).put (some d) (vp b 0):=(zU_ f (some d) (vp b 0)).symm
  rw[e1]
  refine Kv_ hoi (fun t ht=>by cases ht;exact q3 d hdst) (fun t ht=>by cases ht;exact fun hod=>q2 d hod hdst) (hsel _ o · · hoi) (fun c a w h=>aef_ h) ?_
  refine vx_ hoi (X:=fun a' w'=>j3_ P l.toArray (jg_ w0 N) ts (SR w0 R L) n ((listed.set a true).toArray.setIfInBounds k true) (a'.put (some d) (vp b 0)) w') ?_ hw
  intro w' hw'
  refine xu_ ?_ (h k hkm o hk [(b, .cells zv.cells t)] (.inr ⟨b,rfl,hb,hbL⟩) w' hw')
  rintro f' L'' ⟨L',hpm,hR,hO⟩ w'' hw''
  have hw3:=hw''.perm hpm
  rw[zU_,qa_,←hset,k6_ hR]
  refine hO.2 b w'' hb (fun hm=> ?_) hw3
  have hnd:=hw3.nodup
  rw[zc_,List.nodup_append] at hnd
  exact hnd.2.2 b hm b (by simp[keys]) rfl
 refine⟨fun w hw=>⟨fun _=>SR.of hw,fun h=>absurd h c4,fun k hi=> ?_⟩,t2⟩
 rcases c3 k hi with rfl|hkm
 ·refine Xm_ ha hop hdst hg hz ?_
  rw[qa_]
  refine t2 _ _ hw.size (fun hm=>Nat.lt_irrefl _ (hw.lt hm)) (hw.alloc _)
 ·obtain⟨o,hk,c1,c2,c7⟩:=hkk k hkm
  have hoi:l.toArray[k]? =some o:=by rw[jK_] at hk;simpa using hk
  refine vx_ hoi (X:=j3_ P l.toArray (jg_ w0 N) ts (SR w0 R L) (n+1) (listed.toArray.setIfInBounds k true)) ?_ hw
  intro w' hw'
  have h1:=h k hkm o hk [] (.inl rfl)
  rw[List.append_nil] at h1
  refine xu_ ?_ (h1 w' hw')
  rintro f' L'' ⟨L',hpm,hR,hO⟩ w'' hw''
  rw[List.append_nil] at hpm
  rw[qa_,k6_ hR]
  exact hO.1 w'' (hw''.perm hpm)
theorem OwD.soft (k:Nat) (o:Oper) (hD:Drift P l ts a d z) (hk:xX_ l k=some o) (hs:abH_ l ts a [k] listed=true)
  (h: ∀E,(E= []∨ ∃b,E= [(b,z)]∧w0.heap.size≤b∧b∉keys L)→Ow P w0 l.toArray .seq [o] f (L++E) (fun f' L''=> ∃L',(L'++E).Perm L''∧(∀r,r∈R→zs_ w0 L' r=zs_ w0 L r)∧OwD P w0 l R ts a d z n (listed.set k true) f' L' N)):
  OwD P w0 l R ts a d z (n+1) listed f L N:=OwD.softs [k] hD hs fun k' hk' o' ho'=>by
 rw[List.mem_singleton] at hk'
 subst hk'
 rw[hk] at ho'
 cases ho'
 exact h
theorem OwD.two (k k2:Nat) (o o2:Oper) (hD:Drift P l ts a d z) (hk:xX_ l k=some o) (hk2:xX_ l k2=some o2) (hs:abH_ l ts a [k,k2] listed=true)
  (h: ∀E,(E= []∨ ∃b,E= [(b,z)]∧w0.heap.size≤b∧b∉keys L)→Ow P w0 l.toArray .seq [o] f (L++E) (fun f' L''=> ∃L',(L'++E).Perm L''∧(∀r,r∈R→zs_ w0 L' r=zs_ w0 L r)∧OwD P w0 l R ts a d z n (listed.set k true) f' L' N))
  (h2: ∀E,(E= []∨ ∃b,E= [(b,z)]∧w0.heap.size≤b∧b∉keys L)→Ow P w0 l.toArray .seq [o2] f (L++E) (fun f' L''=> ∃L',(L'++E).Perm L''∧(∀r,r∈R→zs_ w0 L' r=zs_ w0 L r)∧OwD P w0 l R ts a d z n (listed.set k2 true) f' L' N)):
  OwD P w0 l R ts a d z (n+1) listed f L N:=OwD.softs [k,k2] hD hs fun k' hk' o' ho'=>by
 simp only[List.mem_cons,List.not_mem_nil,or_false] at hk'
 rcases hk' with rfl|rfl
 ·rw[hk] at ho';cases ho';exact h
 ·rw[hk2] at ho';cases ho';exact h2
theorem OwD.real (is:List Nat) {m:Nat} (hm:m=is.length) (hD:Drift P l ts a d z) (hr:Region.ready .any l.toArray listed.toArray= [a]) (hB:wS_ P l.toArray ts is (listed.set a true).toArray=true) (hts: (ts.all fun t=> !(listed.set a true).toArray.getD t true)=true)
  (hl:is.map (fun i:Nat=>l[i]?)=(jY_ l is).map some) (hR: ∀r,r∈R→r∈keys L∨r<w0.heap.size)
  (h:nl (jY_ l is) fun l'=> ∀b,w0.heap.size≤b→b∉keys L→Ow P w0 l.toArray (.sof R is ts) l' (XF_ f d (vp b 0)) (L++ [(b,z)]) N):OwD P w0 l R ts a d z m listed f L N:=by
 subst hm
 obtain⟨⟨oa,t,zv,ha,hop,hdst,hg,hz,rfl⟩,hats,hns⟩:=hD
 simp only[List.all_eq_true,Bool.not_eq_true'] at hts
 revert hl h
 generalize jY_ l is=l'
 intro hl h
 have hlen:is.length=l'.length:=by have:=congrArg List.length hl;simpa using this
 have hF:Fits P l.toArray ts is l' (listed.set a true).toArray:=⟨hlen,fun j=>by
  have:=congrArg (·[j]?) hl
  simp only[List.getElem?_map] at this
  cases hj:is[j]? with
  |none=>
   rw[hj] at this
   simp only[Option.map_none] at this
   cases hj':l'[j]? with
   |none=>rfl
   |some x=>rw[hj'] at this;cases this
  |some i=>
   rw[hj] at this
   simp only[Option.map_some] at this
   cases hj':l'[j]? with
   |none=>rw[hj'] at this;cases this
   |some x=>
    rw[hj'] at this
    simp only[Option.map_some,Option.some.injEq] at this
    simp[this],hns,hB⟩
 have hRb: ∀b,w0.heap.size≤b→b∉keys L→ ∀r,r∈R→zs_ w0 (L++ [(b,Obj.cells zv.cells t)]) r=zs_ w0 L r:=by
  intro b hb hbL r hr
  unfold zs_
  cases hlk:look L r with
  |some o=>rw[zq_ hlk]
  |none=>
   have hrn:r∉keys L:=v6_ hlk
   have hne:b≠r:=by
    rcases hR r hr with h|h
    ·exact absurd h hrn
    ·omega
   rw[zG_ hrn]
   unfold look
   rw[if_neg hne];rfl
 have t2: ∀b w,w0.heap.size≤b→b∉keys L→Hp w0 (L++ [(b, .cells zv.cells t)]) w→j3_ P l.toArray (jg_ w0 N) ts (SR w0 R L) is.length (listed.set a true).toArray (act (XF_ f d (vp b 0))) w:=by
  intro b w hb hbL hw
  rw[hlen,k6_ (hRb b hb hbL)]
  exact h b hb hbL _ hF (fun t ht=>hts t ht) w hw
 refine⟨fun w hw=>⟨fun _=>SR.of hw,(fun h=>by rw[hr] at h;cases h),fun i hi=> ?_⟩,t2⟩
 rw[hr,List.mem_singleton] at hi
 subst hi
 refine Xm_ ha hop hdst hg hz ?_
 rw[qa_]
 exact t2 _ _ hw.size (fun hm=>Nat.lt_irrefl _ (hw.lt hm)) (hw.alloc _)
theorem Cw.regionD {id:Nat} (R ts:List Nat) (a d t m:Nat) (zv:Value) (hl:l.length=m+1) (hm:P.follows .mixedOrders=true) (hop: ((xX_ l a).map fun o=>(o.op,o.dst,o.guard))=some (.alloc t,some d,none)) (hts:ts.contains a=false) (hns:Region.noSelect l.toArray=true) (hz:zY_ P t=some zv)
  (h:Drift P l ts a d (.cells zv.cells t)→OwD P w0 l R ts a d (.cells zv.cells t) m (List.replicate (m+1) false) f L (K .normal)):Cw P w0 (.region id l.toArray true) f L K:=by
 intro w hw
 refine wp_mono (wp_region_any hm ?_) fun _ _ _ h=>xg_ h
 have hD:Drift P l ts a d (.cells zv.cells t):=by
  cases hn:xX_ l a with
  |none=>rw[hn] at hop;cases hop
  |some oa=>
   rw[hn] at hop
   simp only[Option.map_some,Option.some.injEq,Prod.mk.injEq] at hop
   exact⟨⟨oa,t,zv,by rw[jK_] at hn;simpa using hn,hop.1,hop.2.1,hop.2.2,hz,rfl⟩,by simpa using hts,hns⟩
 have h1:=(h hD).1 w.drew hw.drew
 have:=xW_ _ _ _ _ h1
 simpa [hl] using this
end
end Go.Sx
namespace Go.Sx
open Go
def Gr (L:za_) (E:TypeId) (m:Nat) (v:Value) (n:Nat) (cs:List Value):Prop:=
 Buf L E m v n cs∨(n=0∧cs= []∧ ∃b,v=vsl b 0 0 0∧look L b=some (.cells #[] E (0,0)))
theorem Gr.nl {L:za_} {E:TypeId} {m:Nat}:Gr L E m (.slice none 0 0) 0 []:= .inl .nl
theorem Grew.any {w0:World} {v v':Value} {L L':za_} (h:Grew w0 v L L') (hv:slB v=none):Grew w0 v' L L':=
 ⟨h.keys,h.new,fun c o _ hl=>h.look c o (by rw[hv];simp) hl⟩
theorem Gr.keep {L L':za_} {E:TypeId} {m n:Nat} {v:Value} {cs:List Value} (h:Gr L E m v n cs) (hk: ∀b o,slB v=some b→look L b=some o→look L' b=some o):Gr L' E m v n cs:=by
 rcases h with h| ⟨h1,h2,b,rfl,h3⟩
 ·exact .inl (h.keep hk)
 ·exact .inr ⟨h1,h2,b,rfl,hk b _ rfl h3⟩
theorem Gr.app {L M:za_} {E:TypeId} {m n:Nat} {v:Value} {cs:List Value} (h:Gr L E m v n cs):Gr (L++M) E m v n cs:=h.keep fun _ _ _ hl=>zq_ hl
theorem Gr.len {L:za_} {E:TypeId} {m n:Nat} {v:Value} {cs:List Value} (h:Gr L E m v n cs) (x:Bool×Nat):XU_ (.sl x) v=some (vi n):=by
 rcases h with h| ⟨rfl,rfl,b,rfl,-⟩
 ·exact h.len x
 ·rfl
theorem Gr.cell {L:za_} {E:TypeId} {m n:Nat} {v:Value} {cs:List Value} (h:Gr L E m v n cs):Value.oneCell' v=true∧v.cells= #[v]:=by
 rcases h with h| ⟨rfl,rfl,b,rfl,-⟩
 ·exact h.cell
 ·exact⟨rfl,rfl⟩
theorem Gr.key {L:za_} {E:TypeId} {m n:Nat} {v:Value} {cs:List Value} (h:Gr L E m v n cs) {b:Nat} (hb:slB v=some b):b∈keys L:=by
 rcases h with h| ⟨rfl,rfl,c,rfl,hl⟩
 ·rcases h.inv with⟨rfl,-,-⟩ | ⟨c,cc,rest,rfl,hl,-⟩
  ·cases hb
  ·cases hb;exact ze_ hl
 ·cases hb;exact ze_ hl
section
variable {α:Type} {m:Nat} {enc:α→List Value} {z:α} {w:World} {v:Value} {l:List α}
theorem Gr.slM {L:za_} {E:TypeId} {n:Nat} {cs:List Value} (h:Gr L E m v n cs) (hw: ∀b o,(b,o)∈L→w.heap[b]? =some o) (hl:l.length=n) (hcs:cs=(l.map enc).flatten) (hm: ∀x,(enc x).length=m):SlV m enc z w v l:=by
 rcases h with h| ⟨rfl,rfl,b,rfl,hlk⟩
 ·exact h.slM hw hl hcs hm
 ·obtain rfl:l= []:=List.eq_nil_of_length_eq_zero hl
  exact SlV.sl (l:=([]:List α)) (off:=0) (c:=0) (hw _ _ (zt_ hlk)) (fun k hk=>by simp at hk) (Nat.le_refl 0) (by simp)
theorem Gr.slV {L:za_} {E:TypeId} {n:Nat} {cs:List Value} {w0:World} (h:Gr L E m v n cs) (hw:Hp w0 L w) (hl:l.length=n) (hcs:cs=(l.map enc).flatten) (hm: ∀x,(enc x).length=m):SlV m enc z w v l:=h.slM hw.has hl hcs hm
theorem wZ_ (hm: ∀x,(enc x).length=m) (arr:Array Value): ∀ (ls:List α) (off:Nat),off+ls.length*m≤arr.size→(∀k j,k<ls.length→j<m→arr[off+k*m+j]? =(enc (ls.getD k z))[j]?)→
  (arr.extract off (off+ls.length*m)).toList=(ls.map enc).flatten
 | [],off,_,_=>by simp
 |r::ls,off,hs,h=>by
  have hlm: (r::ls).length*m=m+ls.length*m:=by rw[List.length_cons,Nat.add_mul,Nat.one_mul,Nat.add_comm]
  rw[hlm] at hs ⊢
  have ih:=wZ_ hm arr ls (off+m) (by omega) (fun k j hk hj=>by
   have:=h (k+1) j (by simpa using hk) hj
   rw[List.getD_cons_succ] at this
   rw[←this];congr 1;rw[Nat.add_mul,Nat.one_mul];omega)
  have h0: (arr.extract off (off+m)).toList=enc r:=by
   apply List.ext_getElem?
   intro j
   rw[Array.getElem?_toList,Array.getElem?_extract]
   by_cases hj:j<m
   ·rw[if_pos (by omega)]
    have:=h 0 j (by simp) hj
    simpa using this
   ·rw[if_neg (by omega),List.getElem?_eq_none (by rw[hm];omega)]
  rw[List.map_cons,List.flatten_cons,←ih,←h0,←Array.toList_append]
  congr 1
  rw[Array.extract_append_extract]
  congr 1<;>omega
theorem agh_ (hm: ∀x,(enc x).length=m) (l:List α): (l.map enc).flatten.length=l.length*m:=by
 induction l with
 |nil=>simp
 |cons x r ih=>rw[List.map_cons,List.flatten_cons,List.length_append,ih,hm,List.length_cons,Nat.add_mul,Nat.one_mul,Nat.add_comm]
theorem AppX.one1 {P:Program} {b:Nat} {E:TypeId} {fz:Nat×Nat} {cs:List Value} (hb:w.heap[b]? =some (.cells cs.toArray E fz)) (hm:cs.length=m) (h1:cs.all Value.oneCell'=true):AppX P w m (vsl b 0 1 1) 1 cs:=by
 refine AppX.block (w0:=w) (L:= []) (by rw[wk_];exact hb) (by simp;omega) ?_ h1 (Hp.refl w)
 rw[List.extract_toArray,List.extract_eq_take_drop,List.drop_zero,List.take_of_length_le (by omega)]
theorem SlV.appX {P:Program} (h:SlV m enc z w v l) (hm: ∀x,(enc x).length=m) (h1: ∀x,(enc x).all Value.oneCell'=true):AppX P w m v l.length (l.map enc).flatten:=by
 obtain⟨b,off,c,arr,E,fz,hr,hc,hv⟩:=h
 rcases hv with⟨rfl,rfl,rfl⟩ | ⟨rfl,hhas,hsz⟩
 ·exact AppX.nil P w m
 ·refine AppX.block (w0:=w) (L:= []) (by rw[wk_];exact hhas) hsz (wZ_ (z:=z) hm arr l off hsz (fun k j hk hj=>hr.get k hk j hj)) ?_ (Hp.refl w)
  rw[List.all_flatten,List.all_map,List.all_eq_true]
  exact fun r _=>h1 r
end
section
variable {P:Program} {w0:World} {f:Fr} {L:za_} {N:Fr→za_→Prop} {ops:Array Oper} {rest:List Oper} {md:Md}
 {d:Option Tmp} {ty:TypeId} {ps:String} {af:Array Edge} {g:Option (Nat×Bool)}
theorem Ow.appendG {ts tx e:TypeId} {m:Bool×Nat} {z:Value} {s x:Operand} {n k:Nat} {cs new:List Value} {dx:TypeDesc} {md':Md} (sv:Value) (hsv:ev f s=sv) (he:md.turn=some md')
  (hs:zm_ ops f ⟨d, .call ⟨.builtin .append, #[s,x], #[ts,tx]⟩,ty,ps,af,g⟩=false)
  (hu:P.underlying ts=some (.slice e)) (hm:zL_ P e=some m) (hi:x8_ P e=true) (hz:zY_ P e=some z) (hzs:z.cells.size=m.2) (hux:P.underlying tx=some dx) (hnx: ∀k,dx≠ .int k)
  (hB:Gr L e m.2 sv n cs) (hX: ∀w,Hp w0 L w→AppX P w m.2 (ev f x) k new) (hlen:new.length=k*m.2) (hbig:2* (n+k)+768≤2^38)
  (hn: ∀v' L',Gr L' e m.2 v' (n+k) (cs++new)→(0<k→Buf L' e m.2 v' (n+k) (cs++new))→Grew w0 sv L L'→(slB v'=slB sv∨ ∃c,slB v'=some c∧jr_ L c)→Ow P w0 ops md' rest (qn_ f d v') L' N):
  Ow P w0 ops md (⟨d, .call ⟨.builtin .append, #[s,x], #[ts,tx]⟩,ty,ps,af,g⟩::rest) f L N:=by
 rcases hB with hB| ⟨rfl,rfl,b,rfl,hlk⟩
 ·exact Ow.append sv hsv he hs hu hm hi hz hzs hux hnx hB hX hbig fun v' L' h1 h2 h3=>hn v' L' (.inl h1) (fun _=>h1) h2 h3
 ·refine Ow.appendEm hsv he hs hu hm hi hz hzs hux hnx hX hbig (fun h0=> ?_) (fun v' L' hk h1 h2 h3=> ?_)
  ·subst h0
   obtain rfl:new= []:=List.eq_nil_of_length_eq_zero (by rw[hlen,Nat.zero_mul])
   exact hn _ L (.inr ⟨rfl,rfl,b,rfl,hlk⟩) (fun h=>absurd h (Nat.lt_irrefl 0)) (Grew.refl _ _ _) (.inl rfl)
  ·exact hn v' L' (.inl h1) (fun _=>h1) (h2.any rfl) (.inr h3)
end
end Go.Sx
namespace Go.Sx
open Go
theorem j8_ {A D E:za_}: (A++D++E).Perm (A++E++D):=by
 rw[List.append_assoc,List.append_assoc]
 exact List.Perm.append_left A List.perm_append_comm
theorem xh_ {w0:World} {L M:za_} {r:Nat} (h:r∈keys L):zs_ w0 (L++M) r=zs_ w0 L r:=by
 obtain⟨o,ho⟩:=Zr_ h
 rw[zb_ ho,zb_ (zq_ ho)]
theorem qg_ {w0:World} {L M:za_} {R:List Nat} (h: ∀r,r∈R→r∈keys L): ∀r,r∈R→zs_ w0 (L++M) r=zs_ w0 L r:=fun r hr=>xh_ (h r hr)
theorem New.of_le {n:Nat}: ∀ {D:za_},(∀c,c∈keys D→n≤c)→New n D
 | [],_=>trivial
 | (b,o)::r,h=>⟨h b (by simp[keys]),New.of_le fun c hc=>h c (by simp only[keys,List.map_cons,List.mem_cons] at hc ⊢;exact .inr hc)⟩
theorem wu_ {w0:World} {L M:za_} {r:Nat} (h:r∉keys M):zs_ w0 (M++L) r=zs_ w0 L r:=by
 unfold zs_;rw[zG_ h]
theorem Rets.quiet {P:Program} {k:FuncId} {args:Array Value} {w:World} {S:Value→Prop} (h:Rets P k args w (XS w [] (fun v _=>S v))):Rets P k args w (fun v D=>S v∧D= []):=
 Calls.mono h fun e w' ⟨v,D,he,hp,hx,hs⟩=>⟨v,[],he,hp.garbage (New.of_le fun c hc=>(hx.new c hc).resolve_left (by intro h;cases h)),hs,rfl⟩
theorem Ext.new0 {w:World} {D:za_} (h:Ext w [] D):New w.heap.size D:=by
 have hn:=h.new
 have key: ∀ (D:za_),(∀c,c∈Sx.keys D→w.heap.size≤c)→New w.heap.size D:=by
  intro D
  induction D with
  |nil=>intro _;trivial
  |cons p r ih=>
   obtain⟨b,o⟩:=p
   intro hh
   exact⟨hh b (by simp[Sx.keys]),ih fun c hc=>hh c (by simp only[Sx.keys,List.map_cons,List.mem_cons] at hc ⊢;exact .inr hc)⟩
 refine key D fun c hc=> ?_
 rcases hn c hc with h1|h1
 ·cases h1
 ·exact h1
theorem Ext.of_new {w:World} {D:za_} (h:New w.heap.size D):Ext w [] D:=⟨fun c hc=> .inr (h.le c hc),fun c hc=>by cases hc⟩
section
variable {P:Program} {w0:World} {f:Fr} {L:za_} {N:Fr→za_→Prop} {K:j9_} {ops:Array Oper} {rest:List Oper} {md:Md}
 {d:Option Tmp} {ty:TypeId} {ps:String} {af:Array Edge} {g:Option (Nat×Bool)}
theorem jl_ {b:Nat} {o:Obj}: ∀ {B:za_},(keys B).Nodup→(b,o)∈B→look B b=some o
 | [],_,h=>by cases h
 | (c,x)::q,hn,h=>by
  simp only[keys,List.map_cons,List.nodup_cons] at hn
  unfold look
  rcases List.mem_cons.1 h with h|h
  ·cases h;rw[if_pos rfl]
  ·have:c≠b:=fun e=>hn.1 (e▸List.mem_map.2 ⟨_,h,rfl⟩)
   rw[if_neg this]
   exact jl_ hn.2 h
theorem SR.perm {R:List Nat} {M:za_} (h:M.Perm L) (hn: (keys L).Nodup):SR w0 R M=SR w0 R L:=by
 refine k6_ fun r _=> ?_
 have hk: ∀ (A B:za_),A.Perm B→(keys B).Nodup→ ∀o,look A r=some o→look B r=some o:=fun A B hp hB o ho=>jl_ hB (hp.mem_iff.1 (zt_ ho))
 have hnM: (keys M).Nodup:=(List.Perm.nodup_iff (h.map Prod.fst)).2 hn
 unfold zs_
 cases hl:look L r with
 |some o=>rw[hk L M h.symm hnM o hl]
 |none=>
  cases hm:look M r with
  |none=>rfl
  |some o=>rw[hk M L h hn o hm] at hl;cases hl
theorem OwD.permL {l:List Oper} {listed:List Bool} {n:Nat} {R ts:List Nat} {a d:Nat} {z:Obj} {M:za_} (hp:M.Perm L) (h:OwD P w0 l R ts a d z n listed f M N):OwD P w0 l R ts a d z n listed f L N:=by
 refine⟨fun w hw=> ?_,fun b w hb hbL hw=> ?_⟩
 ·have:=h.1 w (hw.perm hp)
  rw[SR.perm hp hw.nodup] at this
  exact this
 ·have hnd: (keys L).Nodup:=by
   have:=hw.nodup
   rw[zc_,List.nodup_append] at this
   exact this.1
  have:=h.2 b w hb (fun hm=>hbL (by have:=(hp.map Prod.fst).mem_iff.1 hm;exact this)) (hw.perm (hp.append_right _))
  rw[SR.perm hp hnd] at this
  exact this
theorem Cw.permL {c:Code} {M:za_} (hp:M.Perm L) (h:Cw P w0 c f M K):Cw P w0 c f L K:=fun w hw=>h w (hw.perm hp)
theorem Ow.permL {M:za_} {l:List Oper} (hp:M.Perm L) (h:Ow P w0 ops .seq l f M N):Ow P w0 ops .seq l f L N:=fun w hw=>h w (hw.perm hp)
theorem Ow.callC {l:List Operand} {ts:Array TypeId} {k:FuncId} {S:Value→za_→Prop} {md':Md} (he:md.turn=some md')
  (hs:zm_ ops f ⟨d, .call ⟨.value (.func k),l.toArray,ts⟩,ty,ps,af,g⟩=false)
  (hk: ∀a w,(callFunc k a).run P w= .ok (.enter k a) w)
  (hc: ∀w,Hp w0 L w→Rets P k (l.map (ev f)).toArray w (XS w [] S))
  (hn: ∀B v D,jr_ L B→w0.heap.size≤B→New B D→S v D→Ow P w0 ops md' rest (qn_ f d v) (L++D) N):
  Ow P w0 ops md (⟨d, .call ⟨.value (.func k),l.toArray,ts⟩,ty,ps,af,g⟩::rest) f L N:=
 Ow.callN he hs hk (S:=fun B v D=>New B D∧S v D) (fun w hw=>(hc w hw).mono fun _v _D h=>⟨h.1.new0,h.2⟩) (fun _ _ _ h=>h.1) (fun B v D hA hB hS=>hn B v D hA hB hS.1 hS.2)
theorem Hp.part {w:World} {X Y:za_} (h:Hp w0 (X++Y) w):Hp w X w:=
 ⟨fun b o hm=>h.has b o (List.mem_append_left _ hm),by have:=h.nodup;rw[zc_,List.nodup_append] at this;exact this.1,fun _ _ _=>rfl,Nat.le_refl _,rfl,rfl,rfl⟩
theorem Hp.join {w w':World} {X Y D:za_} (h:Hp w0 (X++Y) w) (k:Hp w D w') (h1: ∀c,c∈keys X→c∈keys D) (h2: ∀c,c∈keys D→c∈keys X∨w.heap.size≤c):Hp w0 (D++Y) w':=by
 have hnd:=h.nodup
 rw[zc_,List.nodup_append] at hnd
 have hY: ∀c,c∈keys Y→c∉keys D:=by
  intro c hc hd
  rcases h2 c hd with hx|hx
  ·exact hnd.2.2 c hx c hc rfl
  ·have:=h.lt (b:=c) (by rw[zc_];exact List.mem_append_right _ hc)
   omega
 have ht:=h.trans k
 have e: (X++Y).filter (fun p=> !(keys D).contains p.1)=Y:=by
  rw[List.filter_append,qX_ hY]
  have:X.filter (fun p=> !(keys D).contains p.1)= []:=by
   rw[List.filter_eq_nil_iff]
   intro p hp
   have:=h1 p.1 (List.mem_map.2 ⟨p,hp,rfl⟩)
   simp[this]
  rw[this,List.nil_append]
 rw[e] at ht
 exact ht.perm List.perm_append_comm
theorem Ow.appendX {ts tx e:TypeId} {m:Bool×Nat} {z:Value} {s x:Operand} {n k:Nat} {cs new:List Value} {dx:TypeDesc} {md':Md} {X Y:za_} (sv:Value) (hL:L=X++Y) (hsv:ev f s=sv) (he:md.turn=some md')
  (hs:zm_ ops f ⟨d, .call ⟨.builtin .append, #[s,x], #[ts,tx]⟩,ty,ps,af,g⟩=false)
  (hu:P.underlying ts=some (.slice e)) (hm:zL_ P e=some m) (hi:x8_ P e=true) (hz:zY_ P e=some z) (hzs:z.cells.size=m.2) (hux:P.underlying tx=some dx) (hnx: ∀k,dx≠ .int k)
  (hB:Gr X e m.2 sv n cs) (hX: ∀w,Hp w0 L w→AppX P w m.2 (ev f x) k new) (hk:0<k) (hbig:2* (n+k)+768≤2^38)
  (hn: ∀B v' D,jr_ L B→w0.heap.size≤B→Buf D e m.2 v' (n+k) (cs++new)→(∀c,c∈keys X→c∈keys D)→(∀c,c∈keys D→c∈keys X∨B≤c)→(∀c o,slB sv≠some c→look X c=some o→look D c=some o)→Ow P w0 ops md' rest (qn_ f d v') (D++Y) N):
  Ow P w0 ops md (⟨d, .call ⟨.builtin .append, #[s,x], #[ts,tx]⟩,ty,ps,af,g⟩::rest) f L N:=by
 subst hL
 refine Ow.step he rfl hs fun w hw=> ?_
 have hp:=hw.part
 have hA:jr_ (X++Y) w.heap.size:=z2_ fun b hb=>hw.lt hb
 have fin: ∀v' w' D,(Builtin.append_ #[ts,tx] ty #[sv,ev f x]).run P w= .ok v' w'→Hp w D w'→Buf D e m.2 v' (n+k) (cs++new)→(∀c,c∈keys X→c∈keys D)→(∀c,c∈keys D→c∈keys X∨w.heap.size≤c)→(∀c o,slB sv≠some c→look X c=some o→look D c=some o)→
   (∃v w' L',(execOp (ev f) ⟨d, .call ⟨.builtin .append, #[s,x], #[ts,tx]⟩,ty,ps,af,g⟩).run P w= .ok (.value v) w'∧Hp w0 L' w'∧Ow P w0 ops md' rest (qn_ f d v) L' N):=by
  intro v' w' D hr hD hb h1 h2 h3
  refine⟨v',w',D++Y, ?_,hw.join hD h1 h2,hn w.heap.size v' D hA hw.size hb h1 h2 h3⟩
  simp only[execOp,resolve,Sem.run_bind,Sem.run_pure,Result.andThen_ok,invoke,builtin,List.map_toArray,List.map_cons,List.map_nil,hsv]
  rw[hr]
  rfl
 have hX': ∀w',Hp w [] w'→True:=fun _ _=>trivial
 rcases hB with hB| ⟨rfl,rfl,b,rfl,hlk⟩
 ·obtain⟨v',w',D,hr,hD,hb,hg,-⟩:=Xa_ (w0:=w) (L:=X) (ty:=ty) (x:=ev f x) hp hu hm hi hz hzs hux hnx hB (fun w2 hw2=>hX w2 (by
   refine hw.join hw2 (fun c hc=>hc) (fun c hc=> .inl hc))) hbig
  exact .inl (fin v' w' D hr hD hb hg.keys (fun c hc=>(hg.new c hc).imp id And.right) hg.look)
 ·rcases wY_ (w0:=w) (L:=X) (ty:=ty) (b:=b) (x:=ev f x) hp hu hm hi hz hzs hux hnx (fun w2 hw2=>hX w2 (by
   refine hw.join hw2 (fun c hc=>hc) (fun c hc=> .inl hc))) hbig with⟨h0,-⟩ | ⟨-,v',w',D,hr,hD,hb,hg,-⟩
  ·omega
  ·exact .inl (fin v' w' D hr hD hb hg.keys (fun c hc=>(hg.new c hc).imp id And.right) (fun c o _ hl=>hg.look c o (by simp[slB]) hl))
end
def GrI (D:za_) (E:TypeId) (m:Nat) (v:Value) (n:Nat) (cs:List Value):Prop:= ∃X,(∀p,p∈X→p∈D)∧Gr X E m v n cs
theorem Gr.i {X D:za_} {E:TypeId} {m n:Nat} {v:Value} {cs:List Value} (h:Gr X E m v n cs) (hX: ∀p,p∈X→p∈D):GrI D E m v n cs:=⟨X,hX,h⟩
theorem GrI.mono {D D':za_} {E:TypeId} {m n:Nat} {v:Value} {cs:List Value} (h:GrI D E m v n cs) (hX: ∀p,p∈D→p∈D'):GrI D' E m v n cs:=by
 obtain⟨X,h1,h2⟩:=h;exact⟨X,fun p hp=>hX p (h1 p hp),h2⟩
theorem GrI.slV {α:Type} {m:Nat} {enc:α→List Value} {z:α} {w0 w:World} {v:Value} {l:List α} {D:za_} {E:TypeId} {n:Nat} {cs:List Value} (h:GrI D E m v n cs) (hw:Hp w0 D w) (hl:l.length=n) (hcs:cs=(l.map enc).flatten) (hm: ∀x,(enc x).length=m):SlV m enc z w v l:=by
 obtain⟨X,h1,h2⟩:=h
 exact h2.slM (fun b o hm=>hw.has b o (h1 _ hm)) hl hcs hm
section
variable {P:Program} {w0:World} {f:Fr} {L:za_} {N:Fr→za_→Prop}
theorem OwD.via {l:List Oper} {listed:List Bool} {n:Nat} {R ts:List Nat} {a d:Nat} {z:Obj} {G:Type} (F:G→Fr) (H:G→za_) (J:G→Prop) (n':Nat) (listed':List Bool)
  (start: (∀g f' L',J g→f'=F g→(H g).Perm L'→OwD P w0 l R ts a d z n' listed' f' L' N)→OwD P w0 l R ts a d z n listed f L N) (fin: ∀g,J g→OwD P w0 l R ts a d z n' listed' (F g) (H g) N):OwD P w0 l R ts a d z n listed f L N:=
 start fun g f' L' hJ hf hp=>by subst hf;exact(fin g hJ).permL hp
theorem vq_ {L _M:za_} {b:Nat} {o:Obj} (h:b∉keys L):look (L++ [(b,o)]) b=some o:=by
 rw[zG_ h];exact zB_ _ _ _
theorem wz_ {b:Nat} {o x:Obj}: ∀ {L:za_},b∉keys L→setB (L++ [(b,o)]) b x=L++ [(b,x)]
 | [],_=>by rw[List.nil_append,qC_];rfl
 | (c,y)::r,h=>by
  simp only[keys,List.map_cons,List.mem_cons,not_or] at h
  rw[List.cons_append,jI_ _ _ _ _ _ (Ne.symm h.1),wz_ (by simpa [keys] using h.2)];rfl
end
end Go.Sx
namespace Go.Sx
open Go
theorem aek_ {P:Program} {t e:TypeId} {m:Nat} {zc:Array Value} {cs:List Value} (hu:P.underlying t=some (.slice e)) (ha:zL_ P e=some (true,m)) (hz:zY_ P e=some (.agg zc)) (hm:0<m∧m≤16777216) (hc:cs.length=m):
  vX_ P t 1 [(0, .agg cs.toArray)]=some (e,cs.toArray):=by
 have h2:Value.cells (.agg cs.toArray)=cs.toArray:=zg_ _
 have hg: ¬ (1*m>2^24):=by simp;omega
 have h0: ¬ (1*m=0):=by omega
 simp only[vX_,hu,ha,hz,Option.map_some]
 rw[if_neg hg,if_neg h0]
 simp only
 generalize hI: (Array.range (1*m)).map (fun x=>(Value.cells (.agg zc))[x% (Value.cells (.agg zc)).size]!)=I
 have hIs:I.size=m:=by rw[←hI];simp
 have hfl:Instr.fill (fun i=>some (i*m,m)) I [(0,Value.agg cs.toArray)]=some cs.toArray:=by
  unfold Instr.fill
  have s3:cs.toArray.size=m:=by simp[hc]
  simp only[h2,s3,hIs,Nat.zero_mul,ne_eq,not_true_eq_false,decide_false,Bool.false_or,Nat.zero_add,Nat.lt_irrefl,gt_iff_lt,Bool.false_eq_true, ↓reduceIte]
  unfold Instr.fill
  congr 1
  have hz:=k7_ cs 0 0 I
  rw[Nat.add_zero,abm_ I cs (by rw[hc,hIs])] at hz
  simp only[Nat.zero_add] at hz
  rw[←Array.foldl_toList,Array.toList_zipIdx]
  exact hz
 rw[hfl]
 rfl
end Go.Sx
namespace Go.Sx
open Go
abbrev ltB (a b:List UInt8):Bool:=Op.bytesLess a b
theorem J1_: ∀ (x y:List UInt8),ltB x y=decide (x<y)
 | [],[]=>by simp[ltB,Op.bytesLess]
 |_::_,[]=>by simp[ltB,Op.bytesLess]
 | [],_::_=>by simp[ltB,Op.bytesLess]
 |a::x,b::y=>by
  have ih:=J1_ x y
  simp only[ltB] at ih ⊢
  rw[Op.bytesLess,ih]
  simp only[List.cons_lt_cons_iff]
  by_cases h1:a<b<;>by_cases h2:a=b<;>by_cases h3:x<y<;>simp[h1,h2,h3]
theorem wJ_ (a:List UInt8):ltB a a=false:=by
 rw[J1_];simp
theorem Z6_ {a b c:List UInt8} (h:ltB a b=true) (k:ltB b c=true):ltB a c=true:=by
 rw[J1_,decide_eq_true_eq] at*
 exact List.lt_trans h k
theorem aj5_ {a b:List UInt8} (h:ltB a b=true):a≠b:=by
 rintro rfl
 rw[wJ_] at h;cases h
theorem Qk_ {a b:List UInt8} (h:ltB a b=false) (hne:a≠b):ltB b a=true:=by
 rw[J1_,decide_eq_false_iff_not] at h
 rw[J1_,decide_eq_true_eq]
 rcases Std.Trichotomous.rel_or_eq_or_rel_swap (r:=(· < · :List UInt8→List UInt8→Prop)) (a:=a) (b:=b) with h1|h1|h1
 ·exact absurd h1 h
 ·exact absurd h1 hne
 ·exact h1
end Go.Sx
namespace Go.StP
open Go Go.Sx
variable {α:Type} (key:α→List UInt8)
def lt (a b:α):Bool:=ltB (key a) (key b)
def Sorted (l:List α):Prop:=l.Pairwise fun a b=>lt key b a=false
def of (k:List UInt8) (l:List α):List α:=l.filter fun a=>key a==k
def St (l l':List α):Prop:= ∀k,of key k l'=of key k l
theorem St.refl (l:List α):St key l l:=fun _=>rfl
variable {key}
theorem St.trans {a b c:List α} (h:St key a b) (h':St key b c):St key a c:=fun k=>(h' k).trans (h k)
theorem St.symm {a b:List α} (h:St key a b):St key b a:=fun k=>(h k).symm
theorem abI_ (k:List UInt8) (a b:List α):of key k (a++b)=of key k a++of key k b:=List.filter_append ..
theorem St.app {a a' b b':List α} (h:St key a a') (h':St key b b'):St key (a++b) (a'++b'):=fun k=>by rw[abI_,abI_,h,h']
theorem ah9_ {k:List UInt8} {l:List α} {x:α}:x∈of key k l↔x∈l∧key x=k:=by
 unfold of;rw[List.mem_filter];simp
theorem St.mem {a b:List α} (h:St key a b) (x:α):x∈b↔x∈a:=by
 have e:=h (key x)
 have h1:x∈b↔x∈of key (key x) b:=by rw[ah9_];simp
 have h2:x∈a↔x∈of key (key x) a:=by rw[ah9_];simp
 rw[h1,h2,e]
theorem afI_ {k:List UInt8} {l:List α} (h: ∀x,x∈l→key x≠k):of key k l= []:=by
 unfold of
 rw[List.filter_eq_nil_iff]
 intro x hx
 simpa using h x hx
theorem St.swap {a b:List α} (h: ∀x,x∈a→ ∀y,y∈b→key x≠key y):St key (a++b) (b++a):=by
 intro k
 rw[abI_,abI_]
 by_cases ha: ∃x,x∈a∧key x=k
 ·obtain⟨x,hx,rfl⟩:=ha
  have:of key (key x) b= []:=afI_ fun y hy e=>h x hx y hy e.symm
  rw[this,List.append_nil,List.nil_append]
 ·have:of key k a= []:=afI_ fun x hx e=>ha ⟨x,hx,e⟩
  rw[this,List.append_nil,List.nil_append]
theorem lt_trans {a b c:α} (h:lt key a b=true) (k:lt key b c=true):lt key a c=true:=Z6_ h k
theorem lt_irrefl (a:α):lt key a a=false:=wJ_ _
theorem al0_ {a b:α} (h:lt key a b=false) (k:lt key b a=false):key a=key b:=by
 cases hk:decide (key a=key b)
 ·have hne:key a≠key b:=of_decide_eq_false hk
  have:=Qk_ h hne
  unfold lt at k
  rw[this] at k;cases k
 ·exact of_decide_eq_true hk
theorem St.head {a b:α} {l l':List α} (hs:Sorted key (a::l)) (hs':Sorted key (b::l')) (h:St key (a::l) (b::l')):a=b∧St key l l':=by
 have h1:lt key b a=false:=by
  have hb:b∈a::l:=(h.mem b).1 List.mem_cons_self
  rcases List.mem_cons.1 hb with rfl|hb
  ·exact lt_irrefl _
  ·exact(List.pairwise_cons.1 hs).1 b hb
 have h2:lt key a b=false:=by
  have ha:a∈b::l':=(h.mem a).2 List.mem_cons_self
  rcases List.mem_cons.1 ha with rfl|ha
  ·exact lt_irrefl _
  ·exact(List.pairwise_cons.1 hs').1 a ha
 have hk:key a=key b:=al0_ h2 h1
 have he:=h (key a)
 unfold of at he
 rw[List.filter_cons,List.filter_cons,if_pos (by simp[hk]),if_pos (by simp)] at he
 have hab:b=a:=(List.cons.inj he).1
 refine⟨hab.symm,fun k=> ?_⟩
 have hk':=h k
 subst hab
 unfold of at hk' ⊢
 rw[List.filter_cons,List.filter_cons] at hk'
 split at hk'
 ·exact(List.cons.inj hk').2
 ·exact hk'
theorem St.eq: ∀ {l l':List α},Sorted key l→Sorted key l'→St key l l'→l=l'
 | [],[],_,_,_=>rfl
 | [],b::l',_,_,h=>by
  have:b∈ ([]:List α):=(h.mem b).1 List.mem_cons_self
  cases this
 |a::l,[],_,_,h=>by
  have:a∈ ([]:List α):=(h.mem a).2 List.mem_cons_self
  cases this
 |a::l,b::l',hs,hs',h=>by
  obtain⟨rfl,h'⟩:=St.head hs hs' h
  rw[St.eq (List.pairwise_cons.1 hs).2 (List.pairwise_cons.1 hs').2 h']
theorem Sorted.app {a b:List α} (ha:Sorted key a) (hb:Sorted key b) (h: ∀x,x∈a→ ∀y,y∈b→lt key y x=false):Sorted key (a++b):=
 List.pairwise_append.2 ⟨ha,hb,h⟩
theorem Sorted.left {a b:List α} (h:Sorted key (a++b)):Sorted key a:=(List.pairwise_append.1 h).1
theorem Sorted.right {a b:List α} (h:Sorted key (a++b)):Sorted key b:=(List.pairwise_append.1 h).2.1
end Go.StP
namespace Go.Sx
open Go
section
variable {α:Type} (enc:α→List Value)
def rowO (E:TypeId) (rest:List Value) (d:List α):Obj:= .cells ((d.map enc).flatten++rest).toArray E (0,0)
variable {enc} {m:Nat} {E:TypeId} {rest:List Value} {d:List α} {z:α}
end
section
variable {P:Program} {w0:World} {f:Fr} {L:za_} {N:Fr→za_→Prop} {ops:Array Oper} {rest:List Oper} {md:Md} {d:Option Tmp} {ty:TypeId} {ps:String} {af:Array Edge} {g:Option (Nat×Bool)}
end
end Go.Sx
namespace Go.StP
open Go Go.Sx
variable {α:Type} {key:α→List UInt8} {z:α}
theorem acY_ {a b:List α} {k:Nat} (h:k<a.length): (a++b).getD k z=a.getD k z:=by
 rw[List.getD_eq_getElem?_getD,List.getD_eq_getElem?_getD,List.getElem?_append_left h]
theorem acs_ {a b:List α} {k:Nat} (h:a.length≤k): (a++b).getD k z=b.getD (k - a.length) z:=by
 rw[List.getD_eq_getElem?_getD,List.getD_eq_getElem?_getD,List.getElem?_append_right h]
theorem take_snoc {l:List α} {k:Nat} (h:k<l.length):l.take (k+1)=l.take k++ [l.getD k z]:=by
 rw[List.getD_eq_getElem?_getD,List.getElem?_eq_getElem h]
 exact List.take_succ_eq_append_getElem h
theorem Sorted.at_ {l:List α} (h:Sorted key l) {i j:Nat} (hij:i≤j) (hj:j<l.length):lt key (l.getD j z) (l.getD i z)=false:=by
 rcases Nat.lt_or_eq_of_le hij with h1|rfl
 ·have:=List.pairwise_iff_getElem.1 h i j (by omega) hj h1
  rw[List.getD_eq_getElem?_getD,List.getD_eq_getElem?_getD,List.getElem?_eq_getElem hj,List.getElem?_eq_getElem (show i<l.length by omega)]
  exact this
 ·exact lt_irrefl _
end Go.StP
namespace Go.Sx
open Go
theorem qP_ {α:Type}: (∀ (a:α) (l:List α),(a::l).length=l.length+1)∧([]:List α).length=0∧(∀ (l:List α) (i:Nat) (a:α),(l.set i a).length=l.length)∧(∀ (l m:List α),(l++m).length=l.length+m.length)∧
  (∀ (n:Nat) (a:α),(List.replicate n a).length=n)∧(∀ (n:Nat) (l:List α),(l.take n).length=min n l.length)∧(∀ (n:Nat) (l:List α),(l.drop n).length=l.length - n)∧ ∀ {β:Type} (f:α→β) (l:List α),(l.map f).length=l.length:=
 ⟨fun _ _=>List.length_cons,List.length_nil,fun _ _ _=>List.length_set,fun _ _=>List.length_append,fun _ _=>List.length_replicate,fun _ _=>List.length_take,fun _ _=>List.length_drop,fun _ _=>List.length_map ..⟩
theorem qM_: (∀n:Nat,((n:Int)).toNat=n)∧(∀l:List UInt8,(a8 l).size=l.length)∧(∀l:List UInt32,(a32 l).size=l.length)∧(∀p:Prop,(p∧p)=p)∧(∀p:Prop,(p∧True)=p)∧ ∀p:Prop,(True∧p)=p:=
 ⟨Int.toNat_natCast,QC_,Zj_,fun _=>and_self _,fun _=>and_true _,fun _=>true_and _⟩
inductive Tag {α:Type} (x:α):Type
 |mk:Tag x
def seqN (F:Fr→za_→j9_→Prop) (K:j9_) (f:Fr) (L:za_):Prop:=F f L K
def cdC (v:Value) (A B S:Prop) (_:Tag (A,B,S)):Prop:=
 match v with
 | .bool true=>A
 | .bool false=>B
 |_=>S
abbrev CwS (P:Program) (w0:World) (c:Code) (f:Fr) (L:za_) (K:j9_) (_:Tag (c,K)):Prop:=Cw P w0 c f L K
abbrev OwS (P:Program) (w0:World) (ops:Array Oper) (md:Md) (l:List Oper) (f:Fr) (L:za_) (N:Fr→za_→Prop) (_:Tag (ops,l,N)):Prop:=Ow P w0 ops md l f L N
def bsK (K:j9_) (e:Exit) (f:Fr) (L:za_):Dep K:=K e f L
def bsN (N:Fr→za_→Prop) (f:Fr) (L:za_):Dep N:=N f L
abbrev bsR (K:j9_) (e:Exit) (f:Fr) (L:za_) (_:Tag K):Prop:=K e f L
abbrev bsM (N:Fr→za_→Prop) (f:Fr) (L:za_) (_:Tag N):Prop:=N f L
def owk (P:Program) (w0:World) (ops:Array Oper) (N:Fr→za_→Prop) (md:Md) (l:List Oper) (f:Fr) (L:za_):Dep (ops,N):=
 match l with
 | []=>N f L
 |o::r=>Ow P w0 ops md (o::r) f L N
def fid:Code→Nat
 | .seq a _=>fid a
 | .region i _ _=>i
 | .block _ c=>fid c
 | .loop c=>fid c
 | .scope c=>fid c
 |_=>500000
def Ws_ (z:List Nat) (c:Code):Bool:=match z with
 | []=>false
 |k::r=>(k==1000000+fid c) ||Ws_ r c
def vcC (P:Program) (w0:World) (z:List Nat):Code→Fr→za_→j9_→Prop
 | .seq x y,f,L,K=>ib (Ws_ z (.seq x y)) (CwS P w0 (.seq x y) f L K .mk) (vcC P w0 z x f L (vb_ (seqN (fun f L K=>ib (z.contains 999999) (CwS P w0 y f L K .mk) (vcC P w0 z y f L K)) K) K))
 | .skip,f,L,K=>K .normal f L
 | .exit i,f,L,K=>K (.exit i) f L
 | .goto i,f,L,K=>K (.goto i) f L
 | .ret,f,L,K=>K .ret f L
 | .label l,f,L,K=>ib (z.contains 999999) (Cw P w0 (.label l) f L K) (K .normal f L)
 | .block id c,f,L,K=>vcC P w0 z c f L (xy_ id K)
 | .cond c x y,f,L,K=> ∃b,ev f c= .bool b∧(b=true→vcC P w0 z x f L K)∧(b=false→vcC P w0 z y f L K)
 | .region id ops false,f,L,K=>ib (z.contains id) (Cw P w0 (.region id ops false) f L K) (vcL P w0 ops true .seq ops.toList f L (owk P w0 ops (K .normal)))
 |c,f,L,K=>Cw P w0 c f L K
section
variable {P:Program} {w0:World} {f:Fr} {L:za_} {K:j9_} {N:Fr→za_→Prop} {ops:Array Oper} {md:Md} {l:List Oper}
theorem ahZ_ (h:owk P w0 ops N md l f L):Ow P w0 ops md l f L N:=by
 cases l with
 |nil=>exact Ow.nil h
 |cons o r=>exact h
theorem Ow.go (he:md.eff=true) (h:vcL P w0 ops true md l f L (owk P w0 ops (bsN N))):Ow P w0 ops md l f L N:=
 xL_ _ (fun _ _ _ _ h=>ahZ_ h) true l md f L (fun _=>he) h
theorem Ow.goQ (h:vcL P w0 ops false md l f L (owk P w0 ops (bsN N))):Ow P w0 ops md l f L N:=
 xL_ _ (fun _ _ _ _ h=>ahZ_ h) false l md f L (fun e=>by cases e) h
theorem xZ_ {z:List Nat}: ∀ (c:Code) {f:Fr} {L:za_} {K:j9_},vcC P w0 z c f L K→Cw P w0 c f L K
 | .seq x y,f,L,K,h=>by
   unfold vcC at h
   cases hs:Ws_ z (.seq x y) with
   |true=>rw[hs] at h;exact h
   |false=>
    rw[hs] at h
    refine Cw.seq ((xZ_ x h).mono fun e f L k=> ?_)
    cases e with
    |normal=>
     have k':ib (z.contains 999999) (CwS P w0 y f L K .mk) (vcC P w0 z y f L K):=k
     cases hz:z.contains 999999 with
     |true=>rw[hz] at k';exact k'
     |false=>rw[hz] at k';exact xZ_ y k'
    |_=>exact k
 | .skip,_,_,_,h=>Cw.skip h
 | .exit _,_,_,_,h=>Cw.exit h
 | .goto _,_,_,_,h=>Cw.goto h
 | .ret,_,_,_,h=>Cw.ret h
 | .label l,_,_,_,h=>by
   unfold vcC at h
   cases hz:z.contains 999999 with
   |true=>rw[hz] at h;exact h
   |false=>rw[hz] at h;exact Cw.label h
 | .block id c,_,_,_,h=>Cw.block (xZ_ c h)
 | .cond c x y,_,_,_,⟨b,hb,h1,h2⟩=>Cw.cond hb (fun e=>xZ_ x (h1 e)) (fun e=>xZ_ y (h2 e))
 | .region id ops false,f,L,K,h=>by
   obtain⟨l⟩:=ops
   unfold vcC at h
   cases hz:z.contains id with
   |true=>rw[hz] at h;exact h
   |false=>rw[hz] at h;exact Cw.region (Ow.go rfl h)
 | .region _ _ true,_,_,_,h=>h
 | .loop _,_,_,_,h=>h
 | .rangeFunc _ _ _ _,_,_,_,h=>h
 | .scope _,_,_,_,h=>h
 | .refuse _,_,_,_,h=>h
end
class Steps (c:Code):Prop
instance {x y:Code}:Steps (.seq x y):=⟨⟩
instance:Steps .skip:=⟨⟩
instance {i:Nat}:Steps (.exit i):=⟨⟩
instance {i:Nat}:Steps (.goto i):=⟨⟩
instance:Steps .ret:=⟨⟩
instance {i:Nat} {c:Code}:Steps (.block i c):=⟨⟩
instance {c:Operand} {x y:Code}:Steps (.cond c x y):=⟨⟩
instance {i:Nat} {ops:Array Oper}:Steps (.region i ops false):=⟨⟩
theorem Cw.go {P:Program} {w0:World} {c:Code} {f:Fr} {L:za_} {K:j9_} (z:List Nat) [Steps c] (h:vcC P w0 z c f L (bsK K)):Cw P w0 c f L K:=xZ_ c h
@[congr] theorem ak2_ {v v':Value} {A B S:Prop} {t:Tag (A,B,S)} (h:v=v'):cdC v A B S t=cdC v' A B S t:=by rw[h]
section
variable (P:Program) (w0:World) (z:List Nat) (f:Fr) (L:za_) (K:j9_) (N:Fr→za_→Prop) (ops:Array Oper) (md:Md)
theorem aho_ (x y:Code):vcC P w0 [] (.seq x y) f L K=vcC P w0 [] x f L (vb_ (seqN (fun f L K=>vcC P w0 [] y f L K) K) K):=(rfl)
theorem ahn_ (k:Nat) (z:List Nat) (x y:Code):vcC P w0 (k::z) (.seq x y) f L K=ib (Ws_ (k::z) (.seq x y)) (CwS P w0 (.seq x y) f L K .mk) (vcC P w0 (k::z) x f L (vb_ (seqN (fun f L K=>ib ((k::z).contains 999999) (CwS P w0 y f L K .mk) (vcC P w0 (k::z) y f L K)) K) K)):=(rfl)
theorem agr_:vcC P w0 z .skip f L K=K .normal f L:=(rfl)
theorem agE_ (i:Nat):vcC P w0 z (.exit i) f L K=K (.exit i) f L:=(rfl)
theorem age_ (i:Nat):vcC P w0 z (.goto i) f L K=K (.goto i) f L:=(rfl)
theorem ajE_:vcC P w0 z .ret f L K=K .ret f L:=(rfl)
theorem aeP_ (i:Nat):vcC P w0 z (.label i) f L K=ib (z.contains 999999) (CwS P w0 (.label i) f L K .mk) (K .normal f L):=(rfl)
theorem afQ_ (i:Nat) (c:Code):vcC P w0 z (.block i c) f L K=vcC P w0 z c f L (xy_ i K):=(rfl)
theorem agF_ (c:Operand) (x y:Code):vcC P w0 z (.cond c x y) f L K=cdC (ev f c) (vcC P w0 z x f L K) (vcC P w0 z y f L K) (vcC P w0 z (.cond c x y) f L K) .mk:=by
 unfold cdC
 split
 ·rename_i h;simp[vcC,h]
 ·rename_i h;simp[vcC,h]
 ·rfl
theorem acM_ (i:Nat) (l:List Oper):vcC P w0 z (.region i l.toArray false) f L K=ib (z.contains i) (CwS P w0 (.region i l.toArray false) f L K .mk) (vcL P w0 l.toArray true .seq l f L (owk P w0 l.toArray (K .normal))):=(rfl)
theorem aeB_ (i:Nat) (ops:Array Oper):vcC P w0 z (.region i ops true) f L K=CwS P w0 (.region i ops true) f L K .mk:=(rfl)
theorem ahu_ (c:Code):vcC P w0 z (.loop c) f L K=CwS P w0 (.loop c) f L K .mk:=(rfl)
theorem ae0_ (c:Code):vcC P w0 z (.scope c) f L K=CwS P w0 (.scope c) f L K .mk:=(rfl)
theorem adz_ (x:Operand) (p:Array Tmp) (a c:Code):vcC P w0 z (.rangeFunc x p a c) f L K=CwS P w0 (.rangeFunc x p a c) f L K .mk:=(rfl)
theorem aiU_ (F:Fr→za_→j9_→Prop):bsN (seqN F K) f L=F f L K:=(rfl)
theorem amk_ (e:Exit):bsN (K e) f L=bsK K e f L:=(rfl)
theorem ak4_ (c:Code):bsN (fun f L=>Cw P w0 c f L K) f L=CwS P w0 c f L K .mk:=(rfl)
theorem aiG_:vb_ N K .normal f L=bsN N f L:=(rfl)
theorem ajf_ (i:Nat):vb_ N K (.exit i) f L=K (.exit i) f L:=(rfl)
theorem aiZ_ (i:Nat):vb_ N K (.goto i) f L=K (.goto i) f L:=(rfl)
theorem aji_:vb_ N K .ret f L=K .ret f L:=(rfl)
theorem ahT_ (i:Nat):xy_ i K .normal f L=K .normal f L:=(rfl)
theorem ag3_ (i j:Nat):xy_ i K (.goto j) f L=K (.goto j) f L:=(rfl)
theorem ahC_ (i:Nat):xy_ i K .ret f L=K .ret f L:=(rfl)
theorem agl_ (i j:Nat):xy_ i K (.exit j) f L=ib (j==i) (K .normal f L) (K (.exit j) f L):=by
 by_cases h:j=i
 ·have e: (j==i)=true:=beq_iff_eq.2 h
  rw[e]
  simp[xy_,ib,h]
 ·have e: (j==i)=false:=beq_eq_false_iff_ne.2 h
  rw[e]
  simp[xy_,ib,h]
theorem aga_ (A:Nat→Fr→za_→Prop):kk_ A K .normal f L=K .normal f L:=(rfl)
theorem ahV_ (A:Nat→Fr→za_→Prop) (i:Nat):kk_ A K (.exit i) f L=K (.exit i) f L:=(rfl)
theorem agm_ (A:Nat→Fr→za_→Prop) (i:Nat):kk_ A K (.goto i) f L=bsN (A i) f L:=(rfl)
theorem af2_ (A:Nat→Fr→za_→Prop):kk_ A K .ret f L=K .ret f L:=(rfl)
theorem aiJ_:owk P w0 ops N md [] f L=bsN N f L:=(rfl)
theorem ai4_ (e:Exit):bsK K e f L=bsR K e f L .mk:=(rfl)
theorem ajb_:bsN N f L=bsM N f L .mk:=(rfl)
theorem akI_:bsN (bsN N) f L=bsN N f L:=(rfl)
theorem aka_ (e:Exit):bsK (bsK K) e f L=bsK K e f L:=(rfl)
theorem ahd_ (e:Exit):bsK (vb_ N K) e f L=vb_ N (bsK K) e f L:=by cases e<;>rfl
theorem adp_ (i:Nat) (e:Exit):bsK (xy_ i K) e f L=xy_ i (bsK K) e f L:=by cases e<;>rfl
theorem ads_ (A:Nat→Fr→za_→Prop) (e:Exit):bsK (kk_ A K) e f L=kk_ A (bsK K) e f L:=by cases e<;>rfl
theorem af9_ (o:Oper) (r:List Oper):owk P w0 ops N md (o::r) f L=OwS P w0 ops md (o::r) f L N .mk:=(rfl)
end
section
variable (A B S:Prop) (t:Tag (A,B,S))
theorem alG_:cdC (.bool true) A B S t=A:=(rfl)
theorem alz_:cdC (.bool false) A B S t=B:=(rfl)
theorem ahk_ (b:Bool) (h:b=true):cdC (.bool b) A B S t=A:=by rw[h];rfl
theorem ahE_ (b:Bool) (h:b=false):cdC (.bool b) A B S t=B:=by rw[h];rfl
theorem akF_ (p:Prop) [Decidable p] (h:p):cdC (.bool (decide p)) A B S t=A:=ahk_ A B S t _ (decide_eq_true h)
theorem ak6_ (p:Prop) [Decidable p] (h: ¬p):cdC (.bool (decide p)) A B S t=B:=ahE_ A B S t _ (decide_eq_false h)
theorem al7_ (a b:Int) (h:a=b):cdC (.bool (a==b)) A B S t=A:=ahk_ A B S t _ (beq_iff_eq.2 h)
theorem alO_ (a b:Int) (h: ¬a=b):cdC (.bool (a==b)) A B S t=B:=ahE_ A B S t _ (beq_eq_false_iff_ne.2 h)
theorem alN_ (a b:Int) (h: ¬a=b):cdC (.bool (a !=b)) A B S t=A:=ahk_ A B S t _ (bne_iff_ne.2 h)
theorem alw_ (a b:Int) (h:a=b):cdC (.bool (a !=b)) A B S t=B:=ahE_ A B S t _ (by rw[h];simp)
end
theorem aiB_ (w0:World) (L:za_) (v:Value):Jc_ w0 L .no v=none:=(rfl)
theorem ajP_ (w0:World) (L:za_) (e:TypeId) (v:Value):Jc_ w0 L (.strBytes e) v=none:=(rfl)
theorem akd_ (v:Value):XU_ .no v=none:=by unfold XU_;split<;>first|rfl| (rename_i h;cases h)
theorem aey_ (c:Code):Ws_ [] c=false:=(rfl)
theorem ab7_ (k:Nat) (r:List Nat) (c:Code):Ws_ (k::r) c=((k==1000000+fid c) ||Ws_ r c):=(rfl)
theorem aif_ (a b:Code):fid (.seq a b)=fid a:=(rfl)
theorem ac4_ (i:Nat) (o:Array Oper) (d:Bool):fid (.region i o d)=i:=(rfl)
theorem afv_ (i:Nat) (c:Code):fid (.block i c)=fid c:=(rfl)
theorem ahL_ (c:Operand) (x y:Code):fid (.cond c x y)=500000:=(rfl)
theorem af1_ (c:Code):fid (.loop c)=fid c:=(rfl)
theorem aet_ (c:Code):fid (.scope c)=fid c:=(rfl)
theorem aex_ (i:Nat):fid (.label i)=500000:=(rfl)
theorem ahx_ (i:Nat):fid (.goto i)=500000:=(rfl)
theorem ahF_ (i:Nat):fid (.exit i)=500000:=(rfl)
theorem ahD_:fid .skip=500000:=(rfl)
theorem ajR_:fid .ret=500000:=(rfl)
theorem aep_ (x:Operand) (p:Array Tmp) (a c:Code):fid (.rangeFunc x p a c)=500000:=(rfl)
def allF (j:Nat→Value):Nat→Nat→Fr
 |_,0=> []
 |k,n+1=>j k::allF j (k+1) n
def CutM {G:Type} (n:Nat) (S:G→List (Nat×Value)) (H:G→za_) (J:G→Prop) (f':Fr) (L':za_):Prop:=
 ∃g,J g∧L'=H g∧f'=pin (allF (ve_ f') 0 n) (S g)
theorem CutM.mk {G:Type} {n:Nat} {S:G→List (Nat×Value)} {H:G→za_} {J:G→Prop} {f':Fr} {L':za_} (g:G) (hJ:J g) (hL:L'=H g) (hf:f'=pin (allF (ve_ f') 0 n) (S g)):CutM n S H J f' L':=⟨g,hJ,hL,hf⟩
theorem cdC.splitp {p:Prop} [Decidable p] {A B S:Prop} {t:Tag (A,B,S)} (ht:p→A) (he: ¬p→B):cdC (.bool (decide p)) A B S t:=by
 by_cases h:p
 ·rw[akF_ A B S t p h];exact ht h
 ·rw[ak6_ A B S t p h];exact he h
theorem cdC.split {b:Bool} {A B S:Prop} {t:Tag (A,B,S)} (ht:b=true→A) (he:b=false→B):cdC (.bool b) A B S t:=by
 cases b with
 |true=>exact ht rfl
 |false=>exact he rfl
end Go.Sx
namespace Go.Sx
open Go
def Jw_ (r:Option Nat):Fence:={Fence.wide with round:=r}
def QM_:Op→Bool
 | .defer _=>false
 |_=>true
section
variable {P:Program} {w0:World} {f:Fr} {L:za_} {K:j9_} {N:Fr→za_→Prop} {ops:Array Oper} {rest:List Oper} {r:Option Nat} {n:Nat}
theorem Wa_ {k:FuncId} {args:Array Value} {w:World} {R:Ending→World→Prop} (h:Calls P k args w R):CallsIn (Jw_ r) n P k args w R:=
 (callsIn_wide.2 h:CallsIn Fence.wide n P k args w R)
theorem ab4_ {row:String} {args:Array Value} {w:World} {R:Value→World→Prop} (h:Rows P row args w R):RowsIn (Jw_ r) n P row args w R:=
 (fun c cs _=>let ⟨v,w',hr,s⟩:=h c cs;⟨v,w',hr,stepsIn_wide.2 s⟩:RowsIn Fence.wide n P row args w R)
theorem aiy_ {o:Oper} {a:Act} {w:World} {next:Act→World→Prop} {Q:Exit→Act→World→Prop} (hd:QM_ o.op=true) (h:o.wp P a w next Q):o.wpIn (Jw_ r) n P a w next Q:=by
 refine⟨fun _ _=>trivial, ?_⟩
 rw[Oper.semAt_eq _ _ _ (fun c e=>by rw[e] at hd;cases hd)]
 unfold Oper.wp at h
 generalize (execOp a.eval o).run P w=x at h
 match x,h with
 | .ok (.value v) _,h=>exact h
 | .ok .skip _,h=>exact h
 | .ok (.defer e) _,h=>exact h
 | .ok (.enter k args) w',h=>
  have h':Calls P k args w' _:=h
  exact⟨fun(e:false=true)=>(by cases e),Wa_ h'⟩
 | .ok (.row row args) w',h=>
  have h':Rows P row args w' _:=h
  exact⟨fun(e:false=true)=>(by cases e),ab4_ h'⟩
 | .halt (.panic u) _,h=>exact h
theorem Wv_ {Q:Exit→Act→World→Prop} {l2:List Oper}: ∀ (l1:List Oper) (a:Act) (w:World),(l1.all fun o=>QM_ o.op)=true→
  wpList P ops (fun e a w=>e= .normal∧wpListIn (Jw_ r) n P ops Q l2 a w) l1 a w→wpListIn (Jw_ r) n P ops Q (l1++l2) a w
 | [],_,_,_,h=>h.2
 |o::l1,a,w,hd,h=>by
  rw[List.cons_append]
  unfold wpList at h
  unfold wpListIn
  rw[List.all_cons,Bool.and_eq_true] at hd
  split at h
  ·rename_i hw
   rw[if_pos hw]
   rcases h with h| ⟨-,hl⟩
   ·exact aiy_ hd.1 (kJ_ (fun a w hx=>Wv_ l1 a w hd.2 hx) (fun e a w hne hq=>hne hq.1) h)
   ·obtain⟨_,_,he,-⟩:=hl
    cases he
  ·rename_i hw
   rw[if_neg hw]
   exact⟨fun _ _=>trivial,Wv_ l1 _ _ hd.2 h⟩
def OwI (r:Option Nat) (P:Program) (w0:World) (ops:Array Oper) (l:List Oper) (f:Fr) (L:za_) (N:Fr→za_→Prop):Prop:=
 ∀w,Hp w0 L w→wpListIn (Jw_ r) 0 P ops (jg_ w0 N) l (act f) w
theorem OwI.nil (h:N f L):OwI r P w0 ops [] f L N:=fun _ hw=>⟨rfl,rfl,L,hw,by simpa [act] using h⟩
theorem OwI.pre {l1 l2:List Oper} (hd: (l1.all fun o=>QM_ o.op)=true) (h:Ow P w0 ops .seq l1 f L (fun f' L'=>OwI r P w0 ops l2 f' L' N)):OwI r P w0 ops (l1++l2) f L N:=by
 intro w hw
 refine Wv_ l1 _ _ hd ?_
 have h1:=h w hw
 have mono: ∀ (l:List Oper) (a:Act) (w:World),wpList P ops (jg_ w0 (fun f' L'=>OwI r P w0 ops l2 f' L' N)) l a w→wpList P ops (fun e a w=>e= .normal∧wpListIn (Jw_ r) 0 P ops (jg_ w0 N) l2 a w) l a w:=by
  intro l
  induction l with
  |nil=>
   rintro a w ⟨-,hd',L',hp,hO⟩
   refine⟨rfl, ?_⟩
   have:=hO w hp
   rwa [←ZT_ hd'] at this
  |cons o l ih=>
   intro a w h
   unfold wpList at h ⊢
   split at h
   ·rename_i hw
    rw[if_pos hw]
    rcases h with h| ⟨-,hl⟩
    ·exact .inl (kJ_ ih (fun e a w hne hq=>hne hq.1) h)
    ·obtain⟨_,_,he,-⟩:=hl
     cases he
   ·rename_i hw
    rw[if_neg hw]
    exact ih _ _ h
 exact mono l1 _ _ h1
theorem Ow.mono_seq {l:List Oper} {N':Fr→za_→Prop} (h:Ow P w0 ops .seq l f L N) (hN: ∀f L,N f L→N' f L):Ow P w0 ops .seq l f L N':=by
 intro w hw
 have h1:=h w hw
 clear h
 revert h1
 generalize act f=a
 clear hw
 induction l generalizing a w with
 |nil=>rintro⟨h1,h2,L',h3,h4⟩;exact⟨h1,h2,L',h3,hN _ _ h4⟩
 |cons o l ih=>
  intro h
  unfold wpList at h ⊢
  split at h
  ·rename_i hw
   rw[if_pos hw]
   rcases h with h| ⟨-,hl⟩
   ·exact .inl (kJ_ (fun a w hx=>ih w a hx) (fun e a w hne hq=>hne hq.1) h)
   ·obtain⟨_,_,he,-⟩:=hl
    cases he
  ·rename_i hw
   rw[if_neg hw]
   exact ih _ _ h
theorem OwI.all {l:List Oper} (hd: (l.all fun o=>QM_ o.op)=true) (h:Ow P w0 ops .seq l f L N):OwI r P w0 ops l f L N:=by
 have:=OwI.pre (r:=r) (l2:= []) (N:=N) hd (Ow.mono_seq h (fun f L hN=>OwI.nil hN))
 simpa using this
def CwR (r:Option Nat) (P:Program) (w0:World) (c:Code) (f:Fr) (L:za_) (K:j9_):Prop:= ∀w,Hp w0 L w→c.wpIn (Jw_ r) 0 P (post w0 K) (act f) w
theorem CwR.region {id:Nat} {l:List Oper} (hd: (l.all fun o=>QM_ o.op)=true) (h:Ow P w0 l.toArray .seq l f L (K .normal)):CwR r P w0 (.region id l.toArray false) f L K:=
 fun w hw=>wpIn_mono (wpIn_region_lit (OwI.all hd h w hw)) fun _ _ _ h=>xg_ h
theorem CwR.block {id:Nat} {c:Code} (h:CwR r P w0 c f L (xy_ id K)):CwR r P w0 (.block id c) f L K:=by
 intro w hw
 refine wpIn_block (wpIn_mono (h w hw) ?_)
 rintro e a w' ⟨hd,L',hp,k⟩
 cases e with
 |exit i=>
  simp only[Exit.inBlock]
  simp only[xy_] at k
  split
  ·rename_i e;rw[if_pos e] at k;exact⟨hd,L',hp,k⟩
  ·rename_i e;rw[if_neg e] at k;exact⟨hd,L',hp,k⟩
 |_=>exact⟨hd,L',hp,k⟩
theorem Hp.put {w:World} (h:Hp w0 L w) {b:Nat} {o:Obj} (hb:b∈keys L):Hp w0 (setB L b o) (w.putObj b o):=h.set hb rfl rfl rfl rfl
theorem YieldAt.of {l:Nat} {rc:Loop} {X:za_} {args:Array Value} {w:World} {r0:Option Nat} {S:za_→Prop} (hX:Hp w X w) (hl:look X l=some (.loop rc)) (hr:rc.state= .ready) (hp:rc.pending=none) (hs:args.size=rc.params.size)
  (h:CwR (some l) P w rc.assign ((rc.params.zip args).foldl (fun tmps (p:Tmp×Value)=>tmps.setIfInBounds p.1 p.2) rc.tmps).toList X (fun e f1 L1=>e= .normal∧look L1 l=some (.loop rc)∧
   CwR (some l) P w rc.body f1 (setB L1 l (.loop {rc with state:= .busy})) (fun e _ L2=>e= .normal∧look L2 l=some (.loop {rc with state:= .busy})∧S (setB L2 l (.loop rc))))):
  YieldAt (Jw_ r0) 0 P l args w (fun e w'=> ∃D,e= .returned (.bool true)∧Hp w D w'∧S D):=by
 obtain⟨st,pe,fn0,tm,pa,asg,bo,de⟩:=rc
 obtain rfl:st= .ready:=hr
 obtain rfl:pe=none:=hp
 have hl0:=hX.has _ _ (zt_ hl)
 refine⟨fn0,_,asg,bo,run_yield hl0 hs,roundIn_of_wpIn (F:=Jw_ r0) (n:=0) trivial ?_⟩
 have h1:=h w hX
 have ea:act ((pa.zip args).foldl (fun tmps (p:Tmp×Value)=>tmps.setIfInBounds p.1 p.2) tm).toList={tmps:=(pa.zip args).foldl (fun tmps (p:Tmp×Value)=>tmps.setIfInBounds p.1 p.2) tm,defers:= []}:=by
  simp[act]
 simp only at h1
 rw[ea] at h1
 refine wpIn_mono h1 ?_
 rintro e a1 w1 ⟨hd1,L1,hp1,rfl,hl1,hbody⟩
 have hb1:=run_beginRound (P:=P) (hp1.has _ _ (zt_ hl1)) rfl
 refine⟨_,hb1, ?_⟩
 have h2:=hbody _ (hp1.put (o:= .loop {state:= .busy,pending:=none,fn:=fn0,tmps:=tm,params:=pa,assign:=asg,body:=bo,defers:=de}) (ze_ hl1))
 rw[←ZT_ hd1] at h2
 refine wpIn_mono h2 ?_
 rintro e a2 w2 ⟨hd2,L2,hp2,rfl,hl2,hS⟩
 have he:=run_endRound (P:=P) none (hp2.has _ _ (zt_ hl2))
 exact⟨_,_,he,_,rfl,hp2.put (ze_ hl2),hS⟩
def al6_ (ds:List Deferred) (w0:World) (K:j9_) (e:Exit) (a:Act) (w:World):Prop:=a.defers=ds∧ ∃L,Hp w0 L w∧K e a.tmps.toList L
def CwE (ds:List Deferred) (P:Program) (w0:World) (c:Code) (f:Fr) (L:za_) (K:j9_):Prop:= ∀w,Hp w0 L w→c.wp P (al6_ ds w0 K) ⟨f.toArray,ds⟩ w
theorem CwE.seq {ds:List Deferred} {x y:Code} (h:CwE ds P w0 x f L (vb_ (fun f L=>CwE ds P w0 y f L K) K)):CwE ds P w0 (.seq x y) f L K:=by
 intro w hw
 refine wp_seq (wp_mono (h w hw) ?_)
 rintro e a w' ⟨hd,L',hp,k⟩
 cases e with
 |normal=>
  have:=k w' hp
  have ea:a=⟨a.tmps.toList.toArray,ds⟩:=by cases a;simp only at hd;subst hd;simp
  rw[ea]
  exact this
 |_=>exact⟨hd,L',hp,k⟩
theorem CwE.ret {ds:List Deferred} (h:K .ret f L):CwE ds P w0 .ret f L K:=fun _ hw=>wp_ret ⟨rfl,L,hw,by simpa using h⟩
def evVs (P:Program) (w0:World) (L:za_):List Oper→Fr→Option Fr
 | [],f=>some f
 |o::r,f=>match o.guard,xG_ P w0 L f o.op with
  |none,some v=>evVs P w0 L r (qn_ f o.dst v)
  |_,_=>none
theorem JZ_ {ds:List Deferred} {Q:Exit→Act→World→Prop} {w:World} (hw:Hp w0 L w): ∀ (l:List Oper) (f f':Fr),evVs P w0 L l f=some f'→Q .normal ⟨f'.toArray,ds⟩ w→wpList P ops Q l ⟨f.toArray,ds⟩ w
 | [],f,f',h,hQ=>by cases h;exact hQ
 |o::l,f,f',h,hQ=>by
  unfold evVs at h
  split at h
  ·rename_i v hg hv
   unfold wpList
   have hwn:Region.wanted o (yielded ops (⟨f.toArray,ds⟩:Act).tmps)=true:=by unfold Region.wanted;rw[hg]
   rw[if_pos hwn]
   refine .inl ?_
   unfold Oper.wp
   have he: (⟨f.toArray,ds⟩:Act).eval=ev f:=by
    have:=jf_ f
    funext x
    exact(congrFun this x)
   rw[he,qQ_ hw hv]
   have hp: (⟨f.toArray,ds⟩:Act).put o.dst v=⟨(qn_ f o.dst v).toArray,ds⟩:=by
    have:=zU_ f o.dst v
    cases hd:o.dst with
    |none=>rfl
    |some d=>simp only[Act.put,qn_,afB_]
   show wpList P ops Q l ((⟨f.toArray,ds⟩:Act).put o.dst v) w
   rw[hp]
   exact JZ_ hw l _ f' h hQ
  ·cases h
theorem CwE.region {ds:List Deferred} {id:Nat} {l:List Oper} {f':Fr} (h:evVs P w0 L l f=some f') (hk:K .normal f' L):CwE ds P w0 (.region id l.toArray false) f L K:=
 fun w hw=>wp_region_lit (JZ_ hw l f f' h ⟨rfl,L,hw,by simpa using hk⟩)
theorem Gr.at_ {L:za_} {E:TypeId} {m n:Nat} {v:Value} {cs:List Value} (h:Gr L E m v n cs) {b:Nat} (hb:slB v=some b): ∃a,look L b=some (.cells a E (0,0)):=by
 rcases h with h| ⟨rfl,rfl,c,rfl,hl⟩
 ·rcases h.inv with⟨rfl,-,-⟩ | ⟨c,cc,rest,rfl,hl,-⟩
  ·cases hb
  ·have:c=b:=by simpa [slB,vsl] using hb
   subst this;exact⟨_,hl⟩
 ·have:c=b:=by simpa [slB,vsl] using hb
  subst this;exact⟨_,hl⟩
theorem Gr.ne {L:za_} {E:TypeId} {m n:Nat} {v:Value} {cs:List Value} (h:Gr L E m v n cs) {b:Nat} {o:Obj} (hl:look L b=some o) (ho: ∀a,o≠ .cells a E (0,0)):slB v≠some b:=fun e=>by
 obtain⟨a,ha⟩:=h.at_ e
 rw[hl] at ha
 exact ho a (Option.some.inj ha)
theorem Gr.setB {L:za_} {E:TypeId} {m n:Nat} {v:Value} {cs:List Value} (h:Gr L E m v n cs) {b:Nat} (hb:slB v≠some b) (x:Obj):Gr (setB L b x) E m v n cs:=
 h.keep fun c o hc ho=>by rw[zh_ (fun e:b=c=>hb (by rw[e];exact hc))];exact ho
def kg_ (fn:FuncId) (f:Fr) (ps:Array Tmp) (assign body:Code) (dk:Nat) (st:LoopState):Loop:={state:=st,pending:=none,fn,tmps:=f.toArray,params:=ps,assign,body,defers:=dk}
end
end Go.Sx
namespace Go.Sx
open Go
section
variable {α:Type} {m:Nat} {enc:α→List Value} {z:α} {w:World} {v:Value} {l:List α}
theorem SlV.dropE (h:SlV m enc z w v l) {k:Nat} (hk:k≤l.length) (a:Bool): ∃v',q9_ (.sl (a,m)) v (some (some (k:Int))) none=some v'∧SlV m enc z w v' (l.drop k)∧(∀b,slB v'=some b→slB v=some b):=by
 obtain⟨b,off,c,arr,E,fz,hr,hc,hv⟩:=h
 have hl: (l.drop k).length=l.length - k:=by simp
 rcases hv with⟨rfl,rfl,rfl⟩ | ⟨rfl,hhas,hsz⟩
 ·obtain rfl:k=0:=by simpa using hk
  exact⟨.slice none 0 0,rfl,SlV.nil w,fun b hb=>hb⟩
 ·have hsl:q9_ (.sl (a,m)) (vsl b off l.length c) (some (some (k:Int))) none=some (vsl b (if c=k then off else off+k*m) (l.length - k) (c - k)):=by
   unfold q9_ vsl
   simp only[ah8_ _ _ _ (⟨by omega,by omega⟩: (0:Int)≤ (k:Int)∧(k:Int)≤ (l.length:Int)),Int.toNat_natCast]
   by_cases hck:c=k
   ·simp[hck]
   ·simp only[hck, ↓reduceIte,Option.map_some,q8_]
  refine⟨_,hsl, ?_,fun b' hb=>hb⟩
  have hkm:k*m+ (l.length - k)*m=l.length*m:=by rw[←Nat.add_mul];congr 1;omega
  by_cases hck:c=k
  ·have h0:l.length - k=0:=by omega
   rw[if_pos hck]
   refine⟨b,off,c - k,arr,E,fz,RowS.sl' hl.symm (fun h=>by omega) (fun i hi=>by omega),by omega, .inr ⟨by rw[hl],hhas,by rw[hl,h0];omega⟩⟩
  ·rw[if_neg hck]
   refine⟨b,off+k*m,c - k,arr,E,fz,RowS.sl' hl.symm (fun h=>hhas) ?_,by omega, .inr ⟨by rw[hl],hhas,by rw[hl];omega⟩⟩
   intro i hi j hj
   rw[hl] at hi
   rw[List.getD_eq_getElem?_getD,List.getElem?_drop,←List.getD_eq_getElem?_getD,←hr.get (k+i) (by omega) j hj]
   congr 1
   rw[Nat.add_mul];omega
end
section
variable {P:Program} {w0:World} {f:Fr} {L:za_} {N:Fr→za_→Prop} {ops:Array Oper} {rest:List Oper} {md:Md} {d:Option Tmp} {ty:TypeId} {ps:String} {af:Array Edge} {g:Option (Nat×Bool)}
end
section
variable {P:Program} {w0:World} {f:Fr} {L:za_} {K:j9_}
theorem Cw.world {c:Code} (h: ∀w,Hp w0 L w→Cw P w0 c f L K):Cw P w0 c f L K:=fun w hw=>h w hw w hw
theorem Gr.read {E:TypeId} {m n:Nat} {v:Value} {cs:List Value} (h:Gr L E m v n cs) {b:Nat} (hb:slB v=some b) {w:World} (hw:Hp w0 L w) {o:Obj} (ho:w.heap[b]? =some o):zs_ w0 L b=some o:=by
 obtain⟨a,ha⟩:=h.at_ hb
 rw[hw.has _ _ (zt_ ha)] at ho
 rw[zb_ ha];exact ho
end
end Go.Sx
namespace Go.Sx
open Go
section
variable {α β:Type} [BEq α] [LawfulBEq α] (encK:α→Value) (encV:β→Value)
def Zh_ (k:α):List (α×β)→Nat→Option (Nat×β)
 | [],_=>none
 |p::r,i=>if k==p.1 then some (i,p.2) else Zh_ k r (i+1)
def updG (k:α) (v:β):List (α×β)→List (α×β)
 | []=> [(k,v)]
 |p::r=>if k==p.1 then(p.1,v)::r else p::updG k v r
def VY_ (k:α) (z:β) (m:List (α×β)):β:=match m.find? fun p=>k==p.1 with|some p=>p.2|none=>z
def xm_ (p:α×β):Value×Value:=(encK p.1,encV p.2)
def va_ (o:Obj) (m:List (α×β)):Prop:= ∃es clock,o= .map es clock∧es.toList.map (fun e=>(e.key,e.val))=m.map (xm_ encK encV)∧(es.toList.map (·.born)++ [clock]).Pairwise (· < ·)
structure KeyOk (P:Program) (kt:TypeId) (encK:α→Value):Prop where
 find: ∀ {β:Type} (encV:β→Value) (w:World) (k:α) (es:List MapEntry) (m:List (α×β)),es.map (fun e=>(e.key,e.val))=m.map (xm_ encK encV)→(Instr.findKey kt (encK k) es).run P w= .ok ((Zh_ k m 0).map fun p=>(p.1,encV p.2)) w
 check: ∀ (w:World) (e:Bool) (k:α),(Instr.checkKey e 10000 kt (encK k)).run P w= .ok () w
 bits: ∀k,Instr.sameBits 10000 (encK k) (encK k)=true
variable {encK encV}
omit [LawfulBEq α] in
theorem ZJ_ {kd:TypeDesc} (hs: ∀a b,Instr.sameNow kd (encK a) (encK b)=some (a==b)) (k:α): ∀ (es:List MapEntry) (m:List (α×β)) (i:Nat),es.map (fun e=>(e.key,e.val))=m.map (xm_ encK encV)→
  Instr.findNow kd (encK k) es i=some ((Zh_ k m i).map fun p=>(p.1,encV p.2))
 | [],[],i,_=>rfl
 | [],_::_,_,h=>by cases h
 |_::_,[],_,h=>by cases h
 |e::es,p::m,i,h=>by
  simp only[List.map_cons,List.cons.injEq,xm_,Prod.mk.injEq] at h
  obtain⟨⟨h1,h2⟩,h3⟩:=h
  unfold Instr.findNow
  have hs:Instr.sameNow kd (encK k) e.key=some (k==p.1):=by rw[h1,hs]
  rw[hs]
  unfold Zh_
  cases hk: (k==p.1)
  ·simp only[Bool.false_eq_true, ↓reduceIte]
   exact ZJ_ ‹_› k es m (i+1) h3
  ·simp[h2]
theorem ZZ_ (k:α): ∀ (m:List (α×β)) (i j:Nat) (v:β),Zh_ k m i=some (j,v)→i≤j∧ ∃a,m[j - i]? =some (k,a)∧a=v
 | [],_,_,_,h=>by cases h
 |p::r,i,j,v,h=>by
  unfold Zh_ at h
  split at h
  ·rename_i hk
   cases h
   refine⟨Nat.le_refl _,p.2, ?_,rfl⟩
   rw[Nat.sub_self,List.getElem?_cons_zero,eq_of_beq hk]
  ·obtain⟨h1,a,h2,h3⟩:=ZZ_ k r (i+1) j v h
   refine⟨by omega,a, ?_,h3⟩
   rw[show j - i=(j - (i+1))+1 by omega,List.getElem?_cons_succ];exact h2
theorem Vq_ (k:α) (v:β): ∀ (es:List MapEntry) (m:List (α×β)) (i j:Nat) (a:β),es.map (fun e=>(e.key,e.val))=m.map (xm_ encK encV)→Zh_ k m i=some (j,a)→
  (es.modify (j - i) fun e=>{e with key:=encK k,val:=encV v}).map (fun e=>(e.key,e.val))=(updG k v m).map (xm_ encK encV)
 | [],[],_,_,_,_,h=>by cases h
 | [],_::_,_,_,_,h,_=>by cases h
 |_::_,[],_,_,_,h,_=>by cases h
 |e::es,p::m,i,j,a,h,hf=>by
  simp only[List.map_cons,List.cons.injEq,xm_,Prod.mk.injEq] at h
  obtain⟨⟨h1,h2⟩,h3⟩:=h
  unfold Zh_ at hf
  unfold updG
  split at hf
  ·rename_i hk
   cases hf
   rw[if_pos hk,Nat.sub_self]
   simp only[List.modify_zero_cons,List.map_cons,xm_,eq_of_beq hk]
   rw[h3]
  ·rename_i hk
   have hle:=(ZZ_ k m (i+1) j a hf).1
   rw[if_neg hk,show j - i=(j - (i+1))+1 by omega]
   simp only[List.modify_succ_cons,List.map_cons,xm_]
   rw[Vq_ k v es m (i+1) j a h3 hf,h1,h2]
omit [LawfulBEq α] in
theorem VR_ (k:α) (v:β): ∀ (m:List (α×β)) (i:Nat),Zh_ k m i=none→updG k v m=m++ [(k,v)]
 | [],_,_=>rfl
 |p::r,i,h=>by
  unfold Zh_ at h
  split at h
  ·cases h
  ·rename_i hk
   unfold updG
   rw[if_neg hk,VR_ k v r (i+1) h];rfl
omit [LawfulBEq α] in
theorem VC_ (k:α): ∀ (m:List (α×β)) (i:Nat),(Zh_ k m i).map Prod.snd=(m.find? fun p=>k==p.1).map Prod.snd
 | [],_=>rfl
 |p::r,i=>by
  unfold Zh_
  rw[List.find?_cons]
  cases h: (k==p.1)
  ·simp only[Bool.false_eq_true, ↓reduceIte];exact VC_ k r (i+1)
  ·rfl
theorem ahy_ {k:α} {m:List (α×β)} {es:List MapEntry} {j:Nat} {a:β} (h:es.map (fun e=>(e.key,e.val))=m.map (xm_ encK encV)) (hf:Zh_ k m 0=some (j,a)): ∃e,es[j]? =some e∧e.key=encK k:=by
 obtain⟨-,a',h1,rfl⟩:=ZZ_ k m 0 j a hf
 rw[Nat.sub_zero] at h1
 have:=congrArg (·[j]?) h
 simp only[List.getElem?_map,h1,Option.map_some] at this
 cases he:es[j]? with
 |none=>rw[he] at this;cases this
 |some e=>
  rw[he] at this
  simp only[Option.map_some,Option.some.injEq,xm_,Prod.mk.injEq] at this
  exact⟨e,rfl,this.1⟩
theorem KeyOk.int {P:Program} {kt:TypeId} {k0:IntKind} (hu:P.underlying kt=some (.int k0)):KeyOk P kt vi where
 find encV w k es m h:=by
  simp only[Instr.findKey,Sem.run_bind,run_underlying hu w,Result.andThen_ok]
  rw[ZJ_ (encK:=vi) (fun a b=>by simp[Instr.sameNow,vi]) k es m 0 h]
  rfl
 check w e k:=by
  unfold Instr.checkKey
  simp only[Sem.run_bind,run_underlying hu w,Result.andThen_ok]
  rfl
 bits k:=by simp[vi,Instr.sameBits]
variable {P:Program} {w0:World} {f:Fr} {L:za_} {N:Fr→za_→Prop} {ops:Array Oper} {rest:List Oper} {md:Md}
 {d:Option Tmp} {ty:TypeId} {ps:String} {af:Array Edge} {g:Option (Nat×Bool)}
omit [BEq α] [LawfulBEq α] in
theorem Ow.makeMapG {t:TypeId} {md':Md} (he:md.turn=some md') (hs:zm_ ops f ⟨d, .makeMap t none,ty,ps,af,g⟩=false)
  (hn: ∀b o,jr_ L b→w0.heap.size≤b→va_ encK encV o []→Ow P w0 ops md' rest (qn_ f d (vm b)) (L++ [(b,o)]) N):
  Ow P w0 ops md (⟨d, .makeMap t none,ty,ps,af,g⟩::rest) f L N:=by
 refine Ow.step he rfl hs fun w hw=> .inl ⟨vm w.heap.size,w.alloc (.map #[] 0),_, ?_,hw.alloc _,hn _ _ (z2_ fun b hb=>hw.lt hb) hw.size ⟨#[],0,rfl,rfl,List.pairwise_singleton _ _⟩⟩
 simp only[execOp,Instr.makeMap,Sem.run_bind,Option.map_none]
 rfl
theorem Ow.mapUpdateG {t kt vt:TypeId} {x y z:Operand} {b:Nat} {o:Obj} {m:List (α×β)} {k:α} {v:β} {md':Md} (he:md.turn=some md') (hs:zm_ ops f ⟨d, .mapUpdate t x y z,ty,ps,af,g⟩=false) (hu:P.underlying t=some (.map kt vt)) (hk:KeyOk P kt encK)
  (hx:ev f x=vm b) (hy:ev f y=encK k) (hz:ev f z=encV v) (hl:look L b=some o) (hm:va_ encK encV o m)
  (hn: ∀o',va_ encK encV o' (updG k v m)→Ow P w0 ops md' rest (qn_ f d undef) (setB L b o') N):
  Ow P w0 ops md (⟨d, .mapUpdate t x y z,ty,ps,af,g⟩::rest) f L N:=by
 obtain⟨es,c,rfl,hes,hbo⟩:=hm
 refine Ow.step he rfl hs fun w hw=> ?_
 have hb:=hw.has _ _ (zt_ hl)
 have hfk:=hk.find encV w k es.toList m hes
 cases hf:Zh_ k m 0 with
 |none=>
  rw[hf] at hfk
  refine .inr (.inl ⟨{w with heap:=w.heap.setIfInBounds b (.map (es.push {key:=encK k,val:=encV v,born:=c}) (c+1))},_, ?_,hw.set (ze_ hl) rfl rfl rfl rfl,hn _ ⟨_,_,rfl, ?_,by rw[Array.toList_push];exact VW_ hbo rfl⟩⟩)
  ·have: (Instr.mapUpdate t (vm b) (encK k) (encV v)).run P w= .ok () {w with heap:=w.heap.setIfInBounds b (.map (es.push {key:=encK k,val:=encV v,born:=c}) (c+1))}:=by
    simp only[Instr.mapUpdate,vm,Sem.run_bind,run_underlying hu w,Result.andThen_ok,zR_ hb,hk.check,hfk,Option.map_none,q4_ hb]
   simp only[execOp,Sem.run_bind,hx,hy,hz]
   rw[this];rfl
  ·rw[VR_ k v m 0 hf,Array.toList_push,List.map_append,hes,List.map_append];rfl
 |some p=>
  obtain⟨j,a⟩:=p
  rw[hf] at hfk
  obtain⟨e,hej,hek⟩:=ahy_ hes hf
  have hej':es[j]? =some e:=by simpa using hej
  have hkt: (Instr.keyThatStays (((es[j]?).map (·.key)).getD (encK k)) (encK k)).run P w= .ok (encK k) w:=by
   rw[hej',Option.map_some,Option.getD_some,hek]
   unfold Instr.keyThatStays
   rw[if_pos (hk.bits k)];rfl
  refine .inr (.inl ⟨{w with heap:=w.heap.setIfInBounds b (.map (es.modify j fun e=>{e with key:=encK k,val:=encV v}) c)},_, ?_,hw.set (ze_ hl) rfl rfl rfl rfl,hn _ ⟨_,_,rfl, ?_,by rw[Array.toList_modify,Zx_ (g:=fun e=>{e with key:=encK k,val:=encV v}) fun _=>rfl];exact hbo⟩⟩)
  ·have: (Instr.mapUpdate t (vm b) (encK k) (encV v)).run P w= .ok () {w with heap:=w.heap.setIfInBounds b (.map (es.modify j fun e=>{e with key:=encK k,val:=encV v}) c)}:=by
    simp only[Instr.mapUpdate,vm,Sem.run_bind,run_underlying hu w,Result.andThen_ok,zR_ hb,hk.check,hfk,Option.map_some,hkt,q4_ hb]
   simp only[execOp,Sem.run_bind,hx,hy,hz]
   rw[this];rfl
  ·rw[Array.toList_modify]
   have:=Vq_ k v es.toList m 0 j a hes hf
   rw[Nat.sub_zero] at this
   exact this
omit [LawfulBEq α] in
theorem Ow.mapGetG {t kt vt:TypeId} {x y:Operand} {b:Nat} {o:Obj} {m:List (α×β)} {k:α} {z:β} {md':Md} (he:md.turn=some md') (hs:zm_ ops f ⟨d, .lookup t x y false,ty,ps,af,g⟩=false) (hu:P.underlying t=some (.map kt vt)) (hk:KeyOk P kt encK)
  (hz:zY_ P vt=some (encV z)) (hx:ev f x=vm b) (hy:ev f y=encK k) (hl:zs_ w0 L b=some o) (hm:va_ encK encV o m)
  (hn:Ow P w0 ops md' rest (qn_ f d (encV (VY_ k z m))) L N):
  Ow P w0 ops md (⟨d, .lookup t x y false,ty,ps,af,g⟩::rest) f L N:=by
 obtain⟨es,c,rfl,hes,-⟩:=hm
 refine Ow.step he rfl hs fun w hw=> ?_
 have hb:=hw.read hl
 have hfk:=hk.find encV w k es.toList m hes
 refine .inl ⟨encV (VY_ k z m),w,L, ?_,hw,hn⟩
 have hff:=VC_ k m 0
 have: (Instr.lookup t (vm b) (encK k) false).run P w= .ok (encV (VY_ k z m)) w:=by
  cases hf:Zh_ k m 0 with
  |none=>
   rw[hf] at hfk hff
   have hg:VY_ k z m=z:=by
    unfold VY_
    cases h:m.find? fun p=>k==p.1 with
    |none=>rfl
    |some q=>rw[h] at hff;cases hff
   simp only[Instr.lookup,vm,Sem.run_bind,run_underlying hu w,Result.andThen_ok,zR_ hb,Sem.run_pure,hk.check,hfk,Option.map_none,jv_ hz w,hg,Bool.false_eq_true, ↓reduceIte]
  |some p=>
   obtain⟨j,a⟩:=p
   rw[hf] at hfk hff
   have hg:VY_ k z m=a:=by
    unfold VY_
    cases h:m.find? fun p=>k==p.1 with
    |none=>rw[h] at hff;cases hff
    |some q=>rw[h] at hff;simp only[Option.map_some,Option.some.injEq] at hff;exact hff.symm
   simp only[Instr.lookup,vm,Sem.run_bind,run_underlying hu w,Result.andThen_ok,zR_ hb,Sem.run_pure,hk.check,hfk,Option.map_some,hg,Bool.false_eq_true, ↓reduceIte]
 simp only[execOp,Sem.run_bind,hx,hy]
 rw[this];rfl
end
section
variable {P:Program} {w0:World} {f:Fr} {L:za_} {N:Fr→za_→Prop} {ops:Array Oper} {rest:List Oper} {md:Md} {d:Option Tmp} {ty:TypeId} {ps:String} {af:Array Edge} {g:Option (Nat×Bool)}
theorem Ow.callFnXC {x y:Operand} {b:Value} {cap ars:Array Value} (ha: #[b]++cap=ars) {ts:Array TypeId} {k:FuncId} {X Y:za_} {S:Value→za_→Prop} {md':Md} (hL:L=X++Y) (he:md.turn=some md')
  (hs:zm_ ops f ⟨d, .call ⟨.value x, #[y],ts⟩,ty,ps,af,g⟩=false)
  (hx:ev f x= .func (.func k) #[] cap) (hy:ev f y=b)
  (hk: ∀a w,(callFunc k a).run P w= .ok (.enter k a) w)
  (hc: ∀w,Hp w0 L w→(∀p,p∈X→w.heap[p.1]? =some p.2)→(keys X).Nodup→Rets P k ars w (XS w X S))
  (hn: ∀v D,Came w0 L X D→S v D→Ow P w0 ops md' rest (qn_ f d v) (D++Y) N):
  Ow P w0 ops md (⟨d, .call ⟨.value x, #[y],ts⟩,ty,ps,af,g⟩::rest) f L N:=by
 subst hL
 have hnd: ∀w,Hp w0 (X++Y) w→(keys X).Nodup∧ ∀c,c∈keys Y→c∉keys X:=by
  intro w hw
  have:=hw.nodup
  rw[zc_,List.nodup_append] at this
  exact⟨this.1,fun c hc hx=>this.2.2 c hx c hc rfl⟩
 refine Ow.call (S:=fun B v D=>((∀c,c∈keys D→c∈keys X∨B≤c)∧(∀c,c∈keys X→c∈keys D)∧S v D)∧ ∃w,Hp w0 (X++Y) w∧w.heap.size=B) he hs hx hk (fun w hw=> ?_) ?_
 ·show Rets P k (#[]++ #[y].map (ev f)++cap) w _
  rw[show(#[]++ #[y].map (ev f)++cap:Array Value)=ars by rw[←ha];simp[hy]]
  refine Calls.mono (hc w hw (fun p hp=>hw.has _ _ (List.mem_append_left _ hp)) (hnd w hw).1) ?_
  rintro e w' ⟨v,D,he,hp,hS⟩
  exact⟨v,D,he,hp,⟨hS.1.new,hS.1.all,hS.2⟩,w,hw,rfl⟩
 ·rintro B v D hab hB ⟨⟨h1,h2,h3⟩,w1,hw1,hwB⟩
  refine⟨D++Y, ?_,hn v D ⟨fun c hc=>(h1 c hc).imp id fun h=>⟨z2_ fun b hb=>by have:=hw1.lt hb;omega,by have:=hw1.size;omega⟩,h2⟩ h3⟩
  intro w w' hwb h k
  have ht:=h.trans k
  have hY: ∀c,c∈keys Y→c∉keys D:=by
   intro c hc hd
   rcases h1 c hd with hx|hx
   ·exact(hnd w h).2 c hc hx
   ·have:=h.lt (b:=c) (by rw[zc_];exact List.mem_append_right _ hc)
    omega
  have e1:X.filter (fun p=> !(keys D).contains p.1)= []:=by
   rw[List.filter_eq_nil_iff]
   intro p hp
   have:=h2 p.1 (List.mem_map.2 ⟨p,hp,rfl⟩)
   simpa using this
  have e2:Y.filter (fun p=> !(keys D).contains p.1)=Y:=qX_ hY
  rw[List.filter_append,e1,e2,List.nil_append] at ht
  refine ht.same (fun p=>by simp[or_comm]) ?_
  have:=ht.nodup
  rw[zc_] at this ⊢
  exact(List.perm_append_comm.nodup_iff).1 this
end
end Go.Sx
namespace Go.Sx
open Go
theorem Ext.perm {w:World} {X D D':za_} (h:Ext w X D) (hp:D'.Perm D):Ext w X D':=
 ⟨fun c hc=>h.new c ((hp.map Prod.fst).mem_iff.1 hc),fun c hc=>(hp.map Prod.fst).mem_iff.2 (h.all c hc)⟩
section
variable {P:Program} {w0:World} {f:Fr} {L:za_} {N:Fr→za_→Prop} {ops:Array Oper} {rest:List Oper} {md:Md} {d:Option Tmp} {ty:TypeId} {ps:String} {af:Array Edge} {g:Option (Nat×Bool)}
theorem Ow.callFnX2 {x y y2:Operand} {b b2:Value} {ts:Array TypeId} {k:FuncId} {X Y:za_} {S:Value→za_→Prop} {md':Md} (hL:L=X++Y) (he:md.turn=some md')
  (hs:zm_ ops f ⟨d, .call ⟨.value x, #[y,y2],ts⟩,ty,ps,af,g⟩=false)
  (hx:ev f x= .func (.func k) #[] #[]) (hy:ev f y=b) (hy2:ev f y2=b2)
  (hk: ∀a w,(callFunc k a).run P w= .ok (.enter k a) w)
  (hc: ∀w,Hp w0 L w→(∀p,p∈X→w.heap[p.1]? =some p.2)→(keys X).Nodup→Rets P k #[b,b2] w (XS w X S))
  (hn: ∀v D,Came w0 L X D→S v D→Ow P w0 ops md' rest (qn_ f d v) (D++Y) N):
  Ow P w0 ops md (⟨d, .call ⟨.value x, #[y,y2],ts⟩,ty,ps,af,g⟩::rest) f L N:=by
 subst hL
 have hnd: ∀w,Hp w0 (X++Y) w→(keys X).Nodup∧ ∀c,c∈keys Y→c∉keys X:=by
  intro w hw
  have:=hw.nodup
  rw[zc_,List.nodup_append] at this
  exact⟨this.1,fun c hc hx=>this.2.2 c hx c hc rfl⟩
 refine Ow.call (S:=fun B v D=>((∀c,c∈keys D→c∈keys X∨B≤c)∧(∀c,c∈keys X→c∈keys D)∧S v D)∧ ∃w,Hp w0 (X++Y) w∧w.heap.size=B) he hs hx hk (fun w hw=> ?_) ?_
 ·show Rets P k (#[]++ #[y,y2].map (ev f)++ #[]) w _
  rw[show(#[]++ #[y,y2].map (ev f)++ #[]:Array Value)= #[b,b2] by simp[hy,hy2]]
  refine Calls.mono (hc w hw (fun p hp=>hw.has _ _ (List.mem_append_left _ hp)) (hnd w hw).1) ?_
  rintro e w' ⟨v,D,he,hp,hS⟩
  exact⟨v,D,he,hp,⟨hS.1.new,hS.1.all,hS.2⟩,w,hw,rfl⟩
 ·rintro B v D hab hB ⟨⟨h1,h2,h3⟩,w1,hw1,hwB⟩
  refine⟨D++Y, ?_,hn v D ⟨fun c hc=>(h1 c hc).imp id fun h=>⟨z2_ fun b hb=>by have:=hw1.lt hb;omega,by have:=hw1.size;omega⟩,h2⟩ h3⟩
  intro w w' hwb h k
  have ht:=h.trans k
  have hY: ∀c,c∈keys Y→c∉keys D:=by
   intro c hc hd
   rcases h1 c hd with hx|hx
   ·exact(hnd w h).2 c hc hx
   ·have:=h.lt (b:=c) (by rw[zc_];exact List.mem_append_right _ hc)
    omega
  have e1:X.filter (fun p=> !(keys D).contains p.1)= []:=by
   rw[List.filter_eq_nil_iff]
   intro p hp
   have:=h2 p.1 (List.mem_map.2 ⟨p,hp,rfl⟩)
   simpa using this
  have e2:Y.filter (fun p=> !(keys D).contains p.1)=Y:=qX_ hY
  rw[List.filter_append,e1,e2,List.nil_append] at ht
  refine ht.same (fun p=>by simp[or_comm]) ?_
  have:=ht.nodup
  rw[zc_] at this ⊢
  exact(List.perm_append_comm.nodup_iff).1 this
end
end Go.Sx
namespace Go.Sx
open Go
section
variable {P:Program} {w0:World} {l:List Oper} {R ts:List Nat} {n:Nat} {listed:List Bool} {f:Fr} {L:za_} {N:Fr→za_→Prop}
def OwG (P:Program) (w0:World) (l:List Oper) (R ts:List Nat) (n:Nat) (listed:List Bool) (f:Fr) (L:za_) (N:Fr→za_→Prop):Prop:=
 ∀w,Hp w0 L w→j3_ P l.toArray (jg_ w0 N) ts (SR w0 R L) n listed.toArray (act f) w
theorem Cw.regionG {id:Nat} {K:j9_} (R ts:List Nat) (m:Nat) (hl:l.length=m) (hm:P.follows .mixedOrders=true) (h:OwG P w0 l R ts m (List.replicate m false) f L (K .normal)):Cw P w0 (.region id l.toArray true) f L K:=by
 intro w hw
 subst hl
 refine wp_mono (wp_region_any hm ?_) fun _ _ _ h=>xg_ h
 have:=xW_ _ _ _ _ (h _ hw.drew)
 simpa using this
def chkG (P:Program) (l:List Oper) (ts:List Nat):List Nat→List Bool→Option (List Bool)
 | [],listed=>some listed
 |k::is,listed=>
  match xX_ l k with
  |some o=>if !ts.contains k&& (ts.all fun t=> !listed.toArray.getD t true)&& (Region.ready .any l.toArray listed.toArray).contains k&&Region.free .any l.toArray listed.toArray k&&
    (jZ_ P o.op|| (Jn_ o.op&&ZE_ l.toArray ts listed.toArray k)) then chkG P l ts is (listed.set k true) else none
  |none=>none
theorem OwG.step {k:Nat} {o:Oper} {v:Value} (hns:Region.noSelect l.toArray=true) (hk:xX_ l k=some o) {rest:List Bool} (hc:chkG P l ts [k] listed=some rest)
  (hY:YieldsC P l.toArray (SR w0 R L) (jZ_ P o.op=true) o v (act f)) (h:OwG P w0 l R ts n rest (qn_ f o.dst v) L N):OwG P w0 l R ts (n+1) listed f L N:=by
 have hoi:l.toArray[k]? =some o:=by rw[jK_] at hk;simpa using hk
 unfold chkG at hc
 rw[hk] at hc
 simp only at hc
 split at hc
 ·rename_i hcc
  simp only[chkG,Option.some.injEq] at hc
  subst hc
  simp only[Bool.and_eq_true,Bool.or_eq_true,Bool.not_eq_true',List.all_eq_true,List.contains_eq_mem,decide_eq_true_eq,decide_eq_false_iff_not] at hcc
  obtain⟨⟨⟨⟨c2,c3⟩,c4⟩,c5⟩,c9⟩:=hcc
  have hsel:=Region.noSelect_spec hns
  intro w hw
  refine kf_ hoi c2 hsel (fun c a w h=>zM_ h) _ _ _ _ (j6_ (P:=P) hoi c4 c5 (c9.imp id fun h=>⟨h.1,h.2,fun t ht=>c3 t ht⟩)) (.inr fun t ht=>c3 t ht) hY ?_
  rw[zU_,qa_]
  exact h w hw
 ·cases hc
theorem afN_ {k:Nat} {is:List Nat} {listed listed':List Bool} (h:chkG P l ts (k::is) listed=some listed'):chkG P l ts [k] listed=some (listed.set k true)∧chkG P l ts is (listed.set k true)=some listed':=by
 rw[chkG] at h
 cases ho:xX_ l k with
 |none=>rw[ho] at h;cases h
 |some o=>
  rw[ho] at h
  simp only at h
  split at h
  ·rename_i hcc
   refine⟨?_,h⟩
   rw[chkG,ho]
   simp only
   rw[if_pos hcc];rfl
  ·cases h
theorem OwG.runs {k:Md→List Oper→Fr→za_→Prop} (hns:Region.noSelect l.toArray=true): ∀ (is:List Nat) {listed listed':List Bool} {f:Fr} {L:za_},chkG P l ts is listed=some listed'→
  (∀md r f' L',k md r f' L'→r= []∧OwG P w0 l R ts n listed' f' L' N)→vcL P w0 l.toArray false (.sof R [] []) (jY_ l is) f L k→OwG P w0 l R ts (is.length+n) listed f L N
 | [],listed,listed',f,L,hc,hk,h=>by
  cases hc
  rw[List.length_nil,Nat.zero_add]
  exact(hk _ _ _ _ h).2
 |i::is,listed,listed',f,L,hc,hk,h=>by
  obtain⟨hc1,hc2⟩:=afN_ hc
  rw[zk_] at h
  cases ho:xX_ l i with
  |none=>unfold chkG at hc1;rw[ho] at hc1;cases hc1
  |some o=>
   rw[ho,zl_] at h
   unfold vcL at h
   rw[List.length_cons,show is.length+1+n=(is.length+n)+1 by omega]
   cases hs:zm_ l.toArray f o with
   |true=>
    rw[hs] at h
    have hw0:Region.wanted o (yielded l.toArray (act f).tmps)=false:=by rw[z4_,hs];rfl
    exact OwG.step hns ho hc1 (v:=undef) (.inr ⟨hw0,rfl⟩) (OwG.runs hns is hc2 hk h)
   |false=>
    rw[hs] at h
    have hw0:Region.wanted o (yielded l.toArray (act f).tmps)=true:=by rw[z4_,hs];rfl
    simp only[ib,vcB] at h
    split at h
    ·cases hrd:X2_ (.sof R [] []) f o.op with
     |false=>rw[hrd] at h;exact absurd (hk _ _ _ _ h).1 (by simp)
     |true=>
      rw[hrd] at h
      simp only at h
      cases hv:xG_ P w0 L f o.op with
      |none=>rw[hv] at h;exact absurd (hk _ _ _ _ h).1 (by simp)
      |some v=>
       rw[hv] at h
       refine OwG.step hns ho hc1 (v:=v) (.inl ⟨hw0,fun w hw=> ?_⟩) (OwG.runs hns is hc2 hk h)
       rw[jf_]
       rcases hw with hp|hw
       ·exact qQ_ (Hp.refl w) (xf_ hp hv w)
       ·exact qQ_ (Hp.refl w) (vs_ hrd hv hw)
    ·exact absurd (hk _ _ _ _ h).1 (by simp)
    ·exact absurd (hk _ _ _ _ h).1 (by simp)
theorem OwG.run (is:List Nat) (listed':List Bool) (n:Nat) {m:Nat} (hm:m=is.length+n) (hns:Region.noSelect l.toArray=true) (hc:chkG P l ts is listed=some listed')
  (h: ∀k:Md→List Oper→Fr→za_→Prop,(∀md f L,OwG P w0 l R ts n listed' f L N→k md [] f L)→nl (jY_ l is) fun l'=>vcL P w0 l.toArray false (.sof R [] []) l' f L k):OwG P w0 l R ts m listed f L N:=by
 subst hm
 refine OwG.runs (k:=fun _ r f' L'=>r= []∧OwG P w0 l R ts n listed' f' L' N) hns is hc (fun _ _ _ _ h=>h) ?_
 exact h _ fun _ _ _ h=>⟨rfl,h⟩
def abi_ (l:List Oper) (ts:List Nat) (ks:List Nat) (listed:List Bool):Bool:=
 ((Region.ready .any l.toArray listed.toArray).all fun i=>ks.contains i)&& (Region.ready .any l.toArray listed.toArray != [])&&ks.all fun k=> !ts.contains k
theorem OwG.softs (ks:List Nat) (hs:abi_ l ts ks listed=true)
  (h: ∀k,k∈ks→ ∀o,xX_ l k=some o→Ow P w0 l.toArray .seq [o] f L (fun f' L'=>(∀r,r∈R→zs_ w0 L' r=zs_ w0 L r)∧OwG P w0 l R ts n (listed.set k true) f' L' N)):
  OwG P w0 l R ts (n+1) listed f L N:=by
 unfold abi_ at hs
 simp only[Bool.and_eq_true,List.all_eq_true,bne_iff_ne,ne_eq,List.contains_eq_mem,decide_eq_true_eq,Bool.not_eq_true',decide_eq_false_iff_not] at hs
 obtain⟨⟨c3,c4⟩,c6⟩:=hs
 intro w hw
 refine⟨fun _=>SR.of hw,fun hr=>absurd hr c4,fun i hi=> ?_⟩
 have hik:=c3 i hi
 obtain⟨-,oi,hoi,-⟩:=mem_ready.1 hi
 have hni:xX_ l i=some oi:=by rw[jK_];simpa using hoi
 refine vx_ hoi (X:=j3_ P l.toArray (jg_ w0 N) ts (SR w0 R L) n (listed.toArray.setIfInBounds i true)) ?_ hw
 intro w' hw'
 have h1:=h i hik oi hni w' hw'
 refine xu_ ?_ h1
 rintro f' L' ⟨hS,hO⟩ w'' hw''
 rw[k6_ hS,qa_]
 exact hO w'' hw''
theorem OwG.one (i:Nat) (oi:Oper) (hs:abi_ l ts [i] listed=true) (hi:xX_ l i=some oi)
  (h:Ow P w0 l.toArray .seq [oi] f L (fun f' L'=>(∀r,r∈R→zs_ w0 L' r=zs_ w0 L r)∧OwG P w0 l R ts n (listed.set i true) f' L' N)):OwG P w0 l R ts (n+1) listed f L N:=
 OwG.softs [i] hs fun k hk o ho=>by
  rw[List.mem_singleton] at hk
  subst hk
  rw[hi] at ho
  cases ho
  exact h
theorem OwG.two (i j:Nat) (oi oj:Oper) (hs:abi_ l ts [i,j] listed=true) (hi:xX_ l i=some oi) (hj:xX_ l j=some oj)
  (h1:Ow P w0 l.toArray .seq [oi] f L (fun f' L'=>(∀r,r∈R→zs_ w0 L' r=zs_ w0 L r)∧OwG P w0 l R ts n (listed.set i true) f' L' N))
  (h2:Ow P w0 l.toArray .seq [oj] f L (fun f' L'=>(∀r,r∈R→zs_ w0 L' r=zs_ w0 L r)∧OwG P w0 l R ts n (listed.set j true) f' L' N)):OwG P w0 l R ts (n+1) listed f L N:=
 OwG.softs [i,j] hs fun k hk o ho=>by
  simp only[List.mem_cons,List.not_mem_nil,or_false] at hk
  rcases hk with rfl|rfl
  ·rw[hi] at ho;cases ho;exact h1
  ·rw[hj] at ho;cases ho;exact h2
theorem OwG.permL {M:za_} (hp:M.Perm L) (hR: ∀r,r∈R→zs_ w0 M r=zs_ w0 L r) (h:OwG P w0 l R ts n listed f M N):OwG P w0 l R ts n listed f L N:=by
 intro w hw
 rw[k6_ hR]
 exact h w (hw.perm hp)
def akz_ (P:Program) (l:List Oper) (is ts:List Nat) (listed:List Bool):Bool:=
 Region.noSelect l.toArray&&wS_ P l.toArray ts is listed.toArray&&ts.all fun t=> !listed.toArray.getD t true
theorem OwG.rest (is:List Nat) {m:Nat} (hm:m=is.length) (hB:akz_ P l is ts listed=true) (hl:is.map (fun i:Nat=>l[i]?)=(jY_ l is).map some)
  (h:nl (jY_ l is) fun l'=>Ow P w0 l.toArray (.sof R is ts) l' f L N):OwG P w0 l R ts m listed f L N:=by
 subst hm
 revert hl h
 generalize jY_ l is=l'
 intro hl h w hw
 simp only[akz_,Bool.and_eq_true,List.all_eq_true,Bool.not_eq_true'] at hB
 obtain⟨⟨h1,h4⟩,h5⟩:=hB
 have hlen:is.length=l'.length:=by have:=congrArg List.length hl;simpa using this
 have hF:Fits P l.toArray ts is l' listed.toArray:=⟨hlen,fun j=>by
  have:=congrArg (·[j]?) hl
  simp only[List.getElem?_map] at this
  cases hj:is[j]? with
  |none=>
   rw[hj] at this
   simp only[Option.map_none] at this
   cases hj':l'[j]? with
   |none=>rfl
   |some x=>rw[hj'] at this;cases this
  |some i=>
   rw[hj] at this
   simp only[Option.map_some] at this
   cases hj':l'[j]? with
   |none=>rw[hj'] at this;cases this
   |some x=>
    rw[hj'] at this
    simp only[Option.map_some,Option.some.injEq] at this
    simp[this],h1,h4⟩
 rw[hlen]
 exact(h:Ow P w0 l.toArray (.sof R is ts) l' f L N) listed.toArray hF (fun t ht=>h5 t ht) w hw
end
def CutO {G:Type} (M:List Nat) (S:G→List (Nat×Value)) (H:G→za_) (J:G→Prop) (f f':Fr) (L':za_):Prop:=
 ∃g,J g∧L'=H g∧f'=pin (qA_ (ve_ f') M 0 f) (S g)
theorem CutO.mk {G:Type} {M:List Nat} {S:G→List (Nat×Value)} {H:G→za_} {J:G→Prop} {f f':Fr} {L':za_} (g:G) (hJ:J g) (hL:L'=H g) (hf:f'=pin (qA_ (ve_ f') M 0 f) (S g)):CutO M S H J f f' L':=⟨g,hJ,hL,hf⟩
theorem Cw.cutO {P:Program} {w0:World} {x y:Code} {f:Fr} {L:za_} {K:j9_} {G:Type} (M:List Nat) (S:G→List (Nat×Value)) (H:G→za_) (J:G→Prop) (h1:Cw P w0 x f L (vb_ (CutO M S H J f) K))
  (h2: ∀ (g:G) (j:Nat→Value),J g→Cw P w0 y (pin (qA_ j M 0 f) (S g)) (H g) K):Cw P w0 (.seq x y) f L K:=by
 refine Cw.seq (h1.mono fun e f' L' k=> ?_)
 cases e with
 |normal=>
  obtain⟨g,hJ,rfl,hf⟩:=k
  have:=h2 g (ve_ f') hJ
  rw[←hf] at this
  exact this
 |_=>exact k
end Go.Sx
namespace Go.Sx
open Go
def kv (e:MapEntry):Value×Value:=(e.key,e.val)
def ItR (o:Obj) (bm:Nat) (om:Obj) (m dn lf:qB_):Prop:=
 ∃es clock,∃ds:List MapEntry,om= .map es clock∧(es.toList.map (·.born)++ [clock]).Pairwise (· < ·)∧o= .mapIter (some bm) clock (ds.map (·.born)).toArray clock∧
  ds.map kv=dn.map kp_∧(∀d,d∈ds→d∈es.toList)∧((es.toList.filter fun e=> !(ds.map (·.born)).contains e.born).map kv=lf.map kp_)∧(dn++lf).Perm m
theorem wE_ {l:List MapEntry} {c:Nat} (h: (l.map (·.born)++ [c]).Pairwise (· < ·)): (l.map (·.born)).Nodup:=
 ((List.pairwise_append.1 h).1).imp fun h=>Nat.ne_of_lt h
theorem aiH_ {l:List MapEntry} {c:Nat} (h: (l.map (·.born)++ [c]).Pairwise (· < ·)): ∀x,x∈l→x.born<c:=fun x hx=>
 (List.pairwise_append.1 h).2.2 _ (List.mem_map.2 ⟨x,hx,rfl⟩) c (List.mem_singleton.2 rfl)
theorem Vd_ (es:Array MapEntry) (ds:List MapEntry): (leftOf es (ds.map (·.born)).toArray).toList=es.toList.filter fun e=> !(ds.map (·.born)).contains e.born:=by
 unfold leftOf
 rw[Array.toList_filter]
 simp
theorem ItR.start {bm:Nat} {om:Obj} {m:qB_} (h:MapR om m): ∃es clock,om= .map es clock∧ItR (.mapIter (some bm) clock #[] clock) bm om m [] m:=by
 obtain⟨es,clock,rfl,h1,h2⟩:=h
 refine⟨es,clock,rfl,es,clock,[],rfl,h2,rfl,rfl,(fun d hd=>by cases hd), ?_,by rw[List.nil_append]⟩
 rw[show(es.toList.filter fun e=> !(([]:List MapEntry).map (·.born)).contains e.born)=es.toList from List.filter_eq_self.2 (fun _ _=>rfl)]
 exact h1
theorem ItR.step {bm:Nat} {om:Obj} {m dn lf:qB_} {es:Array MapEntry} {clock:Nat} {ds:List MapEntry} {e:MapEntry} (hb: (es.toList.map (·.born)++ [clock]).Pairwise (· < ·))
  (hd:ds.map kv=dn.map kp_) (hm: ∀d,d∈ds→d∈es.toList) (hl: (es.toList.filter fun e=> !(ds.map (·.born)).contains e.born).map kv=lf.map kp_) (hp: (dn++lf).Perm m)
  (he:e∈es.toList.filter fun e=> !(ds.map (·.born)).contains e.born) (hom:om= .map es clock):
  ∃p lf',kv e=kp_ p∧lf.length=lf'.length+1∧ItR (.mapIter (some bm) clock ((ds.map (·.born)).toArray.push e.born) clock) bm om m (dn++ [p]) lf':=by
 obtain⟨A,C,hAC⟩:=List.append_of_mem he
 rw[hAC,List.map_append,List.map_cons] at hl
 obtain⟨l1,l2,rfl,h1,h2⟩:=List.append_eq_map_iff.1 hl
 obtain⟨p,l3,rfl,h3,h4⟩:=(List.map_eq_cons_iff.1 h2)
 refine⟨p,l1++l3,h3.symm,by simp;omega,es,clock,ds++ [e],hom,hb,by simp,by simp[hd,h3], ?_, ?_, ?_⟩
 ·intro d hd'
  rcases List.mem_append.1 hd' with h|h
  ·exact hm d h
  ·rw[List.mem_singleton] at h;subst h;exact(List.mem_filter.1 he).1
 ·have hnd: ((A++e::C).map (·.born)).Nodup:=by
   rw[←hAC]
   exact(wE_ hb).sublist ((List.filter_sublist).map _)
  have e1: (es.toList.filter fun x=> !((ds++ [e]).map (·.born)).contains x.born)=(A++e::C).filter fun x=> !(x.born==e.born):=by
   rw[←hAC,List.filter_filter]
   refine List.filter_congr fun x hx=> ?_
   simp only[List.map_append,List.map_cons,List.map_nil,List.contains_append,List.contains_cons,List.contains_nil,Bool.or_false,Bool.not_or]
   rw[Bool.and_comm]
  rw[List.map_append,List.map_cons,List.nodup_append] at hnd
  obtain⟨-,hn2,hn3⟩:=hnd
  rw[List.nodup_cons] at hn2
  have e2: ((A++e::C).filter fun x=> !(x.born==e.born))=A++C:=by
   rw[List.filter_append,List.filter_cons]
   simp only[beq_self_eq_true,Bool.not_true,Bool.false_eq_true, ↓reduceIte]
   congr 1
   ·refine List.filter_eq_self.2 fun x hx=> ?_
    have:=hn3 x.born (List.mem_map.2 ⟨x,hx,rfl⟩) e.born List.mem_cons_self
    simpa using this
   ·refine List.filter_eq_self.2 fun x hx=> ?_
    have:x.born≠e.born:=fun h=>hn2.1 (h▸List.mem_map.2 ⟨x,hx,rfl⟩)
    simpa using this
  rw[e1,e2,List.map_append,List.map_append,h1,h4]
 ·refine List.Perm.trans ?_ hp
  rw[List.append_assoc]
  refine List.Perm.append_left dn ?_
  rw[List.singleton_append]
  exact List.perm_middle.symm
section
variable {P:Program} {w0:World} {f:Fr} {L:za_} {N:Fr→za_→Prop} {ops:Array Oper} {rest:List Oper} {md:Md}
 {d:Option Tmp} {ty:TypeId} {ps:String} {af:Array Edge} {g:Option (Nat×Bool)}
def itv (b:Nat):Value:= .pointer (some ⟨b,0,none⟩)
end
end Go.Sx
namespace Go.Sx
open Go
def ItG {α β:Type} (encK:α→Value) (encV:β→Value) (o:Obj) (bm:Nat) (om:Obj) (m dn lf:List (α×β)):Prop:=
 ∃es clock,∃ds:List MapEntry,om= .map es clock∧(es.toList.map (·.born)++ [clock]).Pairwise (· < ·)∧o= .mapIter (some bm) clock (ds.map (·.born)).toArray clock∧
  ds.map kv=dn.map (xm_ encK encV)∧(∀d,d∈ds→d∈es.toList)∧((es.toList.filter fun e=> !(ds.map (·.born)).contains e.born).map kv=lf.map (xm_ encK encV))∧(dn++lf).Perm m
theorem ItG.start {α β:Type} {encK:α→Value} {encV:β→Value} {bm:Nat} {om:Obj} {m:List (α×β)} (h:va_ encK encV om m): ∃es clock,om= .map es clock∧ItG encK encV (.mapIter (some bm) clock #[] clock) bm om m [] m:=by
 obtain⟨es,clock,rfl,h1,h2⟩:=h
 refine⟨es,clock,rfl,es,clock,[],rfl,h2,rfl,rfl,(fun d hd=>by cases hd), ?_,by rw[List.nil_append]⟩
 rw[show(es.toList.filter fun e=> !(([]:List MapEntry).map (·.born)).contains e.born)=es.toList from List.filter_eq_self.2 (fun _ _=>rfl)]
 exact h1
theorem ItG.step {α β:Type} {encK:α→Value} {encV:β→Value} {bm:Nat} {om:Obj} {m dn lf:List (α×β)} {es:Array MapEntry} {clock:Nat} {ds:List MapEntry} {e:MapEntry} (hb: (es.toList.map (·.born)++ [clock]).Pairwise (· < ·))
  (hd:ds.map kv=dn.map (xm_ encK encV)) (hm: ∀d,d∈ds→d∈es.toList) (hl: (es.toList.filter fun e=> !(ds.map (·.born)).contains e.born).map kv=lf.map (xm_ encK encV)) (hp: (dn++lf).Perm m)
  (he:e∈es.toList.filter fun e=> !(ds.map (·.born)).contains e.born) (hom:om= .map es clock):
  ∃p lf',kv e=xm_ encK encV p∧lf.length=lf'.length+1∧ItG encK encV (.mapIter (some bm) clock ((ds.map (·.born)).toArray.push e.born) clock) bm om m (dn++ [p]) lf':=by
 obtain⟨A,C,hAC⟩:=List.append_of_mem he
 rw[hAC,List.map_append,List.map_cons] at hl
 obtain⟨l1,l2,rfl,h1,h2⟩:=List.append_eq_map_iff.1 hl
 obtain⟨p,l3,rfl,h3,h4⟩:=(List.map_eq_cons_iff.1 h2)
 refine⟨p,l1++l3,h3.symm,by simp;omega,es,clock,ds++ [e],hom,hb,by simp,by simp[hd,h3], ?_, ?_, ?_⟩
 ·intro d hd'
  rcases List.mem_append.1 hd' with h|h
  ·exact hm d h
  ·rw[List.mem_singleton] at h;subst h;exact(List.mem_filter.1 he).1
 ·have hnd: ((A++e::C).map (·.born)).Nodup:=by
   rw[←hAC]
   exact(wE_ hb).sublist ((List.filter_sublist).map _)
  have e1: (es.toList.filter fun x=> !((ds++ [e]).map (·.born)).contains x.born)=(A++e::C).filter fun x=> !(x.born==e.born):=by
   rw[←hAC,List.filter_filter]
   refine List.filter_congr fun x hx=> ?_
   simp only[List.map_append,List.map_cons,List.map_nil,List.contains_append,List.contains_cons,List.contains_nil,Bool.or_false,Bool.not_or]
   rw[Bool.and_comm]
  rw[List.map_append,List.map_cons,List.nodup_append] at hnd
  obtain⟨-,hn2,hn3⟩:=hnd
  rw[List.nodup_cons] at hn2
  have e2: ((A++e::C).filter fun x=> !(x.born==e.born))=A++C:=by
   rw[List.filter_append,List.filter_cons]
   simp only[beq_self_eq_true,Bool.not_true,Bool.false_eq_true, ↓reduceIte]
   congr 1
   ·refine List.filter_eq_self.2 fun x hx=> ?_
    have:=hn3 x.born (List.mem_map.2 ⟨x,hx,rfl⟩) e.born List.mem_cons_self
    simpa using this
   ·refine List.filter_eq_self.2 fun x hx=> ?_
    have:x.born≠e.born:=fun h=>hn2.1 (h▸List.mem_map.2 ⟨x,hx,rfl⟩)
    simpa using this
  rw[e1,e2,List.map_append,List.map_append,h1,h4]
 ·refine List.Perm.trans ?_ hp
  rw[List.append_assoc]
  refine List.Perm.append_left dn ?_
  rw[List.singleton_append]
  exact List.perm_middle.symm
section
variable {α β:Type} {encK:α→Value} {encV:β→Value} {P:Program} {w0:World} {f:Fr} {L:za_} {N:Fr→za_→Prop} {ops:Array Oper} {rest:List Oper} {md:Md}
 {d:Option Tmp} {ty:TypeId} {ps:String} {af:Array Edge} {g:Option (Nat×Bool)}
theorem Ow.rangeMapG {t kt vt:TypeId} {x:Operand} {bm:Nat} {om:Obj} {m:List (α×β)} {md':Md} (he:md.turn=some md') (hs:zm_ ops f ⟨d, .range t x,ty,ps,af,g⟩=false) (hu:P.underlying t=some (.map kt vt))
  (hx:ev f x=vm bm) (hl:zs_ w0 L bm=some om) (hm:va_ encK encV om m)
  (hn: ∀b o,jr_ L b→w0.heap.size≤b→ItG encK encV o bm om m [] m→Ow P w0 ops md' rest (qn_ f d (itv b)) (L++ [(b,o)]) N):
  Ow P w0 ops md (⟨d, .range t x,ty,ps,af,g⟩::rest) f L N:=by
 obtain⟨es,clock,rfl,hI⟩:=ItG.start (bm:=bm) hm
 refine Ow.step he rfl hs fun w hw=> .inl ⟨itv w.heap.size,w.alloc (.mapIter (some bm) clock #[] clock),_, ?_,hw.alloc _,hn _ _ (z2_ fun b hb=>hw.lt hb) hw.size hI⟩
 have hb:=hw.read hl
 have: (Instr.range t (vm bm)).run P w= .ok (itv w.heap.size) (w.alloc (.mapIter (some bm) clock #[] clock)):=by
  simp only[Instr.range,vm,Sem.run_bind,run_underlying hu w,Result.andThen_ok,zR_ hb]
  rfl
 simp only[execOp,Sem.run_bind,hx]
 rw[this];rfl
theorem Ow.nextMapG {x:Operand} {r bm:Nat} {o om:Obj} {m dn lf:List (α×β)} {md':Md} (he:md.turn=some md') (hs:zm_ ops f ⟨d, .next x false,ty,ps,af,g⟩=false)
  (hx:ev f x=itv r) (hl:look L r=some o) (hlm:zs_ w0 L bm=some om) (hI:ItG encK encV o bm om m dn lf)
  (h0:lf= []→Ow P w0 ops md' rest (qn_ f d (.tuple #[.bool false])) L N)
  (h1: ∀p o' lf',lf.length=lf'.length+1→ItG encK encV o' bm om m (dn++ [p]) lf'→Ow P w0 ops md' rest (qn_ f d (.tuple #[.bool true,encK p.1,encV p.2])) (setB L r o') N):
  Ow P w0 ops md (⟨d, .next x false,ty,ps,af,g⟩::rest) f L N:=by
 refine Ow.step he rfl hs fun w hw=> ?_
 have hr:=hw.has _ _ (zt_ hl)
 have hb:=hw.read hlm
 obtain⟨es,clock,ds,rfl,hbo,rfl,hd,hm,hlf,hp⟩:=hI
 rcases run_next_at (P:=P) w ty r bm clock clock (ds.map (·.born)).toArray es clock hr hb (aiH_ hbo) (Nat.le_refl _) with⟨hz,hrun⟩ | ⟨e,hem,w1,hw1,hrun⟩
 ·refine .inl ⟨.tuple #[.bool false],w,L, ?_,hw,h0 ?_⟩
  ·simp only[execOp,Sem.run_bind,hx,itv]
   rw[hrun];rfl
  ·have: (leftOf es (ds.map (·.born)).toArray).toList= []:=by
    rw[Array.toList_eq_nil_iff];exact Array.eq_empty_of_size_eq_zero hz
   rw[Vd_] at this
   rw[this] at hlf
   exact(List.map_eq_nil_iff.1 hlf.symm)
 ·rw[Vd_] at hem
  obtain⟨p,lf',hk,hlen,hI'⟩:=ItG.step (bm:=bm) hbo hd hm hlf hp hem rfl
  simp only[kv,xm_,Prod.mk.injEq] at hk
  have hw1':Hp w0 L w1:=by rcases hw1 with rfl|rfl;exact hw;exact hw.drew
  refine .inl ⟨.tuple #[.bool true,encK p.1,encV p.2],ChangeMaps.setBlock w1 r (.mapIter (some bm) clock ((ds.map (·.born)).toArray.push e.born) clock),_, ?_,hw1'.set (ze_ hl) rfl rfl rfl rfl,h1 p _ lf' hlen hI'⟩
  simp only[execOp,Sem.run_bind,hx,itv]
  rw[hrun,hk.1,hk.2];rfl
theorem Ow.entryMapG {x:Operand} {r bm:Nat} {o om:Obj} {m dn lf:List (α×β)} {p:α×β} {md':Md} (he:md.turn=some md') (hs:zm_ ops f ⟨d, .entry x,ty,ps,af,g⟩=false)
  (hx:ev f x=itv r) (hl:zs_ w0 L r=some o) (hlm:zs_ w0 L bm=some om) (hI:ItG encK encV o bm om m (dn++ [p]) lf)
  (hn:Ow P w0 ops md' rest (qn_ f d (.tuple #[encK p.1,encV p.2])) L N):
  Ow P w0 ops md (⟨d, .entry x,ty,ps,af,g⟩::rest) f L N:=by
 refine Ow.step he rfl hs fun w hw=> .inl ⟨_,w,L, ?_,hw,hn⟩
 have hr:=hw.read hl
 have hb:=hw.read hlm
 obtain⟨es,clock,ds,rfl,hbo,rfl,hd,hm,hlf,hp⟩:=hI
 rw[List.map_append,List.map_cons,List.map_nil] at hd
 obtain⟨d1,d2,rfl,-,h2⟩:=List.map_eq_append_iff.1 hd
 obtain⟨e,d3,rfl,h3,h4⟩:=List.map_eq_cons_iff.1 h2
 obtain rfl:=List.map_eq_nil_iff.1 h4
 simp only[kv,xm_,Prod.mk.injEq] at h3
 have hs': ((d1++ [e]).map (·.born)).toArray=(d1.map (·.born)).toArray.push e.born:=by simp
 rw[hs'] at hr
 have hrun:=run_entry_at (P:=P) w r bm clock (d1.map (·.born)).toArray es clock e hr hb (hm e (by simp)) (wE_ hbo)
 simp only[execOp,Sem.run_bind,hx,itv]
 rw[hrun,h3.1,h3.2];rfl
end
theorem Wp_ (l:List UInt8):Instr.sameBits 10000 (.agg (a8 l)) (.agg (a8 l))=true:=by
 show Instr.sameBits (9999+1) _ _=true
 unfold Instr.sameBits
 simp only[beq_self_eq_true,Bool.true_and,List.all_eq_true]
 intro p hp
 obtain⟨i,hi,rfl⟩:=List.getElem_of_mem hp
 rw[List.getElem_zip]
 simp[a8,Instr.sameBits]
theorem Kx_ {P:Program} {t e:TypeId} {n:Nat} (hu:P.underlying t=some (.array n e)) (he:P.underlying e=some (.int .u8)) (hm:zL_ P e=some (false,1)) (l l':List UInt8) (hl:l.length=n) (hl':l'.length=n) (w:World):
  (Op.equal t (.agg (a8 l)) (.agg (a8 l'))).run P w= .ok (l==l') w:=
 afs_ P 8 9992 t _ _ _ (abd_ (d:=6) hu he hm l l' hl hl') w
theorem QR_ {P:Program} {t e:TypeId} {n:Nat} (hu:P.underlying t=some (.array n e)) (he:P.underlying e=some (.int .u8)) (hm:zL_ P e=some (false,1)) (l:List UInt8) (hl:l.length=n) (em:Bool) (w:World):
  (Instr.checkKey em 10000 t (.agg (a8 l))).run P w= .ok () w:=by
 show(Instr.checkKey em (9999+1) t (.agg (a8 l))).run P w= .ok () w
 rw[Instr.checkKey]
 simp only[Sem.run_bind,run_underlying hu,Result.andThen_ok]
 simp only[Std.Legacy.Range.forIn_eq_forIn_range',Std.Legacy.Range.size,Nat.sub_zero,Nat.add_one_sub_one,Nat.div_one]
 have each: ∀j,j∈List.range' 0 n→j<l.length:=by
  intro j hj
  rw[List.mem_range'] at hj
  obtain⟨i,hi,rfl⟩:=hj
  omega
 generalize List.range' 0 n=is at each
 induction is with
 |nil=>simp
 |cons j is ih=>
  have hj:=each j (by simp)
  have p1: (part e (a8 l) (j*1)).run P w= .ok (v8 (l.getD j 0)) w:=by
   refine jB_ hm ?_ w
   simp[vA_,a8,v8,hj]
  have p2: (Instr.checkKey em 9999 e (v8 (l.getD j 0))).run P w= .ok () w:=by
   show(Instr.checkKey em (9998+1) e (v8 (l.getD j 0))).run P w= .ok () w
   rw[Instr.checkKey]
   simp only[Sem.run_bind,run_underlying he,Result.andThen_ok,v8]
   rfl
  simp only[List.forIn_cons,Sem.run_bind,zy_ hm w,Result.andThen_ok,p1,p2,Sem.run_pure]
  exact ih (fun y hy=>each y (by simp[hy]))
theorem acO_ {n:Nat} {e:TypeId} (x:Value): ∀ (es:List MapEntry) (i:Nat),es≠ []→Instr.findNow (.array n e) x es i=none
 | [],_,h=>absurd rfl h
 |_::_,_,_=>by cases x<;>rfl
theorem wT_ {α β:Type} [BEq α] {P:Program} {kt:TypeId} {encK:α→Value} {encV:β→Value} (he: ∀a b w,(Op.equal kt (encK a) (encK b)).run P w= .ok (a==b) w) (w:World) (k:α): ∀ (es:List MapEntry) (m:List (α×β)) (i:Nat),es.map (fun e=>(e.key,e.val))=m.map (xm_ encK encV)→
  (Instr.findAsking kt (encK k) es i).run P w= .ok ((Zh_ k m i).map fun p=>(p.1,encV p.2)) w
 | [],[],_,_=>rfl
 | [],_::_,_,h=>by cases h
 |_::_,[],_,h=>by cases h
 |e::es,p::m,i,h=>by
  simp only[List.map_cons,List.cons.injEq,xm_,Prod.mk.injEq] at h
  obtain⟨⟨h1,h2⟩,h3⟩:=h
  unfold Instr.findAsking Zh_
  rw[Sem.run_bind,h1,he]
  simp only[Result.andThen_ok]
  cases hk: (k==p.1)
  ·simp only[Bool.false_eq_true, ↓reduceIte]
   exact wT_ he w k es m (i+1) h3
  ·simp[h2]
theorem KeyOk.arr {α:Type} [BEq α] {P:Program} {kt e:TypeId} {n:Nat} (hu:P.underlying kt=some (.array n e)) (he:P.underlying e=some (.int .u8)) (hm:zL_ P e=some (false,1)) (bs:α→List UInt8) (hb: ∀a,(bs a).length=n) (hq: ∀a b,(bs a==bs b)=(a==b)):
  KeyOk P kt (fun a:α=> .agg (a8 (bs a))) where
 find encV w k es m h:=by
  cases es with
  |nil=>
   cases m with
   |nil=>simp only[Instr.findKey,Sem.run_bind,run_underlying hu w,Result.andThen_ok];rfl
   |cons=>cases h
  |cons e0 es=>
   simp only[Instr.findKey,Sem.run_bind,run_underlying hu w,Result.andThen_ok]
   rw[acO_ _ _ _ (by simp)]
   exact wT_ (encK:=fun a:α=> .agg (a8 (bs a))) (fun a b w=>by rw[Kx_ hu he hm _ _ (hb a) (hb b) w,hq]) w k _ m 0 h
 check w e k:=QR_ hu he hm _ (hb k) e w
 bits k:=Wp_ _
section
variable {α β:Type} [BEq α] [LawfulBEq α] {encK:α→Value} {encV:β→Value} {P:Program} {w0:World} {f:Fr} {L:za_} {N:Fr→za_→Prop} {ops:Array Oper} {rest:List Oper} {md:Md}
 {d:Option Tmp} {ty:TypeId} {ps:String} {af:Array Edge} {g:Option (Nat×Bool)}
omit [LawfulBEq α] in
end
end Go.Sx
namespace Go.Sx
open Go
theorem KeyOk.str {P:Program} {kt:TypeId} (hu:P.underlying kt=some .string):KeyOk P kt vs where
 find encV w k es m h:=by
  simp only[Instr.findKey,Sem.run_bind,run_underlying hu w,Result.andThen_ok]
  rw[ZJ_ (encK:=vs) (fun a b=>by simp only[vs,Instr.sameNow,VA_]) k es m 0 h]
  rfl
 check w e k:=by
  unfold Instr.checkKey
  simp only[Sem.run_bind,run_underlying hu w,Result.andThen_ok,vs]
  rfl
 bits k:=by simp only[vs,Instr.sameBits,VA_,beq_self_eq_true]
section
variable {α β:Type} [BEq α] [LawfulBEq α]
def delG (k:α):List (α×β)→List (α×β)
 | []=> []
 |p::r=>if k==p.1 then r else p::delG k r
variable {encK:α→Value} {encV:β→Value}
omit [LawfulBEq α] in
theorem ad6_ (k:α): ∀ (m:List (α×β)) (i j:Nat) (a:β),Zh_ k m i=some (j,a)→i≤j
 | [],_,_,_,h=>by cases h
 |p::r,i,j,a,h=>by
  unfold Zh_ at h
  split at h
  ·cases h;exact Nat.le_refl _
  ·have:=ad6_ k r (i+1) j a h;omega
omit [LawfulBEq α] in
theorem VO_ (k:α): ∀ (es:List MapEntry) (m:List (α×β)) (i j:Nat) (a:β),es.map (fun e=>(e.key,e.val))=m.map (xm_ encK encV)→Zh_ k m i=some (j,a)→
  (es.eraseIdx (j - i)).map (fun e=>(e.key,e.val))=(delG k m).map (xm_ encK encV)
 | [],[],_,_,_,_,h=>by cases h
 | [],_::_,_,_,_,h,_=>by cases h
 |_::_,[],_,_,_,h,_=>by cases h
 |e::es,p::m,i,j,a,h,hf=>by
  simp only[List.map_cons,List.cons.injEq] at h
  obtain⟨h1,h3⟩:=h
  unfold Zh_ at hf
  unfold delG
  split at hf
  ·rename_i hk
   cases hf
   rw[if_pos hk,Nat.sub_self]
   exact h3
  ·rename_i hk
   have hle:=ad6_ k m (i+1) j a hf
   rw[if_neg hk,show j - i=(j - (i+1))+1 by omega]
   simp only[List.eraseIdx_cons_succ,List.map_cons]
   rw[VO_ k es m (i+1) j a h3 hf,h1]
omit [LawfulBEq α] in
theorem Va_ (k:α): ∀ (m:List (α×β)) (i:Nat),Zh_ k m i=none→delG k m=m
 | [],_,_=>rfl
 |p::r,i,h=>by
  unfold Zh_ at h
  split at h
  ·cases h
  ·rename_i hk
   unfold delG
   rw[if_neg hk,Va_ k r (i+1) h]
variable {P:Program} {w0:World} {f:Fr} {L:za_} {N:Fr→za_→Prop} {ops:Array Oper} {rest:List Oper} {md:Md}
 {d:Option Tmp} {ty:TypeId} {ps:String} {af:Array Edge} {g:Option (Nat×Bool)}
omit [LawfulBEq α] in
theorem Ow.mapDeleteG {t kt vt:TypeId} {x y:Operand} {t2:TypeId} {b:Nat} {o:Obj} {m:List (α×β)} {k:α} {md':Md} (he:md.turn=some md') (hs:zm_ ops f ⟨d, .call ⟨.builtin .delete, #[x,y], #[t,t2]⟩,ty,ps,af,g⟩=false) (hu:P.underlying t=some (.map kt vt)) (hk:KeyOk P kt encK)
  (hx:ev f x=vm b) (hy:ev f y=encK k) (hl:look L b=some o) (hm:va_ encK encV o m)
  (hn: ∀o',va_ encK encV o' (delG k m)→Ow P w0 ops md' rest (qn_ f d (.tuple #[])) (setB L b o') N):
  Ow P w0 ops md (⟨d, .call ⟨.builtin .delete, #[x,y], #[t,t2]⟩,ty,ps,af,g⟩::rest) f L N:=by
 obtain⟨es,c,rfl,hes,hbo⟩:=hm
 refine Ow.step he rfl hs fun w hw=> ?_
 have hb:=hw.has _ _ (zt_ hl)
 have hfk:=hk.find encV w k es.toList m hes
 cases hf:Zh_ k m 0 with
 |none=>
  rw[hf] at hfk
  refine .inl ⟨.tuple #[],{w with heap:=w.heap.setIfInBounds b (.map es c)},_, ?_,hw.set (ze_ hl) rfl rfl rfl rfl,hn _ ⟨es,c,rfl,by rw[Va_ k m 0 hf];exact hes,hbo⟩⟩
  have: (Builtin.delete_ #[t,t2] ty #[vm b,encK k]).run P w= .ok (.tuple #[]) {w with heap:=w.heap.setIfInBounds b (.map es c)}:=by
   simp only[Builtin.delete_,vm,List.getElem?_toArray,List.getElem?_cons_zero,List.getElem?_cons_succ,Sem.run_bind,run_underlying hu w,Result.andThen_ok,zR_ hb,hk.check,hfk,Option.map_none,q4_ hb]
   rfl
  simp only[execOp,resolve,Sem.run_bind,Sem.run_pure,Result.andThen_ok,invoke,builtin,List.map_toArray,List.map_cons,List.map_nil,hx,hy]
  rw[this];rfl
 |some p=>
  obtain⟨j,a⟩:=p
  rw[hf] at hfk
  refine .inl ⟨.tuple #[],{w with heap:=w.heap.setIfInBounds b (.map (es.eraseIdxIfInBounds j) c)},_, ?_,hw.set (ze_ hl) rfl rfl rfl rfl,hn _ ⟨_,c,rfl, ?_,by rw[Array.toList_eraseIdxIfInBounds];exact Xf_ hbo⟩⟩
  ·have: (Builtin.delete_ #[t,t2] ty #[vm b,encK k]).run P w= .ok (.tuple #[]) {w with heap:=w.heap.setIfInBounds b (.map (es.eraseIdxIfInBounds j) c)}:=by
    simp only[Builtin.delete_,vm,List.getElem?_toArray,List.getElem?_cons_zero,List.getElem?_cons_succ,Sem.run_bind,run_underlying hu w,Result.andThen_ok,zR_ hb,hk.check,hfk,Option.map_some,q4_ hb]
    rfl
   simp only[execOp,resolve,Sem.run_bind,Sem.run_pure,Result.andThen_ok,invoke,builtin,List.map_toArray,List.map_cons,List.map_nil,hx,hy]
   rw[this];rfl
  ·have:=VO_ (encK:=encK) (encV:=encV) k es.toList m 0 j a hes hf
   rw[Nat.sub_zero] at this
   rw[←this]
   simp
omit [BEq α] [LawfulBEq α] in
theorem Ow.mapClearG {t kt vt:TypeId} {x:Operand} {b:Nat} {o:Obj} {m:List (α×β)} {md':Md} (he:md.turn=some md') (hs:zm_ ops f ⟨d, .call ⟨.builtin .clear, #[x], #[t]⟩,ty,ps,af,g⟩=false) (hu:P.underlying t=some (.map kt vt))
  (hx:ev f x=vm b) (hl:look L b=some o) (hm:va_ encK encV o m)
  (hn: ∀o',va_ encK encV o' []→Ow P w0 ops md' rest (qn_ f d (.tuple #[])) (setB L b o') N):
  Ow P w0 ops md (⟨d, .call ⟨.builtin .clear, #[x], #[t]⟩,ty,ps,af,g⟩::rest) f L N:=by
 obtain⟨es,c,rfl,hes,hbo⟩:=hm
 refine Ow.step he rfl hs fun w hw=> ?_
 have hb:=hw.has _ _ (zt_ hl)
 refine .inl ⟨.tuple #[],{w with heap:=w.heap.setIfInBounds b (.map #[] c)},_, ?_,hw.set (ze_ hl) rfl rfl rfl rfl,hn _ ⟨#[],c,rfl,rfl,List.pairwise_singleton _ _⟩⟩
 have: (Builtin.clear_ #[t] ty #[vm b]).run P w= .ok (.tuple #[]) {w with heap:=w.heap.setIfInBounds b (.map #[] c)}:=by
  simp only[Builtin.clear_,vm,List.getElem?_toArray,List.getElem?_cons_zero,Sem.run_bind,run_underlying hu w,Result.andThen_ok,zR_ hb,q4_ hb]
  rfl
 simp only[execOp,resolve,Sem.run_bind,Sem.run_pure,Result.andThen_ok,invoke,builtin,List.map_toArray,List.map_cons,List.map_nil,hx]
 rw[this];rfl
end
section
variable {P:Program} {w0:World} {f:Fr} {L:za_} {N:Fr→za_→Prop} {ops:Array Oper} {rest:List Oper} {md:Md}
 {d:Option Tmp} {ty:TypeId} {ps:String} {af:Array Edge} {g:Option (Nat×Bool)}
theorem Ow.ifaceMap {t kt vt:TypeId} {x:Operand} {v:Value} (hs:zm_ ops f ⟨d, .makeInterface t x,ty,ps,af,g⟩=false) (hu:P.underlying t=some (.map kt vt)) (hx:ev f x=v)
  (hn:Ow P w0 ops md.next rest (qn_ f d (.iface t v)) L N):Ow P w0 ops md (⟨d, .makeInterface t x,ty,ps,af,g⟩::rest) f L N:=by
 refine Ow.calm rfl rfl hs (fun w hw=> .inl ⟨.iface t v,w,L, ?_,hw,rfl,rfl⟩) hn
 simp only[execOp,Instr.makeInterface,Sem.run_bind,run_underlying hu w,Result.andThen_ok,hx]
 rfl
theorem Ow.assertMap {t kt vt xt:TypeId} {x:Operand} {v:Value} (hs:zm_ ops f ⟨d, .typeAssert x xt t false,ty,ps,af,g⟩=false) (hu:P.underlying t=some (.map kt vt)) (hx:ev f x= .iface t v)
  (hn:Ow P w0 ops md.next rest (qn_ f d v) L N):Ow P w0 ops md (⟨d, .typeAssert x xt t false,ty,ps,af,g⟩::rest) f L N:=by
 refine Ow.calm rfl rfl hs (fun w hw=> .inl ⟨v,w,L, ?_,hw,rfl,rfl⟩) hn
 simp only[execOp,Instr.typeAssert,Sem.run_bind,run_underlying hu w,Result.andThen_ok,hx, ↓reduceIte]
 rfl
theorem Ow.cloneMap {α β:Type} {encK:α→Value} {encV:β→Value} {x:Operand} {ts:Array TypeId} {k:FuncId} {it:TypeId} {b:Nat} {o:Obj} {m:List (α×β)} {md':Md} (he:md.turn=some md')
  (hs:zm_ ops f ⟨d, .call ⟨.value (.func k), #[x],ts⟩,ty,ps,af,g⟩=false)
  (hk: ∀a w,(callFunc k #[a]).run P w=((Extern.MapsClone.clone #[a]).run P w).andThen fun v w=> .ok (.value v) w)
  (hx:ev f x= .iface it (vm b)) (hl:zs_ w0 L b=some o) (hm:va_ encK encV o m)
  (hn: ∀c o',jr_ L c→w0.heap.size≤c→va_ encK encV o' m→Ow P w0 ops md' rest (qn_ f d (.iface it (vm c))) (L++ [(c,o')]) N):
  Ow P w0 ops md (⟨d, .call ⟨.value (.func k), #[x],ts⟩,ty,ps,af,g⟩::rest) f L N:=by
 obtain⟨es,c,rfl,hes,hbo⟩:=hm
 refine Ow.step he rfl hs fun w hw=> .inl ⟨.iface it (vm w.heap.size),w.alloc (.map es c),_, ?_,hw.alloc _,hn _ _ (z2_ fun b hb=>hw.lt hb) hw.size ⟨es,c,rfl,hes,hbo⟩⟩
 have hb:=hw.read hl
 have hA:Array.map (ev f) #[x]= #[.iface it (vm b)]:=by simp[hx]
 have h: (callFunc k #[.iface it (vm b)]).run P w= .ok (.value (.iface it (vm w.heap.size))) (w.alloc (.map es c)):=by
  rw[hk]
  have hc:Extern.MapsClone.clone #[.iface it (vm b)]=(getObj b>>=fun o=>match o with| .map es c=>(newObj (.map es c)>>=fun r=>pure (.iface it (.map (some r)))) |_=>stuck "maps.clone: a map expected"):=rfl
  rw[hc,Sem.run_bind,zR_ hb]
  rfl
 simp only[execOp,resolve,Deferred.ofValue,aeW_,Sem.run_bind,Sem.run_pure,Result.andThen_ok,invoke,hA]
 simpa using h
end
end Go.Sx
namespace Go.Sx
open Go
theorem Hp.later {w0 w1 w2:World} {L D:za_} (h:Hp w0 L w1) (k:Hp w1 D w2) (hD:New w1.heap.size D):Hp w0 (L++D) w2:=
 Mrg.fresh hD.le w1 w2 rfl h k
theorem Ow.world {P:Program} {w0:World} {ops:Array Oper} {l:List Oper} {f:Fr} {L:za_} {N:Fr→za_→Prop} (h: ∀w,Hp w0 L w→Ow P w0 ops .seq l f L N):Ow P w0 ops .seq l f L N:=fun w hw=>h w hw w hw
theorem Rets.chunk {P:Program} {k:FuncId} {args:Array Value} {w:World} {S:Value→Obj→Prop} {X:za_} {b:Nat} (hX: ∀p,p∈X→w.heap[p.1]? =some p.2) (hn: (keys X).Nodup) (hb:b∈keys X)
  (h:Rets P k args w (fun v D=> ∃o,D= [(b,o)]∧S v o)):Rets P k args w (XS w X (fun v D=> ∃o,D=setB X b o∧S v o)):=
 Calls.mono h fun e w' ⟨v,D,he,hp,o,hD,hS⟩=>⟨v,setB X b o,he,by subst hD;exact Mrg.set hb w w' rfl ((Hp.refl w).ownX hX hn) hp,(Ext.refl w X).setB,o,rfl,hS⟩
theorem Rets.toX {P:Program} {k:FuncId} {a:Array Value} {w:World} {S:Value→Prop} (h:Rets P k a w (fun v D=>S v∧D= [])):Rets P k a w (XS w [] (fun v D=>D= []∧S v)):=
 h.mono fun v D ⟨h1,h2⟩=>⟨by subst h2;exact Ext.refl w [],h2,h1⟩
theorem Gr.rowL {α:Type} {m:Nat} {enc:α→List Value} {z:α} {w0 w:World} {v:Value} {l:List α} {L:za_} {E:TypeId} {n:Nat} (h:Gr L E m v n (l.map enc).flatten) (hn:l.length=n) (hw:Hp w0 L w) (hm: ∀x,(enc x).length=m):
  ∃b off arr F fz,RowS m enc z w v l b off arr F fz∧(0<l.length→look L b=some (.cells arr F fz)):=by
 obtain⟨b,off,c,arr,F,fz,hr,hc,⟨rfl,rfl,rfl⟩ | ⟨rfl,hb,hsz⟩⟩:=h.slV (z:=z) hw hn rfl hm
 ·exact⟨b,off,arr,F,fz,hr,fun h0=>absurd h0 (by simp)⟩
 ·refine⟨b,off,arr,F,fz,hr,fun _=> ?_⟩
  obtain⟨o,ho⟩:=Zr_ (h.key (b:=b) rfl)
  have:=hw.has _ _ (zt_ ho)
  rw[hb] at this
  rw[ho,this]
theorem GrI.rowL {α:Type} {m:Nat} {enc:α→List Value} {z:α} {w0 w:World} {v:Value} {l:List α} {D:za_} {E:TypeId} {n:Nat} (h:GrI D E m v n (l.map enc).flatten) (hn:l.length=n) (hw:Hp w0 D w) (hm: ∀x,(enc x).length=m):
  ∃b off arr F fz,RowS m enc z w v l b off arr F fz∧(0<l.length→look D b=some (.cells arr F fz)):=by
 obtain⟨X,hX,h⟩:=h
 obtain⟨b,off,c,arr,F,fz,hr,hc,⟨rfl,rfl,rfl⟩ | ⟨rfl,hb,hsz⟩⟩:=h.slM (z:=z) (fun b o hm=>hw.has b o (hX _ hm)) hn rfl hm
 ·exact⟨b,off,arr,F,fz,hr,fun h0=>absurd h0 (by simp)⟩
 ·refine⟨b,off,arr,F,fz,hr,fun _=> ?_⟩
  obtain⟨o,ho⟩:=Zr_ (h.key (b:=b) rfl)
  have hm:=hX _ (zt_ ho)
  have:=hw.has _ _ hm
  rw[hb] at this
  rw[jl_ hw.nodup hm,this]
end Go.Sx
section
namespace Go.Sx
open Go
set_option maxRecDepth 100000
set_option linter.defProp false
def S0:=And.intro (And.intro (And.intro (And.intro (And.intro (And.intro (@agY_) (And.intro (@ahG_) (@aiC_))) (And.intro (@ag7_) (And.intro (@adf_) (@agO_)))) (And.intro (And.intro (@afr_) (And.intro (@agD_) (@aaF_))) (And.intro (And.intro (@KF_) (@Kl_)) (And.intro (@afE_) (@X3_))))) (And.intro (And.intro (And.intro (@adG_) (And.intro (@ahz_) (@aaJ_))) (And.intro (And.intro (@afq_) (@KM_)) (And.intro (@aio_) (@ajH_)))) (And.intro (And.intro (@adO_) (And.intro (@W2_) (@adq_))) (And.intro (And.intro (@ajj_) (@aer_)) (And.intro (@Jg_) (@X5_)))))) (And.intro (And.intro (And.intro (And.intro (@af5_) (And.intro (@ac5_) (@agU_))) (And.intro (@ach_) (And.intro (@afA_) (@aiY_)))) (And.intro (And.intro (@ajs_) (And.intro (@Za_) (@vj_))) (And.intro (And.intro (@WB_) (@acE_)) (And.intro (@XP_) (@afm_))))) (And.intro (And.intro (And.intro (@ahp_) (And.intro (@ace_) (@wC_))) (And.intro (And.intro (@VJ_) (@JF_)) (And.intro (@aeU_) (@agK_)))) (And.intro (And.intro (@ajq_) (And.intro (@agL_) (@qf_))) (And.intro (And.intro (@agS_) (@adL_)) (And.intro (@aeW_) (@z5_))))))) (And.intro (And.intro (And.intro (And.intro (And.intro (@qe_) (And.intro (@z0_) (@zZ_))) (And.intro (@aaA_) (And.intro (@Jf_) (@aho_)))) (And.intro (And.intro (@ahn_) (And.intro (@aey_) (@ab7_))) (And.intro (And.intro (@aif_) (@ac4_)) (And.intro (@afv_) (@ahL_))))) (And.intro (And.intro (And.intro (@af1_) (And.intro (@aet_) (@aex_))) (And.intro (And.intro (@ahx_) (@ahF_)) (And.intro (@ahD_) (@ajR_)))) (And.intro (And.intro (@aep_) (And.intro (@agr_) (@agE_))) (And.intro (And.intro (@age_) (@ajE_)) (And.intro (@aeP_) (@afQ_)))))) (And.intro (And.intro (And.intro (And.intro (@agF_) (And.intro (@acM_) (@aeB_))) (And.intro (And.intro (@ahu_) (@ae0_)) (And.intro (@adz_) (@aiU_)))) (And.intro (And.intro (@aiG_) (And.intro (@ajf_) (@aiZ_))) (And.intro (And.intro (@aji_) (@ahT_)) (And.intro (@ag3_) (@ahC_))))) (And.intro (And.intro (And.intro (@agl_) (And.intro (@aga_) (@ahV_))) (And.intro (And.intro (@agm_) (@af2_)) (And.intro (@aiJ_) (@af9_)))) (And.intro (And.intro (@amk_) (And.intro (@ak4_) (@akI_))) (And.intro (And.intro (@aka_) (@ahd_)) (And.intro (@adp_) (@ads_)))))))
def S1:=And.intro (And.intro (And.intro (And.intro (And.intro (And.intro (And.intro (And.intro (@agV_) (@ajL_)) (And.intro (@ajB_) (And.intro (@akN_) (@aiu_)))) (And.intro (And.intro (@akP_) (@jF_)) (And.intro (@jG_) (And.intro (@qc_) (@Vk_))))) (And.intro (And.intro (And.intro (@acC_) (@W4_)) (And.intro (@ahq_) (And.intro (@Vi_) (@ahQ_)))) (And.intro (And.intro (@ag2_) (@beq_true)) (And.intro (@beq_false) (And.intro (@Bool.not_true) (@Bool.not_false)))))) (And.intro (And.intro (And.intro (And.intro (@Md.next_seq) (@Md.next_any)) (And.intro (@Md.next_qui) (And.intro (@Md.next_sof) (@Wo_)))) (And.intro (And.intro (@WF_) (@Wk_)) (And.intro (@JC_) (And.intro (@Jj_) (@JG_))))) (And.intro (And.intro (And.intro (@akr_) (@ai0_)) (And.intro (@ahM_) (And.intro (@af3_) (@agx_)))) (And.intro (And.intro (@ak9_) (And.intro (@aiR_) (@ajv_))) (And.intro (@aim_) (And.intro (@ajG_) (@ajC_))))))) (And.intro (And.intro (And.intro (And.intro (And.intro (@ab1_) (@ac6_)) (And.intro (@acz_) (And.intro (@adb_) (@aec_)))) (And.intro (And.intro (@ac2_) (@acQ_)) (And.intro (@Xi_) (And.intro (@acw_) (@acx_))))) (And.intro (And.intro (And.intro (@adg_) (@acA_)) (And.intro (@ac3_) (And.intro (@ab5_) (@ae6_)))) (And.intro (And.intro (@Wf_) (And.intro (@Z0_) (@acN_))) (And.intro (@Ka_) (And.intro (@Kd_) (@wO_)))))) (And.intro (And.intro (And.intro (And.intro (@wN_) (@X7_)) (And.intro (@Ke_) (And.intro (@acB_) (@JB_)))) (And.intro (And.intro (@JJ_) (@V8_)) (And.intro (@Jy_) (And.intro (@Q8_) (@aaj_))))) (And.intro (And.intro (And.intro (@Q3_) (@Jd_)) (And.intro (@W5_) (And.intro (@WC_) (@WK_)))) (And.intro (And.intro (@aaG_) (And.intro (@Wl_) (@adi_))) (And.intro (@aab_) (And.intro (@WJ_) (@aaN_)))))))) (And.intro (And.intro (And.intro (And.intro (And.intro (And.intro (@V2_) (@WI_)) (And.intro (@WH_) (And.intro (@aaQ_) (@V3_)))) (And.intro (And.intro (@aau_) (@acX_)) (And.intro (@KZ_) (And.intro (@wQ_) (@aas_))))) (And.intro (And.intro (And.intro (@Q2_) (@QX_)) (And.intro (@vG_) (And.intro (@vL_) (@Q1_)))) (And.intro (And.intro (@JK_) (And.intro (@aaf_) (@Qc_))) (And.intro (@QI_) (And.intro (@VL_) (@Zy_)))))) (And.intro (And.intro (And.intro (And.intro (@ZW_) (@KU_)) (And.intro (@Qa_) (And.intro (@Z3_) (@K7_)))) (And.intro (And.intro (@Wn_) (@aat_)) (And.intro (@V9_) (And.intro (@aaT_) (@acZ_))))) (And.intro (And.intro (And.intro (@aar_) (@aaq_)) (And.intro (@WM_) (And.intro (@aaa_) (@Wu_)))) (And.intro (And.intro (@We_) (And.intro (@Wg_) (@Wc_))) (And.intro (@aaU_) (And.intro (@acy_) (@Kw_))))))) (And.intro (And.intro (And.intro (And.intro (And.intro (@w1_) (@aaV_)) (And.intro (@Jq_) (And.intro (@Ju_) (@vH_)))) (And.intro (And.intro (@vT_) (@JL_)) (And.intro (@JE_) (And.intro (@aaL_) (@ZL_))))) (And.intro (And.intro (And.intro (@Qg_) (@KN_)) (And.intro (@QN_) (And.intro (@QO_) (@Kz_)))) (And.intro (And.intro (@QQ_) (And.intro (@QB_) (@KH_))) (And.intro (@WO_) (And.intro (@Wb_) (@aan_)))))) (And.intro (And.intro (And.intro (And.intro (@WW_) (@acP_)) (And.intro (@aao_) (And.intro (@aaw_) (@WT_)))) (And.intro (And.intro (@W7_) (@WX_)) (And.intro (@aah_) (And.intro (@W0_) (@aal_))))) (And.intro (And.intro (And.intro (@aaC_) (@aca_)) (And.intro (@Vh_) (And.intro (@wL_) (@aaR_)))) (And.intro (And.intro (@Q9_) (And.intro (@Jm_) (@vQ_))) (And.intro (@vZ_) (And.intro (@Jz_) (@QZ_))))))))) (And.intro (And.intro (And.intro (And.intro (And.intro (And.intro (And.intro (@aav_) (@Qj_)) (And.intro (@Qm_) (And.intro (@KR_) (@QV_)))) (And.intro (And.intro (@Z4_) (@Vp_)) (And.intro (@QU_) (And.intro (@ZQ_) (@KQ_))))) (And.intro (And.intro (And.intro (@adJ_) (@aes_)) (And.intro (@aea_) (And.intro (@aeb_) (@afx_)))) (And.intro (And.intro (@ae7_) (And.intro (@afl_) (@aen_))) (And.intro (@adX_) (And.intro (@aeG_) (@aem_)))))) (And.intro (And.intro (And.intro (And.intro (@agZ_) (@akk_)) (And.intro (@Vz_) (And.intro (@afz_) (@aeO_)))) (And.intro (And.intro (@aeL_) (@adT_)) (And.intro (@afU_) (And.intro (@afF_) (@aeR_))))) (And.intro (And.intro (And.intro (@ai2_) (@afP_)) (And.intro (@ajy_) (And.intro (@VS_) (@Ku_)))) (And.intro (And.intro (@Jh_) (And.intro (@akn_) (@aky_))) (And.intro (@aha_) (And.intro (@acu_) (@aad_))))))) (And.intro (And.intro (And.intro (And.intro (And.intro (@WD_) (@aaO_)) (And.intro (@acT_) (And.intro (@ajm_) (@ajt_)))) (And.intro (And.intro (@afS_) (@V6_)) (And.intro (@Vt_) (And.intro (@Vy_) (@Vl_))))) (And.intro (And.intro (And.intro (@aaS_) (@ajp_)) (And.intro (@ajD_) (And.intro (@afD_) (@aai_)))) (And.intro (And.intro (@KY_) (And.intro (@Vf_) (@KV_))) (And.intro (@aaI_) (And.intro (@aiE_) (@ajF_)))))) (And.intro (And.intro (And.intro (And.intro (@afn_) (@V1_)) (And.intro (@Ve_) (And.intro (@K8_) (@K4_)))) (And.intro (And.intro (@aap_) (@akj_)) (And.intro (@akH_) (And.intro (@agC_) (@acv_))))) (And.intro (And.intro (And.intro (@Wr_) (@WP_)) (And.intro (@aac_) (And.intro (@acm_) (@ahI_)))) (And.intro (And.intro (@agG_) (And.intro (@XV_) (@aix_))) (And.intro (@aaz_) (And.intro (@vP_) (@jU_)))))))) (And.intro (And.intro (And.intro (And.intro (And.intro (And.intro (@alI_) (@aje_)) (And.intro (@akq_) (And.intro (@aks_) (@Xx_)))) (And.intro (And.intro (@JD_) (@zB_)) (And.intro (@jn_) (And.intro (@qC_) (@jI_))))) (And.intro (And.intro (And.intro (@xl_) (@wv_)) (And.intro (@agI_) (And.intro (@ahw_) (@adr_)))) (And.intro (And.intro (@agH_) (And.intro (@QS_) (@aci_))) (And.intro (@kL_) (And.intro (@ac7_) (@WU_)))))) (And.intro (And.intro (And.intro (And.intro (@agj_) (@ad7_)) (And.intro (@wb_) (And.intro (@agn_) (@afy_)))) (And.intro (And.intro (@aeT_) (@aj6_)) (And.intro (@aj7_) (And.intro (@Option.map_some.{0,0}) (@Option.map_none.{0,0}))))) (And.intro (And.intro (And.intro (@XI_) (@Xt_)) (And.intro (@wq_) (And.intro (@ab0_) (@XY_)))) (And.intro (And.intro (@Kk_) (And.intro (@Xu_) (@aht_))) (And.intro (@ahm_) (And.intro (@or_i) (@al8_))))))) (And.intro (And.intro (And.intro (And.intro (And.intro (@Xs_) (@XZ_)) (And.intro (@Jb_) (And.intro (@zg_) (@List.cons_append.{0})))) (And.intro (And.intro (@List.nil_append.{0}) (@List.contains_cons.{0})) (And.intro (@List.contains_nil.{0}) (And.intro (@Bool.or_false) (@Bool.false_or))))) (And.intro (And.intro (And.intro (@Bool.or_true) (@Bool.true_or)) (And.intro (@Bool.false_eq_true) (And.intro (@vI_) (@kZ_)))) (And.intro (And.intro (@k0_) (And.intro (@Zm_) (@aeA_))) (And.intro (@Nat.add_sub_cancel_left) (And.intro (@List.set_set.{0}) (@Int.toNat_natCast)))))) (And.intro (And.intro (And.intro (And.intro (@Nat.mul_one) (@Nat.zero_add)) (And.intro (@Nat.add_zero) (And.intro (@ge_iff_le.{0}) (@gt_iff_lt.{0})))) (And.intro (And.intro (@beq_self_eq_true.{0}) (@alG_)) (And.intro (@alz_) (And.intro (@ahk_) (@ahE_))))) (And.intro (And.intro (And.intro (@akF_) (@ak6_)) (And.intro (@al7_) (And.intro (@alO_) (@alN_)))) (And.intro (And.intro (@alw_) (And.intro (@aiB_) (@ajP_))) (And.intro (@akd_) (And.intro (@ai4_) (@ajb_)))))))))
end Go.Sx
end
section
open Go Go.Proofs Go.Sx
namespace Go.Proofs
theorem Tryz.ix22:ixT Tryz.prog 22= .sl (true,2):=id (by kernel_rfl)
theorem Tryz.ix30:ixT Tryz.prog 30= .sl (true,32):=id (by kernel_rfl)
theorem Tryz.ix44:ixT Tryz.prog 44= .sl (true,33):=id (by kernel_rfl)
theorem Tryz.ix65:ixT Tryz.prog 65= .sl (false,1):=id (by kernel_rfl)
theorem Tryz.ix71:ixT Tryz.prog 71= .sl (true,33):=id (by kernel_rfl)
theorem Tryz.ix81:ixT Tryz.prog 81= .sl (true,37):=id (by kernel_rfl)
theorem Tryz.ix94:ixT Tryz.prog 94= .sl (true,3):=id (by kernel_rfl)
theorem Tryz.ix122:ixT Tryz.prog 122= .sl (true,34):=id (by kernel_rfl)
theorem Tryz.ix9:ixT Tryz.prog 9= .str:=id (by kernel_rfl)
theorem Tryz.ix24:ixT Tryz.prog 24= .arr 32 (false,1):=id (by kernel_rfl)
theorem Tryz.ix170:ixT Tryz.prog 170= .arr 3 (false,1):=id (by kernel_rfl)
theorem Tryz.ix172:ixT Tryz.prog 172= .sl (false,1):=id (by kernel_rfl)
theorem Tryz.ix179:ixT Tryz.prog 179= .sl (false,1):=id (by kernel_rfl)
theorem Tryz.ix191:ixT Tryz.prog 191= .sl (true,2):=id (by kernel_rfl)
theorem Tryz.ix196:ixT Tryz.prog 196= .arr 3 (true,3):=id (by kernel_rfl)
theorem Tryz.ix193:ixT Tryz.prog 193= .sl (true,4):=id (by kernel_rfl)
theorem Tryz.ix192:ixT Tryz.prog 192= .sl (true,2):=id (by kernel_rfl)
theorem Tryz.ix302:ixT Tryz.prog 302= .sl (false,1):=id (by kernel_rfl)
theorem Tryz.ix251:ixT Tryz.prog 251= .arr 8 (false,1):=id (by kernel_rfl)
theorem Tryz.ix262:ixT Tryz.prog 262= .arr 4 (false,1):=id (by kernel_rfl)
theorem Tryz.ix306:ixT Tryz.prog 306= .arr 8 (false,1):=id (by kernel_rfl)
theorem Tryz.ix307:ixT Tryz.prog 307= .arr 64 (false,1):=id (by kernel_rfl)
theorem Tryz.ix162:ixT Tryz.prog 162= .no:=id (by kernel_rfl)
theorem Tryz.ix232:ixT Tryz.prog 232= .sl (false,1):=id (by kernel_rfl)
theorem Tryz.ix346:ixT Tryz.prog 346= .arr 4 (false,1):=id (by kernel_rfl)
theorem Tryz.ix348:ixT Tryz.prog 348= .arr 6 (false,1):=id (by kernel_rfl)
theorem Tryz.ix362:ixT Tryz.prog 362= .sl (true,3):=id (by kernel_rfl)
theorem Tryz.ix295:ixT Tryz.prog 295= .arr 64 (false,1):=id (by kernel_rfl)
theorem Tryz.ix414:ixT Tryz.prog 414= .arr 16 (false,1):=id (by kernel_rfl)
theorem Tryz.ix408:ixT Tryz.prog 408= .sl (true,2):=id (by kernel_rfl)
theorem Tryz.ag24:zL_ Tryz.prog 24=some (true,32):=id (by kernel_rfl)
theorem Tryz.ag32:zL_ Tryz.prog 32=some (true,2):=id (by kernel_rfl)
theorem Tryz.ag35:zL_ Tryz.prog 35=some (true,2):=id (by kernel_rfl)
theorem Tryz.ag46:zL_ Tryz.prog 46=some (true,7):=id (by kernel_rfl)
theorem Tryz.ag30:zL_ Tryz.prog 30=some (false,1):=id (by kernel_rfl)
theorem Tryz.ag3:zL_ Tryz.prog 3=some (false,1):=id (by kernel_rfl)
theorem Tryz.ag67:zL_ Tryz.prog 67=some (true,37):=id (by kernel_rfl)
theorem Tryz.ag73:zL_ Tryz.prog 73=some (true,2):=id (by kernel_rfl)
theorem Tryz.ag9:zL_ Tryz.prog 9=some (false,1):=id (by kernel_rfl)
theorem Tryz.ag71:zL_ Tryz.prog 71=some (false,1):=id (by kernel_rfl)
theorem Tryz.ag65:zL_ Tryz.prog 65=some (false,1):=id (by kernel_rfl)
theorem Tryz.ag117:zL_ Tryz.prog 117=some (true,34):=id (by kernel_rfl)
theorem Tryz.ag121:zL_ Tryz.prog 121=some (true,1):=id (by kernel_rfl)
theorem Tryz.ag119:zL_ Tryz.prog 119=some (false,1):=id (by kernel_rfl)
theorem Tryz.ag22:zL_ Tryz.prog 22=some (false,1):=id (by kernel_rfl)
theorem Tryz.ag126:zL_ Tryz.prog 126=some (true,34):=id (by kernel_rfl)
theorem Tryz.ag133:zL_ Tryz.prog 133=some (true,5):=id (by kernel_rfl)
theorem Tryz.ag44:zL_ Tryz.prog 44=some (false,1):=id (by kernel_rfl)
theorem Tryz.ag59:zL_ Tryz.prog 59=some (true,33):=id (by kernel_rfl)
theorem Tryz.ag130:zL_ Tryz.prog 130=some (false,1):=id (by kernel_rfl)
theorem Tryz.ag131:zL_ Tryz.prog 131=some (false,1):=id (by kernel_rfl)
theorem Tryz.ag122:zL_ Tryz.prog 122=some (false,1):=id (by kernel_rfl)
theorem Tryz.ag41:zL_ Tryz.prog 41=some (false,1):=id (by kernel_rfl)
theorem Tryz.ag28:zL_ Tryz.prog 28=some (false,1):=id (by kernel_rfl)
theorem Tryz.ag82:zL_ Tryz.prog 82=some (false,1):=id (by kernel_rfl)
theorem Tryz.ag4:zL_ Tryz.prog 4=some (false,1):=id (by kernel_rfl)
theorem Tryz.ag5:zL_ Tryz.prog 5=some (false,1):=id (by kernel_rfl)
theorem Tryz.ag170:zL_ Tryz.prog 170=some (true,3):=id (by kernel_rfl)
theorem Tryz.ag166:zL_ Tryz.prog 166=some (false,1):=id (by kernel_rfl)
theorem Tryz.ag172:zL_ Tryz.prog 172=some (false,1):=id (by kernel_rfl)
theorem Tryz.ag176:zL_ Tryz.prog 176=some (false,1):=id (by kernel_rfl)
theorem Tryz.ag173:zL_ Tryz.prog 173=some (false,1):=id (by kernel_rfl)
theorem Tryz.ag151:zL_ Tryz.prog 151=some (true,4):=id (by kernel_rfl)
theorem Tryz.ag149:zL_ Tryz.prog 149=some (true,33):=id (by kernel_rfl)
theorem Tryz.ag187:zL_ Tryz.prog 187=some (true,3):=id (by kernel_rfl)
theorem Tryz.ag182:zL_ Tryz.prog 182=some (true,2):=id (by kernel_rfl)
theorem Tryz.ag191:zL_ Tryz.prog 191=some (false,1):=id (by kernel_rfl)
theorem Tryz.ag200:zL_ Tryz.prog 200=some (true,2):=id (by kernel_rfl)
theorem Tryz.ag192:zL_ Tryz.prog 192=some (false,1):=id (by kernel_rfl)
theorem Tryz.ag203:zL_ Tryz.prog 203=some (true,2):=id (by kernel_rfl)
theorem Tryz.ag108:zL_ Tryz.prog 108=some (true,4):=id (by kernel_rfl)
theorem Tryz.ag97:zL_ Tryz.prog 97=some (false,1):=id (by kernel_rfl)
theorem Tryz.ag169:zL_ Tryz.prog 169=some (false,1):=id (by kernel_rfl)
theorem Tryz.ag193:zL_ Tryz.prog 193=some (false,1):=id (by kernel_rfl)
theorem Tryz.ag219:zL_ Tryz.prog 219=some (true,4):=id (by kernel_rfl)
theorem Tryz.ag236:zL_ Tryz.prog 236=some (true,2):=id (by kernel_rfl)
theorem Tryz.ag243:zL_ Tryz.prog 243=some (true,3):=id (by kernel_rfl)
theorem Tryz.ag251:zL_ Tryz.prog 251=some (true,8):=id (by kernel_rfl)
theorem Tryz.ag250:zL_ Tryz.prog 250=some (false,1):=id (by kernel_rfl)
theorem Tryz.ag262:zL_ Tryz.prog 262=some (true,4):=id (by kernel_rfl)
theorem Tryz.ag142:zL_ Tryz.prog 142=some (true,36):=id (by kernel_rfl)
theorem Tryz.ag261:zL_ Tryz.prog 261=some (false,1):=id (by kernel_rfl)
theorem Tryz.ag168:zL_ Tryz.prog 168=some (true,5):=id (by kernel_rfl)
theorem Tryz.ag175:zL_ Tryz.prog 175=some (true,3):=id (by kernel_rfl)
theorem Tryz.ag198:zL_ Tryz.prog 198=some (true,13):=id (by kernel_rfl)
theorem Tryz.ag298:zL_ Tryz.prog 298=some (true,75):=id (by kernel_rfl)
theorem Tryz.ag306:zL_ Tryz.prog 306=some (true,8):=id (by kernel_rfl)
theorem Tryz.ag307:zL_ Tryz.prog 307=some (true,64):=id (by kernel_rfl)
theorem Tryz.ag140:zL_ Tryz.prog 140=some (false,1):=id (by kernel_rfl)
theorem Tryz.ag314:zL_ Tryz.prog 314=some (true,3):=id (by kernel_rfl)
theorem Tryz.ag321:zL_ Tryz.prog 321=some (true,7):=id (by kernel_rfl)
theorem Tryz.ag336:zL_ Tryz.prog 336=some (true,5):=id (by kernel_rfl)
theorem Tryz.ag302:zL_ Tryz.prog 302=some (false,1):=id (by kernel_rfl)
theorem Tryz.ag296:zL_ Tryz.prog 296=some (false,1):=id (by kernel_rfl)
theorem Tryz.ag232:zL_ Tryz.prog 232=some (false,1):=id (by kernel_rfl)
theorem Tryz.ag76:zL_ Tryz.prog 76=some (false,1):=id (by kernel_rfl)
theorem Tryz.ag346:zL_ Tryz.prog 346=some (true,4):=id (by kernel_rfl)
theorem Tryz.ag348:zL_ Tryz.prog 348=some (true,6):=id (by kernel_rfl)
theorem Tryz.ag347:zL_ Tryz.prog 347=some (false,1):=id (by kernel_rfl)
theorem Tryz.ag231:zL_ Tryz.prog 231=some (false,1):=id (by kernel_rfl)
theorem Tryz.ag382:zL_ Tryz.prog 382=some (false,1):=id (by kernel_rfl)
theorem Tryz.ag179:zL_ Tryz.prog 179=some (false,1):=id (by kernel_rfl)
theorem Tryz.ag395:zL_ Tryz.prog 395=some (true,3):=id (by kernel_rfl)
theorem Tryz.ag418:zL_ Tryz.prog 418=some (true,2):=id (by kernel_rfl)
theorem Tryz.ag416:zL_ Tryz.prog 416=some (false,1):=id (by kernel_rfl)
theorem Tryz.ag178:zL_ Tryz.prog 178=some (false,1):=id (by kernel_rfl)
theorem Tryz.ag414:zL_ Tryz.prog 414=some (true,16):=id (by kernel_rfl)
theorem Tryz.zr24:zY_ Tryz.prog 24=some (.agg (a8 (List.replicate 32 0))):=id (by kernel_rfl)
theorem Tryz.zr149:zY_ Tryz.prog 149=some (.agg #[(vs []),(v8 0),(v8 0),(v8 0),(v8 0),(v8 0),(v8 0),(v8 0),(v8 0),(v8 0),(v8 0),(v8 0),(v8 0),(v8 0),(v8 0),(v8 0),(v8 0),(v8 0),(v8 0),(v8 0),(v8 0),(v8 0),(v8 0),(v8 0),(v8 0),(v8 0),(v8 0),(v8 0),(v8 0),(v8 0),(v8 0),(v8 0),(v8 0)]):=id (by kernel_rfl)
theorem Tryz.zr236:zY_ Tryz.prog 236=some (.agg #[(.pointer none),(.slice none 0 0)]):=id (by kernel_rfl)
theorem Tryz.zr321:zY_ Tryz.prog 321=some (.agg #[(vs []),(vs []),(vs []),(.bool false),(vi 0),(.bool false),(.bool false)]):=id (by kernel_rfl)
theorem Tryz.zr5:zY_ Tryz.prog 5=some (v8 0):=id (by kernel_rfl)
theorem Tryz.zr346:zY_ Tryz.prog 346=some (.agg (a8 (List.replicate 4 0))):=id (by kernel_rfl)
theorem Tryz.zr348:zY_ Tryz.prog 348=some (.agg #[.nilFunc, .nilFunc, .nilFunc, .nilFunc, .nilFunc, .nilFunc]):=id (by kernel_rfl)
theorem Tryz.pc149:Zl_ Tryz.prog 149=some [(0,1),(1,32)]:=id (by kernel_rfl)
theorem Tryz.fl46_4:zX_ Tryz.prog 46 4=some (5,(false,1)):=id (by kernel_rfl)
theorem Tryz.fl46_5:zX_ Tryz.prog 46 5=some (6,(false,1)):=id (by kernel_rfl)
theorem Tryz.fl59_0:zX_ Tryz.prog 59 0=some (0,(true,32)):=id (by kernel_rfl)
theorem Tryz.fl35_0:zX_ Tryz.prog 35 0=some (0,(false,1)):=id (by kernel_rfl)
theorem Tryz.fl59_1:zX_ Tryz.prog 59 1=some (32,(false,1)):=id (by kernel_rfl)
theorem Tryz.fl67_2:zX_ Tryz.prog 67 2=some (2,(false,1)):=id (by kernel_rfl)
theorem Tryz.fl67_3:zX_ Tryz.prog 67 3=some (3,(true,32)):=id (by kernel_rfl)
theorem Tryz.fl67_1:zX_ Tryz.prog 67 1=some (1,(false,1)):=id (by kernel_rfl)
theorem Tryz.fl67_0:zX_ Tryz.prog 67 0=some (0,(false,1)):=id (by kernel_rfl)
theorem Tryz.fl73_1:zX_ Tryz.prog 73 1=some (1,(false,1)):=id (by kernel_rfl)
theorem Tryz.fl73_0:zX_ Tryz.prog 73 0=some (0,(false,1)):=id (by kernel_rfl)
theorem Tryz.fl67_5:zX_ Tryz.prog 67 5=some (36,(false,1)):=id (by kernel_rfl)
theorem Tryz.fl108_1:zX_ Tryz.prog 108 1=some (1,(true,2)):=id (by kernel_rfl)
theorem Tryz.fl108_2:zX_ Tryz.prog 108 2=some (3,(false,1)):=id (by kernel_rfl)
theorem Tryz.fl35_1:zX_ Tryz.prog 35 1=some (1,(false,1)):=id (by kernel_rfl)
theorem Tryz.fl121_0:zX_ Tryz.prog 121 0=some (0,(false,1)):=id (by kernel_rfl)
theorem Tryz.fl32_0:zX_ Tryz.prog 32 0=some (0,(false,1)):=id (by kernel_rfl)
theorem Tryz.fl32_1:zX_ Tryz.prog 32 1=some (1,(false,1)):=id (by kernel_rfl)
theorem Tryz.fl46_1:zX_ Tryz.prog 46 1=some (2,(false,1)):=id (by kernel_rfl)
theorem Tryz.fl133_1:zX_ Tryz.prog 133 1=some (1,(false,1)):=id (by kernel_rfl)
theorem Tryz.fl133_2:zX_ Tryz.prog 133 2=some (2,(false,1)):=id (by kernel_rfl)
theorem Tryz.fl46_2:zX_ Tryz.prog 46 2=some (3,(false,1)):=id (by kernel_rfl)
theorem Tryz.fl46_0:zX_ Tryz.prog 46 0=some (0,(true,2)):=id (by kernel_rfl)
theorem Tryz.fl46_3:zX_ Tryz.prog 46 3=some (4,(false,1)):=id (by kernel_rfl)
theorem Tryz.fl133_3:zX_ Tryz.prog 133 3=some (3,(false,1)):=id (by kernel_rfl)
theorem Tryz.fl133_4:zX_ Tryz.prog 133 4=some (4,(false,1)):=id (by kernel_rfl)
theorem Tryz.fl142_1:zX_ Tryz.prog 142 1=some (1,(false,1)):=id (by kernel_rfl)
theorem Tryz.fl117_2:zX_ Tryz.prog 117 2=some (2,(true,32)):=id (by kernel_rfl)
theorem Tryz.fl117_1:zX_ Tryz.prog 117 1=some (1,(false,1)):=id (by kernel_rfl)
theorem Tryz.fl142_2:zX_ Tryz.prog 142 2=some (2,(true,34)):=id (by kernel_rfl)
theorem Tryz.fl126_0:zX_ Tryz.prog 126 0=some (0,(true,32)):=id (by kernel_rfl)
theorem Tryz.fl126_1:zX_ Tryz.prog 126 1=some (32,(false,1)):=id (by kernel_rfl)
theorem Tryz.fl133_0:zX_ Tryz.prog 133 0=some (0,(false,1)):=id (by kernel_rfl)
theorem Tryz.fl151_1:zX_ Tryz.prog 151 1=some (1,(true,2)):=id (by kernel_rfl)
theorem Tryz.fl151_0:zX_ Tryz.prog 151 0=some (0,(false,1)):=id (by kernel_rfl)
theorem Tryz.fl151_2:zX_ Tryz.prog 151 2=some (3,(false,1)):=id (by kernel_rfl)
theorem Tryz.fl168_2:zX_ Tryz.prog 168 2=some (2,(false,1)):=id (by kernel_rfl)
theorem Tryz.fl168_3:zX_ Tryz.prog 168 3=some (3,(false,1)):=id (by kernel_rfl)
theorem Tryz.fl67_4:zX_ Tryz.prog 67 4=some (35,(false,1)):=id (by kernel_rfl)
theorem Tryz.fl168_0:zX_ Tryz.prog 168 0=some (0,(false,1)):=id (by kernel_rfl)
theorem Tryz.fl175_2:zX_ Tryz.prog 175 2=some (2,(false,1)):=id (by kernel_rfl)
theorem Tryz.fl175_1:zX_ Tryz.prog 175 1=some (1,(false,1)):=id (by kernel_rfl)
theorem Tryz.fl175_0:zX_ Tryz.prog 175 0=some (0,(false,1)):=id (by kernel_rfl)
theorem Tryz.fl168_4:zX_ Tryz.prog 168 4=some (4,(false,1)):=id (by kernel_rfl)
theorem Tryz.fl182_0:zX_ Tryz.prog 182 0=some (0,(false,1)):=id (by kernel_rfl)
theorem Tryz.fl182_1:zX_ Tryz.prog 182 1=some (1,(false,1)):=id (by kernel_rfl)
theorem Tryz.fl187_2:zX_ Tryz.prog 187 2=some (2,(false,1)):=id (by kernel_rfl)
theorem Tryz.fl187_1:zX_ Tryz.prog 187 1=some (1,(false,1)):=id (by kernel_rfl)
theorem Tryz.fl187_0:zX_ Tryz.prog 187 0=some (0,(false,1)):=id (by kernel_rfl)
theorem Tryz.fl198_1:zX_ Tryz.prog 198 1=some (9,(false,1)):=id (by kernel_rfl)
theorem Tryz.fl198_0:zX_ Tryz.prog 198 0=some (0,(true,9)):=id (by kernel_rfl)
theorem Tryz.fl195_0:zX_ Tryz.prog 195 0=some (0,(false,1)):=id (by kernel_rfl)
theorem Tryz.fl195_1:zX_ Tryz.prog 195 1=some (1,(false,1)):=id (by kernel_rfl)
theorem Tryz.fl108_0:zX_ Tryz.prog 108 0=some (0,(false,1)):=id (by kernel_rfl)
theorem Tryz.fl198_3:zX_ Tryz.prog 198 3=some (11,(false,1)):=id (by kernel_rfl)
theorem Tryz.fl195_2:zX_ Tryz.prog 195 2=some (2,(false,1)):=id (by kernel_rfl)
theorem Tryz.fl198_4:zX_ Tryz.prog 198 4=some (12,(false,1)):=id (by kernel_rfl)
theorem Tryz.fl203_1:zX_ Tryz.prog 203 1=some (1,(false,1)):=id (by kernel_rfl)
theorem Tryz.fl200_0:zX_ Tryz.prog 200 0=some (0,(false,1)):=id (by kernel_rfl)
theorem Tryz.fl200_1:zX_ Tryz.prog 200 1=some (1,(false,1)):=id (by kernel_rfl)
theorem Tryz.fl203_0:zX_ Tryz.prog 203 0=some (0,(false,1)):=id (by kernel_rfl)
theorem Tryz.fl117_0:zX_ Tryz.prog 117 0=some (0,(false,1)):=id (by kernel_rfl)
theorem Tryz.fl243_2:zX_ Tryz.prog 243 2=some (2,(false,1)):=id (by kernel_rfl)
theorem Tryz.fl243_1:zX_ Tryz.prog 243 1=some (1,(false,1)):=id (by kernel_rfl)
theorem Tryz.fl126_2:zX_ Tryz.prog 126 2=some (33,(false,1)):=id (by kernel_rfl)
theorem Tryz.fl168_1:zX_ Tryz.prog 168 1=some (1,(false,1)):=id (by kernel_rfl)
theorem Tryz.fl149_0:zX_ Tryz.prog 149 0=some (0,(false,1)):=id (by kernel_rfl)
theorem Tryz.fl149_1:zX_ Tryz.prog 149 1=some (1,(true,32)):=id (by kernel_rfl)
theorem Tryz.fl198_2:zX_ Tryz.prog 198 2=some (10,(false,1)):=id (by kernel_rfl)
theorem Tryz.fl219_0:zX_ Tryz.prog 219 0=some (0,(false,1)):=id (by kernel_rfl)
theorem Tryz.fl219_3:zX_ Tryz.prog 219 3=some (3,(false,1)):=id (by kernel_rfl)
theorem Tryz.fl219_1:zX_ Tryz.prog 219 1=some (1,(false,1)):=id (by kernel_rfl)
theorem Tryz.fl219_2:zX_ Tryz.prog 219 2=some (2,(false,1)):=id (by kernel_rfl)
theorem Tryz.fl236_0:zX_ Tryz.prog 236 0=some (0,(true,2)):=id (by kernel_rfl)
theorem Tryz.fl243_0:zX_ Tryz.prog 243 0=some (0,(false,1)):=id (by kernel_rfl)
theorem Tryz.fl142_0:zX_ Tryz.prog 142 0=some (0,(false,1)):=id (by kernel_rfl)
theorem Tryz.fl314_1:zX_ Tryz.prog 314 1=some (1,(false,1)):=id (by kernel_rfl)
theorem Tryz.fl314_0:zX_ Tryz.prog 314 0=some (0,(false,1)):=id (by kernel_rfl)
theorem Tryz.fl336_3:zX_ Tryz.prog 336 3=some (3,(false,1)):=id (by kernel_rfl)
theorem Tryz.fl298_4:zX_ Tryz.prog 298 4=some (74,(false,1)):=id (by kernel_rfl)
theorem Tryz.fl298_3:zX_ Tryz.prog 298 3=some (73,(false,1)):=id (by kernel_rfl)
theorem Tryz.fl298_1:zX_ Tryz.prog 298 1=some (1,(true,8)):=id (by kernel_rfl)
theorem Tryz.fl234_1:zX_ Tryz.prog 234 1=some (1,(false,1)):=id (by kernel_rfl)
theorem Tryz.fl314_2:zX_ Tryz.prog 314 2=some (2,(false,1)):=id (by kernel_rfl)
theorem Tryz.fl321_4:zX_ Tryz.prog 321 4=some (4,(false,1)):=id (by kernel_rfl)
theorem Tryz.fl321_3:zX_ Tryz.prog 321 3=some (3,(false,1)):=id (by kernel_rfl)
theorem Tryz.fl321_6:zX_ Tryz.prog 321 6=some (6,(false,1)):=id (by kernel_rfl)
theorem Tryz.fl321_5:zX_ Tryz.prog 321 5=some (5,(false,1)):=id (by kernel_rfl)
theorem Tryz.fl321_0:zX_ Tryz.prog 321 0=some (0,(false,1)):=id (by kernel_rfl)
theorem Tryz.fl321_1:zX_ Tryz.prog 321 1=some (1,(false,1)):=id (by kernel_rfl)
theorem Tryz.fl336_1:zX_ Tryz.prog 336 1=some (1,(false,1)):=id (by kernel_rfl)
theorem Tryz.fl336_0:zX_ Tryz.prog 336 0=some (0,(false,1)):=id (by kernel_rfl)
theorem Tryz.fl336_4:zX_ Tryz.prog 336 4=some (4,(false,1)):=id (by kernel_rfl)
theorem Tryz.fl336_2:zX_ Tryz.prog 336 2=some (2,(false,1)):=id (by kernel_rfl)
theorem Tryz.fl298_0:zX_ Tryz.prog 298 0=some (0,(false,1)):=id (by kernel_rfl)
theorem Tryz.fl298_2:zX_ Tryz.prog 298 2=some (9,(true,64)):=id (by kernel_rfl)
theorem Tryz.fl234_0:zX_ Tryz.prog 234 0=some (0,(false,1)):=id (by kernel_rfl)
theorem Tryz.fl395_0:zX_ Tryz.prog 395 0=some (0,(false,1)):=id (by kernel_rfl)
theorem Tryz.fl395_1:zX_ Tryz.prog 395 1=some (1,(false,1)):=id (by kernel_rfl)
theorem Tryz.fl395_2:zX_ Tryz.prog 395 2=some (2,(false,1)):=id (by kernel_rfl)
theorem Tryz.fl321_2:zX_ Tryz.prog 321 2=some (2,(false,1)):=id (by kernel_rfl)
theorem Tryz.fl418_0:zX_ Tryz.prog 418 0=some (0,(false,1)):=id (by kernel_rfl)
theorem Tryz.fl418_1:zX_ Tryz.prog 418 1=some (1,(false,1)):=id (by kernel_rfl)
theorem Tryz.cv5_3:cvT Tryz.prog 5 3= .int .i64:=id (by kernel_rfl)
theorem Tryz.cv169_3:cvT Tryz.prog 169 3= .int .i64:=id (by kernel_rfl)
theorem Tryz.cv3_253:cvT Tryz.prog 3 253= .int .u64:=id (by kernel_rfl)
theorem Tryz.cv250_5:cvT Tryz.prog 250 5= .int .u8:=id (by kernel_rfl)
theorem Tryz.cv3_5:cvT Tryz.prog 3 5= .int .u8:=id (by kernel_rfl)
theorem Tryz.cv232_9:cvT Tryz.prog 232 9= .bytesStr:=id (by kernel_rfl)
theorem Tryz.cv3_296:cvT Tryz.prog 3 296= .int .u64:=id (by kernel_rfl)
theorem Tryz.cv296_5:cvT Tryz.prog 296 5= .int .u8:=id (by kernel_rfl)
theorem Tryz.cv5_250:cvT Tryz.prog 5 250= .int .u32:=id (by kernel_rfl)
theorem Tryz.cv253_250:cvT Tryz.prog 253 250= .int .u32:=id (by kernel_rfl)
theorem Tryz.cv231_371:cvT Tryz.prog 231 371= .no:=id (by kernel_rfl)
theorem Tryz.cv371_231:cvT Tryz.prog 371 231= .no:=id (by kernel_rfl)
theorem Tryz.cv3_382:cvT Tryz.prog 3 382= .int .u64:=id (by kernel_rfl)
theorem Tryz.cv253_3:cvT Tryz.prog 253 3= .int .i64:=id (by kernel_rfl)
theorem Tryz.cv3_419:cvT Tryz.prog 3 419= .no:=id (by kernel_rfl)
theorem Tryz.cv419_3:cvT Tryz.prog 419 3= .no:=id (by kernel_rfl)
set_option linter.defProp false
def Tryz.fx:=And.intro (And.intro (And.intro (And.intro (And.intro (And.intro (And.intro (@Tryz.ix22) (And.intro (@Tryz.ix30) (@Tryz.ix44))) (And.intro (And.intro (@Tryz.ix65) (@Tryz.ix71)) (And.intro (@Tryz.ix81) (@Tryz.ix94)))) (And.intro (And.intro (@Tryz.ix122) (And.intro (@Tryz.ix9) (@Tryz.ix24))) (And.intro (And.intro (@Tryz.ix170) (@Tryz.ix172)) (And.intro (@Tryz.ix179) (@Tryz.ix191))))) (And.intro (And.intro (And.intro (@Tryz.ix196) (And.intro (@Tryz.ix193) (@Tryz.ix192))) (And.intro (And.intro (@Tryz.ix302) (@Tryz.ix251)) (And.intro (@Tryz.ix262) (@Tryz.ix306)))) (And.intro (And.intro (@Tryz.ix307) (And.intro (@Tryz.ix162) (@Tryz.ix232))) (And.intro (And.intro (@Tryz.ix346) (@Tryz.ix348)) (And.intro (@Tryz.ix362) (@Tryz.ix295)))))) (And.intro (And.intro (And.intro (And.intro (@Tryz.ix414) (And.intro (@Tryz.ix408) (@Tryz.ag24))) (And.intro (And.intro (@Tryz.ag32) (@Tryz.ag35)) (And.intro (@Tryz.ag46) (@Tryz.ag30)))) (And.intro (And.intro (@Tryz.ag3) (And.intro (@Tryz.ag67) (@Tryz.ag73))) (And.intro (And.intro (@Tryz.ag9) (@Tryz.ag71)) (And.intro (@Tryz.ag65) (@Tryz.ag117))))) (And.intro (And.intro (And.intro (@Tryz.ag121) (And.intro (@Tryz.ag119) (@Tryz.ag22))) (And.intro (And.intro (@Tryz.ag126) (@Tryz.ag133)) (And.intro (@Tryz.ag44) (@Tryz.ag59)))) (And.intro (And.intro (@Tryz.ag130) (And.intro (@Tryz.ag131) (@Tryz.ag122))) (And.intro (And.intro (@Tryz.ag41) (@Tryz.ag28)) (And.intro (@Tryz.ag82) (@Tryz.ag4))))))) (And.intro (And.intro (And.intro (And.intro (And.intro (@Tryz.ag5) (And.intro (@Tryz.ag170) (@Tryz.ag166))) (And.intro (And.intro (@Tryz.ag172) (@Tryz.ag176)) (And.intro (@Tryz.ag173) (@Tryz.ag151)))) (And.intro (And.intro (@Tryz.ag149) (And.intro (@Tryz.ag187) (@Tryz.ag182))) (And.intro (And.intro (@Tryz.ag191) (@Tryz.ag200)) (And.intro (@Tryz.ag192) (@Tryz.ag203))))) (And.intro (And.intro (And.intro (@Tryz.ag108) (And.intro (@Tryz.ag97) (@Tryz.ag169))) (And.intro (And.intro (@Tryz.ag193) (@Tryz.ag219)) (And.intro (@Tryz.ag236) (@Tryz.ag243)))) (And.intro (And.intro (@Tryz.ag251) (And.intro (@Tryz.ag250) (@Tryz.ag262))) (And.intro (And.intro (@Tryz.ag142) (@Tryz.ag261)) (And.intro (@Tryz.ag168) (@Tryz.ag175)))))) (And.intro (And.intro (And.intro (And.intro (@Tryz.ag198) (And.intro (@Tryz.ag298) (@Tryz.ag306))) (And.intro (And.intro (@Tryz.ag307) (@Tryz.ag140)) (And.intro (@Tryz.ag314) (@Tryz.ag321)))) (And.intro (And.intro (@Tryz.ag336) (And.intro (@Tryz.ag302) (@Tryz.ag296))) (And.intro (And.intro (@Tryz.ag232) (@Tryz.ag76)) (And.intro (@Tryz.ag346) (@Tryz.ag348))))) (And.intro (And.intro (And.intro (@Tryz.ag347) (And.intro (@Tryz.ag231) (@Tryz.ag382))) (And.intro (And.intro (@Tryz.ag179) (@Tryz.ag395)) (And.intro (@Tryz.ag418) (@Tryz.ag416)))) (And.intro (And.intro (And.intro (@Tryz.ag178) (@Tryz.ag414)) (And.intro (@Tryz.fl46_4) (@Tryz.fl46_5))) (And.intro (And.intro (@Tryz.fl59_0) (@Tryz.fl35_0)) (And.intro (@Tryz.fl59_1) (@Tryz.fl67_2)))))))) (And.intro (And.intro (And.intro (And.intro (And.intro (And.intro (@Tryz.fl67_3) (And.intro (@Tryz.fl67_1) (@Tryz.fl67_0))) (And.intro (And.intro (@Tryz.fl73_1) (@Tryz.fl73_0)) (And.intro (@Tryz.fl67_5) (@Tryz.fl108_1)))) (And.intro (And.intro (@Tryz.fl108_2) (And.intro (@Tryz.fl35_1) (@Tryz.fl121_0))) (And.intro (And.intro (@Tryz.fl32_0) (@Tryz.fl32_1)) (And.intro (@Tryz.fl46_1) (@Tryz.fl133_1))))) (And.intro (And.intro (And.intro (@Tryz.fl133_2) (And.intro (@Tryz.fl46_2) (@Tryz.fl46_0))) (And.intro (And.intro (@Tryz.fl46_3) (@Tryz.fl133_3)) (And.intro (@Tryz.fl133_4) (@Tryz.fl142_1)))) (And.intro (And.intro (@Tryz.fl117_2) (And.intro (@Tryz.fl117_1) (@Tryz.fl142_2))) (And.intro (And.intro (@Tryz.fl126_0) (@Tryz.fl126_1)) (And.intro (@Tryz.fl133_0) (@Tryz.fl151_1)))))) (And.intro (And.intro (And.intro (And.intro (@Tryz.fl151_0) (And.intro (@Tryz.fl151_2) (@Tryz.fl168_2))) (And.intro (And.intro (@Tryz.fl168_3) (@Tryz.fl67_4)) (And.intro (@Tryz.fl168_0) (@Tryz.fl175_2)))) (And.intro (And.intro (@Tryz.fl175_1) (And.intro (@Tryz.fl175_0) (@Tryz.fl168_4))) (And.intro (And.intro (@Tryz.fl182_0) (@Tryz.fl182_1)) (And.intro (@Tryz.fl187_2) (@Tryz.fl187_1))))) (And.intro (And.intro (And.intro (@Tryz.fl187_0) (And.intro (@Tryz.fl198_1) (@Tryz.fl198_0))) (And.intro (And.intro (@Tryz.fl195_0) (@Tryz.fl195_1)) (And.intro (@Tryz.fl108_0) (@Tryz.fl198_3)))) (And.intro (And.intro (@Tryz.fl195_2) (And.intro (@Tryz.fl198_4) (@Tryz.fl203_1))) (And.intro (And.intro (@Tryz.fl200_0) (@Tryz.fl200_1)) (And.intro (@Tryz.fl203_0) (@Tryz.fl117_0))))))) (And.intro (And.intro (And.intro (And.intro (And.intro (@Tryz.fl243_2) (And.intro (@Tryz.fl243_1) (@Tryz.fl126_2))) (And.intro (And.intro (@Tryz.fl168_1) (@Tryz.fl149_0)) (And.intro (@Tryz.fl149_1) (@Tryz.fl198_2)))) (And.intro (And.intro (@Tryz.fl219_0) (And.intro (@Tryz.fl219_3) (@Tryz.fl219_1))) (And.intro (And.intro (@Tryz.fl219_2) (@Tryz.fl236_0)) (And.intro (@Tryz.fl243_0) (@Tryz.fl142_0))))) (And.intro (And.intro (And.intro (@Tryz.fl314_1) (And.intro (@Tryz.fl314_0) (@Tryz.fl336_3))) (And.intro (And.intro (@Tryz.fl298_4) (@Tryz.fl298_3)) (And.intro (@Tryz.fl298_1) (@Tryz.fl234_1)))) (And.intro (And.intro (@Tryz.fl314_2) (And.intro (@Tryz.fl321_4) (@Tryz.fl321_3))) (And.intro (And.intro (@Tryz.fl321_6) (@Tryz.fl321_5)) (And.intro (@Tryz.fl321_0) (@Tryz.fl321_1)))))) (And.intro (And.intro (And.intro (And.intro (@Tryz.fl336_1) (And.intro (@Tryz.fl336_0) (@Tryz.fl336_4))) (And.intro (And.intro (@Tryz.fl336_2) (@Tryz.fl298_0)) (And.intro (@Tryz.fl298_2) (@Tryz.fl234_0)))) (And.intro (And.intro (@Tryz.fl395_0) (And.intro (@Tryz.fl395_1) (@Tryz.fl395_2))) (And.intro (And.intro (@Tryz.fl321_2) (@Tryz.fl418_0)) (And.intro (@Tryz.fl418_1) (@Tryz.cv5_3))))) (And.intro (And.intro (And.intro (@Tryz.cv169_3) (And.intro (@Tryz.cv3_253) (@Tryz.cv250_5))) (And.intro (And.intro (@Tryz.cv3_5) (@Tryz.cv232_9)) (And.intro (@Tryz.cv3_296) (@Tryz.cv296_5)))) (And.intro (And.intro (And.intro (@Tryz.cv5_250) (@Tryz.cv253_250)) (And.intro (@Tryz.cv231_371) (@Tryz.cv371_231))) (And.intro (And.intro (@Tryz.cv3_382) (@Tryz.cv253_3)) (And.intro (@Tryz.cv3_419) (@Tryz.cv419_3))))))))
theorem kp {X A G:Prop} (x:X) (h:G) (e:X→A=G:=by intro x;(try simp(disch:=(first|assumption|omega| (simp only[qP_,qM_,UInt64.reduceToNat];try omega))) only[↓Sx.S0,Sx.S1,Tryz.fx,Nat.reduceAdd,Nat.reducePow,Int.reducePow,Nat.reduceBEq, ↓reduceIte,UInt8.reduceToNat,UInt16.reduceToNat,UInt32.reduceToNat,UInt64.reduceToNat,Int.reduceToNat,x]);exact rfl):A:=(e x).mpr h
section
variable {P:Program} {w0:World} {f:Fr} {L:za_} {K:j9_} {N:Fr→za_→Prop} {ops:Array Oper} {md:Md} {l:List Oper} {X G:Prop}
theorem ks {c:Code} (z:List Nat) [Sx.Steps c] (x:X) (h:G) (e:X→vcC P w0 z c f L (bsK K)=G:=by intro x;(try simp(disch:=(first|assumption|omega| (simp only[qP_,qM_,UInt64.reduceToNat];try omega))) only[↓Sx.S0,Sx.S1,Tryz.fx,Nat.reduceAdd,Nat.reducePow,Int.reducePow,Nat.reduceBEq, ↓reduceIte,UInt8.reduceToNat,UInt16.reduceToNat,UInt32.reduceToNat,UInt64.reduceToNat,Int.reduceToNat,x]);exact rfl):Cw P w0 c f L K:=Cw.go z ((e x).mpr h)
theorem ko (x:X) (h:G) (e:X→vcL P w0 ops true md l f L (owk P w0 ops (bsN N))=G:=by intro x;(try simp(disch:=(first|assumption|omega| (simp only[qP_,qM_,UInt64.reduceToNat];try omega))) only[↓Sx.S0,Sx.S1,Tryz.fx,Nat.reduceAdd,Nat.reducePow,Int.reducePow,Nat.reduceBEq, ↓reduceIte,UInt8.reduceToNat,UInt16.reduceToNat,UInt32.reduceToNat,UInt64.reduceToNat,Int.reduceToNat,x]);exact rfl) (he:md.eff=true:=by rfl):Ow P w0 ops md l f L N:=Ow.go he ((e x).mpr h)
theorem kq (x:X) (h:G) (e:X→vcL P w0 ops false md l f L (owk P w0 ops (bsN N))=G:=by intro x;(try simp(disch:=(first|assumption|omega| (simp only[qP_,qM_,UInt64.reduceToNat];try omega))) only[↓Sx.S0,Sx.S1,Tryz.fx,Nat.reduceAdd,Nat.reducePow,Int.reducePow,Nat.reduceBEq, ↓reduceIte,UInt8.reduceToNat,UInt16.reduceToNat,UInt32.reduceToNat,UInt64.reduceToNat,Int.reduceToNat,x]);exact rfl):Ow P w0 ops md l f L N:=Ow.goQ ((e x).mpr h)
end
theorem ke {α:Type} {X:Prop} {a b:α} (x:X) (e:X→a=b:=by intro x;(try simp(disch:=(first|assumption|omega| (simp only[qP_,qM_,UInt64.reduceToNat];try omega))) only[↓Sx.S0,Sx.S1,Tryz.fx,Nat.reduceAdd,Nat.reducePow,Int.reducePow,Nat.reduceBEq, ↓reduceIte,UInt8.reduceToNat,UInt16.reduceToNat,UInt32.reduceToNat,UInt64.reduceToNat,Int.reduceToNat,x]);exact rfl):a=b:=e x
theorem kn {A G:Prop} (h:G) (e:A=G:=by(try simp(disch:=(first|assumption|omega| (simp only[qP_,qM_,UInt64.reduceToNat];try omega))) only[qC_,jI_,List.cons_append,List.nil_append]);exact rfl):A:=e.mpr h
theorem kf {A G:Prop} (h:G) (e:A=G:=by simp only[List.size_toArray,List.length_cons,List.length_nil,Nat.reduceAdd,Nat.reduceSub,List.replicate_succ,List.replicate_zero,List.cons_append,List.nil_append];exact rfl):A:=e.mpr h
theorem kv {A G:Prop} (h:G) (e:A=G:=by simp only[qA_,pin,jF_,jG_,List.contains_cons,List.contains_nil,Nat.reduceBEq,Bool.or_false,Bool.false_or,Bool.or_true,Bool.true_or,Nat.reduceAdd, ↓reduceIte,Bool.false_eq_true];exact rfl):A:=e.mpr h
set_option maxRecDepth 10000
set_option maxHeartbeats 1000000
set_option linter.unusedSimpArgs false
theorem ZM_ (p v:Value) (E:TypeId) (n:Nat):zD_ (some (false,n)) (some (.cells #[p,v] E (0,0))) 0=some p:=(rfl)
theorem ZG_ (p v:Value) (E:TypeId) (n:Nat):zD_ (some (false,n)) (some (.cells #[p,v] E (0,0))) 1=some v:=(rfl)
theorem abl_ (p v x:Value) (E:TypeId) (hx:Value.oneCell' x=true∧x.cells= #[x]):zz_ (some (false,1)) (some (.cells #[p,v] E (0,0))) 0 x=some (.cells #[x,v] E (0,0)):=by
 simp[zz_,hx,k3_]
theorem abz_ (p v x:Value) (E:TypeId) (hx:Value.oneCell' x=true∧x.cells= #[x]):zz_ (some (false,1)) (some (.cells #[p,v] E (0,0))) 1 x=some (.cells #[p,x] E (0,0)):=by
 simp[zz_,hx,k3_]
theorem Zw_ (p v:Value) (b o:Nat) (E:TypeId):zz_ (some (false,1)) (some (.cells #[p,v] E (0,0))) 0 (vp b o)=some (.cells #[vp b o,v] E (0,0)):=abl_ _ _ _ _ ⟨rfl,rfl⟩
theorem nilB (b o:Nat):qy_ Tryz.prog .eql 231 (vp b o) (.pointer none)=some (.bool false):=by
 simp[qy_,eqX,qk_,qp_,Tryz.underlying231,vp]
theorem ajk_:qy_ Tryz.prog .eql 231 (.pointer none) (.pointer none)=some (.bool true):=by
 simp[qy_,eqX,qk_,qp_,Tryz.underlying231]
set_option linter.defProp false
def vr_:=And.intro (And.intro (@ZM_) (@ZG_)) (And.intro (@Zw_) (And.intro (@nilB) (@ajk_)))
theorem alM_:liesAt Tryz.prog Tryz.prog.depth 236 ((#[Value.pointer none,Value.pointer none]:Array Value).size / Tryz.prog.cellsOf 236) 0 234 1=true:=id (by kernel_rfl)
theorem aggB:zL_ Tryz.prog 234=some (true,2):=id (by kernel_rfl)
theorem ahR_ (x:Value) (w:World): (callFunc 262 #[x]).run Tryz.prog w= .ok (.value x) w:=by kernel_rfl
theorem vg_ (b:Nat) (p v:Value) (w:World) (hp:p= .pointer none∨p=vp b 0) (ho:w.heap[b]? =some (.cells #[p,v] 236 (0,0))):
  Rets Tryz.prog 230 #[vp b 0] w (fun v' D=> ∃o,D= [(b,o)]∧v'= .tuple #[]∧o= .cells #[vp b 0,v] 236 (0,0)):=by
 refine Rets.enterM Tryz.func230 rfl (rs:= []) Tryz.results230 Tryz.ntmps230 ho ?_
 refine kf ?_
 rcases hp with rfl|rfl
 ·first|with_reducible refine ks [] @vr_ ?_|refine kp @vr_ ?_
  refine Ow.toUnsafe rfl rfl (by kernel_rfl) rfl (zb_ (zB_ _ _ _)) (by simp) aggB (by decide) Tryz.underlying231 Tryz.underlying371 ?_
  refine Ow.callExt (v:=vp b 0) rfl rfl (fun w=>ahR_ _ w) ?_
  refine Ow.ofUnsafe rfl rfl (by kernel_rfl) rfl (zb_ (zB_ _ _ _)) aggB alM_ Tryz.underlying371 Tryz.underlying231 ?_
  refine ko @vr_ ?_
  first|with_reducible refine ks [] @vr_ ?_|refine kp @vr_ ?_
  refine⟨_,_,_,(ke @vr_),rfl,trivial, ?_⟩
  exact⟨rfl,rfl⟩
 ·first|with_reducible refine ks [2] @vr_ ?_|refine kp @vr_ ?_
  refine Cw.region ?_
  refine Ow.value rfl rfl rfl ?_
  refine Ow.value (v:=vp b 0) rfl rfl (by simp(disch:=(first|assumption|omega| (simp only[qP_,qM_,UInt64.reduceToNat];try omega))) only[↓Sx.S0,Sx.S1,Tryz.fx,vr_,Nat.reduceAdd,Nat.reducePow,Int.reducePow,Nat.reduceBEq, ↓reduceIte,UInt8.reduceToNat,UInt16.reduceToNat,UInt32.reduceToNat,UInt64.reduceToNat,Int.reduceToNat,xG_]) ?_
  refine Ow.value (v:=vp b 0) rfl rfl (by simp(disch:=(first|assumption|omega| (simp only[qP_,qM_,UInt64.reduceToNat];try omega))) only[↓Sx.S0,Sx.S1,Tryz.fx,vr_,Nat.reduceAdd,Nat.reducePow,Int.reducePow,Nat.reduceBEq, ↓reduceIte,UInt8.reduceToNat,UInt16.reduceToNat,UInt32.reduceToNat,UInt64.reduceToNat,Int.reduceToNat,xG_]) ?_
  refine Ow.value (v:=vp b 0) rfl rfl (by simp(disch:=(first|assumption|omega| (simp only[qP_,qM_,UInt64.reduceToNat];try omega))) only[↓Sx.S0,Sx.S1,Tryz.fx,vr_,Nat.reduceAdd,Nat.reducePow,Int.reducePow,Nat.reduceBEq, ↓reduceIte,UInt8.reduceToNat,UInt16.reduceToNat,UInt32.reduceToNat,UInt64.reduceToNat,Int.reduceToNat,xG_]) ?_
  refine Ow.value rfl rfl rfl ?_
  refine Ow.neqSame rfl Tryz.underlying231 aggB rfl rfl ?_
  refine ko @vr_ ?_
  first|with_reducible refine ks [] @vr_ ?_|refine kp @vr_ ?_
  refine⟨_,_,_,(ke @vr_),rfl,trivial, ?_⟩
  exact⟨rfl,rfl⟩
end Go.Proofs
end
section
open Go Go.Proofs Go.Sx
namespace Go.Proofs
set_option maxRecDepth 10000
set_option maxHeartbeats 1000000
set_option linter.unusedSimpArgs false
set_option linter.defProp false
def Jv_:=And.intro (And.intro (@ZM_) (@ZG_)) (And.intro (@Zw_) (And.intro (@nilB) (@ajk_)))
def BldAt (b:Nat) (l:List UInt8) (X:za_):Prop:=
 ∃p v,Sx.look X b=some (.cells #[p,v] 236 (0,0))∧(p= .pointer none∨p=vp b 0)∧Buf X 5 1 v l.length (l.map v8)∧slB v≠some b
theorem vh_ (b:Nat) (X:za_) (l:List UInt8) (c:UInt8) (w:World) (hB:BldAt b l X) (hX: ∀p,p∈X→w.heap[p.1]? =some p.2) (hn: (keys X).Nodup) (hl:l.length<34359738368):
  Rets Tryz.prog 191 #[vp b 0,v8 c] w (XS w X (fun v D=>v= .nilIface∧BldAt b (l++ [c]) D)):=by
 obtain⟨p,v,hlk,hp,hb,hsl⟩:=hB
 refine Rets.enterX Tryz.func191 rfl (rs:= [.tmp 4]) Tryz.results191 Tryz.ntmps191 hX hn ?_
 refine kf ?_
 first|with_reducible refine ks [] @Jv_ ?_|refine kp @Jv_ ?_
 refine Ow.callM rfl rfl Tryz.call230 (ze_ hlk) (fun w' hw'=>vg_ b p v w' hp (hw'.has _ _ (zt_ hlk))) ?_
 have lk1:=zW_ (x:= .cells #[vp b 0,v] 236 (0,0)) hlk
 have rd1:=zb_ (w0:=w) lk1
 have hb1:Buf (setB X b (.cells #[vp b 0,v] 236 (0,0))) 5 1 v l.length (l.map v8):=hb.setO hsl
 have kx:Ext w X (setB X b (.cells #[vp b 0,v] 236 (0,0))):=(Ext.refl w X).setB
 generalize setB X b (.cells #[vp b 0,v] 236 (0,0))=X1 at*
 refine ko @Jv_ ?_
 first|with_reducible refine ks [] (And.intro @Jv_ @rd1) ?_|refine kp (And.intro @Jv_ @rd1) ?_
 refine Ow.buildSlice (e:=5) #[v8 c] rfl rfl (by kernel_rfl) fun b3 hb3 hw3=> ?_
 have lk3:Sx.look (X1++ [(b3, .cells #[v8 c] 5 (0,0))]) b3=some (.cells #[v8 c] 5 (0,0)):=qs_ hb3
 have hb2:Buf (X1++ [(b3, .cells #[v8 c] 5 (0,0))]) 5 1 v l.length (l.map v8):=hb1.app
 refine ko @Jv_ ?_
 refine Ow.append (e:=5) _ rfl rfl rfl Tryz.underlying232 Tryz.ag5 (by kernel_rfl) Tryz.zr5 (by kernel_rfl) Tryz.underlying232 (by intro k h;cases h) hb2 (fun w' hw'=>AppX.block (k:=1) (new:= [v8 c]) (zb_ lk3) (by simp) (by simp) rfl hw') (by omega) (fun v2 L2 hB2 hG2 hS2=> ?_)
 have lk2:Sx.look L2 b=some (.cells #[vp b 0,v] 236 (0,0)):=hG2.look b _ hsl (zq_ lk1)
 have st2:zz_ (some (false,1)) (some (.cells #[vp b 0,v] 236 (0,0))) 1 v2=some (.cells #[vp b 0,v2] 236 (0,0)):=abz_ _ _ _ _ hB2.cell
 refine ko (And.intro @Jv_ (And.intro @lk2 (And.intro @st2 (@xp_)))) ?_
 first|with_reducible refine ks [] @Jv_ ?_|refine kp @Jv_ ?_
 refine⟨_,(ke @Jv_), ?_⟩
 have ex:=(kx.app (o:= .cells #[v8 c] 5 (0,0)) hw3).grew hG2
 have hs2:slB v2≠some b:=by
  rcases hS2 with h| ⟨c',h,ha⟩
  ·rw[h];exact hsl
  ·rw[h]
   intro e
   cases e
   exact Nat.lt_irrefl _ (zi_ ha (ze_ (zq_ lk1)))
 refine⟨ex.setB,rfl,vp b 0,v2,zW_ lk2, .inr rfl, ?_,hs2⟩
 rw[List.length_append,List.map_append]
 exact hB2.setO hs2
end Go.Proofs
end
section
open Go Go.Proofs Go.Sx
namespace Go.Proofs
set_option maxRecDepth 10000
set_option maxHeartbeats 1000000
set_option linter.unusedSimpArgs false
set_option linter.defProp false
def j4_:=And.intro (And.intro (@ZM_) (@ZG_)) (And.intro (@Zw_) (And.intro (@nilB) (@ajk_)))
theorem w7_ (b:Nat) (X:za_) (l s:List UInt8) (w:World) (hB:BldAt b l X) (hX: ∀p,p∈X→w.heap[p.1]? =some p.2) (hn: (keys X).Nodup) (hl:l.length+s.length<34359738368):
  Rets Tryz.prog 208 #[vp b 0,vs s] w (XS w X (fun v D=>v= .tuple #[vi s.length, .nilIface]∧BldAt b (l++s) D)):=by
 obtain⟨p,v,hlk,hp,hb,hsl⟩:=hB
 refine Rets.enterX Tryz.func208 rfl (rs:= [.tmp 4, .tmp 5]) Tryz.results208 Tryz.ntmps208 hX hn ?_
 refine kf ?_
 first|with_reducible refine ks [] @j4_ ?_|refine kp @j4_ ?_
 refine Ow.callM rfl rfl Tryz.call230 (ze_ hlk) (fun w' hw'=>vg_ b p v w' hp (hw'.has _ _ (zt_ hlk))) ?_
 have lk1:=zW_ (x:= .cells #[vp b 0,v] 236 (0,0)) hlk
 have rd1:=zb_ (w0:=w) lk1
 have hb1:Buf (setB X b (.cells #[vp b 0,v] 236 (0,0))) 5 1 v l.length (l.map v8):=hb.setO hsl
 have kx:Ext w X (setB X b (.cells #[vp b 0,v] 236 (0,0))):=(Ext.refl w X).setB
 generalize setB X b (.cells #[vp b 0,v] 236 (0,0))=X1 at*
 refine ko @j4_ ?_
 first|with_reducible refine ks [] (And.intro @j4_ @rd1) ?_|refine kp (And.intro @j4_ @rd1) ?_
 refine Ow.append (e:=5) _ rfl rfl rfl Tryz.underlying232 Tryz.ag5 (by kernel_rfl) Tryz.zr5 (by kernel_rfl) Tryz.underlying9 (by intro k h;cases h) hb1 (fun w' hw'=>AppX.text _ w' s) (by omega) (fun v2 L2 hB2 hG2 hS2=> ?_)
 have lk2:Sx.look L2 b=some (.cells #[vp b 0,v] 236 (0,0)):=hG2.look b _ hsl lk1
 have st2:zz_ (some (false,1)) (some (.cells #[vp b 0,v] 236 (0,0))) 1 v2=some (.cells #[vp b 0,v2] 236 (0,0)):=abz_ _ _ _ _ hB2.cell
 refine ko (And.intro @j4_ (And.intro @lk2 (And.intro @st2 (@xp_)))) ?_
 first|with_reducible refine ks [] @j4_ ?_|refine kp @j4_ ?_
 refine⟨_,(ke @j4_), ?_⟩
 have ex:=kx.grew hG2
 have hs2:slB v2≠some b:=by
  rcases hS2 with h| ⟨c',h,ha⟩
  ·rw[h];exact hsl
  ·rw[h]
   intro e
   cases e
   exact Nat.lt_irrefl _ (zi_ ha (ze_ lk1))
 refine⟨ex.setB,rfl,vp b 0,v2,zW_ lk2, .inr rfl, ?_,hs2⟩
 rw[List.length_append,List.map_append]
 exact hB2.setO hs2
theorem Vc_ (b:Nat) (X:za_) (l:List UInt8) (w:World) (hB:BldAt b l X) (hX: ∀p,p∈X→w.heap[p.1]? =some p.2) (hn: (keys X).Nodup) (hl:l.length<34359738368):
  Rets Tryz.prog 192 #[vp b 0] w (XS w X (fun v _D=>v=vs l)):=by
 obtain⟨p,v,hlk,hp,hb,hsl⟩:=hB
 have rd1:=zb_ (w0:=w) hlk
 refine Rets.enterX Tryz.func192 rfl (rs:= [.tmp 2]) Tryz.results192 Tryz.ntmps192 hX hn ?_
 refine kf ?_
 first|with_reducible refine ks [] @j4_ ?_|refine kp @j4_ ?_
 refine Cw.regionS [b] [0,1,2,5,6,7,3,8,9,4,10,11] [] (by kernel_rfl) (by kernel_rfl) (by kernel_rfl) ?_
 simp only[zI_, ↓zr_, ↓zk_, ↓z0_, ↓zZ_,zl_]
 refine Ow.goQ ?_
 simp(disch:=(first|assumption|omega| (simp only[qP_,qM_,UInt64.reduceToNat];try omega))) only[↓Sx.S0,Sx.S1,Tryz.fx,j4_,Nat.reduceAdd,Nat.reducePow,Int.reducePow,Nat.reduceBEq, ↓reduceIte,UInt8.reduceToNat,UInt16.reduceToNat,UInt32.reduceToNat,UInt64.reduceToNat,Int.reduceToNat,rd1,hb.len]
 refine Ow.soft rfl rfl rfl ?_
 rcases hb.inv with⟨rfl,h0,-⟩ | ⟨b2,c,rest,rfl,hl2,h1,h3,h4,-⟩
 ·obtain rfl:l= []:=List.eq_nil_of_length_eq_zero h0
  refine Ow.sliceData (v:= .pointer none) rfl rfl (.inl ⟨0,0,rfl,rfl⟩) ?_
  with_reducible refine Ow.nil ?_
  refine⟨by intro b hb;simp only[List.mem_cons,List.not_mem_nil,or_false] at hb;(try subst hb);rfl, ?_⟩
  refine Ow.soft rfl rfl rfl ?_
  refine Ow.unsafeStringNil rfl rfl rfl rfl ?_
  with_reducible refine Ow.nil ?_
  refine⟨by intro b hb;simp only[List.mem_cons,List.not_mem_nil,or_false] at hb;(try subst hb);rfl, ?_⟩
  refine kq @j4_ ?_
  try with_reducible refine Ow.nil ?_
  first|with_reducible refine ks [] @j4_ ?_|refine kp @j4_ ?_
  refine⟨_,(ke @j4_), ?_⟩
  exact⟨Ext.refl _ _,rfl⟩
 ·refine Ow.sliceData (v:=vp b2 0) rfl rfl (.inr ⟨b2,_,c,rfl,by omega,rfl⟩) ?_
  with_reducible refine Ow.nil ?_
  refine⟨by intro b hb;simp only[List.mem_cons,List.not_mem_nil,or_false] at hb;(try subst hb);rfl, ?_⟩
  by_cases h0:l.length=0
  ·obtain rfl:l= []:=List.eq_nil_of_length_eq_zero h0
   refine Ow.soft rfl rfl rfl ?_
   refine Ow.unsafeStringNil rfl rfl rfl rfl ?_
   with_reducible refine Ow.nil ?_
   refine⟨by intro b hb;simp only[List.mem_cons,List.not_mem_nil,or_false] at hb;(try subst hb);rfl, ?_⟩
   refine kq @j4_ ?_
   try with_reducible refine Ow.nil ?_
   first|with_reducible refine ks [] @j4_ ?_|refine kp @j4_ ?_
   refine⟨_,(ke @j4_), ?_⟩
   exact⟨Ext.refl _ _,rfl⟩
  ·refine Ow.soft rfl rfl rfl ?_
   refine Ow.unsafeString rfl rfl rfl rfl hl2 (by omega) (by omega) Tryz.underlying341 (by kernel_rfl) (of_decide_eq_true (by kernel_rfl)) ?_
   with_reducible refine Ow.nil ?_
   refine⟨by intro b hb;simp only[List.mem_cons,List.not_mem_nil,or_false] at hb;(try subst hb);exact jT_ (fun e=>hsl (by rw[←e];rfl)), ?_⟩
   refine kq @j4_ ?_
   try with_reducible refine Ow.nil ?_
   first|with_reducible refine ks [] @j4_ ?_|refine kp @j4_ ?_
   refine⟨_,(ke @j4_), ?_⟩
   exact⟨(Ext.refl _ _).setB,rfl⟩
end Go.Proofs
end
section
open Go Go.Proofs Go.Sx
namespace Go.Proofs
set_option maxRecDepth 10000
set_option maxHeartbeats 1000000
set_option linter.unusedSimpArgs false
theorem nilW (b o:Nat):qy_ Tryz.prog .eql 268 (vp b o) (.pointer none)=some (.bool false):=by
 simp[qy_,eqX,qk_,qp_,Tryz.underlying268,vp]
set_option linter.defProp false
def jX_:=And.intro (@ZM_) (And.intro (@ZG_) (@nilW))
structure WG where
 g:Nat
 D:za_
theorem JH_ (l:List (List UInt8)) (g:Nat) (h:g<l.length): (l.take (g+1)).flatten=(l.take g).flatten++l.getD g []:=by
 rw[List.take_add_one,List.getElem?_eq_getElem h,List.flatten_append,List.getD_eq_getElem?_getD,List.getElem?_eq_getElem h]
 simp
theorem Kr_ (l:List (List UInt8)) (g:Nat): (l.take g).flatten.length≤l.flatten.length:=by
 conv=>rhs;rw[←List.take_append_drop g l,List.flatten_append,List.length_append]
 omega
theorem wi_ (b:Nat) (X:za_) (l:List UInt8) (x:Value) (b2 off:Nat) (ls:List (List UInt8)) (arr:Array Value) (E:TypeId) (fz:Nat×Nat) (w:World) (hB:BldAt b l X) (hX: ∀p,p∈X→w.heap[p.1]? =some p.2) (hn: (keys X).Nodup)
  (hS:StrS w x ls b2 off arr E fz) (hne:0<ls.length→b2∉keys X) (hl:l.length+ls.flatten.length<34359738368) (hls:ls.length<34359738368):
  Rets Tryz.prog 154 #[vp b 0,x] w (XS w X (fun v D=>v= .tuple #[]∧BldAt b (l++ls.flatten) D)):=by
 refine Rets.enterX Tryz.func154 rfl (rs:= []) Tryz.results154 Tryz.ntmps154 hX hn ?_
 refine kf ?_
 ((try with_reducible refine Cw.go [] ?_);(try simp(disch:=(first|assumption|omega| (simp only[qP_,qM_,UInt64.reduceToNat];try omega))) only[↓Sx.S0,Sx.S1,Tryz.fx,jX_,Nat.reduceAdd,Nat.reducePow,Int.reducePow,Nat.reduceBEq, ↓reduceIte,UInt8.reduceToNat,UInt16.reduceToNat,UInt32.reduceToNat,UInt64.reduceToNat,Int.reduceToNat,hS.len]))
 refine Cw.loopG (G:=WG) [11,12,13,5,14,15,16,17,18,19,10] (fun g=> [(10,vi g.g)]) (fun g=>g.D) (fun g=>g.g≤ls.length∧Ext w X g.D∧BldAt b (l++ (ls.take g.g).flatten) g.D) (fun g=>ls.length - g.g) ⟨0,X⟩ rfl rfl ?_ ?_
 ·exact⟨by simp,Ext.refl _ _,by simpa using hB⟩
 intro g j hg
 refine kv ?_
 obtain⟨g,D⟩:=g
 simp only at hg ⊢
 obtain⟨hgL,hE,hBD⟩:=hg
 by_cases hlt:g<ls.length
 ·have hlg:=hS.get g hlt
  have hrd:=hE.old (hS.has (by omega)) (hne (by omega))
  ((try with_reducible refine Cw.go [] ?_);(try simp(disch:=(first|assumption|omega| (simp only[qP_,qM_,UInt64.reduceToNat];try omega))) only[↓Sx.S0,Sx.S1,Tryz.fx,jX_,Nat.reduceAdd,Nat.reducePow,Int.reducePow,Nat.reduceBEq, ↓reduceIte,UInt8.reduceToNat,UInt16.reduceToNat,UInt32.reduceToNat,UInt64.reduceToNat,Int.reduceToNat,Sx.loadV_one,hrd,hlg,hS.idx]))
  have hfl:=JH_ ls g hlt
  have hfle:=Kr_ ls (g+1)
  have hfl2:=congrArg List.length hfl
  rw[List.length_append] at hfl2
  refine Ow.callX (Y:= []) (by simp) rfl rfl Tryz.call208 (fun w' hw' hX hn=>w7_ b D _ (ls.getD g []) w' hBD hX hn (by rw[List.length_append];omega)) (fun v2 D2 hC hS2=> ?_)
  rw[List.append_nil]
  obtain⟨rfl,hB2⟩:=hS2
  refine ko @jX_ ?_
  first|with_reducible refine ks [] @jX_ ?_|refine kp @jX_ ?_
  refine Again.mk (WG.mk (g+1) D2) (by show ls.length - (g+1)<ls.length - g;omega) ⟨by show g+1≤ls.length;omega,hE.came0 hC, ?_⟩ rfl rfl
  show BldAt b (l++ (ls.take (g+1)).flatten) D2
  rw[hfl,←List.append_assoc]
  exact hB2
 ·obtain rfl:g=ls.length:=by omega
  first|with_reducible refine ks [] @jX_ ?_|refine kp @jX_ ?_
  refine⟨_,(ke @jX_), ?_⟩
  rw[List.take_length] at hBD
  exact⟨hE,rfl,hBD⟩
def maxN:Int:=1099511627775
def Zp_ (n:Nat):List UInt8:=if h:n<128 then [UInt8.ofNat n] else UInt8.ofNat (n%128+128)::Zp_ (n / 128)
termination_by n
decreasing_by omega
def jt_ (n:Int):Nat:=(if(if maxN<n then maxN else n)>0 then(if maxN<n then maxN else n) else 0).toNat
def vp_ (l:List Int):List UInt8:=(l.map fun n=>Zp_ (jt_ n)).flatten
theorem JY_ {n:Nat} (h:n<128):Zp_ n= [UInt8.ofNat n]:=by rw[Zp_];simp[h]
theorem abj_ {n:Nat} (h: ¬n<128):Zp_ n=UInt8.ofNat (n%128+128)::Zp_ (n / 128):=by rw[Zp_];simp[h]
theorem Qx_: ∀ (k n:Nat),n<128^k→0<k→(Zp_ n).length≤k
 |0,n,h,h0=>absurd h0 (by omega)
 |k+1,n,h,_=>by
  by_cases hn:n<128
  ·rw[JY_ hn];simp
  ·rw[abj_ hn]
   have hk:0<k:=by
    rcases Nat.eq_zero_or_pos k with rfl|hk
    ·simp at h;omega
    ·exact hk
   have:=Qx_ k (n / 128) (by rw[Nat.pow_succ] at h;omega) hk
   simp only[List.length_cons];omega
theorem VE_ (n:Int):jt_ n<1099511627776:=by unfold jt_ maxN;split<;>split at* <;>omega
theorem zE_ (n:Int): (Zp_ (jt_ n)).length≤6:=Qx_ 6 _ (by have:=VE_ n;omega) (by omega)
theorem akl_: ∀b:BitVec 8,b.toNat<128→(b|||128#8)=b+128#8:=by decide
theorem abs_ (m:Nat):UInt8.ofInt (m:Int)=UInt8.ofNat m:=by
 apply UInt8.toBitVec_inj.1
 apply BitVec.eq_of_toNat_eq
 simp[UInt8.ofInt,UInt8.ofNat]
 omega
theorem aiW_ (m:Nat):UInt8.ofInt ((m:Int)%128) |||128=UInt8.ofNat (m%128+128):=by
 rw[show((m:Int)%128)=((m%128:Nat):Int) by omega,abs_]
 apply UInt8.toBitVec_inj.1
 have h:=akl_ (BitVec.ofNat 8 (m%128)) (by simp[BitVec.toNat_ofNat];omega)
 have h1: (UInt8.ofNat (m%128) |||128).toBitVec=BitVec.ofNat 8 (m%128) |||128#8:=rfl
 rw[h1,h]
 apply BitVec.eq_of_toNat_eq
 simp[UInt8.ofNat]
structure NG where
 m:Nat
 pre:List UInt8
 D:za_
theorem wP_ (b:Nat) (X:za_) (l:List UInt8) (x:Value) (b2 off:Nat) (ls:List Int) (arr:Array Value) (E:TypeId) (fz:Nat×Nat) (w:World) (hB:BldAt b l X) (hX: ∀p,p∈X→w.heap[p.1]? =some p.2) (hn: (keys X).Nodup)
  (hS:OneS vi 0 w x ls b2 off arr E fz) (hne:0<ls.length→b2∉keys X) (hl:l.length+ls.length*6<34359738368):
  Rets Tryz.prog 123 #[vp b 0,x] w (XS w X (fun v D=>v= .tuple #[]∧BldAt b (l++vp_ ls) D)):=by
 refine Rets.enterX Tryz.func123 rfl (rs:= []) Tryz.results123 Tryz.ntmps123 hX hn ?_
 refine kf ?_
 ((try with_reducible refine Cw.go [] ?_);(try simp(disch:=(first|assumption|omega| (simp only[qP_,qM_,UInt64.reduceToNat];try omega))) only[↓Sx.S0,Sx.S1,Tryz.fx,jX_,Nat.reduceAdd,Nat.reducePow,Int.reducePow,Nat.reduceBEq, ↓reduceIte,UInt8.reduceToNat,UInt16.reduceToNat,UInt32.reduceToNat,UInt64.reduceToNat,Int.reduceToNat,hS.len]))
 refine Cw.loopG (G:=WG) [11,12,13,5,14,15,16,17,18,21,22,23,24,25,26,27,28,19,20,29,30,31,32,33,34,35,10] (fun g=> [(10,vi g.g)]) (fun g=>g.D) (fun g=>g.g≤ls.length∧Ext w X g.D∧BldAt b (l++vp_ (ls.take g.g)) g.D) (fun g=>ls.length - g.g) ⟨0,X⟩ rfl rfl ?_ ?_
 ·exact⟨by simp,Ext.refl _ _,by simpa [vp_] using hB⟩
 intro g j hg
 refine kv ?_
 obtain⟨g,D⟩:=g
 simp only at hg ⊢
 obtain⟨hgL,hE,hBD⟩:=hg
 by_cases hlt:g<ls.length
 ·have hlg:=hS.get g hlt
  have hrd:=hE.old (hS.has (by omega)) (hne (by omega))
  ((try with_reducible refine Cw.go [] ?_);(try simp(disch:=(first|assumption|omega| (simp only[qP_,qM_,UInt64.reduceToNat];try omega))) only[↓Sx.S0,Sx.S1,Tryz.fx,jX_,Nat.reduceAdd,Nat.reducePow,Int.reducePow,Nat.reduceBEq, ↓reduceIte,UInt8.reduceToNat,UInt16.reduceToNat,UInt32.reduceToNat,UInt64.reduceToNat,Int.reduceToNat,Sx.loadV_one,hrd,hlg,hS.idx]))
  refine Ow.minI rfl rfl rfl ?_
  refine Ow.maxI rfl rfl rfl ?_
  have hcl: (if(if maxN<ls.getD g 0 then maxN else ls.getD g 0)>0 then(if maxN<ls.getD g 0 then maxN else ls.getD g 0) else 0)=(jt_ (ls.getD g 0):Int):=by
   unfold jt_;omega
  have hcl': (if(if 1099511627775<ls.getD g 0 then 1099511627775 else ls.getD g 0)>0 then(if 1099511627775<ls.getD g 0 then 1099511627775 else ls.getD g 0) else 0)=(jt_ (ls.getD g 0):Int):=hcl
  rw[hcl']
  have hcb:=VE_ (ls.getD g 0)
  have hpl: (vp_ (ls.take g)).length≤g*6:=by
   unfold vp_
   rw[List.length_flatten,List.map_map]
   have: ∀ (q:List Int),(q.map (List.length∘fun n=>Zp_ (jt_ n))).sum≤q.length*6:=by
    intro q
    induction q with
    |nil=>simp
    |cons y r ih=>have:=zE_ y;simp only[List.map_cons,List.sum_cons,List.length_cons,Function.comp];omega
   have h2:=this (ls.take g)
   rw[List.length_take] at h2
   have:min g ls.length*6≤g*6:=Nat.mul_le_mul_right _ (Nat.min_le_left _ _)
   omega
  have hnl:=zE_ (ls.getD g 0)
  have hsucc:vp_ (ls.take (g+1))=vp_ (ls.take g)++Zp_ (jt_ (ls.getD g 0)):=by
   unfold vp_
   rw[List.take_succ_eq_append_getElem hlt,List.map_append,List.flatten_append,List.getD_eq_getElem?_getD,List.getElem?_eq_getElem hlt]
   simp only[List.map_cons,List.map_nil,List.flatten_cons,List.flatten_nil,List.append_nil,Option.getD_some]
  generalize jt_ (ls.getD g 0)=m0 at*
  refine ko @jX_ ?_
  first|with_reducible refine ks [] @jX_ ?_|refine kp @jX_ ?_
  refine Cw.loopG (G:=NG) [17,18,21,22,23,24,25,26,27,28,19,20,5] (fun q=> [(5,vi q.m)]) (fun q=>q.D) (fun q=>q.m≤m0∧Ext w X q.D∧Zp_ m0=q.pre++Zp_ q.m∧BldAt b (l++vp_ (ls.take g)++q.pre) q.D) (fun q=>q.m) ⟨m0,[],D⟩ rfl rfl ?_ ?_
  ·exact⟨Nat.le_refl _,hE,rfl,by rwa [List.append_nil]⟩
  intro q jq hq
  refine kv ?_
  obtain⟨m,pre,D1⟩:=q
  simp only at hq ⊢
  obtain⟨hqm,hE1,hpre,hB1⟩:=hq
  have hpl2:=congrArg List.length hpre
  rw[List.length_append] at hpl2
  by_cases hm:m<128
  ·first|with_reducible refine ks [] @jX_ ?_|refine kp @jX_ ?_
   rw[JY_ hm] at hpre hpl2
   have hlen: (l++vp_ (ls.take g)++pre).length+1<34359738368:=by
    rw[List.length_append,List.length_append]
    simp only[List.length_cons,List.length_nil] at hpl2
    omega
   refine Ow.callX (Y:= []) (by simp) rfl rfl Tryz.call191 (fun w' hw' hX hn=>vh_ b D1 _ _ w' hB1 hX hn (by omega)) (fun v2 D2 hC hS2=> ?_)
   rw[List.append_nil]
   obtain⟨rfl,hB2⟩:=hS2
   rw[abs_] at hB2
   refine ko @jX_ ?_
   first|with_reducible refine ks [] @jX_ ?_|refine kp @jX_ ?_
   refine Again.mk (WG.mk (g+1) D2) (by show ls.length - (g+1)<ls.length - g;omega) ⟨by show g+1≤ls.length;omega,hE1.came0 hC, ?_⟩ rfl rfl
   show BldAt b (l++vp_ (ls.take (g+1))) D2
   rw[hsucc,hpre,←List.append_assoc,←List.append_assoc]
   exact hB2
  ·first|with_reducible refine ks [] @jX_ ?_|refine kp @jX_ ?_
   rw[abj_ hm] at hpre hpl2
   have hlen: (l++vp_ (ls.take g)++pre).length+1<34359738368:=by
    rw[List.length_append,List.length_append]
    simp only[List.length_cons] at hpl2
    omega
   refine Ow.callX (Y:= []) (by simp) rfl rfl Tryz.call191 (fun w' hw' hX hn=>vh_ b D1 _ _ w' hB1 hX hn (by omega)) (fun v2 D2 hC hS2=> ?_)
   rw[List.append_nil]
   obtain⟨rfl,hB2⟩:=hS2
   rw[aiW_] at hB2
   refine ko @jX_ ?_
   first|with_reducible refine ks [] @jX_ ?_|refine kp @jX_ ?_
   refine Again.mk (NG.mk (m / 128) (pre++ [UInt8.ofNat (m%128+128)]) D2) (by show m / 128<m;omega) ⟨by show m / 128≤m0;omega,hE1.came0 hC, ?_, ?_⟩ rfl rfl
   ·show Zp_ m0=pre++ [UInt8.ofNat (m%128+128)]++Zp_ (m / 128)
    rw[hpre];simp
   ·show BldAt b (l++vp_ (ls.take g)++ (pre++ [UInt8.ofNat (m%128+128)])) D2
    rw[←List.append_assoc]
    exact hB2
 ·obtain rfl:g=ls.length:=by omega
  first|with_reducible refine ks [] @jX_ ?_|refine kp @jX_ ?_
  refine⟨_,(ke @jX_), ?_⟩
  rw[List.take_length] at hBD
  exact⟨hE,rfl,hBD⟩
end Go.Proofs
end
section
open Go Go.Proofs Go.Sx
namespace Go.Proofs
set_option maxRecDepth 10000
set_option maxHeartbeats 1000000
set_option linter.unusedSimpArgs false
set_option linter.defProp false
def jj_:=And.intro (And.intro (@ZM_) (@ZG_)) (And.intro (@nilW) (And.intro (@adr_) (@QS_)))
theorem BldAt.app {b:Nat} {l:List UInt8} {X Y:za_} (h:BldAt b l X):BldAt b l (X++Y):=by
 obtain⟨p,v,h1,h2,h3,h4⟩:=h
 exact⟨p,v,zq_ h1,h2,h3.app,h4⟩
def xa_ (s:List UInt8):List UInt8:=Zp_ (jt_ s.length)++s
def jR_ (ls:List (List UInt8)):List UInt8:=(ls.map xa_).flatten
theorem VK_ (n:Int):vp_ [n]=Zp_ (jt_ n):=by simp[vp_]
theorem aax_ (ls:List (List UInt8)) (g:Nat) (h:g<ls.length):jR_ (ls.take (g+1))=jR_ (ls.take g)++xa_ (ls.getD g []):=by
 unfold jR_
 rw[List.take_succ_eq_append_getElem h,List.map_append,List.flatten_append,List.getD_eq_getElem?_getD,List.getElem?_eq_getElem h]
 simp only[List.map_cons,List.map_nil,List.flatten_cons,List.flatten_nil,List.append_nil,Option.getD_some]
theorem Q4_ (ls:List (List UInt8)) (g:Nat): (jR_ (ls.take g)).length≤ (jR_ ls).length:=by
 conv=>rhs;rw[←List.take_append_drop g ls]
 unfold jR_
 rw[List.map_append,List.flatten_append,List.length_append];omega
theorem wr_ (b:Nat) (X:za_) (l:List UInt8) (x:Value) (b2 off:Nat) (ls:List (List UInt8)) (arr:Array Value) (E:TypeId) (fz:Nat×Nat) (w:World) (hB:BldAt b l X) (hX: ∀p,p∈X→w.heap[p.1]? =some p.2) (hn: (keys X).Nodup)
  (hS:StrS w x ls b2 off arr E fz) (hne:0<ls.length→b2∉keys X) (hl:l.length+ (jR_ ls).length<17179869184) (hls:ls.length<17179869184):
  Rets Tryz.prog 124 #[vp b 0,x] w (XS w X (fun v D=>v= .tuple #[]∧BldAt b (l++jR_ ls) D)):=by
 refine Rets.enterX Tryz.func124 rfl (rs:= []) Tryz.results124 Tryz.ntmps124 hX hn ?_
 refine kf ?_
 ((try with_reducible refine Cw.go [] ?_);(try simp(disch:=(first|assumption|omega| (simp only[qP_,qM_,UInt64.reduceToNat];try omega))) only[↓Sx.S0,Sx.S1,Tryz.fx,jj_,Nat.reduceAdd,Nat.reducePow,Int.reducePow,Nat.reduceBEq, ↓reduceIte,UInt8.reduceToNat,UInt16.reduceToNat,UInt32.reduceToNat,UInt64.reduceToNat,Int.reduceToNat,hS.len]))
 refine Cw.loopG (G:=WG) [9,10,11,5,12,13,14,15,16,17,18,19,20,21,8] (fun g=> [(8,vi g.g)]) (fun g=>g.D) (fun g=>g.g≤ls.length∧Ext w X g.D∧BldAt b (l++jR_ (ls.take g.g)) g.D) (fun g=>ls.length - g.g) ⟨0,X⟩ rfl rfl ?_ ?_
 ·exact⟨by simp,Ext.refl _ _,by simpa [jR_] using hB⟩
 intro g j hg
 refine kv ?_
 obtain⟨g,D⟩:=g
 simp only at hg ⊢
 obtain⟨hgL,hE,hBD⟩:=hg
 by_cases hlt:g<ls.length
 ·have hlg:=hS.get g hlt
  have hrd:=hE.old (hS.has (by omega)) (hne (by omega))
  have hsu:=aax_ ls g hlt
  have hle:=Q4_ ls (g+1)
  have hsl:=congrArg List.length hsu
  rw[List.length_append] at hsl
  have htl: (xa_ (ls.getD g [])).length=(Zp_ (jt_ (ls.getD g []).length)).length+ (ls.getD g []).length:=by unfold xa_;rw[List.length_append]
  ((try with_reducible refine Cw.go [] ?_);(try simp(disch:=(first|assumption|omega| (simp only[qP_,qM_,UInt64.reduceToNat];try omega))) only[↓Sx.S0,Sx.S1,Tryz.fx,jj_,Nat.reduceAdd,Nat.reducePow,Int.reducePow,Nat.reduceBEq, ↓reduceIte,UInt8.reduceToNat,UInt16.reduceToNat,UInt32.reduceToNat,UInt64.reduceToNat,Int.reduceToNat,Sx.loadV_one,hrd,hlg,hS.idx]))
  refine Ow.buildSlice (e:=3) #[vi (ls.getD g []).length] rfl rfl (by kernel_rfl) fun b3 hb3 hw3=> ?_
  refine ko @jj_ ?_
  refine Ow.callX (Y:= [(b3, .cells #[vi (ls.getD g []).length] 3 (0,0))]) (by simp) rfl rfl Tryz.call123 (fun w' hw' hX hn=>wP_ b D _ _ b3 0 [((ls.getD g []).length:Int)] _ _ _ w' hBD hX hn (OneS.lit [((ls.getD g []).length:Int)] rfl rfl (hw'.has _ _ (List.mem_append_right _ List.mem_cons_self))) (fun _ hm=>Nat.lt_irrefl _ (zi_ hb3 hm)) (by rw[List.length_append];simp only[List.length_cons,List.length_nil];omega)) (fun v2 D2 hC hS2=> ?_)
  obtain⟨rfl,hB2⟩:=hS2
  have hE2:=(hE.app (o:= .cells #[vi (ls.getD g []).length] 3 (0,0)) hw3).came hC
  rw[VK_] at hB2
  have hB3:=BldAt.app (Y:= [(b3, .cells #[vi (ls.getD g []).length] 3 (0,0))]) hB2
  generalize D2++ [(b3,Obj.cells #[vi (ls.getD g []).length] 3 (0,0))]=D3 at*
  refine ko @jj_ ?_
  first|with_reducible refine ks [] @jj_ ?_|refine kp @jj_ ?_
  refine Ow.buildSlice (e:=9) #[vs (ls.getD g [])] rfl rfl (by kernel_rfl) fun b4 hb4 hw4=> ?_
  refine ko @jj_ ?_
  refine Ow.callX (Y:= [(b4, .cells #[vs (ls.getD g [])] 9 (0,0))]) (by simp) rfl rfl Tryz.call154 (fun w' hw' hX hn=>wi_ b D3 _ _ b4 0 [ls.getD g []] _ _ _ w' hB3 hX hn (StrS.lit [ls.getD g []] rfl rfl (hw'.has _ _ (List.mem_append_right _ List.mem_cons_self))) (fun _ hm=>Nat.lt_irrefl _ (zi_ hb4 hm)) (by rw[List.length_append,List.length_append];simp only[List.flatten_cons,List.flatten_nil,List.append_nil];omega) (by simp)) (fun v4 D4 hC4 hS4=> ?_)
  obtain⟨rfl,hB4⟩:=hS4
  have hE4:=(hE2.app (o:= .cells #[vs (ls.getD g [])] 9 (0,0)) hw4).came hC4
  have hB5:=BldAt.app (Y:= [(b4, .cells #[vs (ls.getD g [])] 9 (0,0))]) hB4
  generalize D4++ [(b4,Obj.cells #[vs (ls.getD g [])] 9 (0,0))]=D5 at*
  refine ko @jj_ ?_
  first|with_reducible refine ks [] @jj_ ?_|refine kp @jj_ ?_
  refine Again.mk (WG.mk (g+1) D5) (by show ls.length - (g+1)<ls.length - g;omega) ⟨by show g+1≤ls.length;omega,hE4, ?_⟩ rfl rfl
  show BldAt b (l++jR_ (ls.take (g+1))) D5
  rw[hsu]
  simpa [xa_] using hB5
 ·obtain rfl:g=ls.length:=by omega
  first|with_reducible refine ks [] @jj_ ?_|refine kp @jj_ ?_
  refine⟨_,(ke @jj_), ?_⟩
  rw[List.take_length] at hBD
  exact⟨hE,rfl,hBD⟩
structure IdL where
 l:List UInt8
 h:l.length=32
def idLC (x:IdL):List Value:=x.l.map v8
def id0:IdL:=⟨List.replicate 32 0,by simp⟩
theorem agu_ (x:IdL): (idLC x).length=32:=by simp[idLC,x.h]
theorem V4_ (x:IdL): (idLC x).toArray=a8 x.l:=rfl
def idsL (ls:List IdL):List UInt8:=(ls.map IdL.l).flatten
theorem adw_ (ls:List IdL) (g:Nat) (h:g<ls.length):idsL (ls.take (g+1))=idsL (ls.take g)++ (ls.getD g id0).l:=by
 unfold idsL
 rw[List.take_succ_eq_append_getElem h,List.map_append,List.flatten_append,List.getD_eq_getElem?_getD,List.getElem?_eq_getElem h]
 simp only[List.map_cons,List.map_nil,List.flatten_cons,List.flatten_nil,List.append_nil,Option.getD_some]
theorem XN_ (ls:List IdL): (idsL ls).length=32*ls.length:=by
 unfold idsL
 induction ls with
 |nil=>rfl
 |cons x r ih=>rw[List.map_cons,List.flatten_cons,List.length_append,ih,x.h,List.length_cons];omega
theorem aa8_ (b:Nat) (X:za_) (l:List UInt8) (x:Value) (b2 off:Nat) (ls:List IdL) (arr:Array Value) (E:TypeId) (fz:Nat×Nat) (w:World) (hB:BldAt b l X) (hX: ∀p,p∈X→w.heap[p.1]? =some p.2) (hn: (keys X).Nodup)
  (hS:RowS 32 idLC id0 w x ls b2 off arr E fz) (hne:0<ls.length→b2∉keys X) (hl:l.length+32*ls.length<17179869184):
  Rets Tryz.prog 125 #[vp b 0,x] w (XS w X (fun v D=>v= .tuple #[]∧BldAt b (l++idsL ls) D)):=by
 refine Rets.enterX Tryz.func125 rfl (rs:= []) Tryz.results125 Tryz.ntmps125 hX hn ?_
 refine kf ?_
 ((try with_reducible refine Cw.go [] ?_);(try simp(disch:=(first|assumption|omega| (simp only[qP_,qM_,UInt64.reduceToNat];try omega))) only[↓Sx.S0,Sx.S1,Tryz.fx,jj_,Nat.reduceAdd,Nat.reducePow,Int.reducePow,Nat.reduceBEq, ↓reduceIte,UInt8.reduceToNat,UInt16.reduceToNat,UInt32.reduceToNat,UInt64.reduceToNat,Int.reduceToNat,hS.len]))
 refine Cw.loopG (G:=WG) [9,10,11,5,12,13,14,15,16,17,8] (fun g=> [(8,vi g.g)]) (fun g=>g.D) (fun g=>g.g≤ls.length∧Ext w X g.D∧BldAt b (l++idsL (ls.take g.g)) g.D) (fun g=>ls.length - g.g) ⟨0,X⟩ rfl rfl ?_ ?_
 ·exact⟨by simp,Ext.refl _ _,by simpa [idsL] using hB⟩
 intro g j hg
 refine kv ?_
 obtain⟨g,D⟩:=g
 simp only at hg ⊢
 obtain⟨hgL,hE,hBD⟩:=hg
 by_cases hlt:g<ls.length
 ·have hrd:=hE.old (hS.has (by omega)) (hne (by omega))
  have hld:=hS.load agu_ (by omega) hlt
  rw[V4_] at hld
  have hsu:=adw_ ls g hlt
  have hil:=(ls.getD g id0).h
  have hll:=XN_ (ls.take g)
  rw[List.length_take] at hll
  have hmin:min g ls.length≤g:=Nat.min_le_left _ _
  ((try with_reducible refine Cw.go [] ?_);(try simp(disch:=(first|assumption|omega| (simp only[qP_,qM_,UInt64.reduceToNat];try omega))) only[↓Sx.S0,Sx.S1,Tryz.fx,jj_,Nat.reduceAdd,Nat.reducePow,Int.reducePow,Nat.reduceBEq, ↓reduceIte,UInt8.reduceToNat,UInt16.reduceToNat,UInt32.reduceToNat,UInt64.reduceToNat,Int.reduceToNat,hrd,hld,hS.idx]))
  refine Ow.alloc rfl rfl Tryz.zr24 fun b5 hb5 hw5=> ?_
  refine Ow.go rfl ?_
  simp(disch:=(first|assumption|omega| (simp only[qP_,qM_,UInt64.reduceToNat];try omega))) only[↓Sx.S0,Sx.S1,Tryz.fx,jj_,Nat.reduceAdd,Nat.reducePow,Int.reducePow,Nat.reduceBEq, ↓reduceIte,UInt8.reduceToNat,UInt16.reduceToNat,UInt32.reduceToNat,UInt64.reduceToNat,Int.reduceToNat,qs_ hb5,vW_ hb5,xp_]
  have hE5:=hE.app (o:= .cells (a8 (ls.getD g id0).l) 24 (0,0)) hw5
  have hB5:=BldAt.app (Y:= [(b5, .cells (a8 (ls.getD g id0).l) 24 (0,0))]) hBD
  have rd5:zs_ w (D++ [(b5, .cells (a8 (ls.getD g id0).l) 24 (0,0))]) b5=_:=zb_ (qs_ hb5)
  generalize D++ [(b5,Obj.cells (a8 (ls.getD g id0).l) 24 (0,0))]=D5 at*
  first|with_reducible refine ks [] (And.intro @jj_ @rd5) ?_|refine kp (And.intro @jj_ @rd5) ?_
  have e32:List.take 32 (List.drop 0 (ls.getD g id0).l)=(ls.getD g id0).l:=by rw[List.drop_zero,List.take_of_length_le (by omega)]
  rw[e32]
  refine Ow.buildSlice (e:=9) #[vs (ls.getD g id0).l] rfl rfl (by kernel_rfl) fun b6 hb6 hw6=> ?_
  refine ko @jj_ ?_
  refine Ow.callX (Y:= [(b6, .cells #[vs (ls.getD g id0).l] 9 (0,0))]) (by simp) rfl rfl Tryz.call154 (fun w' hw' hX hn=>wi_ b D5 _ _ b6 0 [(ls.getD g id0).l] _ _ _ w' hB5 hX hn (StrS.lit [(ls.getD g id0).l] rfl rfl (hw'.has _ _ (List.mem_append_right _ List.mem_cons_self))) (fun _ hm=>Nat.lt_irrefl _ (zi_ hb6 hm)) (by rw[List.length_append];simp only[List.flatten_cons,List.flatten_nil,List.append_nil];omega) (by simp)) (fun v4 D4 hC4 hS4=> ?_)
  obtain⟨rfl,hB4⟩:=hS4
  have hE4:=(hE5.app (o:= .cells #[vs (ls.getD g id0).l] 9 (0,0)) hw6).came hC4
  have hB6:=BldAt.app (Y:= [(b6, .cells #[vs (ls.getD g id0).l] 9 (0,0))]) hB4
  generalize D4++ [(b6,Obj.cells #[vs (ls.getD g id0).l] 9 (0,0))]=D6 at*
  refine ko @jj_ ?_
  first|with_reducible refine ks [] @jj_ ?_|refine kp @jj_ ?_
  refine Again.mk (WG.mk (g+1) D6) (by show ls.length - (g+1)<ls.length - g;omega) ⟨by show g+1≤ls.length;omega,hE4, ?_⟩ rfl rfl
  show BldAt b (l++idsL (ls.take (g+1))) D6
  rw[hsu]
  simpa using hB6
 ·obtain rfl:g=ls.length:=by omega
  first|with_reducible refine ks [] @jj_ ?_|refine kp @jj_ ?_
  refine⟨_,(ke @jj_), ?_⟩
  rw[List.take_length] at hBD
  exact⟨hE,rfl,hBD⟩
theorem w2_ (b:Nat) (X:za_) (l:List UInt8) (w:World) (hB:BldAt b l X) (hX: ∀p,p∈X→w.heap[p.1]? =some p.2) (hn: (keys X).Nodup) (hl:l.length<34359738368):
  Rets Tryz.prog 126 #[vp b 0] w (XS w X (fun v _=>v=vs l)):=by
 refine Rets.enterX Tryz.func126 rfl (rs:= [.tmp 2]) Tryz.results126 Tryz.ntmps126 hX hn ?_
 refine kf ?_
 first|with_reducible refine ks [] @jj_ ?_|refine kp @jj_ ?_
 refine Ow.callX (Y:= []) (by simp) rfl rfl Tryz.call192 (fun w' hw' hX hn=>Vc_ b X l w' hB hX hn hl) (fun v2 D2 hC hS2=> ?_)
 subst hS2
 rw[List.append_nil]
 refine ko @jj_ ?_
 first|with_reducible refine ks [] @jj_ ?_|refine kp @jj_ ?_
 refine⟨_,(ke @jj_), ?_⟩
 exact⟨(Ext.refl _ _).came0 hC,rfl⟩
end Go.Proofs
end
section
open Go Go.Proofs Go.Sx
namespace Go.Proofs
set_option maxRecDepth 10000
set_option maxHeartbeats 1000000
set_option linter.unusedSimpArgs false
theorem vJ_ (s:List UInt8) (a e:Int) (E:TypeId) (n:Nat):zD_ (some (false,n)) (some (.cells #[vs s,vi a,vi e] E (0,0))) 0=some (vs s):=(rfl)
theorem vV_ (s:List UInt8) (a e:Int) (E:TypeId) (n:Nat):zD_ (some (false,n)) (some (.cells #[vs s,vi a,vi e] E (0,0))) 1=some (vi a):=(rfl)
theorem wj_ (s:List UInt8) (a e:Int) (E:TypeId) (n:Nat):zD_ (some (false,n)) (some (.cells #[vs s,vi a,vi e] E (0,0))) 2=some (vi e):=(rfl)
theorem kw_ (s:List UInt8) (a e x:Int) (E:TypeId):zz_ (some (false,1)) (some (.cells #[vs s,vi a,vi e] E (0,0))) 1 (vi x)=some (.cells #[vs s,vi x,vi e] E (0,0)):=by
 simp[zz_,k3_,vi,Value.cells,Value.oneCell']
theorem kM_ (s:List UInt8) (a e x:Int) (E:TypeId):zz_ (some (false,1)) (some (.cells #[vs s,vi a,vi e] E (0,0))) 2 (vi x)=some (.cells #[vs s,vi a,vi x] E (0,0)):=by
 simp[zz_,k3_,vi,Value.cells,Value.oneCell']
theorem nilR (b o:Nat):qy_ Tryz.prog .eql 140 (vp b o) (.pointer none)=some (.bool false):=by
 simp[qy_,eqX,qk_,qp_,Tryz.underlying140,vp]
theorem adc_:qy_ Tryz.prog .eql 140 (.pointer none) (.pointer none)=some (.bool true):=by
 simp[qy_,eqX,qk_,qp_,Tryz.underlying140]
theorem agb_ (b o:Nat):qy_ Tryz.prog .neq 140 (vp b o) (.pointer none)=some (.bool true):=by
 simp[qy_,eqX,qk_,qp_,Tryz.underlying140,vp]
theorem abY_:qy_ Tryz.prog .neq 140 (.pointer none) (.pointer none)=some (.bool false):=by
 simp[qy_,eqX,qk_,qp_,Tryz.underlying140]
set_option linter.defProp false
def zJ_:=And.intro (And.intro (And.intro (@vJ_) (@vV_)) (And.intro (@wj_) (@kw_))) (And.intro (And.intro (@kM_) (@nilR)) (And.intro (@adc_) (And.intro (@agb_) (@abY_))))
theorem kC_ (b:Nat) (s:List UInt8) (a e:Int) (w:World) (ho:w.heap[b]? =some (.cells #[vs s,vi a,vi e] 314 (0,0))):
  Rets Tryz.prog 218 #[vp b 0] w (fun v D=>v=vi e∧D= []):=by
 refine Rets.enterV Tryz.func218 rfl (rs:= [.tmp 2]) Tryz.results218 Tryz.ntmps218 ?_
 refine kf ?_
 first|with_reducible refine ks [] (And.intro @zJ_ @ho) ?_|refine kp (And.intro @zJ_ @ho) ?_
 refine⟨_,(ke @zJ_),trivial, ?_⟩
 rfl
theorem aba_ (w:World):Rets Tryz.prog 218 #[.pointer none] w (fun v D=>v=vi 3∧D= []):=by
 refine Rets.enterV Tryz.func218 rfl (rs:= [.tmp 2]) Tryz.results218 Tryz.ntmps218 ?_
 refine kf ?_
 first|with_reducible refine ks [] @zJ_ ?_|refine kp @zJ_ ?_
 refine⟨_,(ke @zJ_),trivial, ?_⟩
 rfl
theorem aaX_ (b:Nat) (s:List UInt8) (a e:Int) (w:World) (ho:w.heap[b]? =some (.cells #[vs s,vi a,vi e] 314 (0,0))):
  Rets Tryz.prog 168 #[vp b 0] w (fun v D=>v=vi a∧D= []):=by
 refine Rets.enterV Tryz.func168 rfl (rs:= [.tmp 2]) Tryz.results168 Tryz.ntmps168 ?_
 refine kf ?_
 first|with_reducible refine ks [] (And.intro @zJ_ @ho) ?_|refine kp (And.intro @zJ_ @ho) ?_
 refine⟨_,(ke @zJ_),trivial, ?_⟩
 rfl
theorem adv_ (b:Nat) (s:List UInt8) (a e:Int) (w:World) (ho:w.heap[b]? =some (.cells #[vs s,vi a,vi e] 314 (0,0))):
  Rets Tryz.prog 167 #[vp b 0] w (fun v D=>v=vi (if e≠0 then e else if a<s.length then 5 else 0)∧D= []):=by
 refine Rets.enterV Tryz.func167 rfl (rs:= [.tmp 2]) Tryz.results167 Tryz.ntmps167 ?_
 refine kf ?_
 first|with_reducible refine ks [] @zJ_ ?_|refine kp @zJ_ ?_
 refine Ow.callFV rfl Tryz.call218 (fun w' hw'=>kC_ b s a e w' (by rw[hw'.old b (Array.getElem?_eq_some_iff.1 ho).1 (by simp[keys])];exact ho)) ?_
 refine ko @zJ_ ?_
 first|with_reducible refine ks [] @zJ_ ?_|refine kp @zJ_ ?_
 by_cases he:e=0
 ·first|with_reducible refine ks [] @zJ_ ?_|refine kp @zJ_ ?_
  refine Cw.regionS [b] [0,1,2,4,5,6,3,7,8,9] [] (by kernel_rfl) (by kernel_rfl) (by kernel_rfl) ?_
  simp only[zI_, ↓zr_, ↓zk_, ↓z0_, ↓zZ_,zl_]
  refine kq (And.intro @zJ_ @ho) ?_
  try with_reducible refine Ow.nil ?_
  first|with_reducible refine ks [] @zJ_ ?_|refine kp @zJ_ ?_
  refine cdC.splitp (fun hc=> ?_) (fun hc=> ?_)
  ·first|with_reducible refine ks [] @zJ_ ?_|refine kp @zJ_ ?_
   refine⟨_,(ke @zJ_),trivial, ?_⟩
   simp[hc,he,xq_]
  ·first|with_reducible refine ks [] @zJ_ ?_|refine kp @zJ_ ?_
   refine⟨_,(ke @zJ_),trivial, ?_⟩
   simp[hc,he,xq_]
 ·first|with_reducible refine ks [] @zJ_ ?_|refine kp @zJ_ ?_
  refine⟨_,(ke @zJ_),trivial, ?_⟩
  simp[he,xq_]
theorem jM_ (b:Nat) (s:List UInt8) (a e x y:Int) (w:World) (ho:w.heap[b]? =some (.cells #[vs s,vi a,vi e] 314 (0,0))):
  Rets Tryz.prog 219 #[vp b 0,vi x,vi y] w (fun v D=> ∃o,D= [(b,o)]∧v= .tuple #[]∧o= .cells #[vs s,vi (if e=0 then y else a),vi (if e=0 then x else e)] 314 (0,0)):=by
 refine Rets.enterM Tryz.func219 rfl (rs:= []) Tryz.results219 Tryz.ntmps219 ho ?_
 refine kf ?_
 first|with_reducible refine ks [] @zJ_ ?_|refine kp @zJ_ ?_
 by_cases he:e=0
 ·first|with_reducible refine ks [] @zJ_ ?_|refine kp @zJ_ ?_
  refine⟨_,_,_,(ke @zJ_),rfl,trivial, ?_⟩
  simp[he,xq_]
 ·first|with_reducible refine ks [] @zJ_ ?_|refine kp @zJ_ ?_
  refine⟨_,_,_,(ke @zJ_),rfl,trivial, ?_⟩
  simp[he,xq_]
def w3_ (s:List UInt8) (a:Nat) (e n:Int):List UInt8×Nat×Int:=
 if e≠0 then([],a,e) else if n<0 then([],a,2) else if(s.length:Int) - a<n then([],a,3) else((s.drop a).take n.toNat,a+n.toNat,0)
theorem Vu_ (b:Nat) (s:List UInt8) (a:Nat) (e n:Int) (w:World) (ha:a≤s.length) (hs:s.length<9223372036854775808) (ho:w.heap[b]? =some (.cells #[vs s,vi a,vi e] 314 (0,0))):
  Rets Tryz.prog 234 #[vp b 0,vi n] w (fun v D=> ∃o,D= [(b,o)]∧v=vs (w3_ s a e n).1∧o= .cells #[vs s,vi (w3_ s a e n).2.1,vi (w3_ s a e n).2.2] 314 (0,0)):=by
 refine Rets.enterM Tryz.func234 rfl (rs:= [.tmp 4]) Tryz.results234 Tryz.ntmps234 ho ?_
 refine kf ?_
 first|with_reducible refine ks [] @zJ_ ?_|refine kp @zJ_ ?_
 refine Ow.callFV rfl Tryz.call218 (fun w' hw'=>kC_ b s a e w' (hw'.has _ _ List.mem_cons_self)) ?_
 refine ko @zJ_ ?_
 first|with_reducible refine ks [] @zJ_ ?_|refine kp @zJ_ ?_
 unfold w3_
 by_cases he:e=0
 ·subst he
  rw[if_neg (fun h=>h rfl)]
  first|with_reducible refine ks [] @zJ_ ?_|refine kp @zJ_ ?_
  by_cases hn:n<0
  ·rw[if_pos hn]
   first|with_reducible refine ks [] @zJ_ ?_|refine kp @zJ_ ?_
   refine Ow.callM rfl rfl Tryz.call219 (by simp[keys]) (fun w' hw'=>jM_ b s a 0 2 a w' (hw'.has _ _ List.mem_cons_self)) ?_
   refine ko @zJ_ ?_
   first|with_reducible refine ks [] @zJ_ ?_|refine kp @zJ_ ?_
   refine⟨_,_,_,(ke @zJ_),rfl,trivial, ?_⟩
   exact⟨rfl,rfl⟩
  ·rw[if_neg hn]
   first|with_reducible refine ks [] @zJ_ ?_|refine kp @zJ_ ?_
   refine Cw.regionS [b] [0,1,2,3,6,7,8,4,5,9,10,11,12] [] (by kernel_rfl) (by kernel_rfl) (by kernel_rfl) ?_
   simp only[zI_, ↓zr_, ↓zk_, ↓z0_, ↓zZ_,zl_]
   refine kq @zJ_ ?_
   try with_reducible refine Ow.nil ?_
   first|with_reducible refine ks [] @zJ_ ?_|refine kp @zJ_ ?_
   by_cases hl: (s.length:Int) - a<n
   ·rw[if_pos hl]
    first|with_reducible refine ks [] @zJ_ ?_|refine kp @zJ_ ?_
    refine Ow.callM rfl rfl Tryz.call219 (by simp[keys]) (fun w' hw'=>jM_ b s a 0 3 a w' (hw'.has _ _ List.mem_cons_self)) ?_
    refine ko @zJ_ ?_
    first|with_reducible refine ks [] @zJ_ ?_|refine kp @zJ_ ?_
    refine⟨_,_,_,(ke @zJ_),rfl,trivial, ?_⟩
    exact⟨rfl,rfl⟩
   ·rw[if_neg hl]
    obtain⟨m,rfl⟩: ∃m:Nat,n=(m:Int):=⟨n.toNat,by omega⟩
    first|with_reducible refine ks [] @zJ_ ?_|refine kp @zJ_ ?_
    refine Cw.regionS [b] [0,1,2,4,5,6,8,9,10,12,3,7,11,13,14,15] [] (by kernel_rfl) (by kernel_rfl) (by kernel_rfl) ?_
    simp only[zI_, ↓zr_, ↓zk_, ↓z0_, ↓zZ_,zl_]
    refine kq @zJ_ ?_
    try with_reducible refine Ow.nil ?_
    first|with_reducible refine ks [] @zJ_ ?_|refine kp @zJ_ ?_
    refine⟨_,_,_,(ke @zJ_),rfl,trivial, ?_⟩
    refine⟨?_, ?_⟩
    ·simp only[xq_,Int.toNat_natCast]
     rw[List.drop_take,Nat.add_sub_cancel_left]
    ·rw[Int.toNat_natCast,Int.natCast_add]
 ·rw[if_pos he]
  first|with_reducible refine ks [] @zJ_ ?_|refine kp @zJ_ ?_
  refine⟨_,_,_,(ke @zJ_),rfl,trivial, ?_⟩
  exact⟨rfl,rfl⟩
end Go.Proofs
end
section
open Go Go.Proofs Go.Sx
namespace Go.Proofs
set_option maxRecDepth 10000
set_option maxHeartbeats 8000000
set_option linter.unusedSimpArgs false
set_option linter.defProp false
def zA_:=And.intro (And.intro (And.intro (@vJ_) (@vV_)) (And.intro (@wj_) (@kw_))) (And.intro (And.intro (@kM_) (@nilR)) (And.intro (@adc_) (And.intro (@agb_) (@abY_))))
def jd_ (most:Int):List UInt8→Nat→Nat→Except Nat (Nat×Nat)
 | [],_,_=> .error 3
 |c::r,k,n=>
  if 128≤c.toNat then(if k+1=6 then .error 4 else jd_ most r (k+1) (n+c.toNat%128*128^k))
  else if c.toNat=0∧0<k then .error 2
  else if n+c.toNat%128*128^k≤1099511627775∧((n+c.toNat%128*128^k:Nat):Int)≤most then .ok (n+c.toNat%128*128^k,k+1)
  else .error 4
def qF_ (s:List UInt8) (a:Nat) (e most:Int):Int×Nat×Int:=
 if e≠0 then(0,a,e) else match jd_ most (s.drop a) 0 0 with
  | .ok (n,k)=>(n,a+k,0)
  | .error x=>(0,a,x)
theorem afi_ {s:List UInt8} {a:Nat} {e most:Int} {n k:Nat} (he:e=0) (h:jd_ most (s.drop a) 0 0= .ok (n,k)):qF_ s a e most=((n:Int),a+k,0):=by
 unfold qF_;rw[if_neg (by simp[he]),h]
theorem vM_ {s:List UInt8} {a:Nat} {e most:Int} {x:Nat} (he:e=0) (h:jd_ most (s.drop a) 0 0= .error x):qF_ s a e most=(0,a,(x:Int)):=by
 unfold qF_;rw[if_neg (by simp[he]),h]
structure NumS where
 more:Bool
 k:Nat
 n:Nat
 x:Nat
theorem wU_ (b:Nat) (s:List UInt8) (a:Nat) (e most:Int) (w:World) (ha:a≤s.length) (hs:s.length<9223372036854775808) (ho:w.heap[b]? =some (.cells #[vs s,vi a,vi e] 314 (0,0))):
  Rets Tryz.prog 165 #[vp b 0,vi most] w (fun v D=> ∃o,D= [(b,o)]∧v=vi (qF_ s a e most).1∧o= .cells #[vs s,vi (qF_ s a e most).2.1,vi (qF_ s a e most).2.2] 314 (0,0)):=by
 refine Rets.enterM Tryz.func165 rfl (rs:= [.tmp 4]) Tryz.results165 Tryz.ntmps165 ho ?_
 refine kf ?_
 first|with_reducible refine ks [] @zA_ ?_|refine kp @zA_ ?_
 by_cases he:e=0
 ·subst he
  refine Cw.scopeL (G:=NumS) (fun g=>(if g.more then 1 else 0)) [10,11,12,4,5,6,7,13,14,15,16,8,9,17,18,19,20,21,22,23,24,25,26,27,28,29,30,31,32,33,34,35,36,37,38,39,40,41,42,43,44,45,46,47,48,49,50,51,52,53,54,55,56,57,58,59,60,61,62,63,64,65,66,67,68,69,70,71,72,73] (fun g=>(if g.more then [(5,vi g.n),(6,vi (7*g.k:Nat)),(8,vi 3),(9,vi a)] else [(8,vi g.x),(9,vi a)])) (fun g=> [(b, .cells #[vs s,vi (a+g.k:Nat),vi 0] 314 (0,0))]) (fun g=>a+g.k≤s.length∧(if g.more then jd_ most (s.drop a) 0 0=jd_ most (s.drop (a+g.k)) g.k g.n∧g.n<128^g.k∧g.k<6 else jd_ most (s.drop a) 0 0= .error g.x)) (fun g=>(if g.more then 7 - g.k else 0)) ?_ ?_ ?_
  ·intro g
   obtain⟨m,k,n,x⟩:=g
   cases m<;>rfl
  ·intro g j hg
   obtain⟨m,k,n,x⟩:=g
   obtain⟨hk,hg⟩:=hg
   simp only at hk
   cases m with
   |false=>
    simp only[Bool.false_eq_true, ↓reduceIte] at hg ⊢
    simp only[xS_,QL_,Bool.or_false,Bool.false_or,Bool.or_true,Bool.true_or,Nat.reduceBEq,beq_self_eq_true, ↓reduceIte,Bool.false_eq_true]
    refine kv ?_
    try with_reducible refine q1_ ?_
    first|with_reducible refine ks [] @zA_ ?_|refine kp @zA_ ?_
    refine Ow.callM rfl rfl Tryz.call219 (by simp[keys]) (fun w' hw'=>jM_ b s _ 0 x a w' (hw'.has _ _ List.mem_cons_self)) ?_
    refine ko @zA_ ?_
    first|with_reducible refine ks [] @zA_ ?_|refine kp @zA_ ?_
    rw[vM_ rfl hg]
    refine⟨_,_,_,(ke @zA_),rfl,trivial, ?_⟩
    simp[xq_]
   |true=>
    simp only[↓reduceIte] at hg ⊢
    obtain⟨hgo,hn,hk6⟩:=hg
    simp only[xS_,QL_,Bool.or_false,Bool.false_or,Bool.or_true,Bool.true_or,Nat.reduceBEq,beq_self_eq_true, ↓reduceIte,Bool.false_eq_true]
    refine kv ?_
    try with_reducible refine q1_ ?_
    first|with_reducible refine ks [] @zA_ ?_|refine kp @zA_ ?_
    refine Cw.regionS [b] [0,1,2,4,5,6,3,7,8,9] [] (by kernel_rfl) (by kernel_rfl) (by kernel_rfl) ?_
    simp only[zI_, ↓zr_, ↓zk_, ↓z0_, ↓zZ_,zl_]
    refine kq @zA_ ?_
    try with_reducible refine Ow.nil ?_
    by_cases hend:a+k=s.length
    ·first|with_reducible refine ks [] @zA_ ?_|refine kp @zA_ ?_
     refine Jump.mk (NumS.mk false k n 3) rfl (by show 0<7 - k;omega) ⟨hk, ?_⟩ rfl rfl
     show jd_ most (s.drop a) 0 0= .error 3
     rw[hgo,hend,List.drop_length];rfl
    ·first|with_reducible refine ks [] @zA_ ?_|refine kp @zA_ ?_
     have hak:a+k<s.length:=by omega
     have hdrop:s.drop (a+k)=s.getD (a+k) 0::s.drop (a+k+1):=by
      rw[List.drop_eq_getElem_cons hak,List.getD_eq_getElem?_getD,List.getElem?_eq_getElem hak];rfl
     rw[hdrop] at hgo
     refine Cw.regionS [b] [0,1,2,4,5,6,3,7,8,9] [] (by kernel_rfl) (by kernel_rfl) (by kernel_rfl) ?_
     simp only[zI_, ↓zr_, ↓zk_, ↓z0_, ↓zZ_,zl_]
     refine kq @zA_ ?_
     try with_reducible refine Ow.nil ?_
     generalize s.getD (a+k) 0=c at*
     have hp:128^k≤34359738368:=Nat.pow_le_pow_right (by omega) (show k≤5 by omega)
     have hp0:0<128^k:=Nat.pow_pos (by omega)
     have hd: (c%128).toNat=c.toNat%128:=by simp
     have hcl:=c.toNat_lt
     have hdm:c.toNat%128*128^k≤127*128^k:=Nat.mul_le_mul_right _ (by omega)
     have hshl:zn_ .shl (vi ((c.toNat%128:Nat):Int)) (vi ((7*k:Nat):Int))=some (vi ((c.toNat%128*128^k:Nat):Int)):=by
      have h2: (2:Int)^ (7*k)=((128^k:Nat):Int):=by
       rw[Int.pow_mul];push_cast;rfl
      have:=adS_ ((c.toNat%128:Nat):Int) .i64 (7*k) (by rw[h2];refine⟨by omega,by omega, ?_⟩;rw[←Int.natCast_mul];omega)
      rw[h2,←Int.natCast_mul] at this
      exact this
     have hor:zn_ .or (vi (n:Int)) (vi ((c.toNat%128*128^k:Nat):Int))=some (vi ((n+c.toNat%128*128^k:Nat):Int)):=by
      have:=or_i (n:Int) ((c.toNat%128*128^k:Nat):Int) ⟨by omega,by omega,by omega,by omega⟩
      rw[this]
      congr 3
      rw[Int.toNat_natCast,Int.toNat_natCast,show 128^k=2^ (7*k) by rw[Nat.pow_mul],Nat.mul_comm,Nat.or_comm,←Nat.two_pow_add_eq_or_of_lt (by rw[Nat.pow_mul];exact hn),Nat.add_comm]
     have hlt:n+c.toNat%128*128^k<128^ (k+1):=by rw[Nat.pow_succ];omega
     have hrem:zn_ .rem (v8 c) (v8 128)=some (v8 (c%128)):=Xi_ _ _ (by decide)
     first|with_reducible refine ks [] (And.intro @zA_ (And.intro @hrem (And.intro @hd (And.intro @hshl (@hor))))) ?_|refine kp (And.intro @zA_ (And.intro @hrem (And.intro @hd (And.intro @hshl (@hor))))) ?_
     have hle:decide ((128:UInt8)≤c)=decide (128≤c.toNat):=by simp[UInt8.le_iff_toNat_le]
     cases h128:decide ((128:UInt8)≤c)
     ·rw[h128] at hle
      have hc128: ¬128≤c.toNat:=of_decide_eq_false hle.symm
      cases hz: (c==0)
      ·have hc0: ¬ (c.toNat=0∧0<k):=by
        rintro⟨h0,-⟩
        have:c=0:=UInt8.toNat_inj.1 h0
        rw[this] at hz
        exact absurd hz (by decide)
       first|with_reducible refine ks [] (And.intro @zA_ @hz) ?_|refine kp (And.intro @zA_ @hz) ?_
       by_cases hm:n+c.toNat%128*128^k≤1099511627775
       ·have e1:decide (((n+c.toNat%128*128^k:Nat):Int)≤1099511627775)=true:=decide_eq_true (by omega)
        first|with_reducible refine ks [] (And.intro @zA_ @e1) ?_|refine kp (And.intro @zA_ @e1) ?_
        by_cases hmo: ((n+c.toNat%128*128^k:Nat):Int)≤most
        ·first|with_reducible refine ks [] @zA_ ?_|refine kp @zA_ ?_
         rw[afi_ rfl (by rw[hgo,jd_,if_neg hc128,if_neg hc0,if_pos ⟨hm,hmo⟩])]
         refine⟨_,_,_,(ke @zA_),rfl,trivial, ?_⟩
         exact⟨rfl,rfl⟩
        ·first|with_reducible refine ks [] @zA_ ?_|refine kp @zA_ ?_
         refine Ow.callM rfl rfl Tryz.call219 (by simp[keys]) (fun w' hw'=>jM_ b s _ 0 4 a w' (hw'.has _ _ List.mem_cons_self)) ?_
         refine ko @zA_ ?_
         first|with_reducible refine ks [] @zA_ ?_|refine kp @zA_ ?_
         rw[vM_ (x:=4) rfl (by rw[hgo,jd_,if_neg hc128,if_neg hc0,if_neg (fun h=>hmo h.2)])]
         refine⟨_,_,_,(ke @zA_),rfl,trivial, ?_⟩
         exact⟨rfl,rfl⟩
       ·have e1:decide (((n+c.toNat%128*128^k:Nat):Int)≤1099511627775)=false:=decide_eq_false (by omega)
        first|with_reducible refine ks [] (And.intro @zA_ @e1) ?_|refine kp (And.intro @zA_ @e1) ?_
        refine Ow.callM rfl rfl Tryz.call219 (by simp[keys]) (fun w' hw'=>jM_ b s _ 0 4 a w' (hw'.has _ _ List.mem_cons_self)) ?_
        refine ko @zA_ ?_
        first|with_reducible refine ks [] @zA_ ?_|refine kp @zA_ ?_
        rw[vM_ (x:=4) rfl (by rw[hgo,jd_,if_neg hc128,if_neg hc0,if_neg (fun h=>hm h.1)])]
        refine⟨_,_,_,(ke @zA_),rfl,trivial, ?_⟩
        exact⟨rfl,rfl⟩
      ·have hcz:c=0:=eq_of_beq hz
       have hct:c.toNat=0:=by rw[hcz];rfl
       first|with_reducible refine ks [] (And.intro @zA_ @hz) ?_|refine kp (And.intro @zA_ @hz) ?_
       by_cases hk0:0<k
       ·first|with_reducible refine ks [] @zA_ ?_|refine kp @zA_ ?_
        refine Jump.mk (NumS.mk false (k+1) n 2) rfl (by show 0<7 - k;omega) ⟨by show a+ (k+1)≤s.length;omega, ?_⟩ rfl rfl
        show jd_ most (s.drop a) 0 0= .error 2
        rw[hgo,jd_,if_neg hc128,if_pos ⟨hct,hk0⟩]
       ·have hc0: ¬ (c.toNat=0∧0<k):=fun h=>hk0 h.2
        first|with_reducible refine ks [] @zA_ ?_|refine kp @zA_ ?_
        by_cases hm:n+c.toNat%128*128^k≤1099511627775
        ·have e1:decide (((n+c.toNat%128*128^k:Nat):Int)≤1099511627775)=true:=decide_eq_true (by omega)
         first|with_reducible refine ks [] (And.intro @zA_ @e1) ?_|refine kp (And.intro @zA_ @e1) ?_
         by_cases hmo: ((n+c.toNat%128*128^k:Nat):Int)≤most
         ·first|with_reducible refine ks [] @zA_ ?_|refine kp @zA_ ?_
          rw[afi_ rfl (by rw[hgo,jd_,if_neg hc128,if_neg hc0,if_pos ⟨hm,hmo⟩])]
          refine⟨_,_,_,(ke @zA_),rfl,trivial, ?_⟩
          exact⟨rfl,rfl⟩
         ·first|with_reducible refine ks [] @zA_ ?_|refine kp @zA_ ?_
          refine Ow.callM rfl rfl Tryz.call219 (by simp[keys]) (fun w' hw'=>jM_ b s _ 0 4 a w' (hw'.has _ _ List.mem_cons_self)) ?_
          refine ko @zA_ ?_
          first|with_reducible refine ks [] @zA_ ?_|refine kp @zA_ ?_
          rw[vM_ (x:=4) rfl (by rw[hgo,jd_,if_neg hc128,if_neg hc0,if_neg (fun h=>hmo h.2)])]
          refine⟨_,_,_,(ke @zA_),rfl,trivial, ?_⟩
          exact⟨rfl,rfl⟩
        ·have e1:decide (((n+c.toNat%128*128^k:Nat):Int)≤1099511627775)=false:=decide_eq_false (by omega)
         first|with_reducible refine ks [] (And.intro @zA_ @e1) ?_|refine kp (And.intro @zA_ @e1) ?_
         refine Ow.callM rfl rfl Tryz.call219 (by simp[keys]) (fun w' hw'=>jM_ b s _ 0 4 a w' (hw'.has _ _ List.mem_cons_self)) ?_
         refine ko @zA_ ?_
         first|with_reducible refine ks [] @zA_ ?_|refine kp @zA_ ?_
         rw[vM_ (x:=4) rfl (by rw[hgo,jd_,if_neg hc128,if_neg hc0,if_neg (fun h=>hm h.1)])]
         refine⟨_,_,_,(ke @zA_),rfl,trivial, ?_⟩
         exact⟨rfl,rfl⟩
     ·rw[h128] at hle
      have hc128:128≤c.toNat:=of_decide_eq_true hle.symm
      first|with_reducible refine ks [] @zA_ ?_|refine kp @zA_ ?_
      by_cases hk5:k=5
      ·first|with_reducible refine ks [] @zA_ ?_|refine kp @zA_ ?_
       refine Jump.mk (NumS.mk false (k+1) n 4) rfl (by show 0<7 - k;omega) ⟨by show a+ (k+1)≤s.length;omega, ?_⟩ rfl rfl
       show jd_ most (s.drop a) 0 0= .error 4
       rw[hgo,jd_,if_pos hc128,if_pos (by omega)]
      ·first|with_reducible refine ks [] @zA_ ?_|refine kp @zA_ ?_
       refine Jump.mk (NumS.mk true (k+1) (n+c.toNat%128*128^k) 0) rfl (by show 7 - (k+1)<7 - k;omega) ⟨by show a+ (k+1)≤s.length;omega, ?_⟩ rfl rfl
       show jd_ most (s.drop a) 0 0=jd_ most (s.drop (a+ (k+1))) (k+1) (n+c.toNat%128*128^k)∧n+c.toNat%128*128^k<128^ (k+1)∧k+1<6
       refine⟨?_,hlt,by omega⟩
       rw[hgo,jd_,if_pos hc128,if_neg (by omega)]
       rfl
  ·intro key
   have key0:=fun f'=>key (NumS.mk true 0 0 0) f'
   simp only[xS_,QL_,Bool.or_false,Bool.false_or,Bool.or_true,Bool.true_or,Nat.reduceBEq,beq_self_eq_true, ↓reduceIte,Bool.false_eq_true] at key0
   clear key
   repeat ((try with_reducible refine Cw.go [999999] ?_);(simp(disch:=(first|assumption|omega| (simp only[qP_,qM_,UInt64.reduceToNat];try omega))) only[↓Sx.S0,Sx.S1,Tryz.fx,zA_,Nat.reduceAdd,Nat.reducePow,Int.reducePow,Nat.reduceBEq, ↓reduceIte,UInt8.reduceToNat,UInt16.reduceToNat,UInt32.reduceToNat,UInt64.reduceToNat,Int.reduceToNat]))
   refine Ow.callFV rfl Tryz.call218 (fun w' hw'=>kC_ b s a 0 w' (hw'.has _ _ List.mem_cons_self)) ?_
   refine ko @zA_ ?_
   repeat ((try with_reducible refine Cw.go [999999] ?_);(simp(disch:=(first|assumption|omega| (simp only[qP_,qM_,UInt64.reduceToNat];try omega))) only[↓Sx.S0,Sx.S1,Tryz.fx,zA_,Nat.reduceAdd,Nat.reducePow,Int.reducePow,Nat.reduceBEq, ↓reduceIte,UInt8.reduceToNat,UInt16.reduceToNat,UInt32.reduceToNat,UInt64.reduceToNat,Int.reduceToNat]))
   repeat ((try with_reducible refine Cw.go [999999] ?_);(simp(disch:=(first|assumption|omega| (simp only[qP_,qM_,UInt64.reduceToNat];try omega))) only[↓Sx.S0,Sx.S1,Tryz.fx,zA_,Nat.reduceAdd,Nat.reducePow,Int.reducePow,Nat.reduceBEq, ↓reduceIte,UInt8.reduceToNat,UInt16.reduceToNat,UInt32.reduceToNat,UInt64.reduceToNat,Int.reduceToNat]))
   refine Cw.regionS [b] [0,1,2,4,3,5] [] (by kernel_rfl) (by kernel_rfl) (by kernel_rfl) ?_
   simp only[zI_, ↓zr_, ↓zk_, ↓z0_, ↓zZ_,zl_]
   refine kq @zA_ ?_
   try with_reducible refine Ow.nil ?_
   repeat ((try with_reducible refine Cw.go [999999] ?_);(simp(disch:=(first|assumption|omega| (simp only[qP_,qM_,UInt64.reduceToNat];try omega))) only[↓Sx.S0,Sx.S1,Tryz.fx,zA_,Nat.reduceAdd,Nat.reducePow,Int.reducePow,Nat.reduceBEq, ↓reduceIte,UInt8.reduceToNat,UInt16.reduceToNat,UInt32.reduceToNat,UInt64.reduceToNat,Int.reduceToNat]))
   refine Cw.label ?_
   refine key0 _ ⟨by omega,rfl,by omega,by omega⟩ ?_
   rfl
 ·refine Cw.scopeS ?_
  first|with_reducible refine ks [] @zA_ ?_|refine kp @zA_ ?_
  refine Ow.callFV rfl Tryz.call218 (fun w' hw'=>kC_ b s a e w' (hw'.has _ _ List.mem_cons_self)) ?_
  refine ko @zA_ ?_
  first|with_reducible refine ks [] @zA_ ?_|refine kp @zA_ ?_
  unfold qF_
  refine⟨_,_,_,(ke @zA_),rfl,trivial, ?_⟩
  simp[he,xq_]
end Go.Proofs
end
section
open Go Go.Proofs Go.Sx
namespace Go.Proofs
set_option maxRecDepth 10000
set_option maxHeartbeats 2000000
set_option linter.unusedSimpArgs false
set_option linter.defProp false
def qS_:=And.intro (And.intro (And.intro (@vJ_) (@vV_)) (And.intro (@wj_) (@kw_))) (And.intro (And.intro (@kM_) (@nilR)) (And.intro (@adc_) (And.intro (@agb_) (@abY_))))
theorem XR_ (most:Int): ∀ (l:List UInt8) (k n m k':Nat),jd_ most l k n= .ok (m,k')→k<k'∧k'≤k+l.length
 | [],k,n,m,k',h=>by cases h
 |c::r,k,n,m,k',h=>by
  unfold jd_ at h
  split at h
  ·split at h
   ·cases h
   ·have:=XR_ most r (k+1) _ m k' h
    simp only[List.length_cons];omega
  ·split at h
   ·cases h
   ·split at h
    ·cases h;simp only[List.length_cons];omega
    ·cases h
theorem wD_ {s:List UInt8} {a:Nat} {e most:Int} (ha:a≤s.length):a≤ (qF_ s a e most).2.1∧(qF_ s a e most).2.1≤s.length:=by
 unfold qF_
 split
 ·exact⟨Nat.le_refl _,ha⟩
 ·cases h:jd_ most (s.drop a) 0 0 with
  |error x=>exact⟨Nat.le_refl _,ha⟩
  |ok p=>
   obtain⟨n,k⟩:=p
   have:=XR_ most _ _ _ _ _ h
   rw[List.length_drop] at this
   exact⟨by show a≤a+k;omega,by show a+k≤s.length;omega⟩
theorem Z1_ {s:List UInt8} {a:Nat} {e n:Int} (ha:a≤s.length):a≤ (w3_ s a e n).2.1∧(w3_ s a e n).2.1≤s.length:=by
 unfold w3_
 split
 ·exact⟨Nat.le_refl _,ha⟩
 ·split
  ·exact⟨Nat.le_refl _,ha⟩
  ·split
   ·exact⟨Nat.le_refl _,ha⟩
   ·exact⟨by show a≤a+n.toNat;omega,by show a+n.toNat≤s.length;omega⟩
def z8_ (s:List UInt8) (a:Nat) (e most:Int):List UInt8×Nat×Int:=
 let p:=qF_ s a e most
 let q:=w3_ s p.2.1 p.2.2 p.1
 if q.2.2≠0 then([],a,q.2.2) else q
theorem JQ_ (b:Nat) (s:List UInt8) (a:Nat) (e most:Int) (w:World) (ha:a≤s.length) (hs:s.length<9223372036854775808) (ho:w.heap[b]? =some (.cells #[vs s,vi a,vi e] 314 (0,0))):
  Rets Tryz.prog 202 #[vp b 0,vi most] w (fun v D=> ∃o,D= [(b,o)]∧v=vs (z8_ s a e most).1∧o= .cells #[vs s,vi (z8_ s a e most).2.1,vi (z8_ s a e most).2.2] 314 (0,0)):=by
 refine Rets.enterM Tryz.func202 rfl (rs:= [.tmp 4]) Tryz.results202 Tryz.ntmps202 ho ?_
 refine kf ?_
 first|with_reducible refine ks [] @qS_ ?_|refine kp @qS_ ?_
 refine Ow.callFV rfl Tryz.call168 (fun w' hw'=>aaX_ b s a e w' (hw'.has _ _ List.mem_cons_self)) ?_
 refine ko @qS_ ?_
 first|with_reducible refine ks [] @qS_ ?_|refine kp @qS_ ?_
 have hp:=wD_ (e:=e) (most:=most) ha
 unfold z8_
 refine Ow.callM rfl rfl Tryz.call165 (by simp[keys]) (fun w' hw'=>wU_ b s a e most w' ha hs (hw'.has _ _ List.mem_cons_self)) ?_
 generalize qF_ s a e most=p at*
 obtain⟨n,a1,e1⟩:=p
 simp only at hp ⊢
 refine ko @qS_ ?_
 refine Ow.callM rfl rfl Tryz.call234 (by simp[keys]) (fun w' hw'=>Vu_ b s a1 e1 n w' hp.2 hs (hw'.has _ _ List.mem_cons_self)) ?_
 have hq:=Z1_ (e:=e1) (n:=n) hp.2
 generalize w3_ s a1 e1 n=q at*
 obtain⟨t,a2,e2⟩:=q
 simp only at hq ⊢
 refine ko @qS_ ?_
 first|with_reducible refine ks [] @qS_ ?_|refine kp @qS_ ?_
 by_cases he:e2=0
 ·first|with_reducible refine ks [] @qS_ ?_|refine kp @qS_ ?_
  refine⟨_,_,_,(ke @qS_),rfl,trivial, ?_⟩
  simp[he,xq_]
 ·first|with_reducible refine ks [] @qS_ ?_|refine kp @qS_ ?_
  refine Ow.minI rfl rfl rfl ?_
  have hmin: (if(a:Int)< (a2:Int) then(a:Int) else(a2:Int))=a:=by split<;>omega
  rw[hmin]
  refine ko @qS_ ?_
  first|with_reducible refine ks [] @qS_ ?_|refine kp @qS_ ?_
  refine⟨_,_,_,(ke @qS_),rfl,trivial, ?_⟩
  simp[he,xq_]
def z32:List UInt8:=List.replicate 32 0
def idR (s:List UInt8) (a:Nat) (e:Int):List UInt8×Nat×Int:=
 let q:=w3_ s a e 32
 (if q.1.length=32 then q.1 else z32,q.2)
theorem ag4_ {s:List UInt8} {a:Nat} {e:Int} (_ha:a≤s.length): (w3_ s a e 32).1= []∨(w3_ s a e 32).1.length=32:=by
 unfold w3_
 split
 ·exact .inl rfl
 ·split
  ·exact .inl rfl
  ·split
   ·exact .inl rfl
   ·right
    show((s.drop a).take 32).length=32
    rw[List.length_take,List.length_drop];omega
theorem aiD_ {t:List UInt8} (h:t= []∨t.length=32):k3_ (a8 (List.replicate 32 0)) 0 ((t.take (min t.length 32)).map v8)=a8 (if t.length=32 then t else z32):=by
 rcases h with rfl|h
 ·rfl
 ·rw[if_pos h,h,Nat.min_self,List.take_of_length_le (by omega)]
  have:=we_ (t.map v8) [] ((List.replicate 32 (0:UInt8)).map v8) (by simp[h])
  simp only[List.nil_append,List.length_nil] at this
  show k3_ ((List.replicate 32 (0:UInt8)).map v8).toArray 0 (t.map v8)=(t.map v8).toArray
  rw[this]
  rw[List.drop_eq_nil_of_le (by simp[h]),List.append_nil]
theorem agy_ (b:Nat) (s:List UInt8) (a:Nat) (e:Int) (w:World) (ha:a≤s.length) (hs:s.length<9223372036854775808) (ho:w.heap[b]? =some (.cells #[vs s,vi a,vi e] 314 (0,0))):
  Rets Tryz.prog 203 #[vp b 0] w (fun v D=> ∃o,D= [(b,o)]∧v= .agg (a8 (idR s a e).1)∧o= .cells #[vs s,vi (idR s a e).2.1,vi (idR s a e).2.2] 314 (0,0)):=by
 have hbl:=(Array.getElem?_eq_some_iff.1 ho).1
 have hq:=ag4_ (e:=e) ha
 unfold idR
 refine Rets.enterM Tryz.func203 rfl (rs:= [.cell 2 24]) Tryz.results203 Tryz.ntmps203 ho ?_
 refine kf ?_
 first|with_reducible refine ks [] @qS_ ?_|refine kp @qS_ ?_
 refine Ow.alloc rfl rfl Tryz.zr24 fun b2 hb2 hw2=> ?_
 refine ko @qS_ ?_
 first|with_reducible refine ks [] @qS_ ?_|refine kp @qS_ ?_
 refine Ow.alloc rfl rfl Tryz.zr24 fun b3 hb3 hw3=> ?_
 obtain⟨h13,h23,-⟩:=hb3
 obtain⟨h12,-⟩:=hb2
 refine ko @qS_ ?_
 first|with_reducible refine ks [] @qS_ ?_|refine kp @qS_ ?_
 refine Cw.regionS [] [0,1,2,3] [] (by kernel_rfl) (by kernel_rfl) (by kernel_rfl) ?_
 simp only[zI_, ↓zr_, ↓zk_, ↓z0_, ↓zZ_,zl_]
 refine kq @qS_ ?_
 refine Ow.soft rfl rfl rfl ?_
 refine Ow.callM rfl rfl Tryz.call234 (by simp[keys]) (fun w' hw'=>Vu_ b s a e 32 w' ha hs (hw'.has _ _ List.mem_cons_self)) ?_
 generalize w3_ s a e 32=q at*
 obtain⟨t,a2,e2⟩:=q
 simp only at hq ⊢
 try with_reducible refine Ow.nil ?_
 refine⟨fun b hb=>absurd hb (by simp), ?_⟩
 simp(disch:=omega) only[qC_]
 refine Ow.soft rfl rfl rfl ?_
 refine Ow.copyText (cs:=a8 (List.replicate 32 0)) (E:=24) (e:=5) rfl rfl Tryz.underlying232 Tryz.ag5 rfl rfl (by simp(disch:=omega) only[jn_,zB_]) (by rw[QC_];simp) ?_
 rw[aiD_ hq]
 have hil: (if t.length=32 then t else z32).length=32:=by
  split
  ·assumption
  ·simp[z32]
 generalize (if t.length=32 then t else z32)=id at*
 try with_reducible refine Ow.nil ?_
 refine⟨fun b hb=>absurd hb (by simp), ?_⟩
 simp(disch:=omega) only[qC_,jI_]
 refine kq @qS_ ?_
 try with_reducible refine Ow.nil ?_
 first|with_reducible refine ks [] @qS_ ?_|refine kp @qS_ ?_
 refine⟨_,_,_,(ke @qS_),rfl,⟨hw2,hw3,trivial⟩, ?_⟩
 exact⟨rfl,rfl⟩
theorem KE_ (s:List UInt8) (w:World):
  Rets Tryz.prog 147 #[vs s] w (fun v D=> ∃b,w.heap.size≤b∧v=vp b 0∧D= [(b, .cells #[vs s,vi 0,vi 0] 314 (0,0))]):=by
 refine Rets.enter Tryz.func147 rfl (rs:= [.tmp 2]) Tryz.results147 Tryz.ntmps147 ?_
 refine kf ?_
 first|with_reducible refine ks [] @qS_ ?_|refine kp @qS_ ?_
 refine Ow.build (.agg #[vs s,vi 0,vi 0]) rfl (by kernel_rfl) ?_
 refine ko @qS_ ?_
 refine Ow.box rfl rfl fun b1 hb1 hw1=> ?_
 refine ko @qS_ ?_
 first|with_reducible refine ks [] @qS_ ?_|refine kp @qS_ ?_
 refine⟨_,(by simp only[kZ_,vI_,Zm_,z5_,qe_,k0_];rfl),b1,hw1,rfl, ?_⟩
 rfl
end Go.Proofs
end
section
open Go Go.Proofs Go.Sx
namespace Go.Proofs
set_option maxRecDepth 10000
set_option maxHeartbeats 4000000
set_option linter.unusedSimpArgs false
set_option linter.defProp false
end Go.Proofs
end
section
open Go Go.Proofs Go.Sx
namespace Go.Proofs
set_option maxRecDepth 10000
set_option maxHeartbeats 4000000
set_option linter.unusedSimpArgs false
set_option linter.defProp false
end Go.Proofs
end
section
open Go Go.Proofs Go.Sx Go.StP
namespace Go.Proofs
set_option maxRecDepth 10000
set_option maxHeartbeats 4000000
set_option linter.unusedSimpArgs false
structure EntL where
 name:List UInt8
 kind:Int
 id:IdL
def ent0:EntL:=⟨[],0,id0⟩
set_option linter.defProp false
end Go.Proofs
end
section
open Go Go.Proofs Go.Sx Go.StP
namespace Go.Proofs
set_option maxRecDepth 10000
set_option maxHeartbeats 4000000
set_option linter.unusedSimpArgs false
section
variable {α:Type} {a x m y c:List α} {i k:Nat} {z:α}
end
set_option linter.defProp false
end Go.Proofs
end
section
open Go Go.Proofs Go.Sx Go.StP
namespace Go.Proofs
set_option maxRecDepth 10000
set_option maxHeartbeats 4000000
set_option linter.unusedSimpArgs false
abbrev aiM_ (l:List EntL):Prop:=StP.Sorted EntL.name l
abbrev StE (l l':List EntL):Prop:=StP.St EntL.name l l'
set_option linter.defProp false
end Go.Proofs
end
section
open Go Go.Proofs Go.Sx Go.StP
namespace Go.Proofs
set_option maxRecDepth 10000
set_option maxHeartbeats 4000000
set_option linter.unusedSimpArgs false
set_option linter.defProp false
end Go.Proofs
end
section
open Go Go.Proofs Go.Sx Go.StP
namespace Go.Proofs
set_option maxRecDepth 10000
set_option maxHeartbeats 4000000
set_option linter.unusedSimpArgs false
set_option linter.defProp false
end Go.Proofs
end
section
open Go Go.Proofs Go.Sx Go.StP
namespace Go.Proofs
set_option maxRecDepth 10000
set_option maxHeartbeats 4000000
set_option linter.unusedSimpArgs false
end Go.Proofs
end
section
open Go Go.Proofs Go.Sx Go.StP
namespace Go.Proofs
set_option maxRecDepth 10000
set_option maxHeartbeats 4000000
set_option linter.unusedSimpArgs false
set_option linter.defProp false
end Go.Proofs
end
section
open Go Go.Proofs Go.Sx Go.StP
namespace Go.Proofs
set_option maxRecDepth 10000
set_option maxHeartbeats 4000000
set_option linter.unusedSimpArgs false
set_option linter.defProp false
end Go.Proofs
end
section
open Go Go.Proofs Go.Sx Go.StP
namespace Go.Proofs
set_option maxRecDepth 10000
set_option maxHeartbeats 4000000
set_option linter.unusedSimpArgs false
def SortOf (l Z:List EntL):Prop:=Z.length=l.length∧aiM_ Z∧StE l Z
theorem SortOf.eq {l Z Z':List EntL} (h:SortOf l Z) (h':SortOf l Z'):Z=Z':=StP.St.eq h.2.1 h'.2.1 (h.2.2.symm.trans h'.2.2)
end Go.Proofs
end
section
open Go Go.Proofs Go.Sx
namespace Go.Proofs
set_option maxRecDepth 10000
set_option maxHeartbeats 4000000
set_option linter.unusedSimpArgs false
def badR (c:Int):Bool:=decide (c<33) ||decide (126<c) || (c==47)
def VX_ (b:UInt8):Bool:=decide (b.toNat<33) ||decide (126<b.toNat) || (b.toNat==47)
theorem eqb (a b:Bool):qy_ Tryz.prog .eql 4 (.bool a) (.bool b)=some (.bool (a==b)):=by
 simp[qy_,eqX,qk_,qp_,Tryz.underlying4]
theorem J5_ (a:Value): (#[a]:Array Value)[0]? =some a:=(rfl)
set_option linter.defProp false
def q6_:=And.intro (And.intro (And.intro (@zw_) (And.intro (@qx_) (@qw_))) (And.intro (And.intro (@qu_) (@zv_)) (And.intro (@XT_) (@vn_)))) (And.intro (And.intro (And.intro (@vy_) (@vk_)) (And.intro (@WV_) (@J5_))) (And.intro (And.intro (@Sx.tup3_0) (@Sx.tup3_1)) (And.intro (@Sx.tup3_2) (@eqb))))
theorem ahi_ (l:List UInt8) (i:Nat) (h:i<l.length):badR ((Utf8.decode ⟨l.toArray⟩ i).1:Nat)=VX_ (l.getD i 0)∧(VX_ (l.getD i 0)=false→(Utf8.decode ⟨l.toArray⟩ i).2=1):=by
 obtain⟨h0,h1,h2⟩:=ZK_ l i h
 by_cases hc: (l.getD i 0).toNat<128
 ·rw[h1 hc]
  refine⟨?_,fun _=>rfl⟩
  unfold badR VX_
  congr 1
  ·congr 1
   ·apply decide_eq_decide.2;omega
   ·apply decide_eq_decide.2;omega
  ·rw[Bool.eq_iff_iff,beq_iff_eq,beq_iff_eq];omega
 ·have h2':=h2 (by omega)
  have hb:VX_ (l.getD i 0)=true:=by
   unfold VX_
   rw[decide_eq_true (show 126< (l.getD i 0).toNat by omega)];simp
  rw[hb]
  refine⟨?_,fun h=>by cases h⟩
  unfold badR
  rw[decide_eq_true (show(126:Int)< (((Utf8.decode ⟨l.toArray⟩ i).1:Nat):Int) by omega)];simp
theorem JM_ (s:List UInt8) (k:FuncId) (hk: ∀a w,(callFunc k a).run Tryz.prog w= .ok (.enter k a) w) (hc: ∀c w,Rets Tryz.prog k #[Zg_ c] w (fun v D=>v= .bool (badR c)∧D= [])) (w:World) (hs:s.length<1099511627776):
  Rets Tryz.prog 256 #[vs s, .func (.func k) #[] #[], .bool true] w (fun v D=> ∃n:Int,v=vi n∧(0≤n↔s.any VX_=true)∧D= []):=by
 refine Rets.mono (S:=fun v D=>(∃n:Int,v=vi n∧(0≤n↔s.any VX_=true))∧D= []) ?_ (by rintro v D ⟨⟨n,h1,h2⟩,h3⟩;exact⟨n,h1,h2,h3⟩)
 refine Rets.enterV Tryz.func256 rfl (rs:= [.tmp 6]) Tryz.results256 Tryz.ntmps256 ?_
 refine kf ?_
 first|with_reducible refine ks [] @q6_ ?_|refine kp @q6_ ?_
 refine Ow.rangeText rfl rfl Tryz.underlying9 rfl fun b1 hb1 hw1=> ?_
 refine ko @q6_ ?_
 first|with_reducible refine ks [] @q6_ ?_|refine kp @q6_ ?_
 refine Cw.loopG (G:=Nat) [11,12,13,14,7,8,15,16,17,18,19,20,6] (fun g=> []) (fun g=> [(b1, .stringIter ⟨s.toArray⟩ g)]) (fun g=>g≤s.length∧ ∀i,i<g→VX_ (s.getD i 0)=false) (fun g=>s.length - g) 0 rfl rfl ?_ ?_
 ·exact⟨by omega,fun i hi=>by omega⟩
 intro g j hg
 refine kv ?_
 obtain⟨hgL,hgood⟩:=hg
 by_cases hlt:g<s.length
 ·have hbr:=ahi_ s g hlt
  first|with_reducible refine ks [] @q6_ ?_|refine kp @q6_ ?_
  refine Ow.nextText rfl rfl rfl (zB_ _ _ _) hlt ?_
  rw[qC_]
  generalize hdd:Utf8.decode ⟨s.toArray⟩ g=dd at*
  obtain⟨c,n⟩:=dd
  simp only at hbr ⊢
  refine ko @q6_ ?_
  first|with_reducible refine ks [] @q6_ ?_|refine kp @q6_ ?_
  refine Ow.callFn1 (v:= .bool (badR c)) (k:=k) rfl rfl rfl hk (fun w' hw'=>hc _ w') ?_
  rw[hbr.1]
  refine ko @q6_ ?_
  cases hbb:VX_ (s.getD g 0)
  ·first|with_reducible refine ks [] @q6_ ?_|refine kp @q6_ ?_
   refine Again.mk (g+1) (by omega) ⟨by omega,fun i hi=> ?_⟩ ?_ rfl
   ·by_cases hig:i=g
    ·rw[hig];exact hbb
    ·exact hgood i (by omega)
   ·rw[hbr.2 hbb]
  ·first|with_reducible refine ks [] @q6_ ?_|refine kp @q6_ ?_
   refine⟨_,(ke @q6_),⟨hw1,trivial⟩, ?_⟩
   refine⟨(g:Int),rfl,⟨fun _=> ?_,fun _=>by omega⟩⟩
   rw[List.any_eq_true]
   refine⟨s.getD g 0, ?_,hbb⟩
   rw[List.getD_eq_getElem?_getD,List.getElem?_eq_getElem hlt]
   exact List.getElem_mem hlt
 ·obtain rfl:g=s.length:=by omega
  first|with_reducible refine ks [] @q6_ ?_|refine kp @q6_ ?_
  refine Ow.nextOver rfl rfl rfl (zB_ _ _ _) hlt ?_
  refine ko @q6_ ?_
  first|with_reducible refine ks [] @q6_ ?_|refine kp @q6_ ?_
  refine⟨_,(ke @q6_),⟨hw1,trivial⟩, ?_⟩
  refine⟨-1,rfl,⟨fun h=>by omega,fun h=> ?_⟩⟩
  rw[List.any_eq_true] at h
  obtain⟨x,hx,hxb⟩:=h
  obtain⟨i,hi,rfl⟩:=List.getElem_of_mem hx
  have:=hgood i hi
  rw[List.getD_eq_getElem?_getD,List.getElem?_eq_getElem hi] at this
  exact absurd hxb (by simpa using this)
theorem JA_ (s:List UInt8) (k:FuncId) (hk: ∀a w,(callFunc k a).run Tryz.prog w= .ok (.enter k a) w) (hc: ∀c w,Rets Tryz.prog k #[Zg_ c] w (fun v D=>v= .bool (badR c)∧D= [])) (w:World) (hs:s.length<1099511627776):
  Rets Tryz.prog 223 #[vs s, .func (.func k) #[] #[]] w (fun v D=> ∃n:Int,v=vi n∧(0≤n↔s.any VX_=true)∧D= []):=by
 refine Rets.mono (S:=fun v D=>(∃n:Int,v=vi n∧(0≤n↔s.any VX_=true))∧D= []) ?_ (by rintro v D ⟨⟨n,h1,h2⟩,h3⟩;exact⟨n,h1,h2,h3⟩)
 refine Rets.enterV Tryz.func223 rfl (rs:= [.tmp 4]) Tryz.results223 Tryz.ntmps223 ?_
 refine kf ?_
 first|with_reducible refine ks [] @q6_ ?_|refine kp @q6_ ?_
 refine Ow.callF rfl rfl Tryz.call256 (S:=fun _ v D=> ∃n:Int,v=vi n∧(0≤n↔s.any VX_=true)∧D= []) (fun w' hw'=>JM_ s k hk hc w' hs) ?_
 rintro B v D - - ⟨n,rfl,hn,rfl⟩
 refine⟨_,Mrg.nil, ?_⟩
 refine ko @q6_ ?_
 first|with_reducible refine ks [] @q6_ ?_|refine kp @q6_ ?_
 refine⟨_,(ke @q6_),trivial, ?_⟩
 exact⟨n,rfl,hn⟩
theorem wK_ (s:List UInt8) (k:FuncId) (hk: ∀a w,(callFunc k a).run Tryz.prog w= .ok (.enter k a) w) (hc: ∀c w,Rets Tryz.prog k #[Zg_ c] w (fun v D=>v= .bool (badR c)∧D= [])) (w:World) (hs:s.length<1099511627776):
  Rets Tryz.prog 170 #[vs s, .func (.func k) #[] #[]] w (fun v D=>v= .bool (s.any VX_)∧D= []):=by
 refine Rets.enterV Tryz.func170 rfl (rs:= [.tmp 4]) Tryz.results170 Tryz.ntmps170 ?_
 refine kf ?_
 first|with_reducible refine ks [] @q6_ ?_|refine kp @q6_ ?_
 refine Ow.callF rfl rfl Tryz.call223 (S:=fun _ v D=> ∃n:Int,v=vi n∧(0≤n↔s.any VX_=true)∧D= []) (fun w' hw'=>JA_ s k hk hc w' hs) ?_
 rintro B v D - - ⟨n,rfl,hn,rfl⟩
 refine⟨_,Mrg.nil, ?_⟩
 refine ko @q6_ ?_
 first|with_reducible refine ks [] @q6_ ?_|refine kp @q6_ ?_
 refine⟨_,(ke @q6_),trivial, ?_⟩
 exact congrArg Value.bool (by rw[Bool.eq_iff_iff,decide_eq_true_eq];exact hn)
set_option linter.defProp false
def alH_ (s:List UInt8):Bool:= !(s== [])&&decide (s.length≤32)&& !(s.any VX_)
end Go.Proofs
end
section
open Go Go.Proofs Go.Sx Go.StP
namespace Go.Proofs
set_option maxRecDepth 10000
set_option maxHeartbeats 4000000
set_option linter.unusedSimpArgs false
def al9_ (l:List EntL) (i:Nat):Bool:=
 alH_ (l.getD i ent0).name&& ((l.getD i ent0).kind==1|| (l.getD i ent0).kind==2)&& (i==0||ltB (l.getD (i - 1) ent0).name (l.getD i ent0).name)
def ako_ (l:List EntL):Bool:=decide (l.length≤32)&& (List.range l.length).all (al9_ l)
set_option linter.defProp false
end Go.Proofs
end
section
open Go Go.Proofs Go.Sx Go.StP
namespace Go.Proofs
set_option maxRecDepth 10000
set_option maxHeartbeats 4000000
set_option linter.unusedSimpArgs false
set_option linter.defProp false
end Go.Proofs
end
section
open Go Go.Proofs Go.Sx Go.StP
namespace Go.Proofs
set_option maxRecDepth 10000
set_option maxHeartbeats 4000000
set_option linter.unusedSimpArgs false
instance:DecidableEq IdL:=fun a b=>if h:a.l=b.l then .isTrue (by cases a;cases b;simp only at h;subst h;rfl) else .isFalse (fun e=>h (by rw[e]))
theorem IdL.ext' {a b:IdL} (h:a.l=b.l):a=b:=by cases a;cases b;simp only at h;subst h;rfl
theorem agB_ (x:IdL) (E:TypeId) (fz:Nat×Nat):zD_ (some (true,32)) (some (.cells (a8 x.l) E fz)) 0=some (.agg (a8 x.l)):=QS_ _ E fz 32 x.h
set_option linter.defProp false
end Go.Proofs
end
section
open Go Go.Proofs Go.Sx Go.StP
namespace Go.Proofs
set_option maxRecDepth 100000
set_option maxHeartbeats 400000
set_option linter.unusedSimpArgs false
structure RwL where
 id:IdL
 place:Int
 spot:Int
set_option linter.defProp false
end Go.Proofs
end
section
open Go Go.Proofs Go.Sx Go.StP
namespace Go.Proofs
set_option maxRecDepth 10000
set_option maxHeartbeats 4000000
set_option linter.unusedSimpArgs false
set_option linter.defProp false
end Go.Proofs
end
section
open Go Go.Proofs Go.Sx Go.StP
namespace Go.Proofs
set_option maxRecDepth 10000
set_option maxHeartbeats 4000000
set_option linter.unusedSimpArgs false
abbrev aaW_ (l:List RwL):Prop:=StP.Sorted (fun r:RwL=>r.id.l) l
abbrev ai5_ (l l':List RwL):Prop:=StP.St (fun r:RwL=>r.id.l) l l'
set_option linter.defProp false
end Go.Proofs
end
section
open Go Go.Proofs Go.Sx Go.StP
namespace Go.Proofs
set_option maxRecDepth 10000
set_option maxHeartbeats 4000000
set_option linter.unusedSimpArgs false
set_option linter.defProp false
end Go.Proofs
end
section
open Go Go.Proofs Go.Sx Go.StP
namespace Go.Proofs
set_option maxRecDepth 10000
set_option maxHeartbeats 4000000
set_option linter.unusedSimpArgs false
set_option linter.defProp false
end Go.Proofs
end
section
open Go Go.Proofs Go.Sx Go.StP
namespace Go.Proofs
set_option maxRecDepth 10000
set_option maxHeartbeats 4000000
set_option linter.unusedSimpArgs false
end Go.Proofs
end
section
open Go Go.Proofs Go.Sx Go.StP
namespace Go.Proofs
set_option maxRecDepth 10000
set_option maxHeartbeats 4000000
set_option linter.unusedSimpArgs false
def rws_SortOf (l Z:List RwL):Prop:=Z.length=l.length∧aaW_ Z∧ai5_ l Z
theorem rws_SortOf.eq {l Z Z':List RwL} (h:rws_SortOf l Z) (h':rws_SortOf l Z'):Z=Z':=StP.St.eq h.2.1 h'.2.1 (h.2.2.symm.trans h'.2.2)
end Go.Proofs
end
section
open Go Go.Proofs Go.Sx Go.StP
namespace Go.Proofs
set_option maxRecDepth 10000
set_option maxHeartbeats 1000000
set_option linter.unusedSimpArgs false
set_option linter.defProp false
end Go.Proofs
end
section
open Go Go.Proofs Go.Sx Go.StP
namespace Go.Proofs
set_option maxRecDepth 10000
set_option maxHeartbeats 1000000
set_option linter.unusedSimpArgs false
set_option linter.defProp false
end Go.Proofs
end
section
open Go Go.Proofs Go.Sx Go.StP
namespace Go.Proofs
set_option maxRecDepth 10000
set_option maxHeartbeats 4000000
set_option linter.unusedSimpArgs false
structure ComL where
 tree:IdL
 par:List IdL
 text:List UInt8
def alB_ (l:List IdL) (i:Nat):Bool:= !((l.take i).any fun y=>(l.getD i id0).l==y.l)
def amh_ (c:ComL):Bool:=(decide (c.par.length≤4)&&decide (c.text.length≤64))&& (List.range c.par.length).all (alB_ c.par)
theorem SlV.one {α:Type} {m:Nat} {enc:α→List Value} {z:α} {w:World} {v:Value} {l:List α} (h:SlV m enc z w v l):Value.oneCell' v=true∧v.cells= #[v]:=by
 obtain⟨b,off,c,arr,E,fz,-,-,⟨rfl,-,-⟩ | ⟨rfl,-,-⟩⟩:=h<;>exact⟨rfl,rfl⟩
set_option linter.defProp false
end Go.Proofs
end
section
open Go Go.Proofs Go.Sx Go.StP
namespace Go.Proofs
set_option maxRecDepth 10000
set_option maxHeartbeats 4000000
set_option linter.unusedSimpArgs false
set_option linter.defProp false
end Go.Proofs
end
section
open Go Go.Proofs Go.Sx
namespace Go.Proofs
set_option maxRecDepth 10000
set_option maxHeartbeats 4000000
set_option linter.unusedSimpArgs false
end Go.Proofs
end
section
open Go Go.Proofs Go.Sx Go.StP
namespace Go.Proofs
set_option maxRecDepth 10000
set_option maxHeartbeats 400000
set_option linter.unusedSimpArgs false
set_option linter.defProp false
set_option linter.defProp false
end Go.Proofs
end
section
open Go Go.Proofs Go.Sx Go.StP
namespace Go.Proofs
set_option maxRecDepth 10000
set_option maxHeartbeats 400000
set_option linter.unusedSimpArgs false
instance:DecidableEq EntL:=fun a b=>if h:a.name=b.name∧a.kind=b.kind∧a.id.l=b.id.l then .isTrue (by cases a;cases b;simp only at h;obtain⟨rfl,rfl,h3⟩:=h;rw[IdL.ext' h3]) else .isFalse (fun e=>h (by rw[e];exact⟨rfl,rfl,rfl⟩))
theorem EntL.ext' {a b:EntL} (h: (a.name==b.name&&a.kind==b.kind&&a.id.l==b.id.l)=true):a=b:=by
 simp only[Bool.and_eq_true,beq_iff_eq] at h
 cases a;cases b;simp only at h;obtain⟨⟨rfl,rfl⟩,h3⟩:=h;rw[IdL.ext' h3]
set_option linter.defProp false
end Go.Proofs
end
section
open Go Go.Proofs Go.Sx Go.StP
namespace Go.Proofs
set_option maxRecDepth 10000
set_option maxHeartbeats 400000
set_option linter.unusedSimpArgs false
set_option linter.defProp false
end Go.Proofs
end
section
open Go Go.Proofs Go.Sx Go.StP
namespace Go.Proofs
set_option maxRecDepth 10000
set_option maxHeartbeats 400000
set_option linter.unusedSimpArgs false
def aiQ_ (l:List UInt8):IdL:=if h:l.length=32 then⟨l,h⟩ else id0
theorem ah4_ {s:List UInt8} {a:Nat} {e:Int} (ha:a≤s.length):a≤ (idR s a e).2.1∧(idR s a e).2.1≤s.length:=Z1_ ha
theorem abu_ {s:List UInt8} {a:Nat} {e most:Int} (ha:a≤s.length):a≤ (z8_ s a e most).2.1∧(z8_ s a e most).2.1≤s.length:=by
 have hp:=wD_ (e:=e) (most:=most) ha
 have hq:=Z1_ (e:=(qF_ s a e most).2.2) (n:=(qF_ s a e most).1) hp.2
 unfold z8_
 simp only
 split
 ·exact⟨Nat.le_refl _,ha⟩
 ·exact⟨by omega,hq.2⟩
theorem adP_ (s:List UInt8) (a:Nat) (e most:Int): (z8_ s a e most).1.length≤s.length:=by
 have: ∀ (b:Nat) (e n:Int),(w3_ s b e n).1.length≤s.length:=by
  intro b e n
  unfold w3_
  split
  ·simp
  ·split
   ·simp
   ·split
    ·simp
    ·simp only[List.length_take,List.length_drop];omega
 unfold z8_
 simp only
 split
 ·simp
 ·exact this _ _ _
theorem aia_ {s:List UInt8} {a:Nat} {e n:Int} (he:e≠0): (w3_ s a e n).2=(a,e):=by unfold w3_;rw[if_pos he]
theorem akV_ {s:List UInt8} {a:Nat} {e most:Int} (he:e≠0): (qF_ s a e most).2=(a,e):=by unfold qF_;rw[if_pos he]
theorem aju_ {s:List UInt8} {a:Nat} {e most:Int} (he:e≠0): (z8_ s a e most).2=(a,e):=by
 unfold z8_
 simp only[akV_ he,aia_ he]
 rw[if_pos he]
theorem alF_ {s:List UInt8} {a:Nat} {e:Int} (he:e≠0): (idR s a e).2=(a,e):=by unfold idR;simp only[aia_ he]
theorem ae3_ {s:List UInt8} {a:Nat} {e n:Int} (h:e≠5): (w3_ s a e n).2.2≠5:=by
 unfold w3_
 split
 ·exact h
 ·split
  ·show(2:Int)≠5;decide
  ·split
   ·show(3:Int)≠5;decide
   ·show(0:Int)≠5;decide
theorem aiw_ (most:Int): ∀ (l:List UInt8) (k n x:Nat),jd_ most l k n= .error x→x≠5:=by
 intro l
 induction l with
 |nil=>intro k n x h;unfold jd_ at h;cases h;decide
 |cons c r ih=>
  intro k n x h
  unfold jd_ at h
  split at h
  ·split at h
   ·cases h;decide
   ·exact ih _ _ _ h
  ·split at h
   ·cases h;decide
   ·split at h
    ·cases h
    ·cases h;decide
theorem ai8_ (most:Int): ∀ (l:List UInt8) (k n:Nat),jd_ most l k n≠ .error 0:=by
 intro l
 induction l with
 |nil=>intro k n h;unfold jd_ at h;cases h
 |cons c r ih=>
  intro k n h
  unfold jd_ at h
  split at h
  ·split at h
   ·cases h
   ·exact ih _ _ h
  ·split at h
   ·cases h
   ·split at h
    ·cases h
    ·cases h
theorem adD_ {s:List UInt8} {a:Nat} {e most:Int} (h:e≠5): (qF_ s a e most).2.2≠5:=by
 unfold qF_
 split
 ·exact h
 ·split
  ·show(0:Int)≠5;decide
  ·rename_i x hx
   have:=aiw_ _ _ _ _ _ hx
   show((x:Nat):Int)≠5
   omega
theorem aiA_ {s:List UInt8} {a:Nat} {e most:Int} (h:e≠5): (z8_ s a e most).2.2≠5:=by
 unfold z8_
 simp only
 split
 ·exact ae3_ (adD_ h)
 ·exact ae3_ (adD_ h)
theorem alU_ {s:List UInt8} {a:Nat} {e:Int} (h:e≠5): (idR s a e).2.2≠5:=by unfold idR;exact ae3_ h
theorem ai7_ {s:List UInt8} {a:Nat} {e most:Int} (h: (qF_ s a e most).2.2=0):a< (qF_ s a e most).2.1:=by
 unfold qF_ at h ⊢
 split
 ·rename_i he
  rw[if_pos he] at h
  exact absurd h he
 ·rename_i he
  rw[if_neg he] at h
  split
  ·rename_i n k hk
   have:=XR_ _ _ _ _ _ _ hk
   show a<a+k
   omega
  ·rename_i x hx
   rw[hx] at h
   exfalso
   have:x=0:=by have: ((x:Nat):Int)=0:=h;omega
   subst this
   exact ai8_ _ _ _ _ hx
def VZ_ (s:List UInt8) (a:Nat) (e:Int):EntL×Nat×Int:=
 let p:=qF_ s a e 2
 let q:=z8_ s p.2.1 p.2.2 32
 let i:=idR s q.2.1 q.2.2
 (⟨q.1,p.1,aiQ_ i.1⟩,i.2)
theorem ajz_ {s:List UInt8} {a:Nat} {e:Int} (ha:a≤s.length):a≤ (VZ_ s a e).2.1∧(VZ_ s a e).2.1≤s.length:=by
 have h1:=wD_ (e:=e) (most:=2) ha
 have h2:=abu_ (e:=(qF_ s a e 2).2.2) (most:=32) h1.2
 have h3:=ah4_ (e:=(z8_ s (qF_ s a e 2).2.1 (qF_ s a e 2).2.2 32).2.2) h2.2
 unfold VZ_
 exact⟨by simp only;omega,h3.2⟩
theorem akv_ {s:List UInt8} {a:Nat} {e:Int} (h:e≠5): (VZ_ s a e).2.2≠5:=alU_ (aiA_ (adD_ h))
theorem aii_ {s:List UInt8} {a:Nat} {e:Int} (ha:a≤s.length) (h: (VZ_ s a e).2.2=0):a< (VZ_ s a e).2.1:=by
 have h1:=wD_ (e:=e) (most:=2) ha
 have h2:=abu_ (e:=(qF_ s a e 2).2.2) (most:=32) h1.2
 have h3:=ah4_ (e:=(z8_ s (qF_ s a e 2).2.1 (qF_ s a e 2).2.2 32).2.2) h2.2
 unfold VZ_ at h ⊢
 simp only at h ⊢
 have e2: (z8_ s (qF_ s a e 2).2.1 (qF_ s a e 2).2.2 32).2.2=0:=Decidable.byContradiction fun hn=>by rw[alF_ hn] at h;exact hn h
 have e1: (qF_ s a e 2).2.2=0:=Decidable.byContradiction fun hn=>by rw[aju_ hn] at e2;exact hn e2
 have:=ai7_ e1
 omega
def wW_ (s:List UInt8):Nat→Nat→Int→List EntL→List EntL×Nat×Int
 |0,a,e,l=>(l,a,e)
 |n+1,a,e,l=>if e=0∧a<s.length then wW_ s n (VZ_ s a e).2.1 (VZ_ s a e).2.2 (l++ [(VZ_ s a e).1]) else(l,a,e)
theorem ad8_ {s:List UInt8} {n a:Nat} {e:Int} {l:List EntL} (h:e=0∧a<s.length):wW_ s (n+1) a e l=wW_ s n (VZ_ s a e).2.1 (VZ_ s a e).2.2 (l++ [(VZ_ s a e).1]):=by rw[wW_,if_pos h]
theorem acb_ {s:List UInt8} {n a:Nat} {e:Int} {l:List EntL} (h: ¬ (e=0∧a<s.length)):wW_ s n a e l=(l,a,e):=by
 cases n with
 |zero=>rfl
 |succ n=>rw[wW_,if_neg h]
def ad1_ (s:List UInt8):List EntL×Nat×Int:=wW_ s (s.length+1) 0 0 []
structure EntsJ (s:List UInt8) (n a:Nat) (e:Int) (l:List EntL):Prop where
 go:ad1_ s=wW_ s n a e l
 le:a≤s.length
 five:e≠5
 fuel:e=0→s.length<a+n
 cnt:l.length+n=s.length+1
 short: ∀i,i<l.length→(l.getD i ent0).name.length≤s.length
theorem EntsJ.next {s:List UInt8} {n a:Nat} {e:Int} {l:List EntL} (h:EntsJ s n a e l) (hc:e=0∧a<s.length): ∃m,n=m+1∧EntsJ s m (VZ_ s a e).2.1 (VZ_ s a e).2.2 (l++ [(VZ_ s a e).1]):=by
 have:=h.fuel hc.1
 obtain⟨m,rfl⟩: ∃m,n=m+1:=⟨n - 1,by omega⟩
 refine⟨m,rfl,h.go.trans (ad8_ hc),(ajz_ h.le).2,akv_ h.five,fun h0=> ?_, ?_,fun i hi=> ?_⟩
 ·have:=aii_ h.le h0;omega
 ·have:=h.cnt;simp only[List.length_append,List.length_cons,List.length_nil];omega
 ·by_cases hlt:i<l.length
  ·rw[acY_ hlt];exact h.short i hlt
  ·have:i=l.length:=by simp only[List.length_append,List.length_cons,List.length_nil] at hi;omega
   subst this
   rw[acs_ (Nat.le_refl _),Nat.sub_self]
   exact adP_ _ _ _ _
theorem EntsJ.done {s:List UInt8} {n a:Nat} {e:Int} {l:List EntL} (h:EntsJ s n a e l) (hc: ¬ (e=0∧a<s.length)):ad1_ s=(l,a,e):=h.go.trans (acb_ hc)
end Go.Proofs
end
section
open Go Go.Proofs Go.Sx Go.StP
namespace Go.Proofs
set_option maxRecDepth 10000
set_option maxHeartbeats 400000
set_option linter.unusedSimpArgs false
set_option linter.defProp false
end Go.Proofs
end
section
open Go Go.Proofs Go.Sx Go.StP
namespace Go.Proofs
set_option maxRecDepth 10000
set_option maxHeartbeats 400000
set_option linter.unusedSimpArgs false
def akL_ (s:List UInt8) (a:Nat) (e:Int):Nat→List IdL×Nat×Int
 |0=>([],a,e)
 |n+1=>let p:=akL_ s a e n;let i:=idR s p.2.1 p.2.2;(p.1++ [aiQ_ i.1],i.2)
def comN (s:List UInt8):Int×Nat×Int:=qF_ s (idR s 0 0).2.1 (idR s 0 0).2.2 4
def comP (s:List UInt8):List IdL×Nat×Int:=akL_ s (comN s).2.1 (comN s).2.2 (comN s).1.toNat
def comT (s:List UInt8):List UInt8×Nat×Int:=z8_ s (comP s).2.1 (comP s).2.2 64
def comE (s:List UInt8):ComL×Nat×Int:=(⟨aiQ_ (idR s 0 0).1,(comP s).1,(comT s).1⟩,(comT s).2)
def endE (s:List UInt8) (a:Nat) (e:Int):Int:=if e≠0 then e else if(a:Int)< (s.length:Int) then 5 else 0
end Go.Proofs
end
section
open Go Go.Proofs Go.Sx Go.StP
namespace Go.Proofs
set_option maxRecDepth 10000
set_option maxHeartbeats 400000
set_option linter.unusedSimpArgs false
set_option linter.defProp false
end Go.Proofs
end
section
open Go Go.Proofs Go.Sx Go.StP
namespace Go.Proofs
set_option maxRecDepth 10000
set_option maxHeartbeats 400000
set_option linter.unusedSimpArgs false
set_option linter.defProp false
end Go.Proofs
end
section
open Go Go.Proofs Go.Sx Go.StP
namespace Go.Proofs
set_option maxRecDepth 10000
set_option maxHeartbeats 400000
set_option linter.unusedSimpArgs false
set_option linter.defProp false
end Go.Proofs
end
section
open Go Go.Proofs Go.Sx Go.StP
namespace Go.Proofs
set_option maxRecDepth 10000
set_option maxHeartbeats 400000
set_option linter.unusedSimpArgs false
set_option linter.defProp false
def RdOk (k:Int) (t:List UInt8):Bool:=
 if 1≤k∧k≤3∧t.length≤4096 then
  (if k=1 then true else if k=2 then(endE t (ad1_ t).2.1 (ad1_ t).2.2==0&&ako_ (ad1_ t).1) else(endE t (comE t).2.1 (comE t).2.2==0&&amh_ (comE t).1))
 else false
end Go.Proofs
end
section
open Go Go.Proofs Go.Sx Go.StP
namespace Go.Proofs
set_option maxRecDepth 10000
set_option maxHeartbeats 400000
set_option linter.unusedSimpArgs false
set_option linter.defProp false
end Go.Proofs
end
section
open Go Go.Proofs Go.Sx Go.StP
namespace Go.Proofs
set_option maxRecDepth 10000
set_option maxHeartbeats 400000
set_option linter.unusedSimpArgs false
set_option linter.defProp false
theorem Came.newE {w0:World} {L X D:za_} {b:Nat} (hC:Came w0 L X D) (hN:New (b+1) X) (hb:b∈keys L):New (b+1) D:=New.of_le fun c hc=>by
 rcases hC.new c hc with h| ⟨h,-⟩
 ·exact hN.le c h
 ·have:=zi_ h hb;omega
end Go.Proofs
end
section
open Go Go.Proofs Go.Sx Go.StP
namespace Go.Proofs
set_option maxRecDepth 10000
set_option maxHeartbeats 400000
set_option linter.unusedSimpArgs false
set_option linter.defProp false
end Go.Proofs
end
section
open Go Go.Proofs Go.Sx Go.StP
namespace Go.Proofs
set_option maxRecDepth 10000
set_option maxHeartbeats 400000
set_option linter.unusedSimpArgs false
set_option linter.defProp false
end Go.Proofs
end
section
open Go Go.Proofs Go.Sx Go.StP
namespace Go.Proofs
set_option maxRecDepth 10000
set_option maxHeartbeats 400000
set_option linter.unusedSimpArgs false
set_option linter.defProp false
def al4_ (k:Int):List UInt8:=(([32,98,116,99]:List UInt8).take (k+1).toNat).drop k.toNat
def ak7_ (k:Int) (t:List UInt8):List UInt8:=al4_ k++xa_ t
end Go.Proofs
end
section
open Go Go.Proofs Go.Sx Go.StP
namespace Go.Proofs
set_option maxRecDepth 10000
set_option maxHeartbeats 400000
set_option linter.unusedSimpArgs false
set_option linter.defProp false
end Go.Proofs
end
section
open Go Go.Proofs Go.Sx Go.StP
namespace Go.Proofs
set_option maxRecDepth 10000
set_option maxHeartbeats 400000
set_option linter.unusedSimpArgs false
end Go.Proofs
end
section
open Go Go.Proofs Go.Sx Go.StP
namespace Go.Proofs
set_option maxRecDepth 10000
set_option maxHeartbeats 400000
set_option linter.unusedSimpArgs false
def idxT (s:List UInt8):List UInt8→Int
 | []=>0
 |c::_=>Lib.indexByte s c
abbrev letL:List UInt8:= [32,98,116,99]
def frR (s:List UInt8):List UInt8×Nat×Int:=w3_ s 0 0 1
def frT (s:List UInt8):List UInt8×Nat×Int:=z8_ s (frR s).2.1 (frR s).2.2 4096
def frK (s:List UInt8):Int:=idxT letL (frR s).1
def frOk (s:List UInt8):Bool:=endE s (frT s).2.1 (frT s).2.2==0&&RdOk (frK s) (frT s).1
set_option linter.defProp false
end Go.Proofs
end
section
open Go Go.Proofs Go.Sx Go.StP
namespace Go.Proofs
set_option maxRecDepth 10000
set_option maxHeartbeats 400000
set_option linter.unusedSimpArgs false
set_option linter.defProp false
end Go.Proofs
end
namespace Go.Flo
open Go Ieee
abbrev F (n:Int):Nat:=FloatKind.f64.nearest n
def dat (n:Int):Datum:= .number (decide (n<0)) (n.natAbs*2^ (52 - n.natAbs.log2)) ((n.natAbs.log2:Int) - 52)
end Go.Flo
namespace Go.Sx
open Go Go.Flo
def fl (n:Int):Value:= .float .f64 (F n)
def cx (a b:Int):Value:= .complex .f64 (F a) (F b)
section
variable {P:Program} {w0:World} {f:Fr} {L:za_} {N:Fr→za_→Prop} {ops:Array Oper} {rest:List Oper} {md:Md}
 {d:Option Tmp} {ty:TypeId} {ps:String} {af:Array Edge} {g:Option (Nat×Bool)}
theorem Ow.real {x:Operand} {ts:Array TypeId} {a b:Int} (hs:zm_ ops f ⟨d, .call ⟨.builtin .real, #[x],ts⟩,ty,ps,af,g⟩=false) (hx:ev f x=cx a b)
  (hn:Ow P w0 ops md.next rest (qn_ f d (fl a)) L N):Ow P w0 ops md (⟨d, .call ⟨.builtin .real, #[x],ts⟩,ty,ps,af,g⟩::rest) f L N:=by
 refine Ow.calm rfl rfl hs (fun w hw=> .inl ⟨fl a,w,L, ?_,hw,rfl,rfl⟩) hn
 simp only[execOp,resolve,Sem.run_bind,Sem.run_pure,Result.andThen_ok,invoke,builtin,List.map_toArray,List.map_cons,List.map_nil,hx]
 rfl
end
end Go.Sx
namespace Go.Sx
open Go Go.Flo
section
variable {P:Program} {w0:World} {st:Bool} {f:Fr} {L:za_} {md:Md} {d:Option Tmp} {ty:TypeId} {ps:String} {af:Array Edge} {g:Option (Nat×Bool)} {go:Fr→za_→Prop} {stop:Prop}
end
end Go.Sx
section
open Go Go.Proofs Go.Sx Go.StP Go.Flo
namespace Go.Proofs
set_option maxRecDepth 10000
set_option maxHeartbeats 400000
set_option linter.unusedSimpArgs false
structure PcL where
 a:Nat
 n:Nat
 x:List UInt8
def cpV (p:PcL) (b:Int):Option (Nat×Nat):=if 1≤p.n∧p.n≤4099∧p.x= []∧(p.a:Int)≤b - p.n then some (p.a,p.n) else none
def akb_ (p:PcL) (b:Int):Nat:=if p.a=0∧p.n=0∧p.x.length≤4099 then p.x.length else match cpV p b with|some q=>q.2|none=>0
def sumP (b:Int) (l:List PcL):Nat:=(l.map fun p=>akb_ p b).sum
def anyZ (b:Int) (l:List PcL):Bool:=l.any fun p=>akb_ p b==0
def chkV (b:Int) (l:List PcL):Int×Int:=if b<0∨4099<b then(0,1) else if anyZ b l=true then(0,1) else if 4099<sumP b l then(0,19) else((sumP b l:Nat),0)
def pcT (base:List UInt8) (p:PcL):List UInt8:=match cpV p base.length with|some q=>(base.drop q.1).take q.2++p.x|none=>p.x
def txtP (base:List UInt8) (l:List PcL):List UInt8:=(l.map (pcT base)).flatten
def pcR (d:List UInt8) (a:Nat):PcL×Nat×Int:=
 if(qF_ d a 0 8199).1%2=1 then
  (⟨(qF_ d (qF_ d a 0 8199).2.1 (qF_ d a 0 8199).2.2 4099).1.toNat,((qF_ d a 0 8199).1 / 2).toNat,[]⟩,(qF_ d (qF_ d a 0 8199).2.1 (qF_ d a 0 8199).2.2 4099).2)
 else(⟨0,0,(w3_ d (qF_ d a 0 8199).2.1 (qF_ d a 0 8199).2.2 ((qF_ d a 0 8199).1 / 2)).1⟩,(w3_ d (qF_ d a 0 8199).2.1 (qF_ d a 0 8199).2.2 ((qF_ d a 0 8199).1 / 2)).2)
def pcsF (d:List UInt8):Nat→Nat→List PcL×Nat×Int
 |0,a=>([],a,0)
 |k+1,a=>if a<d.length then(if(pcR d a).2.2=0 then((pcR d a).1:: (pcsF d k (pcR d a).2.1).1,(pcsF d k (pcR d a).2.1).2) else([(pcR d a).1],(pcR d a).2)) else([],a,0)
def pcs (d:List UInt8) (a:Nat):List PcL×Nat×Int:=pcsF d (d.length - a) a
def aki_ (d:List UInt8):Option (Nat×List PcL):=
 if(qF_ d (qF_ d 0 0 4099).2.1 (qF_ d 0 0 4099).2.2 4099).2.2≠0 then none
 else if(pcs d (qF_ d (qF_ d 0 0 4099).2.1 (qF_ d 0 0 4099).2.2 4099).2.1).2.2≠0 then none
 else if chkV (qF_ d 0 0 4099).1 (pcs d (qF_ d (qF_ d 0 0 4099).2.1 (qF_ d 0 0 4099).2.2 4099).2.1).1=((qF_ d (qF_ d 0 0 4099).2.1 (qF_ d 0 0 4099).2.2 4099).1,0) then some ((qF_ d 0 0 4099).1.toNat,(pcs d (qF_ d (qF_ d 0 0 4099).2.1 (qF_ d 0 0 4099).2.2 4099).2.1).1)
 else none
def akG_ (base d:List UInt8):List UInt8×Int:=
 match aki_ d with
 |none=>([],2)
 |some p=>if p.1≠base.length then([],19) else(txtP base p.2,0)
end Go.Proofs
end
section
open Go Go.Proofs Go.Sx Go.StP Go.Flo
namespace Go.Proofs
set_option maxRecDepth 10000
set_option maxHeartbeats 400000
set_option linter.unusedSimpArgs false
set_option linter.defProp false
set_option linter.defProp false
end Go.Proofs
end
section
open Go Go.Proofs Go.Sx Go.StP Go.Flo
namespace Go.Proofs
set_option maxRecDepth 10000
set_option maxHeartbeats 400000
set_option linter.unusedSimpArgs false
set_option linter.defProp false
end Go.Proofs
end
namespace Go.Sx
open Go
section
variable {α:Type} {m:Nat} {enc:α→List Value} {z:α}
end
section
variable {P:Program} {w0:World} {f:Fr} {L:za_} {N:Fr→za_→Prop} {ops:Array Oper} {rest:List Oper} {md:Md} {d:Option Tmp} {ty:TypeId} {ps:String} {af:Array Edge} {g:Option (Nat×Bool)}
theorem Ow.makeSlice {t e:TypeId} {m:Bool×Nat} {z:Value} {x y:Operand} {n c:Nat} {md':Md} (he:md.turn=some md') (hs:zm_ ops f ⟨d, .makeSlice t x y,ty,ps,af,g⟩=false)
  (hu:P.underlying t=some (.slice e)) (hm:zL_ P e=some m) (hi:x8_ P e=true) (hz:zY_ P e=some z) (hx:ev f x=vi n) (hy:ev f y=vi c) (hnc:n≤c) (hbig:c≤2^38)
  (hn: ∀b,jr_ L b→w0.heap.size≤b→Ow P w0 ops md' rest (qn_ f d (vsl b 0 n c)) (L++ [(b, .cells (madeCells z.cells (c*m.2)) e (0,0))]) N):
  Ow P w0 ops md (⟨d, .makeSlice t x y,ty,ps,af,g⟩::rest) f L N:=by
 refine Ow.step he rfl hs fun w hw=> .inl ⟨vsl w.heap.size 0 n c,w.alloc (.cells (madeCells z.cells (c*m.2)) e (0,0)),_, ?_,hw.alloc _,hn _ (z2_ fun b hb=>hw.lt hb) hw.size⟩
 obtain⟨i,hie,-,hb⟩:=kO_ hi hbig
 have hiz:i.zero=some z:=by
  unfold zY_ at hz
  rw[hie] at hz
  exact hz
 have him:i.size=m.2:=by
  unfold zL_ at hm
  rw[hie] at hm
  split at hm
  ·rename_i h1 h2
   cases h2
   cases hm
   rfl
  ·cases hm
 have hbb: (i.bytes:Int)* (c:Int)≤281474976710656:=by
  have: ((i.bytes*c:Nat):Int)≤281474976710656:=by rw[Nat.mul_comm];exact Int.ofNat_le.2 hb
  rwa [Int.natCast_mul] at this
 have hr:=run_make (P:=P) w t e i z hu hie hiz .i64 .i64 (n:Int) (c:Int) (by omega) (by omega) hbb (by omega)
 simp only[Int.toNat_natCast,him] at hr
 show(execOp (ev f) _).run P w=_
 simp only[execOp,Sem.run_bind]
 rw[hx,hy]
 show((Instr.makeSlice t (.int .i64 (n:Int)) (.int .i64 (c:Int))).run P w).andThen _=_
 rw[hr]
 rfl
end
theorem New.perm {n:Nat} {D D':za_} (h:New n D) (hp:D.Perm D'):New n D':=New.of_le fun c hc=>h.le c ((hp.map Prod.fst).mem_iff.2 hc)
end Go.Sx
section
open Go Go.Proofs Go.Sx Go.StP Go.Flo
namespace Go.Proofs
set_option maxRecDepth 10000
set_option maxHeartbeats 400000
set_option linter.unusedSimpArgs false
set_option linter.defProp false
end Go.Proofs
end
section
open Go Go.Proofs Go.Sx Go.StP Go.Flo
namespace Go.Proofs
set_option maxRecDepth 10000
set_option maxHeartbeats 400000
set_option linter.unusedSimpArgs false
set_option linter.defProp false
end Go.Proofs
end
section
open Go Go.Proofs Go.Sx Go.StP Go.Flo
namespace Go.Proofs
set_option maxRecDepth 10000
set_option maxHeartbeats 400000
set_option linter.unusedSimpArgs false
structure PartL where
 d:Bool
 b:Int
 x:List UInt8
def KK_:PartL:=⟨false,0,[]⟩
def ah6_ (l:List PartL):Nat→Nat→Except Int (List Nat)
 |0,_=> .error 11
 |k+1,at_=>
  if(l.getD at_ KK_).d=true then
   (if(l.getD at_ KK_).b<0∨(at_:Int)≤ (l.getD at_ KK_).b then .error 2
   else if k=0 then .error 11
   else(ah6_ l k (l.getD at_ KK_).b.toNat).map (at_:: ·))
  else if(l.getD at_ KK_).b≠0 then .error 2 else .ok [at_]
def aml_ (l:List PartL) (at_:Int):Except Int (List Nat):=
 if 200<l.length∨at_<0∨(l.length:Int)≤at_ then .error 1 else ah6_ l 5 at_.toNat
def Qv_ (p:PartL) (base:List UInt8):List UInt8×Int:=if p.d=true then akG_ base p.x else if 4099<p.x.length then([],19) else(p.x,0)
def akW_ (l:List PartL):List Nat→Except Int (List UInt8)
 | []=> .ok []
 |a::p=>(akW_ l p).bind fun s=>if(Qv_ (l.getD a KK_) s).2=0 then .ok (Qv_ (l.getD a KK_) s).1 else .error (Qv_ (l.getD a KK_) s).2
def vA_ (l:List PartL) (at_:Int):Except Int (List UInt8):=(aml_ l at_).bind (akW_ l)
def akC_ (l:List PartL):Nat→Except Int (List (List UInt8))
 |0=> .ok []
 |k+1=>(akC_ l k).bind fun ts=>(vA_ l (k:Nat)).map fun s=>ts++ [s]
def allV (l:List PartL):Except Int (List (List UInt8)):=if 200<l.length then .error 1 else akC_ l l.length
end Go.Proofs
end
section
open Go Go.Proofs Go.Sx Go.StP Go.Flo
namespace Go.Proofs
set_option maxRecDepth 10000
set_option maxHeartbeats 400000
set_option linter.unusedSimpArgs false
set_option linter.defProp false
end Go.Proofs
end
section
open Go Go.Proofs Go.Sx Go.StP Go.Flo
namespace Go.Proofs
set_option maxRecDepth 10000
set_option maxHeartbeats 400000
set_option linter.unusedSimpArgs false
set_option linter.defProp false
end Go.Proofs
end
section
open Go Go.Proofs Go.Sx Go.StP Go.Flo
namespace Go.Proofs
set_option maxRecDepth 10000
set_option maxHeartbeats 400000
set_option linter.unusedSimpArgs false
set_option linter.defProp false
end Go.Proofs
end
section
open Go Go.Proofs Go.Sx Go.StP Go.Flo
namespace Go.Proofs
set_option maxRecDepth 10000
set_option maxHeartbeats 400000
set_option linter.unusedSimpArgs false
def strC (s:List UInt8):List Value:= [vs s]
theorem ahb_ (s:List UInt8): (strC s).length=1:=rfl
set_option linter.defProp false
end Go.Proofs
end
section
open Go Go.Proofs Go.Sx Go.StP
namespace Go.Proofs
set_option maxRecDepth 10000
set_option maxHeartbeats 400000
set_option linter.unusedSimpArgs false
structure ChildL where
 id:IdL
 kind:Int
theorem Gr.rows {α:Type} {L:za_} {E:TypeId} {m:Nat} {v:Value} {enc:α→List Value} {l:List α} (h:Gr L E m v l.length (l.map enc).flatten) (h0:0<l.length): ∃b c rest,v=vsl b 0 l.length c∧Sx.look L b=some (rowO enc E rest l):=by
 rcases h with h| ⟨h,-⟩
 ·rcases h.inv with⟨-,h,-⟩ | ⟨b,c,rest,hv,hl,-⟩
  ·omega
  ·exact⟨b,c,rest,hv,hl⟩
 ·omega
def SepK (b:Nat) (D E:za_):Prop:= ∀c,c∈keys E→b<c∧ ∀d,d∈keys D→d<c
theorem SepK.nil {b:Nat} {D:za_}:SepK b D []:=fun c hc=>by cases hc
theorem SepK.cons {b c:Nat} {o:Obj} {D E:za_} (h:SepK b D E) (h1:b<c) (h2: ∀d,d∈keys D→d<c):SepK b D ((c,o)::E):=fun x hx=>by
 simp only[keys,List.map_cons,List.mem_cons] at hx
 rcases hx with rfl|hx
 ·exact⟨h1,h2⟩
 ·exact h x hx
theorem SepK.app {b:Nat} {D E F:za_} (h:SepK b D E) (h2:SepK b D F):SepK b D (E++F):=fun x hx=>by
 rw[zc_,List.mem_append] at hx
 rcases hx with hx|hx
 ·exact h x hx
 ·exact h2 x hx
theorem SepK.look {b:Nat} {D E:za_} {c:Nat} {o x:Obj} (h:SepK b D E) (hl:Sx.look E c=some o):Sx.look ((b,x):: (D++E)) c=some o:=by
 have:=h c (ze_ hl)
 rw[jn_ _ _ _ _ (by omega),zG_ (fun hm=>by have:=this.2 c hm;omega)]
 exact hl
set_option linter.defProp false
end Go.Proofs
end
section
open Go Go.Proofs Go.Sx Go.StP
namespace Go.Proofs
set_option maxRecDepth 10000
set_option maxHeartbeats 400000
set_option linter.unusedSimpArgs false
set_option linter.defProp false
set_option linter.defProp false
end Go.Proofs
end
namespace Go.Dig
open Go.Sx
def afd_ (b:UInt8):Int:=if 48≤b.toNat∧b.toNat≤57 then(b.toNat:Int) - 48 else if 97≤b.toNat∧b.toNat≤102 then(b.toNat:Int) - 97+10 else -1
def refB (l:List UInt8) (i k:Nat):UInt8:=
 if 2*k+1<i then UInt8.ofInt (afd_ (l.getD (2*k) 0)*16+afd_ (l.getD (2*k+1) 0)) else if 2*k<i then UInt8.ofInt (afd_ (l.getD (2*k) 0)) else 0
def rgt (x:UInt32) (n:UInt64):UInt32:=jb_ x n.toNat|||xi_ x (32 - n).toNat
def S1 (e:UInt32):UInt32:=rgt e 6^^^rgt e 11^^^rgt e 25
def S0 (a:UInt32):UInt32:=rgt a 2^^^rgt a 13^^^rgt a 22
def s1 (y:UInt32):UInt32:=rgt y 17^^^rgt y 19^^^jb_ y 10
def s0 (x:UInt32):UInt32:=rgt x 7^^^rgt x 18^^^jb_ x 3
def kL:List UInt32:= [1116352408,1899447441,3049323471,3921009573,961987163,1508970993,2453635748,2870763221,3624381080,310598401,607225278,1426881987,1925078388,2162078206,2614888103,3248222580,3835390401,4022224774,264347078,604807628,770255983,1249150122,1555081692,1996064986,2554220882,2821834349,2952996808,3210313671,3336571891,3584528711,113926993,338241895,666307205,773529912,1294757372,1396182291,1695183700,1986661051,2177026350,2456956037,2730485921,2820302411,3259730800,3345764771,3516065817,3600352804,4094571909,275423344,430227734,506948616,659060556,883997877,958139571,1322822218,1537002063,1747873779,1955562222,2024104815,2227730452,2361852424,2428436474,2756734187,3204031479,3329325298]
def KW_:List UInt32:= [1779033703,3144134277,1013904242,2773480762,1359893119,2600822924,528734635,1541459225]
def alL_ (b:List UInt8) (i:Nat):UInt32:=
 UInt32.ofNat (b.getD (4*i) 0).toNat*16777216+UInt32.ofNat (b.getD (4*i+1) 0).toNat*65536+UInt32.ofNat (b.getD (4*i+2) 0).toNat*256+UInt32.ofNat (b.getD (4*i+3) 0).toNat
def wPre (b:List UInt8) (i:Nat):List UInt32:=(List.range 64).map fun j=>if j<i then alL_ b j else 0
def al2_ (w:List UInt32) (g:Nat):List UInt32:=w.set g (s1 (w.getD (g - 2) 0)+w.getD (g - 7) 0+s0 (w.getD (g - 15) 0)+w.getD (g - 16) 0)
def wGo (w:List UInt32):Nat→List UInt32
 |0=>w
 |n+1=>al2_ (wGo w n) (16+n)
def wAll (b:List UInt8):List UInt32:=wGo (wPre b 16) 48
def al1_ (s:List UInt32) (k w:UInt32):List UInt32:=
 let t:=s.getD 7 0+S1 (s.getD 4 0)+ (s.getD 4 0&&&s.getD 5 0||| ~~~ s.getD 4 0&&&s.getD 6 0)+k+w
 let u:=S0 (s.getD 0 0)+ (s.getD 0 0&&&s.getD 1 0|||s.getD 0 0&&&s.getD 2 0|||s.getD 1 0&&&s.getD 2 0)
 [t+u,s.getD 0 0,s.getD 1 0,s.getD 2 0,s.getD 3 0+t,s.getD 4 0,s.getD 5 0,s.getD 6 0]
def rGo (st w:List UInt32):Nat→List UInt32
 |0=>st
 |n+1=>al1_ (rGo st w n) (kL.getD n 0) (w.getD n 0)
def afa_ (st s:List UInt32) (i:Nat):List UInt32:=(List.range 8).map fun j=>if j<i then st.getD j 0+s.getD j 0 else st.getD j 0
theorem Kn_ (st s:List UInt32) (i:Nat): (afa_ st s i).length=8:=by simp[afa_]
def comp (st:List UInt32) (b:List UInt8):List UInt32:=afa_ st (rGo st (wAll b) 64) 8
theorem aaP_ (st:List UInt32) (b:List UInt8): (comp st b).length=8:=Kn_ _ _ _
def Xn_ (st:List UInt32) (m:List UInt8):Nat→List UInt32
 |0=>st
 |n+1=>comp (Xn_ st m n) ((m.drop (64*n)).take 64)
theorem Vg_ (st:List UInt32) (m x:List UInt8) (n:Nat) (h:64*n≤m.length):Xn_ st (m++x) n=Xn_ st m n:=by
 induction n with
 |zero=>rfl
 |succ n ih=>
  simp only[Xn_]
  rw[ih (by omega),List.drop_append_of_le_length (by omega),List.take_append_of_le_length (by simp;omega)]
section
variable {bg:Bool} {st:List UInt32} {rest:List UInt8} {many:Int} {taken:UInt64} {E:TypeId}
end
def acc (b:List UInt8) (i:Nat):Nat→UInt32
 |0=>0
 |k+1=>xi_ (acc b i k) 8|||UInt32.ofNat (b.getD (4*i+k) 0).toNat
def Glob (w:World):Prop:= ∃e0 e1 f0 f1,w.heap[0]? =some (.cells (a32 KW_) e0 f0)∧w.heap[1]? =some (.cells (a32 kL) e1 f1)
theorem Glob.of {w0 w:World} {L:za_} (hg:Glob w0) (h:Hp w0 L w) (hk: ∀b,b∈keys L→1<b):Glob w:=by
 obtain⟨e0,e1,f0,f1,h0,h1⟩:=hg
 refine⟨e0,e1,f0,f1, ?_, ?_⟩
 ·rw[h.old 0 (Array.getElem?_eq_some_iff.1 h0).1 (fun hm=>by have:=hk 0 hm;omega)];exact h0
 ·rw[h.old 1 (Array.getElem?_eq_some_iff.1 h1).1 (fun hm=>by have:=hk 1 hm;omega)];exact h1
structure Hs where
 st:List UInt32
 rest:List UInt8
 many:Nat
structure Hs.Ok (s:Hs):Prop where
 st:s.st.length=8
 rest:s.rest.length=64
 many:s.many<64
def hput (s:Hs) (x:UInt8):Hs:=
 if s.many+1=64 then⟨comp s.st (s.rest.set s.many x),s.rest.set s.many x,0⟩ else⟨s.st,s.rest.set s.many x,s.many+1⟩
theorem ain_ {s:Hs} (x:UInt8) (h:s.Ok): (hput s x).Ok:=by
 unfold hput
 split
 ·exact⟨aaP_ _ _,by simp[h.rest],by show(0:Nat)<64;omega⟩
 ·exact⟨h.st,by simp[h.rest],by show s.many+1<64;have:=h.many;omega⟩
theorem loadV_one (cs:Array Value) (E:TypeId) (fz:Nat×Nat) (n i:Nat):zD_ (some (false,n)) (some (.cells cs E fz)) i=cs[i]? :=(rfl)
end Go.Dig
section
open Go Go.Proofs Go.Sx Go.Dig
namespace Go.Proofs
set_option maxRecDepth 10000
set_option maxHeartbeats 4000000
set_option linter.unusedSimpArgs false
def GlobE (w:World):Prop:= ∃e0 e1 f0 f1,w.heap[2]? =some (.cells (a32 KW_) e0 f0)∧w.heap[3]? =some (.cells (a32 kL) e1 f1)
theorem GlobE.of {w0 w:World} {L:za_} (hg:GlobE w0) (h:Hp w0 L w) (hk: ∀b,b∈keys L→3<b):GlobE w:=by
 obtain⟨e0,e1,f0,f1,h0,h1⟩:=hg
 refine⟨e0,e1,f0,f1, ?_, ?_⟩
 ·rw[h.old _ (Array.getElem?_eq_some_iff.1 h0).1 (fun hm=>by have:=hk _ hm;omega)];exact h0
 ·rw[h.old _ (Array.getElem?_eq_some_iff.1 h1).1 (fun hm=>by have:=hk _ hm;omega)];exact h1
end Go.Proofs
end
section
open Go Go.Proofs Go.Sx Go.Dig
namespace Go.Proofs
set_option maxRecDepth 10000
set_option maxHeartbeats 4000000
set_option linter.unusedSimpArgs false
set_option linter.defProp false
end Go.Proofs
end
section
open Go Go.Proofs Go.Sx Go.Dig
namespace Go.Proofs
set_option maxRecDepth 10000
set_option maxHeartbeats 1000000
set_option linter.unusedSimpArgs false
set_option linter.defProp false
end Go.Proofs
end
namespace Go.Dig
open Go.Sx
def alr_ (m:Nat):Nat:=(120 - m)%64
def lenB (t:UInt64) (g:Nat):UInt8:=UInt8.ofNat (xH_ (8*t) (56 - 8*g)).toNat
def len8 (t:UInt64):List UInt8:=(List.range 8).map (lenB t)
def outB (st:List UInt32) (j:Nat):UInt8:=UInt8.ofNat (jb_ (st.getD (j / 4) 0) (24 - 8* (j%4))).toNat
def ae9_ (st:List UInt32) (k:Nat):List UInt8:=(List.range 32).map fun j=>if j<k then outB st j else 0
def H0:Hs:=⟨KW_,List.replicate 64 0,0⟩
theorem amd_:H0.Ok:=⟨rfl,by simp[H0],by show(0:Nat)<64;omega⟩
theorem outPre_length (st:List UInt32) (k:Nat): (ae9_ st k).length=32:=by simp[ae9_]
end Go.Dig
section
open Go Go.Proofs Go.Sx Go.Dig
namespace Go.Proofs
set_option maxRecDepth 10000
set_option maxHeartbeats 1000000
set_option linter.unusedSimpArgs false
set_option linter.defProp false
end Go.Proofs
end
section
open Go Go.Proofs Go.Sx Go.Dig
namespace Go.Proofs
set_option maxRecDepth 10000
set_option maxHeartbeats 1000000
set_option linter.unusedSimpArgs false
set_option linter.defProp false
end Go.Proofs
end
namespace Go.Dig
open Go.Sx
def padR (m:List UInt8):List UInt8:=m++ [128]++List.replicate (alr_ ((m.length+1)%64)) 0++len8 (UInt64.ofNat m.length)
def shaR (m:List UInt8):List UInt8:=ae9_ (Xn_ KW_ (padR m) ((padR m).length / 64)) 32
end Go.Dig
section
open Go Go.Proofs Go.Sx Go.Dig
namespace Go.Proofs
set_option maxRecDepth 10000
set_option maxHeartbeats 1000000
set_option linter.unusedSimpArgs false
set_option linter.defProp false
end Go.Proofs
end
section
open Go Go.Proofs Go.Sx Go.Dig
namespace Go.Proofs
set_option maxRecDepth 10000
set_option maxHeartbeats 1000000
set_option linter.unusedSimpArgs false
set_option linter.defProp false
end Go.Proofs
end
namespace Go.Dig
open Go.Sx
structure Inv (s:Hs) (p:List UInt8):Prop where
 ok:s.Ok
 st:s.st=Xn_ KW_ p (p.length / 64)
 many:s.many=p.length%64
 rest:s.rest.take s.many=p.drop (64* (p.length / 64))
theorem Inv.put {s:Hs} {p:List UInt8} (h:Inv s p) (x:UInt8):Inv (hput s x) (p++ [x]):=by
 obtain⟨hok,hst,hmany,hrest⟩:=h
 have hk:=ain_ x hok
 have hm64:=hok.many
 have hrl:=hok.rest
 have hle:64* (p.length / 64)≤p.length:=by omega
 have htake: (s.rest.set s.many x).take (s.many+1)=p.drop (64* (p.length / 64))++ [x]:=by
  rw[List.take_add_one,List.take_set,←hrest]
  congr 1
  ·rw[List.set_eq_of_length_le (by simp only[List.length_take];exact Nat.min_le_left _ _)]
  ·simp[hrl,hm64]
 have hlen: (p++ [x]).length=p.length+1:=by simp
 have hc:Xn_ KW_ (p++ [x]) (p.length / 64)=Xn_ KW_ p (p.length / 64):=Vg_ _ _ _ _ hle
 by_cases h64:s.many+1=64
 ·have e:hput s x=⟨comp s.st (s.rest.set s.many x),s.rest.set s.many x,0⟩:=by unfold hput;rw[if_pos h64]
  have hd: (p.length+1) / 64=p.length / 64+1:=by omega
  have hr: (s.rest.set s.many x)=p.drop (64* (p.length / 64))++ [x]:=by
   rw[←htake,h64,List.take_of_length_le (by simp[hrl])]
  refine⟨hk, ?_, ?_, ?_⟩
  ·rw[e,hlen,hd]
   show comp s.st _=comp (Xn_ KW_ (p++ [x]) (p.length / 64)) _
   rw[hc,←hst,hr,List.drop_append_of_le_length hle,List.take_of_length_le (by simp;omega)]
  ·rw[e,hlen];show 0=_;omega
  ·rw[e,hlen]
   show List.take 0 _=_
   rw[List.take_zero,List.drop_of_length_le (by rw[hlen];omega)]
 ·have e:hput s x=⟨s.st,s.rest.set s.many x,s.many+1⟩:=by unfold hput;rw[if_neg h64]
  have hd: (p.length+1) / 64=p.length / 64:=by omega
  refine⟨hk, ?_, ?_, ?_⟩
  ·rw[e,hlen,hd,hc];exact hst
  ·rw[e,hlen];show s.many+1=_;omega
  ·rw[e,hlen,hd]
   show List.take (s.many+1) (s.rest.set s.many x)=_
   rw[htake,List.drop_append_of_le_length hle]
theorem Inv.zero:Inv H0 []:=⟨amd_,rfl,rfl,rfl⟩
end Go.Dig
