/-
  Part 1 of the walk: contracts of the functions that the law reaches, and the calculus they stand on.
  No conditions.
-/
import Derived.Test.YtfdphhalimbpbaaGreatDoorD0
import Derived.RangeFuncLeaves
import Derived.RangeFuncIn
import Derived.RangeFuncSeq
import Derived.RangeFuncRecord
import Derived.TacticsIn
import Derived.Maps.RangeRun
import Derived.Test.YtfdphhalimbpbaaGreatDoorProg
import Derived.Lib.Small
import Derived.Lib.Walk
import Derived.Lib.Bytealg
import Derived.Deep.Draws
import Derived.Deep.QuietTactic
import Derived.Lib.Strings
import GoSem.Core.Float
import Derived.Laws.MakeOwn
set_option linter.unusedSimpArgs false
set_option maxRecDepth 100000
set_option linter.defProp false
set_option maxHeartbeats 8000000
open Go.Proofs.Tryz
namespace Go.Sx
open Go
section
variable {P:Program} {w0:World} {f:Fr} {L:aA} {N:Fr→aA→Prop} {ops:Array Oper} {rest:List Oper} {md:Md}
 {d:Option Tmp} {ty:TypeId} {ps:String} {af:Array Edge} {g:Option (Nat×Bool)}
def getV (k:List UInt8) (z:List UInt8) (m:aU):List UInt8:=match m.find? fun p=>k==p.1 with|some p=>p.2|none=>z
theorem wx (k:List UInt8): ∀ (m:aU) (i:Nat),(fnd k m i).map Prod.snd=(m.find? fun p=>k==p.1).map Prod.snd
 | [],_=>rfl
 |p::r,i=>by
  unfold fnd
  rw[List.find?_cons]
  cases h: (k==p.1)
  ·simp only[Bool.false_eq_true, ↓reduceIte];exact wx k r (i+1)
  rfl
def Ow.mapGet {t kt vt:TypeId} {x y:Operand} {b:Nat} {o:Obj} {m:aU} {k z:List UInt8} {md':Md} (he:md.turn=some md') (hs:aw ops f ⟨d, .lookup t x y false,ty,ps,af,g⟩=false) (hu:P.underlying t=some (.map kt vt)) (kA:P.underlying kt=some .string)
  (hz:bL P vt=some (.agg (a8 z))) (hx:ev f x=vm b) (hy:ev f y=vs k) (hl:aS w0 L b=some o) (hm:MapR o m)
  (hn:Ow P w0 ops md' rest (aW f d (.agg (a8 (getV k z m)))) L N):
  Ow P w0 ops md (⟨d, .lookup t x y false,ty,ps,af,g⟩::rest) f L N:=by
 obtain⟨es,c,rfl,fa,-⟩:=hm
 refine Ow.step he rfl hs fun w hw=> ?_
 have hb:=hw.read hl
 have dK:=E_ (w:=w) kA k es.toList m fa
 refine .inl ⟨.agg (a8 (getV k z m)),w,L, ?_,hw,hn⟩
 have iA:=wx k m 0
 have: (Instr.lookup t (vm b) (vs k) false).run P w= .ok (.agg (a8 (getV k z m))) w:=by
  cases hf:fnd k m 0 with
  |none=>
   rw[hf] at dK iA
   have hg:getV k z m=z:=by
    unfold getV
    cases h:m.find? fun p=>k==p.1 with
    |none=>rfl
    |some q=>rw[h] at iA;cases iA
   simp only[Instr.lookup,vm,Sem.run_bind,run_underlying hu w,Result.andThen_ok,j4 hb,Sem.run_pure,ux kA,dK,Option.map_none,pq hz w,hg,Bool.false_eq_true, ↓reduceIte]
  |some p=>
   obtain⟨j,a⟩:=p
   rw[hf] at dK iA
   have hg:getV k z m=a:=by
    unfold getV
    cases h:m.find? fun p=>k==p.1 with
    |none=>rw[h] at iA;cases iA
    |some q=>rw[h] at iA;simp only[Option.map_some,Option.some.injEq] at iA;exact iA.symm
   simp only[Instr.lookup,vm,Sem.run_bind,run_underlying hu w,Result.andThen_ok,j4 hb,Sem.run_pure,ux kA,dK,Option.map_some,hg,Bool.false_eq_true, ↓reduceIte]
 simp only[execOp,Sem.run_bind,hx,hy]
 rw[this];rfl
end
end Go.Sx
namespace Go.Sx
open Go
def Nw (A B C:List Value) {o n:Nat} (hA:A.length=o) (hB:B.length=n): (A++ (B++C)).toArray.extract o (o+n)=B.toArray:=by
 subst hA;subst hB
 rw[List.extract_toArray,List.extract_eq_take_drop,List.drop_left,Nat.add_sub_cancel_left,List.take_left]
def On (A C:List Value) (v:Value) {o:Nat} (hA:A.length=o): (A++ ([v]++C)).toArray[o]? =some v:=by
 subst hA;simp
def NC (A B C:List Value) {o n:Nat} (E:TypeId) (fz:Nat×Nat) (hA:A.length=o) (hB:B.length=n):ak (some (true,n)) (some (.cells (A++ (B++C)).toArray E fz)) o=some (.agg B.toArray):=by
 have hs:o+n≤ (A++ (B++C)).toArray.size:=by
  simp only[List.size_toArray,List.length_append];omega
 unfold ak
 simp only[hs, ↓reduceIte]
 rw[Nw A B C hA hB]
def vT (A C:List Value) (v:Value) {o:Nat} (n:Nat) (E:TypeId) (fz:Nat×Nat) (hA:A.length=o):ak (some (false,n)) (some (.cells (A++ ([v]++C)).toArray E fz)) o=some v:=by
 rw[loadV_one];exact On A C v hA
def lB (A B B' C:List Value) {o n:Nat} (a:Bool) (x:Value) (E:TypeId) (hA:A.length=o) (hB:B.length=n) (hx:x.cells=B'.toArray) (VO:B'.length=n) (ho:B'.all Value.oneCell'=true):
  bM (some (a,n)) (some (.cells (A++ (B++C)).toArray E (0,0))) o x=some (.cells (A++ (B'++C)).toArray E (0,0)):=by
 subst hA
 have hp:=xy B' A B C (by rw[hB,VO])
 rw[List.append_assoc,List.append_assoc] at hp
 unfold bM
 simp only[hx]
 rw[if_pos ⟨by rw[List.size_toArray,VO],by simp only[List.size_toArray,List.length_append];omega, .inl (ag 0),ho⟩,hp]
def HT (cs:List Value) {n:Nat} (a:Bool) (old:Array Value) (E:TypeId) (hn:cs.length=n) (ho:cs.all Value.oneCell'=true) (h:old.size=n):
  bM (some (a,n)) (some (.cells old E (0,0))) 0 (.agg cs.toArray)=some (.cells cs.toArray E (0,0)):=
 CJ n a cs.toArray old E ⟨by rw[List.size_toArray,hn],h⟩ ho
def Pk (l:List UInt8): (l.map v8).all Value.oneCell'=true:=by
 rw[List.all_map]
 exact List.all_eq_true.2 fun x _=>rfl
def RowS.part {α:Type} {m:Nat} {enc:α→List Value} {z:α} {w:World} {v:Value} {l:List α} {b off:Nat} {arr:Array Value} {E:TypeId} {fz:Nat×Nat} (h:RowS m enc z w v l b off arr E fz) (hm: ∀x,(enc x).length=m) {k o n:Nat} (hk:k<l.length) (ho:o+n≤m) (hn:0<n):
  ak (some (true,n)) (some (.cells arr E fz)) (off+k*m+o)=some (.agg ((enc (l.getD k z)).toArray.extract o (o+n))):=by
 have hg: ∀i,i<n→arr[off+k*m+ (o+i)]? =(enc (l.getD k z))[o+i]? :=fun i hi=>h.get k hk (o+i) oM
 have aR:=hm (l.getD k z)
 have e8:off+k*m+o+n≤arr.size:=by
  have h1:=hg (n - 1) oM
  rw[List.getElem?_eq_getElem oM] at h1
  have:=(Array.getElem?_eq_some_iff.1 h1).1
  omega
 unfold ak
 simp only[e8, ↓reduceIte]
 congr 2
 apply Array.ext_getElem?
 intro i
 by_cases hi:i<n
 ·rw[Array.getElem?_extract,Array.getElem?_extract,if_pos oM,if_pos (by rw[List.size_toArray];omega)]
  have hh:=hg i hi
  rw[show off+k*m+ (o+i)=off+k*m+o+i by omega] at hh
  rw[hh]
  exact(List.getElem?_toArray ..).symm
 rw[Array.getElem?_eq_none (by rw[Array.size_extract];omega),Array.getElem?_eq_none (by rw[Array.size_extract];omega)]
end Go.Sx
namespace Go.Sx
open Go
def Cw.forget {P:Program} {w0:World} {c:Code} {f:Fr} {L:aA} {K:bY} (M:aA) (hM: ∀p,p∈M→p∈L) (hn: (keys M).Nodup) (d_: ∀p,p∈L→p.1∉keys M→w0.heap.size≤p.1)
  (h:Cw P w0 c f M K):Cw P w0 c f L K:=fun w hw=>h w (hw.drop hM hn fun p hp aG hk=>by have:=d_ p hp hk;omega)
end Go.Sx
namespace Go.Sx
open Go
def SlV {α:Type} (m:Nat) (enc:α→List Value) (z:α) (w:World) (v:Value) (l:List α):Prop:=
 ∃b off c arr E fz,RowS m enc z w v l b off arr E fz∧l.length≤c∧((v= .slice none 0 0∧l= []∧c=0)∨(v=vsl b off l.length c∧w.heap[b]? =some (.cells arr E fz)∧off+l.length*m≤arr.size))
section
variable {α:Type} {m:Nat} {enc:α→List Value} {z:α} {w:World} {v:Value} {l:List α}
def RowS.sl' {b off n c:Nat} {arr:Array Value} {E:TypeId} {fz:Nat×Nat} (hn:n=l.length)
  (has:0<l.length→w.heap[b]? =some (.cells arr E fz)) (get: ∀k,k<l.length→ ∀j,j<m→arr[off+k*m+j]? =(enc (l.getD k z))[j]?):RowS m enc z w (vsl b off n c) l b off arr E fz:=by
 subst hn
 exact⟨fun x=>rfl,fun a k hk=>BY _ _ _ _ _ _ ⟨by omega,by omega⟩,has,get⟩
theorem SlV.nil (w:World):SlV m enc z w (.slice none 0 0) []:=⟨0,0,0, #[],0,(0,0),RowS.nil w 0 0 rfl,ag _, .inl ⟨rfl,rfl,rfl⟩⟩
def SlV.row (h:SlV m enc z w v l): ∃b off arr E fz,RowS m enc z w v l b off arr E fz:=by
 obtain⟨b,off,c,arr,E,fz,hr,-⟩:=h;exact⟨b,off,arr,E,fz,hr⟩
theorem SlV.sl {b off c:Nat} {arr:Array Value} {E:TypeId} {fz:Nat×Nat} (has:w.heap[b]? =some (.cells arr E fz)) (get: ∀k,k<l.length→ ∀j,j<m→arr[off+k*m+j]? =(enc (l.getD k z))[j]?) (hc:l.length≤c) (hs:off+l.length*m≤arr.size):SlV m enc z w (vsl b off l.length c) l:=
 ⟨b,off,c,arr,E,fz,RowS.sl rfl has get,hc, .inr ⟨rfl,has,hs⟩⟩
theorem RowS.old {w':World} {b off:Nat} {arr:Array Value} {E:TypeId} {fz:Nat×Nat} {L:aA} (h:RowS m enc z w v l b off arr E fz) (hw:Hp w L w') (hb:0<l.length→b∉keys L):RowS m enc z w' v l b off arr E fz:=
 ⟨h.len,h.idx,fun hl=>by have hh:=h.has hl;rw[hw.old b (Array.getElem?_eq_some_iff.1 hh).1 (hb hl)];exact hh,h.get⟩
def RowS.lt {b off:Nat} {arr:Array Value} {E:TypeId} {fz:Nat×Nat} (h:RowS m enc z w v l b off arr E fz) (hl:0<l.length):b<w.heap.size:=(Array.getElem?_eq_some_iff.1 (h.has hl)).1
theorem SlV.old {w':World} {L:aA} (h:SlV m enc z w v l) (hw:Hp w L w') (hb: ∀b,slB v=some b→b<w.heap.size→b∉keys L):SlV m enc z w' v l:=by
 obtain⟨b,off,c,arr,E,fz,hr,hc,hv⟩:=h
 rcases hv with⟨rfl,rfl,rfl⟩ | ⟨rfl,fr,e8⟩
 ·exact SlV.nil w'
 have Cs:=hb b rfl (Array.getElem?_eq_some_iff.1 fr).1
 refine⟨b,off,c,arr,E,fz,hr.old hw (fun _=>Cs),hc, .inr ⟨rfl, ?_,e8⟩⟩
 rw[hw.old b (Array.getElem?_eq_some_iff.1 fr).1 Cs];exact fr
def New.not {L:aA} {n b:Nat} (h:New n L) (hb:b<n):b∉keys L:=fun hm=>by have:=h.le b hm;omega
def SlV.oldN {w':World} {L:aA} (h:SlV m enc z w v l) (hw:Hp w L w') (hn:New w.heap.size L):SlV m enc z w' v l:=h.old hw fun _ _ hb=>hn.not hb
theorem SlV.len (h:SlV m enc z w v l) (x:Bool×Nat):eF (.sl x) v=some (vi l.length):=by
 obtain⟨b,off,arr,E,fz,hr⟩:=h.row
 exact hr.len x
theorem SlV.take (h:SlV m enc z w v l) {k:Nat} (hk:k≤l.length) (a:Bool): ∃v',g7 (.sl (a,m)) v none (some (some (k:Int)))=some v'∧SlV m enc z w v' (l.take k)∧(∀b,slB v'=some b→slB v=some b):=by
 obtain⟨b,off,c,arr,E,fz,hr,hc,hv⟩:=h
 have hl: (l.take k).length=k:=by simp;omega
 rcases hv with⟨rfl,rfl,rfl⟩ | ⟨rfl,fr,e8⟩
 ·obtain rfl:k=0:=by simpa using hk
  refine⟨.slice none 0 0,rfl,SlV.nil w,fun b hb=>hb⟩
 refine⟨vsl b off k c, ?_, ?_,fun b hb=>hb⟩
 ·unfold g7 vsl
  simp only[yj _ _ _ (⟨by omega,by omega⟩: (0:Int)≤ (k:Int)∧(k:Int)≤ (c:Int)),Int.toNat_natCast,Nat.zero_mul,Nat.sub_zero,Option.map_some,l6,Nat.add_zero]
  split<;>rfl
 refine⟨b,off,c,arr,E,fz,RowS.sl' hl.symm (fun h0=>hr.has oM) ?_,by omega, .inr ⟨by rw[hl],fr,by rw[hl];have:k*m≤l.length*m:=Nat.mul_le_mul_right _ hk;omega⟩⟩
 ·intro i hi j hj
  rw[hl] at hi
  rw[hr.get i oM j hj]
  congr 2
  rw[List.getD_eq_getElem?_getD,List.getD_eq_getElem?_getD,List.getElem?_take_of_lt hi]
def Buf.slM {L:aA} {E:TypeId} {n:Nat} {cs:List Value} (h:Buf L E m v n cs) (hw: ∀b o,(b,o)∈L→w.heap[b]? =some o) (hl:l.length=n) (eS:cs=(l.map enc).flatten) (hm: ∀x,(enc x).length=m):SlV m enc z w v l:=by
 rcases h.inv with⟨rfl,rfl,rfl⟩ | ⟨b,c,rest,rfl,cJ,aR,Sm,h0,mb⟩
 ·have:l= []:=by simpa using hl
  subst this;exact SlV.nil w
 subst hl
 refine SlV.sl (hw _ _ (cQ cJ)) ?_ Sm (by rw[List.size_toArray,List.length_append,aR];omega)
 intro k hk j hj
 rw[Nat.zero_add,List.getElem?_toArray,List.getElem?_append_left (by rw[aR];have: (k+1)*m≤l.length*m:=Nat.mul_le_mul_right _ hk;rw[Nat.add_mul,Nat.one_mul] at this;omega),eS]
 clear aR mb cJ eS Sm h
 induction l generalizing k with
 |nil=>simp at hk
 |cons x r ih=>
  rw[List.map_cons,List.flatten_cons]
  cases k with
  |zero=>
   rw[Nat.zero_mul,Nat.zero_add,List.getElem?_append_left (by rw[hm];exact hj),List.getD_cons_zero]
  |succ k=>
   rw[List.getElem?_append_right (by rw[hm,Nat.add_mul,Nat.one_mul];omega),hm,List.getD_cons_succ]
   have:=ih (k:=k) (by simpa using hk)
   rw[←this]
   congr 1
   rw[Nat.add_mul,Nat.one_mul];omega
def Buf.slV {L:aA} {E:TypeId} {n:Nat} {cs:List Value} {w0:World} (h:Buf L E m v n cs) (hw:Hp w0 L w) (hl:l.length=n) (eS:cs=(l.map enc).flatten) (hm: ∀x,(enc x).length=m):SlV m enc z w v l:=h.slM hw.has hl eS hm
end
end Go.Sx
namespace Go.Sx
open Go
theorem New.mono {n m:Nat} (h:n≤m): ∀ {L:aA},New m L→New n L
 | [],_=>trivial
 | (_,_)::_,hL=>⟨Nat.le_trans h hL.1,New.mono h hL.2⟩
theorem New.app {n:Nat} {M:aA}: ∀ {L:aA},New n L→New n M→New n (L++M)
 | [],_,hM=>hM
 | (_,_)::_,hL,hM=>⟨hL.1,New.app hL.2 hM⟩
section
variable {P:Program} {w0:World} {f:Fr} {L:aA} {N:Fr→aA→Prop} {ops:Array Oper} {rest:List Oper} {md:Md}
 {d:Option Tmp} {ty:TypeId} {ps:String} {af:Array Edge} {g:Option (Nat×Bool)}
def Ow.callE {l:List Operand} {ts:Array TypeId} {k:FuncId} {b:Nat} {S:Value→Obj→Prop} {md':Md} (he:md.turn=some md')
  (hs:aw ops f ⟨d, .call ⟨.value (.func k),l.toArray,ts⟩,ty,ps,af,g⟩=false)
  (hk: ∀a w,(callFunc k a).run P w= .ok (.enter k a) w) (hb:b∈keys L)
  (hc: ∀w,Hp w0 L w→Rets P k (l.map (ev f)).toArray w (fun v D=> ∃o,D= [(b,o)]∧S v o))
  (hn: ∀v o,S v o→Ow P w0 ops md' rest (aW f d v) (setB L b o) N):
  Ow P w0 ops md (⟨d, .call ⟨.value (.func k),l.toArray,ts⟩,ty,ps,af,g⟩::rest) f L N:=by
 refine Ow.callF he hs hk (S:=fun _ v D=> ∃o,D= [(b,o)]∧S v o) hc ?_
 rintro B v D - - ⟨o,rfl,hS⟩
 exact⟨_,Mrg.set hb,hn v o hS⟩
def Ow.callN {l:List Operand} {ts:Array TypeId} {k:FuncId} {S:Nat→Value→aA→Prop} {md':Md} (he:md.turn=some md')
  (hs:aw ops f ⟨d, .call ⟨.value (.func k),l.toArray,ts⟩,ty,ps,af,g⟩=false)
  (hk: ∀a w,(callFunc k a).run P w= .ok (.enter k a) w)
  (hc: ∀w,Hp w0 L w→Rets P k (l.map (ev f)).toArray w (fun v D=>S w.heap.size v D))
  (d_: ∀B v D,S B v D→New B D)
  (hn: ∀B v D,dq L B→w0.heap.size≤B→S B v D→Ow P w0 ops md' rest (aW f d v) (L++D) N):
  Ow P w0 ops md (⟨d, .call ⟨.value (.func k),l.toArray,ts⟩,ty,ps,af,g⟩::rest) f L N:=by
 refine Ow.callF he hs hk (S:=S) hc ?_
 intro B v D ha hB hS
 exact⟨_,Mrg.fresh (d_ B v D hS).le,hn B v D ha hB hS⟩
def Cw.forgetN {c:Code} {K:bY} (M:aA) (d_:New w0.heap.size L) (hM: ∀p,p∈M→p∈L) (hn: (keys M).Nodup) (h:Cw P w0 c f M K):Cw P w0 c f L K:=
 Cw.forget M hM hn (fun p hp _=>d_.le _ (List.mem_map.2 ⟨p,hp,rfl⟩)) h
end
end Go.Sx
section
namespace Go.Sx
open Go
section
variable {P:Program} {w0:World} {L:aA}
def Tr {w:World} {ts tx ty e:TypeId} {m:Bool×Nat} {z x:Value} {b k:Nat} {new:List Value} (hw:Hp w0 L w)
  (hu:P.underlying ts=some (.slice e)) (hm:aM P e=some m) (hi:pg P e=true) (hz:bL P e=some z) (l5:z.cells.size=m.2) {d:TypeDesc} (i':P.underlying tx=some d) (ft: ∀k,d≠ .int k)
  (u5: ∀w,Hp w0 L w→AppX P w m.2 x k new) (cn:2* (0+k)+768≤2^38):
  (k=0∧(Builtin.append_ #[ts,tx] ty #[vsl b 0 0 0,x]).run P w= .ok (vsl b 0 0 0) w)∨
  (0<k∧ ∃v' w' L',(Builtin.append_ #[ts,tx] ty #[vsl b 0 0 0,x]).run P w= .ok v' w'∧Hp w0 L' w'∧Buf L' e m.2 v' (0+k) ([]++new)∧Grew w0 (.slice none 0 0) L L'∧ ∃c,slB v'=some c∧dq L c):=by
 obtain⟨i,hi,ze,cn⟩:=Tk hi cn
 have DB: ∀w,(typeInfo e).run P w= .ok i w:=by
  intro w
  simp only[typeInfo,program,Sem.run_bind]
  show Result.andThen (Result.ok P w) _=_
  simp only[Result.andThen_ok,hi]
  rfl
 have mV: (match d with| .int _=>true|_=>false)=false:=by
  cases d<;>first|rfl|exact absurd rfl (ft _)
 have e1: ∀ {α β:Type} (a:α) (f:α→World→Result β),(Sem.run P (pure a) w).andThen f=f a w:=fun _ _=>rfl
 have hX:=u5 w hw
 have kD:=hX.len
 have DJ:=hX.cells
 have qk:=pq (P:=P) hz
 have room: ∀ (b:Nat) (w:World),(askRoom b).run P w= .ok () w:=by
  intro b w
  unfold askRoom
  split<;>rfl
 have zc: ∀j,(Builtin.zeroCells z.cells j).toList.length=j*m.2:=by
  intro j;simp[Builtin.zeroCells,l5]
 have iV: ∀c,c<0+k→ ¬ (Builtin.nextslicecap (0+k) c*i.bytes>2^48):=by
  intro c hc
  have:=WN hc
  have h2:=Nat.mul_le_mul_right i.bytes this
  omega
 by_cases hk:k=0
 ·subst hk
  have d_:new= []:=List.eq_nil_of_length_eq_zero (by have:=hX.size;omega)
  subst d_
  refine .inl ⟨rfl, ?_⟩
  simp only[Builtin.append_,vsl,List.getElem?_toArray,List.getElem?_cons_zero,List.getElem?_cons_succ,Sem.run_bind,run_underlying hu w,Result.andThen_ok,fh hm w,run_underlying i' w,mV,e1,Bool.false_eq_true, ↓reduceIte,kD,Bool.not_false,Nat.add_zero,ag,DJ]
  rfl
 have t8: ¬0+k≤0:=by omega
 have mJ:=iV 0 oM
 simp only[Builtin.append_,List.getElem?_toArray,List.getElem?_cons_zero,List.getElem?_cons_succ,Sem.run_bind,run_underlying hu w,Result.andThen_ok,fh hm w,run_underlying i' w,mV,e1,Bool.false_eq_true, ↓reduceIte,kD,Bool.not_false,t8,vsl,DB,ze,or_false,and_false,mJ]
 have zu: (choose (Question.appendCap (0+k) 0 e)).run P w= .ok ((0+k)+w.tape w.drawn (.appendCap (0+k) 0 e)% (2^63 - (0+k))) w.drew:=rfl
 rw[zu]
 generalize iW: (0+k)+w.tape w.drawn (.appendCap (0+k) 0 e)% (2^63 - (0+k))=c
 have aY:=hw.drew
 have zb:=u5 _ aY
 have fw: (Builtin.firstCells m.2 0 (Value.slice (some ⟨b,0,none⟩) 0 0)).run P w.drew= .ok #[] w.drew:=by
  simp only[Builtin.firstCells,Nat.zero_mul];rfl
 simp only[Result.andThen_ok,room,fw,zb.cells,qk]
 refine .inr ⟨by omega,_,_,L++ [(w.drew.heap.size, .cells ([]++new++ (Builtin.zeroCells z.cells (c - (0+k))).toList).toArray e (0,0))],rfl, ?_, .at_ (b:=w.drew.heap.size) (rest:=(Builtin.zeroCells z.cells (c - (0+k))).toList) ?_ ?_ ?_ oM oM, ?_,⟨_,rfl,gK fun b hb=>aY.lt hb⟩⟩
 ·have ea: ([]++new++ (Builtin.zeroCells z.cells (c - (0+k))).toList).toArray= #[]++new.toArray++Builtin.zeroCells z.cells (c - (0+k)):=by apply Array.ext';simp
  rw[ea]
  exact aY.alloc _
 ·rw[gO (fun hm=>Nat.lt_irrefl _ (aY.lt hm))]
  simp[look]
 ·rw[List.nil_append,hX.size,Nat.zero_add]
 ·exact zc _
 refine⟨fun c hc=>by rw[aZ];exact bQ _ hc,fun c hc=> ?_,fun c o aQ ho=>cT ho⟩
 rw[aZ] at hc
 rcases List.mem_append.1 hc with hc|hc
 ·exact .inl hc
 right
 simp only[keys,List.map_cons,List.map_nil,List.mem_singleton] at hc
 subst hc
 exact⟨gK fun b hb=>aY.lt hb,aY.size⟩
end
section
variable {P:Program} {w0:World} {f:Fr} {L:aA} {N:Fr→aA→Prop} {ops:Array Oper} {rest:List Oper} {md:Md}
 {d:Option Tmp} {ty:TypeId} {ps:String} {af:Array Edge} {g:Option (Nat×Bool)}
def Ow.appendEm {ts tx e:TypeId} {m:Bool×Nat} {z:Value} {s x:Operand} {b k:Nat} {new:List Value} {dx:TypeDesc} {md':Md} (pQ:ev f s=vsl b 0 0 0) (he:md.turn=some md')
  (hs:aw ops f ⟨d, .call ⟨.builtin .append, #[s,x], #[ts,tx]⟩,ty,ps,af,g⟩=false)
  (hu:P.underlying ts=some (.slice e)) (hm:aM P e=some m) (hi:pg P e=true) (hz:bL P e=some z) (l5:z.cells.size=m.2) (i':P.underlying tx=some dx) (ft: ∀k,dx≠ .int k)
  (hX: ∀w,Hp w0 L w→AppX P w m.2 (ev f x) k new) (cn:2* (0+k)+768≤2^38)
  (AS:k=0→Ow P w0 ops md' rest (aW f d (vsl b 0 0 0)) L N)
  (hn: ∀v' L',0<k→Buf L' e m.2 v' (0+k) ([]++new)→Grew w0 (.slice none 0 0) L L'→(∃c,slB v'=some c∧dq L c)→Ow P w0 ops md' rest (aW f d v') L' N):
  Ow P w0 ops md (⟨d, .call ⟨.builtin .append, #[s,x], #[ts,tx]⟩,ty,ps,af,g⟩::rest) f L N:=by
 refine Ow.step he rfl hs fun w hw=> ?_
 rcases Tr (ty:=ty) (b:=b) hw hu hm hi hz l5 i' ft hX cn with⟨hk,hr⟩ | ⟨hk,v',w',L',hr,hp,hb,hg,cA⟩
 ·refine .inl ⟨_,w,L, ?_,hw,AS hk⟩
  simp only[execOp,resolve,Sem.run_bind,Sem.run_pure,Result.andThen_ok,invoke,builtin,List.map_toArray,List.map_cons,List.map_nil,pQ]
  rw[hr]
  rfl
 refine .inl ⟨v',w',L', ?_,hp,hn v' L' hk hb hg cA⟩
 simp only[execOp,resolve,Sem.run_bind,Sem.run_pure,Result.andThen_ok,invoke,builtin,List.map_toArray,List.map_cons,List.map_nil,pQ]
 rw[hr]
 rfl
end
end Go.Sx
end
namespace Go.Sx
open Go
section
variable {P:Program} {w0:World} {f:Fr} {L:aA} {N:Fr→aA→Prop} {K:bY} {l:List Oper} {listed:List Bool} {n:Nat} {R ts:List Nat} {a d:Nat} {z:Obj}
def Md.next_sofnil (R ts:List Nat): (Md.sof R [] ts).next= .sof R [] ts:=(rfl)
def FM {Q:Exit→Act→World→Prop} {o:Oper} {x:Act} {d:Option Tmp} {v:Value} {K:Act→World→Prop} (hd: ∀t,d=some t→o.dst≠some t)
  (hQ: ∀c a w,Q (.panic c) a w→Q (.panic c) (a.put d v) w) (r:Result Next) (h:o.upon P x (fun a' w'=>K (a'.put d v) w') Q r):
  o.upon P (x.put d v) K Q r:=by
 have comm: ∀u,(x.put o.dst u).put d v=(x.put d v).put o.dst u:=fun u=>(Act.put_comm x v u hd).symm
 match r,h with
 | .ok (.value u) _,h=>show K _ _;rw[←comm];exact h
 | .ok .skip _,h=>show K _ _;rw[←comm];exact h
 | .ok (.defer e) w',h=>
  have h':K ((({x with defers:=e::x.defers}:Act).put o.dst undef).put d v) w':=h
  rw[←Act.put_comm _ v undef hd,←Act.put_defers] at h'
  exact h'
 | .ok (.enter f args) _,h=>
  refine Calls.mono h fun e w'' he=> ?_
  match e,he with
  | .returned u,he=>show K _ _;rw[←comm];exact he
  | .panicked c,he=>exact hQ _ _ _ he
  | .outgrown,he=>exact he
 | .ok (.row row args) _,h=>exact Rows.mono h fun u w'' he=>by rw[←comm];exact he
 | .halt (.panic u) _,h=>exact hQ _ _ _ h
def FO {ops:Array Oper} {Q:Exit→Act→World→Prop} {j:Nat} {oj:Oper} {d:Option Tmp} {v:Value} (hj:ops[j]? =some oj) (h1: ∀t,d=some t→t∉oj.looksAt ops) (h2: ∀t,d=some t→oj.dst≠some t) (Am: ∀cs b,oj.op≠ .select cs b)
  (hQ: ∀c a w,Q (.panic c) a w→Q (.panic c) (a.put d v) w) {K:Act→World→Prop} {x:Act} {w:World}
  (h:wpOp P ops Q j (fun a' w'=>K (a'.put d v) w') x w):wpOp P ops Q j K (x.put d v) w:=by
 unfold wpOp at h ⊢
 simp only[hj] at h ⊢
 rw[wanted_put oj x d v h1]
 cases hw:Region.wanted oj (yielded ops x.tmps) with
 |true=>
  rw[hw] at h
  simp only[if_true] at h ⊢
  rcases h with h| ⟨qH,hl⟩
  ·left
   unfold Oper.wp at h ⊢
   rw[execOp_put oj Am x d v h1]
   exact FM h2 hQ _ h
  right
  exact⟨by unfold Oper.asks at*;rwa [execOp_put oj Am x d v h1],hl⟩
 |false=>
  rw[hw] at h
  simp only[Bool.false_eq_true,if_false] at h ⊢
  rw[Act.put_comm x v undef h2]
  exact h
structure Drift (P:Program) (l:List Oper) (ts:List Nat) (a d:Nat) (z:Obj):Prop where
 here: ∃oa t zv,l.toArray[a]? =some oa∧oa.op= .alloc t∧oa.dst=some d∧oa.guard=none∧bL P t=some zv∧z= .cells zv.cells t
 ts:a∉ts
 sel:Region.noSelect l.toArray=true
def OwD (P:Program) (w0:World) (l:List Oper) (R ts:List Nat) (a d:Nat) (z:Obj) (n:Nat) (listed:List Bool) (f:Fr) (L:aA) (N:Fr→aA→Prop):Prop:=
 (∀w,Hp w0 L w→jJ P l.toArray (dr w0 N) ts (SR w0 R L) (n+1) listed.toArray (act f) w)∧
 (∀b w,w0.heap.size≤b→b∉keys L→Hp w0 (L++ [(b,z)]) w→jJ P l.toArray (dr w0 N) ts (SR w0 R L) n (listed.set a true).toArray (act (setF f d (vp b 0))) w)
def SR.ofE {w:World} {b:Nat} (hb:w0.heap.size≤b) (h:Hp w0 (L++ [(b,z)]) w):SR w0 R L w:=by
 intro r _ o ho
 unfold aS at ho
 split at ho
 ·rename_i o' hl
  cases ho
  exact h.has _ _ (bQ _ (cQ hl))
 rename_i hl
 have aG:=(Array.getElem?_eq_some_iff.1 ho).1
 rw[h.old r aG ?_];exact ho
 intro hm
 simp only[keys,List.map_append,List.map_cons,List.map_nil,List.mem_append,List.mem_singleton] at hm
 rcases hm with hm|hm
 ·exact CF hl hm
 omega
def Ka {c:List PanicEntry} {x x':Act} {w:World} (h:dr w0 N (.panic c) x w):dr w0 N (.panic c) x' w:=jr h
def Hp.perm {w:World} {M:aA} (h:Hp w0 L w) (hp:M.Perm L):Hp w0 M w:=
 h.same (fun _=>hp.mem_iff) ((List.Perm.nodup_iff (hp.map Prod.fst)).2 h.nodup)
def chkD (P:Program) (l:List Oper) (ts:List Nat) (a:Nat):List Nat→List Bool→Option (List Bool)
 | [],listed=>some listed
 |k::is,listed=>
  match cb l k,cb l a with
  |some o,some oa=>if k !=a&& !ts.contains k&& (ts.all fun t=> !listed.toArray.getD t true&& !(listed.set a true).toArray.getD t true)&& (Region.ready .any l.toArray listed.toArray).contains k&&Region.free .any l.toArray listed.toArray k&&
    (Region.ready .any l.toArray (listed.set a true).toArray).contains k&&Region.free .any l.toArray (listed.set a true).toArray k&&o.apart l.toArray oa&&
    (fT P o.op|| (nB o.op&&rC l.toArray ts listed.toArray k&&rC l.toArray ts (listed.set a true).toArray k)) then chkD P l ts a is (listed.set k true) else none
  |_,_=>none
def OwD.step {k:Nat} {o:Oper} {v:Value} (hD:Drift P l ts a d z) (hk:cb l k=some o) {rest:List Bool} (hc:chkD P l ts a [k] listed=some rest)
  (hY:YieldsC P l.toArray (SR w0 R L) (fT P o.op=true) o v (act f)) (h:OwD P w0 l R ts a d z n rest (aW f o.dst v) L N):OwD P w0 l R ts a d z (n+1) listed f L N:=by
 obtain⟨⟨oa,t,zv,ha,jd,fq,hg,hz,rfl⟩,zd,cg⟩:=hD
 have gl:l.toArray[k]? =some o:=by rw[lG] at hk;simpa using hk
 have u6:cb l a=some oa:=by rw[lG];simpa using ha
 unfold chkD at hc
 rw[hk,u6] at hc
 simp only at hc
 split at hc
 ·rename_i iW
  simp only[chkD,Option.some.injEq] at hc
  subst hc
  simp only[Bool.and_eq_true,Bool.or_eq_true,Bool.not_eq_true',List.all_eq_true,List.contains_eq_mem,decide_eq_true_eq,decide_eq_false_iff_not,bne_iff_ne,ne_eq] at iW
  obtain⟨⟨⟨⟨⟨⟨⟨⟨c1,c2⟩,c3⟩,c4⟩,c5⟩,c6⟩,c7⟩,c8⟩,c9⟩:=iW
  obtain⟨q1,q2,q3⟩:=Oper.apart_spec c8
  have gU:=Region.noSelect_spec cg
  have bV: (listed.set k true).set a true=(listed.set a true).set k true:=List.set_comm _ _ c1
  refine⟨fun w hw=> ?_,fun b w hb iT hw=> ?_⟩
  ·refine pj gl c2 gU (fun c a w h=>jr h) _ _ _ _ (pZ (P:=P) gl c4 c5 (c9.imp id fun h=>⟨h.1.1,h.1.2,fun t ht=>(c3 t ht).1⟩)) (.inr fun t ht=>(c3 t ht).1) hY ?_
   rw[eh,lc]
   exact h.1 w hw
  have Z5:YieldsC P l.toArray (SR w0 R L) (fT P o.op=true) o v (act (setF f d (vp b 0))):=by
   refine hY.left (gU k o · · gl) (oj:=oa) q3 ⟨vp b 0,[], ?_⟩
   rw[fq]
   exact(eh f (some d) (vp b 0)).symm
  refine pj gl c2 gU (fun c a w h=>jr h) _ _ _ _ (pZ (P:=P) gl c6 c7 (c9.imp id fun h=>⟨h.1.1,h.2,fun t ht=>(c3 t ht).2⟩)) (.inr fun t ht=>(c3 t ht).2) Z5 ?_
  have e: (act (setF f d (vp b 0))).put o.dst v=act (setF (aW f o.dst v) d (vp b 0)):=by
   have e1:act (setF f d (vp b 0))=(act f).put (some d) (vp b 0):=(eh f (some d) (vp b 0)).symm
   rw[e1,Act.put_comm (act f) (x:=some d) (y:=o.dst) (vp b 0) v (fun t ht Sr=>by cases ht;exact q2 _ Sr fq),eh,eh];rfl
  rw[e,lc,←bV]
  exact h.2 b w hb iT hw
 cases hc
def LR {k:Nat} {is:List Nat} {listed listed':List Bool} (h:chkD P l ts a (k::is) listed=some listed'):chkD P l ts a [k] listed=some (listed.set k true)∧chkD P l ts a is (listed.set k true)=some listed':=by
 rw[chkD] at h
 cases ho:cb l k with
 |none=>rw[ho] at h;cases h
 |some o=>
  cases Sq:cb l a with
  |none=>rw[ho,Sq] at h;cases h
  |some oa=>
   rw[ho,Sq] at h
   simp only at h
   split at h
   ·rename_i iW
    refine⟨?_,h⟩
    rw[chkD,ho,Sq]
    simp only
    rw[if_pos iW];rfl
   cases h
theorem OwD.runs {k:Md→List Oper→Fr→aA→Prop} (hD:Drift P l ts a d z): ∀ (is:List Nat) {listed listed':List Bool} {f:Fr} {L:aA},chkD P l ts a is listed=some listed'→
  (∀md r f' L',k md r f' L'→r= []∧OwD P w0 l R ts a d z n listed' f' L' N)→vcL P w0 l.toArray false (.sof R [] []) (fS l is) f L k→OwD P w0 l R ts a d z (is.length+n) listed f L N
 | [],listed,listed',f,L,hc,hk,h=>by
  cases hc
  rw[List.length_nil,Nat.zero_add]
  exact(hk _ _ _ _ h).2
 |i::is,listed,listed',f,L,hc,hk,h=>by
  obtain⟨cV,d9⟩:=LR hc
  rw[bz] at h
  cases ho:cb l i with
  |none=>unfold chkD at cV;rw[ho] at cV;cases cV
  |some o=>
   rw[ho,b_] at h
   unfold vcL at h
   rw[List.length_cons,show is.length+1+n=(is.length+n)+1 by omega]
   cases hs:aw l.toArray f o with
   |true=>
    rw[hs] at h
    have dV:Region.wanted o (yielded l.toArray (act f).tmps)=false:=by rw[j2,hs];rfl
    exact OwD.step hD ho cV (v:=undef) (.inr ⟨dV,rfl⟩) (OwD.runs hD is d9 hk h)
   |false=>
    rw[hs] at h
    have dV:Region.wanted o (yielded l.toArray (act f).tmps)=true:=by rw[j2,hs];rfl
    simp only[ib,vcB] at h
    split at h
    ·cases bv:gy (.sof R [] []) f o.op with
     |false=>rw[bv] at h;exact absurd (hk _ _ _ _ h).1 (by simp)
     |true=>
      rw[bv] at h
      simp only at h
      cases hv:gW P w0 L f o.op with
      |none=>rw[hv] at h;exact absurd (hk _ _ _ _ h).1 (by simp)
      |some v=>
       rw[hv] at h
       refine OwD.step hD ho cV (v:=v) (.inl ⟨dV,fun w hw=> ?_⟩) (OwD.runs hD is d9 hk h)
       rw[nj]
       rcases hw with hp|hw
       ·exact lY (Hp.refl w) (uX hp hv w)
       exact lY (Hp.refl w) (Ev bv hv hw)
    ·exact absurd (hk _ _ _ _ h).1 (by simp)
    exact absurd (hk _ _ _ _ h).1 (by simp)
def OwD.run (is:List Nat) (listed':List Bool) (n:Nat) {m:Nat} (hm:m=is.length+n) (hD:Drift P l ts a d z) (hc:chkD P l ts a is listed=some listed')
  (h: ∀k:Md→List Oper→Fr→aA→Prop,(∀md f L,OwD P w0 l R ts a d z n listed' f L N→k md [] f L)→nl (fS l is) fun l'=>vcL P w0 l.toArray false (.sof R [] []) l' f L k):OwD P w0 l R ts a d z m listed f L N:=by
 subst hm
 refine OwD.runs (k:=fun _ r f' L'=>r= []∧OwD P w0 l R ts a d z n listed' f' L' N) hD is hc (fun _ _ _ _ h=>h) ?_
 exact h _ fun _ _ _ h=>⟨rfl,h⟩
def UG {t:TypeId} {zv:Value} {oa:Oper} {Q:Exit→Act→World→Prop} {X:Act→World→Prop} {w:World} (ha:l.toArray[a]? =some oa) (jd:oa.op= .alloc t) (fq:oa.dst=some d) (hg:oa.guard=none) (hz:bL P t=some zv)
  (h:X (act (setF f d (vp w.heap.size 0))) (w.alloc (.cells zv.cells t))):wpOp P l.toArray Q a X (act f) w:=by
 obtain⟨dst,op,ty,pos,after,guard⟩:=oa
 simp only at jd fq hg
 subst jd;subst fq;subst hg
 unfold wpOp
 simp only[ha]
 have hw:Region.wanted ⟨some d, .alloc t,ty,pos,after,none⟩ (yielded l.toArray (act f).tmps)=true:=by rw[j2];rfl
 rw[hw]
 simp only[↓reduceIte]
 left
 unfold Oper.wp
 have hr: (execOp (act f).eval ⟨some d, .alloc t,ty,pos,after,none⟩).run P w= .ok (.value (vp w.heap.size 0)) (w.alloc (.cells zv.cells t)):=by
  simp only[execOp,Instr.alloc,Sem.run_bind,pq hz w,Result.andThen_ok]
  rfl
 rw[hr]
 show X ((act f).put (some d) (vp w.heap.size 0)) _
 rw[eh]
 exact h
def us {L':aA} (hS: ∀b,b∈R→aS w0 L' b=aS w0 L b):SR w0 R L=SR w0 R L':=by
 funext v
 unfold SR
 apply propext
 constructor
 ·intro hh b hb o ho;exact hh b hb o (by rw[←hS b hb];exact ho)
 intro hh b hb o ho;exact hh b hb o (by rw[hS b hb];exact ho)
def oG (l:List Oper) (ts:List Nat) (a:Nat) (ks:List Nat) (listed:List Bool):Bool:=
 ((Region.ready .any l.toArray listed.toArray).all fun i=>i==a||ks.contains i)&& (Region.ready .any l.toArray listed.toArray != [])&& ((Region.ready .any l.toArray (listed.set a true).toArray).all fun i=>ks.contains i)&& (Region.ready .any l.toArray (listed.set a true).toArray != [])&&ks.all fun k=>
  match cb l k,cb l a with
  |some o,some oa=>k !=a&& !ts.contains k&&o.apart l.toArray oa
  |_,_=>false
def OwD.softs (ks:List Nat) (hD:Drift P l ts a d z) (hs:oG l ts a ks listed=true)
  (h: ∀k,k∈ks→ ∀o,cb l k=some o→ ∀E,(E= []∨ ∃b,E= [(b,z)]∧w0.heap.size≤b∧b∉keys L)→Ow P w0 l.toArray .seq [o] f (L++E) (fun f' L''=> ∃L',(L'++E).Perm L''∧(∀r,r∈R→aS w0 L' r=aS w0 L r)∧OwD P w0 l R ts a d z n (listed.set k true) f' L' N)):
  OwD P w0 l R ts a d z (n+1) listed f L N:=by
 obtain⟨⟨oa,t,zv,ha,jd,fq,hg,hz,rfl⟩,zd,cg⟩:=hD
 have u6:cb l a=some oa:=by rw[lG];simpa using ha
 unfold oG at hs
 simp only[Bool.and_eq_true,List.all_eq_true,Bool.or_eq_true,beq_iff_eq,bne_iff_ne,ne_eq,List.contains_eq_mem,decide_eq_true_eq] at hs
 obtain⟨⟨⟨⟨c3,c4⟩,c5⟩,c5'⟩,c6⟩:=hs
 have gU:=Region.noSelect_spec cg
 have Cp: ∀k,k∈ks→ ∃o,cb l k=some o∧k≠a∧k∉ts∧o.apart l.toArray oa=true:=by
  intro k hk
  have:=c6 k hk
  rw[u6] at this
  cases ho:cb l k with
  |none=>rw[ho] at this;cases this
  |some o=>
   rw[ho] at this
   simp only[Bool.and_eq_true,Bool.not_eq_true',bne_iff_ne,ne_eq,decide_eq_false_iff_not] at this
   exact⟨o,rfl,this.1.1,this.1.2,this.2⟩
 have t2: ∀b w,w0.heap.size≤b→b∉keys L→Hp w0 (L++ [(b, .cells zv.cells t)]) w→jJ P l.toArray (dr w0 N) ts (SR w0 R L) (n+1) (listed.set a true).toArray (act (setF f d (vp b 0))) w:=by
  intro b w hb iT hw
  refine⟨fun _=>SR.ofE hb hw,(fun h=>absurd h c5'), ?_⟩
  intro k hi
  have uE:=c5 k hi
  obtain⟨o,hk,c1,c2,c7⟩:=Cp k uE
  have gl:l.toArray[k]? =some o:=by rw[lG] at hk;simpa using hk
  obtain⟨q1,q2,q3⟩:=Oper.apart_spec c7
  have bV: (listed.set k true).set a true=(listed.set a true).set k true:=List.set_comm _ _ c1
  have e1:act (setF f d (vp b 0))=(act f).put (some d) (vp b 0):=(eh f (some d) (vp b 0)).symm
  rw[e1]
  refine FO gl (fun t ht=>by cases ht;exact q3 d fq) (fun t ht=>by cases ht;exact fun Sr=>q2 d Sr fq) (gU _ o · · gl) (fun c a w h=>Ka h) ?_
  refine rN gl (X:=fun a' w'=>jJ P l.toArray (dr w0 N) ts (SR w0 R L) n ((listed.set a true).toArray.setIfInBounds k true) (a'.put (some d) (vp b 0)) w') ?_ hw
  intro w' aB
  refine DN ?_ (h k uE o hk [(b, .cells zv.cells t)] (.inr ⟨b,rfl,hb,iT⟩) w' aB)
  rintro f' L'' ⟨L',uI,hR,hO⟩ w'' jg
  have mf:=jg.perm uI
  rw[eh,lc,←bV,us hR]
  refine hO.2 b w'' hb (fun hm=> ?_) mf
  have ay:=mf.nodup
  rw[aZ,List.nodup_append] at ay
  exact ay.2.2 b hm b (by simp[keys]) rfl
 refine⟨fun w hw=>⟨fun _=>SR.of hw,fun h=>absurd h c4,fun k hi=> ?_⟩,t2⟩
 rcases c3 k hi with rfl|uE
 ·refine UG ha jd fq hg hz ?_
  rw[lc]
  refine t2 _ _ hw.size (fun hm=>Nat.lt_irrefl _ (hw.lt hm)) (hw.alloc _)
 obtain⟨o,hk,c1,c2,c7⟩:=Cp k uE
 have gl:l.toArray[k]? =some o:=by rw[lG] at hk;simpa using hk
 refine rN gl (X:=jJ P l.toArray (dr w0 N) ts (SR w0 R L) (n+1) (listed.toArray.setIfInBounds k true)) ?_ hw
 intro w' aB
 have h1:=h k uE o hk [] (.inl rfl)
 rw[List.append_nil] at h1
 refine DN ?_ (h1 w' aB)
 rintro f' L'' ⟨L',uI,hR,hO⟩ w'' jg
 rw[List.append_nil] at uI
 rw[lc,us hR]
 exact hO.1 w'' (jg.perm uI)
def OwD.soft (k:Nat) (o:Oper) (hD:Drift P l ts a d z) (hk:cb l k=some o) (hs:oG l ts a [k] listed=true)
  (h: ∀E,(E= []∨ ∃b,E= [(b,z)]∧w0.heap.size≤b∧b∉keys L)→Ow P w0 l.toArray .seq [o] f (L++E) (fun f' L''=> ∃L',(L'++E).Perm L''∧(∀r,r∈R→aS w0 L' r=aS w0 L r)∧OwD P w0 l R ts a d z n (listed.set k true) f' L' N)):
  OwD P w0 l R ts a d z (n+1) listed f L N:=OwD.softs [k] hD hs fun k' bb o' sw=>by
 rw[List.mem_singleton] at bb
 subst bb
 rw[hk] at sw
 cases sw
 exact h
def OwD.two (k k2:Nat) (o o2:Oper) (hD:Drift P l ts a d z) (hk:cb l k=some o) (mQ:cb l k2=some o2) (hs:oG l ts a [k,k2] listed=true)
  (h: ∀E,(E= []∨ ∃b,E= [(b,z)]∧w0.heap.size≤b∧b∉keys L)→Ow P w0 l.toArray .seq [o] f (L++E) (fun f' L''=> ∃L',(L'++E).Perm L''∧(∀r,r∈R→aS w0 L' r=aS w0 L r)∧OwD P w0 l R ts a d z n (listed.set k true) f' L' N))
  (h2: ∀E,(E= []∨ ∃b,E= [(b,z)]∧w0.heap.size≤b∧b∉keys L)→Ow P w0 l.toArray .seq [o2] f (L++E) (fun f' L''=> ∃L',(L'++E).Perm L''∧(∀r,r∈R→aS w0 L' r=aS w0 L r)∧OwD P w0 l R ts a d z n (listed.set k2 true) f' L' N)):
  OwD P w0 l R ts a d z (n+1) listed f L N:=OwD.softs [k,k2] hD hs fun k' bb o' sw=>by
 simp only[List.mem_cons,List.not_mem_nil,or_false] at bb
 rcases bb with rfl|rfl
 ·rw[hk] at sw;cases sw;exact h
 rw[mQ] at sw;cases sw;exact h2
def OwD.real (is:List Nat) {m:Nat} (hm:m=is.length) (hD:Drift P l ts a d z) (hr:Region.ready .any l.toArray listed.toArray= [a]) (hB:px P l.toArray ts is (listed.set a true).toArray=true) (qf: (ts.all fun t=> !(listed.set a true).toArray.getD t true)=true)
  (hl:is.map (fun i:Nat=>l[i]?)=(fS l is).map some) (hR: ∀r,r∈R→r∈keys L∨r<w0.heap.size)
  (h:nl (fS l is) fun l'=> ∀b,w0.heap.size≤b→b∉keys L→Ow P w0 l.toArray (.sof R is ts) l' (setF f d (vp b 0)) (L++ [(b,z)]) N):OwD P w0 l R ts a d z m listed f L N:=by
 subst hm
 obtain⟨⟨oa,t,zv,ha,jd,fq,hg,hz,rfl⟩,zd,cg⟩:=hD
 simp only[List.all_eq_true,Bool.not_eq_true'] at qf
 revert hl h
 generalize fS l is=l'
 intro hl h
 have aR:is.length=l'.length:=by have:=congrArg List.length hl;simpa using this
 have hF:Fits P l.toArray ts is l' (listed.set a true).toArray:=⟨aR,fun j=>by
  have:=congrArg (·[j]?) hl
  simp only[List.getElem?_map] at this
  cases hj:is[j]? with
  |none=>
   rw[hj] at this
   simp only[Option.map_none] at this
   cases eT:l'[j]? with
   |none=>rfl
   |some x=>rw[eT] at this;cases this
  |some i=>
   rw[hj] at this
   simp only[Option.map_some] at this
   cases eT:l'[j]? with
   |none=>rw[eT] at this;cases this
   |some x=>
    rw[eT] at this
    simp only[Option.map_some,Option.some.injEq] at this
    simp[this],cg,hB⟩
 have Z1: ∀b,w0.heap.size≤b→b∉keys L→ ∀r,r∈R→aS w0 (L++ [(b,Obj.cells zv.cells t)]) r=aS w0 L r:=by
  intro b hb iT r hr
  unfold aS
  cases cJ:look L r with
  |some o=>rw[cT cJ]
  |none=>
   have qY:r∉keys L:=CF cJ
   have aQ:b≠r:=by
    rcases hR r hr with h|h
    ·exact absurd h qY
    omega
   rw[gO qY]
   unfold look
   rw[if_neg aQ];rfl
 have t2: ∀b w,w0.heap.size≤b→b∉keys L→Hp w0 (L++ [(b, .cells zv.cells t)]) w→jJ P l.toArray (dr w0 N) ts (SR w0 R L) is.length (listed.set a true).toArray (act (setF f d (vp b 0))) w:=by
  intro b w hb iT hw
  rw[aR,us (Z1 b hb iT)]
  exact h b hb iT _ hF (fun t ht=>qf t ht) w hw
 refine⟨fun w hw=>⟨fun _=>SR.of hw,(fun h=>by rw[hr] at h;cases h),fun i hi=> ?_⟩,t2⟩
 rw[hr,List.mem_singleton] at hi
 subst hi
 refine UG ha jd fq hg hz ?_
 rw[lc]
 exact t2 _ _ hw.size (fun hm=>Nat.lt_irrefl _ (hw.lt hm)) (hw.alloc _)
def Cw.regionD {id:Nat} (R ts:List Nat) (a d t m:Nat) (zv:Value) (hl:l.length=m+1) (hm:P.follows .mixedOrders=true) (jd: ((cb l a).map fun o=>(o.op,o.dst,o.guard))=some (.alloc t,some d,none)) (qf:ts.contains a=false) (cg:Region.noSelect l.toArray=true) (hz:bL P t=some zv)
  (h:Drift P l ts a d (.cells zv.cells t)→OwD P w0 l R ts a d (.cells zv.cells t) m (List.replicate (m+1) false) f L (K .normal)):Cw P w0 (.region id l.toArray true) f L K:=by
 intro w hw
 refine wp_mono (wp_region_any hm ?_) fun _ _ _ h=>uY h
 have hD:Drift P l ts a d (.cells zv.cells t):=by
  cases hn:cb l a with
  |none=>rw[hn] at jd;cases jd
  |some oa=>
   rw[hn] at jd
   simp only[Option.map_some,Option.some.injEq,Prod.mk.injEq] at jd
   exact⟨⟨oa,t,zv,by rw[lG] at hn;simpa using hn,jd.1,jd.2.1,jd.2.2,hz,rfl⟩,by simpa using qf,cg⟩
 have h1:=(h hD).1 w.drew hw.drew
 have:=BE _ _ _ _ h1
 simpa [hl] using this
end
end Go.Sx
namespace Go.Sx
open Go
def Gr (L:aA) (E:TypeId) (m:Nat) (v:Value) (n:Nat) (cs:List Value):Prop:=
 Buf L E m v n cs∨(n=0∧cs= []∧ ∃b,v=vsl b 0 0 0∧look L b=some (.cells #[] E (0,0)))
theorem Gr.nl {L:aA} {E:TypeId} {m:Nat}:Gr L E m (.slice none 0 0) 0 []:= .inl .nl
def Grew.any {w0:World} {v v':Value} {L L':aA} (h:Grew w0 v L L') (hv:slB v=none):Grew w0 v' L L':=
 ⟨h.keys,h.new,fun c o _ hl=>h.look c o (by rw[hv];simp) hl⟩
theorem Gr.keep {L L':aA} {E:TypeId} {m n:Nat} {v:Value} {cs:List Value} (h:Gr L E m v n cs) (hk: ∀b o,slB v=some b→look L b=some o→look L' b=some o):Gr L' E m v n cs:=by
 rcases h with h| ⟨h1,h2,b,rfl,h3⟩
 ·exact .inl (h.keep hk)
 exact .inr ⟨h1,h2,b,rfl,hk b _ rfl h3⟩
def Gr.app {L M:aA} {E:TypeId} {m n:Nat} {v:Value} {cs:List Value} (h:Gr L E m v n cs):Gr (L++M) E m v n cs:=h.keep fun _ _ _ hl=>cT hl
theorem Gr.len {L:aA} {E:TypeId} {m n:Nat} {v:Value} {cs:List Value} (h:Gr L E m v n cs) (x:Bool×Nat):eF (.sl x) v=some (vi n):=by
 rcases h with h| ⟨rfl,rfl,b,rfl,-⟩
 ·exact h.len x
 rfl
theorem Gr.cell {L:aA} {E:TypeId} {m n:Nat} {v:Value} {cs:List Value} (h:Gr L E m v n cs):Value.oneCell' v=true∧v.cells= #[v]:=by
 rcases h with h| ⟨rfl,rfl,b,rfl,-⟩
 ·exact h.cell
 exact⟨rfl,rfl⟩
def Gr.key {L:aA} {E:TypeId} {m n:Nat} {v:Value} {cs:List Value} (h:Gr L E m v n cs) {b:Nat} (hb:slB v=some b):b∈keys L:=by
 rcases h with h| ⟨rfl,rfl,c,rfl,hl⟩
 ·rcases h.inv with⟨rfl,-,-⟩ | ⟨c,cc,rest,rfl,hl,-⟩
  ·cases hb
  cases hb;exact bX hl
 cases hb;exact bX hl
section
variable {α:Type} {m:Nat} {enc:α→List Value} {z:α} {w:World} {v:Value} {l:List α}
theorem Gr.slM {L:aA} {E:TypeId} {n:Nat} {cs:List Value} (h:Gr L E m v n cs) (hw: ∀b o,(b,o)∈L→w.heap[b]? =some o) (hl:l.length=n) (eS:cs=(l.map enc).flatten) (hm: ∀x,(enc x).length=m):SlV m enc z w v l:=by
 rcases h with h| ⟨rfl,rfl,b,rfl,cJ⟩
 ·exact h.slM hw hl eS hm
 obtain rfl:l= []:=List.eq_nil_of_length_eq_zero hl
 exact SlV.sl (l:=([]:List α)) (off:=0) (c:=0) (hw _ _ (cQ cJ)) (fun k hk=>by simp at hk) (ag 0) (by simp)
def Gr.slV {L:aA} {E:TypeId} {n:Nat} {cs:List Value} {w0:World} (h:Gr L E m v n cs) (hw:Hp w0 L w) (hl:l.length=n) (eS:cs=(l.map enc).flatten) (hm: ∀x,(enc x).length=m):SlV m enc z w v l:=h.slM hw.has hl eS hm
theorem Ts (hm: ∀x,(enc x).length=m) (arr:Array Value): ∀ (ls:List α) (off:Nat),off+ls.length*m≤arr.size→(∀k j,k<ls.length→j<m→arr[off+k*m+j]? =(enc (ls.getD k z))[j]?)→
  (arr.extract off (off+ls.length*m)).toList=(ls.map enc).flatten
 | [],off,_,_=>by simp
 |r::ls,off,hs,h=>by
  have jZ: (r::ls).length*m=m+ls.length*m:=by rw[List.length_cons,Nat.add_mul,Nat.one_mul,Nat.add_comm]
  rw[jZ] at hs ⊢
  have ih:=Ts hm arr ls (off+m) oM (fun k j hk hj=>by
   have:=h (k+1) j (by simpa using hk) hj
   rw[List.getD_cons_succ] at this
   rw[←this];congr 1;rw[Nat.add_mul,Nat.one_mul];omega)
  have h0: (arr.extract off (off+m)).toList=enc r:=by
   apply List.ext_getElem?
   intro j
   rw[Array.getElem?_toList,Array.getElem?_extract]
   by_cases hj:j<m
   ·rw[if_pos oM]
    have:=h 0 j (by simp) hj
    simpa using this
   rw[if_neg oM,List.getElem?_eq_none (by rw[hm];omega)]
  rw[List.map_cons,List.flatten_cons,←ih,←h0,←Array.toList_append]
  congr 1
  rw[Array.extract_append_extract]
  congr 1<;>omega
def ET (hm: ∀x,(enc x).length=m) (l:List α): (l.map enc).flatten.length=l.length*m:=by
 induction l with
 |nil=>simp
 |cons x r ih=>rw[List.map_cons,List.flatten_cons,List.length_append,ih,hm,List.length_cons,Nat.add_mul,Nat.one_mul,Nat.add_comm]
def AppX.one1 {P:Program} {b:Nat} {E:TypeId} {fz:Nat×Nat} {cs:List Value} (hb:w.heap[b]? =some (.cells cs.toArray E fz)) (hm:cs.length=m) (h1:cs.all Value.oneCell'=true):AppX P w m (vsl b 0 1 1) 1 cs:=by
 refine AppX.block (w0:=w) (L:= []) (by rw[C2];exact hb) (by simp;omega) ?_ h1 (Hp.refl w)
 rw[List.extract_toArray,List.extract_eq_take_drop,List.drop_zero,List.take_of_length_le oM]
def SlV.appX {P:Program} (h:SlV m enc z w v l) (hm: ∀x,(enc x).length=m) (h1: ∀x,(enc x).all Value.oneCell'=true):AppX P w m v l.length (l.map enc).flatten:=by
 obtain⟨b,off,c,arr,E,fz,hr,hc,hv⟩:=h
 rcases hv with⟨rfl,rfl,rfl⟩ | ⟨rfl,fr,e8⟩
 ·exact AppX.nil P w m
 refine AppX.block (w0:=w) (L:= []) (by rw[C2];exact fr) e8 (Ts (z:=z) hm arr l off e8 (fun k j hk hj=>hr.get k hk j hj)) ?_ (Hp.refl w)
 rw[List.all_flatten,List.all_map,List.all_eq_true]
 exact fun r _=>h1 r
end
section
variable {P:Program} {w0:World} {f:Fr} {L:aA} {N:Fr→aA→Prop} {ops:Array Oper} {rest:List Oper} {md:Md}
 {d:Option Tmp} {ty:TypeId} {ps:String} {af:Array Edge} {g:Option (Nat×Bool)}
def Ow.appendG {ts tx e:TypeId} {m:Bool×Nat} {z:Value} {s x:Operand} {n k:Nat} {cs new:List Value} {dx:TypeDesc} {md':Md} (sv:Value) (pQ:ev f s=sv) (he:md.turn=some md')
  (hs:aw ops f ⟨d, .call ⟨.builtin .append, #[s,x], #[ts,tx]⟩,ty,ps,af,g⟩=false)
  (hu:P.underlying ts=some (.slice e)) (hm:aM P e=some m) (hi:pg P e=true) (hz:bL P e=some z) (l5:z.cells.size=m.2) (i':P.underlying tx=some dx) (ft: ∀k,dx≠ .int k)
  (hB:Gr L e m.2 sv n cs) (hX: ∀w,Hp w0 L w→AppX P w m.2 (ev f x) k new) (aR:new.length=k*m.2) (cn:2* (n+k)+768≤2^38)
  (hn: ∀v' L',Gr L' e m.2 v' (n+k) (cs++new)→(0<k→Buf L' e m.2 v' (n+k) (cs++new))→Grew w0 sv L L'→(slB v'=slB sv∨ ∃c,slB v'=some c∧dq L c)→Ow P w0 ops md' rest (aW f d v') L' N):
  Ow P w0 ops md (⟨d, .call ⟨.builtin .append, #[s,x], #[ts,tx]⟩,ty,ps,af,g⟩::rest) f L N:=by
 rcases hB with hB| ⟨rfl,rfl,b,rfl,cJ⟩
 ·exact Ow.append sv pQ he hs hu hm hi hz l5 i' ft hB hX cn fun v' L' h1 h2 h3=>hn v' L' (.inl h1) (fun _=>h1) h2 h3
 refine Ow.appendEm pQ he hs hu hm hi hz l5 i' ft hX cn (fun h0=> ?_) (fun v' L' hk h1 h2 h3=> ?_)
 ·subst h0
  obtain rfl:new= []:=List.eq_nil_of_length_eq_zero (by rw[aR,Nat.zero_mul])
  exact hn _ L (.inr ⟨rfl,rfl,b,rfl,cJ⟩) (fun h=>absurd h (Nat.lt_irrefl 0)) (Grew.refl _ _ _) (.inl rfl)
 exact hn v' L' (.inl h1) (fun _=>h1) (h2.any rfl) (.inr h3)
end
end Go.Sx
namespace Go.Sx
open Go
def pb {A D E:aA}: (A++D++E).Perm (A++E++D):=by
 rw[List.append_assoc,List.append_assoc]
 exact List.Perm.append_left A List.perm_append_comm
def tR {w0:World} {L M:aA} {r:Nat} (h:r∈keys L):aS w0 (L++M) r=aS w0 L r:=by
 obtain⟨o,ho⟩:=Bo h
 rw[ad ho,ad (cT ho)]
def ju {w0:World} {L M:aA} {R:List Nat} (h: ∀r,r∈R→r∈keys L): ∀r,r∈R→aS w0 (L++M) r=aS w0 L r:=fun r hr=>tR (h r hr)
theorem New.of_le {n:Nat}: ∀ {D:aA},(∀c,c∈keys D→n≤c)→New n D
 | [],_=>trivial
 | (b,o)::r,h=>⟨h b (by simp[keys]),New.of_le fun c hc=>h c (by simp only[keys,List.map_cons,List.mem_cons] at hc ⊢;exact .inr hc)⟩
def BC {w0:World} {L M:aA} {r:Nat} (h:r∉keys M):aS w0 (M++L) r=aS w0 L r:=by
 unfold aS;rw[gO h]
def Rets.quiet {P:Program} {k:FuncId} {args:Array Value} {w:World} {S:Value→Prop} (h:Rets P k args w (XS w [] (fun v _=>S v))):Rets P k args w (fun v D=>S v∧D= []):=
 Calls.mono h fun e w' ⟨v,D,he,hp,hx,hs⟩=>⟨v,[],he,hp.garbage (New.of_le fun c hc=>(hx.new c hc).resolve_left (by intro h;cases h)),hs,rfl⟩
def Ext.new0 {w:World} {D:aA} (h:Ext w [] D):New w.heap.size D:=by
 have hn:=h.new
 have key: ∀ (D:aA),(∀c,c∈Sx.keys D→w.heap.size≤c)→New w.heap.size D:=by
  intro D
  induction D with
  |nil=>intro _;trivial
  |cons p r ih=>
   obtain⟨b,o⟩:=p
   intro hh
   exact⟨hh b (by simp[Sx.keys]),ih fun c hc=>hh c (by simp only[Sx.keys,List.map_cons,List.mem_cons] at hc ⊢;exact .inr hc)⟩
 refine key D fun c hc=> ?_
 rcases hn c hc with h1|h1
 ·cases h1
 exact h1
def Ext.of_new {w:World} {D:aA} (h:New w.heap.size D):Ext w [] D:=⟨fun c hc=> .inr (h.le c hc),fun c hc=>by cases hc⟩
section
variable {P:Program} {w0:World} {f:Fr} {L:aA} {N:Fr→aA→Prop} {K:bY} {ops:Array Oper} {rest:List Oper} {md:Md}
 {d:Option Tmp} {ty:TypeId} {ps:String} {af:Array Edge} {g:Option (Nat×Bool)}
theorem ql {b:Nat} {o:Obj}: ∀ {B:aA},(keys B).Nodup→(b,o)∈B→look B b=some o
 | [],_,h=>by cases h
 | (c,x)::q,hn,h=>by
  simp only[keys,List.map_cons,List.nodup_cons] at hn
  unfold look
  rcases List.mem_cons.1 h with h|h
  ·cases h;rw[if_pos rfl]
  have:c≠b:=fun e=>hn.1 (e▸List.mem_map.2 ⟨_,h,rfl⟩)
  rw[if_neg this]
  exact ql hn.2 h
def SR.perm {R:List Nat} {M:aA} (h:M.Perm L) (hn: (keys L).Nodup):SR w0 R M=SR w0 R L:=by
 refine us fun r _=> ?_
 have hk: ∀ (A B:aA),A.Perm B→(keys B).Nodup→ ∀o,look A r=some o→look B r=some o:=fun A B hp hB o ho=>ql hB (hp.mem_iff.1 (cQ ho))
 have Zl: (keys M).Nodup:=(List.Perm.nodup_iff (h.map Prod.fst)).2 hn
 unfold aS
 cases hl:look L r with
 |some o=>rw[hk L M h.symm Zl o hl]
 |none=>
  cases hm:look M r with
  |none=>rfl
  |some o=>rw[hk M L h hn o hm] at hl;cases hl
def OwD.permL {l:List Oper} {listed:List Bool} {n:Nat} {R ts:List Nat} {a d:Nat} {z:Obj} {M:aA} (hp:M.Perm L) (h:OwD P w0 l R ts a d z n listed f M N):OwD P w0 l R ts a d z n listed f L N:=by
 refine⟨fun w hw=> ?_,fun b w hb iT hw=> ?_⟩
 ·have:=h.1 w (hw.perm hp)
  rw[SR.perm hp hw.nodup] at this
  exact this
 have ay: (keys L).Nodup:=by
  have:=hw.nodup
  rw[aZ,List.nodup_append] at this
  exact this.1
 have:=h.2 b w hb (fun hm=>iT (by have:=(hp.map Prod.fst).mem_iff.1 hm;exact this)) (hw.perm (hp.append_right _))
 rw[SR.perm hp ay] at this
 exact this
def Cw.permL {c:Code} {M:aA} (hp:M.Perm L) (h:Cw P w0 c f M K):Cw P w0 c f L K:=fun w hw=>h w (hw.perm hp)
def Ow.permL {M:aA} {l:List Oper} (hp:M.Perm L) (h:Ow P w0 ops .seq l f M N):Ow P w0 ops .seq l f L N:=fun w hw=>h w (hw.perm hp)
def Ow.callC {l:List Operand} {ts:Array TypeId} {k:FuncId} {S:Value→aA→Prop} {md':Md} (he:md.turn=some md')
  (hs:aw ops f ⟨d, .call ⟨.value (.func k),l.toArray,ts⟩,ty,ps,af,g⟩=false)
  (hk: ∀a w,(callFunc k a).run P w= .ok (.enter k a) w)
  (hc: ∀w,Hp w0 L w→Rets P k (l.map (ev f)).toArray w (XS w [] S))
  (hn: ∀B v D,dq L B→w0.heap.size≤B→New B D→S v D→Ow P w0 ops md' rest (aW f d v) (L++D) N):
  Ow P w0 ops md (⟨d, .call ⟨.value (.func k),l.toArray,ts⟩,ty,ps,af,g⟩::rest) f L N:=
 Ow.callN he hs hk (S:=fun B v D=>New B D∧S v D) (fun w hw=>(hc w hw).mono fun _v _D h=>⟨h.1.new0,h.2⟩) (fun _ _ _ h=>h.1) (fun B v D hA hB hS=>hn B v D hA hB hS.1 hS.2)
def Hp.part {w:World} {X Y:aA} (h:Hp w0 (X++Y) w):Hp w X w:=
 ⟨fun b o hm=>h.has b o (bQ _ hm),by have:=h.nodup;rw[aZ,List.nodup_append] at this;exact this.1,fun _ _ _=>rfl,ag _,rfl,rfl,rfl⟩
def Hp.join {w w':World} {X Y D:aA} (h:Hp w0 (X++Y) w) (k:Hp w D w') (h1: ∀c,c∈keys X→c∈keys D) (h2: ∀c,c∈keys D→c∈keys X∨w.heap.size≤c):Hp w0 (D++Y) w':=by
 have ay:=h.nodup
 rw[aZ,List.nodup_append] at ay
 have hY: ∀c,c∈keys Y→c∉keys D:=by
  intro c hc hd
  rcases h2 c hd with hx|hx
  ·exact ay.2.2 c hx c hc rfl
  have:=h.lt (b:=c) (by rw[aZ];exact dS _ hc)
  omega
 have ht:=h.trans k
 have e: (X++Y).filter (fun p=> !(keys D).contains p.1)=Y:=by
  rw[List.filter_append,Aw hY]
  have:X.filter (fun p=> !(keys D).contains p.1)= []:=by
   rw[List.filter_eq_nil_iff]
   intro p hp
   have:=h1 p.1 (List.mem_map.2 ⟨p,hp,rfl⟩)
   simp[this]
  rw[this,List.nil_append]
 rw[e] at ht
 exact ht.perm List.perm_append_comm
def Ow.appendX {ts tx e:TypeId} {m:Bool×Nat} {z:Value} {s x:Operand} {n k:Nat} {cs new:List Value} {dx:TypeDesc} {md':Md} {X Y:aA} (sv:Value) (hL:L=X++Y) (pQ:ev f s=sv) (he:md.turn=some md')
  (hs:aw ops f ⟨d, .call ⟨.builtin .append, #[s,x], #[ts,tx]⟩,ty,ps,af,g⟩=false)
  (hu:P.underlying ts=some (.slice e)) (hm:aM P e=some m) (hi:pg P e=true) (hz:bL P e=some z) (l5:z.cells.size=m.2) (i':P.underlying tx=some dx) (ft: ∀k,dx≠ .int k)
  (hB:Gr X e m.2 sv n cs) (hX: ∀w,Hp w0 L w→AppX P w m.2 (ev f x) k new) (hk:0<k) (cn:2* (n+k)+768≤2^38)
  (hn: ∀B v' D,dq L B→w0.heap.size≤B→Buf D e m.2 v' (n+k) (cs++new)→(∀c,c∈keys X→c∈keys D)→(∀c,c∈keys D→c∈keys X∨B≤c)→(∀c o,slB sv≠some c→look X c=some o→look D c=some o)→Ow P w0 ops md' rest (aW f d v') (D++Y) N):
  Ow P w0 ops md (⟨d, .call ⟨.builtin .append, #[s,x], #[ts,tx]⟩,ty,ps,af,g⟩::rest) f L N:=by
 subst hL
 refine Ow.step he rfl hs fun w hw=> ?_
 have hp:=hw.part
 have hA:dq (X++Y) w.heap.size:=gK fun b hb=>hw.lt hb
 have fin: ∀v' w' D,(Builtin.append_ #[ts,tx] ty #[sv,ev f x]).run P w= .ok v' w'→Hp w D w'→Buf D e m.2 v' (n+k) (cs++new)→(∀c,c∈keys X→c∈keys D)→(∀c,c∈keys D→c∈keys X∨w.heap.size≤c)→(∀c o,slB sv≠some c→look X c=some o→look D c=some o)→
   (∃v w' L',(execOp (ev f) ⟨d, .call ⟨.builtin .append, #[s,x], #[ts,tx]⟩,ty,ps,af,g⟩).run P w= .ok (.value v) w'∧Hp w0 L' w'∧Ow P w0 ops md' rest (aW f d v) L' N):=by
  intro v' w' D hr hD hb h1 h2 h3
  refine⟨v',w',D++Y, ?_,hw.join hD h1 h2,hn w.heap.size v' D hA hw.size hb h1 h2 h3⟩
  simp only[execOp,resolve,Sem.run_bind,Sem.run_pure,Result.andThen_ok,invoke,builtin,List.map_toArray,List.map_cons,List.map_nil,pQ]
  rw[hr]
  rfl
 have ab: ∀w',Hp w [] w'→True:=fun _ _=>trivial
 rcases hB with hB| ⟨rfl,rfl,b,rfl,cJ⟩
 ·obtain⟨v',w',D,hr,hD,hb,hg,-⟩:=UQ (w0:=w) (L:=X) (ty:=ty) (x:=ev f x) hp hu hm hi hz l5 i' ft hB (fun w2 eW=>hX w2 (by
   refine hw.join eW (fun c hc=>hc) (fun c hc=> .inl hc))) cn
  exact .inl (fin v' w' D hr hD hb hg.keys (fun c hc=>(hg.new c hc).imp id And.right) hg.look)
 rcases Tr (w0:=w) (L:=X) (ty:=ty) (b:=b) (x:=ev f x) hp hu hm hi hz l5 i' ft (fun w2 eW=>hX w2 (by
  refine hw.join eW (fun c hc=>hc) (fun c hc=> .inl hc))) cn with⟨h0,-⟩ | ⟨-,v',w',D,hr,hD,hb,hg,-⟩
 ·omega
 exact .inl (fin v' w' D hr hD hb hg.keys (fun c hc=>(hg.new c hc).imp id And.right) (fun c o _ hl=>hg.look c o (by simp[slB]) hl))
end
def GrI (D:aA) (E:TypeId) (m:Nat) (v:Value) (n:Nat) (cs:List Value):Prop:= ∃X,(∀p,p∈X→p∈D)∧Gr X E m v n cs
def Gr.i {X D:aA} {E:TypeId} {m n:Nat} {v:Value} {cs:List Value} (h:Gr X E m v n cs) (hX: ∀p,p∈X→p∈D):GrI D E m v n cs:=⟨X,hX,h⟩
def GrI.mono {D D':aA} {E:TypeId} {m n:Nat} {v:Value} {cs:List Value} (h:GrI D E m v n cs) (hX: ∀p,p∈D→p∈D'):GrI D' E m v n cs:=by
 obtain⟨X,h1,h2⟩:=h;exact⟨X,fun p hp=>hX p (h1 p hp),h2⟩
def GrI.slV {α:Type} {m:Nat} {enc:α→List Value} {z:α} {w0 w:World} {v:Value} {l:List α} {D:aA} {E:TypeId} {n:Nat} {cs:List Value} (h:GrI D E m v n cs) (hw:Hp w0 D w) (hl:l.length=n) (eS:cs=(l.map enc).flatten) (hm: ∀x,(enc x).length=m):SlV m enc z w v l:=by
 obtain⟨X,h1,h2⟩:=h
 exact h2.slM (fun b o hm=>hw.has b o (h1 _ hm)) hl eS hm
section
variable {P:Program} {w0:World} {f:Fr} {L:aA} {N:Fr→aA→Prop}
def OwD.via {l:List Oper} {listed:List Bool} {n:Nat} {R ts:List Nat} {a d:Nat} {z:Obj} {G:Type} (F:G→Fr) (H:G→aA) (J:G→Prop) (n':Nat) (listed':List Bool)
  (start: (∀g f' L',J g→f'=F g→(H g).Perm L'→OwD P w0 l R ts a d z n' listed' f' L' N)→OwD P w0 l R ts a d z n listed f L N) (fin: ∀g,J g→OwD P w0 l R ts a d z n' listed' (F g) (H g) N):OwD P w0 l R ts a d z n listed f L N:=
 start fun g f' L' hJ hf hp=>by subst hf;exact(fin g hJ).permL hp
def Eu {L _M:aA} {b:Nat} {o:Obj} (h:b∉keys L):look (L++ [(b,o)]) b=some o:=by
 rw[gO h];exact er _ _ _
theorem Dw {b:Nat} {o x:Obj}: ∀ {L:aA},b∉keys L→setB (L++ [(b,o)]) b x=L++ [(b,x)]
 | [],_=>by rw[List.nil_append,l7];rfl
 | (c,y)::r,h=>by
  simp only[keys,List.map_cons,List.mem_cons,not_or] at h
  rw[List.cons_append,tg _ _ _ _ _ (Ne.symm h.1),Dw (by simpa [keys] using h.2)];rfl
end
end Go.Sx
namespace Go.Sx
open Go
def K0 {P:Program} {t e:TypeId} {m:Nat} {zc:Array Value} {cs:List Value} (hu:P.underlying t=some (.slice e)) (ha:aM P e=some (true,m)) (hz:bL P e=some (.agg zc)) (hm:0<m∧m≤16777216) (hc:cs.length=m):
  ny P t 1 [(0, .agg cs.toArray)]=some (e,cs.toArray):=by
 have h2:Value.cells (.agg cs.toArray)=cs.toArray:=bI _
 have hg: ¬ (1*m>2^24):=by simp;omega
 have h0: ¬ (1*m=0):=by omega
 simp only[ny,hu,ha,hz,Option.map_some]
 rw[if_neg hg,if_neg h0]
 simp only
 generalize hI: (Array.range (1*m)).map (fun x=>(Value.cells (.agg zc))[x% (Value.cells (.agg zc)).size]!)=I
 have VT:I.size=m:=by rw[←hI];simp
 have dL:Instr.fill (fun i=>some (i*m,m)) I [(0,Value.agg cs.toArray)]=some cs.toArray:=by
  unfold Instr.fill
  have s3:cs.toArray.size=m:=by simp[hc]
  simp only[h2,s3,VT,Nat.zero_mul,ne_eq,not_true_eq_false,decide_false,Bool.false_or,Nat.zero_add,Nat.lt_irrefl,gt_iff_lt,Bool.false_eq_true, ↓reduceIte]
  unfold Instr.fill
  congr 1
  have hz:=Da cs 0 0 I
  rw[Nat.add_zero,x3 I cs (by rw[hc,VT])] at hz
  simp only[Nat.zero_add] at hz
  rw[←Array.foldl_toList,Array.toList_zipIdx]
  exact hz
 rw[dL]
 rfl
end Go.Sx
namespace Go.Sx
open Go
abbrev ltB (a b:List UInt8):Bool:=Op.bytesLess a b
theorem tu: ∀ (x y:List UInt8),ltB x y=decide (x<y)
 | [],[]=>by simp[ltB,Op.bytesLess]
 |_::_,[]=>by simp[ltB,Op.bytesLess]
 | [],_::_=>by simp[ltB,Op.bytesLess]
 |a::x,b::y=>by
  have ih:=tu x y
  simp only[ltB] at ih ⊢
  rw[Op.bytesLess,ih]
  simp only[List.cons_lt_cons_iff]
  by_cases h1:a<b<;>by_cases h2:a=b<;>by_cases h3:x<y<;>simp[h1,h2,h3]
def BF (a:List UInt8):ltB a a=false:=by
 rw[tu];simp
def tS {a b c:List UInt8} (h:ltB a b=true) (k:ltB b c=true):ltB a c=true:=by
 rw[tu,decide_eq_true_eq] at*
 exact List.lt_trans h k
def wa {a b:List UInt8} (h:ltB a b=true):ltB b a=false:=by
 cases hb:ltB b a
 ·rfl
 have:=tS h hb
 rw[BF] at this;cases this
def rp {a b:List UInt8} (h:ltB a b=true):a≠b:=by
 rintro rfl
 rw[BF] at h;cases h
def uc {a b:List UInt8} (h:ltB a b=false) (aQ:a≠b):ltB b a=true:=by
 rw[tu,decide_eq_false_iff_not] at h
 rw[tu,decide_eq_true_eq]
 rcases Std.Trichotomous.rel_or_eq_or_rel_swap (r:=(· < · :List UInt8→List UInt8→Prop)) (a:=a) (b:=b) with h1|h1|h1
 ·exact absurd h1 h
 ·exact absurd h1 aQ
 exact h1
end Go.Sx
namespace Go.StP
open Go Go.Sx
variable {α:Type} (key:α→List UInt8)
def lt (a b:α):Bool:=ltB (key a) (key b)
def Sorted (l:List α):Prop:=l.Pairwise fun a b=>lt key b a=false
def of (k:List UInt8) (l:List α):List α:=l.filter fun a=>key a==k
def St (l l':List α):Prop:= ∀k,of key k l'=of key k l
def St.refl (l:List α):St key l l:=fun _=>rfl
variable {key}
theorem St.trans {a b c:List α} (h:St key a b) (h':St key b c):St key a c:=fun k=>(h' k).trans (h k)
theorem St.symm {a b:List α} (h:St key a b):St key b a:=fun k=>(h k).symm
def oH (k:List UInt8) (a b:List α):of key k (a++b)=of key k a++of key k b:=List.filter_append ..
def St.app {a a' b b':List α} (h:St key a a') (h':St key b b'):St key (a++b) (a'++b'):=fun k=>by rw[oH,oH,h,h']
def yo {k:List UInt8} {l:List α} {x:α}:x∈of key k l↔x∈l∧key x=k:=by
 unfold of;rw[List.mem_filter];simp
def St.mem {a b:List α} (h:St key a b) (x:α):x∈b↔x∈a:=by
 have e:=h (key x)
 have h1:x∈b↔x∈of key (key x) b:=by rw[yo];simp
 have h2:x∈a↔x∈of key (key x) a:=by rw[yo];simp
 rw[h1,h2,e]
def yP {k:List UInt8} {l:List α} (h: ∀x,x∈l→key x≠k):of key k l= []:=by
 unfold of
 rw[List.filter_eq_nil_iff]
 intro x hx
 simpa using h x hx
def St.swap {a b:List α} (h: ∀x,x∈a→ ∀y,y∈b→key x≠key y):St key (a++b) (b++a):=by
 intro k
 rw[oH,oH]
 by_cases ha: ∃x,x∈a∧key x=k
 ·obtain⟨x,hx,rfl⟩:=ha
  have:of key (key x) b= []:=yP fun y hy e=>h x hx y hy e.symm
  rw[this,List.append_nil,List.nil_append]
 have:of key k a= []:=yP fun x hx e=>ha ⟨x,hx,e⟩
 rw[this,List.append_nil,List.nil_append]
def lt_trans {a b c:α} (h:lt key a b=true) (k:lt key b c=true):lt key a c=true:=tS h k
def lt_irrefl (a:α):lt key a a=false:=BF _
def Qr {a b:α} (h:lt key a b=false) (k:lt key b a=false):key a=key b:=by
 cases hk:decide (key a=key b)
 ·have aQ:key a≠key b:=of_decide_eq_false hk
  have:=uc h aQ
  unfold lt at k
  rw[this] at k;cases k
 exact of_decide_eq_true hk
def St.head {a b:α} {l l':List α} (hs:Sorted key (a::l)) (nS:Sorted key (b::l')) (h:St key (a::l) (b::l')):a=b∧St key l l':=by
 have h1:lt key b a=false:=by
  have hb:b∈a::l:=(h.mem b).1 ah
  rcases List.mem_cons.1 hb with rfl|hb
  ·exact lt_irrefl _
  exact(List.pairwise_cons.1 hs).1 b hb
 have h2:lt key a b=false:=by
  have ha:a∈b::l':=(h.mem a).2 ah
  rcases List.mem_cons.1 ha with rfl|ha
  ·exact lt_irrefl _
  exact(List.pairwise_cons.1 nS).1 a ha
 have hk:key a=key b:=Qr h2 h1
 have he:=h (key a)
 unfold of at he
 rw[List.filter_cons,List.filter_cons,if_pos (by simp[hk]),if_pos (by simp)] at he
 have i7:b=a:=(List.cons.inj he).1
 refine⟨i7.symm,fun k=> ?_⟩
 have bb:=h k
 subst i7
 unfold of at bb ⊢
 rw[List.filter_cons,List.filter_cons] at bb
 split at bb
 ·exact(List.cons.inj bb).2
 exact bb
theorem St.eq: ∀ {l l':List α},Sorted key l→Sorted key l'→St key l l'→l=l'
 | [],[],_,_,_=>rfl
 | [],b::l',_,_,h=>by
  have:b∈ ([]:List α):=(h.mem b).1 ah
  cases this
 |a::l,[],_,_,h=>by
  have:a∈ ([]:List α):=(h.mem a).2 ah
  cases this
 |a::l,b::l',hs,nS,h=>by
  obtain⟨rfl,h'⟩:=St.head hs nS h
  rw[St.eq (List.pairwise_cons.1 hs).2 (List.pairwise_cons.1 nS).2 h']
def Sorted.app {a b:List α} (ha:Sorted key a) (hb:Sorted key b) (h: ∀x,x∈a→ ∀y,y∈b→lt key y x=false):Sorted key (a++b):=
 List.pairwise_append.2 ⟨ha,hb,h⟩
def Sorted.left {a b:List α} (h:Sorted key (a++b)):Sorted key a:=(List.pairwise_append.1 h).1
def Sorted.right {a b:List α} (h:Sorted key (a++b)):Sorted key b:=(List.pairwise_append.1 h).2.1
end Go.StP
namespace Go.Sx
open Go
section
variable {α:Type} (enc:α→List Value)
def rowO (E:TypeId) (rest:List Value) (d:List α):Obj:= .cells ((d.map enc).flatten++rest).toArray E (0,0)
variable {enc} {m:Nat} {E:TypeId} {rest:List Value} {d:List α} {z:α}
end
section
variable {P:Program} {w0:World} {f:Fr} {L:aA} {N:Fr→aA→Prop} {ops:Array Oper} {rest:List Oper} {md:Md} {d:Option Tmp} {ty:TypeId} {ps:String} {af:Array Edge} {g:Option (Nat×Bool)}
end
end Go.Sx
namespace Go.StP
open Go Go.Sx
variable {α:Type} {key:α→List UInt8} {z:α}
def JZ {a b:List α} {k:Nat} (h:k<a.length): (a++b).getD k z=a.getD k z:=by
 rw[List.getD_eq_getElem?_getD,List.getD_eq_getElem?_getD,List.getElem?_append_left h]
def J5 {a b:List α} {k:Nat} (h:a.length≤k): (a++b).getD k z=b.getD (k - a.length) z:=by
 rw[List.getD_eq_getElem?_getD,List.getD_eq_getElem?_getD,List.getElem?_append_right h]
def getD_mem {l:List α} {k:Nat} (h:k<l.length):l.getD k z∈l:=by
 rw[List.getD_eq_getElem?_getD,List.getElem?_eq_getElem h];exact List.getElem_mem h
def mem_getD {l:List α} {x:α} (h:x∈l): ∃k,k<l.length∧l.getD k z=x:=by
 obtain⟨k,hk,rfl⟩:=List.mem_iff_getElem.1 h
 exact⟨k,hk,by rw[List.getD_eq_getElem?_getD,List.getElem?_eq_getElem hk];rfl⟩
def getD_take {l:List α} {k n:Nat} (h:k<n): (l.take n).getD k z=l.getD k z:=by
 rw[List.getD_eq_getElem?_getD,List.getD_eq_getElem?_getD,List.getElem?_take,if_pos h]
def getD_drop {l:List α} {k n:Nat}: (l.drop n).getD k z=l.getD (n+k) z:=by
 rw[List.getD_eq_getElem?_getD,List.getD_eq_getElem?_getD,List.getElem?_drop]
def take_snoc {l:List α} {k:Nat} (h:k<l.length):l.take (k+1)=l.take k++ [l.getD k z]:=by
 rw[List.getD_eq_getElem?_getD,List.getElem?_eq_getElem h]
 exact List.take_succ_eq_append_getElem h
def Sorted.at_ {l:List α} (h:Sorted key l) {i j:Nat} (kr:i≤j) (hj:j<l.length):lt key (l.getD j z) (l.getD i z)=false:=by
 rcases Nat.lt_or_eq_of_le kr with h1|rfl
 ·have:=List.pairwise_iff_getElem.1 h i j oM hj h1
  rw[List.getD_eq_getElem?_getD,List.getD_eq_getElem?_getD,List.getElem?_eq_getElem hj,List.getElem?_eq_getElem (show i<l.length by omega)]
  exact this
 exact lt_irrefl _
end Go.StP
namespace Go.Sx
open Go
def pU {α:Type}: (∀ (a:α) (l:List α),(a::l).length=l.length+1)∧([]:List α).length=0∧(∀ (l:List α) (i:Nat) (a:α),(l.set i a).length=l.length)∧(∀ (l m:List α),(l++m).length=l.length+m.length)∧
  (∀ (n:Nat) (a:α),(List.replicate n a).length=n)∧(∀ (n:Nat) (l:List α),(l.take n).length=min n l.length)∧(∀ (n:Nat) (l:List α),(l.drop n).length=l.length - n)∧ ∀ {β:Type} (f:α→β) (l:List α),(l.map f).length=l.length:=
 ⟨fun _ _=>List.length_cons,List.length_nil,fun _ _ _=>List.length_set,fun _ _=>List.length_append,fun _ _=>List.length_replicate,fun _ _=>List.length_take,fun _ _=>List.length_drop,fun _ _=>List.length_map ..⟩
def pT: (∀n:Nat,((n:Int)).toNat=n)∧(∀l:List UInt8,(a8 l).size=l.length)∧(∀l:List UInt32,(a32 l).size=l.length)∧(∀p:Prop,(p∧p)=p)∧(∀p:Prop,(p∧True)=p)∧ ∀p:Prop,(True∧p)=p:=
 ⟨Int.toNat_natCast,vG,Be,fun _=>and_self _,fun _=>and_true _,fun _=>true_and _⟩
inductive Tag {α:Type} (x:α):Type
 |mk:Tag x
def seqN (F:Fr→aA→bY→Prop) (K:bY) (f:Fr) (L:aA):Prop:=F f L K
def cdC (v:Value) (A B S:Prop) (_:Tag (A,B,S)):Prop:=
 match v with
 | .bool true=>A
 | .bool false=>B
 |_=>S
abbrev CwS (P:Program) (w0:World) (c:Code) (f:Fr) (L:aA) (K:bY) (_:Tag (c,K)):Prop:=Cw P w0 c f L K
abbrev OwS (P:Program) (w0:World) (ops:Array Oper) (md:Md) (l:List Oper) (f:Fr) (L:aA) (N:Fr→aA→Prop) (_:Tag (ops,l,N)):Prop:=Ow P w0 ops md l f L N
def bsK (K:bY) (e:Exit) (f:Fr) (L:aA):Dep K:=K e f L
def bsN (N:Fr→aA→Prop) (f:Fr) (L:aA):Dep N:=N f L
abbrev bsR (K:bY) (e:Exit) (f:Fr) (L:aA) (_:Tag K):Prop:=K e f L
abbrev bsM (N:Fr→aA→Prop) (f:Fr) (L:aA) (_:Tag N):Prop:=N f L
def owk (P:Program) (w0:World) (ops:Array Oper) (N:Fr→aA→Prop) (md:Md) (l:List Oper) (f:Fr) (L:aA):Dep (ops,N):=
 match l with
 | []=>N f L
 |o::r=>Ow P w0 ops md (o::r) f L N
def fid:Code→Nat
 | .seq a _=>fid a
 | .region i _ _=>i
 | .block _ c=>fid c
 | .loop c=>fid c
 | .scope c=>fid c
 |_=>500000
def jR (z:List Nat) (c:Code):Bool:=match z with
 | []=>false
 |k::r=>(k==1000000+fid c) ||jR r c
def vcC (P:Program) (w0:World) (z:List Nat):Code→Fr→aA→bY→Prop
 | .seq x y,f,L,K=>ib (jR z (.seq x y)) (CwS P w0 (.seq x y) f L K .mk) (vcC P w0 z x f L (j6 (seqN (fun f L K=>ib (z.contains 999999) (CwS P w0 y f L K .mk) (vcC P w0 z y f L K)) K) K))
 | .skip,f,L,K=>K .normal f L
 | .exit i,f,L,K=>K (.exit i) f L
 | .goto i,f,L,K=>K (.goto i) f L
 | .ret,f,L,K=>K .ret f L
 | .label l,f,L,K=>ib (z.contains 999999) (Cw P w0 (.label l) f L K) (K .normal f L)
 | .block id c,f,L,K=>vcC P w0 z c f L (kG id K)
 | .cond c x y,f,L,K=> ∃b,ev f c= .bool b∧(b=true→vcC P w0 z x f L K)∧(b=false→vcC P w0 z y f L K)
 | .region id ops false,f,L,K=>ib (z.contains id) (Cw P w0 (.region id ops false) f L K) (vcL P w0 ops true .seq ops.toList f L (owk P w0 ops (K .normal)))
 |c,f,L,K=>Cw P w0 c f L K
section
variable {P:Program} {w0:World} {f:Fr} {L:aA} {K:bY} {N:Fr→aA→Prop} {ops:Array Oper} {md:Md} {l:List Oper}
def yi (h:owk P w0 ops N md l f L):Ow P w0 ops md l f L N:=by
 cases l with
 |nil=>exact Ow.nil h
 |cons o r=>exact h
def Ow.go (he:md.eff=true) (h:vcL P w0 ops true md l f L (owk P w0 ops (bsN N))):Ow P w0 ops md l f L N:=
 uT _ (fun _ _ _ _ h=>yi h) true l md f L (fun _=>he) h
def Ow.goQ (h:vcL P w0 ops false md l f L (owk P w0 ops (bsN N))):Ow P w0 ops md l f L N:=
 uT _ (fun _ _ _ _ h=>yi h) false l md f L (fun e=>by cases e) h
theorem ue {z:List Nat}: ∀ (c:Code) {f:Fr} {L:aA} {K:bY},vcC P w0 z c f L K→Cw P w0 c f L K
 | .seq x y,f,L,K,h=>by
   unfold vcC at h
   cases hs:jR z (.seq x y) with
   |true=>rw[hs] at h;exact h
   |false=>
    rw[hs] at h
    refine Cw.seq ((ue x h).mono fun e f L k=> ?_)
    cases e with
    |normal=>
     have k':ib (z.contains 999999) (CwS P w0 y f L K .mk) (vcC P w0 z y f L K):=k
     cases hz:z.contains 999999 with
     |true=>rw[hz] at k';exact k'
     |false=>rw[hz] at k';exact ue y k'
    |_=>exact k
 | .skip,_,_,_,h=>Cw.skip h
 | .exit _,_,_,_,h=>Cw.exit h
 | .goto _,_,_,_,h=>Cw.goto h
 | .ret,_,_,_,h=>Cw.ret h
 | .label l,_,_,_,h=>by
   unfold vcC at h
   cases hz:z.contains 999999 with
   |true=>rw[hz] at h;exact h
   |false=>rw[hz] at h;exact Cw.label h
 | .block id c,_,_,_,h=>Cw.block (ue c h)
 | .cond c x y,_,_,_,⟨b,hb,h1,h2⟩=>Cw.cond hb (fun e=>ue x (h1 e)) (fun e=>ue y (h2 e))
 | .region id ops false,f,L,K,h=>by
   obtain⟨l⟩:=ops
   unfold vcC at h
   cases hz:z.contains id with
   |true=>rw[hz] at h;exact h
   |false=>rw[hz] at h;exact Cw.region (Ow.go rfl h)
 | .region _ _ true,_,_,_,h=>h
 | .loop _,_,_,_,h=>h
 | .rangeFunc _ _ _ _,_,_,_,h=>h
 | .scope _,_,_,_,h=>h
 | .refuse _,_,_,_,h=>h
end
class Steps (c:Code):Prop
instance {x y:Code}:Steps (.seq x y):=⟨⟩
instance:Steps .skip:=⟨⟩
instance {i:Nat}:Steps (.exit i):=⟨⟩
instance {i:Nat}:Steps (.goto i):=⟨⟩
instance:Steps .ret:=⟨⟩
instance {i:Nat} {c:Code}:Steps (.block i c):=⟨⟩
instance {c:Operand} {x y:Code}:Steps (.cond c x y):=⟨⟩
instance {i:Nat} {ops:Array Oper}:Steps (.region i ops false):=⟨⟩
def Cw.go {P:Program} {w0:World} {c:Code} {f:Fr} {L:aA} {K:bY} (z:List Nat) [Steps c] (h:vcC P w0 z c f L (bsK K)):Cw P w0 c f L K:=ue c h
@[congr] theorem YE {v v':Value} {A B S:Prop} {t:Tag (A,B,S)} (h:v=v'):cdC v A B S t=cdC v' A B S t:=by rw[h]
section
variable (P:Program) (w0:World) (z:List Nat) (f:Fr) (L:aA) (K:bY) (N:Fr→aA→Prop) (ops:Array Oper) (md:Md)
def NM (x y:Code):vcC P w0 [] (.seq x y) f L K=vcC P w0 [] x f L (j6 (seqN (fun f L K=>vcC P w0 [] y f L K) K) K):=(rfl)
def NL (k:Nat) (z:List Nat) (x y:Code):vcC P w0 (k::z) (.seq x y) f L K=ib (jR (k::z) (.seq x y)) (CwS P w0 (.seq x y) f L K .mk) (vcC P w0 (k::z) x f L (j6 (seqN (fun f L K=>ib ((k::z).contains 999999) (CwS P w0 y f L K .mk) (vcC P w0 (k::z) y f L K)) K) K)):=(rfl)
def Ml:vcC P w0 z .skip f L K=K .normal f L:=(rfl)
def N2 (i:Nat):vcC P w0 z (.exit i) f L K=K (.exit i) f L:=(rfl)
def Lw (i:Nat):vcC P w0 z (.goto i) f L K=K (.goto i) f L:=(rfl)
def Oh:vcC P w0 z .ret f L K=K .ret f L:=(rfl)
def LF (i:Nat):vcC P w0 z (.label i) f L K=ib (z.contains 999999) (CwS P w0 (.label i) f L K .mk) (K .normal f L):=(rfl)
def M8 (i:Nat) (c:Code):vcC P w0 z (.block i c) f L K=vcC P w0 z c f L (kG i K):=(rfl)
def N3 (c:Operand) (x y:Code):vcC P w0 z (.cond c x y) f L K=cdC (ev f c) (vcC P w0 z x f L K) (vcC P w0 z y f L K) (vcC P w0 z (.cond c x y) f L K) .mk:=by
 unfold cdC
 split
 ·rename_i h;simp[vcC,h]
 ·rename_i h;simp[vcC,h]
 rfl
def Ij (i:Nat) (l:List Oper):vcC P w0 z (.region i l.toArray false) f L K=ib (z.contains i) (CwS P w0 (.region i l.toArray false) f L K .mk) (vcL P w0 l.toArray true .seq l f L (owk P w0 l.toArray (K .normal))):=(rfl)
def KL (i:Nat) (ops:Array Oper):vcC P w0 z (.region i ops true) f L K=CwS P w0 (.region i ops true) f L K .mk:=(rfl)
def NS (c:Code):vcC P w0 z (.loop c) f L K=CwS P w0 (.loop c) f L K .mk:=(rfl)
def LP (c:Code):vcC P w0 z (.scope c) f L K=CwS P w0 (.scope c) f L K .mk:=(rfl)
def JS (x:Operand) (p:Array Tmp) (a c:Code):vcC P w0 z (.rangeFunc x p a c) f L K=CwS P w0 (.rangeFunc x p a c) f L K .mk:=(rfl)
def OD (F:Fr→aA→bY→Prop):bsN (seqN F K) f L=F f L K:=(rfl)
def Qj (e:Exit):bsN (K e) f L=bsK K e f L:=(rfl)
def QY (c:Code):bsN (fun f L=>Cw P w0 c f L K) f L=CwS P w0 c f L K .mk:=(rfl)
def O2:j6 N K .normal f L=bsN N f L:=(rfl)
def P5 (i:Nat):j6 N K (.exit i) f L=K (.exit i) f L:=(rfl)
def Nk (i:Nat):j6 N K (.goto i) f L=K (.goto i) f L:=(rfl)
def P8:j6 N K .ret f L=K .ret f L:=(rfl)
def NH (i:Nat):kG i K .normal f L=K .normal f L:=(rfl)
def Mc (i j:Nat):kG i K (.goto j) f L=K (.goto j) f L:=(rfl)
def NY (i:Nat):kG i K .ret f L=K .ret f L:=(rfl)
def La (i j:Nat):kG i K (.exit j) f L=ib (j==i) (K .normal f L) (K (.exit j) f L):=by
 by_cases h:j=i
 ·have e: (j==i)=true:=beq_iff_eq.2 h
  rw[e]
  simp[kG,ib,h]
 have e: (j==i)=false:=beq_eq_false_iff_ne.2 h
 rw[e]
 simp[kG,ib,h]
def Lp (A:Nat→Fr→aA→Prop):lh A K .normal f L=K .normal f L:=(rfl)
def NI (A:Nat→Fr→aA→Prop) (i:Nat):lh A K (.exit i) f L=K (.exit i) f L:=(rfl)
def Lb (A:Nat→Fr→aA→Prop) (i:Nat):lh A K (.goto i) f L=bsN (A i) f L:=(rfl)
def Lj (A:Nat→Fr→aA→Prop):lh A K .ret f L=K .ret f L:=(rfl)
def O4:owk P w0 ops N md [] f L=bsN N f L:=(rfl)
def Nq (e:Exit):bsK K e f L=bsR K e f L .mk:=(rfl)
def P1:bsN N f L=bsM N f L .mk:=(rfl)
def Ph:bsN (bsN N) f L=bsN N f L:=(rfl)
def Ps (e:Exit):bsK (bsK K) e f L=bsK K e f L:=(rfl)
def MG (e:Exit):bsK (j6 N K) e f L=j6 N (bsK K) e f L:=by cases e<;>rfl
def JL (i:Nat) (e:Exit):bsK (kG i K) e f L=kG i (bsK K) e f L:=by cases e<;>rfl
def JN (A:Nat→Fr→aA→Prop) (e:Exit):bsK (lh A K) e f L=lh A (bsK K) e f L:=by cases e<;>rfl
def Lo (o:Oper) (r:List Oper):owk P w0 ops N md (o::r) f L=OwS P w0 ops md (o::r) f L N .mk:=(rfl)
end
section
variable (A B S:Prop) (t:Tag (A,B,S))
def QU:cdC (.bool true) A B S t=A:=(rfl)
def QN:cdC (.bool false) A B S t=B:=(rfl)
def oT (b:Bool) (h:b=true):cdC (.bool b) A B S t=A:=by rw[h];rfl
def od (b:Bool) (h:b=false):cdC (.bool b) A B S t=B:=by rw[h];rfl
def z7 (p:Prop) [Decidable p] (h:p):cdC (.bool (decide p)) A B S t=A:=oT A B S t _ (dR h)
def zG (p:Prop) [Decidable p] (h: ¬p):cdC (.bool (decide p)) A B S t=B:=od A B S t _ (i1 h)
def Qy (a b:Int) (h:a=b):cdC (.bool (a==b)) A B S t=A:=oT A B S t _ (beq_iff_eq.2 h)
def QC (a b:Int) (h: ¬a=b):cdC (.bool (a==b)) A B S t=B:=od A B S t _ (beq_eq_false_iff_ne.2 h)
def QB (a b:Int) (h: ¬a=b):cdC (.bool (a !=b)) A B S t=A:=oT A B S t _ (bne_iff_ne.2 h)
def QL (a b:Int) (h:a=b):cdC (.bool (a !=b)) A B S t=B:=od A B S t _ (by rw[h];simp)
end
def Ny (w0:World) (L:aA) (v:Value):nA w0 L .no v=none:=(rfl)
def Ox (w0:World) (L:aA) (e:TypeId) (v:Value):nA w0 L (.strBytes e) v=none:=(rfl)
def Pv (v:Value):eF .no v=none:=by unfold eF;split<;>first|rfl| (rename_i h;cases h)
def KG (c:Code):jR [] c=false:=(rfl)
def IE (k:Nat) (r:List Nat) (c:Code):jR (k::r) c=((k==1000000+fid c) ||jR r c):=(rfl)
def OH (a b:Code):fid (.seq a b)=fid a:=(rfl)
def Jf (i:Nat) (o:Array Oper) (d:Bool):fid (.region i o d)=i:=(rfl)
def Ky (i:Nat) (c:Code):fid (.block i c)=fid c:=(rfl)
def NA (c:Operand) (x y:Code):fid (.cond c x y)=500000:=(rfl)
def Li (c:Code):fid (.loop c)=fid c:=(rfl)
def K9 (c:Code):fid (.scope c)=fid c:=(rfl)
def KD (i:Nat):fid (.label i)=500000:=(rfl)
def NV (i:Nat):fid (.goto i)=500000:=(rfl)
def Nc (i:Nat):fid (.exit i)=500000:=(rfl)
def NZ:fid .skip=500000:=(rfl)
def Oz:fid .ret=500000:=(rfl)
def K3 (x:Operand) (p:Array Tmp) (a c:Code):fid (.rangeFunc x p a c)=500000:=(rfl)
def allF (j:Nat→Value):Nat→Nat→Fr
 |_,0=> []
 |k,n+1=>j k::allF j (k+1) n
def CutM {G:Type} (n:Nat) (S:G→List (Nat×Value)) (H:G→aA) (J:G→Prop) (f':Fr) (L':aA):Prop:=
 ∃g,J g∧L'=H g∧f'=pin (allF (dZ f') 0 n) (S g)
def CutM.mk {G:Type} {n:Nat} {S:G→List (Nat×Value)} {H:G→aA} {J:G→Prop} {f':Fr} {L':aA} (g:G) (hJ:J g) (hL:L'=H g) (hf:f'=pin (allF (dZ f') 0 n) (S g)):CutM n S H J f' L':=⟨g,hJ,hL,hf⟩
def Cw.cut {P:Program} {w0:World} {x y:Code} {f:Fr} {L:aA} {K:bY} {G:Type} (n:Nat) (S:G→List (Nat×Value)) (H:G→aA) (J:G→Prop) (h1:Cw P w0 x f L (j6 (CutM n S H J) K))
  (h2: ∀ (g:G) (j:Nat→Value),J g→Cw P w0 y (pin (allF j 0 n) (S g)) (H g) K):Cw P w0 (.seq x y) f L K:=by
 refine Cw.seq (h1.mono fun e f L k=> ?_)
 cases e with
 |normal=>
  obtain⟨g,hJ,rfl,hf⟩:=k
  have:=h2 g (dZ f) hJ
  rw[←hf] at this
  exact this
 |_=>exact k
def cdC.splitp {p:Prop} [Decidable p] {A B S:Prop} {t:Tag (A,B,S)} (ht:p→A) (he: ¬p→B):cdC (.bool (decide p)) A B S t:=by
 by_cases h:p
 ·rw[z7 A B S t p h];exact ht h
 rw[zG A B S t p h];exact he h
def cdC.split {b:Bool} {A B S:Prop} {t:Tag (A,B,S)} (ht:b=true→A) (he:b=false→B):cdC (.bool b) A B S t:=by
 cases b with
 |true=>exact ht rfl
 |false=>exact he rfl
end Go.Sx
namespace Go.Sx
open Go
def n9 (r:Option Nat):Fence:={Fence.wide with round:=r}
def u':Op→Bool
 | .defer _=>false
 |_=>true
section
variable {P:Program} {w0:World} {f:Fr} {L:aA} {K:bY} {N:Fr→aA→Prop} {ops:Array Oper} {rest:List Oper} {r:Option Nat} {n:Nat}
def GA {k:FuncId} {args:Array Value} {w:World} {R:Ending→World→Prop} (h:Calls P k args w R):CallsIn (n9 r) n P k args w R:=
 (callsIn_wide.2 h:CallsIn Fence.wide n P k args w R)
def I8 {row:String} {args:Array Value} {w:World} {R:Value→World→Prop} (h:Rows P row args w R):RowsIn (n9 r) n P row args w R:=
 (fun c cs _=>let ⟨v,w',hr,s⟩:=h c cs;⟨v,w',hr,stepsIn_wide.2 s⟩:RowsIn Fence.wide n P row args w R)
def Nv {o:Oper} {a:Act} {w:World} {next:Act→World→Prop} {Q:Exit→Act→World→Prop} (hd:u' o.op=true) (h:o.wp P a w next Q):o.wpIn (n9 r) n P a w next Q:=by
 refine⟨fun _ _=>trivial, ?_⟩
 rw[Oper.semAt_eq _ _ _ (fun c e=>by rw[e] at hd;cases hd)]
 unfold Oper.wp at h
 generalize (execOp a.eval o).run P w=x at h
 match x,h with
 | .ok (.value v) _,h=>exact h
 | .ok .skip _,h=>exact h
 | .ok (.defer e) _,h=>exact h
 | .ok (.enter k args) w',h=>
  have h':Calls P k args w' _:=h
  exact⟨fun(e:false=true)=>(by cases e),GA h'⟩
 | .ok (.row row args) w',h=>
  have h':Rows P row args w' _:=h
  exact⟨fun(e:false=true)=>(by cases e),I8 h'⟩
 | .halt (.panic u) _,h=>exact h
theorem rS {Q:Exit→Act→World→Prop} {l2:List Oper}: ∀ (l1:List Oper) (a:Act) (w:World),(l1.all fun o=>u' o.op)=true→
  wpList P ops (fun e a w=>e= .normal∧wpListIn (n9 r) n P ops Q l2 a w) l1 a w→wpListIn (n9 r) n P ops Q (l1++l2) a w
 | [],_,_,_,h=>h.2
 |o::l1,a,w,hd,h=>by
  rw[List.cons_append]
  unfold wpList at h
  unfold wpListIn
  rw[List.all_cons,Bool.and_eq_true] at hd
  split at h
  ·rename_i hw
   rw[if_pos hw]
   rcases h with h| ⟨-,hl⟩
   ·exact Nv hd.1 (BN (fun a w hx=>rS l1 a w hd.2 hx) (fun e a w aQ hq=>aQ hq.1) h)
   obtain⟨_,_,he,-⟩:=hl
   cases he
  rename_i hw
  rw[if_neg hw]
  exact⟨fun _ _=>trivial,rS l1 _ _ hd.2 h⟩
def OwI (r:Option Nat) (P:Program) (w0:World) (ops:Array Oper) (l:List Oper) (f:Fr) (L:aA) (N:Fr→aA→Prop):Prop:=
 ∀w,Hp w0 L w→wpListIn (n9 r) 0 P ops (dr w0 N) l (act f) w
def OwI.nil (h:N f L):OwI r P w0 ops [] f L N:=fun _ hw=>⟨rfl,rfl,L,hw,by simpa [act] using h⟩
def OwI.pre {l1 l2:List Oper} (hd: (l1.all fun o=>u' o.op)=true) (h:Ow P w0 ops .seq l1 f L (fun f' L'=>OwI r P w0 ops l2 f' L' N)):OwI r P w0 ops (l1++l2) f L N:=by
 intro w hw
 refine rS l1 _ _ hd ?_
 have h1:=h w hw
 have mono: ∀ (l:List Oper) (a:Act) (w:World),wpList P ops (dr w0 (fun f' L'=>OwI r P w0 ops l2 f' L' N)) l a w→wpList P ops (fun e a w=>e= .normal∧wpListIn (n9 r) 0 P ops (dr w0 N) l2 a w) l a w:=by
  intro l
  induction l with
  |nil=>
   rintro a w ⟨-,iu,L',hp,hO⟩
   refine⟨rfl, ?_⟩
   have:=hO w hp
   rwa [←rL iu] at this
  |cons o l ih=>
   intro a w h
   unfold wpList at h ⊢
   split at h
   ·rename_i hw
    rw[if_pos hw]
    rcases h with h| ⟨-,hl⟩
    ·exact .inl (BN ih (fun e a w aQ hq=>aQ hq.1) h)
    obtain⟨_,_,he,-⟩:=hl
    cases he
   rename_i hw
   rw[if_neg hw]
   exact ih _ _ h
 exact mono l1 _ _ h1
def Ow.mono_seq {l:List Oper} {N':Fr→aA→Prop} (h:Ow P w0 ops .seq l f L N) (hN: ∀f L,N f L→N' f L):Ow P w0 ops .seq l f L N':=by
 intro w hw
 have h1:=h w hw
 clear h
 revert h1
 generalize act f=a
 clear hw
 induction l generalizing a w with
 |nil=>rintro⟨h1,h2,L',h3,h4⟩;exact⟨h1,h2,L',h3,hN _ _ h4⟩
 |cons o l ih=>
  intro h
  unfold wpList at h ⊢
  split at h
  ·rename_i hw
   rw[if_pos hw]
   rcases h with h| ⟨-,hl⟩
   ·exact .inl (BN (fun a w hx=>ih w a hx) (fun e a w aQ hq=>aQ hq.1) h)
   obtain⟨_,_,he,-⟩:=hl
   cases he
  rename_i hw
  rw[if_neg hw]
  exact ih _ _ h
theorem OwI.all {l:List Oper} (hd: (l.all fun o=>u' o.op)=true) (h:Ow P w0 ops .seq l f L N):OwI r P w0 ops l f L N:=by
 have:=OwI.pre (r:=r) (l2:= []) (N:=N) hd (Ow.mono_seq h (fun f L hN=>OwI.nil hN))
 simpa using this
def CwR (r:Option Nat) (P:Program) (w0:World) (c:Code) (f:Fr) (L:aA) (K:bY):Prop:= ∀w,Hp w0 L w→c.wpIn (n9 r) 0 P (post w0 K) (act f) w
theorem CwR.region {id:Nat} {l:List Oper} (hd: (l.all fun o=>u' o.op)=true) (h:Ow P w0 l.toArray .seq l f L (K .normal)):CwR r P w0 (.region id l.toArray false) f L K:=
 fun w hw=>wpIn_mono (wpIn_region_lit (OwI.all hd h w hw)) fun _ _ _ h=>uY h
theorem CwR.block {id:Nat} {c:Code} (h:CwR r P w0 c f L (kG id K)):CwR r P w0 (.block id c) f L K:=by
 intro w hw
 refine wpIn_block (wpIn_mono (h w hw) ?_)
 rintro e a w' ⟨hd,L',hp,k⟩
 cases e with
 |exit i=>
  simp only[Exit.inBlock]
  simp only[kG] at k
  split
  ·rename_i e;rw[if_pos e] at k;exact⟨hd,L',hp,k⟩
  rename_i e;rw[if_neg e] at k;exact⟨hd,L',hp,k⟩
 |_=>exact⟨hd,L',hp,k⟩
def Hp.put {w:World} (h:Hp w0 L w) {b:Nat} {o:Obj} (hb:b∈keys L):Hp w0 (setB L b o) (w.putObj b o):=h.set hb rfl rfl rfl rfl
def YieldAt.of {l:Nat} {rc:Loop} {X:aA} {args:Array Value} {w:World} {r0:Option Nat} {S:aA→Prop} (hX:Hp w X w) (hl:look X l=some (.loop rc)) (hr:rc.state= .ready) (hp:rc.pending=none) (hs:args.size=rc.params.size)
  (h:CwR (some l) P w rc.assign ((rc.params.zip args).foldl (fun tmps (p:Tmp×Value)=>tmps.setIfInBounds p.1 p.2) rc.tmps).toList X (fun e f1 L1=>e= .normal∧look L1 l=some (.loop rc)∧
   CwR (some l) P w rc.body f1 (setB L1 l (.loop {rc with state:= .busy})) (fun e _ L2=>e= .normal∧look L2 l=some (.loop {rc with state:= .busy})∧S (setB L2 l (.loop rc))))):
  YieldAt (n9 r0) 0 P l args w (fun e w'=> ∃D,e= .returned (.bool true)∧Hp w D w'∧S D):=by
 obtain⟨st,pe,fn0,tm,pa,asg,bo,de⟩:=rc
 obtain rfl:st= .ready:=hr
 obtain rfl:pe=none:=hp
 have uF:=hX.has _ _ (cQ hl)
 refine⟨fn0,_,asg,bo,run_yield uF hs,roundIn_of_wpIn (F:=n9 r0) (n:=0) trivial ?_⟩
 have h1:=h w hX
 have ea:act ((pa.zip args).foldl (fun tmps (p:Tmp×Value)=>tmps.setIfInBounds p.1 p.2) tm).toList={tmps:=(pa.zip args).foldl (fun tmps (p:Tmp×Value)=>tmps.setIfInBounds p.1 p.2) tm,defers:= []}:=by
  simp[act]
 simp only at h1
 rw[ea] at h1
 refine wpIn_mono h1 ?_
 rintro e a1 w1 ⟨zy,L1,mZ,rfl,pF,zq⟩
 have aP:=run_beginRound (P:=P) (mZ.has _ _ (cQ pF)) rfl
 refine⟨_,aP, ?_⟩
 have h2:=zq _ (mZ.put (o:= .loop {state:= .busy,pending:=none,fn:=fn0,tmps:=tm,params:=pa,assign:=asg,body:=bo,defers:=de}) (bX pF))
 rw[←rL zy] at h2
 refine wpIn_mono h2 ?_
 rintro e a2 w2 ⟨eH,L2,fH,rfl,gR,hS⟩
 have he:=run_endRound (P:=P) none (fH.has _ _ (cQ gR))
 exact⟨_,_,he,_,rfl,fH.put (bX gR),hS⟩
def Qx (ds:List Deferred) (w0:World) (K:bY) (e:Exit) (a:Act) (w:World):Prop:=a.defers=ds∧ ∃L,Hp w0 L w∧K e a.tmps.toList L
def CwE (ds:List Deferred) (P:Program) (w0:World) (c:Code) (f:Fr) (L:aA) (K:bY):Prop:= ∀w,Hp w0 L w→c.wp P (Qx ds w0 K) ⟨f.toArray,ds⟩ w
theorem CwE.seq {ds:List Deferred} {x y:Code} (h:CwE ds P w0 x f L (j6 (fun f L=>CwE ds P w0 y f L K) K)):CwE ds P w0 (.seq x y) f L K:=by
 intro w hw
 refine wp_seq (wp_mono (h w hw) ?_)
 rintro e a w' ⟨hd,L',hp,k⟩
 cases e with
 |normal=>
  have:=k w' hp
  have ea:a=⟨a.tmps.toList.toArray,ds⟩:=by cases a;simp only at hd;subst hd;simp
  rw[ea]
  exact this
 |_=>exact⟨hd,L',hp,k⟩
theorem CwE.ret {ds:List Deferred} (h:K .ret f L):CwE ds P w0 .ret f L K:=fun _ hw=>wp_ret ⟨rfl,L,hw,by simpa using h⟩
def evVs (P:Program) (w0:World) (L:aA):List Oper→Fr→Option Fr
 | [],f=>some f
 |o::r,f=>match o.guard,gW P w0 L f o.op with
  |none,some v=>evVs P w0 L r (aW f o.dst v)
  |_,_=>none
theorem Up {ds:List Deferred} {Q:Exit→Act→World→Prop} {w:World} (hw:Hp w0 L w): ∀ (l:List Oper) (f f':Fr),evVs P w0 L l f=some f'→Q .normal ⟨f'.toArray,ds⟩ w→wpList P ops Q l ⟨f.toArray,ds⟩ w
 | [],f,f',h,hQ=>by cases h;exact hQ
 |o::l,f,f',h,hQ=>by
  unfold evVs at h
  split at h
  ·rename_i v hg hv
   unfold wpList
   have mg:Region.wanted o (yielded ops (⟨f.toArray,ds⟩:Act).tmps)=true:=by unfold Region.wanted;rw[hg]
   rw[if_pos mg]
   refine .inl ?_
   unfold Oper.wp
   have he: (⟨f.toArray,ds⟩:Act).eval=ev f:=by
    have:=nj f
    funext x
    exact(congrFun this x)
   rw[he,lY hw hv]
   have hp: (⟨f.toArray,ds⟩:Act).put o.dst v=⟨(aW f o.dst v).toArray,ds⟩:=by
    have:=eh f o.dst v
    cases hd:o.dst with
    |none=>rfl
    |some d=>simp only[Act.put,aW,yF]
   show wpList P ops Q l ((⟨f.toArray,ds⟩:Act).put o.dst v) w
   rw[hp]
   exact Up hw l _ f' h hQ
  cases h
theorem CwE.region {ds:List Deferred} {id:Nat} {l:List Oper} {f':Fr} (h:evVs P w0 L l f=some f') (hk:K .normal f' L):CwE ds P w0 (.region id l.toArray false) f L K:=
 fun w hw=>wp_region_lit (Up hw l f f' h ⟨rfl,L,hw,by simpa using hk⟩)
def Gr.at_ {L:aA} {E:TypeId} {m n:Nat} {v:Value} {cs:List Value} (h:Gr L E m v n cs) {b:Nat} (hb:slB v=some b): ∃a,look L b=some (.cells a E (0,0)):=by
 rcases h with h| ⟨rfl,rfl,c,rfl,hl⟩
 ·rcases h.inv with⟨rfl,-,-⟩ | ⟨c,cc,rest,rfl,hl,-⟩
  ·cases hb
  have:c=b:=by simpa [slB,vsl] using hb
  subst this;exact⟨_,hl⟩
 have:c=b:=by simpa [slB,vsl] using hb
 subst this;exact⟨_,hl⟩
def Gr.ne {L:aA} {E:TypeId} {m n:Nat} {v:Value} {cs:List Value} (h:Gr L E m v n cs) {b:Nat} {o:Obj} (hl:look L b=some o) (ho: ∀a,o≠ .cells a E (0,0)):slB v≠some b:=fun e=>by
 obtain⟨a,ha⟩:=h.at_ e
 rw[hl] at ha
 exact ho a (Option.some.inj ha)
theorem Gr.setB {L:aA} {E:TypeId} {m n:Nat} {v:Value} {cs:List Value} (h:Gr L E m v n cs) {b:Nat} (hb:slB v≠some b) (x:Obj):Gr (setB L b x) E m v n cs:=
 h.keep fun c o hc ho=>by rw[du (fun e:b=c=>hb (by rw[e];exact hc))];exact ho
def bS (fn:FuncId) (f:Fr) (ps:Array Tmp) (assign body:Code) (dk:Nat) (st:LoopState):Loop:={state:=st,pending:=none,fn,tmps:=f.toArray,params:=ps,assign,body,defers:=dk}
end
end Go.Sx
namespace Go.Sx
open Go
section
variable {α:Type} {m:Nat} {enc:α→List Value} {z:α} {w:World} {v:Value} {l:List α}
def SlV.dropE (h:SlV m enc z w v l) {k:Nat} (hk:k≤l.length) (a:Bool): ∃v',g7 (.sl (a,m)) v (some (some (k:Int))) none=some v'∧SlV m enc z w v' (l.drop k)∧(∀b,slB v'=some b→slB v=some b):=by
 obtain⟨b,off,c,arr,E,fz,hr,hc,hv⟩:=h
 have hl: (l.drop k).length=l.length - k:=by simp
 rcases hv with⟨rfl,rfl,rfl⟩ | ⟨rfl,fr,e8⟩
 ·obtain rfl:k=0:=by simpa using hk
  exact⟨.slice none 0 0,rfl,SlV.nil w,fun b hb=>hb⟩
 have cA:g7 (.sl (a,m)) (vsl b off l.length c) (some (some (k:Int))) none=some (vsl b (if c=k then off else off+k*m) (l.length - k) (c - k)):=by
  unfold g7 vsl
  simp only[yd _ _ _ (⟨by omega,by omega⟩: (0:Int)≤ (k:Int)∧(k:Int)≤ (l.length:Int)),Int.toNat_natCast]
  by_cases zw:c=k
  ·simp[zw]
  simp only[zw, ↓reduceIte,Option.map_some,l6]
 refine⟨_,cA, ?_,fun b' hb=>hb⟩
 have uE:k*m+ (l.length - k)*m=l.length*m:=by rw[←Nat.add_mul];congr 1;omega
 by_cases zw:c=k
 ·have h0:l.length - k=0:=by omega
  rw[if_pos zw]
  refine⟨b,off,c - k,arr,E,fz,RowS.sl' hl.symm (fun h=>by omega) (fun i hi=>by omega),by omega, .inr ⟨by rw[hl],fr,by rw[hl,h0];omega⟩⟩
 rw[if_neg zw]
 refine⟨b,off+k*m,c - k,arr,E,fz,RowS.sl' hl.symm (fun h=>fr) ?_,by omega, .inr ⟨by rw[hl],fr,by rw[hl];omega⟩⟩
 intro i hi j hj
 rw[hl] at hi
 rw[List.getD_eq_getElem?_getD,List.getElem?_drop,←List.getD_eq_getElem?_getD,←hr.get (k+i) oM j hj]
 congr 1
 rw[Nat.add_mul];omega
end
section
variable {P:Program} {w0:World} {f:Fr} {L:aA} {N:Fr→aA→Prop} {ops:Array Oper} {rest:List Oper} {md:Md} {d:Option Tmp} {ty:TypeId} {ps:String} {af:Array Edge} {g:Option (Nat×Bool)}
end
section
variable {P:Program} {w0:World} {f:Fr} {L:aA} {K:bY}
def Cw.world {c:Code} (h: ∀w,Hp w0 L w→Cw P w0 c f L K):Cw P w0 c f L K:=fun w hw=>h w hw w hw
def Gr.read {E:TypeId} {m n:Nat} {v:Value} {cs:List Value} (h:Gr L E m v n cs) {b:Nat} (hb:slB v=some b) {w:World} (hw:Hp w0 L w) {o:Obj} (ho:w.heap[b]? =some o):aS w0 L b=some o:=by
 obtain⟨a,ha⟩:=h.at_ hb
 rw[hw.has _ _ (cQ ha)] at ho
 rw[ad ha];exact ho
end
end Go.Sx
namespace Go.Sx
open Go
section
variable {α β:Type} [BEq α] [LawfulBEq α] (encK:α→Value) (encV:β→Value)
def fW (k:α):List (α×β)→Nat→Option (Nat×β)
 | [],_=>none
 |p::r,i=>if k==p.1 then some (i,p.2) else fW k r (i+1)
def updG (k:α) (v:β):List (α×β)→List (α×β)
 | []=> [(k,v)]
 |p::r=>if k==p.1 then(p.1,v)::r else p::updG k v r
def getG (k:α) (z:β) (m:List (α×β)):β:=match m.find? fun p=>k==p.1 with|some p=>p.2|none=>z
def g8 (p:α×β):Value×Value:=(encK p.1,encV p.2)
def dg (o:Obj) (m:List (α×β)):Prop:= ∃es clock,o= .map es clock∧es.toList.map (fun e=>(e.key,e.val))=m.map (g8 encK encV)∧(es.toList.map (·.born)++ [clock]).Pairwise (· < ·)
structure KeyOk (P:Program) (kt:TypeId) (encK:α→Value):Prop where
 find: ∀ {β:Type} (encV:β→Value) (w:World) (k:α) (es:List MapEntry) (m:List (α×β)),es.map (fun e=>(e.key,e.val))=m.map (g8 encK encV)→(Instr.findKey kt (encK k) es).run P w= .ok ((fW k m 0).map fun p=>(p.1,encV p.2)) w
 check: ∀ (w:World) (e:Bool) (k:α),(Instr.checkKey e 10000 kt (encK k)).run P w= .ok () w
 bits: ∀k,Instr.sameBits 10000 (encK k) (encK k)=true
variable {encK encV}
omit [LawfulBEq α] in
theorem Dg {kd:TypeDesc} (hs: ∀a b,Instr.sameNow kd (encK a) (encK b)=some (a==b)) (k:α): ∀ (es:List MapEntry) (m:List (α×β)) (i:Nat),es.map (fun e=>(e.key,e.val))=m.map (g8 encK encV)→
  Instr.findNow kd (encK k) es i=some ((fW k m i).map fun p=>(p.1,encV p.2))
 | [],[],i,_=>rfl
 | [],_::_,_,h=>by cases h
 |_::_,[],_,h=>by cases h
 |e::es,p::m,i,h=>by
  simp only[List.map_cons,List.cons.injEq,g8,Prod.mk.injEq] at h
  obtain⟨⟨h1,h2⟩,h3⟩:=h
  unfold Instr.findNow
  have hs:Instr.sameNow kd (encK k) e.key=some (k==p.1):=by rw[h1,hs]
  rw[hs]
  unfold fW
  cases hk: (k==p.1)
  ·simp only[Bool.false_eq_true, ↓reduceIte]
   exact Dg ‹_› k es m (i+1) h3
  simp[h2]
theorem Et (k:α): ∀ (m:List (α×β)) (i j:Nat) (v:β),fW k m i=some (j,v)→i≤j∧ ∃a,m[j - i]? =some (k,a)∧a=v
 | [],_,_,_,h=>by cases h
 |p::r,i,j,v,h=>by
  unfold fW at h
  split at h
  ·rename_i hk
   cases h
   refine⟨ag _,p.2, ?_,rfl⟩
   rw[Nat.sub_self,List.getElem?_cons_zero,eq_of_beq hk]
  obtain⟨h1,a,h2,h3⟩:=Et k r (i+1) j v h
  refine⟨by omega,a, ?_,h3⟩
  rw[show j - i=(j - (i+1))+1 by omega,List.getElem?_cons_succ];exact h2
theorem wK (k:α) (v:β): ∀ (es:List MapEntry) (m:List (α×β)) (i j:Nat) (a:β),es.map (fun e=>(e.key,e.val))=m.map (g8 encK encV)→fW k m i=some (j,a)→
  (es.modify (j - i) fun e=>{e with key:=encK k,val:=encV v}).map (fun e=>(e.key,e.val))=(updG k v m).map (g8 encK encV)
 | [],[],_,_,_,_,h=>by cases h
 | [],_::_,_,_,_,h,_=>by cases h
 |_::_,[],_,_,_,h,_=>by cases h
 |e::es,p::m,i,j,a,h,hf=>by
  simp only[List.map_cons,List.cons.injEq,g8,Prod.mk.injEq] at h
  obtain⟨⟨h1,h2⟩,h3⟩:=h
  unfold fW at hf
  unfold updG
  split at hf
  ·rename_i hk
   cases hf
   rw[if_pos hk,Nat.sub_self]
   simp only[List.modify_zero_cons,List.map_cons,g8,eq_of_beq hk]
   rw[h3]
  rename_i hk
  have eU:=(Et k m (i+1) j a hf).1
  rw[if_neg hk,show j - i=(j - (i+1))+1 by omega]
  simp only[List.modify_succ_cons,List.map_cons,g8]
  rw[wK k v es m (i+1) j a h3 hf,h1,h2]
omit [LawfulBEq α] in
theorem wr (k:α) (v:β): ∀ (m:List (α×β)) (i:Nat),fW k m i=none→updG k v m=m++ [(k,v)]
 | [],_,_=>rfl
 |p::r,i,h=>by
  unfold fW at h
  split at h
  ·cases h
  rename_i hk
  unfold updG
  rw[if_neg hk,wr k v r (i+1) h];rfl
omit [LawfulBEq α] in
theorem wU (k:α): ∀ (m:List (α×β)) (i:Nat),(fW k m i).map Prod.snd=(m.find? fun p=>k==p.1).map Prod.snd
 | [],_=>rfl
 |p::r,i=>by
  unfold fW
  rw[List.find?_cons]
  cases h: (k==p.1)
  ·simp only[Bool.false_eq_true, ↓reduceIte];exact wU k r (i+1)
  rfl
def NW {k:α} {m:List (α×β)} {es:List MapEntry} {j:Nat} {a:β} (h:es.map (fun e=>(e.key,e.val))=m.map (g8 encK encV)) (hf:fW k m 0=some (j,a)): ∃e,es[j]? =some e∧e.key=encK k:=by
 obtain⟨-,a',h1,rfl⟩:=Et k m 0 j a hf
 rw[Nat.sub_zero] at h1
 have:=congrArg (·[j]?) h
 simp only[List.getElem?_map,h1,Option.map_some] at this
 cases he:es[j]? with
 |none=>rw[he] at this;cases this
 |some e=>
  rw[he] at this
  simp only[Option.map_some,Option.some.injEq,g8,Prod.mk.injEq] at this
  exact⟨e,rfl,this.1⟩
theorem KeyOk.int {P:Program} {kt:TypeId} {k0:IntKind} (hu:P.underlying kt=some (.int k0)):KeyOk P kt vi where
 find encV w k es m h:=by
  simp only[Instr.findKey,Sem.run_bind,run_underlying hu w,Result.andThen_ok]
  rw[Dg (encK:=vi) (fun a b=>by simp[Instr.sameNow,vi]) k es m 0 h]
  rfl
 check w e k:=by
  unfold Instr.checkKey
  simp only[Sem.run_bind,run_underlying hu w,Result.andThen_ok]
  rfl
 bits k:=by simp[vi,Instr.sameBits]
variable {P:Program} {w0:World} {f:Fr} {L:aA} {N:Fr→aA→Prop} {ops:Array Oper} {rest:List Oper} {md:Md}
 {d:Option Tmp} {ty:TypeId} {ps:String} {af:Array Edge} {g:Option (Nat×Bool)}
omit [BEq α] [LawfulBEq α] in
def Ow.makeMapG {t:TypeId} {md':Md} (he:md.turn=some md') (hs:aw ops f ⟨d, .makeMap t none,ty,ps,af,g⟩=false)
  (hn: ∀b o,dq L b→w0.heap.size≤b→dg encK encV o []→Ow P w0 ops md' rest (aW f d (vm b)) (L++ [(b,o)]) N):
  Ow P w0 ops md (⟨d, .makeMap t none,ty,ps,af,g⟩::rest) f L N:=by
 refine Ow.step he rfl hs fun w hw=> .inl ⟨vm w.heap.size,w.alloc (.map #[] 0),_, ?_,hw.alloc _,hn _ _ (gK fun b hb=>hw.lt hb) hw.size ⟨#[],0,rfl,rfl,List.pairwise_singleton _ _⟩⟩
 simp only[execOp,Instr.makeMap,Sem.run_bind,Option.map_none]
 rfl
def Ow.mapUpdateG {t kt vt:TypeId} {x y z:Operand} {b:Nat} {o:Obj} {m:List (α×β)} {k:α} {v:β} {md':Md} (he:md.turn=some md') (hs:aw ops f ⟨d, .mapUpdate t x y z,ty,ps,af,g⟩=false) (hu:P.underlying t=some (.map kt vt)) (hk:KeyOk P kt encK)
  (hx:ev f x=vm b) (hy:ev f y=encK k) (hz:ev f z=encV v) (hl:look L b=some o) (hm:dg encK encV o m)
  (hn: ∀o',dg encK encV o' (updG k v m)→Ow P w0 ops md' rest (aW f d undef) (setB L b o') N):
  Ow P w0 ops md (⟨d, .mapUpdate t x y z,ty,ps,af,g⟩::rest) f L N:=by
 obtain⟨es,c,rfl,fa,ee⟩:=hm
 refine Ow.step he rfl hs fun w hw=> ?_
 have hb:=hw.has _ _ (cQ hl)
 have dK:=hk.find encV w k es.toList m fa
 cases hf:fW k m 0 with
 |none=>
  rw[hf] at dK
  refine .inr (.inl ⟨{w with heap:=w.heap.setIfInBounds b (.map (es.push {key:=encK k,val:=encV v,born:=c}) (c+1))},_, ?_,hw.set (bX hl) rfl rfl rfl rfl,hn _ ⟨_,_,rfl, ?_,by rw[Array.toList_push];exact wv ee rfl⟩⟩)
  ·have: (Instr.mapUpdate t (vm b) (encK k) (encV v)).run P w= .ok () {w with heap:=w.heap.setIfInBounds b (.map (es.push {key:=encK k,val:=encV v,born:=c}) (c+1))}:=by
    simp only[Instr.mapUpdate,vm,Sem.run_bind,run_underlying hu w,Result.andThen_ok,j4 hb,hk.check,dK,Option.map_none,pS hb]
   simp only[execOp,Sem.run_bind,hx,hy,hz]
   rw[this];rfl
  rw[wr k v m 0 hf,Array.toList_push,List.map_append,fa,List.map_append];rfl
 |some p=>
  obtain⟨j,a⟩:=p
  rw[hf] at dK
  obtain⟨e,Rs,Rt⟩:=NW fa hf
  have sa:es[j]? =some e:=by simpa using Rs
  have fF: (Instr.keyThatStays (((es[j]?).map (·.key)).getD (encK k)) (encK k)).run P w= .ok (encK k) w:=by
   rw[sa,Option.map_some,Option.getD_some,Rt]
   unfold Instr.keyThatStays
   rw[if_pos (hk.bits k)];rfl
  refine .inr (.inl ⟨{w with heap:=w.heap.setIfInBounds b (.map (es.modify j fun e=>{e with key:=encK k,val:=encV v}) c)},_, ?_,hw.set (bX hl) rfl rfl rfl rfl,hn _ ⟨_,_,rfl, ?_,by rw[Array.toList_modify,Tp (g:=fun e=>{e with key:=encK k,val:=encV v}) fun _=>rfl];exact ee⟩⟩)
  ·have: (Instr.mapUpdate t (vm b) (encK k) (encV v)).run P w= .ok () {w with heap:=w.heap.setIfInBounds b (.map (es.modify j fun e=>{e with key:=encK k,val:=encV v}) c)}:=by
    simp only[Instr.mapUpdate,vm,Sem.run_bind,run_underlying hu w,Result.andThen_ok,j4 hb,hk.check,dK,Option.map_some,fF,pS hb]
   simp only[execOp,Sem.run_bind,hx,hy,hz]
   rw[this];rfl
  rw[Array.toList_modify]
  have:=wK k v es.toList m 0 j a fa hf
  rw[Nat.sub_zero] at this
  exact this
omit [LawfulBEq α] in
def Ow.mapGetG {t kt vt:TypeId} {x y:Operand} {b:Nat} {o:Obj} {m:List (α×β)} {k:α} {z:β} {md':Md} (he:md.turn=some md') (hs:aw ops f ⟨d, .lookup t x y false,ty,ps,af,g⟩=false) (hu:P.underlying t=some (.map kt vt)) (hk:KeyOk P kt encK)
  (hz:bL P vt=some (encV z)) (hx:ev f x=vm b) (hy:ev f y=encK k) (hl:aS w0 L b=some o) (hm:dg encK encV o m)
  (hn:Ow P w0 ops md' rest (aW f d (encV (getG k z m))) L N):
  Ow P w0 ops md (⟨d, .lookup t x y false,ty,ps,af,g⟩::rest) f L N:=by
 obtain⟨es,c,rfl,fa,-⟩:=hm
 refine Ow.step he rfl hs fun w hw=> ?_
 have hb:=hw.read hl
 have dK:=hk.find encV w k es.toList m fa
 refine .inl ⟨encV (getG k z m),w,L, ?_,hw,hn⟩
 have iA:=wU k m 0
 have: (Instr.lookup t (vm b) (encK k) false).run P w= .ok (encV (getG k z m)) w:=by
  cases hf:fW k m 0 with
  |none=>
   rw[hf] at dK iA
   have hg:getG k z m=z:=by
    unfold getG
    cases h:m.find? fun p=>k==p.1 with
    |none=>rfl
    |some q=>rw[h] at iA;cases iA
   simp only[Instr.lookup,vm,Sem.run_bind,run_underlying hu w,Result.andThen_ok,j4 hb,Sem.run_pure,hk.check,dK,Option.map_none,pq hz w,hg,Bool.false_eq_true, ↓reduceIte]
  |some p=>
   obtain⟨j,a⟩:=p
   rw[hf] at dK iA
   have hg:getG k z m=a:=by
    unfold getG
    cases h:m.find? fun p=>k==p.1 with
    |none=>rw[h] at iA;cases iA
    |some q=>rw[h] at iA;simp only[Option.map_some,Option.some.injEq] at iA;exact iA.symm
   simp only[Instr.lookup,vm,Sem.run_bind,run_underlying hu w,Result.andThen_ok,j4 hb,Sem.run_pure,hk.check,dK,Option.map_some,hg,Bool.false_eq_true, ↓reduceIte]
 simp only[execOp,Sem.run_bind,hx,hy]
 rw[this];rfl
end
section
variable {P:Program} {w0:World} {f:Fr} {L:aA} {N:Fr→aA→Prop} {ops:Array Oper} {rest:List Oper} {md:Md} {d:Option Tmp} {ty:TypeId} {ps:String} {af:Array Edge} {g:Option (Nat×Bool)}
def Ow.callFnXC {x y:Operand} {b:Value} {cap ars:Array Value} (ha: #[b]++cap=ars) {ts:Array TypeId} {k:FuncId} {X Y:aA} {S:Value→aA→Prop} {md':Md} (hL:L=X++Y) (he:md.turn=some md')
  (hs:aw ops f ⟨d, .call ⟨.value x, #[y],ts⟩,ty,ps,af,g⟩=false)
  (hx:ev f x= .func (.func k) #[] cap) (hy:ev f y=b)
  (hk: ∀a w,(callFunc k a).run P w= .ok (.enter k a) w)
  (hc: ∀w,Hp w0 L w→(∀p,p∈X→w.heap[p.1]? =some p.2)→(keys X).Nodup→Rets P k ars w (XS w X S))
  (hn: ∀v D,Came w0 L X D→S v D→Ow P w0 ops md' rest (aW f d v) (D++Y) N):
  Ow P w0 ops md (⟨d, .call ⟨.value x, #[y],ts⟩,ty,ps,af,g⟩::rest) f L N:=by
 subst hL
 have ay: ∀w,Hp w0 (X++Y) w→(keys X).Nodup∧ ∀c,c∈keys Y→c∉keys X:=by
  intro w hw
  have:=hw.nodup
  rw[aZ,List.nodup_append] at this
  exact⟨this.1,fun c hc hx=>this.2.2 c hx c hc rfl⟩
 refine Ow.call (S:=fun B v D=>((∀c,c∈keys D→c∈keys X∨B≤c)∧(∀c,c∈keys X→c∈keys D)∧S v D)∧ ∃w,Hp w0 (X++Y) w∧w.heap.size=B) he hs hx hk (fun w hw=> ?_) ?_
 ·show Rets P k (#[]++ #[y].map (ev f)++cap) w _
  rw[show(#[]++ #[y].map (ev f)++cap:Array Value)=ars by rw[←ha];simp[hy]]
  refine Calls.mono (hc w hw (fun p hp=>hw.has _ _ (bQ _ hp)) (ay w hw).1) ?_
  rintro e w' ⟨v,D,he,hp,hS⟩
  exact⟨v,D,he,hp,⟨hS.1.new,hS.1.all,hS.2⟩,w,hw,rfl⟩
 rintro B v D i7 hB ⟨⟨h1,h2,h3⟩,w1,aY,WF⟩
 refine⟨D++Y, ?_,hn v D ⟨fun c hc=>(h1 c hc).imp id fun h=>⟨gK fun b hb=>by have:=aY.lt hb;omega,by have:=aY.size;omega⟩,h2⟩ h3⟩
 intro w w' As h k
 have ht:=h.trans k
 have hY: ∀c,c∈keys Y→c∉keys D:=by
  intro c hc hd
  rcases h1 c hd with hx|hx
  ·exact(ay w h).2 c hc hx
  have:=h.lt (b:=c) (by rw[aZ];exact dS _ hc)
  omega
 have e1:X.filter (fun p=> !(keys D).contains p.1)= []:=by
  rw[List.filter_eq_nil_iff]
  intro p hp
  have:=h2 p.1 (List.mem_map.2 ⟨p,hp,rfl⟩)
  simpa using this
 have e2:Y.filter (fun p=> !(keys D).contains p.1)=Y:=Aw hY
 rw[List.filter_append,e1,e2,List.nil_append] at ht
 refine ht.same (fun p=>by simp[or_comm]) ?_
 have:=ht.nodup
 rw[aZ] at this ⊢
 exact(List.perm_append_comm.nodup_iff).1 this
end
end Go.Sx
namespace Go.Sx
open Go
def Ext.perm {w:World} {X D D':aA} (h:Ext w X D) (hp:D'.Perm D):Ext w X D':=
 ⟨fun c hc=>h.new c ((hp.map Prod.fst).mem_iff.1 hc),fun c hc=>(hp.map Prod.fst).mem_iff.2 (h.all c hc)⟩
section
variable {P:Program} {w0:World} {f:Fr} {L:aA} {N:Fr→aA→Prop} {ops:Array Oper} {rest:List Oper} {md:Md} {d:Option Tmp} {ty:TypeId} {ps:String} {af:Array Edge} {g:Option (Nat×Bool)}
def Ow.callFnX2 {x y y2:Operand} {b b2:Value} {ts:Array TypeId} {k:FuncId} {X Y:aA} {S:Value→aA→Prop} {md':Md} (hL:L=X++Y) (he:md.turn=some md')
  (hs:aw ops f ⟨d, .call ⟨.value x, #[y,y2],ts⟩,ty,ps,af,g⟩=false)
  (hx:ev f x= .func (.func k) #[] #[]) (hy:ev f y=b) (uQ:ev f y2=b2)
  (hk: ∀a w,(callFunc k a).run P w= .ok (.enter k a) w)
  (hc: ∀w,Hp w0 L w→(∀p,p∈X→w.heap[p.1]? =some p.2)→(keys X).Nodup→Rets P k #[b,b2] w (XS w X S))
  (hn: ∀v D,Came w0 L X D→S v D→Ow P w0 ops md' rest (aW f d v) (D++Y) N):
  Ow P w0 ops md (⟨d, .call ⟨.value x, #[y,y2],ts⟩,ty,ps,af,g⟩::rest) f L N:=by
 subst hL
 have ay: ∀w,Hp w0 (X++Y) w→(keys X).Nodup∧ ∀c,c∈keys Y→c∉keys X:=by
  intro w hw
  have:=hw.nodup
  rw[aZ,List.nodup_append] at this
  exact⟨this.1,fun c hc hx=>this.2.2 c hx c hc rfl⟩
 refine Ow.call (S:=fun B v D=>((∀c,c∈keys D→c∈keys X∨B≤c)∧(∀c,c∈keys X→c∈keys D)∧S v D)∧ ∃w,Hp w0 (X++Y) w∧w.heap.size=B) he hs hx hk (fun w hw=> ?_) ?_
 ·show Rets P k (#[]++ #[y,y2].map (ev f)++ #[]) w _
  rw[show(#[]++ #[y,y2].map (ev f)++ #[]:Array Value)= #[b,b2] by simp[hy,uQ]]
  refine Calls.mono (hc w hw (fun p hp=>hw.has _ _ (bQ _ hp)) (ay w hw).1) ?_
  rintro e w' ⟨v,D,he,hp,hS⟩
  exact⟨v,D,he,hp,⟨hS.1.new,hS.1.all,hS.2⟩,w,hw,rfl⟩
 rintro B v D i7 hB ⟨⟨h1,h2,h3⟩,w1,aY,WF⟩
 refine⟨D++Y, ?_,hn v D ⟨fun c hc=>(h1 c hc).imp id fun h=>⟨gK fun b hb=>by have:=aY.lt hb;omega,by have:=aY.size;omega⟩,h2⟩ h3⟩
 intro w w' As h k
 have ht:=h.trans k
 have hY: ∀c,c∈keys Y→c∉keys D:=by
  intro c hc hd
  rcases h1 c hd with hx|hx
  ·exact(ay w h).2 c hc hx
  have:=h.lt (b:=c) (by rw[aZ];exact dS _ hc)
  omega
 have e1:X.filter (fun p=> !(keys D).contains p.1)= []:=by
  rw[List.filter_eq_nil_iff]
  intro p hp
  have:=h2 p.1 (List.mem_map.2 ⟨p,hp,rfl⟩)
  simpa using this
 have e2:Y.filter (fun p=> !(keys D).contains p.1)=Y:=Aw hY
 rw[List.filter_append,e1,e2,List.nil_append] at ht
 refine ht.same (fun p=>by simp[or_comm]) ?_
 have:=ht.nodup
 rw[aZ] at this ⊢
 exact(List.perm_append_comm.nodup_iff).1 this
end
end Go.Sx
namespace Go.Sx
open Go
section
variable {P:Program} {w0:World} {l:List Oper} {R ts:List Nat} {n:Nat} {listed:List Bool} {f:Fr} {L:aA} {N:Fr→aA→Prop}
def OwG (P:Program) (w0:World) (l:List Oper) (R ts:List Nat) (n:Nat) (listed:List Bool) (f:Fr) (L:aA) (N:Fr→aA→Prop):Prop:=
 ∀w,Hp w0 L w→jJ P l.toArray (dr w0 N) ts (SR w0 R L) n listed.toArray (act f) w
def Cw.regionG {id:Nat} {K:bY} (R ts:List Nat) (m:Nat) (hl:l.length=m) (hm:P.follows .mixedOrders=true) (h:OwG P w0 l R ts m (List.replicate m false) f L (K .normal)):Cw P w0 (.region id l.toArray true) f L K:=by
 intro w hw
 subst hl
 refine wp_mono (wp_region_any hm ?_) fun _ _ _ h=>uY h
 have:=BE _ _ _ _ (h _ hw.drew)
 simpa using this
def chkG (P:Program) (l:List Oper) (ts:List Nat):List Nat→List Bool→Option (List Bool)
 | [],listed=>some listed
 |k::is,listed=>
  match cb l k with
  |some o=>if !ts.contains k&& (ts.all fun t=> !listed.toArray.getD t true)&& (Region.ready .any l.toArray listed.toArray).contains k&&Region.free .any l.toArray listed.toArray k&&
    (fT P o.op|| (nB o.op&&rC l.toArray ts listed.toArray k)) then chkG P l ts is (listed.set k true) else none
  |none=>none
def OwG.step {k:Nat} {o:Oper} {v:Value} (cg:Region.noSelect l.toArray=true) (hk:cb l k=some o) {rest:List Bool} (hc:chkG P l ts [k] listed=some rest)
  (hY:YieldsC P l.toArray (SR w0 R L) (fT P o.op=true) o v (act f)) (h:OwG P w0 l R ts n rest (aW f o.dst v) L N):OwG P w0 l R ts (n+1) listed f L N:=by
 have gl:l.toArray[k]? =some o:=by rw[lG] at hk;simpa using hk
 unfold chkG at hc
 rw[hk] at hc
 simp only at hc
 split at hc
 ·rename_i iW
  simp only[chkG,Option.some.injEq] at hc
  subst hc
  simp only[Bool.and_eq_true,Bool.or_eq_true,Bool.not_eq_true',List.all_eq_true,List.contains_eq_mem,decide_eq_true_eq,decide_eq_false_iff_not] at iW
  obtain⟨⟨⟨⟨c2,c3⟩,c4⟩,c5⟩,c9⟩:=iW
  have gU:=Region.noSelect_spec cg
  intro w hw
  refine pj gl c2 gU (fun c a w h=>jr h) _ _ _ _ (pZ (P:=P) gl c4 c5 (c9.imp id fun h=>⟨h.1,h.2,fun t ht=>c3 t ht⟩)) (.inr fun t ht=>c3 t ht) hY ?_
  rw[eh,lc]
  exact h w hw
 cases hc
def M1 {k:Nat} {is:List Nat} {listed listed':List Bool} (h:chkG P l ts (k::is) listed=some listed'):chkG P l ts [k] listed=some (listed.set k true)∧chkG P l ts is (listed.set k true)=some listed':=by
 rw[chkG] at h
 cases ho:cb l k with
 |none=>rw[ho] at h;cases h
 |some o=>
  rw[ho] at h
  simp only at h
  split at h
  ·rename_i iW
   refine⟨?_,h⟩
   rw[chkG,ho]
   simp only
   rw[if_pos iW];rfl
  cases h
theorem OwG.runs {k:Md→List Oper→Fr→aA→Prop} (cg:Region.noSelect l.toArray=true): ∀ (is:List Nat) {listed listed':List Bool} {f:Fr} {L:aA},chkG P l ts is listed=some listed'→
  (∀md r f' L',k md r f' L'→r= []∧OwG P w0 l R ts n listed' f' L' N)→vcL P w0 l.toArray false (.sof R [] []) (fS l is) f L k→OwG P w0 l R ts (is.length+n) listed f L N
 | [],listed,listed',f,L,hc,hk,h=>by
  cases hc
  rw[List.length_nil,Nat.zero_add]
  exact(hk _ _ _ _ h).2
 |i::is,listed,listed',f,L,hc,hk,h=>by
  obtain⟨cV,d9⟩:=M1 hc
  rw[bz] at h
  cases ho:cb l i with
  |none=>unfold chkG at cV;rw[ho] at cV;cases cV
  |some o=>
   rw[ho,b_] at h
   unfold vcL at h
   rw[List.length_cons,show is.length+1+n=(is.length+n)+1 by omega]
   cases hs:aw l.toArray f o with
   |true=>
    rw[hs] at h
    have dV:Region.wanted o (yielded l.toArray (act f).tmps)=false:=by rw[j2,hs];rfl
    exact OwG.step cg ho cV (v:=undef) (.inr ⟨dV,rfl⟩) (OwG.runs cg is d9 hk h)
   |false=>
    rw[hs] at h
    have dV:Region.wanted o (yielded l.toArray (act f).tmps)=true:=by rw[j2,hs];rfl
    simp only[ib,vcB] at h
    split at h
    ·cases bv:gy (.sof R [] []) f o.op with
     |false=>rw[bv] at h;exact absurd (hk _ _ _ _ h).1 (by simp)
     |true=>
      rw[bv] at h
      simp only at h
      cases hv:gW P w0 L f o.op with
      |none=>rw[hv] at h;exact absurd (hk _ _ _ _ h).1 (by simp)
      |some v=>
       rw[hv] at h
       refine OwG.step cg ho cV (v:=v) (.inl ⟨dV,fun w hw=> ?_⟩) (OwG.runs cg is d9 hk h)
       rw[nj]
       rcases hw with hp|hw
       ·exact lY (Hp.refl w) (uX hp hv w)
       exact lY (Hp.refl w) (Ev bv hv hw)
    ·exact absurd (hk _ _ _ _ h).1 (by simp)
    exact absurd (hk _ _ _ _ h).1 (by simp)
def OwG.run (is:List Nat) (listed':List Bool) (n:Nat) {m:Nat} (hm:m=is.length+n) (cg:Region.noSelect l.toArray=true) (hc:chkG P l ts is listed=some listed')
  (h: ∀k:Md→List Oper→Fr→aA→Prop,(∀md f L,OwG P w0 l R ts n listed' f L N→k md [] f L)→nl (fS l is) fun l'=>vcL P w0 l.toArray false (.sof R [] []) l' f L k):OwG P w0 l R ts m listed f L N:=by
 subst hm
 refine OwG.runs (k:=fun _ r f' L'=>r= []∧OwG P w0 l R ts n listed' f' L' N) cg is hc (fun _ _ _ _ h=>h) ?_
 exact h _ fun _ _ _ h=>⟨rfl,h⟩
def o5 (l:List Oper) (ts:List Nat) (ks:List Nat) (listed:List Bool):Bool:=
 ((Region.ready .any l.toArray listed.toArray).all fun i=>ks.contains i)&& (Region.ready .any l.toArray listed.toArray != [])&&ks.all fun k=> !ts.contains k
def OwG.softs (ks:List Nat) (hs:o5 l ts ks listed=true)
  (h: ∀k,k∈ks→ ∀o,cb l k=some o→Ow P w0 l.toArray .seq [o] f L (fun f' L'=>(∀r,r∈R→aS w0 L' r=aS w0 L r)∧OwG P w0 l R ts n (listed.set k true) f' L' N)):
  OwG P w0 l R ts (n+1) listed f L N:=by
 unfold o5 at hs
 simp only[Bool.and_eq_true,List.all_eq_true,bne_iff_ne,ne_eq,List.contains_eq_mem,decide_eq_true_eq,Bool.not_eq_true',decide_eq_false_iff_not] at hs
 obtain⟨⟨c3,c4⟩,c6⟩:=hs
 intro w hw
 refine⟨fun _=>SR.of hw,fun hr=>absurd hr c4,fun i hi=> ?_⟩
 have ZZ:=c3 i hi
 obtain⟨-,oi,gl,-⟩:=mem_ready.1 hi
 have Zo:cb l i=some oi:=by rw[lG];simpa using gl
 refine rN gl (X:=jJ P l.toArray (dr w0 N) ts (SR w0 R L) n (listed.toArray.setIfInBounds i true)) ?_ hw
 intro w' aB
 have h1:=h i ZZ oi Zo w' aB
 refine DN ?_ h1
 rintro f' L' ⟨hS,hO⟩ w'' jg
 rw[us hS,lc]
 exact hO w'' jg
def OwG.one (i:Nat) (oi:Oper) (hs:o5 l ts [i] listed=true) (hi:cb l i=some oi)
  (h:Ow P w0 l.toArray .seq [oi] f L (fun f' L'=>(∀r,r∈R→aS w0 L' r=aS w0 L r)∧OwG P w0 l R ts n (listed.set i true) f' L' N)):OwG P w0 l R ts (n+1) listed f L N:=
 OwG.softs [i] hs fun k hk o ho=>by
  rw[List.mem_singleton] at hk
  subst hk
  rw[hi] at ho
  cases ho
  exact h
def OwG.two (i j:Nat) (oi oj:Oper) (hs:o5 l ts [i,j] listed=true) (hi:cb l i=some oi) (hj:cb l j=some oj)
  (h1:Ow P w0 l.toArray .seq [oi] f L (fun f' L'=>(∀r,r∈R→aS w0 L' r=aS w0 L r)∧OwG P w0 l R ts n (listed.set i true) f' L' N))
  (h2:Ow P w0 l.toArray .seq [oj] f L (fun f' L'=>(∀r,r∈R→aS w0 L' r=aS w0 L r)∧OwG P w0 l R ts n (listed.set j true) f' L' N)):OwG P w0 l R ts (n+1) listed f L N:=
 OwG.softs [i,j] hs fun k hk o ho=>by
  simp only[List.mem_cons,List.not_mem_nil,or_false] at hk
  rcases hk with rfl|rfl
  ·rw[hi] at ho;cases ho;exact h1
  rw[hj] at ho;cases ho;exact h2
def OwG.permL {M:aA} (hp:M.Perm L) (hR: ∀r,r∈R→aS w0 M r=aS w0 L r) (h:OwG P w0 l R ts n listed f M N):OwG P w0 l R ts n listed f L N:=by
 intro w hw
 rw[us hR]
 exact h w (hw.perm hp)
def y' (P:Program) (l:List Oper) (is ts:List Nat) (listed:List Bool):Bool:=
 Region.noSelect l.toArray&&px P l.toArray ts is listed.toArray&&ts.all fun t=> !listed.toArray.getD t true
def OwG.rest (is:List Nat) {m:Nat} (hm:m=is.length) (hB:y' P l is ts listed=true) (hl:is.map (fun i:Nat=>l[i]?)=(fS l is).map some)
  (h:nl (fS l is) fun l'=>Ow P w0 l.toArray (.sof R is ts) l' f L N):OwG P w0 l R ts m listed f L N:=by
 subst hm
 revert hl h
 generalize fS l is=l'
 intro hl h w hw
 simp only[y',Bool.and_eq_true,List.all_eq_true,Bool.not_eq_true'] at hB
 obtain⟨⟨h1,h4⟩,h5⟩:=hB
 have aR:is.length=l'.length:=by have:=congrArg List.length hl;simpa using this
 have hF:Fits P l.toArray ts is l' listed.toArray:=⟨aR,fun j=>by
  have:=congrArg (·[j]?) hl
  simp only[List.getElem?_map] at this
  cases hj:is[j]? with
  |none=>
   rw[hj] at this
   simp only[Option.map_none] at this
   cases eT:l'[j]? with
   |none=>rfl
   |some x=>rw[eT] at this;cases this
  |some i=>
   rw[hj] at this
   simp only[Option.map_some] at this
   cases eT:l'[j]? with
   |none=>rw[eT] at this;cases this
   |some x=>
    rw[eT] at this
    simp only[Option.map_some,Option.some.injEq] at this
    simp[this],h1,h4⟩
 rw[aR]
 exact(h:Ow P w0 l.toArray (.sof R is ts) l' f L N) listed.toArray hF (fun t ht=>h5 t ht) w hw
end
def CutO {G:Type} (M:List Nat) (S:G→List (Nat×Value)) (H:G→aA) (J:G→Prop) (f f':Fr) (L':aA):Prop:=
 ∃g,J g∧L'=H g∧f'=pin (jH (dZ f') M 0 f) (S g)
def CutO.mk {G:Type} {M:List Nat} {S:G→List (Nat×Value)} {H:G→aA} {J:G→Prop} {f f':Fr} {L':aA} (g:G) (hJ:J g) (hL:L'=H g) (hf:f'=pin (jH (dZ f') M 0 f) (S g)):CutO M S H J f f' L':=⟨g,hJ,hL,hf⟩
def Cw.cutO {P:Program} {w0:World} {x y:Code} {f:Fr} {L:aA} {K:bY} {G:Type} (M:List Nat) (S:G→List (Nat×Value)) (H:G→aA) (J:G→Prop) (h1:Cw P w0 x f L (j6 (CutO M S H J f) K))
  (h2: ∀ (g:G) (j:Nat→Value),J g→Cw P w0 y (pin (jH j M 0 f) (S g)) (H g) K):Cw P w0 (.seq x y) f L K:=by
 refine Cw.seq (h1.mono fun e f' L' k=> ?_)
 cases e with
 |normal=>
  obtain⟨g,hJ,rfl,hf⟩:=k
  have:=h2 g (dZ f') hJ
  rw[←hf] at this
  exact this
 |_=>exact k
end Go.Sx
namespace Go.Sx
open Go
def kv (e:MapEntry):Value×Value:=(e.key,e.val)
def ItR (o:Obj) (bm:Nat) (om:Obj) (m dn lf:aU):Prop:=
 ∃es clock,∃ds:List MapEntry,om= .map es clock∧(es.toList.map (·.born)++ [clock]).Pairwise (· < ·)∧o= .mapIter (some bm) clock (ds.map (·.born)).toArray clock∧
  ds.map kv=dn.map gx∧(∀d,d∈ds→d∈es.toList)∧((es.toList.filter fun e=> !(ds.map (·.born)).contains e.born).map kv=lf.map gx)∧(dn++lf).Perm m
def Db {l:List MapEntry} {c:Nat} (h: (l.map (·.born)++ [c]).Pairwise (· < ·)): (l.map (·.born)).Nodup:=
 ((List.pairwise_append.1 h).1).imp fun h=>Nat.ne_of_lt h
def yC {l:List MapEntry} {c:Nat} (h: (l.map (·.born)++ [c]).Pairwise (· < ·)): ∀x,x∈l→x.born<c:=fun x hx=>
 (List.pairwise_append.1 h).2.2 _ (List.mem_map.2 ⟨x,hx,rfl⟩) c (List.mem_singleton.2 rfl)
def CR (es:Array MapEntry) (ds:List MapEntry): (leftOf es (ds.map (·.born)).toArray).toList=es.toList.filter fun e=> !(ds.map (·.born)).contains e.born:=by
 unfold leftOf
 rw[Array.toList_filter]
 simp
def ItR.start {bm:Nat} {om:Obj} {m:aU} (h:MapR om m): ∃es clock,om= .map es clock∧ItR (.mapIter (some bm) clock #[] clock) bm om m [] m:=by
 obtain⟨es,clock,rfl,h1,h2⟩:=h
 refine⟨es,clock,rfl,es,clock,[],rfl,h2,rfl,rfl,(fun d hd=>by cases hd), ?_,by rw[List.nil_append]⟩
 rw[show(es.toList.filter fun e=> !(([]:List MapEntry).map (·.born)).contains e.born)=es.toList from List.filter_eq_self.2 (fun _ _=>rfl)]
 exact h1
def ItR.step {bm:Nat} {om:Obj} {m dn lf:aU} {es:Array MapEntry} {clock:Nat} {ds:List MapEntry} {e:MapEntry} (hb: (es.toList.map (·.born)++ [clock]).Pairwise (· < ·))
  (hd:ds.map kv=dn.map gx) (hm: ∀d,d∈ds→d∈es.toList) (hl: (es.toList.filter fun e=> !(ds.map (·.born)).contains e.born).map kv=lf.map gx) (hp: (dn++lf).Perm m)
  (he:e∈es.toList.filter fun e=> !(ds.map (·.born)).contains e.born) (kw:om= .map es clock):
  ∃p lf',kv e=gx p∧lf.length=lf'.length+1∧ItR (.mapIter (some bm) clock ((ds.map (·.born)).toArray.push e.born) clock) bm om m (dn++ [p]) lf':=by
 obtain⟨A,C,sE⟩:=List.append_of_mem he
 rw[sE,List.map_append,List.map_cons] at hl
 obtain⟨l1,l2,rfl,h1,h2⟩:=List.append_eq_map_iff.1 hl
 obtain⟨p,l3,rfl,h3,h4⟩:=(List.map_eq_cons_iff.1 h2)
 refine⟨p,l1++l3,h3.symm,by simp;omega,es,clock,ds++ [e],kw,hb,by simp,by simp[hd,h3], ?_, ?_, ?_⟩
 ·intro d iu
  rcases List.mem_append.1 iu with h|h
  ·exact hm d h
  rw[List.mem_singleton] at h;subst h;exact(List.mem_filter.1 he).1
 ·have ay: ((A++e::C).map (·.born)).Nodup:=by
   rw[←sE]
   exact(Db hb).sublist ((List.filter_sublist).map _)
  have e1: (es.toList.filter fun x=> !((ds++ [e]).map (·.born)).contains x.born)=(A++e::C).filter fun x=> !(x.born==e.born):=by
   rw[←sE,List.filter_filter]
   refine List.filter_congr fun x hx=> ?_
   simp only[List.map_append,List.map_cons,List.map_nil,List.contains_append,List.contains_cons,List.contains_nil,Bool.or_false,Bool.not_or]
   rw[Bool.and_comm]
  rw[List.map_append,List.map_cons,List.nodup_append] at ay
  obtain⟨-,j',sr⟩:=ay
  rw[List.nodup_cons] at j'
  have e2: ((A++e::C).filter fun x=> !(x.born==e.born))=A++C:=by
   rw[List.filter_append,List.filter_cons]
   simp only[beq_self_eq_true,Bool.not_true,Bool.false_eq_true, ↓reduceIte]
   congr 1
   ·refine List.filter_eq_self.2 fun x hx=> ?_
    have:=sr x.born (List.mem_map.2 ⟨x,hx,rfl⟩) e.born ah
    simpa using this
   refine List.filter_eq_self.2 fun x hx=> ?_
   have:x.born≠e.born:=fun h=>j'.1 (h▸List.mem_map.2 ⟨x,hx,rfl⟩)
   simpa using this
  rw[e1,e2,List.map_append,List.map_append,h1,h4]
 refine List.Perm.trans ?_ hp
 rw[List.append_assoc]
 refine List.Perm.append_left dn ?_
 rw[List.singleton_append]
 exact List.perm_middle.symm
section
variable {P:Program} {w0:World} {f:Fr} {L:aA} {N:Fr→aA→Prop} {ops:Array Oper} {rest:List Oper} {md:Md}
 {d:Option Tmp} {ty:TypeId} {ps:String} {af:Array Edge} {g:Option (Nat×Bool)}
def itv (b:Nat):Value:= .pointer (some ⟨b,0,none⟩)
def Ow.rangeMap {t kt vt:TypeId} {x:Operand} {bm:Nat} {om:Obj} {m:aU} {md':Md} (he:md.turn=some md') (hs:aw ops f ⟨d, .range t x,ty,ps,af,g⟩=false) (hu:P.underlying t=some (.map kt vt))
  (hx:ev f x=vm bm) (hl:aS w0 L bm=some om) (hm:MapR om m)
  (hn: ∀b o,dq L b→w0.heap.size≤b→ItR o bm om m [] m→Ow P w0 ops md' rest (aW f d (itv b)) (L++ [(b,o)]) N):
  Ow P w0 ops md (⟨d, .range t x,ty,ps,af,g⟩::rest) f L N:=by
 obtain⟨es,clock,rfl,hI⟩:=ItR.start (bm:=bm) hm
 refine Ow.step he rfl hs fun w hw=> .inl ⟨itv w.heap.size,w.alloc (.mapIter (some bm) clock #[] clock),_, ?_,hw.alloc _,hn _ _ (gK fun b hb=>hw.lt hb) hw.size hI⟩
 have hb:=hw.read hl
 have: (Instr.range t (vm bm)).run P w= .ok (itv w.heap.size) (w.alloc (.mapIter (some bm) clock #[] clock)):=by
  simp only[Instr.range,vm,Sem.run_bind,run_underlying hu w,Result.andThen_ok,j4 hb]
  rfl
 simp only[execOp,Sem.run_bind,hx]
 rw[this];rfl
def Ow.nextMap {x:Operand} {r bm:Nat} {o om:Obj} {m dn lf:aU} {md':Md} (he:md.turn=some md') (hs:aw ops f ⟨d, .next x false,ty,ps,af,g⟩=false)
  (hx:ev f x=itv r) (hl:look L r=some o) (jZ:aS w0 L bm=some om) (hI:ItR o bm om m dn lf)
  (h0:lf= []→Ow P w0 ops md' rest (aW f d (.tuple #[.bool false])) L N)
  (h1: ∀p o' lf',lf.length=lf'.length+1→ItR o' bm om m (dn++ [p]) lf'→Ow P w0 ops md' rest (aW f d (.tuple #[.bool true,vs p.1, .agg (a8 p.2)])) (setB L r o') N):
  Ow P w0 ops md (⟨d, .next x false,ty,ps,af,g⟩::rest) f L N:=by
 refine Ow.step he rfl hs fun w hw=> ?_
 have hr:=hw.has _ _ (cQ hl)
 have hb:=hw.read jZ
 obtain⟨es,clock,ds,rfl,ee,rfl,hd,hm,gS,hp⟩:=hI
 rcases run_next_at (P:=P) w ty r bm clock clock (ds.map (·.born)).toArray es clock hr hb (yC ee) (ag _) with⟨hz,fy⟩ | ⟨e,A0,w1,aY,fy⟩
 ·refine .inl ⟨.tuple #[.bool false],w,L, ?_,hw,h0 ?_⟩
  ·simp only[execOp,Sem.run_bind,hx,itv]
   rw[fy];rfl
  have: (leftOf es (ds.map (·.born)).toArray).toList= []:=by
   rw[Array.toList_eq_nil_iff];exact Array.eq_empty_of_size_eq_zero hz
  rw[CR] at this
  rw[this] at gS
  exact(List.map_eq_nil_iff.1 gS.symm)
 rw[CR] at A0
 obtain⟨p,lf',hk,aR,iO⟩:=ItR.step (bm:=bm) ee hd hm gS hp A0 rfl
 simp only[kv,gx,Prod.mk.injEq] at hk
 have tJ:Hp w0 L w1:=by rcases aY with rfl|rfl;exact hw;exact hw.drew
 refine .inl ⟨.tuple #[.bool true,vs p.1, .agg (a8 p.2)],ChangeMaps.setBlock w1 r (.mapIter (some bm) clock ((ds.map (·.born)).toArray.push e.born) clock),_, ?_,tJ.set (bX hl) rfl rfl rfl rfl,h1 p _ lf' aR iO⟩
 simp only[execOp,Sem.run_bind,hx,itv]
 rw[fy,hk.1,hk.2];rfl
def Ow.entryMap {x:Operand} {r bm:Nat} {o om:Obj} {m dn lf:aU} {p:List UInt8×List UInt8} {md':Md} (he:md.turn=some md') (hs:aw ops f ⟨d, .entry x,ty,ps,af,g⟩=false)
  (hx:ev f x=itv r) (hl:aS w0 L r=some o) (jZ:aS w0 L bm=some om) (hI:ItR o bm om m (dn++ [p]) lf)
  (hn:Ow P w0 ops md' rest (aW f d (.tuple #[vs p.1, .agg (a8 p.2)])) L N):
  Ow P w0 ops md (⟨d, .entry x,ty,ps,af,g⟩::rest) f L N:=by
 refine Ow.step he rfl hs fun w hw=> .inl ⟨_,w,L, ?_,hw,hn⟩
 have hr:=hw.read hl
 have hb:=hw.read jZ
 obtain⟨es,clock,ds,rfl,ee,rfl,hd,hm,gS,hp⟩:=hI
 rw[List.map_append,List.map_cons,List.map_nil] at hd
 obtain⟨d1,d2,rfl,-,h2⟩:=List.map_eq_append_iff.1 hd
 obtain⟨e,d3,rfl,h3,h4⟩:=List.map_eq_cons_iff.1 h2
 obtain rfl:=List.map_eq_nil_iff.1 h4
 simp only[kv,gx,Prod.mk.injEq] at h3
 have nS: ((d1++ [e]).map (·.born)).toArray=(d1.map (·.born)).toArray.push e.born:=by simp
 rw[nS] at hr
 have fy:=run_entry_at (P:=P) w r bm clock (d1.map (·.born)).toArray es clock e hr hb (hm e (by simp)) (Db ee)
 simp only[execOp,Sem.run_bind,hx,itv]
 rw[fy,h3.1,h3.2];rfl
end
end Go.Sx
namespace Go.Sx
open Go
def ItG {α β:Type} (encK:α→Value) (encV:β→Value) (o:Obj) (bm:Nat) (om:Obj) (m dn lf:List (α×β)):Prop:=
 ∃es clock,∃ds:List MapEntry,om= .map es clock∧(es.toList.map (·.born)++ [clock]).Pairwise (· < ·)∧o= .mapIter (some bm) clock (ds.map (·.born)).toArray clock∧
  ds.map kv=dn.map (g8 encK encV)∧(∀d,d∈ds→d∈es.toList)∧((es.toList.filter fun e=> !(ds.map (·.born)).contains e.born).map kv=lf.map (g8 encK encV))∧(dn++lf).Perm m
def ItG.start {α β:Type} {encK:α→Value} {encV:β→Value} {bm:Nat} {om:Obj} {m:List (α×β)} (h:dg encK encV om m): ∃es clock,om= .map es clock∧ItG encK encV (.mapIter (some bm) clock #[] clock) bm om m [] m:=by
 obtain⟨es,clock,rfl,h1,h2⟩:=h
 refine⟨es,clock,rfl,es,clock,[],rfl,h2,rfl,rfl,(fun d hd=>by cases hd), ?_,by rw[List.nil_append]⟩
 rw[show(es.toList.filter fun e=> !(([]:List MapEntry).map (·.born)).contains e.born)=es.toList from List.filter_eq_self.2 (fun _ _=>rfl)]
 exact h1
def ItG.step {α β:Type} {encK:α→Value} {encV:β→Value} {bm:Nat} {om:Obj} {m dn lf:List (α×β)} {es:Array MapEntry} {clock:Nat} {ds:List MapEntry} {e:MapEntry} (hb: (es.toList.map (·.born)++ [clock]).Pairwise (· < ·))
  (hd:ds.map kv=dn.map (g8 encK encV)) (hm: ∀d,d∈ds→d∈es.toList) (hl: (es.toList.filter fun e=> !(ds.map (·.born)).contains e.born).map kv=lf.map (g8 encK encV)) (hp: (dn++lf).Perm m)
  (he:e∈es.toList.filter fun e=> !(ds.map (·.born)).contains e.born) (kw:om= .map es clock):
  ∃p lf',kv e=g8 encK encV p∧lf.length=lf'.length+1∧ItG encK encV (.mapIter (some bm) clock ((ds.map (·.born)).toArray.push e.born) clock) bm om m (dn++ [p]) lf':=by
 obtain⟨A,C,sE⟩:=List.append_of_mem he
 rw[sE,List.map_append,List.map_cons] at hl
 obtain⟨l1,l2,rfl,h1,h2⟩:=List.append_eq_map_iff.1 hl
 obtain⟨p,l3,rfl,h3,h4⟩:=(List.map_eq_cons_iff.1 h2)
 refine⟨p,l1++l3,h3.symm,by simp;omega,es,clock,ds++ [e],kw,hb,by simp,by simp[hd,h3], ?_, ?_, ?_⟩
 ·intro d iu
  rcases List.mem_append.1 iu with h|h
  ·exact hm d h
  rw[List.mem_singleton] at h;subst h;exact(List.mem_filter.1 he).1
 ·have ay: ((A++e::C).map (·.born)).Nodup:=by
   rw[←sE]
   exact(Db hb).sublist ((List.filter_sublist).map _)
  have e1: (es.toList.filter fun x=> !((ds++ [e]).map (·.born)).contains x.born)=(A++e::C).filter fun x=> !(x.born==e.born):=by
   rw[←sE,List.filter_filter]
   refine List.filter_congr fun x hx=> ?_
   simp only[List.map_append,List.map_cons,List.map_nil,List.contains_append,List.contains_cons,List.contains_nil,Bool.or_false,Bool.not_or]
   rw[Bool.and_comm]
  rw[List.map_append,List.map_cons,List.nodup_append] at ay
  obtain⟨-,j',sr⟩:=ay
  rw[List.nodup_cons] at j'
  have e2: ((A++e::C).filter fun x=> !(x.born==e.born))=A++C:=by
   rw[List.filter_append,List.filter_cons]
   simp only[beq_self_eq_true,Bool.not_true,Bool.false_eq_true, ↓reduceIte]
   congr 1
   ·refine List.filter_eq_self.2 fun x hx=> ?_
    have:=sr x.born (List.mem_map.2 ⟨x,hx,rfl⟩) e.born ah
    simpa using this
   refine List.filter_eq_self.2 fun x hx=> ?_
   have:x.born≠e.born:=fun h=>j'.1 (h▸List.mem_map.2 ⟨x,hx,rfl⟩)
   simpa using this
  rw[e1,e2,List.map_append,List.map_append,h1,h4]
 refine List.Perm.trans ?_ hp
 rw[List.append_assoc]
 refine List.Perm.append_left dn ?_
 rw[List.singleton_append]
 exact List.perm_middle.symm
section
variable {α β:Type} {encK:α→Value} {encV:β→Value} {P:Program} {w0:World} {f:Fr} {L:aA} {N:Fr→aA→Prop} {ops:Array Oper} {rest:List Oper} {md:Md}
 {d:Option Tmp} {ty:TypeId} {ps:String} {af:Array Edge} {g:Option (Nat×Bool)}
def Ow.rangeMapG {t kt vt:TypeId} {x:Operand} {bm:Nat} {om:Obj} {m:List (α×β)} {md':Md} (he:md.turn=some md') (hs:aw ops f ⟨d, .range t x,ty,ps,af,g⟩=false) (hu:P.underlying t=some (.map kt vt))
  (hx:ev f x=vm bm) (hl:aS w0 L bm=some om) (hm:dg encK encV om m)
  (hn: ∀b o,dq L b→w0.heap.size≤b→ItG encK encV o bm om m [] m→Ow P w0 ops md' rest (aW f d (itv b)) (L++ [(b,o)]) N):
  Ow P w0 ops md (⟨d, .range t x,ty,ps,af,g⟩::rest) f L N:=by
 obtain⟨es,clock,rfl,hI⟩:=ItG.start (bm:=bm) hm
 refine Ow.step he rfl hs fun w hw=> .inl ⟨itv w.heap.size,w.alloc (.mapIter (some bm) clock #[] clock),_, ?_,hw.alloc _,hn _ _ (gK fun b hb=>hw.lt hb) hw.size hI⟩
 have hb:=hw.read hl
 have: (Instr.range t (vm bm)).run P w= .ok (itv w.heap.size) (w.alloc (.mapIter (some bm) clock #[] clock)):=by
  simp only[Instr.range,vm,Sem.run_bind,run_underlying hu w,Result.andThen_ok,j4 hb]
  rfl
 simp only[execOp,Sem.run_bind,hx]
 rw[this];rfl
def Ow.nextMapG {x:Operand} {r bm:Nat} {o om:Obj} {m dn lf:List (α×β)} {md':Md} (he:md.turn=some md') (hs:aw ops f ⟨d, .next x false,ty,ps,af,g⟩=false)
  (hx:ev f x=itv r) (hl:look L r=some o) (jZ:aS w0 L bm=some om) (hI:ItG encK encV o bm om m dn lf)
  (h0:lf= []→Ow P w0 ops md' rest (aW f d (.tuple #[.bool false])) L N)
  (h1: ∀p o' lf',lf.length=lf'.length+1→ItG encK encV o' bm om m (dn++ [p]) lf'→Ow P w0 ops md' rest (aW f d (.tuple #[.bool true,encK p.1,encV p.2])) (setB L r o') N):
  Ow P w0 ops md (⟨d, .next x false,ty,ps,af,g⟩::rest) f L N:=by
 refine Ow.step he rfl hs fun w hw=> ?_
 have hr:=hw.has _ _ (cQ hl)
 have hb:=hw.read jZ
 obtain⟨es,clock,ds,rfl,ee,rfl,hd,hm,gS,hp⟩:=hI
 rcases run_next_at (P:=P) w ty r bm clock clock (ds.map (·.born)).toArray es clock hr hb (yC ee) (ag _) with⟨hz,fy⟩ | ⟨e,A0,w1,aY,fy⟩
 ·refine .inl ⟨.tuple #[.bool false],w,L, ?_,hw,h0 ?_⟩
  ·simp only[execOp,Sem.run_bind,hx,itv]
   rw[fy];rfl
  have: (leftOf es (ds.map (·.born)).toArray).toList= []:=by
   rw[Array.toList_eq_nil_iff];exact Array.eq_empty_of_size_eq_zero hz
  rw[CR] at this
  rw[this] at gS
  exact(List.map_eq_nil_iff.1 gS.symm)
 rw[CR] at A0
 obtain⟨p,lf',hk,aR,iO⟩:=ItG.step (bm:=bm) ee hd hm gS hp A0 rfl
 simp only[kv,g8,Prod.mk.injEq] at hk
 have tJ:Hp w0 L w1:=by rcases aY with rfl|rfl;exact hw;exact hw.drew
 refine .inl ⟨.tuple #[.bool true,encK p.1,encV p.2],ChangeMaps.setBlock w1 r (.mapIter (some bm) clock ((ds.map (·.born)).toArray.push e.born) clock),_, ?_,tJ.set (bX hl) rfl rfl rfl rfl,h1 p _ lf' aR iO⟩
 simp only[execOp,Sem.run_bind,hx,itv]
 rw[fy,hk.1,hk.2];rfl
def Ow.entryMapG {x:Operand} {r bm:Nat} {o om:Obj} {m dn lf:List (α×β)} {p:α×β} {md':Md} (he:md.turn=some md') (hs:aw ops f ⟨d, .entry x,ty,ps,af,g⟩=false)
  (hx:ev f x=itv r) (hl:aS w0 L r=some o) (jZ:aS w0 L bm=some om) (hI:ItG encK encV o bm om m (dn++ [p]) lf)
  (hn:Ow P w0 ops md' rest (aW f d (.tuple #[encK p.1,encV p.2])) L N):
  Ow P w0 ops md (⟨d, .entry x,ty,ps,af,g⟩::rest) f L N:=by
 refine Ow.step he rfl hs fun w hw=> .inl ⟨_,w,L, ?_,hw,hn⟩
 have hr:=hw.read hl
 have hb:=hw.read jZ
 obtain⟨es,clock,ds,rfl,ee,rfl,hd,hm,gS,hp⟩:=hI
 rw[List.map_append,List.map_cons,List.map_nil] at hd
 obtain⟨d1,d2,rfl,-,h2⟩:=List.map_eq_append_iff.1 hd
 obtain⟨e,d3,rfl,h3,h4⟩:=List.map_eq_cons_iff.1 h2
 obtain rfl:=List.map_eq_nil_iff.1 h4
 simp only[kv,g8,Prod.mk.injEq] at h3
 have nS: ((d1++ [e]).map (·.born)).toArray=(d1.map (·.born)).toArray.push e.born:=by simp
 rw[nS] at hr
 have fy:=run_entry_at (P:=P) w r bm clock (d1.map (·.born)).toArray es clock e hr hb (hm e (by simp)) (Db ee)
 simp only[execOp,Sem.run_bind,hx,itv]
 rw[fy,h3.1,h3.2];rfl
end
def GO (l:List UInt8):Instr.sameBits 10000 (.agg (a8 l)) (.agg (a8 l))=true:=by
 show Instr.sameBits (9999+1) _ _=true
 unfold Instr.sameBits
 simp only[beq_self_eq_true,Bool.true_and,List.all_eq_true]
 intro p hp
 obtain⟨i,hi,rfl⟩:=List.getElem_of_mem hp
 rw[List.getElem_zip]
 simp[a8,Instr.sameBits]
def FQ {P:Program} {t e:TypeId} {n:Nat} (hu:P.underlying t=some (.array n e)) (he:P.underlying e=some (.int .u8)) (hm:aM P e=some (false,1)) (l l':List UInt8) (hl:l.length=n) (mS:l'.length=n) (w:World):
  (Op.equal t (.agg (a8 l)) (.agg (a8 l'))).run P w= .ok (l==l') w:=
 yJ P 8 9992 t _ _ _ (o7 (d:=6) hu he hm l l' hl mS) w
def XF {P:Program} {t e:TypeId} {n:Nat} (hu:P.underlying t=some (.array n e)) (he:P.underlying e=some (.int .u8)) (hm:aM P e=some (false,1)) (l:List UInt8) (hl:l.length=n) (em:Bool) (w:World):
  (Instr.checkKey em 10000 t (.agg (a8 l))).run P w= .ok () w:=by
 show(Instr.checkKey em (9999+1) t (.agg (a8 l))).run P w= .ok () w
 rw[Instr.checkKey]
 simp only[Sem.run_bind,run_underlying hu,Result.andThen_ok]
 simp only[Std.Legacy.Range.forIn_eq_forIn_range',Std.Legacy.Range.size,Nat.sub_zero,Nat.add_one_sub_one,Nat.div_one]
 have each: ∀j,j∈List.range' 0 n→j<l.length:=by
  intro j hj
  rw[List.mem_range'] at hj
  obtain⟨i,hi,rfl⟩:=hj
  omega
 generalize List.range' 0 n=is at each
 induction is with
 |nil=>simp
 |cons j is ih=>
  have hj:=each j (by simp)
  have p1: (part e (a8 l) (j*1)).run P w= .ok (v8 (l.getD j 0)) w:=by
   refine n4 hm ?_ w
   simp[jQ,a8,v8,hj]
  have p2: (Instr.checkKey em 9999 e (v8 (l.getD j 0))).run P w= .ok () w:=by
   show(Instr.checkKey em (9998+1) e (v8 (l.getD j 0))).run P w= .ok () w
   rw[Instr.checkKey]
   simp only[Sem.run_bind,run_underlying he,Result.andThen_ok,v8]
   rfl
  simp only[List.forIn_cons,Sem.run_bind,fh hm w,Result.andThen_ok,p1,p2,Sem.run_pure]
  exact ih (fun y hy=>each y (by simp[hy]))
theorem Il {n:Nat} {e:TypeId} (x:Value): ∀ (es:List MapEntry) (i:Nat),es≠ []→Instr.findNow (.array n e) x es i=none
 | [],_,h=>absurd rfl h
 |_::_,_,_=>by cases x<;>rfl
theorem U4 {α β:Type} [BEq α] {P:Program} {kt:TypeId} {encK:α→Value} {encV:β→Value} (he: ∀a b w,(Op.equal kt (encK a) (encK b)).run P w= .ok (a==b) w) (w:World) (k:α): ∀ (es:List MapEntry) (m:List (α×β)) (i:Nat),es.map (fun e=>(e.key,e.val))=m.map (g8 encK encV)→
  (Instr.findAsking kt (encK k) es i).run P w= .ok ((fW k m i).map fun p=>(p.1,encV p.2)) w
 | [],[],_,_=>rfl
 | [],_::_,_,h=>by cases h
 |_::_,[],_,h=>by cases h
 |e::es,p::m,i,h=>by
  simp only[List.map_cons,List.cons.injEq,g8,Prod.mk.injEq] at h
  obtain⟨⟨h1,h2⟩,h3⟩:=h
  unfold Instr.findAsking fW
  rw[Sem.run_bind,h1,he]
  simp only[Result.andThen_ok]
  cases hk: (k==p.1)
  ·simp only[Bool.false_eq_true, ↓reduceIte]
   exact U4 he w k es m (i+1) h3
  simp[h2]
def KeyOk.arr {α:Type} [BEq α] {P:Program} {kt e:TypeId} {n:Nat} (hu:P.underlying kt=some (.array n e)) (he:P.underlying e=some (.int .u8)) (hm:aM P e=some (false,1)) (bs:α→List UInt8) (hb: ∀a,(bs a).length=n) (hq: ∀a b,(bs a==bs b)=(a==b)):
  KeyOk P kt (fun a:α=> .agg (a8 (bs a))) where
 find encV w k es m h:=by
  cases es with
  |nil=>
   cases m with
   |nil=>simp only[Instr.findKey,Sem.run_bind,run_underlying hu w,Result.andThen_ok];rfl
   |cons=>cases h
  |cons e0 es=>
   simp only[Instr.findKey,Sem.run_bind,run_underlying hu w,Result.andThen_ok]
   rw[Il _ _ _ (by simp)]
   exact U4 (encK:=fun a:α=> .agg (a8 (bs a))) (fun a b w=>by rw[FQ hu he hm _ _ (hb a) (hb b) w,hq]) w k _ m 0 h
 check w e k:=XF hu he hm _ (hb k) e w
 bits k:=GO _
section
variable {α β:Type} [BEq α] [LawfulBEq α] {encK:α→Value} {encV:β→Value} {P:Program} {w0:World} {f:Fr} {L:aA} {N:Fr→aA→Prop} {ops:Array Oper} {rest:List Oper} {md:Md}
 {d:Option Tmp} {ty:TypeId} {ps:String} {af:Array Edge} {g:Option (Nat×Bool)}
omit [LawfulBEq α] in
end
end Go.Sx
namespace Go.Sx
open Go
def KeyOk.str {P:Program} {kt:TypeId} (hu:P.underlying kt=some .string):KeyOk P kt vs where
 find encV w k es m h:=by
  simp only[Instr.findKey,Sem.run_bind,run_underlying hu w,Result.andThen_ok]
  rw[Dg (encK:=vs) (fun a b=>by simp only[vs,Instr.sameNow,lx]) k es m 0 h]
  rfl
 check w e k:=by
  unfold Instr.checkKey
  simp only[Sem.run_bind,run_underlying hu w,Result.andThen_ok,vs]
  rfl
 bits k:=by simp only[vs,Instr.sameBits,lx,beq_self_eq_true]
section
variable {α β:Type} [BEq α] [LawfulBEq α]
def delG (k:α):List (α×β)→List (α×β)
 | []=> []
 |p::r=>if k==p.1 then r else p::delG k r
variable {encK:α→Value} {encV:β→Value}
omit [LawfulBEq α] in
theorem yB (k:α): ∀ (m:List (α×β)) (i j:Nat) (a:β),fW k m i=some (j,a)→i≤j
 | [],_,_,_,h=>by cases h
 |p::r,i,j,a,h=>by
  unfold fW at h
  split at h
  ·cases h;exact ag _
  have:=yB k r (i+1) j a h;omega
omit [LawfulBEq α] in
theorem wo (k:α): ∀ (es:List MapEntry) (m:List (α×β)) (i j:Nat) (a:β),es.map (fun e=>(e.key,e.val))=m.map (g8 encK encV)→fW k m i=some (j,a)→
  (es.eraseIdx (j - i)).map (fun e=>(e.key,e.val))=(delG k m).map (g8 encK encV)
 | [],[],_,_,_,_,h=>by cases h
 | [],_::_,_,_,_,h,_=>by cases h
 |_::_,[],_,_,_,h,_=>by cases h
 |e::es,p::m,i,j,a,h,hf=>by
  simp only[List.map_cons,List.cons.injEq] at h
  obtain⟨h1,h3⟩:=h
  unfold fW at hf
  unfold delG
  split at hf
  ·rename_i hk
   cases hf
   rw[if_pos hk,Nat.sub_self]
   exact h3
  rename_i hk
  have eU:=yB k m (i+1) j a hf
  rw[if_neg hk,show j - i=(j - (i+1))+1 by omega]
  simp only[List.eraseIdx_cons_succ,List.map_cons]
  rw[wo k es m (i+1) j a h3 hf,h1]
omit [LawfulBEq α] in
theorem wj (k:α): ∀ (m:List (α×β)) (i:Nat),fW k m i=none→delG k m=m
 | [],_,_=>rfl
 |p::r,i,h=>by
  unfold fW at h
  split at h
  ·cases h
  rename_i hk
  unfold delG
  rw[if_neg hk,wj k r (i+1) h]
variable {P:Program} {w0:World} {f:Fr} {L:aA} {N:Fr→aA→Prop} {ops:Array Oper} {rest:List Oper} {md:Md}
 {d:Option Tmp} {ty:TypeId} {ps:String} {af:Array Edge} {g:Option (Nat×Bool)}
omit [LawfulBEq α] in
def Ow.mapDeleteG {t kt vt:TypeId} {x y:Operand} {t2:TypeId} {b:Nat} {o:Obj} {m:List (α×β)} {k:α} {md':Md} (he:md.turn=some md') (hs:aw ops f ⟨d, .call ⟨.builtin .delete, #[x,y], #[t,t2]⟩,ty,ps,af,g⟩=false) (hu:P.underlying t=some (.map kt vt)) (hk:KeyOk P kt encK)
  (hx:ev f x=vm b) (hy:ev f y=encK k) (hl:look L b=some o) (hm:dg encK encV o m)
  (hn: ∀o',dg encK encV o' (delG k m)→Ow P w0 ops md' rest (aW f d (.tuple #[])) (setB L b o') N):
  Ow P w0 ops md (⟨d, .call ⟨.builtin .delete, #[x,y], #[t,t2]⟩,ty,ps,af,g⟩::rest) f L N:=by
 obtain⟨es,c,rfl,fa,ee⟩:=hm
 refine Ow.step he rfl hs fun w hw=> ?_
 have hb:=hw.has _ _ (cQ hl)
 have dK:=hk.find encV w k es.toList m fa
 cases hf:fW k m 0 with
 |none=>
  rw[hf] at dK
  refine .inl ⟨.tuple #[],{w with heap:=w.heap.setIfInBounds b (.map es c)},_, ?_,hw.set (bX hl) rfl rfl rfl rfl,hn _ ⟨es,c,rfl,by rw[wj k m 0 hf];exact fa,ee⟩⟩
  have: (Builtin.delete_ #[t,t2] ty #[vm b,encK k]).run P w= .ok (.tuple #[]) {w with heap:=w.heap.setIfInBounds b (.map es c)}:=by
   simp only[Builtin.delete_,vm,List.getElem?_toArray,List.getElem?_cons_zero,List.getElem?_cons_succ,Sem.run_bind,run_underlying hu w,Result.andThen_ok,j4 hb,hk.check,dK,Option.map_none,pS hb]
   rfl
  simp only[execOp,resolve,Sem.run_bind,Sem.run_pure,Result.andThen_ok,invoke,builtin,List.map_toArray,List.map_cons,List.map_nil,hx,hy]
  rw[this];rfl
 |some p=>
  obtain⟨j,a⟩:=p
  rw[hf] at dK
  refine .inl ⟨.tuple #[],{w with heap:=w.heap.setIfInBounds b (.map (es.eraseIdxIfInBounds j) c)},_, ?_,hw.set (bX hl) rfl rfl rfl rfl,hn _ ⟨_,c,rfl, ?_,by rw[Array.toList_eraseIdxIfInBounds];exact UZ ee⟩⟩
  ·have: (Builtin.delete_ #[t,t2] ty #[vm b,encK k]).run P w= .ok (.tuple #[]) {w with heap:=w.heap.setIfInBounds b (.map (es.eraseIdxIfInBounds j) c)}:=by
    simp only[Builtin.delete_,vm,List.getElem?_toArray,List.getElem?_cons_zero,List.getElem?_cons_succ,Sem.run_bind,run_underlying hu w,Result.andThen_ok,j4 hb,hk.check,dK,Option.map_some,pS hb]
    rfl
   simp only[execOp,resolve,Sem.run_bind,Sem.run_pure,Result.andThen_ok,invoke,builtin,List.map_toArray,List.map_cons,List.map_nil,hx,hy]
   rw[this];rfl
  have:=wo (encK:=encK) (encV:=encV) k es.toList m 0 j a fa hf
  rw[Nat.sub_zero] at this
  rw[←this]
  simp
omit [BEq α] [LawfulBEq α] in
def Ow.mapClearG {t kt vt:TypeId} {x:Operand} {b:Nat} {o:Obj} {m:List (α×β)} {md':Md} (he:md.turn=some md') (hs:aw ops f ⟨d, .call ⟨.builtin .clear, #[x], #[t]⟩,ty,ps,af,g⟩=false) (hu:P.underlying t=some (.map kt vt))
  (hx:ev f x=vm b) (hl:look L b=some o) (hm:dg encK encV o m)
  (hn: ∀o',dg encK encV o' []→Ow P w0 ops md' rest (aW f d (.tuple #[])) (setB L b o') N):
  Ow P w0 ops md (⟨d, .call ⟨.builtin .clear, #[x], #[t]⟩,ty,ps,af,g⟩::rest) f L N:=by
 obtain⟨es,c,rfl,fa,ee⟩:=hm
 refine Ow.step he rfl hs fun w hw=> ?_
 have hb:=hw.has _ _ (cQ hl)
 refine .inl ⟨.tuple #[],{w with heap:=w.heap.setIfInBounds b (.map #[] c)},_, ?_,hw.set (bX hl) rfl rfl rfl rfl,hn _ ⟨#[],c,rfl,rfl,List.pairwise_singleton _ _⟩⟩
 have: (Builtin.clear_ #[t] ty #[vm b]).run P w= .ok (.tuple #[]) {w with heap:=w.heap.setIfInBounds b (.map #[] c)}:=by
  simp only[Builtin.clear_,vm,List.getElem?_toArray,List.getElem?_cons_zero,Sem.run_bind,run_underlying hu w,Result.andThen_ok,j4 hb,pS hb]
  rfl
 simp only[execOp,resolve,Sem.run_bind,Sem.run_pure,Result.andThen_ok,invoke,builtin,List.map_toArray,List.map_cons,List.map_nil,hx]
 rw[this];rfl
end
section
variable {P:Program} {w0:World} {f:Fr} {L:aA} {N:Fr→aA→Prop} {ops:Array Oper} {rest:List Oper} {md:Md}
 {d:Option Tmp} {ty:TypeId} {ps:String} {af:Array Edge} {g:Option (Nat×Bool)}
def Ow.ifaceMap {t kt vt:TypeId} {x:Operand} {v:Value} (hs:aw ops f ⟨d, .makeInterface t x,ty,ps,af,g⟩=false) (hu:P.underlying t=some (.map kt vt)) (hx:ev f x=v)
  (hn:Ow P w0 ops md.next rest (aW f d (.iface t v)) L N):Ow P w0 ops md (⟨d, .makeInterface t x,ty,ps,af,g⟩::rest) f L N:=by
 refine Ow.calm rfl rfl hs (fun w hw=> .inl ⟨.iface t v,w,L, ?_,hw,rfl,rfl⟩) hn
 simp only[execOp,Instr.makeInterface,Sem.run_bind,run_underlying hu w,Result.andThen_ok,hx]
 rfl
def Ow.assertMap {t kt vt xt:TypeId} {x:Operand} {v:Value} (hs:aw ops f ⟨d, .typeAssert x xt t false,ty,ps,af,g⟩=false) (hu:P.underlying t=some (.map kt vt)) (hx:ev f x= .iface t v)
  (hn:Ow P w0 ops md.next rest (aW f d v) L N):Ow P w0 ops md (⟨d, .typeAssert x xt t false,ty,ps,af,g⟩::rest) f L N:=by
 refine Ow.calm rfl rfl hs (fun w hw=> .inl ⟨v,w,L, ?_,hw,rfl,rfl⟩) hn
 simp only[execOp,Instr.typeAssert,Sem.run_bind,run_underlying hu w,Result.andThen_ok,hx, ↓reduceIte]
 rfl
def Ow.cloneMap {α β:Type} {encK:α→Value} {encV:β→Value} {x:Operand} {ts:Array TypeId} {k:FuncId} {it:TypeId} {b:Nat} {o:Obj} {m:List (α×β)} {md':Md} (he:md.turn=some md')
  (hs:aw ops f ⟨d, .call ⟨.value (.func k), #[x],ts⟩,ty,ps,af,g⟩=false)
  (hk: ∀a w,(callFunc k #[a]).run P w=((Extern.MapsClone.clone #[a]).run P w).andThen fun v w=> .ok (.value v) w)
  (hx:ev f x= .iface it (vm b)) (hl:aS w0 L b=some o) (hm:dg encK encV o m)
  (hn: ∀c o',dq L c→w0.heap.size≤c→dg encK encV o' m→Ow P w0 ops md' rest (aW f d (.iface it (vm c))) (L++ [(c,o')]) N):
  Ow P w0 ops md (⟨d, .call ⟨.value (.func k), #[x],ts⟩,ty,ps,af,g⟩::rest) f L N:=by
 obtain⟨es,c,rfl,fa,ee⟩:=hm
 refine Ow.step he rfl hs fun w hw=> .inl ⟨.iface it (vm w.heap.size),w.alloc (.map es c),_, ?_,hw.alloc _,hn _ _ (gK fun b hb=>hw.lt hb) hw.size ⟨es,c,rfl,fa,ee⟩⟩
 have hb:=hw.read hl
 have hA:Array.map (ev f) #[x]= #[.iface it (vm b)]:=by simp[hx]
 have h: (callFunc k #[.iface it (vm b)]).run P w= .ok (.value (.iface it (vm w.heap.size))) (w.alloc (.map es c)):=by
  rw[hk]
  have hc:Extern.MapsClone.clone #[.iface it (vm b)]=(getObj b>>=fun o=>match o with| .map es c=>(newObj (.map es c)>>=fun r=>pure (.iface it (.map (some r)))) |_=>stuck "maps.clone: a map expected"):=rfl
  rw[hc,Sem.run_bind,j4 hb]
  rfl
 simp only[execOp,resolve,Deferred.ofValue,yN,Sem.run_bind,Sem.run_pure,Result.andThen_ok,invoke,hA]
 simpa using h
end
end Go.Sx
namespace Go.Sx
open Go
def Hp.later {w0 w1 w2:World} {L D:aA} (h:Hp w0 L w1) (k:Hp w1 D w2) (hD:New w1.heap.size D):Hp w0 (L++D) w2:=
 Mrg.fresh hD.le w1 w2 rfl h k
def Ow.world {P:Program} {w0:World} {ops:Array Oper} {l:List Oper} {f:Fr} {L:aA} {N:Fr→aA→Prop} (h: ∀w,Hp w0 L w→Ow P w0 ops .seq l f L N):Ow P w0 ops .seq l f L N:=fun w hw=>h w hw w hw
def Rets.chunk {P:Program} {k:FuncId} {args:Array Value} {w:World} {S:Value→Obj→Prop} {X:aA} {b:Nat} (hX: ∀p,p∈X→w.heap[p.1]? =some p.2) (hn: (keys X).Nodup) (hb:b∈keys X)
  (h:Rets P k args w (fun v D=> ∃o,D= [(b,o)]∧S v o)):Rets P k args w (XS w X (fun v D=> ∃o,D=setB X b o∧S v o)):=
 Calls.mono h fun e w' ⟨v,D,he,hp,o,hD,hS⟩=>⟨v,setB X b o,he,by subst hD;exact Mrg.set hb w w' rfl ((Hp.refl w).ownX hX hn) hp,(Ext.refl w X).setB,o,rfl,hS⟩
def Rets.toX {P:Program} {k:FuncId} {a:Array Value} {w:World} {S:Value→Prop} (h:Rets P k a w (fun v D=>S v∧D= [])):Rets P k a w (XS w [] (fun v D=>D= []∧S v)):=
 h.mono fun v D ⟨h1,h2⟩=>⟨by subst h2;exact Ext.refl w [],h2,h1⟩
def Gr.rowL {α:Type} {m:Nat} {enc:α→List Value} {z:α} {w0 w:World} {v:Value} {l:List α} {L:aA} {E:TypeId} {n:Nat} (h:Gr L E m v n (l.map enc).flatten) (hn:l.length=n) (hw:Hp w0 L w) (hm: ∀x,(enc x).length=m):
  ∃b off arr F fz,RowS m enc z w v l b off arr F fz∧(0<l.length→look L b=some (.cells arr F fz)):=by
 obtain⟨b,off,c,arr,F,fz,hr,hc,⟨rfl,rfl,rfl⟩ | ⟨rfl,hb,e8⟩⟩:=h.slV (z:=z) hw hn rfl hm
 ·exact⟨b,off,arr,F,fz,hr,fun h0=>absurd h0 (by simp)⟩
 refine⟨b,off,arr,F,fz,hr,fun _=> ?_⟩
 obtain⟨o,ho⟩:=Bo (h.key (b:=b) rfl)
 have:=hw.has _ _ (cQ ho)
 rw[hb] at this
 rw[ho,this]
def GrI.rowL {α:Type} {m:Nat} {enc:α→List Value} {z:α} {w0 w:World} {v:Value} {l:List α} {D:aA} {E:TypeId} {n:Nat} (h:GrI D E m v n (l.map enc).flatten) (hn:l.length=n) (hw:Hp w0 D w) (hm: ∀x,(enc x).length=m):
  ∃b off arr F fz,RowS m enc z w v l b off arr F fz∧(0<l.length→look D b=some (.cells arr F fz)):=by
 obtain⟨X,hX,h⟩:=h
 obtain⟨b,off,c,arr,F,fz,hr,hc,⟨rfl,rfl,rfl⟩ | ⟨rfl,hb,e8⟩⟩:=h.slM (z:=z) (fun b o hm=>hw.has b o (hX _ hm)) hn rfl hm
 ·exact⟨b,off,arr,F,fz,hr,fun h0=>absurd h0 (by simp)⟩
 refine⟨b,off,arr,F,fz,hr,fun _=> ?_⟩
 obtain⟨o,ho⟩:=Bo (h.key (b:=b) rfl)
 have hm:=hX _ (cQ ho)
 have:=hw.has _ _ hm
 rw[hb] at this
 rw[ql hw.nodup hm,this]
end Go.Sx
section
namespace Go.Sx
open Go
def S0:=aN (aN (aN (aN (aN (aN @MX (aN @Nd @N_)) (aN @Mh (aN @Jr @MO))) (aN (aN @Kv (aN @N1 @Hg)) (aN (aN @F4 @FH) (aN @Ki @Xk)))) (aN (aN (aN @JW (aN @NX @Hj)) (aN (aN @Ku @F7) (aN @OP @Ol))) (aN (aN @JF (aN @HU @JM)) (aN (aN @PA @K5) (aN @Ww @Xl))))) (aN (aN (aN (aN @Lm (aN @Jg @MT)) (aN @Ir (aN @Kf @Nj))) (aN (aN @PJ (aN @WY @w3_)) (aN (aN @GU @IZ) (aN @Xg @Ks)))) (aN (aN (aN @NN (aN @I1 @XK)) (aN (aN @FX @XU) (aN @LM @ML))) (aN (aN @PG (aN @MM @df)) (aN (aN @MR @JE) (aN @yN @dC)))))) (aN (aN (aN (aN (aN @dW (aN @cG @cH)) (aN @Ha (aN @Wv @NM))) (aN (aN @NL (aN @KG @IE)) (aN (aN @OH @Jf) (aN @Ky @NA)))) (aN (aN (aN @Li (aN @K9 @KD)) (aN (aN @NV @Nc) (aN @NZ @Oz))) (aN (aN @K3 (aN @Ml @N2)) (aN (aN @Lw @Oh) (aN @LF @M8))))) (aN (aN (aN (aN @N3 (aN @Ij @KL)) (aN (aN @NS @LP) (aN @JS @OD))) (aN (aN @O2 (aN @P5 @Nk)) (aN (aN @P8 @NH) (aN @Mc @NY)))) (aN (aN (aN @La (aN @Lp @NI)) (aN (aN @Lb @Lj) (aN @O4 @Lo))) (aN (aN @Qj (aN @QY @Ph)) (aN (aN @Ps @MG) (aN @JL @JN))))))
def S1:=aN (aN (aN (aN (aN (aN (aN (aN @MU @Ot) (aN @Oe (aN @PK @OU))) (aN (aN @PM @fN) (aN @fO (aN @gN @wH)))) (aN (aN (aN @IW @HV) (aN @NP (aN @Ft @NE))) (aN (aN @Mb @beq_true) (aN @beq_false (aN @Bool.not_true @Bool.not_false))))) (aN (aN (aN (aN @Md.next_seq @Md.next_any) (aN @Md.next_qui (aN @Md.next_sof @GN))) (aN (aN @Fx @GJ) (aN @XQ (aN @Wz @XV)))) (aN (aN (aN @PW @Nl) (aN @NB (aN @Lk @Mt))) (aN (aN @Qd (aN @OA @Oa)) (aN @ON (aN @Oj @Of)))))) (aN (aN (aN (aN (aN @I4 @Jh) (aN @IS (aN @Jo @KX))) (aN (aN @Jc @Ip) (aN @E0 (aN @JB @JC)))) (aN (aN (aN @Js @IT) (aN @Je (aN @I9 @LU))) (aN (aN @GE (aN @V2 @Ik)) (aN @Xd (aN @Xe @T_))))) (aN (aN (aN (aN @U7 @Xn) (aN @Xf (aN @IV @XP))) (aN (aN @XY @Gf) (aN @We (aN @Wq @H5)))) (aN (aN (aN @Wl @Wu) (aN @HW (aN @GV @HE))) (aN (aN @Hh (aN @GK @Ju)) (aN @Gu (aN @G9 @Hm))))))) (aN (aN (aN (aN (aN (aN @Gb @F_) (aN @Fz (aN @Hq @Gc))) (aN (aN @Gl @IQ) (aN @F1 (aN @U2 @Gj)))) (aN (aN (aN @Wk @XI) (aN @VB (aN @V5 @Wj))) (aN (aN @XZ (aN @H1 @Y0)) (aN @XA (aN @FZ @WU))))) (aN (aN (aN (aN @Y7 @FD) (aN @X_ (aN @Y8 @Fj))) (aN (aN @GM @Gk) (aN @Gg (aN @Hv @Ja)))) (aN (aN (aN @Gi @Gh) (aN @HF (aN @Gt @GQ))) (aN (aN @GD (aN @GF @GC)) (aN @Hw (aN @IR @FP)))))) (aN (aN (aN (aN (aN @Tu @HY) (aN @Wb (aN @Wd @VC))) (aN (aN @V9 @Xa) (aN @XT (aN @Hl @WT)))) (aN (aN (aN @Y1 @F8) (aN @XC (aN @XD @FT))) (aN (aN @XE (aN @Xz @F5)) (aN @HH (aN @GB @HA))))) (aN (aN (aN (aN @HN @Io) (aN @HC (aN @Gn @HL))) (aN (aN @HX @HO) (aN @H2 (aN @HS @H7)))) (aN (aN (aN @Hd @Hz) (aN @Fs (aN @U6 @Ht))) (aN (aN @Wr (aN @X5 @V8)) (aN @VA (aN @Wf @Wh)))))))) (aN (aN (aN (aN (aN (aN (aN @Gm @Y2) (aN @Y3 (aN @FA @XH))) (aN (aN @Y9 @Fc) (aN @XG (aN @Y6 @F9)))) (aN (aN (aN @JX @K6) (aN @KV (aN @KW @K_))) (aN (aN @LW (aN @Kr @K2)) (aN @KN (aN @Jx @K1))))) (aN (aN (aN (aN @MY @Q2) (aN @Fg (aN @Ke @LC))) (aN (aN @Jz @JI) (aN @MC (aN @wF @LI)))) (aN (aN (aN @Nn @M5) (aN @Oc (aN @GY @FN))) (aN (aN @Wx (aN @PT @Pb)) (aN @Mk (aN @J6 @Gx)))))) (aN (aN (aN (aN (aN @Fu @Hn) (aN @II (aN @PC @OY))) (aN (aN @MA @Ge) (aN @Fe (aN @Ff @Fa)))) (aN (aN (aN @Hu @PF) (aN @Og (aN @Kh @H3))) (aN (aN @E' (aN @Fp @FE)) (aN @Hi (aN @O1 @Oi))))) (aN (aN (aN (aN @Kt @Ga) (aN @Fo (aN @Fk @Fi))) (aN (aN @HD @P_) (aN @Pg (aN @M_ @JA)))) (aN (aN (aN @GP @HJ) (aN @Gw (aN @Iw @Ng))) (aN (aN @N4 (aN @Xh @Nu)) (aN @Gq (aN @V7 @BY))))))) (aN (aN (aN (aN (aN (aN @Q6 @P4) (aN @PU (aN @PX @Xr))) (aN (aN @XR @er) (aN @r9 (aN @l7 @tg)))) (aN (aN (aN @mo @BD) (aN @N7 (aN @NU @xz))) (aN (aN @N6 (aN @C1 @Is)) (aN @BP (aN @UC @HM))))) (aN (aN (aN (aN @LZ @KS) (aN @vA (aN @Lc @LA))) (aN (aN @LK @Pn) (aN @Po (aN (@Option.map_some.{0,0}) (@Option.map_none.{0,0}))))) (aN (aN (aN @Xx @Xp) (aN @XN (aN @I3 @Xi))) (aN (aN @FG (aN @Xq @NR)) (aN @NK (aN @or_i @Q_)))))) (aN (aN (aN (aN (aN @Xo @Xj) (aN @Wt (aN @bI (@List.cons_append.{0})))) (aN (aN (@List.nil_append.{0}) (@List.contains_cons.{0})) (aN (@List.contains_nil.{0}) (aN @Bool.or_false @Bool.false_or)))) (aN (aN (aN @Bool.or_true @Bool.true_or) (aN @Bool.false_eq_true (aN @CV @DU))) (aN (aN @DV (aN @Bh @KJ)) (aN @Nat.add_sub_cancel_left (aN (@List.set_set.{0}) @Int.toNat_natCast))))) (aN (aN (aN (aN @Nat.mul_one @Nat.zero_add) (aN @Nat.add_zero (aN (@ge_iff_le.{0}) (@gt_iff_lt.{0})))) (aN (aN (@beq_self_eq_true.{0}) @QU) (aN @QN (aN @oT @od)))) (aN (aN (aN @z7 @zG) (aN @Qy (aN @QC @QB))) (aN (aN @QL (aN @Ny @Ox)) (aN @Pv (aN @Nq @P1))))))))
end Go.Sx
end
section
open Go Go.Proofs Go.Sx
namespace Go.Proofs
def ix22:ixT prog 22= .sl (true,2):=id kR
def ix30:ixT prog 30= .sl (true,32):=id kR
def ix44:ixT prog 44= .sl (true,33):=id kR
def ix65:ixT prog 65= .sl (false,1):=id kR
def ix71:ixT prog 71= .sl (true,33):=id kR
def ix81:ixT prog 81= .sl (true,37):=id kR
def ix94:ixT prog 94= .sl (true,3):=id kR
def ix122:ixT prog 122= .sl (true,34):=id kR
def ix9:ixT prog 9= .str:=id kR
def ix24:ixT prog 24= .arr 32 (false,1):=id kR
def ix170:ixT prog 170= .arr 3 (false,1):=id kR
def ix172:ixT prog 172= .sl (false,1):=id kR
def ix179:ixT prog 179= .sl (false,1):=id kR
def ix191:ixT prog 191= .sl (true,2):=id kR
def ix196:ixT prog 196= .arr 3 (true,3):=id kR
def ix193:ixT prog 193= .sl (true,4):=id kR
def ix192:ixT prog 192= .sl (true,2):=id kR
def ix302:ixT prog 302= .sl (false,1):=id kR
def ix251:ixT prog 251= .arr 8 (false,1):=id kR
def ix262:ixT prog 262= .arr 4 (false,1):=id kR
def ix306:ixT prog 306= .arr 8 (false,1):=id kR
def ix307:ixT prog 307= .arr 64 (false,1):=id kR
def ix162:ixT prog 162= .no:=id kR
def ix232:ixT prog 232= .sl (false,1):=id kR
def ix346:ixT prog 346= .arr 4 (false,1):=id kR
def ix348:ixT prog 348= .arr 6 (false,1):=id kR
def ix362:ixT prog 362= .sl (true,3):=id kR
def ix295:ixT prog 295= .arr 64 (false,1):=id kR
def ix414:ixT prog 414= .arr 16 (false,1):=id kR
def ix408:ixT prog 408= .sl (true,2):=id kR
def ag24:aM prog 24=some (true,32):=id kR
def ag32:aM prog 32=some (true,2):=id kR
def ag35:aM prog 35=some (true,2):=id kR
def ag46:aM prog 46=some (true,7):=id kR
def ag30:aM prog 30=some (false,1):=id kR
def ag3:aM prog 3=some (false,1):=id kR
def ag67:aM prog 67=some (true,37):=id kR
def ag73:aM prog 73=some (true,2):=id kR
def ag9:aM prog 9=some (false,1):=id kR
def ag71:aM prog 71=some (false,1):=id kR
def ag65:aM prog 65=some (false,1):=id kR
def ag117:aM prog 117=some (true,34):=id kR
def ag121:aM prog 121=some (true,1):=id kR
def ag119:aM prog 119=some (false,1):=id kR
def ag22:aM prog 22=some (false,1):=id kR
def ag126:aM prog 126=some (true,34):=id kR
def ag133:aM prog 133=some (true,5):=id kR
def ag44:aM prog 44=some (false,1):=id kR
def ag59:aM prog 59=some (true,33):=id kR
def ag130:aM prog 130=some (false,1):=id kR
def ag131:aM prog 131=some (false,1):=id kR
def ag122:aM prog 122=some (false,1):=id kR
def ag41:aM prog 41=some (false,1):=id kR
def ag28:aM prog 28=some (false,1):=id kR
def ag82:aM prog 82=some (false,1):=id kR
def ag4:aM prog 4=some (false,1):=id kR
def ag5:aM prog 5=some (false,1):=id kR
def ag170:aM prog 170=some (true,3):=id kR
def ag166:aM prog 166=some (false,1):=id kR
def ag172:aM prog 172=some (false,1):=id kR
def ag176:aM prog 176=some (false,1):=id kR
def ag173:aM prog 173=some (false,1):=id kR
def ag151:aM prog 151=some (true,4):=id kR
def ag149:aM prog 149=some (true,33):=id kR
def ag187:aM prog 187=some (true,3):=id kR
def ag182:aM prog 182=some (true,2):=id kR
def ag191:aM prog 191=some (false,1):=id kR
def ag200:aM prog 200=some (true,2):=id kR
def ag192:aM prog 192=some (false,1):=id kR
def ag203:aM prog 203=some (true,2):=id kR
def ag108:aM prog 108=some (true,4):=id kR
def ag97:aM prog 97=some (false,1):=id kR
def ag169:aM prog 169=some (false,1):=id kR
def ag193:aM prog 193=some (false,1):=id kR
def ag219:aM prog 219=some (true,4):=id kR
def ag236:aM prog 236=some (true,2):=id kR
def ag243:aM prog 243=some (true,3):=id kR
def ag251:aM prog 251=some (true,8):=id kR
def ag250:aM prog 250=some (false,1):=id kR
def ag262:aM prog 262=some (true,4):=id kR
def ag142:aM prog 142=some (true,36):=id kR
def ag261:aM prog 261=some (false,1):=id kR
def ag168:aM prog 168=some (true,5):=id kR
def ag175:aM prog 175=some (true,3):=id kR
def ag198:aM prog 198=some (true,13):=id kR
def ag298:aM prog 298=some (true,75):=id kR
def ag306:aM prog 306=some (true,8):=id kR
def ag307:aM prog 307=some (true,64):=id kR
def ag140:aM prog 140=some (false,1):=id kR
def ag314:aM prog 314=some (true,3):=id kR
def ag321:aM prog 321=some (true,7):=id kR
def ag336:aM prog 336=some (true,5):=id kR
def ag302:aM prog 302=some (false,1):=id kR
def ag296:aM prog 296=some (false,1):=id kR
def ag232:aM prog 232=some (false,1):=id kR
def ag76:aM prog 76=some (false,1):=id kR
def ag346:aM prog 346=some (true,4):=id kR
def ag348:aM prog 348=some (true,6):=id kR
def ag347:aM prog 347=some (false,1):=id kR
def ag231:aM prog 231=some (false,1):=id kR
def ag382:aM prog 382=some (false,1):=id kR
def ag179:aM prog 179=some (false,1):=id kR
def ag395:aM prog 395=some (true,3):=id kR
def ag418:aM prog 418=some (true,2):=id kR
def ag416:aM prog 416=some (false,1):=id kR
def ag178:aM prog 178=some (false,1):=id kR
def ag414:aM prog 414=some (true,16):=id kR
def zr24:bL prog 24=some (.agg (a8 (List.replicate 32 0))):=id kR
def zr149:bL prog 149=some (.agg #[(vs []),(v8 0),(v8 0),(v8 0),(v8 0),(v8 0),(v8 0),(v8 0),(v8 0),(v8 0),(v8 0),(v8 0),(v8 0),(v8 0),(v8 0),(v8 0),(v8 0),(v8 0),(v8 0),(v8 0),(v8 0),(v8 0),(v8 0),(v8 0),(v8 0),(v8 0),(v8 0),(v8 0),(v8 0),(v8 0),(v8 0),(v8 0),(v8 0)]):=id kR
def zr236:bL prog 236=some (.agg #[(.pointer none),(.slice none 0 0)]):=id kR
def zr321:bL prog 321=some (.agg #[(vs []),(vs []),(vs []),(.bool false),(vi 0),(.bool false),(.bool false)]):=id kR
def zr5:bL prog 5=some (v8 0):=id kR
def zr346:bL prog 346=some (.agg (a8 (List.replicate 4 0))):=id kR
def zr348:bL prog 348=some (.agg #[.nilFunc, .nilFunc, .nilFunc, .nilFunc, .nilFunc, .nilFunc]):=id kR
def pc149:fX prog 149=some [(0,1),(1,32)]:=id kR
def fl46_4:aT prog 46 4=some (5,(false,1)):=id kR
def fl46_5:aT prog 46 5=some (6,(false,1)):=id kR
def fl59_0:aT prog 59 0=some (0,(true,32)):=id kR
def fl35_0:aT prog 35 0=some (0,(false,1)):=id kR
def fl59_1:aT prog 59 1=some (32,(false,1)):=id kR
def fl67_2:aT prog 67 2=some (2,(false,1)):=id kR
def fl67_3:aT prog 67 3=some (3,(true,32)):=id kR
def fl67_1:aT prog 67 1=some (1,(false,1)):=id kR
def fl67_0:aT prog 67 0=some (0,(false,1)):=id kR
def fl73_1:aT prog 73 1=some (1,(false,1)):=id kR
def fl73_0:aT prog 73 0=some (0,(false,1)):=id kR
def fl67_5:aT prog 67 5=some (36,(false,1)):=id kR
def fl108_1:aT prog 108 1=some (1,(true,2)):=id kR
def fl108_2:aT prog 108 2=some (3,(false,1)):=id kR
def fl35_1:aT prog 35 1=some (1,(false,1)):=id kR
def fl121_0:aT prog 121 0=some (0,(false,1)):=id kR
def fl32_0:aT prog 32 0=some (0,(false,1)):=id kR
def fl32_1:aT prog 32 1=some (1,(false,1)):=id kR
def fl46_1:aT prog 46 1=some (2,(false,1)):=id kR
def fl133_1:aT prog 133 1=some (1,(false,1)):=id kR
def fl133_2:aT prog 133 2=some (2,(false,1)):=id kR
def fl46_2:aT prog 46 2=some (3,(false,1)):=id kR
def fl46_0:aT prog 46 0=some (0,(true,2)):=id kR
def fl46_3:aT prog 46 3=some (4,(false,1)):=id kR
def fl133_3:aT prog 133 3=some (3,(false,1)):=id kR
def fl133_4:aT prog 133 4=some (4,(false,1)):=id kR
def fl142_1:aT prog 142 1=some (1,(false,1)):=id kR
def fl117_2:aT prog 117 2=some (2,(true,32)):=id kR
def fl117_1:aT prog 117 1=some (1,(false,1)):=id kR
def fl142_2:aT prog 142 2=some (2,(true,34)):=id kR
def fl126_0:aT prog 126 0=some (0,(true,32)):=id kR
def fl126_1:aT prog 126 1=some (32,(false,1)):=id kR
def fl133_0:aT prog 133 0=some (0,(false,1)):=id kR
def fl151_1:aT prog 151 1=some (1,(true,2)):=id kR
def fl151_0:aT prog 151 0=some (0,(false,1)):=id kR
def fl151_2:aT prog 151 2=some (3,(false,1)):=id kR
def fl168_2:aT prog 168 2=some (2,(false,1)):=id kR
def fl168_3:aT prog 168 3=some (3,(false,1)):=id kR
def fl67_4:aT prog 67 4=some (35,(false,1)):=id kR
def fl168_0:aT prog 168 0=some (0,(false,1)):=id kR
def fl175_2:aT prog 175 2=some (2,(false,1)):=id kR
def fl175_1:aT prog 175 1=some (1,(false,1)):=id kR
def fl175_0:aT prog 175 0=some (0,(false,1)):=id kR
def fl168_4:aT prog 168 4=some (4,(false,1)):=id kR
def fl182_0:aT prog 182 0=some (0,(false,1)):=id kR
def fl182_1:aT prog 182 1=some (1,(false,1)):=id kR
def fl187_2:aT prog 187 2=some (2,(false,1)):=id kR
def fl187_1:aT prog 187 1=some (1,(false,1)):=id kR
def fl187_0:aT prog 187 0=some (0,(false,1)):=id kR
def fl198_1:aT prog 198 1=some (9,(false,1)):=id kR
def fl198_0:aT prog 198 0=some (0,(true,9)):=id kR
def fl195_0:aT prog 195 0=some (0,(false,1)):=id kR
def fl195_1:aT prog 195 1=some (1,(false,1)):=id kR
def fl108_0:aT prog 108 0=some (0,(false,1)):=id kR
def fl198_3:aT prog 198 3=some (11,(false,1)):=id kR
def fl195_2:aT prog 195 2=some (2,(false,1)):=id kR
def fl198_4:aT prog 198 4=some (12,(false,1)):=id kR
def fl203_1:aT prog 203 1=some (1,(false,1)):=id kR
def fl200_0:aT prog 200 0=some (0,(false,1)):=id kR
def fl200_1:aT prog 200 1=some (1,(false,1)):=id kR
def fl203_0:aT prog 203 0=some (0,(false,1)):=id kR
def fl117_0:aT prog 117 0=some (0,(false,1)):=id kR
def fl243_2:aT prog 243 2=some (2,(false,1)):=id kR
def fl243_1:aT prog 243 1=some (1,(false,1)):=id kR
def fl126_2:aT prog 126 2=some (33,(false,1)):=id kR
def fl168_1:aT prog 168 1=some (1,(false,1)):=id kR
def fl149_0:aT prog 149 0=some (0,(false,1)):=id kR
def fl149_1:aT prog 149 1=some (1,(true,32)):=id kR
def fl198_2:aT prog 198 2=some (10,(false,1)):=id kR
def fl219_0:aT prog 219 0=some (0,(false,1)):=id kR
def fl219_3:aT prog 219 3=some (3,(false,1)):=id kR
def fl219_1:aT prog 219 1=some (1,(false,1)):=id kR
def fl219_2:aT prog 219 2=some (2,(false,1)):=id kR
def fl236_0:aT prog 236 0=some (0,(true,2)):=id kR
def fl243_0:aT prog 243 0=some (0,(false,1)):=id kR
def fl142_0:aT prog 142 0=some (0,(false,1)):=id kR
def fl314_1:aT prog 314 1=some (1,(false,1)):=id kR
def fl314_0:aT prog 314 0=some (0,(false,1)):=id kR
def fl336_3:aT prog 336 3=some (3,(false,1)):=id kR
def fl298_4:aT prog 298 4=some (74,(false,1)):=id kR
def fl298_3:aT prog 298 3=some (73,(false,1)):=id kR
def fl298_1:aT prog 298 1=some (1,(true,8)):=id kR
def fl234_1:aT prog 234 1=some (1,(false,1)):=id kR
def fl314_2:aT prog 314 2=some (2,(false,1)):=id kR
def fl321_4:aT prog 321 4=some (4,(false,1)):=id kR
def fl321_3:aT prog 321 3=some (3,(false,1)):=id kR
def fl321_6:aT prog 321 6=some (6,(false,1)):=id kR
def fl321_5:aT prog 321 5=some (5,(false,1)):=id kR
def fl321_0:aT prog 321 0=some (0,(false,1)):=id kR
def fl321_1:aT prog 321 1=some (1,(false,1)):=id kR
def fl336_1:aT prog 336 1=some (1,(false,1)):=id kR
def fl336_0:aT prog 336 0=some (0,(false,1)):=id kR
def fl336_4:aT prog 336 4=some (4,(false,1)):=id kR
def fl336_2:aT prog 336 2=some (2,(false,1)):=id kR
def fl298_0:aT prog 298 0=some (0,(false,1)):=id kR
def fl298_2:aT prog 298 2=some (9,(true,64)):=id kR
def fl234_0:aT prog 234 0=some (0,(false,1)):=id kR
def fl395_0:aT prog 395 0=some (0,(false,1)):=id kR
def fl395_1:aT prog 395 1=some (1,(false,1)):=id kR
def fl395_2:aT prog 395 2=some (2,(false,1)):=id kR
def fl321_2:aT prog 321 2=some (2,(false,1)):=id kR
def fl418_0:aT prog 418 0=some (0,(false,1)):=id kR
def fl418_1:aT prog 418 1=some (1,(false,1)):=id kR
def cv5_3:cvT prog 5 3= .int .i64:=id kR
def cv169_3:cvT prog 169 3= .int .i64:=id kR
def cv3_253:cvT prog 3 253= .int .u64:=id kR
def cv250_5:cvT prog 250 5= .int .u8:=id kR
def cv3_5:cvT prog 3 5= .int .u8:=id kR
def cv232_9:cvT prog 232 9= .bytesStr:=id kR
def cv3_296:cvT prog 3 296= .int .u64:=id kR
def cv296_5:cvT prog 296 5= .int .u8:=id kR
def cv5_250:cvT prog 5 250= .int .u32:=id kR
def cv253_250:cvT prog 253 250= .int .u32:=id kR
def cv231_371:cvT prog 231 371= .no:=id kR
def cv371_231:cvT prog 371 231= .no:=id kR
def cv3_382:cvT prog 3 382= .int .u64:=id kR
def cv253_3:cvT prog 253 3= .int .i64:=id kR
def cv3_419:cvT prog 3 419= .no:=id kR
def cv419_3:cvT prog 419 3= .no:=id kR
def fx:=aN (aN (aN (aN (aN (aN (aN @ix22 (aN @ix30 @ix44)) (aN (aN @ix65 @ix71) (aN @ix81 @ix94))) (aN (aN @ix122 (aN @ix9 @ix24)) (aN (aN @ix170 @ix172) (aN @ix179 @ix191)))) (aN (aN (aN @ix196 (aN @ix193 @ix192)) (aN (aN @ix302 @ix251) (aN @ix262 @ix306))) (aN (aN @ix307 (aN @ix162 @ix232)) (aN (aN @ix346 @ix348) (aN @ix362 @ix295))))) (aN (aN (aN (aN @ix414 (aN @ix408 @ag24)) (aN (aN @ag32 @ag35) (aN @ag46 @ag30))) (aN (aN @ag3 (aN @ag67 @ag73)) (aN (aN @ag9 @ag71) (aN @ag65 @ag117)))) (aN (aN (aN @ag121 (aN @ag119 @ag22)) (aN (aN @ag126 @ag133) (aN @ag44 @ag59))) (aN (aN @ag130 (aN @ag131 @ag122)) (aN (aN @ag41 @ag28) (aN @ag82 @ag4)))))) (aN (aN (aN (aN (aN @ag5 (aN @ag170 @ag166)) (aN (aN @ag172 @ag176) (aN @ag173 @ag151))) (aN (aN @ag149 (aN @ag187 @ag182)) (aN (aN @ag191 @ag200) (aN @ag192 @ag203)))) (aN (aN (aN @ag108 (aN @ag97 @ag169)) (aN (aN @ag193 @ag219) (aN @ag236 @ag243))) (aN (aN @ag251 (aN @ag250 @ag262)) (aN (aN @ag142 @ag261) (aN @ag168 @ag175))))) (aN (aN (aN (aN @ag198 (aN @ag298 @ag306)) (aN (aN @ag307 @ag140) (aN @ag314 @ag321))) (aN (aN @ag336 (aN @ag302 @ag296)) (aN (aN @ag232 @ag76) (aN @ag346 @ag348)))) (aN (aN (aN @ag347 (aN @ag231 @ag382)) (aN (aN @ag179 @ag395) (aN @ag418 @ag416))) (aN (aN (aN @ag178 @ag414) (aN @fl46_4 @fl46_5)) (aN (aN @fl59_0 @fl35_0) (aN @fl59_1 @fl67_2))))))) (aN (aN (aN (aN (aN (aN @fl67_3 (aN @fl67_1 @fl67_0)) (aN (aN @fl73_1 @fl73_0) (aN @fl67_5 @fl108_1))) (aN (aN @fl108_2 (aN @fl35_1 @fl121_0)) (aN (aN @fl32_0 @fl32_1) (aN @fl46_1 @fl133_1)))) (aN (aN (aN @fl133_2 (aN @fl46_2 @fl46_0)) (aN (aN @fl46_3 @fl133_3) (aN @fl133_4 @fl142_1))) (aN (aN @fl117_2 (aN @fl117_1 @fl142_2)) (aN (aN @fl126_0 @fl126_1) (aN @fl133_0 @fl151_1))))) (aN (aN (aN (aN @fl151_0 (aN @fl151_2 @fl168_2)) (aN (aN @fl168_3 @fl67_4) (aN @fl168_0 @fl175_2))) (aN (aN @fl175_1 (aN @fl175_0 @fl168_4)) (aN (aN @fl182_0 @fl182_1) (aN @fl187_2 @fl187_1)))) (aN (aN (aN @fl187_0 (aN @fl198_1 @fl198_0)) (aN (aN @fl195_0 @fl195_1) (aN @fl108_0 @fl198_3))) (aN (aN @fl195_2 (aN @fl198_4 @fl203_1)) (aN (aN @fl200_0 @fl200_1) (aN @fl203_0 @fl117_0)))))) (aN (aN (aN (aN (aN @fl243_2 (aN @fl243_1 @fl126_2)) (aN (aN @fl168_1 @fl149_0) (aN @fl149_1 @fl198_2))) (aN (aN @fl219_0 (aN @fl219_3 @fl219_1)) (aN (aN @fl219_2 @fl236_0) (aN @fl243_0 @fl142_0)))) (aN (aN (aN @fl314_1 (aN @fl314_0 @fl336_3)) (aN (aN @fl298_4 @fl298_3) (aN @fl298_1 @fl234_1))) (aN (aN @fl314_2 (aN @fl321_4 @fl321_3)) (aN (aN @fl321_6 @fl321_5) (aN @fl321_0 @fl321_1))))) (aN (aN (aN (aN @fl336_1 (aN @fl336_0 @fl336_4)) (aN (aN @fl336_2 @fl298_0) (aN @fl298_2 @fl234_0))) (aN (aN @fl395_0 (aN @fl395_1 @fl395_2)) (aN (aN @fl321_2 @fl418_0) (aN @fl418_1 @cv5_3)))) (aN (aN (aN @cv169_3 (aN @cv3_253 @cv250_5)) (aN (aN @cv3_5 @cv232_9) (aN @cv3_296 @cv296_5))) (aN (aN (aN @cv5_250 @cv253_250) (aN @cv231_371 @cv371_231)) (aN (aN @cv3_382 @cv253_3) (aN @cv3_419 @cv419_3)))))))
def dD {p:Prop} (h:p:=by first|assumption|omega| (simp only[pU,pT,UInt64.reduceToNat];first|done|omega)):p:=h
def kp {X A G:Prop} (x:X) (h:G) (e:X→A=G:=by intro x;(try simp(disch:=(first|assumption|omega| (simp only[pU,pT,UInt64.reduceToNat];try omega))) only[↓Sx.S0,Sx.S1,fx,Nat.reduceAdd,Nat.reducePow,Int.reducePow,Nat.reduceBEq, ↓reduceIte,UInt8.reduceToNat,UInt16.reduceToNat,UInt32.reduceToNat,UInt64.reduceToNat,Int.reduceToNat,x]);exact rfl):A:=(e x).mpr h
class Stp (z:List Nat) (A:Prop) (B:outParam Prop):Prop where
 go:B→A
instance (priority:=low) {z:List Nat} {A:Prop}:Stp z A A:=⟨id⟩
section
variable {P:Program} {w0:World} {f:Fr} {L:aA} {K:bY} {N:Fr→aA→Prop} {ops:Array Oper} {md:Md} {l:List Oper} {X G:Prop}
def ks {c:Code} (z:List Nat) [Sx.Steps c] (x:X) (h:G) (e:X→vcC P w0 z c f L (bsK K)=G:=by intro x;(try simp(disch:=(first|assumption|omega| (simp only[pU,pT,UInt64.reduceToNat];try omega))) only[↓Sx.S0,Sx.S1,fx,Nat.reduceAdd,Nat.reducePow,Int.reducePow,Nat.reduceBEq, ↓reduceIte,UInt8.reduceToNat,UInt16.reduceToNat,UInt32.reduceToNat,UInt64.reduceToNat,Int.reduceToNat,x]);exact rfl):Cw P w0 c f L K:=Cw.go z ((e x).mpr h)
instance {c:Code} {z:List Nat} [Sx.Steps c]:Stp z (Cw P w0 c f L K) (vcC P w0 z c f L (bsK K)):=⟨Cw.go z⟩
def ko (x:X) (h:G) (e:X→vcL P w0 ops true md l f L (owk P w0 ops (bsN N))=G:=by intro x;(try simp(disch:=(first|assumption|omega| (simp only[pU,pT,UInt64.reduceToNat];try omega))) only[↓Sx.S0,Sx.S1,fx,Nat.reduceAdd,Nat.reducePow,Int.reducePow,Nat.reduceBEq, ↓reduceIte,UInt8.reduceToNat,UInt16.reduceToNat,UInt32.reduceToNat,UInt64.reduceToNat,Int.reduceToNat,x]);exact rfl) (he:md.eff=true:=by rfl):Ow P w0 ops md l f L N:=Ow.go he ((e x).mpr h)
def kq (x:X) (h:G) (e:X→vcL P w0 ops false md l f L (owk P w0 ops (bsN N))=G:=by intro x;(try simp(disch:=(first|assumption|omega| (simp only[pU,pT,UInt64.reduceToNat];try omega))) only[↓Sx.S0,Sx.S1,fx,Nat.reduceAdd,Nat.reducePow,Int.reducePow,Nat.reduceBEq, ↓reduceIte,UInt8.reduceToNat,UInt16.reduceToNat,UInt32.reduceToNat,UInt64.reduceToNat,Int.reduceToNat,x]);exact rfl):Ow P w0 ops md l f L N:=Ow.goQ ((e x).mpr h)
end
def kz {X A B G:Prop} (z:List Nat) [Stp z A B] (x:X) (h:G) (e:X→B=G:=by intro x;(try simp(disch:=(first|assumption|omega| (simp only[pU,pT,UInt64.reduceToNat];try omega))) only[↓Sx.S0,Sx.S1,fx,Nat.reduceAdd,Nat.reducePow,Int.reducePow,Nat.reduceBEq, ↓reduceIte,UInt8.reduceToNat,UInt16.reduceToNat,UInt32.reduceToNat,UInt64.reduceToNat,Int.reduceToNat,x]);exact rfl):A:=Stp.go z ((e x).mpr h)
def ky {X A B G:Prop} [Stp [] A B] (x:X) (h:G) (e:X→B=G:=by intro x;(try simp(disch:=(first|assumption|omega| (simp only[pU,pT,UInt64.reduceToNat];try omega))) only[↓Sx.S0,Sx.S1,fx,Nat.reduceAdd,Nat.reducePow,Int.reducePow,Nat.reduceBEq, ↓reduceIte,UInt8.reduceToNat,UInt16.reduceToNat,UInt32.reduceToNat,UInt64.reduceToNat,Int.reduceToNat,x]);exact rfl):A:=Stp.go [] ((e x).mpr h)
def ke {α:Type} {X:Prop} {a b:α} (x:X) (e:X→a=b:=by intro x;(try simp(disch:=(first|assumption|omega| (simp only[pU,pT,UInt64.reduceToNat];try omega))) only[↓Sx.S0,Sx.S1,fx,Nat.reduceAdd,Nat.reducePow,Int.reducePow,Nat.reduceBEq, ↓reduceIte,UInt8.reduceToNat,UInt16.reduceToNat,UInt32.reduceToNat,UInt64.reduceToNat,Int.reduceToNat,x]);exact rfl):a=b:=e x
def kn {A G:Prop} (h:G) (e:A=G:=by(try simp(disch:=(first|assumption|omega| (simp only[pU,pT,UInt64.reduceToNat];try omega))) only[l7,tg,List.cons_append,List.nil_append]);exact rfl):A:=e.mpr h
def kf {A G:Prop} (h:G) (e:A=G:=by simp only[List.size_toArray,List.length_cons,List.length_nil,Nat.reduceAdd,Nat.reduceSub,List.replicate_succ,List.replicate_zero,List.cons_append,List.nil_append];exact rfl):A:=e.mpr h
def kv {A G:Prop} (h:G) (e:A=G:=by simp only[jH,pin,fN,fO,List.contains_cons,List.contains_nil,Nat.reduceBEq,Bool.or_false,Bool.false_or,Bool.or_true,Bool.true_or,Nat.reduceAdd, ↓reduceIte,Bool.false_eq_true];exact rfl):A:=e.mpr h
def vJ (p v:Value) (E:TypeId) (n:Nat):ak (some (false,n)) (some (.cells #[p,v] E (0,0))) 0=some p:=(rfl)
def uz (p v:Value) (E:TypeId) (n:Nat):ak (some (false,n)) (some (.cells #[p,v] E (0,0))) 1=some v:=(rfl)
def w_ (p v x:Value) (E:TypeId) (hx:Value.oneCell' x=true∧x.cells= #[x]):bM (some (false,1)) (some (.cells #[p,v] E (0,0))) 0 x=some (.cells #[x,v] E (0,0)):=by
 simp[bM,hx,dY]
def xj (p v x:Value) (E:TypeId) (hx:Value.oneCell' x=true∧x.cells= #[x]):bM (some (false,1)) (some (.cells #[p,v] E (0,0))) 1 x=some (.cells #[p,x] E (0,0)):=by
 simp[bM,hx,dY]
def Di (p v:Value) (b o:Nat) (E:TypeId):bM (some (false,1)) (some (.cells #[p,v] E (0,0))) 0 (vp b o)=some (.cells #[vp b o,v] E (0,0)):=w_ _ _ _ _ ⟨rfl,rfl⟩
def nilB (b o:Nat):ac prog .eql 231 (vp b o) (.pointer none)=some (.bool false):=by
 simp[ac,eqX,eM,eX,underlying231,vp]
def sD:ac prog .eql 231 (.pointer none) (.pointer none)=some (.bool true):=by
 simp[ac,eqX,eM,eX,underlying231]
def lu:=aN (aN @vJ @uz) (aN @Di (aN @nilB @sD))
def QA:liesAt prog Tryz.prog.depth 236 ((#[Value.pointer none,Value.pointer none]:Array Value).size / Tryz.prog.cellsOf 236) 0 234 1=true:=id kR
def aggB:aM prog 234=some (true,2):=id kR
def NF (x:Value) (w:World): (callFunc 262 #[x]).run prog w= .ok (.value x) w:=by kernel_rfl
def WR (b:Nat) (p v:Value) (w:World) (hp:p= .pointer none∨p=vp b 0) (ho:w.heap[b]? =some (.cells #[p,v] 236 (0,0))):
  Rets prog 230 #[vp b 0] w (fun v' D=> ∃o,D= [(b,o)]∧v'= .tuple #[]∧o= .cells #[vp b 0,v] 236 (0,0)):=by
 refine Rets.enterM func230 rfl (rs:= []) results230 ntmps230 ho ?_
 refine kf ?_
 rcases hp with rfl|rfl
 ·refine ky @lu ?_
  refine Ow.toUnsafe rfl rfl kR rfl (ad (er _ _ _)) (by simp) aggB (by decide) underlying231 underlying371 ?_
  refine Ow.callExt (v:=vp b 0) rfl rfl (fun w=>NF _ w) ?_
  refine Ow.ofUnsafe rfl rfl kR rfl (ad (er _ _ _)) aggB QA underlying371 underlying231 ?_
  refine ko @lu ?_
  refine ky @lu ?_
  refine⟨_,_,_,(ke @lu),rfl,trivial, ?_⟩
  exact⟨rfl,rfl⟩
 refine kz [2] @lu ?_
 refine Cw.region ?_
 refine Ow.value rfl rfl rfl ?_
 refine Ow.value (v:=vp b 0) rfl rfl (by simp(disch:=first|exact dD|fail) only[↓Sx.S0,Sx.S1,fx,lu,Nat.reduceAdd,Nat.reducePow,Int.reducePow,Nat.reduceBEq, ↓reduceIte,UInt8.reduceToNat,UInt16.reduceToNat,UInt32.reduceToNat,UInt64.reduceToNat,Int.reduceToNat,gW]) ?_
 refine Ow.value (v:=vp b 0) rfl rfl (by simp(disch:=first|exact dD|fail) only[↓Sx.S0,Sx.S1,fx,lu,Nat.reduceAdd,Nat.reducePow,Int.reducePow,Nat.reduceBEq, ↓reduceIte,UInt8.reduceToNat,UInt16.reduceToNat,UInt32.reduceToNat,UInt64.reduceToNat,Int.reduceToNat,gW]) ?_
 refine Ow.value (v:=vp b 0) rfl rfl (by simp(disch:=first|exact dD|fail) only[↓Sx.S0,Sx.S1,fx,lu,Nat.reduceAdd,Nat.reducePow,Int.reducePow,Nat.reduceBEq, ↓reduceIte,UInt8.reduceToNat,UInt16.reduceToNat,UInt32.reduceToNat,UInt64.reduceToNat,Int.reduceToNat,gW]) ?_
 refine Ow.value rfl rfl rfl ?_
 refine Ow.neqSame rfl underlying231 aggB rfl rfl ?_
 refine ko @lu ?_
 refine ky @lu ?_
 refine⟨_,_,_,(ke @lu),rfl,trivial, ?_⟩
 exact⟨rfl,rfl⟩
def rE:=aN (aN @vJ @uz) (aN @Di (aN @nilB @sD))
def BldAt (b:Nat) (l:List UInt8) (X:aA):Prop:=
 ∃p v,Sx.look X b=some (.cells #[p,v] 236 (0,0))∧(p= .pointer none∨p=vp b 0)∧Buf X 5 1 v l.length (l.map v8)∧slB v≠some b
def WP (b:Nat) (X:aA) (l:List UInt8) (c:UInt8) (w:World) (hB:BldAt b l X) (hX: ∀p,p∈X→w.heap[p.1]? =some p.2) (hn: (keys X).Nodup) (hl:l.length<34359738368):
  Rets prog 191 #[vp b 0,v8 c] w (XS w X (fun v D=>v= .nilIface∧BldAt b (l++ [c]) D)):=by
 obtain⟨p,v,cJ,hp,hb,cA⟩:=hB
 refine Rets.enterX func191 rfl (rs:= [.tmp 4]) results191 ntmps191 hX hn ?_
 refine kf ?_
 refine ky @rE ?_
 refine Ow.callM rfl rfl call230 (bX cJ) (fun w' aB=>WR b p v w' hp (aB.has _ _ (cQ cJ))) ?_
 have lk1:=iI (x:= .cells #[vp b 0,v] 236 (0,0)) cJ
 have rd1:=ad (w0:=w) lk1
 have aP:Buf (setB X b (.cells #[vp b 0,v] 236 (0,0))) 5 1 v l.length (l.map v8):=hb.setO cA
 have kx:Ext w X (setB X b (.cells #[vp b 0,v] 236 (0,0))):=(Ext.refl w X).setB
 generalize setB X b (.cells #[vp b 0,v] 236 (0,0))=X1 at*
 refine ko @rE ?_
 refine ky (aN @rE @rd1) ?_
 refine Ow.buildSlice (e:=5) #[v8 c] rfl rfl kR fun b3 gd mf=> ?_
 have lk3:Sx.look (X1++ [(b3, .cells #[v8 c] 5 (0,0))]) b3=some (.cells #[v8 c] 5 (0,0)):=iE gd
 have ar:Buf (X1++ [(b3, .cells #[v8 c] 5 (0,0))]) 5 1 v l.length (l.map v8):=aP.app
 refine ko @rE ?_
 refine Ow.append (e:=5) _ rfl rfl rfl underlying232 ag5 kR zr5 kR underlying232 (by intro k h;cases h) ar (fun w' aB=>AppX.block (k:=1) (new:= [v8 c]) (ad lk3) (by simp) (by simp) rfl aB) oM (fun v2 L2 cX zN an=> ?_)
 have lk2:Sx.look L2 b=some (.cells #[vp b 0,v] 236 (0,0)):=zN.look b _ cA (cT lk1)
 have st2:bM (some (false,1)) (some (.cells #[vp b 0,v] 236 (0,0))) 1 v2=some (.cells #[vp b 0,v2] 236 (0,0)):=xj _ _ _ _ cX.cell
 refine ko (aN @rE (aN @lk2 (aN @st2 @lC))) ?_
 refine ky @rE ?_
 refine⟨_,(ke @rE), ?_⟩
 have ex:=(kx.app (o:= .cells #[v8 c] 5 (0,0)) mf).grew zN
 have eV:slB v2≠some b:=by
  rcases an with h| ⟨c',h,ha⟩
  ·rw[h];exact cA
  rw[h]
  intro e
  cases e
  exact Nat.lt_irrefl _ (ae ha (bX (cT lk1)))
 refine⟨ex.setB,rfl,vp b 0,v2,iI lk2, .inr rfl, ?_,eV⟩
 rw[List.length_append,List.map_append]
 exact cX.setO eV
def j1:=aN (aN @vJ @uz) (aN @Di (aN @nilB @sD))
def WW (b:Nat) (X:aA) (l s:List UInt8) (w:World) (hB:BldAt b l X) (hX: ∀p,p∈X→w.heap[p.1]? =some p.2) (hn: (keys X).Nodup) (hl:l.length+s.length<34359738368):
  Rets prog 208 #[vp b 0,vs s] w (XS w X (fun v D=>v= .tuple #[vi s.length, .nilIface]∧BldAt b (l++s) D)):=by
 obtain⟨p,v,cJ,hp,hb,cA⟩:=hB
 refine Rets.enterX func208 rfl (rs:= [.tmp 4, .tmp 5]) results208 ntmps208 hX hn ?_
 refine kf ?_
 refine ky @j1 ?_
 refine Ow.callM rfl rfl call230 (bX cJ) (fun w' aB=>WR b p v w' hp (aB.has _ _ (cQ cJ))) ?_
 have lk1:=iI (x:= .cells #[vp b 0,v] 236 (0,0)) cJ
 have rd1:=ad (w0:=w) lk1
 have aP:Buf (setB X b (.cells #[vp b 0,v] 236 (0,0))) 5 1 v l.length (l.map v8):=hb.setO cA
 have kx:Ext w X (setB X b (.cells #[vp b 0,v] 236 (0,0))):=(Ext.refl w X).setB
 generalize setB X b (.cells #[vp b 0,v] 236 (0,0))=X1 at*
 refine ko @j1 ?_
 refine ky (aN @j1 @rd1) ?_
 refine Ow.append (e:=5) _ rfl rfl rfl underlying232 ag5 kR zr5 kR underlying9 (by intro k h;cases h) aP (fun w' aB=>AppX.text _ w' s) oM (fun v2 L2 cX zN an=> ?_)
 have lk2:Sx.look L2 b=some (.cells #[vp b 0,v] 236 (0,0)):=zN.look b _ cA lk1
 have st2:bM (some (false,1)) (some (.cells #[vp b 0,v] 236 (0,0))) 1 v2=some (.cells #[vp b 0,v2] 236 (0,0)):=xj _ _ _ _ cX.cell
 refine ko (aN @j1 (aN @lk2 (aN @st2 @lC))) ?_
 refine ky @j1 ?_
 refine⟨_,(ke @j1), ?_⟩
 have ex:=kx.grew zN
 have eV:slB v2≠some b:=by
  rcases an with h| ⟨c',h,ha⟩
  ·rw[h];exact cA
  rw[h]
  intro e
  cases e
  exact Nat.lt_irrefl _ (ae ha (bX lk1))
 refine⟨ex.setB,rfl,vp b 0,v2,iI lk2, .inr rfl, ?_,eV⟩
 rw[List.length_append,List.map_append]
 exact cX.setO eV
def Fm (b:Nat) (X:aA) (l:List UInt8) (w:World) (hB:BldAt b l X) (hX: ∀p,p∈X→w.heap[p.1]? =some p.2) (hn: (keys X).Nodup) (hl:l.length<34359738368):
  Rets prog 192 #[vp b 0] w (XS w X (fun v _D=>v=vs l)):=by
 obtain⟨p,v,cJ,hp,hb,cA⟩:=hB
 have rd1:=ad (w0:=w) cJ
 refine Rets.enterX func192 rfl (rs:= [.tmp 2]) results192 ntmps192 hX hn ?_
 refine kf ?_
 refine ky @j1 ?_
 refine Cw.regionS [b] [0,1,2,5,6,7,3,8,9,4,10,11] [] kR kR kR ?_
 simp only[cR, ↓cS, ↓bz, ↓cG, ↓cH,b_]
 refine Ow.goQ ?_
 simp(disch:=first|exact dD|fail) only[↓Sx.S0,Sx.S1,fx,j1,Nat.reduceAdd,Nat.reducePow,Int.reducePow,Nat.reduceBEq, ↓reduceIte,UInt8.reduceToNat,UInt16.reduceToNat,UInt32.reduceToNat,UInt64.reduceToNat,Int.reduceToNat,rd1,hb.len]
 refine Ow.soft rfl rfl rfl ?_
 rcases hb.inv with⟨rfl,h0,-⟩ | ⟨b2,c,rest,rfl,gR,h1,h3,h4,-⟩
 ·obtain rfl:l= []:=List.eq_nil_of_length_eq_zero h0
  refine Ow.sliceData (v:= .pointer none) rfl rfl (.inl ⟨0,0,rfl,rfl⟩) ?_
  with_reducible refine Ow.nil ?_
  refine⟨by intro b hb;simp only[List.mem_cons,List.not_mem_nil,or_false] at hb;(try subst hb);rfl, ?_⟩
  refine Ow.soft rfl rfl rfl ?_
  refine Ow.unsafeStringNil rfl rfl rfl rfl ?_
  with_reducible refine Ow.nil ?_
  refine⟨by intro b hb;simp only[List.mem_cons,List.not_mem_nil,or_false] at hb;(try subst hb);rfl, ?_⟩
  refine kq @j1 ?_
  try with_reducible refine Ow.nil ?_
  refine ky @j1 ?_
  refine⟨_,(ke @j1), ?_⟩
  exact⟨Ext.refl _ _,rfl⟩
 refine Ow.sliceData (v:=vp b2 0) rfl rfl (.inr ⟨b2,_,c,rfl,by omega,rfl⟩) ?_
 with_reducible refine Ow.nil ?_
 refine⟨by intro b hb;simp only[List.mem_cons,List.not_mem_nil,or_false] at hb;(try subst hb);rfl, ?_⟩
 by_cases h0:l.length=0
 ·obtain rfl:l= []:=List.eq_nil_of_length_eq_zero h0
  refine Ow.soft rfl rfl rfl ?_
  refine Ow.unsafeStringNil rfl rfl rfl rfl ?_
  with_reducible refine Ow.nil ?_
  refine⟨by intro b hb;simp only[List.mem_cons,List.not_mem_nil,or_false] at hb;(try subst hb);rfl, ?_⟩
  refine kq @j1 ?_
  try with_reducible refine Ow.nil ?_
  refine ky @j1 ?_
  refine⟨_,(ke @j1), ?_⟩
  exact⟨Ext.refl _ _,rfl⟩
 refine Ow.soft rfl rfl rfl ?_
 refine Ow.unsafeString rfl rfl rfl rfl gR oM oM underlying341 kR (of_decide_eq_true kR) ?_
 with_reducible refine Ow.nil ?_
 refine⟨by intro b hb;simp only[List.mem_cons,List.not_mem_nil,or_false] at hb;(try subst hb);exact BX (fun e=>cA (by rw[←e];rfl)), ?_⟩
 refine kq @j1 ?_
 try with_reducible refine Ow.nil ?_
 refine ky @j1 ?_
 refine⟨_,(ke @j1), ?_⟩
 exact⟨(Ext.refl _ _).setB,rfl⟩
def nilW (b o:Nat):ac prog .eql 268 (vp b o) (.pointer none)=some (.bool false):=by
 simp[ac,eqX,eM,eX,underlying268,vp]
def ia:=aN @vJ (aN @uz @nilW)
structure WG where
 g:Nat
 D:aA
def XW (l:List (List UInt8)) (g:Nat) (h:g<l.length): (l.take (g+1)).flatten=(l.take g).flatten++l.getD g []:=by
 rw[List.take_add_one,List.getElem?_eq_getElem h,List.flatten_append,List.getD_eq_getElem?_getD,List.getElem?_eq_getElem h]
 simp
def FL (l:List (List UInt8)) (g:Nat): (l.take g).flatten.length≤l.flatten.length:=by
 conv=>rhs;rw[←List.take_append_drop g l,List.flatten_append,List.length_append]
 omega
def C0 (b:Nat) (X:aA) (l:List UInt8) (x:Value) (b2 off:Nat) (ls:List (List UInt8)) (arr:Array Value) (E:TypeId) (fz:Nat×Nat) (w:World) (hB:BldAt b l X) (hX: ∀p,p∈X→w.heap[p.1]? =some p.2) (hn: (keys X).Nodup)
  (hS:StrS w x ls b2 off arr E fz) (aQ:0<ls.length→b2∉keys X) (hl:l.length+ls.flatten.length<34359738368) (sm:ls.length<34359738368):
  Rets prog 154 #[vp b 0,x] w (XS w X (fun v D=>v= .tuple #[]∧BldAt b (l++ls.flatten) D)):=by
 refine Rets.enterX func154 rfl (rs:= []) results154 ntmps154 hX hn ?_
 refine kf ?_
 ((try with_reducible refine Cw.go [] ?_);(try simp(disch:=first|exact dD|fail) only[↓Sx.S0,Sx.S1,fx,ia,Nat.reduceAdd,Nat.reducePow,Int.reducePow,Nat.reduceBEq, ↓reduceIte,UInt8.reduceToNat,UInt16.reduceToNat,UInt32.reduceToNat,UInt64.reduceToNat,Int.reduceToNat,hS.len]))
 refine Cw.loopG (G:=WG) [11,12,13,5,14,15,16,17,18,19,10] (fun g=> [(10,vi g.g)]) (fun g=>g.D) (fun g=>g.g≤ls.length∧Ext w X g.D∧BldAt b (l++ (ls.take g.g).flatten) g.D) (fun g=>ls.length - g.g) ⟨0,X⟩ rfl rfl ?_ ?_
 ·exact⟨by simp,Ext.refl _ _,by simpa using hB⟩
 intro g j hg
 refine kv ?_
 obtain⟨g,D⟩:=g
 simp only at hg ⊢
 obtain⟨nK,hE,iN⟩:=hg
 by_cases aG:g<ls.length
 ·have lU:=hS.get g aG
  have bv:=hE.old (hS.has oM) (aQ oM)
  ((try with_reducible refine Cw.go [] ?_);(try simp(disch:=first|exact dD|fail) only[↓Sx.S0,Sx.S1,fx,ia,Nat.reduceAdd,Nat.reducePow,Int.reducePow,Nat.reduceBEq, ↓reduceIte,UInt8.reduceToNat,UInt16.reduceToNat,UInt32.reduceToNat,UInt64.reduceToNat,Int.reduceToNat,Sx.loadV_one,bv,lU,hS.idx]))
  have dL:=XW ls g aG
  have ZP:=FL ls (g+1)
  have Rv:=congrArg List.length dL
  rw[List.length_append] at Rv
  refine Ow.callX (Y:= []) (by simp) rfl rfl call208 (fun w' aB hX hn=>WW b D _ (ls.getD g []) w' iN hX hn (by rw[List.length_append];omega)) (fun v2 D2 hC an=> ?_)
  rw[List.append_nil]
  obtain⟨rfl,cX⟩:=an
  refine ko @ia ?_
  refine ky @ia ?_
  refine Again.mk (WG.mk (g+1) D2) (by show ls.length - (g+1)<ls.length - g;omega) ⟨by show g+1≤ls.length;omega,hE.came0 hC, ?_⟩ rfl rfl
  show BldAt b (l++ (ls.take (g+1)).flatten) D2
  rw[dL,←List.append_assoc]
  exact cX
 obtain rfl:g=ls.length:=by omega
 refine ky @ia ?_
 refine⟨_,(ke @ia), ?_⟩
 rw[List.take_length] at iN
 exact⟨hE,rfl,iN⟩
def maxN:Int:=1099511627775
def cE (n:Nat):List UInt8:=if h:n<128 then [UInt8.ofNat n] else UInt8.ofNat (n%128+128)::cE (n / 128)
termination_by n
decreasing_by omega
def eL (n:Int):Nat:=(if(if maxN<n then maxN else n)>0 then(if maxN<n then maxN else n) else 0).toNat
def jO (l:List Int):List UInt8:=(l.map fun n=>cE (eL n)).flatten
def BA {n:Nat} (h:n<128):cE n= [UInt8.ofNat n]:=by rw[cE];simp[h]
def vQ {n:Nat} (h: ¬n<128):cE n=UInt8.ofNat (n%128+128)::cE (n / 128):=by rw[cE];simp[h]
theorem Ew: ∀ (k n:Nat),n<128^k→0<k→(cE n).length≤k
 |0,n,h,h0=>absurd h0 oM
 |k+1,n,h,_=>by
  by_cases hn:n<128
  ·rw[BA hn];simp
  rw[vQ hn]
  have hk:0<k:=by
   rcases Nat.eq_zero_or_pos k with rfl|hk
   ·simp at h;omega
   exact hk
  have:=Ew k (n / 128) (by rw[Nat.pow_succ] at h;omega) hk
  simp only[List.length_cons];omega
def wX (n:Int):eL n<1099511627776:=by unfold eL maxN;split<;>split at* <;>omega
def j9 (n:Int): (cE (eL n)).length≤6:=Ew 6 _ (by have:=wX n;omega) oM
def Q3: ∀b:BitVec 8,b.toNat<128→(b|||128#8)=b+128#8:=by decide
def xc (m:Nat):UInt8.ofInt (m:Int)=UInt8.ofNat m:=by
 apply UInt8.toBitVec_inj.1
 apply BitVec.eq_of_toNat_eq
 simp[UInt8.ofInt,UInt8.ofNat]
 omega
def Nh (m:Nat):UInt8.ofInt ((m:Int)%128) |||128=UInt8.ofNat (m%128+128):=by
 rw[show((m:Int)%128)=((m%128:Nat):Int) by omega,xc]
 apply UInt8.toBitVec_inj.1
 have h:=Q3 (BitVec.ofNat 8 (m%128)) (by simp[BitVec.toNat_ofNat];omega)
 have h1: (UInt8.ofNat (m%128) |||128).toBitVec=BitVec.ofNat 8 (m%128) |||128#8:=rfl
 rw[h1,h]
 apply BitVec.eq_of_toNat_eq
 simp[UInt8.ofNat]
structure NG where
 m:Nat
 pre:List UInt8
 D:aA
def T' (b:Nat) (X:aA) (l:List UInt8) (x:Value) (b2 off:Nat) (ls:List Int) (arr:Array Value) (E:TypeId) (fz:Nat×Nat) (w:World) (hB:BldAt b l X) (hX: ∀p,p∈X→w.heap[p.1]? =some p.2) (hn: (keys X).Nodup)
  (hS:OneS vi 0 w x ls b2 off arr E fz) (aQ:0<ls.length→b2∉keys X) (hl:l.length+ls.length*6<34359738368):
  Rets prog 123 #[vp b 0,x] w (XS w X (fun v D=>v= .tuple #[]∧BldAt b (l++jO ls) D)):=by
 refine Rets.enterX func123 rfl (rs:= []) results123 ntmps123 hX hn ?_
 refine kf ?_
 ((try with_reducible refine Cw.go [] ?_);(try simp(disch:=first|exact dD|fail) only[↓Sx.S0,Sx.S1,fx,ia,Nat.reduceAdd,Nat.reducePow,Int.reducePow,Nat.reduceBEq, ↓reduceIte,UInt8.reduceToNat,UInt16.reduceToNat,UInt32.reduceToNat,UInt64.reduceToNat,Int.reduceToNat,hS.len]))
 refine Cw.loopG (G:=WG) [11,12,13,5,14,15,16,17,18,21,22,23,24,25,26,27,28,19,20,29,30,31,32,33,34,35,10] (fun g=> [(10,vi g.g)]) (fun g=>g.D) (fun g=>g.g≤ls.length∧Ext w X g.D∧BldAt b (l++jO (ls.take g.g)) g.D) (fun g=>ls.length - g.g) ⟨0,X⟩ rfl rfl ?_ ?_
 ·exact⟨by simp,Ext.refl _ _,by simpa [jO] using hB⟩
 intro g j hg
 refine kv ?_
 obtain⟨g,D⟩:=g
 simp only at hg ⊢
 obtain⟨nK,hE,iN⟩:=hg
 by_cases aG:g<ls.length
 ·have lU:=hS.get g aG
  have bv:=hE.old (hS.has oM) (aQ oM)
  ((try with_reducible refine Cw.go [] ?_);(try simp(disch:=first|exact dD|fail) only[↓Sx.S0,Sx.S1,fx,ia,Nat.reduceAdd,Nat.reducePow,Int.reducePow,Nat.reduceBEq, ↓reduceIte,UInt8.reduceToNat,UInt16.reduceToNat,UInt32.reduceToNat,UInt64.reduceToNat,Int.reduceToNat,Sx.loadV_one,bv,lU,hS.idx]))
  refine Ow.minI rfl rfl rfl ?_
  refine Ow.maxI rfl rfl rfl ?_
  have pC: (if(if maxN<ls.getD g 0 then maxN else ls.getD g 0)>0 then(if maxN<ls.getD g 0 then maxN else ls.getD g 0) else 0)=(eL (ls.getD g 0):Int):=by
   unfold eL;omega
  have Rn: (if(if 1099511627775<ls.getD g 0 then 1099511627775 else ls.getD g 0)>0 then(if 1099511627775<ls.getD g 0 then 1099511627775 else ls.getD g 0) else 0)=(eL (ls.getD g 0):Int):=pC
  rw[Rn]
  have Vd:=wX (ls.getD g 0)
  have fc: (jO (ls.take g)).length≤g*6:=by
   unfold jO
   rw[List.length_flatten,List.map_map]
   have: ∀ (q:List Int),(q.map (List.length∘fun n=>cE (eL n))).sum≤q.length*6:=by
    intro q
    induction q with
    |nil=>simp
    |cons y r ih=>have:=j9 y;simp only[List.map_cons,List.sum_cons,List.length_cons,Function.comp];omega
   have h2:=this (ls.take g)
   rw[List.length_take] at h2
   have:min g ls.length*6≤g*6:=Nat.mul_le_mul_right _ (Nat.min_le_left _ _)
   omega
  have bC:=j9 (ls.getD g 0)
  have An:jO (ls.take (g+1))=jO (ls.take g)++cE (eL (ls.getD g 0)):=by
   unfold jO
   rw[List.take_succ_eq_append_getElem aG,List.map_append,List.flatten_append,List.getD_eq_getElem?_getD,List.getElem?_eq_getElem aG]
   simp only[List.map_cons,List.map_nil,List.flatten_cons,List.flatten_nil,List.append_nil,Option.getD_some]
  generalize eL (ls.getD g 0)=m0 at*
  refine ko @ia ?_
  refine ky @ia ?_
  refine Cw.loopG (G:=NG) [17,18,21,22,23,24,25,26,27,28,19,20,5] (fun q=> [(5,vi q.m)]) (fun q=>q.D) (fun q=>q.m≤m0∧Ext w X q.D∧cE m0=q.pre++cE q.m∧BldAt b (l++jO (ls.take g)++q.pre) q.D) (fun q=>q.m) ⟨m0,[],D⟩ rfl rfl ?_ ?_
  ·exact⟨ag _,hE,rfl,by rwa [List.append_nil]⟩
  intro q jq hq
  refine kv ?_
  obtain⟨m,pre,D1⟩:=q
  simp only at hq ⊢
  obtain⟨hqm,bN,gT,dv⟩:=hq
  have ma:=congrArg List.length gT
  rw[List.length_append] at ma
  by_cases hm:m<128
  ·refine ky @ia ?_
   rw[BA hm] at gT ma
   have aR: (l++jO (ls.take g)++pre).length+1<34359738368:=by
    rw[List.length_append,List.length_append]
    simp only[List.length_cons,List.length_nil] at ma
    omega
   refine Ow.callX (Y:= []) (by simp) rfl rfl call191 (fun w' aB hX hn=>WP b D1 _ _ w' dv hX hn oM) (fun v2 D2 hC an=> ?_)
   rw[List.append_nil]
   obtain⟨rfl,cX⟩:=an
   rw[xc] at cX
   refine ko @ia ?_
   refine ky @ia ?_
   refine Again.mk (WG.mk (g+1) D2) (by show ls.length - (g+1)<ls.length - g;omega) ⟨by show g+1≤ls.length;omega,bN.came0 hC, ?_⟩ rfl rfl
   show BldAt b (l++jO (ls.take (g+1))) D2
   rw[An,gT,←List.append_assoc,←List.append_assoc]
   exact cX
  refine ky @ia ?_
  rw[vQ hm] at gT ma
  have aR: (l++jO (ls.take g)++pre).length+1<34359738368:=by
   rw[List.length_append,List.length_append]
   simp only[List.length_cons] at ma
   omega
  refine Ow.callX (Y:= []) (by simp) rfl rfl call191 (fun w' aB hX hn=>WP b D1 _ _ w' dv hX hn oM) (fun v2 D2 hC an=> ?_)
  rw[List.append_nil]
  obtain⟨rfl,cX⟩:=an
  rw[Nh] at cX
  refine ko @ia ?_
  refine ky @ia ?_
  refine Again.mk (NG.mk (m / 128) (pre++ [UInt8.ofNat (m%128+128)]) D2) (by show m / 128<m;omega) ⟨by show m / 128≤m0;omega,bN.came0 hC, ?_, ?_⟩ rfl rfl
  ·show cE m0=pre++ [UInt8.ofNat (m%128+128)]++cE (m / 128)
   rw[gT];simp
  show BldAt b (l++jO (ls.take g)++ (pre++ [UInt8.ofNat (m%128+128)])) D2
  rw[←List.append_assoc]
  exact cX
 obtain rfl:g=ls.length:=by omega
 refine ky @ia ?_
 refine⟨_,(ke @ia), ?_⟩
 rw[List.take_length] at iN
 exact⟨hE,rfl,iN⟩
def gA:=aN (aN @vJ @uz) (aN @nilW (aN @xz @C1))
theorem BldAt.app {b:Nat} {l:List UInt8} {X Y:aA} (h:BldAt b l X):BldAt b l (X++Y):=by
 obtain⟨p,v,h1,h2,h3,h4⟩:=h
 exact⟨p,v,cT h1,h2,h3.app,h4⟩
def dB (s:List UInt8):List UInt8:=cE (eL s.length)++s
def j8 (ls:List (List UInt8)):List UInt8:=(ls.map dB).flatten
def wE (n:Int):jO [n]=cE (eL n):=by simp[jO]
def Gp (ls:List (List UInt8)) (g:Nat) (h:g<ls.length):j8 (ls.take (g+1))=j8 (ls.take g)++dB (ls.getD g []):=by
 unfold j8
 rw[List.take_succ_eq_append_getElem h,List.map_append,List.flatten_append,List.getD_eq_getElem?_getD,List.getElem?_eq_getElem h]
 simp only[List.map_cons,List.map_nil,List.flatten_cons,List.flatten_nil,List.append_nil,Option.getD_some]
def Wm (ls:List (List UInt8)) (g:Nat): (j8 (ls.take g)).length≤ (j8 ls).length:=by
 conv=>rhs;rw[←List.take_append_drop g ls]
 unfold j8
 rw[List.map_append,List.flatten_append,List.length_append];omega
def Dr (b:Nat) (X:aA) (l:List UInt8) (x:Value) (b2 off:Nat) (ls:List (List UInt8)) (arr:Array Value) (E:TypeId) (fz:Nat×Nat) (w:World) (hB:BldAt b l X) (hX: ∀p,p∈X→w.heap[p.1]? =some p.2) (hn: (keys X).Nodup)
  (hS:StrS w x ls b2 off arr E fz) (aQ:0<ls.length→b2∉keys X) (hl:l.length+ (j8 ls).length<17179869184) (sm:ls.length<17179869184):
  Rets prog 124 #[vp b 0,x] w (XS w X (fun v D=>v= .tuple #[]∧BldAt b (l++j8 ls) D)):=by
 refine Rets.enterX func124 rfl (rs:= []) results124 ntmps124 hX hn ?_
 refine kf ?_
 ((try with_reducible refine Cw.go [] ?_);(try simp(disch:=first|exact dD|fail) only[↓Sx.S0,Sx.S1,fx,gA,Nat.reduceAdd,Nat.reducePow,Int.reducePow,Nat.reduceBEq, ↓reduceIte,UInt8.reduceToNat,UInt16.reduceToNat,UInt32.reduceToNat,UInt64.reduceToNat,Int.reduceToNat,hS.len]))
 refine Cw.loopG (G:=WG) [9,10,11,5,12,13,14,15,16,17,18,19,20,21,8] (fun g=> [(8,vi g.g)]) (fun g=>g.D) (fun g=>g.g≤ls.length∧Ext w X g.D∧BldAt b (l++j8 (ls.take g.g)) g.D) (fun g=>ls.length - g.g) ⟨0,X⟩ rfl rfl ?_ ?_
 ·exact⟨by simp,Ext.refl _ _,by simpa [j8] using hB⟩
 intro g j hg
 refine kv ?_
 obtain⟨g,D⟩:=g
 simp only at hg ⊢
 obtain⟨nK,hE,iN⟩:=hg
 by_cases aG:g<ls.length
 ·have lU:=hS.get g aG
  have bv:=hE.old (hS.has oM) (aQ oM)
  have qc:=Gp ls g aG
  have eU:=Wm ls (g+1)
  have cA:=congrArg List.length qc
  rw[List.length_append] at cA
  have cp: (dB (ls.getD g [])).length=(cE (eL (ls.getD g []).length)).length+ (ls.getD g []).length:=by unfold dB;rw[List.length_append]
  ((try with_reducible refine Cw.go [] ?_);(try simp(disch:=first|exact dD|fail) only[↓Sx.S0,Sx.S1,fx,gA,Nat.reduceAdd,Nat.reducePow,Int.reducePow,Nat.reduceBEq, ↓reduceIte,UInt8.reduceToNat,UInt16.reduceToNat,UInt32.reduceToNat,UInt64.reduceToNat,Int.reduceToNat,Sx.loadV_one,bv,lU,hS.idx]))
  refine Ow.buildSlice (e:=3) #[vi (ls.getD g []).length] rfl rfl kR fun b3 gd mf=> ?_
  refine ko @gA ?_
  refine Ow.callX (Y:= [(b3, .cells #[vi (ls.getD g []).length] 3 (0,0))]) (by simp) rfl rfl call123 (fun w' aB hX hn=>T' b D _ _ b3 0 [((ls.getD g []).length:Int)] _ _ _ w' iN hX hn (OneS.lit [((ls.getD g []).length:Int)] rfl rfl (aB.has _ _ (dS _ ah))) (fun _ hm=>Nat.lt_irrefl _ (ae gd hm)) (by rw[List.length_append];simp only[List.length_cons,List.length_nil];omega)) (fun v2 D2 hC an=> ?_)
  obtain⟨rfl,cX⟩:=an
  have bO:=(hE.app (o:= .cells #[vi (ls.getD g []).length] 3 (0,0)) mf).came hC
  rw[wE] at cX
  have jA:=BldAt.app (Y:= [(b3, .cells #[vi (ls.getD g []).length] 3 (0,0))]) cX
  generalize D2++ [(b3,Obj.cells #[vi (ls.getD g []).length] 3 (0,0))]=D3 at*
  refine ko @gA ?_
  refine ky @gA ?_
  refine Ow.buildSlice (e:=9) #[vs (ls.getD g [])] rfl rfl kR fun b4 lQ nW=> ?_
  refine ko @gA ?_
  refine Ow.callX (Y:= [(b4, .cells #[vs (ls.getD g [])] 9 (0,0))]) (by simp) rfl rfl call154 (fun w' aB hX hn=>C0 b D3 _ _ b4 0 [ls.getD g []] _ _ _ w' jA hX hn (StrS.lit [ls.getD g []] rfl rfl (aB.has _ _ (dS _ ah))) (fun _ hm=>Nat.lt_irrefl _ (ae lQ hm)) (by rw[List.length_append,List.length_append];simp only[List.flatten_cons,List.flatten_nil,List.append_nil];omega) (by simp)) (fun v4 D4 dH bE=> ?_)
  obtain⟨rfl,nF⟩:=bE
  have gb:=(bO.app (o:= .cells #[vs (ls.getD g [])] 9 (0,0)) nW).came dH
  have og:=BldAt.app (Y:= [(b4, .cells #[vs (ls.getD g [])] 9 (0,0))]) nF
  generalize D4++ [(b4,Obj.cells #[vs (ls.getD g [])] 9 (0,0))]=D5 at*
  refine ko @gA ?_
  refine ky @gA ?_
  refine Again.mk (WG.mk (g+1) D5) (by show ls.length - (g+1)<ls.length - g;omega) ⟨by show g+1≤ls.length;omega,gb, ?_⟩ rfl rfl
  show BldAt b (l++j8 (ls.take (g+1))) D5
  rw[qc]
  simpa [dB] using og
 obtain rfl:g=ls.length:=by omega
 refine ky @gA ?_
 refine⟨_,(ke @gA), ?_⟩
 rw[List.take_length] at iN
 exact⟨hE,rfl,iN⟩
structure IdL where
 l:List UInt8
 h:l.length=32
def idLC (x:IdL):List Value:=x.l.map v8
def id0:IdL:=⟨List.replicate 32 0,by simp⟩
def Mq (x:IdL): (idLC x).length=32:=by simp[idLC,x.h]
def rU (x:IdL): (idLC x).toArray=a8 x.l:=rfl
def idsL (ls:List IdL):List UInt8:=(ls.map IdL.l).flatten
def JQ (ls:List IdL) (g:Nat) (h:g<ls.length):idsL (ls.take (g+1))=idsL (ls.take g)++ (ls.getD g id0).l:=by
 unfold idsL
 rw[List.take_succ_eq_append_getElem h,List.map_append,List.flatten_append,List.getD_eq_getElem?_getD,List.getElem?_eq_getElem h]
 simp only[List.map_cons,List.map_nil,List.flatten_cons,List.flatten_nil,List.append_nil,Option.getD_some]
def EJ (ls:List IdL): (idsL ls).length=32*ls.length:=by
 unfold idsL
 induction ls with
 |nil=>rfl
 |cons x r ih=>rw[List.map_cons,List.flatten_cons,List.length_append,ih,x.h,List.length_cons];omega
def xK (b:Nat) (X:aA) (l:List UInt8) (x:Value) (b2 off:Nat) (ls:List IdL) (arr:Array Value) (E:TypeId) (fz:Nat×Nat) (w:World) (hB:BldAt b l X) (hX: ∀p,p∈X→w.heap[p.1]? =some p.2) (hn: (keys X).Nodup)
  (hS:RowS 32 idLC id0 w x ls b2 off arr E fz) (aQ:0<ls.length→b2∉keys X) (hl:l.length+32*ls.length<17179869184):
  Rets prog 125 #[vp b 0,x] w (XS w X (fun v D=>v= .tuple #[]∧BldAt b (l++idsL ls) D)):=by
 refine Rets.enterX func125 rfl (rs:= []) results125 ntmps125 hX hn ?_
 refine kf ?_
 ((try with_reducible refine Cw.go [] ?_);(try simp(disch:=first|exact dD|fail) only[↓Sx.S0,Sx.S1,fx,gA,Nat.reduceAdd,Nat.reducePow,Int.reducePow,Nat.reduceBEq, ↓reduceIte,UInt8.reduceToNat,UInt16.reduceToNat,UInt32.reduceToNat,UInt64.reduceToNat,Int.reduceToNat,hS.len]))
 refine Cw.loopG (G:=WG) [9,10,11,5,12,13,14,15,16,17,8] (fun g=> [(8,vi g.g)]) (fun g=>g.D) (fun g=>g.g≤ls.length∧Ext w X g.D∧BldAt b (l++idsL (ls.take g.g)) g.D) (fun g=>ls.length - g.g) ⟨0,X⟩ rfl rfl ?_ ?_
 ·exact⟨by simp,Ext.refl _ _,by simpa [idsL] using hB⟩
 intro g j hg
 refine kv ?_
 obtain⟨g,D⟩:=g
 simp only at hg ⊢
 obtain⟨nK,hE,iN⟩:=hg
 by_cases aG:g<ls.length
 ·have bv:=hE.old (hS.has oM) (aQ oM)
  have jY:=hS.load Mq oM aG
  rw[rU] at jY
  have qc:=JQ ls g aG
  have nN:=(ls.getD g id0).h
  have eI:=EJ (ls.take g)
  rw[List.length_take] at eI
  have AQ:min g ls.length≤g:=Nat.min_le_left _ _
  ((try with_reducible refine Cw.go [] ?_);(try simp(disch:=first|exact dD|fail) only[↓Sx.S0,Sx.S1,fx,gA,Nat.reduceAdd,Nat.reducePow,Int.reducePow,Nat.reduceBEq, ↓reduceIte,UInt8.reduceToNat,UInt16.reduceToNat,UInt32.reduceToNat,UInt64.reduceToNat,Int.reduceToNat,bv,jY,hS.idx]))
  refine Ow.alloc rfl rfl zr24 fun b5 iq fJ=> ?_
  refine Ow.go rfl ?_
  simp(disch:=first|exact dD|fail) only[↓Sx.S0,Sx.S1,fx,gA,Nat.reduceAdd,Nat.reducePow,Int.reducePow,Nat.reduceBEq, ↓reduceIte,UInt8.reduceToNat,UInt16.reduceToNat,UInt32.reduceToNat,UInt64.reduceToNat,Int.reduceToNat,iE iq,un iq,lC]
  have gc:=hE.app (o:= .cells (a8 (ls.getD g id0).l) 24 (0,0)) fJ
  have og:=BldAt.app (Y:= [(b5, .cells (a8 (ls.getD g id0).l) 24 (0,0))]) iN
  have rd5:aS w (D++ [(b5, .cells (a8 (ls.getD g id0).l) 24 (0,0))]) b5=_:=ad (iE iq)
  generalize D++ [(b5,Obj.cells (a8 (ls.getD g id0).l) 24 (0,0))]=D5 at*
  refine ky (aN @gA @rd5) ?_
  have e32:List.take 32 (List.drop 0 (ls.getD g id0).l)=(ls.getD g id0).l:=by rw[List.drop_zero,List.take_of_length_le oM]
  rw[e32]
  refine Ow.buildSlice (e:=9) #[vs (ls.getD g id0).l] rfl rfl kR fun b6 gQ fK=> ?_
  refine ko @gA ?_
  refine Ow.callX (Y:= [(b6, .cells #[vs (ls.getD g id0).l] 9 (0,0))]) (by simp) rfl rfl call154 (fun w' aB hX hn=>C0 b D5 _ _ b6 0 [(ls.getD g id0).l] _ _ _ w' og hX hn (StrS.lit [(ls.getD g id0).l] rfl rfl (aB.has _ _ (dS _ ah))) (fun _ hm=>Nat.lt_irrefl _ (ae gQ hm)) (by rw[List.length_append];simp only[List.flatten_cons,List.flatten_nil,List.append_nil];omega) (by simp)) (fun v4 D4 dH bE=> ?_)
  obtain⟨rfl,nF⟩:=bE
  have gb:=(gc.app (o:= .cells #[vs (ls.getD g id0).l] 9 (0,0)) fK).came dH
  have ol:=BldAt.app (Y:= [(b6, .cells #[vs (ls.getD g id0).l] 9 (0,0))]) nF
  generalize D4++ [(b6,Obj.cells #[vs (ls.getD g id0).l] 9 (0,0))]=D6 at*
  refine ko @gA ?_
  refine ky @gA ?_
  refine Again.mk (WG.mk (g+1) D6) (by show ls.length - (g+1)<ls.length - g;omega) ⟨by show g+1≤ls.length;omega,gb, ?_⟩ rfl rfl
  show BldAt b (l++idsL (ls.take (g+1))) D6
  rw[qc]
  simpa using ol
 obtain rfl:g=ls.length:=by omega
 refine ky @gA ?_
 refine⟨_,(ke @gA), ?_⟩
 rw[List.take_length] at iN
 exact⟨hE,rfl,iN⟩
def Tw (b:Nat) (X:aA) (l:List UInt8) (w:World) (hB:BldAt b l X) (hX: ∀p,p∈X→w.heap[p.1]? =some p.2) (hn: (keys X).Nodup) (hl:l.length<34359738368):
  Rets prog 126 #[vp b 0] w (XS w X (fun v _=>v=vs l)):=by
 refine Rets.enterX func126 rfl (rs:= [.tmp 2]) results126 ntmps126 hX hn ?_
 refine kf ?_
 refine ky @gA ?_
 refine Ow.callX (Y:= []) (by simp) rfl rfl call192 (fun w' aB hX hn=>Fm b X l w' hB hX hn hl) (fun v2 D2 hC an=> ?_)
 subst an
 rw[List.append_nil]
 refine ko @gA ?_
 refine ky @gA ?_
 refine⟨_,(ke @gA), ?_⟩
 exact⟨(Ext.refl _ _).came0 hC,rfl⟩
def vV (s:List UInt8) (a e:Int) (E:TypeId) (n:Nat):ak (some (false,n)) (some (.cells #[vs s,vi a,vi e] E (0,0))) 0=some (vs s):=(rfl)
def vP (s:List UInt8) (a e:Int) (E:TypeId) (n:Nat):ak (some (false,n)) (some (.cells #[vs s,vi a,vi e] E (0,0))) 1=some (vi a):=(rfl)
def vF (s:List UInt8) (a e:Int) (E:TypeId) (n:Nat):ak (some (false,n)) (some (.cells #[vs s,vi a,vi e] E (0,0))) 2=some (vi e):=(rfl)
def BH (s:List UInt8) (a e x:Int) (E:TypeId):bM (some (false,1)) (some (.cells #[vs s,vi a,vi e] E (0,0))) 1 (vi x)=some (.cells #[vs s,vi x,vi e] E (0,0)):=by
 simp[bM,dY,vi,Value.cells,Value.oneCell']
def BQ (s:List UInt8) (a e x:Int) (E:TypeId):bM (some (false,1)) (some (.cells #[vs s,vi a,vi e] E (0,0))) 2 (vi x)=some (.cells #[vs s,vi a,vi x] E (0,0)):=by
 simp[bM,dY,vi,Value.cells,Value.oneCell']
def nilR (b o:Nat):ac prog .eql 140 (vp b o) (.pointer none)=some (.bool false):=by
 simp[ac,eqX,eM,eX,underlying140,vp]
def l_:ac prog .eql 140 (.pointer none) (.pointer none)=some (.bool true):=by
 simp[ac,eqX,eM,eX,underlying140]
def oQ (b o:Nat):ac prog .neq 140 (vp b o) (.pointer none)=some (.bool true):=by
 simp[ac,eqX,eM,eX,underlying140,vp]
def oC:ac prog .neq 140 (.pointer none) (.pointer none)=some (.bool false):=by
 simp[ac,eqX,eM,eX,underlying140]
def cP:=aN (aN (aN @vV @vP) (aN @vF @BH)) (aN (aN @BQ @nilR) (aN @l_ (aN @oQ @oC)))
def BJ (b:Nat) (s:List UInt8) (a e:Int) (w:World) (ho:w.heap[b]? =some (.cells #[vs s,vi a,vi e] 314 (0,0))):
  Rets prog 218 #[vp b 0] w (fun v D=>v=vi e∧D= []):=by
 refine Rets.enterV func218 rfl (rs:= [.tmp 2]) results218 ntmps218 ?_
 refine kf ?_
 refine ky (aN @cP @ho) ?_
 refine⟨_,(ke @cP),trivial, ?_⟩
 rfl
def xL (w:World):Rets prog 218 #[.pointer none] w (fun v D=>v=vi 3∧D= []):=by
 refine Rets.enterV func218 rfl (rs:= [.tmp 2]) results218 ntmps218 ?_
 refine kf ?_
 refine ky @cP ?_
 refine⟨_,(ke @cP),trivial, ?_⟩
 rfl
def xA (b:Nat) (s:List UInt8) (a e:Int) (w:World) (ho:w.heap[b]? =some (.cells #[vs s,vi a,vi e] 314 (0,0))):
  Rets prog 168 #[vp b 0] w (fun v D=>v=vi a∧D= []):=by
 refine Rets.enterV func168 rfl (rs:= [.tmp 2]) results168 ntmps168 ?_
 refine kf ?_
 refine ky (aN @cP @ho) ?_
 refine⟨_,(ke @cP),trivial, ?_⟩
 rfl
def JP (b:Nat) (s:List UInt8) (a e:Int) (w:World) (ho:w.heap[b]? =some (.cells #[vs s,vi a,vi e] 314 (0,0))):
  Rets prog 167 #[vp b 0] w (fun v D=>v=vi (if e≠0 then e else if a<s.length then 5 else 0)∧D= []):=by
 refine Rets.enterV func167 rfl (rs:= [.tmp 2]) results167 ntmps167 ?_
 refine kf ?_
 refine ky @cP ?_
 refine Ow.callFV rfl call218 (fun w' aB=>BJ b s a e w' (by rw[aB.old b (Array.getElem?_eq_some_iff.1 ho).1 (by simp[keys])];exact ho)) ?_
 refine ko @cP ?_
 refine ky @cP ?_
 by_cases he:e=0
 ·refine ky @cP ?_
  refine Cw.regionS [b] [0,1,2,4,5,6,3,7,8,9] [] kR kR kR ?_
  simp only[cR, ↓cS, ↓bz, ↓cG, ↓cH,b_]
  refine kq (aN @cP @ho) ?_
  try with_reducible refine Ow.nil ?_
  refine ky @cP ?_
  refine cdC.splitp (fun hc=> ?_) (fun hc=> ?_)
  ·refine ky @cP ?_
   refine⟨_,(ke @cP),trivial, ?_⟩
   simp[hc,he,bw]
  refine ky @cP ?_
  refine⟨_,(ke @cP),trivial, ?_⟩
  simp[hc,he,bw]
 refine ky @cP ?_
 refine⟨_,(ke @cP),trivial, ?_⟩
 simp[he,bw]
def th (b:Nat) (s:List UInt8) (a e x y:Int) (w:World) (ho:w.heap[b]? =some (.cells #[vs s,vi a,vi e] 314 (0,0))):
  Rets prog 219 #[vp b 0,vi x,vi y] w (fun v D=> ∃o,D= [(b,o)]∧v= .tuple #[]∧o= .cells #[vs s,vi (if e=0 then y else a),vi (if e=0 then x else e)] 314 (0,0)):=by
 refine Rets.enterM func219 rfl (rs:= []) results219 ntmps219 ho ?_
 refine kf ?_
 refine ky @cP ?_
 by_cases he:e=0
 ·refine ky @cP ?_
  refine⟨_,_,_,(ke @cP),rfl,trivial, ?_⟩
  simp[he,bw]
 refine ky @cP ?_
 refine⟨_,_,_,(ke @cP),rfl,trivial, ?_⟩
 simp[he,bw]
def ck (s:List UInt8) (a:Nat) (e n:Int):List UInt8×Nat×Int:=
 if e≠0 then([],a,e) else if n<0 then([],a,2) else if(s.length:Int) - a<n then([],a,3) else((s.drop a).take n.toNat,a+n.toNat,0)
def wM (b:Nat) (s:List UInt8) (a:Nat) (e n:Int) (w:World) (ha:a≤s.length) (hs:s.length<9223372036854775808) (ho:w.heap[b]? =some (.cells #[vs s,vi a,vi e] 314 (0,0))):
  Rets prog 234 #[vp b 0,vi n] w (fun v D=> ∃o,D= [(b,o)]∧v=vs (ck s a e n).1∧o= .cells #[vs s,vi (ck s a e n).2.1,vi (ck s a e n).2.2] 314 (0,0)):=by
 refine Rets.enterM func234 rfl (rs:= [.tmp 4]) results234 ntmps234 ho ?_
 refine kf ?_
 refine ky @cP ?_
 refine Ow.callFV rfl call218 (fun w' aB=>BJ b s a e w' (aB.has _ _ ah)) ?_
 refine ko @cP ?_
 refine ky @cP ?_
 unfold ck
 by_cases he:e=0
 ·subst he
  rw[if_neg (fun h=>h rfl)]
  refine ky @cP ?_
  by_cases hn:n<0
  ·rw[if_pos hn]
   refine ky @cP ?_
   refine Ow.callM rfl rfl call219 (by simp[keys]) (fun w' aB=>th b s a 0 2 a w' (aB.has _ _ ah)) ?_
   refine ko @cP ?_
   refine ky @cP ?_
   refine⟨_,_,_,(ke @cP),rfl,trivial, ?_⟩
   exact⟨rfl,rfl⟩
  rw[if_neg hn]
  refine ky @cP ?_
  refine Cw.regionS [b] [0,1,2,3,6,7,8,4,5,9,10,11,12] [] kR kR kR ?_
  simp only[cR, ↓cS, ↓bz, ↓cG, ↓cH,b_]
  refine kq @cP ?_
  try with_reducible refine Ow.nil ?_
  refine ky @cP ?_
  by_cases hl: (s.length:Int) - a<n
  ·rw[if_pos hl]
   refine ky @cP ?_
   refine Ow.callM rfl rfl call219 (by simp[keys]) (fun w' aB=>th b s a 0 3 a w' (aB.has _ _ ah)) ?_
   refine ko @cP ?_
   refine ky @cP ?_
   refine⟨_,_,_,(ke @cP),rfl,trivial, ?_⟩
   exact⟨rfl,rfl⟩
  rw[if_neg hl]
  obtain⟨m,rfl⟩: ∃m:Nat,n=(m:Int):=⟨n.toNat,by omega⟩
  refine ky @cP ?_
  refine Cw.regionS [b] [0,1,2,4,5,6,8,9,10,12,3,7,11,13,14,15] [] kR kR kR ?_
  simp only[cR, ↓cS, ↓bz, ↓cG, ↓cH,b_]
  refine kq @cP ?_
  try with_reducible refine Ow.nil ?_
  refine ky @cP ?_
  refine⟨_,_,_,(ke @cP),rfl,trivial, ?_⟩
  refine⟨?_, ?_⟩
  ·simp only[bw,Int.toNat_natCast]
   rw[List.drop_take,Nat.add_sub_cancel_left]
  rw[Int.toNat_natCast,Int.natCast_add]
 rw[if_pos he]
 refine ky @cP ?_
 refine⟨_,_,_,(ke @cP),rfl,trivial, ?_⟩
 exact⟨rfl,rfl⟩
def bZ:=aN (aN (aN @vV @vP) (aN @vF @BH)) (aN (aN @BQ @nilR) (aN @l_ (aN @oQ @oC)))
def cB (most:Int):List UInt8→Nat→Nat→Except Nat (Nat×Nat)
 | [],_,_=> .error 3
 |c::r,k,n=>
  if 128≤c.toNat then(if k+1=6 then .error 4 else cB most r (k+1) (n+c.toNat%128*128^k))
  else if c.toNat=0∧0<k then .error 2
  else if n+c.toNat%128*128^k≤1099511627775∧((n+c.toNat%128*128^k:Nat):Int)≤most then .ok (n+c.toNat%128*128^k,k+1)
  else .error 4
def aV (s:List UInt8) (a:Nat) (e most:Int):Int×Nat×Int:=
 if e≠0 then(0,a,e) else match cB most (s.drop a) 0 0 with
  | .ok (n,k)=>(n,a+k,0)
  | .error x=>(0,a,x)
def vH {s:List UInt8} {a:Nat} {e most:Int} {n k:Nat} (he:e=0) (h:cB most (s.drop a) 0 0= .ok (n,k)):aV s a e most=((n:Int),a+k,0):=by
 unfold aV;rw[if_neg (by simp[he]),h]
def tY {s:List UInt8} {a:Nat} {e most:Int} {x:Nat} (he:e=0) (h:cB most (s.drop a) 0 0= .error x):aV s a e most=(0,a,(x:Int)):=by
 unfold aV;rw[if_neg (by simp[he]),h]
structure NumS where
 more:Bool
 k:Nat
 n:Nat
 x:Nat
def U5 (b:Nat) (s:List UInt8) (a:Nat) (e most:Int) (w:World) (ha:a≤s.length) (hs:s.length<9223372036854775808) (ho:w.heap[b]? =some (.cells #[vs s,vi a,vi e] 314 (0,0))):
  Rets prog 165 #[vp b 0,vi most] w (fun v D=> ∃o,D= [(b,o)]∧v=vi (aV s a e most).1∧o= .cells #[vs s,vi (aV s a e most).2.1,vi (aV s a e most).2.2] 314 (0,0)):=by
 refine Rets.enterM func165 rfl (rs:= [.tmp 4]) results165 ntmps165 ho ?_
 refine kf ?_
 refine ky @bZ ?_
 by_cases he:e=0
 ·subst he
  refine Cw.scopeL (G:=NumS) (fun g=>(if g.more then 1 else 0)) [10,11,12,4,5,6,7,13,14,15,16,8,9,17,18,19,20,21,22,23,24,25,26,27,28,29,30,31,32,33,34,35,36,37,38,39,40,41,42,43,44,45,46,47,48,49,50,51,52,53,54,55,56,57,58,59,60,61,62,63,64,65,66,67,68,69,70,71,72,73] (fun g=>(if g.more then [(5,vi g.n),(6,vi (7*g.k:Nat)),(8,vi 3),(9,vi a)] else [(8,vi g.x),(9,vi a)])) (fun g=> [(b, .cells #[vs s,vi (a+g.k:Nat),vi 0] 314 (0,0))]) (fun g=>a+g.k≤s.length∧(if g.more then cB most (s.drop a) 0 0=cB most (s.drop (a+g.k)) g.k g.n∧g.n<128^g.k∧g.k<6 else cB most (s.drop a) 0 0= .error g.x)) (fun g=>(if g.more then 7 - g.k else 0)) ?_ ?_ ?_
  ·intro g
   obtain⟨m,k,n,x⟩:=g
   cases m<;>rfl
  ·intro g j hg
   obtain⟨m,k,n,x⟩:=g
   obtain⟨hk,hg⟩:=hg
   simp only at hk
   cases m with
   |false=>
    simp only[Bool.false_eq_true, ↓reduceIte] at hg ⊢
    simp only[gq,fi,Bool.or_false,Bool.false_or,Bool.or_true,Bool.true_or,Nat.reduceBEq,beq_self_eq_true, ↓reduceIte,Bool.false_eq_true]
    refine kv ?_
    try with_reducible refine tP ?_
    refine ky @bZ ?_
    refine Ow.callM rfl rfl call219 (by simp[keys]) (fun w' aB=>th b s _ 0 x a w' (aB.has _ _ ah)) ?_
    refine ko @bZ ?_
    refine ky @bZ ?_
    rw[tY rfl hg]
    refine⟨_,_,_,(ke @bZ),rfl,trivial, ?_⟩
    simp[bw]
   |true=>
    simp only[↓reduceIte] at hg ⊢
    obtain⟨dA,hn,Ze⟩:=hg
    simp only[gq,fi,Bool.or_false,Bool.false_or,Bool.or_true,Bool.true_or,Nat.reduceBEq,beq_self_eq_true, ↓reduceIte,Bool.false_eq_true]
    refine kv ?_
    try with_reducible refine tP ?_
    refine ky @bZ ?_
    refine Cw.regionS [b] [0,1,2,4,5,6,3,7,8,9] [] kR kR kR ?_
    simp only[cR, ↓cS, ↓bz, ↓cG, ↓cH,b_]
    refine kq @bZ ?_
    try with_reducible refine Ow.nil ?_
    by_cases Ru:a+k=s.length
    ·refine ky @bZ ?_
     refine Jump.mk (NumS.mk false k n 3) rfl (by show 0<7 - k;omega) ⟨hk, ?_⟩ rfl rfl
     show cB most (s.drop a) 0 0= .error 3
     rw[dA,Ru,List.drop_length];rfl
    refine ky @bZ ?_
    have Va:a+k<s.length:=by omega
    have z_:s.drop (a+k)=s.getD (a+k) 0::s.drop (a+k+1):=by
     rw[List.drop_eq_getElem_cons Va,List.getD_eq_getElem?_getD,List.getElem?_eq_getElem Va];rfl
    rw[z_] at dA
    refine Cw.regionS [b] [0,1,2,4,5,6,3,7,8,9] [] kR kR kR ?_
    simp only[cR, ↓cS, ↓bz, ↓cG, ↓cH,b_]
    refine kq @bZ ?_
    try with_reducible refine Ow.nil ?_
    generalize s.getD (a+k) 0=c at*
    have hp:128^k≤34359738368:=Nat.pow_le_pow_right oM (show k≤5 by omega)
    have iY:0<128^k:=Nat.pow_pos oM
    have hd: (c%128).toNat=c.toNat%128:=by simp
    have pC:=c.toNat_lt
    have hdm:c.toNat%128*128^k≤127*128^k:=Nat.mul_le_mul_right _ oM
    have TI:aC .shl (vi ((c.toNat%128:Nat):Int)) (vi ((7*k:Nat):Int))=some (vi ((c.toNat%128*128^k:Nat):Int)):=by
     have h2: (2:Int)^ (7*k)=((128^k:Nat):Int):=by
      rw[Int.pow_mul];push_cast;rfl
     have:=xw ((c.toNat%128:Nat):Int) .i64 (7*k) (by rw[h2];refine⟨by omega,by omega, ?_⟩;rw[←Int.natCast_mul];omega)
     rw[h2,←Int.natCast_mul] at this
     exact this
    have Zv:aC .or (vi (n:Int)) (vi ((c.toNat%128*128^k:Nat):Int))=some (vi ((n+c.toNat%128*128^k:Nat):Int)):=by
     have:=or_i (n:Int) ((c.toNat%128*128^k:Nat):Int) ⟨by omega,by omega,by omega,by omega⟩
     rw[this]
     congr 3
     rw[Int.toNat_natCast,Int.toNat_natCast,show 128^k=2^ (7*k) by rw[Nat.pow_mul],Nat.mul_comm,Nat.or_comm,←Nat.two_pow_add_eq_or_of_lt (by rw[Nat.pow_mul];exact hn),Nat.add_comm]
    have aG:n+c.toNat%128*128^k<128^ (k+1):=by rw[Nat.pow_succ];omega
    have TA:aC .rem (v8 c) (v8 128)=some (v8 (c%128)):=E0 _ _ (by decide)
    refine ky (aN @bZ (aN @TA (aN @hd (aN @TI @Zv)))) ?_
    have eU:decide ((128:UInt8)≤c)=decide (128≤c.toNat):=by simp[UInt8.le_iff_toNat_le]
    cases zH:decide ((128:UInt8)≤c)
    ·rw[zH] at eU
     have dm: ¬128≤c.toNat:=of_decide_eq_false eU.symm
     cases hz: (c==0)
     ·have sT: ¬ (c.toNat=0∧0<k):=by
       rintro⟨h0,-⟩
       have:c=0:=UInt8.toNat_inj.1 h0
       rw[this] at hz
       exact absurd hz (by decide)
      refine ky (aN @bZ @hz) ?_
      by_cases hm:n+c.toNat%128*128^k≤1099511627775
      ·have e1:decide (((n+c.toNat%128*128^k:Nat):Int)≤1099511627775)=true:=dR oM
       refine ky (aN @bZ @e1) ?_
       by_cases mW: ((n+c.toNat%128*128^k:Nat):Int)≤most
       ·refine ky @bZ ?_
        rw[vH rfl (by rw[dA,cB,if_neg dm,if_neg sT,if_pos ⟨hm,mW⟩])]
        refine⟨_,_,_,(ke @bZ),rfl,trivial, ?_⟩
        exact⟨rfl,rfl⟩
       refine ky @bZ ?_
       refine Ow.callM rfl rfl call219 (by simp[keys]) (fun w' aB=>th b s _ 0 4 a w' (aB.has _ _ ah)) ?_
       refine ko @bZ ?_
       refine ky @bZ ?_
       rw[tY (x:=4) rfl (by rw[dA,cB,if_neg dm,if_neg sT,if_neg (fun h=>mW h.2)])]
       refine⟨_,_,_,(ke @bZ),rfl,trivial, ?_⟩
       exact⟨rfl,rfl⟩
      have e1:decide (((n+c.toNat%128*128^k:Nat):Int)≤1099511627775)=false:=i1 oM
      refine ky (aN @bZ @e1) ?_
      refine Ow.callM rfl rfl call219 (by simp[keys]) (fun w' aB=>th b s _ 0 4 a w' (aB.has _ _ ah)) ?_
      refine ko @bZ ?_
      refine ky @bZ ?_
      rw[tY (x:=4) rfl (by rw[dA,cB,if_neg dm,if_neg sT,if_neg (fun h=>hm h.1)])]
      refine⟨_,_,_,(ke @bZ),rfl,trivial, ?_⟩
      exact⟨rfl,rfl⟩
     have ZI:c=0:=eq_of_beq hz
     have Cj:c.toNat=0:=by rw[ZI];rfl
     refine ky (aN @bZ @hz) ?_
     by_cases AF:0<k
     ·refine ky @bZ ?_
      refine Jump.mk (NumS.mk false (k+1) n 2) rfl (by show 0<7 - k;omega) ⟨by show a+ (k+1)≤s.length;omega, ?_⟩ rfl rfl
      show cB most (s.drop a) 0 0= .error 2
      rw[dA,cB,if_neg dm,if_pos ⟨Cj,AF⟩]
     have sT: ¬ (c.toNat=0∧0<k):=fun h=>AF h.2
     refine ky @bZ ?_
     by_cases hm:n+c.toNat%128*128^k≤1099511627775
     ·have e1:decide (((n+c.toNat%128*128^k:Nat):Int)≤1099511627775)=true:=dR oM
      refine ky (aN @bZ @e1) ?_
      by_cases mW: ((n+c.toNat%128*128^k:Nat):Int)≤most
      ·refine ky @bZ ?_
       rw[vH rfl (by rw[dA,cB,if_neg dm,if_neg sT,if_pos ⟨hm,mW⟩])]
       refine⟨_,_,_,(ke @bZ),rfl,trivial, ?_⟩
       exact⟨rfl,rfl⟩
      refine ky @bZ ?_
      refine Ow.callM rfl rfl call219 (by simp[keys]) (fun w' aB=>th b s _ 0 4 a w' (aB.has _ _ ah)) ?_
      refine ko @bZ ?_
      refine ky @bZ ?_
      rw[tY (x:=4) rfl (by rw[dA,cB,if_neg dm,if_neg sT,if_neg (fun h=>mW h.2)])]
      refine⟨_,_,_,(ke @bZ),rfl,trivial, ?_⟩
      exact⟨rfl,rfl⟩
     have e1:decide (((n+c.toNat%128*128^k:Nat):Int)≤1099511627775)=false:=i1 oM
     refine ky (aN @bZ @e1) ?_
     refine Ow.callM rfl rfl call219 (by simp[keys]) (fun w' aB=>th b s _ 0 4 a w' (aB.has _ _ ah)) ?_
     refine ko @bZ ?_
     refine ky @bZ ?_
     rw[tY (x:=4) rfl (by rw[dA,cB,if_neg dm,if_neg sT,if_neg (fun h=>hm h.1)])]
     refine⟨_,_,_,(ke @bZ),rfl,trivial, ?_⟩
     exact⟨rfl,rfl⟩
    rw[zH] at eU
    have dm:128≤c.toNat:=of_decide_eq_true eU.symm
    refine ky @bZ ?_
    by_cases SI:k=5
    ·refine ky @bZ ?_
     refine Jump.mk (NumS.mk false (k+1) n 4) rfl (by show 0<7 - k;omega) ⟨by show a+ (k+1)≤s.length;omega, ?_⟩ rfl rfl
     show cB most (s.drop a) 0 0= .error 4
     rw[dA,cB,if_pos dm,if_pos oM]
    refine ky @bZ ?_
    refine Jump.mk (NumS.mk true (k+1) (n+c.toNat%128*128^k) 0) rfl (by show 7 - (k+1)<7 - k;omega) ⟨by show a+ (k+1)≤s.length;omega, ?_⟩ rfl rfl
    show cB most (s.drop a) 0 0=cB most (s.drop (a+ (k+1))) (k+1) (n+c.toNat%128*128^k)∧n+c.toNat%128*128^k<128^ (k+1)∧k+1<6
    refine⟨?_,aG,by omega⟩
    rw[dA,cB,if_pos dm,if_neg oM]
    rfl
  intro key
  have key0:=fun f'=>key (NumS.mk true 0 0 0) f'
  simp only[gq,fi,Bool.or_false,Bool.false_or,Bool.or_true,Bool.true_or,Nat.reduceBEq,beq_self_eq_true, ↓reduceIte,Bool.false_eq_true] at key0
  clear key
  repeat ((try with_reducible refine Cw.go [999999] ?_);(simp(disch:=first|exact dD|fail) only[↓Sx.S0,Sx.S1,fx,bZ,Nat.reduceAdd,Nat.reducePow,Int.reducePow,Nat.reduceBEq, ↓reduceIte,UInt8.reduceToNat,UInt16.reduceToNat,UInt32.reduceToNat,UInt64.reduceToNat,Int.reduceToNat]))
  refine Ow.callFV rfl call218 (fun w' aB=>BJ b s a 0 w' (aB.has _ _ ah)) ?_
  refine ko @bZ ?_
  repeat ((try with_reducible refine Cw.go [999999] ?_);(simp(disch:=first|exact dD|fail) only[↓Sx.S0,Sx.S1,fx,bZ,Nat.reduceAdd,Nat.reducePow,Int.reducePow,Nat.reduceBEq, ↓reduceIte,UInt8.reduceToNat,UInt16.reduceToNat,UInt32.reduceToNat,UInt64.reduceToNat,Int.reduceToNat]))
  repeat ((try with_reducible refine Cw.go [999999] ?_);(simp(disch:=first|exact dD|fail) only[↓Sx.S0,Sx.S1,fx,bZ,Nat.reduceAdd,Nat.reducePow,Int.reducePow,Nat.reduceBEq, ↓reduceIte,UInt8.reduceToNat,UInt16.reduceToNat,UInt32.reduceToNat,UInt64.reduceToNat,Int.reduceToNat]))
  refine Cw.regionS [b] [0,1,2,4,3,5] [] kR kR kR ?_
  simp only[cR, ↓cS, ↓bz, ↓cG, ↓cH,b_]
  refine kq @bZ ?_
  try with_reducible refine Ow.nil ?_
  repeat ((try with_reducible refine Cw.go [999999] ?_);(simp(disch:=first|exact dD|fail) only[↓Sx.S0,Sx.S1,fx,bZ,Nat.reduceAdd,Nat.reducePow,Int.reducePow,Nat.reduceBEq, ↓reduceIte,UInt8.reduceToNat,UInt16.reduceToNat,UInt32.reduceToNat,UInt64.reduceToNat,Int.reduceToNat]))
  refine Cw.label ?_
  refine key0 _ ⟨by omega,rfl,by omega,by omega⟩ ?_
  rfl
 refine Cw.scopeS ?_
 refine ky @bZ ?_
 refine Ow.callFV rfl call218 (fun w' aB=>BJ b s a e w' (aB.has _ _ ah)) ?_
 refine ko @bZ ?_
 refine ky @bZ ?_
 unfold aV
 refine⟨_,_,_,(ke @bZ),rfl,trivial, ?_⟩
 simp[he,bw]
def fP:=aN (aN (aN @vV @vP) (aN @vF @BH)) (aN (aN @BQ @nilR) (aN @l_ (aN @oQ @oC)))
theorem vR (most:Int): ∀ (l:List UInt8) (k n m k':Nat),cB most l k n= .ok (m,k')→k<k'∧k'≤k+l.length
 | [],k,n,m,k',h=>by cases h
 |c::r,k,n,m,k',h=>by
  unfold cB at h
  split at h
  ·split at h
   ·cases h
   have:=vR most r (k+1) _ m k' h
   simp only[List.length_cons];omega
  split at h
  ·cases h
  split at h
  ·cases h;simp only[List.length_cons];omega
  cases h
def tk {s:List UInt8} {a:Nat} {e most:Int} (ha:a≤s.length):a≤ (aV s a e most).2.1∧(aV s a e most).2.1≤s.length:=by
 unfold aV
 split
 ·exact⟨ag _,ha⟩
 cases h:cB most (s.drop a) 0 0 with
 |error x=>exact⟨ag _,ha⟩
 |ok p=>
  obtain⟨n,k⟩:=p
  have:=vR most _ _ _ _ _ h
  rw[List.length_drop] at this
  exact⟨by show a≤a+k;omega,by show a+k≤s.length;omega⟩
def vL {s:List UInt8} {a:Nat} {e n:Int} (ha:a≤s.length):a≤ (ck s a e n).2.1∧(ck s a e n).2.1≤s.length:=by
 unfold ck
 split
 ·exact⟨ag _,ha⟩
 split
 ·exact⟨ag _,ha⟩
 split
 ·exact⟨ag _,ha⟩
 exact⟨by show a≤a+n.toNat;omega,by show a+n.toNat≤s.length;omega⟩
def a_ (s:List UInt8) (a:Nat) (e most:Int):List UInt8×Nat×Int:=
 let p:=aV s a e most
 let q:=ck s p.2.1 p.2.2 p.1
 if q.2.2≠0 then([],a,q.2.2) else q
def Ue (b:Nat) (s:List UInt8) (a:Nat) (e most:Int) (w:World) (ha:a≤s.length) (hs:s.length<9223372036854775808) (ho:w.heap[b]? =some (.cells #[vs s,vi a,vi e] 314 (0,0))):
  Rets prog 202 #[vp b 0,vi most] w (fun v D=> ∃o,D= [(b,o)]∧v=vs (a_ s a e most).1∧o= .cells #[vs s,vi (a_ s a e most).2.1,vi (a_ s a e most).2.2] 314 (0,0)):=by
 refine Rets.enterM func202 rfl (rs:= [.tmp 4]) results202 ntmps202 ho ?_
 refine kf ?_
 refine ky @fP ?_
 refine Ow.callFV rfl call168 (fun w' aB=>xA b s a e w' (aB.has _ _ ah)) ?_
 refine ko @fP ?_
 refine ky @fP ?_
 have hp:=tk (e:=e) (most:=most) ha
 unfold a_
 refine Ow.callM rfl rfl call165 (by simp[keys]) (fun w' aB=>U5 b s a e most w' ha hs (aB.has _ _ ah)) ?_
 generalize aV s a e most=p at*
 obtain⟨n,a1,e1⟩:=p
 simp only at hp ⊢
 refine ko @fP ?_
 refine Ow.callM rfl rfl call234 (by simp[keys]) (fun w' aB=>wM b s a1 e1 n w' hp.2 hs (aB.has _ _ ah)) ?_
 have hq:=vL (e:=e1) (n:=n) hp.2
 generalize ck s a1 e1 n=q at*
 obtain⟨t,a2,e2⟩:=q
 simp only at hq ⊢
 refine ko @fP ?_
 refine ky @fP ?_
 by_cases he:e2=0
 ·refine ky @fP ?_
  refine⟨_,_,_,(ke @fP),rfl,trivial, ?_⟩
  simp[he,bw]
 refine ky @fP ?_
 refine Ow.minI rfl rfl rfl ?_
 have AQ: (if(a:Int)< (a2:Int) then(a:Int) else(a2:Int))=a:=by split<;>omega
 rw[AQ]
 refine ko @fP ?_
 refine ky @fP ?_
 refine⟨_,_,_,(ke @fP),rfl,trivial, ?_⟩
 simp[he,bw]
def z32:List UInt8:=List.replicate 32 0
def idR (s:List UInt8) (a:Nat) (e:Int):List UInt8×Nat×Int:=
 let q:=ck s a e 32
 (if q.1.length=32 then q.1 else z32,q.2)
def Me {s:List UInt8} {a:Nat} {e:Int} (_ha:a≤s.length): (ck s a e 32).1= []∨(ck s a e 32).1.length=32:=by
 unfold ck
 split
 ·exact .inl rfl
 split
 ·exact .inl rfl
 split
 ·exact .inl rfl
 right
 show((s.drop a).take 32).length=32
 rw[List.length_take,List.length_drop];omega
def O0 {t:List UInt8} (h:t= []∨t.length=32):dY (a8 (List.replicate 32 0)) 0 ((t.take (min t.length 32)).map v8)=a8 (if t.length=32 then t else z32):=by
 rcases h with rfl|h
 ·rfl
 rw[if_pos h,h,Nat.min_self,List.take_of_length_le oM]
 have:=vC (t.map v8) [] ((List.replicate 32 (0:UInt8)).map v8) (by simp[h])
 simp only[List.nil_append,List.length_nil] at this
 show dY ((List.replicate 32 (0:UInt8)).map v8).toArray 0 (t.map v8)=(t.map v8).toArray
 rw[this]
 rw[List.drop_eq_nil_of_le (by simp[h]),List.append_nil]
def Mw (b:Nat) (s:List UInt8) (a:Nat) (e:Int) (w:World) (ha:a≤s.length) (hs:s.length<9223372036854775808) (ho:w.heap[b]? =some (.cells #[vs s,vi a,vi e] 314 (0,0))):
  Rets prog 203 #[vp b 0] w (fun v D=> ∃o,D= [(b,o)]∧v= .agg (a8 (idR s a e).1)∧o= .cells #[vs s,vi (idR s a e).2.1,vi (idR s a e).2.2] 314 (0,0)):=by
 have fD:=(Array.getElem?_eq_some_iff.1 ho).1
 have hq:=Me (e:=e) ha
 unfold idR
 refine Rets.enterM func203 rfl (rs:= [.cell 2 24]) results203 ntmps203 ho ?_
 refine kf ?_
 refine ky @fP ?_
 refine Ow.alloc rfl rfl zr24 fun b2 ar eW=> ?_
 refine ko @fP ?_
 refine ky @fP ?_
 refine Ow.alloc rfl rfl zr24 fun b3 gd mf=> ?_
 obtain⟨VE,R5,-⟩:=gd
 obtain⟨CW,-⟩:=ar
 refine ko @fP ?_
 refine ky @fP ?_
 refine Cw.regionS [] [0,1,2,3] [] kR kR kR ?_
 simp only[cR, ↓cS, ↓bz, ↓cG, ↓cH,b_]
 refine kq @fP ?_
 refine Ow.soft rfl rfl rfl ?_
 refine Ow.callM rfl rfl call234 (by simp[keys]) (fun w' aB=>wM b s a e 32 w' ha hs (aB.has _ _ ah)) ?_
 generalize ck s a e 32=q at*
 obtain⟨t,a2,e2⟩:=q
 simp only at hq ⊢
 try with_reducible refine Ow.nil ?_
 refine⟨fun b hb=>absurd hb (by simp), ?_⟩
 simp(disch:=omega) only[l7]
 refine Ow.soft rfl rfl rfl ?_
 refine Ow.copyText (cs:=a8 (List.replicate 32 0)) (E:=24) (e:=5) rfl rfl underlying232 ag5 rfl rfl (by simp(disch:=omega) only[r9,er]) (by rw[vG];simp) ?_
 rw[O0 hq]
 have nN: (if t.length=32 then t else z32).length=32:=by
  split
  ·assumption
  simp[z32]
 generalize (if t.length=32 then t else z32)=id at*
 try with_reducible refine Ow.nil ?_
 refine⟨fun b hb=>absurd hb (by simp), ?_⟩
 simp(disch:=omega) only[l7,tg]
 refine kq @fP ?_
 try with_reducible refine Ow.nil ?_
 refine ky @fP ?_
 refine⟨_,_,_,(ke @fP),rfl,⟨eW,mf,trivial⟩, ?_⟩
 exact⟨rfl,rfl⟩
def vw (s:List UInt8) (w:World):
  Rets prog 147 #[vs s] w (fun v D=> ∃b,w.heap.size≤b∧v=vp b 0∧D= [(b, .cells #[vs s,vi 0,vi 0] 314 (0,0))]):=by
 refine Rets.enter func147 rfl (rs:= [.tmp 2]) results147 ntmps147 ?_
 refine kf ?_
 refine ky @fP ?_
 refine Ow.build (.agg #[vs s,vi 0,vi 0]) rfl kR ?_
 refine ko @fP ?_
 refine Ow.box rfl rfl fun b1 aP aY=> ?_
 refine ko @fP ?_
 refine ky @fP ?_
 refine⟨_,(by simp only[DU,CV,Bh,dC,dW,DV];rfl),b1,aY,rfl, ?_⟩
 rfl
end Go.Proofs
end
section
open Go Go.Proofs Go.Sx Go.StP
namespace Go.Proofs
structure EntL where
 name:List UInt8
 kind:Int
 id:IdL
def ent0:EntL:=⟨[],0,id0⟩
section
variable {α:Type} {a x m y c:List α} {i k:Nat} {z:α}
end
abbrev O7 (l:List EntL):Prop:=StP.Sorted EntL.name l
abbrev StE (l l':List EntL):Prop:=StP.St EntL.name l l'
def Xu (w0:World) {L:aA} {b:Nat} {o:Obj} (h:dq L b):aS w0 (L++ [(b,o)]) b=some o:=ad (iE h)
def SortOf (l Z:List EntL):Prop:=Z.length=l.length∧O7 Z∧StE l Z
theorem SortOf.eq {l Z Z':List EntL} (h:SortOf l Z) (h':SortOf l Z'):Z=Z':=StP.St.eq h.2.1 h'.2.1 (h.2.2.symm.trans h'.2.2)
end Go.Proofs
end
section
open Go Go.Proofs Go.Sx
namespace Go.Proofs
def badR (c:Int):Bool:=decide (c<33) ||decide (126<c) || (c==47)
def badB (b:UInt8):Bool:=decide (b.toNat<33) ||decide (126<b.toNat) || (b.toNat==47)
def eqb (a b:Bool):ac prog .eql 4 (.bool a) (.bool b)=some (.bool (a==b)):=by
 simp[ac,eqX,eM,eX,underlying4]
def tv (a:Value): (#[a]:Array Value)[0]? =some a:=(rfl)
def gI:=aN (aN (aN @bq (aN @iH @iG)) (aN (aN @iF @bl) (aN @EM @Tf))) (aN (aN (aN @Ex @Td) (aN @rf @tv)) (aN (aN @Sx.tup3_0 @Sx.tup3_1) (aN @Sx.tup3_2 @eqb)))
def MJ (l:List UInt8) (i:Nat) (h:i<l.length):badR ((Utf8.decode ⟨l.toArray⟩ i).1:Nat)=badB (l.getD i 0)∧(badB (l.getD i 0)=false→(Utf8.decode ⟨l.toArray⟩ i).2=1):=by
 obtain⟨h0,h1,h2⟩:=Tn l i h
 by_cases hc: (l.getD i 0).toNat<128
 ·rw[h1 hc]
  refine⟨?_,fun _=>rfl⟩
  unfold badR badB
  congr 1
  ·congr 1
   ·apply decide_eq_decide.2;omega
   apply decide_eq_decide.2;omega
  rw[Bool.eq_iff_iff,beq_iff_eq,beq_iff_eq];omega
 have p_:=h2 oM
 have hb:badB (l.getD i 0)=true:=by
  unfold badB
  rw[dR (show 126< (l.getD i 0).toNat by omega)];simp
 rw[hb]
 refine⟨?_,fun h=>by cases h⟩
 unfold badR
 rw[dR (show(126:Int)< (((Utf8.decode ⟨l.toArray⟩ i).1:Nat):Int) by omega)];simp
def Xb (s:List UInt8) (k:FuncId) (hk: ∀a w,(callFunc k a).run prog w= .ok (.enter k a) w) (hc: ∀c w,Rets prog k #[fY c] w (fun v D=>v= .bool (badR c)∧D= [])) (w:World) (hs:s.length<1099511627776):
  Rets prog 256 #[vs s, .func (.func k) #[] #[], .bool true] w (fun v D=> ∃n:Int,v=vi n∧(0≤n↔s.any badB=true)∧D= []):=by
 refine Rets.mono (S:=fun v D=>(∃n:Int,v=vi n∧(0≤n↔s.any badB=true))∧D= []) ?_ (by rintro v D ⟨⟨n,h1,h2⟩,h3⟩;exact⟨n,h1,h2,h3⟩)
 refine Rets.enterV func256 rfl (rs:= [.tmp 6]) results256 ntmps256 ?_
 refine kf ?_
 refine ky @gI ?_
 refine Ow.rangeText rfl rfl underlying9 rfl fun b1 aP aY=> ?_
 refine ko @gI ?_
 refine ky @gI ?_
 refine Cw.loopG (G:=Nat) [11,12,13,14,7,8,15,16,17,18,19,20,6] (fun g=> []) (fun g=> [(b1, .stringIter ⟨s.toArray⟩ g)]) (fun g=>g≤s.length∧ ∀i,i<g→badB (s.getD i 0)=false) (fun g=>s.length - g) 0 rfl rfl ?_ ?_
 ·exact⟨by omega,fun i hi=>by omega⟩
 intro g j hg
 refine kv ?_
 obtain⟨nK,f5⟩:=hg
 by_cases aG:g<s.length
 ·have dy:=MJ s g aG
  refine ky @gI ?_
  refine Ow.nextText rfl rfl rfl (er _ _ _) aG ?_
  rw[l7]
  generalize sX:Utf8.decode ⟨s.toArray⟩ g=dd at*
  obtain⟨c,n⟩:=dd
  simp only at dy ⊢
  refine ko @gI ?_
  refine ky @gI ?_
  refine Ow.callFn1 (v:= .bool (badR c)) (k:=k) rfl rfl rfl hk (fun w' aB=>hc _ w') ?_
  rw[dy.1]
  refine ko @gI ?_
  cases pB:badB (s.getD g 0)
  ·refine ky @gI ?_
   refine Again.mk (g+1) oM ⟨by omega,fun i hi=> ?_⟩ ?_ rfl
   ·by_cases AB:i=g
    ·rw[AB];exact pB
    exact f5 i oM
   rw[dy.2 pB]
  refine ky @gI ?_
  refine⟨_,(ke @gI),⟨aY,trivial⟩, ?_⟩
  refine⟨(g:Int),rfl,⟨fun _=> ?_,fun _=>by omega⟩⟩
  rw[List.any_eq_true]
  refine⟨s.getD g 0, ?_,pB⟩
  rw[List.getD_eq_getElem?_getD,List.getElem?_eq_getElem aG]
  exact List.getElem_mem aG
 obtain rfl:g=s.length:=by omega
 refine ky @gI ?_
 refine Ow.nextOver rfl rfl rfl (er _ _ _) aG ?_
 refine ko @gI ?_
 refine ky @gI ?_
 refine⟨_,(ke @gI),⟨aY,trivial⟩, ?_⟩
 refine⟨-1,rfl,⟨fun h=>by omega,fun h=> ?_⟩⟩
 rw[List.any_eq_true] at h
 obtain⟨x,hx,DI⟩:=h
 obtain⟨i,hi,rfl⟩:=List.getElem_of_mem hx
 have:=f5 i hi
 rw[List.getD_eq_getElem?_getD,List.getElem?_eq_getElem hi] at this
 exact absurd DI (by simpa using this)
def Wg (s:List UInt8) (k:FuncId) (hk: ∀a w,(callFunc k a).run prog w= .ok (.enter k a) w) (hc: ∀c w,Rets prog k #[fY c] w (fun v D=>v= .bool (badR c)∧D= [])) (w:World) (hs:s.length<1099511627776):
  Rets prog 223 #[vs s, .func (.func k) #[] #[]] w (fun v D=> ∃n:Int,v=vi n∧(0≤n↔s.any badB=true)∧D= []):=by
 refine Rets.mono (S:=fun v D=>(∃n:Int,v=vi n∧(0≤n↔s.any badB=true))∧D= []) ?_ (by rintro v D ⟨⟨n,h1,h2⟩,h3⟩;exact⟨n,h1,h2,h3⟩)
 refine Rets.enterV func223 rfl (rs:= [.tmp 4]) results223 ntmps223 ?_
 refine kf ?_
 refine ky @gI ?_
 refine Ow.callF rfl rfl call256 (S:=fun _ v D=> ∃n:Int,v=vi n∧(0≤n↔s.any badB=true)∧D= []) (fun w' aB=>Xb s k hk hc w' hs) ?_
 rintro B v D - - ⟨n,rfl,hn,rfl⟩
 refine⟨_,Mrg.nil, ?_⟩
 refine ko @gI ?_
 refine ky @gI ?_
 refine⟨_,(ke @gI),trivial, ?_⟩
 exact⟨n,rfl,hn⟩
def XL (s:List UInt8) (k:FuncId) (hk: ∀a w,(callFunc k a).run prog w= .ok (.enter k a) w) (hc: ∀c w,Rets prog k #[fY c] w (fun v D=>v= .bool (badR c)∧D= [])) (w:World) (hs:s.length<1099511627776):
  Rets prog 170 #[vs s, .func (.func k) #[] #[]] w (fun v D=>v= .bool (s.any badB)∧D= []):=by
 refine Rets.enterV func170 rfl (rs:= [.tmp 4]) results170 ntmps170 ?_
 refine kf ?_
 refine ky @gI ?_
 refine Ow.callF rfl rfl call223 (S:=fun _ v D=> ∃n:Int,v=vi n∧(0≤n↔s.any badB=true)∧D= []) (fun w' aB=>Wg s k hk hc w' hs) ?_
 rintro B v D - - ⟨n,rfl,hn,rfl⟩
 refine⟨_,Mrg.nil, ?_⟩
 refine ko @gI ?_
 refine ky @gI ?_
 refine⟨_,(ke @gI),trivial, ?_⟩
 exact congrArg Value.bool (by rw[Bool.eq_iff_iff,decide_eq_true_eq];exact hn)
def Q5 (s:List UInt8):Bool:= !(s== [])&&decide (s.length≤32)&& !(s.any badB)
end Go.Proofs
end
section
open Go Go.Proofs Go.Sx Go.StP
namespace Go.Proofs
def R1 (l:List EntL) (i:Nat):Bool:=
 Q5 (l.getD i ent0).name&& ((l.getD i ent0).kind==1|| (l.getD i ent0).kind==2)&& (i==0||ltB (l.getD (i - 1) ent0).name (l.getD i ent0).name)
def ym (l:List EntL):Bool:=decide (l.length≤32)&& (List.range l.length).all (R1 l)
instance:DecidableEq IdL:=fun a b=>if h:a.l=b.l then .isTrue (by cases a;cases b;simp only at h;subst h;rfl) else .isFalse (fun e=>h (by rw[e]))
def IdL.ext' {a b:IdL} (h:a.l=b.l):a=b:=by cases a;cases b;simp only at h;subst h;rfl
def Mz (x:IdL) (E:TypeId) (fz:Nat×Nat):ak (some (true,32)) (some (.cells (a8 x.l) E fz)) 0=some (.agg (a8 x.l)):=C1 _ E fz 32 x.h
structure RwL where
 id:IdL
 place:Int
 spot:Int
abbrev HZ (l:List RwL):Prop:=StP.Sorted (fun r:RwL=>r.id.l) l
abbrev Nr (l l':List RwL):Prop:=StP.St (fun r:RwL=>r.id.l) l l'
def rws_SortOf (l Z:List RwL):Prop:=Z.length=l.length∧HZ Z∧Nr l Z
theorem rws_SortOf.eq {l Z Z':List RwL} (h:rws_SortOf l Z) (h':rws_SortOf l Z'):Z=Z':=StP.St.eq h.2.1 h'.2.1 (h.2.2.symm.trans h'.2.2)
structure ComL where
 tree:IdL
 par:List IdL
 text:List UInt8
def QO (l:List IdL) (i:Nat):Bool:= !((l.take i).any fun y=>(l.getD i id0).l==y.l)
def zD (c:ComL):Bool:=(decide (c.par.length≤4)&&decide (c.text.length≤64))&& (List.range c.par.length).all (QO c.par)
def SlV.one {α:Type} {m:Nat} {enc:α→List Value} {z:α} {w:World} {v:Value} {l:List α} (h:SlV m enc z w v l):Value.oneCell' v=true∧v.cells= #[v]:=by
 obtain⟨b,off,c,arr,E,fz,-,-,⟨rfl,-,-⟩ | ⟨rfl,-,-⟩⟩:=h<;>exact⟨rfl,rfl⟩
end Go.Proofs
end
section
open Go Go.Proofs Go.Sx
namespace Go.Proofs
end Go.Proofs
end
section
open Go Go.Proofs Go.Sx Go.StP
namespace Go.Proofs
def entB (e:EntL):List UInt8:=(cE (eL e.kind)++dB e.name)++e.id.l
def QR (l:List EntL):List UInt8:=(l.map entB).flatten
def idsB (l:List IdL):List UInt8:=(l.map IdL.l).flatten
def QQ (c:ComL):List UInt8:=c.tree.l++cE (eL c.par.length)
def comB (c:ComL):List UInt8:=QQ c++idsB c.par++dB c.text
instance:DecidableEq EntL:=fun a b=>if h:a.name=b.name∧a.kind=b.kind∧a.id.l=b.id.l then .isTrue (by cases a;cases b;simp only at h;obtain⟨rfl,rfl,h3⟩:=h;rw[IdL.ext' h3]) else .isFalse (fun e=>h (by rw[e];exact⟨rfl,rfl,rfl⟩))
theorem EntL.ext' {a b:EntL} (h: (a.name==b.name&&a.kind==b.kind&&a.id.l==b.id.l)=true):a=b:=by
 simp only[Bool.and_eq_true,beq_iff_eq] at h
 cases a;cases b;simp only at h;obtain⟨⟨rfl,rfl⟩,h3⟩:=h;rw[IdL.ext' h3]
def s5 (l:List UInt8):IdL:=if h:l.length=32 then⟨l,h⟩ else id0
def yY {s:List UInt8} {a:Nat} {e:Int} (ha:a≤s.length):a≤ (idR s a e).2.1∧(idR s a e).2.1≤s.length:=vL ha
def xf {s:List UInt8} {a:Nat} {e most:Int} (ha:a≤s.length):a≤ (a_ s a e most).2.1∧(a_ s a e most).2.1≤s.length:=by
 have hp:=tk (e:=e) (most:=most) ha
 have hq:=vL (e:=(aV s a e most).2.2) (n:=(aV s a e most).1) hp.2
 unfold a_
 simp only
 split
 ·exact⟨ag _,ha⟩
 exact⟨by omega,hq.2⟩
def JG (s:List UInt8) (a:Nat) (e most:Int): (a_ s a e most).1.length≤s.length:=by
 have: ∀ (b:Nat) (e n:Int),(ck s b e n).1.length≤s.length:=by
  intro b e n
  unfold ck
  split
  ·simp
  split
  ·simp
  split
  ·simp
  simp only[List.length_take,List.length_drop];omega
 unfold a_
 simp only
 split
 ·simp
 exact this _ _ _
def yp {s:List UInt8} {a:Nat} {e n:Int} (he:e≠0): (ck s a e n).2=(a,e):=by unfold ck;rw[if_pos he]
def PR {s:List UInt8} {a:Nat} {e most:Int} (he:e≠0): (aV s a e most).2=(a,e):=by unfold aV;rw[if_pos he]
def OZ {s:List UInt8} {a:Nat} {e most:Int} (he:e≠0): (a_ s a e most).2=(a,e):=by
 unfold a_
 simp only[PR he,yp he]
 rw[if_pos he]
def QT {s:List UInt8} {a:Nat} {e:Int} (he:e≠0): (idR s a e).2=(a,e):=by unfold idR;simp only[yp he]
def rz {s:List UInt8} {a:Nat} {e n:Int} (h:e≠5): (ck s a e n).2.2≠5:=by
 unfold ck
 split
 ·exact h
 split
 ·show(2:Int)≠5;decide
 split
 ·show(3:Int)≠5;decide
 show(0:Int)≠5;decide
def Ns (most:Int): ∀ (l:List UInt8) (k n x:Nat),cB most l k n= .error x→x≠5:=by
 intro l
 induction l with
 |nil=>intro k n x h;unfold cB at h;cases h;decide
 |cons c r ih=>
  intro k n x h
  unfold cB at h
  split at h
  ·split at h
   ·cases h;decide
   exact ih _ _ _ h
  split at h
  ·cases h;decide
  split at h
  ·cases h
  cases h;decide
def P0 (most:Int): ∀ (l:List UInt8) (k n:Nat),cB most l k n≠ .error 0:=by
 intro l
 induction l with
 |nil=>intro k n h;unfold cB at h;cases h
 |cons c r ih=>
  intro k n h
  unfold cB at h
  split at h
  ·split at h
   ·cases h
   exact ih _ _ h
  split at h
  ·cases h
  split at h
  ·cases h
  cases h
def rn {s:List UInt8} {a:Nat} {e most:Int} (h:e≠5): (aV s a e most).2.2≠5:=by
 unfold aV
 split
 ·exact h
 split
 ·show(0:Int)≠5;decide
 rename_i x hx
 have:=Ns _ _ _ _ _ hx
 show((x:Nat):Int)≠5
 omega
def Nx {s:List UInt8} {a:Nat} {e most:Int} (h:e≠5): (a_ s a e most).2.2≠5:=by
 unfold a_
 simp only
 split
 ·exact rz (rn h)
 exact rz (rn h)
def Qm {s:List UInt8} {a:Nat} {e:Int} (h:e≠5): (idR s a e).2.2≠5:=by unfold idR;exact rz h
def O_ {s:List UInt8} {a:Nat} {e most:Int} (h: (aV s a e most).2.2=0):a< (aV s a e most).2.1:=by
 unfold aV at h ⊢
 split
 ·rename_i he
  rw[if_pos he] at h
  exact absurd h he
 rename_i he
 rw[if_neg he] at h
 split
 ·rename_i n k hk
  have:=vR _ _ _ _ _ _ hk
  show a<a+k
  omega
 rename_i x hx
 rw[hx] at h
 exfalso
 have:x=0:=by have: ((x:Nat):Int)=0:=h;omega
 subst this
 exact P0 _ _ _ _ hx
def entR (s:List UInt8) (a:Nat) (e:Int):EntL×Nat×Int:=
 let p:=aV s a e 2
 let q:=a_ s p.2.1 p.2.2 32
 let i:=idR s q.2.1 q.2.2
 (⟨q.1,p.1,s5 i.1⟩,i.2)
def Od {s:List UInt8} {a:Nat} {e:Int} (ha:a≤s.length):a≤ (entR s a e).2.1∧(entR s a e).2.1≤s.length:=by
 have h1:=tk (e:=e) (most:=2) ha
 have h2:=xf (e:=(aV s a e 2).2.2) (most:=32) h1.2
 have h3:=yY (e:=(a_ s (aV s a e 2).2.1 (aV s a e 2).2.2 32).2.2) h2.2
 unfold entR
 exact⟨by simp only;omega,h3.2⟩
def PZ {s:List UInt8} {a:Nat} {e:Int} (h:e≠5): (entR s a e).2.2≠5:=Qm (Nx (rn h))
def OL {s:List UInt8} {a:Nat} {e:Int} (ha:a≤s.length) (h: (entR s a e).2.2=0):a< (entR s a e).2.1:=by
 have h1:=tk (e:=e) (most:=2) ha
 have h2:=xf (e:=(aV s a e 2).2.2) (most:=32) h1.2
 have h3:=yY (e:=(a_ s (aV s a e 2).2.1 (aV s a e 2).2.2 32).2.2) h2.2
 unfold entR at h ⊢
 simp only at h ⊢
 have e2: (a_ s (aV s a e 2).2.1 (aV s a e 2).2.2 32).2.2=0:=Decidable.byContradiction fun hn=>by rw[QT hn] at h;exact hn h
 have e1: (aV s a e 2).2.2=0:=Decidable.byContradiction fun hn=>by rw[OZ hn] at e2;exact hn e2
 have:=O_ e1
 omega
def py (s:List UInt8):Nat→Nat→Int→List EntL→List EntL×Nat×Int
 |0,a,e,l=>(l,a,e)
 |n+1,a,e,l=>if e=0∧a<s.length then py s n (entR s a e).2.1 (entR s a e).2.2 (l++ [(entR s a e).1]) else(l,a,e)
def KT {s:List UInt8} {n a:Nat} {e:Int} {l:List EntL} (h:e=0∧a<s.length):py s (n+1) a e l=py s n (entR s a e).2.1 (entR s a e).2.2 (l++ [(entR s a e).1]):=by rw[py,if_pos h]
def H_ {s:List UInt8} {n a:Nat} {e:Int} {l:List EntL} (h: ¬ (e=0∧a<s.length)):py s n a e l=(l,a,e):=by
 cases n with
 |zero=>rfl
 |succ n=>rw[py,if_neg h]
def nt (s:List UInt8):List EntL×Nat×Int:=py s (s.length+1) 0 0 []
structure EntsJ (s:List UInt8) (n a:Nat) (e:Int) (l:List EntL):Prop where
 go:nt s=py s n a e l
 le:a≤s.length
 five:e≠5
 fuel:e=0→s.length<a+n
 cnt:l.length+n=s.length+1
 short: ∀i,i<l.length→(l.getD i ent0).name.length≤s.length
def EntsJ.next {s:List UInt8} {n a:Nat} {e:Int} {l:List EntL} (h:EntsJ s n a e l) (hc:e=0∧a<s.length): ∃m,n=m+1∧EntsJ s m (entR s a e).2.1 (entR s a e).2.2 (l++ [(entR s a e).1]):=by
 have:=h.fuel hc.1
 obtain⟨m,rfl⟩: ∃m,n=m+1:=⟨n - 1,by omega⟩
 refine⟨m,rfl,h.go.trans (KT hc),(Od h.le).2,PZ h.five,fun h0=> ?_, ?_,fun i hi=> ?_⟩
 ·have:=OL h.le h0;omega
 ·have:=h.cnt;simp only[List.length_append,List.length_cons,List.length_nil];omega
 by_cases aG:i<l.length
 ·rw[JZ aG];exact h.short i aG
 have:i=l.length:=by simp only[List.length_append,List.length_cons,List.length_nil] at hi;omega
 subst this
 rw[J5 (ag _),Nat.sub_self]
 exact JG _ _ _ _
def EntsJ.done {s:List UInt8} {n a:Nat} {e:Int} {l:List EntL} (h:EntsJ s n a e l) (hc: ¬ (e=0∧a<s.length)):nt s=(l,a,e):=h.go.trans (H_ hc)
def QI (s:List UInt8):Option (List EntL):=if(nt s).2.2=0∧ym (nt s).1=true∧QR (nt s).1=s then some (nt s).1 else none
def z8 (s:List UInt8) (a:Nat) (e:Int):Nat→List IdL×Nat×Int
 |0=>([],a,e)
 |n+1=>let p:=z8 s a e n;let i:=idR s p.2.1 p.2.2;(p.1++ [s5 i.1],i.2)
def comN (s:List UInt8):Int×Nat×Int:=aV s (idR s 0 0).2.1 (idR s 0 0).2.2 4
def comP (s:List UInt8):List IdL×Nat×Int:=z8 s (comN s).2.1 (comN s).2.2 (comN s).1.toNat
def comT (s:List UInt8):List UInt8×Nat×Int:=a_ s (comP s).2.1 (comP s).2.2 64
def comE (s:List UInt8):ComL×Nat×Int:=(⟨s5 (idR s 0 0).1,(comP s).1,(comT s).1⟩,(comT s).2)
def endE (s:List UInt8) (a:Nat) (e:Int):Int:=if e≠0 then e else if(a:Int)< (s.length:Int) then 5 else 0
def Ql (s:List UInt8):Option ComL:=if endE s (comE s).2.1 (comE s).2.2=0∧zD (comE s).1=true∧comB (comE s).1=s then some (comE s).1 else none
def RdOk (k:Int) (t:List UInt8):Bool:=
 if 1≤k∧k≤3∧t.length≤4096 then
  (if k=1 then true else if k=2 then(endE t (nt t).2.1 (nt t).2.2==0&&ym (nt t).1) else(endE t (comE t).2.1 (comE t).2.2==0&&zD (comE t).1))
 else false
def Came.newE {w0:World} {L X D:aA} {b:Nat} (hC:Came w0 L X D) (hN:New (b+1) X) (hb:b∈keys L):New (b+1) D:=New.of_le fun c hc=>by
 rcases hC.new c hc with h| ⟨h,-⟩
 ·exact hN.le c h
 have:=ae h hb;omega
def Qv (k:Int):List UInt8:=(([32,98,116,99]:List UInt8).take (k+1).toNat).drop k.toNat
def Qb (k:Int) (t:List UInt8):List UInt8:=Qv k++dB t
def oD (k:Int) (t:List UInt8):Bool:=if 4096<t.length then false else if k=2 then(QI t).isSome else if k=3 then(Ql t).isSome else k==1
def idxT (s:List UInt8):List UInt8→Int
 | []=>0
 |c::_=>Lib.indexByte s c
abbrev letL:List UInt8:= [32,98,116,99]
def frR (s:List UInt8):List UInt8×Nat×Int:=ck s 0 0 1
def frT (s:List UInt8):List UInt8×Nat×Int:=a_ s (frR s).2.1 (frR s).2.2 4096
def frK (s:List UInt8):Int:=idxT letL (frR s).1
def frOk (s:List UInt8):Bool:=endE s (frT s).2.1 (frT s).2.2==0&&RdOk (frK s) (frT s).1
end Go.Proofs
end
namespace Go.Flo
open Go Ieee
abbrev F (n:Int):Nat:=FloatKind.f64.nearest n
def dat (n:Int):Datum:= .number (decide (n<0)) (n.natAbs*2^ (52 - n.natAbs.log2)) ((n.natAbs.log2:Int) - 52)
end Go.Flo
namespace Go.Sx
open Go Go.Flo
def fl (n:Int):Value:= .float .f64 (F n)
def cx (a b:Int):Value:= .complex .f64 (F a) (F b)
section
variable {P:Program} {w0:World} {f:Fr} {L:aA} {N:Fr→aA→Prop} {ops:Array Oper} {rest:List Oper} {md:Md}
 {d:Option Tmp} {ty:TypeId} {ps:String} {af:Array Edge} {g:Option (Nat×Bool)}
theorem Ow.real {x:Operand} {ts:Array TypeId} {a b:Int} (hs:aw ops f ⟨d, .call ⟨.builtin .real, #[x],ts⟩,ty,ps,af,g⟩=false) (hx:ev f x=cx a b)
  (hn:Ow P w0 ops md.next rest (aW f d (fl a)) L N):Ow P w0 ops md (⟨d, .call ⟨.builtin .real, #[x],ts⟩,ty,ps,af,g⟩::rest) f L N:=by
 refine Ow.calm rfl rfl hs (fun w hw=> .inl ⟨fl a,w,L, ?_,hw,rfl,rfl⟩) hn
 simp only[execOp,resolve,Sem.run_bind,Sem.run_pure,Result.andThen_ok,invoke,builtin,List.map_toArray,List.map_cons,List.map_nil,hx]
 rfl
end
end Go.Sx
namespace Go.Sx
open Go Go.Flo
section
variable {P:Program} {w0:World} {st:Bool} {f:Fr} {L:aA} {md:Md} {d:Option Tmp} {ty:TypeId} {ps:String} {af:Array Edge} {g:Option (Nat×Bool)} {go:Fr→aA→Prop} {stop:Prop}
end
end Go.Sx
section
open Go Go.Proofs Go.Sx Go.StP Go.Flo
namespace Go.Proofs
structure PcL where
 a:Nat
 n:Nat
 x:List UInt8
def cpV (p:PcL) (b:Int):Option (Nat×Nat):=if 1≤p.n∧p.n≤4099∧p.x= []∧(p.a:Int)≤b - p.n then some (p.a,p.n) else none
def zC (p:PcL) (b:Int):Nat:=if p.a=0∧p.n=0∧p.x.length≤4099 then p.x.length else match cpV p b with|some q=>q.2|none=>0
def sumP (b:Int) (l:List PcL):Nat:=(l.map fun p=>zC p b).sum
def anyZ (b:Int) (l:List PcL):Bool:=l.any fun p=>zC p b==0
def chkV (b:Int) (l:List PcL):Int×Int:=if b<0∨4099<b then(0,1) else if anyZ b l=true then(0,1) else if 4099<sumP b l then(0,19) else((sumP b l:Nat),0)
def pcT (base:List UInt8) (p:PcL):List UInt8:=match cpV p base.length with|some q=>(base.drop q.1).take q.2++p.x|none=>p.x
def txtP (base:List UInt8) (l:List PcL):List UInt8:=(l.map (pcT base)).flatten
def pcR (d:List UInt8) (a:Nat):PcL×Nat×Int:=
 if(aV d a 0 8199).1%2=1 then
  (⟨(aV d (aV d a 0 8199).2.1 (aV d a 0 8199).2.2 4099).1.toNat,((aV d a 0 8199).1 / 2).toNat,[]⟩,(aV d (aV d a 0 8199).2.1 (aV d a 0 8199).2.2 4099).2)
 else(⟨0,0,(ck d (aV d a 0 8199).2.1 (aV d a 0 8199).2.2 ((aV d a 0 8199).1 / 2)).1⟩,(ck d (aV d a 0 8199).2.1 (aV d a 0 8199).2.2 ((aV d a 0 8199).1 / 2)).2)
def pcsF (d:List UInt8):Nat→Nat→List PcL×Nat×Int
 |0,a=>([],a,0)
 |k+1,a=>if a<d.length then(if(pcR d a).2.2=0 then((pcR d a).1:: (pcsF d k (pcR d a).2.1).1,(pcsF d k (pcR d a).2.1).2) else([(pcR d a).1],(pcR d a).2)) else([],a,0)
def pcs (d:List UInt8) (a:Nat):List PcL×Nat×Int:=pcsF d (d.length - a) a
def Pz (d:List UInt8):Option (Nat×List PcL):=
 if(aV d (aV d 0 0 4099).2.1 (aV d 0 0 4099).2.2 4099).2.2≠0 then none
 else if(pcs d (aV d (aV d 0 0 4099).2.1 (aV d 0 0 4099).2.2 4099).2.1).2.2≠0 then none
 else if chkV (aV d 0 0 4099).1 (pcs d (aV d (aV d 0 0 4099).2.1 (aV d 0 0 4099).2.2 4099).2.1).1=((aV d (aV d 0 0 4099).2.1 (aV d 0 0 4099).2.2 4099).1,0) then some ((aV d 0 0 4099).1.toNat,(pcs d (aV d (aV d 0 0 4099).2.1 (aV d 0 0 4099).2.2 4099).2.1).1)
 else none
def Pf (base d:List UInt8):List UInt8×Int:=
 match Pz d with
 |none=>([],2)
 |some p=>if p.1≠base.length then([],19) else(txtP base p.2,0)
end Go.Proofs
end
namespace Go.Sx
open Go
section
variable {α:Type} {m:Nat} {enc:α→List Value} {z:α}
end
section
variable {P:Program} {w0:World} {f:Fr} {L:aA} {N:Fr→aA→Prop} {ops:Array Oper} {rest:List Oper} {md:Md} {d:Option Tmp} {ty:TypeId} {ps:String} {af:Array Edge} {g:Option (Nat×Bool)}
theorem Ow.makeSlice {t e:TypeId} {m:Bool×Nat} {z:Value} {x y:Operand} {n c:Nat} {md':Md} (he:md.turn=some md') (hs:aw ops f ⟨d, .makeSlice t x y,ty,ps,af,g⟩=false)
  (hu:P.underlying t=some (.slice e)) (hm:aM P e=some m) (hi:pg P e=true) (hz:bL P e=some z) (hx:ev f x=vi n) (hy:ev f y=vi c) (Sm:n≤c) (cn:c≤2^38)
  (hn: ∀b,dq L b→w0.heap.size≤b→Ow P w0 ops md' rest (aW f d (vsl b 0 n c)) (L++ [(b, .cells (madeCells z.cells (c*m.2)) e (0,0))]) N):
  Ow P w0 ops md (⟨d, .makeSlice t x y,ty,ps,af,g⟩::rest) f L N:=by
 refine Ow.step he rfl hs fun w hw=> .inl ⟨vsl w.heap.size 0 n c,w.alloc (.cells (madeCells z.cells (c*m.2)) e (0,0)),_, ?_,hw.alloc _,hn _ (gK fun b hb=>hw.lt hb) hw.size⟩
 obtain⟨i,AA,-,hb⟩:=Tk hi cn
 have Zb:i.zero=some z:=by
  unfold bL at hz
  rw[AA] at hz
  exact hz
 have Za:i.size=m.2:=by
  unfold aM at hm
  rw[AA] at hm
  split at hm
  ·rename_i h1 h2
   cases h2
   cases hm
   rfl
  cases hm
 have pB: (i.bytes:Int)* (c:Int)≤281474976710656:=by
  have: ((i.bytes*c:Nat):Int)≤281474976710656:=by rw[Nat.mul_comm];exact Int.ofNat_le.2 hb
  rwa [Int.natCast_mul] at this
 have hr:=run_make (P:=P) w t e i z hu AA Zb .i64 .i64 (n:Int) (c:Int) oM oM pB oM
 simp only[Int.toNat_natCast,Za] at hr
 show(execOp (ev f) _).run P w=_
 simp only[execOp,Sem.run_bind]
 rw[hx,hy]
 show((Instr.makeSlice t (.int .i64 (n:Int)) (.int .i64 (c:Int))).run P w).andThen _=_
 rw[hr]
 rfl
end
def New.perm {n:Nat} {D D':aA} (h:New n D) (hp:D.Perm D'):New n D':=New.of_le fun c hc=>h.le c ((hp.map Prod.fst).mem_iff.2 hc)
end Go.Sx
section
open Go Go.Proofs Go.Sx Go.StP Go.Flo
namespace Go.Proofs
structure PartL where
 d:Bool
 b:Int
 x:List UInt8
def ik:PartL:=⟨false,0,[]⟩
def ya (l:List PartL):Nat→Nat→Except Int (List Nat)
 |0,_=> .error 11
 |k+1,at_=>
  if(l.getD at_ ik).d=true then
   (if(l.getD at_ ik).b<0∨(at_:Int)≤ (l.getD at_ ik).b then .error 2
   else if k=0 then .error 11
   else(ya l k (l.getD at_ ik).b.toNat).map (at_:: ·))
  else if(l.getD at_ ik).b≠0 then .error 2 else .ok [at_]
def Qk (l:List PartL) (at_:Int):Except Int (List Nat):=
 if 200<l.length∨at_<0∨(l.length:Int)≤at_ then .error 1 else ya l 5 at_.toNat
def lq (p:PartL) (base:List UInt8):List UInt8×Int:=if p.d=true then Pf base p.x else if 4099<p.x.length then([],19) else(p.x,0)
def yy (l:List PartL):List Nat→Except Int (List UInt8)
 | []=> .ok []
 |a::p=>(yy l p).bind fun s=>if(lq (l.getD a ik) s).2=0 then .ok (lq (l.getD a ik) s).1 else .error (lq (l.getD a ik) s).2
def jQ (l:List PartL) (at_:Int):Except Int (List UInt8):=(Qk l at_).bind (yy l)
def z6 (l:List PartL):Nat→Except Int (List (List UInt8))
 |0=> .ok []
 |k+1=>(z6 l k).bind fun ts=>(jQ l (k:Nat)).map fun s=>ts++ [s]
def allV (l:List PartL):Except Int (List (List UInt8)):=if 200<l.length then .error 1 else z6 l l.length
def strC (s:List UInt8):List Value:= [vs s]
def MD (s:List UInt8): (strC s).length=1:=rfl
end Go.Proofs
end
section
open Go Go.Proofs Go.Sx Go.StP
namespace Go.Proofs
structure ChildL where
 id:IdL
 kind:Int
def Gr.rows {α:Type} {L:aA} {E:TypeId} {m:Nat} {v:Value} {enc:α→List Value} {l:List α} (h:Gr L E m v l.length (l.map enc).flatten) (h0:0<l.length): ∃b c rest,v=vsl b 0 l.length c∧Sx.look L b=some (rowO enc E rest l):=by
 rcases h with h| ⟨h,-⟩
 ·rcases h.inv with⟨-,h,-⟩ | ⟨b,c,rest,hv,hl,-⟩
  ·omega
  exact⟨b,c,rest,hv,hl⟩
 omega
def SepK (b:Nat) (D E:aA):Prop:= ∀c,c∈keys E→b<c∧ ∀d,d∈keys D→d<c
def SepK.nil {b:Nat} {D:aA}:SepK b D []:=fun c hc=>by cases hc
def SepK.cons {b c:Nat} {o:Obj} {D E:aA} (h:SepK b D E) (h1:b<c) (h2: ∀d,d∈keys D→d<c):SepK b D ((c,o)::E):=fun x hx=>by
 simp only[keys,List.map_cons,List.mem_cons] at hx
 rcases hx with rfl|hx
 ·exact⟨h1,h2⟩
 exact h x hx
def SepK.app {b:Nat} {D E F:aA} (h:SepK b D E) (h2:SepK b D F):SepK b D (E++F):=fun x hx=>by
 rw[aZ,List.mem_append] at hx
 rcases hx with hx|hx
 ·exact h x hx
 exact h2 x hx
def SepK.grow {b B:Nat} {D E F:aA} (h:SepK b D E) (hk: ∀c,c∈keys F→c∈keys E∨B≤c) (h1:b<B) (h2: ∀d,d∈keys D→d<B):SepK b D F:=fun x hx=>by
 rcases hk x hx with h'|h'
 ·exact h x h'
 exact⟨by omega,fun d hd=>by have:=h2 d hd;omega⟩
theorem SepK.look {b:Nat} {D E:aA} {c:Nat} {o x:Obj} (h:SepK b D E) (hl:Sx.look E c=some o):Sx.look ((b,x):: (D++E)) c=some o:=by
 have:=h c (bX hl)
 rw[r9 _ _ _ _ oM,gO (fun hm=>by have:=this.2 c hm;omega)]
 exact hl
end Go.Proofs
end
