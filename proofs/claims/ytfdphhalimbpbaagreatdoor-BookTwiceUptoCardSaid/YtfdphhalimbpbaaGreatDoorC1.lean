/-
  Part 1 of the walk: contracts of the functions that the law reaches, and the calculus they stand on.
  No conditions.
-/
import Derived.Test.YtfdphhalimbpbaaGreatDoorC0
import Derived.RangeFuncLeaves
import Derived.RangeFuncIn
import Derived.RangeFuncSeq
import Derived.RangeFuncRecord
import Derived.TacticsIn
import Derived.Maps.RangeRun
import Derived.Test.YtfdphhalimbpbaaGreatDoorProg
set_option linter.unusedSimpArgs false
set_option maxRecDepth 100000
set_option linter.defProp false
set_option maxHeartbeats 8000000
open Go.Proofs.Tryz
namespace Go.Sx
open Go
section
variable {P:Program} {w0:World} {f:Fr} {L:aB} {N:Fr→aB→Prop} {ops:Array Oper} {rest:List Oper} {md:Md}
 {d:Option Tmp} {ty:TypeId} {ps:String} {af:Array Edge} {g:Option (Nat×Bool)}
def getV (k:List UInt8) (z:List UInt8) (m:aZ):List UInt8:=match m.find? fun p=>k==p.1 with|some p=>p.2|none=>z
theorem ES (k:List UInt8): ∀ (m:aZ) (i:Nat),(fnd k m i).map Prod.snd=(m.find? fun p=>k==p.1).map Prod.snd
 | [],_=>rfl
 |p::r,i=>by
  unfold fnd
  rw[List.find?_cons]
  cases h: (k==p.1)
  ·simp only[Bool.false_eq_true, ↓reduceIte];exact ES k r (i+1)
  rfl
def Ow.mapGet {t kt vt:TypeId} {x y:Operand} {b:Nat} {o:Obj} {m:aZ} {k z:List UInt8} {md':Md} (he:md.turn=some md') (hs:a_ ops f ⟨d, .lookup t x y false,ty,ps,af,g⟩=false) (hu:P.underlying t=some (.map kt vt)) (mz:P.underlying kt=some .string)
  (hz:au P vt=some (.agg (a8 z))) (hx:ev f x=vm b) (hy:ev f y=vs k) (hl:aT w0 L b=some o) (hm:MapR o m)
  (hn:Ow P w0 ops md' rest (aX f d (.agg (a8 (getV k z m)))) L N):
  Ow P w0 ops md (⟨d, .lookup t x y false,ty,ps,af,g⟩::rest) f L N:=by
 obtain⟨es,c,rfl,gC,-⟩:=hm
 refine Ow.step he rfl hs fun w hw=> ?_
 have hb:=hw.read hl
 have eI:=KI (w:=w) mz k es.toList m gC
 refine .inl ⟨.agg (a8 (getV k z m)),w,L, ?_,hw,hn⟩
 have jv:=ES k m 0
 have: (Instr.lookup t (vm b) (vs k) false).run P w= .ok (.agg (a8 (getV k z m))) w:=by
  cases hf:fnd k m 0 with
  |none=>
   rw[hf] at eI jv
   have hg:getV k z m=z:=by
    unfold getV
    cases h:m.find? fun p=>k==p.1 with
    |none=>rfl
    |some q=>rw[h] at jv;cases jv
   simp only[Instr.lookup,vm,Sem.run_bind,run_underlying hu w,Result.andThen_ok,lJ hb,Sem.run_pure,AM mz,eI,Option.map_none,uD hz w,hg,Bool.false_eq_true, ↓reduceIte]
  |some p=>
   obtain⟨j,a⟩:=p
   rw[hf] at eI jv
   have hg:getV k z m=a:=by
    unfold getV
    cases h:m.find? fun p=>k==p.1 with
    |none=>rw[h] at jv;cases jv
    |some q=>rw[h] at jv;simp only[Option.map_some,Option.some.injEq] at jv;exact jv.symm
   simp only[Instr.lookup,vm,Sem.run_bind,run_underlying hu w,Result.andThen_ok,lJ hb,Sem.run_pure,AM mz,eI,Option.map_some,hg,Bool.false_eq_true, ↓reduceIte]
 simp only[execOp,Sem.run_bind,hx,hy]
 rw[this];rfl
end
end Go.Sx
namespace Go.Sx
open Go
def F0 (A B C:List Value) {o n:Nat} (hA:A.length=o) (hB:B.length=n): (A++ (B++C)).toArray.extract o (o+n)=B.toArray:=by
 subst hA;subst hB
 rw[List.extract_toArray,List.extract_eq_take_drop,List.drop_left,Nat.add_sub_cancel_left,List.take_left]
def FI (A C:List Value) (v:Value) {o:Nat} (hA:A.length=o): (A++ ([v]++C)).toArray[o]? =some v:=by
 subst hA;simp
def J1 (A C:List Value) (v:Value) {o:Nat} (hA:A.length=o): (A++ ([v]++C))[o]? =some v:=by
 subst hA;simp
def wi (A B B' C:List Value) {o:Nat} (hA:A.length=o) (hB:B.length=B'.length):dZ (A++ (B++C)).toArray o B'=(A++ (B'++C)).toArray:=by
 subst hA
 have hp:=wg B' A B C hB
 rw[List.append_assoc,List.append_assoc] at hp
 exact hp
def wa (A C:List Value) (v:Value) {o n:Nat} (hA:A.length=o):partV (false,n) (A++ ([v]++C)).toArray o=some v:=FI A C v hA
def Al (A B C:List Value) {o n:Nat} (E:TypeId) (fz:Nat×Nat) (hA:A.length=o) (hB:B.length=n):aQ (some (true,n)) (some (.cells (A++ (B++C)).toArray E fz)) o=some (.agg B.toArray):=by
 have hs:o+n≤ (A++ (B++C)).toArray.size:=by
  simp only[List.size_toArray,List.length_append];omega
 unfold aQ
 simp only[hs, ↓reduceIte]
 rw[F0 A B C hA hB]
def pR (A C:List Value) (v:Value) {o:Nat} (n:Nat) (E:TypeId) (fz:Nat×Nat) (hA:A.length=o):aQ (some (false,n)) (some (.cells (A++ ([v]++C)).toArray E fz)) o=some v:=by
 rw[loadV_one];exact FI A C v hA
def k9 (A B B' C:List Value) {o n:Nat} (a:Bool) (x:Value) (E:TypeId) (hA:A.length=o) (hB:B.length=n) (hx:x.cells=B'.toArray) (hB':B'.length=n) (ho:B'.all Value.oneCell'=true):
  aw (some (a,n)) (some (.cells (A++ (B++C)).toArray E (0,0))) o x=some (.cells (A++ (B'++C)).toArray E (0,0)):=by
 subst hA
 have hp:=wg B' A B C (by rw[hB,hB'])
 rw[List.append_assoc,List.append_assoc] at hp
 unfold aw
 simp only[hx]
 rw[if_pos ⟨by rw[List.size_toArray,hB'],by simp only[List.size_toArray,List.length_append];omega, .inl (ap 0),ho⟩,hp]
def A2 (cs:List Value) {n:Nat} (a:Bool) (old:Array Value) (E:TypeId) (hn:cs.length=n) (ho:cs.all Value.oneCell'=true) (h:old.size=n):
  aw (some (a,n)) (some (.cells old E (0,0))) 0 (.agg cs.toArray)=some (.cells cs.toArray E (0,0)):=
 Ij n a cs.toArray old E ⟨by rw[List.size_toArray,hn],h⟩ ho
def vr (l:List UInt8): (l.map v8).all Value.oneCell'=true:=by
 rw[List.all_map]
 exact List.all_eq_true.2 fun x _=>rfl
def RowS.part {α:Type} {m:Nat} {enc:α→List Value} {z:α} {w:World} {v:Value} {l:List α} {b off:Nat} {arr:Array Value} {E:TypeId} {fz:Nat×Nat} (h:RowS m enc z w v l b off arr E fz) (hm: ∀x,(enc x).length=m) {k o n:Nat} (hk:k<l.length) (ho:o+n≤m) (hn:0<n):
  aQ (some (true,n)) (some (.cells arr E fz)) (off+k*m+o)=some (.agg ((enc (l.getD k z)).toArray.extract o (o+n))):=by
 have hg: ∀i,i<n→arr[off+k*m+ (o+i)]? =(enc (l.getD k z))[o+i]? :=fun i hi=>h.get k hk (o+i) oM
 have aS:=hm (l.getD k z)
 have e_:off+k*m+o+n≤arr.size:=by
  have h1:=hg (n - 1) oM
  rw[List.getElem?_eq_getElem oM] at h1
  have:=(Array.getElem?_eq_some_iff.1 h1).1
  omega
 unfold aQ
 simp only[e_, ↓reduceIte]
 congr 2
 apply Array.ext_getElem?
 intro i
 by_cases hi:i<n
 ·rw[Array.getElem?_extract,Array.getElem?_extract,if_pos oM,if_pos (by rw[List.size_toArray];omega)]
  have hh:=hg i hi
  rw[show off+k*m+ (o+i)=off+k*m+o+i by omega] at hh
  rw[hh]
  exact(List.getElem?_toArray ..).symm
 rw[Array.getElem?_eq_none (by rw[Array.size_extract];omega),Array.getElem?_eq_none (by rw[Array.size_extract];omega)]
end Go.Sx
namespace Go.Sx
open Go
def Cw.forget {P:Program} {w0:World} {c:Code} {f:Fr} {L:aB} {K:cK} (M:aB) (hM: ∀p,p∈M→p∈L) (hn: (keys M).Nodup) (ez: ∀p,p∈L→p.1∉keys M→w0.heap.size≤p.1)
  (h:Cw P w0 c f M K):Cw P w0 c f L K:=fun w hw=>h w (hw.drop hM hn fun p hp aC hk=>by have:=ez p hp hk;omega)
end Go.Sx
namespace Go.Sx
open Go
def SlV {α:Type} (m:Nat) (enc:α→List Value) (z:α) (w:World) (v:Value) (l:List α):Prop:=
 ∃b off c arr E fz,RowS m enc z w v l b off arr E fz∧l.length≤c∧((v= .slice none 0 0∧l= []∧c=0)∨(v=vsl b off l.length c∧w.heap[b]? =some (.cells arr E fz)∧off+l.length*m≤arr.size))
section
variable {α:Type} {m:Nat} {enc:α→List Value} {z:α} {w:World} {v:Value} {l:List α}
def RowS.sl' {b off n c:Nat} {arr:Array Value} {E:TypeId} {fz:Nat×Nat} (hn:n=l.length)
  (has:0<l.length→w.heap[b]? =some (.cells arr E fz)) (get: ∀k,k<l.length→ ∀j,j<m→arr[off+k*m+j]? =(enc (l.getD k z))[j]?):RowS m enc z w (vsl b off n c) l b off arr E fz:=by
 subst hn
 exact⟨fun x=>rfl,fun a k hk=>I9 _ _ _ _ _ _ ⟨by omega,by omega⟩,has,get⟩
theorem SlV.nil (w:World):SlV m enc z w (.slice none 0 0) []:=⟨0,0,0, #[],0,(0,0),RowS.nil w 0 0 rfl,ap _, .inl ⟨rfl,rfl,rfl⟩⟩
def SlV.row (h:SlV m enc z w v l): ∃b off arr E fz,RowS m enc z w v l b off arr E fz:=by
 obtain⟨b,off,c,arr,E,fz,hr,-⟩:=h;exact⟨b,off,arr,E,fz,hr⟩
theorem SlV.sl {b off c:Nat} {arr:Array Value} {E:TypeId} {fz:Nat×Nat} (has:w.heap[b]? =some (.cells arr E fz)) (get: ∀k,k<l.length→ ∀j,j<m→arr[off+k*m+j]? =(enc (l.getD k z))[j]?) (hc:l.length≤c) (hs:off+l.length*m≤arr.size):SlV m enc z w (vsl b off l.length c) l:=
 ⟨b,off,c,arr,E,fz,RowS.sl rfl has get,hc, .inr ⟨rfl,has,hs⟩⟩
theorem RowS.old {w':World} {b off:Nat} {arr:Array Value} {E:TypeId} {fz:Nat×Nat} {L:aB} (h:RowS m enc z w v l b off arr E fz) (hw:Hp w L w') (hb:0<l.length→b∉keys L):RowS m enc z w' v l b off arr E fz:=
 ⟨h.len,h.idx,fun hl=>by have hh:=h.has hl;rw[hw.old b (Array.getElem?_eq_some_iff.1 hh).1 (hb hl)];exact hh,h.get⟩
def RowS.lt {b off:Nat} {arr:Array Value} {E:TypeId} {fz:Nat×Nat} (h:RowS m enc z w v l b off arr E fz) (hl:0<l.length):b<w.heap.size:=(Array.getElem?_eq_some_iff.1 (h.has hl)).1
theorem SlV.old {w':World} {L:aB} (h:SlV m enc z w v l) (hw:Hp w L w') (hb: ∀b,slB v=some b→b<w.heap.size→b∉keys L):SlV m enc z w' v l:=by
 obtain⟨b,off,c,arr,E,fz,hr,hc,hv⟩:=h
 rcases hv with⟨rfl,rfl,rfl⟩ | ⟨rfl,ft,e_⟩
 ·exact SlV.nil w'
 have zn:=hb b rfl (Array.getElem?_eq_some_iff.1 ft).1
 refine⟨b,off,c,arr,E,fz,hr.old hw (fun _=>zn),hc, .inr ⟨rfl, ?_,e_⟩⟩
 rw[hw.old b (Array.getElem?_eq_some_iff.1 ft).1 zn];exact ft
def New.not {L:aB} {n b:Nat} (h:New n L) (hb:b<n):b∉keys L:=fun hm=>by have:=h.le b hm;omega
def SlV.oldN {w':World} {L:aB} (h:SlV m enc z w v l) (hw:Hp w L w') (hn:New w.heap.size L):SlV m enc z w' v l:=h.old hw fun _ _ hb=>hn.not hb
theorem SlV.len (h:SlV m enc z w v l) (x:Bool×Nat):eb (.sl x) v=some (vi l.length):=by
 obtain⟨b,off,arr,E,fz,hr⟩:=h.row
 exact hr.len x
theorem SlV.take (h:SlV m enc z w v l) {k:Nat} (hk:k≤l.length) (a:Bool): ∃v',ii (.sl (a,m)) v none (some (some (k:Int)))=some v'∧SlV m enc z w v' (l.take k)∧(∀b,slB v'=some b→slB v=some b):=by
 obtain⟨b,off,c,arr,E,fz,hr,hc,hv⟩:=h
 have hl: (l.take k).length=k:=by simp;omega
 rcases hv with⟨rfl,rfl,rfl⟩ | ⟨rfl,ft,e_⟩
 ·obtain rfl:k=0:=by simpa using hk
  refine⟨.slice none 0 0,rfl,SlV.nil w,fun b hb=>hb⟩
 refine⟨vsl b off k c, ?_, ?_,fun b hb=>hb⟩
 ·unfold ii vsl
  simp only[Ff _ _ _ (⟨by omega,by omega⟩: (0:Int)≤ (k:Int)∧(k:Int)≤ (c:Int)),Int.toNat_natCast,Nat.zero_mul,Nat.sub_zero,Option.map_some,oV,Nat.add_zero]
  split<;>rfl
 refine⟨b,off,c,arr,E,fz,RowS.sl' hl.symm (fun h0=>hr.has oM) ?_,by omega, .inr ⟨by rw[hl],ft,by rw[hl];have:k*m≤l.length*m:=Nat.mul_le_mul_right _ hk;omega⟩⟩
 ·intro i hi j hj
  rw[hl] at hi
  rw[hr.get i oM j hj]
  congr 2
  rw[List.getD_eq_getElem?_getD,List.getD_eq_getElem?_getD,List.getElem?_take_of_lt hi]
def Buf.slM {L:aB} {E:TypeId} {n:Nat} {cs:List Value} (h:Buf L E m v n cs) (hw: ∀b o,(b,o)∈L→w.heap[b]? =some o) (hl:l.length=n) (df:cs=(l.map enc).flatten) (hm: ∀x,(enc x).length=m):SlV m enc z w v l:=by
 rcases h.inv with⟨rfl,rfl,rfl⟩ | ⟨b,c,rest,rfl,bz,aS,hnc,h0,qo⟩
 ·have:l= []:=by simpa using hl
  subst this;exact SlV.nil w
 subst hl
 refine SlV.sl (hw _ _ (cu bz)) ?_ hnc (by rw[List.size_toArray,List.length_append,aS];omega)
 intro k hk j hj
 rw[Nat.zero_add,List.getElem?_toArray,List.getElem?_append_left (by rw[aS];have: (k+1)*m≤l.length*m:=Nat.mul_le_mul_right _ hk;rw[Nat.add_mul,Nat.one_mul] at this;omega),df]
 clear aS qo bz df hnc h
 induction l generalizing k with
 |nil=>simp at hk
 |cons x r ih=>
  rw[List.map_cons,List.flatten_cons]
  cases k with
  |zero=>
   rw[Nat.zero_mul,Nat.zero_add,List.getElem?_append_left (by rw[hm];exact hj),List.getD_cons_zero]
  |succ k=>
   rw[List.getElem?_append_right (by rw[hm,Nat.add_mul,Nat.one_mul];omega),hm,List.getD_cons_succ]
   have:=ih (k:=k) (by simpa using hk)
   rw[←this]
   congr 1
   rw[Nat.add_mul,Nat.one_mul];omega
def Buf.slV {L:aB} {E:TypeId} {n:Nat} {cs:List Value} {w0:World} (h:Buf L E m v n cs) (hw:Hp w0 L w) (hl:l.length=n) (df:cs=(l.map enc).flatten) (hm: ∀x,(enc x).length=m):SlV m enc z w v l:=h.slM hw.has hl df hm
end
end Go.Sx
namespace Go.Sx
open Go
theorem New.mono {n m:Nat} (h:n≤m): ∀ {L:aB},New m L→New n L
 | [],_=>trivial
 | (_,_)::_,hL=>⟨Nat.le_trans h hL.1,New.mono h hL.2⟩
theorem New.app {n:Nat} {M:aB}: ∀ {L:aB},New n L→New n M→New n (L++M)
 | [],_,hM=>hM
 | (_,_)::_,hL,hM=>⟨hL.1,New.app hL.2 hM⟩
section
variable {P:Program} {w0:World} {f:Fr} {L:aB} {N:Fr→aB→Prop} {ops:Array Oper} {rest:List Oper} {md:Md}
 {d:Option Tmp} {ty:TypeId} {ps:String} {af:Array Edge} {g:Option (Nat×Bool)}
def Ow.callE {l:List Operand} {ts:Array TypeId} {k:FuncId} {b:Nat} {S:Value→Obj→Prop} {md':Md} (he:md.turn=some md')
  (hs:a_ ops f ⟨d, .call ⟨.value (.func k),l.toArray,ts⟩,ty,ps,af,g⟩=false)
  (hk: ∀a w,(callFunc k a).run P w= .ok (.enter k a) w) (hb:b∈keys L)
  (hc: ∀w,Hp w0 L w→Rets P k (l.map (ev f)).toArray w (fun v D=> ∃o,D= [(b,o)]∧S v o))
  (hn: ∀v o,S v o→Ow P w0 ops md' rest (aX f d v) (setB L b o) N):
  Ow P w0 ops md (⟨d, .call ⟨.value (.func k),l.toArray,ts⟩,ty,ps,af,g⟩::rest) f L N:=by
 refine Ow.callF he hs hk (S:=fun _ v D=> ∃o,D= [(b,o)]∧S v o) hc ?_
 rintro B v D - - ⟨o,rfl,hS⟩
 exact⟨_,Mrg.set hb,hn v o hS⟩
def Ow.callN {l:List Operand} {ts:Array TypeId} {k:FuncId} {S:Nat→Value→aB→Prop} {md':Md} (he:md.turn=some md')
  (hs:a_ ops f ⟨d, .call ⟨.value (.func k),l.toArray,ts⟩,ty,ps,af,g⟩=false)
  (hk: ∀a w,(callFunc k a).run P w= .ok (.enter k a) w)
  (hc: ∀w,Hp w0 L w→Rets P k (l.map (ev f)).toArray w (fun v D=>S w.heap.size v D))
  (ez: ∀B v D,S B v D→New B D)
  (hn: ∀B v D,eP L B→w0.heap.size≤B→S B v D→Ow P w0 ops md' rest (aX f d v) (L++D) N):
  Ow P w0 ops md (⟨d, .call ⟨.value (.func k),l.toArray,ts⟩,ty,ps,af,g⟩::rest) f L N:=by
 refine Ow.callF he hs hk (S:=S) hc ?_
 intro B v D ha hB hS
 exact⟨_,Mrg.fresh (ez B v D hS).le,hn B v D ha hB hS⟩
def Cw.forgetN {c:Code} {K:cK} (M:aB) (ez:New w0.heap.size L) (hM: ∀p,p∈M→p∈L) (hn: (keys M).Nodup) (h:Cw P w0 c f M K):Cw P w0 c f L K:=
 Cw.forget M hM hn (fun p hp _=>ez.le _ (List.mem_map.2 ⟨p,hp,rfl⟩)) h
end
end Go.Sx
section
namespace Go.Sx
open Go
section
variable {P:Program} {w0:World} {L:aB}
def Lv {w:World} {ts tx ty e:TypeId} {m:Bool×Nat} {z x:Value} {b k:Nat} {new:List Value} (hw:Hp w0 L w)
  (hu:P.underlying ts=some (.slice e)) (hm:aK P e=some m) (hi:rf P e=true) (hz:au P e=some z) (lX:z.cells.size=m.2) {d:TypeDesc} (jM:P.underlying tx=some d) (dO: ∀k,d≠ .int k)
  (zZ: ∀w,Hp w0 L w→AppX P w m.2 x k new) (co:2* (0+k)+768≤2^38):
  (k=0∧(Builtin.append_ #[ts,tx] ty #[vsl b 0 0 0,x]).run P w= .ok (vsl b 0 0 0) w)∨
  (0<k∧ ∃v' w' L',(Builtin.append_ #[ts,tx] ty #[vsl b 0 0 0,x]).run P w= .ok v' w'∧Hp w0 L' w'∧Buf L' e m.2 v' (0+k) ([]++new)∧Grew w0 (.slice none 0 0) L L'∧ ∃c,slB v'=some c∧eP L c):=by
 obtain⟨i,hi,kw,co⟩:=Lw hi co
 have Jv: ∀w,(typeInfo e).run P w= .ok i w:=by
  intro w
  simp only[typeInfo,program,Sem.run_bind]
  show Result.andThen (Result.ok P w) _=_
  simp only[Result.andThen_ok,hi]
  rfl
 have qd: (match d with| .int _=>true|_=>false)=false:=by
  cases d<;>first|rfl|exact absurd rfl (dO _)
 have e1: ∀ {α β:Type} (a:α) (f:α→World→Result β),(Sem.run P (pure a) w).andThen f=f a w:=fun _ _=>rfl
 have hX:=zZ w hw
 have jO:=hX.len
 have K1:=hX.cells
 have vL:=uD (P:=P) hz
 have room: ∀ (b:Nat) (w:World),(askRoom b).run P w= .ok () w:=by
  intro b w
  unfold askRoom
  split<;>rfl
 have zc: ∀j,(Builtin.zeroCells z.cells j).toList.length=j*m.2:=by
  intro j;simp[Builtin.zeroCells,lX]
 have kM: ∀c,c<0+k→ ¬ (Builtin.nextslicecap (0+k) c*i.bytes>2^48):=by
  intro c hc
  have:=Zn_ hc
  have h2:=Nat.mul_le_mul_right i.bytes this
  omega
 by_cases hk:k=0
 ·subst hk
  have ez:new= []:=List.eq_nil_of_length_eq_zero (by have:=hX.size;omega)
  subst ez
  refine .inl ⟨rfl, ?_⟩
  simp only[Builtin.append_,vsl,List.getElem?_toArray,List.getElem?_cons_zero,List.getElem?_cons_succ,Sem.run_bind,run_underlying hu w,Result.andThen_ok,gq hm w,run_underlying jM w,qd,e1,Bool.false_eq_true, ↓reduceIte,jO,Bool.not_false,Nat.add_zero,ap,K1]
  rfl
 have yO: ¬0+k≤0:=by omega
 have qP:=kM 0 oM
 simp only[Builtin.append_,List.getElem?_toArray,List.getElem?_cons_zero,List.getElem?_cons_succ,Sem.run_bind,run_underlying hu w,Result.andThen_ok,gq hm w,run_underlying jM w,qd,e1,Bool.false_eq_true, ↓reduceIte,jO,Bool.not_false,yO,vsl,Jv,kw,or_false,and_false,qP]
 have HA: (choose (Question.appendCap (0+k) 0 e)).run P w= .ok ((0+k)+w.tape w.drawn (.appendCap (0+k) 0 e)% (2^63 - (0+k))) w.drew:=rfl
 rw[HA]
 generalize mG: (0+k)+w.tape w.drawn (.appendCap (0+k) 0 e)% (2^63 - (0+k))=c
 have aP:=hw.drew
 have Gp:=zZ _ aP
 have iA: (Builtin.firstCells m.2 0 (Value.slice (some ⟨b,0,none⟩) 0 0)).run P w.drew= .ok #[] w.drew:=by
  simp only[Builtin.firstCells,Nat.zero_mul];rfl
 simp only[Result.andThen_ok,room,iA,Gp.cells,vL]
 refine .inr ⟨by omega,_,_,L++ [(w.drew.heap.size, .cells ([]++new++ (Builtin.zeroCells z.cells (c - (0+k))).toList).toArray e (0,0))],rfl, ?_, .at_ (b:=w.drew.heap.size) (rest:=(Builtin.zeroCells z.cells (c - (0+k))).toList) ?_ ?_ ?_ oM oM, ?_,⟨_,rfl,iF fun b hb=>aP.lt hb⟩⟩
 ·have ea: ([]++new++ (Builtin.zeroCells z.cells (c - (0+k))).toList).toArray= #[]++new.toArray++Builtin.zeroCells z.cells (c - (0+k)):=by apply Array.ext';simp
  rw[ea]
  exact aP.alloc _
 ·rw[g8 (fun hm=>Nat.lt_irrefl _ (aP.lt hm))]
  simp[look]
 ·rw[List.nil_append,hX.size,Nat.zero_add]
 ·exact zc _
 refine⟨fun c hc=>by rw[ae];exact bl _ hc,fun c hc=> ?_,fun c o aU ho=>bZ ho⟩
 rw[ae] at hc
 rcases List.mem_append.1 hc with hc|hc
 ·exact .inl hc
 right
 simp only[keys,List.map_cons,List.map_nil,List.mem_singleton] at hc
 subst hc
 exact⟨iF fun b hb=>aP.lt hb,aP.size⟩
end
section
variable {P:Program} {w0:World} {f:Fr} {L:aB} {N:Fr→aB→Prop} {ops:Array Oper} {rest:List Oper} {md:Md}
 {d:Option Tmp} {ty:TypeId} {ps:String} {af:Array Edge} {g:Option (Nat×Bool)}
def Ow.appendEm {ts tx e:TypeId} {m:Bool×Nat} {z:Value} {s x:Operand} {b k:Nat} {new:List Value} {dx:TypeDesc} {md':Md} (gk:ev f s=vsl b 0 0 0) (he:md.turn=some md')
  (hs:a_ ops f ⟨d, .call ⟨.builtin .append, #[s,x], #[ts,tx]⟩,ty,ps,af,g⟩=false)
  (hu:P.underlying ts=some (.slice e)) (hm:aK P e=some m) (hi:rf P e=true) (hz:au P e=some z) (lX:z.cells.size=m.2) (jM:P.underlying tx=some dx) (dO: ∀k,dx≠ .int k)
  (hX: ∀w,Hp w0 L w→AppX P w m.2 (ev f x) k new) (co:2* (0+k)+768≤2^38)
  (hn0:k=0→Ow P w0 ops md' rest (aX f d (vsl b 0 0 0)) L N)
  (hn: ∀v' L',0<k→Buf L' e m.2 v' (0+k) ([]++new)→Grew w0 (.slice none 0 0) L L'→(∃c,slB v'=some c∧eP L c)→Ow P w0 ops md' rest (aX f d v') L' N):
  Ow P w0 ops md (⟨d, .call ⟨.builtin .append, #[s,x], #[ts,tx]⟩,ty,ps,af,g⟩::rest) f L N:=by
 refine Ow.step he rfl hs fun w hw=> ?_
 rcases Lv (ty:=ty) (b:=b) hw hu hm hi hz lX jM dO hX co with⟨hk,hr⟩ | ⟨hk,v',w',L',hr,hp,hb,hg,cb⟩
 ·refine .inl ⟨_,w,L, ?_,hw,hn0 hk⟩
  simp only[execOp,resolve,Sem.run_bind,Sem.run_pure,Result.andThen_ok,invoke,builtin,List.map_toArray,List.map_cons,List.map_nil,gk]
  rw[hr]
  rfl
 refine .inl ⟨v',w',L', ?_,hp,hn v' L' hk hb hg cb⟩
 simp only[execOp,resolve,Sem.run_bind,Sem.run_pure,Result.andThen_ok,invoke,builtin,List.map_toArray,List.map_cons,List.map_nil,gk]
 rw[hr]
 rfl
end
end Go.Sx
end
namespace Go.Sx
open Go
section
variable {P:Program} {w0:World} {f:Fr} {L:aB} {N:Fr→aB→Prop} {K:cK} {l:List Oper} {listed:List Bool} {n:Nat} {R ts:List Nat} {a d:Nat} {z:Obj}
def Md.next_sofnil (R ts:List Nat): (Md.sof R [] ts).next= .sof R [] ts:=(rfl)
def N9 {Q:Exit→Act→World→Prop} {o:Oper} {x:Act} {d:Option Tmp} {v:Value} {K:Act→World→Prop} (hd: ∀t,d=some t→o.dst≠some t)
  (hQ: ∀c a w,Q (.panic c) a w→Q (.panic c) (a.put d v) w) (r:Result Next) (h:o.upon P x (fun a' w'=>K (a'.put d v) w') Q r):
  o.upon P (x.put d v) K Q r:=by
 have comm: ∀u,(x.put o.dst u).put d v=(x.put d v).put o.dst u:=fun u=>(Act.put_comm x v u hd).symm
 match r,h with
 | .ok (.value u) _,h=>show K _ _;rw[←comm];exact h
 | .ok .skip _,h=>show K _ _;rw[←comm];exact h
 | .ok (.defer e) w',h=>
  have h':K ((({x with defers:=e::x.defers}:Act).put o.dst undef).put d v) w':=h
  rw[←Act.put_comm _ v undef hd,←Act.put_defers] at h'
  exact h'
 | .ok (.enter f args) _,h=>
  refine Calls.mono h fun e w'' he=> ?_
  match e,he with
  | .returned u,he=>show K _ _;rw[←comm];exact he
  | .panicked c,he=>exact hQ _ _ _ he
  | .outgrown,he=>exact he
 | .ok (.row row args) _,h=>exact Rows.mono h fun u w'' he=>by rw[←comm];exact he
 | .halt (.panic u) _,h=>exact hQ _ _ _ h
def NB {ops:Array Oper} {Q:Exit→Act→World→Prop} {j:Nat} {oj:Oper} {d:Option Tmp} {v:Value} (hj:ops[j]? =some oj) (h1: ∀t,d=some t→t∉oj.looksAt ops) (h2: ∀t,d=some t→oj.dst≠some t) (H': ∀cs b,oj.op≠ .select cs b)
  (hQ: ∀c a w,Q (.panic c) a w→Q (.panic c) (a.put d v) w) {K:Act→World→Prop} {x:Act} {w:World}
  (h:wpOp P ops Q j (fun a' w'=>K (a'.put d v) w') x w):wpOp P ops Q j K (x.put d v) w:=by
 unfold wpOp at h ⊢
 simp only[hj] at h ⊢
 rw[wanted_put oj x d v h1]
 cases hw:Region.wanted oj (yielded ops x.tmps) with
 |true=>
  rw[hw] at h
  simp only[if_true] at h ⊢
  rcases h with h| ⟨uf,hl⟩
  ·left
   unfold Oper.wp at h ⊢
   rw[execOp_put oj H' x d v h1]
   exact N9 h2 hQ _ h
  right
  exact⟨by unfold Oper.asks at*;rwa [execOp_put oj H' x d v h1],hl⟩
 |false=>
  rw[hw] at h
  simp only[Bool.false_eq_true,if_false] at h ⊢
  rw[Act.put_comm x v undef h2]
  exact h
structure Drift (P:Program) (l:List Oper) (ts:List Nat) (a d:Nat) (z:Obj):Prop where
 here: ∃oa t zv,l.toArray[a]? =some oa∧oa.op= .alloc t∧oa.dst=some d∧oa.guard=none∧au P t=some zv∧z= .cells zv.cells t
 ts:a∉ts
 sel:Region.noSelect l.toArray=true
def OwD (P:Program) (w0:World) (l:List Oper) (R ts:List Nat) (a d:Nat) (z:Obj) (n:Nat) (listed:List Bool) (f:Fr) (L:aB) (N:Fr→aB→Prop):Prop:=
 (∀w,Hp w0 L w→lg P l.toArray (eu w0 N) ts (SR w0 R L) (n+1) listed.toArray (act f) w)∧
 (∀b w,w0.heap.size≤b→b∉keys L→Hp w0 (L++ [(b,z)]) w→lg P l.toArray (eu w0 N) ts (SR w0 R L) n (listed.set a true).toArray (act (setF f d (vp b 0))) w)
def SR.ofE {w:World} {b:Nat} (hb:w0.heap.size≤b) (h:Hp w0 (L++ [(b,z)]) w):SR w0 R L w:=by
 intro r _ o ho
 unfold aT at ho
 split at ho
 ·rename_i o' hl
  cases ho
  exact h.has _ _ (bl _ (cu hl))
 rename_i hl
 have aC:=(Array.getElem?_eq_some_iff.1 ho).1
 rw[h.old r aC ?_];exact ho
 intro hm
 simp only[keys,List.map_append,List.map_cons,List.map_nil,List.mem_append,List.mem_singleton] at hm
 rcases hm with hm|hm
 ·exact Ic hl hm
 omega
def Tl {c:List PanicEntry} {x x':Act} {w:World} (h:eu w0 N (.panic c) x w):eu w0 N (.panic c) x' w:=mb h
def Hp.perm {w:World} {M:aB} (h:Hp w0 L w) (hp:M.Perm L):Hp w0 M w:=
 h.same (fun _=>hp.mem_iff) ((List.Perm.nodup_iff (hp.map Prod.fst)).2 h.nodup)
def chkD (P:Program) (l:List Oper) (ts:List Nat) (a:Nat):List Nat→List Bool→Option (List Bool)
 | [],listed=>some listed
 |k::is,listed=>
  match dR l k,dR l a with
  |some o,some oa=>if k !=a&& !ts.contains k&& (ts.all fun t=> !listed.toArray.getD t true&& !(listed.set a true).toArray.getD t true)&& (Region.ready .any l.toArray listed.toArray).contains k&&Region.free .any l.toArray listed.toArray k&&
    (Region.ready .any l.toArray (listed.set a true).toArray).contains k&&Region.free .any l.toArray (listed.set a true).toArray k&&o.apart l.toArray oa&&
    (g7 P o.op|| (iq o.op&&vu l.toArray ts listed.toArray k&&vu l.toArray ts (listed.set a true).toArray k)) then chkD P l ts a is (listed.set k true) else none
  |_,_=>none
def OwD.step {k:Nat} {o:Oper} {v:Value} (hD:Drift P l ts a d z) (hk:dR l k=some o) {rest:List Bool} (hc:chkD P l ts a [k] listed=some rest)
  (hY:YieldsC P l.toArray (SR w0 R L) (g7 P o.op=true) o v (act f)) (h:OwD P w0 l R ts a d z n rest (aX f o.dst v) L N):OwD P w0 l R ts a d z (n+1) listed f L N:=by
 obtain⟨⟨oa,t,zv,ha,mS,i7,hg,hz,rfl⟩,Gs,dJ⟩:=hD
 have jI:l.toArray[k]? =some o:=by rw[oL] at hk;simpa using hk
 have za:dR l a=some oa:=by rw[oL];simpa using ha
 unfold chkD at hc
 rw[hk,za] at hc
 simp only at hc
 split at hc
 ·rename_i mG
  simp only[chkD,Option.some.injEq] at hc
  subst hc
  simp only[Bool.and_eq_true,Bool.or_eq_true,Bool.not_eq_true',List.all_eq_true,List.contains_eq_mem,decide_eq_true_eq,decide_eq_false_iff_not,bne_iff_ne,ne_eq] at mG
  obtain⟨⟨⟨⟨⟨⟨⟨⟨c1,c2⟩,c3⟩,c4⟩,c5⟩,c6⟩,c7⟩,c8⟩,c9⟩:=mG
  obtain⟨q1,q2,q3⟩:=Oper.apart_spec c8
  have iz:=Region.noSelect_spec dJ
  have cH: (listed.set k true).set a true=(listed.set a true).set k true:=List.set_comm _ _ c1
  refine⟨fun w hw=> ?_,fun b w hb kK hw=> ?_⟩
  ·refine u6 jI c2 iz (fun c a w h=>mb h) _ _ _ _ (t_ (P:=P) jI c4 c5 (c9.imp id fun h=>⟨h.1.1,h.1.2,fun t ht=>(c3 t ht).1⟩)) (.inr fun t ht=>(c3 t ht).1) hY ?_
   rw[fi,pO]
   exact h.1 w hw
  have hY2:YieldsC P l.toArray (SR w0 R L) (g7 P o.op=true) o v (act (setF f d (vp b 0))):=by
   refine hY.left (iz k o · · jI) (oj:=oa) q3 ⟨vp b 0,[], ?_⟩
   rw[i7]
   exact(fi f (some d) (vp b 0)).symm
  refine u6 jI c2 iz (fun c a w h=>mb h) _ _ _ _ (t_ (P:=P) jI c6 c7 (c9.imp id fun h=>⟨h.1.1,h.2,fun t ht=>(c3 t ht).2⟩)) (.inr fun t ht=>(c3 t ht).2) hY2 ?_
  have e: (act (setF f d (vp b 0))).put o.dst v=act (setF (aX f o.dst v) d (vp b 0)):=by
   have e1:act (setF f d (vp b 0))=(act f).put (some d) (vp b 0):=(fi f (some d) (vp b 0)).symm
   rw[e1,Act.put_comm (act f) (x:=some d) (y:=o.dst) (vp b 0) v (fun t ht hod=>by cases ht;exact q2 _ hod i7),fi,fi];rfl
  rw[e,pO,←cH]
  exact h.2 b w hb kK hw
 cases hc
def U0 {k:Nat} {is:List Nat} {listed listed':List Bool} (h:chkD P l ts a (k::is) listed=some listed'):chkD P l ts a [k] listed=some (listed.set k true)∧chkD P l ts a is (listed.set k true)=some listed':=by
 rw[chkD] at h
 cases ho:dR l k with
 |none=>rw[ho] at h;cases h
 |some o=>
  cases hoa:dR l a with
  |none=>rw[ho,hoa] at h;cases h
  |some oa=>
   rw[ho,hoa] at h
   simp only at h
   split at h
   ·rename_i mG
    refine⟨?_,h⟩
    rw[chkD,ho,hoa]
    simp only
    rw[if_pos mG];rfl
   cases h
theorem OwD.runs {k:Md→List Oper→Fr→aB→Prop} (hD:Drift P l ts a d z): ∀ (is:List Nat) {listed listed':List Bool} {f:Fr} {L:aB},chkD P l ts a is listed=some listed'→
  (∀md r f' L',k md r f' L'→r= []∧OwD P w0 l R ts a d z n listed' f' L' N)→vcL P w0 l.toArray false (.sof R [] []) (ga l is) f L k→OwD P w0 l R ts a d z (is.length+n) listed f L N
 | [],listed,listed',f,L,hc,hk,h=>by
  cases hc
  rw[List.length_nil,Nat.zero_add]
  exact(hk _ _ _ _ h).2
 |i::is,listed,listed',f,L,hc,hk,h=>by
  obtain⟨dI,dy⟩:=U0 hc
  rw[ay] at h
  cases ho:dR l i with
  |none=>unfold chkD at dI;rw[ho] at dI;cases dI
  |some o=>
   rw[ho,az] at h
   unfold vcL at h
   rw[List.length_cons,show is.length+1+n=(is.length+n)+1 by omega]
   cases hs:a_ l.toArray f o with
   |true=>
    rw[hs] at h
    have eU:Region.wanted o (yielded l.toArray (act f).tmps)=false:=by rw[lH,hs];rfl
    exact OwD.step hD ho dI (v:=undef) (.inr ⟨eU,rfl⟩) (OwD.runs hD is dy hk h)
   |false=>
    rw[hs] at h
    have eU:Region.wanted o (yielded l.toArray (act f).tmps)=true:=by rw[lH,hs];rfl
    simp only[ib,vcB] at h
    split at h
    ·cases cW:rdOk (.sof R [] []) f o.op with
     |false=>rw[cW] at h;exact absurd (hk _ _ _ _ h).1 (by simp)
     |true=>
      rw[cW] at h
      simp only at h
      cases hv:j3 P w0 L f o.op with
      |none=>rw[hv] at h;exact absurd (hk _ _ _ _ h).1 (by simp)
      |some v=>
       rw[hv] at h
       refine OwD.step hD ho dI (v:=v) (.inl ⟨eU,fun w hw=> ?_⟩) (OwD.runs hD is dy hk h)
       rw[rl]
       rcases hw with hp|hw
       ·exact pG (Hp.refl w) (A9 hp hv w)
       exact pG (Hp.refl w) (KO cW hv hw)
    ·exact absurd (hk _ _ _ _ h).1 (by simp)
    exact absurd (hk _ _ _ _ h).1 (by simp)
def OwD.run (is:List Nat) (listed':List Bool) (n:Nat) {m:Nat} (hm:m=is.length+n) (hD:Drift P l ts a d z) (hc:chkD P l ts a is listed=some listed')
  (h: ∀k:Md→List Oper→Fr→aB→Prop,(∀md f L,OwD P w0 l R ts a d z n listed' f L N→k md [] f L)→nl (ga l is) fun l'=>vcL P w0 l.toArray false (.sof R [] []) l' f L k):OwD P w0 l R ts a d z m listed f L N:=by
 subst hm
 refine OwD.runs (k:=fun _ r f' L'=>r= []∧OwD P w0 l R ts a d z n listed' f' L' N) hD is hc (fun _ _ _ _ h=>h) ?_
 exact h _ fun _ _ _ h=>⟨rfl,h⟩
def Bi {t:TypeId} {zv:Value} {oa:Oper} {Q:Exit→Act→World→Prop} {X:Act→World→Prop} {w:World} (ha:l.toArray[a]? =some oa) (mS:oa.op= .alloc t) (i7:oa.dst=some d) (hg:oa.guard=none) (hz:au P t=some zv)
  (h:X (act (setF f d (vp w.heap.size 0))) (w.alloc (.cells zv.cells t))):wpOp P l.toArray Q a X (act f) w:=by
 obtain⟨dst,op,ty,pos,after,guard⟩:=oa
 simp only at mS i7 hg
 subst mS;subst i7;subst hg
 unfold wpOp
 simp only[ha]
 have hw:Region.wanted ⟨some d, .alloc t,ty,pos,after,none⟩ (yielded l.toArray (act f).tmps)=true:=by rw[lH];rfl
 rw[hw]
 simp only[↓reduceIte]
 left
 unfold Oper.wp
 have hr: (execOp (act f).eval ⟨some d, .alloc t,ty,pos,after,none⟩).run P w= .ok (.value (vp w.heap.size 0)) (w.alloc (.cells zv.cells t)):=by
  simp only[execOp,Instr.alloc,Sem.run_bind,uD hz w,Result.andThen_ok]
  rfl
 rw[hr]
 show X ((act f).put (some d) (vp w.heap.size 0)) _
 rw[fi]
 exact h
def zG {L':aB} (hS: ∀b,b∈R→aT w0 L' b=aT w0 L b):SR w0 R L=SR w0 R L':=by
 funext v
 unfold SR
 apply propext
 constructor
 ·intro hh b hb o ho;exact hh b hb o (by rw[←hS b hb];exact ho)
 intro hh b hb o ho;exact hh b hb o (by rw[hS b hb];exact ho)
def sU (l:List Oper) (ts:List Nat) (a:Nat) (ks:List Nat) (listed:List Bool):Bool:=
 ((Region.ready .any l.toArray listed.toArray).all fun i=>i==a||ks.contains i)&& (Region.ready .any l.toArray listed.toArray != [])&& ((Region.ready .any l.toArray (listed.set a true).toArray).all fun i=>ks.contains i)&& (Region.ready .any l.toArray (listed.set a true).toArray != [])&&ks.all fun k=>
  match dR l k,dR l a with
  |some o,some oa=>k !=a&& !ts.contains k&&o.apart l.toArray oa
  |_,_=>false
def OwD.softs (ks:List Nat) (hD:Drift P l ts a d z) (hs:sU l ts a ks listed=true)
  (h: ∀k,k∈ks→ ∀o,dR l k=some o→ ∀E,(E= []∨ ∃b,E= [(b,z)]∧w0.heap.size≤b∧b∉keys L)→Ow P w0 l.toArray .seq [o] f (L++E) (fun f' L''=> ∃L',(L'++E).Perm L''∧(∀r,r∈R→aT w0 L' r=aT w0 L r)∧OwD P w0 l R ts a d z n (listed.set k true) f' L' N)):
  OwD P w0 l R ts a d z (n+1) listed f L N:=by
 obtain⟨⟨oa,t,zv,ha,mS,i7,hg,hz,rfl⟩,Gs,dJ⟩:=hD
 have za:dR l a=some oa:=by rw[oL];simpa using ha
 unfold sU at hs
 simp only[Bool.and_eq_true,List.all_eq_true,Bool.or_eq_true,beq_iff_eq,bne_iff_ne,ne_eq,List.contains_eq_mem,decide_eq_true_eq] at hs
 obtain⟨⟨⟨⟨c3,c4⟩,c5⟩,c5'⟩,c6⟩:=hs
 have iz:=Region.noSelect_spec dJ
 have uw: ∀k,k∈ks→ ∃o,dR l k=some o∧k≠a∧k∉ts∧o.apart l.toArray oa=true:=by
  intro k hk
  have:=c6 k hk
  rw[za] at this
  cases ho:dR l k with
  |none=>rw[ho] at this;cases this
  |some o=>
   rw[ho] at this
   simp only[Bool.and_eq_true,Bool.not_eq_true',bne_iff_ne,ne_eq,decide_eq_false_iff_not] at this
   exact⟨o,rfl,this.1.1,this.1.2,this.2⟩
 have t2: ∀b w,w0.heap.size≤b→b∉keys L→Hp w0 (L++ [(b, .cells zv.cells t)]) w→lg P l.toArray (eu w0 N) ts (SR w0 R L) (n+1) (listed.set a true).toArray (act (setF f d (vp b 0))) w:=by
  intro b w hb kK hw
  refine⟨fun _=>SR.ofE hb hw,(fun h=>absurd h c5'), ?_⟩
  intro k hi
  have zk:=c5 k hi
  obtain⟨o,hk,c1,c2,c7⟩:=uw k zk
  have jI:l.toArray[k]? =some o:=by rw[oL] at hk;simpa using hk
  obtain⟨q1,q2,q3⟩:=Oper.apart_spec c7
  have cH: (listed.set k true).set a true=(listed.set a true).set k true:=List.set_comm _ _ c1
  have e1:act (setF f d (vp b 0))=(act f).put (some d) (vp b 0):=(fi f (some d) (vp b 0)).symm
  rw[e1]
  refine NB jI (fun t ht=>by cases ht;exact q3 d i7) (fun t ht=>by cases ht;exact fun hod=>q2 d hod i7) (iz _ o · · jI) (fun c a w h=>Tl h) ?_
  refine vf jI (X:=fun a' w'=>lg P l.toArray (eu w0 N) ts (SR w0 R L) n ((listed.set a true).toArray.setIfInBounds k true) (a'.put (some d) (vp b 0)) w') ?_ hw
  intro w' aA
  refine K7 ?_ (h k zk o hk [(b, .cells zv.cells t)] (.inr ⟨b,rfl,hb,kK⟩) w' aA)
  rintro f' L'' ⟨L',vA,hR,hO⟩ w'' mV
  have lB:=mV.perm vA
  rw[fi,pO,←cH,zG hR]
  refine hO.2 b w'' hb (fun hm=> ?_) lB
  have ao:=lB.nodup
  rw[ae,List.nodup_append] at ao
  exact ao.2.2 b hm b (by simp[keys]) rfl
 refine⟨fun w hw=>⟨fun _=>SR.of hw,fun h=>absurd h c4,fun k hi=> ?_⟩,t2⟩
 rcases c3 k hi with rfl|zk
 ·refine Bi ha mS i7 hg hz ?_
  rw[pO]
  refine t2 _ _ hw.size (fun hm=>Nat.lt_irrefl _ (hw.lt hm)) (hw.alloc _)
 obtain⟨o,hk,c1,c2,c7⟩:=uw k zk
 have jI:l.toArray[k]? =some o:=by rw[oL] at hk;simpa using hk
 refine vf jI (X:=lg P l.toArray (eu w0 N) ts (SR w0 R L) (n+1) (listed.toArray.setIfInBounds k true)) ?_ hw
 intro w' aA
 have h1:=h k zk o hk [] (.inl rfl)
 rw[List.append_nil] at h1
 refine K7 ?_ (h1 w' aA)
 rintro f' L'' ⟨L',vA,hR,hO⟩ w'' mV
 rw[List.append_nil] at vA
 rw[pO,zG hR]
 exact hO.1 w'' (mV.perm vA)
def OwD.soft (k:Nat) (o:Oper) (hD:Drift P l ts a d z) (hk:dR l k=some o) (hs:sU l ts a [k] listed=true)
  (h: ∀E,(E= []∨ ∃b,E= [(b,z)]∧w0.heap.size≤b∧b∉keys L)→Ow P w0 l.toArray .seq [o] f (L++E) (fun f' L''=> ∃L',(L'++E).Perm L''∧(∀r,r∈R→aT w0 L' r=aT w0 L r)∧OwD P w0 l R ts a d z n (listed.set k true) f' L' N)):
  OwD P w0 l R ts a d z (n+1) listed f L N:=OwD.softs [k] hD hs fun k' cQ o' yG=>by
 rw[List.mem_singleton] at cQ
 subst cQ
 rw[hk] at yG
 cases yG
 exact h
def OwD.two (k k2:Nat) (o o2:Oper) (hD:Drift P l ts a d z) (hk:dR l k=some o) (fw:dR l k2=some o2) (hs:sU l ts a [k,k2] listed=true)
  (h: ∀E,(E= []∨ ∃b,E= [(b,z)]∧w0.heap.size≤b∧b∉keys L)→Ow P w0 l.toArray .seq [o] f (L++E) (fun f' L''=> ∃L',(L'++E).Perm L''∧(∀r,r∈R→aT w0 L' r=aT w0 L r)∧OwD P w0 l R ts a d z n (listed.set k true) f' L' N))
  (h2: ∀E,(E= []∨ ∃b,E= [(b,z)]∧w0.heap.size≤b∧b∉keys L)→Ow P w0 l.toArray .seq [o2] f (L++E) (fun f' L''=> ∃L',(L'++E).Perm L''∧(∀r,r∈R→aT w0 L' r=aT w0 L r)∧OwD P w0 l R ts a d z n (listed.set k2 true) f' L' N)):
  OwD P w0 l R ts a d z (n+1) listed f L N:=OwD.softs [k,k2] hD hs fun k' cQ o' yG=>by
 simp only[List.mem_cons,List.not_mem_nil,or_false] at cQ
 rcases cQ with rfl|rfl
 ·rw[hk] at yG;cases yG;exact h
 rw[fw] at yG;cases yG;exact h2
def OwD.real (is:List Nat) {m:Nat} (hm:m=is.length) (hD:Drift P l ts a d z) (hr:Region.ready .any l.toArray listed.toArray= [a]) (hB:uI P l.toArray ts is (listed.set a true).toArray=true) (lW: (ts.all fun t=> !(listed.set a true).toArray.getD t true)=true)
  (hl:is.map (fun i:Nat=>l[i]?)=(ga l is).map some) (hR: ∀r,r∈R→r∈keys L∨r<w0.heap.size)
  (h:nl (ga l is) fun l'=> ∀b,w0.heap.size≤b→b∉keys L→Ow P w0 l.toArray (.sof R is ts) l' (setF f d (vp b 0)) (L++ [(b,z)]) N):OwD P w0 l R ts a d z m listed f L N:=by
 subst hm
 obtain⟨⟨oa,t,zv,ha,mS,i7,hg,hz,rfl⟩,Gs,dJ⟩:=hD
 simp only[List.all_eq_true,Bool.not_eq_true'] at lW
 revert hl h
 generalize ga l is=l'
 intro hl h
 have aS:is.length=l'.length:=by have:=congrArg List.length hl;simpa using this
 have hF:Fits P l.toArray ts is l' (listed.set a true).toArray:=⟨aS,fun j=>by
  have:=congrArg (·[j]?) hl
  simp only[List.getElem?_map] at this
  cases hj:is[j]? with
  |none=>
   rw[hj] at this
   simp only[Option.map_none] at this
   cases gD:l'[j]? with
   |none=>rfl
   |some x=>rw[gD] at this;cases this
  |some i=>
   rw[hj] at this
   simp only[Option.map_some] at this
   cases gD:l'[j]? with
   |none=>rw[gD] at this;cases this
   |some x=>
    rw[gD] at this
    simp only[Option.map_some,Option.some.injEq] at this
    simp[this],dJ,hB⟩
 have hRb: ∀b,w0.heap.size≤b→b∉keys L→ ∀r,r∈R→aT w0 (L++ [(b,Obj.cells zv.cells t)]) r=aT w0 L r:=by
  intro b hb kK r hr
  unfold aT
  cases bz:look L r with
  |some o=>rw[bZ bz]
  |none=>
   have vC:r∉keys L:=Ic bz
   have aU:b≠r:=by
    rcases hR r hr with h|h
    ·exact absurd h vC
    omega
   rw[g8 vC]
   unfold look
   rw[if_neg aU];rfl
 have t2: ∀b w,w0.heap.size≤b→b∉keys L→Hp w0 (L++ [(b, .cells zv.cells t)]) w→lg P l.toArray (eu w0 N) ts (SR w0 R L) is.length (listed.set a true).toArray (act (setF f d (vp b 0))) w:=by
  intro b w hb kK hw
  rw[aS,zG (hRb b hb kK)]
  exact h b hb kK _ hF (fun t ht=>lW t ht) w hw
 refine⟨fun w hw=>⟨fun _=>SR.of hw,(fun h=>by rw[hr] at h;cases h),fun i hi=> ?_⟩,t2⟩
 rw[hr,List.mem_singleton] at hi
 subst hi
 refine Bi ha mS i7 hg hz ?_
 rw[pO]
 exact t2 _ _ hw.size (fun hm=>Nat.lt_irrefl _ (hw.lt hm)) (hw.alloc _)
def Cw.regionD {id:Nat} (R ts:List Nat) (a d t m:Nat) (zv:Value) (hl:l.length=m+1) (hm:P.follows .mixedOrders=true) (mS: ((dR l a).map fun o=>(o.op,o.dst,o.guard))=some (.alloc t,some d,none)) (lW:ts.contains a=false) (dJ:Region.noSelect l.toArray=true) (hz:au P t=some zv)
  (h:Drift P l ts a d (.cells zv.cells t)→OwD P w0 l R ts a d (.cells zv.cells t) m (List.replicate (m+1) false) f L (K .normal)):Cw P w0 (.region id l.toArray true) f L K:=by
 intro w hw
 refine wp_mono (wp_region_any hm ?_) fun _ _ _ h=>ye h
 have hD:Drift P l ts a d (.cells zv.cells t):=by
  cases hn:dR l a with
  |none=>rw[hn] at mS;cases mS
  |some oa=>
   rw[hn] at mS
   simp only[Option.map_some,Option.some.injEq,Prod.mk.injEq] at mS
   exact⟨⟨oa,t,zv,by rw[oL] at hn;simpa using hn,mS.1,mS.2.1,mS.2.2,hz,rfl⟩,by simpa using lW,dJ⟩
 have h1:=(h hD).1 w.drew hw.drew
 have:=IG _ _ _ _ h1
 simpa [hl] using this
end
end Go.Sx
namespace Go.Sx
open Go
def Gr (L:aB) (E:TypeId) (m:Nat) (v:Value) (n:Nat) (cs:List Value):Prop:=
 Buf L E m v n cs∨(n=0∧cs= []∧ ∃b,v=vsl b 0 0 0∧look L b=some (.cells #[] E (0,0)))
theorem Gr.nl {L:aB} {E:TypeId} {m:Nat}:Gr L E m (.slice none 0 0) 0 []:= .inl .nl
def Grew.any {w0:World} {v v':Value} {L L':aB} (h:Grew w0 v L L') (hv:slB v=none):Grew w0 v' L L':=
 ⟨h.keys,h.new,fun c o _ hl=>h.look c o (by rw[hv];simp) hl⟩
theorem Gr.keep {L L':aB} {E:TypeId} {m n:Nat} {v:Value} {cs:List Value} (h:Gr L E m v n cs) (hk: ∀b o,slB v=some b→look L b=some o→look L' b=some o):Gr L' E m v n cs:=by
 rcases h with h| ⟨h1,h2,b,rfl,h3⟩
 ·exact .inl (h.keep hk)
 exact .inr ⟨h1,h2,b,rfl,hk b _ rfl h3⟩
def Gr.app {L M:aB} {E:TypeId} {m n:Nat} {v:Value} {cs:List Value} (h:Gr L E m v n cs):Gr (L++M) E m v n cs:=h.keep fun _ _ _ hl=>bZ hl
theorem Gr.len {L:aB} {E:TypeId} {m n:Nat} {v:Value} {cs:List Value} (h:Gr L E m v n cs) (x:Bool×Nat):eb (.sl x) v=some (vi n):=by
 rcases h with h| ⟨rfl,rfl,b,rfl,-⟩
 ·exact h.len x
 rfl
theorem Gr.cell {L:aB} {E:TypeId} {m n:Nat} {v:Value} {cs:List Value} (h:Gr L E m v n cs):Value.oneCell' v=true∧v.cells= #[v]:=by
 rcases h with h| ⟨rfl,rfl,b,rfl,-⟩
 ·exact h.cell
 exact⟨rfl,rfl⟩
def Gr.key {L:aB} {E:TypeId} {m n:Nat} {v:Value} {cs:List Value} (h:Gr L E m v n cs) {b:Nat} (hb:slB v=some b):b∈keys L:=by
 rcases h with h| ⟨rfl,rfl,c,rfl,hl⟩
 ·rcases h.inv with⟨rfl,-,-⟩ | ⟨c,cc,rest,rfl,hl,-⟩
  ·cases hb
  cases hb;exact cC hl
 cases hb;exact cC hl
section
variable {α:Type} {m:Nat} {enc:α→List Value} {z:α} {w:World} {v:Value} {l:List α}
theorem Gr.slM {L:aB} {E:TypeId} {n:Nat} {cs:List Value} (h:Gr L E m v n cs) (hw: ∀b o,(b,o)∈L→w.heap[b]? =some o) (hl:l.length=n) (df:cs=(l.map enc).flatten) (hm: ∀x,(enc x).length=m):SlV m enc z w v l:=by
 rcases h with h| ⟨rfl,rfl,b,rfl,bz⟩
 ·exact h.slM hw hl df hm
 obtain rfl:l= []:=List.eq_nil_of_length_eq_zero hl
 exact SlV.sl (l:=([]:List α)) (off:=0) (c:=0) (hw _ _ (cu bz)) (fun k hk=>by simp at hk) (ap 0) (by simp)
def Gr.slV {L:aB} {E:TypeId} {n:Nat} {cs:List Value} {w0:World} (h:Gr L E m v n cs) (hw:Hp w0 L w) (hl:l.length=n) (df:cs=(l.map enc).flatten) (hm: ∀x,(enc x).length=m):SlV m enc z w v l:=h.slM hw.has hl df hm
theorem Kg_ (hm: ∀x,(enc x).length=m) (arr:Array Value): ∀ (ls:List α) (off:Nat),off+ls.length*m≤arr.size→(∀k j,k<ls.length→j<m→arr[off+k*m+j]? =(enc (ls.getD k z))[j]?)→
  (arr.extract off (off+ls.length*m)).toList=(ls.map enc).flatten
 | [],off,_,_=>by simp
 |r::ls,off,hs,h=>by
  have mO: (r::ls).length*m=m+ls.length*m:=by rw[List.length_cons,Nat.add_mul,Nat.one_mul,Nat.add_comm]
  rw[mO] at hs ⊢
  have ih:=Kg_ hm arr ls (off+m) oM (fun k j hk hj=>by
   have:=h (k+1) j (by simpa using hk) hj
   rw[List.getD_cons_succ] at this
   rw[←this];congr 1;rw[Nat.add_mul,Nat.one_mul];omega)
  have h0: (arr.extract off (off+m)).toList=enc r:=by
   apply List.ext_getElem?
   intro j
   rw[Array.getElem?_toList,Array.getElem?_extract]
   by_cases hj:j<m
   ·rw[if_pos oM]
    have:=h 0 j (by simp) hj
    simpa using this
   rw[if_neg oM,List.getElem?_eq_none (by rw[hm];omega)]
  rw[List.map_cons,List.flatten_cons,←ih,←h0,←Array.toList_append]
  congr 1
  rw[Array.extract_append_extract]
  congr 1<;>omega
def wI (hm: ∀x,(enc x).length=m) (l:List α): (l.map enc).flatten.length=l.length*m:=by
 induction l with
 |nil=>simp
 |cons x r ih=>rw[List.map_cons,List.flatten_cons,List.length_append,ih,hm,List.length_cons,Nat.add_mul,Nat.one_mul,Nat.add_comm]
def AppX.one1 {P:Program} {b:Nat} {E:TypeId} {fz:Nat×Nat} {cs:List Value} (hb:w.heap[b]? =some (.cells cs.toArray E fz)) (hm:cs.length=m) (h1:cs.all Value.oneCell'=true):AppX P w m (vsl b 0 1 1) 1 cs:=by
 refine AppX.block (w0:=w) (L:= []) (by rw[JL];exact hb) (by simp;omega) ?_ h1 (Hp.refl w)
 rw[List.extract_toArray,List.extract_eq_take_drop,List.drop_zero,List.take_of_length_le oM]
def SlV.appX {P:Program} (h:SlV m enc z w v l) (hm: ∀x,(enc x).length=m) (h1: ∀x,(enc x).all Value.oneCell'=true):AppX P w m v l.length (l.map enc).flatten:=by
 obtain⟨b,off,c,arr,E,fz,hr,hc,hv⟩:=h
 rcases hv with⟨rfl,rfl,rfl⟩ | ⟨rfl,ft,e_⟩
 ·exact AppX.nil P w m
 refine AppX.block (w0:=w) (L:= []) (by rw[JL];exact ft) e_ (Kg_ (z:=z) hm arr l off e_ (fun k j hk hj=>hr.get k hk j hj)) ?_ (Hp.refl w)
 rw[List.all_flatten,List.all_map,List.all_eq_true]
 exact fun r _=>h1 r
end
section
variable {P:Program} {w0:World} {f:Fr} {L:aB} {N:Fr→aB→Prop} {ops:Array Oper} {rest:List Oper} {md:Md}
 {d:Option Tmp} {ty:TypeId} {ps:String} {af:Array Edge} {g:Option (Nat×Bool)}
def Ow.appendG {ts tx e:TypeId} {m:Bool×Nat} {z:Value} {s x:Operand} {n k:Nat} {cs new:List Value} {dx:TypeDesc} {md':Md} (sv:Value) (gk:ev f s=sv) (he:md.turn=some md')
  (hs:a_ ops f ⟨d, .call ⟨.builtin .append, #[s,x], #[ts,tx]⟩,ty,ps,af,g⟩=false)
  (hu:P.underlying ts=some (.slice e)) (hm:aK P e=some m) (hi:rf P e=true) (hz:au P e=some z) (lX:z.cells.size=m.2) (jM:P.underlying tx=some dx) (dO: ∀k,dx≠ .int k)
  (hB:Gr L e m.2 sv n cs) (hX: ∀w,Hp w0 L w→AppX P w m.2 (ev f x) k new) (aS:new.length=k*m.2) (co:2* (n+k)+768≤2^38)
  (hn: ∀v' L',Gr L' e m.2 v' (n+k) (cs++new)→(0<k→Buf L' e m.2 v' (n+k) (cs++new))→Grew w0 sv L L'→(slB v'=slB sv∨ ∃c,slB v'=some c∧eP L c)→Ow P w0 ops md' rest (aX f d v') L' N):
  Ow P w0 ops md (⟨d, .call ⟨.builtin .append, #[s,x], #[ts,tx]⟩,ty,ps,af,g⟩::rest) f L N:=by
 rcases hB with hB| ⟨rfl,rfl,b,rfl,bz⟩
 ·exact Ow.append sv gk he hs hu hm hi hz lX jM dO hB hX co fun v' L' h1 h2 h3=>hn v' L' (.inl h1) (fun _=>h1) h2 h3
 refine Ow.appendEm gk he hs hu hm hi hz lX jM dO hX co (fun h0=> ?_) (fun v' L' hk h1 h2 h3=> ?_)
 ·subst h0
  obtain rfl:new= []:=List.eq_nil_of_length_eq_zero (by rw[aS,Nat.zero_mul])
  exact hn _ L (.inr ⟨rfl,rfl,b,rfl,bz⟩) (fun h=>absurd h (Nat.lt_irrefl 0)) (Grew.refl _ _ _) (.inl rfl)
 exact hn v' L' (.inl h1) (fun _=>h1) (h2.any rfl) (.inr h3)
end
end Go.Sx
namespace Go.Sx
open Go
def u0 {A D E:aB}: (A++D++E).Perm (A++E++D):=by
 rw[List.append_assoc,List.append_assoc]
 exact List.Perm.append_left A List.perm_append_comm
def yr {w0:World} {L M:aB} {r:Nat} (h:r∈keys L):aT w0 (L++M) r=aT w0 L r:=by
 obtain⟨o,ho⟩:=Iq h
 rw[ac ho,ac (bZ ho)]
def ma {w0:World} {L M:aB} {R:List Nat} (h: ∀r,r∈R→r∈keys L): ∀r,r∈R→aT w0 (L++M) r=aT w0 L r:=fun r hr=>yr (h r hr)
theorem New.of_le {n:Nat}: ∀ {D:aB},(∀c,c∈keys D→n≤c)→New n D
 | [],_=>trivial
 | (b,o)::r,h=>⟨h b (by simp[keys]),New.of_le fun c hc=>h c (by simp only[keys,List.map_cons,List.mem_cons] at hc ⊢;exact .inr hc)⟩
def JB {w0:World} {L M:aB} {r:Nat} (h:r∉keys M):aT w0 (M++L) r=aT w0 L r:=by
 unfold aT;rw[g8 h]
def Rets.quiet {P:Program} {k:FuncId} {args:Array Value} {w:World} {S:Value→Prop} (h:Rets P k args w (XS w [] (fun v _=>S v))):Rets P k args w (fun v D=>S v∧D= []):=
 Calls.mono h fun e w' ⟨v,D,he,hp,hx,hs⟩=>⟨v,[],he,hp.garbage (New.of_le fun c hc=>(hx.new c hc).resolve_left (by intro h;cases h)),hs,rfl⟩
def Ext.new0 {w:World} {D:aB} (h:Ext w [] D):New w.heap.size D:=by
 have hn:=h.new
 have key: ∀ (D:aB),(∀c,c∈Sx.keys D→w.heap.size≤c)→New w.heap.size D:=by
  intro D
  induction D with
  |nil=>intro _;trivial
  |cons p r ih=>
   obtain⟨b,o⟩:=p
   intro hh
   exact⟨hh b (by simp[Sx.keys]),ih fun c hc=>hh c (by simp only[Sx.keys,List.map_cons,List.mem_cons] at hc ⊢;exact .inr hc)⟩
 refine key D fun c hc=> ?_
 rcases hn c hc with h1|h1
 ·cases h1
 exact h1
def Ext.of_new {w:World} {D:aB} (h:New w.heap.size D):Ext w [] D:=⟨fun c hc=> .inr (h.le c hc),fun c hc=>by cases hc⟩
section
variable {P:Program} {w0:World} {f:Fr} {L:aB} {N:Fr→aB→Prop} {K:cK} {ops:Array Oper} {rest:List Oper} {md:Md}
 {d:Option Tmp} {ty:TypeId} {ps:String} {af:Array Edge} {g:Option (Nat×Bool)}
theorem vY {b:Nat} {o:Obj}: ∀ {B:aB},(keys B).Nodup→(b,o)∈B→look B b=some o
 | [],_,h=>by cases h
 | (c,x)::q,hn,h=>by
  simp only[keys,List.map_cons,List.nodup_cons] at hn
  unfold look
  rcases List.mem_cons.1 h with h|h
  ·cases h;rw[if_pos rfl]
  have:c≠b:=fun e=>hn.1 (e▸List.mem_map.2 ⟨_,h,rfl⟩)
  rw[if_neg this]
  exact vY hn.2 h
def SR.perm {R:List Nat} {M:aB} (h:M.Perm L) (hn: (keys L).Nodup):SR w0 R M=SR w0 R L:=by
 refine zG fun r _=> ?_
 have hk: ∀ (A B:aB),A.Perm B→(keys B).Nodup→ ∀o,look A r=some o→look B r=some o:=fun A B hp hB o ho=>vY hB (hp.mem_iff.1 (cu ho))
 have hnM: (keys M).Nodup:=(List.Perm.nodup_iff (h.map Prod.fst)).2 hn
 unfold aT
 cases hl:look L r with
 |some o=>rw[hk L M h.symm hnM o hl]
 |none=>
  cases hm:look M r with
  |none=>rfl
  |some o=>rw[hk M L h hn o hm] at hl;cases hl
def OwD.permL {l:List Oper} {listed:List Bool} {n:Nat} {R ts:List Nat} {a d:Nat} {z:Obj} {M:aB} (hp:M.Perm L) (h:OwD P w0 l R ts a d z n listed f M N):OwD P w0 l R ts a d z n listed f L N:=by
 refine⟨fun w hw=> ?_,fun b w hb kK hw=> ?_⟩
 ·have:=h.1 w (hw.perm hp)
  rw[SR.perm hp hw.nodup] at this
  exact this
 have ao: (keys L).Nodup:=by
  have:=hw.nodup
  rw[ae,List.nodup_append] at this
  exact this.1
 have:=h.2 b w hb (fun hm=>kK (by have:=(hp.map Prod.fst).mem_iff.1 hm;exact this)) (hw.perm (hp.append_right _))
 rw[SR.perm hp ao] at this
 exact this
def Cw.permL {c:Code} {M:aB} (hp:M.Perm L) (h:Cw P w0 c f M K):Cw P w0 c f L K:=fun w hw=>h w (hw.perm hp)
def Ow.permL {M:aB} {l:List Oper} (hp:M.Perm L) (h:Ow P w0 ops .seq l f M N):Ow P w0 ops .seq l f L N:=fun w hw=>h w (hw.perm hp)
def Ow.callC {l:List Operand} {ts:Array TypeId} {k:FuncId} {S:Value→aB→Prop} {md':Md} (he:md.turn=some md')
  (hs:a_ ops f ⟨d, .call ⟨.value (.func k),l.toArray,ts⟩,ty,ps,af,g⟩=false)
  (hk: ∀a w,(callFunc k a).run P w= .ok (.enter k a) w)
  (hc: ∀w,Hp w0 L w→Rets P k (l.map (ev f)).toArray w (XS w [] S))
  (hn: ∀B v D,eP L B→w0.heap.size≤B→New B D→S v D→Ow P w0 ops md' rest (aX f d v) (L++D) N):
  Ow P w0 ops md (⟨d, .call ⟨.value (.func k),l.toArray,ts⟩,ty,ps,af,g⟩::rest) f L N:=
 Ow.callN he hs hk (S:=fun B v D=>New B D∧S v D) (fun w hw=>(hc w hw).mono fun _v _D h=>⟨h.1.new0,h.2⟩) (fun _ _ _ h=>h.1) (fun B v D hA hB hS=>hn B v D hA hB hS.1 hS.2)
def Hp.part {w:World} {X Y:aB} (h:Hp w0 (X++Y) w):Hp w X w:=
 ⟨fun b o hm=>h.has b o (bl _ hm),by have:=h.nodup;rw[ae,List.nodup_append] at this;exact this.1,fun _ _ _=>rfl,ap _,rfl,rfl,rfl⟩
def Hp.join {w w':World} {X Y D:aB} (h:Hp w0 (X++Y) w) (k:Hp w D w') (h1: ∀c,c∈keys X→c∈keys D) (h2: ∀c,c∈keys D→c∈keys X∨w.heap.size≤c):Hp w0 (D++Y) w':=by
 have ao:=h.nodup
 rw[ae,List.nodup_append] at ao
 have hY: ∀c,c∈keys Y→c∉keys D:=by
  intro c hc hd
  rcases h2 c hd with hx|hx
  ·exact ao.2.2 c hx c hc rfl
  have:=h.lt (b:=c) (by rw[ae];exact db _ hc)
  omega
 have ht:=h.trans k
 have e: (X++Y).filter (fun p=> !(keys D).contains p.1)=Y:=by
  rw[List.filter_append,IN hY]
  have:X.filter (fun p=> !(keys D).contains p.1)= []:=by
   rw[List.filter_eq_nil_iff]
   intro p hp
   have:=h1 p.1 (List.mem_map.2 ⟨p,hp,rfl⟩)
   simp[this]
  rw[this,List.nil_append]
 rw[e] at ht
 exact ht.perm List.perm_append_comm
def Ow.appendX {ts tx e:TypeId} {m:Bool×Nat} {z:Value} {s x:Operand} {n k:Nat} {cs new:List Value} {dx:TypeDesc} {md':Md} {X Y:aB} (sv:Value) (hL:L=X++Y) (gk:ev f s=sv) (he:md.turn=some md')
  (hs:a_ ops f ⟨d, .call ⟨.builtin .append, #[s,x], #[ts,tx]⟩,ty,ps,af,g⟩=false)
  (hu:P.underlying ts=some (.slice e)) (hm:aK P e=some m) (hi:rf P e=true) (hz:au P e=some z) (lX:z.cells.size=m.2) (jM:P.underlying tx=some dx) (dO: ∀k,dx≠ .int k)
  (hB:Gr X e m.2 sv n cs) (hX: ∀w,Hp w0 L w→AppX P w m.2 (ev f x) k new) (hk:0<k) (co:2* (n+k)+768≤2^38)
  (hn: ∀B v' D,eP L B→w0.heap.size≤B→Buf D e m.2 v' (n+k) (cs++new)→(∀c,c∈keys X→c∈keys D)→(∀c,c∈keys D→c∈keys X∨B≤c)→(∀c o,slB sv≠some c→look X c=some o→look D c=some o)→Ow P w0 ops md' rest (aX f d v') (D++Y) N):
  Ow P w0 ops md (⟨d, .call ⟨.builtin .append, #[s,x], #[ts,tx]⟩,ty,ps,af,g⟩::rest) f L N:=by
 subst hL
 refine Ow.step he rfl hs fun w hw=> ?_
 have hp:=hw.part
 have hA:eP (X++Y) w.heap.size:=iF fun b hb=>hw.lt hb
 have fin: ∀v' w' D,(Builtin.append_ #[ts,tx] ty #[sv,ev f x]).run P w= .ok v' w'→Hp w D w'→Buf D e m.2 v' (n+k) (cs++new)→(∀c,c∈keys X→c∈keys D)→(∀c,c∈keys D→c∈keys X∨w.heap.size≤c)→(∀c o,slB sv≠some c→look X c=some o→look D c=some o)→
   (∃v w' L',(execOp (ev f) ⟨d, .call ⟨.builtin .append, #[s,x], #[ts,tx]⟩,ty,ps,af,g⟩).run P w= .ok (.value v) w'∧Hp w0 L' w'∧Ow P w0 ops md' rest (aX f d v) L' N):=by
  intro v' w' D hr hD hb h1 h2 h3
  refine⟨v',w',D++Y, ?_,hw.join hD h1 h2,hn w.heap.size v' D hA hw.size hb h1 h2 h3⟩
  simp only[execOp,resolve,Sem.run_bind,Sem.run_pure,Result.andThen_ok,invoke,builtin,List.map_toArray,List.map_cons,List.map_nil,gk]
  rw[hr]
  rfl
 have aj: ∀w',Hp w [] w'→True:=fun _ _=>trivial
 rcases hB with hB| ⟨rfl,rfl,b,rfl,bz⟩
 ·obtain⟨v',w',D,hr,hD,hb,hg,-⟩:=LS (w0:=w) (L:=X) (ty:=ty) (x:=ev f x) hp hu hm hi hz lX jM dO hB (fun w2 bR=>hX w2 (by
   refine hw.join bR (fun c hc=>hc) (fun c hc=> .inl hc))) co
  exact .inl (fin v' w' D hr hD hb hg.keys (fun c hc=>(hg.new c hc).imp id And.right) hg.look)
 rcases Lv (w0:=w) (L:=X) (ty:=ty) (b:=b) (x:=ev f x) hp hu hm hi hz lX jM dO (fun w2 bR=>hX w2 (by
  refine hw.join bR (fun c hc=>hc) (fun c hc=> .inl hc))) co with⟨h0,-⟩ | ⟨-,v',w',D,hr,hD,hb,hg,-⟩
 ·omega
 exact .inl (fin v' w' D hr hD hb hg.keys (fun c hc=>(hg.new c hc).imp id And.right) (fun c o _ hl=>hg.look c o (by simp[slB]) hl))
end
def GrI (D:aB) (E:TypeId) (m:Nat) (v:Value) (n:Nat) (cs:List Value):Prop:= ∃X,(∀p,p∈X→p∈D)∧Gr X E m v n cs
def Gr.i {X D:aB} {E:TypeId} {m n:Nat} {v:Value} {cs:List Value} (h:Gr X E m v n cs) (hX: ∀p,p∈X→p∈D):GrI D E m v n cs:=⟨X,hX,h⟩
def GrI.mono {D D':aB} {E:TypeId} {m n:Nat} {v:Value} {cs:List Value} (h:GrI D E m v n cs) (hX: ∀p,p∈D→p∈D'):GrI D' E m v n cs:=by
 obtain⟨X,h1,h2⟩:=h;exact⟨X,fun p hp=>hX p (h1 p hp),h2⟩
def GrI.slV {α:Type} {m:Nat} {enc:α→List Value} {z:α} {w0 w:World} {v:Value} {l:List α} {D:aB} {E:TypeId} {n:Nat} {cs:List Value} (h:GrI D E m v n cs) (hw:Hp w0 D w) (hl:l.length=n) (df:cs=(l.map enc).flatten) (hm: ∀x,(enc x).length=m):SlV m enc z w v l:=by
 obtain⟨X,h1,h2⟩:=h
 exact h2.slM (fun b o hm=>hw.has b o (h1 _ hm)) hl df hm
section
variable {P:Program} {w0:World} {f:Fr} {L:aB} {N:Fr→aB→Prop}
def OwD.via {l:List Oper} {listed:List Bool} {n:Nat} {R ts:List Nat} {a d:Nat} {z:Obj} {G:Type} (F:G→Fr) (H:G→aB) (J:G→Prop) (n':Nat) (listed':List Bool)
  (start: (∀g f' L',J g→f'=F g→(H g).Perm L'→OwD P w0 l R ts a d z n' listed' f' L' N)→OwD P w0 l R ts a d z n listed f L N) (fin: ∀g,J g→OwD P w0 l R ts a d z n' listed' (F g) (H g) N):OwD P w0 l R ts a d z n listed f L N:=
 start fun g f' L' hJ hf hp=>by subst hf;exact(fin g hJ).permL hp
def KZ {L _M:aB} {b:Nat} {o:Obj} (h:b∉keys L):look (L++ [(b,o)]) b=some o:=by
 rw[g8 h];exact fN _ _ _
theorem LW {b:Nat} {o x:Obj}: ∀ {L:aB},b∉keys L→setB (L++ [(b,o)]) b x=L++ [(b,x)]
 | [],_=>by rw[List.nil_append,n5];rfl
 | (c,y)::r,h=>by
  simp only[keys,List.map_cons,List.mem_cons,not_or] at h
  rw[List.cons_append,vV _ _ _ _ _ (Ne.symm h.1),LW (by simpa [keys] using h.2)];rfl
end
end Go.Sx
namespace Go.Sx
open Go
def rk {P:Program} {t e:TypeId} {m:Nat} {zc:Array Value} {cs:List Value} (hu:P.underlying t=some (.slice e)) (ha:aK P e=some (true,m)) (hz:au P e=some (.agg zc)) (hm:0<m∧m≤16777216) (hc:cs.length=m):
  rF P t 1 [(0, .agg cs.toArray)]=some (e,cs.toArray):=by
 have h2:Value.cells (.agg cs.toArray)=cs.toArray:=ag _
 have hg: ¬ (1*m>2^24):=by simp;omega
 have h0: ¬ (1*m=0):=by omega
 simp only[rF,hu,ha,hz,Option.map_some]
 rw[if_neg hg,if_neg h0]
 simp only
 generalize hI: (Array.range (1*m)).map (fun x=>(Value.cells (.agg zc))[x% (Value.cells (.agg zc)).size]!)=I
 have hIs:I.size=m:=by rw[←hI];simp
 have dg:Instr.fill (fun i=>some (i*m,m)) I [(0,Value.agg cs.toArray)]=some cs.toArray:=by
  unfold Instr.fill
  have s3:cs.toArray.size=m:=by simp[hc]
  simp only[h2,s3,hIs,Nat.zero_mul,ne_eq,not_true_eq_false,decide_false,Bool.false_or,Nat.zero_add,Nat.lt_irrefl,gt_iff_lt,Bool.false_eq_true, ↓reduceIte]
  unfold Instr.fill
  congr 1
  have hz:=JF cs 0 0 I
  rw[Nat.add_zero,EV I cs (by rw[hc,hIs])] at hz
  simp only[Nat.zero_add] at hz
  rw[←Array.foldl_toList,Array.toList_zipIdx]
  exact hz
 rw[dg]
 rfl
end Go.Sx
namespace Go.Sx
open Go
abbrev ltB (a b:List UInt8):Bool:=Op.bytesLess a b
theorem nS: ∀ (x y:List UInt8),ltB x y=decide (x<y)
 | [],[]=>by simp[ltB,Op.bytesLess]
 |_::_,[]=>by simp[ltB,Op.bytesLess]
 | [],_::_=>by simp[ltB,Op.bytesLess]
 |a::x,b::y=>by
  have ih:=nS x y
  simp only[ltB] at ih ⊢
  rw[Op.bytesLess,ih]
  simp only[List.cons_lt_cons_iff]
  by_cases h1:a<b<;>by_cases h2:a=b<;>by_cases h3:x<y<;>simp[h1,h2,h3]
def AB (a:List UInt8):ltB a a=false:=by
 rw[nS];simp
def tu {a b c:List UInt8} (h:ltB a b=true) (k:ltB b c=true):ltB a c=true:=by
 rw[nS,decide_eq_true_eq] at*
 exact List.lt_trans h k
def Kd {a b:List UInt8} (h:ltB a b=true):ltB b a=false:=by
 cases hb:ltB b a
 ·rfl
 have:=tu h hb
 rw[AB] at this;cases this
def x8 {a b:List UInt8} (h:ltB a b=true):a≠b:=by
 rintro rfl
 rw[AB] at h;cases h
def vP {a b:List UInt8} (h:ltB a b=false) (aU:a≠b):ltB b a=true:=by
 rw[nS,decide_eq_false_iff_not] at h
 rw[nS,decide_eq_true_eq]
 rcases Std.Trichotomous.rel_or_eq_or_rel_swap (r:=(· < · :List UInt8→List UInt8→Prop)) (a:=a) (b:=b) with h1|h1|h1
 ·exact absurd h1 h
 ·exact absurd h1 aU
 exact h1
end Go.Sx
namespace Go.StP
open Go Go.Sx
variable {α:Type} (key:α→List UInt8)
def lt (a b:α):Bool:=ltB (key a) (key b)
def Sorted (l:List α):Prop:=l.Pairwise fun a b=>lt key b a=false
def of (k:List UInt8) (l:List α):List α:=l.filter fun a=>key a==k
def St (l l':List α):Prop:= ∀k,of key k l'=of key k l
def St.refl (l:List α):St key l l:=fun _=>rfl
variable {key}
theorem St.trans {a b c:List α} (h:St key a b) (h':St key b c):St key a c:=fun k=>(h' k).trans (h k)
theorem St.symm {a b:List α} (h:St key a b):St key b a:=fun k=>(h k).symm
def sV (k:List UInt8) (a b:List α):of key k (a++b)=of key k a++of key k b:=List.filter_append ..
def St.app {a a' b b':List α} (h:St key a a') (h':St key b b'):St key (a++b) (a'++b'):=fun k=>by rw[sV,sV,h,h']
def FW {k:List UInt8} {l:List α} {x:α}:x∈of key k l↔x∈l∧key x=k:=by
 unfold of;rw[List.mem_filter];simp
def St.mem {a b:List α} (h:St key a b) (x:α):x∈b↔x∈a:=by
 have e:=h (key x)
 have h1:x∈b↔x∈of key (key x) b:=by rw[FW];simp
 have h2:x∈a↔x∈of key (key x) a:=by rw[FW];simp
 rw[h1,h2,e]
def FJ {k:List UInt8} {l:List α} (h: ∀x,x∈l→key x≠k):of key k l= []:=by
 unfold of
 rw[List.filter_eq_nil_iff]
 intro x hx
 simpa using h x hx
def St.swap {a b:List α} (h: ∀x,x∈a→ ∀y,y∈b→key x≠key y):St key (a++b) (b++a):=by
 intro k
 rw[sV,sV]
 by_cases ha: ∃x,x∈a∧key x=k
 ·obtain⟨x,hx,rfl⟩:=ha
  have:of key (key x) b= []:=FJ fun y hy e=>h x hx y hy e.symm
  rw[this,List.append_nil,List.nil_append]
 have:of key k a= []:=FJ fun x hx e=>ha ⟨x,hx,e⟩
 rw[this,List.append_nil,List.nil_append]
def lt_trans {a b c:α} (h:lt key a b=true) (k:lt key b c=true):lt key a c=true:=tu h k
def lt_irrefl (a:α):lt key a a=false:=AB _
def axJ_ {a b:α} (h:lt key a b=false) (k:lt key b a=false):key a=key b:=by
 cases hk:decide (key a=key b)
 ·have aU:key a≠key b:=of_decide_eq_false hk
  have:=vP h aU
  unfold lt at k
  rw[this] at k;cases k
 exact of_decide_eq_true hk
def St.head {a b:α} {l l':List α} (hs:Sorted key (a::l)) (kS:Sorted key (b::l')) (h:St key (a::l) (b::l')):a=b∧St key l l':=by
 have h1:lt key b a=false:=by
  have hb:b∈a::l:=(h.mem b).1 aa
  rcases List.mem_cons.1 hb with rfl|hb
  ·exact lt_irrefl _
  exact(List.pairwise_cons.1 hs).1 b hb
 have h2:lt key a b=false:=by
  have ha:a∈b::l':=(h.mem a).2 aa
  rcases List.mem_cons.1 ha with rfl|ha
  ·exact lt_irrefl _
  exact(List.pairwise_cons.1 kS).1 a ha
 have hk:key a=key b:=axJ_ h2 h1
 have he:=h (key a)
 unfold of at he
 rw[List.filter_cons,List.filter_cons,if_pos (by simp[hk]),if_pos (by simp)] at he
 have jn:b=a:=(List.cons.inj he).1
 refine⟨jn.symm,fun k=> ?_⟩
 have cQ:=h k
 subst jn
 unfold of at cQ ⊢
 rw[List.filter_cons,List.filter_cons] at cQ
 split at cQ
 ·exact(List.cons.inj cQ).2
 exact cQ
theorem St.eq: ∀ {l l':List α},Sorted key l→Sorted key l'→St key l l'→l=l'
 | [],[],_,_,_=>rfl
 | [],b::l',_,_,h=>by
  have:b∈ ([]:List α):=(h.mem b).1 aa
  cases this
 |a::l,[],_,_,h=>by
  have:a∈ ([]:List α):=(h.mem a).2 aa
  cases this
 |a::l,b::l',hs,kS,h=>by
  obtain⟨rfl,h'⟩:=St.head hs kS h
  rw[St.eq (List.pairwise_cons.1 hs).2 (List.pairwise_cons.1 kS).2 h']
def Sorted.app {a b:List α} (ha:Sorted key a) (hb:Sorted key b) (h: ∀x,x∈a→ ∀y,y∈b→lt key y x=false):Sorted key (a++b):=
 List.pairwise_append.2 ⟨ha,hb,h⟩
def Sorted.left {a b:List α} (h:Sorted key (a++b)):Sorted key a:=(List.pairwise_append.1 h).1
def Sorted.right {a b:List α} (h:Sorted key (a++b)):Sorted key b:=(List.pairwise_append.1 h).2.1
end Go.StP
namespace Go.Sx
open Go
section
variable {α:Type} (enc:α→List Value)
def rowO (E:TypeId) (rest:List Value) (d:List α):Obj:= .cells ((d.map enc).flatten++rest).toArray E (0,0)
variable {enc} {m:Nat} {E:TypeId} {rest:List Value} {d:List α} {z:α}
def SU (hm: ∀x,(enc x).length=m) {k:Nat} (hk:k<d.length): ∃A C,(d.map enc).flatten++rest=A++ (enc (d.getD k z)++C)∧A.length=k*m∧ ∀x,((d.set k x).map enc).flatten++rest=A++ (enc x++C):=by
 refine⟨((d.take k).map enc).flatten,((d.drop (k+1)).map enc).flatten++rest, ?_, ?_,fun x=> ?_⟩
 ·have e:d=d.take k++d.getD k z::d.drop (k+1):=by
   rw[List.getD_eq_getElem?_getD,List.getElem?_eq_getElem hk,Option.getD_some,List.getElem_cons_drop,List.take_append_drop]
  have e2:=congrArg (fun l=>(l.map enc).flatten++rest) e
  simp only[List.map_append,List.map_cons,List.flatten_append,List.flatten_cons,List.append_assoc] at e2
  exact e2
 ·rw[wI hm,List.length_take,Nat.min_eq_left (Nat.le_of_lt hk)]
 have e:d.set k x=d.take k++x::d.drop (k+1):=List.set_eq_take_append_cons_drop.trans (by rw[if_pos hk])
 rw[e]
 simp only[List.map_append,List.map_cons,List.flatten_append,List.flatten_cons,List.append_assoc]
def It (hm: ∀x,(enc x).length=m) (k:Nat) (hk:k<d.length):aQ (some (true,m)) (some (rowO enc E rest d)) (k*m)=some (.agg (enc (d.getD k z)).toArray):=by
 obtain⟨A,C,e,hA,-⟩:=SU (z:=z) (rest:=rest) hm hk
 unfold rowO
 rw[e]
 exact Al A _ C E (0,0) hA (hm _)
end
section
variable {P:Program} {w0:World} {f:Fr} {L:aB} {N:Fr→aB→Prop} {ops:Array Oper} {rest:List Oper} {md:Md} {d:Option Tmp} {ty:TypeId} {ps:String} {af:Array Edge} {g:Option (Nat×Bool)}
end
end Go.Sx
namespace Go.StP
open Go Go.Sx
variable {α:Type} {key:α→List UInt8} {z:α}
def BZ {a b:List α} {k:Nat} (h:k<a.length): (a++b).getD k z=a.getD k z:=by
 rw[List.getD_eq_getElem?_getD,List.getD_eq_getElem?_getD,List.getElem?_append_left h]
def By {a b:List α} {k:Nat} (h:a.length≤k): (a++b).getD k z=b.getD (k - a.length) z:=by
 rw[List.getD_eq_getElem?_getD,List.getD_eq_getElem?_getD,List.getElem?_append_right h]
def getD_mem {l:List α} {k:Nat} (h:k<l.length):l.getD k z∈l:=by
 rw[List.getD_eq_getElem?_getD,List.getElem?_eq_getElem h];exact List.getElem_mem h
def mem_getD {l:List α} {x:α} (h:x∈l): ∃k,k<l.length∧l.getD k z=x:=by
 obtain⟨k,hk,rfl⟩:=List.mem_iff_getElem.1 h
 exact⟨k,hk,by rw[List.getD_eq_getElem?_getD,List.getElem?_eq_getElem hk];rfl⟩
def getD_take {l:List α} {k n:Nat} (h:k<n): (l.take n).getD k z=l.getD k z:=by
 rw[List.getD_eq_getElem?_getD,List.getD_eq_getElem?_getD,List.getElem?_take,if_pos h]
def getD_drop {l:List α} {k n:Nat}: (l.drop n).getD k z=l.getD (n+k) z:=by
 rw[List.getD_eq_getElem?_getD,List.getD_eq_getElem?_getD,List.getElem?_drop]
def TN {l:List α} {k:Nat} (h:k<l.length):l.drop k=l.getD k z::l.drop (k+1):=by
 rw[List.getD_eq_getElem?_getD,List.getElem?_eq_getElem h]
 exact List.drop_eq_getElem_cons h
def take_snoc {l:List α} {k:Nat} (h:k<l.length):l.take (k+1)=l.take k++ [l.getD k z]:=by
 rw[List.getD_eq_getElem?_getD,List.getElem?_eq_getElem h]
 exact List.take_succ_eq_append_getElem h
def Sorted.at_ {l:List α} (h:Sorted key l) {i j:Nat} (o5:i≤j) (hj:j<l.length):lt key (l.getD j z) (l.getD i z)=false:=by
 rcases Nat.lt_or_eq_of_le o5 with h1|rfl
 ·have:=List.pairwise_iff_getElem.1 h i j oM hj h1
  rw[List.getD_eq_getElem?_getD,List.getD_eq_getElem?_getD,List.getElem?_eq_getElem hj,List.getElem?_eq_getElem (show i<l.length by omega)]
  exact this
 exact lt_irrefl _
end Go.StP
namespace Go.Sx
open Go
def tk {α:Type}: (∀ (a:α) (l:List α),(a::l).length=l.length+1)∧([]:List α).length=0∧(∀ (l:List α) (i:Nat) (a:α),(l.set i a).length=l.length)∧(∀ (l m:List α),(l++m).length=l.length+m.length)∧
  (∀ (n:Nat) (a:α),(List.replicate n a).length=n)∧(∀ (n:Nat) (l:List α),(l.take n).length=min n l.length)∧(∀ (n:Nat) (l:List α),(l.drop n).length=l.length - n)∧ ∀ {β:Type} (f:α→β) (l:List α),(l.map f).length=l.length:=
 ⟨fun _ _=>List.length_cons,List.length_nil,fun _ _ _=>List.length_set,fun _ _=>List.length_append,fun _ _=>List.length_replicate,fun _ _=>List.length_take,fun _ _=>List.length_drop,fun _ _=>List.length_map ..⟩
def tj: (∀n:Nat,((n:Int)).toNat=n)∧(∀l:List UInt8,(a8 l).size=l.length)∧(∀l:List UInt32,(a32 l).size=l.length)∧(∀p:Prop,(p∧p)=p)∧(∀p:Prop,(p∧True)=p)∧ ∀p:Prop,(True∧p)=p:=
 ⟨Int.toNat_natCast,vZ,J7,fun _=>and_self _,fun _=>and_true _,fun _=>true_and _⟩
inductive Tag {α:Type} (x:α):Type
 |mk:Tag x
def seqN (F:Fr→aB→cK→Prop) (K:cK) (f:Fr) (L:aB):Prop:=F f L K
def cdC (v:Value) (A B S:Prop) (_:Tag (A,B,S)):Prop:=
 match v with
 | .bool true=>A
 | .bool false=>B
 |_=>S
abbrev CwS (P:Program) (w0:World) (c:Code) (f:Fr) (L:aB) (K:cK) (_:Tag (c,K)):Prop:=Cw P w0 c f L K
abbrev OwS (P:Program) (w0:World) (ops:Array Oper) (md:Md) (l:List Oper) (f:Fr) (L:aB) (N:Fr→aB→Prop) (_:Tag (ops,l,N)):Prop:=Ow P w0 ops md l f L N
def bsK (K:cK) (e:Exit) (f:Fr) (L:aB):Dep K:=K e f L
def bsN (N:Fr→aB→Prop) (f:Fr) (L:aB):Dep N:=N f L
abbrev bsR (K:cK) (e:Exit) (f:Fr) (L:aB) (_:Tag K):Prop:=K e f L
abbrev bsM (N:Fr→aB→Prop) (f:Fr) (L:aB) (_:Tag N):Prop:=N f L
def owk (P:Program) (w0:World) (ops:Array Oper) (N:Fr→aB→Prop) (md:Md) (l:List Oper) (f:Fr) (L:aB):Dep (ops,N):=
 match l with
 | []=>N f L
 |o::r=>Ow P w0 ops md (o::r) f L N
def fid:Code→Nat
 | .seq a _=>fid a
 | .region i _ _=>i
 | .block _ c=>fid c
 | .loop c=>fid c
 | .scope c=>fid c
 |_=>500000
def m5 (z:List Nat) (c:Code):Bool:=match z with
 | []=>false
 |k::r=>(k==1000000+fid c) ||m5 r c
def vcC (P:Program) (w0:World) (z:List Nat):Code→Fr→aB→cK→Prop
 | .seq x y,f,L,K=>ib (m5 z (.seq x y)) (CwS P w0 (.seq x y) f L K .mk) (vcC P w0 z x f L (kh (seqN (fun f L K=>ib (z.contains 999999) (CwS P w0 y f L K .mk) (vcC P w0 z y f L K)) K) K))
 | .skip,f,L,K=>K .normal f L
 | .exit i,f,L,K=>K (.exit i) f L
 | .goto i,f,L,K=>K (.goto i) f L
 | .ret,f,L,K=>K .ret f L
 | .label l,f,L,K=>ib (z.contains 999999) (Cw P w0 (.label l) f L K) (K .normal f L)
 | .block id c,f,L,K=>vcC P w0 z c f L (nI id K)
 | .cond c x y,f,L,K=> ∃b,ev f c= .bool b∧(b=true→vcC P w0 z x f L K)∧(b=false→vcC P w0 z y f L K)
 | .region id ops false,f,L,K=>ib (z.contains id) (Cw P w0 (.region id ops false) f L K) (vcL P w0 ops true .seq ops.toList f L (owk P w0 ops (K .normal)))
 |c,f,L,K=>Cw P w0 c f L K
section
variable {P:Program} {w0:World} {f:Fr} {L:aB} {K:cK} {N:Fr→aB→Prop} {ops:Array Oper} {md:Md} {l:List Oper}
def Fb (h:owk P w0 ops N md l f L):Ow P w0 ops md l f L N:=by
 cases l with
 |nil=>exact Ow.nil h
 |cons o r=>exact h
def Ow.go (he:md.eff=true) (h:vcL P w0 ops true md l f L (owk P w0 ops (bsN N))):Ow P w0 ops md l f L N:=
 AI _ (fun _ _ _ _ h=>Fb h) true l md f L (fun _=>he) h
def Ow.goQ (h:vcL P w0 ops false md l f L (owk P w0 ops (bsN N))):Ow P w0 ops md l f L N:=
 AI _ (fun _ _ _ _ h=>Fb h) false l md f L (fun e=>by cases e) h
theorem AE {z:List Nat}: ∀ (c:Code) {f:Fr} {L:aB} {K:cK},vcC P w0 z c f L K→Cw P w0 c f L K
 | .seq x y,f,L,K,h=>by
   unfold vcC at h
   cases hs:m5 z (.seq x y) with
   |true=>rw[hs] at h;exact h
   |false=>
    rw[hs] at h
    refine Cw.seq ((AE x h).mono fun e f L k=> ?_)
    cases e with
    |normal=>
     have k':ib (z.contains 999999) (CwS P w0 y f L K .mk) (vcC P w0 z y f L K):=k
     cases hz:z.contains 999999 with
     |true=>rw[hz] at k';exact k'
     |false=>rw[hz] at k';exact AE y k'
    |_=>exact k
 | .skip,_,_,_,h=>Cw.skip h
 | .exit _,_,_,_,h=>Cw.exit h
 | .goto _,_,_,_,h=>Cw.goto h
 | .ret,_,_,_,h=>Cw.ret h
 | .label l,_,_,_,h=>by
   unfold vcC at h
   cases hz:z.contains 999999 with
   |true=>rw[hz] at h;exact h
   |false=>rw[hz] at h;exact Cw.label h
 | .block id c,_,_,_,h=>Cw.block (AE c h)
 | .cond c x y,_,_,_,⟨b,hb,h1,h2⟩=>Cw.cond hb (fun e=>AE x (h1 e)) (fun e=>AE y (h2 e))
 | .region id ops false,f,L,K,h=>by
   obtain⟨l⟩:=ops
   unfold vcC at h
   cases hz:z.contains id with
   |true=>rw[hz] at h;exact h
   |false=>rw[hz] at h;exact Cw.region (Ow.go rfl h)
 | .region _ _ true,_,_,_,h=>h
 | .loop _,_,_,_,h=>h
 | .rangeFunc _ _ _ _,_,_,_,h=>h
 | .scope _,_,_,_,h=>h
 | .refuse _,_,_,_,h=>h
end
class Steps (c:Code):Prop
instance {x y:Code}:Steps (.seq x y):=⟨⟩
instance:Steps .skip:=⟨⟩
instance {i:Nat}:Steps (.exit i):=⟨⟩
instance {i:Nat}:Steps (.goto i):=⟨⟩
instance:Steps .ret:=⟨⟩
instance {i:Nat} {c:Code}:Steps (.block i c):=⟨⟩
instance {c:Operand} {x y:Code}:Steps (.cond c x y):=⟨⟩
instance {i:Nat} {ops:Array Oper}:Steps (.region i ops false):=⟨⟩
def Cw.go {P:Program} {w0:World} {c:Code} {f:Fr} {L:aB} {K:cK} (z:List Nat) [Steps c] (h:vcC P w0 z c f L (bsK K)):Cw P w0 c f L K:=AE c h
@[congr] theorem awP_ {v v':Value} {A B S:Prop} {t:Tag (A,B,S)} (h:v=v'):cdC v A B S t=cdC v' A B S t:=by rw[h]
section
variable (P:Program) (w0:World) (z:List Nat) (f:Fr) (L:aB) (K:cK) (N:Fr→aB→Prop) (ops:Array Oper) (md:Md)
def Vr (x y:Code):vcC P w0 [] (.seq x y) f L K=vcC P w0 [] x f L (kh (seqN (fun f L K=>vcC P w0 [] y f L K) K) K):=(rfl)
def Vq (k:Nat) (z:List Nat) (x y:Code):vcC P w0 (k::z) (.seq x y) f L K=ib (m5 (k::z) (.seq x y)) (CwS P w0 (.seq x y) f L K .mk) (vcC P w0 (k::z) x f L (kh (seqN (fun f L K=>ib ((k::z).contains 999999) (CwS P w0 y f L K .mk) (vcC P w0 (k::z) y f L K)) K) K)):=(rfl)
def VP:vcC P w0 z .skip f L K=K .normal f L:=(rfl)
def WK (i:Nat):vcC P w0 z (.exit i) f L K=K (.exit i) f L:=(rfl)
def VC (i:Nat):vcC P w0 z (.goto i) f L K=K (.goto i) f L:=(rfl)
def YV:vcC P w0 z .ret f L K=K .ret f L:=(rfl)
def UN (i:Nat):vcC P w0 z (.label i) f L K=ib (z.contains 999999) (CwS P w0 (.label i) f L K .mk) (K .normal f L):=(rfl)
def UP (i:Nat) (c:Code):vcC P w0 z (.block i c) f L K=vcC P w0 z c f L (nI i K):=(rfl)
def WL (c:Operand) (x y:Code):vcC P w0 z (.cond c x y) f L K=cdC (ev f c) (vcC P w0 z x f L K) (vcC P w0 z y f L K) (vcC P w0 z (.cond c x y) f L K) .mk:=by
 unfold cdC
 split
 ·rename_i h;simp[vcC,h]
 ·rename_i h;simp[vcC,h]
 rfl
def RT (i:Nat) (l:List Oper):vcC P w0 z (.region i l.toArray false) f L K=ib (z.contains i) (CwS P w0 (.region i l.toArray false) f L K .mk) (vcL P w0 l.toArray true .seq l f L (owk P w0 l.toArray (K .normal))):=(rfl)
def U9 (i:Nat) (ops:Array Oper):vcC P w0 z (.region i ops true) f L K=CwS P w0 (.region i ops true) f L K .mk:=(rfl)
def Wq (c:Code):vcC P w0 z (.loop c) f L K=CwS P w0 (.loop c) f L K .mk:=(rfl)
def T_ (c:Code):vcC P w0 z (.scope c) f L K=CwS P w0 (.scope c) f L K .mk:=(rfl)
def Sd (x:Operand) (p:Array Tmp) (a c:Code):vcC P w0 z (.rangeFunc x p a c) f L K=CwS P w0 (.rangeFunc x p a c) f L K .mk:=(rfl)
def XK (F:Fr→aB→cK→Prop):bsN (seqN F K) f L=F f L K:=(rfl)
def ax4_ (e:Exit):bsN (K e) f L=bsK K e f L:=(rfl)
def Zj (c:Code):bsN (fun f L=>Cw P w0 c f L K) f L=CwS P w0 c f L K .mk:=(rfl)
def Xh:kh N K .normal f L=bsN N f L:=(rfl)
def Ym (i:Nat):kh N K (.exit i) f L=K (.exit i) f L:=(rfl)
def YY (i:Nat):kh N K (.goto i) f L=K (.goto i) f L:=(rfl)
def Yp:kh N K .ret f L=K .ret f L:=(rfl)
def Wn (i:Nat):nI i K .normal f L=K .normal f L:=(rfl)
def W1 (i j:Nat):nI i K (.goto j) f L=K (.goto j) f L:=(rfl)
def Wy (i:Nat):nI i K .ret f L=K .ret f L:=(rfl)
def VG (i j:Nat):nI i K (.exit j) f L=ib (j==i) (K .normal f L) (K (.exit j) f L):=by
 by_cases h:j=i
 ·have e: (j==i)=true:=beq_iff_eq.2 h
  rw[e]
  simp[nI,ib,h]
 have e: (j==i)=false:=beq_eq_false_iff_ne.2 h
 rw[e]
 simp[nI,ib,h]
def Vk (A:Nat→Fr→aB→Prop):og A K .normal f L=K .normal f L:=(rfl)
def Wo (A:Nat→Fr→aB→Prop) (i:Nat):og A K (.exit i) f L=K (.exit i) f L:=(rfl)
def VH (A:Nat→Fr→aB→Prop) (i:Nat):og A K (.goto i) f L=bsN (A i) f L:=(rfl)
def Vc (A:Nat→Fr→aB→Prop):og A K .ret f L=K .ret f L:=(rfl)
def Xj:owk P w0 ops N md [] f L=bsN N f L:=(rfl)
def Yd (e:Exit):bsK K e f L=bsR K e f L .mk:=(rfl)
def Yi:bsN N f L=bsM N f L .mk:=(rfl)
def Zy:bsN (bsN N) f L=bsN N f L:=(rfl)
def Y' (e:Exit):bsK (bsK K) e f L=bsK K e f L:=(rfl)
def W9 (e:Exit):bsK (kh N K) e f L=kh N (bsK K) e f L:=by cases e<;>rfl
def T6 (i:Nat) (e:Exit):bsK (nI i K) e f L=nI i (bsK K) e f L:=by cases e<;>rfl
def SY (A:Nat→Fr→aB→Prop) (e:Exit):bsK (og A K) e f L=og A (bsK K) e f L:=by cases e<;>rfl
def Vi (o:Oper) (r:List Oper):owk P w0 ops N md (o::r) f L=OwS P w0 ops md (o::r) f L N .mk:=(rfl)
end
section
variable (A B S:Prop) (t:Tag (A,B,S))
def axr_:cdC (.bool true) A B S t=A:=(rfl)
def axn_:cdC (.bool false) A B S t=B:=(rfl)
def su (b:Bool) (h:b=true):cdC (.bool b) A B S t=A:=by rw[h];rfl
def tB (b:Bool) (h:b=false):cdC (.bool b) A B S t=B:=by rw[h];rfl
def GH (p:Prop) [Decidable p] (h:p):cdC (.bool (decide p)) A B S t=A:=su A B S t _ (aW h)
def GD (p:Prop) [Decidable p] (h: ¬p):cdC (.bool (decide p)) A B S t=B:=tB A B S t _ (ah h)
def axP_ (a b:Int) (h:a=b):cdC (.bool (a==b)) A B S t=A:=su A B S t _ (beq_iff_eq.2 h)
def axy_ (a b:Int) (h: ¬a=b):cdC (.bool (a==b)) A B S t=B:=tB A B S t _ (beq_eq_false_iff_ne.2 h)
def axx_ (a b:Int) (h: ¬a=b):cdC (.bool (a !=b)) A B S t=A:=su A B S t _ (bne_iff_ne.2 h)
def axl_ (a b:Int) (h:a=b):cdC (.bool (a !=b)) A B S t=B:=tB A B S t _ (by rw[h];simp)
end
def Xa (w0:World) (L:aB) (v:Value):io w0 L .no v=none:=(rfl)
def ZN (w0:World) (L:aB) (e:TypeId) (v:Value):io w0 L (.strBytes e) v=none:=(rfl)
def Z2 (v:Value):eb .no v=none:=by unfold eb;split<;>first|rfl| (rename_i h;cases h)
def TA (c:Code):m5 [] c=false:=(rfl)
def R7 (k:Nat) (r:List Nat) (c:Code):m5 (k::r) c=((k==1000000+fid c) ||m5 r c):=(rfl)
def Xq (a b:Code):fid (.seq a b)=fid a:=(rfl)
def RF (i:Nat) (o:Array Oper) (d:Bool):fid (.region i o d)=i:=(rfl)
def Ux (i:Nat) (c:Code):fid (.block i c)=fid c:=(rfl)
def XC (c:Operand) (x y:Code):fid (.cond c x y)=500000:=(rfl)
def Vb (c:Code):fid (.loop c)=fid c:=(rfl)
def TU (c:Code):fid (.scope c)=fid c:=(rfl)
def T8 (i:Nat):fid (.label i)=500000:=(rfl)
def Wv (i:Nat):fid (.goto i)=500000:=(rfl)
def X0 (i:Nat):fid (.exit i)=500000:=(rfl)
def Wz:fid .skip=500000:=(rfl)
def ZQ:fid .ret=500000:=(rfl)
def TO (x:Operand) (p:Array Tmp) (a c:Code):fid (.rangeFunc x p a c)=500000:=(rfl)
def allF (j:Nat→Value):Nat→Nat→Fr
 |_,0=> []
 |k,n+1=>j k::allF j (k+1) n
def Zr (j:Nat→Value) (k:Nat):allF j k 0= []:=(rfl)
def Z_ (j:Nat→Value) (k n:Nat):allF j k (n+1)=j k::allF j (k+1) n:=(rfl)
def CutM {G:Type} (n:Nat) (S:G→List (Nat×Value)) (H:G→aB) (J:G→Prop) (f':Fr) (L':aB):Prop:=
 ∃g,J g∧L'=H g∧f'=pin (allF (eT f') 0 n) (S g)
def CutM.mk {G:Type} {n:Nat} {S:G→List (Nat×Value)} {H:G→aB} {J:G→Prop} {f':Fr} {L':aB} (g:G) (hJ:J g) (hL:L'=H g) (hf:f'=pin (allF (eT f') 0 n) (S g)):CutM n S H J f' L':=⟨g,hJ,hL,hf⟩
def Cw.cut {P:Program} {w0:World} {x y:Code} {f:Fr} {L:aB} {K:cK} {G:Type} (n:Nat) (S:G→List (Nat×Value)) (H:G→aB) (J:G→Prop) (h1:Cw P w0 x f L (kh (CutM n S H J) K))
  (h2: ∀ (g:G) (j:Nat→Value),J g→Cw P w0 y (pin (allF j 0 n) (S g)) (H g) K):Cw P w0 (.seq x y) f L K:=by
 refine Cw.seq (h1.mono fun e f L k=> ?_)
 cases e with
 |normal=>
  obtain⟨g,hJ,rfl,hf⟩:=k
  have:=h2 g (eT f) hJ
  rw[←hf] at this
  exact this
 |_=>exact k
def cdC.splitp {p:Prop} [Decidable p] {A B S:Prop} {t:Tag (A,B,S)} (ht:p→A) (he: ¬p→B):cdC (.bool (decide p)) A B S t:=by
 by_cases h:p
 ·rw[GH A B S t p h];exact ht h
 rw[GD A B S t p h];exact he h
def cdC.split {b:Bool} {A B S:Prop} {t:Tag (A,B,S)} (ht:b=true→A) (he:b=false→B):cdC (.bool b) A B S t:=by
 cases b with
 |true=>exact ht rfl
 |false=>exact he rfl
end Go.Sx
namespace Go.Sx
open Go
def ik (r:Option Nat):Fence:={Fence.wide with round:=r}
def Aj:Op→Bool
 | .defer _=>false
 |_=>true
section
variable {P:Program} {w0:World} {f:Fr} {L:aB} {K:cK} {N:Fr→aB→Prop} {ops:Array Oper} {rest:List Oper} {r:Option Nat} {n:Nat}
def Oo {k:FuncId} {args:Array Value} {w:World} {R:Ending→World→Prop} (h:Calls P k args w R):CallsIn (ik r) n P k args w R:=
 (callsIn_wide.2 h:CallsIn Fence.wide n P k args w R)
def R1 {row:String} {args:Array Value} {w:World} {R:Value→World→Prop} (h:Rows P row args w R):RowsIn (ik r) n P row args w R:=
 (fun c cs _=>let ⟨v,w',hr,s⟩:=h c cs;⟨v,w',hr,stepsIn_wide.2 s⟩:RowsIn Fence.wide n P row args w R)
def XX {o:Oper} {a:Act} {w:World} {next:Act→World→Prop} {Q:Exit→Act→World→Prop} (hd:Aj o.op=true) (h:o.wp P a w next Q):o.wpIn (ik r) n P a w next Q:=by
 refine⟨fun _ _=>trivial, ?_⟩
 rw[Oper.semAt_eq _ _ _ (fun c e=>by rw[e] at hd;cases hd)]
 unfold Oper.wp at h
 generalize (execOp a.eval o).run P w=x at h
 match x,h with
 | .ok (.value v) _,h=>exact h
 | .ok .skip _,h=>exact h
 | .ok (.defer e) _,h=>exact h
 | .ok (.enter k args) w',h=>
  have h':Calls P k args w' _:=h
  exact⟨fun(e:false=true)=>(by cases e),Oo h'⟩
 | .ok (.row row args) w',h=>
  have h':Rows P row args w' _:=h
  exact⟨fun(e:false=true)=>(by cases e),R1 h'⟩
 | .halt (.panic u) _,h=>exact h
theorem wd {Q:Exit→Act→World→Prop} {l2:List Oper}: ∀ (l1:List Oper) (a:Act) (w:World),(l1.all fun o=>Aj o.op)=true→
  wpList P ops (fun e a w=>e= .normal∧wpListIn (ik r) n P ops Q l2 a w) l1 a w→wpListIn (ik r) n P ops Q (l1++l2) a w
 | [],_,_,_,h=>h.2
 |o::l1,a,w,hd,h=>by
  rw[List.cons_append]
  unfold wpList at h
  unfold wpListIn
  rw[List.all_cons,Bool.and_eq_true] at hd
  split at h
  ·rename_i hw
   rw[if_pos hw]
   rcases h with h| ⟨-,hl⟩
   ·exact XX hd.1 (Ap (fun a w hx=>wd l1 a w hd.2 hx) (fun e a w aU hq=>aU hq.1) h)
   obtain⟨_,_,he,-⟩:=hl
   cases he
  rename_i hw
  rw[if_neg hw]
  exact⟨fun _ _=>trivial,wd l1 _ _ hd.2 h⟩
def OwI (r:Option Nat) (P:Program) (w0:World) (ops:Array Oper) (l:List Oper) (f:Fr) (L:aB) (N:Fr→aB→Prop):Prop:=
 ∀w,Hp w0 L w→wpListIn (ik r) 0 P ops (eu w0 N) l (act f) w
def OwI.nil (h:N f L):OwI r P w0 ops [] f L N:=fun _ hw=>⟨rfl,rfl,L,hw,by simpa [act] using h⟩
def OwI.pre {l1 l2:List Oper} (hd: (l1.all fun o=>Aj o.op)=true) (h:Ow P w0 ops .seq l1 f L (fun f' L'=>OwI r P w0 ops l2 f' L' N)):OwI r P w0 ops (l1++l2) f L N:=by
 intro w hw
 refine wd l1 _ _ hd ?_
 have h1:=h w hw
 have mono: ∀ (l:List Oper) (a:Act) (w:World),wpList P ops (eu w0 (fun f' L'=>OwI r P w0 ops l2 f' L' N)) l a w→wpList P ops (fun e a w=>e= .normal∧wpListIn (ik r) 0 P ops (eu w0 N) l2 a w) l a w:=by
  intro l
  induction l with
  |nil=>
   rintro a w ⟨-,ju,L',hp,hO⟩
   refine⟨rfl, ?_⟩
   have:=hO w hp
   rwa [←vo ju] at this
  |cons o l ih=>
   intro a w h
   unfold wpList at h ⊢
   split at h
   ·rename_i hw
    rw[if_pos hw]
    rcases h with h| ⟨-,hl⟩
    ·exact .inl (Ap ih (fun e a w aU hq=>aU hq.1) h)
    obtain⟨_,_,he,-⟩:=hl
    cases he
   rename_i hw
   rw[if_neg hw]
   exact ih _ _ h
 exact mono l1 _ _ h1
def Ow.mono_seq {l:List Oper} {N':Fr→aB→Prop} (h:Ow P w0 ops .seq l f L N) (hN: ∀f L,N f L→N' f L):Ow P w0 ops .seq l f L N':=by
 intro w hw
 have h1:=h w hw
 clear h
 revert h1
 generalize act f=a
 clear hw
 induction l generalizing a w with
 |nil=>rintro⟨h1,h2,L',h3,h4⟩;exact⟨h1,h2,L',h3,hN _ _ h4⟩
 |cons o l ih=>
  intro h
  unfold wpList at h ⊢
  split at h
  ·rename_i hw
   rw[if_pos hw]
   rcases h with h| ⟨-,hl⟩
   ·exact .inl (Ap (fun a w hx=>ih w a hx) (fun e a w aU hq=>aU hq.1) h)
   obtain⟨_,_,he,-⟩:=hl
   cases he
  rename_i hw
  rw[if_neg hw]
  exact ih _ _ h
theorem OwI.all {l:List Oper} (hd: (l.all fun o=>Aj o.op)=true) (h:Ow P w0 ops .seq l f L N):OwI r P w0 ops l f L N:=by
 have:=OwI.pre (r:=r) (l2:= []) (N:=N) hd (Ow.mono_seq h (fun f L hN=>OwI.nil hN))
 simpa using this
def CwR (r:Option Nat) (P:Program) (w0:World) (c:Code) (f:Fr) (L:aB) (K:cK):Prop:= ∀w,Hp w0 L w→c.wpIn (ik r) 0 P (post w0 K) (act f) w
theorem CwR.region {id:Nat} {l:List Oper} (hd: (l.all fun o=>Aj o.op)=true) (h:Ow P w0 l.toArray .seq l f L (K .normal)):CwR r P w0 (.region id l.toArray false) f L K:=
 fun w hw=>wpIn_mono (wpIn_region_lit (OwI.all hd h w hw)) fun _ _ _ h=>ye h
theorem CwR.block {id:Nat} {c:Code} (h:CwR r P w0 c f L (nI id K)):CwR r P w0 (.block id c) f L K:=by
 intro w hw
 refine wpIn_block (wpIn_mono (h w hw) ?_)
 rintro e a w' ⟨hd,L',hp,k⟩
 cases e with
 |exit i=>
  simp only[Exit.inBlock]
  simp only[nI] at k
  split
  ·rename_i e;rw[if_pos e] at k;exact⟨hd,L',hp,k⟩
  rename_i e;rw[if_neg e] at k;exact⟨hd,L',hp,k⟩
 |_=>exact⟨hd,L',hp,k⟩
def Hp.put {w:World} (h:Hp w0 L w) {b:Nat} {o:Obj} (hb:b∈keys L):Hp w0 (setB L b o) (w.putObj b o):=h.set hb rfl rfl rfl rfl
def YieldAt.of {l:Nat} {rc:Loop} {X:aB} {args:Array Value} {w:World} {r0:Option Nat} {S:aB→Prop} (hX:Hp w X w) (hl:look X l=some (.loop rc)) (hr:rc.state= .ready) (hp:rc.pending=none) (hs:args.size=rc.params.size)
  (h:CwR (some l) P w rc.assign ((rc.params.zip args).foldl (fun tmps (p:Tmp×Value)=>tmps.setIfInBounds p.1 p.2) rc.tmps).toList X (fun e f1 L1=>e= .normal∧look L1 l=some (.loop rc)∧
   CwR (some l) P w rc.body f1 (setB L1 l (.loop {rc with state:= .busy})) (fun e _ L2=>e= .normal∧look L2 l=some (.loop {rc with state:= .busy})∧S (setB L2 l (.loop rc))))):
  YieldAt (ik r0) 0 P l args w (fun e w'=> ∃D,e= .returned (.bool true)∧Hp w D w'∧S D):=by
 obtain⟨st,pe,fn0,tm,pa,asg,bo,de⟩:=rc
 obtain rfl:st= .ready:=hr
 obtain rfl:pe=none:=hp
 have tS:=hX.has _ _ (cu hl)
 refine⟨fn0,_,asg,bo,run_yield tS hs,roundIn_of_wpIn (F:=ik r0) (n:=0) trivial ?_⟩
 have h1:=h w hX
 have ea:act ((pa.zip args).foldl (fun tmps (p:Tmp×Value)=>tmps.setIfInBounds p.1 p.2) tm).toList={tmps:=(pa.zip args).foldl (fun tmps (p:Tmp×Value)=>tmps.setIfInBounds p.1 p.2) tm,defers:= []}:=by
  simp[act]
 simp only at h1
 rw[ea] at h1
 refine wpIn_mono h1 ?_
 rintro e a1 w1 ⟨Jd,L1,qk,rfl,mJ,H5⟩
 have aO:=run_beginRound (P:=P) (qk.has _ _ (cu mJ)) rfl
 refine⟨_,aO, ?_⟩
 have h2:=H5 _ (qk.put (o:= .loop {state:= .busy,pending:=none,fn:=fn0,tmps:=tm,params:=pa,assign:=asg,body:=bo,defers:=de}) (cC mJ))
 rw[←vo Jd] at h2
 refine wpIn_mono h2 ?_
 rintro e a2 w2 ⟨gO,L2,gS,rfl,fX,hS⟩
 have he:=run_endRound (P:=P) none (gS.has _ _ (cu fX))
 exact⟨_,_,he,_,rfl,gS.put (cC fX),hS⟩
def axO_ (ds:List Deferred) (w0:World) (K:cK) (e:Exit) (a:Act) (w:World):Prop:=a.defers=ds∧ ∃L,Hp w0 L w∧K e a.tmps.toList L
def CwE (ds:List Deferred) (P:Program) (w0:World) (c:Code) (f:Fr) (L:aB) (K:cK):Prop:= ∀w,Hp w0 L w→c.wp P (axO_ ds w0 K) ⟨f.toArray,ds⟩ w
theorem CwE.seq {ds:List Deferred} {x y:Code} (h:CwE ds P w0 x f L (kh (fun f L=>CwE ds P w0 y f L K) K)):CwE ds P w0 (.seq x y) f L K:=by
 intro w hw
 refine wp_seq (wp_mono (h w hw) ?_)
 rintro e a w' ⟨hd,L',hp,k⟩
 cases e with
 |normal=>
  have:=k w' hp
  have ea:a=⟨a.tmps.toList.toArray,ds⟩:=by cases a;simp only at hd;subst hd;simp
  rw[ea]
  exact this
 |_=>exact⟨hd,L',hp,k⟩
theorem CwE.ret {ds:List Deferred} (h:K .ret f L):CwE ds P w0 .ret f L K:=fun _ hw=>wp_ret ⟨rfl,L,hw,by simpa using h⟩
def evVs (P:Program) (w0:World) (L:aB):List Oper→Fr→Option Fr
 | [],f=>some f
 |o::r,f=>match o.guard,j3 P w0 L f o.op with
  |none,some v=>evVs P w0 L r (aX f o.dst v)
  |_,_=>none
theorem Br {ds:List Deferred} {Q:Exit→Act→World→Prop} {w:World} (hw:Hp w0 L w): ∀ (l:List Oper) (f f':Fr),evVs P w0 L l f=some f'→Q .normal ⟨f'.toArray,ds⟩ w→wpList P ops Q l ⟨f.toArray,ds⟩ w
 | [],f,f',h,hQ=>by cases h;exact hQ
 |o::l,f,f',h,hQ=>by
  unfold evVs at h
  split at h
  ·rename_i v hg hv
   unfold wpList
   have qt:Region.wanted o (yielded ops (⟨f.toArray,ds⟩:Act).tmps)=true:=by unfold Region.wanted;rw[hg]
   rw[if_pos qt]
   refine .inl ?_
   unfold Oper.wp
   have he: (⟨f.toArray,ds⟩:Act).eval=ev f:=by
    have:=rl f
    funext x
    exact(congrFun this x)
   rw[he,pG hw hv]
   have hp: (⟨f.toArray,ds⟩:Act).put o.dst v=⟨(aX f o.dst v).toArray,ds⟩:=by
    have:=fi f o.dst v
    cases hd:o.dst with
    |none=>rfl
    |some d=>simp only[Act.put,aX,FP]
   show wpList P ops Q l ((⟨f.toArray,ds⟩:Act).put o.dst v) w
   rw[hp]
   exact Br hw l _ f' h hQ
  cases h
theorem CwE.region {ds:List Deferred} {id:Nat} {l:List Oper} {f':Fr} (h:evVs P w0 L l f=some f') (hk:K .normal f' L):CwE ds P w0 (.region id l.toArray false) f L K:=
 fun w hw=>wp_region_lit (Br hw l f f' h ⟨rfl,L,hw,by simpa using hk⟩)
def Gr.at_ {L:aB} {E:TypeId} {m n:Nat} {v:Value} {cs:List Value} (h:Gr L E m v n cs) {b:Nat} (hb:slB v=some b): ∃a,look L b=some (.cells a E (0,0)):=by
 rcases h with h| ⟨rfl,rfl,c,rfl,hl⟩
 ·rcases h.inv with⟨rfl,-,-⟩ | ⟨c,cc,rest,rfl,hl,-⟩
  ·cases hb
  have:c=b:=by simpa [slB,vsl] using hb
  subst this;exact⟨_,hl⟩
 have:c=b:=by simpa [slB,vsl] using hb
 subst this;exact⟨_,hl⟩
def Gr.ne {L:aB} {E:TypeId} {m n:Nat} {v:Value} {cs:List Value} (h:Gr L E m v n cs) {b:Nat} {o:Obj} (hl:look L b=some o) (ho: ∀a,o≠ .cells a E (0,0)):slB v≠some b:=fun e=>by
 obtain⟨a,ha⟩:=h.at_ e
 rw[hl] at ha
 exact ho a (Option.some.inj ha)
theorem Gr.setB {L:aB} {E:TypeId} {m n:Nat} {v:Value} {cs:List Value} (h:Gr L E m v n cs) {b:Nat} (hb:slB v≠some b) (x:Obj):Gr (setB L b x) E m v n cs:=
 h.keep fun c o hc ho=>by rw[eh (fun e:b=c=>hb (by rw[e];exact hc))];exact ho
def cm (fn:FuncId) (f:Fr) (ps:Array Tmp) (assign body:Code) (dk:Nat) (st:LoopState):Loop:={state:=st,pending:=none,fn,tmps:=f.toArray,params:=ps,assign,body,defers:=dk}
end
end Go.Sx
namespace Go.Sx
open Go
section
variable {α:Type} {m:Nat} {enc:α→List Value} {z:α} {w:World} {v:Value} {l:List α}
def SlV.dropE (h:SlV m enc z w v l) {k:Nat} (hk:k≤l.length) (a:Bool): ∃v',ii (.sl (a,m)) v (some (some (k:Int))) none=some v'∧SlV m enc z w v' (l.drop k)∧(∀b,slB v'=some b→slB v=some b):=by
 obtain⟨b,off,c,arr,E,fz,hr,hc,hv⟩:=h
 have hl: (l.drop k).length=l.length - k:=by simp
 rcases hv with⟨rfl,rfl,rfl⟩ | ⟨rfl,ft,e_⟩
 ·obtain rfl:k=0:=by simpa using hk
  exact⟨.slice none 0 0,rfl,SlV.nil w,fun b hb=>hb⟩
 have cb:ii (.sl (a,m)) (vsl b off l.length c) (some (some (k:Int))) none=some (vsl b (if c=k then off else off+k*m) (l.length - k) (c - k)):=by
  unfold ii vsl
  simp only[FV _ _ _ (⟨by omega,by omega⟩: (0:Int)≤ (k:Int)∧(k:Int)≤ (l.length:Int)),Int.toNat_natCast]
  by_cases HB:c=k
  ·simp[HB]
  simp only[HB, ↓reduceIte,Option.map_some,oV]
 refine⟨_,cb, ?_,fun b' hb=>hb⟩
 have zk:k*m+ (l.length - k)*m=l.length*m:=by rw[←Nat.add_mul];congr 1;omega
 by_cases HB:c=k
 ·have h0:l.length - k=0:=by omega
  rw[if_pos HB]
  refine⟨b,off,c - k,arr,E,fz,RowS.sl' hl.symm (fun h=>by omega) (fun i hi=>by omega),by omega, .inr ⟨by rw[hl],ft,by rw[hl,h0];omega⟩⟩
 rw[if_neg HB]
 refine⟨b,off+k*m,c - k,arr,E,fz,RowS.sl' hl.symm (fun h=>ft) ?_,by omega, .inr ⟨by rw[hl],ft,by rw[hl];omega⟩⟩
 intro i hi j hj
 rw[hl] at hi
 rw[List.getD_eq_getElem?_getD,List.getElem?_drop,←List.getD_eq_getElem?_getD,←hr.get (k+i) oM j hj]
 congr 1
 rw[Nat.add_mul];omega
end
section
variable {P:Program} {w0:World} {f:Fr} {L:aB} {N:Fr→aB→Prop} {ops:Array Oper} {rest:List Oper} {md:Md} {d:Option Tmp} {ty:TypeId} {ps:String} {af:Array Edge} {g:Option (Nat×Bool)}
end
section
variable {P:Program} {w0:World} {f:Fr} {L:aB} {K:cK}
def Cw.world {c:Code} (h: ∀w,Hp w0 L w→Cw P w0 c f L K):Cw P w0 c f L K:=fun w hw=>h w hw w hw
def Gr.read {E:TypeId} {m n:Nat} {v:Value} {cs:List Value} (h:Gr L E m v n cs) {b:Nat} (hb:slB v=some b) {w:World} (hw:Hp w0 L w) {o:Obj} (ho:w.heap[b]? =some o):aT w0 L b=some o:=by
 obtain⟨a,ha⟩:=h.at_ hb
 rw[hw.has _ _ (cu ha)] at ho
 rw[ac ha];exact ho
end
end Go.Sx
namespace Go.Sx
open Go
section
variable {α β:Type} [BEq α] [LawfulBEq α] (encK:α→Value) (encV:β→Value)
def gi (k:α):List (α×β)→Nat→Option (Nat×β)
 | [],_=>none
 |p::r,i=>if k==p.1 then some (i,p.2) else gi k r (i+1)
def updG (k:α) (v:β):List (α×β)→List (α×β)
 | []=> [(k,v)]
 |p::r=>if k==p.1 then(p.1,v)::r else p::updG k v r
def getG (k:α) (z:β) (m:List (α×β)):β:=match m.find? fun p=>k==p.1 with|some p=>p.2|none=>z
def iJ (p:α×β):Value×Value:=(encK p.1,encV p.2)
def eZ (o:Obj) (m:List (α×β)):Prop:= ∃es clock,o= .map es clock∧es.toList.map (fun e=>(e.key,e.val))=m.map (iJ encK encV)∧(es.toList.map (·.born)++ [clock]).Pairwise (· < ·)
structure KeyOk (P:Program) (kt:TypeId) (encK:α→Value):Prop where
 find: ∀ {β:Type} (encV:β→Value) (w:World) (k:α) (es:List MapEntry) (m:List (α×β)),es.map (fun e=>(e.key,e.val))=m.map (iJ encK encV)→(Instr.findKey kt (encK k) es).run P w= .ok ((gi k m 0).map fun p=>(p.1,encV p.2)) w
 check: ∀ (w:World) (e:Bool) (k:α),(Instr.checkKey e 10000 kt (encK k)).run P w= .ok () w
 bits: ∀k,Instr.sameBits 10000 (encK k) (encK k)=true
variable {encK encV}
omit [LawfulBEq α] in
theorem Kt {kd:TypeDesc} (hs: ∀a b,Instr.sameNow kd (encK a) (encK b)=some (a==b)) (k:α): ∀ (es:List MapEntry) (m:List (α×β)) (i:Nat),es.map (fun e=>(e.key,e.val))=m.map (iJ encK encV)→
  Instr.findNow kd (encK k) es i=some ((gi k m i).map fun p=>(p.1,encV p.2))
 | [],[],i,_=>rfl
 | [],_::_,_,h=>by cases h
 |_::_,[],_,h=>by cases h
 |e::es,p::m,i,h=>by
  simp only[List.map_cons,List.cons.injEq,iJ,Prod.mk.injEq] at h
  obtain⟨⟨h1,h2⟩,h3⟩:=h
  unfold Instr.findNow
  have hs:Instr.sameNow kd (encK k) e.key=some (k==p.1):=by rw[h1,hs]
  rw[hs]
  unfold gi
  cases hk: (k==p.1)
  ·simp only[Bool.false_eq_true, ↓reduceIte]
   exact Kt ‹_› k es m (i+1) h3
  simp[h2]
theorem Kn (k:α): ∀ (m:List (α×β)) (i j:Nat) (v:β),gi k m i=some (j,v)→i≤j∧ ∃a,m[j - i]? =some (k,a)∧a=v
 | [],_,_,_,h=>by cases h
 |p::r,i,j,v,h=>by
  unfold gi at h
  split at h
  ·rename_i hk
   cases h
   refine⟨ap _,p.2, ?_,rfl⟩
   rw[Nat.sub_self,List.getElem?_cons_zero,eq_of_beq hk]
  obtain⟨h1,a,h2,h3⟩:=Kn k r (i+1) j v h
  refine⟨by omega,a, ?_,h3⟩
  rw[show j - i=(j - (i+1))+1 by omega,List.getElem?_cons_succ];exact h2
theorem DE (k:α) (v:β): ∀ (es:List MapEntry) (m:List (α×β)) (i j:Nat) (a:β),es.map (fun e=>(e.key,e.val))=m.map (iJ encK encV)→gi k m i=some (j,a)→
  (es.modify (j - i) fun e=>{e with key:=encK k,val:=encV v}).map (fun e=>(e.key,e.val))=(updG k v m).map (iJ encK encV)
 | [],[],_,_,_,_,h=>by cases h
 | [],_::_,_,_,_,h,_=>by cases h
 |_::_,[],_,_,_,h,_=>by cases h
 |e::es,p::m,i,j,a,h,hf=>by
  simp only[List.map_cons,List.cons.injEq,iJ,Prod.mk.injEq] at h
  obtain⟨⟨h1,h2⟩,h3⟩:=h
  unfold gi at hf
  unfold updG
  split at hf
  ·rename_i hk
   cases hf
   rw[if_pos hk,Nat.sub_self]
   simp only[List.modify_zero_cons,List.map_cons,iJ,eq_of_beq hk]
   rw[h3]
  rename_i hk
  have dC:=(Kn k m (i+1) j a hf).1
  rw[if_neg hk,show j - i=(j - (i+1))+1 by omega]
  simp only[List.modify_succ_cons,List.map_cons,iJ]
  rw[DE k v es m (i+1) j a h3 hf,h1,h2]
omit [LawfulBEq α] in
theorem C' (k:α) (v:β): ∀ (m:List (α×β)) (i:Nat),gi k m i=none→updG k v m=m++ [(k,v)]
 | [],_,_=>rfl
 |p::r,i,h=>by
  unfold gi at h
  split at h
  ·cases h
  rename_i hk
  unfold updG
  rw[if_neg hk,C' k v r (i+1) h];rfl
omit [LawfulBEq α] in
theorem DS (k:α): ∀ (m:List (α×β)) (i:Nat),(gi k m i).map Prod.snd=(m.find? fun p=>k==p.1).map Prod.snd
 | [],_=>rfl
 |p::r,i=>by
  unfold gi
  rw[List.find?_cons]
  cases h: (k==p.1)
  ·simp only[Bool.false_eq_true, ↓reduceIte];exact DS k r (i+1)
  rfl
def Ww {k:α} {m:List (α×β)} {es:List MapEntry} {j:Nat} {a:β} (h:es.map (fun e=>(e.key,e.val))=m.map (iJ encK encV)) (hf:gi k m 0=some (j,a)): ∃e,es[j]? =some e∧e.key=encK k:=by
 obtain⟨-,a',h1,rfl⟩:=Kn k m 0 j a hf
 rw[Nat.sub_zero] at h1
 have:=congrArg (·[j]?) h
 simp only[List.getElem?_map,h1,Option.map_some] at this
 cases he:es[j]? with
 |none=>rw[he] at this;cases this
 |some e=>
  rw[he] at this
  simp only[Option.map_some,Option.some.injEq,iJ,Prod.mk.injEq] at this
  exact⟨e,rfl,this.1⟩
theorem KeyOk.int {P:Program} {kt:TypeId} {k0:IntKind} (hu:P.underlying kt=some (.int k0)):KeyOk P kt vi where
 find encV w k es m h:=by
  simp only[Instr.findKey,Sem.run_bind,run_underlying hu w,Result.andThen_ok]
  rw[Kt (encK:=vi) (fun a b=>by simp[Instr.sameNow,vi]) k es m 0 h]
  rfl
 check w e k:=by
  unfold Instr.checkKey
  simp only[Sem.run_bind,run_underlying hu w,Result.andThen_ok]
  rfl
 bits k:=by simp[vi,Instr.sameBits]
variable {P:Program} {w0:World} {f:Fr} {L:aB} {N:Fr→aB→Prop} {ops:Array Oper} {rest:List Oper} {md:Md}
 {d:Option Tmp} {ty:TypeId} {ps:String} {af:Array Edge} {g:Option (Nat×Bool)}
omit [BEq α] [LawfulBEq α] in
def Ow.makeMapG {t:TypeId} {md':Md} (he:md.turn=some md') (hs:a_ ops f ⟨d, .makeMap t none,ty,ps,af,g⟩=false)
  (hn: ∀b o,eP L b→w0.heap.size≤b→eZ encK encV o []→Ow P w0 ops md' rest (aX f d (vm b)) (L++ [(b,o)]) N):
  Ow P w0 ops md (⟨d, .makeMap t none,ty,ps,af,g⟩::rest) f L N:=by
 refine Ow.step he rfl hs fun w hw=> .inl ⟨vm w.heap.size,w.alloc (.map #[] 0),_, ?_,hw.alloc _,hn _ _ (iF fun b hb=>hw.lt hb) hw.size ⟨#[],0,rfl,rfl,List.pairwise_singleton _ _⟩⟩
 simp only[execOp,Instr.makeMap,Sem.run_bind,Option.map_none]
 rfl
def Ow.mapUpdateG {t kt vt:TypeId} {x y z:Operand} {b:Nat} {o:Obj} {m:List (α×β)} {k:α} {v:β} {md':Md} (he:md.turn=some md') (hs:a_ ops f ⟨d, .mapUpdate t x y z,ty,ps,af,g⟩=false) (hu:P.underlying t=some (.map kt vt)) (hk:KeyOk P kt encK)
  (hx:ev f x=vm b) (hy:ev f y=encK k) (hz:ev f z=encV v) (hl:look L b=some o) (hm:eZ encK encV o m)
  (hn: ∀o',eZ encK encV o' (updG k v m)→Ow P w0 ops md' rest (aX f d undef) (setB L b o') N):
  Ow P w0 ops md (⟨d, .mapUpdate t x y z,ty,ps,af,g⟩::rest) f L N:=by
 obtain⟨es,c,rfl,gC,fW⟩:=hm
 refine Ow.step he rfl hs fun w hw=> ?_
 have hb:=hw.has _ _ (cu hl)
 have eI:=hk.find encV w k es.toList m gC
 cases hf:gi k m 0 with
 |none=>
  rw[hf] at eI
  refine .inr (.inl ⟨{w with heap:=w.heap.setIfInBounds b (.map (es.push {key:=encK k,val:=encV v,born:=c}) (c+1))},_, ?_,hw.set (cC hl) rfl rfl rfl rfl,hn _ ⟨_,_,rfl, ?_,by rw[Array.toList_push];exact Cn fW rfl⟩⟩)
  ·have: (Instr.mapUpdate t (vm b) (encK k) (encV v)).run P w= .ok () {w with heap:=w.heap.setIfInBounds b (.map (es.push {key:=encK k,val:=encV v,born:=c}) (c+1))}:=by
    simp only[Instr.mapUpdate,vm,Sem.run_bind,run_underlying hu w,Result.andThen_ok,lJ hb,hk.check,eI,Option.map_none,uE hb]
   simp only[execOp,Sem.run_bind,hx,hy,hz]
   rw[this];rfl
  rw[C' k v m 0 hf,Array.toList_push,List.map_append,gC,List.map_append];rfl
 |some p=>
  obtain⟨j,a⟩:=p
  rw[hf] at eI
  obtain⟨e,hej,hek⟩:=Ww gC hf
  have xw:es[j]? =some e:=by simpa using hej
  have gQ: (Instr.keyThatStays (((es[j]?).map (·.key)).getD (encK k)) (encK k)).run P w= .ok (encK k) w:=by
   rw[xw,Option.map_some,Option.getD_some,hek]
   unfold Instr.keyThatStays
   rw[if_pos (hk.bits k)];rfl
  refine .inr (.inl ⟨{w with heap:=w.heap.setIfInBounds b (.map (es.modify j fun e=>{e with key:=encK k,val:=encV v}) c)},_, ?_,hw.set (cC hl) rfl rfl rfl rfl,hn _ ⟨_,_,rfl, ?_,by rw[Array.toList_modify,Vd_ (g:=fun e=>{e with key:=encK k,val:=encV v}) fun _=>rfl];exact fW⟩⟩)
  ·have: (Instr.mapUpdate t (vm b) (encK k) (encV v)).run P w= .ok () {w with heap:=w.heap.setIfInBounds b (.map (es.modify j fun e=>{e with key:=encK k,val:=encV v}) c)}:=by
    simp only[Instr.mapUpdate,vm,Sem.run_bind,run_underlying hu w,Result.andThen_ok,lJ hb,hk.check,eI,Option.map_some,gQ,uE hb]
   simp only[execOp,Sem.run_bind,hx,hy,hz]
   rw[this];rfl
  rw[Array.toList_modify]
  have:=DE k v es.toList m 0 j a gC hf
  rw[Nat.sub_zero] at this
  exact this
omit [LawfulBEq α] in
def Ow.mapGetG {t kt vt:TypeId} {x y:Operand} {b:Nat} {o:Obj} {m:List (α×β)} {k:α} {z:β} {md':Md} (he:md.turn=some md') (hs:a_ ops f ⟨d, .lookup t x y false,ty,ps,af,g⟩=false) (hu:P.underlying t=some (.map kt vt)) (hk:KeyOk P kt encK)
  (hz:au P vt=some (encV z)) (hx:ev f x=vm b) (hy:ev f y=encK k) (hl:aT w0 L b=some o) (hm:eZ encK encV o m)
  (hn:Ow P w0 ops md' rest (aX f d (encV (getG k z m))) L N):
  Ow P w0 ops md (⟨d, .lookup t x y false,ty,ps,af,g⟩::rest) f L N:=by
 obtain⟨es,c,rfl,gC,-⟩:=hm
 refine Ow.step he rfl hs fun w hw=> ?_
 have hb:=hw.read hl
 have eI:=hk.find encV w k es.toList m gC
 refine .inl ⟨encV (getG k z m),w,L, ?_,hw,hn⟩
 have jv:=DS k m 0
 have: (Instr.lookup t (vm b) (encK k) false).run P w= .ok (encV (getG k z m)) w:=by
  cases hf:gi k m 0 with
  |none=>
   rw[hf] at eI jv
   have hg:getG k z m=z:=by
    unfold getG
    cases h:m.find? fun p=>k==p.1 with
    |none=>rfl
    |some q=>rw[h] at jv;cases jv
   simp only[Instr.lookup,vm,Sem.run_bind,run_underlying hu w,Result.andThen_ok,lJ hb,Sem.run_pure,hk.check,eI,Option.map_none,uD hz w,hg,Bool.false_eq_true, ↓reduceIte]
  |some p=>
   obtain⟨j,a⟩:=p
   rw[hf] at eI jv
   have hg:getG k z m=a:=by
    unfold getG
    cases h:m.find? fun p=>k==p.1 with
    |none=>rw[h] at jv;cases jv
    |some q=>rw[h] at jv;simp only[Option.map_some,Option.some.injEq] at jv;exact jv.symm
   simp only[Instr.lookup,vm,Sem.run_bind,run_underlying hu w,Result.andThen_ok,lJ hb,Sem.run_pure,hk.check,eI,Option.map_some,hg,Bool.false_eq_true, ↓reduceIte]
 simp only[execOp,Sem.run_bind,hx,hy]
 rw[this];rfl
end
section
variable {P:Program} {w0:World} {f:Fr} {L:aB} {N:Fr→aB→Prop} {ops:Array Oper} {rest:List Oper} {md:Md} {d:Option Tmp} {ty:TypeId} {ps:String} {af:Array Edge} {g:Option (Nat×Bool)}
def Ow.callFnXC {x y:Operand} {b:Value} {cap ars:Array Value} (ha: #[b]++cap=ars) {ts:Array TypeId} {k:FuncId} {X Y:aB} {S:Value→aB→Prop} {md':Md} (hL:L=X++Y) (he:md.turn=some md')
  (hs:a_ ops f ⟨d, .call ⟨.value x, #[y],ts⟩,ty,ps,af,g⟩=false)
  (hx:ev f x= .func (.func k) #[] cap) (hy:ev f y=b)
  (hk: ∀a w,(callFunc k a).run P w= .ok (.enter k a) w)
  (hc: ∀w,Hp w0 L w→(∀p,p∈X→w.heap[p.1]? =some p.2)→(keys X).Nodup→Rets P k ars w (XS w X S))
  (hn: ∀v D,Came w0 L X D→S v D→Ow P w0 ops md' rest (aX f d v) (D++Y) N):
  Ow P w0 ops md (⟨d, .call ⟨.value x, #[y],ts⟩,ty,ps,af,g⟩::rest) f L N:=by
 subst hL
 have ao: ∀w,Hp w0 (X++Y) w→(keys X).Nodup∧ ∀c,c∈keys Y→c∉keys X:=by
  intro w hw
  have:=hw.nodup
  rw[ae,List.nodup_append] at this
  exact⟨this.1,fun c hc hx=>this.2.2 c hx c hc rfl⟩
 refine Ow.call (S:=fun B v D=>((∀c,c∈keys D→c∈keys X∨B≤c)∧(∀c,c∈keys X→c∈keys D)∧S v D)∧ ∃w,Hp w0 (X++Y) w∧w.heap.size=B) he hs hx hk (fun w hw=> ?_) ?_
 ·show Rets P k (#[]++ #[y].map (ev f)++cap) w _
  rw[show(#[]++ #[y].map (ev f)++cap:Array Value)=ars by rw[←ha];simp[hy]]
  refine Calls.mono (hc w hw (fun p hp=>hw.has _ _ (bl _ hp)) (ao w hw).1) ?_
  rintro e w' ⟨v,D,he,hp,hS⟩
  exact⟨v,D,he,hp,⟨hS.1.new,hS.1.all,hS.2⟩,w,hw,rfl⟩
 rintro B v D jn hB ⟨⟨h1,h2,h3⟩,w1,aP,hwB⟩
 refine⟨D++Y, ?_,hn v D ⟨fun c hc=>(h1 c hc).imp id fun h=>⟨iF fun b hb=>by have:=aP.lt hb;omega,by have:=aP.size;omega⟩,h2⟩ h3⟩
 intro w w' I6 h k
 have ht:=h.trans k
 have hY: ∀c,c∈keys Y→c∉keys D:=by
  intro c hc hd
  rcases h1 c hd with hx|hx
  ·exact(ao w h).2 c hc hx
  have:=h.lt (b:=c) (by rw[ae];exact db _ hc)
  omega
 have e1:X.filter (fun p=> !(keys D).contains p.1)= []:=by
  rw[List.filter_eq_nil_iff]
  intro p hp
  have:=h2 p.1 (List.mem_map.2 ⟨p,hp,rfl⟩)
  simpa using this
 have e2:Y.filter (fun p=> !(keys D).contains p.1)=Y:=IN hY
 rw[List.filter_append,e1,e2,List.nil_append] at ht
 refine ht.same (fun p=>by simp[or_comm]) ?_
 have:=ht.nodup
 rw[ae] at this ⊢
 exact(List.perm_append_comm.nodup_iff).1 this
end
end Go.Sx
namespace Go.Sx
open Go
def Ext.perm {w:World} {X D D':aB} (h:Ext w X D) (hp:D'.Perm D):Ext w X D':=
 ⟨fun c hc=>h.new c ((hp.map Prod.fst).mem_iff.1 hc),fun c hc=>(hp.map Prod.fst).mem_iff.2 (h.all c hc)⟩
section
variable {P:Program} {w0:World} {f:Fr} {L:aB} {N:Fr→aB→Prop} {ops:Array Oper} {rest:List Oper} {md:Md} {d:Option Tmp} {ty:TypeId} {ps:String} {af:Array Edge} {g:Option (Nat×Bool)}
def Ow.callFnX2 {x y y2:Operand} {b b2:Value} {ts:Array TypeId} {k:FuncId} {X Y:aB} {S:Value→aB→Prop} {md':Md} (hL:L=X++Y) (he:md.turn=some md')
  (hs:a_ ops f ⟨d, .call ⟨.value x, #[y,y2],ts⟩,ty,ps,af,g⟩=false)
  (hx:ev f x= .func (.func k) #[] #[]) (hy:ev f y=b) (z_:ev f y2=b2)
  (hk: ∀a w,(callFunc k a).run P w= .ok (.enter k a) w)
  (hc: ∀w,Hp w0 L w→(∀p,p∈X→w.heap[p.1]? =some p.2)→(keys X).Nodup→Rets P k #[b,b2] w (XS w X S))
  (hn: ∀v D,Came w0 L X D→S v D→Ow P w0 ops md' rest (aX f d v) (D++Y) N):
  Ow P w0 ops md (⟨d, .call ⟨.value x, #[y,y2],ts⟩,ty,ps,af,g⟩::rest) f L N:=by
 subst hL
 have ao: ∀w,Hp w0 (X++Y) w→(keys X).Nodup∧ ∀c,c∈keys Y→c∉keys X:=by
  intro w hw
  have:=hw.nodup
  rw[ae,List.nodup_append] at this
  exact⟨this.1,fun c hc hx=>this.2.2 c hx c hc rfl⟩
 refine Ow.call (S:=fun B v D=>((∀c,c∈keys D→c∈keys X∨B≤c)∧(∀c,c∈keys X→c∈keys D)∧S v D)∧ ∃w,Hp w0 (X++Y) w∧w.heap.size=B) he hs hx hk (fun w hw=> ?_) ?_
 ·show Rets P k (#[]++ #[y,y2].map (ev f)++ #[]) w _
  rw[show(#[]++ #[y,y2].map (ev f)++ #[]:Array Value)= #[b,b2] by simp[hy,z_]]
  refine Calls.mono (hc w hw (fun p hp=>hw.has _ _ (bl _ hp)) (ao w hw).1) ?_
  rintro e w' ⟨v,D,he,hp,hS⟩
  exact⟨v,D,he,hp,⟨hS.1.new,hS.1.all,hS.2⟩,w,hw,rfl⟩
 rintro B v D jn hB ⟨⟨h1,h2,h3⟩,w1,aP,hwB⟩
 refine⟨D++Y, ?_,hn v D ⟨fun c hc=>(h1 c hc).imp id fun h=>⟨iF fun b hb=>by have:=aP.lt hb;omega,by have:=aP.size;omega⟩,h2⟩ h3⟩
 intro w w' I6 h k
 have ht:=h.trans k
 have hY: ∀c,c∈keys Y→c∉keys D:=by
  intro c hc hd
  rcases h1 c hd with hx|hx
  ·exact(ao w h).2 c hc hx
  have:=h.lt (b:=c) (by rw[ae];exact db _ hc)
  omega
 have e1:X.filter (fun p=> !(keys D).contains p.1)= []:=by
  rw[List.filter_eq_nil_iff]
  intro p hp
  have:=h2 p.1 (List.mem_map.2 ⟨p,hp,rfl⟩)
  simpa using this
 have e2:Y.filter (fun p=> !(keys D).contains p.1)=Y:=IN hY
 rw[List.filter_append,e1,e2,List.nil_append] at ht
 refine ht.same (fun p=>by simp[or_comm]) ?_
 have:=ht.nodup
 rw[ae] at this ⊢
 exact(List.perm_append_comm.nodup_iff).1 this
end
end Go.Sx
namespace Go.Sx
open Go
section
variable {P:Program} {w0:World} {l:List Oper} {R ts:List Nat} {n:Nat} {listed:List Bool} {f:Fr} {L:aB} {N:Fr→aB→Prop}
def OwG (P:Program) (w0:World) (l:List Oper) (R ts:List Nat) (n:Nat) (listed:List Bool) (f:Fr) (L:aB) (N:Fr→aB→Prop):Prop:=
 ∀w,Hp w0 L w→lg P l.toArray (eu w0 N) ts (SR w0 R L) n listed.toArray (act f) w
def Cw.regionG {id:Nat} {K:cK} (R ts:List Nat) (m:Nat) (hl:l.length=m) (hm:P.follows .mixedOrders=true) (h:OwG P w0 l R ts m (List.replicate m false) f L (K .normal)):Cw P w0 (.region id l.toArray true) f L K:=by
 intro w hw
 subst hl
 refine wp_mono (wp_region_any hm ?_) fun _ _ _ h=>ye h
 have:=IG _ _ _ _ (h _ hw.drew)
 simpa using this
def chkG (P:Program) (l:List Oper) (ts:List Nat):List Nat→List Bool→Option (List Bool)
 | [],listed=>some listed
 |k::is,listed=>
  match dR l k with
  |some o=>if !ts.contains k&& (ts.all fun t=> !listed.toArray.getD t true)&& (Region.ready .any l.toArray listed.toArray).contains k&&Region.free .any l.toArray listed.toArray k&&
    (g7 P o.op|| (iq o.op&&vu l.toArray ts listed.toArray k)) then chkG P l ts is (listed.set k true) else none
  |none=>none
def OwG.step {k:Nat} {o:Oper} {v:Value} (dJ:Region.noSelect l.toArray=true) (hk:dR l k=some o) {rest:List Bool} (hc:chkG P l ts [k] listed=some rest)
  (hY:YieldsC P l.toArray (SR w0 R L) (g7 P o.op=true) o v (act f)) (h:OwG P w0 l R ts n rest (aX f o.dst v) L N):OwG P w0 l R ts (n+1) listed f L N:=by
 have jI:l.toArray[k]? =some o:=by rw[oL] at hk;simpa using hk
 unfold chkG at hc
 rw[hk] at hc
 simp only at hc
 split at hc
 ·rename_i mG
  simp only[chkG,Option.some.injEq] at hc
  subst hc
  simp only[Bool.and_eq_true,Bool.or_eq_true,Bool.not_eq_true',List.all_eq_true,List.contains_eq_mem,decide_eq_true_eq,decide_eq_false_iff_not] at mG
  obtain⟨⟨⟨⟨c2,c3⟩,c4⟩,c5⟩,c9⟩:=mG
  have iz:=Region.noSelect_spec dJ
  intro w hw
  refine u6 jI c2 iz (fun c a w h=>mb h) _ _ _ _ (t_ (P:=P) jI c4 c5 (c9.imp id fun h=>⟨h.1,h.2,fun t ht=>c3 t ht⟩)) (.inr fun t ht=>c3 t ht) hY ?_
  rw[fi,pO]
  exact h w hw
 cases hc
def Uk {k:Nat} {is:List Nat} {listed listed':List Bool} (h:chkG P l ts (k::is) listed=some listed'):chkG P l ts [k] listed=some (listed.set k true)∧chkG P l ts is (listed.set k true)=some listed':=by
 rw[chkG] at h
 cases ho:dR l k with
 |none=>rw[ho] at h;cases h
 |some o=>
  rw[ho] at h
  simp only at h
  split at h
  ·rename_i mG
   refine⟨?_,h⟩
   rw[chkG,ho]
   simp only
   rw[if_pos mG];rfl
  cases h
theorem OwG.runs {k:Md→List Oper→Fr→aB→Prop} (dJ:Region.noSelect l.toArray=true): ∀ (is:List Nat) {listed listed':List Bool} {f:Fr} {L:aB},chkG P l ts is listed=some listed'→
  (∀md r f' L',k md r f' L'→r= []∧OwG P w0 l R ts n listed' f' L' N)→vcL P w0 l.toArray false (.sof R [] []) (ga l is) f L k→OwG P w0 l R ts (is.length+n) listed f L N
 | [],listed,listed',f,L,hc,hk,h=>by
  cases hc
  rw[List.length_nil,Nat.zero_add]
  exact(hk _ _ _ _ h).2
 |i::is,listed,listed',f,L,hc,hk,h=>by
  obtain⟨dI,dy⟩:=Uk hc
  rw[ay] at h
  cases ho:dR l i with
  |none=>unfold chkG at dI;rw[ho] at dI;cases dI
  |some o=>
   rw[ho,az] at h
   unfold vcL at h
   rw[List.length_cons,show is.length+1+n=(is.length+n)+1 by omega]
   cases hs:a_ l.toArray f o with
   |true=>
    rw[hs] at h
    have eU:Region.wanted o (yielded l.toArray (act f).tmps)=false:=by rw[lH,hs];rfl
    exact OwG.step dJ ho dI (v:=undef) (.inr ⟨eU,rfl⟩) (OwG.runs dJ is dy hk h)
   |false=>
    rw[hs] at h
    have eU:Region.wanted o (yielded l.toArray (act f).tmps)=true:=by rw[lH,hs];rfl
    simp only[ib,vcB] at h
    split at h
    ·cases cW:rdOk (.sof R [] []) f o.op with
     |false=>rw[cW] at h;exact absurd (hk _ _ _ _ h).1 (by simp)
     |true=>
      rw[cW] at h
      simp only at h
      cases hv:j3 P w0 L f o.op with
      |none=>rw[hv] at h;exact absurd (hk _ _ _ _ h).1 (by simp)
      |some v=>
       rw[hv] at h
       refine OwG.step dJ ho dI (v:=v) (.inl ⟨eU,fun w hw=> ?_⟩) (OwG.runs dJ is dy hk h)
       rw[rl]
       rcases hw with hp|hw
       ·exact pG (Hp.refl w) (A9 hp hv w)
       exact pG (Hp.refl w) (KO cW hv hw)
    ·exact absurd (hk _ _ _ _ h).1 (by simp)
    exact absurd (hk _ _ _ _ h).1 (by simp)
def OwG.run (is:List Nat) (listed':List Bool) (n:Nat) {m:Nat} (hm:m=is.length+n) (dJ:Region.noSelect l.toArray=true) (hc:chkG P l ts is listed=some listed')
  (h: ∀k:Md→List Oper→Fr→aB→Prop,(∀md f L,OwG P w0 l R ts n listed' f L N→k md [] f L)→nl (ga l is) fun l'=>vcL P w0 l.toArray false (.sof R [] []) l' f L k):OwG P w0 l R ts m listed f L N:=by
 subst hm
 refine OwG.runs (k:=fun _ r f' L'=>r= []∧OwG P w0 l R ts n listed' f' L' N) dJ is hc (fun _ _ _ _ h=>h) ?_
 exact h _ fun _ _ _ h=>⟨rfl,h⟩
def sb (l:List Oper) (ts:List Nat) (ks:List Nat) (listed:List Bool):Bool:=
 ((Region.ready .any l.toArray listed.toArray).all fun i=>ks.contains i)&& (Region.ready .any l.toArray listed.toArray != [])&&ks.all fun k=> !ts.contains k
def OwG.softs (ks:List Nat) (hs:sb l ts ks listed=true)
  (h: ∀k,k∈ks→ ∀o,dR l k=some o→Ow P w0 l.toArray .seq [o] f L (fun f' L'=>(∀r,r∈R→aT w0 L' r=aT w0 L r)∧OwG P w0 l R ts n (listed.set k true) f' L' N)):
  OwG P w0 l R ts (n+1) listed f L N:=by
 unfold sb at hs
 simp only[Bool.and_eq_true,List.all_eq_true,bne_iff_ne,ne_eq,List.contains_eq_mem,decide_eq_true_eq,Bool.not_eq_true',decide_eq_false_iff_not] at hs
 obtain⟨⟨c3,c4⟩,c6⟩:=hs
 intro w hw
 refine⟨fun _=>SR.of hw,fun hr=>absurd hr c4,fun i hi=> ?_⟩
 have hik:=c3 i hi
 obtain⟨-,oi,jI,-⟩:=mem_ready.1 hi
 have hni:dR l i=some oi:=by rw[oL];simpa using jI
 refine vf jI (X:=lg P l.toArray (eu w0 N) ts (SR w0 R L) n (listed.toArray.setIfInBounds i true)) ?_ hw
 intro w' aA
 have h1:=h i hik oi hni w' aA
 refine K7 ?_ h1
 rintro f' L' ⟨hS,hO⟩ w'' mV
 rw[zG hS,pO]
 exact hO w'' mV
def OwG.one (i:Nat) (oi:Oper) (hs:sb l ts [i] listed=true) (hi:dR l i=some oi)
  (h:Ow P w0 l.toArray .seq [oi] f L (fun f' L'=>(∀r,r∈R→aT w0 L' r=aT w0 L r)∧OwG P w0 l R ts n (listed.set i true) f' L' N)):OwG P w0 l R ts (n+1) listed f L N:=
 OwG.softs [i] hs fun k hk o ho=>by
  rw[List.mem_singleton] at hk
  subst hk
  rw[hi] at ho
  cases ho
  exact h
def OwG.two (i j:Nat) (oi oj:Oper) (hs:sb l ts [i,j] listed=true) (hi:dR l i=some oi) (hj:dR l j=some oj)
  (h1:Ow P w0 l.toArray .seq [oi] f L (fun f' L'=>(∀r,r∈R→aT w0 L' r=aT w0 L r)∧OwG P w0 l R ts n (listed.set i true) f' L' N))
  (h2:Ow P w0 l.toArray .seq [oj] f L (fun f' L'=>(∀r,r∈R→aT w0 L' r=aT w0 L r)∧OwG P w0 l R ts n (listed.set j true) f' L' N)):OwG P w0 l R ts (n+1) listed f L N:=
 OwG.softs [i,j] hs fun k hk o ho=>by
  simp only[List.mem_cons,List.not_mem_nil,or_false] at hk
  rcases hk with rfl|rfl
  ·rw[hi] at ho;cases ho;exact h1
  rw[hj] at ho;cases ho;exact h2
def OwG.permL {M:aB} (hp:M.Perm L) (hR: ∀r,r∈R→aT w0 M r=aT w0 L r) (h:OwG P w0 l R ts n listed f M N):OwG P w0 l R ts n listed f L N:=by
 intro w hw
 rw[zG hR]
 exact h w (hw.perm hp)
def GF (P:Program) (l:List Oper) (is ts:List Nat) (listed:List Bool):Bool:=
 Region.noSelect l.toArray&&uI P l.toArray ts is listed.toArray&&ts.all fun t=> !listed.toArray.getD t true
def OwG.rest (is:List Nat) {m:Nat} (hm:m=is.length) (hB:GF P l is ts listed=true) (hl:is.map (fun i:Nat=>l[i]?)=(ga l is).map some)
  (h:nl (ga l is) fun l'=>Ow P w0 l.toArray (.sof R is ts) l' f L N):OwG P w0 l R ts m listed f L N:=by
 subst hm
 revert hl h
 generalize ga l is=l'
 intro hl h w hw
 simp only[GF,Bool.and_eq_true,List.all_eq_true,Bool.not_eq_true'] at hB
 obtain⟨⟨h1,h4⟩,h5⟩:=hB
 have aS:is.length=l'.length:=by have:=congrArg List.length hl;simpa using this
 have hF:Fits P l.toArray ts is l' listed.toArray:=⟨aS,fun j=>by
  have:=congrArg (·[j]?) hl
  simp only[List.getElem?_map] at this
  cases hj:is[j]? with
  |none=>
   rw[hj] at this
   simp only[Option.map_none] at this
   cases gD:l'[j]? with
   |none=>rfl
   |some x=>rw[gD] at this;cases this
  |some i=>
   rw[hj] at this
   simp only[Option.map_some] at this
   cases gD:l'[j]? with
   |none=>rw[gD] at this;cases this
   |some x=>
    rw[gD] at this
    simp only[Option.map_some,Option.some.injEq] at this
    simp[this],h1,h4⟩
 rw[aS]
 exact(h:Ow P w0 l.toArray (.sof R is ts) l' f L N) listed.toArray hF (fun t ht=>h5 t ht) w hw
end
def CutO {G:Type} (M:List Nat) (S:G→List (Nat×Value)) (H:G→aB) (J:G→Prop) (f f':Fr) (L':aB):Prop:=
 ∃g,J g∧L'=H g∧f'=pin (lY (eT f') M 0 f) (S g)
def CutO.mk {G:Type} {M:List Nat} {S:G→List (Nat×Value)} {H:G→aB} {J:G→Prop} {f f':Fr} {L':aB} (g:G) (hJ:J g) (hL:L'=H g) (hf:f'=pin (lY (eT f') M 0 f) (S g)):CutO M S H J f f' L':=⟨g,hJ,hL,hf⟩
def Cw.cutO {P:Program} {w0:World} {x y:Code} {f:Fr} {L:aB} {K:cK} {G:Type} (M:List Nat) (S:G→List (Nat×Value)) (H:G→aB) (J:G→Prop) (h1:Cw P w0 x f L (kh (CutO M S H J f) K))
  (h2: ∀ (g:G) (j:Nat→Value),J g→Cw P w0 y (pin (lY j M 0 f) (S g)) (H g) K):Cw P w0 (.seq x y) f L K:=by
 refine Cw.seq (h1.mono fun e f' L' k=> ?_)
 cases e with
 |normal=>
  obtain⟨g,hJ,rfl,hf⟩:=k
  have:=h2 g (eT f') hJ
  rw[←hf] at this
  exact this
 |_=>exact k
end Go.Sx
namespace Go.Sx
open Go
def kv (e:MapEntry):Value×Value:=(e.key,e.val)
def ItR (o:Obj) (bm:Nat) (om:Obj) (m dn lf:aZ):Prop:=
 ∃es clock,∃ds:List MapEntry,om= .map es clock∧(es.toList.map (·.born)++ [clock]).Pairwise (· < ·)∧o= .mapIter (some bm) clock (ds.map (·.born)).toArray clock∧
  ds.map kv=dn.map jS∧(∀d,d∈ds→d∈es.toList)∧((es.toList.filter fun e=> !(ds.map (·.born)).contains e.born).map kv=lf.map jS)∧(dn++lf).Perm m
def JG {l:List MapEntry} {c:Nat} (h: (l.map (·.born)++ [c]).Pairwise (· < ·)): (l.map (·.born)).Nodup:=
 ((List.pairwise_append.1 h).1).imp fun h=>Nat.ne_of_lt h
def F4 {l:List MapEntry} {c:Nat} (h: (l.map (·.born)++ [c]).Pairwise (· < ·)): ∀x,x∈l→x.born<c:=fun x hx=>
 (List.pairwise_append.1 h).2.2 _ (List.mem_map.2 ⟨x,hx,rfl⟩) c (List.mem_singleton.2 rfl)
def IY (es:Array MapEntry) (ds:List MapEntry): (leftOf es (ds.map (·.born)).toArray).toList=es.toList.filter fun e=> !(ds.map (·.born)).contains e.born:=by
 unfold leftOf
 rw[Array.toList_filter]
 simp
def ItR.start {bm:Nat} {om:Obj} {m:aZ} (h:MapR om m): ∃es clock,om= .map es clock∧ItR (.mapIter (some bm) clock #[] clock) bm om m [] m:=by
 obtain⟨es,clock,rfl,h1,h2⟩:=h
 refine⟨es,clock,rfl,es,clock,[],rfl,h2,rfl,rfl,(fun d hd=>by cases hd), ?_,by rw[List.nil_append]⟩
 rw[show(es.toList.filter fun e=> !(([]:List MapEntry).map (·.born)).contains e.born)=es.toList from List.filter_eq_self.2 (fun _ _=>rfl)]
 exact h1
def ItR.step {bm:Nat} {om:Obj} {m dn lf:aZ} {es:Array MapEntry} {clock:Nat} {ds:List MapEntry} {e:MapEntry} (hb: (es.toList.map (·.born)++ [clock]).Pairwise (· < ·))
  (hd:ds.map kv=dn.map jS) (hm: ∀d,d∈ds→d∈es.toList) (hl: (es.toList.filter fun e=> !(ds.map (·.born)).contains e.born).map kv=lf.map jS) (hp: (dn++lf).Perm m)
  (he:e∈es.toList.filter fun e=> !(ds.map (·.born)).contains e.born) (jJ:om= .map es clock):
  ∃p lf',kv e=jS p∧lf.length=lf'.length+1∧ItR (.mapIter (some bm) clock ((ds.map (·.born)).toArray.push e.born) clock) bm om m (dn++ [p]) lf':=by
 obtain⟨A,C,xW⟩:=List.append_of_mem he
 rw[xW,List.map_append,List.map_cons] at hl
 obtain⟨l1,l2,rfl,h1,h2⟩:=List.append_eq_map_iff.1 hl
 obtain⟨p,l3,rfl,h3,h4⟩:=(List.map_eq_cons_iff.1 h2)
 refine⟨p,l1++l3,h3.symm,by simp;omega,es,clock,ds++ [e],jJ,hb,by simp,by simp[hd,h3], ?_, ?_, ?_⟩
 ·intro d ju
  rcases List.mem_append.1 ju with h|h
  ·exact hm d h
  rw[List.mem_singleton] at h;subst h;exact(List.mem_filter.1 he).1
 ·have ao: ((A++e::C).map (·.born)).Nodup:=by
   rw[←xW]
   exact(JG hb).sublist ((List.filter_sublist).map _)
  have e1: (es.toList.filter fun x=> !((ds++ [e]).map (·.born)).contains x.born)=(A++e::C).filter fun x=> !(x.born==e.born):=by
   rw[←xW,List.filter_filter]
   refine List.filter_congr fun x hx=> ?_
   simp only[List.map_append,List.map_cons,List.map_nil,List.contains_append,List.contains_cons,List.contains_nil,Bool.or_false,Bool.not_or]
   rw[Bool.and_comm]
  rw[List.map_append,List.map_cons,List.nodup_append] at ao
  obtain⟨-,mw,yE⟩:=ao
  rw[List.nodup_cons] at mw
  have e2: ((A++e::C).filter fun x=> !(x.born==e.born))=A++C:=by
   rw[List.filter_append,List.filter_cons]
   simp only[beq_self_eq_true,Bool.not_true,Bool.false_eq_true, ↓reduceIte]
   congr 1
   ·refine List.filter_eq_self.2 fun x hx=> ?_
    have:=yE x.born (List.mem_map.2 ⟨x,hx,rfl⟩) e.born aa
    simpa using this
   refine List.filter_eq_self.2 fun x hx=> ?_
   have:x.born≠e.born:=fun h=>mw.1 (h▸List.mem_map.2 ⟨x,hx,rfl⟩)
   simpa using this
  rw[e1,e2,List.map_append,List.map_append,h1,h4]
 refine List.Perm.trans ?_ hp
 rw[List.append_assoc]
 refine List.Perm.append_left dn ?_
 rw[List.singleton_append]
 exact List.perm_middle.symm
section
variable {P:Program} {w0:World} {f:Fr} {L:aB} {N:Fr→aB→Prop} {ops:Array Oper} {rest:List Oper} {md:Md}
 {d:Option Tmp} {ty:TypeId} {ps:String} {af:Array Edge} {g:Option (Nat×Bool)}
def itv (b:Nat):Value:= .pointer (some ⟨b,0,none⟩)
def Ow.rangeMap {t kt vt:TypeId} {x:Operand} {bm:Nat} {om:Obj} {m:aZ} {md':Md} (he:md.turn=some md') (hs:a_ ops f ⟨d, .range t x,ty,ps,af,g⟩=false) (hu:P.underlying t=some (.map kt vt))
  (hx:ev f x=vm bm) (hl:aT w0 L bm=some om) (hm:MapR om m)
  (hn: ∀b o,eP L b→w0.heap.size≤b→ItR o bm om m [] m→Ow P w0 ops md' rest (aX f d (itv b)) (L++ [(b,o)]) N):
  Ow P w0 ops md (⟨d, .range t x,ty,ps,af,g⟩::rest) f L N:=by
 obtain⟨es,clock,rfl,hI⟩:=ItR.start (bm:=bm) hm
 refine Ow.step he rfl hs fun w hw=> .inl ⟨itv w.heap.size,w.alloc (.mapIter (some bm) clock #[] clock),_, ?_,hw.alloc _,hn _ _ (iF fun b hb=>hw.lt hb) hw.size hI⟩
 have hb:=hw.read hl
 have: (Instr.range t (vm bm)).run P w= .ok (itv w.heap.size) (w.alloc (.mapIter (some bm) clock #[] clock)):=by
  simp only[Instr.range,vm,Sem.run_bind,run_underlying hu w,Result.andThen_ok,lJ hb]
  rfl
 simp only[execOp,Sem.run_bind,hx]
 rw[this];rfl
def Ow.nextMap {x:Operand} {r bm:Nat} {o om:Obj} {m dn lf:aZ} {md':Md} (he:md.turn=some md') (hs:a_ ops f ⟨d, .next x false,ty,ps,af,g⟩=false)
  (hx:ev f x=itv r) (hl:look L r=some o) (mO:aT w0 L bm=some om) (hI:ItR o bm om m dn lf)
  (h0:lf= []→Ow P w0 ops md' rest (aX f d (.tuple #[.bool false])) L N)
  (h1: ∀p o' lf',lf.length=lf'.length+1→ItR o' bm om m (dn++ [p]) lf'→Ow P w0 ops md' rest (aX f d (.tuple #[.bool true,vs p.1, .agg (a8 p.2)])) (setB L r o') N):
  Ow P w0 ops md (⟨d, .next x false,ty,ps,af,g⟩::rest) f L N:=by
 refine Ow.step he rfl hs fun w hw=> ?_
 have hr:=hw.has _ _ (cu hl)
 have hb:=hw.read mO
 obtain⟨es,clock,ds,rfl,fW,rfl,hd,hm,i8,hp⟩:=hI
 rcases run_next_at (P:=P) w ty r bm clock clock (ds.map (·.born)).toArray es clock hr hb (F4 fW) (ap _) with⟨hz,iB⟩ | ⟨e,HF,w1,aP,iB⟩
 ·refine .inl ⟨.tuple #[.bool false],w,L, ?_,hw,h0 ?_⟩
  ·simp only[execOp,Sem.run_bind,hx,itv]
   rw[iB];rfl
  have: (leftOf es (ds.map (·.born)).toArray).toList= []:=by
   rw[Array.toList_eq_nil_iff];exact Array.eq_empty_of_size_eq_zero hz
  rw[IY] at this
  rw[this] at i8
  exact(List.map_eq_nil_iff.1 i8.symm)
 rw[IY] at HF
 obtain⟨p,lf',hk,aS,iS⟩:=ItR.step (bm:=bm) fW hd hm i8 hp HF rfl
 simp only[kv,jS,Prod.mk.injEq] at hk
 have yb:Hp w0 L w1:=by rcases aP with rfl|rfl;exact hw;exact hw.drew
 refine .inl ⟨.tuple #[.bool true,vs p.1, .agg (a8 p.2)],ChangeMaps.setBlock w1 r (.mapIter (some bm) clock ((ds.map (·.born)).toArray.push e.born) clock),_, ?_,yb.set (cC hl) rfl rfl rfl rfl,h1 p _ lf' aS iS⟩
 simp only[execOp,Sem.run_bind,hx,itv]
 rw[iB,hk.1,hk.2];rfl
def Ow.entryMap {x:Operand} {r bm:Nat} {o om:Obj} {m dn lf:aZ} {p:List UInt8×List UInt8} {md':Md} (he:md.turn=some md') (hs:a_ ops f ⟨d, .entry x,ty,ps,af,g⟩=false)
  (hx:ev f x=itv r) (hl:aT w0 L r=some o) (mO:aT w0 L bm=some om) (hI:ItR o bm om m (dn++ [p]) lf)
  (hn:Ow P w0 ops md' rest (aX f d (.tuple #[vs p.1, .agg (a8 p.2)])) L N):
  Ow P w0 ops md (⟨d, .entry x,ty,ps,af,g⟩::rest) f L N:=by
 refine Ow.step he rfl hs fun w hw=> .inl ⟨_,w,L, ?_,hw,hn⟩
 have hr:=hw.read hl
 have hb:=hw.read mO
 obtain⟨es,clock,ds,rfl,fW,rfl,hd,hm,i8,hp⟩:=hI
 rw[List.map_append,List.map_cons,List.map_nil] at hd
 obtain⟨d1,d2,rfl,-,h2⟩:=List.map_eq_append_iff.1 hd
 obtain⟨e,d3,rfl,h3,h4⟩:=List.map_eq_cons_iff.1 h2
 obtain rfl:=List.map_eq_nil_iff.1 h4
 simp only[kv,jS,Prod.mk.injEq] at h3
 have kS: ((d1++ [e]).map (·.born)).toArray=(d1.map (·.born)).toArray.push e.born:=by simp
 rw[kS] at hr
 have iB:=run_entry_at (P:=P) w r bm clock (d1.map (·.born)).toArray es clock e hr hb (hm e (by simp)) (JG fW)
 simp only[execOp,Sem.run_bind,hx,itv]
 rw[iB,h3.1,h3.2];rfl
end
end Go.Sx
namespace Go.Sx
open Go
def ItG {α β:Type} (encK:α→Value) (encV:β→Value) (o:Obj) (bm:Nat) (om:Obj) (m dn lf:List (α×β)):Prop:=
 ∃es clock,∃ds:List MapEntry,om= .map es clock∧(es.toList.map (·.born)++ [clock]).Pairwise (· < ·)∧o= .mapIter (some bm) clock (ds.map (·.born)).toArray clock∧
  ds.map kv=dn.map (iJ encK encV)∧(∀d,d∈ds→d∈es.toList)∧((es.toList.filter fun e=> !(ds.map (·.born)).contains e.born).map kv=lf.map (iJ encK encV))∧(dn++lf).Perm m
def ItG.start {α β:Type} {encK:α→Value} {encV:β→Value} {bm:Nat} {om:Obj} {m:List (α×β)} (h:eZ encK encV om m): ∃es clock,om= .map es clock∧ItG encK encV (.mapIter (some bm) clock #[] clock) bm om m [] m:=by
 obtain⟨es,clock,rfl,h1,h2⟩:=h
 refine⟨es,clock,rfl,es,clock,[],rfl,h2,rfl,rfl,(fun d hd=>by cases hd), ?_,by rw[List.nil_append]⟩
 rw[show(es.toList.filter fun e=> !(([]:List MapEntry).map (·.born)).contains e.born)=es.toList from List.filter_eq_self.2 (fun _ _=>rfl)]
 exact h1
def ItG.step {α β:Type} {encK:α→Value} {encV:β→Value} {bm:Nat} {om:Obj} {m dn lf:List (α×β)} {es:Array MapEntry} {clock:Nat} {ds:List MapEntry} {e:MapEntry} (hb: (es.toList.map (·.born)++ [clock]).Pairwise (· < ·))
  (hd:ds.map kv=dn.map (iJ encK encV)) (hm: ∀d,d∈ds→d∈es.toList) (hl: (es.toList.filter fun e=> !(ds.map (·.born)).contains e.born).map kv=lf.map (iJ encK encV)) (hp: (dn++lf).Perm m)
  (he:e∈es.toList.filter fun e=> !(ds.map (·.born)).contains e.born) (jJ:om= .map es clock):
  ∃p lf',kv e=iJ encK encV p∧lf.length=lf'.length+1∧ItG encK encV (.mapIter (some bm) clock ((ds.map (·.born)).toArray.push e.born) clock) bm om m (dn++ [p]) lf':=by
 obtain⟨A,C,xW⟩:=List.append_of_mem he
 rw[xW,List.map_append,List.map_cons] at hl
 obtain⟨l1,l2,rfl,h1,h2⟩:=List.append_eq_map_iff.1 hl
 obtain⟨p,l3,rfl,h3,h4⟩:=(List.map_eq_cons_iff.1 h2)
 refine⟨p,l1++l3,h3.symm,by simp;omega,es,clock,ds++ [e],jJ,hb,by simp,by simp[hd,h3], ?_, ?_, ?_⟩
 ·intro d ju
  rcases List.mem_append.1 ju with h|h
  ·exact hm d h
  rw[List.mem_singleton] at h;subst h;exact(List.mem_filter.1 he).1
 ·have ao: ((A++e::C).map (·.born)).Nodup:=by
   rw[←xW]
   exact(JG hb).sublist ((List.filter_sublist).map _)
  have e1: (es.toList.filter fun x=> !((ds++ [e]).map (·.born)).contains x.born)=(A++e::C).filter fun x=> !(x.born==e.born):=by
   rw[←xW,List.filter_filter]
   refine List.filter_congr fun x hx=> ?_
   simp only[List.map_append,List.map_cons,List.map_nil,List.contains_append,List.contains_cons,List.contains_nil,Bool.or_false,Bool.not_or]
   rw[Bool.and_comm]
  rw[List.map_append,List.map_cons,List.nodup_append] at ao
  obtain⟨-,mw,yE⟩:=ao
  rw[List.nodup_cons] at mw
  have e2: ((A++e::C).filter fun x=> !(x.born==e.born))=A++C:=by
   rw[List.filter_append,List.filter_cons]
   simp only[beq_self_eq_true,Bool.not_true,Bool.false_eq_true, ↓reduceIte]
   congr 1
   ·refine List.filter_eq_self.2 fun x hx=> ?_
    have:=yE x.born (List.mem_map.2 ⟨x,hx,rfl⟩) e.born aa
    simpa using this
   refine List.filter_eq_self.2 fun x hx=> ?_
   have:x.born≠e.born:=fun h=>mw.1 (h▸List.mem_map.2 ⟨x,hx,rfl⟩)
   simpa using this
  rw[e1,e2,List.map_append,List.map_append,h1,h4]
 refine List.Perm.trans ?_ hp
 rw[List.append_assoc]
 refine List.Perm.append_left dn ?_
 rw[List.singleton_append]
 exact List.perm_middle.symm
section
variable {α β:Type} {encK:α→Value} {encV:β→Value} {P:Program} {w0:World} {f:Fr} {L:aB} {N:Fr→aB→Prop} {ops:Array Oper} {rest:List Oper} {md:Md}
 {d:Option Tmp} {ty:TypeId} {ps:String} {af:Array Edge} {g:Option (Nat×Bool)}
def Ow.rangeMapG {t kt vt:TypeId} {x:Operand} {bm:Nat} {om:Obj} {m:List (α×β)} {md':Md} (he:md.turn=some md') (hs:a_ ops f ⟨d, .range t x,ty,ps,af,g⟩=false) (hu:P.underlying t=some (.map kt vt))
  (hx:ev f x=vm bm) (hl:aT w0 L bm=some om) (hm:eZ encK encV om m)
  (hn: ∀b o,eP L b→w0.heap.size≤b→ItG encK encV o bm om m [] m→Ow P w0 ops md' rest (aX f d (itv b)) (L++ [(b,o)]) N):
  Ow P w0 ops md (⟨d, .range t x,ty,ps,af,g⟩::rest) f L N:=by
 obtain⟨es,clock,rfl,hI⟩:=ItG.start (bm:=bm) hm
 refine Ow.step he rfl hs fun w hw=> .inl ⟨itv w.heap.size,w.alloc (.mapIter (some bm) clock #[] clock),_, ?_,hw.alloc _,hn _ _ (iF fun b hb=>hw.lt hb) hw.size hI⟩
 have hb:=hw.read hl
 have: (Instr.range t (vm bm)).run P w= .ok (itv w.heap.size) (w.alloc (.mapIter (some bm) clock #[] clock)):=by
  simp only[Instr.range,vm,Sem.run_bind,run_underlying hu w,Result.andThen_ok,lJ hb]
  rfl
 simp only[execOp,Sem.run_bind,hx]
 rw[this];rfl
def Ow.nextMapG {x:Operand} {r bm:Nat} {o om:Obj} {m dn lf:List (α×β)} {md':Md} (he:md.turn=some md') (hs:a_ ops f ⟨d, .next x false,ty,ps,af,g⟩=false)
  (hx:ev f x=itv r) (hl:look L r=some o) (mO:aT w0 L bm=some om) (hI:ItG encK encV o bm om m dn lf)
  (h0:lf= []→Ow P w0 ops md' rest (aX f d (.tuple #[.bool false])) L N)
  (h1: ∀p o' lf',lf.length=lf'.length+1→ItG encK encV o' bm om m (dn++ [p]) lf'→Ow P w0 ops md' rest (aX f d (.tuple #[.bool true,encK p.1,encV p.2])) (setB L r o') N):
  Ow P w0 ops md (⟨d, .next x false,ty,ps,af,g⟩::rest) f L N:=by
 refine Ow.step he rfl hs fun w hw=> ?_
 have hr:=hw.has _ _ (cu hl)
 have hb:=hw.read mO
 obtain⟨es,clock,ds,rfl,fW,rfl,hd,hm,i8,hp⟩:=hI
 rcases run_next_at (P:=P) w ty r bm clock clock (ds.map (·.born)).toArray es clock hr hb (F4 fW) (ap _) with⟨hz,iB⟩ | ⟨e,HF,w1,aP,iB⟩
 ·refine .inl ⟨.tuple #[.bool false],w,L, ?_,hw,h0 ?_⟩
  ·simp only[execOp,Sem.run_bind,hx,itv]
   rw[iB];rfl
  have: (leftOf es (ds.map (·.born)).toArray).toList= []:=by
   rw[Array.toList_eq_nil_iff];exact Array.eq_empty_of_size_eq_zero hz
  rw[IY] at this
  rw[this] at i8
  exact(List.map_eq_nil_iff.1 i8.symm)
 rw[IY] at HF
 obtain⟨p,lf',hk,aS,iS⟩:=ItG.step (bm:=bm) fW hd hm i8 hp HF rfl
 simp only[kv,iJ,Prod.mk.injEq] at hk
 have yb:Hp w0 L w1:=by rcases aP with rfl|rfl;exact hw;exact hw.drew
 refine .inl ⟨.tuple #[.bool true,encK p.1,encV p.2],ChangeMaps.setBlock w1 r (.mapIter (some bm) clock ((ds.map (·.born)).toArray.push e.born) clock),_, ?_,yb.set (cC hl) rfl rfl rfl rfl,h1 p _ lf' aS iS⟩
 simp only[execOp,Sem.run_bind,hx,itv]
 rw[iB,hk.1,hk.2];rfl
def Ow.entryMapG {x:Operand} {r bm:Nat} {o om:Obj} {m dn lf:List (α×β)} {p:α×β} {md':Md} (he:md.turn=some md') (hs:a_ ops f ⟨d, .entry x,ty,ps,af,g⟩=false)
  (hx:ev f x=itv r) (hl:aT w0 L r=some o) (mO:aT w0 L bm=some om) (hI:ItG encK encV o bm om m (dn++ [p]) lf)
  (hn:Ow P w0 ops md' rest (aX f d (.tuple #[encK p.1,encV p.2])) L N):
  Ow P w0 ops md (⟨d, .entry x,ty,ps,af,g⟩::rest) f L N:=by
 refine Ow.step he rfl hs fun w hw=> .inl ⟨_,w,L, ?_,hw,hn⟩
 have hr:=hw.read hl
 have hb:=hw.read mO
 obtain⟨es,clock,ds,rfl,fW,rfl,hd,hm,i8,hp⟩:=hI
 rw[List.map_append,List.map_cons,List.map_nil] at hd
 obtain⟨d1,d2,rfl,-,h2⟩:=List.map_eq_append_iff.1 hd
 obtain⟨e,d3,rfl,h3,h4⟩:=List.map_eq_cons_iff.1 h2
 obtain rfl:=List.map_eq_nil_iff.1 h4
 simp only[kv,iJ,Prod.mk.injEq] at h3
 have kS: ((d1++ [e]).map (·.born)).toArray=(d1.map (·.born)).toArray.push e.born:=by simp
 rw[kS] at hr
 have iB:=run_entry_at (P:=P) w r bm clock (d1.map (·.born)).toArray es clock e hr hb (hm e (by simp)) (JG fW)
 simp only[execOp,Sem.run_bind,hx,itv]
 rw[iB,h3.1,h3.2];rfl
end
def P6 (l:List UInt8):Instr.sameBits 10000 (.agg (a8 l)) (.agg (a8 l))=true:=by
 show Instr.sameBits (9999+1) _ _=true
 unfold Instr.sameBits
 simp only[beq_self_eq_true,Bool.true_and,List.all_eq_true]
 intro p hp
 obtain⟨i,hi,rfl⟩:=List.getElem_of_mem hp
 rw[List.getElem_zip]
 simp[a8,Instr.sameBits]
def NH {P:Program} {t e:TypeId} {n:Nat} (hu:P.underlying t=some (.array n e)) (he:P.underlying e=some (.int .u8)) (hm:aK P e=some (false,1)) (l l':List UInt8) (hl:l.length=n) (lS:l'.length=n) (w:World):
  (Op.equal t (.agg (a8 l)) (.agg (a8 l'))).run P w= .ok (l==l') w:=
 FM P 8 9992 t _ _ _ (sY (d:=6) hu he hm l l' hl lS) w
def W1_ {P:Program} {t e:TypeId} {n:Nat} (hu:P.underlying t=some (.array n e)) (he:P.underlying e=some (.int .u8)) (hm:aK P e=some (false,1)) (l:List UInt8) (hl:l.length=n) (em:Bool) (w:World):
  (Instr.checkKey em 10000 t (.agg (a8 l))).run P w= .ok () w:=by
 show(Instr.checkKey em (9999+1) t (.agg (a8 l))).run P w= .ok () w
 rw[Instr.checkKey]
 simp only[Sem.run_bind,run_underlying hu,Result.andThen_ok]
 simp only[Std.Legacy.Range.forIn_eq_forIn_range',Std.Legacy.Range.size,Nat.sub_zero,Nat.add_one_sub_one,Nat.div_one]
 have each: ∀j,j∈List.range' 0 n→j<l.length:=by
  intro j hj
  rw[List.mem_range'] at hj
  obtain⟨i,hi,rfl⟩:=hj
  omega
 generalize List.range' 0 n=is at each
 induction is with
 |nil=>simp
 |cons j is ih=>
  have hj:=each j (by simp)
  have p1: (part e (a8 l) (j*1)).run P w= .ok (v8 (l.getD j 0)) w:=by
   refine qx hm ?_ w
   simp[partV,a8,v8,hj]
  have p2: (Instr.checkKey em 9999 e (v8 (l.getD j 0))).run P w= .ok () w:=by
   show(Instr.checkKey em (9998+1) e (v8 (l.getD j 0))).run P w= .ok () w
   rw[Instr.checkKey]
   simp only[Sem.run_bind,run_underlying he,Result.andThen_ok,v8]
   rfl
  simp only[List.forIn_cons,Sem.run_bind,gq hm w,Result.andThen_ok,p1,p2,Sem.run_pure]
  exact ih (fun y hy=>each y (by simp[hy]))
theorem RV {n:Nat} {e:TypeId} (x:Value): ∀ (es:List MapEntry) (i:Nat),es≠ []→Instr.findNow (.array n e) x es i=none
 | [],_,h=>absurd rfl h
 |_::_,_,_=>by cases x<;>rfl
theorem Kc_ {α β:Type} [BEq α] {P:Program} {kt:TypeId} {encK:α→Value} {encV:β→Value} (he: ∀a b w,(Op.equal kt (encK a) (encK b)).run P w= .ok (a==b) w) (w:World) (k:α): ∀ (es:List MapEntry) (m:List (α×β)) (i:Nat),es.map (fun e=>(e.key,e.val))=m.map (iJ encK encV)→
  (Instr.findAsking kt (encK k) es i).run P w= .ok ((gi k m i).map fun p=>(p.1,encV p.2)) w
 | [],[],_,_=>rfl
 | [],_::_,_,h=>by cases h
 |_::_,[],_,h=>by cases h
 |e::es,p::m,i,h=>by
  simp only[List.map_cons,List.cons.injEq,iJ,Prod.mk.injEq] at h
  obtain⟨⟨h1,h2⟩,h3⟩:=h
  unfold Instr.findAsking gi
  rw[Sem.run_bind,h1,he]
  simp only[Result.andThen_ok]
  cases hk: (k==p.1)
  ·simp only[Bool.false_eq_true, ↓reduceIte]
   exact Kc_ he w k es m (i+1) h3
  simp[h2]
def KeyOk.arr {α:Type} [BEq α] {P:Program} {kt e:TypeId} {n:Nat} (hu:P.underlying kt=some (.array n e)) (he:P.underlying e=some (.int .u8)) (hm:aK P e=some (false,1)) (bs:α→List UInt8) (hb: ∀a,(bs a).length=n) (hq: ∀a b,(bs a==bs b)=(a==b)):
  KeyOk P kt (fun a:α=> .agg (a8 (bs a))) where
 find encV w k es m h:=by
  cases es with
  |nil=>
   cases m with
   |nil=>simp only[Instr.findKey,Sem.run_bind,run_underlying hu w,Result.andThen_ok];rfl
   |cons=>cases h
  |cons e0 es=>
   simp only[Instr.findKey,Sem.run_bind,run_underlying hu w,Result.andThen_ok]
   rw[RV _ _ _ (by simp)]
   exact Kc_ (encK:=fun a:α=> .agg (a8 (bs a))) (fun a b w=>by rw[NH hu he hm _ _ (hb a) (hb b) w,hq]) w k _ m 0 h
 check w e k:=W1_ hu he hm _ (hb k) e w
 bits k:=P6 _
section
variable {α β:Type} [BEq α] [LawfulBEq α] {encK:α→Value} {encV:β→Value} {P:Program} {w0:World} {f:Fr} {L:aB} {N:Fr→aB→Prop} {ops:Array Oper} {rest:List Oper} {md:Md}
 {d:Option Tmp} {ty:TypeId} {ps:String} {af:Array Edge} {g:Option (Nat×Bool)}
omit [LawfulBEq α] in
end
end Go.Sx
namespace Go.Sx
open Go
def KeyOk.str {P:Program} {kt:TypeId} (hu:P.underlying kt=some .string):KeyOk P kt vs where
 find encV w k es m h:=by
  simp only[Instr.findKey,Sem.run_bind,run_underlying hu w,Result.andThen_ok]
  rw[Kt (encK:=vs) (fun a b=>by simp only[vs,Instr.sameNow,vx]) k es m 0 h]
  rfl
 check w e k:=by
  unfold Instr.checkKey
  simp only[Sem.run_bind,run_underlying hu w,Result.andThen_ok,vs]
  rfl
 bits k:=by simp only[vs,Instr.sameBits,vx,beq_self_eq_true]
section
variable {α β:Type} [BEq α] [LawfulBEq α]
def delG (k:α):List (α×β)→List (α×β)
 | []=> []
 |p::r=>if k==p.1 then r else p::delG k r
variable {encK:α→Value} {encV:β→Value}
omit [LawfulBEq α] in
theorem F3 (k:α): ∀ (m:List (α×β)) (i j:Nat) (a:β),gi k m i=some (j,a)→i≤j
 | [],_,_,_,h=>by cases h
 |p::r,i,j,a,h=>by
  unfold gi at h
  split at h
  ·cases h;exact ap _
  have:=F3 k r (i+1) j a h;omega
omit [LawfulBEq α] in
theorem Cx (k:α): ∀ (es:List MapEntry) (m:List (α×β)) (i j:Nat) (a:β),es.map (fun e=>(e.key,e.val))=m.map (iJ encK encV)→gi k m i=some (j,a)→
  (es.eraseIdx (j - i)).map (fun e=>(e.key,e.val))=(delG k m).map (iJ encK encV)
 | [],[],_,_,_,_,h=>by cases h
 | [],_::_,_,_,_,h,_=>by cases h
 |_::_,[],_,_,_,h,_=>by cases h
 |e::es,p::m,i,j,a,h,hf=>by
  simp only[List.map_cons,List.cons.injEq] at h
  obtain⟨h1,h3⟩:=h
  unfold gi at hf
  unfold delG
  split at hf
  ·rename_i hk
   cases hf
   rw[if_pos hk,Nat.sub_self]
   exact h3
  rename_i hk
  have dC:=F3 k m (i+1) j a hf
  rw[if_neg hk,show j - i=(j - (i+1))+1 by omega]
  simp only[List.eraseIdx_cons_succ,List.map_cons]
  rw[Cx k es m (i+1) j a h3 hf,h1]
omit [LawfulBEq α] in
theorem CY (k:α): ∀ (m:List (α×β)) (i:Nat),gi k m i=none→delG k m=m
 | [],_,_=>rfl
 |p::r,i,h=>by
  unfold gi at h
  split at h
  ·cases h
  rename_i hk
  unfold delG
  rw[if_neg hk,CY k r (i+1) h]
variable {P:Program} {w0:World} {f:Fr} {L:aB} {N:Fr→aB→Prop} {ops:Array Oper} {rest:List Oper} {md:Md}
 {d:Option Tmp} {ty:TypeId} {ps:String} {af:Array Edge} {g:Option (Nat×Bool)}
omit [LawfulBEq α] in
def Ow.mapDeleteG {t kt vt:TypeId} {x y:Operand} {t2:TypeId} {b:Nat} {o:Obj} {m:List (α×β)} {k:α} {md':Md} (he:md.turn=some md') (hs:a_ ops f ⟨d, .call ⟨.builtin .delete, #[x,y], #[t,t2]⟩,ty,ps,af,g⟩=false) (hu:P.underlying t=some (.map kt vt)) (hk:KeyOk P kt encK)
  (hx:ev f x=vm b) (hy:ev f y=encK k) (hl:look L b=some o) (hm:eZ encK encV o m)
  (hn: ∀o',eZ encK encV o' (delG k m)→Ow P w0 ops md' rest (aX f d (.tuple #[])) (setB L b o') N):
  Ow P w0 ops md (⟨d, .call ⟨.builtin .delete, #[x,y], #[t,t2]⟩,ty,ps,af,g⟩::rest) f L N:=by
 obtain⟨es,c,rfl,gC,fW⟩:=hm
 refine Ow.step he rfl hs fun w hw=> ?_
 have hb:=hw.has _ _ (cu hl)
 have eI:=hk.find encV w k es.toList m gC
 cases hf:gi k m 0 with
 |none=>
  rw[hf] at eI
  refine .inl ⟨.tuple #[],{w with heap:=w.heap.setIfInBounds b (.map es c)},_, ?_,hw.set (cC hl) rfl rfl rfl rfl,hn _ ⟨es,c,rfl,by rw[CY k m 0 hf];exact gC,fW⟩⟩
  have: (Builtin.delete_ #[t,t2] ty #[vm b,encK k]).run P w= .ok (.tuple #[]) {w with heap:=w.heap.setIfInBounds b (.map es c)}:=by
   simp only[Builtin.delete_,vm,List.getElem?_toArray,List.getElem?_cons_zero,List.getElem?_cons_succ,Sem.run_bind,run_underlying hu w,Result.andThen_ok,lJ hb,hk.check,eI,Option.map_none,uE hb]
   rfl
  simp only[execOp,resolve,Sem.run_bind,Sem.run_pure,Result.andThen_ok,invoke,builtin,List.map_toArray,List.map_cons,List.map_nil,hx,hy]
  rw[this];rfl
 |some p=>
  obtain⟨j,a⟩:=p
  rw[hf] at eI
  refine .inl ⟨.tuple #[],{w with heap:=w.heap.setIfInBounds b (.map (es.eraseIdxIfInBounds j) c)},_, ?_,hw.set (cC hl) rfl rfl rfl rfl,hn _ ⟨_,c,rfl, ?_,by rw[Array.toList_eraseIdxIfInBounds];exact BV fW⟩⟩
  ·have: (Builtin.delete_ #[t,t2] ty #[vm b,encK k]).run P w= .ok (.tuple #[]) {w with heap:=w.heap.setIfInBounds b (.map (es.eraseIdxIfInBounds j) c)}:=by
    simp only[Builtin.delete_,vm,List.getElem?_toArray,List.getElem?_cons_zero,List.getElem?_cons_succ,Sem.run_bind,run_underlying hu w,Result.andThen_ok,lJ hb,hk.check,eI,Option.map_some,uE hb]
    rfl
   simp only[execOp,resolve,Sem.run_bind,Sem.run_pure,Result.andThen_ok,invoke,builtin,List.map_toArray,List.map_cons,List.map_nil,hx,hy]
   rw[this];rfl
  have:=Cx (encK:=encK) (encV:=encV) k es.toList m 0 j a gC hf
  rw[Nat.sub_zero] at this
  rw[←this]
  simp
omit [BEq α] [LawfulBEq α] in
def Ow.mapClearG {t kt vt:TypeId} {x:Operand} {b:Nat} {o:Obj} {m:List (α×β)} {md':Md} (he:md.turn=some md') (hs:a_ ops f ⟨d, .call ⟨.builtin .clear, #[x], #[t]⟩,ty,ps,af,g⟩=false) (hu:P.underlying t=some (.map kt vt))
  (hx:ev f x=vm b) (hl:look L b=some o) (hm:eZ encK encV o m)
  (hn: ∀o',eZ encK encV o' []→Ow P w0 ops md' rest (aX f d (.tuple #[])) (setB L b o') N):
  Ow P w0 ops md (⟨d, .call ⟨.builtin .clear, #[x], #[t]⟩,ty,ps,af,g⟩::rest) f L N:=by
 obtain⟨es,c,rfl,gC,fW⟩:=hm
 refine Ow.step he rfl hs fun w hw=> ?_
 have hb:=hw.has _ _ (cu hl)
 refine .inl ⟨.tuple #[],{w with heap:=w.heap.setIfInBounds b (.map #[] c)},_, ?_,hw.set (cC hl) rfl rfl rfl rfl,hn _ ⟨#[],c,rfl,rfl,List.pairwise_singleton _ _⟩⟩
 have: (Builtin.clear_ #[t] ty #[vm b]).run P w= .ok (.tuple #[]) {w with heap:=w.heap.setIfInBounds b (.map #[] c)}:=by
  simp only[Builtin.clear_,vm,List.getElem?_toArray,List.getElem?_cons_zero,Sem.run_bind,run_underlying hu w,Result.andThen_ok,lJ hb,uE hb]
  rfl
 simp only[execOp,resolve,Sem.run_bind,Sem.run_pure,Result.andThen_ok,invoke,builtin,List.map_toArray,List.map_cons,List.map_nil,hx]
 rw[this];rfl
end
section
variable {P:Program} {w0:World} {f:Fr} {L:aB} {N:Fr→aB→Prop} {ops:Array Oper} {rest:List Oper} {md:Md}
 {d:Option Tmp} {ty:TypeId} {ps:String} {af:Array Edge} {g:Option (Nat×Bool)}
def Ow.ifaceMap {t kt vt:TypeId} {x:Operand} {v:Value} (hs:a_ ops f ⟨d, .makeInterface t x,ty,ps,af,g⟩=false) (hu:P.underlying t=some (.map kt vt)) (hx:ev f x=v)
  (hn:Ow P w0 ops md.next rest (aX f d (.iface t v)) L N):Ow P w0 ops md (⟨d, .makeInterface t x,ty,ps,af,g⟩::rest) f L N:=by
 refine Ow.calm rfl rfl hs (fun w hw=> .inl ⟨.iface t v,w,L, ?_,hw,rfl,rfl⟩) hn
 simp only[execOp,Instr.makeInterface,Sem.run_bind,run_underlying hu w,Result.andThen_ok,hx]
 rfl
def Ow.assertMap {t kt vt xt:TypeId} {x:Operand} {v:Value} (hs:a_ ops f ⟨d, .typeAssert x xt t false,ty,ps,af,g⟩=false) (hu:P.underlying t=some (.map kt vt)) (hx:ev f x= .iface t v)
  (hn:Ow P w0 ops md.next rest (aX f d v) L N):Ow P w0 ops md (⟨d, .typeAssert x xt t false,ty,ps,af,g⟩::rest) f L N:=by
 refine Ow.calm rfl rfl hs (fun w hw=> .inl ⟨v,w,L, ?_,hw,rfl,rfl⟩) hn
 simp only[execOp,Instr.typeAssert,Sem.run_bind,run_underlying hu w,Result.andThen_ok,hx, ↓reduceIte]
 rfl
def Ow.cloneMap {α β:Type} {encK:α→Value} {encV:β→Value} {x:Operand} {ts:Array TypeId} {k:FuncId} {it:TypeId} {b:Nat} {o:Obj} {m:List (α×β)} {md':Md} (he:md.turn=some md')
  (hs:a_ ops f ⟨d, .call ⟨.value (.func k), #[x],ts⟩,ty,ps,af,g⟩=false)
  (hk: ∀a w,(callFunc k #[a]).run P w=((Extern.MapsClone.clone #[a]).run P w).andThen fun v w=> .ok (.value v) w)
  (hx:ev f x= .iface it (vm b)) (hl:aT w0 L b=some o) (hm:eZ encK encV o m)
  (hn: ∀c o',eP L c→w0.heap.size≤c→eZ encK encV o' m→Ow P w0 ops md' rest (aX f d (.iface it (vm c))) (L++ [(c,o')]) N):
  Ow P w0 ops md (⟨d, .call ⟨.value (.func k), #[x],ts⟩,ty,ps,af,g⟩::rest) f L N:=by
 obtain⟨es,c,rfl,gC,fW⟩:=hm
 refine Ow.step he rfl hs fun w hw=> .inl ⟨.iface it (vm w.heap.size),w.alloc (.map es c),_, ?_,hw.alloc _,hn _ _ (iF fun b hb=>hw.lt hb) hw.size ⟨es,c,rfl,gC,fW⟩⟩
 have hb:=hw.read hl
 have hA:Array.map (ev f) #[x]= #[.iface it (vm b)]:=by simp[hx]
 have h: (callFunc k #[.iface it (vm b)]).run P w= .ok (.value (.iface it (vm w.heap.size))) (w.alloc (.map es c)):=by
  rw[hk]
  have hc:Extern.MapsClone.clone #[.iface it (vm b)]=(getObj b>>=fun o=>match o with| .map es c=>(newObj (.map es c)>>=fun r=>pure (.iface it (.map (some r)))) |_=>stuck "maps.clone: a map expected"):=rfl
  rw[hc,Sem.run_bind,lJ hb]
  rfl
 simp only[execOp,resolve,Deferred.ofValue,F9,Sem.run_bind,Sem.run_pure,Result.andThen_ok,invoke,hA]
 simpa using h
end
end Go.Sx
namespace Go.Sx
open Go
def Hp.later {w0 w1 w2:World} {L D:aB} (h:Hp w0 L w1) (k:Hp w1 D w2) (hD:New w1.heap.size D):Hp w0 (L++D) w2:=
 Mrg.fresh hD.le w1 w2 rfl h k
def Ow.world {P:Program} {w0:World} {ops:Array Oper} {l:List Oper} {f:Fr} {L:aB} {N:Fr→aB→Prop} (h: ∀w,Hp w0 L w→Ow P w0 ops .seq l f L N):Ow P w0 ops .seq l f L N:=fun w hw=>h w hw w hw
def Rets.chunk {P:Program} {k:FuncId} {args:Array Value} {w:World} {S:Value→Obj→Prop} {X:aB} {b:Nat} (hX: ∀p,p∈X→w.heap[p.1]? =some p.2) (hn: (keys X).Nodup) (hb:b∈keys X)
  (h:Rets P k args w (fun v D=> ∃o,D= [(b,o)]∧S v o)):Rets P k args w (XS w X (fun v D=> ∃o,D=setB X b o∧S v o)):=
 Calls.mono h fun e w' ⟨v,D,he,hp,o,hD,hS⟩=>⟨v,setB X b o,he,by subst hD;exact Mrg.set hb w w' rfl ((Hp.refl w).ownX hX hn) hp,(Ext.refl w X).setB,o,rfl,hS⟩
def Rets.toX {P:Program} {k:FuncId} {a:Array Value} {w:World} {S:Value→Prop} (h:Rets P k a w (fun v D=>S v∧D= [])):Rets P k a w (XS w [] (fun v D=>D= []∧S v)):=
 h.mono fun v D ⟨h1,h2⟩=>⟨by subst h2;exact Ext.refl w [],h2,h1⟩
def Gr.rowL {α:Type} {m:Nat} {enc:α→List Value} {z:α} {w0 w:World} {v:Value} {l:List α} {L:aB} {E:TypeId} {n:Nat} (h:Gr L E m v n (l.map enc).flatten) (hn:l.length=n) (hw:Hp w0 L w) (hm: ∀x,(enc x).length=m):
  ∃b off arr F fz,RowS m enc z w v l b off arr F fz∧(0<l.length→look L b=some (.cells arr F fz)):=by
 obtain⟨b,off,c,arr,F,fz,hr,hc,⟨rfl,rfl,rfl⟩ | ⟨rfl,hb,e_⟩⟩:=h.slV (z:=z) hw hn rfl hm
 ·exact⟨b,off,arr,F,fz,hr,fun h0=>absurd h0 (by simp)⟩
 refine⟨b,off,arr,F,fz,hr,fun _=> ?_⟩
 obtain⟨o,ho⟩:=Iq (h.key (b:=b) rfl)
 have:=hw.has _ _ (cu ho)
 rw[hb] at this
 rw[ho,this]
def GrI.rowL {α:Type} {m:Nat} {enc:α→List Value} {z:α} {w0 w:World} {v:Value} {l:List α} {D:aB} {E:TypeId} {n:Nat} (h:GrI D E m v n (l.map enc).flatten) (hn:l.length=n) (hw:Hp w0 D w) (hm: ∀x,(enc x).length=m):
  ∃b off arr F fz,RowS m enc z w v l b off arr F fz∧(0<l.length→look D b=some (.cells arr F fz)):=by
 obtain⟨X,hX,h⟩:=h
 obtain⟨b,off,c,arr,F,fz,hr,hc,⟨rfl,rfl,rfl⟩ | ⟨rfl,hb,e_⟩⟩:=h.slM (z:=z) (fun b o hm=>hw.has b o (hX _ hm)) hn rfl hm
 ·exact⟨b,off,arr,F,fz,hr,fun h0=>absurd h0 (by simp)⟩
 refine⟨b,off,arr,F,fz,hr,fun _=> ?_⟩
 obtain⟨o,ho⟩:=Iq (h.key (b:=b) rfl)
 have hm:=hX _ (cu ho)
 have:=hw.has _ _ hm
 rw[hb] at this
 rw[vY hw.nodup hm,this]
end Go.Sx
section
namespace Go.Sx
open Go
def S0:=aN (aN (aN (aN (aN (aN @Wb (aN @X4 @Xd)) (aN @W4 (aN @Sy @WU))) (aN (aN @Uu (aN @VB @QL)) (aN (aN @N6 @NR) (aN @UX @Mu)))) (aN (aN (aN @Si (aN @Wx @QO)) (aN (aN @Us @Nm) (aN @X_ @Y4))) (aN (aN @SQ (aN @Pk @SX)) (aN (aN @Yr @TQ) (aN @MZ @Mv))))) (aN (aN (aN (aN @Vh (aN @RI @WX)) (aN @Qk (aN @V1 @YX))) (aN (aN @YL (aN @KC_ @QI_)) (aN (aN @OV @SE) (aN @Mp @Up)))) (aN (aN (aN @Vs (aN @Qe @XK_)) (aN (aN @O4 @MC) (aN @Tx @WR))) (aN (aN @YH (aN @WS @ck)) (aN (aN @WW @SP) (aN @F9 @cV)))))) (aN (aN (aN (aN (aN @ce (aN @bD @bC)) (aN @QB (aN @MY @Vr))) (aN (aN @Vq (aN @TA @R7)) (aN (aN @Xq @RF) (aN @Ux @XC)))) (aN (aN (aN @Vb (aN @TU @T8)) (aN (aN @Wv @X0) (aN @Wz @ZQ))) (aN (aN @TO (aN @VP @WK)) (aN (aN @VC @YV) (aN @UN @UP))))) (aN (aN (aN (aN @WL (aN @RT @U9)) (aN (aN @Wq @T_) (aN @Sd @XK))) (aN (aN @Xh (aN @Ym @YY)) (aN (aN @Yp @Wn) (aN @W1 @Wy)))) (aN (aN (aN @VG (aN @Vk @Wo)) (aN (aN @VH @Vc) (aN @Xj @Vi))) (aN (aN @ax4_ (aN @Zj @Zy)) (aN (aN @Y' @W9) (aN @T6 @SY))))))
def S1:=aN (aN (aN (aN (aN (aN (aN (aN @WY @ZJ) (aN @YR (aN @awv_ @XR))) (aN (aN @awz_ @iP) (aN @iQ (aN @k7 @CM)))) (aN (aN (aN @R' @Pl) (aN @Vu (aN @NY @Wl))) (aN (aN @W0 @beq_true) (aN @beq_false (aN @Bool.not_true @Bool.not_false))))) (aN (aN (aN (aN @Md.next_seq @Md.next_any) (aN @Md.next_qui (aN @Md.next_sof @P5))) (aN (aN @Oa @O') (aN @M9 (aN @Mc @MD)))) (aN (aN (aN @Yu @YZ) (aN @XD (aN @Ve @V4))) (aN (aN @Zo (aN @XG @YN)) (aN @Xx (aN @Y2 @YS)))))) (aN (aN (aN (aN (aN @Qw @RM) (aN @Rx (aN @Ss @Th))) (aN (aN @RB @RY) (aN @La (aN @Ru @Rv)))) (aN (aN (aN @S_ @Ry) (aN @RE (aN @R2 @U2))) (aN (aN @Ov (aN @VS_ @RU)) (aN @Mo (aN @NM @X2_))))) (aN (aN (aN (aN @X1_ @Ml) (aN @NN (aN @R_ @M8))) (aN (aN @MG @Om) (aN @M4 (aN @MS @PS)))) (aN (aN (aN @MN @MX) (aN @Pm (aN @OW @OI))) (aN (aN @QM (aN @P2 @T2)) (aN @Ps (aN @OH @Pu))))))) (aN (aN (aN (aN (aN (aN @Oh @Of) (aN @Oe (aN @Px @Oi))) (aN (aN @Q5 @Rj) (aN @Ny (aN @X8_ @PD)))) (aN (aN (aN @MM @W6_) (aN @Jl_ (aN @Jr_ @ML))) (aN (aN @MH (aN @PN @V7_)) (aN @WO_ (aN @O5 @Vf_))))) (aN (aN (aN (aN @VO_ @Nt) (aN @V5_ (aN @VT_ @Nf))) (aN (aN @P4 @PE) (aN @On (aN @Q0 @Rm)))) (aN (aN (aN @PA @IE) (aN @IC (aN @Pq @OQ))) (aN (aN @Ou (aN @Ox @Ot)) (aN @Q1 (aN @Rw @NF)))))) (aN (aN (aN (aN (aN @Km_ @Q2) (aN @L_ (aN @M3 @Jn_))) (aN (aN @JA_ @MI) (aN @MB (aN @Pt @Vu_)))) (aN (aN (aN @Wa_ @Nn) (aN @WT_ (aN @WU_ @NK))) (aN (aN @WZ_ (aN @WB_ @N7)) (aN @OJ (aN @Oq @PX))))) (aN (aN (aN (aN @Pb @RX) (aN @P8 (aN @Q7 @ON))) (aN (aN @Po @Pc) (aN @PO (aN @Pg @PV)))) (aN (aN (aN @QF @QZ) (aN @NX (aN @XX_ @P_))) (aN (aN @MU (aN @Mg @Jy_)) (aN @JP_ (aN @M6 @W9_)))))))) (aN (aN (aN (aN (aN (aN (aN @Q6 @Wf_) (aN @Wh_ (aN @Nq @W4_))) (aN (aN @VU_ @OA) (aN @W3_ (aN @VA_ @Np)))) (aN (aN (aN @Sl @TR) (aN @Cf (aN @Tg @Uz))) (aN (aN @U4 (aN @Tr @TM)) (aN @TW (aN @UD @TJ))))) (aN (aN (aN (aN @Wf @ZD) (aN @OD (aN @V0 @UJ))) (aN (aN @UH @SV) (aN @UU (aN @Ct @Tt)))) (aN (aN (aN @Yb @Um) (aN @YP (aN @O8 @NA))) (aN (aN @Ma (aN @ZG @Zq)) (aN @W7 (aN @QX @PI)))))) (aN (aN (aN (aN (aN @OX @Pw) (aN @Rd (aN @YC @YM))) (aN (aN @UR @Ol) (aN @OB (aN @OC @NZ)))) (aN (aN (aN @P' @YG) (aN @YU (aN @UW @PR))) (aN (aN @Nw (aN @NV @Nu)) (aN @QN (aN @Xg @Y1))))) (aN (aN (aN (aN @Uq @Nz) (aN @Nk (aN @Ng @Nb))) (aN (aN @P9 @Z9) (aN @Zx (aN @VA @Rq)))) (aN (aN (aN @OP @OL) (aN @PH (aN @Qo @X6))) (aN (aN @WM (aN @Mq @XW)) (aN @Q9 (aN @Jw_ @I9))))))) (aN (aN (aN (aN (aN (aN @axt_ @Yl) (aN @ZI (aN @Yv @Mx))) (aN (aN @MA @fN) (aN @pI (aN @n5 @vV)))) (aN (aN (aN @oH @IM) (aN @WQ (aN @Wu @Ek))) (aN (aN @WP (aN @JK @Ql)) (aN @AD (aN @Be @OO))))) (aN (aN (aN (aN @VF @Td) (aN @zH (aN @VI @U_))) (aN (aN @Tv @ZW) (aN @Yz (aN (@Option.map_some.{0,0}) (@Option.map_none.{0,0}))))) (aN (aN (aN @N4 @Mj) (aN @Xu_ (aN @Qu @Ms))) (aN (aN @NQ (aN @Mk @Wp)) (aN @WI (aN @or_i @axQ_)))))) (aN (aN (aN (aN (aN @Mi @Mt) (aN @MW (aN @ag (@List.cons_append.{0})))) (aN (aN (@List.nil_append.{0}) (@List.contains_cons.{0})) (aN (@List.contains_nil.{0}) (aN @Bool.or_false @Bool.false_or)))) (aN (aN (aN @Bool.or_true @Bool.true_or) (aN @Bool.false_eq_true (aN @Ih @JO))) (aN (aN @JA (aN @Il @U8)) (aN @Nat.add_sub_cancel_left (aN (@List.set_set.{0}) @Int.toNat_natCast))))) (aN (aN (aN (aN @Nat.mul_one @Nat.zero_add) (aN @Nat.add_zero (aN (@ge_iff_le.{0}) (@gt_iff_lt.{0})))) (aN (aN (@beq_self_eq_true.{0}) @axr_) (aN @axn_ (aN @su @tB)))) (aN (aN (aN @GH @GD) (aN @axP_ (aN @axy_ @axx_))) (aN (aN @axl_ (aN @Xa @ZN)) (aN @Z2 (aN @Yd @Yi))))))))
end Go.Sx
end
section
open Go Go.Proofs Go.Sx
namespace Go.Proofs
def ix22:ixT prog 22= .sl (true,2):=id kR
def ix30:ixT prog 30= .sl (true,32):=id kR
def ix44:ixT prog 44= .sl (true,33):=id kR
def ix65:ixT prog 65= .sl (false,1):=id kR
def ix71:ixT prog 71= .sl (true,33):=id kR
def ix81:ixT prog 81= .sl (true,37):=id kR
def ix94:ixT prog 94= .sl (true,3):=id kR
def ix122:ixT prog 122= .sl (true,34):=id kR
def ix9:ixT prog 9= .str:=id kR
def ix24:ixT prog 24= .arr 32 (false,1):=id kR
def ix170:ixT prog 170= .arr 3 (false,1):=id kR
def ix172:ixT prog 172= .sl (false,1):=id kR
def ix179:ixT prog 179= .sl (false,1):=id kR
def ix191:ixT prog 191= .sl (true,2):=id kR
def ix196:ixT prog 196= .arr 3 (true,3):=id kR
def ix193:ixT prog 193= .sl (true,4):=id kR
def ix192:ixT prog 192= .sl (true,2):=id kR
def ix302:ixT prog 302= .sl (false,1):=id kR
def ix251:ixT prog 251= .arr 8 (false,1):=id kR
def ix262:ixT prog 262= .arr 4 (false,1):=id kR
def ix306:ixT prog 306= .arr 8 (false,1):=id kR
def ix307:ixT prog 307= .arr 64 (false,1):=id kR
def ix162:ixT prog 162= .no:=id kR
def ix232:ixT prog 232= .sl (false,1):=id kR
def ix346:ixT prog 346= .arr 4 (false,1):=id kR
def ix348:ixT prog 348= .arr 6 (false,1):=id kR
def ix362:ixT prog 362= .sl (true,3):=id kR
def ix295:ixT prog 295= .arr 64 (false,1):=id kR
def ix414:ixT prog 414= .arr 16 (false,1):=id kR
def ix408:ixT prog 408= .sl (true,2):=id kR
def ag24:aK prog 24=some (true,32):=id kR
def ag32:aK prog 32=some (true,2):=id kR
def ag35:aK prog 35=some (true,2):=id kR
def ag46:aK prog 46=some (true,7):=id kR
def ag30:aK prog 30=some (false,1):=id kR
def ag3:aK prog 3=some (false,1):=id kR
def ag67:aK prog 67=some (true,37):=id kR
def ag73:aK prog 73=some (true,2):=id kR
def ag9:aK prog 9=some (false,1):=id kR
def ag71:aK prog 71=some (false,1):=id kR
def ag65:aK prog 65=some (false,1):=id kR
def ag117:aK prog 117=some (true,34):=id kR
def ag121:aK prog 121=some (true,1):=id kR
def ag119:aK prog 119=some (false,1):=id kR
def ag22:aK prog 22=some (false,1):=id kR
def ag126:aK prog 126=some (true,34):=id kR
def ag133:aK prog 133=some (true,5):=id kR
def ag44:aK prog 44=some (false,1):=id kR
def ag59:aK prog 59=some (true,33):=id kR
def ag130:aK prog 130=some (false,1):=id kR
def ag131:aK prog 131=some (false,1):=id kR
def ag122:aK prog 122=some (false,1):=id kR
def ag41:aK prog 41=some (false,1):=id kR
def ag28:aK prog 28=some (false,1):=id kR
def ag82:aK prog 82=some (false,1):=id kR
def ag4:aK prog 4=some (false,1):=id kR
def ag5:aK prog 5=some (false,1):=id kR
def ag170:aK prog 170=some (true,3):=id kR
def ag166:aK prog 166=some (false,1):=id kR
def ag172:aK prog 172=some (false,1):=id kR
def ag176:aK prog 176=some (false,1):=id kR
def ag173:aK prog 173=some (false,1):=id kR
def ag151:aK prog 151=some (true,4):=id kR
def ag149:aK prog 149=some (true,33):=id kR
def ag187:aK prog 187=some (true,3):=id kR
def ag182:aK prog 182=some (true,2):=id kR
def ag191:aK prog 191=some (false,1):=id kR
def ag200:aK prog 200=some (true,2):=id kR
def ag192:aK prog 192=some (false,1):=id kR
def ag203:aK prog 203=some (true,2):=id kR
def ag108:aK prog 108=some (true,4):=id kR
def ag97:aK prog 97=some (false,1):=id kR
def ag169:aK prog 169=some (false,1):=id kR
def ag193:aK prog 193=some (false,1):=id kR
def ag219:aK prog 219=some (true,4):=id kR
def ag236:aK prog 236=some (true,2):=id kR
def ag243:aK prog 243=some (true,3):=id kR
def ag251:aK prog 251=some (true,8):=id kR
def ag250:aK prog 250=some (false,1):=id kR
def ag262:aK prog 262=some (true,4):=id kR
def ag142:aK prog 142=some (true,36):=id kR
def ag261:aK prog 261=some (false,1):=id kR
def ag168:aK prog 168=some (true,5):=id kR
def ag175:aK prog 175=some (true,3):=id kR
def ag198:aK prog 198=some (true,13):=id kR
def ag298:aK prog 298=some (true,75):=id kR
def ag306:aK prog 306=some (true,8):=id kR
def ag307:aK prog 307=some (true,64):=id kR
def ag140:aK prog 140=some (false,1):=id kR
def ag314:aK prog 314=some (true,3):=id kR
def ag321:aK prog 321=some (true,7):=id kR
def ag336:aK prog 336=some (true,5):=id kR
def ag302:aK prog 302=some (false,1):=id kR
def ag296:aK prog 296=some (false,1):=id kR
def ag232:aK prog 232=some (false,1):=id kR
def ag76:aK prog 76=some (false,1):=id kR
def ag346:aK prog 346=some (true,4):=id kR
def ag348:aK prog 348=some (true,6):=id kR
def ag347:aK prog 347=some (false,1):=id kR
def ag231:aK prog 231=some (false,1):=id kR
def ag382:aK prog 382=some (false,1):=id kR
def ag179:aK prog 179=some (false,1):=id kR
def ag395:aK prog 395=some (true,3):=id kR
def ag418:aK prog 418=some (true,2):=id kR
def ag416:aK prog 416=some (false,1):=id kR
def ag178:aK prog 178=some (false,1):=id kR
def ag414:aK prog 414=some (true,16):=id kR
def zr24:au prog 24=some (.agg (a8 (List.replicate 32 0))):=id kR
def zr149:au prog 149=some (.agg #[(vs []),(v8 0),(v8 0),(v8 0),(v8 0),(v8 0),(v8 0),(v8 0),(v8 0),(v8 0),(v8 0),(v8 0),(v8 0),(v8 0),(v8 0),(v8 0),(v8 0),(v8 0),(v8 0),(v8 0),(v8 0),(v8 0),(v8 0),(v8 0),(v8 0),(v8 0),(v8 0),(v8 0),(v8 0),(v8 0),(v8 0),(v8 0),(v8 0)]):=id kR
def zr236:au prog 236=some (.agg #[(.pointer none),(.slice none 0 0)]):=id kR
def zr251:au prog 251=some (.agg (a32 (List.replicate 8 0))):=id kR
def zr306:au prog 306=some (.agg (a8 (List.replicate 8 0))):=id kR
def zr307:au prog 307=some (.agg (a32 (List.replicate 64 0))):=id kR
def zr321:au prog 321=some (.agg #[(vs []),(vs []),(vs []),(.bool false),(vi 0),(.bool false),(.bool false)]):=id kR
def zr5:au prog 5=some (v8 0):=id kR
def zr346:au prog 346=some (.agg (a8 (List.replicate 4 0))):=id kR
def zr348:au prog 348=some (.agg #[.nilFunc, .nilFunc, .nilFunc, .nilFunc, .nilFunc, .nilFunc]):=id kR
def pc149:d8 prog 149=some [(0,1),(1,32)]:=id kR
def fl46_4:aV prog 46 4=some (5,(false,1)):=id kR
def fl46_5:aV prog 46 5=some (6,(false,1)):=id kR
def fl59_0:aV prog 59 0=some (0,(true,32)):=id kR
def fl35_0:aV prog 35 0=some (0,(false,1)):=id kR
def fl59_1:aV prog 59 1=some (32,(false,1)):=id kR
def fl67_2:aV prog 67 2=some (2,(false,1)):=id kR
def fl67_3:aV prog 67 3=some (3,(true,32)):=id kR
def fl67_1:aV prog 67 1=some (1,(false,1)):=id kR
def fl67_0:aV prog 67 0=some (0,(false,1)):=id kR
def fl73_1:aV prog 73 1=some (1,(false,1)):=id kR
def fl73_0:aV prog 73 0=some (0,(false,1)):=id kR
def fl67_5:aV prog 67 5=some (36,(false,1)):=id kR
def fl108_1:aV prog 108 1=some (1,(true,2)):=id kR
def fl108_2:aV prog 108 2=some (3,(false,1)):=id kR
def fl35_1:aV prog 35 1=some (1,(false,1)):=id kR
def fl121_0:aV prog 121 0=some (0,(false,1)):=id kR
def fl32_0:aV prog 32 0=some (0,(false,1)):=id kR
def fl32_1:aV prog 32 1=some (1,(false,1)):=id kR
def fl46_1:aV prog 46 1=some (2,(false,1)):=id kR
def fl133_1:aV prog 133 1=some (1,(false,1)):=id kR
def fl133_2:aV prog 133 2=some (2,(false,1)):=id kR
def fl46_2:aV prog 46 2=some (3,(false,1)):=id kR
def fl46_0:aV prog 46 0=some (0,(true,2)):=id kR
def fl46_3:aV prog 46 3=some (4,(false,1)):=id kR
def fl133_3:aV prog 133 3=some (3,(false,1)):=id kR
def fl133_4:aV prog 133 4=some (4,(false,1)):=id kR
def fl142_1:aV prog 142 1=some (1,(false,1)):=id kR
def fl117_2:aV prog 117 2=some (2,(true,32)):=id kR
def fl117_1:aV prog 117 1=some (1,(false,1)):=id kR
def fl142_2:aV prog 142 2=some (2,(true,34)):=id kR
def fl126_0:aV prog 126 0=some (0,(true,32)):=id kR
def fl126_1:aV prog 126 1=some (32,(false,1)):=id kR
def fl133_0:aV prog 133 0=some (0,(false,1)):=id kR
def fl151_1:aV prog 151 1=some (1,(true,2)):=id kR
def fl151_0:aV prog 151 0=some (0,(false,1)):=id kR
def fl151_2:aV prog 151 2=some (3,(false,1)):=id kR
def fl168_2:aV prog 168 2=some (2,(false,1)):=id kR
def fl168_3:aV prog 168 3=some (3,(false,1)):=id kR
def fl67_4:aV prog 67 4=some (35,(false,1)):=id kR
def fl168_0:aV prog 168 0=some (0,(false,1)):=id kR
def fl175_2:aV prog 175 2=some (2,(false,1)):=id kR
def fl175_1:aV prog 175 1=some (1,(false,1)):=id kR
def fl175_0:aV prog 175 0=some (0,(false,1)):=id kR
def fl168_4:aV prog 168 4=some (4,(false,1)):=id kR
def fl182_0:aV prog 182 0=some (0,(false,1)):=id kR
def fl182_1:aV prog 182 1=some (1,(false,1)):=id kR
def fl187_2:aV prog 187 2=some (2,(false,1)):=id kR
def fl187_1:aV prog 187 1=some (1,(false,1)):=id kR
def fl187_0:aV prog 187 0=some (0,(false,1)):=id kR
def fl198_1:aV prog 198 1=some (9,(false,1)):=id kR
def fl198_0:aV prog 198 0=some (0,(true,9)):=id kR
def fl195_0:aV prog 195 0=some (0,(false,1)):=id kR
def fl195_1:aV prog 195 1=some (1,(false,1)):=id kR
def fl108_0:aV prog 108 0=some (0,(false,1)):=id kR
def fl198_3:aV prog 198 3=some (11,(false,1)):=id kR
def fl195_2:aV prog 195 2=some (2,(false,1)):=id kR
def fl198_4:aV prog 198 4=some (12,(false,1)):=id kR
def fl203_1:aV prog 203 1=some (1,(false,1)):=id kR
def fl200_0:aV prog 200 0=some (0,(false,1)):=id kR
def fl200_1:aV prog 200 1=some (1,(false,1)):=id kR
def fl203_0:aV prog 203 0=some (0,(false,1)):=id kR
def fl117_0:aV prog 117 0=some (0,(false,1)):=id kR
def fl243_2:aV prog 243 2=some (2,(false,1)):=id kR
def fl243_1:aV prog 243 1=some (1,(false,1)):=id kR
def fl126_2:aV prog 126 2=some (33,(false,1)):=id kR
def fl168_1:aV prog 168 1=some (1,(false,1)):=id kR
def fl149_0:aV prog 149 0=some (0,(false,1)):=id kR
def fl149_1:aV prog 149 1=some (1,(true,32)):=id kR
def fl198_2:aV prog 198 2=some (10,(false,1)):=id kR
def fl219_0:aV prog 219 0=some (0,(false,1)):=id kR
def fl219_3:aV prog 219 3=some (3,(false,1)):=id kR
def fl219_1:aV prog 219 1=some (1,(false,1)):=id kR
def fl219_2:aV prog 219 2=some (2,(false,1)):=id kR
def fl236_0:aV prog 236 0=some (0,(true,2)):=id kR
def fl243_0:aV prog 243 0=some (0,(false,1)):=id kR
def fl142_0:aV prog 142 0=some (0,(false,1)):=id kR
def fl314_1:aV prog 314 1=some (1,(false,1)):=id kR
def fl314_0:aV prog 314 0=some (0,(false,1)):=id kR
def fl336_3:aV prog 336 3=some (3,(false,1)):=id kR
def fl298_4:aV prog 298 4=some (74,(false,1)):=id kR
def fl298_3:aV prog 298 3=some (73,(false,1)):=id kR
def fl298_1:aV prog 298 1=some (1,(true,8)):=id kR
def fl234_1:aV prog 234 1=some (1,(false,1)):=id kR
def fl314_2:aV prog 314 2=some (2,(false,1)):=id kR
def fl321_4:aV prog 321 4=some (4,(false,1)):=id kR
def fl321_3:aV prog 321 3=some (3,(false,1)):=id kR
def fl321_6:aV prog 321 6=some (6,(false,1)):=id kR
def fl321_5:aV prog 321 5=some (5,(false,1)):=id kR
def fl321_0:aV prog 321 0=some (0,(false,1)):=id kR
def fl321_1:aV prog 321 1=some (1,(false,1)):=id kR
def fl336_1:aV prog 336 1=some (1,(false,1)):=id kR
def fl336_0:aV prog 336 0=some (0,(false,1)):=id kR
def fl336_4:aV prog 336 4=some (4,(false,1)):=id kR
def fl336_2:aV prog 336 2=some (2,(false,1)):=id kR
def fl298_0:aV prog 298 0=some (0,(false,1)):=id kR
def fl298_2:aV prog 298 2=some (9,(true,64)):=id kR
def fl234_0:aV prog 234 0=some (0,(false,1)):=id kR
def fl395_0:aV prog 395 0=some (0,(false,1)):=id kR
def fl395_1:aV prog 395 1=some (1,(false,1)):=id kR
def fl395_2:aV prog 395 2=some (2,(false,1)):=id kR
def fl321_2:aV prog 321 2=some (2,(false,1)):=id kR
def fl418_0:aV prog 418 0=some (0,(false,1)):=id kR
def fl418_1:aV prog 418 1=some (1,(false,1)):=id kR
def cv5_3:cvT prog 5 3= .int .i64:=id kR
def cv169_3:cvT prog 169 3= .int .i64:=id kR
def cv3_253:cvT prog 3 253= .int .u64:=id kR
def cv250_5:cvT prog 250 5= .int .u8:=id kR
def cv3_5:cvT prog 3 5= .int .u8:=id kR
def cv232_9:cvT prog 232 9= .bytesStr:=id kR
def cv3_296:cvT prog 3 296= .int .u64:=id kR
def cv296_5:cvT prog 296 5= .int .u8:=id kR
def cv5_250:cvT prog 5 250= .int .u32:=id kR
def cv253_250:cvT prog 253 250= .int .u32:=id kR
def cv231_371:cvT prog 231 371= .no:=id kR
def cv371_231:cvT prog 371 231= .no:=id kR
def cv3_382:cvT prog 3 382= .int .u64:=id kR
def cv253_3:cvT prog 253 3= .int .i64:=id kR
def cv3_419:cvT prog 3 419= .no:=id kR
def cv419_3:cvT prog 419 3= .no:=id kR
def fx:=aN (aN (aN (aN (aN (aN (aN @ix22 (aN @ix30 @ix44)) (aN (aN @ix65 @ix71) (aN @ix81 @ix94))) (aN (aN @ix122 (aN @ix9 @ix24)) (aN (aN @ix170 @ix172) (aN @ix179 @ix191)))) (aN (aN (aN @ix196 (aN @ix193 @ix192)) (aN (aN @ix302 @ix251) (aN @ix262 @ix306))) (aN (aN @ix307 (aN @ix162 @ix232)) (aN (aN @ix346 @ix348) (aN @ix362 @ix295))))) (aN (aN (aN (aN @ix414 (aN @ix408 @ag24)) (aN (aN @ag32 @ag35) (aN @ag46 @ag30))) (aN (aN @ag3 (aN @ag67 @ag73)) (aN (aN @ag9 @ag71) (aN @ag65 @ag117)))) (aN (aN (aN @ag121 (aN @ag119 @ag22)) (aN (aN @ag126 @ag133) (aN @ag44 @ag59))) (aN (aN @ag130 (aN @ag131 @ag122)) (aN (aN @ag41 @ag28) (aN @ag82 @ag4)))))) (aN (aN (aN (aN (aN @ag5 (aN @ag170 @ag166)) (aN (aN @ag172 @ag176) (aN @ag173 @ag151))) (aN (aN @ag149 (aN @ag187 @ag182)) (aN (aN @ag191 @ag200) (aN @ag192 @ag203)))) (aN (aN (aN @ag108 (aN @ag97 @ag169)) (aN (aN @ag193 @ag219) (aN @ag236 @ag243))) (aN (aN @ag251 (aN @ag250 @ag262)) (aN (aN @ag142 @ag261) (aN @ag168 @ag175))))) (aN (aN (aN (aN @ag198 (aN @ag298 @ag306)) (aN (aN @ag307 @ag140) (aN @ag314 @ag321))) (aN (aN @ag336 (aN @ag302 @ag296)) (aN (aN @ag232 @ag76) (aN @ag346 @ag348)))) (aN (aN (aN @ag347 (aN @ag231 @ag382)) (aN (aN @ag179 @ag395) (aN @ag418 @ag416))) (aN (aN (aN @ag178 @ag414) (aN @fl46_4 @fl46_5)) (aN (aN @fl59_0 @fl35_0) (aN @fl59_1 @fl67_2))))))) (aN (aN (aN (aN (aN (aN @fl67_3 (aN @fl67_1 @fl67_0)) (aN (aN @fl73_1 @fl73_0) (aN @fl67_5 @fl108_1))) (aN (aN @fl108_2 (aN @fl35_1 @fl121_0)) (aN (aN @fl32_0 @fl32_1) (aN @fl46_1 @fl133_1)))) (aN (aN (aN @fl133_2 (aN @fl46_2 @fl46_0)) (aN (aN @fl46_3 @fl133_3) (aN @fl133_4 @fl142_1))) (aN (aN @fl117_2 (aN @fl117_1 @fl142_2)) (aN (aN @fl126_0 @fl126_1) (aN @fl133_0 @fl151_1))))) (aN (aN (aN (aN @fl151_0 (aN @fl151_2 @fl168_2)) (aN (aN @fl168_3 @fl67_4) (aN @fl168_0 @fl175_2))) (aN (aN @fl175_1 (aN @fl175_0 @fl168_4)) (aN (aN @fl182_0 @fl182_1) (aN @fl187_2 @fl187_1)))) (aN (aN (aN @fl187_0 (aN @fl198_1 @fl198_0)) (aN (aN @fl195_0 @fl195_1) (aN @fl108_0 @fl198_3))) (aN (aN @fl195_2 (aN @fl198_4 @fl203_1)) (aN (aN @fl200_0 @fl200_1) (aN @fl203_0 @fl117_0)))))) (aN (aN (aN (aN (aN @fl243_2 (aN @fl243_1 @fl126_2)) (aN (aN @fl168_1 @fl149_0) (aN @fl149_1 @fl198_2))) (aN (aN @fl219_0 (aN @fl219_3 @fl219_1)) (aN (aN @fl219_2 @fl236_0) (aN @fl243_0 @fl142_0)))) (aN (aN (aN @fl314_1 (aN @fl314_0 @fl336_3)) (aN (aN @fl298_4 @fl298_3) (aN @fl298_1 @fl234_1))) (aN (aN @fl314_2 (aN @fl321_4 @fl321_3)) (aN (aN @fl321_6 @fl321_5) (aN @fl321_0 @fl321_1))))) (aN (aN (aN (aN @fl336_1 (aN @fl336_0 @fl336_4)) (aN (aN @fl336_2 @fl298_0) (aN @fl298_2 @fl234_0))) (aN (aN @fl395_0 (aN @fl395_1 @fl395_2)) (aN (aN @fl321_2 @fl418_0) (aN @fl418_1 @cv5_3)))) (aN (aN (aN @cv169_3 (aN @cv3_253 @cv250_5)) (aN (aN @cv3_5 @cv232_9) (aN @cv3_296 @cv296_5))) (aN (aN (aN @cv5_250 @cv253_250) (aN @cv231_371 @cv371_231)) (aN (aN @cv3_382 @cv253_3) (aN @cv3_419 @cv419_3)))))))
def dD {p:Prop} (h:p:=by first|assumption|omega| (simp only[tk,tj,UInt64.reduceToNat];first|done|omega)):p:=h
def kp {X A G:Prop} (x:X) (h:G) (e:X→A=G:=by intro x;(try simp(disch:=(first|assumption|omega| (simp only[tk,tj,UInt64.reduceToNat];try omega))) only[↓Sx.S0,Sx.S1,fx,Nat.reduceAdd,Nat.reducePow,Int.reducePow,Nat.reduceBEq, ↓reduceIte,UInt8.reduceToNat,UInt16.reduceToNat,UInt32.reduceToNat,UInt64.reduceToNat,Int.reduceToNat,x]);exact rfl):A:=(e x).mpr h
class Stp (z:List Nat) (A:Prop) (B:outParam Prop):Prop where
 go:B→A
instance (priority:=low) {z:List Nat} {A:Prop}:Stp z A A:=⟨id⟩
section
variable {P:Program} {w0:World} {f:Fr} {L:aB} {K:cK} {N:Fr→aB→Prop} {ops:Array Oper} {md:Md} {l:List Oper} {X G:Prop}
def ks {c:Code} (z:List Nat) [Sx.Steps c] (x:X) (h:G) (e:X→vcC P w0 z c f L (bsK K)=G:=by intro x;(try simp(disch:=(first|assumption|omega| (simp only[tk,tj,UInt64.reduceToNat];try omega))) only[↓Sx.S0,Sx.S1,fx,Nat.reduceAdd,Nat.reducePow,Int.reducePow,Nat.reduceBEq, ↓reduceIte,UInt8.reduceToNat,UInt16.reduceToNat,UInt32.reduceToNat,UInt64.reduceToNat,Int.reduceToNat,x]);exact rfl):Cw P w0 c f L K:=Cw.go z ((e x).mpr h)
instance {c:Code} {z:List Nat} [Sx.Steps c]:Stp z (Cw P w0 c f L K) (vcC P w0 z c f L (bsK K)):=⟨Cw.go z⟩
def ko (x:X) (h:G) (e:X→vcL P w0 ops true md l f L (owk P w0 ops (bsN N))=G:=by intro x;(try simp(disch:=(first|assumption|omega| (simp only[tk,tj,UInt64.reduceToNat];try omega))) only[↓Sx.S0,Sx.S1,fx,Nat.reduceAdd,Nat.reducePow,Int.reducePow,Nat.reduceBEq, ↓reduceIte,UInt8.reduceToNat,UInt16.reduceToNat,UInt32.reduceToNat,UInt64.reduceToNat,Int.reduceToNat,x]);exact rfl) (he:md.eff=true:=by rfl):Ow P w0 ops md l f L N:=Ow.go he ((e x).mpr h)
def kq (x:X) (h:G) (e:X→vcL P w0 ops false md l f L (owk P w0 ops (bsN N))=G:=by intro x;(try simp(disch:=(first|assumption|omega| (simp only[tk,tj,UInt64.reduceToNat];try omega))) only[↓Sx.S0,Sx.S1,fx,Nat.reduceAdd,Nat.reducePow,Int.reducePow,Nat.reduceBEq, ↓reduceIte,UInt8.reduceToNat,UInt16.reduceToNat,UInt32.reduceToNat,UInt64.reduceToNat,Int.reduceToNat,x]);exact rfl):Ow P w0 ops md l f L N:=Ow.goQ ((e x).mpr h)
end
def kz {X A B G:Prop} (z:List Nat) [Stp z A B] (x:X) (h:G) (e:X→B=G:=by intro x;(try simp(disch:=(first|assumption|omega| (simp only[tk,tj,UInt64.reduceToNat];try omega))) only[↓Sx.S0,Sx.S1,fx,Nat.reduceAdd,Nat.reducePow,Int.reducePow,Nat.reduceBEq, ↓reduceIte,UInt8.reduceToNat,UInt16.reduceToNat,UInt32.reduceToNat,UInt64.reduceToNat,Int.reduceToNat,x]);exact rfl):A:=Stp.go z ((e x).mpr h)
def ky {X A B G:Prop} [Stp [] A B] (x:X) (h:G) (e:X→B=G:=by intro x;(try simp(disch:=(first|assumption|omega| (simp only[tk,tj,UInt64.reduceToNat];try omega))) only[↓Sx.S0,Sx.S1,fx,Nat.reduceAdd,Nat.reducePow,Int.reducePow,Nat.reduceBEq, ↓reduceIte,UInt8.reduceToNat,UInt16.reduceToNat,UInt32.reduceToNat,UInt64.reduceToNat,Int.reduceToNat,x]);exact rfl):A:=Stp.go [] ((e x).mpr h)
def ke {α:Type} {X:Prop} {a b:α} (x:X) (e:X→a=b:=by intro x;(try simp(disch:=(first|assumption|omega| (simp only[tk,tj,UInt64.reduceToNat];try omega))) only[↓Sx.S0,Sx.S1,fx,Nat.reduceAdd,Nat.reducePow,Int.reducePow,Nat.reduceBEq, ↓reduceIte,UInt8.reduceToNat,UInt16.reduceToNat,UInt32.reduceToNat,UInt64.reduceToNat,Int.reduceToNat,x]);exact rfl):a=b:=e x
def kn {A G:Prop} (h:G) (e:A=G:=by(try simp(disch:=(first|assumption|omega| (simp only[tk,tj,UInt64.reduceToNat];try omega))) only[n5,vV,List.cons_append,List.nil_append]);exact rfl):A:=e.mpr h
def kf {A G:Prop} (h:G) (e:A=G:=by simp only[List.size_toArray,List.length_cons,List.length_nil,Nat.reduceAdd,Nat.reduceSub,List.replicate_succ,List.replicate_zero,List.cons_append,List.nil_append];exact rfl):A:=e.mpr h
def kv {A G:Prop} (h:G) (e:A=G:=by simp only[lY,pin,iP,iQ,List.contains_cons,List.contains_nil,Nat.reduceBEq,Bool.or_false,Bool.false_or,Bool.or_true,Bool.true_or,Nat.reduceAdd, ↓reduceIte,Bool.false_eq_true];exact rfl):A:=e.mpr h
def Ah (p v:Value) (E:TypeId) (n:Nat):aQ (some (false,n)) (some (.cells #[p,v] E (0,0))) 0=some p:=(rfl)
def Ag (p v:Value) (E:TypeId) (n:Nat):aQ (some (false,n)) (some (.cells #[p,v] E (0,0))) 1=some v:=(rfl)
def EU (p v x:Value) (E:TypeId) (hx:Value.oneCell' x=true∧x.cells= #[x]):aw (some (false,1)) (some (.cells #[p,v] E (0,0))) 0 x=some (.cells #[x,v] E (0,0)):=by
 simp[aw,hx,dZ]
def E4 (p v x:Value) (E:TypeId) (hx:Value.oneCell' x=true∧x.cells= #[x]):aw (some (false,1)) (some (.cells #[p,v] E (0,0))) 1 x=some (.cells #[p,x] E (0,0)):=by
 simp[aw,hx,dZ]
def Ko (p v:Value) (b o:Nat) (E:TypeId):aw (some (false,1)) (some (.cells #[p,v] E (0,0))) 0 (vp b o)=some (.cells #[vp b o,v] E (0,0)):=EU _ _ _ _ ⟨rfl,rfl⟩
def nilB (b o:Nat):ab prog .eql 231 (vp b o) (.pointer none)=some (.bool false):=by
 simp[ab,eqX,eN,eA,underlying231,vp]
def xS:ab prog .eql 231 (.pointer none) (.pointer none)=some (.bool true):=by
 simp[ab,eqX,eN,eA,underlying231]
def pV:=aN (aN @Ah @Ag) (aN @Ko (aN @nilB @xS))
def axw_:liesAt prog Tryz.prog.depth 236 ((#[Value.pointer none,Value.pointer none]:Array Value).size / Tryz.prog.cellsOf 236) 0 234 1=true:=id kR
def aggB:aK prog 234=some (true,2):=id kR
def Wm (x:Value) (w:World): (callFunc 262 #[x]).run prog w= .ok (.value x) w:=by kernel_rfl
def QD_ (b:Nat) (p v:Value) (w:World) (hp:p= .pointer none∨p=vp b 0) (ho:w.heap[b]? =some (.cells #[p,v] 236 (0,0))):
  Rets prog 230 #[vp b 0] w (fun v' D=> ∃o,D= [(b,o)]∧v'= .tuple #[]∧o= .cells #[vp b 0,v] 236 (0,0)):=by
 refine Rets.enterM func230 rfl (rs:= []) results230 ntmps230 ho ?_
 refine kf ?_
 rcases hp with rfl|rfl
 ·refine ky @pV ?_
  refine Ow.toUnsafe rfl rfl kR rfl (ac (fN _ _ _)) (by simp) aggB (by decide) underlying231 underlying371 ?_
  refine Ow.callExt (v:=vp b 0) rfl rfl (fun w=>Wm _ w) ?_
  refine Ow.ofUnsafe rfl rfl kR rfl (ac (fN _ _ _)) aggB axw_ underlying371 underlying231 ?_
  refine ko @pV ?_
  refine ky @pV ?_
  refine⟨_,_,_,(ke @pV),rfl,trivial, ?_⟩
  exact⟨rfl,rfl⟩
 refine kz [2] @pV ?_
 refine Cw.region ?_
 refine Ow.value rfl rfl rfl ?_
 refine Ow.value (v:=vp b 0) rfl rfl (by simp(disch:=first|exact dD|fail) only[↓Sx.S0,Sx.S1,fx,pV,Nat.reduceAdd,Nat.reducePow,Int.reducePow,Nat.reduceBEq, ↓reduceIte,UInt8.reduceToNat,UInt16.reduceToNat,UInt32.reduceToNat,UInt64.reduceToNat,Int.reduceToNat,j3]) ?_
 refine Ow.value (v:=vp b 0) rfl rfl (by simp(disch:=first|exact dD|fail) only[↓Sx.S0,Sx.S1,fx,pV,Nat.reduceAdd,Nat.reducePow,Int.reducePow,Nat.reduceBEq, ↓reduceIte,UInt8.reduceToNat,UInt16.reduceToNat,UInt32.reduceToNat,UInt64.reduceToNat,Int.reduceToNat,j3]) ?_
 refine Ow.value (v:=vp b 0) rfl rfl (by simp(disch:=first|exact dD|fail) only[↓Sx.S0,Sx.S1,fx,pV,Nat.reduceAdd,Nat.reducePow,Int.reducePow,Nat.reduceBEq, ↓reduceIte,UInt8.reduceToNat,UInt16.reduceToNat,UInt32.reduceToNat,UInt64.reduceToNat,Int.reduceToNat,j3]) ?_
 refine Ow.value rfl rfl rfl ?_
 refine Ow.neqSame rfl underlying231 aggB rfl rfl ?_
 refine ko @pV ?_
 refine ky @pV ?_
 refine⟨_,_,_,(ke @pV),rfl,trivial, ?_⟩
 exact⟨rfl,rfl⟩
def lz:=aN (aN @Ah @Ag) (aN @Ko (aN @nilB @xS))
def BldAt (b:Nat) (l:List UInt8) (X:aB):Prop:=
 ∃p v,Sx.look X b=some (.cells #[p,v] 236 (0,0))∧(p= .pointer none∨p=vp b 0)∧Buf X 5 1 v l.length (l.map v8)∧slB v≠some b
def QE_ (b:Nat) (X:aB) (l:List UInt8) (c:UInt8) (w:World) (hB:BldAt b l X) (hX: ∀p,p∈X→w.heap[p.1]? =some p.2) (hn: (keys X).Nodup) (hl:l.length<34359738368):
  Rets prog 191 #[vp b 0,v8 c] w (XS w X (fun v D=>v= .nilIface∧BldAt b (l++ [c]) D)):=by
 obtain⟨p,v,bz,hp,hb,cb⟩:=hB
 refine Rets.enterX func191 rfl (rs:= [.tmp 4]) results191 ntmps191 hX hn ?_
 refine kf ?_
 refine ky @lz ?_
 refine Ow.callM rfl rfl call230 (cC bz) (fun w' aA=>QD_ b p v w' hp (aA.has _ _ (cu bz))) ?_
 have lk1:=jR (x:= .cells #[vp b 0,v] 236 (0,0)) bz
 have rd1:=ac (w0:=w) lk1
 have aO:Buf (setB X b (.cells #[vp b 0,v] 236 (0,0))) 5 1 v l.length (l.map v8):=hb.setO cb
 have kx:Ext w X (setB X b (.cells #[vp b 0,v] 236 (0,0))):=(Ext.refl w X).setB
 generalize setB X b (.cells #[vp b 0,v] 236 (0,0))=X1 at*
 refine ko @lz ?_
 refine ky (aN @lz @rd1) ?_
 refine Ow.buildSlice (e:=5) #[v8 c] rfl rfl kR fun b3 gA lB=> ?_
 have lk3:Sx.look (X1++ [(b3, .cells #[v8 c] 5 (0,0))]) b3=some (.cells #[v8 c] 5 (0,0)):=jQ gA
 have al:Buf (X1++ [(b3, .cells #[v8 c] 5 (0,0))]) 5 1 v l.length (l.map v8):=aO.app
 refine ko @lz ?_
 refine Ow.append (e:=5) _ rfl rfl rfl underlying232 ag5 kR zr5 kR underlying232 (by intro k h;cases h) al (fun w' aA=>AppX.block (k:=1) (new:= [v8 c]) (ac lk3) (by simp) (by simp) rfl aA) oM (fun v2 L2 cZ tG bH=> ?_)
 have lk2:Sx.look L2 b=some (.cells #[vp b 0,v] 236 (0,0)):=tG.look b _ cb (bZ lk1)
 have st2:aw (some (false,1)) (some (.cells #[vp b 0,v] 236 (0,0))) 1 v2=some (.cells #[vp b 0,v2] 236 (0,0)):=E4 _ _ _ _ cZ.cell
 refine ko (aN @lz (aN @lk2 (aN @st2 @n8))) ?_
 refine ky @lz ?_
 refine⟨_,(ke @lz), ?_⟩
 have ex:=(kx.app (o:= .cells #[v8 c] 5 (0,0)) lB).grew tG
 have eL:slB v2≠some b:=by
  rcases bH with h| ⟨c',h,ha⟩
  ·rw[h];exact cb
  rw[h]
  intro e
  cases e
  exact Nat.lt_irrefl _ (ak ha (cC (bZ lk1)))
 refine⟨ex.setB,rfl,vp b 0,v2,jR lk2, .inr rfl, ?_,eL⟩
 rw[List.length_append,List.map_append]
 exact cZ.setO eL
def lL:=aN (aN @Ah @Ag) (aN @Ko (aN @nilB @xS))
def Kz_ (b:Nat) (X:aB) (l s:List UInt8) (w:World) (hB:BldAt b l X) (hX: ∀p,p∈X→w.heap[p.1]? =some p.2) (hn: (keys X).Nodup) (hl:l.length+s.length<34359738368):
  Rets prog 208 #[vp b 0,vs s] w (XS w X (fun v D=>v= .tuple #[vi s.length, .nilIface]∧BldAt b (l++s) D)):=by
 obtain⟨p,v,bz,hp,hb,cb⟩:=hB
 refine Rets.enterX func208 rfl (rs:= [.tmp 4, .tmp 5]) results208 ntmps208 hX hn ?_
 refine kf ?_
 refine ky @lL ?_
 refine Ow.callM rfl rfl call230 (cC bz) (fun w' aA=>QD_ b p v w' hp (aA.has _ _ (cu bz))) ?_
 have lk1:=jR (x:= .cells #[vp b 0,v] 236 (0,0)) bz
 have rd1:=ac (w0:=w) lk1
 have aO:Buf (setB X b (.cells #[vp b 0,v] 236 (0,0))) 5 1 v l.length (l.map v8):=hb.setO cb
 have kx:Ext w X (setB X b (.cells #[vp b 0,v] 236 (0,0))):=(Ext.refl w X).setB
 generalize setB X b (.cells #[vp b 0,v] 236 (0,0))=X1 at*
 refine ko @lL ?_
 refine ky (aN @lL @rd1) ?_
 refine Ow.append (e:=5) _ rfl rfl rfl underlying232 ag5 kR zr5 kR underlying9 (by intro k h;cases h) aO (fun w' aA=>AppX.text _ w' s) oM (fun v2 L2 cZ tG bH=> ?_)
 have lk2:Sx.look L2 b=some (.cells #[vp b 0,v] 236 (0,0)):=tG.look b _ cb lk1
 have st2:aw (some (false,1)) (some (.cells #[vp b 0,v] 236 (0,0))) 1 v2=some (.cells #[vp b 0,v2] 236 (0,0)):=E4 _ _ _ _ cZ.cell
 refine ko (aN @lL (aN @lk2 (aN @st2 @n8))) ?_
 refine ky @lL ?_
 refine⟨_,(ke @lL), ?_⟩
 have ex:=kx.grew tG
 have eL:slB v2≠some b:=by
  rcases bH with h| ⟨c',h,ha⟩
  ·rw[h];exact cb
  rw[h]
  intro e
  cases e
  exact Nat.lt_irrefl _ (ak ha (cC lk1))
 refine⟨ex.setB,rfl,vp b 0,v2,jR lk2, .inr rfl, ?_,eL⟩
 rw[List.length_append,List.map_append]
 exact cZ.setO eL
def Nj (b:Nat) (X:aB) (l:List UInt8) (w:World) (hB:BldAt b l X) (hX: ∀p,p∈X→w.heap[p.1]? =some p.2) (hn: (keys X).Nodup) (hl:l.length<34359738368):
  Rets prog 192 #[vp b 0] w (XS w X (fun v _D=>v=vs l)):=by
 obtain⟨p,v,bz,hp,hb,cb⟩:=hB
 have rd1:=ac (w0:=w) bz
 refine Rets.enterX func192 rfl (rs:= [.tmp 2]) results192 ntmps192 hX hn ?_
 refine kf ?_
 refine ky @lL ?_
 refine Cw.regionS [b] [0,1,2,5,6,7,3,8,9,4,10,11] [] kR kR kR ?_
 simp only[bF, ↓bE, ↓ay, ↓bD, ↓bC,az]
 refine Ow.goQ ?_
 simp(disch:=first|exact dD|fail) only[↓Sx.S0,Sx.S1,fx,lL,Nat.reduceAdd,Nat.reducePow,Int.reducePow,Nat.reduceBEq, ↓reduceIte,UInt8.reduceToNat,UInt16.reduceToNat,UInt32.reduceToNat,UInt64.reduceToNat,Int.reduceToNat,rd1,hb.len]
 refine Ow.soft rfl rfl rfl ?_
 rcases hb.inv with⟨rfl,h0,-⟩ | ⟨b2,c,rest,rfl,fX,h1,h3,h4,-⟩
 ·obtain rfl:l= []:=List.eq_nil_of_length_eq_zero h0
  refine Ow.sliceData (v:= .pointer none) rfl rfl (.inl ⟨0,0,rfl,rfl⟩) ?_
  with_reducible refine Ow.nil ?_
  refine⟨by intro b hb;simp only[List.mem_cons,List.not_mem_nil,or_false] at hb;(try subst hb);rfl, ?_⟩
  refine Ow.soft rfl rfl rfl ?_
  refine Ow.unsafeStringNil rfl rfl rfl rfl ?_
  with_reducible refine Ow.nil ?_
  refine⟨by intro b hb;simp only[List.mem_cons,List.not_mem_nil,or_false] at hb;(try subst hb);rfl, ?_⟩
  refine kq @lL ?_
  try with_reducible refine Ow.nil ?_
  refine ky @lL ?_
  refine⟨_,(ke @lL), ?_⟩
  exact⟨Ext.refl _ _,rfl⟩
 refine Ow.sliceData (v:=vp b2 0) rfl rfl (.inr ⟨b2,_,c,rfl,by omega,rfl⟩) ?_
 with_reducible refine Ow.nil ?_
 refine⟨by intro b hb;simp only[List.mem_cons,List.not_mem_nil,or_false] at hb;(try subst hb);rfl, ?_⟩
 by_cases h0:l.length=0
 ·obtain rfl:l= []:=List.eq_nil_of_length_eq_zero h0
  refine Ow.soft rfl rfl rfl ?_
  refine Ow.unsafeStringNil rfl rfl rfl rfl ?_
  with_reducible refine Ow.nil ?_
  refine⟨by intro b hb;simp only[List.mem_cons,List.not_mem_nil,or_false] at hb;(try subst hb);rfl, ?_⟩
  refine kq @lL ?_
  try with_reducible refine Ow.nil ?_
  refine ky @lL ?_
  refine⟨_,(ke @lL), ?_⟩
  exact⟨Ext.refl _ _,rfl⟩
 refine Ow.soft rfl rfl rfl ?_
 refine Ow.unsafeString rfl rfl rfl rfl fX oM oM underlying341 kR (of_decide_eq_true kR) ?_
 with_reducible refine Ow.nil ?_
 refine⟨by intro b hb;simp only[List.mem_cons,List.not_mem_nil,or_false] at hb;(try subst hb);exact AN (fun e=>cb (by rw[←e];rfl)), ?_⟩
 refine kq @lL ?_
 try with_reducible refine Ow.nil ?_
 refine ky @lL ?_
 refine⟨_,(ke @lL), ?_⟩
 exact⟨(Ext.refl _ _).setB,rfl⟩
def nilW (b o:Nat):ab prog .eql 268 (vp b o) (.pointer none)=some (.bool false):=by
 simp[ab,eqX,eN,eA,underlying268,vp]
def kW:=aN @Ah (aN @Ag @nilW)
structure WG where
 g:Nat
 D:aB
def ME (l:List (List UInt8)) (g:Nat) (h:g<l.length): (l.take (g+1)).flatten=(l.take g).flatten++l.getD g []:=by
 rw[List.take_add_one,List.getElem?_eq_getElem h,List.flatten_append,List.getD_eq_getElem?_getD,List.getElem?_eq_getElem h]
 simp
def N8 (l:List (List UInt8)) (g:Nat): (l.take g).flatten.length≤l.flatten.length:=by
 conv=>rhs;rw[←List.take_append_drop g l,List.flatten_append,List.length_append]
 omega
def JJ (b:Nat) (X:aB) (l:List UInt8) (x:Value) (b2 off:Nat) (ls:List (List UInt8)) (arr:Array Value) (E:TypeId) (fz:Nat×Nat) (w:World) (hB:BldAt b l X) (hX: ∀p,p∈X→w.heap[p.1]? =some p.2) (hn: (keys X).Nodup)
  (hS:StrS w x ls b2 off arr E fz) (aU:0<ls.length→b2∉keys X) (hl:l.length+ls.flatten.length<34359738368) (yC:ls.length<34359738368):
  Rets prog 154 #[vp b 0,x] w (XS w X (fun v D=>v= .tuple #[]∧BldAt b (l++ls.flatten) D)):=by
 refine Rets.enterX func154 rfl (rs:= []) results154 ntmps154 hX hn ?_
 refine kf ?_
 ((try with_reducible refine Cw.go [] ?_);(try simp(disch:=first|exact dD|fail) only[↓Sx.S0,Sx.S1,fx,kW,Nat.reduceAdd,Nat.reducePow,Int.reducePow,Nat.reduceBEq, ↓reduceIte,UInt8.reduceToNat,UInt16.reduceToNat,UInt32.reduceToNat,UInt64.reduceToNat,Int.reduceToNat,hS.len]))
 refine Cw.loopG (G:=WG) [11,12,13,5,14,15,16,17,18,19,10] (fun g=> [(10,vi g.g)]) (fun g=>g.D) (fun g=>g.g≤ls.length∧Ext w X g.D∧BldAt b (l++ (ls.take g.g).flatten) g.D) (fun g=>ls.length - g.g) ⟨0,X⟩ rfl rfl ?_ ?_
 ·exact⟨by simp,Ext.refl _ _,by simpa using hB⟩
 intro g j hg
 refine kv ?_
 obtain⟨g,D⟩:=g
 simp only at hg ⊢
 obtain⟨qU,hE,kJ⟩:=hg
 by_cases aC:g<ls.length
 ·have pB:=hS.get g aC
  have cW:=hE.old (hS.has oM) (aU oM)
  ((try with_reducible refine Cw.go [] ?_);(try simp(disch:=first|exact dD|fail) only[↓Sx.S0,Sx.S1,fx,kW,Nat.reduceAdd,Nat.reducePow,Int.reducePow,Nat.reduceBEq, ↓reduceIte,UInt8.reduceToNat,UInt16.reduceToNat,UInt32.reduceToNat,UInt64.reduceToNat,Int.reduceToNat,Sx.loadV_one,cW,pB,hS.idx]))
  have dg:=ME ls g aC
  have hfle:=N8 ls (g+1)
  have qS:=congrArg List.length dg
  rw[List.length_append] at qS
  refine Ow.callX (Y:= []) (by simp) rfl rfl call208 (fun w' aA hX hn=>Kz_ b D _ (ls.getD g []) w' kJ hX hn (by rw[List.length_append];omega)) (fun v2 D2 hC bH=> ?_)
  rw[List.append_nil]
  obtain⟨rfl,cZ⟩:=bH
  refine ko @kW ?_
  refine ky @kW ?_
  refine Again.mk (WG.mk (g+1) D2) (by show ls.length - (g+1)<ls.length - g;omega) ⟨by show g+1≤ls.length;omega,hE.came0 hC, ?_⟩ rfl rfl
  show BldAt b (l++ (ls.take (g+1)).flatten) D2
  rw[dg,←List.append_assoc]
  exact cZ
 obtain rfl:g=ls.length:=by omega
 refine ky @kW ?_
 refine⟨_,(ke @kW), ?_⟩
 rw[List.take_length] at kJ
 exact⟨hE,rfl,kJ⟩
def maxN:Int:=1099511627775
def eY (n:Nat):List UInt8:=if h:n<128 then [UInt8.ofNat n] else UInt8.ofNat (n%128+128)::eY (n / 128)
termination_by n
decreasing_by omega
def d_ (n:Int):Nat:=(if(if maxN<n then maxN else n)>0 then(if maxN<n then maxN else n) else 0).toNat
def ly (l:List Int):List UInt8:=(l.map fun n=>eY (d_ n)).flatten
def A6 {n:Nat} (h:n<128):eY n= [UInt8.ofNat n]:=by rw[eY];simp[h]
def AU {n:Nat} (h: ¬n<128):eY n=UInt8.ofNat (n%128+128)::eY (n / 128):=by rw[eY];simp[h]
theorem KA: ∀ (k n:Nat),n<128^k→0<k→(eY n).length≤k
 |0,n,h,h0=>absurd h0 oM
 |k+1,n,h,_=>by
  by_cases hn:n<128
  ·rw[A6 hn];simp
  rw[AU hn]
  have hk:0<k:=by
   rcases Nat.eq_zero_or_pos k with rfl|hk
   ·simp at h;omega
   exact hk
  have:=KA k (n / 128) (by rw[Nat.pow_succ] at h;omega) hk
  simp only[List.length_cons];omega
def Co (n:Int):d_ n<1099511627776:=by unfold d_ maxN;split<;>split at* <;>omega
def ij (n:Int): (eY (d_ n)).length≤6:=KA 6 _ (by have:=Co n;omega) oM
def ZE: ∀b:BitVec 8,b.toNat<128→(b|||128#8)=b+128#8:=by decide
def zC (m:Nat):UInt8.ofInt (m:Int)=UInt8.ofNat m:=by
 apply UInt8.toBitVec_inj.1
 apply BitVec.eq_of_toNat_eq
 simp[UInt8.ofInt,UInt8.ofNat]
 omega
def XM (m:Nat):UInt8.ofInt ((m:Int)%128) |||128=UInt8.ofNat (m%128+128):=by
 rw[show((m:Int)%128)=((m%128:Nat):Int) by omega,zC]
 apply UInt8.toBitVec_inj.1
 have h:=ZE (BitVec.ofNat 8 (m%128)) (by simp[BitVec.toNat_ofNat];omega)
 have h1: (UInt8.ofNat (m%128) |||128).toBitVec=BitVec.ofNat 8 (m%128) |||128#8:=rfl
 rw[h1,h]
 apply BitVec.eq_of_toNat_eq
 simp[UInt8.ofNat]
structure NG where
 m:Nat
 pre:List UInt8
 D:aB
def X3_ (b:Nat) (X:aB) (l:List UInt8) (x:Value) (b2 off:Nat) (ls:List Int) (arr:Array Value) (E:TypeId) (fz:Nat×Nat) (w:World) (hB:BldAt b l X) (hX: ∀p,p∈X→w.heap[p.1]? =some p.2) (hn: (keys X).Nodup)
  (hS:OneS vi 0 w x ls b2 off arr E fz) (aU:0<ls.length→b2∉keys X) (hl:l.length+ls.length*6<34359738368):
  Rets prog 123 #[vp b 0,x] w (XS w X (fun v D=>v= .tuple #[]∧BldAt b (l++ly ls) D)):=by
 refine Rets.enterX func123 rfl (rs:= []) results123 ntmps123 hX hn ?_
 refine kf ?_
 ((try with_reducible refine Cw.go [] ?_);(try simp(disch:=first|exact dD|fail) only[↓Sx.S0,Sx.S1,fx,kW,Nat.reduceAdd,Nat.reducePow,Int.reducePow,Nat.reduceBEq, ↓reduceIte,UInt8.reduceToNat,UInt16.reduceToNat,UInt32.reduceToNat,UInt64.reduceToNat,Int.reduceToNat,hS.len]))
 refine Cw.loopG (G:=WG) [11,12,13,5,14,15,16,17,18,21,22,23,24,25,26,27,28,19,20,29,30,31,32,33,34,35,10] (fun g=> [(10,vi g.g)]) (fun g=>g.D) (fun g=>g.g≤ls.length∧Ext w X g.D∧BldAt b (l++ly (ls.take g.g)) g.D) (fun g=>ls.length - g.g) ⟨0,X⟩ rfl rfl ?_ ?_
 ·exact⟨by simp,Ext.refl _ _,by simpa [ly] using hB⟩
 intro g j hg
 refine kv ?_
 obtain⟨g,D⟩:=g
 simp only at hg ⊢
 obtain⟨qU,hE,kJ⟩:=hg
 by_cases aC:g<ls.length
 ·have pB:=hS.get g aC
  have cW:=hE.old (hS.has oM) (aU oM)
  ((try with_reducible refine Cw.go [] ?_);(try simp(disch:=first|exact dD|fail) only[↓Sx.S0,Sx.S1,fx,kW,Nat.reduceAdd,Nat.reducePow,Int.reducePow,Nat.reduceBEq, ↓reduceIte,UInt8.reduceToNat,UInt16.reduceToNat,UInt32.reduceToNat,UInt64.reduceToNat,Int.reduceToNat,Sx.loadV_one,cW,pB,hS.idx]))
  refine Ow.minI rfl rfl rfl ?_
  refine Ow.maxI rfl rfl rfl ?_
  have k_: (if(if maxN<ls.getD g 0 then maxN else ls.getD g 0)>0 then(if maxN<ls.getD g 0 then maxN else ls.getD g 0) else 0)=(d_ (ls.getD g 0):Int):=by
   unfold d_;omega
  have hcl': (if(if 1099511627775<ls.getD g 0 then 1099511627775 else ls.getD g 0)>0 then(if 1099511627775<ls.getD g 0 then 1099511627775 else ls.getD g 0) else 0)=(d_ (ls.getD g 0):Int):=k_
  rw[hcl']
  have hcb:=Co (ls.getD g 0)
  have fy: (ly (ls.take g)).length≤g*6:=by
   unfold ly
   rw[List.length_flatten,List.map_map]
   have: ∀ (q:List Int),(q.map (List.length∘fun n=>eY (d_ n))).sum≤q.length*6:=by
    intro q
    induction q with
    |nil=>simp
    |cons y r ih=>have:=ij y;simp only[List.map_cons,List.sum_cons,List.length_cons,Function.comp];omega
   have h2:=this (ls.take g)
   rw[List.length_take] at h2
   have:min g ls.length*6≤g*6:=Nat.mul_le_mul_right _ (Nat.min_le_left _ _)
   omega
  have bI:=ij (ls.getD g 0)
  have I0:ly (ls.take (g+1))=ly (ls.take g)++eY (d_ (ls.getD g 0)):=by
   unfold ly
   rw[List.take_succ_eq_append_getElem aC,List.map_append,List.flatten_append,List.getD_eq_getElem?_getD,List.getElem?_eq_getElem aC]
   simp only[List.map_cons,List.map_nil,List.flatten_cons,List.flatten_nil,List.append_nil,Option.getD_some]
  generalize d_ (ls.getD g 0)=m0 at*
  refine ko @kW ?_
  refine ky @kW ?_
  refine Cw.loopG (G:=NG) [17,18,21,22,23,24,25,26,27,28,19,20,5] (fun q=> [(5,vi q.m)]) (fun q=>q.D) (fun q=>q.m≤m0∧Ext w X q.D∧eY m0=q.pre++eY q.m∧BldAt b (l++ly (ls.take g)++q.pre) q.D) (fun q=>q.m) ⟨m0,[],D⟩ rfl rfl ?_ ?_
  ·exact⟨ap _,hE,rfl,by rwa [List.append_nil]⟩
  intro q jq hq
  refine kv ?_
  obtain⟨m,pre,D1⟩:=q
  simp only at hq ⊢
  obtain⟨hqm,bq,qn,dV⟩:=hq
  have ql:=congrArg List.length qn
  rw[List.length_append] at ql
  by_cases hm:m<128
  ·refine ky @kW ?_
   rw[A6 hm] at qn ql
   have aS: (l++ly (ls.take g)++pre).length+1<34359738368:=by
    rw[List.length_append,List.length_append]
    simp only[List.length_cons,List.length_nil] at ql
    omega
   refine Ow.callX (Y:= []) (by simp) rfl rfl call191 (fun w' aA hX hn=>QE_ b D1 _ _ w' dV hX hn oM) (fun v2 D2 hC bH=> ?_)
   rw[List.append_nil]
   obtain⟨rfl,cZ⟩:=bH
   rw[zC] at cZ
   refine ko @kW ?_
   refine ky @kW ?_
   refine Again.mk (WG.mk (g+1) D2) (by show ls.length - (g+1)<ls.length - g;omega) ⟨by show g+1≤ls.length;omega,bq.came0 hC, ?_⟩ rfl rfl
   show BldAt b (l++ly (ls.take (g+1))) D2
   rw[I0,qn,←List.append_assoc,←List.append_assoc]
   exact cZ
  refine ky @kW ?_
  rw[AU hm] at qn ql
  have aS: (l++ly (ls.take g)++pre).length+1<34359738368:=by
   rw[List.length_append,List.length_append]
   simp only[List.length_cons] at ql
   omega
  refine Ow.callX (Y:= []) (by simp) rfl rfl call191 (fun w' aA hX hn=>QE_ b D1 _ _ w' dV hX hn oM) (fun v2 D2 hC bH=> ?_)
  rw[List.append_nil]
  obtain⟨rfl,cZ⟩:=bH
  rw[XM] at cZ
  refine ko @kW ?_
  refine ky @kW ?_
  refine Again.mk (NG.mk (m / 128) (pre++ [UInt8.ofNat (m%128+128)]) D2) (by show m / 128<m;omega) ⟨by show m / 128≤m0;omega,bq.came0 hC, ?_, ?_⟩ rfl rfl
  ·show eY m0=pre++ [UInt8.ofNat (m%128+128)]++eY (m / 128)
   rw[qn];simp
  show BldAt b (l++ly (ls.take g)++ (pre++ [UInt8.ofNat (m%128+128)])) D2
  rw[←List.append_assoc]
  exact cZ
 obtain rfl:g=ls.length:=by omega
 refine ky @kW ?_
 refine⟨_,(ke @kW), ?_⟩
 rw[List.take_length] at kJ
 exact⟨hE,rfl,kJ⟩
def iM:=aN (aN @Ah @Ag) (aN @nilW (aN @Ek @JK))
theorem BldAt.app {b:Nat} {l:List UInt8} {X Y:aB} (h:BldAt b l X):BldAt b l (X++Y):=by
 obtain⟨p,v,h1,h2,h3,h4⟩:=h
 exact⟨p,v,bZ h1,h2,h3.app,h4⟩
def dz (s:List UInt8):List UInt8:=eY (d_ s.length)++s
def lE (ls:List (List UInt8)):List UInt8:=(ls.map dz).flatten
def Cr (n:Int):ly [n]=eY (d_ n):=by simp[ly]
def Q8 (ls:List (List UInt8)) (g:Nat) (h:g<ls.length):lE (ls.take (g+1))=lE (ls.take g)++dz (ls.getD g []):=by
 unfold lE
 rw[List.take_succ_eq_append_getElem h,List.map_append,List.flatten_append,List.getD_eq_getElem?_getD,List.getElem?_eq_getElem h]
 simp only[List.map_cons,List.map_nil,List.flatten_cons,List.flatten_nil,List.append_nil,Option.getD_some]
def MO (ls:List (List UInt8)) (g:Nat): (lE (ls.take g)).length≤ (lE ls).length:=by
 conv=>rhs;rw[←List.take_append_drop g ls]
 unfold lE
 rw[List.map_append,List.flatten_append,List.length_append];omega
def Lo (b:Nat) (X:aB) (l:List UInt8) (x:Value) (b2 off:Nat) (ls:List (List UInt8)) (arr:Array Value) (E:TypeId) (fz:Nat×Nat) (w:World) (hB:BldAt b l X) (hX: ∀p,p∈X→w.heap[p.1]? =some p.2) (hn: (keys X).Nodup)
  (hS:StrS w x ls b2 off arr E fz) (aU:0<ls.length→b2∉keys X) (hl:l.length+ (lE ls).length<17179869184) (yC:ls.length<17179869184):
  Rets prog 124 #[vp b 0,x] w (XS w X (fun v D=>v= .tuple #[]∧BldAt b (l++lE ls) D)):=by
 refine Rets.enterX func124 rfl (rs:= []) results124 ntmps124 hX hn ?_
 refine kf ?_
 ((try with_reducible refine Cw.go [] ?_);(try simp(disch:=first|exact dD|fail) only[↓Sx.S0,Sx.S1,fx,iM,Nat.reduceAdd,Nat.reducePow,Int.reducePow,Nat.reduceBEq, ↓reduceIte,UInt8.reduceToNat,UInt16.reduceToNat,UInt32.reduceToNat,UInt64.reduceToNat,Int.reduceToNat,hS.len]))
 refine Cw.loopG (G:=WG) [9,10,11,5,12,13,14,15,16,17,18,19,20,21,8] (fun g=> [(8,vi g.g)]) (fun g=>g.D) (fun g=>g.g≤ls.length∧Ext w X g.D∧BldAt b (l++lE (ls.take g.g)) g.D) (fun g=>ls.length - g.g) ⟨0,X⟩ rfl rfl ?_ ?_
 ·exact⟨by simp,Ext.refl _ _,by simpa [lE] using hB⟩
 intro g j hg
 refine kv ?_
 obtain⟨g,D⟩:=g
 simp only at hg ⊢
 obtain⟨qU,hE,kJ⟩:=hg
 by_cases aC:g<ls.length
 ·have pB:=hS.get g aC
  have cW:=hE.old (hS.has oM) (aU oM)
  have vE:=Q8 ls g aC
  have dC:=MO ls (g+1)
  have cb:=congrArg List.length vE
  rw[List.length_append] at cb
  have dE: (dz (ls.getD g [])).length=(eY (d_ (ls.getD g []).length)).length+ (ls.getD g []).length:=by unfold dz;rw[List.length_append]
  ((try with_reducible refine Cw.go [] ?_);(try simp(disch:=first|exact dD|fail) only[↓Sx.S0,Sx.S1,fx,iM,Nat.reduceAdd,Nat.reducePow,Int.reducePow,Nat.reduceBEq, ↓reduceIte,UInt8.reduceToNat,UInt16.reduceToNat,UInt32.reduceToNat,UInt64.reduceToNat,Int.reduceToNat,Sx.loadV_one,cW,pB,hS.idx]))
  refine Ow.buildSlice (e:=3) #[vi (ls.getD g []).length] rfl rfl kR fun b3 gA lB=> ?_
  refine ko @iM ?_
  refine Ow.callX (Y:= [(b3, .cells #[vi (ls.getD g []).length] 3 (0,0))]) (by simp) rfl rfl call123 (fun w' aA hX hn=>X3_ b D _ _ b3 0 [((ls.getD g []).length:Int)] _ _ _ w' kJ hX hn (OneS.lit [((ls.getD g []).length:Int)] rfl rfl (aA.has _ _ (db _ aa))) (fun _ hm=>Nat.lt_irrefl _ (ak gA hm)) (by rw[List.length_append];simp only[List.length_cons,List.length_nil];omega)) (fun v2 D2 hC bH=> ?_)
  obtain⟨rfl,cZ⟩:=bH
  have bw:=(hE.app (o:= .cells #[vi (ls.getD g []).length] 3 (0,0)) lB).came hC
  rw[Cr] at cZ
  have kI:=BldAt.app (Y:= [(b3, .cells #[vi (ls.getD g []).length] 3 (0,0))]) cZ
  generalize D2++ [(b3,Obj.cells #[vi (ls.getD g []).length] 3 (0,0))]=D3 at*
  refine ko @iM ?_
  refine ky @iM ?_
  refine Ow.buildSlice (e:=9) #[vs (ls.getD g [])] rfl rfl kR fun b4 ir lC=> ?_
  refine ko @iM ?_
  refine Ow.callX (Y:= [(b4, .cells #[vs (ls.getD g [])] 9 (0,0))]) (by simp) rfl rfl call154 (fun w' aA hX hn=>JJ b D3 _ _ b4 0 [ls.getD g []] _ _ _ w' kI hX hn (StrS.lit [ls.getD g []] rfl rfl (aA.has _ _ (db _ aa))) (fun _ hm=>Nat.lt_irrefl _ (ak ir hm)) (by rw[List.length_append,List.length_append];simp only[List.flatten_cons,List.flatten_nil,List.append_nil];omega) (by simp)) (fun v4 D4 dc bQ=> ?_)
  obtain⟨rfl,mn⟩:=bQ
  have jA:=(bw.app (o:= .cells #[vs (ls.getD g [])] 9 (0,0)) lC).came dc
  have mo:=BldAt.app (Y:= [(b4, .cells #[vs (ls.getD g [])] 9 (0,0))]) mn
  generalize D4++ [(b4,Obj.cells #[vs (ls.getD g [])] 9 (0,0))]=D5 at*
  refine ko @iM ?_
  refine ky @iM ?_
  refine Again.mk (WG.mk (g+1) D5) (by show ls.length - (g+1)<ls.length - g;omega) ⟨by show g+1≤ls.length;omega,jA, ?_⟩ rfl rfl
  show BldAt b (l++lE (ls.take (g+1))) D5
  rw[vE]
  simpa [dz] using mo
 obtain rfl:g=ls.length:=by omega
 refine ky @iM ?_
 refine⟨_,(ke @iM), ?_⟩
 rw[List.take_length] at kJ
 exact⟨hE,rfl,kJ⟩
structure IdL where
 l:List UInt8
 h:l.length=32
def gw (x:IdL):List Value:=x.l.map v8
def id0:IdL:=⟨List.replicate 32 0,by simp⟩
def VU (x:IdL): (gw x).length=32:=by simp[gw,x.h]
def Af (x:IdL): (gw x).toArray=a8 x.l:=rfl
def idsL (ls:List IdL):List UInt8:=(ls.map IdL.l).flatten
def Sb (ls:List IdL) (g:Nat) (h:g<ls.length):idsL (ls.take (g+1))=idsL (ls.take g)++ (ls.getD g id0).l:=by
 unfold idsL
 rw[List.take_succ_eq_append_getElem h,List.map_append,List.flatten_append,List.getD_eq_getElem?_getD,List.getElem?_eq_getElem h]
 simp only[List.map_cons,List.map_nil,List.flatten_cons,List.flatten_nil,List.append_nil,Option.getD_some]
def w7 (ls:List IdL): (idsL ls).length=32*ls.length:=by
 unfold idsL
 induction ls with
 |nil=>rfl
 |cons x r ih=>rw[List.map_cons,List.flatten_cons,List.length_append,ih,x.h,List.length_cons];omega
def De (b:Nat) (X:aB) (l:List UInt8) (x:Value) (b2 off:Nat) (ls:List IdL) (arr:Array Value) (E:TypeId) (fz:Nat×Nat) (w:World) (hB:BldAt b l X) (hX: ∀p,p∈X→w.heap[p.1]? =some p.2) (hn: (keys X).Nodup)
  (hS:RowS 32 gw id0 w x ls b2 off arr E fz) (aU:0<ls.length→b2∉keys X) (hl:l.length+32*ls.length<17179869184):
  Rets prog 125 #[vp b 0,x] w (XS w X (fun v D=>v= .tuple #[]∧BldAt b (l++idsL ls) D)):=by
 refine Rets.enterX func125 rfl (rs:= []) results125 ntmps125 hX hn ?_
 refine kf ?_
 ((try with_reducible refine Cw.go [] ?_);(try simp(disch:=first|exact dD|fail) only[↓Sx.S0,Sx.S1,fx,iM,Nat.reduceAdd,Nat.reducePow,Int.reducePow,Nat.reduceBEq, ↓reduceIte,UInt8.reduceToNat,UInt16.reduceToNat,UInt32.reduceToNat,UInt64.reduceToNat,Int.reduceToNat,hS.len]))
 refine Cw.loopG (G:=WG) [9,10,11,5,12,13,14,15,16,17,8] (fun g=> [(8,vi g.g)]) (fun g=>g.D) (fun g=>g.g≤ls.length∧Ext w X g.D∧BldAt b (l++idsL (ls.take g.g)) g.D) (fun g=>ls.length - g.g) ⟨0,X⟩ rfl rfl ?_ ?_
 ·exact⟨by simp,Ext.refl _ _,by simpa [idsL] using hB⟩
 intro g j hg
 refine kv ?_
 obtain⟨g,D⟩:=g
 simp only at hg ⊢
 obtain⟨qU,hE,kJ⟩:=hg
 by_cases aC:g<ls.length
 ·have cW:=hE.old (hS.has oM) (aU oM)
  have mK:=hS.load VU oM aC
  rw[Af] at mK
  have vE:=Sb ls g aC
  have iw:=(ls.getD g id0).h
  have eK:=w7 (ls.take g)
  rw[List.length_take] at eK
  have Hc:min g ls.length≤g:=Nat.min_le_left _ _
  ((try with_reducible refine Cw.go [] ?_);(try simp(disch:=first|exact dD|fail) only[↓Sx.S0,Sx.S1,fx,iM,Nat.reduceAdd,Nat.reducePow,Int.reducePow,Nat.reduceBEq, ↓reduceIte,UInt8.reduceToNat,UInt16.reduceToNat,UInt32.reduceToNat,UInt64.reduceToNat,Int.reduceToNat,cW,mK,hS.idx]))
  refine Ow.alloc rfl rfl zr24 fun b5 jF gU=> ?_
  refine Ow.go rfl ?_
  simp(disch:=first|exact dD|fail) only[↓Sx.S0,Sx.S1,fx,iM,Nat.reduceAdd,Nat.reducePow,Int.reducePow,Nat.reduceBEq, ↓reduceIte,UInt8.reduceToNat,UInt16.reduceToNat,UInt32.reduceToNat,UInt64.reduceToNat,Int.reduceToNat,jQ jF,zA jF,n8]
  have jB:=hE.app (o:= .cells (a8 (ls.getD g id0).l) 24 (0,0)) gU
  have mo:=BldAt.app (Y:= [(b5, .cells (a8 (ls.getD g id0).l) 24 (0,0))]) kJ
  have rd5:aT w (D++ [(b5, .cells (a8 (ls.getD g id0).l) 24 (0,0))]) b5=_:=ac (jQ jF)
  generalize D++ [(b5,Obj.cells (a8 (ls.getD g id0).l) 24 (0,0))]=D5 at*
  refine ky (aN @iM @rd5) ?_
  have e32:List.take 32 (List.drop 0 (ls.getD g id0).l)=(ls.getD g id0).l:=by rw[List.drop_zero,List.take_of_length_le oM]
  rw[e32]
  refine Ow.buildSlice (e:=9) #[vs (ls.getD g id0).l] rfl rfl kR fun b6 gx gF=> ?_
  refine ko @iM ?_
  refine Ow.callX (Y:= [(b6, .cells #[vs (ls.getD g id0).l] 9 (0,0))]) (by simp) rfl rfl call154 (fun w' aA hX hn=>JJ b D5 _ _ b6 0 [(ls.getD g id0).l] _ _ _ w' mo hX hn (StrS.lit [(ls.getD g id0).l] rfl rfl (aA.has _ _ (db _ aa))) (fun _ hm=>Nat.lt_irrefl _ (ak gx hm)) (by rw[List.length_append];simp only[List.flatten_cons,List.flatten_nil,List.append_nil];omega) (by simp)) (fun v4 D4 dc bQ=> ?_)
  obtain⟨rfl,mn⟩:=bQ
  have jA:=(jB.app (o:= .cells #[vs (ls.getD g id0).l] 9 (0,0)) gF).came dc
  have tF:=BldAt.app (Y:= [(b6, .cells #[vs (ls.getD g id0).l] 9 (0,0))]) mn
  generalize D4++ [(b6,Obj.cells #[vs (ls.getD g id0).l] 9 (0,0))]=D6 at*
  refine ko @iM ?_
  refine ky @iM ?_
  refine Again.mk (WG.mk (g+1) D6) (by show ls.length - (g+1)<ls.length - g;omega) ⟨by show g+1≤ls.length;omega,jA, ?_⟩ rfl rfl
  show BldAt b (l++idsL (ls.take (g+1))) D6
  rw[vE]
  simpa using tF
 obtain rfl:g=ls.length:=by omega
 refine ky @iM ?_
 refine⟨_,(ke @iM), ?_⟩
 rw[List.take_length] at kJ
 exact⟨hE,rfl,kJ⟩
def Kq_ (b:Nat) (X:aB) (l:List UInt8) (w:World) (hB:BldAt b l X) (hX: ∀p,p∈X→w.heap[p.1]? =some p.2) (hn: (keys X).Nodup) (hl:l.length<34359738368):
  Rets prog 126 #[vp b 0] w (XS w X (fun v _=>v=vs l)):=by
 refine Rets.enterX func126 rfl (rs:= [.tmp 2]) results126 ntmps126 hX hn ?_
 refine kf ?_
 refine ky @iM ?_
 refine Ow.callX (Y:= []) (by simp) rfl rfl call192 (fun w' aA hX hn=>Nj b X l w' hB hX hn hl) (fun v2 D2 hC bH=> ?_)
 subst bH
 rw[List.append_nil]
 refine ko @iM ?_
 refine ky @iM ?_
 refine⟨_,(ke @iM), ?_⟩
 exact⟨(Ext.refl _ _).came0 hC,rfl⟩
def tz (s:List UInt8) (a e:Int) (E:TypeId) (n:Nat):aQ (some (false,n)) (some (.cells #[vs s,vi a,vi e] E (0,0))) 0=some (vs s):=(rfl)
def u2 (s:List UInt8) (a e:Int) (E:TypeId) (n:Nat):aQ (some (false,n)) (some (.cells #[vs s,vi a,vi e] E (0,0))) 1=some (vi a):=(rfl)
def u5 (s:List UInt8) (a e:Int) (E:TypeId) (n:Nat):aQ (some (false,n)) (some (.cells #[vs s,vi a,vi e] E (0,0))) 2=some (vi e):=(rfl)
def tq (s:List UInt8) (a e x:Int) (E:TypeId):aw (some (false,1)) (some (.cells #[vs s,vi a,vi e] E (0,0))) 1 (vi x)=some (.cells #[vs s,vi x,vi e] E (0,0)):=by
 simp[aw,dZ,vi,Value.cells,Value.oneCell']
def tv (s:List UInt8) (a e x:Int) (E:TypeId):aw (some (false,1)) (some (.cells #[vs s,vi a,vi e] E (0,0))) 2 (vi x)=some (.cells #[vs s,vi a,vi x] E (0,0)):=by
 simp[aw,dZ,vi,Value.cells,Value.oneCell']
def nilR (b o:Nat):ab prog .eql 140 (vp b o) (.pointer none)=some (.bool false):=by
 simp[ab,eqX,eN,eA,underlying140,vp]
def pv:ab prog .eql 140 (.pointer none) (.pointer none)=some (.bool true):=by
 simp[ab,eqX,eN,eA,underlying140]
def sk (b o:Nat):ab prog .neq 140 (vp b o) (.pointer none)=some (.bool true):=by
 simp[ab,eqX,eN,eA,underlying140,vp]
def sd:ab prog .neq 140 (.pointer none) (.pointer none)=some (.bool false):=by
 simp[ab,eqX,eN,eA,underlying140]
def c_:=aN (aN (aN @tz @u2) (aN @u5 @tq)) (aN (aN @tv @nilR) (aN @pv (aN @sk @sd)))
def BA (b:Nat) (s:List UInt8) (a e:Int) (w:World) (ho:w.heap[b]? =some (.cells #[vs s,vi a,vi e] 314 (0,0))):
  Rets prog 218 #[vp b 0] w (fun v D=>v=vi e∧D= []):=by
 refine Rets.enterV func218 rfl (rs:= [.tmp 2]) results218 ntmps218 ?_
 refine kf ?_
 refine ky (aN @c_ @ho) ?_
 refine⟨_,(ke @c_),trivial, ?_⟩
 rfl
def EF (w:World):Rets prog 218 #[.pointer none] w (fun v D=>v=vi 3∧D= []):=by
 refine Rets.enterV func218 rfl (rs:= [.tmp 2]) results218 ntmps218 ?_
 refine kf ?_
 refine ky @c_ ?_
 refine⟨_,(ke @c_),trivial, ?_⟩
 rfl
def Dg (b:Nat) (s:List UInt8) (a e:Int) (w:World) (ho:w.heap[b]? =some (.cells #[vs s,vi a,vi e] 314 (0,0))):
  Rets prog 168 #[vp b 0] w (fun v D=>v=vi a∧D= []):=by
 refine Rets.enterV func168 rfl (rs:= [.tmp 2]) results168 ntmps168 ?_
 refine kf ?_
 refine ky (aN @c_ @ho) ?_
 refine⟨_,(ke @c_),trivial, ?_⟩
 rfl
def Sa (b:Nat) (s:List UInt8) (a e:Int) (w:World) (ho:w.heap[b]? =some (.cells #[vs s,vi a,vi e] 314 (0,0))):
  Rets prog 167 #[vp b 0] w (fun v D=>v=vi (if e≠0 then e else if a<s.length then 5 else 0)∧D= []):=by
 refine Rets.enterV func167 rfl (rs:= [.tmp 2]) results167 ntmps167 ?_
 refine kf ?_
 refine ky @c_ ?_
 refine Ow.callFV rfl call218 (fun w' aA=>BA b s a e w' (by rw[aA.old b (Array.getElem?_eq_some_iff.1 ho).1 (by simp[keys])];exact ho)) ?_
 refine ko @c_ ?_
 refine ky @c_ ?_
 by_cases he:e=0
 ·refine ky @c_ ?_
  refine Cw.regionS [b] [0,1,2,4,5,6,3,7,8,9] [] kR kR kR ?_
  simp only[bF, ↓bE, ↓ay, ↓bD, ↓bC,az]
  refine kq (aN @c_ @ho) ?_
  try with_reducible refine Ow.nil ?_
  refine ky @c_ ?_
  refine cdC.splitp (fun hc=> ?_) (fun hc=> ?_)
  ·refine ky @c_ ?_
   refine⟨_,(ke @c_),trivial, ?_⟩
   simp[hc,he,bv]
  refine ky @c_ ?_
  refine⟨_,(ke @c_),trivial, ?_⟩
  simp[hc,he,bv]
 refine ky @c_ ?_
 refine⟨_,(ke @c_),trivial, ?_⟩
 simp[he,bv]
def yi (b:Nat) (s:List UInt8) (a e x y:Int) (w:World) (ho:w.heap[b]? =some (.cells #[vs s,vi a,vi e] 314 (0,0))):
  Rets prog 219 #[vp b 0,vi x,vi y] w (fun v D=> ∃o,D= [(b,o)]∧v= .tuple #[]∧o= .cells #[vs s,vi (if e=0 then y else a),vi (if e=0 then x else e)] 314 (0,0)):=by
 refine Rets.enterM func219 rfl (rs:= []) results219 ntmps219 ho ?_
 refine kf ?_
 refine ky @c_ ?_
 by_cases he:e=0
 ·refine ky @c_ ?_
  refine⟨_,_,_,(ke @c_),rfl,trivial, ?_⟩
  simp[he,bv]
 refine ky @c_ ?_
 refine⟨_,_,_,(ke @c_),rfl,trivial, ?_⟩
 simp[he,bv]
def ax (s:List UInt8) (a:Nat) (e n:Int):List UInt8×Nat×Int:=
 if e≠0 then([],a,e) else if n<0 then([],a,2) else if(s.length:Int) - a<n then([],a,3) else((s.drop a).take n.toNat,a+n.toNat,0)
def DK (b:Nat) (s:List UInt8) (a:Nat) (e n:Int) (w:World) (ha:a≤s.length) (hs:s.length<9223372036854775808) (ho:w.heap[b]? =some (.cells #[vs s,vi a,vi e] 314 (0,0))):
  Rets prog 234 #[vp b 0,vi n] w (fun v D=> ∃o,D= [(b,o)]∧v=vs (ax s a e n).1∧o= .cells #[vs s,vi (ax s a e n).2.1,vi (ax s a e n).2.2] 314 (0,0)):=by
 refine Rets.enterM func234 rfl (rs:= [.tmp 4]) results234 ntmps234 ho ?_
 refine kf ?_
 refine ky @c_ ?_
 refine Ow.callFV rfl call218 (fun w' aA=>BA b s a e w' (aA.has _ _ aa)) ?_
 refine ko @c_ ?_
 refine ky @c_ ?_
 unfold ax
 by_cases he:e=0
 ·subst he
  rw[if_neg (fun h=>h rfl)]
  refine ky @c_ ?_
  by_cases hn:n<0
  ·rw[if_pos hn]
   refine ky @c_ ?_
   refine Ow.callM rfl rfl call219 (by simp[keys]) (fun w' aA=>yi b s a 0 2 a w' (aA.has _ _ aa)) ?_
   refine ko @c_ ?_
   refine ky @c_ ?_
   refine⟨_,_,_,(ke @c_),rfl,trivial, ?_⟩
   exact⟨rfl,rfl⟩
  rw[if_neg hn]
  refine ky @c_ ?_
  refine Cw.regionS [b] [0,1,2,3,6,7,8,4,5,9,10,11,12] [] kR kR kR ?_
  simp only[bF, ↓bE, ↓ay, ↓bD, ↓bC,az]
  refine kq @c_ ?_
  try with_reducible refine Ow.nil ?_
  refine ky @c_ ?_
  by_cases hl: (s.length:Int) - a<n
  ·rw[if_pos hl]
   refine ky @c_ ?_
   refine Ow.callM rfl rfl call219 (by simp[keys]) (fun w' aA=>yi b s a 0 3 a w' (aA.has _ _ aa)) ?_
   refine ko @c_ ?_
   refine ky @c_ ?_
   refine⟨_,_,_,(ke @c_),rfl,trivial, ?_⟩
   exact⟨rfl,rfl⟩
  rw[if_neg hl]
  obtain⟨m,rfl⟩: ∃m:Nat,n=(m:Int):=⟨n.toNat,by omega⟩
  refine ky @c_ ?_
  refine Cw.regionS [b] [0,1,2,4,5,6,8,9,10,12,3,7,11,13,14,15] [] kR kR kR ?_
  simp only[bF, ↓bE, ↓ay, ↓bD, ↓bC,az]
  refine kq @c_ ?_
  try with_reducible refine Ow.nil ?_
  refine ky @c_ ?_
  refine⟨_,_,_,(ke @c_),rfl,trivial, ?_⟩
  refine⟨?_, ?_⟩
  ·simp only[bv,Int.toNat_natCast]
   rw[List.drop_take,Nat.add_sub_cancel_left]
  rw[Int.toNat_natCast,Int.natCast_add]
 rw[if_pos he]
 refine ky @c_ ?_
 refine⟨_,_,_,(ke @c_),rfl,trivial, ?_⟩
 exact⟨rfl,rfl⟩
def cM:=aN (aN (aN @tz @u2) (aN @u5 @tq)) (aN (aN @tv @nilR) (aN @pv (aN @sk @sd)))
def bO (most:Int):List UInt8→Nat→Nat→Except Nat (Nat×Nat)
 | [],_,_=> .error 3
 |c::r,k,n=>
  if 128≤c.toNat then(if k+1=6 then .error 4 else bO most r (k+1) (n+c.toNat%128*128^k))
  else if c.toNat=0∧0<k then .error 2
  else if n+c.toNat%128*128^k≤1099511627775∧((n+c.toNat%128*128^k:Nat):Int)≤most then .ok (n+c.toNat%128*128^k,k+1)
  else .error 4
def aG (s:List UInt8) (a:Nat) (e most:Int):Int×Nat×Int:=
 if e≠0 then(0,a,e) else match bO most (s.drop a) 0 0 with
  | .ok (n,k)=>(n,a+k,0)
  | .error x=>(0,a,x)
def zO {s:List UInt8} {a:Nat} {e most:Int} {n k:Nat} (he:e=0) (h:bO most (s.drop a) 0 0= .ok (n,k)):aG s a e most=((n:Int),a+k,0):=by
 unfold aG;rw[if_neg (by simp[he]),h]
def oU {s:List UInt8} {a:Nat} {e most:Int} {x:Nat} (he:e=0) (h:bO most (s.drop a) 0 0= .error x):aG s a e most=(0,a,(x:Int)):=by
 unfold aG;rw[if_neg (by simp[he]),h]
structure NumS where
 more:Bool
 k:Nat
 n:Nat
 x:Nat
def Kd_ (b:Nat) (s:List UInt8) (a:Nat) (e most:Int) (w:World) (ha:a≤s.length) (hs:s.length<9223372036854775808) (ho:w.heap[b]? =some (.cells #[vs s,vi a,vi e] 314 (0,0))):
  Rets prog 165 #[vp b 0,vi most] w (fun v D=> ∃o,D= [(b,o)]∧v=vi (aG s a e most).1∧o= .cells #[vs s,vi (aG s a e most).2.1,vi (aG s a e most).2.2] 314 (0,0)):=by
 refine Rets.enterM func165 rfl (rs:= [.tmp 4]) results165 ntmps165 ho ?_
 refine kf ?_
 refine ky @cM ?_
 by_cases he:e=0
 ·subst he
  refine Cw.scopeL (G:=NumS) (fun g=>(if g.more then 1 else 0)) [10,11,12,4,5,6,7,13,14,15,16,8,9,17,18,19,20,21,22,23,24,25,26,27,28,29,30,31,32,33,34,35,36,37,38,39,40,41,42,43,44,45,46,47,48,49,50,51,52,53,54,55,56,57,58,59,60,61,62,63,64,65,66,67,68,69,70,71,72,73] (fun g=>(if g.more then [(5,vi g.n),(6,vi (7*g.k:Nat)),(8,vi 3),(9,vi a)] else [(8,vi g.x),(9,vi a)])) (fun g=> [(b, .cells #[vs s,vi (a+g.k:Nat),vi 0] 314 (0,0))]) (fun g=>a+g.k≤s.length∧(if g.more then bO most (s.drop a) 0 0=bO most (s.drop (a+g.k)) g.k g.n∧g.n<128^g.k∧g.k<6 else bO most (s.drop a) 0 0= .error g.x)) (fun g=>(if g.more then 7 - g.k else 0)) ?_ ?_ ?_
  ·intro g
   obtain⟨m,k,n,x⟩:=g
   cases m<;>rfl
  ·intro g j hg
   obtain⟨m,k,n,x⟩:=g
   obtain⟨hk,hg⟩:=hg
   simp only at hk
   cases m with
   |false=>
    simp only[Bool.false_eq_true, ↓reduceIte] at hg ⊢
    simp only[jU,gv,Bool.or_false,Bool.false_or,Bool.or_true,Bool.true_or,Nat.reduceBEq,beq_self_eq_true, ↓reduceIte,Bool.false_eq_true]
    refine kv ?_
    try with_reducible refine z6 ?_
    refine ky @cM ?_
    refine Ow.callM rfl rfl call219 (by simp[keys]) (fun w' aA=>yi b s _ 0 x a w' (aA.has _ _ aa)) ?_
    refine ko @cM ?_
    refine ky @cM ?_
    rw[oU rfl hg]
    refine⟨_,_,_,(ke @cM),rfl,trivial, ?_⟩
    simp[bv]
   |true=>
    simp only[↓reduceIte] at hg ⊢
    obtain⟨cF,hn,hk6⟩:=hg
    simp only[jU,gv,Bool.or_false,Bool.false_or,Bool.or_true,Bool.true_or,Nat.reduceBEq,beq_self_eq_true, ↓reduceIte,Bool.false_eq_true]
    refine kv ?_
    try with_reducible refine z6 ?_
    refine ky @cM ?_
    refine Cw.regionS [b] [0,1,2,4,5,6,3,7,8,9] [] kR kR kR ?_
    simp only[bF, ↓bE, ↓ay, ↓bD, ↓bC,az]
    refine kq @cM ?_
    try with_reducible refine Ow.nil ?_
    by_cases mH:a+k=s.length
    ·refine ky @cM ?_
     refine Jump.mk (NumS.mk false k n 3) rfl (by show 0<7 - k;omega) ⟨hk, ?_⟩ rfl rfl
     show bO most (s.drop a) 0 0= .error 3
     rw[cF,mH,List.drop_length];rfl
    refine ky @cM ?_
    have hak:a+k<s.length:=by omega
    have qQ:s.drop (a+k)=s.getD (a+k) 0::s.drop (a+k+1):=by
     rw[List.drop_eq_getElem_cons hak,List.getD_eq_getElem?_getD,List.getElem?_eq_getElem hak];rfl
    rw[qQ] at cF
    refine Cw.regionS [b] [0,1,2,4,5,6,3,7,8,9] [] kR kR kR ?_
    simp only[bF, ↓bE, ↓ay, ↓bD, ↓bC,az]
    refine kq @cM ?_
    try with_reducible refine Ow.nil ?_
    generalize s.getD (a+k) 0=c at*
    have hp:128^k≤34359738368:=Nat.pow_le_pow_right oM (show k≤5 by omega)
    have fP:0<128^k:=Nat.pow_pos oM
    have hd: (c%128).toNat=c.toNat%128:=by simp
    have k_:=c.toNat_lt
    have hdm:c.toNat%128*128^k≤127*128^k:=Nat.mul_le_mul_right _ oM
    have hshl:aD .shl (vi ((c.toNat%128:Nat):Int)) (vi ((7*k:Nat):Int))=some (vi ((c.toNat%128*128^k:Nat):Int)):=by
     have h2: (2:Int)^ (7*k)=((128^k:Nat):Int):=by
      rw[Int.pow_mul];push_cast;rfl
     have:=Ei ((c.toNat%128:Nat):Int) .i64 (7*k) (by rw[h2];refine⟨by omega,by omega, ?_⟩;rw[←Int.natCast_mul];omega)
     rw[h2,←Int.natCast_mul] at this
     exact this
    have Jn:aD .or (vi (n:Int)) (vi ((c.toNat%128*128^k:Nat):Int))=some (vi ((n+c.toNat%128*128^k:Nat):Int)):=by
     have:=or_i (n:Int) ((c.toNat%128*128^k:Nat):Int) ⟨by omega,by omega,by omega,by omega⟩
     rw[this]
     congr 3
     rw[Int.toNat_natCast,Int.toNat_natCast,show 128^k=2^ (7*k) by rw[Nat.pow_mul],Nat.mul_comm,Nat.or_comm,←Nat.two_pow_add_eq_or_of_lt (by rw[Nat.pow_mul];exact hn),Nat.add_comm]
    have aC:n+c.toNat%128*128^k<128^ (k+1):=by rw[Nat.pow_succ];omega
    have yT:aD .rem (v8 c) (v8 128)=some (v8 (c%128)):=La _ _ (by decide)
    refine ky (aN @cM (aN @yT (aN @hd (aN @hshl @Jn)))) ?_
    have dC:decide ((128:UInt8)≤c)=decide (128≤c.toNat):=by simp[UInt8.le_iff_toNat_le]
    cases GJ:decide ((128:UInt8)≤c)
    ·rw[GJ] at dC
     have bS: ¬128≤c.toNat:=of_decide_eq_false dC.symm
     cases hz: (c==0)
     ·have kN: ¬ (c.toNat=0∧0<k):=by
       rintro⟨h0,-⟩
       have:c=0:=UInt8.toNat_inj.1 h0
       rw[this] at hz
       exact absurd hz (by decide)
      refine ky (aN @cM @hz) ?_
      by_cases hm:n+c.toNat%128*128^k≤1099511627775
      ·have e1:decide (((n+c.toNat%128*128^k:Nat):Int)≤1099511627775)=true:=aW oM
       refine ky (aN @cM @e1) ?_
       by_cases l6: ((n+c.toNat%128*128^k:Nat):Int)≤most
       ·refine ky @cM ?_
        rw[zO rfl (by rw[cF,bO,if_neg bS,if_neg kN,if_pos ⟨hm,l6⟩])]
        refine⟨_,_,_,(ke @cM),rfl,trivial, ?_⟩
        exact⟨rfl,rfl⟩
       refine ky @cM ?_
       refine Ow.callM rfl rfl call219 (by simp[keys]) (fun w' aA=>yi b s _ 0 4 a w' (aA.has _ _ aa)) ?_
       refine ko @cM ?_
       refine ky @cM ?_
       rw[oU (x:=4) rfl (by rw[cF,bO,if_neg bS,if_neg kN,if_neg (fun h=>l6 h.2)])]
       refine⟨_,_,_,(ke @cM),rfl,trivial, ?_⟩
       exact⟨rfl,rfl⟩
      have e1:decide (((n+c.toNat%128*128^k:Nat):Int)≤1099511627775)=false:=ah oM
      refine ky (aN @cM @e1) ?_
      refine Ow.callM rfl rfl call219 (by simp[keys]) (fun w' aA=>yi b s _ 0 4 a w' (aA.has _ _ aa)) ?_
      refine ko @cM ?_
      refine ky @cM ?_
      rw[oU (x:=4) rfl (by rw[cF,bO,if_neg bS,if_neg kN,if_neg (fun h=>hm h.1)])]
      refine⟨_,_,_,(ke @cM),rfl,trivial, ?_⟩
      exact⟨rfl,rfl⟩
     have hcz:c=0:=eq_of_beq hz
     have Jc:c.toNat=0:=by rw[hcz];rfl
     refine ky (aN @cM @hz) ?_
     by_cases rQ:0<k
     ·refine ky @cM ?_
      refine Jump.mk (NumS.mk false (k+1) n 2) rfl (by show 0<7 - k;omega) ⟨by show a+ (k+1)≤s.length;omega, ?_⟩ rfl rfl
      show bO most (s.drop a) 0 0= .error 2
      rw[cF,bO,if_neg bS,if_pos ⟨Jc,rQ⟩]
     have kN: ¬ (c.toNat=0∧0<k):=fun h=>rQ h.2
     refine ky @cM ?_
     by_cases hm:n+c.toNat%128*128^k≤1099511627775
     ·have e1:decide (((n+c.toNat%128*128^k:Nat):Int)≤1099511627775)=true:=aW oM
      refine ky (aN @cM @e1) ?_
      by_cases l6: ((n+c.toNat%128*128^k:Nat):Int)≤most
      ·refine ky @cM ?_
       rw[zO rfl (by rw[cF,bO,if_neg bS,if_neg kN,if_pos ⟨hm,l6⟩])]
       refine⟨_,_,_,(ke @cM),rfl,trivial, ?_⟩
       exact⟨rfl,rfl⟩
      refine ky @cM ?_
      refine Ow.callM rfl rfl call219 (by simp[keys]) (fun w' aA=>yi b s _ 0 4 a w' (aA.has _ _ aa)) ?_
      refine ko @cM ?_
      refine ky @cM ?_
      rw[oU (x:=4) rfl (by rw[cF,bO,if_neg bS,if_neg kN,if_neg (fun h=>l6 h.2)])]
      refine⟨_,_,_,(ke @cM),rfl,trivial, ?_⟩
      exact⟨rfl,rfl⟩
     have e1:decide (((n+c.toNat%128*128^k:Nat):Int)≤1099511627775)=false:=ah oM
     refine ky (aN @cM @e1) ?_
     refine Ow.callM rfl rfl call219 (by simp[keys]) (fun w' aA=>yi b s _ 0 4 a w' (aA.has _ _ aa)) ?_
     refine ko @cM ?_
     refine ky @cM ?_
     rw[oU (x:=4) rfl (by rw[cF,bO,if_neg bS,if_neg kN,if_neg (fun h=>hm h.1)])]
     refine⟨_,_,_,(ke @cM),rfl,trivial, ?_⟩
     exact⟨rfl,rfl⟩
    rw[GJ] at dC
    have bS:128≤c.toNat:=of_decide_eq_true dC.symm
    refine ky @cM ?_
    by_cases hk5:k=5
    ·refine ky @cM ?_
     refine Jump.mk (NumS.mk false (k+1) n 4) rfl (by show 0<7 - k;omega) ⟨by show a+ (k+1)≤s.length;omega, ?_⟩ rfl rfl
     show bO most (s.drop a) 0 0= .error 4
     rw[cF,bO,if_pos bS,if_pos oM]
    refine ky @cM ?_
    refine Jump.mk (NumS.mk true (k+1) (n+c.toNat%128*128^k) 0) rfl (by show 7 - (k+1)<7 - k;omega) ⟨by show a+ (k+1)≤s.length;omega, ?_⟩ rfl rfl
    show bO most (s.drop a) 0 0=bO most (s.drop (a+ (k+1))) (k+1) (n+c.toNat%128*128^k)∧n+c.toNat%128*128^k<128^ (k+1)∧k+1<6
    refine⟨?_,aC,by omega⟩
    rw[cF,bO,if_pos bS,if_neg oM]
    rfl
  intro key
  have key0:=fun f'=>key (NumS.mk true 0 0 0) f'
  simp only[jU,gv,Bool.or_false,Bool.false_or,Bool.or_true,Bool.true_or,Nat.reduceBEq,beq_self_eq_true, ↓reduceIte,Bool.false_eq_true] at key0
  clear key
  repeat ((try with_reducible refine Cw.go [999999] ?_);(simp(disch:=first|exact dD|fail) only[↓Sx.S0,Sx.S1,fx,cM,Nat.reduceAdd,Nat.reducePow,Int.reducePow,Nat.reduceBEq, ↓reduceIte,UInt8.reduceToNat,UInt16.reduceToNat,UInt32.reduceToNat,UInt64.reduceToNat,Int.reduceToNat]))
  refine Ow.callFV rfl call218 (fun w' aA=>BA b s a 0 w' (aA.has _ _ aa)) ?_
  refine ko @cM ?_
  repeat ((try with_reducible refine Cw.go [999999] ?_);(simp(disch:=first|exact dD|fail) only[↓Sx.S0,Sx.S1,fx,cM,Nat.reduceAdd,Nat.reducePow,Int.reducePow,Nat.reduceBEq, ↓reduceIte,UInt8.reduceToNat,UInt16.reduceToNat,UInt32.reduceToNat,UInt64.reduceToNat,Int.reduceToNat]))
  repeat ((try with_reducible refine Cw.go [999999] ?_);(simp(disch:=first|exact dD|fail) only[↓Sx.S0,Sx.S1,fx,cM,Nat.reduceAdd,Nat.reducePow,Int.reducePow,Nat.reduceBEq, ↓reduceIte,UInt8.reduceToNat,UInt16.reduceToNat,UInt32.reduceToNat,UInt64.reduceToNat,Int.reduceToNat]))
  refine Cw.regionS [b] [0,1,2,4,3,5] [] kR kR kR ?_
  simp only[bF, ↓bE, ↓ay, ↓bD, ↓bC,az]
  refine kq @cM ?_
  try with_reducible refine Ow.nil ?_
  repeat ((try with_reducible refine Cw.go [999999] ?_);(simp(disch:=first|exact dD|fail) only[↓Sx.S0,Sx.S1,fx,cM,Nat.reduceAdd,Nat.reducePow,Int.reducePow,Nat.reduceBEq, ↓reduceIte,UInt8.reduceToNat,UInt16.reduceToNat,UInt32.reduceToNat,UInt64.reduceToNat,Int.reduceToNat]))
  refine Cw.label ?_
  refine key0 _ ⟨by omega,rfl,by omega,by omega⟩ ?_
  rfl
 refine Cw.scopeS ?_
 refine ky @cM ?_
 refine Ow.callFV rfl call218 (fun w' aA=>BA b s a e w' (aA.has _ _ aa)) ?_
 refine ko @cM ?_
 refine ky @cM ?_
 unfold aG
 refine⟨_,_,_,(ke @cM),rfl,trivial, ?_⟩
 simp[he,bv]
def gV:=aN (aN (aN @tz @u2) (aN @u5 @tq)) (aN (aN @tv @nilR) (aN @pv (aN @sk @sd)))
theorem AV (most:Int): ∀ (l:List UInt8) (k n m k':Nat),bO most l k n= .ok (m,k')→k<k'∧k'≤k+l.length
 | [],k,n,m,k',h=>by cases h
 |c::r,k,n,m,k',h=>by
  unfold bO at h
  split at h
  ·split at h
   ·cases h
   have:=AV most r (k+1) _ m k' h
   simp only[List.length_cons];omega
  split at h
  ·cases h
  split at h
  ·cases h;simp only[List.length_cons];omega
  cases h
def i_ {s:List UInt8} {a:Nat} {e most:Int} (ha:a≤s.length):a≤ (aG s a e most).2.1∧(aG s a e most).2.1≤s.length:=by
 unfold aG
 split
 ·exact⟨ap _,ha⟩
 cases h:bO most (s.drop a) 0 0 with
 |error x=>exact⟨ap _,ha⟩
 |ok p=>
  obtain⟨n,k⟩:=p
  have:=AV most _ _ _ _ _ h
  rw[List.length_drop] at this
  exact⟨by show a≤a+k;omega,by show a+k≤s.length;omega⟩
def vk {s:List UInt8} {a:Nat} {e n:Int} (ha:a≤s.length):a≤ (ax s a e n).2.1∧(ax s a e n).2.1≤s.length:=by
 unfold ax
 split
 ·exact⟨ap _,ha⟩
 split
 ·exact⟨ap _,ha⟩
 split
 ·exact⟨ap _,ha⟩
 exact⟨by show a≤a+n.toNat;omega,by show a+n.toNat≤s.length;omega⟩
def aY (s:List UInt8) (a:Nat) (e most:Int):List UInt8×Nat×Int:=
 let p:=aG s a e most
 let q:=ax s p.2.1 p.2.2 p.1
 if q.2.2≠0 then([],a,q.2.2) else q
def BE (b:Nat) (s:List UInt8) (a:Nat) (e most:Int) (w:World) (ha:a≤s.length) (hs:s.length<9223372036854775808) (ho:w.heap[b]? =some (.cells #[vs s,vi a,vi e] 314 (0,0))):
  Rets prog 202 #[vp b 0,vi most] w (fun v D=> ∃o,D= [(b,o)]∧v=vs (aY s a e most).1∧o= .cells #[vs s,vi (aY s a e most).2.1,vi (aY s a e most).2.2] 314 (0,0)):=by
 refine Rets.enterM func202 rfl (rs:= [.tmp 4]) results202 ntmps202 ho ?_
 refine kf ?_
 refine ky @gV ?_
 refine Ow.callFV rfl call168 (fun w' aA=>Dg b s a e w' (aA.has _ _ aa)) ?_
 refine ko @gV ?_
 refine ky @gV ?_
 have hp:=i_ (e:=e) (most:=most) ha
 unfold aY
 refine Ow.callM rfl rfl call165 (by simp[keys]) (fun w' aA=>Kd_ b s a e most w' ha hs (aA.has _ _ aa)) ?_
 generalize aG s a e most=p at*
 obtain⟨n,a1,e1⟩:=p
 simp only at hp ⊢
 refine ko @gV ?_
 refine Ow.callM rfl rfl call234 (by simp[keys]) (fun w' aA=>DK b s a1 e1 n w' hp.2 hs (aA.has _ _ aa)) ?_
 have hq:=vk (e:=e1) (n:=n) hp.2
 generalize ax s a1 e1 n=q at*
 obtain⟨t,a2,e2⟩:=q
 simp only at hq ⊢
 refine ko @gV ?_
 refine ky @gV ?_
 by_cases he:e2=0
 ·refine ky @gV ?_
  refine⟨_,_,_,(ke @gV),rfl,trivial, ?_⟩
  simp[he,bv]
 refine ky @gV ?_
 refine Ow.minI rfl rfl rfl ?_
 have Hc: (if(a:Int)< (a2:Int) then(a:Int) else(a2:Int))=a:=by split<;>omega
 rw[Hc]
 refine ko @gV ?_
 refine ky @gV ?_
 refine⟨_,_,_,(ke @gV),rfl,trivial, ?_⟩
 simp[he,bv]
def z32:List UInt8:=List.replicate 32 0
def idR (s:List UInt8) (a:Nat) (e:Int):List UInt8×Nat×Int:=
 let q:=ax s a e 32
 (if q.1.length=32 then q.1 else z32,q.2)
def Dw {s:List UInt8} {a:Nat} {e:Int} (_ha:a≤s.length): (ax s a e 32).1= []∨(ax s a e 32).1.length=32:=by
 unfold ax
 split
 ·exact .inl rfl
 split
 ·exact .inl rfl
 split
 ·exact .inl rfl
 right
 show((s.drop a).take 32).length=32
 rw[List.length_take,List.length_drop];omega
def Xf {t:List UInt8} (h:t= []∨t.length=32):dZ (a8 (List.replicate 32 0)) 0 ((t.take (min t.length 32)).map v8)=a8 (if t.length=32 then t else z32):=by
 rcases h with rfl|h
 ·rfl
 rw[if_pos h,h,Nat.min_self,List.take_of_length_le oM]
 have:=AR (t.map v8) [] ((List.replicate 32 (0:UInt8)).map v8) (by simp[h])
 simp only[List.nil_append,List.length_nil] at this
 show dZ ((List.replicate 32 (0:UInt8)).map v8).toArray 0 (t.map v8)=(t.map v8).toArray
 rw[this]
 rw[List.drop_eq_nil_of_le (by simp[h]),List.append_nil]
def V7 (b:Nat) (s:List UInt8) (a:Nat) (e:Int) (w:World) (ha:a≤s.length) (hs:s.length<9223372036854775808) (ho:w.heap[b]? =some (.cells #[vs s,vi a,vi e] 314 (0,0))):
  Rets prog 203 #[vp b 0] w (fun v D=> ∃o,D= [(b,o)]∧v= .agg (a8 (idR s a e).1)∧o= .cells #[vs s,vi (idR s a e).2.1,vi (idR s a e).2.2] 314 (0,0)):=by
 have fE:=(Array.getElem?_eq_some_iff.1 ho).1
 have hq:=Dw (e:=e) ha
 unfold idR
 refine Rets.enterM func203 rfl (rs:= [.cell 2 24]) results203 ntmps203 ho ?_
 refine kf ?_
 refine ky @gV ?_
 refine Ow.alloc rfl rfl zr24 fun b2 al bR=> ?_
 refine ko @gV ?_
 refine ky @gV ?_
 refine Ow.alloc rfl rfl zr24 fun b3 gA lB=> ?_
 obtain⟨GK,zV,-⟩:=gA
 obtain⟨uW,-⟩:=al
 refine ko @gV ?_
 refine ky @gV ?_
 refine Cw.regionS [] [0,1,2,3] [] kR kR kR ?_
 simp only[bF, ↓bE, ↓ay, ↓bD, ↓bC,az]
 refine kq @gV ?_
 refine Ow.soft rfl rfl rfl ?_
 refine Ow.callM rfl rfl call234 (by simp[keys]) (fun w' aA=>DK b s a e 32 w' ha hs (aA.has _ _ aa)) ?_
 generalize ax s a e 32=q at*
 obtain⟨t,a2,e2⟩:=q
 simp only at hq ⊢
 try with_reducible refine Ow.nil ?_
 refine⟨fun b hb=>absurd hb (by simp), ?_⟩
 simp(disch:=omega) only[n5]
 refine Ow.soft rfl rfl rfl ?_
 refine Ow.copyText (cs:=a8 (List.replicate 32 0)) (E:=24) (e:=5) rfl rfl underlying232 ag5 rfl rfl (by simp(disch:=omega) only[pI,fN]) (by rw[vZ];simp) ?_
 rw[Xf hq]
 have iw: (if t.length=32 then t else z32).length=32:=by
  split
  ·assumption
  simp[z32]
 generalize (if t.length=32 then t else z32)=id at*
 try with_reducible refine Ow.nil ?_
 refine⟨fun b hb=>absurd hb (by simp), ?_⟩
 simp(disch:=omega) only[n5,vV]
 refine kq @gV ?_
 try with_reducible refine Ow.nil ?_
 refine ky @gV ?_
 refine⟨_,_,_,(ke @gV),rfl,⟨bR,lB,trivial⟩, ?_⟩
 exact⟨rfl,rfl⟩
def C5 (s:List UInt8) (w:World):
  Rets prog 147 #[vs s] w (fun v D=> ∃b,w.heap.size≤b∧v=vp b 0∧D= [(b, .cells #[vs s,vi 0,vi 0] 314 (0,0))]):=by
 refine Rets.enter func147 rfl (rs:= [.tmp 2]) results147 ntmps147 ?_
 refine kf ?_
 refine ky @gV ?_
 refine Ow.build (.agg #[vs s,vi 0,vi 0]) rfl kR ?_
 refine ko @gV ?_
 refine Ow.box rfl rfl fun b1 aO aP=> ?_
 refine ko @gV ?_
 refine ky @gV ?_
 refine⟨_,(by simp only[JO,Ih,Il,cV,ce,JA];rfl),b1,aP,rfl, ?_⟩
 rfl
def bY:=aN (aN (aN @bB @iH) (aN @iG (aN @iE @bA))) (aN (aN @tz @u2) (aN @u5 (aN @tq @tv)))
def KV (b:Nat) (s:List UInt8) (a:Nat) (e n:Int) (w:World) (ha:a≤s.length) (hs:s.length<1099511627776) (ho:w.heap[b]? =some (.cells #[vs s,vi a,vi e] 243 (0,0))):
  Rets prog 194 #[vp b 0,vi n] w (fun v D=> ∃o,D= [(b,o)]∧v=vs (ax s a e n).1∧o= .cells #[vs s,vi (ax s a e n).2.1,vi (ax s a e n).2.2] 243 (0,0)):=by
 refine Rets.enterM func194 rfl (rs:= [.tmp 4]) results194 ntmps194 ho ?_
 refine kf ?_
 refine ky @bY ?_
 unfold ax
 by_cases he:e=0
 ·subst he
  rw[if_neg (fun h=>h rfl)]
  refine ky @bY ?_
  by_cases hn:n<0
  ·rw[if_pos hn]
   refine ky @bY ?_
   refine⟨_,_,_,(ke @bY),rfl,trivial, ?_⟩
   exact⟨rfl,rfl⟩
  rw[if_neg hn]
  refine ky @bY ?_
  refine Cw.regionS [b] [0,1,2,5,6,7,10,3,4,8,9,11] [] kR kR kR ?_
  simp only[bF, ↓bE, ↓ay, ↓bD, ↓bC,az]
  refine kq @bY ?_
  try with_reducible refine Ow.nil ?_
  refine ky @bY ?_
  by_cases hl: (s.length:Int) - a<n
  ·rw[if_pos hl]
   refine ky @bY ?_
   refine⟨_,_,_,(ke @bY),rfl,trivial, ?_⟩
   exact⟨rfl,rfl⟩
  rw[if_neg hl]
  obtain⟨m,rfl⟩: ∃m:Nat,n=(m:Int):=⟨n.toNat,by omega⟩
  refine ky @bY ?_
  refine Cw.regionS [b] [0,1,2,4,5,6,8,9,10,12,3,7,11,13,14,15] [] kR kR kR ?_
  simp only[bF, ↓bE, ↓ay, ↓bD, ↓bC,az]
  refine kq @bY ?_
  try with_reducible refine Ow.nil ?_
  refine ky @bY ?_
  refine⟨_,_,_,(ke @bY),rfl,trivial, ?_⟩
  refine⟨?_, ?_⟩
  ·simp only[bv,Int.toNat_natCast]
   rw[List.drop_take,Nat.add_sub_cancel_left]
  rw[Int.toNat_natCast,Int.natCast_add]
 rw[if_pos he]
 refine ky @bY ?_
 refine⟨_,_,_,(ke @bY),rfl,trivial, ?_⟩
 exact⟨rfl,rfl⟩
def KB (b:Nat) (s:List UInt8) (a e:Int) (w:World) (ho:w.heap[b]? =some (.cells #[vs s,vi a,vi e] 243 (0,0))):
  Rets prog 131 #[vp b 0] w (fun v D=>v=vi (if e≠0 then e else if a<s.length then 5 else 0)∧D= []):=by
 refine Rets.enterV func131 rfl (rs:= [.tmp 2]) results131 ntmps131 ?_
 refine kf ?_
 refine ky (aN @bY @ho) ?_
 by_cases he:e=0
 ·refine ky @bY ?_
  refine Cw.regionS [b] [0,1,2,4,5,6,3,7,8,9] [] kR kR kR ?_
  simp only[bF, ↓bE, ↓ay, ↓bD, ↓bC,az]
  refine kq (aN @bY @ho) ?_
  try with_reducible refine Ow.nil ?_
  refine ky @bY ?_
  refine cdC.splitp (fun hc=> ?_) (fun hc=> ?_)
  ·refine ky @bY ?_
   refine⟨_,(ke @bY),trivial, ?_⟩
   simp[hc,he,bv]
  refine ky @bY ?_
  refine⟨_,(ke @bY),trivial, ?_⟩
  simp[hc,he,bv]
 refine ky (aN @bY @ho) ?_
 refine⟨_,(ke @bY),trivial, ?_⟩
 simp[he,bv]
structure KN where
 k:Nat
 n:Nat
def K6 (b:Nat) (s:List UInt8) (a:Nat) (e most:Int) (w:World) (ha:a≤s.length) (hs:s.length<1099511627776) (ho:w.heap[b]? =some (.cells #[vs s,vi a,vi e] 243 (0,0))):
  Rets prog 128 #[vp b 0,vi most] w (fun v D=> ∃o,D= [(b,o)]∧v=vi (aG s a e most).1∧o= .cells #[vs s,vi (aG s a e most).2.1,vi (aG s a e most).2.2] 243 (0,0)):=by
 refine Rets.enterM func128 rfl (rs:= [.tmp 4]) results128 ntmps128 ho ?_
 refine kf ?_
 refine ky @bY ?_
 by_cases he:e=0
 ·subst he
  refine ky @bY ?_
  refine Cw.loopG (G:=KN) [14,15,18,19,20,21,22,23,24,25,26,27,28,29,30,31,32,4,33,34,35,36,37,38,39,40,41,42,43,44,8,45,46,47,48,49,50,5,51,52,6,53,54,55,56,57,58,59,60,61,62,63,64,65,66,67,68,69,70,71,72,73,74,75,76,77,78,79,80,81,82,83,84,16,17,7] (fun g=> [(5,vi g.n),(6,vi (128^g.k:Nat)),(7,vi g.k)]) (fun g=> [(b, .cells #[vs s,vi a,vi 0] 243 (0,0))]) (fun g=>g.k≤6∧(g.k<6→bO most (s.drop a) 0 0=bO most (s.drop (a+g.k)) g.k g.n∧a+g.k≤s.length∧g.n<128^g.k)∧(g.k=6→bO most (s.drop a) 0 0= .error 4)) (fun g=>6 - g.k) ⟨0,0⟩ rfl rfl ?_ ?_
  ·exact⟨by simp,fun _=>⟨rfl,by simpa using ha,by simp⟩,fun h=>by cases h⟩
  intro g j hg
  refine kv ?_
  obtain⟨k,n⟩:=g
  simp only at hg ⊢
  obtain⟨hk6,lR,mu⟩:=hg
  by_cases hk:k<6
  ·obtain⟨cF,hak,hn⟩:=lR hk
   refine ky @bY ?_
   refine Cw.regionS [b] [0,1,2,4,6,7,8,3,5,9,10,11] [] kR kR kR ?_
   simp only[bF, ↓bE, ↓ay, ↓bD, ↓bC,az]
   refine kq @bY ?_
   try with_reducible refine Ow.nil ?_
   refine ky @bY ?_
   by_cases mH:a+k=s.length
   ·refine ky @bY ?_
    rw[oU (x:=3) rfl (by rw[cF,mH,List.drop_length];rfl)]
    refine⟨_,_,_,(ke @bY),rfl,trivial, ?_⟩
    exact⟨rfl,rfl⟩
   have Gq:a+k<s.length:=by omega
   have qQ:s.drop (a+k)=s.getD (a+k) 0::s.drop (a+k+1):=by
    rw[List.drop_eq_getElem_cons Gq,List.getD_eq_getElem?_getD,List.getElem?_eq_getElem Gq];rfl
   rw[qQ] at cF
   refine ky @bY ?_
   refine Cw.regionS [b] [0,1,2,4,5,6,8,3,7,9,10,11,12] [] kR kR kR ?_
   simp only[bF, ↓bE, ↓ay, ↓bD, ↓bC,az]
   have H9: ((a:Int)+ (k:Int))=((a+k:Nat):Int):=by omega
   refine kq (aN @bY @H9) ?_
   try with_reducible refine Ow.nil ?_
   generalize s.getD (a+k) 0=c at*
   have hp:128^k≤34359738368:=Nat.pow_le_pow_right oM (show k≤5 by omega)
   have fP:0<128^k:=Nat.pow_pos oM
   have k_:=c.toNat_lt
   have hdm:c.toNat%128*128^k≤127*128^k:=Nat.mul_le_mul_right _ oM
   have tN: ((c.toNat:Int)%128)=((c.toNat%128:Nat):Int):=by omega
   have hmul:aD .mul (vi ((c.toNat%128:Nat):Int)) (vi ((128^k:Nat):Int))=some (vi ((c.toNat%128*128^k:Nat):Int)):=by
    rw[Cf _ _ (by rw[←Int.natCast_mul];omega),←Int.natCast_mul]
   have hpow: (((128^k:Nat):Int)*128)=((128^ (k+1):Nat):Int):=by rw[Nat.pow_succ,Int.natCast_mul];rfl
   have aC:n+c.toNat%128*128^k<128^ (k+1):=by rw[Nat.pow_succ];omega
   refine ky (aN @bY (aN @tN (aN @hmul @hpow))) ?_
   rw[show((n:Int)+ ((c.toNat%128*128^k:Nat):Int))=((n+c.toNat%128*128^k:Nat):Int) from(Int.natCast_add _ _).symm]
   by_cases bS:128≤c.toNat
   ·refine ky @bY ?_
    refine Again.mk (KN.mk (k+1) (n+c.toNat%128*128^k)) (by show 6 - (k+1)<6 - k;omega) ⟨by show k+1≤6;omega,fun h=>⟨?_,by show a+ (k+1)≤s.length;omega,aC⟩,fun h=> ?_⟩ rfl rfl
    ·show bO most (s.drop a) 0 0=bO most (s.drop (a+ (k+1))) (k+1) (n+c.toNat%128*128^k)
     have h':k+1<6:=h
     rw[cF,bO,if_pos bS,if_neg oM]
     rfl
    have h':k+1=6:=h
    rw[cF,bO,if_pos bS,if_pos h']
   by_cases hz:c.toNat=0
   ·have e0: ((c.toNat:Int)==0)=true:=by simp[hz]
    refine ky (aN @bY @e0) ?_
    by_cases rQ:0<k
    ·refine ky @bY ?_
     rw[oU (x:=2) rfl (by rw[cF,bO,if_neg bS,if_pos ⟨hz,rQ⟩])]
     refine⟨_,_,_,(ke @bY),rfl,trivial, ?_⟩
     exact⟨rfl,rfl⟩
    have kN: ¬ (c.toNat=0∧0<k):=fun h=>rQ h.2
    refine ky @bY ?_
    by_cases hm:n+c.toNat%128*128^k≤1099511627775
    ·have e1:decide ((1099511627775:Int)< ((n+c.toNat%128*128^k:Nat):Int))=false:=ah oM
     refine ky (aN @bY @e1) ?_
     by_cases l6: ((n+c.toNat%128*128^k:Nat):Int)≤most
     ·refine ky @bY ?_
      rw[zO rfl (by rw[cF,bO,if_neg bS,if_neg kN,if_pos ⟨hm,l6⟩])]
      refine⟨_,_,_,(ke @bY),rfl,trivial, ?_⟩
      exact⟨rfl,rfl⟩
     refine ky @bY ?_
     rw[oU (x:=4) rfl (by rw[cF,bO,if_neg bS,if_neg kN,if_neg (fun h=>l6 h.2)])]
     refine⟨_,_,_,(ke @bY),rfl,trivial, ?_⟩
     exact⟨rfl,rfl⟩
    have e1:decide ((1099511627775:Int)< ((n+c.toNat%128*128^k:Nat):Int))=true:=aW oM
    refine ky (aN @bY @e1) ?_
    rw[oU (x:=4) rfl (by rw[cF,bO,if_neg bS,if_neg kN,if_neg (fun h=>hm h.1)])]
    refine⟨_,_,_,(ke @bY),rfl,trivial, ?_⟩
    exact⟨rfl,rfl⟩
   have e0: ((c.toNat:Int)==0)=false:=by simp;omega
   have kN: ¬ (c.toNat=0∧0<k):=fun h=>hz h.1
   refine ky (aN @bY @e0) ?_
   by_cases hm:n+c.toNat%128*128^k≤1099511627775
   ·have e1:decide ((1099511627775:Int)< ((n+c.toNat%128*128^k:Nat):Int))=false:=ah oM
    refine ky (aN @bY @e1) ?_
    by_cases l6: ((n+c.toNat%128*128^k:Nat):Int)≤most
    ·refine ky @bY ?_
     rw[zO rfl (by rw[cF,bO,if_neg bS,if_neg kN,if_pos ⟨hm,l6⟩])]
     refine⟨_,_,_,(ke @bY),rfl,trivial, ?_⟩
     exact⟨rfl,rfl⟩
    refine ky @bY ?_
    rw[oU (x:=4) rfl (by rw[cF,bO,if_neg bS,if_neg kN,if_neg (fun h=>l6 h.2)])]
    refine⟨_,_,_,(ke @bY),rfl,trivial, ?_⟩
    exact⟨rfl,rfl⟩
   have e1:decide ((1099511627775:Int)< ((n+c.toNat%128*128^k:Nat):Int))=true:=aW oM
   refine ky (aN @bY @e1) ?_
   rw[oU (x:=4) rfl (by rw[cF,bO,if_neg bS,if_neg kN,if_neg (fun h=>hm h.1)])]
   refine⟨_,_,_,(ke @bY),rfl,trivial, ?_⟩
   exact⟨rfl,rfl⟩
  have hke:k=6:=by omega
  refine ky @bY ?_
  rw[oU (x:=4) rfl (mu hke)]
  refine⟨_,_,_,(ke @bY),rfl,trivial, ?_⟩
  exact⟨rfl,rfl⟩
 refine ky @bY ?_
 unfold aG
 refine⟨_,_,_,(ke @bY),rfl,trivial, ?_⟩
 simp[he,bv]
def ic:=aN (aN (aN @bB @iH) (aN @iG (aN @iE @bA))) (aN (aN @tz @u2) (aN @u5 (aN @tq @tv)))
def K8 (b:Nat) (s:List UInt8) (a:Nat) (e most:Int) (w:World) (ha:a≤s.length) (hs:s.length<1099511627776) (ho:w.heap[b]? =some (.cells #[vs s,vi a,vi e] 243 (0,0))):
  Rets prog 129 #[vp b 0,vi most] w (fun v D=> ∃o,D= [(b,o)]∧v=vs (aY s a e most).1∧o= .cells #[vs s,vi (aY s a e most).2.1,vi (aY s a e most).2.2] 243 (0,0)):=by
 refine Rets.enterM func129 rfl (rs:= [.tmp 4]) results129 ntmps129 ho ?_
 refine kf ?_
 refine ky @ic ?_
 by_cases he:e=0
 ·refine ky @ic ?_
  have hp:=i_ (e:=e) (most:=most) ha
  unfold aY
  refine Ow.callM rfl rfl call128 (by simp[keys]) (fun w' aA=>K6 b s a e most w' ha hs (aA.has _ _ aa)) ?_
  generalize aG s a e most=p at*
  obtain⟨n,a1,e1⟩:=p
  simp only at hp ⊢
  refine ko @ic ?_
  refine ky @ic ?_
  refine Ow.callM rfl rfl call194 (by simp[keys]) (fun w' aA=>KV b s a1 e1 n w' hp.2 hs (aA.has _ _ aa)) ?_
  generalize ax s a1 e1 n=q at*
  obtain⟨t,a2,e2⟩:=q
  simp only
  refine ko @ic ?_
  refine ky @ic ?_
  by_cases tO:e2=0
  ·refine ky @ic ?_
   refine⟨_,_,_,(ke @ic),rfl,trivial, ?_⟩
   simp[tO,bv]
  refine ky @ic ?_
  refine⟨_,_,_,(ke @ic),rfl,trivial, ?_⟩
  simp[tO,bv]
 refine ky @ic ?_
 have:aY s a e most=([],a,e):=by
  unfold aY aG ax
  simp[he]
 rw[this]
 refine⟨_,_,_,(ke @ic),rfl,trivial, ?_⟩
 exact⟨rfl,rfl⟩
def jb (t:List UInt8) (g:Nat):List UInt8:=t.take g++List.replicate (32 - g) 0
def Ut (t:List UInt8) (g:Nat) (h:g≤t.length) (h2:t.length≤32): (jb t g).length=32:=by
 unfold jb;rw[List.length_append,List.length_take,List.length_replicate];omega
def RZ (t:List UInt8) (g:Nat) (h:g<t.length) (h2:t.length≤32): (jb t g).set g (t.getD g 0)=jb t (g+1):=by
 unfold jb
 have hl: (t.take g).length=g:=by rw[List.length_take];omega
 obtain⟨m,hm⟩: ∃m,32 - g=m+1:=⟨31 - g,by omega⟩
 rw[hm,List.replicate_succ,List.set_append_right _ _ oM,hl,Nat.sub_self,List.set_cons_zero,List.take_succ_eq_append_getElem h,List.getD_eq_getElem?_getD,List.getElem?_eq_getElem h,show 32 - (g+1)=m by omega,List.append_assoc]
 rfl
def Sj (t:List UInt8) (h:t= []∨t.length=32):jb t t.length=(if t.length=32 then t else z32):=by
 unfold jb
 rcases h with rfl|h
 ·rfl
 rw[if_pos h,h,List.take_of_length_le oM];simp
def LZ (b:Nat) (s:List UInt8) (a:Nat) (e:Int) (w:World) (ha:a≤s.length) (hs:s.length<1099511627776) (ho:w.heap[b]? =some (.cells #[vs s,vi a,vi e] 243 (0,0))):
  Rets prog 130 #[vp b 0] w (fun v D=> ∃o,D= [(b,o)]∧v= .agg (a8 (idR s a e).1)∧o= .cells #[vs s,vi (idR s a e).2.1,vi (idR s a e).2.2] 243 (0,0)):=by
 have fE:=(Array.getElem?_eq_some_iff.1 ho).1
 have hq:=Dw (e:=e) ha
 unfold idR
 refine Rets.enterM func130 rfl (rs:= [.cell 2 24]) results130 ntmps130 ho ?_
 refine kf ?_
 refine ky @ic ?_
 refine Ow.alloc rfl rfl zr24 fun b2 al bR=> ?_
 obtain⟨uW,-⟩:=al
 refine ko @ic ?_
 refine ky @ic ?_
 refine Ow.callM rfl rfl call194 (by simp[keys]) (fun w' aA=>KV b s a e 32 w' ha hs (aA.has _ _ aa)) ?_
 generalize ax s a e 32=q at*
 obtain⟨t,a2,e2⟩:=q
 simp only at hq ⊢
 have I1:t.length≤32:=by rcases hq with rfl|h<;>simp_all
 refine ko @ic ?_
 refine ky @ic ?_
 refine Ow.alloc rfl rfl zr24 fun b3 gA lB=> ?_
 refine ko @ic ?_
 obtain⟨GK,zV,-⟩:=gA
 rw[show a8 (List.replicate 32 0)=a8 (jb t 0) from rfl]
 refine ky @ic ?_
 refine Cw.loopG (G:=Nat) [8,9,10,11,14,15,16,17,18,12,13,5] (fun g=> [(5,vi g)]) (fun g=> [(b, .cells #[vs s,vi a2,vi e2] 243 (0,0)),(b2, .cells (a8 z32) 24 (0,0)),(b3, .cells (a8 (jb t g)) 24 (0,0))]) (fun g=>g≤t.length) (fun g=>t.length - g) 0 rfl rfl ?_ ?_
 ·omega
 intro g j hg
 refine kv ?_
 by_cases aC:g<t.length
 ·have iw:=Ut t g hg I1
  refine ky @ic ?_
  refine Again.mk (g+1) oM oM ?_ rfl
  rw[RZ t g aC I1]
 obtain rfl:g=t.length:=by omega
 rw[Sj t hq]
 have iw: (if t.length=32 then t else z32).length=32:=by
  split
  ·assumption
  simp[z32]
 have hz32:z32.length=32:=by simp[z32]
 generalize (if t.length=32 then t else z32)=id at*
 refine ky @ic ?_
 refine⟨_,_,_,(ke @ic),rfl,⟨bR,lB,trivial⟩, ?_⟩
 exact⟨rfl,rfl⟩
end Go.Proofs
end
section
open Go Go.Proofs Go.Sx Go.StP
namespace Go.Proofs
structure EntL where
 name:List UInt8
 kind:Int
 id:IdL
def cI (r:EntL):List Value:= [vs r.name]++ ([vi r.kind]++ (r.id.l.map v8))
def cX:EntL:=⟨[],0,id0⟩
def tn (r:EntL): (cI r).length=34:=by simp[cI,r.id.h]
def IQ (r:EntL):Value.cells (.agg (cI r).toArray)=(cI r).toArray:=ag _
def EQ (r:EntL): (cI r).all Value.oneCell'=true:=by
 unfold cI
 simp only[List.all_append,List.all_cons,List.all_nil,vr,Bool.and_true,Bool.true_and]
 rfl
def sf:au prog 117=some (.agg (cI cX).toArray):=id kR
def Fc:aK prog 117=some (true,34):=id kR
def sF (r:EntL):cI r=([]:List Value)++ (([vs r.name])++ ([vi r.kind]++ (r.id.l.map v8))):=by
 unfold cI;simp only[List.append_assoc,List.nil_append,List.append_nil]
def Ce (r:EntL) (n:Nat) (E:TypeId) (fz:Nat×Nat):aQ (some (false,n)) (some (.cells (cI r).toArray E fz)) 0=some (vs r.name):=by
 rw[sF];exact pR _ _ _ n E fz (by simp)
def w6 {w:World} {v:Value} {l:List EntL} {b off:Nat} {arr:Array Value} {E:TypeId} {fz:Nat×Nat} (h:RowS 34 cI cX w v l b off arr E fz) {k:Nat} (hk:k<l.length) (n:Nat):aQ (some (false,n)) (some (.cells arr E fz)) (off+k*34+0)=some (vs (l.getD k cX).name):=by
 rw[RowS.cell h hk oM];generalize l.getD k cX=r;rw[sF];exact J1 _ _ _ (by simp)
def Qj (r:EntL) (x:List UInt8) (a:Bool) (E:TypeId):aw (some (a,1)) (some (.cells (cI r).toArray E (0,0))) 0 (vs x)=some (.cells (cI {r with name:=x}).toArray E (0,0)):=by
 rw[sF r,sF {r with name:=x}];exact k9 _ _ _ _ a _ E (by simp) rfl (rfl) rfl (rfl)
def s9 (r:EntL):cI r=(([vs r.name]))++ (([vi r.kind])++ (r.id.l.map v8)):=by
 unfold cI;simp only[List.append_assoc,List.nil_append,List.append_nil]
def Cs (r:EntL) (n:Nat) (E:TypeId) (fz:Nat×Nat):aQ (some (false,n)) (some (.cells (cI r).toArray E fz)) 1=some (vi r.kind):=by
 rw[s9];exact pR _ _ _ n E fz (by simp)
def Eg {w:World} {v:Value} {l:List EntL} {b off:Nat} {arr:Array Value} {E:TypeId} {fz:Nat×Nat} (h:RowS 34 cI cX w v l b off arr E fz) {k:Nat} (hk:k<l.length) (n:Nat):aQ (some (false,n)) (some (.cells arr E fz)) (off+k*34+1)=some (vi (l.getD k cX).kind):=by
 rw[RowS.cell h hk oM];generalize l.getD k cX=r;rw[s9];exact J1 _ _ _ (by simp)
def Qv (r:EntL) (x:Int) (a:Bool) (E:TypeId):aw (some (a,1)) (some (.cells (cI r).toArray E (0,0))) 1 (vi x)=some (.cells (cI {r with kind:=x}).toArray E (0,0)):=by
 rw[s9 r,s9 {r with kind:=x}];exact k9 _ _ _ _ a _ E (by simp) rfl (rfl) rfl (rfl)
def sB (r:EntL):cI r=(([vs r.name])++ ([vi r.kind]))++ ((r.id.l.map v8)++ (([]:List Value))):=by
 unfold cI;simp only[List.append_assoc,List.nil_append,List.append_nil]
def Ch (r:EntL) (E:TypeId) (fz:Nat×Nat):aQ (some (true,32)) (some (.cells (cI r).toArray E fz)) 2=some (Value.agg (a8 r.id.l)):=by
 rw[sB,Al _ _ _ E fz (by simp) (by simp[r.id.h])];rfl
def ZH (r:EntL): (cI r).toArray.extract 2 34=a8 r.id.l:=by
 rw[sB];exact F0 (o:=2) (n:=32) _ _ _ (by simp) (by simp[r.id.h])
def VY {w:World} {v:Value} {l:List EntL} {b off:Nat} {arr:Array Value} {E:TypeId} {fz:Nat×Nat} (h:RowS 34 cI cX w v l b off arr E fz) {k:Nat} (hk:k<l.length):aQ (some (true,32)) (some (.cells arr E fz)) (off+k*34+2)=some (Value.agg (a8 (l.getD k cX).id.l)):=by
 rw[RowS.part h tn hk oM oM,ZH]
def Ra (r:EntL) (x:IdL) (a:Bool) (E:TypeId):aw (some (a,32)) (some (.cells (cI r).toArray E (0,0))) 2 (Value.agg (a8 x.l))=some (.cells (cI {r with id:=x}).toArray E (0,0)):=by
 rw[sB r,sB {r with id:=x}];exact k9 _ _ _ _ a _ E (by simp) (by simp[r.id.h]) (ag _) (by simp[x.h]) (vr _)
def wA (r:EntL) (E:TypeId) (fz:Nat×Nat):aQ (some (true,34)) (some (.cells (cI r).toArray E fz)) 0=some (.agg (cI r).toArray):=rZ _ E fz 34 (by rw[List.size_toArray,tn])
def SO (old:Array Value) (r:EntL) (a:Bool) (E:TypeId) (h:old.size=34):aw (some (a,34)) (some (.cells old E (0,0))) 0 (.agg (cI r).toArray)=some (.cells (cI r).toArray E (0,0)):=A2 _ a old E (tn r) (EQ r) h
def LY (r r':EntL) (a:Bool) (E:TypeId):aw (some (a,34)) (some (.cells (cI r').toArray E (0,0))) 0 (.agg (cI r).toArray)=some (.cells (cI r).toArray E (0,0)):=SO _ r a E (by rw[List.size_toArray,tn])
def Y7 (a b:List UInt8): (!(Op.bytesLess a b||a==b))=ltB b a:=by
 cases h:ltB a b
 ·have h':Op.bytesLess a b=false:=h
  rw[h',Bool.false_or]
  by_cases e:a=b
  ·subst e;rw[h];simp
  rw[vP h e];simp[e]
 have h':Op.bytesLess a b=true:=h
 rw[h',Kd h];rfl
section
variable {α:Type} {a x m y c:List α} {i k:Nat} {z:α}
end
abbrev Xm (l:List EntL):Prop:=StP.Sorted EntL.name l
abbrev StE (l l':List EntL):Prop:=StP.St EntL.name l l'
abbrev EntS (w:World) (v:Value) (l:List EntL):Prop:=SlV 34 cI cX w v l
def N1 (w0:World) {L:aB} {b:Nat} {o:Obj} (h:eP L b):aT w0 (L++ [(b,o)]) b=some o:=ac (jQ h)
def SortOf (l Z:List EntL):Prop:=Z.length=l.length∧Xm Z∧StE l Z
theorem SortOf.eq {l Z Z':List EntL} (h:SortOf l Z) (h':SortOf l Z'):Z=Z':=StP.St.eq h.2.1 h'.2.1 (h.2.2.symm.trans h'.2.2)
end Go.Proofs
end
section
open Go Go.Proofs Go.Sx
namespace Go.Proofs
def badR (c:Int):Bool:=decide (c<33) ||decide (126<c) || (c==47)
def gg (b:UInt8):Bool:=decide (b.toNat<33) ||decide (126<b.toNat) || (b.toNat==47)
def eqb (a b:Bool):ab prog .eql 4 (.bool a) (.bool b)=some (.bool (a==b)):=by
 simp[ab,eqX,eN,eA,underlying4]
def uH (a:Value): (#[a]:Array Value)[0]? =some a:=(rfl)
def ie:=aN (aN (aN @bB (aN @iH @iG)) (aN (aN @iE @bA) (aN @wC @KX))) (aN (aN (aN @KQ @KT) (aN @ws @uH)) (aN (aN @Sx.tup3_0 @Sx.tup3_1) (aN @Sx.tup3_2 @eqb)))
def WE (l:List UInt8) (i:Nat) (h:i<l.length):badR ((Utf8.decode ⟨l.toArray⟩ i).1:Nat)=gg (l.getD i 0)∧(gg (l.getD i 0)=false→(Utf8.decode ⟨l.toArray⟩ i).2=1):=by
 obtain⟨h0,h1,h2⟩:=Vs_ l i h
 by_cases hc: (l.getD i 0).toNat<128
 ·rw[h1 hc]
  refine⟨?_,fun _=>rfl⟩
  unfold badR gg
  congr 1
  ·congr 1
   ·apply decide_eq_decide.2;omega
   apply decide_eq_decide.2;omega
  rw[Bool.eq_iff_iff,beq_iff_eq,beq_iff_eq];omega
 have uX:=h2 oM
 have hb:gg (l.getD i 0)=true:=by
  unfold gg
  rw[aW (show 126< (l.getD i 0).toNat by omega)];simp
 rw[hb]
 refine⟨?_,fun h=>by cases h⟩
 unfold badR
 rw[aW (show(126:Int)< (((Utf8.decode ⟨l.toArray⟩ i).1:Nat):Int) by omega)];simp
def MJ (s:List UInt8) (k:FuncId) (hk: ∀a w,(callFunc k a).run prog w= .ok (.enter k a) w) (hc: ∀c w,Rets prog k #[gh c] w (fun v D=>v= .bool (badR c)∧D= [])) (w:World) (hs:s.length<1099511627776):
  Rets prog 256 #[vs s, .func (.func k) #[] #[], .bool true] w (fun v D=> ∃n:Int,v=vi n∧(0≤n↔s.any gg=true)∧D= []):=by
 refine Rets.mono (S:=fun v D=>(∃n:Int,v=vi n∧(0≤n↔s.any gg=true))∧D= []) ?_ (by rintro v D ⟨⟨n,h1,h2⟩,h3⟩;exact⟨n,h1,h2,h3⟩)
 refine Rets.enterV func256 rfl (rs:= [.tmp 6]) results256 ntmps256 ?_
 refine kf ?_
 refine ky @ie ?_
 refine Ow.rangeText rfl rfl underlying9 rfl fun b1 aO aP=> ?_
 refine ko @ie ?_
 refine ky @ie ?_
 refine Cw.loopG (G:=Nat) [11,12,13,14,7,8,15,16,17,18,19,20,6] (fun g=> []) (fun g=> [(b1, .stringIter ⟨s.toArray⟩ g)]) (fun g=>g≤s.length∧ ∀i,i<g→gg (s.getD i 0)=false) (fun g=>s.length - g) 0 rfl rfl ?_ ?_
 ·exact⟨by omega,fun i hi=>by omega⟩
 intro g j hg
 refine kv ?_
 obtain⟨qU,eJ⟩:=hg
 by_cases aC:g<s.length
 ·have gz:=WE s g aC
  refine ky @ie ?_
  refine Ow.nextText rfl rfl rfl (fN _ _ _) aC ?_
  rw[n5]
  generalize xr:Utf8.decode ⟨s.toArray⟩ g=dd at*
  obtain⟨c,n⟩:=dd
  simp only at gz ⊢
  refine ko @ie ?_
  refine ky @ie ?_
  refine Ow.callFn1 (v:= .bool (badR c)) (k:=k) rfl rfl rfl hk (fun w' aA=>hc _ w') ?_
  rw[gz.1]
  refine ko @ie ?_
  cases tL:gg (s.getD g 0)
  ·refine ky @ie ?_
   refine Again.mk (g+1) oM ⟨by omega,fun i hi=> ?_⟩ ?_ rfl
   ·by_cases y3:i=g
    ·rw[y3];exact tL
    exact eJ i oM
   rw[gz.2 tL]
  refine ky @ie ?_
  refine⟨_,(ke @ie),⟨aP,trivial⟩, ?_⟩
  refine⟨(g:Int),rfl,⟨fun _=> ?_,fun _=>by omega⟩⟩
  rw[List.any_eq_true]
  refine⟨s.getD g 0, ?_,tL⟩
  rw[List.getD_eq_getElem?_getD,List.getElem?_eq_getElem aC]
  exact List.getElem_mem aC
 obtain rfl:g=s.length:=by omega
 refine ky @ie ?_
 refine Ow.nextOver rfl rfl rfl (fN _ _ _) aC ?_
 refine ko @ie ?_
 refine ky @ie ?_
 refine⟨_,(ke @ie),⟨aP,trivial⟩, ?_⟩
 refine⟨-1,rfl,⟨fun h=>by omega,fun h=> ?_⟩⟩
 rw[List.any_eq_true] at h
 obtain⟨x,hx,K0⟩:=h
 obtain⟨i,hi,rfl⟩:=List.getElem_of_mem hx
 have:=eJ i hi
 rw[List.getD_eq_getElem?_getD,List.getElem?_eq_getElem hi] at this
 exact absurd K0 (by simpa using this)
def M7 (s:List UInt8) (k:FuncId) (hk: ∀a w,(callFunc k a).run prog w= .ok (.enter k a) w) (hc: ∀c w,Rets prog k #[gh c] w (fun v D=>v= .bool (badR c)∧D= [])) (w:World) (hs:s.length<1099511627776):
  Rets prog 223 #[vs s, .func (.func k) #[] #[]] w (fun v D=> ∃n:Int,v=vi n∧(0≤n↔s.any gg=true)∧D= []):=by
 refine Rets.mono (S:=fun v D=>(∃n:Int,v=vi n∧(0≤n↔s.any gg=true))∧D= []) ?_ (by rintro v D ⟨⟨n,h1,h2⟩,h3⟩;exact⟨n,h1,h2,h3⟩)
 refine Rets.enterV func223 rfl (rs:= [.tmp 4]) results223 ntmps223 ?_
 refine kf ?_
 refine ky @ie ?_
 refine Ow.callF rfl rfl call256 (S:=fun _ v D=> ∃n:Int,v=vi n∧(0≤n↔s.any gg=true)∧D= []) (fun w' aA=>MJ s k hk hc w' hs) ?_
 rintro B v D - - ⟨n,rfl,hn,rfl⟩
 refine⟨_,Mrg.nil, ?_⟩
 refine ko @ie ?_
 refine ky @ie ?_
 refine⟨_,(ke @ie),trivial, ?_⟩
 exact⟨n,rfl,hn⟩
def XV_ (s:List UInt8) (k:FuncId) (hk: ∀a w,(callFunc k a).run prog w= .ok (.enter k a) w) (hc: ∀c w,Rets prog k #[gh c] w (fun v D=>v= .bool (badR c)∧D= [])) (w:World) (hs:s.length<1099511627776):
  Rets prog 170 #[vs s, .func (.func k) #[] #[]] w (fun v D=>v= .bool (s.any gg)∧D= []):=by
 refine Rets.enterV func170 rfl (rs:= [.tmp 4]) results170 ntmps170 ?_
 refine kf ?_
 refine ky @ie ?_
 refine Ow.callF rfl rfl call223 (S:=fun _ v D=> ∃n:Int,v=vi n∧(0≤n↔s.any gg=true)∧D= []) (fun w' aA=>M7 s k hk hc w' hs) ?_
 rintro B v D - - ⟨n,rfl,hn,rfl⟩
 refine⟨_,Mrg.nil, ?_⟩
 refine ko @ie ?_
 refine ky @ie ?_
 refine⟨_,(ke @ie),trivial, ?_⟩
 exact congrArg Value.bool (by rw[Bool.eq_iff_iff,decide_eq_true_eq];exact hn)
def pQ:=aN (aN @bB @iH) (aN @iG (aN @iE @bA))
def nW (s:List UInt8):Bool:= !(s== [])&&decide (s.length≤32)&& !(s.any gg)
def YQ (c:UInt8):gg c=(decide (c<33) ||decide (126<c) || (c==47)):=by
 unfold gg
 congr 1
 rw[Bool.eq_iff_iff,beq_iff_eq,beq_iff_eq,←UInt8.toNat_inj];rfl
def Nv (s:List UInt8) (w:World) (hs:s.length<1099511627776):
  Rets prog 195 #[vs s] w (fun v D=>v= .bool (nW s)∧D= []):=by
 refine Rets.enterV func195 rfl (rs:= [.tmp 2]) results195 ntmps195 ?_
 refine kf ?_
 refine ky @pQ ?_
 refine Cw.loopG (G:=Nat) [4,5,6,7,10,11,12,13,14,15,16,17,18,19,20,21,22,23,24,25,2,8,9,3] (fun g=> [(3,vi g)]) (fun g=> []) (fun g=>g≤s.length∧ ∀i,i<g→gg (s.getD i 0)=false) (fun g=>s.length - g) 0 rfl rfl ?_ ?_
 ·exact⟨by omega,fun i hi=>by omega⟩
 intro g j hg
 refine kv ?_
 obtain⟨qU,eJ⟩:=hg
 by_cases aC:g<s.length
 ·have hb:=YQ (s.getD g 0)
  have xl:gg (s.getD g 0)=true→nW s=false:=by
   intro h
   have:s.any gg=true:=List.any_eq_true.2 ⟨s.getD g 0,by rw[List.getD_eq_getElem?_getD,List.getElem?_eq_getElem aC];exact List.getElem_mem aC,h⟩
   unfold nW
   rw[this];simp
  have cF:gg (s.getD g 0)=false→ ∀i,i<g+1→gg (s.getD i 0)=false:=fun h i hi=>by
   by_cases y3:i=g
   ·rw[y3];exact h
   exact eJ i oM
  generalize hc:s.getD g 0=c at*
  cases h1:decide (c<33)
  ·cases h2:decide (126<c)
   ·cases h3: (c==47)
    ·refine ky (aN @pQ (aN @hc (aN @h1 (aN @h2 @h3)))) ?_
     refine Again.mk (g+1) oM ⟨by omega,cF (by rw[hb,h1,h2,h3];rfl)⟩ rfl rfl
    refine ky (aN @pQ (aN @hc (aN @h1 (aN @h2 @h3)))) ?_
    rw[xl (by rw[hb,h1,h2,h3];rfl)]
    refine⟨_,(ke @pQ),trivial, ?_⟩
    rfl
   refine ky (aN @pQ (aN @hc (aN @h1 @h2))) ?_
   rw[xl (by rw[hb,h1,h2];rfl)]
   refine⟨_,(ke @pQ),trivial, ?_⟩
   rfl
  refine ky (aN @pQ (aN @hc @h1)) ?_
  rw[xl (by rw[hb,h1];simp)]
  refine⟨_,(ke @pQ),trivial, ?_⟩
  rfl
 obtain rfl:g=s.length:=by omega
 have xj:s.any gg=false:=by
  rw[List.any_eq_false]
  intro x hx
  obtain⟨i,hi,rfl⟩:=List.getElem_of_mem hx
  have:=eJ i hi
  rw[List.getD_eq_getElem?_getD,List.getElem?_eq_getElem hi] at this
  simpa using this
 unfold nW
 rw[xj]
 cases h1:decide (1≤ (s.length:Int))
 ·have e0: (s== [])=true:=by
   have:=of_decide_eq_false h1
   rw[List.eq_nil_of_length_eq_zero (show s.length=0 by omega)];rfl
  refine ky (aN @pQ @h1) ?_
  refine⟨_,(ke @pQ),trivial, ?_⟩
  simp only[bv,e0,Bool.not_true,Bool.false_and]
 have e0: (s== [])=false:=by
  have:=of_decide_eq_true h1
  cases s with
  |nil=>simp at this
  |cons x r=>rfl
 have e1:decide ((s.length:Int)≤32)=decide (s.length≤32):=decide_eq_decide.2 oM
 refine ky (aN @pQ @h1) ?_
 refine⟨_,(ke @pQ),trivial, ?_⟩
 simp only[bv,e0,e1,Bool.not_false,Bool.true_and,Bool.and_true]
end Go.Proofs
end
section
open Go Go.Proofs Go.Sx Go.StP
namespace Go.Proofs
def kG (l:List EntL) (i:Nat):Bool:=
 nW (l.getD i cX).name&& ((l.getD i cX).kind==1|| (l.getD i cX).kind==2)&& (i==0||ltB (l.getD (i - 1) cX).name (l.getD i cX).name)
def oq (l:List EntL):Bool:=decide (l.length≤32)&& (List.range l.length).all (kG l)
def Ig {l:List EntL} {k:Nat} (hk:k<l.length) (h:kG l k=false):oq l=false:=by
 unfold oq
 have: (List.range l.length).all (kG l)=false:=by
  rw[List.all_eq_false]
  exact⟨k,List.mem_range.2 hk,by simp[h]⟩
 rw[this,Bool.and_false]
def RD {l:List EntL} (h: ∀i,i<l.length→kG l i=true):oq l=decide (l.length≤32):=by
 unfold oq
 have: (List.range l.length).all (kG l)=true:=List.all_eq_true.2 fun i hi=>h i (List.mem_range.1 hi)
 rw[this,Bool.and_true]
def sZ (l:List EntL):Prop:= ∀i,i<l.length→(l.getD i cX).name.length<1099511627776
end Go.Proofs
end
