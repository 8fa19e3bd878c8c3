/-
  Part 1 of the walk: contracts of the functions that the law reaches, and the calculus they stand on.
  No conditions.
-/
import Derived.Test.YtdffddfgldlijaaGreatDoorL0
import Derived.Maps.RangeRun
import Derived.RangeFuncLeaves
import Derived.RangeFuncIn
import Derived.RangeFuncSeq
import Derived.RangeFuncRecord
import Derived.TacticsIn
import Derived.Test.YtdffddfgldlijaaGreatDoorProg
import Derived.Lib.Small
import Derived.Lib.Walk
import Derived.Lib.Bytealg
import Derived.Deep.Draws
import Derived.Deep.QuietTactic
set_option linter.unusedSimpArgs false
set_option maxRecDepth 100000
set_option linter.defProp false
set_option maxHeartbeats 8000000
open Go.Proofs.Tryz
namespace Go.Sx
open Go
section
variable {P:Program} {w0:World} {f:Fr} {L:aB} {N:Fr→aB→Prop} {ops:Array Oper} {rest:List Oper} {md:Md}
 {d:Option Tmp} {ty:TypeId} {ps:String} {af:Array Edge} {g:Option (Nat×Bool)}
def VH_ (l:List UInt8) (k size:Nat) (w:World): (Builtin.firstCells size k (vs l)).run P w= .ok ((l.take k).map v8).toArray w:=by
 simp only[vs,Builtin.firstCells]
 show Result.ok _ w=_
 congr 1
 have: ((ByteArray.mk l.toArray).extract 0 k).data=(l.take k).toArray:=by
  rw[ByteArray.data_extract]
  simp
 rw[this]
 simp
 rfl
def av (R:List Nat) (x:UInt8):rdIn R (v8 x)=true:=(rfl)
def vf (R:List Nat) (x:UInt16):rdIn R (v16 x)=true:=(rfl)
def wL (R:List Nat) (x:UInt32):rdIn R (v32 x)=true:=(rfl)
def zG (R:List Nat) (x:UInt64):rdIn R (v64 x)=true:=(rfl)
def au (R:List Nat) (x:Int):rdIn R (vi x)=true:=(rfl)
def Ow.copyText {td tx e:TypeId} {m:Bool×Nat} {x y:Operand} {b off n c:Nat} {l:List UInt8} {cs:Array Value} {E:TypeId} {md':Md} (he:md.turn=some md')
  (hs:bT ops f ⟨d, .call ⟨.builtin .copy, #[x,y], #[td,tx]⟩,ty,ps,af,g⟩=false) (hu:P.underlying td=some (.slice e)) (hm:aR P e=some m)
  (hx:ev f x=vsl b off n c) (hy:ev f y=vs l) (hl:look L b=some (.cells cs E (0,0))) (hn:off+n≤cs.size)
  (hO:Ow P w0 ops md' rest (al f d (vi (min l.length n:Nat))) (setB L b (.cells (eb cs off ((l.take (min l.length n)).map v8)) E (0,0))) N):
  Ow P w0 ops md (⟨d, .call ⟨.builtin .copy, #[x,y], #[td,tx]⟩,ty,ps,af,g⟩::rest) f L N:=by
 refine Ow.step he rfl hs fun w hw=> ?_
 have hb:=hw.has _ _ (cQ hl)
 have aC:=(Array.getElem?_eq_some_iff.1 hb).1
 have aP: (Builtin.lenOf (vs l)).run P w= .ok l.length w:=by simp only[vs,Builtin.lenOf,uu];rfl
 have hfc:=VH_ (P:=P) l (min l.length n) m.2 w
 have bK:=KB (P:=P) (b:=b) (off:=off) (E:=E) (fz:=(0,0)) ((l.take (min l.length n)).map v8) 0 cs w hb (by
  rw[List.length_map,List.length_take];have:=Nat.min_le_right l.length n;omega) (.inl (bq 0)) (by rw[List.all_map,List.all_eq_true];intro x _;rfl)
 refine .inl ⟨vi (min l.length n:Nat),{w with heap:=w.heap.setIfInBounds b (.cells (eb cs off ((l.take (min l.length n)).map v8)) E (0,0))},_, ?_,hw.set (bY hl) rfl rfl rfl rfl,hO⟩
 simp only[execOp,resolve,Sem.run_bind,Sem.run_pure,Result.andThen_ok,invoke,builtin,List.map_toArray,List.map_cons,List.map_nil,hx,hy]
 have: (Builtin.copy_ #[td,tx] ty #[vsl b off n c,vs l]).run P w= .ok (vi (min l.length n:Nat)) {w with heap:=w.heap.setIfInBounds b (.cells (eb cs off ((l.take (min l.length n)).map v8)) E (0,0))}:=by
  simp only[Builtin.copy_,vsl,List.getElem?_toArray,List.getElem?_cons_zero,List.getElem?_cons_succ,Sem.run_bind,run_underlying hu w,Result.andThen_ok,aP,iT hm w]
  rw[show l.length.min n=min l.length n from rfl,hfc]
  simp only[Result.andThen_ok]
  rw[bK]
  rfl
 rw[this]
 rfl
end
end Go.Sx
namespace Go.Sx
open Go
section
variable {P:Program} {w0:World} {f:Fr} {L:aB} {N:Fr→aB→Prop} {ops:Array Oper} {rest:List Oper} {md:Md}
 {d:Option Tmp} {ty:TypeId} {ps:String} {af:Array Edge} {g:Option (Nat×Bool)}
def jO (n:Int):Value:= .int .i32 n
def EA (op:BinOp) (t:TypeId) (a b:Int):bF P op t (jO a) (jO b)=aJ op (jO a) (jO b):=(rfl)
def V1_ (a b:Int):aJ .lss (jO a) (jO b)=some (.bool (decide (a<b))):=by simp[aJ,jO,dm,cmpV]
def Wv_ (a b:Int):aJ .gtr (jO a) (jO b)=some (.bool (decide (b<a))):=by simp[aJ,jO,dm,cmpV]
def VI_ (a b:Int):aJ .eql (jO a) (jO b)=some (.bool (a==b)):=by simp[aJ,jO,dm,cmpV]
def FF (n:Int):Value.int .i32 n=jO n:=(rfl)
def Ow.callFn1 {x y:Operand} {ts:Array TypeId} {k:FuncId} {v a:Value} (hs:bT ops f ⟨d, .call ⟨.value x, #[y],ts⟩,ty,ps,af,g⟩=false) (hx:ev f x= .func (.func k) #[] #[]) (hy:ev f y=a)
  (hk: ∀a w,(callFunc k a).run P w= .ok (.enter k a) w) (hc: ∀w,Hp w0 L w→Rets P k #[a] w (fun v' D=>v'=v∧D= [])) (hn:Ow P w0 ops md.next rest (al f d v) L N):
  Ow P w0 ops md (⟨d, .call ⟨.value x, #[y],ts⟩,ty,ps,af,g⟩::rest) f L N:=
 Ow.callV hs hx hk (fun w hw=>by simpa [hy] using hc w hw) hn
def Ow.rangeText {t:TypeId} {x:Operand} {l:List UInt8} {md':Md} (he:md.turn=some md') (hs:bT ops f ⟨d, .range t x,ty,ps,af,g⟩=false) (hu:P.underlying t=some .string) (hx:ev f x=vs l)
  (hn: ∀b,fU L b→w0.heap.size≤b→Ow P w0 ops md' rest (al f d (vp b 0)) (L++ [(b, .stringIter ⟨l.toArray⟩ 0)]) N):
  Ow P w0 ops md (⟨d, .range t x,ty,ps,af,g⟩::rest) f L N:=by
 refine Ow.step he rfl hs fun w hw=> .inl ⟨vp w.heap.size 0,w.alloc (.stringIter ⟨l.toArray⟩ 0),_, ?_,hw.alloc _,hn _ (io fun b hb=>hw.lt hb) hw.size⟩
 simp only[execOp,Instr.range,Sem.run_bind,run_underlying hu w,Result.andThen_ok,hx,vs]
 rfl
def Ow.nextText {x:Operand} {b:Nat} {l:List UInt8} {pos:Nat} {md':Md} (he:md.turn=some md') (hs:bT ops f ⟨d, .next x true,ty,ps,af,g⟩=false) (hx:ev f x=vp b 0) (hl:look L b=some (.stringIter ⟨l.toArray⟩ pos)) (hp:pos<l.length)
  (hn:Ow P w0 ops md' rest (al f d (.tuple #[.bool true,vi pos,jO (Utf8.decode ⟨l.toArray⟩ pos).1])) (setB L b (.stringIter ⟨l.toArray⟩ (pos+ (Utf8.decode ⟨l.toArray⟩ pos).2))) N):
  Ow P w0 ops md (⟨d, .next x true,ty,ps,af,g⟩::rest) f L N:=by
 refine Ow.step he rfl hs fun w hw=> ?_
 have hb:=hw.has _ _ (cQ hl)
 refine .inl ⟨_,{w with heap:=w.heap.setIfInBounds b (.stringIter ⟨l.toArray⟩ (pos+ (Utf8.decode ⟨l.toArray⟩ pos).2))},_, ?_,hw.set (bY hl) rfl rfl rfl rfl,hn⟩
 have hg: (getObj b).run P w= .ok (.stringIter ⟨l.toArray⟩ pos) w:=by
  simp only[getObj,Sem.run,hb]
 have bK: ∀o,(setObj b o).run P w= .ok () {w with heap:=w.heap.setIfInBounds b o}:=by
  intro o;simp only[setObj,Sem.run,hb]
 have g_:pos< (ByteArray.mk l.toArray).size:=by rw[uu];exact hp
 have: (Instr.next (vp b 0) true ty).run P w= .ok (.tuple #[.bool true,vi pos,jO (Utf8.decode ⟨l.toArray⟩ pos).1]) {w with heap:=w.heap.setIfInBounds b (.stringIter ⟨l.toArray⟩ (pos+ (Utf8.decode ⟨l.toArray⟩ pos).2))}:=by
  simp only[Instr.next,vp,Sem.run_bind,hg,Result.andThen_ok,g_, ↓reduceIte,bK]
  rfl
 simp only[execOp,Sem.run_bind,hx]
 rw[this]
 rfl
def Ow.nextOver {x:Operand} {b:Nat} {l:List UInt8} {pos:Nat} {md':Md} (he:md.turn=some md') (hs:bT ops f ⟨d, .next x true,ty,ps,af,g⟩=false) (hx:ev f x=vp b 0) (hl:look L b=some (.stringIter ⟨l.toArray⟩ pos)) (hp: ¬pos<l.length)
  (hn:Ow P w0 ops md' rest (al f d (.tuple #[.bool false])) L N):
  Ow P w0 ops md (⟨d, .next x true,ty,ps,af,g⟩::rest) f L N:=by
 refine Ow.step he rfl hs fun w hw=> ?_
 have hb:=hw.has _ _ (cQ hl)
 refine .inl ⟨.tuple #[.bool false],w,_, ?_,hw,hn⟩
 have hg: (getObj b).run P w= .ok (.stringIter ⟨l.toArray⟩ pos) w:=by
  simp only[getObj,Sem.run,hb]
 have g_: ¬pos< (ByteArray.mk l.toArray).size:=by rw[uu];exact hp
 have: (Instr.next (vp b 0) true ty).run P w= .ok (.tuple #[.bool false]) w:=by
  simp only[Instr.next,vp,Sem.run_bind,hg,Result.andThen_ok,g_, ↓reduceIte]
  rfl
 simp only[execOp,Sem.run_bind,hx]
 rw[this]
 rfl
end
def Oj (l:List UInt8) (i:Nat) (h:i<l.length):0< (Utf8.decode ⟨l.toArray⟩ i).2∧
  ((l.getD i 0).toNat<128→Utf8.decode ⟨l.toArray⟩ i=((l.getD i 0).toNat,1))∧(128≤ (l.getD i 0).toNat→128≤ (Utf8.decode ⟨l.toArray⟩ i).1):=by
 have hb: ((ByteArray.mk l.toArray).get! (i+0))=l.getD i 0:=by
  simp[ByteArray.get!,h]
 unfold Utf8.decode
 simp only[hb]
 generalize (l.getD i 0).toNat=b0
 refine⟨?_,fun h1=> ?_,fun h1=> ?_⟩
 ·(repeat' split)<;>simp
 ·rw[if_pos h1]
 rw[if_neg oM]
 (repeat' split)<;>first
  | (simp only[Utf8.runeError];omega)
  | (rename_i hc;simp only[Bool.and_eq_true,decide_eq_true_eq,ge_iff_le] at hc;omega)
  | (rename_i hc;simp only[ge_iff_le] at hc;omega)
end Go.Sx
namespace Go.Sx
open Go
abbrev Vals:=List (List UInt8×List UInt8)
def fnd (k:List UInt8):Vals→Nat→Option (Nat×List UInt8)
 | [],_=>none
 |p::r,i=>if k==p.1 then some (i,p.2) else fnd k r (i+1)
def updV (k v:List UInt8):Vals→Vals
 | []=> [(k,v)]
 |p::r=>if k==p.1 then(p.1,v)::r else p::updV k v r
def m7 (p:List UInt8×List UInt8):Value×Value:=(vs p.1, .agg (a8 p.2))
def MapR (o:Obj) (m:Vals):Prop:= ∃es clock,o= .map es clock∧es.toList.map (fun e=>(e.key,e.val))=m.map m7∧(es.toList.map (·.born)++ [clock]).Pairwise (· < ·)
def DS {es:List MapEntry} {c:Nat} {e:MapEntry} (h: (es.map (·.born)++ [c]).Pairwise (· < ·)) (he:e.born=c): ((es++ [e]).map (·.born)++ [c+1]).Pairwise (· < ·):=by
 rw[List.map_append,List.map_cons,List.map_nil,he]
 refine List.pairwise_append.2 ⟨h,List.pairwise_singleton _ _, ?_⟩
 intro a ha b hb
 rw[List.mem_singleton] at hb
 subst hb
 rcases List.mem_append.1 ha with hm|hm
 ·have:=(List.pairwise_append.1 h).2.2 a hm c (List.mem_singleton.2 rfl)
  omega
 rw[List.mem_singleton] at hm
 omega
def Vq_ {es:List MapEntry} {j:Nat} {g:MapEntry→MapEntry} (hg: ∀e,(g e).born=e.born): (es.modify j g).map (·.born)=es.map (·.born):=by
 apply List.ext_getElem?
 intro i
 rw[List.getElem?_map,List.getElem?_map,List.getElem?_modify]
 cases es[i]? with
 |none=>rfl
 |some e=>
  by_cases h:j=i
  ·simp[h,hg]
  simp[h]
def Qm {es:List MapEntry} {c j:Nat} (h: (es.map (·.born)++ [c]).Pairwise (· < ·)): ((es.eraseIdx j).map (·.born)++ [c]).Pairwise (· < ·):=
 h.sublist (((List.eraseIdx_sublist es j).map _).append_right [c])
def oV (a b:List UInt8): ((ByteArray.mk a.toArray)==(ByteArray.mk b.toArray))=(a==b):=by
 show(a.toArray==b.toArray)=(a==b)
 simp
theorem Bs (k:List UInt8): ∀ (es:List MapEntry) (m:Vals) (i:Nat),es.map (fun e=>(e.key,e.val))=m.map m7→
  Instr.findNow .string (vs k) es i=some ((fnd k m i).map fun p=>(p.1, .agg (a8 p.2)))
 | [],[],i,_=>rfl
 | [],_::_,_,h=>by cases h
 |_::_,[],_,h=>by cases h
 |e::es,p::m,i,h=>by
  simp only[List.map_cons,List.cons.injEq,m7,Prod.mk.injEq] at h
  obtain⟨⟨h1,h2⟩,h3⟩:=h
  unfold Instr.findNow
  have hs:Instr.sameNow .string (vs k) e.key=some (k==p.1):=by
   rw[h1]
   simp only[vs,Instr.sameNow,oV]
  rw[hs]
  unfold fnd
  cases hk: (k==p.1)
  ·simp only[Bool.false_eq_true, ↓reduceIte]
   exact Bs k es m (i+1) h3
  simp[h2]
theorem wg (k:List UInt8): ∀ (m:Vals) (i j:Nat) (v:List UInt8),fnd k m i=some (j,v)→i≤j∧ ∃a,m[j - i]? =some (k,a)∧a=v
 | [],_,_,_,h=>by cases h
 |p::r,i,j,v,h=>by
  unfold fnd at h
  split at h
  ·rename_i hk
   cases h
   refine⟨bq _,p.2, ?_,rfl⟩
   rw[Nat.sub_self,List.getElem?_cons_zero,eq_of_beq hk]
  obtain⟨h1,a,h2,h3⟩:=wg k r (i+1) j v h
  refine⟨by omega,a, ?_,h3⟩
  rw[show j - i=(j - (i+1))+1 by omega,List.getElem?_cons_succ];exact h2
theorem DJ (k v:List UInt8): ∀ (es:List MapEntry) (m:Vals) (i j:Nat) (a:List UInt8),es.map (fun e=>(e.key,e.val))=m.map m7→fnd k m i=some (j,a)→
  (es.modify (j - i) fun e=>{e with key:=vs k,val:= .agg (a8 v)}).map (fun e=>(e.key,e.val))=(updV k v m).map m7
 | [],[],_,_,_,_,h=>by cases h
 | [],_::_,_,_,_,h,_=>by cases h
 |_::_,[],_,_,_,h,_=>by cases h
 |e::es,p::m,i,j,a,h,hf=>by
  simp only[List.map_cons,List.cons.injEq,m7,Prod.mk.injEq] at h
  obtain⟨⟨h1,h2⟩,h3⟩:=h
  unfold fnd at hf
  unfold updV
  split at hf
  ·rename_i hk
   cases hf
   rw[if_pos hk,Nat.sub_self]
   simp only[List.modify_zero_cons,List.map_cons,m7,eq_of_beq hk]
   rw[h3]
  rename_i hk
  have dc:=(wg k m (i+1) j a hf).1
  rw[if_neg hk,show j - i=(j - (i+1))+1 by omega]
  simp only[List.modify_succ_cons,List.map_cons,m7]
  rw[DJ k v es m (i+1) j a h3 hf,h1,h2]
theorem Cf (k v:List UInt8): ∀ (m:Vals) (i:Nat),fnd k m i=none→updV k v m=m++ [(k,v)]
 | [],_,_=>rfl
 |p::r,i,h=>by
  unfold fnd at h
  split at h
  ·cases h
  rename_i hk
  unfold updV
  rw[if_neg hk,Cf k v r (i+1) h];rfl
section
variable {P:Program} {w0:World} {f:Fr} {L:aB} {N:Fr→aB→Prop} {ops:Array Oper} {rest:List Oper} {md:Md}
 {d:Option Tmp} {ty:TypeId} {ps:String} {af:Array Edge} {g:Option (Nat×Bool)}
def P1 {w:World} {t:TypeId} (hu:P.underlying t=some .string) (k:List UInt8) (es:List MapEntry) (m:Vals) (h:es.map (fun e=>(e.key,e.val))=m.map m7):
  (Instr.findKey t (vs k) es).run P w= .ok ((fnd k m 0).map fun p=>(p.1, .agg (a8 p.2))) w:=by
 simp only[Instr.findKey,Sem.run_bind,run_underlying hu w,Result.andThen_ok,Bs k es m 0 h]
 rfl
def KB_ {w:World} {t:TypeId} (hu:P.underlying t=some .string) (e:Bool) (k:List UInt8): (Instr.checkKey e 10000 t (vs k)).run P w= .ok () w:=by
 unfold Instr.checkKey
 simp only[Sem.run_bind,run_underlying hu w,Result.andThen_ok,vs]
 rfl
def rm {w:World} {b:Nat} {es:Array MapEntry} {c:Nat} (hb:w.heap[b]? =some (.map es c)): (getObj b).run P w= .ok (.map es c) w:=by
 simp only[getObj,Sem.run,hb]
def yx {w:World} {b:Nat} {es:Array MapEntry} {c:Nat} (hb:w.heap[b]? =some (.map es c)) (o:Obj): (setObj b o).run P w= .ok () {w with heap:=w.heap.setIfInBounds b o}:=by
 simp only[setObj,Sem.run,hb]
def vm (b:Nat):Value:= .map (some b)
theorem Ow.makeMap {t:TypeId} {md':Md} (he:md.turn=some md') (hs:bT ops f ⟨d, .makeMap t none,ty,ps,af,g⟩=false)
  (hn: ∀b o,fU L b→w0.heap.size≤b→MapR o []→Ow P w0 ops md' rest (al f d (vm b)) (L++ [(b,o)]) N):
  Ow P w0 ops md (⟨d, .makeMap t none,ty,ps,af,g⟩::rest) f L N:=by
 refine Ow.step he rfl hs fun w hw=> .inl ⟨vm w.heap.size,w.alloc (.map #[] 0),_, ?_,hw.alloc _,hn _ _ (io fun b hb=>hw.lt hb) hw.size ⟨#[],0,rfl,rfl,List.pairwise_singleton _ _⟩⟩
 simp only[execOp,Instr.makeMap,Sem.run_bind,Option.map_none]
 rfl
def WQ {k:List UInt8} {m:Vals} {es:List MapEntry} {j:Nat} {a:List UInt8} (h:es.map (fun e=>(e.key,e.val))=m.map m7) (hf:fnd k m 0=some (j,a)): ∃e,es[j]? =some e∧e.key=vs k:=by
 obtain⟨-,a',h1,rfl⟩:=wg k m 0 j a hf
 rw[Nat.sub_zero] at h1
 have:=congrArg (·[j]?) h
 simp only[List.getElem?_map,h1,Option.map_some] at this
 cases he:es[j]? with
 |none=>rw[he] at this;cases this
 |some e=>
  rw[he] at this
  simp only[Option.map_some,Option.some.injEq,m7,Prod.mk.injEq] at this
  exact⟨e,rfl,this.1⟩
theorem Ow.mapUpdate {t kt vt:TypeId} {x y z:Operand} {b:Nat} {o:Obj} {m:Vals} {k v:List UInt8} {md':Md} (he:md.turn=some md') (hs:bT ops f ⟨d, .mapUpdate t x y z,ty,ps,af,g⟩=false) (hu:P.underlying t=some (.map kt vt)) (A0:P.underlying kt=some .string)
  (hx:ev f x=vm b) (hy:ev f y=vs k) (hz:ev f z= .agg (a8 v)) (hl:look L b=some o) (hm:MapR o m)
  (hn: ∀o',MapR o' (updV k v m)→Ow P w0 ops md' rest (al f d undef) (setB L b o') N):
  Ow P w0 ops md (⟨d, .mapUpdate t x y z,ty,ps,af,g⟩::rest) f L N:=by
 obtain⟨es,c,rfl,j',iX⟩:=hm
 refine Ow.step he rfl hs fun w hw=> ?_
 have hb:=hw.has _ _ (cQ hl)
 have gl:=P1 (w:=w) A0 k es.toList m j'
 cases hf:fnd k m 0 with
 |none=>
  rw[hf] at gl
  refine .inr (.inl ⟨{w with heap:=w.heap.setIfInBounds b (.map (es.push {key:=vs k,val:= .agg (a8 v),born:=c}) (c+1))},_, ?_,hw.set (bY hl) rfl rfl rfl rfl,hn _ ⟨_,_,rfl, ?_,by rw[Array.toList_push];exact DS iX rfl⟩⟩)
  ·have: (Instr.mapUpdate t (vm b) (vs k) (.agg (a8 v))).run P w= .ok () {w with heap:=w.heap.setIfInBounds b (.map (es.push {key:=vs k,val:= .agg (a8 v),born:=c}) (c+1))}:=by
    simp only[Instr.mapUpdate,vm,Sem.run_bind,run_underlying hu w,Result.andThen_ok,rm hb,KB_ A0,gl,Option.map_none,yx hb]
   simp only[execOp,Sem.run_bind,hx,hy,hz]
   rw[this];rfl
  rw[Cf k v m 0 hf,Array.toList_push,List.map_append,j',List.map_append];rfl
 |some p=>
  obtain⟨j,a⟩:=p
  rw[hf] at gl
  obtain⟨e,hej,hek⟩:=WQ j' hf
  have yM:es[j]? =some e:=by simpa using hej
  have gn: (Instr.keyThatStays (((es[j]?).map (·.key)).getD (vs k)) (vs k)).run P w= .ok (vs k) w:=by
   rw[yM,Option.map_some,Option.getD_some,hek]
   unfold Instr.keyThatStays
   have:Instr.sameBits 10000 (vs k) (vs k)=true:=by simp[vs,Instr.sameBits,oV]
   rw[if_pos this];rfl
  refine .inr (.inl ⟨{w with heap:=w.heap.setIfInBounds b (.map (es.modify j fun e=>{e with key:=vs k,val:= .agg (a8 v)}) c)},_, ?_,hw.set (bY hl) rfl rfl rfl rfl,hn _ ⟨_,_,rfl, ?_,by rw[Array.toList_modify,Vq_ (g:=fun e=>{e with key:=vs k,val:= .agg (a8 v)}) fun _=>rfl];exact iX⟩⟩)
  ·have: (Instr.mapUpdate t (vm b) (vs k) (.agg (a8 v))).run P w= .ok () {w with heap:=w.heap.setIfInBounds b (.map (es.modify j fun e=>{e with key:=vs k,val:= .agg (a8 v)}) c)}:=by
    simp only[Instr.mapUpdate,vm,Sem.run_bind,run_underlying hu w,Result.andThen_ok,rm hb,KB_ A0,gl,Option.map_some,gn,yx hb]
   simp only[execOp,Sem.run_bind,hx,hy,hz]
   rw[this];rfl
  rw[Array.toList_modify]
  have:=DJ k v es.toList m 0 j a j' hf
  rw[Nat.sub_zero] at this
  exact this
end
end Go.Sx
namespace Go.Sx
open Go
section
variable {P:Program} {w0:World} {f:Fr} {L:aB} {N:Fr→aB→Prop} {ops:Array Oper} {rest:List Oper} {md:Md}
 {d:Option Tmp} {ty:TypeId} {ps:String} {af:Array Edge} {g:Option (Nat×Bool)}
end
end Go.Sx
namespace Go.Sx
open Go
def kv (e:MapEntry):Value×Value:=(e.key,e.val)
def ItR (o:Obj) (bm:Nat) (om:Obj) (m dn lf:Vals):Prop:=
 ∃es clock,∃ds:List MapEntry,om= .map es clock∧(es.toList.map (·.born)++ [clock]).Pairwise (· < ·)∧o= .mapIter (some bm) clock (ds.map (·.born)).toArray clock∧
  ds.map kv=dn.map m7∧(∀d,d∈ds→d∈es.toList)∧((es.toList.filter fun e=> !(ds.map (·.born)).contains e.born).map kv=lf.map m7)∧(dn++lf).Perm m
def Kq {l:List MapEntry} {c:Nat} (h: (l.map (·.born)++ [c]).Pairwise (· < ·)): (l.map (·.born)).Nodup:=
 ((List.pairwise_append.1 h).1).imp fun h=>Nat.ne_of_lt h
def WI {l:List MapEntry} {c:Nat} (h: (l.map (·.born)++ [c]).Pairwise (· < ·)): ∀x,x∈l→x.born<c:=fun x hx=>
 (List.pairwise_append.1 h).2.2 _ (List.mem_map.2 ⟨x,hx,rfl⟩) c (List.mem_singleton.2 rfl)
def Cg (es:Array MapEntry) (ds:List MapEntry): (leftOf es (ds.map (·.born)).toArray).toList=es.toList.filter fun e=> !(ds.map (·.born)).contains e.born:=by
 unfold leftOf
 rw[Array.toList_filter]
 simp
def ItR.start {bm:Nat} {om:Obj} {m:Vals} (h:MapR om m): ∃es clock,om= .map es clock∧ItR (.mapIter (some bm) clock #[] clock) bm om m [] m:=by
 obtain⟨es,clock,rfl,h1,h2⟩:=h
 refine⟨es,clock,rfl,es,clock,[],rfl,h2,rfl,rfl,(fun d hd=>by cases hd), ?_,by rw[List.nil_append]⟩
 rw[show(es.toList.filter fun e=> !(([]:List MapEntry).map (·.born)).contains e.born)=es.toList from List.filter_eq_self.2 (fun _ _=>rfl)]
 exact h1
def ItR.step {bm:Nat} {om:Obj} {m dn lf:Vals} {es:Array MapEntry} {clock:Nat} {ds:List MapEntry} {e:MapEntry} (hb: (es.toList.map (·.born)++ [clock]).Pairwise (· < ·))
  (hd:ds.map kv=dn.map m7) (hm: ∀d,d∈ds→d∈es.toList) (hl: (es.toList.filter fun e=> !(ds.map (·.born)).contains e.born).map kv=lf.map m7) (hp: (dn++lf).Perm m)
  (he:e∈es.toList.filter fun e=> !(ds.map (·.born)).contains e.born) (lF:om= .map es clock):
  ∃p lf',kv e=m7 p∧lf.length=lf'.length+1∧ItR (.mapIter (some bm) clock ((ds.map (·.born)).toArray.push e.born) clock) bm om m (dn++ [p]) lf':=by
 obtain⟨A,C,xw⟩:=List.append_of_mem he
 rw[xw,List.map_append,List.map_cons] at hl
 obtain⟨l1,l2,rfl,h1,h2⟩:=List.append_eq_map_iff.1 hl
 obtain⟨p,l3,rfl,h3,h4⟩:=(List.map_eq_cons_iff.1 h2)
 refine⟨p,l1++l3,h3.symm,by simp;omega,es,clock,ds++ [e],lF,hb,by simp,by simp[hd,h3], ?_, ?_, ?_⟩
 ·intro d iK
  rcases List.mem_append.1 iK with h|h
  ·exact hm d h
  rw[List.mem_singleton] at h;subst h;exact(List.mem_filter.1 he).1
 ·have bA: ((A++e::C).map (·.born)).Nodup:=by
   rw[←xw]
   exact(Kq hb).sublist ((List.filter_sublist).map _)
  have e1: (es.toList.filter fun x=> !((ds++ [e]).map (·.born)).contains x.born)=(A++e::C).filter fun x=> !(x.born==e.born):=by
   rw[←xw,List.filter_filter]
   refine List.filter_congr fun x hx=> ?_
   simp only[List.map_append,List.map_cons,List.map_nil,List.contains_append,List.contains_cons,List.contains_nil,Bool.or_false,Bool.not_or]
   rw[Bool.and_comm]
  rw[List.map_append,List.map_cons,List.nodup_append] at bA
  obtain⟨-,qG,hn3⟩:=bA
  rw[List.nodup_cons] at qG
  have e2: ((A++e::C).filter fun x=> !(x.born==e.born))=A++C:=by
   rw[List.filter_append,List.filter_cons]
   simp only[beq_self_eq_true,Bool.not_true,Bool.false_eq_true, ↓reduceIte]
   congr 1
   ·refine List.filter_eq_self.2 fun x hx=> ?_
    have:=hn3 x.born (List.mem_map.2 ⟨x,hx,rfl⟩) e.born am
    simpa using this
   refine List.filter_eq_self.2 fun x hx=> ?_
   have:x.born≠e.born:=fun h=>qG.1 (h▸List.mem_map.2 ⟨x,hx,rfl⟩)
   simpa using this
  rw[e1,e2,List.map_append,List.map_append,h1,h4]
 refine List.Perm.trans ?_ hp
 rw[List.append_assoc]
 refine List.Perm.append_left dn ?_
 rw[List.singleton_append]
 exact List.perm_middle.symm
section
variable {P:Program} {w0:World} {f:Fr} {L:aB} {N:Fr→aB→Prop} {ops:Array Oper} {rest:List Oper} {md:Md}
 {d:Option Tmp} {ty:TypeId} {ps:String} {af:Array Edge} {g:Option (Nat×Bool)}
def itv (b:Nat):Value:= .pointer (some ⟨b,0,none⟩)
end
end Go.Sx
namespace Go.Sx
open Go
def FK (A B C:List Value) {o n:Nat} (hA:A.length=o) (hB:B.length=n): (A++ (B++C)).toArray.extract o (o+n)=B.toArray:=by
 subst hA;subst hB
 rw[List.extract_toArray,List.extract_eq_take_drop,List.drop_left,Nat.add_sub_cancel_left,List.take_left]
def FY (A C:List Value) (v:Value) {o:Nat} (hA:A.length=o): (A++ ([v]++C)).toArray[o]? =some v:=by
 subst hA;simp
def vb (A C:List Value) (v:Value) {o:Nat} (hA:A.length=o): (A++ ([v]++C))[o]? =some v:=by
 subst hA;simp
def Ad (A B B' C:List Value) {o:Nat} (hA:A.length=o) (hB:B.length=B'.length):eb (A++ (B++C)).toArray o B'=(A++ (B'++C)).toArray:=by
 subst hA
 have hp:=tD B' A B C hB
 rw[List.append_assoc,List.append_assoc] at hp
 exact hp
def wb (A C:List Value) (v:Value) {o n:Nat} (hA:A.length=o):partV (false,n) (A++ ([v]++C)).toArray o=some v:=FY A C v hA
def Am (A B C:List Value) {o n:Nat} (E:TypeId) (fz:Nat×Nat) (hA:A.length=o) (hB:B.length=n):aG (some (true,n)) (some (.cells (A++ (B++C)).toArray E fz)) o=some (.agg B.toArray):=by
 have hs:o+n≤ (A++ (B++C)).toArray.size:=by
  simp only[List.size_toArray,List.length_append];omega
 unfold aG
 simp only[hs, ↓reduceIte]
 rw[FK A B C hA hB]
def iR (A C:List Value) (v:Value) {o:Nat} (n:Nat) (E:TypeId) (fz:Nat×Nat) (hA:A.length=o):aG (some (false,n)) (some (.cells (A++ ([v]++C)).toArray E fz)) o=some v:=by
 rw[loadV_one];exact FY A C v hA
def dR (A B B' C:List Value) {o n:Nat} (a:Bool) (x:Value) (E:TypeId) (hA:A.length=o) (hB:B.length=n) (hx:x.cells=B'.toArray) (hB':B'.length=n) (ho:B'.all Value.oneCell'=true):
  ad (some (a,n)) (some (.cells (A++ (B++C)).toArray E (0,0))) o x=some (.cells (A++ (B'++C)).toArray E (0,0)):=by
 subst hA
 have hp:=tD B' A B C (by rw[hB,hB'])
 rw[List.append_assoc,List.append_assoc] at hp
 unfold ad
 simp only[hx]
 rw[if_pos ⟨by rw[List.size_toArray,hB'],by simp only[List.size_toArray,List.length_append];omega, .inl (bq 0),ho⟩,hp]
def vq (cs:List Value) {n:Nat} (a:Bool) (old:Array Value) (E:TypeId) (hn:cs.length=n) (ho:cs.all Value.oneCell'=true) (h:old.size=n):
  ad (some (a,n)) (some (.cells old E (0,0))) 0 (.agg cs.toArray)=some (.cells cs.toArray E (0,0)):=
 IR n a cs.toArray old E ⟨by rw[List.size_toArray,hn],h⟩ ho
def qW (l:List UInt8): (l.map v8).all Value.oneCell'=true:=by
 rw[List.all_map]
 exact List.all_eq_true.2 fun x _=>rfl
def RowS.part {α:Type} {m:Nat} {enc:α→List Value} {z:α} {w:World} {v:Value} {l:List α} {b off:Nat} {arr:Array Value} {E:TypeId} {fz:Nat×Nat} (h:RowS m enc z w v l b off arr E fz) (hm: ∀x,(enc x).length=m) {k o n:Nat} (hk:k<l.length) (ho:o+n≤m) (hn:0<n):
  aG (some (true,n)) (some (.cells arr E fz)) (off+k*m+o)=some (.agg ((enc (l.getD k z)).toArray.extract o (o+n))):=by
 have hg: ∀i,i<n→arr[off+k*m+ (o+i)]? =(enc (l.getD k z))[o+i]? :=fun i hi=>h.get k hk (o+i) oM
 have aP:=hm (l.getD k z)
 have g_:off+k*m+o+n≤arr.size:=by
  have h1:=hg (n - 1) oM
  rw[List.getElem?_eq_getElem oM] at h1
  have:=(Array.getElem?_eq_some_iff.1 h1).1
  omega
 unfold aG
 simp only[g_, ↓reduceIte]
 congr 2
 apply Array.ext_getElem?
 intro i
 by_cases hi:i<n
 ·rw[Array.getElem?_extract,Array.getElem?_extract,if_pos oM,if_pos (by rw[List.size_toArray];omega)]
  have hh:=hg i hi
  rw[show off+k*m+ (o+i)=off+k*m+o+i by omega] at hh
  rw[hh]
  exact(List.getElem?_toArray ..).symm
 rw[Array.getElem?_eq_none (by rw[Array.size_extract];omega),Array.getElem?_eq_none (by rw[Array.size_extract];omega)]
end Go.Sx
namespace Go.Sx
open Go
def Cw.forget {P:Program} {w0:World} {c:Code} {f:Fr} {L:aB} {K:d9} (M:aB) (hM: ∀p,p∈M→p∈L) (hn: (keys M).Nodup) (km: ∀p,p∈L→p.1∉keys M→w0.heap.size≤p.1)
  (h:Cw P w0 c f M K):Cw P w0 c f L K:=fun w hw=>h w (hw.drop hM hn fun p hp aC hk=>by have:=km p hp hk;omega)
end Go.Sx
namespace Go.Sx
open Go
def SlV {α:Type} (m:Nat) (enc:α→List Value) (z:α) (w:World) (v:Value) (l:List α):Prop:=
 ∃b off c arr E fz,RowS m enc z w v l b off arr E fz∧l.length≤c∧((v= .slice none 0 0∧l= []∧c=0)∨(v=vsl b off l.length c∧w.heap[b]? =some (.cells arr E fz)∧off+l.length*m≤arr.size))
section
variable {α:Type} {m:Nat} {enc:α→List Value} {z:α} {w:World} {v:Value} {l:List α}
def RowS.sl' {b off n c:Nat} {arr:Array Value} {E:TypeId} {fz:Nat×Nat} (hn:n=l.length)
  (has:0<l.length→w.heap[b]? =some (.cells arr E fz)) (get: ∀k,k<l.length→ ∀j,j<m→arr[off+k*m+j]? =(enc (l.getD k z))[j]?):RowS m enc z w (vsl b off n c) l b off arr E fz:=by
 subst hn
 exact⟨fun x=>rfl,fun a k hk=>pS _ _ _ _ _ _ ⟨by omega,by omega⟩,has,get⟩
theorem SlV.nil (w:World):SlV m enc z w (.slice none 0 0) []:=⟨0,0,0, #[],0,(0,0),RowS.nil w 0 0 rfl,bq _, .inl ⟨rfl,rfl,rfl⟩⟩
def SlV.row (h:SlV m enc z w v l): ∃b off arr E fz,RowS m enc z w v l b off arr E fz:=by
 obtain⟨b,off,c,arr,E,fz,hr,-⟩:=h;exact⟨b,off,arr,E,fz,hr⟩
theorem SlV.sl {b off c:Nat} {arr:Array Value} {E:TypeId} {fz:Nat×Nat} (has:w.heap[b]? =some (.cells arr E fz)) (get: ∀k,k<l.length→ ∀j,j<m→arr[off+k*m+j]? =(enc (l.getD k z))[j]?) (hc:l.length≤c) (hs:off+l.length*m≤arr.size):SlV m enc z w (vsl b off l.length c) l:=
 ⟨b,off,c,arr,E,fz,RowS.sl rfl has get,hc, .inr ⟨rfl,has,hs⟩⟩
theorem RowS.old {w':World} {b off:Nat} {arr:Array Value} {E:TypeId} {fz:Nat×Nat} {L:aB} (h:RowS m enc z w v l b off arr E fz) (hw:Hp w L w') (hb:0<l.length→b∉keys L):RowS m enc z w' v l b off arr E fz:=
 ⟨h.len,h.idx,fun hl=>by have hh:=h.has hl;rw[hw.old b (Array.getElem?_eq_some_iff.1 hh).1 (hb hl)];exact hh,h.get⟩
def RowS.lt {b off:Nat} {arr:Array Value} {E:TypeId} {fz:Nat×Nat} (h:RowS m enc z w v l b off arr E fz) (hl:0<l.length):b<w.heap.size:=(Array.getElem?_eq_some_iff.1 (h.has hl)).1
theorem SlV.old {w':World} {L:aB} (h:SlV m enc z w v l) (hw:Hp w L w') (hb: ∀b,slB v=some b→b<w.heap.size→b∉keys L):SlV m enc z w' v l:=by
 obtain⟨b,off,c,arr,E,fz,hr,hc,hv⟩:=h
 rcases hv with⟨rfl,rfl,rfl⟩ | ⟨rfl,fX,g_⟩
 ·exact SlV.nil w'
 have p7:=hb b rfl (Array.getElem?_eq_some_iff.1 fX).1
 refine⟨b,off,c,arr,E,fz,hr.old hw (fun _=>p7),hc, .inr ⟨rfl, ?_,g_⟩⟩
 rw[hw.old b (Array.getElem?_eq_some_iff.1 fX).1 p7];exact fX
def New.not {L:aB} {n b:Nat} (h:New n L) (hb:b<n):b∉keys L:=fun hm=>by have:=h.le b hm;omega
def SlV.oldN {w':World} {L:aB} (h:SlV m enc z w v l) (hw:Hp w L w') (hn:New w.heap.size L):SlV m enc z w' v l:=h.old hw fun _ _ hb=>hn.not hb
theorem SlV.len (h:SlV m enc z w v l) (x:Bool×Nat):gY (.sl x) v=some (vi l.length):=by
 obtain⟨b,off,arr,E,fz,hr⟩:=h.row
 exact hr.len x
theorem SlV.take (h:SlV m enc z w v l) {k:Nat} (hk:k≤l.length) (a:Bool): ∃v',gb (.sl (a,m)) v none (some (some (k:Int)))=some v'∧SlV m enc z w v' (l.take k)∧(∀b,slB v'=some b→slB v=some b):=by
 obtain⟨b,off,c,arr,E,fz,hr,hc,hv⟩:=h
 have hl: (l.take k).length=k:=by simp;omega
 rcases hv with⟨rfl,rfl,rfl⟩ | ⟨rfl,fX,g_⟩
 ·obtain rfl:k=0:=by simpa using hk
  refine⟨.slice none 0 0,rfl,SlV.nil w,fun b hb=>hb⟩
 refine⟨vsl b off k c, ?_, ?_,fun b hb=>hb⟩
 ·unfold gb vsl
  simp only[Fl _ _ _ (⟨by omega,by omega⟩: (0:Int)≤ (k:Int)∧(k:Int)≤ (c:Int)),Int.toNat_natCast,Nat.zero_mul,Nat.sub_zero,Option.map_some,o0,Nat.add_zero]
  split<;>rfl
 refine⟨b,off,c,arr,E,fz,RowS.sl' hl.symm (fun h0=>hr.has oM) ?_,by omega, .inr ⟨by rw[hl],fX,by rw[hl];have:k*m≤l.length*m:=Nat.mul_le_mul_right _ hk;omega⟩⟩
 ·intro i hi j hj
  rw[hl] at hi
  rw[hr.get i oM j hj]
  congr 2
  rw[List.getD_eq_getElem?_getD,List.getD_eq_getElem?_getD,List.getElem?_take_of_lt hi]
def Buf.slM {L:aB} {E:TypeId} {n:Nat} {cs:List Value} (h:Buf L E m v n cs) (hw: ∀b o,(b,o)∈L→w.heap[b]? =some o) (hl:l.length=n) (eD:cs=(l.map enc).flatten) (hm: ∀x,(enc x).length=m):SlV m enc z w v l:=by
 rcases h.inv with⟨rfl,rfl,rfl⟩ | ⟨b,c,rest,rfl,bQ,aP,hnc,h0,rZ⟩
 ·have:l= []:=by simpa using hl
  subst this;exact SlV.nil w
 subst hl
 refine SlV.sl (hw _ _ (cQ bQ)) ?_ hnc (by rw[List.size_toArray,List.length_append,aP];omega)
 intro k hk j hj
 rw[Nat.zero_add,List.getElem?_toArray,List.getElem?_append_left (by rw[aP];have: (k+1)*m≤l.length*m:=Nat.mul_le_mul_right _ hk;rw[Nat.add_mul,Nat.one_mul] at this;omega),eD]
 clear aP rZ bQ eD hnc h
 induction l generalizing k with
 |nil=>simp at hk
 |cons x r ih=>
  rw[List.map_cons,List.flatten_cons]
  cases k with
  |zero=>
   rw[Nat.zero_mul,Nat.zero_add,List.getElem?_append_left (by rw[hm];exact hj),List.getD_cons_zero]
  |succ k=>
   rw[List.getElem?_append_right (by rw[hm,Nat.add_mul,Nat.one_mul];omega),hm,List.getD_cons_succ]
   have:=ih (k:=k) (by simpa using hk)
   rw[←this]
   congr 1
   rw[Nat.add_mul,Nat.one_mul];omega
def Buf.slV {L:aB} {E:TypeId} {n:Nat} {cs:List Value} {w0:World} (h:Buf L E m v n cs) (hw:Hp w0 L w) (hl:l.length=n) (eD:cs=(l.map enc).flatten) (hm: ∀x,(enc x).length=m):SlV m enc z w v l:=h.slM hw.has hl eD hm
end
end Go.Sx
namespace Go.Sx
open Go
theorem New.mono {n m:Nat} (h:n≤m): ∀ {L:aB},New m L→New n L
 | [],_=>trivial
 | (_,_)::_,hL=>⟨Nat.le_trans h hL.1,New.mono h hL.2⟩
theorem New.app {n:Nat} {M:aB}: ∀ {L:aB},New n L→New n M→New n (L++M)
 | [],_,hM=>hM
 | (_,_)::_,hL,hM=>⟨hL.1,New.app hL.2 hM⟩
section
variable {P:Program} {w0:World} {f:Fr} {L:aB} {N:Fr→aB→Prop} {ops:Array Oper} {rest:List Oper} {md:Md}
 {d:Option Tmp} {ty:TypeId} {ps:String} {af:Array Edge} {g:Option (Nat×Bool)}
def Ow.callN {l:List Operand} {ts:Array TypeId} {k:FuncId} {S:Nat→Value→aB→Prop} {md':Md} (he:md.turn=some md')
  (hs:bT ops f ⟨d, .call ⟨.value (.func k),l.toArray,ts⟩,ty,ps,af,g⟩=false)
  (hk: ∀a w,(callFunc k a).run P w= .ok (.enter k a) w)
  (hc: ∀w,Hp w0 L w→Rets P k (l.map (ev f)).toArray w (fun v D=>S w.heap.size v D))
  (km: ∀B v D,S B v D→New B D)
  (hn: ∀B v D,fU L B→w0.heap.size≤B→S B v D→Ow P w0 ops md' rest (al f d v) (L++D) N):
  Ow P w0 ops md (⟨d, .call ⟨.value (.func k),l.toArray,ts⟩,ty,ps,af,g⟩::rest) f L N:=by
 refine Ow.callF he hs hk (S:=S) hc ?_
 intro B v D ha hB hS
 exact⟨_,Mrg.fresh (km B v D hS).le,hn B v D ha hB hS⟩
def Cw.forgetN {c:Code} {K:d9} (M:aB) (km:New w0.heap.size L) (hM: ∀p,p∈M→p∈L) (hn: (keys M).Nodup) (h:Cw P w0 c f M K):Cw P w0 c f L K:=
 Cw.forget M hM hn (fun p hp _=>km.le _ (List.mem_map.2 ⟨p,hp,rfl⟩)) h
end
end Go.Sx
section
namespace Go.Sx
open Go
section
variable {P:Program} {w0:World} {L:aB}
def Kx {w:World} {ts tx ty e:TypeId} {m:Bool×Nat} {z x:Value} {b k:Nat} {new:List Value} (hw:Hp w0 L w)
  (hu:P.underlying ts=some (.slice e)) (hm:aR P e=some m) (hi:se P e=true) (hz:an P e=some z) (mP:z.cells.size=m.2) {d:TypeDesc} (kD:P.underlying tx=some d) (cF: ∀k,d≠ .int k)
  (zi: ∀w,Hp w0 L w→AppX P w m.2 x k new) (dP:2* (0+k)+768≤2^38):
  (k=0∧(Builtin.append_ #[ts,tx] ty #[vsl b 0 0 0,x]).run P w= .ok (vsl b 0 0 0) w)∨
  (0<k∧ ∃v' w' L',(Builtin.append_ #[ts,tx] ty #[vsl b 0 0 0,x]).run P w= .ok v' w'∧Hp w0 L' w'∧Buf L' e m.2 v' (0+k) ([]++new)∧Grew w0 (.slice none 0 0) L L'∧ ∃c,slB v'=some c∧fU L c):=by
 obtain⟨i,hi,jy,dP⟩:=Kz hi dP
 have K2: ∀w,(typeInfo e).run P w= .ok i w:=by
  intro w
  simp only[typeInfo,program,Sem.run_bind]
  show Result.andThen (Result.ok P w) _=_
  simp only[Result.andThen_ok,hi]
  rfl
 have rQ: (match d with| .int _=>true|_=>false)=false:=by
  cases d<;>first|rfl|exact absurd rfl (cF _)
 have e1: ∀ {α β:Type} (a:α) (f:α→World→Result β),(Sem.run P (pure a) w).andThen f=f a w:=fun _ _=>rfl
 have hX:=zi w hw
 have gV:=hX.len
 have K8:=hX.cells
 have vW:=vZ (P:=P) hz
 have room: ∀ (b:Nat) (w:World),(askRoom b).run P w= .ok () w:=by
  intro b w
  unfold askRoom
  split<;>rfl
 have zc: ∀j,(Builtin.zeroCells z.cells j).toList.length=j*m.2:=by
  intro j;simp[Builtin.zeroCells,mP]
 have Jf: ∀c,c<0+k→ ¬ (Builtin.nextslicecap (0+k) c*i.bytes>2^48):=by
  intro c hc
  have:=ZT_ hc
  have h2:=Nat.mul_le_mul_right i.bytes this
  omega
 by_cases hk:k=0
 ·subst hk
  have km:new= []:=List.eq_nil_of_length_eq_zero (by have:=hX.size;omega)
  subst km
  refine .inl ⟨rfl, ?_⟩
  simp only[Builtin.append_,vsl,List.getElem?_toArray,List.getElem?_cons_zero,List.getElem?_cons_succ,Sem.run_bind,run_underlying hu w,Result.andThen_ok,iT hm w,run_underlying kD w,rQ,e1,Bool.false_eq_true, ↓reduceIte,gV,Bool.not_false,Nat.add_zero,bq,K8]
  rfl
 have yj: ¬0+k≤0:=by omega
 have r9:=Jf 0 oM
 simp only[Builtin.append_,List.getElem?_toArray,List.getElem?_cons_zero,List.getElem?_cons_succ,Sem.run_bind,run_underlying hu w,Result.andThen_ok,iT hm w,run_underlying kD w,rQ,e1,Bool.false_eq_true, ↓reduceIte,gV,Bool.not_false,yj,vsl,K2,jy,or_false,and_false,r9]
 have HB: (choose (Question.appendCap (0+k) 0 e)).run P w= .ok ((0+k)+w.tape w.drawn (.appendCap (0+k) 0 e)% (2^63 - (0+k))) w.drew:=rfl
 rw[HB]
 generalize nD: (0+k)+w.tape w.drawn (.appendCap (0+k) 0 e)% (2^63 - (0+k))=c
 have aI:=hw.drew
 have sJ:=zi _ aI
 have ku: (Builtin.firstCells m.2 0 (Value.slice (some ⟨b,0,none⟩) 0 0)).run P w.drew= .ok #[] w.drew:=by
  simp only[Builtin.firstCells,Nat.zero_mul];rfl
 simp only[Result.andThen_ok,room,ku,sJ.cells,vW]
 refine .inr ⟨by omega,_,_,L++ [(w.drew.heap.size, .cells ([]++new++ (Builtin.zeroCells z.cells (c - (0+k))).toList).toArray e (0,0))],rfl, ?_, .at_ (b:=w.drew.heap.size) (rest:=(Builtin.zeroCells z.cells (c - (0+k))).toList) ?_ ?_ ?_ oM oM, ?_,⟨_,rfl,io fun b hb=>aI.lt hb⟩⟩
 ·have ea: ([]++new++ (Builtin.zeroCells z.cells (c - (0+k))).toList).toArray= #[]++new.toArray++Builtin.zeroCells z.cells (c - (0+k)):=by apply Array.ext';simp
  rw[ea]
  exact aI.alloc _
 ·rw[gO (fun hm=>Nat.lt_irrefl _ (aI.lt hm))]
  simp[look]
 ·rw[List.nil_append,hX.size,Nat.zero_add]
 ·exact zc _
 refine⟨fun c hc=>by rw[ao];exact cz _ hc,fun c hc=> ?_,fun c o aX ho=>az ho⟩
 rw[ao] at hc
 rcases List.mem_append.1 hc with hc|hc
 ·exact .inl hc
 right
 simp only[keys,List.map_cons,List.map_nil,List.mem_singleton] at hc
 subst hc
 exact⟨io fun b hb=>aI.lt hb,aI.size⟩
end
section
variable {P:Program} {w0:World} {f:Fr} {L:aB} {N:Fr→aB→Prop} {ops:Array Oper} {rest:List Oper} {md:Md}
 {d:Option Tmp} {ty:TypeId} {ps:String} {af:Array Edge} {g:Option (Nat×Bool)}
def Ow.appendEm {ts tx e:TypeId} {m:Bool×Nat} {z:Value} {s x:Operand} {b k:Nat} {new:List Value} {dx:TypeDesc} {md':Md} (iL:ev f s=vsl b 0 0 0) (he:md.turn=some md')
  (hs:bT ops f ⟨d, .call ⟨.builtin .append, #[s,x], #[ts,tx]⟩,ty,ps,af,g⟩=false)
  (hu:P.underlying ts=some (.slice e)) (hm:aR P e=some m) (hi:se P e=true) (hz:an P e=some z) (mP:z.cells.size=m.2) (kD:P.underlying tx=some dx) (cF: ∀k,dx≠ .int k)
  (hX: ∀w,Hp w0 L w→AppX P w m.2 (ev f x) k new) (dP:2* (0+k)+768≤2^38)
  (hn0:k=0→Ow P w0 ops md' rest (al f d (vsl b 0 0 0)) L N)
  (hn: ∀v' L',0<k→Buf L' e m.2 v' (0+k) ([]++new)→Grew w0 (.slice none 0 0) L L'→(∃c,slB v'=some c∧fU L c)→Ow P w0 ops md' rest (al f d v') L' N):
  Ow P w0 ops md (⟨d, .call ⟨.builtin .append, #[s,x], #[ts,tx]⟩,ty,ps,af,g⟩::rest) f L N:=by
 refine Ow.step he rfl hs fun w hw=> ?_
 rcases Kx (ty:=ty) (b:=b) hw hu hm hi hz mP kD cF hX dP with⟨hk,hr⟩ | ⟨hk,v',w',L',hr,hp,hb,hg,bh⟩
 ·refine .inl ⟨_,w,L, ?_,hw,hn0 hk⟩
  simp only[execOp,resolve,Sem.run_bind,Sem.run_pure,Result.andThen_ok,invoke,builtin,List.map_toArray,List.map_cons,List.map_nil,iL]
  rw[hr]
  rfl
 refine .inl ⟨v',w',L', ?_,hp,hn v' L' hk hb hg bh⟩
 simp only[execOp,resolve,Sem.run_bind,Sem.run_pure,Result.andThen_ok,invoke,builtin,List.map_toArray,List.map_cons,List.map_nil,iL]
 rw[hr]
 rfl
end
end Go.Sx
end
namespace Go.Sx
open Go
def Gr (L:aB) (E:TypeId) (m:Nat) (v:Value) (n:Nat) (cs:List Value):Prop:=
 Buf L E m v n cs∨(n=0∧cs= []∧ ∃b,v=vsl b 0 0 0∧look L b=some (.cells #[] E (0,0)))
theorem Gr.nl {L:aB} {E:TypeId} {m:Nat}:Gr L E m (.slice none 0 0) 0 []:= .inl .nl
def Grew.any {w0:World} {v v':Value} {L L':aB} (h:Grew w0 v L L') (hv:slB v=none):Grew w0 v' L L':=
 ⟨h.keys,h.new,fun c o _ hl=>h.look c o (by rw[hv];simp) hl⟩
theorem Gr.keep {L L':aB} {E:TypeId} {m n:Nat} {v:Value} {cs:List Value} (h:Gr L E m v n cs) (hk: ∀b o,slB v=some b→look L b=some o→look L' b=some o):Gr L' E m v n cs:=by
 rcases h with h| ⟨h1,h2,b,rfl,h3⟩
 ·exact .inl (h.keep hk)
 exact .inr ⟨h1,h2,b,rfl,hk b _ rfl h3⟩
def Gr.app {L M:aB} {E:TypeId} {m n:Nat} {v:Value} {cs:List Value} (h:Gr L E m v n cs):Gr (L++M) E m v n cs:=h.keep fun _ _ _ hl=>az hl
theorem Gr.len {L:aB} {E:TypeId} {m n:Nat} {v:Value} {cs:List Value} (h:Gr L E m v n cs) (x:Bool×Nat):gY (.sl x) v=some (vi n):=by
 rcases h with h| ⟨rfl,rfl,b,rfl,-⟩
 ·exact h.len x
 rfl
theorem Gr.cell {L:aB} {E:TypeId} {m n:Nat} {v:Value} {cs:List Value} (h:Gr L E m v n cs):Value.oneCell' v=true∧v.cells= #[v]:=by
 rcases h with h| ⟨rfl,rfl,b,rfl,-⟩
 ·exact h.cell
 exact⟨rfl,rfl⟩
def Gr.key {L:aB} {E:TypeId} {m n:Nat} {v:Value} {cs:List Value} (h:Gr L E m v n cs) {b:Nat} (hb:slB v=some b):b∈keys L:=by
 rcases h with h| ⟨rfl,rfl,c,rfl,hl⟩
 ·rcases h.inv with⟨rfl,-,-⟩ | ⟨c,cc,rest,rfl,hl,-⟩
  ·cases hb
  cases hb;exact bY hl
 cases hb;exact bY hl
section
variable {α:Type} {m:Nat} {enc:α→List Value} {z:α} {w:World} {v:Value} {l:List α}
theorem Gr.slM {L:aB} {E:TypeId} {n:Nat} {cs:List Value} (h:Gr L E m v n cs) (hw: ∀b o,(b,o)∈L→w.heap[b]? =some o) (hl:l.length=n) (eD:cs=(l.map enc).flatten) (hm: ∀x,(enc x).length=m):SlV m enc z w v l:=by
 rcases h with h| ⟨rfl,rfl,b,rfl,bQ⟩
 ·exact h.slM hw hl eD hm
 obtain rfl:l= []:=List.eq_nil_of_length_eq_zero hl
 exact SlV.sl (l:=([]:List α)) (off:=0) (c:=0) (hw _ _ (cQ bQ)) (fun k hk=>by simp at hk) (bq 0) (by simp)
def Gr.slV {L:aB} {E:TypeId} {n:Nat} {cs:List Value} {w0:World} (h:Gr L E m v n cs) (hw:Hp w0 L w) (hl:l.length=n) (eD:cs=(l.map enc).flatten) (hm: ∀x,(enc x).length=m):SlV m enc z w v l:=h.slM hw.has hl eD hm
theorem KK_ (hm: ∀x,(enc x).length=m) (arr:Array Value): ∀ (ls:List α) (off:Nat),off+ls.length*m≤arr.size→(∀k j,k<ls.length→j<m→arr[off+k*m+j]? =(enc (ls.getD k z))[j]?)→
  (arr.extract off (off+ls.length*m)).toList=(ls.map enc).flatten
 | [],off,_,_=>by simp
 |r::ls,off,hs,h=>by
  have eE: (r::ls).length*m=m+ls.length*m:=by rw[List.length_cons,Nat.add_mul,Nat.one_mul,Nat.add_comm]
  rw[eE] at hs ⊢
  have ih:=KK_ hm arr ls (off+m) oM (fun k j hk hj=>by
   have:=h (k+1) j (by simpa using hk) hj
   rw[List.getD_cons_succ] at this
   rw[←this];congr 1;rw[Nat.add_mul,Nat.one_mul];omega)
  have h0: (arr.extract off (off+m)).toList=enc r:=by
   apply List.ext_getElem?
   intro j
   rw[Array.getElem?_toList,Array.getElem?_extract]
   by_cases hj:j<m
   ·rw[if_pos oM]
    have:=h 0 j (by simp) hj
    simpa using this
   rw[if_neg oM,List.getElem?_eq_none (by rw[hm];omega)]
  rw[List.map_cons,List.flatten_cons,←ih,←h0,←Array.toList_append]
  congr 1
  rw[Array.extract_append_extract]
  congr 1<;>omega
def EQ (hm: ∀x,(enc x).length=m) (l:List α): (l.map enc).flatten.length=l.length*m:=by
 induction l with
 |nil=>simp
 |cons x r ih=>rw[List.map_cons,List.flatten_cons,List.length_append,ih,hm,List.length_cons,Nat.add_mul,Nat.one_mul,Nat.add_comm]
def AppX.one1 {P:Program} {b:Nat} {E:TypeId} {fz:Nat×Nat} {cs:List Value} (hb:w.heap[b]? =some (.cells cs.toArray E fz)) (hm:cs.length=m) (h1:cs.all Value.oneCell'=true):AppX P w m (vsl b 0 1 1) 1 cs:=by
 refine AppX.block (w0:=w) (L:= []) (by rw[JC];exact hb) (by simp;omega) ?_ h1 (Hp.refl w)
 rw[List.extract_toArray,List.extract_eq_take_drop,List.drop_zero,List.take_of_length_le oM]
def SlV.appX {P:Program} (h:SlV m enc z w v l) (hm: ∀x,(enc x).length=m) (h1: ∀x,(enc x).all Value.oneCell'=true):AppX P w m v l.length (l.map enc).flatten:=by
 obtain⟨b,off,c,arr,E,fz,hr,hc,hv⟩:=h
 rcases hv with⟨rfl,rfl,rfl⟩ | ⟨rfl,fX,g_⟩
 ·exact AppX.nil P w m
 refine AppX.block (w0:=w) (L:= []) (by rw[JC];exact fX) g_ (KK_ (z:=z) hm arr l off g_ (fun k j hk hj=>hr.get k hk j hj)) ?_ (Hp.refl w)
 rw[List.all_flatten,List.all_map,List.all_eq_true]
 exact fun r _=>h1 r
end
section
variable {P:Program} {w0:World} {f:Fr} {L:aB} {N:Fr→aB→Prop} {ops:Array Oper} {rest:List Oper} {md:Md}
 {d:Option Tmp} {ty:TypeId} {ps:String} {af:Array Edge} {g:Option (Nat×Bool)}
def Ow.appendG {ts tx e:TypeId} {m:Bool×Nat} {z:Value} {s x:Operand} {n k:Nat} {cs new:List Value} {dx:TypeDesc} {md':Md} (sv:Value) (iL:ev f s=sv) (he:md.turn=some md')
  (hs:bT ops f ⟨d, .call ⟨.builtin .append, #[s,x], #[ts,tx]⟩,ty,ps,af,g⟩=false)
  (hu:P.underlying ts=some (.slice e)) (hm:aR P e=some m) (hi:se P e=true) (hz:an P e=some z) (mP:z.cells.size=m.2) (kD:P.underlying tx=some dx) (cF: ∀k,dx≠ .int k)
  (hB:Gr L e m.2 sv n cs) (hX: ∀w,Hp w0 L w→AppX P w m.2 (ev f x) k new) (aP:new.length=k*m.2) (dP:2* (n+k)+768≤2^38)
  (hn: ∀v' L',Gr L' e m.2 v' (n+k) (cs++new)→(0<k→Buf L' e m.2 v' (n+k) (cs++new))→Grew w0 sv L L'→(slB v'=slB sv∨ ∃c,slB v'=some c∧fU L c)→Ow P w0 ops md' rest (al f d v') L' N):
  Ow P w0 ops md (⟨d, .call ⟨.builtin .append, #[s,x], #[ts,tx]⟩,ty,ps,af,g⟩::rest) f L N:=by
 rcases hB with hB| ⟨rfl,rfl,b,rfl,bQ⟩
 ·exact Ow.append sv iL he hs hu hm hi hz mP kD cF hB hX dP fun v' L' h1 h2 h3=>hn v' L' (.inl h1) (fun _=>h1) h2 h3
 refine Ow.appendEm iL he hs hu hm hi hz mP kD cF hX dP (fun h0=> ?_) (fun v' L' hk h1 h2 h3=> ?_)
 ·subst h0
  obtain rfl:new= []:=List.eq_nil_of_length_eq_zero (by rw[aP,Nat.zero_mul])
  exact hn _ L (.inr ⟨rfl,rfl,b,rfl,bQ⟩) (fun h=>absurd h (Nat.lt_irrefl 0)) (Grew.refl _ _ _) (.inl rfl)
 exact hn v' L' (.inl h1) (fun _=>h1) (h2.any rfl) (.inr h3)
end
end Go.Sx
namespace Go.Sx
open Go
def RX {w0:World} {L M:aB} {r:Nat} (h:r∈keys L):aU w0 (L++M) r=aU w0 L r:=by
 obtain⟨o,ho⟩:=J1 h
 rw[aQ ho,aQ (az ho)]
def vn {w0:World} {L M:aB} {R:List Nat} (h: ∀r,r∈R→r∈keys L): ∀r,r∈R→aU w0 (L++M) r=aU w0 L r:=fun r hr=>RX (h r hr)
theorem New.of_le {n:Nat}: ∀ {D:aB},(∀c,c∈keys D→n≤c)→New n D
 | [],_=>trivial
 | (b,o)::r,h=>⟨h b (by simp[keys]),New.of_le fun c hc=>h c (by simp only[keys,List.map_cons,List.mem_cons] at hc ⊢;exact .inr hc)⟩
def Ij {w0:World} {L M:aB} {r:Nat} (h:r∉keys M):aU w0 (M++L) r=aU w0 L r:=by
 unfold aU;rw[gO h]
def Ext.new0 {w:World} {D:aB} (h:Ext w [] D):New w.heap.size D:=by
 have hn:=h.new
 have key: ∀ (D:aB),(∀c,c∈Sx.keys D→w.heap.size≤c)→New w.heap.size D:=by
  intro D
  induction D with
  |nil=>intro _;trivial
  |cons p r ih=>
   obtain⟨b,o⟩:=p
   intro hh
   exact⟨hh b (by simp[Sx.keys]),ih fun c hc=>hh c (by simp only[Sx.keys,List.map_cons,List.mem_cons] at hc ⊢;exact .inr hc)⟩
 refine key D fun c hc=> ?_
 rcases hn c hc with h1|h1
 ·cases h1
 exact h1
def Ext.of_new {w:World} {D:aB} (h:New w.heap.size D):Ext w [] D:=⟨fun c hc=> .inr (h.le c hc),fun c hc=>by cases hc⟩
section
variable {P:Program} {w0:World} {f:Fr} {L:aB} {N:Fr→aB→Prop} {K:d9} {ops:Array Oper} {rest:List Oper} {md:Md}
 {d:Option Tmp} {ty:TypeId} {ps:String} {af:Array Edge} {g:Option (Nat×Bool)}
theorem zI {b:Nat} {o:Obj}: ∀ {B:aB},(keys B).Nodup→(b,o)∈B→look B b=some o
 | [],_,h=>by cases h
 | (c,x)::q,hn,h=>by
  simp only[keys,List.map_cons,List.nodup_cons] at hn
  unfold look
  rcases List.mem_cons.1 h with h|h
  ·cases h;rw[if_pos rfl]
  have:c≠b:=fun e=>hn.1 (e▸List.mem_map.2 ⟨_,h,rfl⟩)
  rw[if_neg this]
  exact zI hn.2 h
def SR.perm {R:List Nat} {M:aB} (h:M.Perm L) (hn: (keys L).Nodup):SR w0 R M=SR w0 R L:=by
 refine zV fun r _=> ?_
 have hk: ∀ (A B:aB),A.Perm B→(keys B).Nodup→ ∀o,look A r=some o→look B r=some o:=fun A B hp hB o ho=>zI hB (hp.mem_iff.1 (cQ ho))
 have hnM: (keys M).Nodup:=(List.Perm.nodup_iff (h.map Prod.fst)).2 hn
 unfold aU
 cases hl:look L r with
 |some o=>rw[hk L M h.symm hnM o hl]
 |none=>
  cases hm:look M r with
  |none=>rfl
  |some o=>rw[hk M L h hn o hm] at hl;cases hl
def OwD.permL {l:List Oper} {listed:List Bool} {n:Nat} {R ts:List Nat} {a d:Nat} {z:Obj} {M:aB} (hp:M.Perm L) (h:OwD P w0 l R ts a d z n listed f M N):OwD P w0 l R ts a d z n listed f L N:=by
 refine⟨fun w hw=> ?_,fun b w hb nC hw=> ?_⟩
 ·have:=h.1 w (hw.perm hp)
  rw[SR.perm hp hw.nodup] at this
  exact this
 have bA: (keys L).Nodup:=by
  have:=hw.nodup
  rw[ao,List.nodup_append] at this
  exact this.1
 have:=h.2 b w hb (fun hm=>nC (by have:=(hp.map Prod.fst).mem_iff.1 hm;exact this)) (hw.perm (hp.append_right _))
 rw[SR.perm hp bA] at this
 exact this
def Cw.permL {c:Code} {M:aB} (hp:M.Perm L) (h:Cw P w0 c f M K):Cw P w0 c f L K:=fun w hw=>h w (hw.perm hp)
def Ow.permL {M:aB} {l:List Oper} (hp:M.Perm L) (h:Ow P w0 ops .seq l f M N):Ow P w0 ops .seq l f L N:=fun w hw=>h w (hw.perm hp)
def Ow.callC {l:List Operand} {ts:Array TypeId} {k:FuncId} {S:Value→aB→Prop} {md':Md} (he:md.turn=some md')
  (hs:bT ops f ⟨d, .call ⟨.value (.func k),l.toArray,ts⟩,ty,ps,af,g⟩=false)
  (hk: ∀a w,(callFunc k a).run P w= .ok (.enter k a) w)
  (hc: ∀w,Hp w0 L w→Rets P k (l.map (ev f)).toArray w (XS w [] S))
  (hn: ∀B v D,fU L B→w0.heap.size≤B→New B D→S v D→Ow P w0 ops md' rest (al f d v) (L++D) N):
  Ow P w0 ops md (⟨d, .call ⟨.value (.func k),l.toArray,ts⟩,ty,ps,af,g⟩::rest) f L N:=
 Ow.callN he hs hk (S:=fun B v D=>New B D∧S v D) (fun w hw=>(hc w hw).mono fun _v _D h=>⟨h.1.new0,h.2⟩) (fun _ _ _ h=>h.1) (fun B v D hA hB hS=>hn B v D hA hB hS.1 hS.2)
def Hp.part {w:World} {X Y:aB} (h:Hp w0 (X++Y) w):Hp w X w:=
 ⟨fun b o hm=>h.has b o (cz _ hm),by have:=h.nodup;rw[ao,List.nodup_append] at this;exact this.1,fun _ _ _=>rfl,bq _,rfl,rfl,rfl⟩
def Hp.join {w w':World} {X Y D:aB} (h:Hp w0 (X++Y) w) (k:Hp w D w') (h1: ∀c,c∈keys X→c∈keys D) (h2: ∀c,c∈keys D→c∈keys X∨w.heap.size≤c):Hp w0 (D++Y) w':=by
 have bA:=h.nodup
 rw[ao,List.nodup_append] at bA
 have hY: ∀c,c∈keys Y→c∉keys D:=by
  intro c hc hd
  rcases h2 c hd with hx|hx
  ·exact bA.2.2 c hx c hc rfl
  have:=h.lt (b:=c) (by rw[ao];exact dJ _ hc)
  omega
 have ht:=h.trans k
 have e: (X++Y).filter (fun p=> !(keys D).contains p.1)=Y:=by
  rw[List.filter_append,A7 hY]
  have:X.filter (fun p=> !(keys D).contains p.1)= []:=by
   rw[List.filter_eq_nil_iff]
   intro p hp
   have:=h1 p.1 (List.mem_map.2 ⟨p,hp,rfl⟩)
   simp[this]
  rw[this,List.nil_append]
 rw[e] at ht
 exact ht.perm List.perm_append_comm
def Ow.appendX {ts tx e:TypeId} {m:Bool×Nat} {z:Value} {s x:Operand} {n k:Nat} {cs new:List Value} {dx:TypeDesc} {md':Md} {X Y:aB} (sv:Value) (hL:L=X++Y) (iL:ev f s=sv) (he:md.turn=some md')
  (hs:bT ops f ⟨d, .call ⟨.builtin .append, #[s,x], #[ts,tx]⟩,ty,ps,af,g⟩=false)
  (hu:P.underlying ts=some (.slice e)) (hm:aR P e=some m) (hi:se P e=true) (hz:an P e=some z) (mP:z.cells.size=m.2) (kD:P.underlying tx=some dx) (cF: ∀k,dx≠ .int k)
  (hB:Gr X e m.2 sv n cs) (hX: ∀w,Hp w0 L w→AppX P w m.2 (ev f x) k new) (hk:0<k) (dP:2* (n+k)+768≤2^38)
  (hn: ∀B v' D,fU L B→w0.heap.size≤B→Buf D e m.2 v' (n+k) (cs++new)→(∀c,c∈keys X→c∈keys D)→(∀c,c∈keys D→c∈keys X∨B≤c)→(∀c o,slB sv≠some c→look X c=some o→look D c=some o)→Ow P w0 ops md' rest (al f d v') (D++Y) N):
  Ow P w0 ops md (⟨d, .call ⟨.builtin .append, #[s,x], #[ts,tx]⟩,ty,ps,af,g⟩::rest) f L N:=by
 subst hL
 refine Ow.step he rfl hs fun w hw=> ?_
 have hp:=hw.part
 have hA:fU (X++Y) w.heap.size:=io fun b hb=>hw.lt hb
 have fin: ∀v' w' D,(Builtin.append_ #[ts,tx] ty #[sv,ev f x]).run P w= .ok v' w'→Hp w D w'→Buf D e m.2 v' (n+k) (cs++new)→(∀c,c∈keys X→c∈keys D)→(∀c,c∈keys D→c∈keys X∨w.heap.size≤c)→(∀c o,slB sv≠some c→look X c=some o→look D c=some o)→
   (∃v w' L',(execOp (ev f) ⟨d, .call ⟨.builtin .append, #[s,x], #[ts,tx]⟩,ty,ps,af,g⟩).run P w= .ok (.value v) w'∧Hp w0 L' w'∧Ow P w0 ops md' rest (al f d v) L' N):=by
  intro v' w' D hr hD hb h1 h2 h3
  refine⟨v',w',D++Y, ?_,hw.join hD h1 h2,hn w.heap.size v' D hA hw.size hb h1 h2 h3⟩
  simp only[execOp,resolve,Sem.run_bind,Sem.run_pure,Result.andThen_ok,invoke,builtin,List.map_toArray,List.map_cons,List.map_nil,iL]
  rw[hr]
  rfl
 have aZ: ∀w',Hp w [] w'→True:=fun _ _=>trivial
 rcases hB with hB| ⟨rfl,rfl,b,rfl,bQ⟩
 ·obtain⟨v',w',D,hr,hD,hb,hg,-⟩:=Kk (w0:=w) (L:=X) (ty:=ty) (x:=ev f x) hp hu hm hi hz mP kD cF hB (fun w2 bV=>hX w2 (by
   refine hw.join bV (fun c hc=>hc) (fun c hc=> .inl hc))) dP
  exact .inl (fin v' w' D hr hD hb hg.keys (fun c hc=>(hg.new c hc).imp id And.right) hg.look)
 rcases Kx (w0:=w) (L:=X) (ty:=ty) (b:=b) (x:=ev f x) hp hu hm hi hz mP kD cF (fun w2 bV=>hX w2 (by
  refine hw.join bV (fun c hc=>hc) (fun c hc=> .inl hc))) dP with⟨h0,-⟩ | ⟨-,v',w',D,hr,hD,hb,hg,-⟩
 ·omega
 exact .inl (fin v' w' D hr hD hb hg.keys (fun c hc=>(hg.new c hc).imp id And.right) (fun c o _ hl=>hg.look c o (by simp[slB]) hl))
end
def GrI (D:aB) (E:TypeId) (m:Nat) (v:Value) (n:Nat) (cs:List Value):Prop:= ∃X,(∀p,p∈X→p∈D)∧Gr X E m v n cs
def Gr.i {X D:aB} {E:TypeId} {m n:Nat} {v:Value} {cs:List Value} (h:Gr X E m v n cs) (hX: ∀p,p∈X→p∈D):GrI D E m v n cs:=⟨X,hX,h⟩
def GrI.mono {D D':aB} {E:TypeId} {m n:Nat} {v:Value} {cs:List Value} (h:GrI D E m v n cs) (hX: ∀p,p∈D→p∈D'):GrI D' E m v n cs:=by
 obtain⟨X,h1,h2⟩:=h;exact⟨X,fun p hp=>hX p (h1 p hp),h2⟩
def GrI.slV {α:Type} {m:Nat} {enc:α→List Value} {z:α} {w0 w:World} {v:Value} {l:List α} {D:aB} {E:TypeId} {n:Nat} {cs:List Value} (h:GrI D E m v n cs) (hw:Hp w0 D w) (hl:l.length=n) (eD:cs=(l.map enc).flatten) (hm: ∀x,(enc x).length=m):SlV m enc z w v l:=by
 obtain⟨X,h1,h2⟩:=h
 exact h2.slM (fun b o hm=>hw.has b o (h1 _ hm)) hl eD hm
section
variable {P:Program} {w0:World} {f:Fr} {L:aB} {N:Fr→aB→Prop}
def We_ {L _M:aB} {b:Nat} {o:Obj} (h:b∉keys L):look (L++ [(b,o)]) b=some o:=by
 rw[gO h];exact kH _ _ _
theorem Bw {b:Nat} {o x:Obj}: ∀ {L:aB},b∉keys L→setB (L++ [(b,o)]) b x=L++ [(b,x)]
 | [],_=>by rw[List.nil_append,uh];rfl
 | (c,y)::r,h=>by
  simp only[keys,List.map_cons,List.mem_cons,not_or] at h
  rw[List.cons_append,yy _ _ _ _ _ (Ne.symm h.1),Bw (by simpa [keys] using h.2)];rfl
end
end Go.Sx
namespace Go.Sx
open Go
def gX {P:Program} {t e:TypeId} {m:Nat} {zc:Array Value} {cs:List Value} (hu:P.underlying t=some (.slice e)) (ha:aR P e=some (true,m)) (hz:an P e=some (.agg zc)) (hm:0<m∧m≤16777216) (hc:cs.length=m):
  w8 P t 1 [(0, .agg cs.toArray)]=some (e,cs.toArray):=by
 have h2:Value.cells (.agg cs.toArray)=cs.toArray:=aS _
 have hg: ¬ (1*m>2^24):=by simp;omega
 have h0: ¬ (1*m=0):=by omega
 simp only[w8,hu,ha,hz,Option.map_some]
 rw[if_neg hg,if_neg h0]
 simp only
 generalize hI: (Array.range (1*m)).map (fun x=>(Value.cells (.agg zc))[x% (Value.cells (.agg zc)).size]!)=I
 have hIs:I.size=m:=by rw[←hI];simp
 have eV:Instr.fill (fun i=>some (i*m,m)) I [(0,Value.agg cs.toArray)]=some cs.toArray:=by
  unfold Instr.fill
  have s3:cs.toArray.size=m:=by simp[hc]
  simp only[h2,s3,hIs,Nat.zero_mul,ne_eq,not_true_eq_false,decide_false,Bool.false_or,Nat.zero_add,Nat.lt_irrefl,gt_iff_lt,Bool.false_eq_true, ↓reduceIte]
  unfold Instr.fill
  congr 1
  have hz:=Kp cs 0 0 I
  rw[Nat.add_zero,E3 I cs (by rw[hc,hIs])] at hz
  simp only[Nat.zero_add] at hz
  rw[←Array.foldl_toList,Array.toList_zipIdx]
  exact hz
 rw[eV]
 rfl
end Go.Sx
namespace Go.Sx
open Go
abbrev ltB (a b:List UInt8):Bool:=Op.bytesLess a b
theorem oS: ∀ (x y:List UInt8),ltB x y=decide (x<y)
 | [],[]=>by simp[ltB,Op.bytesLess]
 |_::_,[]=>by simp[ltB,Op.bytesLess]
 | [],_::_=>by simp[ltB,Op.bytesLess]
 |a::x,b::y=>by
  have ih:=oS x y
  simp only[ltB] at ih ⊢
  rw[Op.bytesLess,ih]
  simp only[List.cons_lt_cons_iff]
  by_cases h1:a<b<;>by_cases h2:a=b<;>by_cases h3:x<y<;>simp[h1,h2,h3]
def Kv (a:List UInt8):ltB a a=false:=by
 rw[oS];simp
def LA {a b c:List UInt8} (h:ltB a b=true) (k:ltB b c=true):ltB a c=true:=by
 rw[oS,decide_eq_true_eq] at*
 exact List.lt_trans h k
def DE {a b:List UInt8} (h:ltB a b=true):ltB b a=false:=by
 cases hb:ltB b a
 ·rfl
 have:=LA h hb
 rw[Kv] at this;cases this
def JI {a b:List UInt8} (h:ltB a b=false) (aX:a≠b):ltB b a=true:=by
 rw[oS,decide_eq_false_iff_not] at h
 rw[oS,decide_eq_true_eq]
 rcases Std.Trichotomous.rel_or_eq_or_rel_swap (r:=(· < · :List UInt8→List UInt8→Prop)) (a:=a) (b:=b) with h1|h1|h1
 ·exact absurd h1 h
 ·exact absurd h1 aX
 exact h1
end Go.Sx
namespace Go.StP
open Go Go.Sx
variable {α:Type} (key:α→List UInt8)
def lt (a b:α):Bool:=ltB (key a) (key b)
def Sorted (l:List α):Prop:=l.Pairwise fun a b=>lt key b a=false
def of (k:List UInt8) (l:List α):List α:=l.filter fun a=>key a==k
def St (l l':List α):Prop:= ∀k,of key k l'=of key k l
def St.refl (l:List α):St key l l:=fun _=>rfl
variable {key}
theorem St.trans {a b c:List α} (h:St key a b) (h':St key b c):St key a c:=fun k=>(h' k).trans (h k)
theorem St.symm {a b:List α} (h:St key a b):St key b a:=fun k=>(h k).symm
def tT (k:List UInt8) (a b:List α):of key k (a++b)=of key k a++of key k b:=List.filter_append ..
def St.app {a a' b b':List α} (h:St key a a') (h':St key b b'):St key (a++b) (a'++b'):=fun k=>by rw[tT,tT,h,h']
def GB {k:List UInt8} {l:List α} {x:α}:x∈of key k l↔x∈l∧key x=k:=by
 unfold of;rw[List.mem_filter];simp
def St.mem {a b:List α} (h:St key a b) (x:α):x∈b↔x∈a:=by
 have e:=h (key x)
 have h1:x∈b↔x∈of key (key x) b:=by rw[GB];simp
 have h2:x∈a↔x∈of key (key x) a:=by rw[GB];simp
 rw[h1,h2,e]
def FT {k:List UInt8} {l:List α} (h: ∀x,x∈l→key x≠k):of key k l= []:=by
 unfold of
 rw[List.filter_eq_nil_iff]
 intro x hx
 simpa using h x hx
def St.swap {a b:List α} (h: ∀x,x∈a→ ∀y,y∈b→key x≠key y):St key (a++b) (b++a):=by
 intro k
 rw[tT,tT]
 by_cases ha: ∃x,x∈a∧key x=k
 ·obtain⟨x,hx,rfl⟩:=ha
  have:of key (key x) b= []:=FT fun y hy e=>h x hx y hy e.symm
  rw[this,List.append_nil,List.nil_append]
 have:of key k a= []:=FT fun x hx e=>ha ⟨x,hx,e⟩
 rw[this,List.append_nil,List.nil_append]
def lt_trans {a b c:α} (h:lt key a b=true) (k:lt key b c=true):lt key a c=true:=LA h k
def lt_irrefl (a:α):lt key a a=false:=Kv _
def Zu {a b:α} (h:lt key a b=false) (k:lt key b a=false):key a=key b:=by
 cases hk:decide (key a=key b)
 ·have aX:key a≠key b:=of_decide_eq_false hk
  have:=JI h aX
  unfold lt at k
  rw[this] at k;cases k
 exact of_decide_eq_true hk
def St.head {a b:α} {l l':List α} (hs:Sorted key (a::l)) (vR:Sorted key (b::l')) (h:St key (a::l) (b::l')):a=b∧St key l l':=by
 have h1:lt key b a=false:=by
  have hb:b∈a::l:=(h.mem b).1 am
  rcases List.mem_cons.1 hb with rfl|hb
  ·exact lt_irrefl _
  exact(List.pairwise_cons.1 hs).1 b hb
 have h2:lt key a b=false:=by
  have ha:a∈b::l':=(h.mem a).2 am
  rcases List.mem_cons.1 ha with rfl|ha
  ·exact lt_irrefl _
  exact(List.pairwise_cons.1 vR).1 a ha
 have hk:key a=key b:=Zu h2 h1
 have he:=h (key a)
 unfold of at he
 rw[List.filter_cons,List.filter_cons,if_pos (by simp[hk]),if_pos (by simp)] at he
 have gR:b=a:=(List.cons.inj he).1
 refine⟨gR.symm,fun k=> ?_⟩
 have dQ:=h k
 subst gR
 unfold of at dQ ⊢
 rw[List.filter_cons,List.filter_cons] at dQ
 split at dQ
 ·exact(List.cons.inj dQ).2
 exact dQ
theorem St.eq: ∀ {l l':List α},Sorted key l→Sorted key l'→St key l l'→l=l'
 | [],[],_,_,_=>rfl
 | [],b::l',_,_,h=>by
  have:b∈ ([]:List α):=(h.mem b).1 am
  cases this
 |a::l,[],_,_,h=>by
  have:a∈ ([]:List α):=(h.mem a).2 am
  cases this
 |a::l,b::l',hs,vR,h=>by
  obtain⟨rfl,h'⟩:=St.head hs vR h
  rw[St.eq (List.pairwise_cons.1 hs).2 (List.pairwise_cons.1 vR).2 h']
def Sorted.app {a b:List α} (ha:Sorted key a) (hb:Sorted key b) (h: ∀x,x∈a→ ∀y,y∈b→lt key y x=false):Sorted key (a++b):=
 List.pairwise_append.2 ⟨ha,hb,h⟩
def Sorted.left {a b:List α} (h:Sorted key (a++b)):Sorted key a:=(List.pairwise_append.1 h).1
def Sorted.right {a b:List α} (h:Sorted key (a++b)):Sorted key b:=(List.pairwise_append.1 h).2.1
end Go.StP
namespace Go.Sx
open Go
section
variable {α:Type} (enc:α→List Value)
def cO (E:TypeId) (rest:List Value) (d:List α):Obj:= .cells ((d.map enc).flatten++rest).toArray E (0,0)
variable {enc} {m:Nat} {E:TypeId} {rest:List Value} {d:List α} {z:α}
def AR (hm: ∀x,(enc x).length=m) {k:Nat} (hk:k<d.length): ∃A C,(d.map enc).flatten++rest=A++ (enc (d.getD k z)++C)∧A.length=k*m∧ ∀x,((d.set k x).map enc).flatten++rest=A++ (enc x++C):=by
 refine⟨((d.take k).map enc).flatten,((d.drop (k+1)).map enc).flatten++rest, ?_, ?_,fun x=> ?_⟩
 ·have e:d=d.take k++d.getD k z::d.drop (k+1):=by
   rw[List.getD_eq_getElem?_getD,List.getElem?_eq_getElem hk,Option.getD_some,List.getElem_cons_drop,List.take_append_drop]
  have e2:=congrArg (fun l=>(l.map enc).flatten++rest) e
  simp only[List.map_append,List.map_cons,List.flatten_append,List.flatten_cons,List.append_assoc] at e2
  exact e2
 ·rw[EQ hm,List.length_take,Nat.min_eq_left (Nat.le_of_lt hk)]
 have e:d.set k x=d.take k++x::d.drop (k+1):=List.set_eq_take_append_cons_drop.trans (by rw[if_pos hk])
 rw[e]
 simp only[List.map_append,List.map_cons,List.flatten_append,List.flatten_cons,List.append_assoc]
def Ai (hm: ∀x,(enc x).length=m) (k:Nat) (hk:k<d.length):aG (some (true,m)) (some (cO enc E rest d)) (k*m)=some (.agg (enc (d.getD k z)).toArray):=by
 obtain⟨A,C,e,hA,-⟩:=AR (z:=z) (rest:=rest) hm hk
 unfold cO
 rw[e]
 exact Am A _ C E (0,0) hA (hm _)
end
section
variable {P:Program} {w0:World} {f:Fr} {L:aB} {N:Fr→aB→Prop} {ops:Array Oper} {rest:List Oper} {md:Md} {d:Option Tmp} {ty:TypeId} {ps:String} {af:Array Edge} {g:Option (Nat×Bool)}
end
end Go.Sx
namespace Go.StP
open Go Go.Sx
variable {α:Type} {key:α→List UInt8} {z:α}
def C7 {a b:List α} {k:Nat} (h:k<a.length): (a++b).getD k z=a.getD k z:=by
 rw[List.getD_eq_getElem?_getD,List.getD_eq_getElem?_getD,List.getElem?_append_left h]
def BH {a b:List α} {k:Nat} (h:a.length≤k): (a++b).getD k z=b.getD (k - a.length) z:=by
 rw[List.getD_eq_getElem?_getD,List.getD_eq_getElem?_getD,List.getElem?_append_right h]
def n_ {l:List α} {k:Nat} (h:k<l.length):l.getD k z∈l:=by
 rw[List.getD_eq_getElem?_getD,List.getElem?_eq_getElem h];exact List.getElem_mem h
def TO {l:List α} {k n:Nat} (h:k<n): (l.take n).getD k z=l.getD k z:=by
 rw[List.getD_eq_getElem?_getD,List.getD_eq_getElem?_getD,List.getElem?_take,if_pos h]
def LE {l:List α} {k:Nat} (h:k<l.length):l.drop k=l.getD k z::l.drop (k+1):=by
 rw[List.getD_eq_getElem?_getD,List.getElem?_eq_getElem h]
 exact List.drop_eq_getElem_cons h
def take_snoc {l:List α} {k:Nat} (h:k<l.length):l.take (k+1)=l.take k++ [l.getD k z]:=by
 rw[List.getD_eq_getElem?_getD,List.getElem?_eq_getElem h]
 exact List.take_succ_eq_append_getElem h
def Sorted.at_ {l:List α} (h:Sorted key l) {i j:Nat} (mI:i≤j) (hj:j<l.length):lt key (l.getD j z) (l.getD i z)=false:=by
 rcases Nat.lt_or_eq_of_le mI with h1|rfl
 ·have:=List.pairwise_iff_getElem.1 h i j oM hj h1
  rw[List.getD_eq_getElem?_getD,List.getD_eq_getElem?_getD,List.getElem?_eq_getElem hj,List.getElem?_eq_getElem (show i<l.length by omega)]
  exact this
 exact lt_irrefl _
end Go.StP
namespace Go.Sx
open Go
def jR (r:Option Nat):Fence:={Fence.wide with round:=r}
def Ah:Op→Bool
 | .defer _=>false
 |_=>true
section
variable {P:Program} {w0:World} {f:Fr} {L:aB} {K:d9} {N:Fr→aB→Prop} {ops:Array Oper} {rest:List Oper} {r:Option Nat} {n:Nat}
def O3 {k:FuncId} {args:Array Value} {w:World} {R:Ending→World→Prop} (h:Calls P k args w R):CallsIn (jR r) n P k args w R:=
 (callsIn_wide.2 h:CallsIn Fence.wide n P k args w R)
def Q3 {row:String} {args:Array Value} {w:World} {R:Value→World→Prop} (h:Rows P row args w R):RowsIn (jR r) n P row args w R:=
 (fun c cs _=>let ⟨v,w',hr,s⟩:=h c cs;⟨v,w',hr,stepsIn_wide.2 s⟩:RowsIn Fence.wide n P row args w R)
def We {o:Oper} {a:Act} {w:World} {next:Act→World→Prop} {Q:Exit→Act→World→Prop} (hd:Ah o.op=true) (h:o.wp P a w next Q):o.wpIn (jR r) n P a w next Q:=by
 refine⟨fun _ _=>trivial, ?_⟩
 rw[Oper.semAt_eq _ _ _ (fun c e=>by rw[e] at hd;cases hd)]
 unfold Oper.wp at h
 generalize (execOp a.eval o).run P w=x at h
 match x,h with
 | .ok (.value v) _,h=>exact h
 | .ok .skip _,h=>exact h
 | .ok (.defer e) _,h=>exact h
 | .ok (.enter k args) w',h=>
  have h':Calls P k args w' _:=h
  exact⟨fun(e:false=true)=>(by cases e),O3 h'⟩
 | .ok (.row row args) w',h=>
  have h':Rows P row args w' _:=h
  exact⟨fun(e:false=true)=>(by cases e),Q3 h'⟩
 | .halt (.panic u) _,h=>exact h
theorem x4 {Q:Exit→Act→World→Prop} {l2:List Oper}: ∀ (l1:List Oper) (a:Act) (w:World),(l1.all fun o=>Ah o.op)=true→
  wpList P ops (fun e a w=>e= .normal∧wpListIn (jR r) n P ops Q l2 a w) l1 a w→wpListIn (jR r) n P ops Q (l1++l2) a w
 | [],_,_,_,h=>h.2
 |o::l1,a,w,hd,h=>by
  rw[List.cons_append]
  unfold wpList at h
  unfold wpListIn
  rw[List.all_cons,Bool.and_eq_true] at hd
  split at h
  ·rename_i hw
   rw[if_pos hw]
   rcases h with h| ⟨-,hl⟩
   ·exact We hd.1 (AW (fun a w hx=>x4 l1 a w hd.2 hx) (fun e a w aX hq=>aX hq.1) h)
   obtain⟨_,_,he,-⟩:=hl
   cases he
  rename_i hw
  rw[if_neg hw]
  exact⟨fun _ _=>trivial,x4 l1 _ _ hd.2 h⟩
def OwI (r:Option Nat) (P:Program) (w0:World) (ops:Array Oper) (l:List Oper) (f:Fr) (L:aB) (N:Fr→aB→Prop):Prop:=
 ∀w,Hp w0 L w→wpListIn (jR r) 0 P ops (fT w0 N) l (act f) w
def OwI.nil (h:N f L):OwI r P w0 ops [] f L N:=fun _ hw=>⟨rfl,rfl,L,hw,by simpa [act] using h⟩
def OwI.pre {l1 l2:List Oper} (hd: (l1.all fun o=>Ah o.op)=true) (h:Ow P w0 ops .seq l1 f L (fun f' L'=>OwI r P w0 ops l2 f' L' N)):OwI r P w0 ops (l1++l2) f L N:=by
 intro w hw
 refine x4 l1 _ _ hd ?_
 have h1:=h w hw
 have mono: ∀ (l:List Oper) (a:Act) (w:World),wpList P ops (fT w0 (fun f' L'=>OwI r P w0 ops l2 f' L' N)) l a w→wpList P ops (fun e a w=>e= .normal∧wpListIn (jR r) 0 P ops (fT w0 N) l2 a w) l a w:=by
  intro l
  induction l with
  |nil=>
   rintro a w ⟨-,iK,L',hp,hO⟩
   refine⟨rfl, ?_⟩
   have:=hO w hp
   rwa [←v_ iK] at this
  |cons o l ih=>
   intro a w h
   unfold wpList at h ⊢
   split at h
   ·rename_i hw
    rw[if_pos hw]
    rcases h with h| ⟨-,hl⟩
    ·exact .inl (AW ih (fun e a w aX hq=>aX hq.1) h)
    obtain⟨_,_,he,-⟩:=hl
    cases he
   rename_i hw
   rw[if_neg hw]
   exact ih _ _ h
 exact mono l1 _ _ h1
def Ow.mono_seq {l:List Oper} {N':Fr→aB→Prop} (h:Ow P w0 ops .seq l f L N) (hN: ∀f L,N f L→N' f L):Ow P w0 ops .seq l f L N':=by
 intro w hw
 have h1:=h w hw
 clear h
 revert h1
 generalize act f=a
 clear hw
 induction l generalizing a w with
 |nil=>rintro⟨h1,h2,L',h3,h4⟩;exact⟨h1,h2,L',h3,hN _ _ h4⟩
 |cons o l ih=>
  intro h
  unfold wpList at h ⊢
  split at h
  ·rename_i hw
   rw[if_pos hw]
   rcases h with h| ⟨-,hl⟩
   ·exact .inl (AW (fun a w hx=>ih w a hx) (fun e a w aX hq=>aX hq.1) h)
   obtain⟨_,_,he,-⟩:=hl
   cases he
  rename_i hw
  rw[if_neg hw]
  exact ih _ _ h
theorem OwI.all {l:List Oper} (hd: (l.all fun o=>Ah o.op)=true) (h:Ow P w0 ops .seq l f L N):OwI r P w0 ops l f L N:=by
 have:=OwI.pre (r:=r) (l2:= []) (N:=N) hd (Ow.mono_seq h (fun f L hN=>OwI.nil hN))
 simpa using this
def CwR (r:Option Nat) (P:Program) (w0:World) (c:Code) (f:Fr) (L:aB) (K:d9):Prop:= ∀w,Hp w0 L w→c.wpIn (jR r) 0 P (post w0 K) (act f) w
theorem CwR.region {id:Nat} {l:List Oper} (hd: (l.all fun o=>Ah o.op)=true) (h:Ow P w0 l.toArray .seq l f L (K .normal)):CwR r P w0 (.region id l.toArray false) f L K:=
 fun w hw=>wpIn_mono (wpIn_region_lit (OwI.all hd h w hw)) fun _ _ _ h=>yw h
theorem CwR.block {id:Nat} {c:Code} (h:CwR r P w0 c f L (oF id K)):CwR r P w0 (.block id c) f L K:=by
 intro w hw
 refine wpIn_block (wpIn_mono (h w hw) ?_)
 rintro e a w' ⟨hd,L',hp,k⟩
 cases e with
 |exit i=>
  simp only[Exit.inBlock]
  simp only[oF] at k
  split
  ·rename_i e;rw[if_pos e] at k;exact⟨hd,L',hp,k⟩
  rename_i e;rw[if_neg e] at k;exact⟨hd,L',hp,k⟩
 |_=>exact⟨hd,L',hp,k⟩
def Hp.put {w:World} (h:Hp w0 L w) {b:Nat} {o:Obj} (hb:b∈keys L):Hp w0 (setB L b o) (w.putObj b o):=h.set hb rfl rfl rfl rfl
def YieldAt.of {l:Nat} {rc:Loop} {X:aB} {args:Array Value} {w:World} {r0:Option Nat} {S:aB→Prop} (hX:Hp w X w) (hl:look X l=some (.loop rc)) (hr:rc.state= .ready) (hp:rc.pending=none) (hs:args.size=rc.params.size)
  (h:CwR (some l) P w rc.assign ((rc.params.zip args).foldl (fun tmps (p:Tmp×Value)=>tmps.setIfInBounds p.1 p.2) rc.tmps).toList X (fun e f1 L1=>e= .normal∧look L1 l=some (.loop rc)∧
   CwR (some l) P w rc.body f1 (setB L1 l (.loop {rc with state:= .busy})) (fun e _ L2=>e= .normal∧look L2 l=some (.loop {rc with state:= .busy})∧S (setB L2 l (.loop rc))))):
  YieldAt (jR r0) 0 P l args w (fun e w'=> ∃D,e= .returned (.bool true)∧Hp w D w'∧S D):=by
 obtain⟨st,pe,fn0,tm,pa,asg,bo,de⟩:=rc
 obtain rfl:st= .ready:=hr
 obtain rfl:pe=none:=hp
 have sP:=hX.has _ _ (cQ hl)
 refine⟨fn0,_,asg,bo,run_yield sP hs,roundIn_of_wpIn (F:=jR r0) (n:=0) trivial ?_⟩
 have h1:=h w hX
 have ea:act ((pa.zip args).foldl (fun tmps (p:Tmp×Value)=>tmps.setIfInBounds p.1 p.2) tm).toList={tmps:=(pa.zip args).foldl (fun tmps (p:Tmp×Value)=>tmps.setIfInBounds p.1 p.2) tm,defers:= []}:=by
  simp[act]
 simp only at h1
 rw[ea] at h1
 refine wpIn_mono h1 ?_
 rintro e a1 w1 ⟨Jl,L1,p9,rfl,fq,H7⟩
 have aW:=run_beginRound (P:=P) (p9.has _ _ (cQ fq)) rfl
 refine⟨_,aW, ?_⟩
 have h2:=H7 _ (p9.put (o:= .loop {state:= .busy,pending:=none,fn:=fn0,tmps:=tm,params:=pa,assign:=asg,body:=bo,defers:=de}) (bY fq))
 rw[←v_ Jl] at h2
 refine wpIn_mono h2 ?_
 rintro e a2 w2 ⟨ll,L2,k9,rfl,gp,hS⟩
 have he:=run_endRound (P:=P) none (k9.has _ _ (cQ gp))
 exact⟨_,_,he,_,rfl,k9.put (bY gp),hS⟩
def Zx (ds:List Deferred) (w0:World) (K:d9) (e:Exit) (a:Act) (w:World):Prop:=a.defers=ds∧ ∃L,Hp w0 L w∧K e a.tmps.toList L
def CwE (ds:List Deferred) (P:Program) (w0:World) (c:Code) (f:Fr) (L:aB) (K:d9):Prop:= ∀w,Hp w0 L w→c.wp P (Zx ds w0 K) ⟨f.toArray,ds⟩ w
theorem CwE.seq {ds:List Deferred} {x y:Code} (h:CwE ds P w0 x f L (lR (fun f L=>CwE ds P w0 y f L K) K)):CwE ds P w0 (.seq x y) f L K:=by
 intro w hw
 refine wp_seq (wp_mono (h w hw) ?_)
 rintro e a w' ⟨hd,L',hp,k⟩
 cases e with
 |normal=>
  have:=k w' hp
  have ea:a=⟨a.tmps.toList.toArray,ds⟩:=by cases a;simp only at hd;subst hd;simp
  rw[ea]
  exact this
 |_=>exact⟨hd,L',hp,k⟩
theorem CwE.ret {ds:List Deferred} (h:K .ret f L):CwE ds P w0 .ret f L K:=fun _ hw=>wp_ret ⟨rfl,L,hw,by simpa using h⟩
def evVs (P:Program) (w0:World) (L:aB):List Oper→Fr→Option Fr
 | [],f=>some f
 |o::r,f=>match o.guard,jo P w0 L f o.op with
  |none,some v=>evVs P w0 L r (al f o.dst v)
  |_,_=>none
theorem BZ {ds:List Deferred} {Q:Exit→Act→World→Prop} {w:World} (hw:Hp w0 L w): ∀ (l:List Oper) (f f':Fr),evVs P w0 L l f=some f'→Q .normal ⟨f'.toArray,ds⟩ w→wpList P ops Q l ⟨f.toArray,ds⟩ w
 | [],f,f',h,hQ=>by cases h;exact hQ
 |o::l,f,f',h,hQ=>by
  unfold evVs at h
  split at h
  ·rename_i v hg hv
   unfold wpList
   have rk:Region.wanted o (yielded ops (⟨f.toArray,ds⟩:Act).tmps)=true:=by unfold Region.wanted;rw[hg]
   rw[if_pos rk]
   refine .inl ?_
   unfold Oper.wp
   have he: (⟨f.toArray,ds⟩:Act).eval=ev f:=by
    have:=sm f
    funext x
    exact(congrFun this x)
   rw[he,qL hw hv]
   have hp: (⟨f.toArray,ds⟩:Act).put o.dst v=⟨(al f o.dst v).toArray,ds⟩:=by
    have:=gN f o.dst v
    cases hd:o.dst with
    |none=>rfl
    |some d=>simp only[Act.put,al,FX]
   show wpList P ops Q l ((⟨f.toArray,ds⟩:Act).put o.dst v) w
   rw[hp]
   exact BZ hw l _ f' h hQ
  cases h
theorem CwE.region {ds:List Deferred} {id:Nat} {l:List Oper} {f':Fr} (h:evVs P w0 L l f=some f') (hk:K .normal f' L):CwE ds P w0 (.region id l.toArray false) f L K:=
 fun w hw=>wp_region_lit (BZ hw l f f' h ⟨rfl,L,hw,by simpa using hk⟩)
def Gr.at_ {L:aB} {E:TypeId} {m n:Nat} {v:Value} {cs:List Value} (h:Gr L E m v n cs) {b:Nat} (hb:slB v=some b): ∃a,look L b=some (.cells a E (0,0)):=by
 rcases h with h| ⟨rfl,rfl,c,rfl,hl⟩
 ·rcases h.inv with⟨rfl,-,-⟩ | ⟨c,cc,rest,rfl,hl,-⟩
  ·cases hb
  have:c=b:=by simpa [slB,vsl] using hb
  subst this;exact⟨_,hl⟩
 have:c=b:=by simpa [slB,vsl] using hb
 subst this;exact⟨_,hl⟩
def Gr.ne {L:aB} {E:TypeId} {m n:Nat} {v:Value} {cs:List Value} (h:Gr L E m v n cs) {b:Nat} {o:Obj} (hl:look L b=some o) (ho: ∀a,o≠ .cells a E (0,0)):slB v≠some b:=fun e=>by
 obtain⟨a,ha⟩:=h.at_ e
 rw[hl] at ha
 exact ho a (Option.some.inj ha)
theorem Gr.setB {L:aB} {E:TypeId} {m n:Nat} {v:Value} {cs:List Value} (h:Gr L E m v n cs) {b:Nat} (hb:slB v≠some b) (x:Obj):Gr (setB L b x) E m v n cs:=
 h.keep fun c o hc ho=>by rw[bR (fun e:b=c=>hb (by rw[e];exact hc))];exact ho
end
end Go.Sx
namespace Go.Sx
open Go
section
variable {α:Type} {m:Nat} {enc:α→List Value} {z:α} {w:World} {v:Value} {l:List α}
def SlV.dropE (h:SlV m enc z w v l) {k:Nat} (hk:k≤l.length) (a:Bool): ∃v',gb (.sl (a,m)) v (some (some (k:Int))) none=some v'∧SlV m enc z w v' (l.drop k)∧(∀b,slB v'=some b→slB v=some b):=by
 obtain⟨b,off,c,arr,E,fz,hr,hc,hv⟩:=h
 have hl: (l.drop k).length=l.length - k:=by simp
 rcases hv with⟨rfl,rfl,rfl⟩ | ⟨rfl,fX,g_⟩
 ·obtain rfl:k=0:=by simpa using hk
  exact⟨.slice none 0 0,rfl,SlV.nil w,fun b hb=>hb⟩
 have bh:gb (.sl (a,m)) (vsl b off l.length c) (some (some (k:Int))) none=some (vsl b (if c=k then off else off+k*m) (l.length - k) (c - k)):=by
  unfold gb vsl
  simp only[xc _ _ _ (⟨by omega,by omega⟩: (0:Int)≤ (k:Int)∧(k:Int)≤ (l.length:Int)),Int.toNat_natCast]
  by_cases HC:c=k
  ·simp[HC]
  simp only[HC, ↓reduceIte,Option.map_some,o0]
 refine⟨_,bh, ?_,fun b' hb=>hb⟩
 have zy:k*m+ (l.length - k)*m=l.length*m:=by rw[←Nat.add_mul];congr 1;omega
 by_cases HC:c=k
 ·have h0:l.length - k=0:=by omega
  rw[if_pos HC]
  refine⟨b,off,c - k,arr,E,fz,RowS.sl' hl.symm (fun h=>by omega) (fun i hi=>by omega),by omega, .inr ⟨by rw[hl],fX,by rw[hl,h0];omega⟩⟩
 rw[if_neg HC]
 refine⟨b,off+k*m,c - k,arr,E,fz,RowS.sl' hl.symm (fun h=>fX) ?_,by omega, .inr ⟨by rw[hl],fX,by rw[hl];omega⟩⟩
 intro i hi j hj
 rw[hl] at hi
 rw[List.getD_eq_getElem?_getD,List.getElem?_drop,←List.getD_eq_getElem?_getD,←hr.get (k+i) oM j hj]
 congr 1
 rw[Nat.add_mul];omega
end
section
variable {P:Program} {w0:World} {f:Fr} {L:aB} {N:Fr→aB→Prop} {ops:Array Oper} {rest:List Oper} {md:Md} {d:Option Tmp} {ty:TypeId} {ps:String} {af:Array Edge} {g:Option (Nat×Bool)}
def Ow.callFnX {x y:Operand} {b:Value} {ts:Array TypeId} {k:FuncId} {X Y:aB} {S:Value→aB→Prop} {md':Md} (hL:L=X++Y) (he:md.turn=some md')
  (hs:bT ops f ⟨d, .call ⟨.value x, #[y],ts⟩,ty,ps,af,g⟩=false)
  (hx:ev f x= .func (.func k) #[] #[]) (hy:ev f y=b)
  (hk: ∀a w,(callFunc k a).run P w= .ok (.enter k a) w)
  (hc: ∀w,Hp w0 L w→(∀p,p∈X→w.heap[p.1]? =some p.2)→(keys X).Nodup→Rets P k #[b] w (XS w X S))
  (hn: ∀v D,Came w0 L X D→S v D→Ow P w0 ops md' rest (al f d v) (D++Y) N):
  Ow P w0 ops md (⟨d, .call ⟨.value x, #[y],ts⟩,ty,ps,af,g⟩::rest) f L N:=by
 subst hL
 have bA: ∀w,Hp w0 (X++Y) w→(keys X).Nodup∧ ∀c,c∈keys Y→c∉keys X:=by
  intro w hw
  have:=hw.nodup
  rw[ao,List.nodup_append] at this
  exact⟨this.1,fun c hc hx=>this.2.2 c hx c hc rfl⟩
 refine Ow.call (S:=fun B v D=>((∀c,c∈keys D→c∈keys X∨B≤c)∧(∀c,c∈keys X→c∈keys D)∧S v D)∧ ∃w,Hp w0 (X++Y) w∧w.heap.size=B) he hs hx hk (fun w hw=> ?_) ?_
 ·show Rets P k (#[]++ #[y].map (ev f)++ #[]) w _
  rw[show(#[]++ #[y].map (ev f)++ #[]:Array Value)= #[b] by simp[hy]]
  refine Calls.mono (hc w hw (fun p hp=>hw.has _ _ (cz _ hp)) (bA w hw).1) ?_
  rintro e w' ⟨v,D,he,hp,hS⟩
  exact⟨v,D,he,hp,⟨hS.1.new,hS.1.all,hS.2⟩,w,hw,rfl⟩
 rintro B v D gR hB ⟨⟨h1,h2,h3⟩,w1,aI,hwB⟩
 refine⟨D++Y, ?_,hn v D ⟨fun c hc=>(h1 c hc).imp id fun h=>⟨io fun b hb=>by have:=aI.lt hb;omega,by have:=aI.size;omega⟩,h2⟩ h3⟩
 intro w w' yv h k
 have ht:=h.trans k
 have hY: ∀c,c∈keys Y→c∉keys D:=by
  intro c hc hd
  rcases h1 c hd with hx|hx
  ·exact(bA w h).2 c hc hx
  have:=h.lt (b:=c) (by rw[ao];exact dJ _ hc)
  omega
 have e1:X.filter (fun p=> !(keys D).contains p.1)= []:=by
  rw[List.filter_eq_nil_iff]
  intro p hp
  have:=h2 p.1 (List.mem_map.2 ⟨p,hp,rfl⟩)
  simpa using this
 have e2:Y.filter (fun p=> !(keys D).contains p.1)=Y:=A7 hY
 rw[List.filter_append,e1,e2,List.nil_append] at ht
 refine ht.same (fun p=>by simp[or_comm]) ?_
 have:=ht.nodup
 rw[ao] at this ⊢
 exact(List.perm_append_comm.nodup_iff).1 this
end
section
variable {P:Program} {w0:World} {f:Fr} {L:aB} {K:d9}
def Cw.world {c:Code} (h: ∀w,Hp w0 L w→Cw P w0 c f L K):Cw P w0 c f L K:=fun w hw=>h w hw w hw
def Gr.read {E:TypeId} {m n:Nat} {v:Value} {cs:List Value} (h:Gr L E m v n cs) {b:Nat} (hb:slB v=some b) {w:World} (hw:Hp w0 L w) {o:Obj} (ho:w.heap[b]? =some o):aU w0 L b=some o:=by
 obtain⟨a,ha⟩:=h.at_ hb
 rw[hw.has _ _ (cQ ha)] at ho
 rw[aQ ha];exact ho
end
end Go.Sx
namespace Go.Sx
open Go
section
variable {α β:Type} [BEq α] [LawfulBEq α] (encK:α→Value) (encV:β→Value)
def iH (k:α):List (α×β)→Nat→Option (Nat×β)
 | [],_=>none
 |p::r,i=>if k==p.1 then some (i,p.2) else iH k r (i+1)
def updG (k:α) (v:β):List (α×β)→List (α×β)
 | []=> [(k,v)]
 |p::r=>if k==p.1 then(p.1,v)::r else p::updG k v r
def getG (k:α) (z:β) (m:List (α×β)):β:=match m.find? fun p=>k==p.1 with|some p=>p.2|none=>z
def iu (p:α×β):Value×Value:=(encK p.1,encV p.2)
def e_ (o:Obj) (m:List (α×β)):Prop:= ∃es clock,o= .map es clock∧es.toList.map (fun e=>(e.key,e.val))=m.map (iu encK encV)∧(es.toList.map (·.born)++ [clock]).Pairwise (· < ·)
structure KeyOk (P:Program) (kt:TypeId) (encK:α→Value):Prop where
 find: ∀ {β:Type} (encV:β→Value) (w:World) (k:α) (es:List MapEntry) (m:List (α×β)),es.map (fun e=>(e.key,e.val))=m.map (iu encK encV)→(Instr.findKey kt (encK k) es).run P w= .ok ((iH k m 0).map fun p=>(p.1,encV p.2)) w
 check: ∀ (w:World) (e:Bool) (k:α),(Instr.checkKey e 10000 kt (encK k)).run P w= .ok () w
 bits: ∀k,Instr.sameBits 10000 (encK k) (encK k)=true
variable {encK encV}
omit [LawfulBEq α] in
theorem LF {kd:TypeDesc} (hs: ∀a b,Instr.sameNow kd (encK a) (encK b)=some (a==b)) (k:α): ∀ (es:List MapEntry) (m:List (α×β)) (i:Nat),es.map (fun e=>(e.key,e.val))=m.map (iu encK encV)→
  Instr.findNow kd (encK k) es i=some ((iH k m i).map fun p=>(p.1,encV p.2))
 | [],[],i,_=>rfl
 | [],_::_,_,h=>by cases h
 |_::_,[],_,h=>by cases h
 |e::es,p::m,i,h=>by
  simp only[List.map_cons,List.cons.injEq,iu,Prod.mk.injEq] at h
  obtain⟨⟨h1,h2⟩,h3⟩:=h
  unfold Instr.findNow
  have hs:Instr.sameNow kd (encK k) e.key=some (k==p.1):=by rw[h1,hs]
  rw[hs]
  unfold iH
  cases hk: (k==p.1)
  ·simp only[Bool.false_eq_true, ↓reduceIte]
   exact LF ‹_› k es m (i+1) h3
  simp[h2]
theorem LN (k:α): ∀ (m:List (α×β)) (i j:Nat) (v:β),iH k m i=some (j,v)→i≤j∧ ∃a,m[j - i]? =some (k,a)∧a=v
 | [],_,_,_,h=>by cases h
 |p::r,i,j,v,h=>by
  unfold iH at h
  split at h
  ·rename_i hk
   cases h
   refine⟨bq _,p.2, ?_,rfl⟩
   rw[Nat.sub_self,List.getElem?_cons_zero,eq_of_beq hk]
  obtain⟨h1,a,h2,h3⟩:=LN k r (i+1) j v h
  refine⟨by omega,a, ?_,h3⟩
  rw[show j - i=(j - (i+1))+1 by omega,List.getElem?_cons_succ];exact h2
theorem Cm (k:α) (v:β): ∀ (es:List MapEntry) (m:List (α×β)) (i j:Nat) (a:β),es.map (fun e=>(e.key,e.val))=m.map (iu encK encV)→iH k m i=some (j,a)→
  (es.modify (j - i) fun e=>{e with key:=encK k,val:=encV v}).map (fun e=>(e.key,e.val))=(updG k v m).map (iu encK encV)
 | [],[],_,_,_,_,h=>by cases h
 | [],_::_,_,_,_,h,_=>by cases h
 |_::_,[],_,_,_,h,_=>by cases h
 |e::es,p::m,i,j,a,h,hf=>by
  simp only[List.map_cons,List.cons.injEq,iu,Prod.mk.injEq] at h
  obtain⟨⟨h1,h2⟩,h3⟩:=h
  unfold iH at hf
  unfold updG
  split at hf
  ·rename_i hk
   cases hf
   rw[if_pos hk,Nat.sub_self]
   simp only[List.modify_zero_cons,List.map_cons,iu,eq_of_beq hk]
   rw[h3]
  rename_i hk
  have dc:=(LN k m (i+1) j a hf).1
  rw[if_neg hk,show j - i=(j - (i+1))+1 by omega]
  simp only[List.modify_succ_cons,List.map_cons,iu]
  rw[Cm k v es m (i+1) j a h3 hf,h1,h2]
omit [LawfulBEq α] in
theorem Di (k:α) (v:β): ∀ (m:List (α×β)) (i:Nat),iH k m i=none→updG k v m=m++ [(k,v)]
 | [],_,_=>rfl
 |p::r,i,h=>by
  unfold iH at h
  split at h
  ·cases h
  rename_i hk
  unfold updG
  rw[if_neg hk,Di k v r (i+1) h];rfl
omit [LawfulBEq α] in
theorem Cd (k:α): ∀ (m:List (α×β)) (i:Nat),(iH k m i).map Prod.snd=(m.find? fun p=>k==p.1).map Prod.snd
 | [],_=>rfl
 |p::r,i=>by
  unfold iH
  rw[List.find?_cons]
  cases h: (k==p.1)
  ·simp only[Bool.false_eq_true, ↓reduceIte];exact Cd k r (i+1)
  rfl
def W8 {k:α} {m:List (α×β)} {es:List MapEntry} {j:Nat} {a:β} (h:es.map (fun e=>(e.key,e.val))=m.map (iu encK encV)) (hf:iH k m 0=some (j,a)): ∃e,es[j]? =some e∧e.key=encK k:=by
 obtain⟨-,a',h1,rfl⟩:=LN k m 0 j a hf
 rw[Nat.sub_zero] at h1
 have:=congrArg (·[j]?) h
 simp only[List.getElem?_map,h1,Option.map_some] at this
 cases he:es[j]? with
 |none=>rw[he] at this;cases this
 |some e=>
  rw[he] at this
  simp only[Option.map_some,Option.some.injEq,iu,Prod.mk.injEq] at this
  exact⟨e,rfl,this.1⟩
theorem KeyOk.int {P:Program} {kt:TypeId} {k0:IntKind} (hu:P.underlying kt=some (.int k0)):KeyOk P kt vi where
 find encV w k es m h:=by
  simp only[Instr.findKey,Sem.run_bind,run_underlying hu w,Result.andThen_ok]
  rw[LF (encK:=vi) (fun a b=>by simp[Instr.sameNow,vi]) k es m 0 h]
  rfl
 check w e k:=by
  unfold Instr.checkKey
  simp only[Sem.run_bind,run_underlying hu w,Result.andThen_ok]
  rfl
 bits k:=by simp[vi,Instr.sameBits]
variable {P:Program} {w0:World} {f:Fr} {L:aB} {N:Fr→aB→Prop} {ops:Array Oper} {rest:List Oper} {md:Md}
 {d:Option Tmp} {ty:TypeId} {ps:String} {af:Array Edge} {g:Option (Nat×Bool)}
omit [BEq α] [LawfulBEq α] in
def Ow.makeMapG {t:TypeId} {md':Md} (he:md.turn=some md') (hs:bT ops f ⟨d, .makeMap t none,ty,ps,af,g⟩=false)
  (hn: ∀b o,fU L b→w0.heap.size≤b→e_ encK encV o []→Ow P w0 ops md' rest (al f d (vm b)) (L++ [(b,o)]) N):
  Ow P w0 ops md (⟨d, .makeMap t none,ty,ps,af,g⟩::rest) f L N:=by
 refine Ow.step he rfl hs fun w hw=> .inl ⟨vm w.heap.size,w.alloc (.map #[] 0),_, ?_,hw.alloc _,hn _ _ (io fun b hb=>hw.lt hb) hw.size ⟨#[],0,rfl,rfl,List.pairwise_singleton _ _⟩⟩
 simp only[execOp,Instr.makeMap,Sem.run_bind,Option.map_none]
 rfl
def Ow.mapUpdateG {t kt vt:TypeId} {x y z:Operand} {b:Nat} {o:Obj} {m:List (α×β)} {k:α} {v:β} {md':Md} (he:md.turn=some md') (hs:bT ops f ⟨d, .mapUpdate t x y z,ty,ps,af,g⟩=false) (hu:P.underlying t=some (.map kt vt)) (hk:KeyOk P kt encK)
  (hx:ev f x=vm b) (hy:ev f y=encK k) (hz:ev f z=encV v) (hl:look L b=some o) (hm:e_ encK encV o m)
  (hn: ∀o',e_ encK encV o' (updG k v m)→Ow P w0 ops md' rest (al f d undef) (setB L b o') N):
  Ow P w0 ops md (⟨d, .mapUpdate t x y z,ty,ps,af,g⟩::rest) f L N:=by
 obtain⟨es,c,rfl,j',iX⟩:=hm
 refine Ow.step he rfl hs fun w hw=> ?_
 have hb:=hw.has _ _ (cQ hl)
 have gl:=hk.find encV w k es.toList m j'
 cases hf:iH k m 0 with
 |none=>
  rw[hf] at gl
  refine .inr (.inl ⟨{w with heap:=w.heap.setIfInBounds b (.map (es.push {key:=encK k,val:=encV v,born:=c}) (c+1))},_, ?_,hw.set (bY hl) rfl rfl rfl rfl,hn _ ⟨_,_,rfl, ?_,by rw[Array.toList_push];exact DS iX rfl⟩⟩)
  ·have: (Instr.mapUpdate t (vm b) (encK k) (encV v)).run P w= .ok () {w with heap:=w.heap.setIfInBounds b (.map (es.push {key:=encK k,val:=encV v,born:=c}) (c+1))}:=by
    simp only[Instr.mapUpdate,vm,Sem.run_bind,run_underlying hu w,Result.andThen_ok,rm hb,hk.check,gl,Option.map_none,yx hb]
   simp only[execOp,Sem.run_bind,hx,hy,hz]
   rw[this];rfl
  rw[Di k v m 0 hf,Array.toList_push,List.map_append,j',List.map_append];rfl
 |some p=>
  obtain⟨j,a⟩:=p
  rw[hf] at gl
  obtain⟨e,hej,hek⟩:=W8 j' hf
  have yM:es[j]? =some e:=by simpa using hej
  have gn: (Instr.keyThatStays (((es[j]?).map (·.key)).getD (encK k)) (encK k)).run P w= .ok (encK k) w:=by
   rw[yM,Option.map_some,Option.getD_some,hek]
   unfold Instr.keyThatStays
   rw[if_pos (hk.bits k)];rfl
  refine .inr (.inl ⟨{w with heap:=w.heap.setIfInBounds b (.map (es.modify j fun e=>{e with key:=encK k,val:=encV v}) c)},_, ?_,hw.set (bY hl) rfl rfl rfl rfl,hn _ ⟨_,_,rfl, ?_,by rw[Array.toList_modify,Vq_ (g:=fun e=>{e with key:=encK k,val:=encV v}) fun _=>rfl];exact iX⟩⟩)
  ·have: (Instr.mapUpdate t (vm b) (encK k) (encV v)).run P w= .ok () {w with heap:=w.heap.setIfInBounds b (.map (es.modify j fun e=>{e with key:=encK k,val:=encV v}) c)}:=by
    simp only[Instr.mapUpdate,vm,Sem.run_bind,run_underlying hu w,Result.andThen_ok,rm hb,hk.check,gl,Option.map_some,gn,yx hb]
   simp only[execOp,Sem.run_bind,hx,hy,hz]
   rw[this];rfl
  rw[Array.toList_modify]
  have:=Cm k v es.toList m 0 j a j' hf
  rw[Nat.sub_zero] at this
  exact this
omit [LawfulBEq α] in
def Ow.mapGetG {t kt vt:TypeId} {x y:Operand} {b:Nat} {o:Obj} {m:List (α×β)} {k:α} {z:β} {md':Md} (he:md.turn=some md') (hs:bT ops f ⟨d, .lookup t x y false,ty,ps,af,g⟩=false) (hu:P.underlying t=some (.map kt vt)) (hk:KeyOk P kt encK)
  (hz:an P vt=some (encV z)) (hx:ev f x=vm b) (hy:ev f y=encK k) (hl:aU w0 L b=some o) (hm:e_ encK encV o m)
  (hn:Ow P w0 ops md' rest (al f d (encV (getG k z m))) L N):
  Ow P w0 ops md (⟨d, .lookup t x y false,ty,ps,af,g⟩::rest) f L N:=by
 obtain⟨es,c,rfl,j',-⟩:=hm
 refine Ow.step he rfl hs fun w hw=> ?_
 have hb:=hw.read hl
 have gl:=hk.find encV w k es.toList m j'
 refine .inl ⟨encV (getG k z m),w,L, ?_,hw,hn⟩
 have lE:=Cd k m 0
 have: (Instr.lookup t (vm b) (encK k) false).run P w= .ok (encV (getG k z m)) w:=by
  cases hf:iH k m 0 with
  |none=>
   rw[hf] at gl lE
   have hg:getG k z m=z:=by
    unfold getG
    cases h:m.find? fun p=>k==p.1 with
    |none=>rfl
    |some q=>rw[h] at lE;cases lE
   simp only[Instr.lookup,vm,Sem.run_bind,run_underlying hu w,Result.andThen_ok,rm hb,Sem.run_pure,hk.check,gl,Option.map_none,vZ hz w,hg,Bool.false_eq_true, ↓reduceIte]
  |some p=>
   obtain⟨j,a⟩:=p
   rw[hf] at gl lE
   have hg:getG k z m=a:=by
    unfold getG
    cases h:m.find? fun p=>k==p.1 with
    |none=>rw[h] at lE;cases lE
    |some q=>rw[h] at lE;simp only[Option.map_some,Option.some.injEq] at lE;exact lE.symm
   simp only[Instr.lookup,vm,Sem.run_bind,run_underlying hu w,Result.andThen_ok,rm hb,Sem.run_pure,hk.check,gl,Option.map_some,hg,Bool.false_eq_true, ↓reduceIte]
 simp only[execOp,Sem.run_bind,hx,hy]
 rw[this];rfl
end
section
variable {P:Program} {w0:World} {f:Fr} {L:aB} {N:Fr→aB→Prop} {ops:Array Oper} {rest:List Oper} {md:Md} {d:Option Tmp} {ty:TypeId} {ps:String} {af:Array Edge} {g:Option (Nat×Bool)}
def Ow.callFnXC {x y:Operand} {b:Value} {cap ars:Array Value} (ha: #[b]++cap=ars) {ts:Array TypeId} {k:FuncId} {X Y:aB} {S:Value→aB→Prop} {md':Md} (hL:L=X++Y) (he:md.turn=some md')
  (hs:bT ops f ⟨d, .call ⟨.value x, #[y],ts⟩,ty,ps,af,g⟩=false)
  (hx:ev f x= .func (.func k) #[] cap) (hy:ev f y=b)
  (hk: ∀a w,(callFunc k a).run P w= .ok (.enter k a) w)
  (hc: ∀w,Hp w0 L w→(∀p,p∈X→w.heap[p.1]? =some p.2)→(keys X).Nodup→Rets P k ars w (XS w X S))
  (hn: ∀v D,Came w0 L X D→S v D→Ow P w0 ops md' rest (al f d v) (D++Y) N):
  Ow P w0 ops md (⟨d, .call ⟨.value x, #[y],ts⟩,ty,ps,af,g⟩::rest) f L N:=by
 subst hL
 have bA: ∀w,Hp w0 (X++Y) w→(keys X).Nodup∧ ∀c,c∈keys Y→c∉keys X:=by
  intro w hw
  have:=hw.nodup
  rw[ao,List.nodup_append] at this
  exact⟨this.1,fun c hc hx=>this.2.2 c hx c hc rfl⟩
 refine Ow.call (S:=fun B v D=>((∀c,c∈keys D→c∈keys X∨B≤c)∧(∀c,c∈keys X→c∈keys D)∧S v D)∧ ∃w,Hp w0 (X++Y) w∧w.heap.size=B) he hs hx hk (fun w hw=> ?_) ?_
 ·show Rets P k (#[]++ #[y].map (ev f)++cap) w _
  rw[show(#[]++ #[y].map (ev f)++cap:Array Value)=ars by rw[←ha];simp[hy]]
  refine Calls.mono (hc w hw (fun p hp=>hw.has _ _ (cz _ hp)) (bA w hw).1) ?_
  rintro e w' ⟨v,D,he,hp,hS⟩
  exact⟨v,D,he,hp,⟨hS.1.new,hS.1.all,hS.2⟩,w,hw,rfl⟩
 rintro B v D gR hB ⟨⟨h1,h2,h3⟩,w1,aI,hwB⟩
 refine⟨D++Y, ?_,hn v D ⟨fun c hc=>(h1 c hc).imp id fun h=>⟨io fun b hb=>by have:=aI.lt hb;omega,by have:=aI.size;omega⟩,h2⟩ h3⟩
 intro w w' yv h k
 have ht:=h.trans k
 have hY: ∀c,c∈keys Y→c∉keys D:=by
  intro c hc hd
  rcases h1 c hd with hx|hx
  ·exact(bA w h).2 c hc hx
  have:=h.lt (b:=c) (by rw[ao];exact dJ _ hc)
  omega
 have e1:X.filter (fun p=> !(keys D).contains p.1)= []:=by
  rw[List.filter_eq_nil_iff]
  intro p hp
  have:=h2 p.1 (List.mem_map.2 ⟨p,hp,rfl⟩)
  simpa using this
 have e2:Y.filter (fun p=> !(keys D).contains p.1)=Y:=A7 hY
 rw[List.filter_append,e1,e2,List.nil_append] at ht
 refine ht.same (fun p=>by simp[or_comm]) ?_
 have:=ht.nodup
 rw[ao] at this ⊢
 exact(List.perm_append_comm.nodup_iff).1 this
end
end Go.Sx
namespace Go.Sx
open Go
def ItG {α β:Type} (encK:α→Value) (encV:β→Value) (o:Obj) (bm:Nat) (om:Obj) (m dn lf:List (α×β)):Prop:=
 ∃es clock,∃ds:List MapEntry,om= .map es clock∧(es.toList.map (·.born)++ [clock]).Pairwise (· < ·)∧o= .mapIter (some bm) clock (ds.map (·.born)).toArray clock∧
  ds.map kv=dn.map (iu encK encV)∧(∀d,d∈ds→d∈es.toList)∧((es.toList.filter fun e=> !(ds.map (·.born)).contains e.born).map kv=lf.map (iu encK encV))∧(dn++lf).Perm m
def ItG.start {α β:Type} {encK:α→Value} {encV:β→Value} {bm:Nat} {om:Obj} {m:List (α×β)} (h:e_ encK encV om m): ∃es clock,om= .map es clock∧ItG encK encV (.mapIter (some bm) clock #[] clock) bm om m [] m:=by
 obtain⟨es,clock,rfl,h1,h2⟩:=h
 refine⟨es,clock,rfl,es,clock,[],rfl,h2,rfl,rfl,(fun d hd=>by cases hd), ?_,by rw[List.nil_append]⟩
 rw[show(es.toList.filter fun e=> !(([]:List MapEntry).map (·.born)).contains e.born)=es.toList from List.filter_eq_self.2 (fun _ _=>rfl)]
 exact h1
def ItG.step {α β:Type} {encK:α→Value} {encV:β→Value} {bm:Nat} {om:Obj} {m dn lf:List (α×β)} {es:Array MapEntry} {clock:Nat} {ds:List MapEntry} {e:MapEntry} (hb: (es.toList.map (·.born)++ [clock]).Pairwise (· < ·))
  (hd:ds.map kv=dn.map (iu encK encV)) (hm: ∀d,d∈ds→d∈es.toList) (hl: (es.toList.filter fun e=> !(ds.map (·.born)).contains e.born).map kv=lf.map (iu encK encV)) (hp: (dn++lf).Perm m)
  (he:e∈es.toList.filter fun e=> !(ds.map (·.born)).contains e.born) (lF:om= .map es clock):
  ∃p lf',kv e=iu encK encV p∧lf.length=lf'.length+1∧ItG encK encV (.mapIter (some bm) clock ((ds.map (·.born)).toArray.push e.born) clock) bm om m (dn++ [p]) lf':=by
 obtain⟨A,C,xw⟩:=List.append_of_mem he
 rw[xw,List.map_append,List.map_cons] at hl
 obtain⟨l1,l2,rfl,h1,h2⟩:=List.append_eq_map_iff.1 hl
 obtain⟨p,l3,rfl,h3,h4⟩:=(List.map_eq_cons_iff.1 h2)
 refine⟨p,l1++l3,h3.symm,by simp;omega,es,clock,ds++ [e],lF,hb,by simp,by simp[hd,h3], ?_, ?_, ?_⟩
 ·intro d iK
  rcases List.mem_append.1 iK with h|h
  ·exact hm d h
  rw[List.mem_singleton] at h;subst h;exact(List.mem_filter.1 he).1
 ·have bA: ((A++e::C).map (·.born)).Nodup:=by
   rw[←xw]
   exact(Kq hb).sublist ((List.filter_sublist).map _)
  have e1: (es.toList.filter fun x=> !((ds++ [e]).map (·.born)).contains x.born)=(A++e::C).filter fun x=> !(x.born==e.born):=by
   rw[←xw,List.filter_filter]
   refine List.filter_congr fun x hx=> ?_
   simp only[List.map_append,List.map_cons,List.map_nil,List.contains_append,List.contains_cons,List.contains_nil,Bool.or_false,Bool.not_or]
   rw[Bool.and_comm]
  rw[List.map_append,List.map_cons,List.nodup_append] at bA
  obtain⟨-,qG,hn3⟩:=bA
  rw[List.nodup_cons] at qG
  have e2: ((A++e::C).filter fun x=> !(x.born==e.born))=A++C:=by
   rw[List.filter_append,List.filter_cons]
   simp only[beq_self_eq_true,Bool.not_true,Bool.false_eq_true, ↓reduceIte]
   congr 1
   ·refine List.filter_eq_self.2 fun x hx=> ?_
    have:=hn3 x.born (List.mem_map.2 ⟨x,hx,rfl⟩) e.born am
    simpa using this
   refine List.filter_eq_self.2 fun x hx=> ?_
   have:x.born≠e.born:=fun h=>qG.1 (h▸List.mem_map.2 ⟨x,hx,rfl⟩)
   simpa using this
  rw[e1,e2,List.map_append,List.map_append,h1,h4]
 refine List.Perm.trans ?_ hp
 rw[List.append_assoc]
 refine List.Perm.append_left dn ?_
 rw[List.singleton_append]
 exact List.perm_middle.symm
section
variable {α β:Type} {encK:α→Value} {encV:β→Value} {P:Program} {w0:World} {f:Fr} {L:aB} {N:Fr→aB→Prop} {ops:Array Oper} {rest:List Oper} {md:Md}
 {d:Option Tmp} {ty:TypeId} {ps:String} {af:Array Edge} {g:Option (Nat×Bool)}
def Ow.rangeMapG {t kt vt:TypeId} {x:Operand} {bm:Nat} {om:Obj} {m:List (α×β)} {md':Md} (he:md.turn=some md') (hs:bT ops f ⟨d, .range t x,ty,ps,af,g⟩=false) (hu:P.underlying t=some (.map kt vt))
  (hx:ev f x=vm bm) (hl:aU w0 L bm=some om) (hm:e_ encK encV om m)
  (hn: ∀b o,fU L b→w0.heap.size≤b→ItG encK encV o bm om m [] m→Ow P w0 ops md' rest (al f d (itv b)) (L++ [(b,o)]) N):
  Ow P w0 ops md (⟨d, .range t x,ty,ps,af,g⟩::rest) f L N:=by
 obtain⟨es,clock,rfl,hI⟩:=ItG.start (bm:=bm) hm
 refine Ow.step he rfl hs fun w hw=> .inl ⟨itv w.heap.size,w.alloc (.mapIter (some bm) clock #[] clock),_, ?_,hw.alloc _,hn _ _ (io fun b hb=>hw.lt hb) hw.size hI⟩
 have hb:=hw.read hl
 have: (Instr.range t (vm bm)).run P w= .ok (itv w.heap.size) (w.alloc (.mapIter (some bm) clock #[] clock)):=by
  simp only[Instr.range,vm,Sem.run_bind,run_underlying hu w,Result.andThen_ok,rm hb]
  rfl
 simp only[execOp,Sem.run_bind,hx]
 rw[this];rfl
def Ow.nextMapG {x:Operand} {r bm:Nat} {o om:Obj} {m dn lf:List (α×β)} {md':Md} (he:md.turn=some md') (hs:bT ops f ⟨d, .next x false,ty,ps,af,g⟩=false)
  (hx:ev f x=itv r) (hl:look L r=some o) (eE:aU w0 L bm=some om) (hI:ItG encK encV o bm om m dn lf)
  (h0:lf= []→Ow P w0 ops md' rest (al f d (.tuple #[.bool false])) L N)
  (h1: ∀p o' lf',lf.length=lf'.length+1→ItG encK encV o' bm om m (dn++ [p]) lf'→Ow P w0 ops md' rest (al f d (.tuple #[.bool true,encK p.1,encV p.2])) (setB L r o') N):
  Ow P w0 ops md (⟨d, .next x false,ty,ps,af,g⟩::rest) f L N:=by
 refine Ow.step he rfl hs fun w hw=> ?_
 have hr:=hw.has _ _ (cQ hl)
 have hb:=hw.read eE
 obtain⟨es,clock,ds,rfl,iX,rfl,hd,hm,mJ,hp⟩:=hI
 rcases run_next_at (P:=P) w ty r bm clock clock (ds.map (·.born)).toArray es clock hr hb (WI iX) (bq _) with⟨hz,rg⟩ | ⟨e,hem,w1,aI,rg⟩
 ·refine .inl ⟨.tuple #[.bool false],w,L, ?_,hw,h0 ?_⟩
  ·simp only[execOp,Sem.run_bind,hx,itv]
   rw[rg];rfl
  have: (leftOf es (ds.map (·.born)).toArray).toList= []:=by
   rw[Array.toList_eq_nil_iff];exact Array.eq_empty_of_size_eq_zero hz
  rw[Cg] at this
  rw[this] at mJ
  exact(List.map_eq_nil_iff.1 mJ.symm)
 rw[Cg] at hem
 obtain⟨p,lf',hk,aP,n2⟩:=ItG.step (bm:=bm) iX hd hm mJ hp hem rfl
 simp only[kv,iu,Prod.mk.injEq] at hk
 have hw1':Hp w0 L w1:=by rcases aI with rfl|rfl;exact hw;exact hw.drew
 refine .inl ⟨.tuple #[.bool true,encK p.1,encV p.2],ChangeMaps.setBlock w1 r (.mapIter (some bm) clock ((ds.map (·.born)).toArray.push e.born) clock),_, ?_,hw1'.set (bY hl) rfl rfl rfl rfl,h1 p _ lf' aP n2⟩
 simp only[execOp,Sem.run_bind,hx,itv]
 rw[rg,hk.1,hk.2];rfl
def Ow.entryMapG {x:Operand} {r bm:Nat} {o om:Obj} {m dn lf:List (α×β)} {p:α×β} {md':Md} (he:md.turn=some md') (hs:bT ops f ⟨d, .entry x,ty,ps,af,g⟩=false)
  (hx:ev f x=itv r) (hl:aU w0 L r=some o) (eE:aU w0 L bm=some om) (hI:ItG encK encV o bm om m (dn++ [p]) lf)
  (hn:Ow P w0 ops md' rest (al f d (.tuple #[encK p.1,encV p.2])) L N):
  Ow P w0 ops md (⟨d, .entry x,ty,ps,af,g⟩::rest) f L N:=by
 refine Ow.step he rfl hs fun w hw=> .inl ⟨_,w,L, ?_,hw,hn⟩
 have hr:=hw.read hl
 have hb:=hw.read eE
 obtain⟨es,clock,ds,rfl,iX,rfl,hd,hm,mJ,hp⟩:=hI
 rw[List.map_append,List.map_cons,List.map_nil] at hd
 obtain⟨d1,d2,rfl,-,h2⟩:=List.map_eq_append_iff.1 hd
 obtain⟨e,d3,rfl,h3,h4⟩:=List.map_eq_cons_iff.1 h2
 obtain rfl:=List.map_eq_nil_iff.1 h4
 simp only[kv,iu,Prod.mk.injEq] at h3
 have vR: ((d1++ [e]).map (·.born)).toArray=(d1.map (·.born)).toArray.push e.born:=by simp
 rw[vR] at hr
 have rg:=run_entry_at (P:=P) w r bm clock (d1.map (·.born)).toArray es clock e hr hb (hm e (by simp)) (Kq iX)
 simp only[execOp,Sem.run_bind,hx,itv]
 rw[rg,h3.1,h3.2];rfl
end
def Oi (l:List UInt8):Instr.sameBits 10000 (.agg (a8 l)) (.agg (a8 l))=true:=by
 show Instr.sameBits (9999+1) _ _=true
 unfold Instr.sameBits
 simp only[beq_self_eq_true,Bool.true_and,List.all_eq_true]
 intro p hp
 obtain⟨i,hi,rfl⟩:=List.getElem_of_mem hp
 rw[List.getElem_zip]
 simp[a8,Instr.sameBits]
def NM {P:Program} {t e:TypeId} {n:Nat} (hu:P.underlying t=some (.array n e)) (he:P.underlying e=some (.int .u8)) (hm:aR P e=some (false,1)) (l l':List UInt8) (hl:l.length=n) (lw:l'.length=n) (w:World):
  (Op.equal t (.agg (a8 l)) (.agg (a8 l'))).run P w= .ok (l==l') w:=
 FV P 8 9992 t _ _ _ (xM (d:=6) hu he hm l l' hl lw) w
def WS_ {P:Program} {t e:TypeId} {n:Nat} (hu:P.underlying t=some (.array n e)) (he:P.underlying e=some (.int .u8)) (hm:aR P e=some (false,1)) (l:List UInt8) (hl:l.length=n) (em:Bool) (w:World):
  (Instr.checkKey em 10000 t (.agg (a8 l))).run P w= .ok () w:=by
 show(Instr.checkKey em (9999+1) t (.agg (a8 l))).run P w= .ok () w
 rw[Instr.checkKey]
 simp only[Sem.run_bind,run_underlying hu,Result.andThen_ok]
 simp only[Std.Legacy.Range.forIn_eq_forIn_range',Std.Legacy.Range.size,Nat.sub_zero,Nat.add_one_sub_one,Nat.div_one]
 have each: ∀j,j∈List.range' 0 n→j<l.length:=by
  intro j hj
  rw[List.mem_range'] at hj
  obtain⟨i,hi,rfl⟩:=hj
  omega
 generalize List.range' 0 n=is at each
 induction is with
 |nil=>simp
 |cons j is ih=>
  have hj:=each j (by simp)
  have p1: (part e (a8 l) (j*1)).run P w= .ok (v8 (l.getD j 0)) w:=by
   refine rn hm ?_ w
   simp[partV,a8,v8,hj]
  have p2: (Instr.checkKey em 9999 e (v8 (l.getD j 0))).run P w= .ok () w:=by
   show(Instr.checkKey em (9998+1) e (v8 (l.getD j 0))).run P w= .ok () w
   rw[Instr.checkKey]
   simp only[Sem.run_bind,run_underlying he,Result.andThen_ok,v8]
   rfl
  simp only[List.forIn_cons,Sem.run_bind,iT hm w,Result.andThen_ok,p1,p2,Sem.run_pure]
  exact ih (fun y hy=>each y (by simp[hy]))
theorem Qk {n:Nat} {e:TypeId} (x:Value): ∀ (es:List MapEntry) (i:Nat),es≠ []→Instr.findNow (.array n e) x es i=none
 | [],_,h=>absurd rfl h
 |_::_,_,_=>by cases x<;>rfl
theorem KG_ {α β:Type} [BEq α] {P:Program} {kt:TypeId} {encK:α→Value} {encV:β→Value} (he: ∀a b w,(Op.equal kt (encK a) (encK b)).run P w= .ok (a==b) w) (w:World) (k:α): ∀ (es:List MapEntry) (m:List (α×β)) (i:Nat),es.map (fun e=>(e.key,e.val))=m.map (iu encK encV)→
  (Instr.findAsking kt (encK k) es i).run P w= .ok ((iH k m i).map fun p=>(p.1,encV p.2)) w
 | [],[],_,_=>rfl
 | [],_::_,_,h=>by cases h
 |_::_,[],_,h=>by cases h
 |e::es,p::m,i,h=>by
  simp only[List.map_cons,List.cons.injEq,iu,Prod.mk.injEq] at h
  obtain⟨⟨h1,h2⟩,h3⟩:=h
  unfold Instr.findAsking iH
  rw[Sem.run_bind,h1,he]
  simp only[Result.andThen_ok]
  cases hk: (k==p.1)
  ·simp only[Bool.false_eq_true, ↓reduceIte]
   exact KG_ he w k es m (i+1) h3
  simp[h2]
def KeyOk.arr {α:Type} [BEq α] {P:Program} {kt e:TypeId} {n:Nat} (hu:P.underlying kt=some (.array n e)) (he:P.underlying e=some (.int .u8)) (hm:aR P e=some (false,1)) (bs:α→List UInt8) (hb: ∀a,(bs a).length=n) (hq: ∀a b,(bs a==bs b)=(a==b)):
  KeyOk P kt (fun a:α=> .agg (a8 (bs a))) where
 find encV w k es m h:=by
  cases es with
  |nil=>
   cases m with
   |nil=>simp only[Instr.findKey,Sem.run_bind,run_underlying hu w,Result.andThen_ok];rfl
   |cons=>cases h
  |cons e0 es=>
   simp only[Instr.findKey,Sem.run_bind,run_underlying hu w,Result.andThen_ok]
   rw[Qk _ _ _ (by simp)]
   exact KG_ (encK:=fun a:α=> .agg (a8 (bs a))) (fun a b w=>by rw[NM hu he hm _ _ (hb a) (hb b) w,hq]) w k _ m 0 h
 check w e k:=WS_ hu he hm _ (hb k) e w
 bits k:=Oi _
section
variable {α β:Type} [BEq α] [LawfulBEq α] {encK:α→Value} {encV:β→Value} {P:Program} {w0:World} {f:Fr} {L:aB} {N:Fr→aB→Prop} {ops:Array Oper} {rest:List Oper} {md:Md}
 {d:Option Tmp} {ty:TypeId} {ps:String} {af:Array Edge} {g:Option (Nat×Bool)}
omit [LawfulBEq α] in
end
end Go.Sx
namespace Go.Sx
open Go
def KeyOk.str {P:Program} {kt:TypeId} (hu:P.underlying kt=some .string):KeyOk P kt vs where
 find encV w k es m h:=by
  simp only[Instr.findKey,Sem.run_bind,run_underlying hu w,Result.andThen_ok]
  rw[LF (encK:=vs) (fun a b=>by simp only[vs,Instr.sameNow,oV]) k es m 0 h]
  rfl
 check w e k:=by
  unfold Instr.checkKey
  simp only[Sem.run_bind,run_underlying hu w,Result.andThen_ok,vs]
  rfl
 bits k:=by simp only[vs,Instr.sameBits,oV,beq_self_eq_true]
section
variable {α β:Type} [BEq α] [LawfulBEq α]
def delG (k:α):List (α×β)→List (α×β)
 | []=> []
 |p::r=>if k==p.1 then r else p::delG k r
variable {encK:α→Value} {encV:β→Value}
omit [LawfulBEq α] in
theorem FL (k:α): ∀ (m:List (α×β)) (i j:Nat) (a:β),iH k m i=some (j,a)→i≤j
 | [],_,_,_,h=>by cases h
 |p::r,i,j,a,h=>by
  unfold iH at h
  split at h
  ·cases h;exact bq _
  have:=FL k r (i+1) j a h;omega
omit [LawfulBEq α] in
theorem Dd (k:α): ∀ (es:List MapEntry) (m:List (α×β)) (i j:Nat) (a:β),es.map (fun e=>(e.key,e.val))=m.map (iu encK encV)→iH k m i=some (j,a)→
  (es.eraseIdx (j - i)).map (fun e=>(e.key,e.val))=(delG k m).map (iu encK encV)
 | [],[],_,_,_,_,h=>by cases h
 | [],_::_,_,_,_,h,_=>by cases h
 |_::_,[],_,_,_,h,_=>by cases h
 |e::es,p::m,i,j,a,h,hf=>by
  simp only[List.map_cons,List.cons.injEq] at h
  obtain⟨h1,h3⟩:=h
  unfold iH at hf
  unfold delG
  split at hf
  ·rename_i hk
   cases hf
   rw[if_pos hk,Nat.sub_self]
   exact h3
  rename_i hk
  have dc:=FL k m (i+1) j a hf
  rw[if_neg hk,show j - i=(j - (i+1))+1 by omega]
  simp only[List.eraseIdx_cons_succ,List.map_cons]
  rw[Dd k es m (i+1) j a h3 hf,h1]
omit [LawfulBEq α] in
theorem DN (k:α): ∀ (m:List (α×β)) (i:Nat),iH k m i=none→delG k m=m
 | [],_,_=>rfl
 |p::r,i,h=>by
  unfold iH at h
  split at h
  ·cases h
  rename_i hk
  unfold delG
  rw[if_neg hk,DN k r (i+1) h]
variable {P:Program} {w0:World} {f:Fr} {L:aB} {N:Fr→aB→Prop} {ops:Array Oper} {rest:List Oper} {md:Md}
 {d:Option Tmp} {ty:TypeId} {ps:String} {af:Array Edge} {g:Option (Nat×Bool)}
omit [LawfulBEq α] in
def Ow.mapDeleteG {t kt vt:TypeId} {x y:Operand} {t2:TypeId} {b:Nat} {o:Obj} {m:List (α×β)} {k:α} {md':Md} (he:md.turn=some md') (hs:bT ops f ⟨d, .call ⟨.builtin .delete, #[x,y], #[t,t2]⟩,ty,ps,af,g⟩=false) (hu:P.underlying t=some (.map kt vt)) (hk:KeyOk P kt encK)
  (hx:ev f x=vm b) (hy:ev f y=encK k) (hl:look L b=some o) (hm:e_ encK encV o m)
  (hn: ∀o',e_ encK encV o' (delG k m)→Ow P w0 ops md' rest (al f d (.tuple #[])) (setB L b o') N):
  Ow P w0 ops md (⟨d, .call ⟨.builtin .delete, #[x,y], #[t,t2]⟩,ty,ps,af,g⟩::rest) f L N:=by
 obtain⟨es,c,rfl,j',iX⟩:=hm
 refine Ow.step he rfl hs fun w hw=> ?_
 have hb:=hw.has _ _ (cQ hl)
 have gl:=hk.find encV w k es.toList m j'
 cases hf:iH k m 0 with
 |none=>
  rw[hf] at gl
  refine .inl ⟨.tuple #[],{w with heap:=w.heap.setIfInBounds b (.map es c)},_, ?_,hw.set (bY hl) rfl rfl rfl rfl,hn _ ⟨es,c,rfl,by rw[DN k m 0 hf];exact j',iX⟩⟩
  have: (Builtin.delete_ #[t,t2] ty #[vm b,encK k]).run P w= .ok (.tuple #[]) {w with heap:=w.heap.setIfInBounds b (.map es c)}:=by
   simp only[Builtin.delete_,vm,List.getElem?_toArray,List.getElem?_cons_zero,List.getElem?_cons_succ,Sem.run_bind,run_underlying hu w,Result.andThen_ok,rm hb,hk.check,gl,Option.map_none,yx hb]
   rfl
  simp only[execOp,resolve,Sem.run_bind,Sem.run_pure,Result.andThen_ok,invoke,builtin,List.map_toArray,List.map_cons,List.map_nil,hx,hy]
  rw[this];rfl
 |some p=>
  obtain⟨j,a⟩:=p
  rw[hf] at gl
  refine .inl ⟨.tuple #[],{w with heap:=w.heap.setIfInBounds b (.map (es.eraseIdxIfInBounds j) c)},_, ?_,hw.set (bY hl) rfl rfl rfl rfl,hn _ ⟨_,c,rfl, ?_,by rw[Array.toList_eraseIdxIfInBounds];exact Qm iX⟩⟩
  ·have: (Builtin.delete_ #[t,t2] ty #[vm b,encK k]).run P w= .ok (.tuple #[]) {w with heap:=w.heap.setIfInBounds b (.map (es.eraseIdxIfInBounds j) c)}:=by
    simp only[Builtin.delete_,vm,List.getElem?_toArray,List.getElem?_cons_zero,List.getElem?_cons_succ,Sem.run_bind,run_underlying hu w,Result.andThen_ok,rm hb,hk.check,gl,Option.map_some,yx hb]
    rfl
   simp only[execOp,resolve,Sem.run_bind,Sem.run_pure,Result.andThen_ok,invoke,builtin,List.map_toArray,List.map_cons,List.map_nil,hx,hy]
   rw[this];rfl
  have:=Dd (encK:=encK) (encV:=encV) k es.toList m 0 j a j' hf
  rw[Nat.sub_zero] at this
  rw[←this]
  simp
omit [BEq α] [LawfulBEq α] in
def Ow.mapClearG {t kt vt:TypeId} {x:Operand} {b:Nat} {o:Obj} {m:List (α×β)} {md':Md} (he:md.turn=some md') (hs:bT ops f ⟨d, .call ⟨.builtin .clear, #[x], #[t]⟩,ty,ps,af,g⟩=false) (hu:P.underlying t=some (.map kt vt))
  (hx:ev f x=vm b) (hl:look L b=some o) (hm:e_ encK encV o m)
  (hn: ∀o',e_ encK encV o' []→Ow P w0 ops md' rest (al f d (.tuple #[])) (setB L b o') N):
  Ow P w0 ops md (⟨d, .call ⟨.builtin .clear, #[x], #[t]⟩,ty,ps,af,g⟩::rest) f L N:=by
 obtain⟨es,c,rfl,j',iX⟩:=hm
 refine Ow.step he rfl hs fun w hw=> ?_
 have hb:=hw.has _ _ (cQ hl)
 refine .inl ⟨.tuple #[],{w with heap:=w.heap.setIfInBounds b (.map #[] c)},_, ?_,hw.set (bY hl) rfl rfl rfl rfl,hn _ ⟨#[],c,rfl,rfl,List.pairwise_singleton _ _⟩⟩
 have: (Builtin.clear_ #[t] ty #[vm b]).run P w= .ok (.tuple #[]) {w with heap:=w.heap.setIfInBounds b (.map #[] c)}:=by
  simp only[Builtin.clear_,vm,List.getElem?_toArray,List.getElem?_cons_zero,Sem.run_bind,run_underlying hu w,Result.andThen_ok,rm hb,yx hb]
  rfl
 simp only[execOp,resolve,Sem.run_bind,Sem.run_pure,Result.andThen_ok,invoke,builtin,List.map_toArray,List.map_cons,List.map_nil,hx]
 rw[this];rfl
end
section
variable {P:Program} {w0:World} {f:Fr} {L:aB} {N:Fr→aB→Prop} {ops:Array Oper} {rest:List Oper} {md:Md}
 {d:Option Tmp} {ty:TypeId} {ps:String} {af:Array Edge} {g:Option (Nat×Bool)}
def Ow.ifaceMap {t kt vt:TypeId} {x:Operand} {v:Value} (hs:bT ops f ⟨d, .makeInterface t x,ty,ps,af,g⟩=false) (hu:P.underlying t=some (.map kt vt)) (hx:ev f x=v)
  (hn:Ow P w0 ops md.next rest (al f d (.iface t v)) L N):Ow P w0 ops md (⟨d, .makeInterface t x,ty,ps,af,g⟩::rest) f L N:=by
 refine Ow.calm rfl rfl hs (fun w hw=> .inl ⟨.iface t v,w,L, ?_,hw,rfl,rfl⟩) hn
 simp only[execOp,Instr.makeInterface,Sem.run_bind,run_underlying hu w,Result.andThen_ok,hx]
 rfl
def Ow.assertMap {t kt vt xt:TypeId} {x:Operand} {v:Value} (hs:bT ops f ⟨d, .typeAssert x xt t false,ty,ps,af,g⟩=false) (hu:P.underlying t=some (.map kt vt)) (hx:ev f x= .iface t v)
  (hn:Ow P w0 ops md.next rest (al f d v) L N):Ow P w0 ops md (⟨d, .typeAssert x xt t false,ty,ps,af,g⟩::rest) f L N:=by
 refine Ow.calm rfl rfl hs (fun w hw=> .inl ⟨v,w,L, ?_,hw,rfl,rfl⟩) hn
 simp only[execOp,Instr.typeAssert,Sem.run_bind,run_underlying hu w,Result.andThen_ok,hx, ↓reduceIte]
 rfl
def Ow.cloneMap {α β:Type} {encK:α→Value} {encV:β→Value} {x:Operand} {ts:Array TypeId} {k:FuncId} {it:TypeId} {b:Nat} {o:Obj} {m:List (α×β)} {md':Md} (he:md.turn=some md')
  (hs:bT ops f ⟨d, .call ⟨.value (.func k), #[x],ts⟩,ty,ps,af,g⟩=false)
  (hk: ∀a w,(callFunc k #[a]).run P w=((Extern.MapsClone.clone #[a]).run P w).andThen fun v w=> .ok (.value v) w)
  (hx:ev f x= .iface it (vm b)) (hl:aU w0 L b=some o) (hm:e_ encK encV o m)
  (hn: ∀c o',fU L c→w0.heap.size≤c→e_ encK encV o' m→Ow P w0 ops md' rest (al f d (.iface it (vm c))) (L++ [(c,o')]) N):
  Ow P w0 ops md (⟨d, .call ⟨.value (.func k), #[x],ts⟩,ty,ps,af,g⟩::rest) f L N:=by
 obtain⟨es,c,rfl,j',iX⟩:=hm
 refine Ow.step he rfl hs fun w hw=> .inl ⟨.iface it (vm w.heap.size),w.alloc (.map es c),_, ?_,hw.alloc _,hn _ _ (io fun b hb=>hw.lt hb) hw.size ⟨es,c,rfl,j',iX⟩⟩
 have hb:=hw.read hl
 have hA:Array.map (ev f) #[x]= #[.iface it (vm b)]:=by simp[hx]
 have h: (callFunc k #[.iface it (vm b)]).run P w= .ok (.value (.iface it (vm w.heap.size))) (w.alloc (.map es c)):=by
  rw[hk]
  have hc:Extern.MapsClone.clone #[.iface it (vm b)]=(getObj b>>=fun o=>match o with| .map es c=>(newObj (.map es c)>>=fun r=>pure (.iface it (.map (some r)))) |_=>stuck "maps.clone: a map expected"):=rfl
  rw[hc,Sem.run_bind,rm hb]
  rfl
 simp only[execOp,resolve,Deferred.ofValue,FQ,Sem.run_bind,Sem.run_pure,Result.andThen_ok,invoke,hA]
 simpa using h
end
end Go.Sx
namespace Go.Sx
open Go
def Hp.later {w0 w1 w2:World} {L D:aB} (h:Hp w0 L w1) (k:Hp w1 D w2) (hD:New w1.heap.size D):Hp w0 (L++D) w2:=
 Mrg.fresh hD.le w1 w2 rfl h k
def Ow.world {P:Program} {w0:World} {ops:Array Oper} {l:List Oper} {f:Fr} {L:aB} {N:Fr→aB→Prop} (h: ∀w,Hp w0 L w→Ow P w0 ops .seq l f L N):Ow P w0 ops .seq l f L N:=fun w hw=>h w hw w hw
def Rets.chunk {P:Program} {k:FuncId} {args:Array Value} {w:World} {S:Value→Obj→Prop} {X:aB} {b:Nat} (hX: ∀p,p∈X→w.heap[p.1]? =some p.2) (hn: (keys X).Nodup) (hb:b∈keys X)
  (h:Rets P k args w (fun v D=> ∃o,D= [(b,o)]∧S v o)):Rets P k args w (XS w X (fun v D=> ∃o,D=setB X b o∧S v o)):=
 Calls.mono h fun e w' ⟨v,D,he,hp,o,hD,hS⟩=>⟨v,setB X b o,he,by subst hD;exact Mrg.set hb w w' rfl ((Hp.refl w).ownX hX hn) hp,(Ext.refl w X).setB,o,rfl,hS⟩
def Rets.toX {P:Program} {k:FuncId} {a:Array Value} {w:World} {S:Value→Prop} (h:Rets P k a w (fun v D=>S v∧D= [])):Rets P k a w (XS w [] (fun v D=>D= []∧S v)):=
 h.mono fun v D ⟨h1,h2⟩=>⟨by subst h2;exact Ext.refl w [],h2,h1⟩
def Gr.rowL {α:Type} {m:Nat} {enc:α→List Value} {z:α} {w0 w:World} {v:Value} {l:List α} {L:aB} {E:TypeId} {n:Nat} (h:Gr L E m v n (l.map enc).flatten) (hn:l.length=n) (hw:Hp w0 L w) (hm: ∀x,(enc x).length=m):
  ∃b off arr F fz,RowS m enc z w v l b off arr F fz∧(0<l.length→look L b=some (.cells arr F fz)):=by
 obtain⟨b,off,c,arr,F,fz,hr,hc,⟨rfl,rfl,rfl⟩ | ⟨rfl,hb,g_⟩⟩:=h.slV (z:=z) hw hn rfl hm
 ·exact⟨b,off,arr,F,fz,hr,fun h0=>absurd h0 (by simp)⟩
 refine⟨b,off,arr,F,fz,hr,fun _=> ?_⟩
 obtain⟨o,ho⟩:=J1 (h.key (b:=b) rfl)
 have:=hw.has _ _ (cQ ho)
 rw[hb] at this
 rw[ho,this]
def GrI.rowL {α:Type} {m:Nat} {enc:α→List Value} {z:α} {w0 w:World} {v:Value} {l:List α} {D:aB} {E:TypeId} {n:Nat} (h:GrI D E m v n (l.map enc).flatten) (hn:l.length=n) (hw:Hp w0 D w) (hm: ∀x,(enc x).length=m):
  ∃b off arr F fz,RowS m enc z w v l b off arr F fz∧(0<l.length→look D b=some (.cells arr F fz)):=by
 obtain⟨X,hX,h⟩:=h
 obtain⟨b,off,c,arr,F,fz,hr,hc,⟨rfl,rfl,rfl⟩ | ⟨rfl,hb,g_⟩⟩:=h.slM (z:=z) (fun b o hm=>hw.has b o (hX _ hm)) hn rfl hm
 ·exact⟨b,off,arr,F,fz,hr,fun h0=>absurd h0 (by simp)⟩
 refine⟨b,off,arr,F,fz,hr,fun _=> ?_⟩
 obtain⟨o,ho⟩:=J1 (h.key (b:=b) rfl)
 have hm:=hX _ (cQ ho)
 have:=hw.has _ _ hm
 rw[hb] at this
 rw[zI hw.nodup hm,this]
end Go.Sx
section
namespace Go.Sx
open Go
def S0:=aN (aN (aN (aN (aN (aN @Uz (aN @Vg @Wk)) (aN @VA (aN @Rq @Vc))) (aN (aN @U0 (aN @VN @PL)) (aN (aN @N4 @Mb) (aN @Tk @Mf)))) (aN (aN (aN @RT (aN @W9 @PO)) (aN (aN @T_ @N7) (aN @WT @YZ))) (aN (aN @RG (aN @Oe @RI)) (aN (aN @XQ @SN) (aN @MB @Mg))))) (aN (aN (aN (aN @UE (aN @Rg @Ux)) (aN @Qp (aN @Th @Xl))) (aN (aN @X7 (aN @KZ_ @Jo_)) (aN (aN @Ot @QX) (aN @Mv @Tx)))) (aN (aN (aN @Vv (aN @Pv @Kh_)) (aN (aN @OG @MP) (aN @T7 @VX))) (aN (aN @X5 (aN @Va @dC)) (aN (aN @Vf @RE) (aN @FQ @cy)))))) (aN (aN (aN (aN (aN @dA (aN @ag @ae)) (aN @PE (aN @MA @Uw))) (aN (aN @Uv (aN @Rz @Q9)) (aN (aN @Wr @Re) (aN @Tb @Vj)))) (aN (aN (aN @Uj (aN @SP @Rx)) (aN (aN @W6 @WD) (aN @WC @YE))) (aN (aN @SI (aN @U4 @VO)) (aN (aN @UM @YT) (aN @Sz @Ue))))) (aN (aN (aN (aN @VQ (aN @Qi @TE)) (aN (aN @W2 @Sl) (aN @RO @Xh))) (aN (aN @WH (aN @XL @Xm)) (aN (aN @XP @Vt) (aN @V7 @WB)))) (aN (aN (aN @UQ (aN @UJ @Vu)) (aN (aN @US @Ul) (aN @WL @UH))) (aN (aN @axv_ (aN @Zk @Yr)) (aN (aN @Y0 @VE) (aN @Rv @RJ))))))
def S1:=aN (aN (aN (aN (aN (aN (aN (aN @Uy @Ye) (aN @YP (aN @Yw @WY))) (aN (aN @Y_ @mT) (aN @mW (aN @pN @T8)))) (aN (aN (aN @QT @Og) (aN @Vx (aN @NZ @Vo))) (aN (aN @V6 @beq_true) (aN @beq_false (aN @Bool.not_true @Bool.not_false))))) (aN (aN (aN (aN @Md.next_seq @Md.next_any) (aN @Md.next_qui (aN @Md.next_sof @Nu))) (aN (aN @Oy @Nm) (aN @MN (aN @MD @M2)))) (aN (aN (aN @Z9 @Xn) (aN @Vk (aN @UC @VJ))) (aN (aN @Zr (aN @Xd @XA)) (aN @WR (aN @YW @YQ)))))) (aN (aN (aN (aN @Pz (aN @QR (aN @Rn @Sf))) (aN @CA (aN @R7 @R8))) (aN (aN (aN @Rr @QS) (aN @Rd @Q4)) (aN (aN @O7 (aN @VY_ @Qj)) (aN @Mk @KA_)))) (aN @PV @W5_))) (aN (aN @Nf (aN (aN (aN @Ns @Pl) (aN @O0 (aN @P7 @Ra))) (aN (aN (aN @Pg @ID) @IH) (aN (aN @O8 @O6) @R9)))) (aN (aN (aN (aN (aN @KO_ @P8) (aN @MG (aN @MJ @JV_))) (aN @Xa_ @PQ)) (aN (aN @WR_ @Wx_) (aN @OR (aN @O4 @Pc)))) (aN (aN (aN @OV (aN @Pn @OS)) @Oa) (aN (aN @NY (aN @Kw_ @P6)) (aN @M7 @J9_)))))) (aN (aN (aN (aN (aN @Pm (aN @Nc @WW_)) (aN (aN (aN @RV @SO) (aN @CL (aN @Se @Te))) (aN (aN @Tn (aN @Tw @SF)) (aN @SV (aN @TJ @SD))))) (aN (aN (aN (aN @V1 @Y9) (aN @Nd (aN @Tg @Sr))) (aN (aN @TS @SQ) (aN @Uh (aN @Tl @T0)))) (aN (aN (aN @Xr @Ub) (aN @YO (aN @Nv @NH))) (aN (aN @Jg_ (aN @Z6 @ZG)) (aN @VD @R2))))) (aN (aN (aN (aN @P3 (aN @QI (aN @XV @X8))) @Ug) (aN (aN @W_ (aN @YS @Tj)) (aN (aN @NW @ND) (aN @PM (aN @Wn @YU))))) (aN (aN (aN @Ty @Nh) (aN (aN @Pf @Y7) (aN @Yq @VM))) (aN (aN @OK (aN @Qv @Vi)) (aN (aN @VS (aN @Mw @Wd)) (aN @PB (aN @J7_ @pS))))))) (aN (aN (aN (aN (aN (aN @Zg @XJ) (aN @Z8 (aN @ZA @MZ))) (aN (aN @MO @kH) (aN @rl (aN @uh @yy)))) (aN (aN (aN @o5 @yz) (aN @VW (aN @W5 @F3))) (aN (aN @VV (aN @Lc @Qq)) (aN @Aa (aN @Ri @OT))))) (aN (aN (aN (aN @UP @Ui) (aN @Aj (aN @UX @Tf))) (aN (aN @T5 @YK) (aN @YL (aN (@Option.map_some.{0,0}) (@Option.map_none.{0,0}))))) (aN (aN (aN @Ms @MX) (aN @X3_ (aN @Py @My))) (aN (aN @Mq (aN @MY @W0)) (aN @Us (aN @or_i @Zy)))))) (aN (aN (aN (aN (aN @MW @Mz) (aN @M9 (aN @aS (@List.cons_append.{0})))) (aN (aN (@List.nil_append.{0}) (@List.contains_cons.{0})) (aN (@List.contains_nil.{0}) (aN @Bool.or_false @Bool.false_or)))) (aN (aN (aN @Bool.or_true @Bool.true_or) (aN @Bool.false_eq_true (aN @CT @BU))) (aN (aN @Bb (aN @EE @TD)) (aN @Nat.add_sub_cancel_left (aN (@List.set_set.{0}) @Int.toNat_natCast))))) (aN (aN (aN (aN @Nat.mul_one @Nat.zero_add) (aN @Nat.add_zero (aN (@ge_iff_le.{0}) (@gt_iff_lt.{0})))) (aN (aN (@beq_self_eq_true.{0}) @Ze) (aN @Za (aN @tg @tz)))) (aN (aN (aN @GN @Ga) (aN @GQ (aN @GT @ZN))) (aN (aN @ZY (aN @Wh @YB)) (aN @Y3 (aN @Xv @XG))))))))
end Go.Sx
end
section
open Go Go.Proofs Go.Sx
namespace Go.Proofs
def ix23:ixT prog 23= .sl (true,5):=id kR
def ix53:ixT prog 53= .sl (true,32):=id kR
def ix22:ixT prog 22= .sl (true,3):=id kR
def ix9:ixT prog 9= .str:=id kR
def ix26:ixT prog 26= .sl (true,2):=id kR
def ix83:ixT prog 83= .sl (true,2):=id kR
def ix88:ixT prog 88= .arr 3 (true,3):=id kR
def ix34:ixT prog 34= .sl (false,1):=id kR
def ix119:ixT prog 119= .sl (false,1):=id kR
def ix124:ixT prog 124= .arr 3 (false,1):=id kR
def ix78:ixT prog 78= .sl (false,1):=id kR
def ix85:ixT prog 85= .sl (true,4):=id kR
def ix84:ixT prog 84= .sl (true,2):=id kR
def ix39:ixT prog 39= .arr 32 (false,1):=id kR
def ix96:ixT prog 96= .sl (true,34):=id kR
def ix151:ixT prog 151= .arr 8 (false,1):=id kR
def ix179:ixT prog 179= .arr 64 (false,1):=id kR
def ix184:ixT prog 184= .arr 8 (false,1):=id kR
def ix185:ixT prog 185= .arr 64 (false,1):=id kR
def ix198:ixT prog 198= .arr 4 (false,1):=id kR
def ix205:ixT prog 205= .sl (false,1):=id kR
def ix180:ixT prog 180= .sl (false,1):=id kR
def ix214:ixT prog 214= .sl (true,3):=id kR
def ix232:ixT prog 232= .arr 6 (false,1):=id kR
def ix249:ixT prog 249= .arr 4 (false,1):=id kR
def ix273:ixT prog 273= .arr 16 (false,1):=id kR
def ix266:ixT prog 266= .sl (true,2):=id kR
def ag36:aR prog 36=some (true,5):=id kR
def ag39:aR prog 39=some (true,32):=id kR
def ag33:aR prog 33=some (true,2):=id kR
def ag3:aR prog 3=some (false,1):=id kR
def ag34:aR prog 34=some (false,1):=id kR
def ag9:aR prog 9=some (false,1):=id kR
def ag68:aR prog 68=some (true,3):=id kR
def ag70:aR prog 70=some (false,1):=id kR
def ag77:aR prog 77=some (false,1):=id kR
def ag76:aR prog 76=some (true,2):=id kR
def ag83:aR prog 83=some (false,1):=id kR
def ag92:aR prog 92=some (true,2):=id kR
def ag84:aR prog 84=some (false,1):=id kR
def ag95:aR prog 95=some (true,2):=id kR
def ag100:aR prog 100=some (true,34):=id kR
def ag4:aR prog 4=some (false,1):=id kR
def ag124:aR prog 124=some (true,3):=id kR
def ag78:aR prog 78=some (false,1):=id kR
def ag125:aR prog 125=some (false,1):=id kR
def ag122:aR prog 122=some (false,1):=id kR
def ag85:aR prog 85=some (false,1):=id kR
def ag130:aR prog 130=some (true,4):=id kR
def ag72:aR prog 72=some (true,5):=id kR
def ag80:aR prog 80=some (true,3):=id kR
def ag5:aR prog 5=some (false,1):=id kR
def ag90:aR prog 90=some (true,13):=id kR
def ag139:aR prog 139=some (true,3):=id kR
def ag141:aR prog 141=some (true,34):=id kR
def ag53:aR prog 53=some (false,1):=id kR
def ag151:aR prog 151=some (true,8):=id kR
def ag150:aR prog 150=some (false,1):=id kR
def ag179:aR prog 179=some (true,64):=id kR
def ag184:aR prog 184=some (true,8):=id kR
def ag185:aR prog 185=some (true,64):=id kR
def ag192:aR prog 192=some (true,2):=id kR
def ag196:aR prog 196=some (true,75):=id kR
def ag198:aR prog 198=some (true,4):=id kR
def ag202:aR prog 202=some (true,7):=id kR
def ag207:aR prog 207=some (true,5):=id kR
def ag205:aR prog 205=some (false,1):=id kR
def ag183:aR prog 183=some (false,1):=id kR
def ag232:aR prog 232=some (true,6):=id kR
def ag231:aR prog 231=some (false,1):=id kR
def ag239:aR prog 239=some (true,3):=id kR
def ag42:aR prog 42=some (false,1):=id kR
def ag245:aR prog 245=some (true,3):=id kR
def ag249:aR prog 249=some (true,4):=id kR
def ag251:aR prog 251=some (true,36):=id kR
def ag248:aR prog 248=some (false,1):=id kR
def ag180:aR prog 180=some (false,1):=id kR
def ag119:aR prog 119=some (false,1):=id kR
def ag210:aR prog 210=some (false,1):=id kR
def ag96:aR prog 96=some (false,1):=id kR
def ag188:aR prog 188=some (false,1):=id kR
def ag277:aR prog 277=some (false,1):=id kR
def ag285:aR prog 285=some (true,2):=id kR
def ag283:aR prog 283=some (false,1):=id kR
def ag74:aR prog 74=some (false,1):=id kR
def ag273:aR prog 273=some (true,16):=id kR
def zr39:an prog 39=some (.agg (a8 (List.replicate 32 0))):=id kR
def zr92:an prog 92=some (.agg #[(vs []),(vi 0)]):=id kR
def zr95:an prog 95=some (.agg #[(vs []),(vi 0)]):=id kR
def zr90:an prog 90=some (.agg #[(.slice none 0 0),(.slice none 0 0),(.slice none 0 0),(.slice none 0 0),(.slice none 0 0),(.slice none 0 0),(.slice none 0 0),(.slice none 0 0),(.slice none 0 0),(.slice none 0 0),(vi 0),(vi 0),(.bool false)]):=id kR
def zr151:an prog 151=some (.agg (a32 (List.replicate 8 0))):=id kR
def zr130:an prog 130=some (.agg #[(vi 0),(vs []),(vs []),(vi 0)]):=id kR
def zr179:an prog 179=some (.agg (a8 (List.replicate 64 0))):=id kR
def zr184:an prog 184=some (.agg (a8 (List.replicate 8 0))):=id kR
def zr185:an prog 185=some (.agg (a32 (List.replicate 64 0))):=id kR
def zr198:an prog 198=some (.agg (a8 (List.replicate 4 0))):=id kR
def zr202:an prog 202=some (.agg #[(vs []),(vs []),(vs []),(.bool false),(vi 0),(.bool false),(.bool false)]):=id kR
def zr207:an prog 207=some (.agg #[(vs []),(vs []),(vs []),(.slice none 0 0),(.bool false)]):=id kR
def zr5:an prog 5=some (v8 0):=id kR
def zr232:an prog 232=some (.agg #[.nilFunc, .nilFunc, .nilFunc, .nilFunc, .nilFunc, .nilFunc]):=id kR
def fl36_2:bB prog 36 2=some (2,(true,2)):=id kR
def fl36_0:bB prog 36 0=some (0,(false,1)):=id kR
def fl36_1:bB prog 36 1=some (1,(false,1)):=id kR
def fl36_3:bB prog 36 3=some (4,(false,1)):=id kR
def fl33_1:bB prog 33 1=some (1,(false,1)):=id kR
def fl68_2:bB prog 68 2=some (2,(false,1)):=id kR
def fl68_1:bB prog 68 1=some (1,(false,1)):=id kR
def fl72_0:bB prog 72 0=some (0,(false,1)):=id kR
def fl68_0:bB prog 68 0=some (0,(false,1)):=id kR
def fl80_0:bB prog 80 0=some (0,(false,1)):=id kR
def fl90_1:bB prog 90 1=some (9,(false,1)):=id kR
def fl90_0:bB prog 90 0=some (0,(true,9)):=id kR
def fl87_0:bB prog 87 0=some (0,(false,1)):=id kR
def fl87_1:bB prog 87 1=some (1,(false,1)):=id kR
def fl33_0:bB prog 33 0=some (0,(false,1)):=id kR
def fl72_2:bB prog 72 2=some (2,(false,1)):=id kR
def fl72_3:bB prog 72 3=some (3,(false,1)):=id kR
def fl90_3:bB prog 90 3=some (11,(false,1)):=id kR
def fl80_2:bB prog 80 2=some (2,(false,1)):=id kR
def fl80_1:bB prog 80 1=some (1,(false,1)):=id kR
def fl72_4:bB prog 72 4=some (4,(false,1)):=id kR
def fl76_0:bB prog 76 0=some (0,(false,1)):=id kR
def fl76_1:bB prog 76 1=some (1,(false,1)):=id kR
def fl87_2:bB prog 87 2=some (2,(false,1)):=id kR
def fl90_4:bB prog 90 4=some (12,(false,1)):=id kR
def fl95_1:bB prog 95 1=some (1,(false,1)):=id kR
def fl92_0:bB prog 92 0=some (0,(false,1)):=id kR
def fl92_1:bB prog 92 1=some (1,(false,1)):=id kR
def fl95_0:bB prog 95 0=some (0,(false,1)):=id kR
def fl139_2:bB prog 139 2=some (2,(false,1)):=id kR
def fl139_1:bB prog 139 1=some (1,(false,1)):=id kR
def fl141_1:bB prog 141 1=some (1,(false,1)):=id kR
def fl141_0:bB prog 141 0=some (0,(false,1)):=id kR
def fl141_2:bB prog 141 2=some (2,(true,32)):=id kR
def fl100_0:bB prog 100 0=some (0,(true,32)):=id kR
def fl100_1:bB prog 100 1=some (32,(false,1)):=id kR
def fl100_2:bB prog 100 2=some (33,(false,1)):=id kR
def fl90_2:bB prog 90 2=some (10,(false,1)):=id kR
def fl130_0:bB prog 130 0=some (0,(false,1)):=id kR
def fl130_3:bB prog 130 3=some (3,(false,1)):=id kR
def fl130_1:bB prog 130 1=some (1,(false,1)):=id kR
def fl130_2:bB prog 130 2=some (2,(false,1)):=id kR
def fl139_0:bB prog 139 0=some (0,(false,1)):=id kR
def fl207_3:bB prog 207 3=some (3,(false,1)):=id kR
def fl192_0:bB prog 192 0=some (0,(true,2)):=id kR
def fl196_4:bB prog 196 4=some (74,(false,1)):=id kR
def fl196_3:bB prog 196 3=some (73,(false,1)):=id kR
def fl196_1:bB prog 196 1=some (1,(true,8)):=id kR
def fl202_4:bB prog 202 4=some (4,(false,1)):=id kR
def fl202_3:bB prog 202 3=some (3,(false,1)):=id kR
def fl202_6:bB prog 202 6=some (6,(false,1)):=id kR
def fl202_5:bB prog 202 5=some (5,(false,1)):=id kR
def fl202_0:bB prog 202 0=some (0,(false,1)):=id kR
def fl202_1:bB prog 202 1=some (1,(false,1)):=id kR
def fl207_1:bB prog 207 1=some (1,(false,1)):=id kR
def fl207_0:bB prog 207 0=some (0,(false,1)):=id kR
def fl207_4:bB prog 207 4=some (4,(false,1)):=id kR
def fl207_2:bB prog 207 2=some (2,(false,1)):=id kR
def fl239_1:bB prog 239 1=some (1,(false,1)):=id kR
def fl239_0:bB prog 239 0=some (0,(false,1)):=id kR
def fl239_2:bB prog 239 2=some (2,(false,1)):=id kR
def fl245_0:bB prog 245 0=some (0,(false,1)):=id kR
def fl245_1:bB prog 245 1=some (1,(false,1)):=id kR
def fl245_2:bB prog 245 2=some (2,(false,1)):=id kR
def fl190_1:bB prog 190 1=some (1,(false,1)):=id kR
def fl196_0:bB prog 196 0=some (0,(false,1)):=id kR
def fl196_2:bB prog 196 2=some (9,(true,64)):=id kR
def fl251_0:bB prog 251 0=some (0,(false,1)):=id kR
def fl251_1:bB prog 251 1=some (1,(false,1)):=id kR
def fl251_2:bB prog 251 2=some (2,(true,34)):=id kR
def fl190_0:bB prog 190 0=some (0,(false,1)):=id kR
def fl202_2:bB prog 202 2=some (2,(false,1)):=id kR
def fl285_0:bB prog 285 0=some (0,(false,1)):=id kR
def fl285_1:bB prog 285 1=some (1,(false,1)):=id kR
def fl72_1:bB prog 72 1=some (1,(false,1)):=id kR
def cv122_3:cvT prog 122 3= .int .i64:=id kR
def cv5_3:cvT prog 5 3= .int .i64:=id kR
def cv3_153:cvT prog 3 153= .int .u64:=id kR
def cv150_5:cvT prog 150 5= .int .u8:=id kR
def cv3_5:cvT prog 3 5= .int .u8:=id kR
def cv180_9:cvT prog 180 9= .bytesStr:=id kR
def cv3_183:cvT prog 3 183= .int .u64:=id kR
def cv183_5:cvT prog 183 5= .int .u8:=id kR
def cv5_150:cvT prog 5 150= .int .u32:=id kR
def cv153_150:cvT prog 153 150= .int .u32:=id kR
def cv188_270:cvT prog 188 270= .no:=id kR
def cv270_188:cvT prog 270 188= .no:=id kR
def cv3_277:cvT prog 3 277= .int .u64:=id kR
def cv153_3:cvT prog 153 3= .int .i64:=id kR
def cv3_286:cvT prog 3 286= .no:=id kR
def cv286_3:cvT prog 286 3= .no:=id kR
def fx:=aN (aN (aN (aN (aN (aN (aN @ix23 @ix53) (aN @ix22 (aN @ix9 @ix26))) (aN (aN @ix83 (aN @ix88 @ix34)) (aN @ix119 (aN @ix124 @ix78)))) (aN (aN (aN @ix85 @ix84) (aN @ix39 (aN @ix96 @ix151))) (aN (aN @ix179 (aN @ix184 @ix185)) (aN @ix198 (aN @ix205 @ix180))))) (aN (aN (aN (aN @ix214 @ix232) (aN @ix249 (aN @ix273 @ix266))) (aN (aN @ag36 (aN @ag39 @ag33)) (aN @ag3 (aN @ag34 @ag9)))) (aN (aN (aN @ag68 @ag70) (aN @ag77 (aN @ag76 @ag83))) (aN (aN @ag92 (aN @ag84 @ag95)) (aN @ag100 (aN @ag4 @ag124)))))) (aN (aN (aN (aN (aN @ag78 @ag125) (aN @ag122 (aN @ag85 @ag130))) (aN (aN @ag72 (aN @ag80 @ag5)) (aN @ag90 (aN @ag139 @ag141)))) (aN (aN (aN @ag53 @ag151) (aN @ag150 (aN @ag179 @ag184))) (aN (aN @ag185 (aN @ag192 @ag196)) (aN @ag198 (aN @ag202 @ag207))))) (aN (aN (aN (aN @ag205 @ag183) (aN @ag232 (aN @ag231 @ag239))) (aN (aN @ag42 (aN @ag245 @ag249)) (aN @ag251 (aN @ag248 @ag180)))) (aN (aN (aN @ag119 @ag210) (aN @ag96 (aN @ag188 @ag277))) (aN (aN @ag285 (aN @ag283 @ag74)) (aN @ag273 (aN @fl36_2 @fl36_0))))))) (aN (aN (aN (aN (aN (aN @fl36_1 @fl36_3) (aN @fl33_1 (aN @fl68_2 @fl68_1))) (aN (aN @fl72_0 (aN @fl68_0 @fl80_0)) (aN @fl90_1 (aN @fl90_0 @fl87_0)))) (aN (aN (aN @fl87_1 @fl33_0) (aN @fl72_2 (aN @fl72_3 @fl90_3))) (aN (aN @fl80_2 (aN @fl80_1 @fl72_4)) (aN @fl76_0 (aN @fl76_1 @fl87_2))))) (aN (aN (aN (aN @fl90_4 @fl95_1) (aN @fl92_0 (aN @fl92_1 @fl95_0))) (aN (aN @fl139_2 (aN @fl139_1 @fl141_1)) (aN @fl141_0 (aN @fl141_2 @fl100_0)))) (aN (aN (aN @fl100_1 @fl100_2) (aN @fl90_2 (aN @fl130_0 @fl130_3))) (aN (aN @fl130_1 (aN @fl130_2 @fl139_0)) (aN @fl207_3 (aN @fl192_0 @fl196_4)))))) (aN (aN (aN (aN (aN @fl196_3 @fl196_1) (aN @fl202_4 (aN @fl202_3 @fl202_6))) (aN (aN @fl202_5 (aN @fl202_0 @fl202_1)) (aN @fl207_1 (aN @fl207_0 @fl207_4)))) (aN (aN (aN @fl207_2 @fl239_1) (aN @fl239_0 (aN @fl239_2 @fl245_0))) (aN (aN @fl245_1 (aN @fl245_2 @fl190_1)) (aN @fl196_0 (aN @fl196_2 @fl251_0))))) (aN (aN (aN (aN @fl251_1 @fl251_2) (aN @fl190_0 (aN @fl202_2 @fl285_0))) (aN (aN @fl285_1 (aN @fl72_1 @cv122_3)) (aN @cv5_3 (aN @cv3_153 @cv150_5)))) (aN (aN (aN @cv3_5 (aN @cv180_9 @cv3_183)) (aN @cv183_5 (aN @cv5_150 @cv153_150))) (aN (aN @cv188_270 (aN @cv270_188 @cv3_277)) (aN @cv153_3 (aN @cv3_286 @cv286_3)))))))
def dD {p:Prop} (h:p:=by first|assumption|omega| (simp only[ug,uf,UInt64.reduceToNat];first|done|omega)):p:=h
def kp {X A G:Prop} (x:X) (h:G) (e:X→A=G:=by intro x;(try simp(disch:=(first|assumption|omega| (simp only[ug,uf,UInt64.reduceToNat];try omega))) only[↓Sx.S0,Sx.S1,fx,Nat.reduceAdd,Nat.reducePow,Int.reducePow,Nat.reduceBEq, ↓reduceIte,UInt8.reduceToNat,UInt16.reduceToNat,UInt32.reduceToNat,UInt64.reduceToNat,Int.reduceToNat,x]);exact rfl):A:=(e x).mpr h
class Stp (z:List Nat) (A:Prop) (B:outParam Prop):Prop where
 go:B→A
instance (priority:=low) {z:List Nat} {A:Prop}:Stp z A A:=⟨id⟩
section
variable {P:Program} {w0:World} {f:Fr} {L:aB} {K:d9} {N:Fr→aB→Prop} {ops:Array Oper} {md:Md} {l:List Oper} {X G:Prop}
def ks {c:Code} (z:List Nat) [Sx.Steps c] (x:X) (h:G) (e:X→vcC P w0 z c f L (bsK K)=G:=by intro x;(try simp(disch:=(first|assumption|omega| (simp only[ug,uf,UInt64.reduceToNat];try omega))) only[↓Sx.S0,Sx.S1,fx,Nat.reduceAdd,Nat.reducePow,Int.reducePow,Nat.reduceBEq, ↓reduceIte,UInt8.reduceToNat,UInt16.reduceToNat,UInt32.reduceToNat,UInt64.reduceToNat,Int.reduceToNat,x]);exact rfl):Cw P w0 c f L K:=Cw.go z ((e x).mpr h)
instance {c:Code} {z:List Nat} [Sx.Steps c]:Stp z (Cw P w0 c f L K) (vcC P w0 z c f L (bsK K)):=⟨Cw.go z⟩
def ko (x:X) (h:G) (e:X→vcL P w0 ops true md l f L (owk P w0 ops (bsN N))=G:=by intro x;(try simp(disch:=(first|assumption|omega| (simp only[ug,uf,UInt64.reduceToNat];try omega))) only[↓Sx.S0,Sx.S1,fx,Nat.reduceAdd,Nat.reducePow,Int.reducePow,Nat.reduceBEq, ↓reduceIte,UInt8.reduceToNat,UInt16.reduceToNat,UInt32.reduceToNat,UInt64.reduceToNat,Int.reduceToNat,x]);exact rfl) (he:md.eff=true:=by rfl):Ow P w0 ops md l f L N:=Ow.go he ((e x).mpr h)
def kq (x:X) (h:G) (e:X→vcL P w0 ops false md l f L (owk P w0 ops (bsN N))=G:=by intro x;(try simp(disch:=(first|assumption|omega| (simp only[ug,uf,UInt64.reduceToNat];try omega))) only[↓Sx.S0,Sx.S1,fx,Nat.reduceAdd,Nat.reducePow,Int.reducePow,Nat.reduceBEq, ↓reduceIte,UInt8.reduceToNat,UInt16.reduceToNat,UInt32.reduceToNat,UInt64.reduceToNat,Int.reduceToNat,x]);exact rfl):Ow P w0 ops md l f L N:=Ow.goQ ((e x).mpr h)
end
def kz {X A B G:Prop} (z:List Nat) [Stp z A B] (x:X) (h:G) (e:X→B=G:=by intro x;(try simp(disch:=(first|assumption|omega| (simp only[ug,uf,UInt64.reduceToNat];try omega))) only[↓Sx.S0,Sx.S1,fx,Nat.reduceAdd,Nat.reducePow,Int.reducePow,Nat.reduceBEq, ↓reduceIte,UInt8.reduceToNat,UInt16.reduceToNat,UInt32.reduceToNat,UInt64.reduceToNat,Int.reduceToNat,x]);exact rfl):A:=Stp.go z ((e x).mpr h)
def ky {X A B G:Prop} [Stp [] A B] (x:X) (h:G) (e:X→B=G:=by intro x;(try simp(disch:=(first|assumption|omega| (simp only[ug,uf,UInt64.reduceToNat];try omega))) only[↓Sx.S0,Sx.S1,fx,Nat.reduceAdd,Nat.reducePow,Int.reducePow,Nat.reduceBEq, ↓reduceIte,UInt8.reduceToNat,UInt16.reduceToNat,UInt32.reduceToNat,UInt64.reduceToNat,Int.reduceToNat,x]);exact rfl):A:=Stp.go [] ((e x).mpr h)
def ke {α:Type} {X:Prop} {a b:α} (x:X) (e:X→a=b:=by intro x;(try simp(disch:=(first|assumption|omega| (simp only[ug,uf,UInt64.reduceToNat];try omega))) only[↓Sx.S0,Sx.S1,fx,Nat.reduceAdd,Nat.reducePow,Int.reducePow,Nat.reduceBEq, ↓reduceIte,UInt8.reduceToNat,UInt16.reduceToNat,UInt32.reduceToNat,UInt64.reduceToNat,Int.reduceToNat,x]);exact rfl):a=b:=e x
def kn {A G:Prop} (h:G) (e:A=G:=by(try simp(disch:=(first|assumption|omega| (simp only[ug,uf,UInt64.reduceToNat];try omega))) only[uh,yy,List.cons_append,List.nil_append]);exact rfl):A:=e.mpr h
def kf {A G:Prop} (h:G) (e:A=G:=by simp only[List.size_toArray,List.length_cons,List.length_nil,Nat.reduceAdd,Nat.reduceSub,List.replicate_succ,List.replicate_zero,List.cons_append,List.nil_append];exact rfl):A:=e.mpr h
def kv {A G:Prop} (h:G) (e:A=G:=by simp only[mQ,pin,mT,mW,List.contains_cons,List.contains_nil,Nat.reduceBEq,Bool.or_false,Bool.false_or,Bool.or_true,Bool.true_or,Nat.reduceAdd, ↓reduceIte,Bool.false_eq_true];exact rfl):A:=e.mpr h
def Ab (p v:Value) (E:TypeId) (n:Nat):aG (some (false,n)) (some (.cells #[p,v] E (0,0))) 0=some p:=(rfl)
def Af (p v:Value) (E:TypeId) (n:Nat):aG (some (false,n)) (some (.cells #[p,v] E (0,0))) 1=some v:=(rfl)
def VZ (p v x:Value) (E:TypeId) (hx:Value.oneCell' x=true∧x.cells= #[x]):ad (some (false,1)) (some (.cells #[p,v] E (0,0))) 0 x=some (.cells #[x,v] E (0,0)):=by
 simp[ad,hx,eb]
def EF (p v x:Value) (E:TypeId) (hx:Value.oneCell' x=true∧x.cells= #[x]):ad (some (false,1)) (some (.cells #[p,v] E (0,0))) 1 x=some (.cells #[p,x] E (0,0)):=by
 simp[ad,hx,eb]
def LQ (p v:Value) (b o:Nat) (E:TypeId):ad (some (false,1)) (some (.cells #[p,v] E (0,0))) 0 (vp b o)=some (.cells #[vp b o,v] E (0,0)):=VZ _ _ _ _ ⟨rfl,rfl⟩
def nilB (b o:Nat):bF prog .eql 188 (vp b o) (.pointer none)=some (.bool false):=by
 simp[bF,eqX,eu,eW,underlying188,vp]
def xk:bF prog .eql 188 (.pointer none) (.pointer none)=some (.bool true):=by
 simp[bF,eqX,eu,eW,underlying188]
def qR:=aN (aN @Ab @Af) (aN @LQ (aN @nilB @xk))
def ZM:liesAt prog Tryz.prog.depth 192 ((#[Value.pointer none,Value.pointer none]:Array Value).size / Tryz.prog.cellsOf 192) 0 190 1=true:=id kR
def aggB:aR prog 190=some (true,2):=id kR
def Vq (x:Value) (w:World): (callFunc 197 #[x]).run prog w= .ok (.value x) w:=by kernel_rfl
def Je_ (b:Nat) (p v:Value) (w:World) (hp:p= .pointer none∨p=vp b 0) (ho:w.heap[b]? =some (.cells #[p,v] 192 (0,0))):
  Rets prog 166 #[vp b 0] w (fun v' D=> ∃o,D= [(b,o)]∧v'= .tuple #[]∧o= .cells #[vp b 0,v] 192 (0,0)):=by
 refine Rets.enterM func166 rfl (rs:= []) results166 ntmps166 ho ?_
 refine kf ?_
 rcases hp with rfl|rfl
 ·refine ky @qR ?_
  refine Ow.toUnsafe rfl rfl kR rfl (aQ (kH _ _ _)) (by simp) aggB (by decide) underlying188 underlying270 ?_
  refine Ow.callExt (v:=vp b 0) rfl rfl (fun w=>Vq _ w) ?_
  refine Ow.ofUnsafe rfl rfl kR rfl (aQ (kH _ _ _)) aggB ZM underlying270 underlying188 ?_
  refine ko @qR ?_
  refine ky @qR ?_
  refine⟨_,_,_,(ke @qR),rfl,trivial, ?_⟩
  exact⟨rfl,rfl⟩
 refine kz [2] @qR ?_
 refine Cw.region ?_
 refine Ow.value rfl rfl rfl ?_
 refine Ow.value (v:=vp b 0) rfl rfl (by simp(disch:=first|exact dD|fail) only[↓Sx.S0,Sx.S1,fx,qR,Nat.reduceAdd,Nat.reducePow,Int.reducePow,Nat.reduceBEq, ↓reduceIte,UInt8.reduceToNat,UInt16.reduceToNat,UInt32.reduceToNat,UInt64.reduceToNat,Int.reduceToNat,jo]) ?_
 refine Ow.value (v:=vp b 0) rfl rfl (by simp(disch:=first|exact dD|fail) only[↓Sx.S0,Sx.S1,fx,qR,Nat.reduceAdd,Nat.reducePow,Int.reducePow,Nat.reduceBEq, ↓reduceIte,UInt8.reduceToNat,UInt16.reduceToNat,UInt32.reduceToNat,UInt64.reduceToNat,Int.reduceToNat,jo]) ?_
 refine Ow.value (v:=vp b 0) rfl rfl (by simp(disch:=first|exact dD|fail) only[↓Sx.S0,Sx.S1,fx,qR,Nat.reduceAdd,Nat.reducePow,Int.reducePow,Nat.reduceBEq, ↓reduceIte,UInt8.reduceToNat,UInt16.reduceToNat,UInt32.reduceToNat,UInt64.reduceToNat,Int.reduceToNat,jo]) ?_
 refine Ow.value rfl rfl rfl ?_
 refine Ow.neqSame rfl underlying188 aggB rfl rfl ?_
 refine ko @qR ?_
 refine ky @qR ?_
 refine⟨_,_,_,(ke @qR),rfl,trivial, ?_⟩
 exact⟨rfl,rfl⟩
def mq:=aN (aN @Ab @Af) (aN @LQ (aN @nilB @xk))
def BldAt (b:Nat) (l:List UInt8) (X:aB):Prop:=
 ∃p v,Sx.look X b=some (.cells #[p,v] 192 (0,0))∧(p= .pointer none∨p=vp b 0)∧Buf X 5 1 v l.length (l.map v8)∧slB v≠some b
def Jf_ (b:Nat) (X:aB) (l:List UInt8) (c:UInt8) (w:World) (hB:BldAt b l X) (hX: ∀p,p∈X→w.heap[p.1]? =some p.2) (hn: (keys X).Nodup) (hl:l.length<34359738368):
  Rets prog 167 #[vp b 0,v8 c] w (XS w X (fun v D=>v= .nilIface∧BldAt b (l++ [c]) D)):=by
 obtain⟨p,v,bQ,hp,hb,bh⟩:=hB
 refine Rets.enterX func167 rfl (rs:= [.tmp 4]) results167 ntmps167 hX hn ?_
 refine kf ?_
 refine ky @mq ?_
 refine Ow.callM rfl rfl call166 (bY bQ) (fun w' aA=>Je_ b p v w' hp (aA.has _ _ (cQ bQ))) ?_
 have lk1:=dp (x:= .cells #[vp b 0,v] 192 (0,0)) bQ
 have rd1:=aQ (w0:=w) lk1
 have aW:Buf (setB X b (.cells #[vp b 0,v] 192 (0,0))) 5 1 v l.length (l.map v8):=hb.setO bh
 have kx:Ext w X (setB X b (.cells #[vp b 0,v] 192 (0,0))):=(Ext.refl w X).setB
 generalize setB X b (.cells #[vp b 0,v] 192 (0,0))=X1 at*
 refine ko @mq ?_
 refine ky (aN @mq @rd1) ?_
 refine Ow.buildSlice (e:=5) #[v8 c] rfl rfl kR fun b3 da dV=> ?_
 have lk3:Sx.look (X1++ [(b3, .cells #[v8 c] 5 (0,0))]) b3=some (.cells #[v8 c] 5 (0,0)):=rz da
 have aq:Buf (X1++ [(b3, .cells #[v8 c] 5 (0,0))]) 5 1 v l.length (l.map v8):=aW.app
 refine ko @mq ?_
 refine Ow.append (e:=5) _ rfl rfl rfl underlying180 ag5 kR zr5 kR underlying180 (by intro k h;cases h) aq (fun w' aA=>AppX.block (k:=1) (new:= [v8 c]) (aQ lk3) (by simp) (by simp) rfl aA) oM (fun v2 L2 dE pz bM=> ?_)
 have lk2:Sx.look L2 b=some (.cells #[vp b 0,v] 192 (0,0)):=pz.look b _ bh (az lk1)
 have st2:ad (some (false,1)) (some (.cells #[vp b 0,v] 192 (0,0))) 1 v2=some (.cells #[vp b 0,v2] 192 (0,0)):=EF _ _ _ _ dE.cell
 refine ko (aN @mq (aN @lk2 (aN @st2 @lz))) ?_
 refine ky @mq ?_
 refine⟨_,(ke @mq), ?_⟩
 have ex:=(kx.app (o:= .cells #[v8 c] 5 (0,0)) dV).grew pz
 have eA:slB v2≠some b:=by
  rcases bM with h| ⟨c',h,ha⟩
  ·rw[h];exact bh
  rw[h]
  intro e
  cases e
  exact Nat.lt_irrefl _ (ak ha (bY (az lk1)))
 refine⟨ex.setB,rfl,vp b 0,v2,dp lk2, .inr rfl, ?_,eA⟩
 rw[List.length_append,List.map_append]
 exact dE.setO eA
def l_:=aN (aN @Ab @Af) (aN @LQ (aN @nilB @xk))
def KY_ (b:Nat) (X:aB) (l s:List UInt8) (w:World) (hB:BldAt b l X) (hX: ∀p,p∈X→w.heap[p.1]? =some p.2) (hn: (keys X).Nodup) (hl:l.length+s.length<34359738368):
  Rets prog 141 #[vp b 0,vs s] w (XS w X (fun v D=>v= .tuple #[vi s.length, .nilIface]∧BldAt b (l++s) D)):=by
 obtain⟨p,v,bQ,hp,hb,bh⟩:=hB
 refine Rets.enterX func141 rfl (rs:= [.tmp 4, .tmp 5]) results141 ntmps141 hX hn ?_
 refine kf ?_
 refine ky @l_ ?_
 refine Ow.callM rfl rfl call166 (bY bQ) (fun w' aA=>Je_ b p v w' hp (aA.has _ _ (cQ bQ))) ?_
 have lk1:=dp (x:= .cells #[vp b 0,v] 192 (0,0)) bQ
 have rd1:=aQ (w0:=w) lk1
 have aW:Buf (setB X b (.cells #[vp b 0,v] 192 (0,0))) 5 1 v l.length (l.map v8):=hb.setO bh
 have kx:Ext w X (setB X b (.cells #[vp b 0,v] 192 (0,0))):=(Ext.refl w X).setB
 generalize setB X b (.cells #[vp b 0,v] 192 (0,0))=X1 at*
 refine ko @l_ ?_
 refine ky (aN @l_ @rd1) ?_
 refine Ow.append (e:=5) _ rfl rfl rfl underlying180 ag5 kR zr5 kR underlying9 (by intro k h;cases h) aW (fun w' aA=>AppX.text _ w' s) oM (fun v2 L2 dE pz bM=> ?_)
 have lk2:Sx.look L2 b=some (.cells #[vp b 0,v] 192 (0,0)):=pz.look b _ bh lk1
 have st2:ad (some (false,1)) (some (.cells #[vp b 0,v] 192 (0,0))) 1 v2=some (.cells #[vp b 0,v2] 192 (0,0)):=EF _ _ _ _ dE.cell
 refine ko (aN @l_ (aN @lk2 (aN @st2 @lz))) ?_
 refine ky @l_ ?_
 refine⟨_,(ke @l_), ?_⟩
 have ex:=kx.grew pz
 have eA:slB v2≠some b:=by
  rcases bM with h| ⟨c',h,ha⟩
  ·rw[h];exact bh
  rw[h]
  intro e
  cases e
  exact Nat.lt_irrefl _ (ak ha (bY lk1))
 refine⟨ex.setB,rfl,vp b 0,v2,dp lk2, .inr rfl, ?_,eA⟩
 rw[List.length_append,List.map_append]
 exact dE.setO eA
def NV (b:Nat) (X:aB) (l:List UInt8) (w:World) (hB:BldAt b l X) (hX: ∀p,p∈X→w.heap[p.1]? =some p.2) (hn: (keys X).Nodup) (hl:l.length<34359738368):
  Rets prog 143 #[vp b 0] w (XS w X (fun v _D=>v=vs l)):=by
 obtain⟨p,v,bQ,hp,hb,bh⟩:=hB
 have rd1:=aQ (w0:=w) bQ
 refine Rets.enterX func143 rfl (rs:= [.tmp 2]) results143 ntmps143 hX hn ?_
 refine kf ?_
 refine ky @l_ ?_
 refine Cw.regionS [b] [0,1,2,5,6,7,3,8,9,4,10,11] [] kR kR kR ?_
 simp only[ai, ↓ah, ↓ab, ↓ag, ↓ae,ac]
 refine Ow.goQ ?_
 simp(disch:=first|exact dD|fail) only[↓Sx.S0,Sx.S1,fx,l_,Nat.reduceAdd,Nat.reducePow,Int.reducePow,Nat.reduceBEq, ↓reduceIte,UInt8.reduceToNat,UInt16.reduceToNat,UInt32.reduceToNat,UInt64.reduceToNat,Int.reduceToNat,rd1,hb.len]
 refine Ow.soft rfl rfl rfl ?_
 rcases hb.inv with⟨rfl,h0,-⟩ | ⟨b2,c,rest,rfl,gp,h1,h3,h4,-⟩
 ·obtain rfl:l= []:=List.eq_nil_of_length_eq_zero h0
  refine Ow.sliceData (v:= .pointer none) rfl rfl (.inl ⟨0,0,rfl,rfl⟩) ?_
  with_reducible refine Ow.nil ?_
  refine⟨by intro b hb;simp only[List.mem_cons,List.not_mem_nil,or_false] at hb;(try subst hb);rfl, ?_⟩
  refine Ow.soft rfl rfl rfl ?_
  refine Ow.unsafeStringNil rfl rfl rfl rfl ?_
  with_reducible refine Ow.nil ?_
  refine⟨by intro b hb;simp only[List.mem_cons,List.not_mem_nil,or_false] at hb;(try subst hb);rfl, ?_⟩
  refine kq @l_ ?_
  try with_reducible refine Ow.nil ?_
  refine ky @l_ ?_
  refine⟨_,(ke @l_), ?_⟩
  exact⟨Ext.refl _ _,rfl⟩
 refine Ow.sliceData (v:=vp b2 0) rfl rfl (.inr ⟨b2,_,c,rfl,by omega,rfl⟩) ?_
 with_reducible refine Ow.nil ?_
 refine⟨by intro b hb;simp only[List.mem_cons,List.not_mem_nil,or_false] at hb;(try subst hb);rfl, ?_⟩
 by_cases h0:l.length=0
 ·obtain rfl:l= []:=List.eq_nil_of_length_eq_zero h0
  refine Ow.soft rfl rfl rfl ?_
  refine Ow.unsafeStringNil rfl rfl rfl rfl ?_
  with_reducible refine Ow.nil ?_
  refine⟨by intro b hb;simp only[List.mem_cons,List.not_mem_nil,or_false] at hb;(try subst hb);rfl, ?_⟩
  refine kq @l_ ?_
  try with_reducible refine Ow.nil ?_
  refine ky @l_ ?_
  refine⟨_,(ke @l_), ?_⟩
  exact⟨Ext.refl _ _,rfl⟩
 refine Ow.soft rfl rfl rfl ?_
 refine Ow.unsafeString rfl rfl rfl rfl gp oM oM underlying253 kR (of_decide_eq_true kR) ?_
 with_reducible refine Ow.nil ?_
 refine⟨by intro b hb;simp only[List.mem_cons,List.not_mem_nil,or_false] at hb;(try subst hb);exact M1 (fun e=>bh (by rw[←e];rfl)), ?_⟩
 refine kq @l_ ?_
 try with_reducible refine Ow.nil ?_
 refine ky @l_ ?_
 refine⟨_,(ke @l_), ?_⟩
 exact⟨(Ext.refl _ _).setB,rfl⟩
def nilW (b o:Nat):bF prog .eql 222 (vp b o) (.pointer none)=some (.bool false):=by
 simp[bF,eqX,eu,eW,underlying222,vp]
def lI:=aN @Ab (aN @Af @nilW)
structure WG where
 g:Nat
 D:aB
def M3 (l:List (List UInt8)) (g:Nat) (h:g<l.length): (l.take (g+1)).flatten=(l.take g).flatten++l.getD g []:=by
 rw[List.take_add_one,List.getElem?_eq_getElem h,List.flatten_append,List.getD_eq_getElem?_getD,List.getElem?_eq_getElem h]
 simp
def Me (l:List (List UInt8)) (g:Nat): (l.take g).flatten.length≤l.flatten.length:=by
 conv=>rhs;rw[←List.take_append_drop g l,List.flatten_append,List.length_append]
 omega
def DQ (b:Nat) (X:aB) (l:List UInt8) (x:Value) (b2 off:Nat) (ls:List (List UInt8)) (arr:Array Value) (E:TypeId) (fz:Nat×Nat) (w:World) (hB:BldAt b l X) (hX: ∀p,p∈X→w.heap[p.1]? =some p.2) (hn: (keys X).Nodup)
  (hS:StrS w x ls b2 off arr E fz) (aX:0<ls.length→b2∉keys X) (hl:l.length+ls.flatten.length<34359738368) (Jv:ls.length<34359738368):
  Rets prog 116 #[vp b 0,x] w (XS w X (fun v D=>v= .tuple #[]∧BldAt b (l++ls.flatten) D)):=by
 refine Rets.enterX func116 rfl (rs:= []) results116 ntmps116 hX hn ?_
 refine kf ?_
 ((try with_reducible refine Cw.go [] ?_);(try simp(disch:=first|exact dD|fail) only[↓Sx.S0,Sx.S1,fx,lI,Nat.reduceAdd,Nat.reducePow,Int.reducePow,Nat.reduceBEq, ↓reduceIte,UInt8.reduceToNat,UInt16.reduceToNat,UInt32.reduceToNat,UInt64.reduceToNat,Int.reduceToNat,hS.len]))
 refine Cw.loopG (G:=WG) [11,12,13,5,14,15,16,17,18,19,10] (fun g=> [(10,vi g.g)]) (fun g=>g.D) (fun g=>g.g≤ls.length∧Ext w X g.D∧BldAt b (l++ (ls.take g.g).flatten) g.D) (fun g=>ls.length - g.g) ⟨0,X⟩ rfl rfl ?_ ?_
 ·exact⟨by simp,Ext.refl _ _,by simpa using hB⟩
 intro g j hg
 refine kv ?_
 obtain⟨g,D⟩:=g
 simp only at hg ⊢
 obtain⟨Jt,hE,sF⟩:=hg
 by_cases aC:g<ls.length
 ·have uH:=hS.get g aC
  have ce:=hE.old (hS.has oM) (aX oM)
  ((try with_reducible refine Cw.go [] ?_);(try simp(disch:=first|exact dD|fail) only[↓Sx.S0,Sx.S1,fx,lI,Nat.reduceAdd,Nat.reducePow,Int.reducePow,Nat.reduceBEq, ↓reduceIte,UInt8.reduceToNat,UInt16.reduceToNat,UInt32.reduceToNat,UInt64.reduceToNat,Int.reduceToNat,Sx.loadV_one,ce,uH,hS.idx]))
  have eV:=M3 ls g aC
  have hfle:=Me ls (g+1)
  have nG:=congrArg List.length eV
  rw[List.length_append] at nG
  refine Ow.callX (Y:= []) (by simp) rfl rfl call141 (fun w' aA hX hn=>KY_ b D _ (ls.getD g []) w' sF hX hn (by rw[List.length_append];omega)) (fun v2 D2 hC bM=> ?_)
  rw[List.append_nil]
  obtain⟨rfl,dE⟩:=bM
  refine ko @lI ?_
  refine ky @lI ?_
  refine Again.mk (WG.mk (g+1) D2) (by show ls.length - (g+1)<ls.length - g;omega) ⟨by show g+1≤ls.length;omega,hE.came0 hC, ?_⟩ rfl rfl
  show BldAt b (l++ (ls.take (g+1)).flatten) D2
  rw[eV,←List.append_assoc]
  exact dE
 obtain rfl:g=ls.length:=by omega
 refine ky @lI ?_
 refine⟨_,(ke @lI), ?_⟩
 rw[List.take_length] at sF
 exact⟨hE,rfl,sF⟩
def maxN:Int:=1099511627775
def fA (n:Nat):List UInt8:=if h:n<128 then [UInt8.ofNat n] else UInt8.ofNat (n%128+128)::fA (n / 128)
termination_by n
decreasing_by omega
def gA (n:Int):Nat:=(if(if maxN<n then maxN else n)>0 then(if maxN<n then maxN else n) else 0).toNat
def ml (l:List Int):List UInt8:=(l.map fun n=>fA (gA n)).flatten
def vk {n:Nat} (h:n<128):fA n= [UInt8.ofNat n]:=by rw[fA];simp[h]
def wI {n:Nat} (h: ¬n<128):fA n=UInt8.ofNat (n%128+128)::fA (n / 128):=by rw[fA];simp[h]
theorem IC: ∀ (k n:Nat),n<128^k→0<k→(fA n).length≤k
 |0,n,h,h0=>absurd h0 oM
 |k+1,n,h,_=>by
  by_cases hn:n<128
  ·rw[vk hn];simp
  rw[wI hn]
  have hk:0<k:=by
   rcases Nat.eq_zero_or_pos k with rfl|hk
   ·simp at h;omega
   exact hk
  have:=IC k (n / 128) (by rw[Nat.pow_succ] at h;omega) hk
  simp only[List.length_cons];omega
def DT (n:Int):gA n<1099511627776:=by unfold gA maxN;split<;>split at* <;>omega
def qP (n:Int): (fA (gA n)).length≤6:=IC 6 _ (by have:=DT n;omega) oM
def Z5: ∀b:BitVec 8,b.toNat<128→(b|||128#8)=b+128#8:=by decide
def zS (m:Nat):UInt8.ofInt (m:Int)=UInt8.ofNat m:=by
 apply UInt8.toBitVec_inj.1
 apply BitVec.eq_of_toNat_eq
 simp[UInt8.ofInt,UInt8.ofNat]
 omega
def Xj (m:Nat):UInt8.ofInt ((m:Int)%128) |||128=UInt8.ofNat (m%128+128):=by
 rw[show((m:Int)%128)=((m%128:Nat):Int) by omega,zS]
 apply UInt8.toBitVec_inj.1
 have h:=Z5 (BitVec.ofNat 8 (m%128)) (by simp[BitVec.toNat_ofNat];omega)
 have h1: (UInt8.ofNat (m%128) |||128).toBitVec=BitVec.ofNat 8 (m%128) |||128#8:=rfl
 rw[h1,h]
 apply BitVec.eq_of_toNat_eq
 simp[UInt8.ofNat]
structure NG where
 m:Nat
 pre:List UInt8
 D:aB
def N2 (b:Nat) (X:aB) (l:List UInt8) (x:Value) (b2 off:Nat) (ls:List Int) (arr:Array Value) (E:TypeId) (fz:Nat×Nat) (w:World) (hB:BldAt b l X) (hX: ∀p,p∈X→w.heap[p.1]? =some p.2) (hn: (keys X).Nodup)
  (hS:OneS vi 0 w x ls b2 off arr E fz) (aX:0<ls.length→b2∉keys X) (hl:l.length+ls.length*6<34359738368):
  Rets prog 142 #[vp b 0,x] w (XS w X (fun v D=>v= .tuple #[]∧BldAt b (l++ml ls) D)):=by
 refine Rets.enterX func142 rfl (rs:= []) results142 ntmps142 hX hn ?_
 refine kf ?_
 ((try with_reducible refine Cw.go [] ?_);(try simp(disch:=first|exact dD|fail) only[↓Sx.S0,Sx.S1,fx,lI,Nat.reduceAdd,Nat.reducePow,Int.reducePow,Nat.reduceBEq, ↓reduceIte,UInt8.reduceToNat,UInt16.reduceToNat,UInt32.reduceToNat,UInt64.reduceToNat,Int.reduceToNat,hS.len]))
 refine Cw.loopG (G:=WG) [11,12,13,5,14,15,16,17,18,21,22,23,24,25,26,27,28,19,20,29,30,31,32,33,34,35,10] (fun g=> [(10,vi g.g)]) (fun g=>g.D) (fun g=>g.g≤ls.length∧Ext w X g.D∧BldAt b (l++ml (ls.take g.g)) g.D) (fun g=>ls.length - g.g) ⟨0,X⟩ rfl rfl ?_ ?_
 ·exact⟨by simp,Ext.refl _ _,by simpa [ml] using hB⟩
 intro g j hg
 refine kv ?_
 obtain⟨g,D⟩:=g
 simp only at hg ⊢
 obtain⟨Jt,hE,sF⟩:=hg
 by_cases aC:g<ls.length
 ·have uH:=hS.get g aC
  have ce:=hE.old (hS.has oM) (aX oM)
  ((try with_reducible refine Cw.go [] ?_);(try simp(disch:=first|exact dD|fail) only[↓Sx.S0,Sx.S1,fx,lI,Nat.reduceAdd,Nat.reducePow,Int.reducePow,Nat.reduceBEq, ↓reduceIte,UInt8.reduceToNat,UInt16.reduceToNat,UInt32.reduceToNat,UInt64.reduceToNat,Int.reduceToNat,Sx.loadV_one,ce,uH,hS.idx]))
  refine Ow.minI rfl rfl rfl ?_
  refine Ow.maxI rfl rfl rfl ?_
  have lj: (if(if maxN<ls.getD g 0 then maxN else ls.getD g 0)>0 then(if maxN<ls.getD g 0 then maxN else ls.getD g 0) else 0)=(gA (ls.getD g 0):Int):=by
   unfold gA;omega
  have hcl': (if(if 1099511627775<ls.getD g 0 then 1099511627775 else ls.getD g 0)>0 then(if 1099511627775<ls.getD g 0 then 1099511627775 else ls.getD g 0) else 0)=(gA (ls.getD g 0):Int):=lj
  rw[hcl']
  have hcb:=DT (ls.getD g 0)
  have fc: (ml (ls.take g)).length≤g*6:=by
   unfold ml
   rw[List.length_flatten,List.map_map]
   have: ∀ (q:List Int),(q.map (List.length∘fun n=>fA (gA n))).sum≤q.length*6:=by
    intro q
    induction q with
    |nil=>simp
    |cons y r ih=>have:=qP y;simp only[List.map_cons,List.sum_cons,List.length_cons,Function.comp];omega
   have h2:=this (ls.take g)
   rw[List.length_take] at h2
   have:min g ls.length*6≤g*6:=Nat.mul_le_mul_right _ (Nat.min_le_left _ _)
   omega
  have cT:=qP (ls.getD g 0)
  have H':ml (ls.take (g+1))=ml (ls.take g)++fA (gA (ls.getD g 0)):=by
   unfold ml
   rw[List.take_succ_eq_append_getElem aC,List.map_append,List.flatten_append,List.getD_eq_getElem?_getD,List.getElem?_eq_getElem aC]
   simp only[List.map_cons,List.map_nil,List.flatten_cons,List.flatten_nil,List.append_nil,Option.getD_some]
  generalize gA (ls.getD g 0)=m0 at*
  refine ko @lI ?_
  refine ky @lI ?_
  refine Cw.loopG (G:=NG) [17,18,21,22,23,24,25,26,27,28,19,20,5] (fun q=> [(5,vi q.m)]) (fun q=>q.D) (fun q=>q.m≤m0∧Ext w X q.D∧fA m0=q.pre++fA q.m∧BldAt b (l++ml (ls.take g)++q.pre) q.D) (fun q=>q.m) ⟨m0,[],D⟩ rfl rfl ?_ ?_
  ·exact⟨bq _,hE,rfl,by rwa [List.append_nil]⟩
  intro q jq hq
  refine kv ?_
  obtain⟨m,pre,D1⟩:=q
  simp only at hq ⊢
  obtain⟨hqm,cE,rW,di⟩:=hq
  have rV:=congrArg List.length rW
  rw[List.length_append] at rV
  by_cases hm:m<128
  ·refine ky @lI ?_
   rw[vk hm] at rW rV
   have aP: (l++ml (ls.take g)++pre).length+1<34359738368:=by
    rw[List.length_append,List.length_append]
    simp only[List.length_cons,List.length_nil] at rV
    omega
   refine Ow.callX (Y:= []) (by simp) rfl rfl call167 (fun w' aA hX hn=>Jf_ b D1 _ _ w' di hX hn oM) (fun v2 D2 hC bM=> ?_)
   rw[List.append_nil]
   obtain⟨rfl,dE⟩:=bM
   rw[zS] at dE
   refine ko @lI ?_
   refine ky @lI ?_
   refine Again.mk (WG.mk (g+1) D2) (by show ls.length - (g+1)<ls.length - g;omega) ⟨by show g+1≤ls.length;omega,cE.came0 hC, ?_⟩ rfl rfl
   show BldAt b (l++ml (ls.take (g+1))) D2
   rw[H',rW,←List.append_assoc,←List.append_assoc]
   exact dE
  refine ky @lI ?_
  rw[wI hm] at rW rV
  have aP: (l++ml (ls.take g)++pre).length+1<34359738368:=by
   rw[List.length_append,List.length_append]
   simp only[List.length_cons] at rV
   omega
  refine Ow.callX (Y:= []) (by simp) rfl rfl call167 (fun w' aA hX hn=>Jf_ b D1 _ _ w' di hX hn oM) (fun v2 D2 hC bM=> ?_)
  rw[List.append_nil]
  obtain⟨rfl,dE⟩:=bM
  rw[Xj] at dE
  refine ko @lI ?_
  refine ky @lI ?_
  refine Again.mk (NG.mk (m / 128) (pre++ [UInt8.ofNat (m%128+128)]) D2) (by show m / 128<m;omega) ⟨by show m / 128≤m0;omega,cE.came0 hC, ?_, ?_⟩ rfl rfl
  ·show fA m0=pre++ [UInt8.ofNat (m%128+128)]++fA (m / 128)
   rw[rW];simp
  show BldAt b (l++ml (ls.take g)++ (pre++ [UInt8.ofNat (m%128+128)])) D2
  rw[←List.append_assoc]
  exact dE
 obtain rfl:g=ls.length:=by omega
 refine ky @lI ?_
 refine⟨_,(ke @lI), ?_⟩
 rw[List.take_length] at sF
 exact⟨hE,rfl,sF⟩
def oB:=aN (aN @Ab @Af) (aN @nilW (aN @F3 @Lc))
theorem BldAt.app {b:Nat} {l:List UInt8} {X Y:aB} (h:BldAt b l X):BldAt b l (X++Y):=by
 obtain⟨p,v,h1,h2,h3,h4⟩:=h
 exact⟨p,v,az h1,h2,h3.app,h4⟩
def fy (s:List UInt8):List UInt8:=fA (gA s.length)++s
def pX (ls:List (List UInt8)):List UInt8:=(ls.map fy).flatten
def Ti (n:Int):ml [n]=fA (gA n):=by simp[ml]
def PA (ls:List (List UInt8)) (g:Nat) (h:g<ls.length):pX (ls.take (g+1))=pX (ls.take g)++fy (ls.getD g []):=by
 unfold pX
 rw[List.take_succ_eq_append_getElem h,List.map_append,List.flatten_append,List.getD_eq_getElem?_getD,List.getElem?_eq_getElem h]
 simp only[List.map_cons,List.map_nil,List.flatten_cons,List.flatten_nil,List.append_nil,Option.getD_some]
def W6_ (ls:List (List UInt8)) (g:Nat): (pX (ls.take g)).length≤ (pX ls).length:=by
 conv=>rhs;rw[←List.take_append_drop g ls]
 unfold pX
 rw[List.map_append,List.flatten_append,List.length_append];omega
def Qw (b:Nat) (X:aB) (l:List UInt8) (x:Value) (b2 off:Nat) (ls:List (List UInt8)) (arr:Array Value) (E:TypeId) (fz:Nat×Nat) (w:World) (hB:BldAt b l X) (hX: ∀p,p∈X→w.heap[p.1]? =some p.2) (hn: (keys X).Nodup)
  (hS:StrS w x ls b2 off arr E fz) (aX:0<ls.length→b2∉keys X) (hl:l.length+ (pX ls).length<17179869184) (Jv:ls.length<17179869184):
  Rets prog 117 #[vp b 0,x] w (XS w X (fun v D=>v= .tuple #[]∧BldAt b (l++pX ls) D)):=by
 refine Rets.enterX func117 rfl (rs:= []) results117 ntmps117 hX hn ?_
 refine kf ?_
 ((try with_reducible refine Cw.go [] ?_);(try simp(disch:=first|exact dD|fail) only[↓Sx.S0,Sx.S1,fx,oB,Nat.reduceAdd,Nat.reducePow,Int.reducePow,Nat.reduceBEq, ↓reduceIte,UInt8.reduceToNat,UInt16.reduceToNat,UInt32.reduceToNat,UInt64.reduceToNat,Int.reduceToNat,hS.len]))
 refine Cw.loopG (G:=WG) [9,10,11,5,12,13,14,15,16,17,18,19,20,21,8] (fun g=> [(8,vi g.g)]) (fun g=>g.D) (fun g=>g.g≤ls.length∧Ext w X g.D∧BldAt b (l++pX (ls.take g.g)) g.D) (fun g=>ls.length - g.g) ⟨0,X⟩ rfl rfl ?_ ?_
 ·exact⟨by simp,Ext.refl _ _,by simpa [pX] using hB⟩
 intro g j hg
 refine kv ?_
 obtain⟨g,D⟩:=g
 simp only at hg ⊢
 obtain⟨Jt,hE,sF⟩:=hg
 by_cases aC:g<ls.length
 ·have uH:=hS.get g aC
  have ce:=hE.old (hS.has oM) (aX oM)
  have hsu:=PA ls g aC
  have dc:=W6_ ls (g+1)
  have bh:=congrArg List.length hsu
  rw[List.length_append] at bh
  have kC: (fy (ls.getD g [])).length=(fA (gA (ls.getD g []).length)).length+ (ls.getD g []).length:=by unfold fy;rw[List.length_append]
  ((try with_reducible refine Cw.go [] ?_);(try simp(disch:=first|exact dD|fail) only[↓Sx.S0,Sx.S1,fx,oB,Nat.reduceAdd,Nat.reducePow,Int.reducePow,Nat.reduceBEq, ↓reduceIte,UInt8.reduceToNat,UInt16.reduceToNat,UInt32.reduceToNat,UInt64.reduceToNat,Int.reduceToNat,Sx.loadV_one,ce,uH,hS.idx]))
  refine Ow.buildSlice (e:=3) #[vi (ls.getD g []).length] rfl rfl kR fun b3 da dV=> ?_
  refine ko @oB ?_
  refine Ow.callX (Y:= [(b3, .cells #[vi (ls.getD g []).length] 3 (0,0))]) (by simp) rfl rfl call142 (fun w' aA hX hn=>N2 b D _ _ b3 0 [((ls.getD g []).length:Int)] _ _ _ w' sF hX hn (OneS.lit [((ls.getD g []).length:Int)] rfl rfl (aA.has _ _ (dJ _ am))) (fun _ hm=>Nat.lt_irrefl _ (ak da hm)) (by rw[List.length_append];simp only[List.length_cons,List.length_nil];omega)) (fun v2 D2 hC bM=> ?_)
  obtain⟨rfl,dE⟩:=bM
  have bZ:=(hE.app (o:= .cells #[vi (ls.getD g []).length] 3 (0,0)) dV).came hC
  rw[Ti] at dE
  have mC:=BldAt.app (Y:= [(b3, .cells #[vi (ls.getD g []).length] 3 (0,0))]) dE
  generalize D2++ [(b3,Obj.cells #[vi (ls.getD g []).length] 3 (0,0))]=D3 at*
  refine ko @oB ?_
  refine ky @oB ?_
  refine Ow.buildSlice (e:=9) #[vs (ls.getD g [])] rfl rfl kR fun b4 g4 cr=> ?_
  refine ko @oB ?_
  refine Ow.callX (Y:= [(b4, .cells #[vs (ls.getD g [])] 9 (0,0))]) (by simp) rfl rfl call116 (fun w' aA hX hn=>DQ b D3 _ _ b4 0 [ls.getD g []] _ _ _ w' mC hX hn (StrS.lit [ls.getD g []] rfl rfl (aA.has _ _ (dJ _ am))) (fun _ hm=>Nat.lt_irrefl _ (ak g4 hm)) (by rw[List.length_append,List.length_append];simp only[List.flatten_cons,List.flatten_nil,List.append_nil];omega) (by simp)) (fun v4 D4 bD ar=> ?_)
  obtain⟨rfl,ng⟩:=ar
  have cj:=(bZ.app (o:= .cells #[vs (ls.getD g [])] 9 (0,0)) cr).came bD
  have jS:=BldAt.app (Y:= [(b4, .cells #[vs (ls.getD g [])] 9 (0,0))]) ng
  generalize D4++ [(b4,Obj.cells #[vs (ls.getD g [])] 9 (0,0))]=D5 at*
  refine ko @oB ?_
  refine ky @oB ?_
  refine Again.mk (WG.mk (g+1) D5) (by show ls.length - (g+1)<ls.length - g;omega) ⟨by show g+1≤ls.length;omega,cj, ?_⟩ rfl rfl
  show BldAt b (l++pX (ls.take (g+1))) D5
  rw[hsu]
  simpa [fy] using jS
 obtain rfl:g=ls.length:=by omega
 refine ky @oB ?_
 refine⟨_,(ke @oB), ?_⟩
 rw[List.take_length] at sF
 exact⟨hE,rfl,sF⟩
structure IdL where
 l:List UInt8
 h:l.length=32
def eT (x:IdL):List Value:=x.l.map v8
def id0:IdL:=⟨List.replicate 32 0,by simp⟩
def Ae (x:IdL): (eT x).toArray=a8 x.l:=rfl
def Nx (b:Nat) (X:aB) (l:List UInt8) (w:World) (hB:BldAt b l X) (hX: ∀p,p∈X→w.heap[p.1]? =some p.2) (hn: (keys X).Nodup) (hl:l.length<34359738368):
  Rets prog 118 #[vp b 0] w (XS w X (fun v _=>v=vs l)):=by
 refine Rets.enterX func118 rfl (rs:= [.tmp 2]) results118 ntmps118 hX hn ?_
 refine kf ?_
 refine ky @oB ?_
 refine Ow.callX (Y:= []) (by simp) rfl rfl call143 (fun w' aA hX hn=>NV b X l w' hB hX hn hl) (fun v2 D2 hC bM=> ?_)
 subst bM
 rw[List.append_nil]
 refine ko @oB ?_
 refine ky @oB ?_
 refine⟨_,(ke @oB), ?_⟩
 exact⟨(Ext.refl _ _).came0 hC,rfl⟩
def uX (s:List UInt8) (a e:Int) (E:TypeId) (n:Nat):aG (some (false,n)) (some (.cells #[vs s,vi a,vi e] E (0,0))) 0=some (vs s):=(rfl)
def ua (s:List UInt8) (a e:Int) (E:TypeId) (n:Nat):aG (some (false,n)) (some (.cells #[vs s,vi a,vi e] E (0,0))) 1=some (vi a):=(rfl)
def uc (s:List UInt8) (a e:Int) (E:TypeId) (n:Nat):aG (some (false,n)) (some (.cells #[vs s,vi a,vi e] E (0,0))) 2=some (vi e):=(rfl)
def ue (s:List UInt8) (a e x:Int) (E:TypeId):ad (some (false,1)) (some (.cells #[vs s,vi a,vi e] E (0,0))) 1 (vi x)=some (.cells #[vs s,vi x,vi e] E (0,0)):=by
 simp[ad,eb,vi,Value.cells,Value.oneCell']
def uY (s:List UInt8) (a e x:Int) (E:TypeId):ad (some (false,1)) (some (.cells #[vs s,vi a,vi e] E (0,0))) 2 (vi x)=some (.cells #[vs s,vi a,vi x] E (0,0)):=by
 simp[ad,eb,vi,Value.cells,Value.oneCell']
def nilR (b o:Nat):bF prog .eql 210 (vp b o) (.pointer none)=some (.bool false):=by
 simp[bF,eqX,eu,eW,underlying210,vp]
def xo:bF prog .eql 210 (.pointer none) (.pointer none)=some (.bool true):=by
 simp[bF,eqX,eu,eW,underlying210]
def xh (b o:Nat):bF prog .neq 210 (vp b o) (.pointer none)=some (.bool true):=by
 simp[bF,eqX,eu,eW,underlying210,vp]
def xg:bF prog .neq 210 (.pointer none) (.pointer none)=some (.bool false):=by
 simp[bF,eqX,eu,eW,underlying210]
def dZ:=aN (aN (aN @uX @ua) (aN @uc @ue)) (aN (aN @uY @nilR) (aN @xo (aN @xh @xg)))
def JE (b:Nat) (s:List UInt8) (a e:Int) (w:World) (ho:w.heap[b]? =some (.cells #[vs s,vi a,vi e] 239 (0,0))):
  Rets prog 154 #[vp b 0] w (fun v D=>v=vi e∧D= []):=by
 refine Rets.enterV func154 rfl (rs:= [.tmp 2]) results154 ntmps154 ?_
 refine kf ?_
 refine ky (aN @dZ @ho) ?_
 refine⟨_,(ke @dZ),trivial, ?_⟩
 rfl
def Un (b:Nat) (s:List UInt8) (a e:Int) (w:World) (ho:w.heap[b]? =some (.cells #[vs s,vi a,vi e] 239 (0,0))):
  Rets prog 156 #[vp b 0] w (fun v D=>v=vi a∧D= []):=by
 refine Rets.enterV func156 rfl (rs:= [.tmp 2]) results156 ntmps156 ?_
 refine kf ?_
 refine ky (aN @dZ @ho) ?_
 refine⟨_,(ke @dZ),trivial, ?_⟩
 rfl
def RL (b:Nat) (s:List UInt8) (a e:Int) (w:World) (ho:w.heap[b]? =some (.cells #[vs s,vi a,vi e] 239 (0,0))):
  Rets prog 132 #[vp b 0] w (fun v D=>v=vi (if e≠0 then e else if a<s.length then 5 else 0)∧D= []):=by
 refine Rets.enterV func132 rfl (rs:= [.tmp 2]) results132 ntmps132 ?_
 refine kf ?_
 refine ky @dZ ?_
 refine Ow.callFV rfl call154 (fun w' aA=>JE b s a e w' (by rw[aA.old b (Array.getElem?_eq_some_iff.1 ho).1 (by simp[keys])];exact ho)) ?_
 refine ko @dZ ?_
 refine ky @dZ ?_
 by_cases he:e=0
 ·refine ky @dZ ?_
  refine Cw.regionS [b] [0,1,2,4,5,6,3,7,8,9] [] kR kR kR ?_
  simp only[ai, ↓ah, ↓ab, ↓ag, ↓ae,ac]
  refine kq (aN @dZ @ho) ?_
  try with_reducible refine Ow.nil ?_
  refine ky @dZ ?_
  refine cdC.splitp (fun hc=> ?_) (fun hc=> ?_)
  ·refine ky @dZ ?_
   refine⟨_,(ke @dZ),trivial, ?_⟩
   simp[hc,he,cM]
  refine ky @dZ ?_
  refine⟨_,(ke @dZ),trivial, ?_⟩
  simp[hc,he,cM]
 refine ky @dZ ?_
 refine⟨_,(ke @dZ),trivial, ?_⟩
 simp[he,cM]
def z6 (b:Nat) (s:List UInt8) (a e x y:Int) (w:World) (ho:w.heap[b]? =some (.cells #[vs s,vi a,vi e] 239 (0,0))):
  Rets prog 155 #[vp b 0,vi x,vi y] w (fun v D=> ∃o,D= [(b,o)]∧v= .tuple #[]∧o= .cells #[vs s,vi (if e=0 then y else a),vi (if e=0 then x else e)] 239 (0,0)):=by
 refine Rets.enterM func155 rfl (rs:= []) results155 ntmps155 ho ?_
 refine kf ?_
 refine ky @dZ ?_
 by_cases he:e=0
 ·refine ky @dZ ?_
  refine⟨_,_,_,(ke @dZ),rfl,trivial, ?_⟩
  simp[he,cM]
 refine ky @dZ ?_
 refine⟨_,_,_,(ke @dZ),rfl,trivial, ?_⟩
 simp[he,cM]
def bS (s:List UInt8) (a:Nat) (e n:Int):List UInt8×Nat×Int:=
 if e≠0 then([],a,e) else if n<0 then([],a,2) else if(s.length:Int) - a<n then([],a,3) else((s.drop a).take n.toNat,a+n.toNat,0)
def Lm (b:Nat) (s:List UInt8) (a:Nat) (e n:Int) (w:World) (ha:a≤s.length) (hs:s.length<9223372036854775808) (ho:w.heap[b]? =some (.cells #[vs s,vi a,vi e] 239 (0,0))):
  Rets prog 130 #[vp b 0,vi n] w (fun v D=> ∃o,D= [(b,o)]∧v=vs (bS s a e n).1∧o= .cells #[vs s,vi (bS s a e n).2.1,vi (bS s a e n).2.2] 239 (0,0)):=by
 refine Rets.enterM func130 rfl (rs:= [.tmp 4]) results130 ntmps130 ho ?_
 refine kf ?_
 refine ky @dZ ?_
 refine Ow.callFV rfl call154 (fun w' aA=>JE b s a e w' (aA.has _ _ am)) ?_
 refine ko @dZ ?_
 refine ky @dZ ?_
 unfold bS
 by_cases he:e=0
 ·subst he
  rw[if_neg (fun h=>h rfl)]
  refine ky @dZ ?_
  by_cases hn:n<0
  ·rw[if_pos hn]
   refine ky @dZ ?_
   refine Ow.callM rfl rfl call155 (by simp[keys]) (fun w' aA=>z6 b s a 0 2 a w' (aA.has _ _ am)) ?_
   refine ko @dZ ?_
   refine ky @dZ ?_
   refine⟨_,_,_,(ke @dZ),rfl,trivial, ?_⟩
   exact⟨rfl,rfl⟩
  rw[if_neg hn]
  refine ky @dZ ?_
  refine Cw.regionS [b] [0,1,2,3,6,7,8,4,5,9,10,11,12] [] kR kR kR ?_
  simp only[ai, ↓ah, ↓ab, ↓ag, ↓ae,ac]
  refine kq @dZ ?_
  try with_reducible refine Ow.nil ?_
  refine ky @dZ ?_
  by_cases hl: (s.length:Int) - a<n
  ·rw[if_pos hl]
   refine ky @dZ ?_
   refine Ow.callM rfl rfl call155 (by simp[keys]) (fun w' aA=>z6 b s a 0 3 a w' (aA.has _ _ am)) ?_
   refine ko @dZ ?_
   refine ky @dZ ?_
   refine⟨_,_,_,(ke @dZ),rfl,trivial, ?_⟩
   exact⟨rfl,rfl⟩
  rw[if_neg hl]
  obtain⟨m,rfl⟩: ∃m:Nat,n=(m:Int):=⟨n.toNat,by omega⟩
  refine ky @dZ ?_
  refine Cw.regionS [b] [0,1,2,4,5,6,8,9,10,12,3,7,11,13,14,15] [] kR kR kR ?_
  simp only[ai, ↓ah, ↓ab, ↓ag, ↓ae,ac]
  refine kq @dZ ?_
  try with_reducible refine Ow.nil ?_
  refine ky @dZ ?_
  refine⟨_,_,_,(ke @dZ),rfl,trivial, ?_⟩
  refine⟨?_, ?_⟩
  ·simp only[cM,Int.toNat_natCast]
   rw[List.drop_take,Nat.add_sub_cancel_left]
  rw[Int.toNat_natCast,Int.natCast_add]
 rw[if_pos he]
 refine ky @dZ ?_
 refine⟨_,_,_,(ke @dZ),rfl,trivial, ?_⟩
 exact⟨rfl,rfl⟩
def cw:=aN (aN (aN @uX @ua) (aN @uc @ue)) (aN (aN @uY @nilR) (aN @xo (aN @xh @xg)))
def cK (most:Int):List UInt8→Nat→Nat→Except Nat (Nat×Nat)
 | [],_,_=> .error 3
 |c::r,k,n=>
  if 128≤c.toNat then(if k+1=6 then .error 4 else cK most r (k+1) (n+c.toNat%128*128^k))
  else if c.toNat=0∧0<k then .error 2
  else if n+c.toNat%128*128^k≤1099511627775∧((n+c.toNat%128*128^k:Nat):Int)≤most then .ok (n+c.toNat%128*128^k,k+1)
  else .error 4
def aF (s:List UInt8) (a:Nat) (e most:Int):Int×Nat×Int:=
 if e≠0 then(0,a,e) else match cK most (s.drop a) 0 0 with
  | .ok (n,k)=>(n,a+k,0)
  | .error x=>(0,a,x)
def Ag {s:List UInt8} {a:Nat} {e most:Int} {n k:Nat} (he:e=0) (h:cK most (s.drop a) 0 0= .ok (n,k)):aF s a e most=((n:Int),a+k,0):=by
 unfold aF;rw[if_neg (by simp[he]),h]
def qO {s:List UInt8} {a:Nat} {e most:Int} {x:Nat} (he:e=0) (h:cK most (s.drop a) 0 0= .error x):aF s a e most=(0,a,(x:Int)):=by
 unfold aF;rw[if_neg (by simp[he]),h]
structure NumS where
 more:Bool
 k:Nat
 n:Nat
 x:Nat
def M0 (b:Nat) (s:List UInt8) (a:Nat) (e most:Int) (w:World) (ha:a≤s.length) (hs:s.length<9223372036854775808) (ho:w.heap[b]? =some (.cells #[vs s,vi a,vi e] 239 (0,0))):
  Rets prog 157 #[vp b 0,vi most] w (fun v D=> ∃o,D= [(b,o)]∧v=vi (aF s a e most).1∧o= .cells #[vs s,vi (aF s a e most).2.1,vi (aF s a e most).2.2] 239 (0,0)):=by
 refine Rets.enterM func157 rfl (rs:= [.tmp 4]) results157 ntmps157 ho ?_
 refine kf ?_
 refine ky @cw ?_
 by_cases he:e=0
 ·subst he
  refine Cw.scopeL (G:=NumS) (fun g=>(if g.more then 1 else 0)) [10,11,12,4,5,6,7,13,14,15,16,8,9,17,18,19,20,21,22,23,24,25,26,27,28,29,30,31,32,33,34,35,36,37,38,39,40,41,42,43,44,45,46,47,48,49,50,51,52,53,54,55,56,57,58,59,60,61,62,63,64,65,66,67,68,69,70,71,72,73] (fun g=>(if g.more then [(5,vi g.n),(6,vi (7*g.k:Nat)),(8,vi 3),(9,vi a)] else [(8,vi g.x),(9,vi a)])) (fun g=> [(b, .cells #[vs s,vi (a+g.k:Nat),vi 0] 239 (0,0))]) (fun g=>a+g.k≤s.length∧(if g.more then cK most (s.drop a) 0 0=cK most (s.drop (a+g.k)) g.k g.n∧g.n<128^g.k∧g.k<6 else cK most (s.drop a) 0 0= .error g.x)) (fun g=>(if g.more then 7 - g.k else 0)) ?_ ?_ ?_
  ·intro g
   obtain⟨m,k,n,x⟩:=g
   cases m<;>rfl
  ·intro g j hg
   obtain⟨m,k,n,x⟩:=g
   obtain⟨hk,hg⟩:=hg
   simp only at hk
   cases m with
   |false=>
    simp only[Bool.false_eq_true, ↓reduceIte] at hg ⊢
    simp only[m9,hasL,Bool.or_false,Bool.false_or,Bool.or_true,Bool.true_or,Nat.reduceBEq,beq_self_eq_true, ↓reduceIte,Bool.false_eq_true]
    refine kv ?_
    try with_reducible refine KE ?_
    refine ky @cw ?_
    refine Ow.callM rfl rfl call155 (by simp[keys]) (fun w' aA=>z6 b s _ 0 x a w' (aA.has _ _ am)) ?_
    refine ko @cw ?_
    refine ky @cw ?_
    rw[qO rfl hg]
    refine⟨_,_,_,(ke @cw),rfl,trivial, ?_⟩
    simp[cM]
   |true=>
    simp only[↓reduceIte] at hg ⊢
    obtain⟨dF,hn,ns⟩:=hg
    simp only[m9,hasL,Bool.or_false,Bool.false_or,Bool.or_true,Bool.true_or,Nat.reduceBEq,beq_self_eq_true, ↓reduceIte,Bool.false_eq_true]
    refine kv ?_
    try with_reducible refine KE ?_
    refine ky @cw ?_
    refine Cw.regionS [b] [0,1,2,4,5,6,3,7,8,9] [] kR kR kR ?_
    simp only[ai, ↓ah, ↓ab, ↓ag, ↓ae,ac]
    refine kq @cw ?_
    try with_reducible refine Ow.nil ?_
    by_cases nE:a+k=s.length
    ·refine ky @cw ?_
     refine Jump.mk (NumS.mk false k n 3) rfl (by show 0<7 - k;omega) ⟨hk, ?_⟩ rfl rfl
     show cK most (s.drop a) 0 0= .error 3
     rw[dF,nE,List.drop_length];rfl
    refine ky @cw ?_
    have Gz:a+k<s.length:=by omega
    have rE:s.drop (a+k)=s.getD (a+k) 0::s.drop (a+k+1):=by
     rw[List.drop_eq_getElem_cons Gz,List.getD_eq_getElem?_getD,List.getElem?_eq_getElem Gz];rfl
    rw[rE] at dF
    refine Cw.regionS [b] [0,1,2,4,5,6,3,7,8,9] [] kR kR kR ?_
    simp only[ai, ↓ah, ↓ab, ↓ag, ↓ae,ac]
    refine kq @cw ?_
    try with_reducible refine Ow.nil ?_
    generalize s.getD (a+k) 0=c at*
    have hp:128^k≤34359738368:=Nat.pow_le_pow_right oM (show k≤5 by omega)
    have gr:0<128^k:=Nat.pow_pos oM
    have hd: (c%128).toNat=c.toNat%128:=by simp
    have lj:=c.toNat_lt
    have hdm:c.toNat%128*128^k≤127*128^k:=Nat.mul_le_mul_right _ oM
    have hshl:aJ .shl (vi ((c.toNat%128:Nat):Int)) (vi ((7*k:Nat):Int))=some (vi ((c.toNat%128*128^k:Nat):Int)):=by
     have h2: (2:Int)^ (7*k)=((128^k:Nat):Int):=by
      rw[Int.pow_mul];push_cast;rfl
     have:=F0 ((c.toNat%128:Nat):Int) .i64 (7*k) (by rw[h2];refine⟨by omega,by omega, ?_⟩;rw[←Int.natCast_mul];omega)
     rw[h2,←Int.natCast_mul] at this
     exact this
    have hor:aJ .or (vi (n:Int)) (vi ((c.toNat%128*128^k:Nat):Int))=some (vi ((n+c.toNat%128*128^k:Nat):Int)):=by
     have:=or_i (n:Int) ((c.toNat%128*128^k:Nat):Int) ⟨by omega,by omega,by omega,by omega⟩
     rw[this]
     congr 3
     rw[Int.toNat_natCast,Int.toNat_natCast,show 128^k=2^ (7*k) by rw[Nat.pow_mul],Nat.mul_comm,Nat.or_comm,←Nat.two_pow_add_eq_or_of_lt (by rw[Nat.pow_mul];exact hn),Nat.add_comm]
    have aC:n+c.toNat%128*128^k<128^ (k+1):=by rw[Nat.pow_succ];omega
    have yn:aJ .rem (v8 c) (v8 128)=some (v8 (c%128)):=CA _ _ (by decide)
    refine ky (aN @cw (aN @yn (aN @hd (aN @hshl @hor)))) ?_
    have dc:decide ((128:UInt8)≤c)=decide (128≤c.toNat):=by simp[UInt8.le_iff_toNat_le]
    cases Gb:decide ((128:UInt8)≤c)
    ·rw[Gb] at dc
     have b_: ¬128≤c.toNat:=of_decide_eq_false dc.symm
     cases hz: (c==0)
     ·have lC: ¬ (c.toNat=0∧0<k):=by
       rintro⟨h0,-⟩
       have:c=0:=UInt8.toNat_inj.1 h0
       rw[this] at hz
       exact absurd hz (by decide)
      refine ky (aN @cw @hz) ?_
      by_cases hm:n+c.toNat%128*128^k≤1099511627775
      ·have e1:decide (((n+c.toNat%128*128^k:Nat):Int)≤1099511627775)=true:=aK oM
       refine ky (aN @cw @e1) ?_
       by_cases nv: ((n+c.toNat%128*128^k:Nat):Int)≤most
       ·refine ky @cw ?_
        rw[Ag rfl (by rw[dF,cK,if_neg b_,if_neg lC,if_pos ⟨hm,nv⟩])]
        refine⟨_,_,_,(ke @cw),rfl,trivial, ?_⟩
        exact⟨rfl,rfl⟩
       refine ky @cw ?_
       refine Ow.callM rfl rfl call155 (by simp[keys]) (fun w' aA=>z6 b s _ 0 4 a w' (aA.has _ _ am)) ?_
       refine ko @cw ?_
       refine ky @cw ?_
       rw[qO (x:=4) rfl (by rw[dF,cK,if_neg b_,if_neg lC,if_neg (fun h=>nv h.2)])]
       refine⟨_,_,_,(ke @cw),rfl,trivial, ?_⟩
       exact⟨rfl,rfl⟩
      have e1:decide (((n+c.toNat%128*128^k:Nat):Int)≤1099511627775)=false:=aO oM
      refine ky (aN @cw @e1) ?_
      refine Ow.callM rfl rfl call155 (by simp[keys]) (fun w' aA=>z6 b s _ 0 4 a w' (aA.has _ _ am)) ?_
      refine ko @cw ?_
      refine ky @cw ?_
      rw[qO (x:=4) rfl (by rw[dF,cK,if_neg b_,if_neg lC,if_neg (fun h=>hm h.1)])]
      refine⟨_,_,_,(ke @cw),rfl,trivial, ?_⟩
      exact⟨rfl,rfl⟩
     have hcz:c=0:=eq_of_beq hz
     have Jk:c.toNat=0:=by rw[hcz];rfl
     refine ky (aN @cw @hz) ?_
     by_cases kh:0<k
     ·refine ky @cw ?_
      refine Jump.mk (NumS.mk false (k+1) n 2) rfl (by show 0<7 - k;omega) ⟨by show a+ (k+1)≤s.length;omega, ?_⟩ rfl rfl
      show cK most (s.drop a) 0 0= .error 2
      rw[dF,cK,if_neg b_,if_pos ⟨Jk,kh⟩]
     have lC: ¬ (c.toNat=0∧0<k):=fun h=>kh h.2
     refine ky @cw ?_
     by_cases hm:n+c.toNat%128*128^k≤1099511627775
     ·have e1:decide (((n+c.toNat%128*128^k:Nat):Int)≤1099511627775)=true:=aK oM
      refine ky (aN @cw @e1) ?_
      by_cases nv: ((n+c.toNat%128*128^k:Nat):Int)≤most
      ·refine ky @cw ?_
       rw[Ag rfl (by rw[dF,cK,if_neg b_,if_neg lC,if_pos ⟨hm,nv⟩])]
       refine⟨_,_,_,(ke @cw),rfl,trivial, ?_⟩
       exact⟨rfl,rfl⟩
      refine ky @cw ?_
      refine Ow.callM rfl rfl call155 (by simp[keys]) (fun w' aA=>z6 b s _ 0 4 a w' (aA.has _ _ am)) ?_
      refine ko @cw ?_
      refine ky @cw ?_
      rw[qO (x:=4) rfl (by rw[dF,cK,if_neg b_,if_neg lC,if_neg (fun h=>nv h.2)])]
      refine⟨_,_,_,(ke @cw),rfl,trivial, ?_⟩
      exact⟨rfl,rfl⟩
     have e1:decide (((n+c.toNat%128*128^k:Nat):Int)≤1099511627775)=false:=aO oM
     refine ky (aN @cw @e1) ?_
     refine Ow.callM rfl rfl call155 (by simp[keys]) (fun w' aA=>z6 b s _ 0 4 a w' (aA.has _ _ am)) ?_
     refine ko @cw ?_
     refine ky @cw ?_
     rw[qO (x:=4) rfl (by rw[dF,cK,if_neg b_,if_neg lC,if_neg (fun h=>hm h.1)])]
     refine⟨_,_,_,(ke @cw),rfl,trivial, ?_⟩
     exact⟨rfl,rfl⟩
    rw[Gb] at dc
    have b_:128≤c.toNat:=of_decide_eq_true dc.symm
    refine ky @cw ?_
    by_cases zw:k=5
    ·refine ky @cw ?_
     refine Jump.mk (NumS.mk false (k+1) n 4) rfl (by show 0<7 - k;omega) ⟨by show a+ (k+1)≤s.length;omega, ?_⟩ rfl rfl
     show cK most (s.drop a) 0 0= .error 4
     rw[dF,cK,if_pos b_,if_pos oM]
    refine ky @cw ?_
    refine Jump.mk (NumS.mk true (k+1) (n+c.toNat%128*128^k) 0) rfl (by show 7 - (k+1)<7 - k;omega) ⟨by show a+ (k+1)≤s.length;omega, ?_⟩ rfl rfl
    show cK most (s.drop a) 0 0=cK most (s.drop (a+ (k+1))) (k+1) (n+c.toNat%128*128^k)∧n+c.toNat%128*128^k<128^ (k+1)∧k+1<6
    refine⟨?_,aC,by omega⟩
    rw[dF,cK,if_pos b_,if_neg oM]
    rfl
  intro key
  have key0:=fun f'=>key (NumS.mk true 0 0 0) f'
  simp only[m9,hasL,Bool.or_false,Bool.false_or,Bool.or_true,Bool.true_or,Nat.reduceBEq,beq_self_eq_true, ↓reduceIte,Bool.false_eq_true] at key0
  clear key
  repeat ((try with_reducible refine Cw.go [999999] ?_);(simp(disch:=first|exact dD|fail) only[↓Sx.S0,Sx.S1,fx,cw,Nat.reduceAdd,Nat.reducePow,Int.reducePow,Nat.reduceBEq, ↓reduceIte,UInt8.reduceToNat,UInt16.reduceToNat,UInt32.reduceToNat,UInt64.reduceToNat,Int.reduceToNat]))
  refine Ow.callFV rfl call154 (fun w' aA=>JE b s a 0 w' (aA.has _ _ am)) ?_
  refine ko @cw ?_
  repeat ((try with_reducible refine Cw.go [999999] ?_);(simp(disch:=first|exact dD|fail) only[↓Sx.S0,Sx.S1,fx,cw,Nat.reduceAdd,Nat.reducePow,Int.reducePow,Nat.reduceBEq, ↓reduceIte,UInt8.reduceToNat,UInt16.reduceToNat,UInt32.reduceToNat,UInt64.reduceToNat,Int.reduceToNat]))
  repeat ((try with_reducible refine Cw.go [999999] ?_);(simp(disch:=first|exact dD|fail) only[↓Sx.S0,Sx.S1,fx,cw,Nat.reduceAdd,Nat.reducePow,Int.reducePow,Nat.reduceBEq, ↓reduceIte,UInt8.reduceToNat,UInt16.reduceToNat,UInt32.reduceToNat,UInt64.reduceToNat,Int.reduceToNat]))
  refine Cw.regionS [b] [0,1,2,4,3,5] [] kR kR kR ?_
  simp only[ai, ↓ah, ↓ab, ↓ag, ↓ae,ac]
  refine kq @cw ?_
  try with_reducible refine Ow.nil ?_
  repeat ((try with_reducible refine Cw.go [999999] ?_);(simp(disch:=first|exact dD|fail) only[↓Sx.S0,Sx.S1,fx,cw,Nat.reduceAdd,Nat.reducePow,Int.reducePow,Nat.reduceBEq, ↓reduceIte,UInt8.reduceToNat,UInt16.reduceToNat,UInt32.reduceToNat,UInt64.reduceToNat,Int.reduceToNat]))
  refine Cw.label ?_
  refine key0 _ ⟨by omega,rfl,by omega,by omega⟩ ?_
  rfl
 refine Cw.scopeS ?_
 refine ky @cw ?_
 refine Ow.callFV rfl call154 (fun w' aA=>JE b s a e w' (aA.has _ _ am)) ?_
 refine ko @cw ?_
 refine ky @cw ?_
 unfold aF
 refine⟨_,_,_,(ke @cw),rfl,trivial, ?_⟩
 simp[he,cM]
def i7:=aN (aN (aN @uX @ua) (aN @uc @ue)) (aN (aN @uY @nilR) (aN @xo (aN @xh @xg)))
theorem wn (most:Int): ∀ (l:List UInt8) (k n m k':Nat),cK most l k n= .ok (m,k')→k<k'∧k'≤k+l.length
 | [],k,n,m,k',h=>by cases h
 |c::r,k,n,m,k',h=>by
  unfold cK at h
  split at h
  ·split at h
   ·cases h
   have:=wn most r (k+1) _ m k' h
   simp only[List.length_cons];omega
  split at h
  ·cases h
  split at h
  ·cases h;simp only[List.length_cons];omega
  cases h
def jf {s:List UInt8} {a:Nat} {e most:Int} (ha:a≤s.length):a≤ (aF s a e most).2.1∧(aF s a e most).2.1≤s.length:=by
 unfold aF
 split
 ·exact⟨bq _,ha⟩
 cases h:cK most (s.drop a) 0 0 with
 |error x=>exact⟨bq _,ha⟩
 |ok p=>
  obtain⟨n,k⟩:=p
  have:=wn most _ _ _ _ _ h
  rw[List.length_drop] at this
  exact⟨by show a≤a+k;omega,by show a+k≤s.length;omega⟩
def zY {s:List UInt8} {a:Nat} {e n:Int} (ha:a≤s.length):a≤ (bS s a e n).2.1∧(bS s a e n).2.1≤s.length:=by
 unfold bS
 split
 ·exact⟨bq _,ha⟩
 split
 ·exact⟨bq _,ha⟩
 split
 ·exact⟨bq _,ha⟩
 exact⟨by show a≤a+n.toNat;omega,by show a+n.toNat≤s.length;omega⟩
def bL (s:List UInt8) (a:Nat) (e most:Int):List UInt8×Nat×Int:=
 let p:=aF s a e most
 let q:=bS s p.2.1 p.2.2 p.1
 if q.2.2≠0 then([],a,q.2.2) else q
def Lv (b:Nat) (s:List UInt8) (a:Nat) (e most:Int) (w:World) (ha:a≤s.length) (hs:s.length<9223372036854775808) (ho:w.heap[b]? =some (.cells #[vs s,vi a,vi e] 239 (0,0))):
  Rets prog 131 #[vp b 0,vi most] w (fun v D=> ∃o,D= [(b,o)]∧v=vs (bL s a e most).1∧o= .cells #[vs s,vi (bL s a e most).2.1,vi (bL s a e most).2.2] 239 (0,0)):=by
 refine Rets.enterM func131 rfl (rs:= [.tmp 4]) results131 ntmps131 ho ?_
 refine kf ?_
 refine ky @i7 ?_
 refine Ow.callFV rfl call156 (fun w' aA=>Un b s a e w' (aA.has _ _ am)) ?_
 refine ko @i7 ?_
 refine ky @i7 ?_
 have hp:=jf (e:=e) (most:=most) ha
 unfold bL
 refine Ow.callM rfl rfl call157 (by simp[keys]) (fun w' aA=>M0 b s a e most w' ha hs (aA.has _ _ am)) ?_
 generalize aF s a e most=p at*
 obtain⟨n,a1,e1⟩:=p
 simp only at hp ⊢
 refine ko @i7 ?_
 refine Ow.callM rfl rfl call130 (by simp[keys]) (fun w' aA=>Lm b s a1 e1 n w' hp.2 hs (aA.has _ _ am)) ?_
 have hq:=zY (e:=e1) (n:=n) hp.2
 generalize bS s a1 e1 n=q at*
 obtain⟨t,a2,e2⟩:=q
 simp only at hq ⊢
 refine ko @i7 ?_
 refine ky @i7 ?_
 by_cases he:e2=0
 ·refine ky @i7 ?_
  refine⟨_,_,_,(ke @i7),rfl,trivial, ?_⟩
  simp[he,cM]
 refine ky @i7 ?_
 refine Ow.minI rfl rfl rfl ?_
 have hmin: (if(a:Int)< (a2:Int) then(a:Int) else(a2:Int))=a:=by split<;>omega
 rw[hmin]
 refine ko @i7 ?_
 refine ky @i7 ?_
 refine⟨_,_,_,(ke @i7),rfl,trivial, ?_⟩
 simp[he,cM]
def z32:List UInt8:=List.replicate 32 0
def idR (s:List UInt8) (a:Nat) (e:Int):List UInt8×Nat×Int:=
 let q:=bS s a e 32
 (if q.1.length=32 then q.1 else z32,q.2)
def EB {s:List UInt8} {a:Nat} {e:Int} (_ha:a≤s.length): (bS s a e 32).1= []∨(bS s a e 32).1.length=32:=by
 unfold bS
 split
 ·exact .inl rfl
 split
 ·exact .inl rfl
 split
 ·exact .inl rfl
 right
 show((s.drop a).take 32).length=32
 rw[List.length_take,List.length_drop];omega
def Wm {t:List UInt8} (h:t= []∨t.length=32):eb (a8 (List.replicate 32 0)) 0 ((t.take (min t.length 32)).map v8)=a8 (if t.length=32 then t else z32):=by
 rcases h with rfl|h
 ·rfl
 rw[if_pos h,h,Nat.min_self,List.take_of_length_le oM]
 have:=Eq (t.map v8) [] ((List.replicate 32 (0:UInt8)).map v8) (by simp[h])
 simp only[List.nil_append,List.length_nil] at this
 show eb ((List.replicate 32 (0:UInt8)).map v8).toArray 0 (t.map v8)=(t.map v8).toArray
 rw[this]
 rw[List.drop_eq_nil_of_le (by simp[h]),List.append_nil]
def wQ (b:Nat) (s:List UInt8) (a:Nat) (e:Int) (w:World) (ha:a≤s.length) (hs:s.length<9223372036854775808) (ho:w.heap[b]? =some (.cells #[vs s,vi a,vi e] 239 (0,0))):
  Rets prog 194 #[vp b 0] w (fun v D=> ∃o,D= [(b,o)]∧v= .agg (a8 (idR s a e).1)∧o= .cells #[vs s,vi (idR s a e).2.1,vi (idR s a e).2.2] 239 (0,0)):=by
 have iJ:=(Array.getElem?_eq_some_iff.1 ho).1
 have hq:=EB (e:=e) ha
 unfold idR
 refine Rets.enterM func194 rfl (rs:= [.cell 2 39]) results194 ntmps194 ho ?_
 refine kf ?_
 refine ky @i7 ?_
 refine Ow.alloc rfl rfl zr39 fun b2 aq bV=> ?_
 refine ko @i7 ?_
 refine ky @i7 ?_
 refine Ow.alloc rfl rfl zr39 fun b3 da dV=> ?_
 obtain⟨xq,zZ,-⟩:=da
 obtain⟨oe,-⟩:=aq
 refine ko @i7 ?_
 refine ky @i7 ?_
 refine Cw.regionS [] [0,1,2,3] [] kR kR kR ?_
 simp only[ai, ↓ah, ↓ab, ↓ag, ↓ae,ac]
 refine kq @i7 ?_
 refine Ow.soft rfl rfl rfl ?_
 refine Ow.callM rfl rfl call130 (by simp[keys]) (fun w' aA=>Lm b s a e 32 w' ha hs (aA.has _ _ am)) ?_
 generalize bS s a e 32=q at*
 obtain⟨t,a2,e2⟩:=q
 simp only at hq ⊢
 try with_reducible refine Ow.nil ?_
 refine⟨fun b hb=>absurd hb (by simp), ?_⟩
 simp(disch:=omega) only[uh]
 refine Ow.soft rfl rfl rfl ?_
 refine Ow.copyText (cs:=a8 (List.replicate 32 0)) (E:=39) (e:=5) rfl rfl underlying180 ag5 rfl rfl (by simp(disch:=omega) only[rl,kH]) (by rw[sg];simp) ?_
 rw[Wm hq]
 have gm: (if t.length=32 then t else z32).length=32:=by
  split
  ·assumption
  simp[z32]
 generalize (if t.length=32 then t else z32)=id at*
 try with_reducible refine Ow.nil ?_
 refine⟨fun b hb=>absurd hb (by simp), ?_⟩
 simp(disch:=omega) only[uh,yy]
 refine kq @i7 ?_
 try with_reducible refine Ow.nil ?_
 refine ky @i7 ?_
 refine⟨_,_,_,(ke @i7),rfl,⟨bV,dV,trivial⟩, ?_⟩
 exact⟨rfl,rfl⟩
def CG (s:List UInt8) (w:World):
  Rets prog 128 #[vs s] w (fun v D=> ∃b,w.heap.size≤b∧v=vp b 0∧D= [(b, .cells #[vs s,vi 0,vi 0] 239 (0,0))]):=by
 refine Rets.enter func128 rfl (rs:= [.tmp 2]) results128 ntmps128 ?_
 refine kf ?_
 refine ky @i7 ?_
 refine Ow.build (.agg #[vs s,vi 0,vi 0]) rfl kR ?_
 refine ko @i7 ?_
 refine Ow.box rfl rfl fun b1 aW aI=> ?_
 refine ko @i7 ?_
 refine ky @i7 ?_
 refine⟨_,(by simp only[BU,CT,EE,cy,dA,Bb];rfl),b1,aI,rfl, ?_⟩
 rfl
def cG:=aN (aN (aN @av @vf) (aN @wL (aN @zG @au))) (aN (aN @uX @ua) (aN @uc (aN @ue @uY)))
def Kh (b:Nat) (s:List UInt8) (a:Nat) (e n:Int) (w:World) (ha:a≤s.length) (hs:s.length<1099511627776) (ho:w.heap[b]? =some (.cells #[vs s,vi a,vi e] 139 (0,0))):
  Rets prog 109 #[vp b 0,vi n] w (fun v D=> ∃o,D= [(b,o)]∧v=vs (bS s a e n).1∧o= .cells #[vs s,vi (bS s a e n).2.1,vi (bS s a e n).2.2] 139 (0,0)):=by
 refine Rets.enterM func109 rfl (rs:= [.tmp 4]) results109 ntmps109 ho ?_
 refine kf ?_
 refine ky @cG ?_
 unfold bS
 by_cases he:e=0
 ·subst he
  rw[if_neg (fun h=>h rfl)]
  refine ky @cG ?_
  by_cases hn:n<0
  ·rw[if_pos hn]
   refine ky @cG ?_
   refine⟨_,_,_,(ke @cG),rfl,trivial, ?_⟩
   exact⟨rfl,rfl⟩
  rw[if_neg hn]
  refine ky @cG ?_
  refine Cw.regionS [b] [0,1,2,5,6,7,10,3,4,8,9,11] [] kR kR kR ?_
  simp only[ai, ↓ah, ↓ab, ↓ag, ↓ae,ac]
  refine kq @cG ?_
  try with_reducible refine Ow.nil ?_
  refine ky @cG ?_
  by_cases hl: (s.length:Int) - a<n
  ·rw[if_pos hl]
   refine ky @cG ?_
   refine⟨_,_,_,(ke @cG),rfl,trivial, ?_⟩
   exact⟨rfl,rfl⟩
  rw[if_neg hl]
  obtain⟨m,rfl⟩: ∃m:Nat,n=(m:Int):=⟨n.toNat,by omega⟩
  refine ky @cG ?_
  refine Cw.regionS [b] [0,1,2,4,5,6,8,9,10,12,3,7,11,13,14,15] [] kR kR kR ?_
  simp only[ai, ↓ah, ↓ab, ↓ag, ↓ae,ac]
  refine kq @cG ?_
  try with_reducible refine Ow.nil ?_
  refine ky @cG ?_
  refine⟨_,_,_,(ke @cG),rfl,trivial, ?_⟩
  refine⟨?_, ?_⟩
  ·simp only[cM,Int.toNat_natCast]
   rw[List.drop_take,Nat.add_sub_cancel_left]
  rw[Int.toNat_natCast,Int.natCast_add]
 rw[if_pos he]
 refine ky @cG ?_
 refine⟨_,_,_,(ke @cG),rfl,trivial, ?_⟩
 exact⟨rfl,rfl⟩
def JS (b:Nat) (s:List UInt8) (a e:Int) (w:World) (ho:w.heap[b]? =some (.cells #[vs s,vi a,vi e] 139 (0,0))):
  Rets prog 73 #[vp b 0] w (fun v D=>v=vi (if e≠0 then e else if a<s.length then 5 else 0)∧D= []):=by
 refine Rets.enterV func73 rfl (rs:= [.tmp 2]) results73 ntmps73 ?_
 refine kf ?_
 refine ky (aN @cG @ho) ?_
 by_cases he:e=0
 ·refine ky @cG ?_
  refine Cw.regionS [b] [0,1,2,4,5,6,3,7,8,9] [] kR kR kR ?_
  simp only[ai, ↓ah, ↓ab, ↓ag, ↓ae,ac]
  refine kq (aN @cG @ho) ?_
  try with_reducible refine Ow.nil ?_
  refine ky @cG ?_
  refine cdC.splitp (fun hc=> ?_) (fun hc=> ?_)
  ·refine ky @cG ?_
   refine⟨_,(ke @cG),trivial, ?_⟩
   simp[hc,he,cM]
  refine ky @cG ?_
  refine⟨_,(ke @cG),trivial, ?_⟩
  simp[hc,he,cM]
 refine ky (aN @cG @ho) ?_
 refine⟨_,(ke @cG),trivial, ?_⟩
 simp[he,cM]
structure KN where
 k:Nat
 n:Nat
def KC (b:Nat) (s:List UInt8) (a:Nat) (e most:Int) (w:World) (ha:a≤s.length) (hs:s.length<1099511627776) (ho:w.heap[b]? =some (.cells #[vs s,vi a,vi e] 139 (0,0))):
  Rets prog 70 #[vp b 0,vi most] w (fun v D=> ∃o,D= [(b,o)]∧v=vi (aF s a e most).1∧o= .cells #[vs s,vi (aF s a e most).2.1,vi (aF s a e most).2.2] 139 (0,0)):=by
 refine Rets.enterM func70 rfl (rs:= [.tmp 4]) results70 ntmps70 ho ?_
 refine kf ?_
 refine ky @cG ?_
 by_cases he:e=0
 ·subst he
  refine ky @cG ?_
  refine Cw.loopG (G:=KN) [14,15,18,19,20,21,22,23,24,25,26,27,28,29,30,31,32,4,33,34,35,36,37,38,39,40,41,42,43,44,8,45,46,47,48,49,50,5,51,52,6,53,54,55,56,57,58,59,60,61,62,63,64,65,66,67,68,69,70,71,72,73,74,75,76,77,78,79,80,81,82,83,84,16,17,7] (fun g=> [(5,vi g.n),(6,vi (128^g.k:Nat)),(7,vi g.k)]) (fun g=> [(b, .cells #[vs s,vi a,vi 0] 139 (0,0))]) (fun g=>g.k≤6∧(g.k<6→cK most (s.drop a) 0 0=cK most (s.drop (a+g.k)) g.k g.n∧a+g.k≤s.length∧g.n<128^g.k)∧(g.k=6→cK most (s.drop a) 0 0= .error 4)) (fun g=>6 - g.k) ⟨0,0⟩ rfl rfl ?_ ?_
  ·exact⟨by simp,fun _=>⟨rfl,by simpa using ha,by simp⟩,fun h=>by cases h⟩
  intro g j hg
  refine kv ?_
  obtain⟨k,n⟩:=g
  simp only at hg ⊢
  obtain⟨ns,jY,kg⟩:=hg
  by_cases hk:k<6
  ·obtain⟨dF,Gz,hn⟩:=jY hk
   refine ky @cG ?_
   refine Cw.regionS [b] [0,1,2,4,6,7,8,3,5,9,10,11] [] kR kR kR ?_
   simp only[ai, ↓ah, ↓ab, ↓ag, ↓ae,ac]
   refine kq @cG ?_
   try with_reducible refine Ow.nil ?_
   refine ky @cG ?_
   by_cases nE:a+k=s.length
   ·refine ky @cG ?_
    rw[qO (x:=3) rfl (by rw[dF,nE,List.drop_length];rfl)]
    refine⟨_,_,_,(ke @cG),rfl,trivial, ?_⟩
    exact⟨rfl,rfl⟩
   have G_:a+k<s.length:=by omega
   have rE:s.drop (a+k)=s.getD (a+k) 0::s.drop (a+k+1):=by
    rw[List.drop_eq_getElem_cons G_,List.getD_eq_getElem?_getD,List.getElem?_eq_getElem G_];rfl
   rw[rE] at dF
   refine ky @cG ?_
   refine Cw.regionS [b] [0,1,2,4,5,6,8,3,7,9,10,11,12] [] kR kR kR ?_
   simp only[ai, ↓ah, ↓ab, ↓ag, ↓ae,ac]
   have HA: ((a:Int)+ (k:Int))=((a+k:Nat):Int):=by omega
   refine kq (aN @cG @HA) ?_
   try with_reducible refine Ow.nil ?_
   generalize s.getD (a+k) 0=c at*
   have hp:128^k≤34359738368:=Nat.pow_le_pow_right oM (show k≤5 by omega)
   have gr:0<128^k:=Nat.pow_pos oM
   have lj:=c.toNat_lt
   have hdm:c.toNat%128*128^k≤127*128^k:=Nat.mul_le_mul_right _ oM
   have yH: ((c.toNat:Int)%128)=((c.toNat%128:Nat):Int):=by omega
   have hmul:aJ .mul (vi ((c.toNat%128:Nat):Int)) (vi ((128^k:Nat):Int))=some (vi ((c.toNat%128*128^k:Nat):Int)):=by
    rw[CL _ _ (by rw[←Int.natCast_mul];omega),←Int.natCast_mul]
   have hpow: (((128^k:Nat):Int)*128)=((128^ (k+1):Nat):Int):=by rw[Nat.pow_succ,Int.natCast_mul];rfl
   have aC:n+c.toNat%128*128^k<128^ (k+1):=by rw[Nat.pow_succ];omega
   refine ky (aN @cG (aN @yH (aN @hmul @hpow))) ?_
   rw[show((n:Int)+ ((c.toNat%128*128^k:Nat):Int))=((n+c.toNat%128*128^k:Nat):Int) from(Int.natCast_add _ _).symm]
   by_cases b_:128≤c.toNat
   ·refine ky @cG ?_
    refine Again.mk (KN.mk (k+1) (n+c.toNat%128*128^k)) (by show 6 - (k+1)<6 - k;omega) ⟨by show k+1≤6;omega,fun h=>⟨?_,by show a+ (k+1)≤s.length;omega,aC⟩,fun h=> ?_⟩ rfl rfl
    ·show cK most (s.drop a) 0 0=cK most (s.drop (a+ (k+1))) (k+1) (n+c.toNat%128*128^k)
     have h':k+1<6:=h
     rw[dF,cK,if_pos b_,if_neg oM]
     rfl
    have h':k+1=6:=h
    rw[dF,cK,if_pos b_,if_pos h']
   by_cases hz:c.toNat=0
   ·have e0: ((c.toNat:Int)==0)=true:=by simp[hz]
    refine ky (aN @cG @e0) ?_
    by_cases kh:0<k
    ·refine ky @cG ?_
     rw[qO (x:=2) rfl (by rw[dF,cK,if_neg b_,if_pos ⟨hz,kh⟩])]
     refine⟨_,_,_,(ke @cG),rfl,trivial, ?_⟩
     exact⟨rfl,rfl⟩
    have lC: ¬ (c.toNat=0∧0<k):=fun h=>kh h.2
    refine ky @cG ?_
    by_cases hm:n+c.toNat%128*128^k≤1099511627775
    ·have e1:decide ((1099511627775:Int)< ((n+c.toNat%128*128^k:Nat):Int))=false:=aO oM
     refine ky (aN @cG @e1) ?_
     by_cases nv: ((n+c.toNat%128*128^k:Nat):Int)≤most
     ·refine ky @cG ?_
      rw[Ag rfl (by rw[dF,cK,if_neg b_,if_neg lC,if_pos ⟨hm,nv⟩])]
      refine⟨_,_,_,(ke @cG),rfl,trivial, ?_⟩
      exact⟨rfl,rfl⟩
     refine ky @cG ?_
     rw[qO (x:=4) rfl (by rw[dF,cK,if_neg b_,if_neg lC,if_neg (fun h=>nv h.2)])]
     refine⟨_,_,_,(ke @cG),rfl,trivial, ?_⟩
     exact⟨rfl,rfl⟩
    have e1:decide ((1099511627775:Int)< ((n+c.toNat%128*128^k:Nat):Int))=true:=aK oM
    refine ky (aN @cG @e1) ?_
    rw[qO (x:=4) rfl (by rw[dF,cK,if_neg b_,if_neg lC,if_neg (fun h=>hm h.1)])]
    refine⟨_,_,_,(ke @cG),rfl,trivial, ?_⟩
    exact⟨rfl,rfl⟩
   have e0: ((c.toNat:Int)==0)=false:=by simp;omega
   have lC: ¬ (c.toNat=0∧0<k):=fun h=>hz h.1
   refine ky (aN @cG @e0) ?_
   by_cases hm:n+c.toNat%128*128^k≤1099511627775
   ·have e1:decide ((1099511627775:Int)< ((n+c.toNat%128*128^k:Nat):Int))=false:=aO oM
    refine ky (aN @cG @e1) ?_
    by_cases nv: ((n+c.toNat%128*128^k:Nat):Int)≤most
    ·refine ky @cG ?_
     rw[Ag rfl (by rw[dF,cK,if_neg b_,if_neg lC,if_pos ⟨hm,nv⟩])]
     refine⟨_,_,_,(ke @cG),rfl,trivial, ?_⟩
     exact⟨rfl,rfl⟩
    refine ky @cG ?_
    rw[qO (x:=4) rfl (by rw[dF,cK,if_neg b_,if_neg lC,if_neg (fun h=>nv h.2)])]
    refine⟨_,_,_,(ke @cG),rfl,trivial, ?_⟩
    exact⟨rfl,rfl⟩
   have e1:decide ((1099511627775:Int)< ((n+c.toNat%128*128^k:Nat):Int))=true:=aK oM
   refine ky (aN @cG @e1) ?_
   rw[qO (x:=4) rfl (by rw[dF,cK,if_neg b_,if_neg lC,if_neg (fun h=>hm h.1)])]
   refine⟨_,_,_,(ke @cG),rfl,trivial, ?_⟩
   exact⟨rfl,rfl⟩
  have yU:k=6:=by omega
  refine ky @cG ?_
  rw[qO (x:=4) rfl (kg yU)]
  refine⟨_,_,_,(ke @cG),rfl,trivial, ?_⟩
  exact⟨rfl,rfl⟩
 refine ky @cG ?_
 unfold aF
 refine⟨_,_,_,(ke @cG),rfl,trivial, ?_⟩
 simp[he,cM]
def jK:=aN (aN (aN @av @vf) (aN @wL (aN @zG @au))) (aN (aN @uX @ua) (aN @uc (aN @ue @uY)))
def KH (b:Nat) (s:List UInt8) (a:Nat) (e most:Int) (w:World) (ha:a≤s.length) (hs:s.length<1099511627776) (ho:w.heap[b]? =some (.cells #[vs s,vi a,vi e] 139 (0,0))):
  Rets prog 71 #[vp b 0,vi most] w (fun v D=> ∃o,D= [(b,o)]∧v=vs (bL s a e most).1∧o= .cells #[vs s,vi (bL s a e most).2.1,vi (bL s a e most).2.2] 139 (0,0)):=by
 refine Rets.enterM func71 rfl (rs:= [.tmp 4]) results71 ntmps71 ho ?_
 refine kf ?_
 refine ky @jK ?_
 by_cases he:e=0
 ·refine ky @jK ?_
  have hp:=jf (e:=e) (most:=most) ha
  unfold bL
  refine Ow.callM rfl rfl call70 (by simp[keys]) (fun w' aA=>KC b s a e most w' ha hs (aA.has _ _ am)) ?_
  generalize aF s a e most=p at*
  obtain⟨n,a1,e1⟩:=p
  simp only at hp ⊢
  refine ko @jK ?_
  refine ky @jK ?_
  refine Ow.callM rfl rfl call109 (by simp[keys]) (fun w' aA=>Kh b s a1 e1 n w' hp.2 hs (aA.has _ _ am)) ?_
  generalize bS s a1 e1 n=q at*
  obtain⟨t,a2,e2⟩:=q
  simp only
  refine ko @jK ?_
  refine ky @jK ?_
  by_cases yL:e2=0
  ·refine ky @jK ?_
   refine⟨_,_,_,(ke @jK),rfl,trivial, ?_⟩
   simp[yL,cM]
  refine ky @jK ?_
  refine⟨_,_,_,(ke @jK),rfl,trivial, ?_⟩
  simp[yL,cM]
 refine ky @jK ?_
 have:bL s a e most=([],a,e):=by
  unfold bL aF bS
  simp[he]
 rw[this]
 refine⟨_,_,_,(ke @jK),rfl,trivial, ?_⟩
 exact⟨rfl,rfl⟩
def kV (t:List UInt8) (g:Nat):List UInt8:=t.take g++List.replicate (32 - g) 0
def T' (t:List UInt8) (g:Nat) (h:g≤t.length) (h2:t.length≤32): (kV t g).length=32:=by
 unfold kV;rw[List.length_append,List.length_take,List.length_replicate];omega
def Qn (t:List UInt8) (g:Nat) (h:g<t.length) (h2:t.length≤32): (kV t g).set g (t.getD g 0)=kV t (g+1):=by
 unfold kV
 have hl: (t.take g).length=g:=by rw[List.length_take];omega
 obtain⟨m,hm⟩: ∃m,32 - g=m+1:=⟨31 - g,by omega⟩
 rw[hm,List.replicate_succ,List.set_append_right _ _ oM,hl,Nat.sub_self,List.set_cons_zero,List.take_succ_eq_append_getElem h,List.getD_eq_getElem?_getD,List.getElem?_eq_getElem h,show 32 - (g+1)=m by omega,List.append_assoc]
 rfl
def RU (t:List UInt8) (h:t= []∨t.length=32):kV t t.length=(if t.length=32 then t else z32):=by
 unfold kV
 rcases h with rfl|h
 ·rfl
 rw[if_pos h,h,List.take_of_length_le oM];simp
def Kr (b:Nat) (s:List UInt8) (a:Nat) (e:Int) (w:World) (ha:a≤s.length) (hs:s.length<1099511627776) (ho:w.heap[b]? =some (.cells #[vs s,vi a,vi e] 139 (0,0))):
  Rets prog 72 #[vp b 0] w (fun v D=> ∃o,D= [(b,o)]∧v= .agg (a8 (idR s a e).1)∧o= .cells #[vs s,vi (idR s a e).2.1,vi (idR s a e).2.2] 139 (0,0)):=by
 have iJ:=(Array.getElem?_eq_some_iff.1 ho).1
 have hq:=EB (e:=e) ha
 unfold idR
 refine Rets.enterM func72 rfl (rs:= [.cell 2 39]) results72 ntmps72 ho ?_
 refine kf ?_
 refine ky @jK ?_
 refine Ow.alloc rfl rfl zr39 fun b2 aq bV=> ?_
 obtain⟨oe,-⟩:=aq
 refine ko @jK ?_
 refine ky @jK ?_
 refine Ow.callM rfl rfl call109 (by simp[keys]) (fun w' aA=>Kh b s a e 32 w' ha hs (aA.has _ _ am)) ?_
 generalize bS s a e 32=q at*
 obtain⟨t,a2,e2⟩:=q
 simp only at hq ⊢
 have I0:t.length≤32:=by rcases hq with rfl|h<;>simp_all
 refine ko @jK ?_
 refine ky @jK ?_
 refine Ow.alloc rfl rfl zr39 fun b3 da dV=> ?_
 refine ko @jK ?_
 obtain⟨xq,zZ,-⟩:=da
 rw[show a8 (List.replicate 32 0)=a8 (kV t 0) from rfl]
 refine ky @jK ?_
 refine Cw.loopG (G:=Nat) [8,9,10,11,14,15,16,17,18,12,13,5] (fun g=> [(5,vi g)]) (fun g=> [(b, .cells #[vs s,vi a2,vi e2] 139 (0,0)),(b2, .cells (a8 z32) 39 (0,0)),(b3, .cells (a8 (kV t g)) 39 (0,0))]) (fun g=>g≤t.length) (fun g=>t.length - g) 0 rfl rfl ?_ ?_
 ·omega
 intro g j hg
 refine kv ?_
 by_cases aC:g<t.length
 ·have gm:=T' t g hg I0
  refine ky @jK ?_
  refine Again.mk (g+1) oM oM ?_ rfl
  rw[Qn t g aC I0]
 obtain rfl:g=t.length:=by omega
 rw[RU t hq]
 have gm: (if t.length=32 then t else z32).length=32:=by
  split
  ·assumption
  simp[z32]
 have hz32:z32.length=32:=by simp[z32]
 generalize (if t.length=32 then t else z32)=id at*
 refine ky @jK ?_
 refine⟨_,_,_,(ke @jK),rfl,⟨bV,dV,trivial⟩, ?_⟩
 exact⟨rfl,rfl⟩
end Go.Proofs
end
section
open Go Go.Proofs Go.Sx Go.StP
namespace Go.Proofs
structure EntL where
 name:List UInt8
 kind:Int
 id:IdL
def bN (r:EntL):List Value:= [vs r.name]++ ([vi r.kind]++ (r.id.l.map v8))
def bu:EntL:=⟨[],0,id0⟩
def ny (r:EntL): (bN r).length=34:=by simp[bN,r.id.h]
def zC (r:EntL):Value.cells (.agg (bN r).toArray)=(bN r).toArray:=aS _
def wl (r:EntL): (bN r).all Value.oneCell'=true:=by
 unfold bN
 simp only[List.all_append,List.all_cons,List.all_nil,qW,Bool.and_true,Bool.true_and]
 rfl
def kU:an prog 141=some (.agg (bN bu).toArray):=id kR
def tS:aR prog 141=some (true,34):=id kR
def tA (r:EntL):bN r=([]:List Value)++ (([vs r.name])++ ([vi r.kind]++ (r.id.l.map v8))):=by
 unfold bN;simp only[List.append_assoc,List.nil_append,List.append_nil]
def LJ (r:EntL) (n:Nat) (E:TypeId) (fz:Nat×Nat):aG (some (false,n)) (some (.cells (bN r).toArray E fz)) 0=some (vs r.name):=by
 rw[tA];exact iR _ _ _ n E fz (by simp)
def Aq {w:World} {v:Value} {l:List EntL} {b off:Nat} {arr:Array Value} {E:TypeId} {fz:Nat×Nat} (h:RowS 34 bN bu w v l b off arr E fz) {k:Nat} (hk:k<l.length) (n:Nat):aG (some (false,n)) (some (.cells arr E fz)) (off+k*34+0)=some (vs (l.getD k bu).name):=by
 rw[RowS.cell h hk oM];generalize l.getD k bu=r;rw[tA];exact vb _ _ _ (by simp)
def BW (r:EntL) (x:List UInt8) (a:Bool) (E:TypeId):ad (some (a,1)) (some (.cells (bN r).toArray E (0,0))) 0 (vs x)=some (.cells (bN {r with name:=x}).toArray E (0,0)):=by
 rw[tA r,tA {r with name:=x}];exact dR _ _ _ _ a _ E (by simp) rfl (rfl) rfl (rfl)
def tK (r:EntL):bN r=(([vs r.name]))++ (([vi r.kind])++ (r.id.l.map v8)):=by
 unfold bN;simp only[List.append_assoc,List.nil_append,List.append_nil]
def La (r:EntL) (n:Nat) (E:TypeId) (fz:Nat×Nat):aG (some (false,n)) (some (.cells (bN r).toArray E fz)) 1=some (vi r.kind):=by
 rw[tK];exact iR _ _ _ n E fz (by simp)
def Eg {w:World} {v:Value} {l:List EntL} {b off:Nat} {arr:Array Value} {E:TypeId} {fz:Nat×Nat} (h:RowS 34 bN bu w v l b off arr E fz) {k:Nat} (hk:k<l.length) (n:Nat):aG (some (false,n)) (some (.cells arr E fz)) (off+k*34+1)=some (vi (l.getD k bu).kind):=by
 rw[RowS.cell h hk oM];generalize l.getD k bu=r;rw[tK];exact vb _ _ _ (by simp)
def BJ (r:EntL) (x:Int) (a:Bool) (E:TypeId):ad (some (a,1)) (some (.cells (bN r).toArray E (0,0))) 1 (vi x)=some (.cells (bN {r with kind:=x}).toArray E (0,0)):=by
 rw[tK r,tK {r with kind:=x}];exact dR _ _ _ _ a _ E (by simp) rfl (rfl) rfl (rfl)
def tL (r:EntL):bN r=(([vs r.name])++ ([vi r.kind]))++ ((r.id.l.map v8)++ (([]:List Value))):=by
 unfold bN;simp only[List.append_assoc,List.nil_append,List.append_nil]
def LB (r:EntL) (E:TypeId) (fz:Nat×Nat):aG (some (true,32)) (some (.cells (bN r).toArray E fz)) 2=some (Value.agg (a8 r.id.l)):=by
 rw[tL,Am _ _ _ E fz (by simp) (by simp[r.id.h])];rfl
def Z7 (r:EntL): (bN r).toArray.extract 2 34=a8 r.id.l:=by
 rw[tL];exact FK (o:=2) (n:=32) _ _ _ (by simp) (by simp[r.id.h])
def UA {w:World} {v:Value} {l:List EntL} {b off:Nat} {arr:Array Value} {E:TypeId} {fz:Nat×Nat} (h:RowS 34 bN bu w v l b off arr E fz) {k:Nat} (hk:k<l.length):aG (some (true,32)) (some (.cells arr E fz)) (off+k*34+2)=some (Value.agg (a8 (l.getD k bu).id.l)):=by
 rw[RowS.part h ny hk oM oM,Z7]
def B_ (r:EntL) (x:IdL) (a:Bool) (E:TypeId):ad (some (a,32)) (some (.cells (bN r).toArray E (0,0))) 2 (Value.agg (a8 x.l))=some (.cells (bN {r with id:=x}).toArray E (0,0)):=by
 rw[tL r,tL {r with id:=x}];exact dR _ _ _ _ a _ E (by simp) (by simp[r.id.h]) (aS _) (by simp[x.h]) (qW _)
def As (r:EntL) (E:TypeId) (fz:Nat×Nat):aG (some (true,34)) (some (.cells (bN r).toArray E fz)) 0=some (.agg (bN r).toArray):=rx _ E fz 34 (by rw[List.size_toArray,ny])
def RD (old:Array Value) (r:EntL) (a:Bool) (E:TypeId) (h:old.size=34):ad (some (a,34)) (some (.cells old E (0,0))) 0 (.agg (bN r).toArray)=some (.cells (bN r).toArray E (0,0)):=vq _ a old E (ny r) (wl r) h
def AG (r r':EntL) (a:Bool) (E:TypeId):ad (some (a,34)) (some (.cells (bN r').toArray E (0,0))) 0 (.agg (bN r).toArray)=some (.cells (bN r).toArray E (0,0)):=RD _ r a E (by rw[List.size_toArray,ny])
def YC {w:World} {v:Value} {l:List EntL} {b off:Nat} {arr:Array Value} {E:TypeId} {fz:Nat×Nat} (h:RowS 34 bN bu w v l b off arr E fz) {k:Nat} (hk:k<l.length):aG (some (true,34)) (some (.cells arr E fz)) (off+k*34)=some (.agg (bN (l.getD k bu)).toArray):=RowS.load h ny oM hk
def Yb (a b:List UInt8): (!(Op.bytesLess a b||a==b))=ltB b a:=by
 cases h:ltB a b
 ·have h':Op.bytesLess a b=false:=h
  rw[h',Bool.false_or]
  by_cases e:a=b
  ·subst e;rw[h];simp
  rw[JI h e];simp[e]
 have h':Op.bytesLess a b=true:=h
 rw[h',DE h];rfl
section
variable {α:Type} {a x m y c:List α} {i k:Nat} {z:α}
end
abbrev Xb (l:List EntL):Prop:=StP.Sorted EntL.name l
abbrev StE (l l':List EntL):Prop:=StP.St EntL.name l l'
abbrev EntS (w:World) (v:Value) (l:List EntL):Prop:=SlV 34 bN bu w v l
def SortOf (l Z:List EntL):Prop:=Z.length=l.length∧Xb Z∧StE l Z
theorem SortOf.eq {l Z Z':List EntL} (h:SortOf l Z) (h':SortOf l Z'):Z=Z':=StP.St.eq h.2.1 h'.2.1 (h.2.2.symm.trans h'.2.2)
end Go.Proofs
end
section
open Go Go.Proofs Go.Sx
namespace Go.Proofs
def badR (c:Int):Bool:=decide (c<33) ||decide (126<c) || (c==47)
def fN (b:UInt8):Bool:=decide (b.toNat<33) ||decide (126<b.toNat) || (b.toNat==47)
def eqb (a b:Bool):bF prog .eql 4 (.bool a) (.bool b)=some (.bool (a==b)):=by
 simp[bF,eqX,eu,eW,underlying4]
def uj (a:Value): (#[a]:Array Value)[0]? =some a:=(rfl)
def eR:=aN (aN (aN @av (aN @vf @wL)) (aN (aN @zG @au) (aN @EA @V1_))) (aN (aN (aN @Wv_ @VI_) (aN @FF @uj)) (aN (aN @Sx.tup3_0 @Sx.tup3_1) (aN @Sx.tup3_2 @eqb)))
def NA (c:Int) (w:World):Rets prog 222 #[jO c] w (fun v D=>v= .bool (badR c)∧D= []):=by
 refine Rets.enterV func222 rfl (rs:= [.tmp 2]) results222 ntmps222 ?_
 refine kf ?_
 unfold badR
 cases h1:decide (c<33)
 ·cases h2:decide (126<c)
  ·refine ky (aN @eR (aN @h1 @h2)) ?_
   refine⟨_,(ke @eR),trivial, ?_⟩
   simp[cM]
  refine ky (aN @eR (aN @h1 @h2)) ?_
  refine⟨_,(ke @eR),trivial, ?_⟩
  simp[cM]
 refine ky (aN @eR @h1) ?_
 refine⟨_,(ke @eR),trivial, ?_⟩
 simp[cM]
def Up (l:List UInt8) (i:Nat) (h:i<l.length):badR ((Utf8.decode ⟨l.toArray⟩ i).1:Nat)=fN (l.getD i 0)∧(fN (l.getD i 0)=false→(Utf8.decode ⟨l.toArray⟩ i).2=1):=by
 obtain⟨h0,h1,h2⟩:=Oj l i h
 by_cases hc: (l.getD i 0).toNat<128
 ·rw[h1 hc]
  refine⟨?_,fun _=>rfl⟩
  unfold badR fN
  congr 1
  ·congr 1
   ·apply decide_eq_decide.2;omega
   apply decide_eq_decide.2;omega
  rw[Bool.eq_iff_iff,beq_iff_eq,beq_iff_eq];omega
 have h2':=h2 oM
 have hb:fN (l.getD i 0)=true:=by
  unfold fN
  rw[aK (show 126< (l.getD i 0).toNat by omega)];simp
 rw[hb]
 refine⟨?_,fun h=>by cases h⟩
 unfold badR
 rw[aK (show(126:Int)< (((Utf8.decode ⟨l.toArray⟩ i).1:Nat):Int) by omega)];simp
def M4 (s:List UInt8) (k:FuncId) (hk: ∀a w,(callFunc k a).run prog w= .ok (.enter k a) w) (hc: ∀c w,Rets prog k #[jO c] w (fun v D=>v= .bool (badR c)∧D= [])) (w:World) (hs:s.length<1099511627776):
  Rets prog 139 #[vs s, .func (.func k) #[] #[], .bool true] w (fun v D=> ∃n:Int,v=vi n∧(0≤n↔s.any fN=true)∧D= []):=by
 refine Rets.mono (S:=fun v D=>(∃n:Int,v=vi n∧(0≤n↔s.any fN=true))∧D= []) ?_ (by rintro v D ⟨⟨n,h1,h2⟩,h3⟩;exact⟨n,h1,h2,h3⟩)
 refine Rets.enterV func139 rfl (rs:= [.tmp 6]) results139 ntmps139 ?_
 refine kf ?_
 refine ky @eR ?_
 refine Ow.rangeText rfl rfl underlying9 rfl fun b1 aW aI=> ?_
 refine ko @eR ?_
 refine ky @eR ?_
 refine Cw.loopG (G:=Nat) [11,12,13,14,7,8,15,16,17,18,19,20,6] (fun g=> []) (fun g=> [(b1, .stringIter ⟨s.toArray⟩ g)]) (fun g=>g≤s.length∧ ∀i,i<g→fN (s.getD i 0)=false) (fun g=>s.length - g) 0 rfl rfl ?_ ?_
 ·exact⟨by omega,fun i hi=>by omega⟩
 intro g j hg
 refine kv ?_
 obtain⟨Jt,lq⟩:=hg
 by_cases aC:g<s.length
 ·have nn:=Up s g aC
  refine ky @eR ?_
  refine Ow.nextText rfl rfl rfl (kH _ _ _) aC ?_
  rw[uh]
  generalize zo:Utf8.decode ⟨s.toArray⟩ g=dd at*
  obtain⟨c,n⟩:=dd
  simp only at nn ⊢
  refine ko @eR ?_
  refine ky @eR ?_
  refine Ow.callFn1 (v:= .bool (badR c)) (k:=k) rfl rfl rfl hk (fun w' aA=>hc _ w') ?_
  rw[nn.1]
  refine ko @eR ?_
  cases yA:fN (s.getD g 0)
  ·refine ky @eR ?_
   refine Again.mk (g+1) oM ⟨by omega,fun i hi=> ?_⟩ ?_ rfl
   ·by_cases hig:i=g
    ·rw[hig];exact yA
    exact lq i oM
   rw[nn.2 yA]
  refine ky @eR ?_
  refine⟨_,(ke @eR),⟨aI,trivial⟩, ?_⟩
  refine⟨(g:Int),rfl,⟨fun _=> ?_,fun _=>by omega⟩⟩
  rw[List.any_eq_true]
  refine⟨s.getD g 0, ?_,yA⟩
  rw[List.getD_eq_getElem?_getD,List.getElem?_eq_getElem aC]
  exact List.getElem_mem aC
 obtain rfl:g=s.length:=by omega
 refine ky @eR ?_
 refine Ow.nextOver rfl rfl rfl (kH _ _ _) aC ?_
 refine ko @eR ?_
 refine ky @eR ?_
 refine⟨_,(ke @eR),⟨aI,trivial⟩, ?_⟩
 refine⟨-1,rfl,⟨fun h=>by omega,fun h=> ?_⟩⟩
 rw[List.any_eq_true] at h
 obtain⟨x,hx,hxb⟩:=h
 obtain⟨i,hi,rfl⟩:=List.getElem_of_mem hx
 have:=lq i hi
 rw[List.getD_eq_getElem?_getD,List.getElem?_eq_getElem hi] at this
 exact absurd hxb (by simpa using this)
def ML (s:List UInt8) (k:FuncId) (hk: ∀a w,(callFunc k a).run prog w= .ok (.enter k a) w) (hc: ∀c w,Rets prog k #[jO c] w (fun v D=>v= .bool (badR c)∧D= [])) (w:World) (hs:s.length<1099511627776):
  Rets prog 108 #[vs s, .func (.func k) #[] #[]] w (fun v D=> ∃n:Int,v=vi n∧(0≤n↔s.any fN=true)∧D= []):=by
 refine Rets.mono (S:=fun v D=>(∃n:Int,v=vi n∧(0≤n↔s.any fN=true))∧D= []) ?_ (by rintro v D ⟨⟨n,h1,h2⟩,h3⟩;exact⟨n,h1,h2,h3⟩)
 refine Rets.enterV func108 rfl (rs:= [.tmp 4]) results108 ntmps108 ?_
 refine kf ?_
 refine ky @eR ?_
 refine Ow.callF rfl rfl call139 (S:=fun _ v D=> ∃n:Int,v=vi n∧(0≤n↔s.any fN=true)∧D= []) (fun w' aA=>M4 s k hk hc w' hs) ?_
 rintro B v D - - ⟨n,rfl,hn,rfl⟩
 refine⟨_,Mrg.nil, ?_⟩
 refine ko @eR ?_
 refine ky @eR ?_
 refine⟨_,(ke @eR),trivial, ?_⟩
 exact⟨n,rfl,hn⟩
def wV_ (s:List UInt8) (k:FuncId) (hk: ∀a w,(callFunc k a).run prog w= .ok (.enter k a) w) (hc: ∀c w,Rets prog k #[jO c] w (fun v D=>v= .bool (badR c)∧D= [])) (w:World) (hs:s.length<1099511627776):
  Rets prog 67 #[vs s, .func (.func k) #[] #[]] w (fun v D=>v= .bool (s.any fN)∧D= []):=by
 refine Rets.enterV func67 rfl (rs:= [.tmp 4]) results67 ntmps67 ?_
 refine kf ?_
 refine ky @eR ?_
 refine Ow.callF rfl rfl call108 (S:=fun _ v D=> ∃n:Int,v=vi n∧(0≤n↔s.any fN=true)∧D= []) (fun w' aA=>ML s k hk hc w' hs) ?_
 rintro B v D - - ⟨n,rfl,hn,rfl⟩
 refine⟨_,Mrg.nil, ?_⟩
 refine ko @eR ?_
 refine ky @eR ?_
 refine⟨_,(ke @eR),trivial, ?_⟩
 exact congrArg Value.bool (by rw[Bool.eq_iff_iff,decide_eq_true_eq];exact hn)
def OQ (s:List UInt8) (w:World) (hs:s.length<1099511627776):
  Rets prog 213 #[vs s] w (fun v D=>v= .bool (!(s== [])&&decide (s.length≤32)&& !(s.any fN))∧D= []):=by
 refine Rets.enterV func213 rfl (rs:= [.tmp 2]) results213 ntmps213 ?_
 refine kf ?_
 cases h0: (s != [])
 ·have e0: (s== [])=true:=by simpa using h0
  refine ky (aN @eR @h0) ?_
  refine⟨_,(ke @eR),trivial, ?_⟩
  simp[cM,e0]
 have e0: (s== [])=false:=by simpa using h0
 cases h1:decide ((s.length:Int)≤32)
 ·have e1:decide (s.length≤32)=false:=aO (by have:=of_decide_eq_false h1;omega)
  refine ky (aN @eR (aN @h0 @h1)) ?_
  refine⟨_,(ke @eR),trivial, ?_⟩
  simp only[cM,e0,e1,Bool.not_false,Bool.true_and,Bool.false_and,Bool.and_false]
 have e1:decide (s.length≤32)=true:=aK (by have:=of_decide_eq_true h1;omega)
 refine ky (aN @eR (aN @h0 @h1)) ?_
 refine Ow.callFV rfl call67 (fun w' aA=>wV_ s 222 call222 NA w' hs) ?_
 refine ko @eR ?_
 refine ky @eR ?_
 refine⟨_,(ke @eR),trivial, ?_⟩
 simp only[cM,e0,e1,Bool.not_false,Bool.true_and]
def py:=aN (aN @av @vf) (aN @wL (aN @zG @au))
def lT (s:List UInt8):Bool:= !(s== [])&&decide (s.length≤32)&& !(s.any fN)
def Fh (c:UInt8):fN c=(decide (c<33) ||decide (126<c) || (c==47)):=by
 unfold fN
 congr 1
 rw[Bool.eq_iff_iff,beq_iff_eq,beq_iff_eq,←UInt8.toNat_inj];rfl
def N0 (s:List UInt8) (w:World) (hs:s.length<1099511627776):
  Rets prog 110 #[vs s] w (fun v D=>v= .bool (lT s)∧D= []):=by
 refine Rets.enterV func110 rfl (rs:= [.tmp 2]) results110 ntmps110 ?_
 refine kf ?_
 refine ky @py ?_
 refine Cw.loopG (G:=Nat) [4,5,6,7,10,11,12,13,14,15,16,17,18,19,20,21,22,23,24,25,2,8,9,3] (fun g=> [(3,vi g)]) (fun g=> []) (fun g=>g≤s.length∧ ∀i,i<g→fN (s.getD i 0)=false) (fun g=>s.length - g) 0 rfl rfl ?_ ?_
 ·exact⟨by omega,fun i hi=>by omega⟩
 intro g j hg
 refine kv ?_
 obtain⟨Jt,lq⟩:=hg
 by_cases aC:g<s.length
 ·have hb:=Fh (s.getD g 0)
  have y9:fN (s.getD g 0)=true→lT s=false:=by
   intro h
   have:s.any fN=true:=List.any_eq_true.2 ⟨s.getD g 0,by rw[List.getD_eq_getElem?_getD,List.getElem?_eq_getElem aC];exact List.getElem_mem aC,h⟩
   unfold lT
   rw[this];simp
  have dF:fN (s.getD g 0)=false→ ∀i,i<g+1→fN (s.getD i 0)=false:=fun h i hi=>by
   by_cases hig:i=g
   ·rw[hig];exact h
   exact lq i oM
  generalize hc:s.getD g 0=c at*
  cases h1:decide (c<33)
  ·cases h2:decide (126<c)
   ·cases h3: (c==47)
    ·refine ky (aN @py (aN @hc (aN @h1 (aN @h2 @h3)))) ?_
     refine Again.mk (g+1) oM ⟨by omega,dF (by rw[hb,h1,h2,h3];rfl)⟩ rfl rfl
    refine ky (aN @py (aN @hc (aN @h1 (aN @h2 @h3)))) ?_
    rw[y9 (by rw[hb,h1,h2,h3];rfl)]
    refine⟨_,(ke @py),trivial, ?_⟩
    rfl
   refine ky (aN @py (aN @hc (aN @h1 @h2))) ?_
   rw[y9 (by rw[hb,h1,h2];rfl)]
   refine⟨_,(ke @py),trivial, ?_⟩
   rfl
  refine ky (aN @py (aN @hc @h1)) ?_
  rw[y9 (by rw[hb,h1];simp)]
  refine⟨_,(ke @py),trivial, ?_⟩
  rfl
 obtain rfl:g=s.length:=by omega
 have y6:s.any fN=false:=by
  rw[List.any_eq_false]
  intro x hx
  obtain⟨i,hi,rfl⟩:=List.getElem_of_mem hx
  have:=lq i hi
  rw[List.getD_eq_getElem?_getD,List.getElem?_eq_getElem hi] at this
  simpa using this
 unfold lT
 rw[y6]
 cases h1:decide (1≤ (s.length:Int))
 ·have e0: (s== [])=true:=by
   have:=of_decide_eq_false h1
   rw[List.eq_nil_of_length_eq_zero (show s.length=0 by omega)];rfl
  refine ky (aN @py @h1) ?_
  refine⟨_,(ke @py),trivial, ?_⟩
  simp only[cM,e0,Bool.not_true,Bool.false_and]
 have e0: (s== [])=false:=by
  have:=of_decide_eq_true h1
  cases s with
  |nil=>simp at this
  |cons x r=>rfl
 have e1:decide ((s.length:Int)≤32)=decide (s.length≤32):=decide_eq_decide.2 oM
 refine ky (aN @py @h1) ?_
 refine⟨_,(ke @py),trivial, ?_⟩
 simp only[cM,e0,e1,Bool.not_false,Bool.true_and,Bool.and_true]
end Go.Proofs
end
section
open Go Go.Proofs Go.Sx Go.StP
namespace Go.Proofs
def eY (l:List EntL) (i:Nat):Bool:=
 lT (l.getD i bu).name&& ((l.getD i bu).kind==1|| (l.getD i bu).kind==2)&& (i==0||ltB (l.getD (i - 1) bu).name (l.getD i bu).name)
def nY (l:List EntL):Bool:=decide (l.length≤32)&& (List.range l.length).all (eY l)
def vX {l:List EntL} {k:Nat} (hk:k<l.length) (h:eY l k=false):nY l=false:=by
 unfold nY
 have: (List.range l.length).all (eY l)=false:=by
  rw[List.all_eq_false]
  exact⟨k,List.mem_range.2 hk,by simp[h]⟩
 rw[this,Bool.and_false]
def C9 {l:List EntL} (h: ∀i,i<l.length→eY l i=true):nY l=decide (l.length≤32):=by
 unfold nY
 have: (List.range l.length).all (eY l)=true:=List.all_eq_true.2 fun i hi=>h i (List.mem_range.1 hi)
 rw[this,Bool.and_true]
def jI:=aN (aN (aN @LJ @La) (aN @LB @As)) (aN (aN @AG @zC) (aN @av @au))
def qZ (l:List EntL):Prop:= ∀i,i<l.length→(l.getD i bu).name.length<1099511627776
def Nk (s:List UInt8) (w:World) (hs:s.length<1099511627776):Rets prog 213 #[vs s] w (fun v D=>v= .bool (lT s)∧D= []):=OQ s w hs
def tI {a b:Int} {c:Bool} (h: (a !=b)=c): (a==b)= !c:=by rw[←h];simp[bne]
def NQ (v:Value) (l:List EntL) (w:World) (hv:EntS w v l) (hl:l.length<1000000) (gw:qZ l):
  Rets prog 195 #[v] w (fun v' D=>v'= .bool (nY l)∧D= []):=by
 obtain⟨b,off,arr,E,fz,hr⟩:=hv.row
 have ln:=hv.len
 refine Rets.enterV func195 rfl (rs:= [.tmp 2]) results195 ntmps195 ?_
 refine kf ?_
 refine ky (aN @jI @ln) ?_
 refine Cw.loopG (G:=Nat) [8,9,10,11,4,3,12,13,14,15,16,17,18,19,20,21,22,23,24,25,26,27,28,29,30,31,32,33,34,35,36,37,38,39,40,2,41,7] (fun g=> [(7,vi g)]) (fun g=> []) (fun g=>g≤l.length∧ ∀i,i<g→eY l i=true) (fun g=>l.length - g) 0 rfl rfl ?_ ?_
 ·exact⟨aV _,fun i hi=>absurd hi (Nat.not_lt_zero i)⟩
 intro k jk hk
 refine kv ?_
 obtain⟨h1,h2⟩:=hk
 by_cases hk:k<l.length
 ·have h0:0<l.length:=by omega
  have iJ:=hr.lt h0
  have r2:=hr.has h0
  have i2:=hr.idx true k hk
  have l2:=YC hr hk
  refine kz [6] (aN @jI (aN @r2 (aN @i2 @l2))) ?_
  refine Ow.alloc rfl rfl kU fun b4 g4 cr=> ?_
  simp only[aS,List.nil_append,List.cons_append]
  have hn4:b4≠b:=by omega
  refine ko @jI ?_
  have hs:=gw k hk
  refine Cw.regionS [b4,b] [0,1,2,3,4,5,6,7,8,9,10,11,12,13,14,15,16,17,18,19,20,21,22,24,23,25,26,27,28] [] kR kR kR ?_
  simp only[ai, ↓ah, ↓ab, ↓ag, ↓ae,ac]
  refine kq @jI ?_
  refine Ow.callFV rfl call213 (fun w' aA=>Nk (l.getD k bu).name w' hs) ?_
  cases hn:lT (l.getD k bu).name
  ·have e0:eY l k=false:=by unfold eY;rw[hn];rfl
   rw[vX hk e0]
   refine kq @jI ?_
   refine⟨_,(ke @jI),⟨cr,trivial⟩, ?_⟩
   rfl
  cases cS: ((l.getD k bu).kind !=1)
  ·have nt: ((l.getD k bu).kind==1|| (l.getD k bu).kind==2)=true:=by rw[tI cS];rfl
   by_cases uv:k=0
   ·have d1:decide ((0:Int)< (k:Int))=false:=aO oM
    have e1:eY l k=true:=by unfold eY;rw[hn,nt,uv];rfl
    refine kq (aN @jI (aN @cS @d1)) ?_
    refine Cw.forgetN [] (by exact⟨cr,trivial⟩) (by intro p hp;simp only[List.mem_cons,List.not_mem_nil,or_false] at hp ⊢;all_goals (first| (rcases hp with rfl|hp<;>simp_all) | (subst hp;simp) |simp_all)) (by simp[keys]<;>omega) ?_
    refine ky @jI ?_
    exact Again.mk (k+1) oM ⟨by omega,fun i hi=>by
     rcases Nat.lt_succ_iff_lt_or_eq.1 hi with h|rfl
     ·exact h2 i h
     exact e1⟩ rfl rfl
   have d1:decide ((0:Int)< (k:Int))=true:=aK oM
   have i3:i_ (.sl (true,34)) v (some ((k:Int) - 1))=some (vp b (off+ (k - 1)*34)):=by
    rw[show(k:Int) - 1=((k - 1:Nat):Int) by omega];exact hr.idx true (k - 1) oM
   have l3: ∀n,aG (some (false,n)) (some (.cells arr E fz)) (off+ (k - 1)*34)=some (vs (l.getD (k - 1) bu).name):=fun n=>Aq hr (show k - 1<l.length by omega) n
   have ek: (k==0)=false:=beq_eq_false_iff_ne.2 uv
   cases k7:Op.bytesLess (l.getD (k - 1) bu).name (l.getD k bu).name
   ·have e1:eY l k=false:=by unfold eY;rw[hn,nt,ek];exact k7
    rw[vX hk e1]
    refine kq (aN @jI (aN @cS (aN @d1 (aN @i3 (aN @r2 (aN @l3 @k7)))))) ?_
    refine⟨_,(ke @jI),⟨cr,trivial⟩, ?_⟩
    rfl
   have e1:eY l k=true:=by unfold eY;rw[hn,nt,ek];exact k7
   refine kq (aN @jI (aN @cS (aN @d1 (aN @i3 (aN @r2 (aN @l3 @k7)))))) ?_
   refine Cw.forgetN [] (by exact⟨cr,trivial⟩) (by intro p hp;simp only[List.mem_cons,List.not_mem_nil,or_false] at hp ⊢;all_goals (first| (rcases hp with rfl|hp<;>simp_all) | (subst hp;simp) |simp_all)) (by simp[keys]<;>omega) ?_
   refine ky @jI ?_
   exact Again.mk (k+1) oM ⟨by omega,fun i hi=>by
    rcases Nat.lt_succ_iff_lt_or_eq.1 hi with h|rfl
    ·exact h2 i h
    exact e1⟩ rfl rfl
  cases cZ: ((l.getD k bu).kind !=2)
  ·have nt: ((l.getD k bu).kind==1|| (l.getD k bu).kind==2)=true:=by rw[tI cZ];simp
   by_cases uv:k=0
   ·have d1:decide ((0:Int)< (k:Int))=false:=aO oM
    have e1:eY l k=true:=by unfold eY;rw[hn,nt,uv];rfl
    refine kq (aN @jI (aN @cS (aN @cZ @d1))) ?_
    refine Cw.forgetN [] (by exact⟨cr,trivial⟩) (by intro p hp;simp only[List.mem_cons,List.not_mem_nil,or_false] at hp ⊢;all_goals (first| (rcases hp with rfl|hp<;>simp_all) | (subst hp;simp) |simp_all)) (by simp[keys]<;>omega) ?_
    refine ky @jI ?_
    exact Again.mk (k+1) oM ⟨by omega,fun i hi=>by
     rcases Nat.lt_succ_iff_lt_or_eq.1 hi with h|rfl
     ·exact h2 i h
     exact e1⟩ rfl rfl
   have d1:decide ((0:Int)< (k:Int))=true:=aK oM
   have i3:i_ (.sl (true,34)) v (some ((k:Int) - 1))=some (vp b (off+ (k - 1)*34)):=by
    rw[show(k:Int) - 1=((k - 1:Nat):Int) by omega];exact hr.idx true (k - 1) oM
   have l3: ∀n,aG (some (false,n)) (some (.cells arr E fz)) (off+ (k - 1)*34)=some (vs (l.getD (k - 1) bu).name):=fun n=>Aq hr (show k - 1<l.length by omega) n
   have ek: (k==0)=false:=beq_eq_false_iff_ne.2 uv
   cases k7:Op.bytesLess (l.getD (k - 1) bu).name (l.getD k bu).name
   ·have e1:eY l k=false:=by unfold eY;rw[hn,nt,ek];exact k7
    rw[vX hk e1]
    refine kq (aN @jI (aN @cS (aN @cZ (aN @d1 (aN @i3 (aN @r2 (aN @l3 @k7))))))) ?_
    refine⟨_,(ke @jI),⟨cr,trivial⟩, ?_⟩
    rfl
   have e1:eY l k=true:=by unfold eY;rw[hn,nt,ek];exact k7
   refine kq (aN @jI (aN @cS (aN @cZ (aN @d1 (aN @i3 (aN @r2 (aN @l3 @k7))))))) ?_
   refine Cw.forgetN [] (by exact⟨cr,trivial⟩) (by intro p hp;simp only[List.mem_cons,List.not_mem_nil,or_false] at hp ⊢;all_goals (first| (rcases hp with rfl|hp<;>simp_all) | (subst hp;simp) |simp_all)) (by simp[keys]<;>omega) ?_
   refine ky @jI ?_
   exact Again.mk (k+1) oM ⟨by omega,fun i hi=>by
    rcases Nat.lt_succ_iff_lt_or_eq.1 hi with h|rfl
    ·exact h2 i h
    exact e1⟩ rfl rfl
  have e0:eY l k=false:=by
   unfold eY
   rw[hn,tI cS,tI cZ];rfl
  rw[vX hk e0]
  refine kq (aN @jI (aN @cS @cZ)) ?_
  refine⟨_,(ke @jI),⟨cr,trivial⟩, ?_⟩
  rfl
 obtain rfl:k=l.length:=by omega
 rw[C9 h2]
 refine ky (aN @jI @ln) ?_
 refine⟨_,(ke @jI),trivial, ?_⟩
 exact congrArg Value.bool (decide_eq_decide.2 oM)
def m6:=aN (aN (aN @LJ @La) (aN @LB @As)) (aN (aN @AG @zC) (aN @av @au))
def F7 (a b:List UInt8): (Op.bytesLess a b||a==b)= !ltB b a:=by rw[←Yb,Bool.not_not]
def MK (v:Value) (l:List EntL) (w:World) (hv:EntS w v l) (hl:l.length<1000000) (gw:qZ l):
  Rets prog 74 #[v] w (fun v' D=>v'= .bool (nY l)∧D= []):=by
 obtain⟨b,off,arr,E,fz,hr⟩:=hv.row
 have ln:=hv.len
 refine Rets.enterV func74 rfl (rs:= [.tmp 2]) results74 ntmps74 ?_
 refine kf ?_
 by_cases h32:32<l.length
 ·refine ky (aN @m6 @ln) ?_
  have:nY l=false:=by unfold nY;rw[aO oM,Bool.false_and]
  rw[this]
  refine⟨_,(ke @m6),trivial, ?_⟩
  rfl
 refine ky (aN @m6 @ln) ?_
 refine Cw.loopG (G:=Nat) [7,8,9,10,13,14,15,16,17,18,19,20,21,22,23,24,25,26,27,28,29,30,31,32,33,34,35,2,36,37,38,39,40,41,42,43,44,45,46,47,48,49,50,51,11,12,3] (fun g=> [(3,vi g)]) (fun g=> []) (fun g=>g≤l.length∧ ∀i,i<g→eY l i=true) (fun g=>l.length - g) 0 rfl rfl ?_ ?_
 ·exact⟨aV _,fun i hi=>absurd hi (Nat.not_lt_zero i)⟩
 intro k jk hk
 refine kv ?_
 obtain⟨h1,h2⟩:=hk
 by_cases hk:k<l.length
 ·have h0:0<l.length:=by omega
  have iJ:=hr.lt h0
  have r2:=hr.has h0
  have i2:=hr.idx true k hk
  have m0: ∀n,aG (some (false,n)) (some (.cells arr E fz)) (off+k*34)=some (vs (l.getD k bu).name):=fun n=>Aq hr hk n
  have m1: ∀n,aG (some (false,n)) (some (.cells arr E fz)) (off+k*34+1)=some (vi (l.getD k bu).kind):=fun n=>Eg hr hk n
  have hs:=gw k hk
  refine ky (aN @m6 (aN @ln (aN @r2 (aN @i2 (aN @m0 @m1))))) ?_
  refine Ow.callFV rfl call110 (fun w' aA=>N0 (l.getD k bu).name w' hs) ?_
  cases hn:lT (l.getD k bu).name
  ·have e0:eY l k=false:=by unfold eY;rw[hn];rfl
   rw[vX hk e0]
   refine ko @m6 ?_
   refine⟨_,(ke @m6),trivial, ?_⟩
   rfl
  cases cS:decide ((l.getD k bu).kind<1)
  ·cases cZ:decide (2< (l.getD k bu).kind)
   ·have nt: ((l.getD k bu).kind==1|| (l.getD k bu).kind==2)=true:=by
     have q1:=of_decide_eq_false cS
     have q2:=of_decide_eq_false cZ
     rcases(show(l.getD k bu).kind=1∨(l.getD k bu).kind=2 by omega) with h|h<;>rw[h]<;>rfl
    refine ko (aN @m6 (aN @r2 (aN @i2 (aN @m0 (aN @m1 (aN @cS @cZ)))))) ?_
    by_cases uv:k=0
    ·have d1:decide ((0:Int)< (k:Int))=false:=aO oM
     have e1:eY l k=true:=by unfold eY;rw[hn,nt,uv];rfl
     refine Cw.regionS [b] [0,1,2,3,4,5,6,8,9,10,11,12,7,13,14,15] [] kR kR kR ?_
     simp only[ai, ↓ah, ↓ab, ↓ag, ↓ae,ac]
     refine kq (aN @m6 @d1) ?_
     exact Again.mk (k+1) oM ⟨by omega,fun i hi=>by
      rcases Nat.lt_succ_iff_lt_or_eq.1 hi with h|rfl
      ·exact h2 i h
      exact e1⟩ rfl rfl
    have d1:decide ((0:Int)< (k:Int))=true:=aK oM
    have i3:i_ (.sl (true,34)) v (some ((k:Int) - 1))=some (vp b (off+ (k - 1)*34)):=by
     rw[show(k:Int) - 1=((k - 1:Nat):Int) by omega];exact hr.idx true (k - 1) oM
    have l3: ∀n,aG (some (false,n)) (some (.cells arr E fz)) (off+ (k - 1)*34)=some (vs (l.getD (k - 1) bu).name):=fun n=>Aq hr (show k - 1<l.length by omega) n
    have ek: (k==0)=false:=beq_eq_false_iff_ne.2 uv
    cases k7:ltB (l.getD (k - 1) bu).name (l.getD k bu).name
    ·have e1:eY l k=false:=by unfold eY;rw[hn,nt,ek];exact k7
     rw[vX hk e1]
     refine Cw.regionS [b] [0,1,2,3,4,5,6,8,9,10,11,12,7,13,14,15] [] kR kR kR ?_
     simp only[ai, ↓ah, ↓ab, ↓ag, ↓ae,ac]
     refine kq (aN @m6 (aN @d1 (aN @i2 (aN @i3 (aN @r2 (aN @m0 (aN @l3 (aN @F7 @k7)))))))) ?_
     refine⟨_,(ke @m6),trivial, ?_⟩
     rfl
    have e1:eY l k=true:=by unfold eY;rw[hn,nt,ek];exact k7
    refine Cw.regionS [b] [0,1,2,3,4,5,6,8,9,10,11,12,7,13,14,15] [] kR kR kR ?_
    simp only[ai, ↓ah, ↓ab, ↓ag, ↓ae,ac]
    refine kq (aN @m6 (aN @d1 (aN @i2 (aN @i3 (aN @r2 (aN @m0 (aN @l3 (aN @F7 @k7)))))))) ?_
    exact Again.mk (k+1) oM ⟨by omega,fun i hi=>by
     rcases Nat.lt_succ_iff_lt_or_eq.1 hi with h|rfl
     ·exact h2 i h
     exact e1⟩ rfl rfl
   have e0:eY l k=false:=by
    have q2:=of_decide_eq_true cZ
    unfold eY
    rw[hn,show((l.getD k bu).kind==1)=false from beq_eq_false_iff_ne.2 oM,show((l.getD k bu).kind==2)=false from beq_eq_false_iff_ne.2 oM];rfl
   rw[vX hk e0]
   refine ko (aN @m6 (aN @r2 (aN @i2 (aN @m0 (aN @m1 (aN @cS @cZ)))))) ?_
   refine⟨_,(ke @m6),trivial, ?_⟩
   rfl
  have e0:eY l k=false:=by
   have q2:=of_decide_eq_true cS
   unfold eY
   rw[hn,show((l.getD k bu).kind==1)=false from beq_eq_false_iff_ne.2 oM,show((l.getD k bu).kind==2)=false from beq_eq_false_iff_ne.2 oM];rfl
  rw[vX hk e0]
  refine ko (aN @m6 (aN @r2 (aN @i2 (aN @m0 (aN @m1 @cS))))) ?_
  refine⟨_,(ke @m6),trivial, ?_⟩
  rfl
 obtain rfl:k=l.length:=by omega
 rw[C9 h2,show decide (l.length≤32)=true from aK oM]
 refine ky (aN @m6 @ln) ?_
 refine⟨_,(ke @m6),trivial, ?_⟩
 rfl
def pJ (x:IdL): (eT x).length=32:=by simp[eT,x.h]
def A_ (x:IdL): (eT x).all Value.oneCell'=true:=qW _
abbrev IdS (w:World) (v:Value) (l:List IdL):Prop:=SlV 32 eT id0 w v l
def su {w:World} {v:Value} {l:List IdL} {b off:Nat} {arr:Array Value} {E:TypeId} {fz:Nat×Nat} (h:RowS 32 eT id0 w v l b off arr E fz) {k:Nat} (hk:k<l.length):
  aG (some (true,32)) (some (.cells arr E fz)) (off+k*32)=some (.agg (a8 (l.getD k id0).l)):=RowS.load h pJ oM hk
def qw (a b:IdL):bF prog .eql 39 (.agg (a8 a.l)) (.agg (a8 b.l))=some (.bool (a.l==b.l)):=
 Xc underlying39 underlying5 ag5 kR a.l b.l ⟨a.h,b.h⟩
def qt (a b:IdL):bF prog .neq 39 (.agg (a8 a.l)) (.agg (a8 b.l))=some (.bool (!(a.l==b.l))):=
 UG underlying39 underlying5 ag5 kR a.l b.l ⟨a.h,b.h⟩
instance:DecidableEq IdL:=fun a b=>if h:a.l=b.l then .isTrue (by cases a;cases b;simp only at h;subst h;rfl) else .isFalse (fun e=>h (by rw[e]))
def IdL.ext' {a b:IdL} (h:a.l=b.l):a=b:=by cases a;cases b;simp only at h;subst h;rfl
def idxG (x:IdL):List IdL→Nat→Int
 | [],_=> -1
 |y::r,i=>if x.l==y.l then(i:Int) else idxG x r (i+1)
def TL (x y:IdL) (r:List IdL) (i:Nat):idxG x (y::r) i=if x.l==y.l then(i:Int) else idxG x r (i+1):=rfl
theorem Du (x:IdL): ∀ (l:List IdL) (i:Nat),decide (0≤idxG x l i)=l.any fun y=>x.l==y.l
 | [],_=>rfl
 |y::r,i=>by
  unfold idxG
  rw[List.any_cons]
  cases h: (x.l==y.l)
  ·rw[if_neg (by simp),Bool.false_or];exact Du x r (i+1)
  rw[if_pos rfl,Bool.true_or,aK oM]
def nz (x:IdL) (E:TypeId) (fz:Nat×Nat):aG (some (true,32)) (some (.cells (a8 x.l) E fz)) 0=some (.agg (a8 x.l)):=Lc _ E fz 32 x.h
def i8:=aN (aN @qw @qt) (aN @nz (aN @av @au))
def NN (v:Value) (l:List IdL) (x:IdL) (w:World) (hv:IdS w v l) (hl:l.length<1000000):
  Rets prog 223 #[v, .agg (a8 x.l)] w (fun v' D=>v'=vi (idxG x l 0)∧D= []):=by
 obtain⟨b,off,arr,E,fz,hr⟩:=hv.row
 have ln:=hv.len
 refine Rets.enterV func223 rfl (rs:= [.tmp 4]) results223 ntmps223 ?_
 refine kf ?_
 refine ky @i8 ?_
 refine Ow.box rfl rfl fun b1 aW aI=> ?_
 simp only[dC,cy,dA,aS,List.nil_append,List.cons_append]
 refine Ow.go rfl ?_
 simp(disch:=first|exact dD|fail) only[↓Sx.S0,Sx.S1,fx,i8,Nat.reduceAdd,Nat.reducePow,Int.reducePow,Nat.reduceBEq, ↓reduceIte,UInt8.reduceToNat,UInt16.reduceToNat,UInt32.reduceToNat,UInt64.reduceToNat,Int.reduceToNat]
 refine ky (aN @i8 @ln) ?_
 refine Cw.loopG (G:=Nat) [9,10,5,11,12,13,14,15,16,17,4,18,8] (fun g=> [(8,vi g)]) (fun g=> [(b1, .cells (a8 x.l) 39 (0,0))]) (fun g=>g≤l.length∧idxG x l 0=idxG x (l.drop g) g) (fun g=>l.length - g) 0 rfl rfl ?_ ?_
 ·exact⟨aV _,rfl⟩
 intro k jk hk
 refine kv ?_
 obtain⟨h1,h2⟩:=hk
 by_cases hk:k<l.length
 ·have h0:0<l.length:=by omega
  have iJ:=hr.lt h0
  have mK:b1≠b:=by omega
  have r2:=hr.has h0
  have i2:=hr.idx true k hk
  have l2:=su hr hk
  rw[LE (z:=id0) hk,TL] at h2
  refine ky @i8 ?_
  refine Cw.regionS [b1,b] [1,2,3,0,4,5] [] kR kR kR ?_
  simp only[ai, ↓ah, ↓ab, ↓ag, ↓ae,ac]
  refine kq (aN @i8 (aN @i2 (aN @r2 @l2))) ?_
  cases hq: (x.l==(l.getD k id0).l)
  ·rw[hq,if_neg (by simp)] at h2
   refine ky (aN @i8 @hq) ?_
   exact Again.mk (k+1) oM ⟨hk,h2⟩ rfl rfl
  rw[hq,if_pos rfl] at h2
  rw[h2]
  refine ky (aN @i8 @hq) ?_
  refine⟨_,(ke @i8),⟨aI,trivial⟩, ?_⟩
  rfl
 obtain rfl:k=l.length:=by omega
 rw[List.drop_length] at h2
 rw[h2]
 refine ky @i8 ?_
 refine⟨_,(ke @i8),⟨aI,trivial⟩, ?_⟩
 rfl
def VS_ (v:Value) (l:List IdL) (x:IdL) (w:World) (hv:IdS w v l) (hl:l.length<1000000):
  Rets prog 214 #[v, .agg (a8 x.l)] w (fun v' D=>v'= .bool (l.any fun y=>x.l==y.l)∧D= []):=by
 refine Rets.enterV func214 rfl (rs:= [.tmp 4]) results214 ntmps214 ?_
 refine kf ?_
 refine ky @i8 ?_
 refine Ow.box rfl rfl fun b1 aW aI=> ?_
 simp only[dC,cy,dA,aS,List.nil_append,List.cons_append]
 refine Ow.go rfl ?_
 simp(disch:=first|exact dD|fail) only[↓Sx.S0,Sx.S1,fx,i8,Nat.reduceAdd,Nat.reducePow,Int.reducePow,Nat.reduceBEq, ↓reduceIte,UInt8.reduceToNat,UInt16.reduceToNat,UInt32.reduceToNat,UInt64.reduceToNat,Int.reduceToNat]
 refine ky @i8 ?_
 refine Ow.callFV rfl call223 (fun w' aA=>NN v l x w' (hv.oldN aA ⟨aI,trivial⟩) hl) ?_
 refine ko @i8 ?_
 refine⟨_,(ke @i8),⟨aI,trivial⟩, ?_⟩
 exact congrArg Value.bool (Du x l 0)
def N8 (v1 v2:Value) (l1 l2:List IdL) (w:World) (uV:IdS w v1 l1) (A3:IdS w v2 l2) (fq:l1.length<1000000) (_hl2:l2.length<1000000):
  Rets prog 26 #[v1,v2] w (fun v' D=>v'= .bool (decide (l1=l2))∧D= []):=by
 obtain⟨b1,off1,arr1,E1,fz1,rY⟩:=uV.row
 obtain⟨b2,off2,arr2,E2,fz2,nP⟩:=A3.row
 have ln1:=uV.len
 have ln2:=A3.len
 refine Rets.enterV func26 rfl (rs:= [.tmp 4]) results26 ntmps26 ?_
 refine kf ?_
 by_cases hl:l1.length=l2.length
 ·refine ky (aN @i8 (aN @ln1 @ln2)) ?_
  refine Cw.loopG (G:=Nat) [11,12,13,14,17,18,19,20,21,22,23,24,25,4,15,16,5] (fun g=> [(5,vi g)]) (fun g=> []) (fun g=>g≤l1.length∧l1.take g=l2.take g) (fun g=>l1.length - g) 0 rfl rfl ?_ ?_
  ·exact⟨aV _,rfl⟩
  intro k jk hk
  refine kv ?_
  obtain⟨h1,h2⟩:=hk
  by_cases hk:k<l1.length
  ·have h0:0<l1.length:=by omega
   have ra:=rY.has h0
   have rb:=nP.has (show 0<l2.length by omega)
   have ia:=rY.idx true k hk
   have ib:=nP.idx true k (show k<l2.length by omega)
   have la:=su rY hk
   have lb:=su nP (show k<l2.length by omega)
   refine ky (aN @i8 @ln1) ?_
   refine Cw.regionS [b1,b2] [0,1,2,4,5,6,3,7,8] [] kR kR kR ?_
   simp only[ai, ↓ah, ↓ab, ↓ag, ↓ae,ac]
   refine kq (aN @i8 (aN @ra (aN @rb (aN @ia (aN @ib (aN @la @lb)))))) ?_
   cases hq: ((l1.getD k id0).l==(l2.getD k id0).l)
   ·have:decide (l1=l2)=false:=aO (fun e=>by rw[e] at hq;simp at hq)
    rw[this]
    refine ky (aN @i8 @hq) ?_
    refine⟨_,(ke @i8),trivial, ?_⟩
    rfl
   refine ky (aN @i8 @hq) ?_
   refine Again.mk (k+1) oM ⟨hk, ?_⟩ rfl rfl
   have e:l1.getD k id0=l2.getD k id0:=IdL.ext' (by simpa using hq)
   rw[take_snoc (z:=id0) hk,take_snoc (z:=id0) (show k<l2.length by omega),h2,e]
  obtain rfl:k=l1.length:=by omega
  have:l1=l2:=by rw[List.take_length,hl,List.take_length] at h2;exact h2
  rw[aK this]
  refine ky (aN @i8 @ln1) ?_
  refine⟨_,(ke @i8),trivial, ?_⟩
  rfl
 have:decide (l1=l2)=false:=aO (fun e=>hl (by rw[e]))
 rw[this]
 refine ky (aN @i8 (aN @ln1 @ln2)) ?_
 refine⟨_,(ke @i8),trivial, ?_⟩
 rfl
structure RwL where
 id:IdL
 place:Int
 spot:Int
abbrev P9 (l:List RwL):Prop:=StP.Sorted (fun r:RwL=>r.id.l) l
abbrev Xx (l l':List RwL):Prop:=StP.St (fun r:RwL=>r.id.l) l l'
def rws_SortOf (l Z:List RwL):Prop:=Z.length=l.length∧P9 Z∧Xx l Z
theorem rws_SortOf.eq {l Z Z':List RwL} (h:rws_SortOf l Z) (h':rws_SortOf l Z'):Z=Z':=StP.St.eq h.2.1 h'.2.1 (h.2.2.symm.trans h'.2.2)
structure ComL where
 tree:IdL
 par:List IdL
 text:List UInt8
def bI (t:IdL) (p:Value) (x:List UInt8):List Value:=t.l.map v8++ ([p]++ [vs x])
def zU (t:IdL) (p:Value) (x:List UInt8): (bI t p x).length=34:=by simp[bI,t.h]
def Vl (t:IdL) (p:Value) (x:List UInt8) (hp:Value.oneCell' p=true): (bI t p x).all Value.oneCell'=true:=by
 unfold bI
 simp only[List.all_append,List.all_cons,List.all_nil,qW,hp,Bool.and_true,Bool.true_and]
 rfl
def AK (t:IdL) (p:Value) (x:List UInt8):Value.cells (.agg (bI t p x).toArray)=(bI t p x).toArray:=aS _
def JN (t:IdL) (p:Value) (x:List UInt8) (E:TypeId) (fz:Nat×Nat):aG (some (true,32)) (some (.cells (bI t p x).toArray E fz)) 0=some (.agg (a8 t.l)):=by
 unfold bI;exact Am [] _ _ E fz rfl (by simp[t.h])
def J5 (t:IdL) (p:Value) (x:List UInt8) (n:Nat) (E:TypeId) (fz:Nat×Nat):aG (some (false,n)) (some (.cells (bI t p x).toArray E fz)) 32=some p:=by
 unfold bI;exact iR _ _ p n E fz (by simp[t.h])
def JB (t:IdL) (p:Value) (x:List UInt8) (n:Nat) (E:TypeId) (fz:Nat×Nat):aG (some (false,n)) (some (.cells (bI t p x).toArray E fz)) 33=some (vs x):=by
 have e:bI t p x=(t.l.map v8++ [p])++ ([vs x]++ []):=by unfold bI;simp only[List.append_assoc,List.append_nil]
 rw[e];exact iR _ _ (vs x) n E fz (by simp[t.h])
def Ia (t:IdL) (p:Value) (x:List UInt8) (E:TypeId) (fz:Nat×Nat):aG (some (true,34)) (some (.cells (bI t p x).toArray E fz)) 0=some (.agg (bI t p x).toArray):=rx _ E fz 34 (by rw[List.size_toArray,zU])
def Lb (old:Array Value) (t:IdL) (p:Value) (x:List UInt8) (a:Bool) (E:TypeId) (h:old.size=34) (hp:Value.oneCell' p=true):ad (some (a,34)) (some (.cells old E (0,0))) 0 (.agg (bI t p x).toArray)=some (.cells (bI t p x).toArray E (0,0)):=vq _ a old E (zU t p x) (Vl t p x hp) h
def mo (l:List IdL) (i:Nat):Bool:= !((l.take i).any fun y=>(l.getD i id0).l==y.l)
def lQ (c:ComL):Bool:=(decide (c.par.length≤4)&&decide (c.text.length≤64))&& (List.range c.par.length).all (mo c.par)
def Dp {c:ComL} {k:Nat} (hk:k<c.par.length) (h:mo c.par k=false):lQ c=false:=by
 unfold lQ
 have: (List.range c.par.length).all (mo c.par)=false:=by
  rw[List.all_eq_false]
  exact⟨k,List.mem_range.2 hk,by simp[h]⟩
 rw[this,Bool.and_false]
def Dc {c:ComL} (h: ∀i,i<c.par.length→mo c.par i=true):lQ c=(decide (c.par.length≤4)&&decide (c.text.length≤64)):=by
 unfold lQ
 have: (List.range c.par.length).all (mo c.par)=true:=List.all_eq_true.2 fun i hi=>h i (List.mem_range.1 hi)
 rw[this,Bool.and_true]
abbrev ComS (w:World) (v:Value) (c:ComL):Prop:= ∃p,v= .agg (bI c.tree p c.text).toArray∧IdS w p c.par
def SlV.one {α:Type} {m:Nat} {enc:α→List Value} {z:α} {w:World} {v:Value} {l:List α} (h:SlV m enc z w v l):Value.oneCell' v=true∧v.cells= #[v]:=by
 obtain⟨b,off,c,arr,E,fz,-,-,⟨rfl,-,-⟩ | ⟨rfl,-,-⟩⟩:=h<;>exact⟨rfl,rfl⟩
def oD:=aN (aN (aN @qw @qt) (aN @nz (aN @av @au))) (aN (aN @JN @J5) (aN @JB (aN @Ia @AK)))
def Of (v:Value) (c:ComL) (w:World) (hv:ComS w v c) (hl:c.par.length<1000000) (ht:c.text.length<1099511627776):
  Rets prog 196 #[v] w (fun v' D=>v'= .bool (lQ c)∧D= []):=by
 obtain⟨p,rfl,hp⟩:=hv
 obtain⟨b,off,arr,E,fz,hr⟩:=hp.row
 have ln:=hp.len
 refine Rets.enterV func196 rfl (rs:= [.tmp 2]) results196 ntmps196 ?_
 refine kf ?_
 refine ky @oD ?_
 refine Ow.box rfl rfl fun bx li nx=> ?_
 simp only[dC,cy,dA,aS,List.nil_append,List.cons_append]
 refine Ow.go rfl ?_
 simp(disch:=first|exact dD|fail) only[↓Sx.S0,Sx.S1,fx,oD,Nat.reduceAdd,Nat.reducePow,Int.reducePow,Nat.reduceBEq, ↓reduceIte,UInt8.reduceToNat,UInt16.reduceToNat,UInt32.reduceToNat,UInt64.reduceToNat,Int.reduceToNat]
 refine ky (aN @oD @ln) ?_
 refine Cw.loopG (G:=Nat) [9,10,11,12,4,3,13,14,15,16,17,18,2,19,8] (fun g=> [(8,vi g)]) (fun g=> [(bx, .cells (bI c.tree p c.text).toArray 100 (0,0))]) (fun g=>g≤c.par.length∧ ∀i,i<g→mo c.par i=true) (fun g=>c.par.length - g) 0 rfl rfl ?_ ?_
 ·exact⟨aV _,fun i hi=>absurd hi (Nat.not_lt_zero i)⟩
 intro k jk hk
 refine kv ?_
 obtain⟨h1,h2⟩:=hk
 by_cases hk:k<c.par.length
 ·have h0:0<c.par.length:=by omega
  have iJ:=hr.lt h0
  have p7:bx≠b:=by omega
  have r2:=hr.has h0
  have i2:=hr.idx true k hk
  have l2:=su hr hk
  obtain⟨v3,s3,I4,-⟩:=hp.take (show k≤c.par.length by omega) true
  refine kz [6] (aN @oD (aN @i2 (aN @r2 @l2))) ?_
  refine Ow.alloc rfl rfl zr39 fun b4 g4 cr=> ?_
  simp only[aS,List.nil_append,List.cons_append]
  obtain⟨h4,-⟩:=g4
  have gV:=(c.par.getD k id0).h
  refine ko @oD ?_
  refine Cw.regionS [bx,b4] [0,2,1,3,4,5] [] kR kR kR ?_
  simp only[ai, ↓ah, ↓ab, ↓ag, ↓ae,ac]
  refine kq (aN @oD @s3) ?_
  refine Ow.callFV rfl call214 (fun w' aA=>VS_ v3 (c.par.take k) (c.par.getD k id0) w' (I4.oldN aA ⟨nx,cr,trivial⟩) (by rw[List.length_take];omega)) ?_
  cases hq: (c.par.take k).any fun y=>(c.par.getD k id0).l==y.l
  ·have e1:mo c.par k=true:=by unfold mo;rw[hq];rfl
   refine kq @oD ?_
   refine Cw.forgetN [(bx, .cells (bI c.tree p c.text).toArray 100 (0,0))] (by exact⟨nx,cr,trivial⟩) (by intro p hp;simp only[List.mem_cons,List.not_mem_nil,or_false] at hp ⊢;all_goals (first| (rcases hp with rfl|hp<;>simp_all) | (subst hp;simp) |simp_all)) (by simp[keys]<;>omega) ?_
   refine ky @oD ?_
   exact Again.mk (k+1) oM ⟨by omega,fun i hi=>by
    rcases Nat.lt_succ_iff_lt_or_eq.1 hi with h|rfl
    ·exact h2 i h
    exact e1⟩ rfl rfl
  have e1:mo c.par k=false:=by unfold mo;rw[hq];rfl
  rw[Dp hk e1]
  refine kq @oD ?_
  refine⟨_,(ke @oD),⟨nx,cr,trivial⟩, ?_⟩
  rfl
 obtain rfl:k=c.par.length:=by omega
 rw[Dc h2]
 by_cases h4:c.par.length≤4
 ·have d1:decide (((c.par.length:Nat):Int)≤4)=true:=aK oM
  refine ky (aN @oD (aN @ln @d1)) ?_
  refine⟨_,(ke @oD),⟨nx,trivial⟩, ?_⟩
  rw[show decide (c.par.length≤4)=true from aK h4,Bool.true_and];exact congrArg Value.bool (decide_eq_decide.2 oM)
 have d1:decide (((c.par.length:Nat):Int)≤4)=false:=aO oM
 refine ky (aN @oD (aN @ln @d1)) ?_
 refine⟨_,(ke @oD),⟨nx,trivial⟩, ?_⟩
 rw[show decide (c.par.length≤4)=false from aO h4];rfl
def mX:=aN (aN (aN @qw @qt) (aN @nz (aN @av @au))) (aN (aN @JN @J5) (aN @JB (aN @Ia @AK)))
def Vz {l:List IdL} {k:Nat} {x:IdL} (hk:k<l.length) (h: ((l.take k).any fun y=>x.l==y.l)=false) (h2: (x.l==(l.getD k id0).l)=false): ((l.take (k+1)).any fun y=>x.l==y.l)=false:=by
 rw[take_snoc (z:=id0) hk,List.any_append,h,Bool.false_or,List.any_cons,h2];rfl
def XW {l:List IdL} {k i:Nat} {x:IdL} (hk:k<l.length) (hi:k<i) (h2: (x.l==(l.getD k id0).l)=true): ((l.take i).any fun y=>x.l==y.l)=true:=by
 rw[List.any_eq_true]
 refine⟨l.getD k id0, ?_,h2⟩
 rw[←TO (l:=l) (z:=id0) hi]
 exact n_ (by rw[List.length_take];omega)
def K0_ (v:Value) (c:ComL) (w:World) (hv:ComS w v c) (hl:c.par.length<1000000) (ht:c.text.length<1099511627776):
  Rets prog 76 #[v] w (fun v' D=>v'= .bool (lQ c)∧D= []):=by
 obtain⟨p,rfl,hp⟩:=hv
 obtain⟨b,off,arr,E,fz,hr⟩:=hp.row
 have ln:=hp.len
 refine Rets.enterV func76 rfl (rs:= [.tmp 2]) results76 ntmps76 ?_
 refine kf ?_
 refine ky @mX ?_
 refine Ow.box rfl rfl fun bx li nx=> ?_
 simp only[dC,cy,dA,aS,List.nil_append,List.cons_append]
 refine Ow.go rfl ?_
 simp(disch:=first|exact dD|fail) only[↓Sx.S0,Sx.S1,fx,mX,Nat.reduceAdd,Nat.reducePow,Int.reducePow,Nat.reduceBEq, ↓reduceIte,UInt8.reduceToNat,UInt16.reduceToNat,UInt32.reduceToNat,UInt64.reduceToNat,Int.reduceToNat]
 by_cases h4:4<c.par.length
 ·have d1:decide (4< ((c.par.length:Nat):Int))=true:=aK oM
  refine ky (aN @mX (aN @ln @d1)) ?_
  have:lQ c=false:=by unfold lQ;rw[show decide (c.par.length≤4)=false from aO oM];rfl
  rw[this]
  refine⟨_,(ke @mX),⟨nx,trivial⟩, ?_⟩
  rfl
 have d1:decide (4< ((c.par.length:Nat):Int))=false:=aO oM
 by_cases kX:64<c.text.length
 ·have d2:decide (64< ((c.text.length:Nat):Int))=true:=aK oM
  refine ky (aN @mX (aN @ln (aN @d1 @d2))) ?_
  have:lQ c=false:=by unfold lQ;rw[show decide (c.text.length≤64)=false from aO oM,Bool.and_false];rfl
  rw[this]
  refine⟨_,(ke @mX),⟨nx,trivial⟩, ?_⟩
  rfl
 have d2:decide (64< ((c.text.length:Nat):Int))=false:=aO oM
 refine ky (aN @mX (aN @ln (aN @d1 @d2))) ?_
 refine Cw.loopG (G:=Nat) [15,16,17,18,19,4,22,23,24,27,28,29,30,31,32,33,34,35,36,37,2,25,26,20,21,3] (fun g=> [(3,vi g)]) (fun g=> [(bx, .cells (bI c.tree p c.text).toArray 100 (0,0))]) (fun g=>g≤c.par.length∧ ∀i,i<g→mo c.par i=true) (fun g=>c.par.length - g) 0 rfl rfl ?_ ?_
 ·exact⟨aV _,fun i hi=>absurd hi (Nat.not_lt_zero i)⟩
 intro i ji hi
 refine kv ?_
 obtain⟨h1,h2⟩:=hi
 by_cases hi:i<c.par.length
 ·have h0:0<c.par.length:=by omega
  have iJ:=hr.lt h0
  have p7:bx≠b:=by omega
  have r2:=hr.has h0
  have i2:=hr.idx true i hi
  have l2:=su hr hi
  refine ky (aN @mX @ln) ?_
  refine Cw.loopG (G:=Nat) [22,23,24,27,28,29,30,31,32,33,34,35,36,37,2,25,26,4] (fun g=> [(4,vi g)]) (fun g=> [(bx, .cells (bI c.tree p c.text).toArray 100 (0,0))]) (fun g=>g≤i∧((c.par.take g).any fun y=>(c.par.getD i id0).l==y.l)=false) (fun g=>i - g) 0 rfl rfl ?_ ?_
  ·exact⟨aV _,rfl⟩
  intro k jk hk
  refine kv ?_
  obtain⟨g1,g2⟩:=hk
  by_cases hk:k<i
  ·have i3:=hr.idx true k (show k<c.par.length by omega)
   have l3:=su hr (show k<c.par.length by omega)
   refine ky @mX ?_
   refine Cw.regionS [bx,b] [0,2,5,7,1,3,4,6,8,9,10] [] kR kR kR ?_
   simp only[ai, ↓ah, ↓ab, ↓ag, ↓ae,ac]
   refine kq (aN @mX (aN @i2 (aN @r2 (aN @l2 (aN @i3 @l3))))) ?_
   cases hq: ((c.par.getD i id0).l==(c.par.getD k id0).l)
   ·refine ky (aN @mX @hq) ?_
    exact Again.mk (k+1) oM ⟨by omega,Vz oM g2 hq⟩ rfl rfl
   have e1:mo c.par i=false:=by unfold mo;rw[XW oM hk hq];rfl
   rw[Dp hi e1]
   refine ky (aN @mX @hq) ?_
   refine⟨_,(ke @mX),⟨nx,trivial⟩, ?_⟩
   rfl
  obtain rfl:k=i:=by omega
  have e1:mo c.par k=true:=by unfold mo;rw[g2];rfl
  refine ky @mX ?_
  exact Again.mk (k+1) oM ⟨by omega,fun i hi=>by
   rcases Nat.lt_succ_iff_lt_or_eq.1 hi with h|rfl
   ·exact h2 i h
   exact e1⟩ rfl rfl
 obtain rfl:i=c.par.length:=by omega
 rw[Dc h2,show decide (c.par.length≤4)=true from aK oM,show decide (c.text.length≤64)=true from aK oM]
 refine ky (aN @mX @ln) ?_
 refine⟨_,(ke @mX),⟨nx,trivial⟩, ?_⟩
 rfl
end Go.Proofs
end
