/-
  Part 1 of the walk: contracts of the functions that the law reaches, and the calculus they stand on.
  No conditions.
-/
import Derived.Test.YtjjiclcgdngfdaaGreatDoorW0
import Derived.Maps.RangeRun
import Derived.RangeFuncLeaves
import Derived.RangeFuncIn
import Derived.RangeFuncSeq
import Derived.RangeFuncRecord
import Derived.TacticsIn
import Derived.Test.YtjjiclcgdngfdaaGreatDoorProg
import Derived.Lib.Small
import Derived.Lib.Walk
import Derived.Lib.Bytealg
import Derived.Deep.Draws
import Derived.Deep.QuietTactic
namespace Go.Sx
open Go
section
variable {P:Program} {w0:World} {f:Fr} {L:zc_} {N:Fr→zc_→Prop} {ops:Array Oper} {rest:List Oper} {md:Md}
 {d:Option Tmp} {ty:TypeId} {ps:String} {af:Array Edge} {g:Option (Nat×Bool)}
theorem aaO_ {w0:World} {L:zc_} {b c:Nat} {x:Obj} (h:b≠c):zA_ w0 (setB L b x) c=zA_ w0 L c:=by
 unfold zA_;rw[zb_ h]
end
structure Ext (w:World) (X D:zc_):Prop where
 new: ∀c,c∈keys D→c∈keys X∨w.heap.size≤c
 all: ∀c,c∈keys X→c∈keys D
theorem Ext.refl (w:World) (X:zc_):Ext w X X:=⟨fun _ h=> .inl h,fun _ h=>h⟩
theorem Ext.setB {w:World} {X D:zc_} {b:Nat} {o:Obj} (h:Ext w X D):Ext w X (setB D b o):=⟨fun c hc=>h.new c (by rwa [zQ_] at hc),fun c hc=>by rw[zQ_];exact h.all c hc⟩
theorem Ext.app {w:World} {X D:zc_} {b:Nat} {o:Obj} (h:Ext w X D) (hb:w.heap.size≤b):Ext w X (D++ [(b,o)]):=
 ⟨fun c hc=>by
  rw[zt_] at hc
  rcases List.mem_append.1 hc with hc|hc
  ·exact h.new c hc
  ·simp only[keys,List.map_cons,List.map_nil,List.mem_singleton] at hc
   exact .inr (hc▸hb),fun c hc=>by rw[zt_];exact List.mem_append_left _ (h.all c hc)⟩
theorem Ext.grew {w:World} {X D D':zc_} {v:Value} (h:Ext w X D) (hg:Grew w v D D'):Ext w X D':=
 ⟨fun c hc=>by
  rcases hg.new c hc with hc| ⟨-,hc⟩
  ·exact h.new c hc
  ·exact .inr hc,fun c hc=>hg.keys c (h.all c hc)⟩
theorem Ext.keys {w:World} {X D D':zc_} (h:Ext w X D) (hk:Sx.keys D'=Sx.keys D):Ext w X D':=⟨fun c hc=>h.new c (hk▸hc),fun c hc=>hk▸h.all c hc⟩
theorem z2_ {w0:World} {L:zc_} {b:Nat} (h:b∉Sx.keys L):zA_ w0 L b=w0.heap[b]? :=by
 unfold zA_
 cases hl:look L b with
 |none=>rfl
 |some o=>exact absurd (zh_ hl) h
theorem Ext.not {w:World} {X D:zc_} (h:Ext w X D) {b:Nat} (hb:b<w.heap.size) (hn:b∉Sx.keys X):b∉Sx.keys D:=fun hm=>by
 rcases h.new b hm with h|h
 ·exact hn h
 ·omega
theorem Ext.old {w:World} {X D:zc_} (h:Ext w X D) {b:Nat} {o:Obj} (hb:w.heap[b]? =some o) (hn:b∉Sx.keys X):zA_ w D b=some o:=by
 rw[z2_ (h.not (Array.getElem?_eq_some_iff.1 hb).1 hn)];exact hb
def XS (w:World) (X:zc_) (S:Value→zc_→Prop) (v:Value) (D:zc_):Prop:=Ext w X D∧S v D
structure Came (w0:World) (L X D:zc_):Prop where
 new: ∀c,c∈Sx.keys D→c∈Sx.keys X∨(jI_ L c∧w0.heap.size≤c)
 all: ∀c,c∈Sx.keys X→c∈Sx.keys D
theorem Ext.came {w:World} {X D D' Y L:zc_} (h:Ext w X (D++Y)) (hc:Came w L D D'):Ext w X (D'++Y):=by
 refine⟨fun c hm=> ?_,fun c hm=> ?_⟩
 ·rw[zt_] at hm
  rcases List.mem_append.1 hm with hm|hm
  ·rcases hc.new c hm with hm| ⟨-,hm⟩
   ·exact h.new c (by rw[zt_];exact List.mem_append_left _ hm)
   ·exact .inr hm
  ·exact h.new c (by rw[zt_];exact List.mem_append_right _ hm)
 ·have:=h.all c hm
  rw[zt_] at this ⊢
  rcases List.mem_append.1 this with hm|hm
  ·exact List.mem_append_left _ (hc.all c hm)
  ·exact List.mem_append_right _ hm
theorem Ext.came0 {w:World} {X D D' L:zc_} (h:Ext w X D) (hc:Came w L D D'):Ext w X D':=by
 have:=Ext.came (Y:= []) (by simpa using h) hc
 simpa using this
theorem Hp.ownX {w0 w:World} {X:zc_} (h:Hp w0 [] w) (hX: ∀p,p∈X→w0.heap[p.1]? =some p.2) (hn: (keys X).Nodup):Hp w0 X w:=by
 refine⟨fun b o hm=> ?_,hn,fun b hb _=>h.old b hb (by simp[keys]),h.size,h.tape,h.os,h.output⟩
 have:=hX (b,o) hm
 simp only at this
 rw[h.old b (Array.getElem?_eq_some_iff.1 this).1 (by simp[keys])]
 exact this
theorem Rets.enterX {P:Program} {k:FuncId} {fn:Func} {c:Code} {rs:List ResultVar} {args:Array Value} {w:World} {S:Value→zc_→Prop} {n:Nat} {X:zc_}
  (hf:P.funcs[k]? =some fn) (hb:fn.body=some c) (hr:fn.results=rs.toArray) (hn:fn.ntmps=n) (hX: ∀p,p∈X→w.heap[p.1]? =some p.2) (hnd: (keys X).Nodup)
  (h:Cw P w c (args.toList++List.replicate (n - args.size) undef) X (retK P w rs (XS w X S))):Rets P k args w (XS w X S):=
 Rets.enter hf hb hr hn fun w' hw'=>h w' (hw'.ownX hX hnd)
section
variable {P:Program} {w0:World} {f:Fr} {L:zc_} {N:Fr→zc_→Prop} {ops:Array Oper} {rest:List Oper} {md:Md}
 {d:Option Tmp} {ty:TypeId} {ps:String} {af:Array Edge} {g:Option (Nat×Bool)}
theorem Ow.callX {l:List Operand} {ts:Array TypeId} {k:FuncId} {X Y:zc_} {S:Value→zc_→Prop} {md':Md} (hL:L=X++Y) (he:md.turn=some md')
  (hs:zu_ ops f ⟨d, .call ⟨.value (.func k),l.toArray,ts⟩,ty,ps,af,g⟩=false)
  (hk: ∀a w,(callFunc k a).run P w= .ok (.enter k a) w)
  (hc: ∀w,Hp w0 L w→(∀p,p∈X→w.heap[p.1]? =some p.2)→(keys X).Nodup→Rets P k (l.map (ev f)).toArray w (XS w X S))
  (hn: ∀v D,Came w0 L X D→S v D→Ow P w0 ops md' rest (qJ_ f d v) (D++Y) N):
  Ow P w0 ops md (⟨d, .call ⟨.value (.func k),l.toArray,ts⟩,ty,ps,af,g⟩::rest) f L N:=by
 subst hL
 have hnd: ∀w,Hp w0 (X++Y) w→(keys X).Nodup∧ ∀c,c∈keys Y→c∉keys X:=by
  intro w hw
  have:=hw.nodup
  rw[zt_,List.nodup_append] at this
  exact⟨this.1,fun c hc hx=>this.2.2 c hx c hc rfl⟩
 refine Ow.callF (S:=fun B v D=>((∀c,c∈keys D→c∈keys X∨B≤c)∧(∀c,c∈keys X→c∈keys D)∧S v D)∧ ∃w,Hp w0 (X++Y) w∧w.heap.size=B) he hs hk (fun w hw=> ?_) ?_
 ·refine Calls.mono (hc w hw (fun p hp=>hw.has _ _ (List.mem_append_left _ hp)) (hnd w hw).1) ?_
  rintro e w' ⟨v,D,he,hp,hS⟩
  exact⟨v,D,he,hp,⟨hS.1.new,hS.1.all,hS.2⟩,w,hw,rfl⟩
 ·rintro B v D hab hB ⟨⟨h1,h2,h3⟩,w1,hw1,hwB⟩
  refine⟨D++Y, ?_,hn v D ⟨fun c hc=>(h1 c hc).imp id fun h=>⟨z6_ fun b hb=>by have:=hw1.lt hb;omega,by have:=hw1.size;omega⟩,h2⟩ h3⟩
  intro w w' hwb h k
  have ht:=h.trans k
  have hY: ∀c,c∈keys Y→c∉keys D:=by
   intro c hc hd
   rcases h1 c hd with hx|hx
   ·exact(hnd w h).2 c hc hx
   ·have:=h.lt (b:=c) (by rw[zt_];exact List.mem_append_right _ hc)
    omega
  have e1:X.filter (fun p=> !(keys D).contains p.1)= []:=by
   rw[List.filter_eq_nil_iff]
   intro p hp
   have:=h2 p.1 (List.mem_map.2 ⟨p,hp,rfl⟩)
   simpa using this
  have e2:Y.filter (fun p=> !(keys D).contains p.1)=Y:=xa_ hY
  rw[List.filter_append,e1,e2,List.nil_append] at ht
  refine ht.same (fun p=>by simp[or_comm]) ?_
  have:=ht.nodup
  rw[zt_] at this ⊢
  exact(List.perm_append_comm.nodup_iff).1 this
end
structure OneS {α:Type} (enc:α→Value) (z:α) (w:World) (v:Value) (l:List α) (b off:Nat) (arr:Array Value) (E:TypeId) (fz:Nat×Nat):Prop where
 len: ∀m,Jv_ (.sl m) v=some (vi l.length)
 idx: ∀m (k:Nat),k<l.length→zO_ (.sl m) v (some (k:Int))=some (vp b (off+k*m.2))
 has:0<l.length→w.heap[b]? =some (.cells arr E fz)
 get: ∀k,k<l.length→arr[off+k]? =some (enc (l.getD k z))
theorem OneS.sl {α:Type} {enc:α→Value} {z:α} {w:World} {l:List α} {b off n c:Nat} {arr:Array Value} {E:TypeId} {fz:Nat×Nat} (hn:n=l.length)
  (has:w.heap[b]? =some (.cells arr E fz)) (get: ∀k,k<l.length→arr[off+k]? =some (enc (l.getD k z))):OneS enc z w (vsl b off n c) l b off arr E fz:=by
 subst hn
 exact⟨fun _=>rfl,fun m k h=>by rw[zY_ _ _ _ _ _ _ (by omega)];simp,fun _=>has,get⟩
theorem OneS.lit {α:Type} {enc:α→Value} {z:α} {w:World} {b n c:Nat} {E:TypeId} {fz:Nat×Nat} {arr:Array Value} (l:List α) (hn:n=l.length) (ha:arr=(l.map enc).toArray) (has:w.heap[b]? =some (.cells arr E fz)):OneS enc z w (vsl b 0 n c) l b 0 arr E fz:=
 OneS.sl hn has (by intro k hk;rw[ha,Nat.zero_add,List.getElem?_toArray,List.getElem?_map,List.getD_eq_getElem?_getD,List.getElem?_eq_getElem hk];rfl)
structure RowS {α:Type} (m:Nat) (enc:α→List Value) (z:α) (w:World) (v:Value) (l:List α) (b off:Nat) (arr:Array Value) (E:TypeId) (fz:Nat×Nat):Prop where
 len: ∀x,Jv_ (.sl x) v=some (vi l.length)
 idx: ∀a (k:Nat),k<l.length→zO_ (.sl (a,m)) v (some (k:Int))=some (vp b (off+k*m))
 has:0<l.length→w.heap[b]? =some (.cells arr E fz)
 get: ∀k,k<l.length→ ∀j,j<m→arr[off+k*m+j]? =(enc (l.getD k z))[j]?
theorem RowS.sl {α:Type} {m:Nat} {enc:α→List Value} {z:α} {w:World} {l:List α} {b off n c:Nat} {arr:Array Value} {E:TypeId} {fz:Nat×Nat} (hn:n=l.length)
  (has:w.heap[b]? =some (.cells arr E fz)) (get: ∀k,k<l.length→ ∀j,j<m→arr[off+k*m+j]? =(enc (l.getD k z))[j]?):RowS m enc z w (vsl b off n c) l b off arr E fz:=by
 subst hn
 exact⟨fun _=>rfl,fun a k h=>by rw[zY_ _ _ _ _ _ _ (by omega)];simp,fun _=>has,get⟩
theorem RowS.nil {α:Type} {m:Nat} {enc:α→List Value} {z:α} (w:World) (n c:Nat) (hn:n=0):RowS m enc z w (.slice none n c) [] 0 0 #[] 0 (0,0):=by
 subst hn
 exact⟨fun _=>rfl,fun _ _ h=>absurd h (Nat.not_lt_zero _),fun h=>absurd h (Nat.not_lt_zero _),fun _ h=>absurd h (Nat.not_lt_zero _)⟩
theorem RowS.load {α:Type} {m:Nat} {enc:α→List Value} {z:α} {w:World} {v:Value} {l:List α} {b off:Nat} {arr:Array Value} {E:TypeId} {fz:Nat×Nat} (h:RowS m enc z w v l b off arr E fz) (hm: ∀x,(enc x).length=m) (h0:0<m) {k:Nat} (hk:k<l.length):
  zk_ (some (true,m)) (some (.cells arr E fz)) (off+k*m)=some (.agg (enc (l.getD k z)).toArray):=by
 have hg:=h.get k hk
 have hsz:off+k*m+m≤arr.size:=by
  have h1:=hg (m - 1) (by omega)
  rw[List.getElem?_eq_getElem (by rw[hm];omega)] at h1
  have:=(Array.getElem?_eq_some_iff.1 h1).1
  omega
 simp only[zk_,hsz, ↓reduceIte]
 congr 2
 apply Array.ext_getElem?
 intro j
 rw[Array.getElem?_extract]
 by_cases hj:j<m
 ·rw[if_pos (by omega),hg j hj,List.getElem?_toArray]
 ·rw[if_neg (by omega),List.getElem?_toArray,List.getElem?_eq_none (by rw[hm];omega)]
theorem RowS.cell {α:Type} {m:Nat} {enc:α→List Value} {z:α} {w:World} {v:Value} {l:List α} {b off:Nat} {arr:Array Value} {E:TypeId} {fz:Nat×Nat} (h:RowS m enc z w v l b off arr E fz) {k j n:Nat} (hk:k<l.length) (hj:j<m):
  zk_ (some (false,n)) (some (.cells arr E fz)) (off+k*m+j)=(enc (l.getD k z))[j]? :=h.get k hk j hj
end Go.Sx
namespace Go.Sx
open Go
section
variable {P:Program} {w0:World} {f:Fr} {L:zc_} {N:Fr→zc_→Prop} {ops:Array Oper} {rest:List Oper} {md:Md}
 {d:Option Tmp} {ty:TypeId} {ps:String} {af:Array Edge} {g:Option (Nat×Bool)}
theorem zg_ (R:List Nat) (x:UInt8):rdIn R (v8 x)=true:=(rfl)
theorem kT_ (R:List Nat) (x:UInt16):rdIn R (v16 x)=true:=(rfl)
theorem vU_ (R:List Nat) (x:UInt32):rdIn R (v32 x)=true:=(rfl)
theorem vE_ (R:List Nat) (x:UInt64):rdIn R (v64 x)=true:=(rfl)
theorem zf_ (R:List Nat) (x:Int):rdIn R (vi x)=true:=(rfl)
end
end Go.Sx
namespace Go.Sx
open Go
section
variable {P:Program} {w0:World} {f:Fr} {L:zc_} {N:Fr→zc_→Prop} {ops:Array Oper} {rest:List Oper} {md:Md}
 {d:Option Tmp} {ty:TypeId} {ps:String} {af:Array Edge} {g:Option (Nat×Bool)}
def VM_ (n:Int):Value:= .int .i32 n
theorem afn_ (op:BinOp) (t:TypeId) (a b:Int):qE_ P op t (VM_ a) (VM_ b)=zq_ op (VM_ a) (VM_ b):=(rfl)
theorem XH_ (a b:Int):zq_ .lss (VM_ a) (VM_ b)=some (.bool (decide (a<b))):=by simp[zq_,VM_,jD_,Qk_]
theorem Ke_ (a b:Int):zq_ .gtr (VM_ a) (VM_ b)=some (.bool (decide (b<a))):=by simp[zq_,VM_,jD_,Qk_]
theorem Xq_ (a b:Int):zq_ .eql (VM_ a) (VM_ b)=some (.bool (a==b)):=by simp[zq_,VM_,jD_,Qk_]
theorem aiU_ (n:Int):Value.int .i32 n=VM_ n:=(rfl)
theorem Ow.callFn1 {x y:Operand} {ts:Array TypeId} {k:FuncId} {v a:Value} (hs:zu_ ops f ⟨d, .call ⟨.value x, #[y],ts⟩,ty,ps,af,g⟩=false) (hx:ev f x= .func (.func k) #[] #[]) (hy:ev f y=a)
  (hk: ∀a w,(callFunc k a).run P w= .ok (.enter k a) w) (hc: ∀w,Hp w0 L w→Rets P k #[a] w (fun v' D=>v'=v∧D= [])) (hn:Ow P w0 ops md.next rest (qJ_ f d v) L N):
  Ow P w0 ops md (⟨d, .call ⟨.value x, #[y],ts⟩,ty,ps,af,g⟩::rest) f L N:=
 Ow.callV hs hx hk (fun w hw=>by simpa [hy] using hc w hw) hn
theorem Ow.rangeText {t:TypeId} {x:Operand} {l:List UInt8} {md':Md} (he:md.turn=some md') (hs:zu_ ops f ⟨d, .range t x,ty,ps,af,g⟩=false) (hu:P.underlying t=some .string) (hx:ev f x=vs l)
  (hn: ∀b,jI_ L b→w0.heap.size≤b→Ow P w0 ops md' rest (qJ_ f d (vp b 0)) (L++ [(b, .stringIter ⟨l.toArray⟩ 0)]) N):
  Ow P w0 ops md (⟨d, .range t x,ty,ps,af,g⟩::rest) f L N:=by
 refine Ow.step he rfl hs fun w hw=> .inl ⟨vp w.heap.size 0,w.alloc (.stringIter ⟨l.toArray⟩ 0),_, ?_,hw.alloc _,hn _ (z6_ fun b hb=>hw.lt hb) hw.size⟩
 simp only[execOp,Instr.range,Sem.run_bind,run_underlying hu w,Result.andThen_ok,hx,vs]
 rfl
theorem Ow.nextText {x:Operand} {b:Nat} {l:List UInt8} {pos:Nat} {md':Md} (he:md.turn=some md') (hs:zu_ ops f ⟨d, .next x true,ty,ps,af,g⟩=false) (hx:ev f x=vp b 0) (hl:look L b=some (.stringIter ⟨l.toArray⟩ pos)) (hp:pos<l.length)
  (hn:Ow P w0 ops md' rest (qJ_ f d (.tuple #[.bool true,vi pos,VM_ (Utf8.decode ⟨l.toArray⟩ pos).1])) (setB L b (.stringIter ⟨l.toArray⟩ (pos+ (Utf8.decode ⟨l.toArray⟩ pos).2))) N):
  Ow P w0 ops md (⟨d, .next x true,ty,ps,af,g⟩::rest) f L N:=by
 refine Ow.step he rfl hs fun w hw=> ?_
 have hb:=hw.has _ _ (zp_ hl)
 refine .inl ⟨_,{w with heap:=w.heap.setIfInBounds b (.stringIter ⟨l.toArray⟩ (pos+ (Utf8.decode ⟨l.toArray⟩ pos).2))},_, ?_,hw.set (zh_ hl) rfl rfl rfl rfl,hn⟩
 have hg: (getObj b).run P w= .ok (.stringIter ⟨l.toArray⟩ pos) w:=by
  simp only[getObj,Sem.run,hb]
 have hst: ∀o,(setObj b o).run P w= .ok () {w with heap:=w.heap.setIfInBounds b o}:=by
  intro o;simp only[setObj,Sem.run,hb]
 have hsz:pos< (ByteArray.mk l.toArray).size:=by rw[Zt_];exact hp
 have: (Instr.next (vp b 0) true ty).run P w= .ok (.tuple #[.bool true,vi pos,VM_ (Utf8.decode ⟨l.toArray⟩ pos).1]) {w with heap:=w.heap.setIfInBounds b (.stringIter ⟨l.toArray⟩ (pos+ (Utf8.decode ⟨l.toArray⟩ pos).2))}:=by
  simp only[Instr.next,vp,Sem.run_bind,hg,Result.andThen_ok,hsz, ↓reduceIte,hst]
  rfl
 simp only[execOp,Sem.run_bind,hx]
 rw[this]
 rfl
theorem Ow.nextOver {x:Operand} {b:Nat} {l:List UInt8} {pos:Nat} {md':Md} (he:md.turn=some md') (hs:zu_ ops f ⟨d, .next x true,ty,ps,af,g⟩=false) (hx:ev f x=vp b 0) (hl:look L b=some (.stringIter ⟨l.toArray⟩ pos)) (hp: ¬pos<l.length)
  (hn:Ow P w0 ops md' rest (qJ_ f d (.tuple #[.bool false])) L N):
  Ow P w0 ops md (⟨d, .next x true,ty,ps,af,g⟩::rest) f L N:=by
 refine Ow.step he rfl hs fun w hw=> ?_
 have hb:=hw.has _ _ (zp_ hl)
 refine .inl ⟨.tuple #[.bool false],w,_, ?_,hw,hn⟩
 have hg: (getObj b).run P w= .ok (.stringIter ⟨l.toArray⟩ pos) w:=by
  simp only[getObj,Sem.run,hb]
 have hsz: ¬pos< (ByteArray.mk l.toArray).size:=by rw[Zt_];exact hp
 have: (Instr.next (vp b 0) true ty).run P w= .ok (.tuple #[.bool false]) w:=by
  simp only[Instr.next,vp,Sem.run_bind,hg,Result.andThen_ok,hsz, ↓reduceIte]
  rfl
 simp only[execOp,Sem.run_bind,hx]
 rw[this]
 rfl
end
theorem acT_ (l:List UInt8) (i:Nat) (h:i<l.length):0< (Utf8.decode ⟨l.toArray⟩ i).2∧
  ((l.getD i 0).toNat<128→Utf8.decode ⟨l.toArray⟩ i=((l.getD i 0).toNat,1))∧(128≤ (l.getD i 0).toNat→128≤ (Utf8.decode ⟨l.toArray⟩ i).1):=by
 have hb: ((ByteArray.mk l.toArray).get! (i+0))=l.getD i 0:=by
  simp[ByteArray.get!,h]
 unfold Utf8.decode
 simp only[hb]
 generalize (l.getD i 0).toNat=b0
 refine⟨?_,fun h1=> ?_,fun h1=> ?_⟩
 ·(repeat' split)<;>simp
 ·rw[if_pos h1]
 ·rw[if_neg (by omega)]
  (repeat' split)<;>first
   | (simp only[Utf8.runeError];omega)
   | (rename_i hc;simp only[Bool.and_eq_true,decide_eq_true_eq,ge_iff_le] at hc;omega)
   | (rename_i hc;simp only[ge_iff_le] at hc;omega)
end Go.Sx
namespace Go.Sx
open Go
abbrev Vals:=List (List UInt8×List UInt8)
def fnd (k:List UInt8):Vals→Nat→Option (Nat×List UInt8)
 | [],_=>none
 |p::r,i=>if k==p.1 then some (i,p.2) else fnd k r (i+1)
def updV (k v:List UInt8):Vals→Vals
 | []=> [(k,v)]
 |p::r=>if k==p.1 then(p.1,v)::r else p::updV k v r
def delV (k:List UInt8):Vals→Vals
 | []=> []
 |p::r=>if k==p.1 then r else p::delV k r
def Zo_ (p:List UInt8×List UInt8):Value×Value:=(vs p.1, .agg (a8 p.2))
def MapR (o:Obj) (m:Vals):Prop:= ∃es clock,o= .map es clock∧es.toList.map (fun e=>(e.key,e.val))=m.map Zo_∧(es.toList.map (·.born)++ [clock]).Pairwise (· < ·)
theorem acn_ {es:List MapEntry} {c:Nat} {e:MapEntry} (h: (es.map (·.born)++ [c]).Pairwise (· < ·)) (he:e.born=c): ((es++ [e]).map (·.born)++ [c+1]).Pairwise (· < ·):=by
 rw[List.map_append,List.map_cons,List.map_nil,he]
 refine List.pairwise_append.2 ⟨h,List.pairwise_singleton _ _, ?_⟩
 intro a ha b hb
 rw[List.mem_singleton] at hb
 subst hb
 rcases List.mem_append.1 ha with hm|hm
 ·have:=(List.pairwise_append.1 h).2.2 a hm c (List.mem_singleton.2 rfl)
  omega
 ·rw[List.mem_singleton] at hm
  omega
theorem J6_ {es:List MapEntry} {j:Nat} {g:MapEntry→MapEntry} (hg: ∀e,(g e).born=e.born): (es.modify j g).map (·.born)=es.map (·.born):=by
 apply List.ext_getElem?
 intro i
 rw[List.getElem?_map,List.getElem?_map,List.getElem?_modify]
 cases es[i]? with
 |none=>rfl
 |some e=>
  by_cases h:j=i
  ·simp[h,hg]
  ·simp[h]
theorem agZ_ {es:List MapEntry} {c j:Nat} (h: (es.map (·.born)++ [c]).Pairwise (· < ·)): ((es.eraseIdx j).map (·.born)++ [c]).Pairwise (· < ·):=
 h.sublist (((List.eraseIdx_sublist es j).map _).append_right [c])
theorem Kk_ (a b:List UInt8): ((ByteArray.mk a.toArray)==(ByteArray.mk b.toArray))=(a==b):=by
 show(a.toArray==b.toArray)=(a==b)
 simp
theorem V6_ (k:List UInt8): ∀ (es:List MapEntry) (m:Vals) (i:Nat),es.map (fun e=>(e.key,e.val))=m.map Zo_→
  Instr.findNow .string (vs k) es i=some ((fnd k m i).map fun p=>(p.1, .agg (a8 p.2)))
 | [],[],i,_=>rfl
 | [],_::_,_,h=>by cases h
 |_::_,[],_,h=>by cases h
 |e::es,p::m,i,h=>by
  simp only[List.map_cons,List.cons.injEq,Zo_,Prod.mk.injEq] at h
  obtain⟨⟨h1,h2⟩,h3⟩:=h
  unfold Instr.findNow
  have hs:Instr.sameNow .string (vs k) e.key=some (k==p.1):=by
   rw[h1]
   simp only[vs,Instr.sameNow,Kk_]
  rw[hs]
  unfold fnd
  cases hk: (k==p.1)
  ·simp only[Bool.false_eq_true, ↓reduceIte]
   exact V6_ k es m (i+1) h3
  ·simp[h2]
theorem aae_ (k:List UInt8): ∀ (m:Vals) (i j:Nat) (v:List UInt8),fnd k m i=some (j,v)→i≤j∧ ∃a,m[j - i]? =some (k,a)∧a=v
 | [],_,_,_,h=>by cases h
 |p::r,i,j,v,h=>by
  unfold fnd at h
  split at h
  ·rename_i hk
   cases h
   refine⟨Nat.le_refl _,p.2, ?_,rfl⟩
   rw[Nat.sub_self,List.getElem?_cons_zero,eq_of_beq hk]
  ·obtain⟨h1,a,h2,h3⟩:=aae_ k r (i+1) j v h
   refine⟨by omega,a, ?_,h3⟩
   rw[show j - i=(j - (i+1))+1 by omega,List.getElem?_cons_succ];exact h2
theorem abm_ (k v:List UInt8): ∀ (es:List MapEntry) (m:Vals) (i j:Nat) (a:List UInt8),es.map (fun e=>(e.key,e.val))=m.map Zo_→fnd k m i=some (j,a)→
  (es.modify (j - i) fun e=>{e with key:=vs k,val:= .agg (a8 v)}).map (fun e=>(e.key,e.val))=(updV k v m).map Zo_
 | [],[],_,_,_,_,h=>by cases h
 | [],_::_,_,_,_,h,_=>by cases h
 |_::_,[],_,_,_,h,_=>by cases h
 |e::es,p::m,i,j,a,h,hf=>by
  simp only[List.map_cons,List.cons.injEq,Zo_,Prod.mk.injEq] at h
  obtain⟨⟨h1,h2⟩,h3⟩:=h
  unfold fnd at hf
  unfold updV
  split at hf
  ·rename_i hk
   cases hf
   rw[if_pos hk,Nat.sub_self]
   simp only[List.modify_zero_cons,List.map_cons,Zo_,eq_of_beq hk]
   rw[h3]
  ·rename_i hk
   have hle:=(aae_ k m (i+1) j a hf).1
   rw[if_neg hk,show j - i=(j - (i+1))+1 by omega]
   simp only[List.modify_succ_cons,List.map_cons,Zo_]
   rw[abm_ k v es m (i+1) j a h3 hf,h1,h2]
theorem ab1_ (k v:List UInt8): ∀ (m:Vals) (i:Nat),fnd k m i=none→updV k v m=m++ [(k,v)]
 | [],_,_=>rfl
 |p::r,i,h=>by
  unfold fnd at h
  split at h
  ·cases h
  ·rename_i hk
   unfold updV
   rw[if_neg hk,ab1_ k v r (i+1) h];rfl
section
variable {P:Program} {w0:World} {f:Fr} {L:zc_} {N:Fr→zc_→Prop} {ops:Array Oper} {rest:List Oper} {md:Md}
 {d:Option Tmp} {ty:TypeId} {ps:String} {af:Array Edge} {g:Option (Nat×Bool)}
theorem aeH_ {w:World} {t:TypeId} (hu:P.underlying t=some .string) (k:List UInt8) (es:List MapEntry) (m:Vals) (h:es.map (fun e=>(e.key,e.val))=m.map Zo_):
  (Instr.findKey t (vs k) es).run P w= .ok ((fnd k m 0).map fun p=>(p.1, .agg (a8 p.2))) w:=by
 simp only[Instr.findKey,Sem.run_bind,run_underlying hu w,Result.andThen_ok,V6_ k es m 0 h]
 rfl
theorem Jb_ {w:World} {t:TypeId} (hu:P.underlying t=some .string) (e:Bool) (k:List UInt8): (Instr.checkKey e 10000 t (vs k)).run P w= .ok () w:=by
 unfold Instr.checkKey
 simp only[Sem.run_bind,run_underlying hu w,Result.andThen_ok,vs]
 rfl
theorem qS_ {w:World} {b:Nat} {es:Array MapEntry} {c:Nat} (hb:w.heap[b]? =some (.map es c)): (getObj b).run P w= .ok (.map es c) w:=by
 simp only[getObj,Sem.run,hb]
theorem xr_ {w:World} {b:Nat} {es:Array MapEntry} {c:Nat} (hb:w.heap[b]? =some (.map es c)) (o:Obj): (setObj b o).run P w= .ok () {w with heap:=w.heap.setIfInBounds b o}:=by
 simp only[setObj,Sem.run,hb]
def vm (b:Nat):Value:= .map (some b)
theorem Ow.makeMap {t:TypeId} {md':Md} (he:md.turn=some md') (hs:zu_ ops f ⟨d, .makeMap t none,ty,ps,af,g⟩=false)
  (hn: ∀b o,jI_ L b→w0.heap.size≤b→MapR o []→Ow P w0 ops md' rest (qJ_ f d (vm b)) (L++ [(b,o)]) N):
  Ow P w0 ops md (⟨d, .makeMap t none,ty,ps,af,g⟩::rest) f L N:=by
 refine Ow.step he rfl hs fun w hw=> .inl ⟨vm w.heap.size,w.alloc (.map #[] 0),_, ?_,hw.alloc _,hn _ _ (z6_ fun b hb=>hw.lt hb) hw.size ⟨#[],0,rfl,rfl,List.pairwise_singleton _ _⟩⟩
 simp only[execOp,Instr.makeMap,Sem.run_bind,Option.map_none]
 rfl
theorem an0_ {k:List UInt8} {m:Vals} {es:List MapEntry} {j:Nat} {a:List UInt8} (h:es.map (fun e=>(e.key,e.val))=m.map Zo_) (hf:fnd k m 0=some (j,a)): ∃e,es[j]? =some e∧e.key=vs k:=by
 obtain⟨-,a',h1,rfl⟩:=aae_ k m 0 j a hf
 rw[Nat.sub_zero] at h1
 have:=congrArg (·[j]?) h
 simp only[List.getElem?_map,h1,Option.map_some] at this
 cases he:es[j]? with
 |none=>rw[he] at this;cases this
 |some e=>
  rw[he] at this
  simp only[Option.map_some,Option.some.injEq,Zo_,Prod.mk.injEq] at this
  exact⟨e,rfl,this.1⟩
theorem Ow.mapUpdate {t kt vt:TypeId} {x y z:Operand} {b:Nat} {o:Obj} {m:Vals} {k v:List UInt8} {md':Md} (he:md.turn=some md') (hs:zu_ ops f ⟨d, .mapUpdate t x y z,ty,ps,af,g⟩=false) (hu:P.underlying t=some (.map kt vt)) (huk:P.underlying kt=some .string)
  (hx:ev f x=vm b) (hy:ev f y=vs k) (hz:ev f z= .agg (a8 v)) (hl:look L b=some o) (hm:MapR o m)
  (hn: ∀o',MapR o' (updV k v m)→Ow P w0 ops md' rest (qJ_ f d undef) (setB L b o') N):
  Ow P w0 ops md (⟨d, .mapUpdate t x y z,ty,ps,af,g⟩::rest) f L N:=by
 obtain⟨es,c,rfl,hes,hbo⟩:=hm
 refine Ow.step he rfl hs fun w hw=> ?_
 have hb:=hw.has _ _ (zp_ hl)
 have hfk:=aeH_ (w:=w) huk k es.toList m hes
 cases hf:fnd k m 0 with
 |none=>
  rw[hf] at hfk
  refine .inr (.inl ⟨{w with heap:=w.heap.setIfInBounds b (.map (es.push {key:=vs k,val:= .agg (a8 v),born:=c}) (c+1))},_, ?_,hw.set (zh_ hl) rfl rfl rfl rfl,hn _ ⟨_,_,rfl, ?_,by rw[Array.toList_push];exact acn_ hbo rfl⟩⟩)
  ·have: (Instr.mapUpdate t (vm b) (vs k) (.agg (a8 v))).run P w= .ok () {w with heap:=w.heap.setIfInBounds b (.map (es.push {key:=vs k,val:= .agg (a8 v),born:=c}) (c+1))}:=by
    simp only[Instr.mapUpdate,vm,Sem.run_bind,run_underlying hu w,Result.andThen_ok,qS_ hb,Jb_ huk,hfk,Option.map_none,xr_ hb]
   simp only[execOp,Sem.run_bind,hx,hy,hz]
   rw[this];rfl
  ·rw[ab1_ k v m 0 hf,Array.toList_push,List.map_append,hes,List.map_append];rfl
 |some p=>
  obtain⟨j,a⟩:=p
  rw[hf] at hfk
  obtain⟨e,hej,hek⟩:=an0_ hes hf
  have hej':es[j]? =some e:=by simpa using hej
  have hkt: (Instr.keyThatStays (((es[j]?).map (·.key)).getD (vs k)) (vs k)).run P w= .ok (vs k) w:=by
   rw[hej',Option.map_some,Option.getD_some,hek]
   unfold Instr.keyThatStays
   have:Instr.sameBits 10000 (vs k) (vs k)=true:=by simp[vs,Instr.sameBits,Kk_]
   rw[if_pos this];rfl
  refine .inr (.inl ⟨{w with heap:=w.heap.setIfInBounds b (.map (es.modify j fun e=>{e with key:=vs k,val:= .agg (a8 v)}) c)},_, ?_,hw.set (zh_ hl) rfl rfl rfl rfl,hn _ ⟨_,_,rfl, ?_,by rw[Array.toList_modify,J6_ (g:=fun e=>{e with key:=vs k,val:= .agg (a8 v)}) fun _=>rfl];exact hbo⟩⟩)
  ·have: (Instr.mapUpdate t (vm b) (vs k) (.agg (a8 v))).run P w= .ok () {w with heap:=w.heap.setIfInBounds b (.map (es.modify j fun e=>{e with key:=vs k,val:= .agg (a8 v)}) c)}:=by
    simp only[Instr.mapUpdate,vm,Sem.run_bind,run_underlying hu w,Result.andThen_ok,qS_ hb,Jb_ huk,hfk,Option.map_some,hkt,xr_ hb]
   simp only[execOp,Sem.run_bind,hx,hy,hz]
   rw[this];rfl
  ·rw[Array.toList_modify]
   have:=abm_ k v es.toList m 0 j a hes hf
   rw[Nat.sub_zero] at this
   exact this
end
end Go.Sx
namespace Go.Sx
open Go
section
variable {P:Program} {w0:World} {f:Fr} {L:zc_} {N:Fr→zc_→Prop} {ops:Array Oper} {rest:List Oper} {md:Md}
 {d:Option Tmp} {ty:TypeId} {ps:String} {af:Array Edge} {g:Option (Nat×Bool)}
def getV (k:List UInt8) (z:List UInt8) (m:Vals):List UInt8:=match m.find? fun p=>k==p.1 with|some p=>p.2|none=>z
end
end Go.Sx
namespace Go.Sx
open Go
def kv (e:MapEntry):Value×Value:=(e.key,e.val)
def ItR (o:Obj) (bm:Nat) (om:Obj) (m dn lf:Vals):Prop:=
 ∃es clock,∃ds:List MapEntry,om= .map es clock∧(es.toList.map (·.born)++ [clock]).Pairwise (· < ·)∧o= .mapIter (some bm) clock (ds.map (·.born)).toArray clock∧
  ds.map kv=dn.map Zo_∧(∀d,d∈ds→d∈es.toList)∧((es.toList.filter fun e=> !(ds.map (·.born)).contains e.born).map kv=lf.map Zo_)∧(dn++lf).Perm m
theorem QV_ {l:List MapEntry} {c:Nat} (h: (l.map (·.born)++ [c]).Pairwise (· < ·)): (l.map (·.born)).Nodup:=
 ((List.pairwise_append.1 h).1).imp fun h=>Nat.ne_of_lt h
theorem aop_ {l:List MapEntry} {c:Nat} (h: (l.map (·.born)++ [c]).Pairwise (· < ·)): ∀x,x∈l→x.born<c:=fun x hx=>
 (List.pairwise_append.1 h).2.2 _ (List.mem_map.2 ⟨x,hx,rfl⟩) c (List.mem_singleton.2 rfl)
theorem abv_ (es:Array MapEntry) (ds:List MapEntry): (leftOf es (ds.map (·.born)).toArray).toList=es.toList.filter fun e=> !(ds.map (·.born)).contains e.born:=by
 unfold leftOf
 rw[Array.toList_filter]
 simp
theorem ItR.start {bm:Nat} {om:Obj} {m:Vals} (h:MapR om m): ∃es clock,om= .map es clock∧ItR (.mapIter (some bm) clock #[] clock) bm om m [] m:=by
 obtain⟨es,clock,rfl,h1,h2⟩:=h
 refine⟨es,clock,rfl,es,clock,[],rfl,h2,rfl,rfl,(fun d hd=>by cases hd), ?_,by rw[List.nil_append]⟩
 rw[show(es.toList.filter fun e=> !(([]:List MapEntry).map (·.born)).contains e.born)=es.toList from List.filter_eq_self.2 (fun _ _=>rfl)]
 exact h1
theorem ItR.step {bm:Nat} {om:Obj} {m dn lf:Vals} {es:Array MapEntry} {clock:Nat} {ds:List MapEntry} {e:MapEntry} (hb: (es.toList.map (·.born)++ [clock]).Pairwise (· < ·))
  (hd:ds.map kv=dn.map Zo_) (hm: ∀d,d∈ds→d∈es.toList) (hl: (es.toList.filter fun e=> !(ds.map (·.born)).contains e.born).map kv=lf.map Zo_) (hp: (dn++lf).Perm m)
  (he:e∈es.toList.filter fun e=> !(ds.map (·.born)).contains e.born) (hom:om= .map es clock):
  ∃p lf',kv e=Zo_ p∧lf.length=lf'.length+1∧ItR (.mapIter (some bm) clock ((ds.map (·.born)).toArray.push e.born) clock) bm om m (dn++ [p]) lf':=by
 obtain⟨A,C,hAC⟩:=List.append_of_mem he
 rw[hAC,List.map_append,List.map_cons] at hl
 obtain⟨l1,l2,rfl,h1,h2⟩:=List.append_eq_map_iff.1 hl
 obtain⟨p,l3,rfl,h3,h4⟩:=(List.map_eq_cons_iff.1 h2)
 refine⟨p,l1++l3,h3.symm,by simp;omega,es,clock,ds++ [e],hom,hb,by simp,by simp[hd,h3], ?_, ?_, ?_⟩
 ·intro d hd'
  rcases List.mem_append.1 hd' with h|h
  ·exact hm d h
  ·rw[List.mem_singleton] at h;subst h;exact(List.mem_filter.1 he).1
 ·have hnd: ((A++e::C).map (·.born)).Nodup:=by
   rw[←hAC]
   exact(QV_ hb).sublist ((List.filter_sublist).map _)
  have e1: (es.toList.filter fun x=> !((ds++ [e]).map (·.born)).contains x.born)=(A++e::C).filter fun x=> !(x.born==e.born):=by
   rw[←hAC,List.filter_filter]
   refine List.filter_congr fun x hx=> ?_
   simp only[List.map_append,List.map_cons,List.map_nil,List.contains_append,List.contains_cons,List.contains_nil,Bool.or_false,Bool.not_or]
   rw[Bool.and_comm]
  rw[List.map_append,List.map_cons,List.nodup_append] at hnd
  obtain⟨-,hn2,hn3⟩:=hnd
  rw[List.nodup_cons] at hn2
  have e2: ((A++e::C).filter fun x=> !(x.born==e.born))=A++C:=by
   rw[List.filter_append,List.filter_cons]
   simp only[beq_self_eq_true,Bool.not_true,Bool.false_eq_true, ↓reduceIte]
   congr 1
   ·refine List.filter_eq_self.2 fun x hx=> ?_
    have:=hn3 x.born (List.mem_map.2 ⟨x,hx,rfl⟩) e.born List.mem_cons_self
    simpa using this
   ·refine List.filter_eq_self.2 fun x hx=> ?_
    have:x.born≠e.born:=fun h=>hn2.1 (h▸List.mem_map.2 ⟨x,hx,rfl⟩)
    simpa using this
  rw[e1,e2,List.map_append,List.map_append,h1,h4]
 ·refine List.Perm.trans ?_ hp
  rw[List.append_assoc]
  refine List.Perm.append_left dn ?_
  rw[List.singleton_append]
  exact List.perm_middle.symm
section
variable {P:Program} {w0:World} {f:Fr} {L:zc_} {N:Fr→zc_→Prop} {ops:Array Oper} {rest:List Oper} {md:Md}
 {d:Option Tmp} {ty:TypeId} {ps:String} {af:Array Edge} {g:Option (Nat×Bool)}
def itv (b:Nat):Value:= .pointer (some ⟨b,0,none⟩)
end
end Go.Sx
namespace Go.Sx
open Go
theorem ac4_ (A B C:List Value) {o n:Nat} (hA:A.length=o) (hB:B.length=n): (A++ (B++C)).toArray.extract o (o+n)=B.toArray:=by
 subst hA;subst hB
 rw[List.extract_toArray,List.extract_eq_take_drop,List.drop_left,Nat.add_sub_cancel_left,List.take_left]
theorem akv_ (A C:List Value) (v:Value) {o:Nat} (hA:A.length=o): (A++ ([v]++C)).toArray[o]? =some v:=by
 subst hA;simp
theorem kI_ (A C:List Value) (v:Value) {o:Nat} (hA:A.length=o): (A++ ([v]++C))[o]? =some v:=by
 subst hA;simp
theorem XE_ (A B B' C:List Value) {o:Nat} (hA:A.length=o) (hB:B.length=B'.length):Qz_ (A++ (B++C)).toArray o B'=(A++ (B'++C)).toArray:=by
 subst hA
 have hp:=Wx_ B' A B C hB
 rw[List.append_assoc,List.append_assoc] at hp
 exact hp
theorem alK_ (A B C:List Value) {o n:Nat} (hA:A.length=o) (hB:B.length=n):partV (true,n) (A++ (B++C)).toArray o=some (.agg B.toArray):=by
 show some (Value.agg _)=_
 rw[ac4_ A B C hA hB]
theorem Qv_ (A C:List Value) (v:Value) {o n:Nat} (hA:A.length=o):partV (false,n) (A++ ([v]++C)).toArray o=some v:=akv_ A C v hA
theorem v1_ (A B C:List Value) {o n:Nat} (E:TypeId) (fz:Nat×Nat) (hA:A.length=o) (hB:B.length=n):zk_ (some (true,n)) (some (.cells (A++ (B++C)).toArray E fz)) o=some (.agg B.toArray):=by
 have hs:o+n≤ (A++ (B++C)).toArray.size:=by
  simp only[List.size_toArray,List.length_append];omega
 unfold zk_
 simp only[hs, ↓reduceIte]
 rw[ac4_ A B C hA hB]
theorem zK_ (A C:List Value) (v:Value) {o:Nat} (n:Nat) (E:TypeId) (fz:Nat×Nat) (hA:A.length=o):zk_ (some (false,n)) (some (.cells (A++ ([v]++C)).toArray E fz)) o=some v:=by
 rw[abI_];exact akv_ A C v hA
theorem zs_ (A B B' C:List Value) {o n:Nat} (a:Bool) (x:Value) (E:TypeId) (hA:A.length=o) (hB:B.length=n) (hx:x.cells=B'.toArray) (hB':B'.length=n) (ho:B'.all Value.oneCell'=true):
  zn_ (some (a,n)) (some (.cells (A++ (B++C)).toArray E (0,0))) o x=some (.cells (A++ (B'++C)).toArray E (0,0)):=by
 subst hA
 have hp:=Wx_ B' A B C (by rw[hB,hB'])
 rw[List.append_assoc,List.append_assoc] at hp
 unfold zn_
 simp only[hx]
 rw[if_pos ⟨by rw[List.size_toArray,hB'],by simp only[List.size_toArray,List.length_append];omega, .inl (Nat.le_refl 0),ho⟩,hp]
theorem q4_ (cs:List Value) {n:Nat} (a:Bool) (old:Array Value) (E:TypeId) (hn:cs.length=n) (ho:cs.all Value.oneCell'=true) (h:old.size=n):
  zn_ (some (a,n)) (some (.cells old E (0,0))) 0 (.agg cs.toArray)=some (.cells cs.toArray E (0,0)):=
 Z0_ n a cs.toArray old E ⟨by rw[List.size_toArray,hn],h⟩ ho
theorem v5_ (l:List UInt8): (l.map v8).all Value.oneCell'=true:=by
 rw[List.all_map]
 exact List.all_eq_true.2 fun x _=>rfl
theorem RowS.part {α:Type} {m:Nat} {enc:α→List Value} {z:α} {w:World} {v:Value} {l:List α} {b off:Nat} {arr:Array Value} {E:TypeId} {fz:Nat×Nat} (h:RowS m enc z w v l b off arr E fz) (hm: ∀x,(enc x).length=m) {k o n:Nat} (hk:k<l.length) (ho:o+n≤m) (hn:0<n):
  zk_ (some (true,n)) (some (.cells arr E fz)) (off+k*m+o)=some (.agg ((enc (l.getD k z)).toArray.extract o (o+n))):=by
 have hg: ∀i,i<n→arr[off+k*m+ (o+i)]? =(enc (l.getD k z))[o+i]? :=fun i hi=>h.get k hk (o+i) (by omega)
 have hlen:=hm (l.getD k z)
 have hsz:off+k*m+o+n≤arr.size:=by
  have h1:=hg (n - 1) (by omega)
  rw[List.getElem?_eq_getElem (by omega)] at h1
  have:=(Array.getElem?_eq_some_iff.1 h1).1
  omega
 unfold zk_
 simp only[hsz, ↓reduceIte]
 congr 2
 apply Array.ext_getElem?
 intro i
 by_cases hi:i<n
 ·rw[Array.getElem?_extract,Array.getElem?_extract,if_pos (by omega),if_pos (by rw[List.size_toArray];omega)]
  have hh:=hg i hi
  rw[show off+k*m+ (o+i)=off+k*m+o+i by omega] at hh
  rw[hh]
  exact(List.getElem?_toArray ..).symm
 ·rw[Array.getElem?_eq_none (by rw[Array.size_extract];omega),Array.getElem?_eq_none (by rw[Array.size_extract];omega)]
end Go.Sx
namespace Go.Sx
open Go
end Go.Sx
namespace Go.Sx
open Go
def SlV {α:Type} (m:Nat) (enc:α→List Value) (z:α) (w:World) (v:Value) (l:List α):Prop:=
 ∃b off c arr E fz,RowS m enc z w v l b off arr E fz∧l.length≤c∧((v= .slice none 0 0∧l= []∧c=0)∨(v=vsl b off l.length c∧w.heap[b]? =some (.cells arr E fz)∧off+l.length*m≤arr.size))
section
variable {α:Type} {m:Nat} {enc:α→List Value} {z:α} {w:World} {v:Value} {l:List α}
theorem RowS.sl' {b off n c:Nat} {arr:Array Value} {E:TypeId} {fz:Nat×Nat} (hn:n=l.length)
  (has:0<l.length→w.heap[b]? =some (.cells arr E fz)) (get: ∀k,k<l.length→ ∀j,j<m→arr[off+k*m+j]? =(enc (l.getD k z))[j]?):RowS m enc z w (vsl b off n c) l b off arr E fz:=by
 subst hn
 exact⟨fun x=>rfl,fun a k hk=>zY_ _ _ _ _ _ _ ⟨by omega,by omega⟩,has,get⟩
theorem SlV.nil (w:World):SlV m enc z w (.slice none 0 0) []:=⟨0,0,0, #[],0,(0,0),RowS.nil w 0 0 rfl,Nat.le_refl _, .inl ⟨rfl,rfl,rfl⟩⟩
theorem SlV.row (h:SlV m enc z w v l): ∃b off arr E fz,RowS m enc z w v l b off arr E fz:=by
 obtain⟨b,off,c,arr,E,fz,hr,-⟩:=h;exact⟨b,off,arr,E,fz,hr⟩
theorem SlV.sl {b off c:Nat} {arr:Array Value} {E:TypeId} {fz:Nat×Nat} (has:w.heap[b]? =some (.cells arr E fz)) (get: ∀k,k<l.length→ ∀j,j<m→arr[off+k*m+j]? =(enc (l.getD k z))[j]?) (hc:l.length≤c) (hs:off+l.length*m≤arr.size):SlV m enc z w (vsl b off l.length c) l:=
 ⟨b,off,c,arr,E,fz,RowS.sl rfl has get,hc, .inr ⟨rfl,has,hs⟩⟩
theorem RowS.old {w':World} {b off:Nat} {arr:Array Value} {E:TypeId} {fz:Nat×Nat} {L:zc_} (h:RowS m enc z w v l b off arr E fz) (hw:Hp w L w') (hb:0<l.length→b∉keys L):RowS m enc z w' v l b off arr E fz:=
 ⟨h.len,h.idx,fun hl=>by have hh:=h.has hl;rw[hw.old b (Array.getElem?_eq_some_iff.1 hh).1 (hb hl)];exact hh,h.get⟩
theorem RowS.lt {b off:Nat} {arr:Array Value} {E:TypeId} {fz:Nat×Nat} (h:RowS m enc z w v l b off arr E fz) (hl:0<l.length):b<w.heap.size:=(Array.getElem?_eq_some_iff.1 (h.has hl)).1
theorem SlV.old {w':World} {L:zc_} (h:SlV m enc z w v l) (hw:Hp w L w') (hb: ∀b,slB v=some b→b<w.heap.size→b∉keys L):SlV m enc z w' v l:=by
 obtain⟨b,off,c,arr,E,fz,hr,hc,hv⟩:=h
 rcases hv with⟨rfl,rfl,rfl⟩ | ⟨rfl,hhas,hsz⟩
 ·exact SlV.nil w'
 ·have hnb:=hb b rfl (Array.getElem?_eq_some_iff.1 hhas).1
  refine⟨b,off,c,arr,E,fz,hr.old hw (fun _=>hnb),hc, .inr ⟨rfl, ?_,hsz⟩⟩
  rw[hw.old b (Array.getElem?_eq_some_iff.1 hhas).1 hnb];exact hhas
theorem New.not {L:zc_} {n b:Nat} (h:New n L) (hb:b<n):b∉keys L:=fun hm=>by have:=h.le b hm;omega
theorem SlV.oldN {w':World} {L:zc_} (h:SlV m enc z w v l) (hw:Hp w L w') (hn:New w.heap.size L):SlV m enc z w' v l:=h.old hw fun _ _ hb=>hn.not hb
theorem SlV.len (h:SlV m enc z w v l) (x:Bool×Nat):Jv_ (.sl x) v=some (vi l.length):=by
 obtain⟨b,off,arr,E,fz,hr⟩:=h.row
 exact hr.len x
theorem SlV.take (h:SlV m enc z w v l) {k:Nat} (hk:k≤l.length) (a:Bool): ∃v',jC_ (.sl (a,m)) v none (some (some (k:Int)))=some v'∧SlV m enc z w v' (l.take k)∧(∀b,slB v'=some b→slB v=some b):=by
 obtain⟨b,off,c,arr,E,fz,hr,hc,hv⟩:=h
 have hl: (l.take k).length=k:=by simp;omega
 rcases hv with⟨rfl,rfl,rfl⟩ | ⟨rfl,hhas,hsz⟩
 ·obtain rfl:k=0:=by simpa using hk
  refine⟨.slice none 0 0,rfl,SlV.nil w,fun b hb=>hb⟩
 ·refine⟨vsl b off k c, ?_, ?_,fun b hb=>hb⟩
  ·unfold jC_ vsl
   simp only[anv_ _ _ _ (⟨by omega,by omega⟩: (0:Int)≤ (k:Int)∧(k:Int)≤ (c:Int)),Int.toNat_natCast,Nat.zero_mul,Nat.sub_zero,Option.map_some,jA_,Nat.add_zero]
   split<;>rfl
  ·refine⟨b,off,c,arr,E,fz,RowS.sl' hl.symm (fun h0=>hr.has (by omega)) ?_,by omega, .inr ⟨by rw[hl],hhas,by rw[hl];have:k*m≤l.length*m:=Nat.mul_le_mul_right _ hk;omega⟩⟩
   ·intro i hi j hj
    rw[hl] at hi
    rw[hr.get i (by omega) j hj]
    congr 2
    rw[List.getD_eq_getElem?_getD,List.getD_eq_getElem?_getD,List.getElem?_take_of_lt hi]
theorem Buf.slM {L:zc_} {E:TypeId} {n:Nat} {cs:List Value} (h:Buf L E m v n cs) (hw: ∀b o,(b,o)∈L→w.heap[b]? =some o) (hl:l.length=n) (hcs:cs=(l.map enc).flatten) (hm: ∀x,(enc x).length=m):SlV m enc z w v l:=by
 rcases h.inv with⟨rfl,rfl,rfl⟩ | ⟨b,c,rest,rfl,hlk,hlen,hnc,h0,hrest⟩
 ·have:l= []:=by simpa using hl
  subst this;exact SlV.nil w
 ·subst hl
  refine SlV.sl (hw _ _ (zp_ hlk)) ?_ hnc (by rw[List.size_toArray,List.length_append,hlen];omega)
  intro k hk j hj
  rw[Nat.zero_add,List.getElem?_toArray,List.getElem?_append_left (by rw[hlen];have: (k+1)*m≤l.length*m:=Nat.mul_le_mul_right _ hk;rw[Nat.add_mul,Nat.one_mul] at this;omega),hcs]
  clear hlen hrest hlk hcs hnc h
  induction l generalizing k with
  |nil=>simp at hk
  |cons x r ih=>
   rw[List.map_cons,List.flatten_cons]
   cases k with
   |zero=>
    rw[Nat.zero_mul,Nat.zero_add,List.getElem?_append_left (by rw[hm];exact hj),List.getD_cons_zero]
   |succ k=>
    rw[List.getElem?_append_right (by rw[hm,Nat.add_mul,Nat.one_mul];omega),hm,List.getD_cons_succ]
    have:=ih (k:=k) (by simpa using hk)
    rw[←this]
    congr 1
    rw[Nat.add_mul,Nat.one_mul];omega
theorem Buf.slV {L:zc_} {E:TypeId} {n:Nat} {cs:List Value} {w0:World} (h:Buf L E m v n cs) (hw:Hp w0 L w) (hl:l.length=n) (hcs:cs=(l.map enc).flatten) (hm: ∀x,(enc x).length=m):SlV m enc z w v l:=h.slM hw.has hl hcs hm
end
end Go.Sx
namespace Go.Sx
open Go
theorem New.mono {n m:Nat} (h:n≤m): ∀ {L:zc_},New m L→New n L
 | [],_=>trivial
 | (_,_)::_,hL=>⟨Nat.le_trans h hL.1,New.mono h hL.2⟩
theorem New.app {n:Nat} {M:zc_}: ∀ {L:zc_},New n L→New n M→New n (L++M)
 | [],_,hM=>hM
 | (_,_)::_,hL,hM=>⟨hL.1,New.app hL.2 hM⟩
section
variable {P:Program} {w0:World} {f:Fr} {L:zc_} {N:Fr→zc_→Prop} {ops:Array Oper} {rest:List Oper} {md:Md}
 {d:Option Tmp} {ty:TypeId} {ps:String} {af:Array Edge} {g:Option (Nat×Bool)}
theorem Ow.callN {l:List Operand} {ts:Array TypeId} {k:FuncId} {S:Nat→Value→zc_→Prop} {md':Md} (he:md.turn=some md')
  (hs:zu_ ops f ⟨d, .call ⟨.value (.func k),l.toArray,ts⟩,ty,ps,af,g⟩=false)
  (hk: ∀a w,(callFunc k a).run P w= .ok (.enter k a) w)
  (hc: ∀w,Hp w0 L w→Rets P k (l.map (ev f)).toArray w (fun v D=>S w.heap.size v D))
  (hnew: ∀B v D,S B v D→New B D)
  (hn: ∀B v D,jI_ L B→w0.heap.size≤B→S B v D→Ow P w0 ops md' rest (qJ_ f d v) (L++D) N):
  Ow P w0 ops md (⟨d, .call ⟨.value (.func k),l.toArray,ts⟩,ty,ps,af,g⟩::rest) f L N:=by
 refine Ow.callF he hs hk (S:=S) hc ?_
 intro B v D ha hB hS
 exact⟨_,Mrg.fresh (hnew B v D hS).le,hn B v D ha hB hS⟩
end
end Go.Sx
section
namespace Go.Sx
open Go
set_option linter.unusedSimpArgs false
section
variable {P:Program} {w0:World} {L:zc_}
theorem wC_ {w:World} {ts tx ty e:TypeId} {m:Bool×Nat} {z x:Value} {b k:Nat} {new:List Value} (hw:Hp w0 L w)
  (hu:P.underlying ts=some (.slice e)) (hm:zT_ P e=some m) (hi:k1_ P e=true) (hz:zL_ P e=some z) (hzs:z.cells.size=m.2) {d:TypeDesc} (hux:P.underlying tx=some d) (hnx: ∀k,d≠ .int k)
  (hXa: ∀w,Hp w0 L w→AppX P w m.2 x k new) (hbig:2* (0+k)+768≤2^38):
  (k=0∧(Builtin.append_ #[ts,tx] ty #[vsl b 0 0 0,x]).run P w= .ok (vsl b 0 0 0) w)∨
  (0<k∧ ∃v' w' L',(Builtin.append_ #[ts,tx] ty #[vsl b 0 0 0,x]).run P w= .ok v' w'∧Hp w0 L' w'∧Buf L' e m.2 v' (0+k) ([]++new)∧Grew w0 (.slice none 0 0) L L'∧ ∃c,slB v'=some c∧jI_ L c):=by
 obtain⟨i,hi,hb0,hbig⟩:=wM_ hi hbig
 have hti: ∀w,(typeInfo e).run P w= .ok i w:=by
  intro w
  simp only[typeInfo,program,Sem.run_bind]
  show Result.andThen (Result.ok P w) _=_
  simp only[Result.andThen_ok,hi]
  rfl
 have hmd: (match d with| .int _=>true|_=>false)=false:=by
  cases d<;>first|rfl|exact absurd rfl (hnx _)
 have e1: ∀ {α β:Type} (a:α) (f:α→World→Result β),(Sem.run P (pure a) w).andThen f=f a w:=fun _ _=>rfl
 have hX:=hXa w hw
 have hxl:=hX.len
 have hxc:=hX.cells
 have hzv:=xH_ (P:=P) hz
 have room: ∀ (b:Nat) (w:World),(askRoom b).run P w= .ok () w:=by
  intro b w
  unfold askRoom
  split<;>rfl
 have zc: ∀j,(Builtin.zeroCells z.cells j).toList.length=j*m.2:=by
  intro j;simp[Builtin.zeroCells,hzs]
 have hbg: ∀c,c<0+k→ ¬ (Builtin.nextslicecap (0+k) c*i.bytes>2^48):=by
  intro c hc
  have:=wi_ hc
  have h2:=Nat.mul_le_mul_right i.bytes this
  omega
 by_cases hk:k=0
 ·subst hk
  have hnew:new= []:=List.eq_nil_of_length_eq_zero (by have:=hX.size;omega)
  subst hnew
  refine .inl ⟨rfl, ?_⟩
  simp only[Builtin.append_,vsl,List.getElem?_toArray,List.getElem?_cons_zero,List.getElem?_cons_succ,Sem.run_bind,run_underlying hu w,Result.andThen_ok,zJ_ hm w,run_underlying hux w,hmd,e1,Bool.false_eq_true, ↓reduceIte,hxl,Bool.not_false,Nat.add_zero,Nat.le_refl,hxc]
  rfl
 ·have hpos: ¬0+k≤0:=by omega
  have hbg':=hbg 0 (by omega)
  simp only[Builtin.append_,List.getElem?_toArray,List.getElem?_cons_zero,List.getElem?_cons_succ,Sem.run_bind,run_underlying hu w,Result.andThen_ok,zJ_ hm w,run_underlying hux w,hmd,e1,Bool.false_eq_true, ↓reduceIte,hxl,Bool.not_false,hpos,vsl,hti,hb0,or_false,and_false,hbg']
  have hch: (choose (Question.appendCap (0+k) 0 e)).run P w= .ok ((0+k)+w.tape w.drawn (.appendCap (0+k) 0 e)% (2^63 - (0+k))) w.drew:=rfl
  rw[hch]
  generalize hcc: (0+k)+w.tape w.drawn (.appendCap (0+k) 0 e)% (2^63 - (0+k))=c
  have hw1:=hw.drew
  have hX1:=hXa _ hw1
  have hold: (Builtin.firstCells m.2 0 (Value.slice (some ⟨b,0,none⟩) 0 0)).run P w.drew= .ok #[] w.drew:=by
   simp only[Builtin.firstCells,Nat.zero_mul];rfl
  simp only[Result.andThen_ok,room,hold,hX1.cells,hzv]
  refine .inr ⟨by omega,_,_,L++ [(w.drew.heap.size, .cells ([]++new++ (Builtin.zeroCells z.cells (c - (0+k))).toList).toArray e (0,0))],rfl, ?_, .at_ (b:=w.drew.heap.size) (rest:=(Builtin.zeroCells z.cells (c - (0+k))).toList) ?_ ?_ ?_ (by omega) (by omega), ?_,⟨_,rfl,z6_ fun b hb=>hw1.lt hb⟩⟩
  ·have ea: ([]++new++ (Builtin.zeroCells z.cells (c - (0+k))).toList).toArray= #[]++new.toArray++Builtin.zeroCells z.cells (c - (0+k)):=by apply Array.ext';simp
   rw[ea]
   exact hw1.alloc _
  ·rw[z5_ (fun hm=>Nat.lt_irrefl _ (hw1.lt hm))]
   simp[look]
  ·rw[List.nil_append,hX.size,Nat.zero_add]
  ·exact zc _
  ·refine⟨fun c hc=>by rw[zt_];exact List.mem_append_left _ hc,fun c hc=> ?_,fun c o hne ho=>zl_ ho⟩
   rw[zt_] at hc
   rcases List.mem_append.1 hc with hc|hc
   ·exact .inl hc
   ·right
    simp only[keys,List.map_cons,List.map_nil,List.mem_singleton] at hc
    subst hc
    exact⟨z6_ fun b hb=>hw1.lt hb,hw1.size⟩
end
section
variable {P:Program} {w0:World} {f:Fr} {L:zc_} {N:Fr→zc_→Prop} {ops:Array Oper} {rest:List Oper} {md:Md}
 {d:Option Tmp} {ty:TypeId} {ps:String} {af:Array Edge} {g:Option (Nat×Bool)}
theorem Ow.appendEm {ts tx e:TypeId} {m:Bool×Nat} {z:Value} {s x:Operand} {b k:Nat} {new:List Value} {dx:TypeDesc} {md':Md} (hsv:ev f s=vsl b 0 0 0) (he:md.turn=some md')
  (hs:zu_ ops f ⟨d, .call ⟨.builtin .append, #[s,x], #[ts,tx]⟩,ty,ps,af,g⟩=false)
  (hu:P.underlying ts=some (.slice e)) (hm:zT_ P e=some m) (hi:k1_ P e=true) (hz:zL_ P e=some z) (hzs:z.cells.size=m.2) (hux:P.underlying tx=some dx) (hnx: ∀k,dx≠ .int k)
  (hX: ∀w,Hp w0 L w→AppX P w m.2 (ev f x) k new) (hbig:2* (0+k)+768≤2^38)
  (hn0:k=0→Ow P w0 ops md' rest (qJ_ f d (vsl b 0 0 0)) L N)
  (hn: ∀v' L',0<k→Buf L' e m.2 v' (0+k) ([]++new)→Grew w0 (.slice none 0 0) L L'→(∃c,slB v'=some c∧jI_ L c)→Ow P w0 ops md' rest (qJ_ f d v') L' N):
  Ow P w0 ops md (⟨d, .call ⟨.builtin .append, #[s,x], #[ts,tx]⟩,ty,ps,af,g⟩::rest) f L N:=by
 refine Ow.step he rfl hs fun w hw=> ?_
 rcases wC_ (ty:=ty) (b:=b) hw hu hm hi hz hzs hux hnx hX hbig with⟨hk,hr⟩ | ⟨hk,v',w',L',hr,hp,hb,hg,hsl⟩
 ·refine .inl ⟨_,w,L, ?_,hw,hn0 hk⟩
  simp only[execOp,resolve,Sem.run_bind,Sem.run_pure,Result.andThen_ok,invoke,builtin,List.map_toArray,List.map_cons,List.map_nil,hsv]
  rw[hr]
  rfl
 ·refine .inl ⟨v',w',L', ?_,hp,hn v' L' hk hb hg hsl⟩
  simp only[execOp,resolve,Sem.run_bind,Sem.run_pure,Result.andThen_ok,invoke,builtin,List.map_toArray,List.map_cons,List.map_nil,hsv]
  rw[hr]
  rfl
end
end Go.Sx
end
namespace Go.Sx
open Go
def Gr (L:zc_) (E:TypeId) (m:Nat) (v:Value) (n:Nat) (cs:List Value):Prop:=
 Buf L E m v n cs∨(n=0∧cs= []∧ ∃b,v=vsl b 0 0 0∧look L b=some (.cells #[] E (0,0)))
theorem Gr.nl {L:zc_} {E:TypeId} {m:Nat}:Gr L E m (.slice none 0 0) 0 []:= .inl .nl
theorem Grew.any {w0:World} {v v':Value} {L L':zc_} (h:Grew w0 v L L') (hv:slB v=none):Grew w0 v' L L':=
 ⟨h.keys,h.new,fun c o _ hl=>h.look c o (by rw[hv];simp) hl⟩
theorem Gr.keep {L L':zc_} {E:TypeId} {m n:Nat} {v:Value} {cs:List Value} (h:Gr L E m v n cs) (hk: ∀b o,slB v=some b→look L b=some o→look L' b=some o):Gr L' E m v n cs:=by
 rcases h with h| ⟨h1,h2,b,rfl,h3⟩
 ·exact .inl (h.keep hk)
 ·exact .inr ⟨h1,h2,b,rfl,hk b _ rfl h3⟩
theorem Gr.app {L M:zc_} {E:TypeId} {m n:Nat} {v:Value} {cs:List Value} (h:Gr L E m v n cs):Gr (L++M) E m v n cs:=h.keep fun _ _ _ hl=>zl_ hl
theorem Gr.len {L:zc_} {E:TypeId} {m n:Nat} {v:Value} {cs:List Value} (h:Gr L E m v n cs) (x:Bool×Nat):Jv_ (.sl x) v=some (vi n):=by
 rcases h with h| ⟨rfl,rfl,b,rfl,-⟩
 ·exact h.len x
 ·rfl
theorem Gr.cell {L:zc_} {E:TypeId} {m n:Nat} {v:Value} {cs:List Value} (h:Gr L E m v n cs):Value.oneCell' v=true∧v.cells= #[v]:=by
 rcases h with h| ⟨rfl,rfl,b,rfl,-⟩
 ·exact h.cell
 ·exact⟨rfl,rfl⟩
theorem Gr.key {L:zc_} {E:TypeId} {m n:Nat} {v:Value} {cs:List Value} (h:Gr L E m v n cs) {b:Nat} (hb:slB v=some b):b∈keys L:=by
 rcases h with h| ⟨rfl,rfl,c,rfl,hl⟩
 ·rcases h.inv with⟨rfl,-,-⟩ | ⟨c,cc,rest,rfl,hl,-⟩
  ·cases hb
  ·cases hb;exact zh_ hl
 ·cases hb;exact zh_ hl
section
variable {α:Type} {m:Nat} {enc:α→List Value} {z:α} {w:World} {v:Value} {l:List α}
theorem Gr.slM {L:zc_} {E:TypeId} {n:Nat} {cs:List Value} (h:Gr L E m v n cs) (hw: ∀b o,(b,o)∈L→w.heap[b]? =some o) (hl:l.length=n) (hcs:cs=(l.map enc).flatten) (hm: ∀x,(enc x).length=m):SlV m enc z w v l:=by
 rcases h with h| ⟨rfl,rfl,b,rfl,hlk⟩
 ·exact h.slM hw hl hcs hm
 ·obtain rfl:l= []:=List.eq_nil_of_length_eq_zero hl
  exact SlV.sl (l:=([]:List α)) (off:=0) (c:=0) (hw _ _ (zp_ hlk)) (fun k hk=>by simp at hk) (Nat.le_refl 0) (by simp)
theorem Gr.slV {L:zc_} {E:TypeId} {n:Nat} {cs:List Value} {w0:World} (h:Gr L E m v n cs) (hw:Hp w0 L w) (hl:l.length=n) (hcs:cs=(l.map enc).flatten) (hm: ∀x,(enc x).length=m):SlV m enc z w v l:=h.slM hw.has hl hcs hm
theorem Jk_ (hm: ∀x,(enc x).length=m) (arr:Array Value): ∀ (ls:List α) (off:Nat),off+ls.length*m≤arr.size→(∀k j,k<ls.length→j<m→arr[off+k*m+j]? =(enc (ls.getD k z))[j]?)→
  (arr.extract off (off+ls.length*m)).toList=(ls.map enc).flatten
 | [],off,_,_=>by simp
 |r::ls,off,hs,h=>by
  have hlm: (r::ls).length*m=m+ls.length*m:=by rw[List.length_cons,Nat.add_mul,Nat.one_mul,Nat.add_comm]
  rw[hlm] at hs ⊢
  have ih:=Jk_ hm arr ls (off+m) (by omega) (fun k j hk hj=>by
   have:=h (k+1) j (by simpa using hk) hj
   rw[List.getD_cons_succ] at this
   rw[←this];congr 1;rw[Nat.add_mul,Nat.one_mul];omega)
  have h0: (arr.extract off (off+m)).toList=enc r:=by
   apply List.ext_getElem?
   intro j
   rw[Array.getElem?_toList,Array.getElem?_extract]
   by_cases hj:j<m
   ·rw[if_pos (by omega)]
    have:=h 0 j (by simp) hj
    simpa using this
   ·rw[if_neg (by omega),List.getElem?_eq_none (by rw[hm];omega)]
  rw[List.map_cons,List.flatten_cons,←ih,←h0,←Array.toList_append]
  congr 1
  rw[Array.extract_append_extract]
  congr 1<;>omega
theorem aeZ_ (hm: ∀x,(enc x).length=m) (l:List α): (l.map enc).flatten.length=l.length*m:=by
 induction l with
 |nil=>simp
 |cons x r ih=>rw[List.map_cons,List.flatten_cons,List.length_append,ih,hm,List.length_cons,Nat.add_mul,Nat.one_mul,Nat.add_comm]
theorem AppX.one1 {P:Program} {b:Nat} {E:TypeId} {fz:Nat×Nat} {cs:List Value} (hb:w.heap[b]? =some (.cells cs.toArray E fz)) (hm:cs.length=m) (h1:cs.all Value.oneCell'=true):AppX P w m (vsl b 0 1 1) 1 cs:=by
 refine AppX.block (w0:=w) (L:= []) (by rw[Qy_];exact hb) (by simp;omega) ?_ h1 (Hp.refl w)
 rw[List.extract_toArray,List.extract_eq_take_drop,List.drop_zero,List.take_of_length_le (by omega)]
theorem SlV.appX {P:Program} (h:SlV m enc z w v l) (hm: ∀x,(enc x).length=m) (h1: ∀x,(enc x).all Value.oneCell'=true):AppX P w m v l.length (l.map enc).flatten:=by
 obtain⟨b,off,c,arr,E,fz,hr,hc,hv⟩:=h
 rcases hv with⟨rfl,rfl,rfl⟩ | ⟨rfl,hhas,hsz⟩
 ·exact AppX.nil P w m
 ·refine AppX.block (w0:=w) (L:= []) (by rw[Qy_];exact hhas) hsz (Jk_ (z:=z) hm arr l off hsz (fun k j hk hj=>hr.get k hk j hj)) ?_ (Hp.refl w)
  rw[List.all_flatten,List.all_map,List.all_eq_true]
  exact fun r _=>h1 r
end
section
variable {P:Program} {w0:World} {f:Fr} {L:zc_} {N:Fr→zc_→Prop} {ops:Array Oper} {rest:List Oper} {md:Md}
 {d:Option Tmp} {ty:TypeId} {ps:String} {af:Array Edge} {g:Option (Nat×Bool)}
theorem Ow.appendG {ts tx e:TypeId} {m:Bool×Nat} {z:Value} {s x:Operand} {n k:Nat} {cs new:List Value} {dx:TypeDesc} {md':Md} (sv:Value) (hsv:ev f s=sv) (he:md.turn=some md')
  (hs:zu_ ops f ⟨d, .call ⟨.builtin .append, #[s,x], #[ts,tx]⟩,ty,ps,af,g⟩=false)
  (hu:P.underlying ts=some (.slice e)) (hm:zT_ P e=some m) (hi:k1_ P e=true) (hz:zL_ P e=some z) (hzs:z.cells.size=m.2) (hux:P.underlying tx=some dx) (hnx: ∀k,dx≠ .int k)
  (hB:Gr L e m.2 sv n cs) (hX: ∀w,Hp w0 L w→AppX P w m.2 (ev f x) k new) (hlen:new.length=k*m.2) (hbig:2* (n+k)+768≤2^38)
  (hn: ∀v' L',Gr L' e m.2 v' (n+k) (cs++new)→(0<k→Buf L' e m.2 v' (n+k) (cs++new))→Grew w0 sv L L'→(slB v'=slB sv∨ ∃c,slB v'=some c∧jI_ L c)→Ow P w0 ops md' rest (qJ_ f d v') L' N):
  Ow P w0 ops md (⟨d, .call ⟨.builtin .append, #[s,x], #[ts,tx]⟩,ty,ps,af,g⟩::rest) f L N:=by
 rcases hB with hB| ⟨rfl,rfl,b,rfl,hlk⟩
 ·exact Ow.append sv hsv he hs hu hm hi hz hzs hux hnx hB hX hbig fun v' L' h1 h2 h3=>hn v' L' (.inl h1) (fun _=>h1) h2 h3
 ·refine Ow.appendEm hsv he hs hu hm hi hz hzs hux hnx hX hbig (fun h0=> ?_) (fun v' L' hk h1 h2 h3=> ?_)
  ·subst h0
   obtain rfl:new= []:=List.eq_nil_of_length_eq_zero (by rw[hlen,Nat.zero_mul])
   exact hn _ L (.inr ⟨rfl,rfl,b,rfl,hlk⟩) (fun h=>absurd h (Nat.lt_irrefl 0)) (Grew.refl _ _ _) (.inl rfl)
  ·exact hn v' L' (.inl h1) (fun _=>h1) (h2.any rfl) (.inr h3)
end
end Go.Sx
namespace Go.Sx
open Go
theorem ah0_ {w0:World} {L M:zc_} {r:Nat} (h:r∈keys L):zA_ w0 (L++M) r=zA_ w0 L r:=by
 obtain⟨o,ho⟩:=JX_ h
 rw[za_ ho,za_ (zl_ ho)]
theorem xv_ {w0:World} {L M:zc_} {R:List Nat} (h: ∀r,r∈R→r∈keys L): ∀r,r∈R→zA_ w0 (L++M) r=zA_ w0 L r:=fun r hr=>ah0_ (h r hr)
theorem New.of_le {n:Nat}: ∀ {D:zc_},(∀c,c∈keys D→n≤c)→New n D
 | [],_=>trivial
 | (b,o)::r,h=>⟨h b (by simp[keys]),New.of_le fun c hc=>h c (by simp only[keys,List.map_cons,List.mem_cons] at hc ⊢;exact .inr hc)⟩
theorem agq_ {w0:World} {L M:zc_} {r:Nat} (h:r∉keys M):zA_ w0 (M++L) r=zA_ w0 L r:=by
 unfold zA_;rw[z5_ h]
theorem Ext.new0 {w:World} {D:zc_} (h:Ext w [] D):New w.heap.size D:=by
 have hn:=h.new
 have key: ∀ (D:zc_),(∀c,c∈Sx.keys D→w.heap.size≤c)→New w.heap.size D:=by
  intro D
  induction D with
  |nil=>intro _;trivial
  |cons p r ih=>
   obtain⟨b,o⟩:=p
   intro hh
   exact⟨hh b (by simp[Sx.keys]),ih fun c hc=>hh c (by simp only[Sx.keys,List.map_cons,List.mem_cons] at hc ⊢;exact .inr hc)⟩
 refine key D fun c hc=> ?_
 rcases hn c hc with h1|h1
 ·cases h1
 ·exact h1
theorem Ext.of_new {w:World} {D:zc_} (h:New w.heap.size D):Ext w [] D:=⟨fun c hc=> .inr (h.le c hc),fun c hc=>by cases hc⟩
section
variable {P:Program} {w0:World} {f:Fr} {L:zc_} {N:Fr→zc_→Prop} {K:kD_} {ops:Array Oper} {rest:List Oper} {md:Md}
 {d:Option Tmp} {ty:TypeId} {ps:String} {af:Array Edge} {g:Option (Nat×Bool)}
theorem jV_ {b:Nat} {o:Obj}: ∀ {B:zc_},(keys B).Nodup→(b,o)∈B→look B b=some o
 | [],_,h=>by cases h
 | (c,x)::q,hn,h=>by
  simp only[keys,List.map_cons,List.nodup_cons] at hn
  unfold look
  rcases List.mem_cons.1 h with h|h
  ·cases h;rw[if_pos rfl]
  ·have:c≠b:=fun e=>hn.1 (e▸List.mem_map.2 ⟨_,h,rfl⟩)
   rw[if_neg this]
   exact jV_ hn.2 h
theorem SR.perm {R:List Nat} {M:zc_} (h:M.Perm L) (hn: (keys L).Nodup):SR w0 R M=SR w0 R L:=by
 refine Zf_ fun r _=> ?_
 have hk: ∀ (A B:zc_),A.Perm B→(keys B).Nodup→ ∀o,look A r=some o→look B r=some o:=fun A B hp hB o ho=>jV_ hB (hp.mem_iff.1 (zp_ ho))
 have hnM: (keys M).Nodup:=(List.Perm.nodup_iff (h.map Prod.fst)).2 hn
 unfold zA_
 cases hl:look L r with
 |some o=>rw[hk L M h.symm hnM o hl]
 |none=>
  cases hm:look M r with
  |none=>rfl
  |some o=>rw[hk M L h hn o hm] at hl;cases hl
theorem OwD.permL {l:List Oper} {listed:List Bool} {n:Nat} {R ts:List Nat} {a d:Nat} {z:Obj} {M:zc_} (hp:M.Perm L) (h:OwD P w0 l R ts a d z n listed f M N):OwD P w0 l R ts a d z n listed f L N:=by
 refine⟨fun w hw=> ?_,fun b w hb hbL hw=> ?_⟩
 ·have:=h.1 w (hw.perm hp)
  rw[SR.perm hp hw.nodup] at this
  exact this
 ·have hnd: (keys L).Nodup:=by
   have:=hw.nodup
   rw[zt_,List.nodup_append] at this
   exact this.1
  have:=h.2 b w hb (fun hm=>hbL (by have:=(hp.map Prod.fst).mem_iff.1 hm;exact this)) (hw.perm (hp.append_right _))
  rw[SR.perm hp hnd] at this
  exact this
theorem Cw.permL {c:Code} {M:zc_} (hp:M.Perm L) (h:Cw P w0 c f M K):Cw P w0 c f L K:=fun w hw=>h w (hw.perm hp)
theorem Ow.permL {M:zc_} {l:List Oper} (hp:M.Perm L) (h:Ow P w0 ops .seq l f M N):Ow P w0 ops .seq l f L N:=fun w hw=>h w (hw.perm hp)
theorem Ow.callC {l:List Operand} {ts:Array TypeId} {k:FuncId} {S:Value→zc_→Prop} {md':Md} (he:md.turn=some md')
  (hs:zu_ ops f ⟨d, .call ⟨.value (.func k),l.toArray,ts⟩,ty,ps,af,g⟩=false)
  (hk: ∀a w,(callFunc k a).run P w= .ok (.enter k a) w)
  (hc: ∀w,Hp w0 L w→Rets P k (l.map (ev f)).toArray w (XS w [] S))
  (hn: ∀B v D,jI_ L B→w0.heap.size≤B→New B D→S v D→Ow P w0 ops md' rest (qJ_ f d v) (L++D) N):
  Ow P w0 ops md (⟨d, .call ⟨.value (.func k),l.toArray,ts⟩,ty,ps,af,g⟩::rest) f L N:=
 Ow.callN he hs hk (S:=fun B v D=>New B D∧S v D) (fun w hw=>(hc w hw).mono fun _v _D h=>⟨h.1.new0,h.2⟩) (fun _ _ _ h=>h.1) (fun B v D hA hB hS=>hn B v D hA hB hS.1 hS.2)
theorem Hp.part {w:World} {X Y:zc_} (h:Hp w0 (X++Y) w):Hp w X w:=
 ⟨fun b o hm=>h.has b o (List.mem_append_left _ hm),by have:=h.nodup;rw[zt_,List.nodup_append] at this;exact this.1,fun _ _ _=>rfl,Nat.le_refl _,rfl,rfl,rfl⟩
theorem Hp.join {w w':World} {X Y D:zc_} (h:Hp w0 (X++Y) w) (k:Hp w D w') (h1: ∀c,c∈keys X→c∈keys D) (h2: ∀c,c∈keys D→c∈keys X∨w.heap.size≤c):Hp w0 (D++Y) w':=by
 have hnd:=h.nodup
 rw[zt_,List.nodup_append] at hnd
 have hY: ∀c,c∈keys Y→c∉keys D:=by
  intro c hc hd
  rcases h2 c hd with hx|hx
  ·exact hnd.2.2 c hx c hc rfl
  ·have:=h.lt (b:=c) (by rw[zt_];exact List.mem_append_right _ hc)
   omega
 have ht:=h.trans k
 have e: (X++Y).filter (fun p=> !(keys D).contains p.1)=Y:=by
  rw[List.filter_append,xa_ hY]
  have:X.filter (fun p=> !(keys D).contains p.1)= []:=by
   rw[List.filter_eq_nil_iff]
   intro p hp
   have:=h1 p.1 (List.mem_map.2 ⟨p,hp,rfl⟩)
   simp[this]
  rw[this,List.nil_append]
 rw[e] at ht
 exact ht.perm List.perm_append_comm
theorem Ow.appendX {ts tx e:TypeId} {m:Bool×Nat} {z:Value} {s x:Operand} {n k:Nat} {cs new:List Value} {dx:TypeDesc} {md':Md} {X Y:zc_} (sv:Value) (hL:L=X++Y) (hsv:ev f s=sv) (he:md.turn=some md')
  (hs:zu_ ops f ⟨d, .call ⟨.builtin .append, #[s,x], #[ts,tx]⟩,ty,ps,af,g⟩=false)
  (hu:P.underlying ts=some (.slice e)) (hm:zT_ P e=some m) (hi:k1_ P e=true) (hz:zL_ P e=some z) (hzs:z.cells.size=m.2) (hux:P.underlying tx=some dx) (hnx: ∀k,dx≠ .int k)
  (hB:Gr X e m.2 sv n cs) (hX: ∀w,Hp w0 L w→AppX P w m.2 (ev f x) k new) (hk:0<k) (hbig:2* (n+k)+768≤2^38)
  (hn: ∀B v' D,jI_ L B→w0.heap.size≤B→Buf D e m.2 v' (n+k) (cs++new)→(∀c,c∈keys X→c∈keys D)→(∀c,c∈keys D→c∈keys X∨B≤c)→(∀c o,slB sv≠some c→look X c=some o→look D c=some o)→Ow P w0 ops md' rest (qJ_ f d v') (D++Y) N):
  Ow P w0 ops md (⟨d, .call ⟨.builtin .append, #[s,x], #[ts,tx]⟩,ty,ps,af,g⟩::rest) f L N:=by
 subst hL
 refine Ow.step he rfl hs fun w hw=> ?_
 have hp:=hw.part
 have hA:jI_ (X++Y) w.heap.size:=z6_ fun b hb=>hw.lt hb
 have fin: ∀v' w' D,(Builtin.append_ #[ts,tx] ty #[sv,ev f x]).run P w= .ok v' w'→Hp w D w'→Buf D e m.2 v' (n+k) (cs++new)→(∀c,c∈keys X→c∈keys D)→(∀c,c∈keys D→c∈keys X∨w.heap.size≤c)→(∀c o,slB sv≠some c→look X c=some o→look D c=some o)→
   (∃v w' L',(execOp (ev f) ⟨d, .call ⟨.builtin .append, #[s,x], #[ts,tx]⟩,ty,ps,af,g⟩).run P w= .ok (.value v) w'∧Hp w0 L' w'∧Ow P w0 ops md' rest (qJ_ f d v) L' N):=by
  intro v' w' D hr hD hb h1 h2 h3
  refine⟨v',w',D++Y, ?_,hw.join hD h1 h2,hn w.heap.size v' D hA hw.size hb h1 h2 h3⟩
  simp only[execOp,resolve,Sem.run_bind,Sem.run_pure,Result.andThen_ok,invoke,builtin,List.map_toArray,List.map_cons,List.map_nil,hsv]
  rw[hr]
  rfl
 have hX': ∀w',Hp w [] w'→True:=fun _ _=>trivial
 rcases hB with hB| ⟨rfl,rfl,b,rfl,hlk⟩
 ·obtain⟨v',w',D,hr,hD,hb,hg,-⟩:=QN_ (w0:=w) (L:=X) (ty:=ty) (x:=ev f x) hp hu hm hi hz hzs hux hnx hB (fun w2 hw2=>hX w2 (by
   refine hw.join hw2 (fun c hc=>hc) (fun c hc=> .inl hc))) hbig
  exact .inl (fin v' w' D hr hD hb hg.keys (fun c hc=>(hg.new c hc).imp id And.right) hg.look)
 ·rcases wC_ (w0:=w) (L:=X) (ty:=ty) (b:=b) (x:=ev f x) hp hu hm hi hz hzs hux hnx (fun w2 hw2=>hX w2 (by
   refine hw.join hw2 (fun c hc=>hc) (fun c hc=> .inl hc))) hbig with⟨h0,-⟩ | ⟨-,v',w',D,hr,hD,hb,hg,-⟩
  ·omega
  ·exact .inl (fin v' w' D hr hD hb hg.keys (fun c hc=>(hg.new c hc).imp id And.right) (fun c o _ hl=>hg.look c o (by simp[slB]) hl))
end
def GrI (D:zc_) (E:TypeId) (m:Nat) (v:Value) (n:Nat) (cs:List Value):Prop:= ∃X,(∀p,p∈X→p∈D)∧Gr X E m v n cs
theorem Gr.i {X D:zc_} {E:TypeId} {m n:Nat} {v:Value} {cs:List Value} (h:Gr X E m v n cs) (hX: ∀p,p∈X→p∈D):GrI D E m v n cs:=⟨X,hX,h⟩
theorem GrI.mono {D D':zc_} {E:TypeId} {m n:Nat} {v:Value} {cs:List Value} (h:GrI D E m v n cs) (hX: ∀p,p∈D→p∈D'):GrI D' E m v n cs:=by
 obtain⟨X,h1,h2⟩:=h;exact⟨X,fun p hp=>hX p (h1 p hp),h2⟩
theorem GrI.slV {α:Type} {m:Nat} {enc:α→List Value} {z:α} {w0 w:World} {v:Value} {l:List α} {D:zc_} {E:TypeId} {n:Nat} {cs:List Value} (h:GrI D E m v n cs) (hw:Hp w0 D w) (hl:l.length=n) (hcs:cs=(l.map enc).flatten) (hm: ∀x,(enc x).length=m):SlV m enc z w v l:=by
 obtain⟨X,h1,h2⟩:=h
 exact h2.slM (fun b o hm=>hw.has b o (h1 _ hm)) hl hcs hm
section
variable {P:Program} {w0:World} {f:Fr} {L:zc_} {N:Fr→zc_→Prop}
end
end Go.Sx
namespace Go.Sx
open Go
theorem zV_ {P:Program} {t e:TypeId} {m:Nat} {zc:Array Value} {cs:List Value} (hu:P.underlying t=some (.slice e)) (ha:zT_ P e=some (true,m)) (hz:zL_ P e=some (.agg zc)) (hm:0<m∧m≤16777216) (hc:cs.length=m):
  XV_ P t 1 [(0, .agg cs.toArray)]=some (e,cs.toArray):=by
 have h2:Value.cells (.agg cs.toArray)=cs.toArray:=zj_ _
 have hg: ¬ (1*m>2^24):=by simp;omega
 have h0: ¬ (1*m=0):=by omega
 simp only[XV_,hu,ha,hz,Option.map_some]
 rw[if_neg hg,if_neg h0]
 simp only
 generalize hI: (Array.range (1*m)).map (fun x=>(Value.cells (.agg zc))[x% (Value.cells (.agg zc)).size]!)=I
 have hIs:I.size=m:=by rw[←hI];simp
 have hfl:Instr.fill (fun i=>some (i*m,m)) I [(0,Value.agg cs.toArray)]=some cs.toArray:=by
  unfold Instr.fill
  have s3:cs.toArray.size=m:=by simp[hc]
  simp only[h2,s3,hIs,Nat.zero_mul,ne_eq,not_true_eq_false,decide_false,Bool.false_or,Nat.zero_add,Nat.lt_irrefl,gt_iff_lt,Bool.false_eq_true, ↓reduceIte]
  unfold Instr.fill
  congr 1
  have hz:=QU_ cs 0 0 I
  rw[Nat.add_zero,afh_ I cs (by rw[hc,hIs])] at hz
  simp only[Nat.zero_add] at hz
  rw[←Array.foldl_toList,Array.toList_zipIdx]
  exact hz
 rw[hfl]
 rfl
end Go.Sx
namespace Go.Sx
open Go
abbrev ltB (a b:List UInt8):Bool:=Op.bytesLess a b
theorem VR_: ∀ (x y:List UInt8),ltB x y=decide (x<y)
 | [],[]=>by simp[ltB,Op.bytesLess]
 |_::_,[]=>by simp[ltB,Op.bytesLess]
 | [],_::_=>by simp[ltB,Op.bytesLess]
 |a::x,b::y=>by
  have ih:=VR_ x y
  simp only[ltB] at ih ⊢
  rw[Op.bytesLess,ih]
  simp only[List.cons_lt_cons_iff]
  by_cases h1:a<b<;>by_cases h2:a=b<;>by_cases h3:x<y<;>simp[h1,h2,h3]
theorem Q1_ (a:List UInt8):ltB a a=false:=by
 rw[VR_];simp
theorem XI_ {a b c:List UInt8} (h:ltB a b=true) (k:ltB b c=true):ltB a c=true:=by
 rw[VR_,decide_eq_true_eq] at*
 exact List.lt_trans h k
theorem abj_ {a b:List UInt8} (h:ltB a b=true):ltB b a=false:=by
 cases hb:ltB b a
 ·rfl
 ·have:=XI_ h hb
  rw[Q1_] at this;cases this
theorem Qb_ {a b:List UInt8} (h:ltB a b=false) (hne:a≠b):ltB b a=true:=by
 rw[VR_,decide_eq_false_iff_not] at h
 rw[VR_,decide_eq_true_eq]
 rcases Std.Trichotomous.rel_or_eq_or_rel_swap (r:=(· < · :List UInt8→List UInt8→Prop)) (a:=a) (b:=b) with h1|h1|h1
 ·exact absurd h1 h
 ·exact absurd h1 hne
 ·exact h1
end Go.Sx
namespace Go.StP
open Go Go.Sx
variable {α:Type} (key:α→List UInt8)
def lt (a b:α):Bool:=ltB (key a) (key b)
def Sorted (l:List α):Prop:=l.Pairwise fun a b=>lt key b a=false
def of (k:List UInt8) (l:List α):List α:=l.filter fun a=>key a==k
def St (l l':List α):Prop:= ∀k,of key k l'=of key k l
theorem St.refl (l:List α):St key l l:=fun _=>rfl
variable {key}
theorem St.trans {a b c:List α} (h:St key a b) (h':St key b c):St key a c:=fun k=>(h' k).trans (h k)
theorem St.symm {a b:List α} (h:St key a b):St key b a:=fun k=>(h k).symm
theorem afA_ (k:List UInt8) (a b:List α):of key k (a++b)=of key k a++of key k b:=List.filter_append ..
theorem St.app {a a' b b':List α} (h:St key a a') (h':St key b b'):St key (a++b) (a'++b'):=fun k=>by rw[afA_,afA_,h,h']
theorem anJ_ {k:List UInt8} {l:List α} {x:α}:x∈of key k l↔x∈l∧key x=k:=by
 unfold of;rw[List.mem_filter];simp
theorem St.mem {a b:List α} (h:St key a b) (x:α):x∈b↔x∈a:=by
 have e:=h (key x)
 have h1:x∈b↔x∈of key (key x) b:=by rw[anJ_];simp
 have h2:x∈a↔x∈of key (key x) a:=by rw[anJ_];simp
 rw[h1,h2,e]
theorem akG_ {k:List UInt8} {l:List α} (h: ∀x,x∈l→key x≠k):of key k l= []:=by
 unfold of
 rw[List.filter_eq_nil_iff]
 intro x hx
 simpa using h x hx
theorem St.swap {a b:List α} (h: ∀x,x∈a→ ∀y,y∈b→key x≠key y):St key (a++b) (b++a):=by
 intro k
 rw[afA_,afA_]
 by_cases ha: ∃x,x∈a∧key x=k
 ·obtain⟨x,hx,rfl⟩:=ha
  have:of key (key x) b= []:=akG_ fun y hy e=>h x hx y hy e.symm
  rw[this,List.append_nil,List.nil_append]
 ·have:of key k a= []:=akG_ fun x hx e=>ha ⟨x,hx,e⟩
  rw[this,List.append_nil,List.nil_append]
theorem lt_trans {a b c:α} (h:lt key a b=true) (k:lt key b c=true):lt key a c=true:=XI_ h k
theorem lt_irrefl (a:α):lt key a a=false:=Q1_ _
theorem asa_ {a b:α} (h:lt key a b=false) (k:lt key b a=false):key a=key b:=by
 cases hk:decide (key a=key b)
 ·have hne:key a≠key b:=of_decide_eq_false hk
  have:=Qb_ h hne
  unfold lt at k
  rw[this] at k;cases k
 ·exact of_decide_eq_true hk
theorem St.head {a b:α} {l l':List α} (hs:Sorted key (a::l)) (hs':Sorted key (b::l')) (h:St key (a::l) (b::l')):a=b∧St key l l':=by
 have h1:lt key b a=false:=by
  have hb:b∈a::l:=(h.mem b).1 List.mem_cons_self
  rcases List.mem_cons.1 hb with rfl|hb
  ·exact lt_irrefl _
  ·exact(List.pairwise_cons.1 hs).1 b hb
 have h2:lt key a b=false:=by
  have ha:a∈b::l':=(h.mem a).2 List.mem_cons_self
  rcases List.mem_cons.1 ha with rfl|ha
  ·exact lt_irrefl _
  ·exact(List.pairwise_cons.1 hs').1 a ha
 have hk:key a=key b:=asa_ h2 h1
 have he:=h (key a)
 unfold of at he
 rw[List.filter_cons,List.filter_cons,if_pos (by simp[hk]),if_pos (by simp)] at he
 have hab:b=a:=(List.cons.inj he).1
 refine⟨hab.symm,fun k=> ?_⟩
 have hk':=h k
 subst hab
 unfold of at hk' ⊢
 rw[List.filter_cons,List.filter_cons] at hk'
 split at hk'
 ·exact(List.cons.inj hk').2
 ·exact hk'
theorem St.eq: ∀ {l l':List α},Sorted key l→Sorted key l'→St key l l'→l=l'
 | [],[],_,_,_=>rfl
 | [],b::l',_,_,h=>by
  have:b∈ ([]:List α):=(h.mem b).1 List.mem_cons_self
  cases this
 |a::l,[],_,_,h=>by
  have:a∈ ([]:List α):=(h.mem a).2 List.mem_cons_self
  cases this
 |a::l,b::l',hs,hs',h=>by
  obtain⟨rfl,h'⟩:=St.head hs hs' h
  rw[St.eq (List.pairwise_cons.1 hs).2 (List.pairwise_cons.1 hs').2 h']
theorem Sorted.app {a b:List α} (ha:Sorted key a) (hb:Sorted key b) (h: ∀x,x∈a→ ∀y,y∈b→lt key y x=false):Sorted key (a++b):=
 List.pairwise_append.2 ⟨ha,hb,h⟩
theorem Sorted.left {a b:List α} (h:Sorted key (a++b)):Sorted key a:=(List.pairwise_append.1 h).1
theorem Sorted.right {a b:List α} (h:Sorted key (a++b)):Sorted key b:=(List.pairwise_append.1 h).2.1
end Go.StP
namespace Go.Sx
open Go
section
variable {α:Type} (enc:α→List Value)
def j4_ (E:TypeId) (rest:List Value) (d:List α):Obj:= .cells ((d.map enc).flatten++rest).toArray E (0,0)
variable {enc} {m:Nat} {E:TypeId} {rest:List Value} {d:List α} {z:α}
theorem ke_ (hm: ∀x,(enc x).length=m) {k:Nat} (hk:k<d.length): ∃A C,(d.map enc).flatten++rest=A++ (enc (d.getD k z)++C)∧A.length=k*m∧ ∀x,((d.set k x).map enc).flatten++rest=A++ (enc x++C):=by
 refine⟨((d.take k).map enc).flatten,((d.drop (k+1)).map enc).flatten++rest, ?_, ?_,fun x=> ?_⟩
 ·have e:d=d.take k++d.getD k z::d.drop (k+1):=by
   rw[List.getD_eq_getElem?_getD,List.getElem?_eq_getElem hk,Option.getD_some,List.getElem_cons_drop,List.take_append_drop]
  have e2:=congrArg (fun l=>(l.map enc).flatten++rest) e
  simp only[List.map_append,List.map_cons,List.flatten_append,List.flatten_cons,List.append_assoc] at e2
  exact e2
 ·rw[aeZ_ hm,List.length_take,Nat.min_eq_left (Nat.le_of_lt hk)]
 ·have e:d.set k x=d.take k++x::d.drop (k+1):=List.set_eq_take_append_cons_drop.trans (by rw[if_pos hk])
  rw[e]
  simp only[List.map_append,List.map_cons,List.flatten_append,List.flatten_cons,List.append_assoc]
theorem Ze_ (hm: ∀x,(enc x).length=m) (k:Nat) (hk:k<d.length):zk_ (some (true,m)) (some (j4_ enc E rest d)) (k*m)=some (.agg (enc (d.getD k z)).toArray):=by
 obtain⟨A,C,e,hA,-⟩:=ke_ (z:=z) (rest:=rest) hm hk
 unfold j4_
 rw[e]
 exact v1_ A _ C E (0,0) hA (hm _)
theorem ah8_ (hm: ∀x,(enc x).length=m) (h1: ∀x,(enc x).all Value.oneCell'=true) (k:Nat) (x:α) (a:Bool) (hk:k<d.length):
  zn_ (some (a,m)) (some (j4_ enc E rest d)) (k*m) (.agg (enc x).toArray)=some (j4_ enc E rest (d.set k x)):=by
 obtain⟨A,C,e,hA,e2⟩:=ke_ (z:=x) (rest:=rest) hm hk
 unfold j4_
 rw[e,e2 x]
 exact zs_ A _ _ C a _ E hA (hm _) (zj_ _) (hm _) (h1 _)
end
section
variable {P:Program} {w0:World} {f:Fr} {L:zc_} {N:Fr→zc_→Prop} {ops:Array Oper} {rest:List Oper} {md:Md} {d:Option Tmp} {ty:TypeId} {ps:String} {af:Array Edge} {g:Option (Nat×Bool)}
end
end Go.Sx
namespace Go.StP
open Go Go.Sx
variable {α:Type} {key:α→List UInt8} {z:α}
theorem Wg_ {a b:List α} {k:Nat} (h:k<a.length): (a++b).getD k z=a.getD k z:=by
 rw[List.getD_eq_getElem?_getD,List.getD_eq_getElem?_getD,List.getElem?_append_left h]
theorem VZ_ {a b:List α} {k:Nat} (h:a.length≤k): (a++b).getD k z=b.getD (k - a.length) z:=by
 rw[List.getD_eq_getElem?_getD,List.getD_eq_getElem?_getD,List.getElem?_append_right h]
theorem xp_ {l:List α} {k:Nat} (h:k<l.length):l.getD k z∈l:=by
 rw[List.getD_eq_getElem?_getD,List.getElem?_eq_getElem h];exact List.getElem_mem h
theorem ajk_ {l:List α} {k n:Nat} (h:k<n): (l.take n).getD k z=l.getD k z:=by
 rw[List.getD_eq_getElem?_getD,List.getD_eq_getElem?_getD,List.getElem?_take,if_pos h]
theorem aiO_ {l:List α} {k:Nat} (h:k<l.length):l.drop k=l.getD k z::l.drop (k+1):=by
 rw[List.getD_eq_getElem?_getD,List.getElem?_eq_getElem h]
 exact List.drop_eq_getElem_cons h
theorem take_snoc {l:List α} {k:Nat} (h:k<l.length):l.take (k+1)=l.take k++ [l.getD k z]:=by
 rw[List.getD_eq_getElem?_getD,List.getElem?_eq_getElem h]
 exact List.take_succ_eq_append_getElem h
theorem Sorted.at_ {l:List α} (h:Sorted key l) {i j:Nat} (hij:i≤j) (hj:j<l.length):lt key (l.getD j z) (l.getD i z)=false:=by
 rcases Nat.lt_or_eq_of_le hij with h1|rfl
 ·have:=List.pairwise_iff_getElem.1 h i j (by omega) hj h1
  rw[List.getD_eq_getElem?_getD,List.getD_eq_getElem?_getD,List.getElem?_eq_getElem hj,List.getElem?_eq_getElem (show i<l.length by omega)]
  exact this
 ·exact lt_irrefl _
def auF_ (a s:List α) (x:α) (b:List α) (k:Nat):List α:=a++ (s.take k++ (x:: (s.drop k++b)))
end Go.StP
namespace Go.Sx
open Go
def Kf_ (r:Option Nat):Fence:={Fence.wide with round:=r}
def Kv_:Op→Bool
 | .defer _=>false
 |_=>true
section
variable {P:Program} {w0:World} {f:Fr} {L:zc_} {K:kD_} {N:Fr→zc_→Prop} {ops:Array Oper} {rest:List Oper} {r:Option Nat} {n:Nat}
theorem acA_ {k:FuncId} {args:Array Value} {w:World} {R:Ending→World→Prop} (h:Calls P k args w R):CallsIn (Kf_ r) n P k args w R:=
 (callsIn_wide.2 h:CallsIn Fence.wide n P k args w R)
theorem afY_ {row:String} {args:Array Value} {w:World} {R:Value→World→Prop} (h:Rows P row args w R):RowsIn (Kf_ r) n P row args w R:=
 (fun c cs _=>let ⟨v,w',hr,s⟩:=h c cs;⟨v,w',hr,stepsIn_wide.2 s⟩:RowsIn Fence.wide n P row args w R)
theorem aog_ {o:Oper} {a:Act} {w:World} {next:Act→World→Prop} {Q:Exit→Act→World→Prop} (hd:Kv_ o.op=true) (h:o.wp P a w next Q):o.wpIn (Kf_ r) n P a w next Q:=by
 refine⟨fun _ _=>trivial, ?_⟩
 rw[Oper.semAt_eq _ _ _ (fun c e=>by rw[e] at hd;cases hd)]
 unfold Oper.wp at h
 generalize (execOp a.eval o).run P w=x at h
 match x,h with
 | .ok (.value v) _,h=>exact h
 | .ok .skip _,h=>exact h
 | .ok (.defer e) _,h=>exact h
 | .ok (.enter k args) w',h=>
  have h':Calls P k args w' _:=h
  exact⟨fun(e:false=true)=>(by cases e),acA_ h'⟩
 | .ok (.row row args) w',h=>
  have h':Rows P row args w' _:=h
  exact⟨fun(e:false=true)=>(by cases e),afY_ h'⟩
 | .halt (.panic u) _,h=>exact h
theorem acY_ {Q:Exit→Act→World→Prop} {l2:List Oper}: ∀ (l1:List Oper) (a:Act) (w:World),(l1.all fun o=>Kv_ o.op)=true→
  wpList P ops (fun e a w=>e= .normal∧wpListIn (Kf_ r) n P ops Q l2 a w) l1 a w→wpListIn (Kf_ r) n P ops Q (l1++l2) a w
 | [],_,_,_,h=>h.2
 |o::l1,a,w,hd,h=>by
  rw[List.cons_append]
  unfold wpList at h
  unfold wpListIn
  rw[List.all_cons,Bool.and_eq_true] at hd
  split at h
  ·rename_i hw
   rw[if_pos hw]
   rcases h with h| ⟨-,hl⟩
   ·exact aog_ hd.1 (wx_ (fun a w hx=>acY_ l1 a w hd.2 hx) (fun e a w hne hq=>hne hq.1) h)
   ·obtain⟨_,_,he,-⟩:=hl
    cases he
  ·rename_i hw
   rw[if_neg hw]
   exact⟨fun _ _=>trivial,acY_ l1 _ _ hd.2 h⟩
def OwI (r:Option Nat) (P:Program) (w0:World) (ops:Array Oper) (l:List Oper) (f:Fr) (L:zc_) (N:Fr→zc_→Prop):Prop:=
 ∀w,Hp w0 L w→wpListIn (Kf_ r) 0 P ops (jL_ w0 N) l (act f) w
theorem OwI.nil (h:N f L):OwI r P w0 ops [] f L N:=fun _ hw=>⟨rfl,rfl,L,hw,by simpa [act] using h⟩
theorem OwI.pre {l1 l2:List Oper} (hd: (l1.all fun o=>Kv_ o.op)=true) (h:Ow P w0 ops .seq l1 f L (fun f' L'=>OwI r P w0 ops l2 f' L' N)):OwI r P w0 ops (l1++l2) f L N:=by
 intro w hw
 refine acY_ l1 _ _ hd ?_
 have h1:=h w hw
 have mono: ∀ (l:List Oper) (a:Act) (w:World),wpList P ops (jL_ w0 (fun f' L'=>OwI r P w0 ops l2 f' L' N)) l a w→wpList P ops (fun e a w=>e= .normal∧wpListIn (Kf_ r) 0 P ops (jL_ w0 N) l2 a w) l a w:=by
  intro l
  induction l with
  |nil=>
   rintro a w ⟨-,hd',L',hp,hO⟩
   refine⟨rfl, ?_⟩
   have:=hO w hp
   rwa [←aaX_ hd'] at this
  |cons o l ih=>
   intro a w h
   unfold wpList at h ⊢
   split at h
   ·rename_i hw
    rw[if_pos hw]
    rcases h with h| ⟨-,hl⟩
    ·exact .inl (wx_ ih (fun e a w hne hq=>hne hq.1) h)
    ·obtain⟨_,_,he,-⟩:=hl
     cases he
   ·rename_i hw
    rw[if_neg hw]
    exact ih _ _ h
 exact mono l1 _ _ h1
theorem Ow.mono_seq {l:List Oper} {N':Fr→zc_→Prop} (h:Ow P w0 ops .seq l f L N) (hN: ∀f L,N f L→N' f L):Ow P w0 ops .seq l f L N':=by
 intro w hw
 have h1:=h w hw
 clear h
 revert h1
 generalize act f=a
 clear hw
 induction l generalizing a w with
 |nil=>rintro⟨h1,h2,L',h3,h4⟩;exact⟨h1,h2,L',h3,hN _ _ h4⟩
 |cons o l ih=>
  intro h
  unfold wpList at h ⊢
  split at h
  ·rename_i hw
   rw[if_pos hw]
   rcases h with h| ⟨-,hl⟩
   ·exact .inl (wx_ (fun a w hx=>ih w a hx) (fun e a w hne hq=>hne hq.1) h)
   ·obtain⟨_,_,he,-⟩:=hl
    cases he
  ·rename_i hw
   rw[if_neg hw]
   exact ih _ _ h
theorem OwI.all {l:List Oper} (hd: (l.all fun o=>Kv_ o.op)=true) (h:Ow P w0 ops .seq l f L N):OwI r P w0 ops l f L N:=by
 have:=OwI.pre (r:=r) (l2:= []) (N:=N) hd (Ow.mono_seq h (fun f L hN=>OwI.nil hN))
 simpa using this
def CwR (r:Option Nat) (P:Program) (w0:World) (c:Code) (f:Fr) (L:zc_) (K:kD_):Prop:= ∀w,Hp w0 L w→c.wpIn (Kf_ r) 0 P (post w0 K) (act f) w
theorem CwR.region {id:Nat} {l:List Oper} (hd: (l.all fun o=>Kv_ o.op)=true) (h:Ow P w0 l.toArray .seq l f L (K .normal)):CwR r P w0 (.region id l.toArray false) f L K:=
 fun w hw=>wpIn_mono (wpIn_region_lit (OwI.all hd h w hw)) fun _ _ _ h=>kb_ h
theorem CwR.block {id:Nat} {c:Code} (h:CwR r P w0 c f L (kV_ id K)):CwR r P w0 (.block id c) f L K:=by
 intro w hw
 refine wpIn_block (wpIn_mono (h w hw) ?_)
 rintro e a w' ⟨hd,L',hp,k⟩
 cases e with
 |exit i=>
  simp only[Exit.inBlock]
  simp only[kV_] at k
  split
  ·rename_i e;rw[if_pos e] at k;exact⟨hd,L',hp,k⟩
  ·rename_i e;rw[if_neg e] at k;exact⟨hd,L',hp,k⟩
 |_=>exact⟨hd,L',hp,k⟩
theorem Hp.put {w:World} (h:Hp w0 L w) {b:Nat} {o:Obj} (hb:b∈keys L):Hp w0 (setB L b o) (w.putObj b o):=h.set hb rfl rfl rfl rfl
theorem YieldAt.of {l:Nat} {rc:Loop} {X:zc_} {args:Array Value} {w:World} {r0:Option Nat} {S:zc_→Prop} (hX:Hp w X w) (hl:look X l=some (.loop rc)) (hr:rc.state= .ready) (hp:rc.pending=none) (hs:args.size=rc.params.size)
  (h:CwR (some l) P w rc.assign ((rc.params.zip args).foldl (fun tmps (p:Tmp×Value)=>tmps.setIfInBounds p.1 p.2) rc.tmps).toList X (fun e f1 L1=>e= .normal∧look L1 l=some (.loop rc)∧
   CwR (some l) P w rc.body f1 (setB L1 l (.loop {rc with state:= .busy})) (fun e _ L2=>e= .normal∧look L2 l=some (.loop {rc with state:= .busy})∧S (setB L2 l (.loop rc))))):
  YieldAt (Kf_ r0) 0 P l args w (fun e w'=> ∃D,e= .returned (.bool true)∧Hp w D w'∧S D):=by
 obtain⟨st,pe,fn0,tm,pa,asg,bo,de⟩:=rc
 obtain rfl:st= .ready:=hr
 obtain rfl:pe=none:=hp
 have hl0:=hX.has _ _ (zp_ hl)
 refine⟨fn0,_,asg,bo,run_yield hl0 hs,roundIn_of_wpIn (F:=Kf_ r0) (n:=0) trivial ?_⟩
 have h1:=h w hX
 have ea:act ((pa.zip args).foldl (fun tmps (p:Tmp×Value)=>tmps.setIfInBounds p.1 p.2) tm).toList={tmps:=(pa.zip args).foldl (fun tmps (p:Tmp×Value)=>tmps.setIfInBounds p.1 p.2) tm,defers:= []}:=by
  simp[act]
 simp only at h1
 rw[ea] at h1
 refine wpIn_mono h1 ?_
 rintro e a1 w1 ⟨hd1,L1,hp1,rfl,hl1,hbody⟩
 have hb1:=run_beginRound (P:=P) (hp1.has _ _ (zp_ hl1)) rfl
 refine⟨_,hb1, ?_⟩
 have h2:=hbody _ (hp1.put (o:= .loop {state:= .busy,pending:=none,fn:=fn0,tmps:=tm,params:=pa,assign:=asg,body:=bo,defers:=de}) (zh_ hl1))
 rw[←aaX_ hd1] at h2
 refine wpIn_mono h2 ?_
 rintro e a2 w2 ⟨hd2,L2,hp2,rfl,hl2,hS⟩
 have he:=run_endRound (P:=P) none (hp2.has _ _ (zp_ hl2))
 exact⟨_,_,he,_,rfl,hp2.put (zh_ hl2),hS⟩
def asg_ (ds:List Deferred) (w0:World) (K:kD_) (e:Exit) (a:Act) (w:World):Prop:=a.defers=ds∧ ∃L,Hp w0 L w∧K e a.tmps.toList L
def CwE (ds:List Deferred) (P:Program) (w0:World) (c:Code) (f:Fr) (L:zc_) (K:kD_):Prop:= ∀w,Hp w0 L w→c.wp P (asg_ ds w0 K) ⟨f.toArray,ds⟩ w
theorem CwE.seq {ds:List Deferred} {x y:Code} (h:CwE ds P w0 x f L (Zk_ (fun f L=>CwE ds P w0 y f L K) K)):CwE ds P w0 (.seq x y) f L K:=by
 intro w hw
 refine wp_seq (wp_mono (h w hw) ?_)
 rintro e a w' ⟨hd,L',hp,k⟩
 cases e with
 |normal=>
  have:=k w' hp
  have ea:a=⟨a.tmps.toList.toArray,ds⟩:=by cases a;simp only at hd;subst hd;simp
  rw[ea]
  exact this
 |_=>exact⟨hd,L',hp,k⟩
theorem CwE.ret {ds:List Deferred} (h:K .ret f L):CwE ds P w0 .ret f L K:=fun _ hw=>wp_ret ⟨rfl,L,hw,by simpa using h⟩
def evVs (P:Program) (w0:World) (L:zc_):List Oper→Fr→Option Fr
 | [],f=>some f
 |o::r,f=>match o.guard,v9_ P w0 L f o.op with
  |none,some v=>evVs P w0 L r (qJ_ f o.dst v)
  |_,_=>none
theorem VQ_ {ds:List Deferred} {Q:Exit→Act→World→Prop} {w:World} (hw:Hp w0 L w): ∀ (l:List Oper) (f f':Fr),evVs P w0 L l f=some f'→Q .normal ⟨f'.toArray,ds⟩ w→wpList P ops Q l ⟨f.toArray,ds⟩ w
 | [],f,f',h,hQ=>by cases h;exact hQ
 |o::l,f,f',h,hQ=>by
  unfold evVs at h
  split at h
  ·rename_i v hg hv
   unfold wpList
   have hwn:Region.wanted o (yielded ops (⟨f.toArray,ds⟩:Act).tmps)=true:=by unfold Region.wanted;rw[hg]
   rw[if_pos hwn]
   refine .inl ?_
   unfold Oper.wp
   have he: (⟨f.toArray,ds⟩:Act).eval=ev f:=by
    have:=jK_ f
    funext x
    exact(congrFun this x)
   rw[he,jb_ hw hv]
   have hp: (⟨f.toArray,ds⟩:Act).put o.dst v=⟨(qJ_ f o.dst v).toArray,ds⟩:=by
    have:=z1_ f o.dst v
    cases hd:o.dst with
    |none=>rfl
    |some d=>simp only[Act.put,qJ_,akt_]
   show wpList P ops Q l ((⟨f.toArray,ds⟩:Act).put o.dst v) w
   rw[hp]
   exact VQ_ hw l _ f' h hQ
  ·cases h
theorem CwE.region {ds:List Deferred} {id:Nat} {l:List Oper} {f':Fr} (h:evVs P w0 L l f=some f') (hk:K .normal f' L):CwE ds P w0 (.region id l.toArray false) f L K:=
 fun w hw=>wp_region_lit (VQ_ hw l f f' h ⟨rfl,L,hw,by simpa using hk⟩)
theorem Gr.at_ {L:zc_} {E:TypeId} {m n:Nat} {v:Value} {cs:List Value} (h:Gr L E m v n cs) {b:Nat} (hb:slB v=some b): ∃a,look L b=some (.cells a E (0,0)):=by
 rcases h with h| ⟨rfl,rfl,c,rfl,hl⟩
 ·rcases h.inv with⟨rfl,-,-⟩ | ⟨c,cc,rest,rfl,hl,-⟩
  ·cases hb
  ·have:c=b:=by simpa [slB,vsl] using hb
   subst this;exact⟨_,hl⟩
 ·have:c=b:=by simpa [slB,vsl] using hb
  subst this;exact⟨_,hl⟩
theorem Gr.ne {L:zc_} {E:TypeId} {m n:Nat} {v:Value} {cs:List Value} (h:Gr L E m v n cs) {b:Nat} {o:Obj} (hl:look L b=some o) (ho: ∀a,o≠ .cells a E (0,0)):slB v≠some b:=fun e=>by
 obtain⟨a,ha⟩:=h.at_ e
 rw[hl] at ha
 exact ho a (Option.some.inj ha)
theorem Gr.setB {L:zc_} {E:TypeId} {m n:Nat} {v:Value} {cs:List Value} (h:Gr L E m v n cs) {b:Nat} (hb:slB v≠some b) (x:Obj):Gr (setB L b x) E m v n cs:=
 h.keep fun c o hc ho=>by rw[zb_ (fun e:b=c=>hb (by rw[e];exact hc))];exact ho
def recR (fn:FuncId) (f:Fr) (ps:Array Tmp) (assign body:Code) (dk:Nat) (st:LoopState):Loop:={state:=st,pending:=none,fn,tmps:=f.toArray,params:=ps,assign,body,defers:=dk}
def atW_ (P:Program) (gf:Nat) (lb:Array Value) {α:Type} (enc:α→Value) (xs:List α) (w:World):Prop:=
 ∀ (l:Nat) (J:List α→zc_→Prop) (w1:World) (X:zc_),(∀b,b<w.heap.size→w1.heap[b]? =w.heap[b]?)→(∀b,b∈keys X→w.heap.size≤b)→w.heap.size≤w1.heap.size→Hp w1 X w1→J [] X→(∀pre X Y,J pre X→J pre (X++Y))→
  (∀pre x post X2 w2,xs=pre++x::post→Hp w2 X2 w2→(∀b,b∈keys X2→w.heap.size≤b)→J pre X2→YieldAt (Kf_ none) 0 P l #[enc x] w2 (fun e w3=> ∃D,e= .returned (.bool true)∧Hp w2 D w3∧Ext w2 X2 D∧J (pre++ [x]) D))→
  Rets P gf (#[.func (.yield l) #[] #[]]++lb) w1 (XS w1 X (fun _ D=>J xs D))
end
end Go.Sx
namespace Go.Sx
open Go
section
variable {α:Type} {m:Nat} {enc:α→List Value} {z:α} {w:World} {v:Value} {l:List α}
theorem SlV.dropE (h:SlV m enc z w v l) {k:Nat} (hk:k≤l.length) (a:Bool): ∃v',jC_ (.sl (a,m)) v (some (some (k:Int))) none=some v'∧SlV m enc z w v' (l.drop k)∧(∀b,slB v'=some b→slB v=some b):=by
 obtain⟨b,off,c,arr,E,fz,hr,hc,hv⟩:=h
 have hl: (l.drop k).length=l.length - k:=by simp
 rcases hv with⟨rfl,rfl,rfl⟩ | ⟨rfl,hhas,hsz⟩
 ·obtain rfl:k=0:=by simpa using hk
  exact⟨.slice none 0 0,rfl,SlV.nil w,fun b hb=>hb⟩
 ·have hsl:jC_ (.sl (a,m)) (vsl b off l.length c) (some (some (k:Int))) none=some (vsl b (if c=k then off else off+k*m) (l.length - k) (c - k)):=by
   unfold jC_ vsl
   simp only[anH_ _ _ _ (⟨by omega,by omega⟩: (0:Int)≤ (k:Int)∧(k:Int)≤ (l.length:Int)),Int.toNat_natCast]
   by_cases hck:c=k
   ·simp[hck]
   ·simp only[hck, ↓reduceIte,Option.map_some,jA_]
  refine⟨_,hsl, ?_,fun b' hb=>hb⟩
  have hkm:k*m+ (l.length - k)*m=l.length*m:=by rw[←Nat.add_mul];congr 1;omega
  by_cases hck:c=k
  ·have h0:l.length - k=0:=by omega
   rw[if_pos hck]
   refine⟨b,off,c - k,arr,E,fz,RowS.sl' hl.symm (fun h=>by omega) (fun i hi=>by omega),by omega, .inr ⟨by rw[hl],hhas,by rw[hl,h0];omega⟩⟩
  ·rw[if_neg hck]
   refine⟨b,off+k*m,c - k,arr,E,fz,RowS.sl' hl.symm (fun h=>hhas) ?_,by omega, .inr ⟨by rw[hl],hhas,by rw[hl];omega⟩⟩
   intro i hi j hj
   rw[hl] at hi
   rw[List.getD_eq_getElem?_getD,List.getElem?_drop,←List.getD_eq_getElem?_getD,←hr.get (k+i) (by omega) j hj]
   congr 1
   rw[Nat.add_mul];omega
end
section
variable {P:Program} {w0:World} {f:Fr} {L:zc_} {N:Fr→zc_→Prop} {ops:Array Oper} {rest:List Oper} {md:Md} {d:Option Tmp} {ty:TypeId} {ps:String} {af:Array Edge} {g:Option (Nat×Bool)}
end
section
variable {P:Program} {w0:World} {f:Fr} {L:zc_} {K:kD_}
theorem Cw.world {c:Code} (h: ∀w,Hp w0 L w→Cw P w0 c f L K):Cw P w0 c f L K:=fun w hw=>h w hw w hw
theorem Gr.read {E:TypeId} {m n:Nat} {v:Value} {cs:List Value} (h:Gr L E m v n cs) {b:Nat} (hb:slB v=some b) {w:World} (hw:Hp w0 L w) {o:Obj} (ho:w.heap[b]? =some o):zA_ w0 L b=some o:=by
 obtain⟨a,ha⟩:=h.at_ hb
 rw[hw.has _ _ (zp_ ha)] at ho
 rw[za_ ha];exact ho
end
end Go.Sx
namespace Go.Sx
open Go
section
variable {α β:Type} [BEq α] [LawfulBEq α] (encK:α→Value) (encV:β→Value)
def JH_ (k:α):List (α×β)→Nat→Option (Nat×β)
 | [],_=>none
 |p::r,i=>if k==p.1 then some (i,p.2) else JH_ k r (i+1)
def updG (k:α) (v:β):List (α×β)→List (α×β)
 | []=> [(k,v)]
 |p::r=>if k==p.1 then(p.1,v)::r else p::updG k v r
def getG (k:α) (z:β) (m:List (α×β)):β:=match m.find? fun p=>k==p.1 with|some p=>p.2|none=>z
def kr_ (p:α×β):Value×Value:=(encK p.1,encV p.2)
def wY_ (o:Obj) (m:List (α×β)):Prop:= ∃es clock,o= .map es clock∧es.toList.map (fun e=>(e.key,e.val))=m.map (kr_ encK encV)∧(es.toList.map (·.born)++ [clock]).Pairwise (· < ·)
structure KeyOk (P:Program) (kt:TypeId) (encK:α→Value):Prop where
 find: ∀ {β:Type} (encV:β→Value) (w:World) (k:α) (es:List MapEntry) (m:List (α×β)),es.map (fun e=>(e.key,e.val))=m.map (kr_ encK encV)→(Instr.findKey kt (encK k) es).run P w= .ok ((JH_ k m 0).map fun p=>(p.1,encV p.2)) w
 check: ∀ (w:World) (e:Bool) (k:α),(Instr.checkKey e 10000 kt (encK k)).run P w= .ok () w
 bits: ∀k,Instr.sameBits 10000 (encK k) (encK k)=true
variable {encK encV}
omit [LawfulBEq α] in
theorem Xj_ {kd:TypeDesc} (hs: ∀a b,Instr.sameNow kd (encK a) (encK b)=some (a==b)) (k:α): ∀ (es:List MapEntry) (m:List (α×β)) (i:Nat),es.map (fun e=>(e.key,e.val))=m.map (kr_ encK encV)→
  Instr.findNow kd (encK k) es i=some ((JH_ k m i).map fun p=>(p.1,encV p.2))
 | [],[],i,_=>rfl
 | [],_::_,_,h=>by cases h
 |_::_,[],_,h=>by cases h
 |e::es,p::m,i,h=>by
  simp only[List.map_cons,List.cons.injEq,kr_,Prod.mk.injEq] at h
  obtain⟨⟨h1,h2⟩,h3⟩:=h
  unfold Instr.findNow
  have hs:Instr.sameNow kd (encK k) e.key=some (k==p.1):=by rw[h1,hs]
  rw[hs]
  unfold JH_
  cases hk: (k==p.1)
  ·simp only[Bool.false_eq_true, ↓reduceIte]
   exact Xj_ ‹_› k es m (i+1) h3
  ·simp[h2]
theorem XB_ (k:α): ∀ (m:List (α×β)) (i j:Nat) (v:β),JH_ k m i=some (j,v)→i≤j∧ ∃a,m[j - i]? =some (k,a)∧a=v
 | [],_,_,_,h=>by cases h
 |p::r,i,j,v,h=>by
  unfold JH_ at h
  split at h
  ·rename_i hk
   cases h
   refine⟨Nat.le_refl _,p.2, ?_,rfl⟩
   rw[Nat.sub_self,List.getElem?_cons_zero,eq_of_beq hk]
  ·obtain⟨h1,a,h2,h3⟩:=XB_ k r (i+1) j v h
   refine⟨by omega,a, ?_,h3⟩
   rw[show j - i=(j - (i+1))+1 by omega,List.getElem?_cons_succ];exact h2
theorem abH_ (k:α) (v:β): ∀ (es:List MapEntry) (m:List (α×β)) (i j:Nat) (a:β),es.map (fun e=>(e.key,e.val))=m.map (kr_ encK encV)→JH_ k m i=some (j,a)→
  (es.modify (j - i) fun e=>{e with key:=encK k,val:=encV v}).map (fun e=>(e.key,e.val))=(updG k v m).map (kr_ encK encV)
 | [],[],_,_,_,_,h=>by cases h
 | [],_::_,_,_,_,h,_=>by cases h
 |_::_,[],_,_,_,h,_=>by cases h
 |e::es,p::m,i,j,a,h,hf=>by
  simp only[List.map_cons,List.cons.injEq,kr_,Prod.mk.injEq] at h
  obtain⟨⟨h1,h2⟩,h3⟩:=h
  unfold JH_ at hf
  unfold updG
  split at hf
  ·rename_i hk
   cases hf
   rw[if_pos hk,Nat.sub_self]
   simp only[List.modify_zero_cons,List.map_cons,kr_,eq_of_beq hk]
   rw[h3]
  ·rename_i hk
   have hle:=(XB_ k m (i+1) j a hf).1
   rw[if_neg hk,show j - i=(j - (i+1))+1 by omega]
   simp only[List.modify_succ_cons,List.map_cons,kr_]
   rw[abH_ k v es m (i+1) j a h3 hf,h1,h2]
omit [LawfulBEq α] in
theorem acg_ (k:α) (v:β): ∀ (m:List (α×β)) (i:Nat),JH_ k m i=none→updG k v m=m++ [(k,v)]
 | [],_,_=>rfl
 |p::r,i,h=>by
  unfold JH_ at h
  split at h
  ·cases h
  ·rename_i hk
   unfold updG
   rw[if_neg hk,acg_ k v r (i+1) h];rfl
omit [LawfulBEq α] in
theorem abX_ (k:α): ∀ (m:List (α×β)) (i:Nat),(JH_ k m i).map Prod.snd=(m.find? fun p=>k==p.1).map Prod.snd
 | [],_=>rfl
 |p::r,i=>by
  unfold JH_
  rw[List.find?_cons]
  cases h: (k==p.1)
  ·simp only[Bool.false_eq_true, ↓reduceIte];exact abX_ k r (i+1)
  ·rfl
theorem amS_ {k:α} {m:List (α×β)} {es:List MapEntry} {j:Nat} {a:β} (h:es.map (fun e=>(e.key,e.val))=m.map (kr_ encK encV)) (hf:JH_ k m 0=some (j,a)): ∃e,es[j]? =some e∧e.key=encK k:=by
 obtain⟨-,a',h1,rfl⟩:=XB_ k m 0 j a hf
 rw[Nat.sub_zero] at h1
 have:=congrArg (·[j]?) h
 simp only[List.getElem?_map,h1,Option.map_some] at this
 cases he:es[j]? with
 |none=>rw[he] at this;cases this
 |some e=>
  rw[he] at this
  simp only[Option.map_some,Option.some.injEq,kr_,Prod.mk.injEq] at this
  exact⟨e,rfl,this.1⟩
theorem KeyOk.int {P:Program} {kt:TypeId} {k0:IntKind} (hu:P.underlying kt=some (.int k0)):KeyOk P kt vi where
 find encV w k es m h:=by
  simp only[Instr.findKey,Sem.run_bind,run_underlying hu w,Result.andThen_ok]
  rw[Xj_ (encK:=vi) (fun a b=>by simp[Instr.sameNow,vi]) k es m 0 h]
  rfl
 check w e k:=by
  unfold Instr.checkKey
  simp only[Sem.run_bind,run_underlying hu w,Result.andThen_ok]
  rfl
 bits k:=by simp[vi,Instr.sameBits]
variable {P:Program} {w0:World} {f:Fr} {L:zc_} {N:Fr→zc_→Prop} {ops:Array Oper} {rest:List Oper} {md:Md}
 {d:Option Tmp} {ty:TypeId} {ps:String} {af:Array Edge} {g:Option (Nat×Bool)}
omit [BEq α] [LawfulBEq α] in
theorem Ow.makeMapG {t:TypeId} {md':Md} (he:md.turn=some md') (hs:zu_ ops f ⟨d, .makeMap t none,ty,ps,af,g⟩=false)
  (hn: ∀b o,jI_ L b→w0.heap.size≤b→wY_ encK encV o []→Ow P w0 ops md' rest (qJ_ f d (vm b)) (L++ [(b,o)]) N):
  Ow P w0 ops md (⟨d, .makeMap t none,ty,ps,af,g⟩::rest) f L N:=by
 refine Ow.step he rfl hs fun w hw=> .inl ⟨vm w.heap.size,w.alloc (.map #[] 0),_, ?_,hw.alloc _,hn _ _ (z6_ fun b hb=>hw.lt hb) hw.size ⟨#[],0,rfl,rfl,List.pairwise_singleton _ _⟩⟩
 simp only[execOp,Instr.makeMap,Sem.run_bind,Option.map_none]
 rfl
theorem Ow.mapUpdateG {t kt vt:TypeId} {x y z:Operand} {b:Nat} {o:Obj} {m:List (α×β)} {k:α} {v:β} {md':Md} (he:md.turn=some md') (hs:zu_ ops f ⟨d, .mapUpdate t x y z,ty,ps,af,g⟩=false) (hu:P.underlying t=some (.map kt vt)) (hk:KeyOk P kt encK)
  (hx:ev f x=vm b) (hy:ev f y=encK k) (hz:ev f z=encV v) (hl:look L b=some o) (hm:wY_ encK encV o m)
  (hn: ∀o',wY_ encK encV o' (updG k v m)→Ow P w0 ops md' rest (qJ_ f d undef) (setB L b o') N):
  Ow P w0 ops md (⟨d, .mapUpdate t x y z,ty,ps,af,g⟩::rest) f L N:=by
 obtain⟨es,c,rfl,hes,hbo⟩:=hm
 refine Ow.step he rfl hs fun w hw=> ?_
 have hb:=hw.has _ _ (zp_ hl)
 have hfk:=hk.find encV w k es.toList m hes
 cases hf:JH_ k m 0 with
 |none=>
  rw[hf] at hfk
  refine .inr (.inl ⟨{w with heap:=w.heap.setIfInBounds b (.map (es.push {key:=encK k,val:=encV v,born:=c}) (c+1))},_, ?_,hw.set (zh_ hl) rfl rfl rfl rfl,hn _ ⟨_,_,rfl, ?_,by rw[Array.toList_push];exact acn_ hbo rfl⟩⟩)
  ·have: (Instr.mapUpdate t (vm b) (encK k) (encV v)).run P w= .ok () {w with heap:=w.heap.setIfInBounds b (.map (es.push {key:=encK k,val:=encV v,born:=c}) (c+1))}:=by
    simp only[Instr.mapUpdate,vm,Sem.run_bind,run_underlying hu w,Result.andThen_ok,qS_ hb,hk.check,hfk,Option.map_none,xr_ hb]
   simp only[execOp,Sem.run_bind,hx,hy,hz]
   rw[this];rfl
  ·rw[acg_ k v m 0 hf,Array.toList_push,List.map_append,hes,List.map_append];rfl
 |some p=>
  obtain⟨j,a⟩:=p
  rw[hf] at hfk
  obtain⟨e,hej,hek⟩:=amS_ hes hf
  have hej':es[j]? =some e:=by simpa using hej
  have hkt: (Instr.keyThatStays (((es[j]?).map (·.key)).getD (encK k)) (encK k)).run P w= .ok (encK k) w:=by
   rw[hej',Option.map_some,Option.getD_some,hek]
   unfold Instr.keyThatStays
   rw[if_pos (hk.bits k)];rfl
  refine .inr (.inl ⟨{w with heap:=w.heap.setIfInBounds b (.map (es.modify j fun e=>{e with key:=encK k,val:=encV v}) c)},_, ?_,hw.set (zh_ hl) rfl rfl rfl rfl,hn _ ⟨_,_,rfl, ?_,by rw[Array.toList_modify,J6_ (g:=fun e=>{e with key:=encK k,val:=encV v}) fun _=>rfl];exact hbo⟩⟩)
  ·have: (Instr.mapUpdate t (vm b) (encK k) (encV v)).run P w= .ok () {w with heap:=w.heap.setIfInBounds b (.map (es.modify j fun e=>{e with key:=encK k,val:=encV v}) c)}:=by
    simp only[Instr.mapUpdate,vm,Sem.run_bind,run_underlying hu w,Result.andThen_ok,qS_ hb,hk.check,hfk,Option.map_some,hkt,xr_ hb]
   simp only[execOp,Sem.run_bind,hx,hy,hz]
   rw[this];rfl
  ·rw[Array.toList_modify]
   have:=abH_ k v es.toList m 0 j a hes hf
   rw[Nat.sub_zero] at this
   exact this
omit [LawfulBEq α] in
theorem Ow.mapGetG {t kt vt:TypeId} {x y:Operand} {b:Nat} {o:Obj} {m:List (α×β)} {k:α} {z:β} {md':Md} (he:md.turn=some md') (hs:zu_ ops f ⟨d, .lookup t x y false,ty,ps,af,g⟩=false) (hu:P.underlying t=some (.map kt vt)) (hk:KeyOk P kt encK)
  (hz:zL_ P vt=some (encV z)) (hx:ev f x=vm b) (hy:ev f y=encK k) (hl:zA_ w0 L b=some o) (hm:wY_ encK encV o m)
  (hn:Ow P w0 ops md' rest (qJ_ f d (encV (getG k z m))) L N):
  Ow P w0 ops md (⟨d, .lookup t x y false,ty,ps,af,g⟩::rest) f L N:=by
 obtain⟨es,c,rfl,hes,-⟩:=hm
 refine Ow.step he rfl hs fun w hw=> ?_
 have hb:=hw.read hl
 have hfk:=hk.find encV w k es.toList m hes
 refine .inl ⟨encV (getG k z m),w,L, ?_,hw,hn⟩
 have hff:=abX_ k m 0
 have: (Instr.lookup t (vm b) (encK k) false).run P w= .ok (encV (getG k z m)) w:=by
  cases hf:JH_ k m 0 with
  |none=>
   rw[hf] at hfk hff
   have hg:getG k z m=z:=by
    unfold getG
    cases h:m.find? fun p=>k==p.1 with
    |none=>rfl
    |some q=>rw[h] at hff;cases hff
   simp only[Instr.lookup,vm,Sem.run_bind,run_underlying hu w,Result.andThen_ok,qS_ hb,Sem.run_pure,hk.check,hfk,Option.map_none,xH_ hz w,hg,Bool.false_eq_true, ↓reduceIte]
  |some p=>
   obtain⟨j,a⟩:=p
   rw[hf] at hfk hff
   have hg:getG k z m=a:=by
    unfold getG
    cases h:m.find? fun p=>k==p.1 with
    |none=>rw[h] at hff;cases hff
    |some q=>rw[h] at hff;simp only[Option.map_some,Option.some.injEq] at hff;exact hff.symm
   simp only[Instr.lookup,vm,Sem.run_bind,run_underlying hu w,Result.andThen_ok,qS_ hb,Sem.run_pure,hk.check,hfk,Option.map_some,hg,Bool.false_eq_true, ↓reduceIte]
 simp only[execOp,Sem.run_bind,hx,hy]
 rw[this];rfl
end
section
variable {P:Program} {w0:World} {f:Fr} {L:zc_} {N:Fr→zc_→Prop} {ops:Array Oper} {rest:List Oper} {md:Md} {d:Option Tmp} {ty:TypeId} {ps:String} {af:Array Edge} {g:Option (Nat×Bool)}
theorem Ow.callFnXC {x y:Operand} {b:Value} {cap ars:Array Value} (ha: #[b]++cap=ars) {ts:Array TypeId} {k:FuncId} {X Y:zc_} {S:Value→zc_→Prop} {md':Md} (hL:L=X++Y) (he:md.turn=some md')
  (hs:zu_ ops f ⟨d, .call ⟨.value x, #[y],ts⟩,ty,ps,af,g⟩=false)
  (hx:ev f x= .func (.func k) #[] cap) (hy:ev f y=b)
  (hk: ∀a w,(callFunc k a).run P w= .ok (.enter k a) w)
  (hc: ∀w,Hp w0 L w→(∀p,p∈X→w.heap[p.1]? =some p.2)→(keys X).Nodup→Rets P k ars w (XS w X S))
  (hn: ∀v D,Came w0 L X D→S v D→Ow P w0 ops md' rest (qJ_ f d v) (D++Y) N):
  Ow P w0 ops md (⟨d, .call ⟨.value x, #[y],ts⟩,ty,ps,af,g⟩::rest) f L N:=by
 subst hL
 have hnd: ∀w,Hp w0 (X++Y) w→(keys X).Nodup∧ ∀c,c∈keys Y→c∉keys X:=by
  intro w hw
  have:=hw.nodup
  rw[zt_,List.nodup_append] at this
  exact⟨this.1,fun c hc hx=>this.2.2 c hx c hc rfl⟩
 refine Ow.call (S:=fun B v D=>((∀c,c∈keys D→c∈keys X∨B≤c)∧(∀c,c∈keys X→c∈keys D)∧S v D)∧ ∃w,Hp w0 (X++Y) w∧w.heap.size=B) he hs hx hk (fun w hw=> ?_) ?_
 ·show Rets P k (#[]++ #[y].map (ev f)++cap) w _
  rw[show(#[]++ #[y].map (ev f)++cap:Array Value)=ars by rw[←ha];simp[hy]]
  refine Calls.mono (hc w hw (fun p hp=>hw.has _ _ (List.mem_append_left _ hp)) (hnd w hw).1) ?_
  rintro e w' ⟨v,D,he,hp,hS⟩
  exact⟨v,D,he,hp,⟨hS.1.new,hS.1.all,hS.2⟩,w,hw,rfl⟩
 ·rintro B v D hab hB ⟨⟨h1,h2,h3⟩,w1,hw1,hwB⟩
  refine⟨D++Y, ?_,hn v D ⟨fun c hc=>(h1 c hc).imp id fun h=>⟨z6_ fun b hb=>by have:=hw1.lt hb;omega,by have:=hw1.size;omega⟩,h2⟩ h3⟩
  intro w w' hwb h k
  have ht:=h.trans k
  have hY: ∀c,c∈keys Y→c∉keys D:=by
   intro c hc hd
   rcases h1 c hd with hx|hx
   ·exact(hnd w h).2 c hc hx
   ·have:=h.lt (b:=c) (by rw[zt_];exact List.mem_append_right _ hc)
    omega
  have e1:X.filter (fun p=> !(keys D).contains p.1)= []:=by
   rw[List.filter_eq_nil_iff]
   intro p hp
   have:=h2 p.1 (List.mem_map.2 ⟨p,hp,rfl⟩)
   simpa using this
  have e2:Y.filter (fun p=> !(keys D).contains p.1)=Y:=xa_ hY
  rw[List.filter_append,e1,e2,List.nil_append] at ht
  refine ht.same (fun p=>by simp[or_comm]) ?_
  have:=ht.nodup
  rw[zt_] at this ⊢
  exact(List.perm_append_comm.nodup_iff).1 this
end
end Go.Sx
namespace Go.Sx
open Go
def ItG {α β:Type} (encK:α→Value) (encV:β→Value) (o:Obj) (bm:Nat) (om:Obj) (m dn lf:List (α×β)):Prop:=
 ∃es clock,∃ds:List MapEntry,om= .map es clock∧(es.toList.map (·.born)++ [clock]).Pairwise (· < ·)∧o= .mapIter (some bm) clock (ds.map (·.born)).toArray clock∧
  ds.map kv=dn.map (kr_ encK encV)∧(∀d,d∈ds→d∈es.toList)∧((es.toList.filter fun e=> !(ds.map (·.born)).contains e.born).map kv=lf.map (kr_ encK encV))∧(dn++lf).Perm m
theorem ItG.start {α β:Type} {encK:α→Value} {encV:β→Value} {bm:Nat} {om:Obj} {m:List (α×β)} (h:wY_ encK encV om m): ∃es clock,om= .map es clock∧ItG encK encV (.mapIter (some bm) clock #[] clock) bm om m [] m:=by
 obtain⟨es,clock,rfl,h1,h2⟩:=h
 refine⟨es,clock,rfl,es,clock,[],rfl,h2,rfl,rfl,(fun d hd=>by cases hd), ?_,by rw[List.nil_append]⟩
 rw[show(es.toList.filter fun e=> !(([]:List MapEntry).map (·.born)).contains e.born)=es.toList from List.filter_eq_self.2 (fun _ _=>rfl)]
 exact h1
theorem ItG.step {α β:Type} {encK:α→Value} {encV:β→Value} {bm:Nat} {om:Obj} {m dn lf:List (α×β)} {es:Array MapEntry} {clock:Nat} {ds:List MapEntry} {e:MapEntry} (hb: (es.toList.map (·.born)++ [clock]).Pairwise (· < ·))
  (hd:ds.map kv=dn.map (kr_ encK encV)) (hm: ∀d,d∈ds→d∈es.toList) (hl: (es.toList.filter fun e=> !(ds.map (·.born)).contains e.born).map kv=lf.map (kr_ encK encV)) (hp: (dn++lf).Perm m)
  (he:e∈es.toList.filter fun e=> !(ds.map (·.born)).contains e.born) (hom:om= .map es clock):
  ∃p lf',kv e=kr_ encK encV p∧lf.length=lf'.length+1∧ItG encK encV (.mapIter (some bm) clock ((ds.map (·.born)).toArray.push e.born) clock) bm om m (dn++ [p]) lf':=by
 obtain⟨A,C,hAC⟩:=List.append_of_mem he
 rw[hAC,List.map_append,List.map_cons] at hl
 obtain⟨l1,l2,rfl,h1,h2⟩:=List.append_eq_map_iff.1 hl
 obtain⟨p,l3,rfl,h3,h4⟩:=(List.map_eq_cons_iff.1 h2)
 refine⟨p,l1++l3,h3.symm,by simp;omega,es,clock,ds++ [e],hom,hb,by simp,by simp[hd,h3], ?_, ?_, ?_⟩
 ·intro d hd'
  rcases List.mem_append.1 hd' with h|h
  ·exact hm d h
  ·rw[List.mem_singleton] at h;subst h;exact(List.mem_filter.1 he).1
 ·have hnd: ((A++e::C).map (·.born)).Nodup:=by
   rw[←hAC]
   exact(QV_ hb).sublist ((List.filter_sublist).map _)
  have e1: (es.toList.filter fun x=> !((ds++ [e]).map (·.born)).contains x.born)=(A++e::C).filter fun x=> !(x.born==e.born):=by
   rw[←hAC,List.filter_filter]
   refine List.filter_congr fun x hx=> ?_
   simp only[List.map_append,List.map_cons,List.map_nil,List.contains_append,List.contains_cons,List.contains_nil,Bool.or_false,Bool.not_or]
   rw[Bool.and_comm]
  rw[List.map_append,List.map_cons,List.nodup_append] at hnd
  obtain⟨-,hn2,hn3⟩:=hnd
  rw[List.nodup_cons] at hn2
  have e2: ((A++e::C).filter fun x=> !(x.born==e.born))=A++C:=by
   rw[List.filter_append,List.filter_cons]
   simp only[beq_self_eq_true,Bool.not_true,Bool.false_eq_true, ↓reduceIte]
   congr 1
   ·refine List.filter_eq_self.2 fun x hx=> ?_
    have:=hn3 x.born (List.mem_map.2 ⟨x,hx,rfl⟩) e.born List.mem_cons_self
    simpa using this
   ·refine List.filter_eq_self.2 fun x hx=> ?_
    have:x.born≠e.born:=fun h=>hn2.1 (h▸List.mem_map.2 ⟨x,hx,rfl⟩)
    simpa using this
  rw[e1,e2,List.map_append,List.map_append,h1,h4]
 ·refine List.Perm.trans ?_ hp
  rw[List.append_assoc]
  refine List.Perm.append_left dn ?_
  rw[List.singleton_append]
  exact List.perm_middle.symm
section
variable {α β:Type} {encK:α→Value} {encV:β→Value} {P:Program} {w0:World} {f:Fr} {L:zc_} {N:Fr→zc_→Prop} {ops:Array Oper} {rest:List Oper} {md:Md}
 {d:Option Tmp} {ty:TypeId} {ps:String} {af:Array Edge} {g:Option (Nat×Bool)}
theorem Ow.rangeMapG {t kt vt:TypeId} {x:Operand} {bm:Nat} {om:Obj} {m:List (α×β)} {md':Md} (he:md.turn=some md') (hs:zu_ ops f ⟨d, .range t x,ty,ps,af,g⟩=false) (hu:P.underlying t=some (.map kt vt))
  (hx:ev f x=vm bm) (hl:zA_ w0 L bm=some om) (hm:wY_ encK encV om m)
  (hn: ∀b o,jI_ L b→w0.heap.size≤b→ItG encK encV o bm om m [] m→Ow P w0 ops md' rest (qJ_ f d (itv b)) (L++ [(b,o)]) N):
  Ow P w0 ops md (⟨d, .range t x,ty,ps,af,g⟩::rest) f L N:=by
 obtain⟨es,clock,rfl,hI⟩:=ItG.start (bm:=bm) hm
 refine Ow.step he rfl hs fun w hw=> .inl ⟨itv w.heap.size,w.alloc (.mapIter (some bm) clock #[] clock),_, ?_,hw.alloc _,hn _ _ (z6_ fun b hb=>hw.lt hb) hw.size hI⟩
 have hb:=hw.read hl
 have: (Instr.range t (vm bm)).run P w= .ok (itv w.heap.size) (w.alloc (.mapIter (some bm) clock #[] clock)):=by
  simp only[Instr.range,vm,Sem.run_bind,run_underlying hu w,Result.andThen_ok,qS_ hb]
  rfl
 simp only[execOp,Sem.run_bind,hx]
 rw[this];rfl
theorem Ow.nextMapG {x:Operand} {r bm:Nat} {o om:Obj} {m dn lf:List (α×β)} {md':Md} (he:md.turn=some md') (hs:zu_ ops f ⟨d, .next x false,ty,ps,af,g⟩=false)
  (hx:ev f x=itv r) (hl:look L r=some o) (hlm:zA_ w0 L bm=some om) (hI:ItG encK encV o bm om m dn lf)
  (h0:lf= []→Ow P w0 ops md' rest (qJ_ f d (.tuple #[.bool false])) L N)
  (h1: ∀p o' lf',lf.length=lf'.length+1→ItG encK encV o' bm om m (dn++ [p]) lf'→Ow P w0 ops md' rest (qJ_ f d (.tuple #[.bool true,encK p.1,encV p.2])) (setB L r o') N):
  Ow P w0 ops md (⟨d, .next x false,ty,ps,af,g⟩::rest) f L N:=by
 refine Ow.step he rfl hs fun w hw=> ?_
 have hr:=hw.has _ _ (zp_ hl)
 have hb:=hw.read hlm
 obtain⟨es,clock,ds,rfl,hbo,rfl,hd,hm,hlf,hp⟩:=hI
 rcases run_next_at (P:=P) w ty r bm clock clock (ds.map (·.born)).toArray es clock hr hb (aop_ hbo) (Nat.le_refl _) with⟨hz,hrun⟩ | ⟨e,hem,w1,hw1,hrun⟩
 ·refine .inl ⟨.tuple #[.bool false],w,L, ?_,hw,h0 ?_⟩
  ·simp only[execOp,Sem.run_bind,hx,itv]
   rw[hrun];rfl
  ·have: (leftOf es (ds.map (·.born)).toArray).toList= []:=by
    rw[Array.toList_eq_nil_iff];exact Array.eq_empty_of_size_eq_zero hz
   rw[abv_] at this
   rw[this] at hlf
   exact(List.map_eq_nil_iff.1 hlf.symm)
 ·rw[abv_] at hem
  obtain⟨p,lf',hk,hlen,hI'⟩:=ItG.step (bm:=bm) hbo hd hm hlf hp hem rfl
  simp only[kv,kr_,Prod.mk.injEq] at hk
  have hw1':Hp w0 L w1:=by rcases hw1 with rfl|rfl;exact hw;exact hw.drew
  refine .inl ⟨.tuple #[.bool true,encK p.1,encV p.2],ChangeMaps.setBlock w1 r (.mapIter (some bm) clock ((ds.map (·.born)).toArray.push e.born) clock),_, ?_,hw1'.set (zh_ hl) rfl rfl rfl rfl,h1 p _ lf' hlen hI'⟩
  simp only[execOp,Sem.run_bind,hx,itv]
  rw[hrun,hk.1,hk.2];rfl
theorem Ow.entryMapG {x:Operand} {r bm:Nat} {o om:Obj} {m dn lf:List (α×β)} {p:α×β} {md':Md} (he:md.turn=some md') (hs:zu_ ops f ⟨d, .entry x,ty,ps,af,g⟩=false)
  (hx:ev f x=itv r) (hl:zA_ w0 L r=some o) (hlm:zA_ w0 L bm=some om) (hI:ItG encK encV o bm om m (dn++ [p]) lf)
  (hn:Ow P w0 ops md' rest (qJ_ f d (.tuple #[encK p.1,encV p.2])) L N):
  Ow P w0 ops md (⟨d, .entry x,ty,ps,af,g⟩::rest) f L N:=by
 refine Ow.step he rfl hs fun w hw=> .inl ⟨_,w,L, ?_,hw,hn⟩
 have hr:=hw.read hl
 have hb:=hw.read hlm
 obtain⟨es,clock,ds,rfl,hbo,rfl,hd,hm,hlf,hp⟩:=hI
 rw[List.map_append,List.map_cons,List.map_nil] at hd
 obtain⟨d1,d2,rfl,-,h2⟩:=List.map_eq_append_iff.1 hd
 obtain⟨e,d3,rfl,h3,h4⟩:=List.map_eq_cons_iff.1 h2
 obtain rfl:=List.map_eq_nil_iff.1 h4
 simp only[kv,kr_,Prod.mk.injEq] at h3
 have hs': ((d1++ [e]).map (·.born)).toArray=(d1.map (·.born)).toArray.push e.born:=by simp
 rw[hs'] at hr
 have hrun:=run_entry_at (P:=P) w r bm clock (d1.map (·.born)).toArray es clock e hr hb (hm e (by simp)) (QV_ hbo)
 simp only[execOp,Sem.run_bind,hx,itv]
 rw[hrun,h3.1,h3.2];rfl
end
theorem acR_ (l:List UInt8):Instr.sameBits 10000 (.agg (a8 l)) (.agg (a8 l))=true:=by
 show Instr.sameBits (9999+1) _ _=true
 unfold Instr.sameBits
 simp only[beq_self_eq_true,Bool.true_and,List.all_eq_true]
 intro p hp
 obtain⟨i,hi,rfl⟩:=List.getElem_of_mem hp
 rw[List.getElem_zip]
 simp[a8,Instr.sameBits]
theorem aaB_ {P:Program} {t e:TypeId} {n:Nat} (hu:P.underlying t=some (.array n e)) (he:P.underlying e=some (.int .u8)) (hm:zT_ P e=some (false,1)) (l l':List UInt8) (hl:l.length=n) (hl':l'.length=n) (w:World):
  (Op.equal t (.agg (a8 l)) (.agg (a8 l'))).run P w= .ok (l==l') w:=
 akf_ P 8 9992 t _ _ _ (afa_ (d:=6) hu he hm l l' hl hl') w
theorem KD_ {P:Program} {t e:TypeId} {n:Nat} (hu:P.underlying t=some (.array n e)) (he:P.underlying e=some (.int .u8)) (hm:zT_ P e=some (false,1)) (l:List UInt8) (hl:l.length=n) (em:Bool) (w:World):
  (Instr.checkKey em 10000 t (.agg (a8 l))).run P w= .ok () w:=by
 show(Instr.checkKey em (9999+1) t (.agg (a8 l))).run P w= .ok () w
 rw[Instr.checkKey]
 simp only[Sem.run_bind,run_underlying hu,Result.andThen_ok]
 simp only[Std.Legacy.Range.forIn_eq_forIn_range',Std.Legacy.Range.size,Nat.sub_zero,Nat.add_one_sub_one,Nat.div_one]
 have each: ∀j,j∈List.range' 0 n→j<l.length:=by
  intro j hj
  rw[List.mem_range'] at hj
  obtain⟨i,hi,rfl⟩:=hj
  omega
 generalize List.range' 0 n=is at each
 induction is with
 |nil=>simp
 |cons j is ih=>
  have hj:=each j (by simp)
  have p1: (part e (a8 l) (j*1)).run P w= .ok (v8 (l.getD j 0)) w:=by
   refine xk_ hm ?_ w
   simp[partV,a8,v8,hj]
  have p2: (Instr.checkKey em 9999 e (v8 (l.getD j 0))).run P w= .ok () w:=by
   show(Instr.checkKey em (9998+1) e (v8 (l.getD j 0))).run P w= .ok () w
   rw[Instr.checkKey]
   simp only[Sem.run_bind,run_underlying he,Result.andThen_ok,v8]
   rfl
  simp only[List.forIn_cons,Sem.run_bind,zJ_ hm w,Result.andThen_ok,p1,p2,Sem.run_pure]
  exact ih (fun y hy=>each y (by simp[hy]))
theorem agX_ {n:Nat} {e:TypeId} (x:Value): ∀ (es:List MapEntry) (i:Nat),es≠ []→Instr.findNow (.array n e) x es i=none
 | [],_,h=>absurd rfl h
 |_::_,_,_=>by cases x<;>rfl
theorem Jg_ {α β:Type} [BEq α] {P:Program} {kt:TypeId} {encK:α→Value} {encV:β→Value} (he: ∀a b w,(Op.equal kt (encK a) (encK b)).run P w= .ok (a==b) w) (w:World) (k:α): ∀ (es:List MapEntry) (m:List (α×β)) (i:Nat),es.map (fun e=>(e.key,e.val))=m.map (kr_ encK encV)→
  (Instr.findAsking kt (encK k) es i).run P w= .ok ((JH_ k m i).map fun p=>(p.1,encV p.2)) w
 | [],[],_,_=>rfl
 | [],_::_,_,h=>by cases h
 |_::_,[],_,h=>by cases h
 |e::es,p::m,i,h=>by
  simp only[List.map_cons,List.cons.injEq,kr_,Prod.mk.injEq] at h
  obtain⟨⟨h1,h2⟩,h3⟩:=h
  unfold Instr.findAsking JH_
  rw[Sem.run_bind,h1,he]
  simp only[Result.andThen_ok]
  cases hk: (k==p.1)
  ·simp only[Bool.false_eq_true, ↓reduceIte]
   exact Jg_ he w k es m (i+1) h3
  ·simp[h2]
theorem KeyOk.arr {α:Type} [BEq α] {P:Program} {kt e:TypeId} {n:Nat} (hu:P.underlying kt=some (.array n e)) (he:P.underlying e=some (.int .u8)) (hm:zT_ P e=some (false,1)) (bs:α→List UInt8) (hb: ∀a,(bs a).length=n) (hq: ∀a b,(bs a==bs b)=(a==b)):
  KeyOk P kt (fun a:α=> .agg (a8 (bs a))) where
 find encV w k es m h:=by
  cases es with
  |nil=>
   cases m with
   |nil=>simp only[Instr.findKey,Sem.run_bind,run_underlying hu w,Result.andThen_ok];rfl
   |cons=>cases h
  |cons e0 es=>
   simp only[Instr.findKey,Sem.run_bind,run_underlying hu w,Result.andThen_ok]
   rw[agX_ _ _ _ (by simp)]
   exact Jg_ (encK:=fun a:α=> .agg (a8 (bs a))) (fun a b w=>by rw[aaB_ hu he hm _ _ (hb a) (hb b) w,hq]) w k _ m 0 h
 check w e k:=KD_ hu he hm _ (hb k) e w
 bits k:=acR_ _
section
variable {α β:Type} [BEq α] [LawfulBEq α] {encK:α→Value} {encV:β→Value} {P:Program} {w0:World} {f:Fr} {L:zc_} {N:Fr→zc_→Prop} {ops:Array Oper} {rest:List Oper} {md:Md}
 {d:Option Tmp} {ty:TypeId} {ps:String} {af:Array Edge} {g:Option (Nat×Bool)}
def hasG (k:α) (m:List (α×β)):Bool:=m.any fun p=>k==p.1
omit [LawfulBEq α] in
end
end Go.Sx
namespace Go.Sx
open Go
theorem KeyOk.str {P:Program} {kt:TypeId} (hu:P.underlying kt=some .string):KeyOk P kt vs where
 find encV w k es m h:=by
  simp only[Instr.findKey,Sem.run_bind,run_underlying hu w,Result.andThen_ok]
  rw[Xj_ (encK:=vs) (fun a b=>by simp only[vs,Instr.sameNow,Kk_]) k es m 0 h]
  rfl
 check w e k:=by
  unfold Instr.checkKey
  simp only[Sem.run_bind,run_underlying hu w,Result.andThen_ok,vs]
  rfl
 bits k:=by simp only[vs,Instr.sameBits,Kk_,beq_self_eq_true]
section
variable {α β:Type} [BEq α] [LawfulBEq α]
def delG (k:α):List (α×β)→List (α×β)
 | []=> []
 |p::r=>if k==p.1 then r else p::delG k r
variable {encK:α→Value} {encV:β→Value}
omit [LawfulBEq α] in
theorem aik_ (k:α): ∀ (m:List (α×β)) (i j:Nat) (a:β),JH_ k m i=some (j,a)→i≤j
 | [],_,_,_,h=>by cases h
 |p::r,i,j,a,h=>by
  unfold JH_ at h
  split at h
  ·cases h;exact Nat.le_refl _
  ·have:=aik_ k r (i+1) j a h;omega
omit [LawfulBEq α] in
theorem acc_ (k:α): ∀ (es:List MapEntry) (m:List (α×β)) (i j:Nat) (a:β),es.map (fun e=>(e.key,e.val))=m.map (kr_ encK encV)→JH_ k m i=some (j,a)→
  (es.eraseIdx (j - i)).map (fun e=>(e.key,e.val))=(delG k m).map (kr_ encK encV)
 | [],[],_,_,_,_,h=>by cases h
 | [],_::_,_,_,_,h,_=>by cases h
 |_::_,[],_,_,_,h,_=>by cases h
 |e::es,p::m,i,j,a,h,hf=>by
  simp only[List.map_cons,List.cons.injEq] at h
  obtain⟨h1,h3⟩:=h
  unfold JH_ at hf
  unfold delG
  split at hf
  ·rename_i hk
   cases hf
   rw[if_pos hk,Nat.sub_self]
   exact h3
  ·rename_i hk
   have hle:=aik_ k m (i+1) j a hf
   rw[if_neg hk,show j - i=(j - (i+1))+1 by omega]
   simp only[List.eraseIdx_cons_succ,List.map_cons]
   rw[acc_ k es m (i+1) j a h3 hf,h1]
omit [LawfulBEq α] in
theorem abr_ (k:α): ∀ (m:List (α×β)) (i:Nat),JH_ k m i=none→delG k m=m
 | [],_,_=>rfl
 |p::r,i,h=>by
  unfold JH_ at h
  split at h
  ·cases h
  ·rename_i hk
   unfold delG
   rw[if_neg hk,abr_ k r (i+1) h]
variable {P:Program} {w0:World} {f:Fr} {L:zc_} {N:Fr→zc_→Prop} {ops:Array Oper} {rest:List Oper} {md:Md}
 {d:Option Tmp} {ty:TypeId} {ps:String} {af:Array Edge} {g:Option (Nat×Bool)}
omit [LawfulBEq α] in
theorem Ow.mapDeleteG {t kt vt:TypeId} {x y:Operand} {t2:TypeId} {b:Nat} {o:Obj} {m:List (α×β)} {k:α} {md':Md} (he:md.turn=some md') (hs:zu_ ops f ⟨d, .call ⟨.builtin .delete, #[x,y], #[t,t2]⟩,ty,ps,af,g⟩=false) (hu:P.underlying t=some (.map kt vt)) (hk:KeyOk P kt encK)
  (hx:ev f x=vm b) (hy:ev f y=encK k) (hl:look L b=some o) (hm:wY_ encK encV o m)
  (hn: ∀o',wY_ encK encV o' (delG k m)→Ow P w0 ops md' rest (qJ_ f d (.tuple #[])) (setB L b o') N):
  Ow P w0 ops md (⟨d, .call ⟨.builtin .delete, #[x,y], #[t,t2]⟩,ty,ps,af,g⟩::rest) f L N:=by
 obtain⟨es,c,rfl,hes,hbo⟩:=hm
 refine Ow.step he rfl hs fun w hw=> ?_
 have hb:=hw.has _ _ (zp_ hl)
 have hfk:=hk.find encV w k es.toList m hes
 cases hf:JH_ k m 0 with
 |none=>
  rw[hf] at hfk
  refine .inl ⟨.tuple #[],{w with heap:=w.heap.setIfInBounds b (.map es c)},_, ?_,hw.set (zh_ hl) rfl rfl rfl rfl,hn _ ⟨es,c,rfl,by rw[abr_ k m 0 hf];exact hes,hbo⟩⟩
  have: (Builtin.delete_ #[t,t2] ty #[vm b,encK k]).run P w= .ok (.tuple #[]) {w with heap:=w.heap.setIfInBounds b (.map es c)}:=by
   simp only[Builtin.delete_,vm,List.getElem?_toArray,List.getElem?_cons_zero,List.getElem?_cons_succ,Sem.run_bind,run_underlying hu w,Result.andThen_ok,qS_ hb,hk.check,hfk,Option.map_none,xr_ hb]
   rfl
  simp only[execOp,resolve,Sem.run_bind,Sem.run_pure,Result.andThen_ok,invoke,builtin,List.map_toArray,List.map_cons,List.map_nil,hx,hy]
  rw[this];rfl
 |some p=>
  obtain⟨j,a⟩:=p
  rw[hf] at hfk
  refine .inl ⟨.tuple #[],{w with heap:=w.heap.setIfInBounds b (.map (es.eraseIdxIfInBounds j) c)},_, ?_,hw.set (zh_ hl) rfl rfl rfl rfl,hn _ ⟨_,c,rfl, ?_,by rw[Array.toList_eraseIdxIfInBounds];exact agZ_ hbo⟩⟩
  ·have: (Builtin.delete_ #[t,t2] ty #[vm b,encK k]).run P w= .ok (.tuple #[]) {w with heap:=w.heap.setIfInBounds b (.map (es.eraseIdxIfInBounds j) c)}:=by
    simp only[Builtin.delete_,vm,List.getElem?_toArray,List.getElem?_cons_zero,List.getElem?_cons_succ,Sem.run_bind,run_underlying hu w,Result.andThen_ok,qS_ hb,hk.check,hfk,Option.map_some,xr_ hb]
    rfl
   simp only[execOp,resolve,Sem.run_bind,Sem.run_pure,Result.andThen_ok,invoke,builtin,List.map_toArray,List.map_cons,List.map_nil,hx,hy]
   rw[this];rfl
  ·have:=acc_ (encK:=encK) (encV:=encV) k es.toList m 0 j a hes hf
   rw[Nat.sub_zero] at this
   rw[←this]
   simp
omit [BEq α] [LawfulBEq α] in
theorem Ow.mapClearG {t kt vt:TypeId} {x:Operand} {b:Nat} {o:Obj} {m:List (α×β)} {md':Md} (he:md.turn=some md') (hs:zu_ ops f ⟨d, .call ⟨.builtin .clear, #[x], #[t]⟩,ty,ps,af,g⟩=false) (hu:P.underlying t=some (.map kt vt))
  (hx:ev f x=vm b) (hl:look L b=some o) (hm:wY_ encK encV o m)
  (hn: ∀o',wY_ encK encV o' []→Ow P w0 ops md' rest (qJ_ f d (.tuple #[])) (setB L b o') N):
  Ow P w0 ops md (⟨d, .call ⟨.builtin .clear, #[x], #[t]⟩,ty,ps,af,g⟩::rest) f L N:=by
 obtain⟨es,c,rfl,hes,hbo⟩:=hm
 refine Ow.step he rfl hs fun w hw=> ?_
 have hb:=hw.has _ _ (zp_ hl)
 refine .inl ⟨.tuple #[],{w with heap:=w.heap.setIfInBounds b (.map #[] c)},_, ?_,hw.set (zh_ hl) rfl rfl rfl rfl,hn _ ⟨#[],c,rfl,rfl,List.pairwise_singleton _ _⟩⟩
 have: (Builtin.clear_ #[t] ty #[vm b]).run P w= .ok (.tuple #[]) {w with heap:=w.heap.setIfInBounds b (.map #[] c)}:=by
  simp only[Builtin.clear_,vm,List.getElem?_toArray,List.getElem?_cons_zero,Sem.run_bind,run_underlying hu w,Result.andThen_ok,qS_ hb,xr_ hb]
  rfl
 simp only[execOp,resolve,Sem.run_bind,Sem.run_pure,Result.andThen_ok,invoke,builtin,List.map_toArray,List.map_cons,List.map_nil,hx]
 rw[this];rfl
end
section
variable {P:Program} {w0:World} {f:Fr} {L:zc_} {N:Fr→zc_→Prop} {ops:Array Oper} {rest:List Oper} {md:Md}
 {d:Option Tmp} {ty:TypeId} {ps:String} {af:Array Edge} {g:Option (Nat×Bool)}
theorem Ow.ifaceMap {t kt vt:TypeId} {x:Operand} {v:Value} (hs:zu_ ops f ⟨d, .makeInterface t x,ty,ps,af,g⟩=false) (hu:P.underlying t=some (.map kt vt)) (hx:ev f x=v)
  (hn:Ow P w0 ops md.next rest (qJ_ f d (.iface t v)) L N):Ow P w0 ops md (⟨d, .makeInterface t x,ty,ps,af,g⟩::rest) f L N:=by
 refine Ow.calm rfl rfl hs (fun w hw=> .inl ⟨.iface t v,w,L, ?_,hw,rfl,rfl⟩) hn
 simp only[execOp,Instr.makeInterface,Sem.run_bind,run_underlying hu w,Result.andThen_ok,hx]
 rfl
theorem Ow.assertMap {t kt vt xt:TypeId} {x:Operand} {v:Value} (hs:zu_ ops f ⟨d, .typeAssert x xt t false,ty,ps,af,g⟩=false) (hu:P.underlying t=some (.map kt vt)) (hx:ev f x= .iface t v)
  (hn:Ow P w0 ops md.next rest (qJ_ f d v) L N):Ow P w0 ops md (⟨d, .typeAssert x xt t false,ty,ps,af,g⟩::rest) f L N:=by
 refine Ow.calm rfl rfl hs (fun w hw=> .inl ⟨v,w,L, ?_,hw,rfl,rfl⟩) hn
 simp only[execOp,Instr.typeAssert,Sem.run_bind,run_underlying hu w,Result.andThen_ok,hx, ↓reduceIte]
 rfl
theorem Ow.cloneMap {α β:Type} {encK:α→Value} {encV:β→Value} {x:Operand} {ts:Array TypeId} {k:FuncId} {it:TypeId} {b:Nat} {o:Obj} {m:List (α×β)} {md':Md} (he:md.turn=some md')
  (hs:zu_ ops f ⟨d, .call ⟨.value (.func k), #[x],ts⟩,ty,ps,af,g⟩=false)
  (hk: ∀a w,(callFunc k #[a]).run P w=((Extern.MapsClone.clone #[a]).run P w).andThen fun v w=> .ok (.value v) w)
  (hx:ev f x= .iface it (vm b)) (hl:zA_ w0 L b=some o) (hm:wY_ encK encV o m)
  (hn: ∀c o',jI_ L c→w0.heap.size≤c→wY_ encK encV o' m→Ow P w0 ops md' rest (qJ_ f d (.iface it (vm c))) (L++ [(c,o')]) N):
  Ow P w0 ops md (⟨d, .call ⟨.value (.func k), #[x],ts⟩,ty,ps,af,g⟩::rest) f L N:=by
 obtain⟨es,c,rfl,hes,hbo⟩:=hm
 refine Ow.step he rfl hs fun w hw=> .inl ⟨.iface it (vm w.heap.size),w.alloc (.map es c),_, ?_,hw.alloc _,hn _ _ (z6_ fun b hb=>hw.lt hb) hw.size ⟨es,c,rfl,hes,hbo⟩⟩
 have hb:=hw.read hl
 have hA:Array.map (ev f) #[x]= #[.iface it (vm b)]:=by simp[hx]
 have h: (callFunc k #[.iface it (vm b)]).run P w= .ok (.value (.iface it (vm w.heap.size))) (w.alloc (.map es c)):=by
  rw[hk]
  have hc:Extern.MapsClone.clone #[.iface it (vm b)]=(getObj b>>=fun o=>match o with| .map es c=>(newObj (.map es c)>>=fun r=>pure (.iface it (.map (some r)))) |_=>stuck "maps.clone: a map expected"):=rfl
  rw[hc,Sem.run_bind,qS_ hb]
  rfl
 simp only[execOp,resolve,Deferred.ofValue,ajF_,Sem.run_bind,Sem.run_pure,Result.andThen_ok,invoke,hA]
 simpa using h
end
end Go.Sx
namespace Go.Sx
open Go
def tmpR:ResultVar→Bool
 | .tmp _=>true
 | .cell _ _=>false
theorem Hp.later {w0 w1 w2:World} {L D:zc_} (h:Hp w0 L w1) (k:Hp w1 D w2) (hD:New w1.heap.size D):Hp w0 (L++D) w2:=
 Mrg.fresh hD.le w1 w2 rfl h k
theorem Ow.world {P:Program} {w0:World} {ops:Array Oper} {l:List Oper} {f:Fr} {L:zc_} {N:Fr→zc_→Prop} (h: ∀w,Hp w0 L w→Ow P w0 ops .seq l f L N):Ow P w0 ops .seq l f L N:=fun w hw=>h w hw w hw
theorem Rets.chunk {P:Program} {k:FuncId} {args:Array Value} {w:World} {S:Value→Obj→Prop} {X:zc_} {b:Nat} (hX: ∀p,p∈X→w.heap[p.1]? =some p.2) (hn: (keys X).Nodup) (hb:b∈keys X)
  (h:Rets P k args w (fun v D=> ∃o,D= [(b,o)]∧S v o)):Rets P k args w (XS w X (fun v D=> ∃o,D=setB X b o∧S v o)):=
 Calls.mono h fun e w' ⟨v,D,he,hp,o,hD,hS⟩=>⟨v,setB X b o,he,by subst hD;exact Mrg.set hb w w' rfl ((Hp.refl w).ownX hX hn) hp,(Ext.refl w X).setB,o,rfl,hS⟩
theorem Rets.toX {P:Program} {k:FuncId} {a:Array Value} {w:World} {S:Value→Prop} (h:Rets P k a w (fun v D=>S v∧D= [])):Rets P k a w (XS w [] (fun v D=>D= []∧S v)):=
 h.mono fun v D ⟨h1,h2⟩=>⟨by subst h2;exact Ext.refl w [],h2,h1⟩
theorem Gr.rowL {α:Type} {m:Nat} {enc:α→List Value} {z:α} {w0 w:World} {v:Value} {l:List α} {L:zc_} {E:TypeId} {n:Nat} (h:Gr L E m v n (l.map enc).flatten) (hn:l.length=n) (hw:Hp w0 L w) (hm: ∀x,(enc x).length=m):
  ∃b off arr F fz,RowS m enc z w v l b off arr F fz∧(0<l.length→look L b=some (.cells arr F fz)):=by
 obtain⟨b,off,c,arr,F,fz,hr,hc,⟨rfl,rfl,rfl⟩ | ⟨rfl,hb,hsz⟩⟩:=h.slV (z:=z) hw hn rfl hm
 ·exact⟨b,off,arr,F,fz,hr,fun h0=>absurd h0 (by simp)⟩
 ·refine⟨b,off,arr,F,fz,hr,fun _=> ?_⟩
  obtain⟨o,ho⟩:=JX_ (h.key (b:=b) rfl)
  have:=hw.has _ _ (zp_ ho)
  rw[hb] at this
  rw[ho,this]
theorem GrI.rowL {α:Type} {m:Nat} {enc:α→List Value} {z:α} {w0 w:World} {v:Value} {l:List α} {D:zc_} {E:TypeId} {n:Nat} (h:GrI D E m v n (l.map enc).flatten) (hn:l.length=n) (hw:Hp w0 D w) (hm: ∀x,(enc x).length=m):
  ∃b off arr F fz,RowS m enc z w v l b off arr F fz∧(0<l.length→look D b=some (.cells arr F fz)):=by
 obtain⟨X,hX,h⟩:=h
 obtain⟨b,off,c,arr,F,fz,hr,hc,⟨rfl,rfl,rfl⟩ | ⟨rfl,hb,hsz⟩⟩:=h.slM (z:=z) (fun b o hm=>hw.has b o (hX _ hm)) hn rfl hm
 ·exact⟨b,off,arr,F,fz,hr,fun h0=>absurd h0 (by simp)⟩
 ·refine⟨b,off,arr,F,fz,hr,fun _=> ?_⟩
  obtain⟨o,ho⟩:=JX_ (h.key (b:=b) rfl)
  have hm:=hX _ (zp_ ho)
  have:=hw.has _ _ hm
  rw[hb] at this
  rw[jV_ hw.nodup hm,this]
end Go.Sx
section
namespace Go.Sx
open Go
set_option maxRecDepth 100000
set_option linter.defProp false
def S0:=And.intro (And.intro (And.intro (And.intro (And.intro (And.intro (@al6_) (And.intro (@am3_) (@aol_))) (And.intro (@amg_) (And.intro (@ahw_) (@alZ_)))) (And.intro (And.intro (@akd_) (And.intro (@alJ_) (@aex_))) (And.intro (And.intro (@aaL_) (@aak_)) (And.intro (@aky_) (@W1_))))) (And.intro (And.intro (And.intro (@ahU_) (And.intro (@amU_) (@aeD_))) (And.intro (And.intro (@akb_) (@aaU_)) (And.intro (@an7_) (@apu_)))) (And.intro (And.intro (@ah7_) (And.intro (@adC_) (@ahH_))) (And.intro (And.intro (@ao2_) (@aiS_)) (And.intro (@Vb_) (@W2_)))))) (And.intro (And.intro (And.intro (And.intro (@ak8_) (And.intro (@ahj_) (@al4_))) (And.intro (@agg_) (And.intro (@aks_) (@aoE_)))) (And.intro (And.intro (@apf_) (And.intro (@Jw_) (@Zr_))) (And.intro (And.intro (@ac3_) (@agL_)) (And.intro (@WS_) (@aj4_))))) (And.intro (And.intro (And.intro (@amB_) (And.intro (@agb_) (@QS_))) (And.intro (And.intro (@ab9_) (@Vx_)) (And.intro (@ajC_) (@alT_)))) (And.intro (And.intro (@apd_) (And.intro (@alV_) (@qv_))) (And.intro (And.intro (@al3_) (@ah6_)) (And.intro (@ajF_) (@qu_))))))) (And.intro (And.intro (And.intro (And.intro (And.intro (@qA_) (And.intro (@zz_) (@zy_))) (And.intro (@aeq_) (And.intro (@Va_) (@amA_)))) (And.intro (And.intro (@amz_) (And.intro (@ai3_) (@af1_))) (And.intro (And.intro (@anT_) (@ahi_)) (And.intro (@akj_) (@am9_))))) (And.intro (And.intro (And.intro (@ak3_) (And.intro (@aiW_) (@ai0_))) (And.intro (And.intro (@amQ_) (@am0_)) (And.intro (@amY_) (@apG_)))) (And.intro (And.intro (@aiP_) (And.intro (@alw_) (@alL_))) (And.intro (And.intro (@ali_) (@apq_)) (And.intro (@ajv_) (@akU_)))))) (And.intro (And.intro (And.intro (And.intro (@alN_) (And.intro (@agV_) (@ai9_))) (And.intro (And.intro (@amK_) (@ajL_)) (And.intro (@ahO_) (@aoC_)))) (And.intro (And.intro (@aoo_) (And.intro (@aoZ_) (@aoF_))) (And.intro (And.intro (@ao1_) (@ani_)) (And.intro (@amd_) (@amX_))))) (And.intro (And.intro (And.intro (@all_) (And.intro (@alg_) (@anj_))) (And.intro (And.intro (@alm_) (@ak4_)) (And.intro (@aor_) (@alc_)))) (And.intro (And.intro (@asy_) (And.intro (@are_) (@aqL_))) (And.intro (And.intro (@apZ_) (@amn_)) (And.intro (@ahG_) (@ahJ_)))))))
def S1:=And.intro (And.intro (And.intro (And.intro (And.intro (And.intro (And.intro (And.intro (@al5_) (@apz_)) (And.intro (@apm_) (And.intro (@aqQ_) (@aob_)))) (And.intro (And.intro (@aqT_) (@v7_)) (And.intro (@v8_) (And.intro (@jH_) (@ajE_))))) (And.intro (And.intro (And.intro (@agH_) (@adE_)) (And.intro (@amC_) (And.intro (@abC_) (@anf_)))) (And.intro (And.intro (@amc_) (@beq_true)) (And.intro (@beq_false) (And.intro (@Bool.not_true) (@Bool.not_false)))))) (And.intro (And.intro (And.intro (And.intro (@Md.next_seq) (@Md.next_any)) (And.intro (@Md.next_qui) (And.intro (@Md.next_sof) (@acQ_)))) (And.intro (And.intro (@ac9_) (@acI_)) (And.intro (@Vu_) (And.intro (@Vf_) (@Vy_))))) (And.intro (And.intro (And.intro (@aqi_) (@aoG_)) (And.intro (@ana_) (And.intro (@ak6_) (@alC_)))) (And.intro (And.intro (@arm_) (And.intro (@aoy_) (@aph_))) (And.intro (@an2_) (And.intro (@aps_) (@apn_))))))) (And.intro (And.intro (And.intro (And.intro (And.intro (@afV_) (@ahl_)) (And.intro (@agE_) (And.intro (@ahs_) (@ais_)))) (And.intro (And.intro (@ahe_) (@ag1_)) (And.intro (@ahg_) (And.intro (@agA_) (@agB_))))) (And.intro (And.intro (And.intro (@ahy_) (@agF_)) (And.intro (@ahh_) (And.intro (@afZ_) (@ajP_)))) (And.intro (And.intro (@acE_) (And.intro (@XC_) (@agW_))) (And.intro (@W8_) (And.intro (@aab_) (@Ja_)))))) (And.intro (And.intro (And.intro (And.intro (@Q9_) (@W4_)) (And.intro (@aac_) (And.intro (@agG_) (@Vt_)))) (And.intro (And.intro (@Vz_) (@acy_)) (And.intro (@Vp_) (And.intro (@K2_) (@ad0_))))) (And.intro (And.intro (And.intro (@KX_) (@K9_)) (And.intro (@adF_) (And.intro (@ac5_) (@adi_)))) (And.intro (And.intro (@aey_) (And.intro (@acL_) (@ahA_))) (And.intro (@adL_) (And.intro (@adh_) (@aeI_)))))))) (And.intro (And.intro (And.intro (And.intro (And.intro (And.intro (@act_) (@ade_)) (And.intro (@add_) (And.intro (@aeL_) (@acu_)))) (And.intro (And.intro (@aeh_) (@ag9_)) (And.intro (@abb_) (And.intro (@Jd_) (@aef_))))) (And.intro (And.intro (And.intro (@KW_) (@KN_)) (And.intro (@ZQ_) (And.intro (@ZX_) (@KV_)))) (And.intro (And.intro (@VA_) (And.intro (@adV_) (@XR_))) (And.intro (@Kp_) (And.intro (@aca_) (@J7_)))))) (And.intro (And.intro (And.intro (And.intro (@Xz_) (@aa3_)) (And.intro (@XP_) (And.intro (@XD_) (@abn_)))) (And.intro (And.intro (@acN_) (@aeg_)) (And.intro (@acz_) (And.intro (@aeP_) (@ahc_))))) (And.intro (And.intro (And.intro (@aeb_) (@kv_)) (And.intro (@kj_) (And.intro (@adJ_) (@acX_)))) (And.intro (And.intro (@acD_) (And.intro (@acG_) (@acC_))) (And.intro (@aeQ_) (And.intro (@agC_) (@aaz_))))))) (And.intro (And.intro (And.intro (And.intro (And.intro (@Jn_) (@aeR_)) (And.intro (@Vl_) (And.intro (@Vo_) (@ZT_)))) (And.intro (And.intro (@Z5_) (@VB_)) (And.intro (@Vw_) (And.intro (@aeF_) (@Xm_))))) (And.intro (And.intro (And.intro (@XW_) (@aaV_)) (And.intro (@Kw_) (And.intro (@Kx_) (@aaD_)))) (And.intro (And.intro (@KA_) (And.intro (@Kg_) (@aaN_))) (And.intro (@adk_) (And.intro (@acB_) (@ad4_)))))) (And.intro (And.intro (And.intro (And.intro (@adr_) (@ag0_)) (And.intro (@ad8_) (And.intro (@aek_) (@adn_)))) (And.intro (And.intro (@adH_) (@adt_)) (And.intro (@adW_) (And.intro (@adx_) (@ad3_))))) (And.intro (And.intro (And.intro (@aes_) (@af5_)) (And.intro (@abB_) (And.intro (@Q6_) (@aeN_)))) (And.intro (And.intro (@K5_) (And.intro (@Vj_) (@Z4_))) (And.intro (@Qf_) (And.intro (@Vr_) (@KR_))))))))) (And.intro (And.intro (And.intro (And.intro (And.intro (And.intro (And.intro (@aej_) (@XZ_)) (And.intro (@X1_) (And.intro (@aa1_) (@KH_)))) (And.intro (And.intro (@XF_) (@abG_)) (And.intro (@KG_) (And.intro (@Xs_) (@aaZ_))))) (And.intro (And.intro (And.intro (@ahY_) (@aiT_)) (And.intro (@aa2_) (And.intro (@air_) (@akn_)))) (And.intro (And.intro (@ajQ_) (And.intro (@aj3_) (@aiL_))) (And.intro (@aid_) (And.intro (@aje_) (@aiJ_)))))) (And.intro (And.intro (And.intro (And.intro (@al9_) (@aqa_)) (And.intro (@abU_) (And.intro (@akr_) (@ajp_)))) (And.intro (And.intro (@ajn_) (@ah9_)) (And.intro (@akY_) (And.intro (@akB_) (@ajx_))))) (And.intro (And.intro (And.intro (@aoJ_) (@akQ_)) (And.intro (@apj_) (And.intro (@aci_) (@aas_)))) (And.intro (And.intro (@Vd_) (And.intro (@aqd_) (@aqq_))) (And.intro (@aml_) (And.intro (@agx_) (@adR_))))))) (And.intro (And.intro (And.intro (And.intro (And.intro (@ac6_) (@aeK_)) (And.intro (@ag5_) (And.intro (@ao7_) (@apg_)))) (And.intro (And.intro (@akX_) (@acw_)) (And.intro (@abM_) (And.intro (@abT_) (@abD_))))) (And.intro (And.intro (And.intro (@aeO_) (@apc_)) (And.intro (@app_) (And.intro (@akx_) (@adY_)))) (And.intro (And.intro (@aa9_) (And.intro (@abz_) (@aa4_))) (And.intro (@aeA_) (And.intro (@aon_) (@apr_)))))) (And.intro (And.intro (And.intro (And.intro (@aj5_) (@acs_)) (And.intro (@abx_) (And.intro (@abp_) (@abg_)))) (And.intro (And.intro (@aea_) (@ap7_)) (And.intro (@aqK_) (And.intro (@alI_) (@agy_))))) (And.intro (And.intro (And.intro (@acU_) (@adm_)) (And.intro (@adQ_) (And.intro (@agn_) (@am6_)))) (And.intro (And.intro (@alP_) (And.intro (@WV_) (@aof_))) (And.intro (@aem_) (And.intro (@WB_) (@zY_)))))))) (And.intro (And.intro (And.intro (And.intro (And.intro (And.intro (@arY_) (@aoY_)) (And.intro (@aqh_) (And.intro (@aql_) (@Ww_)))) (And.intro (And.intro (@Vv_) (@ky_)) (And.intro (@vi_) (And.intro (@ZO_) (@QF_))))) (And.intro (And.intro (And.intro (@xi_) (@vl_)) (And.intro (@alS_) (And.intro (@amP_) (@ahI_)))) (And.intro (And.intro (@alR_) (And.intro (@KE_) (@agh_))) (And.intro (@abK_) (And.intro (@ahn_) (@ado_)))))) (And.intro (And.intro (And.intro (And.intro (@alk_) (@ail_)) (And.intro (@afC_) (And.intro (@alr_) (@ako_)))) (And.intro (And.intro (@ajB_) (@apU_)) (And.intro (@apV_) (And.intro (@Option.map_some.{0,0}) (@Option.map_none.{0,0}))))) (And.intro (And.intro (And.intro (@WJ_) (@Wp_)) (And.intro (@QJ_) (And.intro (@afU_) (@WX_)))) (And.intro (And.intro (@aaj_) (And.intro (@Wq_) (@amI_))) (And.intro (@amx_) (And.intro (@or_i) (@asj_))))))) (And.intro (And.intro (And.intro (And.intro (And.intro (@Wo_) (@WY_)) (And.intro (@K7_) (And.intro (@zj_) (@List.cons_append.{0})))) (And.intro (And.intro (@List.nil_append.{0}) (@List.contains_cons.{0})) (And.intro (@List.contains_nil.{0}) (And.intro (@Bool.or_false) (@Bool.false_or))))) (And.intro (And.intro (And.intro (@Bool.or_true) (@Bool.true_or)) (And.intro (@Bool.false_eq_true) (And.intro (@ahZ_) (@af8_)))) (And.intro (And.intro (@agp_) (And.intro (@amm_) (@ai8_))) (And.intro (@Nat.add_sub_cancel_left) (And.intro (@List.set_set.{0}) (@Int.toNat_natCast)))))) (And.intro (And.intro (And.intro (And.intro (@Nat.mul_one) (@Nat.zero_add)) (And.intro (@Nat.add_zero) (And.intro (@ge_iff_le.{0}) (@gt_iff_lt.{0})))) (And.intro (And.intro (@beq_self_eq_true.{0}) (@arV_)) (And.intro (@arQ_) (And.intro (@amw_) (@amZ_))))) (And.intro (And.intro (And.intro (@aqG_) (@arj_)) (And.intro (@asi_) (And.intro (@ar3_) (@ar0_)))) (And.intro (And.intro (@arO_) (And.intro (@aoj_) (@apF_))) (And.intro (@ap1_) (And.intro (@aoM_) (@aoW_)))))))))
end Go.Sx
end
section
open Go Go.Proofs Go.Sx
namespace Go.Proofs
theorem Tryz.ix24:ixT Tryz.prog 24= .sl (false,1):=id (by kernel_rfl)
theorem Tryz.ix23:ixT Tryz.prog 23= .sl (true,6):=id (by kernel_rfl)
theorem Tryz.ix22:ixT Tryz.prog 22= .sl (true,3):=id (by kernel_rfl)
theorem Tryz.ix9:ixT Tryz.prog 9= .str:=id (by kernel_rfl)
theorem Tryz.ix71:ixT Tryz.prog 71= .sl (true,4):=id (by kernel_rfl)
theorem Tryz.ix72:ixT Tryz.prog 72= .sl (false,1):=id (by kernel_rfl)
theorem Tryz.ix93:ixT Tryz.prog 93= .sl (true,5):=id (by kernel_rfl)
theorem Tryz.ix94:ixT Tryz.prog 94= .sl (true,2):=id (by kernel_rfl)
theorem Tryz.ix106:ixT Tryz.prog 106= .sl (true,32):=id (by kernel_rfl)
theorem Tryz.ix131:ixT Tryz.prog 131= .arr 3 (false,1):=id (by kernel_rfl)
theorem Tryz.ix128:ixT Tryz.prog 128= .sl (false,1):=id (by kernel_rfl)
theorem Tryz.ix58:ixT Tryz.prog 58= .sl (true,2):=id (by kernel_rfl)
theorem Tryz.ix57:ixT Tryz.prog 57= .arr 3 (true,3):=id (by kernel_rfl)
theorem Tryz.ix54:ixT Tryz.prog 54= .sl (true,4):=id (by kernel_rfl)
theorem Tryz.ix53:ixT Tryz.prog 53= .sl (true,2):=id (by kernel_rfl)
theorem Tryz.ix84:ixT Tryz.prog 84= .arr 32 (false,1):=id (by kernel_rfl)
theorem Tryz.ix196:ixT Tryz.prog 196= .sl (false,1):=id (by kernel_rfl)
theorem Tryz.ix209:ixT Tryz.prog 209= .arr 4 (false,1):=id (by kernel_rfl)
theorem Tryz.ix218:ixT Tryz.prog 218= .arr 64 (false,1):=id (by kernel_rfl)
theorem Tryz.ix168:ixT Tryz.prog 168= .sl (true,34):=id (by kernel_rfl)
theorem Tryz.ix227:ixT Tryz.prog 227= .arr 8 (false,1):=id (by kernel_rfl)
theorem Tryz.ix200:ixT Tryz.prog 200= .sl (false,1):=id (by kernel_rfl)
theorem Tryz.ix236:ixT Tryz.prog 236= .arr 6 (false,1):=id (by kernel_rfl)
theorem Tryz.ix255:ixT Tryz.prog 255= .arr 8 (false,1):=id (by kernel_rfl)
theorem Tryz.ix256:ixT Tryz.prog 256= .arr 64 (false,1):=id (by kernel_rfl)
theorem Tryz.ix260:ixT Tryz.prog 260= .sl (true,3):=id (by kernel_rfl)
theorem Tryz.ix269:ixT Tryz.prog 269= .arr 4 (false,1):=id (by kernel_rfl)
theorem Tryz.ix294:ixT Tryz.prog 294= .arr 16 (false,1):=id (by kernel_rfl)
theorem Tryz.ix297:ixT Tryz.prog 297= .sl (true,2):=id (by kernel_rfl)
theorem Tryz.ag31:zT_ Tryz.prog 31=some (true,6):=id (by kernel_rfl)
theorem Tryz.ag3:zT_ Tryz.prog 3=some (false,1):=id (by kernel_rfl)
theorem Tryz.ag36:zT_ Tryz.prog 36=some (true,3):=id (by kernel_rfl)
theorem Tryz.ag9:zT_ Tryz.prog 9=some (false,1):=id (by kernel_rfl)
theorem Tryz.ag24:zT_ Tryz.prog 24=some (false,1):=id (by kernel_rfl)
theorem Tryz.ag66:zT_ Tryz.prog 66=some (true,4):=id (by kernel_rfl)
theorem Tryz.ag4:zT_ Tryz.prog 4=some (false,1):=id (by kernel_rfl)
theorem Tryz.ag82:zT_ Tryz.prog 82=some (true,2):=id (by kernel_rfl)
theorem Tryz.ag84:zT_ Tryz.prog 84=some (true,32):=id (by kernel_rfl)
theorem Tryz.ag97:zT_ Tryz.prog 97=some (true,5):=id (by kernel_rfl)
theorem Tryz.ag121:zT_ Tryz.prog 121=some (false,1):=id (by kernel_rfl)
theorem Tryz.ag127:zT_ Tryz.prog 127=some (false,1):=id (by kernel_rfl)
theorem Tryz.ag126:zT_ Tryz.prog 126=some (true,2):=id (by kernel_rfl)
theorem Tryz.ag131:zT_ Tryz.prog 131=some (true,3):=id (by kernel_rfl)
theorem Tryz.ag128:zT_ Tryz.prog 128=some (false,1):=id (by kernel_rfl)
theorem Tryz.ag137:zT_ Tryz.prog 137=some (false,1):=id (by kernel_rfl)
theorem Tryz.ag58:zT_ Tryz.prog 58=some (false,1):=id (by kernel_rfl)
theorem Tryz.ag141:zT_ Tryz.prog 141=some (true,2):=id (by kernel_rfl)
theorem Tryz.ag53:zT_ Tryz.prog 53=some (false,1):=id (by kernel_rfl)
theorem Tryz.ag144:zT_ Tryz.prog 144=some (true,2):=id (by kernel_rfl)
theorem Tryz.ag123:zT_ Tryz.prog 123=some (true,5):=id (by kernel_rfl)
theorem Tryz.ag130:zT_ Tryz.prog 130=some (true,3):=id (by kernel_rfl)
theorem Tryz.ag60:zT_ Tryz.prog 60=some (true,13):=id (by kernel_rfl)
theorem Tryz.ag119:zT_ Tryz.prog 119=some (false,1):=id (by kernel_rfl)
theorem Tryz.ag54:zT_ Tryz.prog 54=some (false,1):=id (by kernel_rfl)
theorem Tryz.ag150:zT_ Tryz.prog 150=some (true,4):=id (by kernel_rfl)
theorem Tryz.ag5:zT_ Tryz.prog 5=some (false,1):=id (by kernel_rfl)
theorem Tryz.ag172:zT_ Tryz.prog 172=some (true,34):=id (by kernel_rfl)
theorem Tryz.ag193:zT_ Tryz.prog 193=some (true,7):=id (by kernel_rfl)
theorem Tryz.ag198:zT_ Tryz.prog 198=some (true,5):=id (by kernel_rfl)
theorem Tryz.ag196:zT_ Tryz.prog 196=some (false,1):=id (by kernel_rfl)
theorem Tryz.ag204:zT_ Tryz.prog 204=some (true,2):=id (by kernel_rfl)
theorem Tryz.ag209:zT_ Tryz.prog 209=some (true,4):=id (by kernel_rfl)
theorem Tryz.ag217:zT_ Tryz.prog 217=some (true,3):=id (by kernel_rfl)
theorem Tryz.ag218:zT_ Tryz.prog 218=some (true,64):=id (by kernel_rfl)
theorem Tryz.ag221:zT_ Tryz.prog 221=some (true,34):=id (by kernel_rfl)
theorem Tryz.ag106:zT_ Tryz.prog 106=some (false,1):=id (by kernel_rfl)
theorem Tryz.ag227:zT_ Tryz.prog 227=some (true,8):=id (by kernel_rfl)
theorem Tryz.ag207:zT_ Tryz.prog 207=some (false,1):=id (by kernel_rfl)
theorem Tryz.ag124:zT_ Tryz.prog 124=some (false,1):=id (by kernel_rfl)
theorem Tryz.ag236:zT_ Tryz.prog 236=some (true,6):=id (by kernel_rfl)
theorem Tryz.ag235:zT_ Tryz.prog 235=some (false,1):=id (by kernel_rfl)
theorem Tryz.ag250:zT_ Tryz.prog 250=some (true,3):=id (by kernel_rfl)
theorem Tryz.ag32:zT_ Tryz.prog 32=some (false,1):=id (by kernel_rfl)
theorem Tryz.ag254:zT_ Tryz.prog 254=some (true,75):=id (by kernel_rfl)
theorem Tryz.ag255:zT_ Tryz.prog 255=some (true,8):=id (by kernel_rfl)
theorem Tryz.ag256:zT_ Tryz.prog 256=some (true,64):=id (by kernel_rfl)
theorem Tryz.ag269:zT_ Tryz.prog 269=some (true,4):=id (by kernel_rfl)
theorem Tryz.ag271:zT_ Tryz.prog 271=some (true,36):=id (by kernel_rfl)
theorem Tryz.ag268:zT_ Tryz.prog 268=some (false,1):=id (by kernel_rfl)
theorem Tryz.ag200:zT_ Tryz.prog 200=some (false,1):=id (by kernel_rfl)
theorem Tryz.ag252:zT_ Tryz.prog 252=some (false,1):=id (by kernel_rfl)
theorem Tryz.ag279:zT_ Tryz.prog 279=some (true,3):=id (by kernel_rfl)
theorem Tryz.ag72:zT_ Tryz.prog 72=some (false,1):=id (by kernel_rfl)
theorem Tryz.ag210:zT_ Tryz.prog 210=some (false,1):=id (by kernel_rfl)
theorem Tryz.ag168:zT_ Tryz.prog 168=some (false,1):=id (by kernel_rfl)
theorem Tryz.ag199:zT_ Tryz.prog 199=some (false,1):=id (by kernel_rfl)
theorem Tryz.ag301:zT_ Tryz.prog 301=some (false,1):=id (by kernel_rfl)
theorem Tryz.ag311:zT_ Tryz.prog 311=some (true,2):=id (by kernel_rfl)
theorem Tryz.ag309:zT_ Tryz.prog 309=some (false,1):=id (by kernel_rfl)
theorem Tryz.ag294:zT_ Tryz.prog 294=some (true,16):=id (by kernel_rfl)
theorem Tryz.zr84:zL_ Tryz.prog 84=some (.agg (a8 (List.replicate 32 0))):=id (by kernel_rfl)
theorem Tryz.zr141:zL_ Tryz.prog 141=some (.agg #[(vs []),(vi 0)]):=id (by kernel_rfl)
theorem Tryz.zr144:zL_ Tryz.prog 144=some (.agg #[(vs []),(vi 0)]):=id (by kernel_rfl)
theorem Tryz.zr60:zL_ Tryz.prog 60=some (.agg #[(.slice none 0 0),(.slice none 0 0),(.slice none 0 0),(.slice none 0 0),(.slice none 0 0),(.slice none 0 0),(.slice none 0 0),(.slice none 0 0),(.slice none 0 0),(.slice none 0 0),(vi 0),(vi 0),(.bool false)]):=id (by kernel_rfl)
theorem Tryz.zr150:zL_ Tryz.prog 150=some (.agg #[(vi 0),(vs []),(vs []),(vi 0)]):=id (by kernel_rfl)
theorem Tryz.zr227:zL_ Tryz.prog 227=some (.agg (a32 (List.replicate 8 0))):=id (by kernel_rfl)
theorem Tryz.zr255:zL_ Tryz.prog 255=some (.agg (a8 (List.replicate 8 0))):=id (by kernel_rfl)
theorem Tryz.zr256:zL_ Tryz.prog 256=some (.agg (a32 (List.replicate 64 0))):=id (by kernel_rfl)
theorem Tryz.fl31_0:qF_ Tryz.prog 31 0=some (0,(false,1)):=id (by kernel_rfl)
theorem Tryz.fl36_0:qF_ Tryz.prog 36 0=some (0,(false,1)):=id (by kernel_rfl)
theorem Tryz.fl36_1:qF_ Tryz.prog 36 1=some (1,(false,1)):=id (by kernel_rfl)
theorem Tryz.fl31_2:qF_ Tryz.prog 31 2=some (2,(false,1)):=id (by kernel_rfl)
theorem Tryz.fl31_3:qF_ Tryz.prog 31 3=some (3,(false,1)):=id (by kernel_rfl)
theorem Tryz.fl31_4:qF_ Tryz.prog 31 4=some (4,(false,1)):=id (by kernel_rfl)
theorem Tryz.fl36_2:qF_ Tryz.prog 36 2=some (2,(false,1)):=id (by kernel_rfl)
theorem Tryz.fl31_1:qF_ Tryz.prog 31 1=some (1,(false,1)):=id (by kernel_rfl)
theorem Tryz.fl31_5:qF_ Tryz.prog 31 5=some (5,(false,1)):=id (by kernel_rfl)
theorem Tryz.fl60_2:qF_ Tryz.prog 60 2=some (10,(false,1)):=id (by kernel_rfl)
theorem Tryz.fl66_0:qF_ Tryz.prog 66 0=some (0,(false,1)):=id (by kernel_rfl)
theorem Tryz.fl66_1:qF_ Tryz.prog 66 1=some (1,(false,1)):=id (by kernel_rfl)
theorem Tryz.fl66_2:qF_ Tryz.prog 66 2=some (2,(false,1)):=id (by kernel_rfl)
theorem Tryz.fl66_3:qF_ Tryz.prog 66 3=some (3,(false,1)):=id (by kernel_rfl)
theorem Tryz.fl82_1:qF_ Tryz.prog 82 1=some (1,(false,1)):=id (by kernel_rfl)
theorem Tryz.fl97_2:qF_ Tryz.prog 97 2=some (2,(true,2)):=id (by kernel_rfl)
theorem Tryz.fl97_0:qF_ Tryz.prog 97 0=some (0,(false,1)):=id (by kernel_rfl)
theorem Tryz.fl97_1:qF_ Tryz.prog 97 1=some (1,(false,1)):=id (by kernel_rfl)
theorem Tryz.fl97_3:qF_ Tryz.prog 97 3=some (4,(false,1)):=id (by kernel_rfl)
theorem Tryz.fl123_0:qF_ Tryz.prog 123 0=some (0,(false,1)):=id (by kernel_rfl)
theorem Tryz.fl130_0:qF_ Tryz.prog 130 0=some (0,(false,1)):=id (by kernel_rfl)
theorem Tryz.fl126_0:qF_ Tryz.prog 126 0=some (0,(false,1)):=id (by kernel_rfl)
theorem Tryz.fl126_1:qF_ Tryz.prog 126 1=some (1,(false,1)):=id (by kernel_rfl)
theorem Tryz.fl130_2:qF_ Tryz.prog 130 2=some (2,(false,1)):=id (by kernel_rfl)
theorem Tryz.fl130_1:qF_ Tryz.prog 130 1=some (1,(false,1)):=id (by kernel_rfl)
theorem Tryz.fl123_4:qF_ Tryz.prog 123 4=some (4,(false,1)):=id (by kernel_rfl)
theorem Tryz.fl123_3:qF_ Tryz.prog 123 3=some (3,(false,1)):=id (by kernel_rfl)
theorem Tryz.fl60_1:qF_ Tryz.prog 60 1=some (9,(false,1)):=id (by kernel_rfl)
theorem Tryz.fl60_0:qF_ Tryz.prog 60 0=some (0,(true,9)):=id (by kernel_rfl)
theorem Tryz.fl56_0:qF_ Tryz.prog 56 0=some (0,(false,1)):=id (by kernel_rfl)
theorem Tryz.fl56_1:qF_ Tryz.prog 56 1=some (1,(false,1)):=id (by kernel_rfl)
theorem Tryz.fl60_4:qF_ Tryz.prog 60 4=some (12,(false,1)):=id (by kernel_rfl)
theorem Tryz.fl60_3:qF_ Tryz.prog 60 3=some (11,(false,1)):=id (by kernel_rfl)
theorem Tryz.fl56_2:qF_ Tryz.prog 56 2=some (2,(false,1)):=id (by kernel_rfl)
theorem Tryz.fl144_1:qF_ Tryz.prog 144 1=some (1,(false,1)):=id (by kernel_rfl)
theorem Tryz.fl141_0:qF_ Tryz.prog 141 0=some (0,(false,1)):=id (by kernel_rfl)
theorem Tryz.fl141_1:qF_ Tryz.prog 141 1=some (1,(false,1)):=id (by kernel_rfl)
theorem Tryz.fl150_0:qF_ Tryz.prog 150 0=some (0,(false,1)):=id (by kernel_rfl)
theorem Tryz.fl150_3:qF_ Tryz.prog 150 3=some (3,(false,1)):=id (by kernel_rfl)
theorem Tryz.fl123_2:qF_ Tryz.prog 123 2=some (2,(false,1)):=id (by kernel_rfl)
theorem Tryz.fl82_0:qF_ Tryz.prog 82 0=some (0,(false,1)):=id (by kernel_rfl)
theorem Tryz.fl144_0:qF_ Tryz.prog 144 0=some (0,(false,1)):=id (by kernel_rfl)
theorem Tryz.fl123_1:qF_ Tryz.prog 123 1=some (1,(false,1)):=id (by kernel_rfl)
theorem Tryz.fl150_1:qF_ Tryz.prog 150 1=some (1,(false,1)):=id (by kernel_rfl)
theorem Tryz.fl150_2:qF_ Tryz.prog 150 2=some (2,(false,1)):=id (by kernel_rfl)
theorem Tryz.fl198_3:qF_ Tryz.prog 198 3=some (3,(false,1)):=id (by kernel_rfl)
theorem Tryz.fl217_2:qF_ Tryz.prog 217 2=some (2,(false,1)):=id (by kernel_rfl)
theorem Tryz.fl217_1:qF_ Tryz.prog 217 1=some (1,(false,1)):=id (by kernel_rfl)
theorem Tryz.fl221_1:qF_ Tryz.prog 221 1=some (1,(false,1)):=id (by kernel_rfl)
theorem Tryz.fl221_0:qF_ Tryz.prog 221 0=some (0,(false,1)):=id (by kernel_rfl)
theorem Tryz.fl221_2:qF_ Tryz.prog 221 2=some (2,(true,32)):=id (by kernel_rfl)
theorem Tryz.fl172_0:qF_ Tryz.prog 172 0=some (0,(true,32)):=id (by kernel_rfl)
theorem Tryz.fl172_1:qF_ Tryz.prog 172 1=some (32,(false,1)):=id (by kernel_rfl)
theorem Tryz.fl172_2:qF_ Tryz.prog 172 2=some (33,(false,1)):=id (by kernel_rfl)
theorem Tryz.fl193_4:qF_ Tryz.prog 193 4=some (4,(false,1)):=id (by kernel_rfl)
theorem Tryz.fl193_3:qF_ Tryz.prog 193 3=some (3,(false,1)):=id (by kernel_rfl)
theorem Tryz.fl193_6:qF_ Tryz.prog 193 6=some (6,(false,1)):=id (by kernel_rfl)
theorem Tryz.fl193_5:qF_ Tryz.prog 193 5=some (5,(false,1)):=id (by kernel_rfl)
theorem Tryz.fl193_0:qF_ Tryz.prog 193 0=some (0,(false,1)):=id (by kernel_rfl)
theorem Tryz.fl193_1:qF_ Tryz.prog 193 1=some (1,(false,1)):=id (by kernel_rfl)
theorem Tryz.fl198_1:qF_ Tryz.prog 198 1=some (1,(false,1)):=id (by kernel_rfl)
theorem Tryz.fl198_0:qF_ Tryz.prog 198 0=some (0,(false,1)):=id (by kernel_rfl)
theorem Tryz.fl198_4:qF_ Tryz.prog 198 4=some (4,(false,1)):=id (by kernel_rfl)
theorem Tryz.fl198_2:qF_ Tryz.prog 198 2=some (2,(false,1)):=id (by kernel_rfl)
theorem Tryz.fl204_0:qF_ Tryz.prog 204 0=some (0,(true,2)):=id (by kernel_rfl)
theorem Tryz.fl250_1:qF_ Tryz.prog 250 1=some (1,(false,1)):=id (by kernel_rfl)
theorem Tryz.fl250_0:qF_ Tryz.prog 250 0=some (0,(false,1)):=id (by kernel_rfl)
theorem Tryz.fl250_2:qF_ Tryz.prog 250 2=some (2,(false,1)):=id (by kernel_rfl)
theorem Tryz.fl217_0:qF_ Tryz.prog 217 0=some (0,(false,1)):=id (by kernel_rfl)
theorem Tryz.fl202_1:qF_ Tryz.prog 202 1=some (1,(false,1)):=id (by kernel_rfl)
theorem Tryz.fl254_4:qF_ Tryz.prog 254 4=some (74,(false,1)):=id (by kernel_rfl)
theorem Tryz.fl254_3:qF_ Tryz.prog 254 3=some (73,(false,1)):=id (by kernel_rfl)
theorem Tryz.fl254_1:qF_ Tryz.prog 254 1=some (1,(true,8)):=id (by kernel_rfl)
theorem Tryz.fl279_0:qF_ Tryz.prog 279 0=some (0,(false,1)):=id (by kernel_rfl)
theorem Tryz.fl279_1:qF_ Tryz.prog 279 1=some (1,(false,1)):=id (by kernel_rfl)
theorem Tryz.fl279_2:qF_ Tryz.prog 279 2=some (2,(false,1)):=id (by kernel_rfl)
theorem Tryz.fl193_2:qF_ Tryz.prog 193 2=some (2,(false,1)):=id (by kernel_rfl)
theorem Tryz.fl271_0:qF_ Tryz.prog 271 0=some (0,(false,1)):=id (by kernel_rfl)
theorem Tryz.fl271_1:qF_ Tryz.prog 271 1=some (1,(false,1)):=id (by kernel_rfl)
theorem Tryz.fl271_2:qF_ Tryz.prog 271 2=some (2,(true,34)):=id (by kernel_rfl)
theorem Tryz.fl202_0:qF_ Tryz.prog 202 0=some (0,(false,1)):=id (by kernel_rfl)
theorem Tryz.fl254_0:qF_ Tryz.prog 254 0=some (0,(false,1)):=id (by kernel_rfl)
theorem Tryz.fl254_2:qF_ Tryz.prog 254 2=some (9,(true,64)):=id (by kernel_rfl)
theorem Tryz.fl311_0:qF_ Tryz.prog 311 0=some (0,(false,1)):=id (by kernel_rfl)
theorem Tryz.fl311_1:qF_ Tryz.prog 311 1=some (1,(false,1)):=id (by kernel_rfl)
theorem Tryz.cv5_3:cvT Tryz.prog 5 3= .int .i64:=id (by kernel_rfl)
theorem Tryz.cv3_5:cvT Tryz.prog 3 5= .int .u8:=id (by kernel_rfl)
theorem Tryz.cv119_3:cvT Tryz.prog 119 3= .int .i64:=id (by kernel_rfl)
theorem Tryz.cv207_5:cvT Tryz.prog 207 5= .int .u8:=id (by kernel_rfl)
theorem Tryz.cv200_9:cvT Tryz.prog 200 9= .bytesStr:=id (by kernel_rfl)
theorem Tryz.cv3_219:cvT Tryz.prog 3 219= .int .u64:=id (by kernel_rfl)
theorem Tryz.cv3_252:cvT Tryz.prog 3 252= .int .u64:=id (by kernel_rfl)
theorem Tryz.cv252_5:cvT Tryz.prog 252 5= .int .u8:=id (by kernel_rfl)
theorem Tryz.cv5_207:cvT Tryz.prog 5 207= .int .u32:=id (by kernel_rfl)
theorem Tryz.cv219_207:cvT Tryz.prog 219 207= .int .u32:=id (by kernel_rfl)
theorem Tryz.cv199_292:cvT Tryz.prog 199 292= .no:=id (by kernel_rfl)
theorem Tryz.cv292_199:cvT Tryz.prog 292 199= .no:=id (by kernel_rfl)
theorem Tryz.cv3_301:cvT Tryz.prog 3 301= .int .u64:=id (by kernel_rfl)
theorem Tryz.cv219_3:cvT Tryz.prog 219 3= .int .i64:=id (by kernel_rfl)
theorem Tryz.cv3_312:cvT Tryz.prog 3 312= .no:=id (by kernel_rfl)
theorem Tryz.cv312_3:cvT Tryz.prog 312 3= .no:=id (by kernel_rfl)
set_option linter.defProp false
def Tryz.fx:=And.intro (And.intro (And.intro (And.intro (And.intro (And.intro (And.intro (@Tryz.ix24) (@Tryz.ix23)) (And.intro (@Tryz.ix22) (And.intro (@Tryz.ix9) (@Tryz.ix71)))) (And.intro (And.intro (@Tryz.ix72) (And.intro (@Tryz.ix93) (@Tryz.ix94))) (And.intro (@Tryz.ix106) (And.intro (@Tryz.ix131) (@Tryz.ix128))))) (And.intro (And.intro (And.intro (@Tryz.ix58) (And.intro (@Tryz.ix57) (@Tryz.ix54))) (And.intro (@Tryz.ix53) (And.intro (@Tryz.ix84) (@Tryz.ix196)))) (And.intro (And.intro (@Tryz.ix209) (And.intro (@Tryz.ix218) (@Tryz.ix168))) (And.intro (@Tryz.ix227) (And.intro (@Tryz.ix200) (@Tryz.ix236)))))) (And.intro (And.intro (And.intro (And.intro (@Tryz.ix255) (And.intro (@Tryz.ix256) (@Tryz.ix260))) (And.intro (@Tryz.ix269) (And.intro (@Tryz.ix294) (@Tryz.ix297)))) (And.intro (And.intro (@Tryz.ag31) (And.intro (@Tryz.ag3) (@Tryz.ag36))) (And.intro (@Tryz.ag9) (And.intro (@Tryz.ag24) (@Tryz.ag66))))) (And.intro (And.intro (And.intro (@Tryz.ag4) (And.intro (@Tryz.ag82) (@Tryz.ag84))) (And.intro (@Tryz.ag97) (And.intro (@Tryz.ag121) (@Tryz.ag127)))) (And.intro (And.intro (@Tryz.ag126) (And.intro (@Tryz.ag131) (@Tryz.ag128))) (And.intro (@Tryz.ag137) (And.intro (@Tryz.ag58) (@Tryz.ag141))))))) (And.intro (And.intro (And.intro (And.intro (And.intro (@Tryz.ag53) (And.intro (@Tryz.ag144) (@Tryz.ag123))) (And.intro (@Tryz.ag130) (And.intro (@Tryz.ag60) (@Tryz.ag119)))) (And.intro (And.intro (@Tryz.ag54) (And.intro (@Tryz.ag150) (@Tryz.ag5))) (And.intro (@Tryz.ag172) (And.intro (@Tryz.ag193) (@Tryz.ag198))))) (And.intro (And.intro (And.intro (@Tryz.ag196) (And.intro (@Tryz.ag204) (@Tryz.ag209))) (And.intro (@Tryz.ag217) (And.intro (@Tryz.ag218) (@Tryz.ag221)))) (And.intro (And.intro (@Tryz.ag106) (And.intro (@Tryz.ag227) (@Tryz.ag207))) (And.intro (@Tryz.ag124) (And.intro (@Tryz.ag236) (@Tryz.ag235)))))) (And.intro (And.intro (And.intro (And.intro (@Tryz.ag250) (And.intro (@Tryz.ag32) (@Tryz.ag254))) (And.intro (@Tryz.ag255) (And.intro (@Tryz.ag256) (@Tryz.ag269)))) (And.intro (And.intro (@Tryz.ag271) (And.intro (@Tryz.ag268) (@Tryz.ag200))) (And.intro (@Tryz.ag252) (And.intro (@Tryz.ag279) (@Tryz.ag72))))) (And.intro (And.intro (And.intro (@Tryz.ag210) (And.intro (@Tryz.ag168) (@Tryz.ag199))) (And.intro (@Tryz.ag301) (And.intro (@Tryz.ag311) (@Tryz.ag309)))) (And.intro (And.intro (@Tryz.ag294) (And.intro (@Tryz.fl31_0) (@Tryz.fl36_0))) (And.intro (@Tryz.fl36_1) (And.intro (@Tryz.fl31_2) (@Tryz.fl31_3)))))))) (And.intro (And.intro (And.intro (And.intro (And.intro (And.intro (@Tryz.fl31_4) (And.intro (@Tryz.fl36_2) (@Tryz.fl31_1))) (And.intro (@Tryz.fl31_5) (And.intro (@Tryz.fl60_2) (@Tryz.fl66_0)))) (And.intro (And.intro (@Tryz.fl66_1) (And.intro (@Tryz.fl66_2) (@Tryz.fl66_3))) (And.intro (@Tryz.fl82_1) (And.intro (@Tryz.fl97_2) (@Tryz.fl97_0))))) (And.intro (And.intro (And.intro (@Tryz.fl97_1) (And.intro (@Tryz.fl97_3) (@Tryz.fl123_0))) (And.intro (@Tryz.fl130_0) (And.intro (@Tryz.fl126_0) (@Tryz.fl126_1)))) (And.intro (And.intro (@Tryz.fl130_2) (And.intro (@Tryz.fl130_1) (@Tryz.fl123_4))) (And.intro (@Tryz.fl123_3) (And.intro (@Tryz.fl60_1) (@Tryz.fl60_0)))))) (And.intro (And.intro (And.intro (And.intro (@Tryz.fl56_0) (And.intro (@Tryz.fl56_1) (@Tryz.fl60_4))) (And.intro (@Tryz.fl60_3) (And.intro (@Tryz.fl56_2) (@Tryz.fl144_1)))) (And.intro (And.intro (@Tryz.fl141_0) (And.intro (@Tryz.fl141_1) (@Tryz.fl150_0))) (And.intro (@Tryz.fl150_3) (And.intro (@Tryz.fl123_2) (@Tryz.fl82_0))))) (And.intro (And.intro (And.intro (@Tryz.fl144_0) (And.intro (@Tryz.fl123_1) (@Tryz.fl150_1))) (And.intro (@Tryz.fl150_2) (And.intro (@Tryz.fl198_3) (@Tryz.fl217_2)))) (And.intro (And.intro (@Tryz.fl217_1) (And.intro (@Tryz.fl221_1) (@Tryz.fl221_0))) (And.intro (@Tryz.fl221_2) (And.intro (@Tryz.fl172_0) (@Tryz.fl172_1))))))) (And.intro (And.intro (And.intro (And.intro (And.intro (@Tryz.fl172_2) (And.intro (@Tryz.fl193_4) (@Tryz.fl193_3))) (And.intro (@Tryz.fl193_6) (And.intro (@Tryz.fl193_5) (@Tryz.fl193_0)))) (And.intro (And.intro (@Tryz.fl193_1) (And.intro (@Tryz.fl198_1) (@Tryz.fl198_0))) (And.intro (@Tryz.fl198_4) (And.intro (@Tryz.fl198_2) (@Tryz.fl204_0))))) (And.intro (And.intro (And.intro (@Tryz.fl250_1) (And.intro (@Tryz.fl250_0) (@Tryz.fl250_2))) (And.intro (@Tryz.fl217_0) (And.intro (@Tryz.fl202_1) (@Tryz.fl254_4)))) (And.intro (And.intro (@Tryz.fl254_3) (And.intro (@Tryz.fl254_1) (@Tryz.fl279_0))) (And.intro (@Tryz.fl279_1) (And.intro (@Tryz.fl279_2) (@Tryz.fl193_2)))))) (And.intro (And.intro (And.intro (And.intro (@Tryz.fl271_0) (And.intro (@Tryz.fl271_1) (@Tryz.fl271_2))) (And.intro (@Tryz.fl202_0) (And.intro (@Tryz.fl254_0) (@Tryz.fl254_2)))) (And.intro (And.intro (@Tryz.fl311_0) (And.intro (@Tryz.fl311_1) (@Tryz.cv5_3))) (And.intro (@Tryz.cv3_5) (And.intro (@Tryz.cv119_3) (@Tryz.cv207_5))))) (And.intro (And.intro (And.intro (@Tryz.cv200_9) (And.intro (@Tryz.cv3_219) (@Tryz.cv3_252))) (And.intro (@Tryz.cv252_5) (And.intro (@Tryz.cv5_207) (@Tryz.cv219_207)))) (And.intro (And.intro (@Tryz.cv199_292) (And.intro (@Tryz.cv292_199) (@Tryz.cv3_301))) (And.intro (@Tryz.cv219_3) (And.intro (@Tryz.cv3_312) (@Tryz.cv312_3))))))))
theorem kp {X A G:Prop} (x:X) (h:G) (e:X→A=G:=by intro x;(try simp(disch:=(first|assumption|omega| (simp only[KC_,XQ_,UInt64.reduceToNat];try omega))) only[↓Sx.S0,Sx.S1,Tryz.fx,Nat.reduceAdd,Nat.reducePow,Int.reducePow,Nat.reduceBEq, ↓reduceIte,UInt8.reduceToNat,UInt16.reduceToNat,UInt32.reduceToNat,UInt64.reduceToNat,Int.reduceToNat,x]);exact rfl):A:=(e x).mpr h
section
variable {P:Program} {w0:World} {f:Fr} {L:zc_} {K:kD_} {N:Fr→zc_→Prop} {ops:Array Oper} {md:Md} {l:List Oper} {X G:Prop}
theorem ks {c:Code} (z:List Nat) [Sx.Steps c] (x:X) (h:G) (e:X→vcC P w0 z c f L (bsK K)=G:=by intro x;(try simp(disch:=(first|assumption|omega| (simp only[KC_,XQ_,UInt64.reduceToNat];try omega))) only[↓Sx.S0,Sx.S1,Tryz.fx,Nat.reduceAdd,Nat.reducePow,Int.reducePow,Nat.reduceBEq, ↓reduceIte,UInt8.reduceToNat,UInt16.reduceToNat,UInt32.reduceToNat,UInt64.reduceToNat,Int.reduceToNat,x]);exact rfl):Cw P w0 c f L K:=Cw.go z ((e x).mpr h)
theorem ko (x:X) (h:G) (e:X→vcL P w0 ops true md l f L (owk P w0 ops (bsN N))=G:=by intro x;(try simp(disch:=(first|assumption|omega| (simp only[KC_,XQ_,UInt64.reduceToNat];try omega))) only[↓Sx.S0,Sx.S1,Tryz.fx,Nat.reduceAdd,Nat.reducePow,Int.reducePow,Nat.reduceBEq, ↓reduceIte,UInt8.reduceToNat,UInt16.reduceToNat,UInt32.reduceToNat,UInt64.reduceToNat,Int.reduceToNat,x]);exact rfl) (he:md.eff=true:=by rfl):Ow P w0 ops md l f L N:=Ow.go he ((e x).mpr h)
theorem kq (x:X) (h:G) (e:X→vcL P w0 ops false md l f L (owk P w0 ops (bsN N))=G:=by intro x;(try simp(disch:=(first|assumption|omega| (simp only[KC_,XQ_,UInt64.reduceToNat];try omega))) only[↓Sx.S0,Sx.S1,Tryz.fx,Nat.reduceAdd,Nat.reducePow,Int.reducePow,Nat.reduceBEq, ↓reduceIte,UInt8.reduceToNat,UInt16.reduceToNat,UInt32.reduceToNat,UInt64.reduceToNat,Int.reduceToNat,x]);exact rfl):Ow P w0 ops md l f L N:=Ow.goQ ((e x).mpr h)
end
theorem ke {α:Type} {X:Prop} {a b:α} (x:X) (e:X→a=b:=by intro x;(try simp(disch:=(first|assumption|omega| (simp only[KC_,XQ_,UInt64.reduceToNat];try omega))) only[↓Sx.S0,Sx.S1,Tryz.fx,Nat.reduceAdd,Nat.reducePow,Int.reducePow,Nat.reduceBEq, ↓reduceIte,UInt8.reduceToNat,UInt16.reduceToNat,UInt32.reduceToNat,UInt64.reduceToNat,Int.reduceToNat,x]);exact rfl):a=b:=e x
theorem kn {A G:Prop} (h:G) (e:A=G:=by(try simp(disch:=(first|assumption|omega| (simp only[KC_,XQ_,UInt64.reduceToNat];try omega))) only[ZO_,QF_,List.cons_append,List.nil_append]);exact rfl):A:=e.mpr h
theorem kf {A G:Prop} (h:G) (e:A=G:=by simp only[List.size_toArray,List.length_cons,List.length_nil,Nat.reduceAdd,Nat.reduceSub,List.replicate_succ,List.replicate_zero,List.cons_append,List.nil_append];exact rfl):A:=e.mpr h
theorem kv {A G:Prop} (h:G) (e:A=G:=by simp only[jS_,pin,v7_,v8_,List.contains_cons,List.contains_nil,Nat.reduceBEq,Bool.or_false,Bool.false_or,Bool.or_true,Bool.true_or,Nat.reduceAdd, ↓reduceIte,Bool.false_eq_true];exact rfl):A:=e.mpr h
set_option maxRecDepth 10000
set_option maxHeartbeats 1000000
set_option linter.unusedSimpArgs false
theorem Xn_ (p v:Value) (E:TypeId) (n:Nat):zk_ (some (false,n)) (some (.cells #[p,v] E (0,0))) 0=some p:=(rfl)
theorem Xg_ (p v:Value) (E:TypeId) (n:Nat):zk_ (some (false,n)) (some (.cells #[p,v] E (0,0))) 1=some v:=(rfl)
theorem alU_ (p v x:Value) (E:TypeId) (hx:Value.oneCell' x=true∧x.cells= #[x]):zn_ (some (false,1)) (some (.cells #[p,v] E (0,0))) 0 x=some (.cells #[x,v] E (0,0)):=by
 simp[zn_,hx,Qz_]
theorem J4_ (p v:Value) (b o:Nat) (E:TypeId):zn_ (some (false,1)) (some (.cells #[p,v] E (0,0))) 0 (vp b o)=some (.cells #[vp b o,v] E (0,0)):=alU_ _ _ _ _ ⟨rfl,rfl⟩
theorem nilB (b o:Nat):qE_ Tryz.prog .eql 199 (vp b o) (.pointer none)=some (.bool false):=by
 simp[qE_,eqX,qe_,qd_,Tryz.underlying199,vp]
theorem ao4_:qE_ Tryz.prog .eql 199 (.pointer none) (.pointer none)=some (.bool true):=by
 simp[qE_,eqX,qe_,qd_,Tryz.underlying199]
set_option linter.defProp false
def auf_:=And.intro (And.intro (@Xn_) (@Xg_)) (And.intro (@J4_) (And.intro (@nilB) (@ao4_)))
end Go.Proofs
end
section
open Go Go.Proofs Go.Sx
namespace Go.Proofs
set_option maxRecDepth 10000
set_option maxHeartbeats 1000000
set_option linter.unusedSimpArgs false
set_option linter.defProp false
def auJ_:=And.intro (And.intro (@Xn_) (@Xg_)) (And.intro (@J4_) (And.intro (@nilB) (@ao4_)))
def BldAt (b:Nat) (l:List UInt8) (X:zc_):Prop:=
 ∃p v,Sx.look X b=some (.cells #[p,v] 204 (0,0))∧(p= .pointer none∨p=vp b 0)∧Buf X 5 1 v l.length (l.map v8)∧slB v≠some b
end Go.Proofs
end
section
open Go Go.Proofs Go.Sx
namespace Go.Proofs
set_option maxRecDepth 10000
set_option maxHeartbeats 1000000
set_option linter.unusedSimpArgs false
set_option linter.defProp false
def atu_:=And.intro (And.intro (@Xn_) (@Xg_)) (And.intro (@J4_) (And.intro (@nilB) (@ao4_)))
end Go.Proofs
end
section
open Go Go.Proofs Go.Sx
namespace Go.Proofs
set_option maxRecDepth 10000
set_option maxHeartbeats 1000000
set_option linter.unusedSimpArgs false
theorem nilW (b o:Nat):qE_ Tryz.prog .eql 242 (vp b o) (.pointer none)=some (.bool false):=by
 simp[qE_,eqX,qe_,qd_,Tryz.underlying242,vp]
set_option linter.defProp false
def avc_:=And.intro (@Xn_) (And.intro (@Xg_) (@nilW))
structure WG where
 g:Nat
 D:zc_
def maxN:Int:=1099511627775
def KL_ (n:Nat):List UInt8:=if h:n<128 then [UInt8.ofNat n] else UInt8.ofNat (n%128+128)::KL_ (n / 128)
termination_by n
decreasing_by omega
def q8_ (n:Int):Nat:=(if(if maxN<n then maxN else n)>0 then(if maxN<n then maxN else n) else 0).toNat
def ar2_ (l:List Int):List UInt8:=(l.map fun n=>KL_ (q8_ n)).flatten
theorem vg_ {n:Nat} (h:n<128):KL_ n= [UInt8.ofNat n]:=by rw[KL_];simp[h]
theorem JL_ {n:Nat} (h: ¬n<128):KL_ n=UInt8.ofNat (n%128+128)::KL_ (n / 128):=by rw[KL_];simp[h]
theorem vR_: ∀ (k n:Nat),n<128^k→0<k→(KL_ n).length≤k
 |0,n,h,h0=>absurd h0 (by omega)
 |k+1,n,h,_=>by
  by_cases hn:n<128
  ·rw[vg_ hn];simp
  ·rw[JL_ hn]
   have hk:0<k:=by
    rcases Nat.eq_zero_or_pos k with rfl|hk
    ·simp at h;omega
    ·exact hk
   have:=vR_ k (n / 128) (by rw[Nat.pow_succ] at h;omega) hk
   simp only[List.length_cons];omega
theorem akl_ (n:Int):q8_ n<1099511627776:=by unfold q8_ maxN;split<;>split at* <;>omega
theorem je_ (n:Int): (KL_ (q8_ n)).length≤6:=vR_ 6 _ (by have:=akl_ n;omega) (by omega)
theorem JP_ (m:Nat):UInt8.ofInt (m:Int)=UInt8.ofNat m:=by
 apply UInt8.toBitVec_inj.1
 apply BitVec.eq_of_toNat_eq
 simp[UInt8.ofInt,UInt8.ofNat]
 omega
structure NG where
 m:Nat
 pre:List UInt8
 D:zc_
end Go.Proofs
end
section
open Go Go.Proofs Go.Sx
namespace Go.Proofs
set_option maxRecDepth 10000
set_option maxHeartbeats 1000000
set_option linter.unusedSimpArgs false
set_option linter.defProp false
def atT_:=And.intro (And.intro (@Xn_) (@Xg_)) (And.intro (@nilW) (And.intro (@ahI_) (@KE_)))
theorem BldAt.app {b:Nat} {l:List UInt8} {X Y:zc_} (h:BldAt b l X):BldAt b l (X++Y):=by
 obtain⟨p,v,h1,h2,h3,h4⟩:=h
 exact⟨p,v,zl_ h1,h2,h3.app,h4⟩
def QQ_ (s:List UInt8):List UInt8:=KL_ (q8_ s.length)++s
def asD_ (ls:List (List UInt8)):List UInt8:=(ls.map QQ_).flatten
def idC (id:List UInt8):List Value:=id.map v8
structure IdL where
 l:List UInt8
 h:l.length=32
def JO_ (x:IdL):List Value:=x.l.map v8
def id0:IdL:=⟨List.replicate 32 0,by simp⟩
theorem ahK_ (x:IdL): (JO_ x).toArray=a8 x.l:=rfl
def idsL (ls:List IdL):List UInt8:=(ls.map IdL.l).flatten
end Go.Proofs
end
section
open Go Go.Proofs Go.Sx
namespace Go.Proofs
set_option maxRecDepth 10000
set_option maxHeartbeats 1000000
set_option linter.unusedSimpArgs false
structure Rd where
 s:List UInt8
 at_:Nat
 err:Nat
def rdC (r:Rd):Array Value:= #[vs r.s,vi r.at_,vi r.err]
theorem xX_ (s:List UInt8) (a e:Int) (E:TypeId) (n:Nat):zk_ (some (false,n)) (some (.cells #[vs s,vi a,vi e] E (0,0))) 0=some (vs s):=(rfl)
theorem x1_ (s:List UInt8) (a e:Int) (E:TypeId) (n:Nat):zk_ (some (false,n)) (some (.cells #[vs s,vi a,vi e] E (0,0))) 1=some (vi a):=(rfl)
theorem x5_ (s:List UInt8) (a e:Int) (E:TypeId) (n:Nat):zk_ (some (false,n)) (some (.cells #[vs s,vi a,vi e] E (0,0))) 2=some (vi e):=(rfl)
theorem xe_ (s:List UInt8) (a e x:Int) (E:TypeId):zn_ (some (false,1)) (some (.cells #[vs s,vi a,vi e] E (0,0))) 1 (vi x)=some (.cells #[vs s,vi x,vi e] E (0,0)):=by
 simp[zn_,Qz_,vi,Value.cells,Value.oneCell']
theorem xm_ (s:List UInt8) (a e x:Int) (E:TypeId):zn_ (some (false,1)) (some (.cells #[vs s,vi a,vi e] E (0,0))) 2 (vi x)=some (.cells #[vs s,vi a,vi x] E (0,0)):=by
 simp[zn_,Qz_,vi,Value.cells,Value.oneCell']
theorem nilR (b o:Nat):qE_ Tryz.prog .eql 210 (vp b o) (.pointer none)=some (.bool false):=by
 simp[qE_,eqX,qe_,qd_,Tryz.underlying210,vp]
theorem apy_:qE_ Tryz.prog .eql 210 (.pointer none) (.pointer none)=some (.bool true):=by
 simp[qE_,eqX,qe_,qd_,Tryz.underlying210]
theorem anZ_ (b o:Nat):qE_ Tryz.prog .neq 210 (vp b o) (.pointer none)=some (.bool true):=by
 simp[qE_,eqX,qe_,qd_,Tryz.underlying210,vp]
theorem akW_:qE_ Tryz.prog .neq 210 (.pointer none) (.pointer none)=some (.bool false):=by
 simp[qE_,eqX,qe_,qd_,Tryz.underlying210]
set_option linter.defProp false
def at7_:=And.intro (And.intro (And.intro (@xX_) (@x1_)) (And.intro (@x5_) (@xe_))) (And.intro (And.intro (@xm_) (@nilR)) (And.intro (@apy_) (And.intro (@anZ_) (@akW_))))
def jo_ (s:List UInt8) (a:Nat) (e n:Int):List UInt8×Nat×Int:=
 if e≠0 then([],a,e) else if n<0 then([],a,2) else if(s.length:Int) - a<n then([],a,3) else((s.drop a).take n.toNat,a+n.toNat,0)
end Go.Proofs
end
section
open Go Go.Proofs Go.Sx
namespace Go.Proofs
set_option maxRecDepth 10000
set_option maxHeartbeats 8000000
set_option linter.unusedSimpArgs false
set_option linter.defProp false
def atP_:=And.intro (And.intro (And.intro (@xX_) (@x1_)) (And.intro (@x5_) (@xe_))) (And.intro (And.intro (@xm_) (@nilR)) (And.intro (@apy_) (And.intro (@anZ_) (@akW_))))
def ja_ (most:Int):List UInt8→Nat→Nat→Except Nat (Nat×Nat)
 | [],_,_=> .error 3
 |c::r,k,n=>
  if 128≤c.toNat then(if k+1=6 then .error 4 else ja_ most r (k+1) (n+c.toNat%128*128^k))
  else if c.toNat=0∧0<k then .error 2
  else if n+c.toNat%128*128^k≤1099511627775∧((n+c.toNat%128*128^k:Nat):Int)≤most then .ok (n+c.toNat%128*128^k,k+1)
  else .error 4
def zD_ (s:List UInt8) (a:Nat) (e most:Int):Int×Nat×Int:=
 if e≠0 then(0,a,e) else match ja_ most (s.drop a) 0 0 with
  | .ok (n,k)=>(n,a+k,0)
  | .error x=>(0,a,x)
theorem aj1_ {s:List UInt8} {a:Nat} {e most:Int} {n k:Nat} (he:e=0) (h:ja_ most (s.drop a) 0 0= .ok (n,k)):zD_ s a e most=((n:Int),a+k,0):=by
 unfold zD_;rw[if_neg (by simp[he]),h]
theorem vD_ {s:List UInt8} {a:Nat} {e most:Int} {x:Nat} (he:e=0) (h:ja_ most (s.drop a) 0 0= .error x):zD_ s a e most=(0,a,(x:Int)):=by
 unfold zD_;rw[if_neg (by simp[he]),h]
structure NumS where
 more:Bool
 k:Nat
 n:Nat
 x:Nat
end Go.Proofs
end
section
open Go Go.Proofs Go.Sx
namespace Go.Proofs
set_option maxRecDepth 10000
set_option maxHeartbeats 2000000
set_option linter.unusedSimpArgs false
set_option linter.defProp false
def auE_:=And.intro (And.intro (And.intro (@xX_) (@x1_)) (And.intro (@x5_) (@xe_))) (And.intro (And.intro (@xm_) (@nilR)) (And.intro (@apy_) (And.intro (@anZ_) (@akW_))))
theorem WT_ (most:Int): ∀ (l:List UInt8) (k n m k':Nat),ja_ most l k n= .ok (m,k')→k<k'∧k'≤k+l.length
 | [],k,n,m,k',h=>by cases h
 |c::r,k,n,m,k',h=>by
  unfold ja_ at h
  split at h
  ·split at h
   ·cases h
   ·have:=WT_ most r (k+1) _ m k' h
    simp only[List.length_cons];omega
  ·split at h
   ·cases h
   ·split at h
    ·cases h;simp only[List.length_cons];omega
    ·cases h
theorem jh_ {s:List UInt8} {a:Nat} {e most:Int} (ha:a≤s.length):a≤ (zD_ s a e most).2.1∧(zD_ s a e most).2.1≤s.length:=by
 unfold zD_
 split
 ·exact⟨Nat.le_refl _,ha⟩
 ·cases h:ja_ most (s.drop a) 0 0 with
  |error x=>exact⟨Nat.le_refl _,ha⟩
  |ok p=>
   obtain⟨n,k⟩:=p
   have:=WT_ most _ _ _ _ _ h
   rw[List.length_drop] at this
   exact⟨by show a≤a+k;omega,by show a+k≤s.length;omega⟩
theorem WD_ {s:List UInt8} {a:Nat} {e n:Int} (ha:a≤s.length):a≤ (jo_ s a e n).2.1∧(jo_ s a e n).2.1≤s.length:=by
 unfold jo_
 split
 ·exact⟨Nat.le_refl _,ha⟩
 ·split
  ·exact⟨Nat.le_refl _,ha⟩
  ·split
   ·exact⟨Nat.le_refl _,ha⟩
   ·exact⟨by show a≤a+n.toNat;omega,by show a+n.toNat≤s.length;omega⟩
def zX_ (s:List UInt8) (a:Nat) (e most:Int):List UInt8×Nat×Int:=
 let p:=zD_ s a e most
 let q:=jo_ s p.2.1 p.2.2 p.1
 if q.2.2≠0 then([],a,q.2.2) else q
def z32:List UInt8:=List.replicate 32 0
def idR (s:List UInt8) (a:Nat) (e:Int):List UInt8×Nat×Int:=
 let q:=jo_ s a e 32
 (if q.1.length=32 then q.1 else z32,q.2)
theorem ame_ {s:List UInt8} {a:Nat} {e:Int} (_ha:a≤s.length): (jo_ s a e 32).1= []∨(jo_ s a e 32).1.length=32:=by
 unfold jo_
 split
 ·exact .inl rfl
 ·split
  ·exact .inl rfl
  ·split
   ·exact .inl rfl
   ·right
    show((s.drop a).take 32).length=32
    rw[List.length_take,List.length_drop];omega
end Go.Proofs
end
section
open Go Go.Proofs Go.Sx
namespace Go.Proofs
set_option maxRecDepth 10000
set_option maxHeartbeats 4000000
set_option linter.unusedSimpArgs false
set_option linter.defProp false
def zB_:=And.intro (And.intro (And.intro (@zg_) (@kT_)) (And.intro (@vU_) (And.intro (@vE_) (@zf_)))) (And.intro (And.intro (@xX_) (@x1_)) (And.intro (@x5_) (And.intro (@xe_) (@xm_))))
theorem Zu_ (b:Nat) (s:List UInt8) (a:Nat) (e n:Int) (w:World) (ha:a≤s.length) (hs:s.length<1099511627776) (ho:w.heap[b]? =some (.cells #[vs s,vi a,vi e] 217 (0,0))):
  Rets Tryz.prog 182 #[vp b 0,vi n] w (fun v D=> ∃o,D= [(b,o)]∧v=vs (jo_ s a e n).1∧o= .cells #[vs s,vi (jo_ s a e n).2.1,vi (jo_ s a e n).2.2] 217 (0,0)):=by
 refine Rets.enterM Tryz.func182 rfl (rs:= [.tmp 4]) Tryz.results182 Tryz.ntmps182 ho ?_
 refine kf ?_
 first|with_reducible refine ks [] @zB_ ?_|refine kp @zB_ ?_
 unfold jo_
 by_cases he:e=0
 ·subst he
  rw[if_neg (fun h=>h rfl)]
  first|with_reducible refine ks [] @zB_ ?_|refine kp @zB_ ?_
  by_cases hn:n<0
  ·rw[if_pos hn]
   first|with_reducible refine ks [] @zB_ ?_|refine kp @zB_ ?_
   refine⟨_,_,_,(ke @zB_),rfl,trivial, ?_⟩
   exact⟨rfl,rfl⟩
  ·rw[if_neg hn]
   first|with_reducible refine ks [] @zB_ ?_|refine kp @zB_ ?_
   refine Cw.regionS [b] [0,1,2,5,6,7,10,3,4,8,9,11] [] (by kernel_rfl) (by kernel_rfl) (by kernel_rfl) ?_
   simp only[zo_, ↓zi_, ↓zd_, ↓zz_, ↓zy_,ze_]
   refine kq @zB_ ?_
   try with_reducible refine Ow.nil ?_
   first|with_reducible refine ks [] @zB_ ?_|refine kp @zB_ ?_
   by_cases hl: (s.length:Int) - a<n
   ·rw[if_pos hl]
    first|with_reducible refine ks [] @zB_ ?_|refine kp @zB_ ?_
    refine⟨_,_,_,(ke @zB_),rfl,trivial, ?_⟩
    exact⟨rfl,rfl⟩
   ·rw[if_neg hl]
    obtain⟨m,rfl⟩: ∃m:Nat,n=(m:Int):=⟨n.toNat,by omega⟩
    first|with_reducible refine ks [] @zB_ ?_|refine kp @zB_ ?_
    refine Cw.regionS [b] [0,1,2,4,5,6,8,9,10,12,3,7,11,13,14,15] [] (by kernel_rfl) (by kernel_rfl) (by kernel_rfl) ?_
    simp only[zo_, ↓zi_, ↓zd_, ↓zz_, ↓zy_,ze_]
    refine kq @zB_ ?_
    try with_reducible refine Ow.nil ?_
    first|with_reducible refine ks [] @zB_ ?_|refine kp @zB_ ?_
    refine⟨_,_,_,(ke @zB_),rfl,trivial, ?_⟩
    refine⟨?_, ?_⟩
    ·simp only[vj_,Int.toNat_natCast]
     rw[List.drop_take,Nat.add_sub_cancel_left]
    ·rw[Int.toNat_natCast,Int.natCast_add]
 ·rw[if_pos he]
  first|with_reducible refine ks [] @zB_ ?_|refine kp @zB_ ?_
  refine⟨_,_,_,(ke @zB_),rfl,trivial, ?_⟩
  exact⟨rfl,rfl⟩
theorem vV_ (b:Nat) (s:List UInt8) (a e:Int) (w:World) (ho:w.heap[b]? =some (.cells #[vs s,vi a,vi e] 217 (0,0))):
  Rets Tryz.prog 145 #[vp b 0] w (fun v D=>v=vi (if e≠0 then e else if a<s.length then 5 else 0)∧D= []):=by
 refine Rets.enterV Tryz.func145 rfl (rs:= [.tmp 2]) Tryz.results145 Tryz.ntmps145 ?_
 refine kf ?_
 first|with_reducible refine ks [] (And.intro @zB_ @ho) ?_|refine kp (And.intro @zB_ @ho) ?_
 by_cases he:e=0
 ·first|with_reducible refine ks [] @zB_ ?_|refine kp @zB_ ?_
  refine Cw.regionS [b] [0,1,2,4,5,6,3,7,8,9] [] (by kernel_rfl) (by kernel_rfl) (by kernel_rfl) ?_
  simp only[zo_, ↓zi_, ↓zd_, ↓zz_, ↓zy_,ze_]
  refine kq (And.intro @zB_ @ho) ?_
  try with_reducible refine Ow.nil ?_
  first|with_reducible refine ks [] @zB_ ?_|refine kp @zB_ ?_
  refine cdC.splitp (fun hc=> ?_) (fun hc=> ?_)
  ·first|with_reducible refine ks [] @zB_ ?_|refine kp @zB_ ?_
   refine⟨_,(ke @zB_),trivial, ?_⟩
   simp[hc,he,vj_]
  ·first|with_reducible refine ks [] @zB_ ?_|refine kp @zB_ ?_
   refine⟨_,(ke @zB_),trivial, ?_⟩
   simp[hc,he,vj_]
 ·first|with_reducible refine ks [] (And.intro @zB_ @ho) ?_|refine kp (And.intro @zB_ @ho) ?_
  refine⟨_,(ke @zB_),trivial, ?_⟩
  simp[he,vj_]
structure KN where
 k:Nat
 n:Nat
theorem xD_ (b:Nat) (s:List UInt8) (a:Nat) (e most:Int) (w:World) (ha:a≤s.length) (hs:s.length<1099511627776) (ho:w.heap[b]? =some (.cells #[vs s,vi a,vi e] 217 (0,0))):
  Rets Tryz.prog 146 #[vp b 0,vi most] w (fun v D=> ∃o,D= [(b,o)]∧v=vi (zD_ s a e most).1∧o= .cells #[vs s,vi (zD_ s a e most).2.1,vi (zD_ s a e most).2.2] 217 (0,0)):=by
 refine Rets.enterM Tryz.func146 rfl (rs:= [.tmp 4]) Tryz.results146 Tryz.ntmps146 ho ?_
 refine kf ?_
 first|with_reducible refine ks [] @zB_ ?_|refine kp @zB_ ?_
 by_cases he:e=0
 ·subst he
  first|with_reducible refine ks [] @zB_ ?_|refine kp @zB_ ?_
  refine Cw.loopG (G:=KN) [14,15,18,19,20,21,22,23,24,25,26,27,28,29,30,31,32,4,33,34,35,36,37,38,39,40,41,42,43,44,8,45,46,47,48,49,50,5,51,52,6,53,54,55,56,57,58,59,60,61,62,63,64,65,66,67,68,69,70,71,72,73,74,75,76,77,78,79,80,81,82,83,84,16,17,7] (fun g=> [(5,vi g.n),(6,vi (128^g.k:Nat)),(7,vi g.k)]) (fun g=> [(b, .cells #[vs s,vi a,vi 0] 217 (0,0))]) (fun g=>g.k≤6∧(g.k<6→ja_ most (s.drop a) 0 0=ja_ most (s.drop (a+g.k)) g.k g.n∧a+g.k≤s.length∧g.n<128^g.k)∧(g.k=6→ja_ most (s.drop a) 0 0= .error 4)) (fun g=>6 - g.k) ⟨0,0⟩ rfl rfl ?_ ?_
  ·exact⟨by simp,fun _=>⟨rfl,by simpa using ha,by simp⟩,fun h=>by cases h⟩
  intro g j hg
  refine kv ?_
  obtain⟨k,n⟩:=g
  simp only at hg ⊢
  obtain⟨hk6,hg1,hg2⟩:=hg
  by_cases hk:k<6
  ·obtain⟨hgo,hak,hn⟩:=hg1 hk
   first|with_reducible refine ks [] @zB_ ?_|refine kp @zB_ ?_
   refine Cw.regionS [b] [0,1,2,4,6,7,8,3,5,9,10,11] [] (by kernel_rfl) (by kernel_rfl) (by kernel_rfl) ?_
   simp only[zo_, ↓zi_, ↓zd_, ↓zz_, ↓zy_,ze_]
   refine kq @zB_ ?_
   try with_reducible refine Ow.nil ?_
   first|with_reducible refine ks [] @zB_ ?_|refine kp @zB_ ?_
   by_cases hend:a+k=s.length
   ·first|with_reducible refine ks [] @zB_ ?_|refine kp @zB_ ?_
    rw[vD_ (x:=3) rfl (by rw[hgo,hend,List.drop_length];rfl)]
    refine⟨_,_,_,(ke @zB_),rfl,trivial, ?_⟩
    exact⟨rfl,rfl⟩
   ·have hak':a+k<s.length:=by omega
    have hdrop:s.drop (a+k)=s.getD (a+k) 0::s.drop (a+k+1):=by
     rw[List.drop_eq_getElem_cons hak',List.getD_eq_getElem?_getD,List.getElem?_eq_getElem hak'];rfl
    rw[hdrop] at hgo
    first|with_reducible refine ks [] @zB_ ?_|refine kp @zB_ ?_
    refine Cw.regionS [b] [0,1,2,4,5,6,8,3,7,9,10,11,12] [] (by kernel_rfl) (by kernel_rfl) (by kernel_rfl) ?_
    simp only[zo_, ↓zi_, ↓zd_, ↓zz_, ↓zy_,ze_]
    have hcast: ((a:Int)+ (k:Int))=((a+k:Nat):Int):=by omega
    refine kq (And.intro @zB_ @hcast) ?_
    try with_reducible refine Ow.nil ?_
    generalize s.getD (a+k) 0=c at*
    have hp:128^k≤34359738368:=Nat.pow_le_pow_right (by omega) (show k≤5 by omega)
    have hp0:0<128^k:=Nat.pow_pos (by omega)
    have hcl:=c.toNat_lt
    have hdm:c.toNat%128*128^k≤127*128^k:=Nat.mul_le_mul_right _ (by omega)
    have hcm: ((c.toNat:Int)%128)=((c.toNat%128:Nat):Int):=by omega
    have hmul:zq_ .mul (vi ((c.toNat%128:Nat):Int)) (vi ((128^k:Nat):Int))=some (vi ((c.toNat%128*128^k:Nat):Int)):=by
     rw[aa2_ _ _ (by rw[←Int.natCast_mul];omega),←Int.natCast_mul]
    have hpow: (((128^k:Nat):Int)*128)=((128^ (k+1):Nat):Int):=by rw[Nat.pow_succ,Int.natCast_mul];rfl
    have hlt:n+c.toNat%128*128^k<128^ (k+1):=by rw[Nat.pow_succ];omega
    first|with_reducible refine ks [] (And.intro @zB_ (And.intro @hcm (And.intro @hmul (@hpow)))) ?_|refine kp (And.intro @zB_ (And.intro @hcm (And.intro @hmul (@hpow)))) ?_
    rw[show((n:Int)+ ((c.toNat%128*128^k:Nat):Int))=((n+c.toNat%128*128^k:Nat):Int) from(Int.natCast_add _ _).symm]
    by_cases hc128:128≤c.toNat
    ·first|with_reducible refine ks [] @zB_ ?_|refine kp @zB_ ?_
     refine Again.mk (KN.mk (k+1) (n+c.toNat%128*128^k)) (by show 6 - (k+1)<6 - k;omega) ⟨by show k+1≤6;omega,fun h=>⟨?_,by show a+ (k+1)≤s.length;omega,hlt⟩,fun h=> ?_⟩ rfl rfl
     ·show ja_ most (s.drop a) 0 0=ja_ most (s.drop (a+ (k+1))) (k+1) (n+c.toNat%128*128^k)
      have h':k+1<6:=h
      rw[hgo,ja_,if_pos hc128,if_neg (by omega)]
      rfl
     ·have h':k+1=6:=h
      rw[hgo,ja_,if_pos hc128,if_pos h']
    ·by_cases hz:c.toNat=0
     ·have e0: ((c.toNat:Int)==0)=true:=by simp[hz]
      first|with_reducible refine ks [] (And.intro @zB_ @e0) ?_|refine kp (And.intro @zB_ @e0) ?_
      by_cases hk0:0<k
      ·first|with_reducible refine ks [] @zB_ ?_|refine kp @zB_ ?_
       rw[vD_ (x:=2) rfl (by rw[hgo,ja_,if_neg hc128,if_pos ⟨hz,hk0⟩])]
       refine⟨_,_,_,(ke @zB_),rfl,trivial, ?_⟩
       exact⟨rfl,rfl⟩
      ·have hc0: ¬ (c.toNat=0∧0<k):=fun h=>hk0 h.2
       first|with_reducible refine ks [] @zB_ ?_|refine kp @zB_ ?_
       by_cases hm:n+c.toNat%128*128^k≤1099511627775
       ·have e1:decide ((1099511627775:Int)< ((n+c.toNat%128*128^k:Nat):Int))=false:=decide_eq_false (by omega)
        first|with_reducible refine ks [] (And.intro @zB_ @e1) ?_|refine kp (And.intro @zB_ @e1) ?_
        by_cases hmo: ((n+c.toNat%128*128^k:Nat):Int)≤most
        ·first|with_reducible refine ks [] @zB_ ?_|refine kp @zB_ ?_
         rw[aj1_ rfl (by rw[hgo,ja_,if_neg hc128,if_neg hc0,if_pos ⟨hm,hmo⟩])]
         refine⟨_,_,_,(ke @zB_),rfl,trivial, ?_⟩
         exact⟨rfl,rfl⟩
        ·first|with_reducible refine ks [] @zB_ ?_|refine kp @zB_ ?_
         rw[vD_ (x:=4) rfl (by rw[hgo,ja_,if_neg hc128,if_neg hc0,if_neg (fun h=>hmo h.2)])]
         refine⟨_,_,_,(ke @zB_),rfl,trivial, ?_⟩
         exact⟨rfl,rfl⟩
       ·have e1:decide ((1099511627775:Int)< ((n+c.toNat%128*128^k:Nat):Int))=true:=decide_eq_true (by omega)
        first|with_reducible refine ks [] (And.intro @zB_ @e1) ?_|refine kp (And.intro @zB_ @e1) ?_
        rw[vD_ (x:=4) rfl (by rw[hgo,ja_,if_neg hc128,if_neg hc0,if_neg (fun h=>hm h.1)])]
        refine⟨_,_,_,(ke @zB_),rfl,trivial, ?_⟩
        exact⟨rfl,rfl⟩
     ·have e0: ((c.toNat:Int)==0)=false:=by simp;omega
      have hc0: ¬ (c.toNat=0∧0<k):=fun h=>hz h.1
      first|with_reducible refine ks [] (And.intro @zB_ @e0) ?_|refine kp (And.intro @zB_ @e0) ?_
      by_cases hm:n+c.toNat%128*128^k≤1099511627775
      ·have e1:decide ((1099511627775:Int)< ((n+c.toNat%128*128^k:Nat):Int))=false:=decide_eq_false (by omega)
       first|with_reducible refine ks [] (And.intro @zB_ @e1) ?_|refine kp (And.intro @zB_ @e1) ?_
       by_cases hmo: ((n+c.toNat%128*128^k:Nat):Int)≤most
       ·first|with_reducible refine ks [] @zB_ ?_|refine kp @zB_ ?_
        rw[aj1_ rfl (by rw[hgo,ja_,if_neg hc128,if_neg hc0,if_pos ⟨hm,hmo⟩])]
        refine⟨_,_,_,(ke @zB_),rfl,trivial, ?_⟩
        exact⟨rfl,rfl⟩
       ·first|with_reducible refine ks [] @zB_ ?_|refine kp @zB_ ?_
        rw[vD_ (x:=4) rfl (by rw[hgo,ja_,if_neg hc128,if_neg hc0,if_neg (fun h=>hmo h.2)])]
        refine⟨_,_,_,(ke @zB_),rfl,trivial, ?_⟩
        exact⟨rfl,rfl⟩
      ·have e1:decide ((1099511627775:Int)< ((n+c.toNat%128*128^k:Nat):Int))=true:=decide_eq_true (by omega)
       first|with_reducible refine ks [] (And.intro @zB_ @e1) ?_|refine kp (And.intro @zB_ @e1) ?_
       rw[vD_ (x:=4) rfl (by rw[hgo,ja_,if_neg hc128,if_neg hc0,if_neg (fun h=>hm h.1)])]
       refine⟨_,_,_,(ke @zB_),rfl,trivial, ?_⟩
       exact⟨rfl,rfl⟩
  ·have hke:k=6:=by omega
   first|with_reducible refine ks [] @zB_ ?_|refine kp @zB_ ?_
   rw[vD_ (x:=4) rfl (hg2 hke)]
   refine⟨_,_,_,(ke @zB_),rfl,trivial, ?_⟩
   exact⟨rfl,rfl⟩
 ·first|with_reducible refine ks [] @zB_ ?_|refine kp @zB_ ?_
  unfold zD_
  refine⟨_,_,_,(ke @zB_),rfl,trivial, ?_⟩
  simp[he,vj_]
end Go.Proofs
end
section
open Go Go.Proofs Go.Sx
namespace Go.Proofs
set_option maxRecDepth 10000
set_option maxHeartbeats 4000000
set_option linter.unusedSimpArgs false
set_option linter.defProp false
def jq_:=And.intro (And.intro (And.intro (@zg_) (@kT_)) (And.intro (@vU_) (And.intro (@vE_) (@zf_)))) (And.intro (And.intro (@xX_) (@x1_)) (And.intro (@x5_) (And.intro (@xe_) (@xm_))))
theorem kS_ (b:Nat) (s:List UInt8) (a:Nat) (e most:Int) (w:World) (ha:a≤s.length) (hs:s.length<1099511627776) (ho:w.heap[b]? =some (.cells #[vs s,vi a,vi e] 217 (0,0))):
  Rets Tryz.prog 144 #[vp b 0,vi most] w (fun v D=> ∃o,D= [(b,o)]∧v=vs (zX_ s a e most).1∧o= .cells #[vs s,vi (zX_ s a e most).2.1,vi (zX_ s a e most).2.2] 217 (0,0)):=by
 refine Rets.enterM Tryz.func144 rfl (rs:= [.tmp 4]) Tryz.results144 Tryz.ntmps144 ho ?_
 refine kf ?_
 first|with_reducible refine ks [] @jq_ ?_|refine kp @jq_ ?_
 by_cases he:e=0
 ·first|with_reducible refine ks [] @jq_ ?_|refine kp @jq_ ?_
  have hp:=jh_ (e:=e) (most:=most) ha
  unfold zX_
  refine Ow.callM rfl rfl Tryz.call146 (by simp[keys]) (fun w' hw'=>xD_ b s a e most w' ha hs (hw'.has _ _ List.mem_cons_self)) ?_
  generalize zD_ s a e most=p at*
  obtain⟨n,a1,e1⟩:=p
  simp only at hp ⊢
  refine ko @jq_ ?_
  first|with_reducible refine ks [] @jq_ ?_|refine kp @jq_ ?_
  refine Ow.callM rfl rfl Tryz.call182 (by simp[keys]) (fun w' hw'=>Zu_ b s a1 e1 n w' hp.2 hs (hw'.has _ _ List.mem_cons_self)) ?_
  generalize jo_ s a1 e1 n=q at*
  obtain⟨t,a2,e2⟩:=q
  simp only
  refine ko @jq_ ?_
  first|with_reducible refine ks [] @jq_ ?_|refine kp @jq_ ?_
  by_cases he2:e2=0
  ·first|with_reducible refine ks [] @jq_ ?_|refine kp @jq_ ?_
   refine⟨_,_,_,(ke @jq_),rfl,trivial, ?_⟩
   simp[he2,vj_]
  ·first|with_reducible refine ks [] @jq_ ?_|refine kp @jq_ ?_
   refine⟨_,_,_,(ke @jq_),rfl,trivial, ?_⟩
   simp[he2,vj_]
 ·first|with_reducible refine ks [] @jq_ ?_|refine kp @jq_ ?_
  have:zX_ s a e most=([],a,e):=by
   unfold zX_ zD_ jo_
   simp[he]
  rw[this]
  refine⟨_,_,_,(ke @jq_),rfl,trivial, ?_⟩
  exact⟨rfl,rfl⟩
def WM_ (t:List UInt8) (g:Nat):List UInt8:=t.take g++List.replicate (32 - g) 0
theorem akc_ (t:List UInt8) (g:Nat) (h:g≤t.length) (h2:t.length≤32): (WM_ t g).length=32:=by
 unfold WM_;rw[List.length_append,List.length_take,List.length_replicate];omega
theorem ag2_ (t:List UInt8) (g:Nat) (h:g<t.length) (h2:t.length≤32): (WM_ t g).set g (t.getD g 0)=WM_ t (g+1):=by
 unfold WM_
 have hl: (t.take g).length=g:=by rw[List.length_take];omega
 obtain⟨m,hm⟩: ∃m,32 - g=m+1:=⟨31 - g,by omega⟩
 rw[hm,List.replicate_succ,List.set_append_right _ _ (by omega),hl,Nat.sub_self,List.set_cons_zero,List.take_succ_eq_append_getElem h,List.getD_eq_getElem?_getD,List.getElem?_eq_getElem h,show 32 - (g+1)=m by omega,List.append_assoc]
 rfl
theorem ahV_ (t:List UInt8) (h:t= []∨t.length=32):WM_ t t.length=(if t.length=32 then t else z32):=by
 unfold WM_
 rcases h with rfl|h
 ·rfl
 ·rw[if_pos h,h,List.take_of_length_le (by omega)];simp
theorem QW_ (b:Nat) (s:List UInt8) (a:Nat) (e:Int) (w:World) (ha:a≤s.length) (hs:s.length<1099511627776) (ho:w.heap[b]? =some (.cells #[vs s,vi a,vi e] 217 (0,0))):
  Rets Tryz.prog 147 #[vp b 0] w (fun v D=> ∃o,D= [(b,o)]∧v= .agg (a8 (idR s a e).1)∧o= .cells #[vs s,vi (idR s a e).2.1,vi (idR s a e).2.2] 217 (0,0)):=by
 have hbl:=(Array.getElem?_eq_some_iff.1 ho).1
 have hq:=ame_ (e:=e) ha
 unfold idR
 refine Rets.enterM Tryz.func147 rfl (rs:= [.cell 2 84]) Tryz.results147 Tryz.ntmps147 ho ?_
 refine kf ?_
 first|with_reducible refine ks [] @jq_ ?_|refine kp @jq_ ?_
 refine Ow.alloc rfl rfl Tryz.zr84 fun b2 hb2 hw2=> ?_
 obtain⟨h12,-⟩:=hb2
 refine ko @jq_ ?_
 first|with_reducible refine ks [] @jq_ ?_|refine kp @jq_ ?_
 refine Ow.callM rfl rfl Tryz.call182 (by simp[keys]) (fun w' hw'=>Zu_ b s a e 32 w' ha hs (hw'.has _ _ List.mem_cons_self)) ?_
 generalize jo_ s a e 32=q at*
 obtain⟨t,a2,e2⟩:=q
 simp only at hq ⊢
 have ht32:t.length≤32:=by rcases hq with rfl|h<;>simp_all
 refine ko @jq_ ?_
 first|with_reducible refine ks [] @jq_ ?_|refine kp @jq_ ?_
 refine Ow.alloc rfl rfl Tryz.zr84 fun b3 hb3 hw3=> ?_
 refine ko @jq_ ?_
 obtain⟨h13,h23,-⟩:=hb3
 rw[show a8 (List.replicate 32 0)=a8 (WM_ t 0) from rfl]
 first|with_reducible refine ks [] @jq_ ?_|refine kp @jq_ ?_
 refine Cw.loopG (G:=Nat) [8,9,10,11,14,15,16,17,18,12,13,5] (fun g=> [(5,vi g)]) (fun g=> [(b, .cells #[vs s,vi a2,vi e2] 217 (0,0)),(b2, .cells (a8 z32) 84 (0,0)),(b3, .cells (a8 (WM_ t g)) 84 (0,0))]) (fun g=>g≤t.length) (fun g=>t.length - g) 0 rfl rfl ?_ ?_
 ·omega
 intro g j hg
 refine kv ?_
 by_cases hlt:g<t.length
 ·have hil:=akc_ t g hg ht32
  first|with_reducible refine ks [] @jq_ ?_|refine kp @jq_ ?_
  refine Again.mk (g+1) (by omega) (by omega) ?_ rfl
  rw[ag2_ t g hlt ht32]
 ·obtain rfl:g=t.length:=by omega
  rw[ahV_ t hq]
  have hil: (if t.length=32 then t else z32).length=32:=by
   split
   ·assumption
   ·simp[z32]
  have hz32:z32.length=32:=by simp[z32]
  generalize (if t.length=32 then t else z32)=id at*
  first|with_reducible refine ks [] @jq_ ?_|refine kp @jq_ ?_
  refine⟨_,_,_,(ke @jq_),rfl,⟨hw2,hw3,trivial⟩, ?_⟩
  exact⟨rfl,rfl⟩
end Go.Proofs
end
section
open Go Go.Proofs Go.Sx Go.StP
namespace Go.Proofs
set_option maxRecDepth 10000
set_option maxHeartbeats 4000000
set_option linter.unusedSimpArgs false
structure EntL where
 name:List UInt8
 kind:Int
 id:IdL
def jR_ (r:EntL):List Value:= [vs r.name]++ ([vi r.kind]++ (r.id.l.map v8))
def xU_:EntL:=⟨[],0,id0⟩
theorem j5_ (r:EntL): (jR_ r).length=34:=by simp[jR_,r.id.h]
theorem qo_ (r:EntL):Value.cells (.agg (jR_ r).toArray)=(jR_ r).toArray:=zj_ _
theorem WO_ (r:EntL): (jR_ r).all Value.oneCell'=true:=by
 unfold jR_
 simp only[List.all_append,List.all_cons,List.all_nil,v5_,Bool.and_true,Bool.true_and]
 rfl
theorem alG_:zL_ Tryz.prog 221=some (.agg (jR_ xU_).toArray):=id (by kernel_rfl)
theorem ant_:zT_ Tryz.prog 221=some (true,34):=id (by kernel_rfl)
theorem XJ_ (r:EntL):jR_ r=([]:List Value)++ (([vs r.name])++ ([vi r.kind]++ (r.id.l.map v8))):=by
 unfold jR_;simp only[List.append_assoc,List.nil_append,List.append_nil]
theorem aqw_ (r:EntL):Sx.partV (false,1) (jR_ r).toArray 0=some (vs r.name):=by
 rw[XJ_];exact Qv_ _ _ _ (by simp)
theorem kg_ (r:EntL) (n:Nat) (E:TypeId) (fz:Nat×Nat):zk_ (some (false,n)) (some (.cells (jR_ r).toArray E fz)) 0=some (vs r.name):=by
 rw[XJ_];exact zK_ _ _ _ n E fz (by simp)
theorem WN_ {w:World} {v:Value} {l:List EntL} {b off:Nat} {arr:Array Value} {E:TypeId} {fz:Nat×Nat} (h:RowS 34 jR_ xU_ w v l b off arr E fz) {k:Nat} (hk:k<l.length) (n:Nat):zk_ (some (false,n)) (some (.cells arr E fz)) (off+k*34+0)=some (vs (l.getD k xU_).name):=by
 rw[RowS.cell h hk (by omega)];generalize l.getD k xU_=r;rw[XJ_];exact kI_ _ _ _ (by simp)
theorem VO_ (r:EntL) (x:List UInt8) (a:Bool) (E:TypeId):zn_ (some (a,1)) (some (.cells (jR_ r).toArray E (0,0))) 0 (vs x)=some (.cells (jR_ {r with name:=x}).toArray E (0,0)):=by
 rw[XJ_ r,XJ_ {r with name:=x}];exact zs_ _ _ _ _ a _ E (by simp) rfl (rfl) rfl (rfl)
theorem XU_ (r:EntL):jR_ r=(([vs r.name]))++ (([vi r.kind])++ (r.id.l.map v8)):=by
 unfold jR_;simp only[List.append_assoc,List.nil_append,List.append_nil]
theorem aqs_ (r:EntL):Sx.partV (false,1) (jR_ r).toArray 1=some (vi r.kind):=by
 rw[XU_];exact Qv_ _ _ _ (by simp)
theorem vt_ (r:EntL) (n:Nat) (E:TypeId) (fz:Nat×Nat):zk_ (some (false,n)) (some (.cells (jR_ r).toArray E fz)) 1=some (vi r.kind):=by
 rw[XU_];exact zK_ _ _ _ n E fz (by simp)
theorem afT_ {w:World} {v:Value} {l:List EntL} {b off:Nat} {arr:Array Value} {E:TypeId} {fz:Nat×Nat} (h:RowS 34 jR_ xU_ w v l b off arr E fz) {k:Nat} (hk:k<l.length) (n:Nat):zk_ (some (false,n)) (some (.cells arr E fz)) (off+k*34+1)=some (vi (l.getD k xU_).kind):=by
 rw[RowS.cell h hk (by omega)];generalize l.getD k xU_=r;rw[XU_];exact kI_ _ _ _ (by simp)
theorem VD_ (r:EntL) (x:Int) (a:Bool) (E:TypeId):zn_ (some (a,1)) (some (.cells (jR_ r).toArray E (0,0))) 1 (vi x)=some (.cells (jR_ {r with kind:=x}).toArray E (0,0)):=by
 rw[XU_ r,XU_ {r with kind:=x}];exact zs_ _ _ _ _ a _ E (by simp) rfl (rfl) rfl (rfl)
theorem X0_ (r:EntL):jR_ r=(([vs r.name])++ ([vi r.kind]))++ ((r.id.l.map v8)++ (([]:List Value))):=by
 unfold jR_;simp only[List.append_assoc,List.nil_append,List.append_nil]
theorem ap4_ (r:EntL):Sx.partV (true,32) (jR_ r).toArray 2=some (Value.agg (a8 r.id.l)):=by
 rw[X0_,alK_ _ _ _ (by simp) (by simp[r.id.h])];rfl
theorem vk_ (r:EntL) (E:TypeId) (fz:Nat×Nat):zk_ (some (true,32)) (some (.cells (jR_ r).toArray E fz)) 2=some (Value.agg (a8 r.id.l)):=by
 rw[X0_,v1_ _ _ _ E fz (by simp) (by simp[r.id.h])];rfl
theorem aqe_ (r:EntL): (jR_ r).toArray.extract 2 34=a8 r.id.l:=by
 rw[X0_];exact ac4_ (o:=2) (n:=32) _ _ _ (by simp) (by simp[r.id.h])
theorem alB_ {w:World} {v:Value} {l:List EntL} {b off:Nat} {arr:Array Value} {E:TypeId} {fz:Nat×Nat} (h:RowS 34 jR_ xU_ w v l b off arr E fz) {k:Nat} (hk:k<l.length):zk_ (some (true,32)) (some (.cells arr E fz)) (off+k*34+2)=some (Value.agg (a8 (l.getD k xU_).id.l)):=by
 rw[RowS.part h j5_ hk (by omega) (by omega),aqe_]
theorem Wd_ (r:EntL) (x:IdL) (a:Bool) (E:TypeId):zn_ (some (a,32)) (some (.cells (jR_ r).toArray E (0,0))) 2 (Value.agg (a8 x.l))=some (.cells (jR_ {r with id:=x}).toArray E (0,0)):=by
 rw[X0_ r,X0_ {r with id:=x}];exact zs_ _ _ _ _ a _ E (by simp) (by simp[r.id.h]) (zj_ _) (by simp[x.h]) (v5_ _)
theorem jj_ (r:EntL) (E:TypeId) (fz:Nat×Nat):zk_ (some (true,34)) (some (.cells (jR_ r).toArray E fz)) 0=some (.agg (jR_ r).toArray):=jP_ _ E fz 34 (by rw[List.size_toArray,j5_])
theorem ah5_ (old:Array Value) (r:EntL) (a:Bool) (E:TypeId) (h:old.size=34):zn_ (some (a,34)) (some (.cells old E (0,0))) 0 (.agg (jR_ r).toArray)=some (.cells (jR_ r).toArray E (0,0)):=q4_ _ a old E (j5_ r) (WO_ r) h
theorem qf_ (r r':EntL) (a:Bool) (E:TypeId):zn_ (some (a,34)) (some (.cells (jR_ r').toArray E (0,0))) 0 (.agg (jR_ r).toArray)=some (.cells (jR_ r).toArray E (0,0)):=ah5_ _ r a E (by rw[List.size_toArray,j5_])
theorem amT_:Tryz.prog.stoodInHeld 221=false:=by kernel_rfl
theorem amk_:Tryz.prog.eqGuardType Tryz.prog.depth 221=false:=by kernel_rfl
theorem aqD_ (r r':EntL):eqD Tryz.prog 8 221 (.agg (jR_ r).toArray) (.agg (jR_ r').toArray)=some ((r.name==r'.name)&& (r.kind==r'.kind)&& (r.id.l==r'.id.l)):=by
 have hs: ∀ (a b:List UInt8),eqD Tryz.prog 7 9 (vs a) (vs b)=some (a==b):=by
  intro a b;unfold eqD;rw[Tryz.underlying9];simp only[vs,Kk_]
 have hi: ∀ (a b:Int),eqD Tryz.prog 7 3 (vi a) (vi b)=some (a==b):=by
  intro a b;unfold eqD;rw[Tryz.underlying3];rfl
 have hd: ∀ (a b:IdL),eqD Tryz.prog 7 84 (.agg (a8 a.l)) (.agg (a8 b.l))=some (a.l==b.l):=fun a b=>afa_ (d:=5) Tryz.underlying84 Tryz.underlying5 Tryz.ag5 _ _ a.h b.h
 have ags:zT_ Tryz.prog 9=some (false,1):=id (by kernel_rfl)
 have agi:zT_ Tryz.prog 3=some (false,1):=id (by kernel_rfl)
 have agd:zT_ Tryz.prog 84=some (true,32):=id (by kernel_rfl)
 unfold eqD
 rw[Tryz.underlying221]
 simp only
 rw[amT_]
 simp only[Bool.false_eq_true, ↓reduceIte,xJ_,kl_,ags,agi,agd,aqw_,aqs_,ap4_,hs,hi,hd]
 cases(r.name==r'.name)<;>cases(r.kind==r'.kind)<;>cases(r.id.l==r'.id.l)<;>simp
theorem arP_ (r r':EntL):qE_ Tryz.prog .neq 221 (.agg (jR_ r).toArray) (.agg (jR_ r').toArray)=some (.bool (!((r.name==r'.name)&& (r.kind==r'.kind)&& (r.id.l==r'.id.l)))):=by
 unfold qE_ eqX;rw[amk_];simp[qe_,aqD_]
def cmpS (a b:List UInt8):Int:=if ltB a b then -1 else if ltB b a then 1 else 0
theorem apw_ (a b:List UInt8): (!(Op.bytesLess a b||a==b))=ltB b a:=by
 cases h:ltB a b
 ·have h':Op.bytesLess a b=false:=h
  rw[h',Bool.false_or]
  by_cases e:a=b
  ·subst e;rw[h];simp
  ·rw[Qb_ h e];simp[e]
 ·have h':Op.bytesLess a b=true:=h
  rw[h',abj_ h];rfl
set_option linter.defProp false
def au4_:=And.intro (@kg_) (@qo_)
def cmpE (a b:EntL):Int:=cmpS a.name b.name
end Go.Proofs
end
section
open Go Go.Proofs Go.Sx Go.StP
namespace Go.Proofs
set_option maxRecDepth 10000
set_option maxHeartbeats 4000000
set_option linter.unusedSimpArgs false
def swp {α:Type} (a x m y c:List α) (i:Nat):List α:=a++ ((y.take i++x.drop i)++ (m++ ((x.take i++y.drop i)++c)))
section
variable {α:Type} {a x m y c:List α} {i k:Nat} {z:α}
end
abbrev entO (rest:List Value) (d:List EntL):Obj:=j4_ jR_ 221 rest d
theorem vu_ {rest:List Value} {d:List EntL} (k:Nat) (hk:k<d.length):zk_ (some (true,34)) (some (entO rest d)) (k*34)=some (.agg (jR_ (d.getD k xU_)).toArray):=Ze_ (z:=xU_) j5_ k hk
theorem x7_ {rest:List Value} {d:List EntL} (k:Nat) (x:EntL) (a:Bool) (hk:k<d.length):zn_ (some (a,34)) (some (entO rest d)) (k*34) (.agg (jR_ x).toArray)=some (entO rest (d.set k x)):=ah8_ j5_ WO_ k x a hk
set_option linter.defProp false
def aun_:=And.intro (And.intro (@vu_) (@x7_)) (And.intro (@jj_) (And.intro (@qf_) (@qo_)))
structure RotG where
 A:List EntL
 U:List EntL
 V:List EntL
 B:List EntL
end Go.Proofs
end
section
open Go Go.Proofs Go.Sx Go.StP
namespace Go.Proofs
set_option maxRecDepth 10000
set_option maxHeartbeats 4000000
set_option linter.unusedSimpArgs false
abbrev ltE (a b:EntL):Bool:=StP.lt EntL.name a b
abbrev adf_ (l:List EntL):Prop:=StP.Sorted EntL.name l
abbrev StE (l l':List EntL):Prop:=StP.St EntL.name l l'
theorem aen_ (a b:EntL):decide (cmpE a b<0)=ltE a b:=by
 unfold cmpE cmpS ltE StP.lt
 cases h:ltB a.name b.name
 ·rw[if_neg (by simp)]
  split<;>rfl
 ·rw[if_pos rfl];rfl
structure InsG where
 S:List EntL
 R:List EntL
set_option linter.defProp false
def atB_:=And.intro (And.intro (@vu_) (And.intro (@x7_) (@jj_))) (And.intro (@qf_) (And.intro (@qo_) (@aen_)))
end Go.Proofs
end
section
open Go Go.Proofs Go.Sx Go.StP
namespace Go.Proofs
set_option maxRecDepth 10000
set_option maxHeartbeats 4000000
set_option linter.unusedSimpArgs false
theorem aaE_ (p q:Nat) (h:p+q<4611686018427387904):IntKind.wrap .i64 ((jU_ (UInt64.ofInt ((p:Int)+ (q:Int))) 1).toNat:Int)=(((p+q) / 2:Nat):Int):=by
 have e: (UInt64.ofInt ((p:Int)+ (q:Int))).toNat=p+q:=by
  have h2:UInt64.ofInt ((p:Int)+ (q:Int))=UInt64.ofNat (((p:Int)+ (q:Int))%2^64).toNat:=rfl
  rw[h2,UInt64.toNat_ofNat']
  omega
 have e2: (jU_ (UInt64.ofInt ((p:Int)+ (q:Int))) 1).toNat=(p+q) / 2:=by
  unfold jU_
  rw[e,UInt64.toNat_ofNat',Nat.pow_one]
  omega
 rw[e2,jz_ _ (by omega)]
structure BsG where
 i:Nat
 j:Nat
def asE_ (rb:Nat) (A X Y B:List EntL) (rest:List Value) (v:Value) (D:zc_):Prop:=
 ∃o,D= [(rb,o)]∧v= .tuple #[]∧ ∃Z,o=entO rest (A++ (Z++B))∧Z.length=X.length+Y.length∧adf_ Z∧StE (X++Y) Z
set_option linter.defProp false
def atY_:=And.intro (And.intro (@vu_) (And.intro (@x7_) (@jj_))) (And.intro (And.intro (@qf_) (@qo_)) (And.intro (@aen_) (@aaE_)))
end Go.Proofs
end
section
open Go Go.Proofs Go.Sx Go.StP
namespace Go.Proofs
set_option maxRecDepth 10000
set_option maxHeartbeats 4000000
set_option linter.unusedSimpArgs false
set_option linter.defProp false
def atU_:=And.intro (And.intro (@vu_) (And.intro (@x7_) (@jj_))) (And.intro (And.intro (@qf_) (@qo_)) (And.intro (@aen_) (@aaE_)))
end Go.Proofs
end
section
open Go Go.Proofs Go.Sx Go.StP
namespace Go.Proofs
set_option maxRecDepth 10000
set_option maxHeartbeats 4000000
set_option linter.unusedSimpArgs false
def Blks (k:Nat) (ls:List (List EntL)):Prop:= ∀x,x∈ls→x.length=k∧adf_ x
structure StG where
 k:Nat
 ls:List (List EntL)
 r:List EntL
structure StH where
 l2:List (List EntL)
 ls:List (List EntL)
end Go.Proofs
end
section
open Go Go.Proofs Go.Sx Go.StP
namespace Go.Proofs
set_option maxRecDepth 10000
set_option maxHeartbeats 4000000
set_option linter.unusedSimpArgs false
abbrev EntS (w:World) (v:Value) (l:List EntL):Prop:=SlV 34 jR_ xU_ w v l
structure ValG where
 k:Nat
 X:zc_
set_option linter.defProp false
def atM_:=And.intro (And.intro (@vu_) (@x7_)) (And.intro (@jj_) (And.intro (@qf_) (@qo_)))
end Go.Proofs
end
section
open Go Go.Proofs Go.Sx Go.StP
namespace Go.Proofs
set_option maxRecDepth 10000
set_option maxHeartbeats 4000000
set_option linter.unusedSimpArgs false
set_option linter.defProp false
def aue_:=And.intro (And.intro (@vu_) (@x7_)) (And.intro (@jj_) (And.intro (@qf_) (@qo_)))
end Go.Proofs
end
section
open Go Go.Proofs Go.Sx Go.StP
namespace Go.Proofs
set_option maxRecDepth 10000
set_option maxHeartbeats 4000000
set_option linter.unusedSimpArgs false
def SortOf (l Z:List EntL):Prop:=Z.length=l.length∧adf_ Z∧StE l Z
theorem SortOf.eq {l Z Z':List EntL} (h:SortOf l Z) (h':SortOf l Z'):Z=Z':=StP.St.eq h.2.1 h'.2.1 (h.2.2.symm.trans h'.2.2)
end Go.Proofs
end
section
open Go Go.Proofs Go.Sx
namespace Go.Proofs
set_option maxRecDepth 10000
set_option maxHeartbeats 4000000
set_option linter.unusedSimpArgs false
def badR (c:Int):Bool:=decide (c<33) ||decide (126<c) || (c==47)
def ZW_ (b:UInt8):Bool:=decide (b.toNat<33) ||decide (126<b.toNat) || (b.toNat==47)
theorem eqb (a b:Bool):qE_ Tryz.prog .eql 4 (.bool a) (.bool b)=some (.bool (a==b)):=by
 simp[qE_,eqX,qe_,qd_,Tryz.underlying4]
theorem Je_ (a:Value): (#[a]:Array Value)[0]? =some a:=(rfl)
set_option linter.defProp false
def jx_:=And.intro (And.intro (And.intro (@zg_) (And.intro (@kT_) (@vU_))) (And.intro (And.intro (@vE_) (@zf_)) (And.intro (@afn_) (@XH_)))) (And.intro (And.intro (And.intro (@Ke_) (@Xq_)) (And.intro (@aiU_) (@Je_))) (And.intro (And.intro (@Sx.tup3_0) (@Sx.tup3_1)) (And.intro (@Sx.tup3_2) (@eqb))))
theorem ams_ (l:List UInt8) (i:Nat) (h:i<l.length):badR ((Utf8.decode ⟨l.toArray⟩ i).1:Nat)=ZW_ (l.getD i 0)∧(ZW_ (l.getD i 0)=false→(Utf8.decode ⟨l.toArray⟩ i).2=1):=by
 obtain⟨h0,h1,h2⟩:=acT_ l i h
 by_cases hc: (l.getD i 0).toNat<128
 ·rw[h1 hc]
  refine⟨?_,fun _=>rfl⟩
  unfold badR ZW_
  congr 1
  ·congr 1
   ·apply decide_eq_decide.2;omega
   ·apply decide_eq_decide.2;omega
  ·rw[Bool.eq_iff_iff,beq_iff_eq,beq_iff_eq];omega
 ·have h2':=h2 (by omega)
  have hb:ZW_ (l.getD i 0)=true:=by
   unfold ZW_
   rw[decide_eq_true (show 126< (l.getD i 0).toNat by omega)];simp
  rw[hb]
  refine⟨?_,fun h=>by cases h⟩
  unfold badR
  rw[decide_eq_true (show(126:Int)< (((Utf8.decode ⟨l.toArray⟩ i).1:Nat):Int) by omega)];simp
theorem VC_ (s:List UInt8) (k:FuncId) (hk: ∀a w,(callFunc k a).run Tryz.prog w= .ok (.enter k a) w) (hc: ∀c w,Rets Tryz.prog k #[VM_ c] w (fun v D=>v= .bool (badR c)∧D= [])) (w:World) (hs:s.length<1099511627776):
  Rets Tryz.prog 191 #[vs s, .func (.func k) #[] #[], .bool true] w (fun v D=> ∃n:Int,v=vi n∧(0≤n↔s.any ZW_=true)∧D= []):=by
 refine Rets.mono (S:=fun v D=>(∃n:Int,v=vi n∧(0≤n↔s.any ZW_=true))∧D= []) ?_ (by rintro v D ⟨⟨n,h1,h2⟩,h3⟩;exact⟨n,h1,h2,h3⟩)
 refine Rets.enterV Tryz.func191 rfl (rs:= [.tmp 6]) Tryz.results191 Tryz.ntmps191 ?_
 refine kf ?_
 first|with_reducible refine ks [] @jx_ ?_|refine kp @jx_ ?_
 refine Ow.rangeText rfl rfl Tryz.underlying9 rfl fun b1 hb1 hw1=> ?_
 refine ko @jx_ ?_
 first|with_reducible refine ks [] @jx_ ?_|refine kp @jx_ ?_
 refine Cw.loopG (G:=Nat) [11,12,13,14,7,8,15,16,17,18,19,20,6] (fun g=> []) (fun g=> [(b1, .stringIter ⟨s.toArray⟩ g)]) (fun g=>g≤s.length∧ ∀i,i<g→ZW_ (s.getD i 0)=false) (fun g=>s.length - g) 0 rfl rfl ?_ ?_
 ·exact⟨by omega,fun i hi=>by omega⟩
 intro g j hg
 refine kv ?_
 obtain⟨hgL,hgood⟩:=hg
 by_cases hlt:g<s.length
 ·have hbr:=ams_ s g hlt
  first|with_reducible refine ks [] @jx_ ?_|refine kp @jx_ ?_
  refine Ow.nextText rfl rfl rfl (ky_ _ _ _) hlt ?_
  rw[ZO_]
  generalize hdd:Utf8.decode ⟨s.toArray⟩ g=dd at*
  obtain⟨c,n⟩:=dd
  simp only at hbr ⊢
  refine ko @jx_ ?_
  first|with_reducible refine ks [] @jx_ ?_|refine kp @jx_ ?_
  refine Ow.callFn1 (v:= .bool (badR c)) (k:=k) rfl rfl rfl hk (fun w' hw'=>hc _ w') ?_
  rw[hbr.1]
  refine ko @jx_ ?_
  cases hbb:ZW_ (s.getD g 0)
  ·first|with_reducible refine ks [] @jx_ ?_|refine kp @jx_ ?_
   refine Again.mk (g+1) (by omega) ⟨by omega,fun i hi=> ?_⟩ ?_ rfl
   ·by_cases hig:i=g
    ·rw[hig];exact hbb
    ·exact hgood i (by omega)
   ·rw[hbr.2 hbb]
  ·first|with_reducible refine ks [] @jx_ ?_|refine kp @jx_ ?_
   refine⟨_,(ke @jx_),⟨hw1,trivial⟩, ?_⟩
   refine⟨(g:Int),rfl,⟨fun _=> ?_,fun _=>by omega⟩⟩
   rw[List.any_eq_true]
   refine⟨s.getD g 0, ?_,hbb⟩
   rw[List.getD_eq_getElem?_getD,List.getElem?_eq_getElem hlt]
   exact List.getElem_mem hlt
 ·obtain rfl:g=s.length:=by omega
  first|with_reducible refine ks [] @jx_ ?_|refine kp @jx_ ?_
  refine Ow.nextOver rfl rfl rfl (ky_ _ _ _) hlt ?_
  refine ko @jx_ ?_
  first|with_reducible refine ks [] @jx_ ?_|refine kp @jx_ ?_
  refine⟨_,(ke @jx_),⟨hw1,trivial⟩, ?_⟩
  refine⟨-1,rfl,⟨fun h=>by omega,fun h=> ?_⟩⟩
  rw[List.any_eq_true] at h
  obtain⟨x,hx,hxb⟩:=h
  obtain⟨i,hi,rfl⟩:=List.getElem_of_mem hx
  have:=hgood i hi
  rw[List.getD_eq_getElem?_getD,List.getElem?_eq_getElem hi] at this
  exact absurd hxb (by simpa using this)
theorem Vs_ (s:List UInt8) (k:FuncId) (hk: ∀a w,(callFunc k a).run Tryz.prog w= .ok (.enter k a) w) (hc: ∀c w,Rets Tryz.prog k #[VM_ c] w (fun v D=>v= .bool (badR c)∧D= [])) (w:World) (hs:s.length<1099511627776):
  Rets Tryz.prog 160 #[vs s, .func (.func k) #[] #[]] w (fun v D=> ∃n:Int,v=vi n∧(0≤n↔s.any ZW_=true)∧D= []):=by
 refine Rets.mono (S:=fun v D=>(∃n:Int,v=vi n∧(0≤n↔s.any ZW_=true))∧D= []) ?_ (by rintro v D ⟨⟨n,h1,h2⟩,h3⟩;exact⟨n,h1,h2,h3⟩)
 refine Rets.enterV Tryz.func160 rfl (rs:= [.tmp 4]) Tryz.results160 Tryz.ntmps160 ?_
 refine kf ?_
 first|with_reducible refine ks [] @jx_ ?_|refine kp @jx_ ?_
 refine Ow.callF rfl rfl Tryz.call191 (S:=fun _ v D=> ∃n:Int,v=vi n∧(0≤n↔s.any ZW_=true)∧D= []) (fun w' hw'=>VC_ s k hk hc w' hs) ?_
 rintro B v D - - ⟨n,rfl,hn,rfl⟩
 refine⟨_,Mrg.nil, ?_⟩
 refine ko @jx_ ?_
 first|with_reducible refine ks [] @jx_ ?_|refine kp @jx_ ?_
 refine⟨_,(ke @jx_),trivial, ?_⟩
 exact⟨n,rfl,hn⟩
theorem Q3_ (s:List UInt8) (k:FuncId) (hk: ∀a w,(callFunc k a).run Tryz.prog w= .ok (.enter k a) w) (hc: ∀c w,Rets Tryz.prog k #[VM_ c] w (fun v D=>v= .bool (badR c)∧D= [])) (w:World) (hs:s.length<1099511627776):
  Rets Tryz.prog 118 #[vs s, .func (.func k) #[] #[]] w (fun v D=>v= .bool (s.any ZW_)∧D= []):=by
 refine Rets.enterV Tryz.func118 rfl (rs:= [.tmp 4]) Tryz.results118 Tryz.ntmps118 ?_
 refine kf ?_
 first|with_reducible refine ks [] @jx_ ?_|refine kp @jx_ ?_
 refine Ow.callF rfl rfl Tryz.call160 (S:=fun _ v D=> ∃n:Int,v=vi n∧(0≤n↔s.any ZW_=true)∧D= []) (fun w' hw'=>Vs_ s k hk hc w' hs) ?_
 rintro B v D - - ⟨n,rfl,hn,rfl⟩
 refine⟨_,Mrg.nil, ?_⟩
 refine ko @jx_ ?_
 first|with_reducible refine ks [] @jx_ ?_|refine kp @jx_ ?_
 refine⟨_,(ke @jx_),trivial, ?_⟩
 exact congrArg Value.bool (by rw[Bool.eq_iff_iff,decide_eq_true_eq];exact hn)
set_option linter.defProp false
def vK_:=And.intro (And.intro (@zg_) (@kT_)) (And.intro (@vU_) (And.intro (@vE_) (@zf_)))
def agu_ (s:List UInt8):Bool:= !(s== [])&&decide (s.length≤32)&& !(s.any ZW_)
theorem aka_ (c:UInt8):ZW_ c=(decide (c<33) ||decide (126<c) || (c==47)):=by
 unfold ZW_
 congr 1
 rw[Bool.eq_iff_iff,beq_iff_eq,beq_iff_eq,←UInt8.toNat_inj];rfl
theorem aa6_ (s:List UInt8) (w:World) (hs:s.length<1099511627776):
  Rets Tryz.prog 183 #[vs s] w (fun v D=>v= .bool (agu_ s)∧D= []):=by
 refine Rets.enterV Tryz.func183 rfl (rs:= [.tmp 2]) Tryz.results183 Tryz.ntmps183 ?_
 refine kf ?_
 first|with_reducible refine ks [] @vK_ ?_|refine kp @vK_ ?_
 refine Cw.loopG (G:=Nat) [4,5,6,7,10,11,12,13,14,15,16,17,18,19,20,21,22,23,24,25,2,8,9,3] (fun g=> [(3,vi g)]) (fun g=> []) (fun g=>g≤s.length∧ ∀i,i<g→ZW_ (s.getD i 0)=false) (fun g=>s.length - g) 0 rfl rfl ?_ ?_
 ·exact⟨by omega,fun i hi=>by omega⟩
 intro g j hg
 refine kv ?_
 obtain⟨hgL,hgood⟩:=hg
 by_cases hlt:g<s.length
 ·have hb:=aka_ (s.getD g 0)
  have hbad:ZW_ (s.getD g 0)=true→agu_ s=false:=by
   intro h
   have:s.any ZW_=true:=List.any_eq_true.2 ⟨s.getD g 0,by rw[List.getD_eq_getElem?_getD,List.getElem?_eq_getElem hlt];exact List.getElem_mem hlt,h⟩
   unfold agu_
   rw[this];simp
  have hgo:ZW_ (s.getD g 0)=false→ ∀i,i<g+1→ZW_ (s.getD i 0)=false:=fun h i hi=>by
   by_cases hig:i=g
   ·rw[hig];exact h
   ·exact hgood i (by omega)
  generalize hc:s.getD g 0=c at*
  cases h1:decide (c<33)
  ·cases h2:decide (126<c)
   ·cases h3: (c==47)
    ·first|with_reducible refine ks [] (And.intro @vK_ (And.intro @hc (And.intro @h1 (And.intro @h2 (@h3))))) ?_|refine kp (And.intro @vK_ (And.intro @hc (And.intro @h1 (And.intro @h2 (@h3))))) ?_
     refine Again.mk (g+1) (by omega) ⟨by omega,hgo (by rw[hb,h1,h2,h3];rfl)⟩ rfl rfl
    ·first|with_reducible refine ks [] (And.intro @vK_ (And.intro @hc (And.intro @h1 (And.intro @h2 (@h3))))) ?_|refine kp (And.intro @vK_ (And.intro @hc (And.intro @h1 (And.intro @h2 (@h3))))) ?_
     rw[hbad (by rw[hb,h1,h2,h3];rfl)]
     refine⟨_,(ke @vK_),trivial, ?_⟩
     rfl
   ·first|with_reducible refine ks [] (And.intro @vK_ (And.intro @hc (And.intro @h1 (@h2)))) ?_|refine kp (And.intro @vK_ (And.intro @hc (And.intro @h1 (@h2)))) ?_
    rw[hbad (by rw[hb,h1,h2];rfl)]
    refine⟨_,(ke @vK_),trivial, ?_⟩
    rfl
  ·first|with_reducible refine ks [] (And.intro @vK_ (And.intro @hc (@h1))) ?_|refine kp (And.intro @vK_ (And.intro @hc (@h1))) ?_
   rw[hbad (by rw[hb,h1];simp)]
   refine⟨_,(ke @vK_),trivial, ?_⟩
   rfl
 ·obtain rfl:g=s.length:=by omega
  have hany:s.any ZW_=false:=by
   rw[List.any_eq_false]
   intro x hx
   obtain⟨i,hi,rfl⟩:=List.getElem_of_mem hx
   have:=hgood i hi
   rw[List.getD_eq_getElem?_getD,List.getElem?_eq_getElem hi] at this
   simpa using this
  unfold agu_
  rw[hany]
  cases h1:decide (1≤ (s.length:Int))
  ·have e0: (s== [])=true:=by
    have:=of_decide_eq_false h1
    rw[List.eq_nil_of_length_eq_zero (show s.length=0 by omega)];rfl
   first|with_reducible refine ks [] (And.intro @vK_ @h1) ?_|refine kp (And.intro @vK_ @h1) ?_
   refine⟨_,(ke @vK_),trivial, ?_⟩
   simp only[vj_,e0,Bool.not_true,Bool.false_and]
  ·have e0: (s== [])=false:=by
    have:=of_decide_eq_true h1
    cases s with
    |nil=>simp at this
    |cons x r=>rfl
   have e1:decide ((s.length:Int)≤32)=decide (s.length≤32):=decide_eq_decide.2 (by omega)
   first|with_reducible refine ks [] (And.intro @vK_ @h1) ?_|refine kp (And.intro @vK_ @h1) ?_
   refine⟨_,(ke @vK_),trivial, ?_⟩
   simp only[vj_,e0,e1,Bool.not_false,Bool.true_and,Bool.and_true]
end Go.Proofs
end
section
open Go Go.Proofs Go.Sx Go.StP
namespace Go.Proofs
set_option maxRecDepth 10000
set_option maxHeartbeats 4000000
set_option linter.unusedSimpArgs false
def wd_ (l:List EntL) (i:Nat):Bool:=
 agu_ (l.getD i xU_).name&& ((l.getD i xU_).kind==1|| (l.getD i xU_).kind==2)&& (i==0||ltB (l.getD (i - 1) xU_).name (l.getD i xU_).name)
def vm_ (l:List EntL):Bool:=decide (l.length≤32)&& (List.range l.length).all (wd_ l)
theorem ZR_ {l:List EntL} {k:Nat} (hk:k<l.length) (h:wd_ l k=false):vm_ l=false:=by
 unfold vm_
 have: (List.range l.length).all (wd_ l)=false:=by
  rw[List.all_eq_false]
  exact⟨k,List.mem_range.2 hk,by simp[h]⟩
 rw[this,Bool.and_false]
theorem ahf_ {l:List EntL} (h: ∀i,i<l.length→wd_ l i=true):vm_ l=decide (l.length≤32):=by
 unfold vm_
 have: (List.range l.length).all (wd_ l)=true:=List.all_eq_true.2 fun i hi=>h i (List.mem_range.1 hi)
 rw[this,Bool.and_true]
set_option linter.defProp false
def atR_:=And.intro (And.intro (And.intro (@kg_) (@vt_)) (And.intro (@vk_) (@jj_))) (And.intro (And.intro (@qf_) (@qo_)) (And.intro (@zg_) (@zf_)))
def afc_ (l:List EntL):Prop:= ∀i,i<l.length→(l.getD i xU_).name.length<1099511627776
end Go.Proofs
end
section
open Go Go.Proofs Go.Sx Go.StP
namespace Go.Proofs
set_option maxRecDepth 10000
set_option maxHeartbeats 4000000
set_option linter.unusedSimpArgs false
set_option linter.defProp false
def k7_:=And.intro (And.intro (And.intro (@kg_) (@vt_)) (And.intro (@vk_) (@jj_))) (And.intro (And.intro (@qf_) (@qo_)) (And.intro (@zg_) (@zf_)))
theorem aiZ_ (a b:List UInt8): (Op.bytesLess a b||a==b)= !ltB b a:=by rw[←apw_,Bool.not_not]
theorem Vq_ (v:Value) (l:List EntL) (w:World) (hv:EntS w v l) (hl:l.length<1000000) (hsh:afc_ l):
  Rets Tryz.prog 148 #[v] w (fun v' D=>v'= .bool (vm_ l)∧D= []):=by
 obtain⟨b,off,arr,E,fz,hr⟩:=hv.row
 have ln:=hv.len
 refine Rets.enterV Tryz.func148 rfl (rs:= [.tmp 2]) Tryz.results148 Tryz.ntmps148 ?_
 refine kf ?_
 by_cases h32:32<l.length
 ·first|with_reducible refine ks [] (And.intro @k7_ @ln) ?_|refine kp (And.intro @k7_ @ln) ?_
  have:vm_ l=false:=by unfold vm_;rw[decide_eq_false (by omega),Bool.false_and]
  rw[this]
  refine⟨_,(ke @k7_),trivial, ?_⟩
  rfl
 ·first|with_reducible refine ks [] (And.intro @k7_ @ln) ?_|refine kp (And.intro @k7_ @ln) ?_
  refine Cw.loopG (G:=Nat) [7,8,9,10,13,14,15,16,17,18,19,20,21,22,23,24,25,26,27,28,29,30,31,32,33,34,35,2,36,37,38,39,40,41,42,43,44,45,46,47,48,49,50,51,11,12,3] (fun g=> [(3,vi g)]) (fun g=> []) (fun g=>g≤l.length∧ ∀i,i<g→wd_ l i=true) (fun g=>l.length - g) 0 rfl rfl ?_ ?_
  ·exact⟨Nat.zero_le _,fun i hi=>absurd hi (Nat.not_lt_zero i)⟩
  ·intro k jk hk
   refine kv ?_
   obtain⟨h1,h2⟩:=hk
   by_cases hk:k<l.length
   ·have h0:0<l.length:=by omega
    have hbl:=hr.lt h0
    have r2:=hr.has h0
    have i2:=hr.idx true k hk
    have m0: ∀n,zk_ (some (false,n)) (some (.cells arr E fz)) (off+k*34)=some (vs (l.getD k xU_).name):=fun n=>WN_ hr hk n
    have m1: ∀n,zk_ (some (false,n)) (some (.cells arr E fz)) (off+k*34+1)=some (vi (l.getD k xU_).kind):=fun n=>afT_ hr hk n
    have hs:=hsh k hk
    first|with_reducible refine ks [] (And.intro @k7_ (And.intro @ln (And.intro @r2 (And.intro @i2 (And.intro @m0 (@m1)))))) ?_|refine kp (And.intro @k7_ (And.intro @ln (And.intro @r2 (And.intro @i2 (And.intro @m0 (@m1)))))) ?_
    refine Ow.callFV rfl Tryz.call183 (fun w' hw'=>aa6_ (l.getD k xU_).name w' hs) ?_
    cases hn:agu_ (l.getD k xU_).name
    ·have e0:wd_ l k=false:=by unfold wd_;rw[hn];rfl
     rw[ZR_ hk e0]
     refine ko @k7_ ?_
     refine⟨_,(ke @k7_),trivial, ?_⟩
     rfl
    ·cases hk1:decide ((l.getD k xU_).kind<1)
     ·cases hk2:decide (2< (l.getD k xU_).kind)
      ·have hkk: ((l.getD k xU_).kind==1|| (l.getD k xU_).kind==2)=true:=by
        have q1:=of_decide_eq_false hk1
        have q2:=of_decide_eq_false hk2
        rcases(show(l.getD k xU_).kind=1∨(l.getD k xU_).kind=2 by omega) with h|h<;>rw[h]<;>rfl
       refine ko (And.intro @k7_ (And.intro @r2 (And.intro @i2 (And.intro @m0 (And.intro @m1 (And.intro @hk1 (@hk2))))))) ?_
       by_cases h0k:k=0
       ·have d1:decide ((0:Int)< (k:Int))=false:=decide_eq_false (by omega)
        have e1:wd_ l k=true:=by unfold wd_;rw[hn,hkk,h0k];rfl
        refine Cw.regionS [b] [0,1,2,3,4,5,6,8,9,10,11,12,7,13,14,15] [] (by kernel_rfl) (by kernel_rfl) (by kernel_rfl) ?_
        simp only[zo_, ↓zi_, ↓zd_, ↓zz_, ↓zy_,ze_]
        refine kq (And.intro @k7_ @d1) ?_
        exact Again.mk (k+1) (by omega) ⟨by omega,fun i hi=>by
         rcases Nat.lt_succ_iff_lt_or_eq.1 hi with h|rfl
         ·exact h2 i h
         ·exact e1⟩ rfl rfl
       ·have d1:decide ((0:Int)< (k:Int))=true:=decide_eq_true (by omega)
        have i3:zO_ (.sl (true,34)) v (some ((k:Int) - 1))=some (vp b (off+ (k - 1)*34)):=by
         rw[show(k:Int) - 1=((k - 1:Nat):Int) by omega];exact hr.idx true (k - 1) (by omega)
        have l3: ∀n,zk_ (some (false,n)) (some (.cells arr E fz)) (off+ (k - 1)*34)=some (vs (l.getD (k - 1) xU_).name):=fun n=>WN_ hr (show k - 1<l.length by omega) n
        have ek: (k==0)=false:=beq_eq_false_iff_ne.2 h0k
        cases hl3:ltB (l.getD (k - 1) xU_).name (l.getD k xU_).name
        ·have e1:wd_ l k=false:=by unfold wd_;rw[hn,hkk,ek];exact hl3
         rw[ZR_ hk e1]
         refine Cw.regionS [b] [0,1,2,3,4,5,6,8,9,10,11,12,7,13,14,15] [] (by kernel_rfl) (by kernel_rfl) (by kernel_rfl) ?_
         simp only[zo_, ↓zi_, ↓zd_, ↓zz_, ↓zy_,ze_]
         refine kq (And.intro @k7_ (And.intro @d1 (And.intro @i2 (And.intro @i3 (And.intro @r2 (And.intro @m0 (And.intro @l3 (And.intro @aiZ_ (@hl3))))))))) ?_
         refine⟨_,(ke @k7_),trivial, ?_⟩
         rfl
        ·have e1:wd_ l k=true:=by unfold wd_;rw[hn,hkk,ek];exact hl3
         refine Cw.regionS [b] [0,1,2,3,4,5,6,8,9,10,11,12,7,13,14,15] [] (by kernel_rfl) (by kernel_rfl) (by kernel_rfl) ?_
         simp only[zo_, ↓zi_, ↓zd_, ↓zz_, ↓zy_,ze_]
         refine kq (And.intro @k7_ (And.intro @d1 (And.intro @i2 (And.intro @i3 (And.intro @r2 (And.intro @m0 (And.intro @l3 (And.intro @aiZ_ (@hl3))))))))) ?_
         exact Again.mk (k+1) (by omega) ⟨by omega,fun i hi=>by
          rcases Nat.lt_succ_iff_lt_or_eq.1 hi with h|rfl
          ·exact h2 i h
          ·exact e1⟩ rfl rfl
      ·have e0:wd_ l k=false:=by
        have q2:=of_decide_eq_true hk2
        unfold wd_
        rw[hn,show((l.getD k xU_).kind==1)=false from beq_eq_false_iff_ne.2 (by omega),show((l.getD k xU_).kind==2)=false from beq_eq_false_iff_ne.2 (by omega)];rfl
       rw[ZR_ hk e0]
       refine ko (And.intro @k7_ (And.intro @r2 (And.intro @i2 (And.intro @m0 (And.intro @m1 (And.intro @hk1 (@hk2))))))) ?_
       refine⟨_,(ke @k7_),trivial, ?_⟩
       rfl
     ·have e0:wd_ l k=false:=by
       have q2:=of_decide_eq_true hk1
       unfold wd_
       rw[hn,show((l.getD k xU_).kind==1)=false from beq_eq_false_iff_ne.2 (by omega),show((l.getD k xU_).kind==2)=false from beq_eq_false_iff_ne.2 (by omega)];rfl
      rw[ZR_ hk e0]
      refine ko (And.intro @k7_ (And.intro @r2 (And.intro @i2 (And.intro @m0 (And.intro @m1 (@hk1)))))) ?_
      refine⟨_,(ke @k7_),trivial, ?_⟩
      rfl
   ·obtain rfl:k=l.length:=by omega
    rw[ahf_ h2,show decide (l.length≤32)=true from decide_eq_true (by omega)]
    first|with_reducible refine ks [] (And.intro @k7_ @ln) ?_|refine kp (And.intro @k7_ @ln) ?_
    refine⟨_,(ke @k7_),trivial, ?_⟩
    rfl
end Go.Proofs
end
section
open Go Go.Proofs Go.Sx Go.StP
namespace Go.Proofs
set_option maxRecDepth 10000
set_option maxHeartbeats 4000000
set_option linter.unusedSimpArgs false
theorem wU_ (x:IdL): (JO_ x).length=32:=by simp[JO_,x.h]
theorem aaw_ (x:IdL): (JO_ x).all Value.oneCell'=true:=v5_ _
abbrev IdS (w:World) (v:Value) (l:List IdL):Prop:=SlV 32 JO_ id0 w v l
theorem aj2_ {w:World} {v:Value} {l:List IdL} {b off:Nat} {arr:Array Value} {E:TypeId} {fz:Nat×Nat} (h:RowS 32 JO_ id0 w v l b off arr E fz) {k:Nat} (hk:k<l.length):
  zk_ (some (true,32)) (some (.cells arr E fz)) (off+k*32)=some (.agg (a8 (l.getD k id0).l)):=RowS.load h wU_ (by omega) hk
theorem aht_ (a b:IdL):qE_ Tryz.prog .eql 84 (.agg (a8 a.l)) (.agg (a8 b.l))=some (.bool (a.l==b.l)):=
 aov_ Tryz.underlying84 Tryz.underlying5 Tryz.ag5 (by kernel_rfl) a.l b.l ⟨a.h,b.h⟩
theorem al1_ (a b:IdL):qE_ Tryz.prog .neq 84 (.agg (a8 a.l)) (.agg (a8 b.l))=some (.bool (!(a.l==b.l))):=
 alb_ Tryz.underlying84 Tryz.underlying5 Tryz.ag5 (by kernel_rfl) a.l b.l ⟨a.h,b.h⟩
instance:DecidableEq IdL:=fun a b=>if h:a.l=b.l then .isTrue (by cases a;cases b;simp only at h;subst h;rfl) else .isFalse (fun e=>h (by rw[e]))
theorem IdL.ext' {a b:IdL} (h:a.l=b.l):a=b:=by cases a;cases b;simp only at h;subst h;rfl
def idxG (x:IdL):List IdL→Nat→Int
 | [],_=> -1
 |y::r,i=>if x.l==y.l then(i:Int) else idxG x r (i+1)
theorem xB_ (x:IdL) (E:TypeId) (fz:Nat×Nat):zk_ (some (true,32)) (some (.cells (a8 x.l) E fz)) 0=some (.agg (a8 x.l)):=KE_ _ E fz 32 x.h
set_option linter.defProp false
def auV_:=And.intro (And.intro (@aht_) (@al1_)) (And.intro (@xB_) (And.intro (@zg_) (@zf_)))
end Go.Proofs
end
section
open Go Go.Proofs Go.Sx Go.StP
namespace Go.Proofs
set_option maxRecDepth 100000
set_option maxHeartbeats 400000
set_option linter.unusedSimpArgs false
structure RwL where
 id:IdL
 place:Int
 spot:Int
def rwC (r:RwL):List Value:=r.id.l.map v8++ ([vi r.place]++ ([vi r.spot]))
def rw0:RwL:=⟨id0,0,0⟩
theorem aeS_ (r:RwL): (rwC r).length=34:=by simp[rwC,r.id.h]
theorem x3_ (r:RwL):Value.cells (.agg (rwC r).toArray)=(rwC r).toArray:=zj_ _
theorem aoL_ (r:RwL): (rwC r).all Value.oneCell'=true:=by
 unfold rwC
 simp only[List.all_append,List.all_cons,List.all_nil,v5_,Bool.and_true,Bool.true_and]
 rfl
theorem aq0_ (r:RwL):rwC r=([]:List Value)++ ((r.id.l.map v8)++ ([vi r.place]++ ([vi r.spot]))):=by
 unfold rwC;simp only[List.append_assoc,List.nil_append,List.append_nil]
theorem JJ_ (r:RwL) (E:TypeId) (fz:Nat×Nat):zk_ (some (true,32)) (some (.cells (rwC r).toArray E fz)) 0=some (Value.agg (a8 r.id.l)):=by
 rw[aq0_,v1_ _ _ _ E fz (by simp) (by simp[r.id.h])];rfl
theorem aiR_ (r:RwL):rwC r=((r.id.l.map v8))++ (([vi r.place])++ ([vi r.spot])):=by
 unfold rwC;simp only[List.append_assoc,List.nil_append,List.append_nil]
theorem JZ_ (r:RwL) (n:Nat) (E:TypeId) (fz:Nat×Nat):zk_ (some (false,n)) (some (.cells (rwC r).toArray E fz)) 32=some (vi r.place):=by
 rw[aiR_];exact zK_ _ _ _ n E fz (by simp[r.id.h])
theorem ahW_ (r:RwL) (x:Int) (a:Bool) (E:TypeId):zn_ (some (a,1)) (some (.cells (rwC r).toArray E (0,0))) 32 (vi x)=some (.cells (rwC {r with place:=x}).toArray E (0,0)):=by
 rw[aiR_ r,aiR_ {r with place:=x}];exact zs_ _ _ _ _ a _ E (by simp[r.id.h]) rfl (rfl) rfl (rfl)
theorem akI_ (r:RwL):rwC r=((r.id.l.map v8)++ ([vi r.place]))++ (([vi r.spot])++ (([]:List Value))):=by
 unfold rwC;simp only[List.append_assoc,List.nil_append,List.append_nil]
theorem JA_ (r:RwL) (n:Nat) (E:TypeId) (fz:Nat×Nat):zk_ (some (false,n)) (some (.cells (rwC r).toArray E fz)) 33=some (vi r.spot):=by
 rw[akI_];exact zK_ _ _ _ n E fz (by simp[r.id.h])
theorem aiv_ (r:RwL) (x:Int) (a:Bool) (E:TypeId):zn_ (some (a,1)) (some (.cells (rwC r).toArray E (0,0))) 33 (vi x)=some (.cells (rwC {r with spot:=x}).toArray E (0,0)):=by
 rw[akI_ r,akI_ {r with spot:=x}];exact zs_ _ _ _ _ a _ E (by simp[r.id.h]) rfl (rfl) rfl (rfl)
theorem wL_ (r:RwL) (E:TypeId) (fz:Nat×Nat):zk_ (some (true,34)) (some (.cells (rwC r).toArray E fz)) 0=some (.agg (rwC r).toArray):=jP_ _ E fz 34 (by rw[List.size_toArray,aeS_])
theorem amh_ (old:Array Value) (r:RwL) (a:Bool) (E:TypeId) (h:old.size=34):zn_ (some (a,34)) (some (.cells old E (0,0))) 0 (.agg (rwC r).toArray)=some (.cells (rwC r).toArray E (0,0)):=q4_ _ a old E (aeS_ r) (aoL_ r) h
theorem xG_ (r r':RwL) (a:Bool) (E:TypeId):zn_ (some (a,34)) (some (.cells (rwC r').toArray E (0,0))) 0 (.agg (rwC r).toArray)=some (.cells (rwC r).toArray E (0,0)):=amh_ _ r a E (by rw[List.size_toArray,aeS_])
def ar5_ (arr:Array Value) (off:Nat) (l:List UInt8):Prop:= ∀j,j<l.length→arr[off+j]? =some (v8 (l.getD j 0))
def cmpI (x y:IdL):Int:=cmpS x.l y.l
set_option linter.defProp false
def au1_:=And.intro (@zg_) (And.intro (@zf_) (@x3_))
def afo_ (a b:RwL):Int:=cmpS a.id.l b.id.l
end Go.Proofs
end
section
open Go Go.Proofs Go.Sx Go.StP
namespace Go.Proofs
set_option maxRecDepth 10000
set_option maxHeartbeats 4000000
set_option linter.unusedSimpArgs false
set_option linter.defProp false
def atk_:=And.intro (@wL_) (And.intro (@xG_) (@x3_))
structure rws_RotG where
 A:List RwL
 U:List RwL
 V:List RwL
 B:List RwL
end Go.Proofs
end
section
open Go Go.Proofs Go.Sx Go.StP
namespace Go.Proofs
set_option maxRecDepth 10000
set_option maxHeartbeats 4000000
set_option linter.unusedSimpArgs false
abbrev ajl_ (a b:RwL):Bool:=StP.lt (fun r:RwL=>r.id.l) a b
abbrev KJ_ (l:List RwL):Prop:=StP.Sorted (fun r:RwL=>r.id.l) l
abbrev aoN_ (l l':List RwL):Prop:=StP.St (fun r:RwL=>r.id.l) l l'
theorem ZF_ (a b:RwL):decide (afo_ a b<0)=ajl_ a b:=by
 unfold afo_ cmpS ajl_ StP.lt
 cases h:ltB a.id.l b.id.l
 ·rw[if_neg (by simp)]
  split<;>rfl
 ·rw[if_pos rfl];rfl
structure rws_InsG where
 S:List RwL
 R:List RwL
set_option linter.defProp false
def aug_:=And.intro (And.intro (@wL_) (@xG_)) (And.intro (@x3_) (@ZF_))
end Go.Proofs
end
section
open Go Go.Proofs Go.Sx Go.StP
namespace Go.Proofs
set_option maxRecDepth 10000
set_option maxHeartbeats 4000000
set_option linter.unusedSimpArgs false
set_option linter.defProp false
def at8_:=And.intro (And.intro (@wL_) (@xG_)) (And.intro (@x3_) (And.intro (@ZF_) (@aaE_)))
end Go.Proofs
end
section
open Go Go.Proofs Go.Sx Go.StP
namespace Go.Proofs
set_option maxRecDepth 10000
set_option maxHeartbeats 4000000
set_option linter.unusedSimpArgs false
set_option linter.defProp false
def auk_:=And.intro (And.intro (@wL_) (@xG_)) (And.intro (@x3_) (And.intro (@ZF_) (@aaE_)))
end Go.Proofs
end
section
open Go Go.Proofs Go.Sx Go.StP
namespace Go.Proofs
set_option maxRecDepth 10000
set_option maxHeartbeats 4000000
set_option linter.unusedSimpArgs false
def arv_ (k:Nat) (ls:List (List RwL)):Prop:= ∀x,x∈ls→x.length=k∧KJ_ x
structure rws_StG where
 k:Nat
 ls:List (List RwL)
 r:List RwL
structure rws_StH where
 l2:List (List RwL)
 ls:List (List RwL)
end Go.Proofs
end
section
open Go Go.Proofs Go.Sx Go.StP
namespace Go.Proofs
set_option maxRecDepth 10000
set_option maxHeartbeats 4000000
set_option linter.unusedSimpArgs false
def rws_SortOf (l Z:List RwL):Prop:=Z.length=l.length∧KJ_ Z∧aoN_ l Z
theorem rws_SortOf.eq {l Z Z':List RwL} (h:rws_SortOf l Z) (h':rws_SortOf l Z'):Z=Z':=StP.St.eq h.2.1 h'.2.1 (h.2.2.symm.trans h'.2.2)
end Go.Proofs
end
section
open Go Go.Proofs Go.Sx Go.StP
namespace Go.Proofs
set_option maxRecDepth 10000
set_option maxHeartbeats 1000000
set_option linter.unusedSimpArgs false
abbrev RwSl (w:World) (v:Value) (l:List RwL):Prop:=SlV 34 rwC rw0 w v l
def asz_ (r:RwL):Bool:= !(decide (r.place<0))&& !(decide (1099511627775<r.place))&& !(decide (r.spot<0))&& !(decide (1099511627775<r.spot))
def okTo (l:List RwL):Nat→Bool
 |0=>true
 |k+1=>okTo l k&& (decide (k=0) ||decide (cmpI (l.getD (k - 1) rw0).id (l.getD k rw0).id<0))&&asz_ (l.getD k rw0)
def asA_ (i:IdL):Nat:=(i.l.getD 0 0).toNat / 16
def fanV (l:List RwL) (d:Nat):Nat:=l.countP fun r=>decide (asA_ r.id≤d)
def fanL (l:List RwL):List Nat:=(List.range 16).map (fanV l)
def fanM (l:List RwL) (r:RwL) (g:Nat):List Nat:=(List.range 16).map fun j=>if j<g then fanV (l++ [r]) j else fanV l j
set_option linter.defProp false
def at9_:=And.intro (@zg_) (@zf_)
end Go.Proofs
end
section
open Go Go.Proofs Go.Sx Go.StP
namespace Go.Proofs
set_option maxRecDepth 10000
set_option maxHeartbeats 1000000
set_option linter.unusedSimpArgs false
structure OfG where
 k:Nat
 DG:zc_
set_option linter.defProp false
def avd_:=And.intro (And.intro (And.intro (@zg_) (@zf_)) (And.intro (@x3_) (And.intro (@wL_) (@JJ_)))) (And.intro (And.intro (@JZ_) (@JA_)) (And.intro (@xG_) (And.intro (@Sx.tup2_0) (@Sx.tup2_1))))
end Go.Proofs
end
section
open Go Go.Proofs Go.Sx Go.StP
namespace Go.Proofs
set_option maxRecDepth 10000
set_option maxHeartbeats 4000000
set_option linter.unusedSimpArgs false
structure ComL where
 tree:IdL
 par:List IdL
 text:List UInt8
def jd_ (t:IdL) (p:Value) (x:List UInt8):List Value:=t.l.map v8++ ([p]++ [vs x])
theorem Zb_ (t:IdL) (p:Value) (x:List UInt8): (jd_ t p x).length=34:=by simp[jd_,t.h]
theorem anc_ (t:IdL) (p:Value) (x:List UInt8) (hp:Value.oneCell' p=true): (jd_ t p x).all Value.oneCell'=true:=by
 unfold jd_
 simp only[List.all_append,List.all_cons,List.all_nil,v5_,hp,Bool.and_true,Bool.true_and]
 rfl
theorem ks_ (t:IdL) (p:Value) (x:List UInt8):Value.cells (.agg (jd_ t p x).toArray)=(jd_ t p x).toArray:=zj_ _
theorem wH_ (t:IdL) (p:Value) (x:List UInt8) (E:TypeId) (fz:Nat×Nat):zk_ (some (true,32)) (some (.cells (jd_ t p x).toArray E fz)) 0=some (.agg (a8 t.l)):=by
 unfold jd_;exact v1_ [] _ _ E fz rfl (by simp[t.h])
theorem wJ_ (t:IdL) (p:Value) (x:List UInt8) (n:Nat) (E:TypeId) (fz:Nat×Nat):zk_ (some (false,n)) (some (.cells (jd_ t p x).toArray E fz)) 32=some p:=by
 unfold jd_;exact zK_ _ _ p n E fz (by simp[t.h])
theorem wW_ (t:IdL) (p:Value) (x:List UInt8) (n:Nat) (E:TypeId) (fz:Nat×Nat):zk_ (some (false,n)) (some (.cells (jd_ t p x).toArray E fz)) 33=some (vs x):=by
 have e:jd_ t p x=(t.l.map v8++ [p])++ ([vs x]++ []):=by unfold jd_;simp only[List.append_assoc,List.append_nil]
 rw[e];exact zK_ _ _ (vs x) n E fz (by simp[t.h])
theorem ZU_ (t:IdL) (p:Value) (x:List UInt8) (E:TypeId) (fz:Nat×Nat):zk_ (some (true,34)) (some (.cells (jd_ t p x).toArray E fz)) 0=some (.agg (jd_ t p x).toArray):=jP_ _ E fz 34 (by rw[List.size_toArray,Zb_])
theorem Kz_ (old:Array Value) (t:IdL) (p:Value) (x:List UInt8) (a:Bool) (E:TypeId) (h:old.size=34) (hp:Value.oneCell' p=true):zn_ (some (a,34)) (some (.cells old E (0,0))) 0 (.agg (jd_ t p x).toArray)=some (.cells (jd_ t p x).toArray E (0,0)):=q4_ _ a old E (Zb_ t p x) (anc_ t p x hp) h
def K3_ (l:List IdL) (i:Nat):Bool:= !((l.take i).any fun y=>(l.getD i id0).l==y.l)
def ZI_ (c:ComL):Bool:=(decide (c.par.length≤4)&&decide (c.text.length≤64))&& (List.range c.par.length).all (K3_ c.par)
theorem amD_ {c:ComL} {k:Nat} (hk:k<c.par.length) (h:K3_ c.par k=false):ZI_ c=false:=by
 unfold ZI_
 have: (List.range c.par.length).all (K3_ c.par)=false:=by
  rw[List.all_eq_false]
  exact⟨k,List.mem_range.2 hk,by simp[h]⟩
 rw[this,Bool.and_false]
theorem akA_ {c:ComL} (h: ∀i,i<c.par.length→K3_ c.par i=true):ZI_ c=(decide (c.par.length≤4)&&decide (c.text.length≤64)):=by
 unfold ZI_
 have: (List.range c.par.length).all (K3_ c.par)=true:=List.all_eq_true.2 fun i hi=>h i (List.mem_range.1 hi)
 rw[this,Bool.and_true]
abbrev ComS (w:World) (v:Value) (c:ComL):Prop:= ∃p,v= .agg (jd_ c.tree p c.text).toArray∧IdS w p c.par
theorem SlV.one {α:Type} {m:Nat} {enc:α→List Value} {z:α} {w:World} {v:Value} {l:List α} (h:SlV m enc z w v l):Value.oneCell' v=true∧v.cells= #[v]:=by
 obtain⟨b,off,c,arr,E,fz,-,-,⟨rfl,-,-⟩ | ⟨rfl,-,-⟩⟩:=h<;>exact⟨rfl,rfl⟩
set_option linter.defProp false
def auh_:=And.intro (And.intro (And.intro (@aht_) (@al1_)) (And.intro (@xB_) (And.intro (@zg_) (@zf_)))) (And.intro (And.intro (@wH_) (@wJ_)) (And.intro (@wW_) (And.intro (@ZU_) (@ks_))))
end Go.Proofs
end
section
open Go Go.Proofs Go.Sx Go.StP
namespace Go.Proofs
set_option maxRecDepth 10000
set_option maxHeartbeats 4000000
set_option linter.unusedSimpArgs false
set_option linter.defProp false
def xI_:=And.intro (And.intro (And.intro (@aht_) (@al1_)) (And.intro (@xB_) (And.intro (@zg_) (@zf_)))) (And.intro (And.intro (@wH_) (@wJ_)) (And.intro (@wW_) (And.intro (@ZU_) (@ks_))))
theorem amF_ {l:List IdL} {k:Nat} {x:IdL} (hk:k<l.length) (h: ((l.take k).any fun y=>x.l==y.l)=false) (h2: (x.l==(l.getD k id0).l)=false): ((l.take (k+1)).any fun y=>x.l==y.l)=false:=by
 rw[take_snoc (z:=id0) hk,List.any_append,h,Bool.false_or,List.any_cons,h2];rfl
theorem ao8_ {l:List IdL} {k i:Nat} {x:IdL} (hk:k<l.length) (hi:k<i) (h2: (x.l==(l.getD k id0).l)=true): ((l.take i).any fun y=>x.l==y.l)=true:=by
 rw[List.any_eq_true]
 refine⟨l.getD k id0, ?_,h2⟩
 rw[←ajk_ (l:=l) (z:=id0) hi]
 exact xp_ (by rw[List.length_take];omega)
theorem Jy_ (v:Value) (c:ComL) (w:World) (hv:ComS w v c) (hl:c.par.length<1000000) (ht:c.text.length<1099511627776):
  Rets Tryz.prog 150 #[v] w (fun v' D=>v'= .bool (ZI_ c)∧D= []):=by
 obtain⟨p,rfl,hp⟩:=hv
 obtain⟨b,off,arr,E,fz,hr⟩:=hp.row
 have ln:=hp.len
 refine Rets.enterV Tryz.func150 rfl (rs:= [.tmp 2]) Tryz.results150 Tryz.ntmps150 ?_
 refine kf ?_
 first|with_reducible refine ks [] @xI_ ?_|refine kp @xI_ ?_
 refine Ow.box rfl rfl fun bx hbx hwx=> ?_
 simp only[qv_,qu_,qA_,zj_,List.nil_append,List.cons_append]
 refine Ow.go rfl ?_
 simp(disch:=(first|assumption|omega| (simp only[KC_,XQ_,UInt64.reduceToNat];try omega))) only[↓Sx.S0,Sx.S1,Tryz.fx,xI_,Nat.reduceAdd,Nat.reducePow,Int.reducePow,Nat.reduceBEq, ↓reduceIte,UInt8.reduceToNat,UInt16.reduceToNat,UInt32.reduceToNat,UInt64.reduceToNat,Int.reduceToNat]
 by_cases h4:4<c.par.length
 ·have d1:decide (4< ((c.par.length:Nat):Int))=true:=decide_eq_true (by omega)
  first|with_reducible refine ks [] (And.intro @xI_ (And.intro @ln (@d1))) ?_|refine kp (And.intro @xI_ (And.intro @ln (@d1))) ?_
  have:ZI_ c=false:=by unfold ZI_;rw[show decide (c.par.length≤4)=false from decide_eq_false (by omega)];rfl
  rw[this]
  refine⟨_,(ke @xI_),⟨hwx,trivial⟩, ?_⟩
  rfl
 have d1:decide (4< ((c.par.length:Nat):Int))=false:=decide_eq_false (by omega)
 by_cases h64:64<c.text.length
 ·have d2:decide (64< ((c.text.length:Nat):Int))=true:=decide_eq_true (by omega)
  first|with_reducible refine ks [] (And.intro @xI_ (And.intro @ln (And.intro @d1 (@d2)))) ?_|refine kp (And.intro @xI_ (And.intro @ln (And.intro @d1 (@d2)))) ?_
  have:ZI_ c=false:=by unfold ZI_;rw[show decide (c.text.length≤64)=false from decide_eq_false (by omega),Bool.and_false];rfl
  rw[this]
  refine⟨_,(ke @xI_),⟨hwx,trivial⟩, ?_⟩
  rfl
 have d2:decide (64< ((c.text.length:Nat):Int))=false:=decide_eq_false (by omega)
 first|with_reducible refine ks [] (And.intro @xI_ (And.intro @ln (And.intro @d1 (@d2)))) ?_|refine kp (And.intro @xI_ (And.intro @ln (And.intro @d1 (@d2)))) ?_
 refine Cw.loopG (G:=Nat) [15,16,17,18,19,4,22,23,24,27,28,29,30,31,32,33,34,35,36,37,2,25,26,20,21,3] (fun g=> [(3,vi g)]) (fun g=> [(bx, .cells (jd_ c.tree p c.text).toArray 172 (0,0))]) (fun g=>g≤c.par.length∧ ∀i,i<g→K3_ c.par i=true) (fun g=>c.par.length - g) 0 rfl rfl ?_ ?_
 ·exact⟨Nat.zero_le _,fun i hi=>absurd hi (Nat.not_lt_zero i)⟩
 ·intro i ji hi
  refine kv ?_
  obtain⟨h1,h2⟩:=hi
  by_cases hi:i<c.par.length
  ·have h0:0<c.par.length:=by omega
   have hbl:=hr.lt h0
   have hnb:bx≠b:=by omega
   have r2:=hr.has h0
   have i2:=hr.idx true i hi
   have l2:=aj2_ hr hi
   first|with_reducible refine ks [] (And.intro @xI_ @ln) ?_|refine kp (And.intro @xI_ @ln) ?_
   refine Cw.loopG (G:=Nat) [22,23,24,27,28,29,30,31,32,33,34,35,36,37,2,25,26,4] (fun g=> [(4,vi g)]) (fun g=> [(bx, .cells (jd_ c.tree p c.text).toArray 172 (0,0))]) (fun g=>g≤i∧((c.par.take g).any fun y=>(c.par.getD i id0).l==y.l)=false) (fun g=>i - g) 0 rfl rfl ?_ ?_
   ·exact⟨Nat.zero_le _,rfl⟩
   ·intro k jk hk
    refine kv ?_
    obtain⟨g1,g2⟩:=hk
    by_cases hk:k<i
    ·have i3:=hr.idx true k (show k<c.par.length by omega)
     have l3:=aj2_ hr (show k<c.par.length by omega)
     first|with_reducible refine ks [] @xI_ ?_|refine kp @xI_ ?_
     refine Cw.regionS [bx,b] [0,2,5,7,1,3,4,6,8,9,10] [] (by kernel_rfl) (by kernel_rfl) (by kernel_rfl) ?_
     simp only[zo_, ↓zi_, ↓zd_, ↓zz_, ↓zy_,ze_]
     refine kq (And.intro @xI_ (And.intro @i2 (And.intro @r2 (And.intro @l2 (And.intro @i3 (@l3)))))) ?_
     cases hq: ((c.par.getD i id0).l==(c.par.getD k id0).l)
     ·first|with_reducible refine ks [] (And.intro @xI_ @hq) ?_|refine kp (And.intro @xI_ @hq) ?_
      exact Again.mk (k+1) (by omega) ⟨by omega,amF_ (by omega) g2 hq⟩ rfl rfl
     ·have e1:K3_ c.par i=false:=by unfold K3_;rw[ao8_ (by omega) hk hq];rfl
      rw[amD_ hi e1]
      first|with_reducible refine ks [] (And.intro @xI_ @hq) ?_|refine kp (And.intro @xI_ @hq) ?_
      refine⟨_,(ke @xI_),⟨hwx,trivial⟩, ?_⟩
      rfl
    ·obtain rfl:k=i:=by omega
     have e1:K3_ c.par k=true:=by unfold K3_;rw[g2];rfl
     first|with_reducible refine ks [] @xI_ ?_|refine kp @xI_ ?_
     exact Again.mk (k+1) (by omega) ⟨by omega,fun i hi=>by
      rcases Nat.lt_succ_iff_lt_or_eq.1 hi with h|rfl
      ·exact h2 i h
      ·exact e1⟩ rfl rfl
  ·obtain rfl:i=c.par.length:=by omega
   rw[akA_ h2,show decide (c.par.length≤4)=true from decide_eq_true (by omega),show decide (c.text.length≤64)=true from decide_eq_true (by omega)]
   first|with_reducible refine ks [] (And.intro @xI_ @ln) ?_|refine kp (And.intro @xI_ @ln) ?_
   refine⟨_,(ke @xI_),⟨hwx,trivial⟩, ?_⟩
   rfl
def auy_ (a b:ComL):Bool:=(a.tree.l==b.tree.l)&& (a.text==b.text)&&decide (a.par=b.par)
end Go.Proofs
end
section
open Go Go.Proofs Go.Sx
namespace Go.Proofs
set_option maxRecDepth 10000
set_option maxHeartbeats 4000000
set_option linter.unusedSimpArgs false
theorem vv_ {n:Nat} (h:n<1099511627776):q8_ (n:Int)=n:=by unfold q8_ maxN;omega
theorem wy_: ∀ (k:Nat) (n:Int) (w:World),q8_ n≤k→
  Rets Tryz.prog 184 #[vi n] w (fun v D=>v=vs (KL_ (q8_ n))∧D= []):=by
 intro k
 induction k using Nat.strongRecOn with
 |ind k ih=>
  intro n w hk
  refine Rets.enterV Tryz.func184 rfl (rs:= [.tmp 2]) Tryz.results184 Tryz.ntmps184 ?_
  refine kf ?_
  by_cases h0:n<0
  ·have d1:decide (n<0)=true:=decide_eq_true h0
   have e:q8_ n=0:=by unfold q8_ maxN;omega
   rw[e]
   first|with_reducible refine ks [] @d1 ?_|refine kp @d1 ?_
   refine Ow.buildSlice (e:=5) #[v8 0] rfl rfl (by kernel_rfl) fun b1 hb1 hw1=> ?_
   rw[show(#[v8 0]:Array Value)=a8 [0] from rfl]
   refine ko @Nat.add_zero ?_
   first|with_reducible refine ks [] @Nat.add_zero ?_|refine kp @Nat.add_zero ?_
   refine⟨_,(ke @Nat.add_zero),⟨hw1,trivial⟩, ?_⟩
   rw[vg_ (by omega)];rfl
  ·have d1:decide (n<0)=false:=decide_eq_false h0
   generalize hm:q8_ n=m at hk ⊢
   have hm2:m≤1099511627775:=by unfold q8_ maxN at hm;omega
   by_cases h1:n>1099511627775
   ·have d2:decide (1099511627775<n)=true:=decide_eq_true h1
    have e: (1099511627775:Int)=(m:Int):=by unfold q8_ maxN at hm;omega
    first|with_reducible refine ks [5] (And.intro @d1 @d2) ?_|refine kp (And.intro @d1 @d2) ?_
    rw[e]
    by_cases h2:m<128
    ·have d3:decide ((m:Int)<128)=true:=decide_eq_true (by omega)
     rw[vg_ h2]
     first|with_reducible refine ks [] (And.intro @d1 @d3) ?_|refine kp (And.intro @d1 @d3) ?_
     generalize hc:UInt8.ofInt (m:Int)=c
     have hc':c=UInt8.ofNat m:=by rw[←hc,JP_]
     refine Ow.buildSlice (e:=5) #[v8 c] rfl rfl (by kernel_rfl) fun b1 hb1 hw1=> ?_
     rw[show(#[v8 c]:Array Value)=a8 [c] from rfl]
     have e4:List.take 1 (List.drop 0 [c])= [c]:=rfl
     refine ko @e4 ?_
     first|with_reducible refine ks [] @Nat.add_zero ?_|refine kp @Nat.add_zero ?_
     refine⟨_,(ke @Nat.add_zero),⟨hw1,trivial⟩, ?_⟩
     rw[hc'];rfl
    ·have d3:decide ((m:Int)<128)=false:=decide_eq_false (by omega)
     have ih2:=fun w=>ih (m / 128) (by omega) ((m / 128:Nat):Int) w (by rw[vv_ (by omega)];omega)
     rw[vv_ (by omega)] at ih2
     have hl2:=vR_ 6 (m / 128) (by omega) (by omega)
     rw[JL_ h2]
     first|with_reducible refine ks [] (And.intro @d1 @d3) ?_|refine kp (And.intro @d1 @d3) ?_
     refine Cw.regionK 11 (by kernel_rfl) (by kernel_rfl) ?_
     refine OwK.run [0,1,2,3,6,7] [true,true,true,true,false,false,true,true,false,false,false] 5 rfl (by kernel_rfl) (by kernel_rfl) fun k hk=> ?_
     simp only[zo_, ↓zi_, ↓zd_, ↓zz_, ↓zy_,ze_]
     simp(disch:=(first|assumption|omega| (simp only[KC_,XQ_,UInt64.reduceToNat];try omega))) only[↓Sx.S0,Sx.S1,Tryz.fx,Nat.reduceAdd,Nat.reducePow,Int.reducePow,Nat.reduceBEq, ↓reduceIte,UInt8.reduceToNat,UInt16.reduceToNat,UInt32.reduceToNat,UInt64.reduceToNat,Int.reduceToNat]
     (with_reducible refine hk _ _ _ ?_);clear hk k
     generalize hc:UInt8.ofInt ((m:Int)%128+128)=c
     have hc':c=UInt8.ofNat (m%128+128):=by rw[←hc,show((m:Int)%128+128)=((m%128+128:Nat):Int) from rfl,JP_]
     rw[show(m:Int) / 128=((m / 128:Nat):Int) from rfl]
     refine OwK.two 4 8 _ _ (by kernel_rfl) rfl rfl ?_ ?_
     ·refine Ow.buildSlice (e:=5) #[v8 c] rfl rfl (by kernel_rfl) fun b1 hb1 hw1=> ?_
      rw[show(#[v8 c]:Array Value)=a8 [c] from rfl]
      have e4:List.take 1 (List.drop 0 [c])= [c]:=rfl
      refine ko @e4 ?_
      try with_reducible refine Ow.nil ?_
      refine OwK.two 5 8 _ _ (by kernel_rfl) rfl rfl ?_ ?_
      ·refine ko @e4 ?_
       refine OwK.rest [8,9,10] [4,8] rfl (by kernel_rfl) (by kernel_rfl) ?_
       simp only[zo_, ↓zi_, ↓zd_, ↓zz_, ↓zy_,ze_]
       refine Ow.callFV rfl Tryz.call184 (fun w' hw'=>ih2 w') ?_
       refine ko @Nat.add_zero ?_
       first|with_reducible refine ks [] @Nat.add_zero ?_|refine kp @Nat.add_zero ?_
       refine⟨_,(ke @Nat.add_zero),⟨hw1,trivial⟩, ?_⟩
       rw[hc'];rfl
      ·refine Ow.callFV rfl Tryz.call184 (fun w' hw'=>ih2 w') ?_
       refine ko @Nat.add_zero ?_
       refine OwK.rest [5,9,10] [4,8] rfl (by kernel_rfl) (by kernel_rfl) ?_
       simp only[zo_, ↓zi_, ↓zd_, ↓zz_, ↓zy_,ze_]
       refine ko @e4 ?_
       first|with_reducible refine ks [] @Nat.add_zero ?_|refine kp @Nat.add_zero ?_
       refine⟨_,(ke @Nat.add_zero),⟨hw1,trivial⟩, ?_⟩
       rw[hc'];rfl
     ·refine Ow.callFV rfl Tryz.call184 (fun w' hw'=>ih2 w') ?_
      refine ko @Nat.add_zero ?_
      refine OwK.rest [4,5,9,10] [4,8] rfl (by kernel_rfl) (by kernel_rfl) ?_
      simp only[zo_, ↓zi_, ↓zd_, ↓zz_, ↓zy_,ze_]
      refine Ow.buildSlice (e:=5) #[v8 c] rfl rfl (by kernel_rfl) fun b1 hb1 hw1=> ?_
      rw[show(#[v8 c]:Array Value)=a8 [c] from rfl]
      have e4:List.take 1 (List.drop 0 [c])= [c]:=rfl
      refine ko @e4 ?_
      first|with_reducible refine ks [] @Nat.add_zero ?_|refine kp @Nat.add_zero ?_
      refine⟨_,(ke @Nat.add_zero),⟨hw1,trivial⟩, ?_⟩
      rw[hc'];rfl
   ·have d2:decide (1099511627775<n)=false:=decide_eq_false h1
    have e:n=(m:Int):=by unfold q8_ maxN at hm;omega
    subst e
    first|with_reducible refine ks [5] (And.intro @d1 @d2) ?_|refine kp (And.intro @d1 @d2) ?_
    by_cases h2:m<128
    ·have d3:decide ((m:Int)<128)=true:=decide_eq_true (by omega)
     rw[vg_ h2]
     first|with_reducible refine ks [] (And.intro @d1 @d3) ?_|refine kp (And.intro @d1 @d3) ?_
     generalize hc:UInt8.ofInt (m:Int)=c
     have hc':c=UInt8.ofNat m:=by rw[←hc,JP_]
     refine Ow.buildSlice (e:=5) #[v8 c] rfl rfl (by kernel_rfl) fun b1 hb1 hw1=> ?_
     rw[show(#[v8 c]:Array Value)=a8 [c] from rfl]
     have e4:List.take 1 (List.drop 0 [c])= [c]:=rfl
     refine ko @e4 ?_
     first|with_reducible refine ks [] @Nat.add_zero ?_|refine kp @Nat.add_zero ?_
     refine⟨_,(ke @Nat.add_zero),⟨hw1,trivial⟩, ?_⟩
     rw[hc'];rfl
    ·have d3:decide ((m:Int)<128)=false:=decide_eq_false (by omega)
     have ih2:=fun w=>ih (m / 128) (by omega) ((m / 128:Nat):Int) w (by rw[vv_ (by omega)];omega)
     rw[vv_ (by omega)] at ih2
     have hl2:=vR_ 6 (m / 128) (by omega) (by omega)
     rw[JL_ h2]
     first|with_reducible refine ks [] (And.intro @d1 @d3) ?_|refine kp (And.intro @d1 @d3) ?_
     refine Cw.regionK 11 (by kernel_rfl) (by kernel_rfl) ?_
     refine OwK.run [0,1,2,3,6,7] [true,true,true,true,false,false,true,true,false,false,false] 5 rfl (by kernel_rfl) (by kernel_rfl) fun k hk=> ?_
     simp only[zo_, ↓zi_, ↓zd_, ↓zz_, ↓zy_,ze_]
     simp(disch:=(first|assumption|omega| (simp only[KC_,XQ_,UInt64.reduceToNat];try omega))) only[↓Sx.S0,Sx.S1,Tryz.fx,Nat.reduceAdd,Nat.reducePow,Int.reducePow,Nat.reduceBEq, ↓reduceIte,UInt8.reduceToNat,UInt16.reduceToNat,UInt32.reduceToNat,UInt64.reduceToNat,Int.reduceToNat]
     (with_reducible refine hk _ _ _ ?_);clear hk k
     generalize hc:UInt8.ofInt ((m:Int)%128+128)=c
     have hc':c=UInt8.ofNat (m%128+128):=by rw[←hc,show((m:Int)%128+128)=((m%128+128:Nat):Int) from rfl,JP_]
     rw[show(m:Int) / 128=((m / 128:Nat):Int) from rfl]
     refine OwK.two 4 8 _ _ (by kernel_rfl) rfl rfl ?_ ?_
     ·refine Ow.buildSlice (e:=5) #[v8 c] rfl rfl (by kernel_rfl) fun b1 hb1 hw1=> ?_
      rw[show(#[v8 c]:Array Value)=a8 [c] from rfl]
      have e4:List.take 1 (List.drop 0 [c])= [c]:=rfl
      refine ko @e4 ?_
      try with_reducible refine Ow.nil ?_
      refine OwK.two 5 8 _ _ (by kernel_rfl) rfl rfl ?_ ?_
      ·refine ko @e4 ?_
       refine OwK.rest [8,9,10] [4,8] rfl (by kernel_rfl) (by kernel_rfl) ?_
       simp only[zo_, ↓zi_, ↓zd_, ↓zz_, ↓zy_,ze_]
       refine Ow.callFV rfl Tryz.call184 (fun w' hw'=>ih2 w') ?_
       refine ko @Nat.add_zero ?_
       first|with_reducible refine ks [] @Nat.add_zero ?_|refine kp @Nat.add_zero ?_
       refine⟨_,(ke @Nat.add_zero),⟨hw1,trivial⟩, ?_⟩
       rw[hc'];rfl
      ·refine Ow.callFV rfl Tryz.call184 (fun w' hw'=>ih2 w') ?_
       refine ko @Nat.add_zero ?_
       refine OwK.rest [5,9,10] [4,8] rfl (by kernel_rfl) (by kernel_rfl) ?_
       simp only[zo_, ↓zi_, ↓zd_, ↓zz_, ↓zy_,ze_]
       refine ko @e4 ?_
       first|with_reducible refine ks [] @Nat.add_zero ?_|refine kp @Nat.add_zero ?_
       refine⟨_,(ke @Nat.add_zero),⟨hw1,trivial⟩, ?_⟩
       rw[hc'];rfl
     ·refine Ow.callFV rfl Tryz.call184 (fun w' hw'=>ih2 w') ?_
      refine ko @Nat.add_zero ?_
      refine OwK.rest [4,5,9,10] [4,8] rfl (by kernel_rfl) (by kernel_rfl) ?_
      simp only[zo_, ↓zi_, ↓zd_, ↓zz_, ↓zy_,ze_]
      refine Ow.buildSlice (e:=5) #[v8 c] rfl rfl (by kernel_rfl) fun b1 hb1 hw1=> ?_
      rw[show(#[v8 c]:Array Value)=a8 [c] from rfl]
      have e4:List.take 1 (List.drop 0 [c])= [c]:=rfl
      refine ko @e4 ?_
      first|with_reducible refine ks [] @Nat.add_zero ?_|refine kp @Nat.add_zero ?_
      refine⟨_,(ke @Nat.add_zero),⟨hw1,trivial⟩, ?_⟩
      rw[hc'];rfl
theorem vb_ (s:List UInt8) (w:World) (hs:s.length<1099511627776):
  Rets Tryz.prog 154 #[vs s] w (fun v D=>v=vs (QQ_ s)∧D= []):=by
 have hnl:=je_ (s.length:Int)
 refine Rets.enterV Tryz.func154 rfl (rs:= [.tmp 2]) Tryz.results154 Tryz.ntmps154 ?_
 refine kf ?_
 first|with_reducible refine ks [] @Nat.add_zero ?_|refine kp @Nat.add_zero ?_
 refine Ow.callFV rfl Tryz.call184 (fun w' hw'=>wy_ _ _ w' (Nat.le_refl _)) ?_
 refine ko @Nat.add_zero ?_
 first|with_reducible refine ks [] @Nat.add_zero ?_|refine kp @Nat.add_zero ?_
 refine⟨_,(ke @Nat.add_zero),trivial, ?_⟩
 rfl
theorem aam_ (x:IdL) (w:World):
  Rets Tryz.prog 185 #[.agg (a8 x.l)] w (fun v D=>v=vs x.l∧D= []):=by
 have hxl:=x.h
 refine Rets.enterV Tryz.func185 rfl (rs:= [.tmp 2]) Tryz.results185 Tryz.ntmps185 ?_
 refine kf ?_
 first|with_reducible refine ks [] @Nat.add_zero ?_|refine kp @Nat.add_zero ?_
 refine Ow.box rfl rfl fun bx hbx hwx=> ?_
 simp only[qv_,qu_,qA_,zj_,List.nil_append,List.cons_append]
 refine Ow.go rfl ?_
 simp(disch:=(first|assumption|omega| (simp only[KC_,XQ_,UInt64.reduceToNat];try omega))) only[↓Sx.S0,Sx.S1,Tryz.fx,Nat.reduceAdd,Nat.reducePow,Int.reducePow,Nat.reduceBEq, ↓reduceIte,UInt8.reduceToNat,UInt16.reduceToNat,UInt32.reduceToNat,UInt64.reduceToNat,Int.reduceToNat]
 have e4:List.take 32 (List.drop 0 x.l)=x.l:=by rw[List.drop_zero,List.take_of_length_le (by omega)]
 first|with_reducible refine ks [] @e4 ?_|refine kp @e4 ?_
 refine⟨_,(ke @Nat.add_zero),⟨hwx,trivial⟩, ?_⟩
 rfl
end Go.Proofs
end
section
open Go Go.Proofs Go.Sx Go.StP
namespace Go.Proofs
set_option maxRecDepth 10000
set_option maxHeartbeats 400000
set_option linter.unusedSimpArgs false
set_option linter.defProp false
def XL_:=And.intro (And.intro (And.intro (@kg_) (@vt_)) (And.intro (@vk_) (@jj_))) (And.intro (And.intro (@qf_) (@qo_)) (And.intro (@zg_) (@zf_)))
def entB (e:EntL):List UInt8:=(KL_ (q8_ e.kind)++QQ_ e.name)++e.id.l
def k4_ (l:List EntL):List UInt8:=(l.map entB).flatten
theorem VY_ {l:List EntL} {k:Nat} (hk:k<l.length):k4_ (l.take (k+1))=k4_ (l.take k)++entB (l.getD k xU_):=by
 unfold k4_
 rw[List.take_succ_eq_append_getElem hk,List.map_append,List.flatten_append,List.getD_eq_getElem?_getD,List.getElem?_eq_getElem hk]
 simp
theorem aep_ {l:List EntL} {k:Nat} (hk:k<l.length):k4_ (l.take (k+1))=k4_ (l.take k)++KL_ (q8_ (l.getD k xU_).kind)++QQ_ (l.getD k xU_).name++ (l.getD k xU_).id.l:=by
 rw[VY_ hk];simp only[entB,List.append_assoc]
theorem wN_ {s:List UInt8} (h:s.length<1099511627776): (QQ_ s).length<1099511627783:=by
 have:=je_ (s.length:Int)
 unfold QQ_;rw[List.length_append];omega
theorem abQ_ {l:List EntL} (hsh:afc_ l): ∀k,k≤l.length→(k4_ (l.take k)).length≤k*1099511627830
 |0,_=>by simp[k4_]
 |k+1,hk=>by
  have ih:=abQ_ hsh k (by omega)
  have h1:=wN_ (hsh k hk)
  have h2:=je_ (l.getD k xU_).kind
  have h3:=(l.getD k xU_).id.h
  rw[VY_ hk]
  unfold entB
  simp only[List.length_append]
  omega
theorem WA_ (v:Value) (l:List EntL) (w:World) (hv:EntS w v l) (hl:l.length<1000000) (hsh:afc_ l):
  Rets Tryz.prog 149 #[v] w (fun v' D=>v'=vs (k4_ l)∧D= []):=by
 obtain⟨b,off,arr,E,fz,hr⟩:=hv.row
 have ln:=hv.len
 refine Rets.enterV Tryz.func149 rfl (rs:= [.tmp 2]) Tryz.results149 Tryz.ntmps149 ?_
 refine kf ?_
 first|with_reducible refine ks [] (And.intro @XL_ @ln) ?_|refine kp (And.intro @XL_ @ln) ?_
 refine Cw.loopG (G:=Nat) [5,6,7,8,11,12,13,14,15,16,17,18,19,20,21,22,23,24,25,26,27,28,29,30,31,32,3,9,10,4] (fun g=> [(3,vs (k4_ (l.take g))),(4,vi g)]) (fun g=> []) (fun g=>g≤l.length) (fun g=>l.length - g) 0 rfl rfl ?_ ?_
 ·exact Nat.zero_le _
 ·intro k jk hk
  refine kv ?_
  have h1:k≤l.length:=hk
  clear hk
  by_cases hk:k<l.length
  ·have h0:0<l.length:=by omega
   have hbl:=hr.lt h0
   have r2:=hr.has h0
   have i2:=hr.idx true k hk
   have m0: ∀n,zk_ (some (false,n)) (some (.cells arr E fz)) (off+k*34)=some (vs (l.getD k xU_).name):=fun n=>WN_ hr hk n
   have m1: ∀n,zk_ (some (false,n)) (some (.cells arr E fz)) (off+k*34+1)=some (vi (l.getD k xU_).kind):=fun n=>afT_ hr hk n
   have m2:zk_ (some (true,32)) (some (.cells arr E fz)) (off+k*34+2)=some (.agg (a8 (l.getD k xU_).id.l)):=alB_ hr hk
   have hs:=hsh k hk
   have t1:=abQ_ hsh k h1
   have t2:=wN_ hs
   have t3:=je_ (l.getD k xU_).kind
   have t4:=(l.getD k xU_).id.h
   first|with_reducible refine ks [] (And.intro @XL_ @ln) ?_|refine kp (And.intro @XL_ @ln) ?_
   refine Cw.regionS [b] [0,1,2,3,4,8,9,10,11,15,16,17,18,5,12,19,6,7,13,14,20,21,22] [] (by kernel_rfl) (by kernel_rfl) (by kernel_rfl) ?_
   simp only[zo_, ↓zi_, ↓zd_, ↓zz_, ↓zy_,ze_]
   refine kq (And.intro @XL_ (And.intro @r2 (And.intro @i2 (And.intro @m0 (And.intro @m1 (@m2)))))) ?_
   refine Ow.callFV rfl Tryz.call184 (fun w' hw'=>wy_ _ _ w' (Nat.le_refl _)) ?_
   refine kq (And.intro @XL_ (And.intro @r2 (And.intro @i2 (And.intro @m0 (And.intro @m1 (@m2)))))) ?_
   refine Ow.callFV rfl Tryz.call154 (fun w' hw'=>vb_ _ w' hs) ?_
   refine kq (And.intro @XL_ (And.intro @r2 (And.intro @i2 (And.intro @m0 (And.intro @m1 (@m2)))))) ?_
   refine Ow.callFV rfl Tryz.call185 (fun w' hw'=>aam_ _ w') ?_
   refine kq (And.intro @XL_ (And.intro @r2 (And.intro @i2 (And.intro @m0 (And.intro @m1 (@m2)))))) ?_
   exact Again.mk (k+1) (by omega) (by omega) rfl (by rw[aep_ hk];rfl)
  ·obtain rfl:k=l.length:=by omega
   first|with_reducible refine ks [] (And.intro @XL_ @ln) ?_|refine kp (And.intro @XL_ @ln) ?_
   refine⟨_,(ke @XL_),trivial, ?_⟩
   rw[List.take_length];rfl
def idsB (l:List IdL):List UInt8:=(l.map IdL.l).flatten
theorem ah4_ {l:List IdL} {k:Nat} (hk:k<l.length):idsB (l.take (k+1))=idsB (l.take k)++ (l.getD k id0).l:=by
 unfold idsB
 rw[List.take_succ_eq_append_getElem hk,List.map_append,List.flatten_append,List.getD_eq_getElem?_getD,List.getElem?_eq_getElem hk]
 simp
theorem ae9_: ∀ (l:List IdL),(idsB l).length=l.length*32
 | []=>rfl
 |x::r=>by
  have h:=ae9_ r
  have:=x.h
  unfold idsB at h ⊢
  rw[List.map_cons,List.flatten_cons,List.length_append,h,List.length_cons]
  omega
def ada_ (c:ComL):List UInt8:=c.tree.l++KL_ (q8_ c.par.length)
def comB (c:ComL):List UInt8:=ada_ c++idsB c.par++QQ_ c.text
set_option linter.defProp false
def Zx_:=And.intro (And.intro (And.intro (@aht_) (@al1_)) (And.intro (@xB_) (And.intro (@zg_) (@zf_)))) (And.intro (And.intro (@wH_) (@wJ_)) (And.intro (@wW_) (And.intro (@ZU_) (@ks_))))
theorem Ks_ (v:Value) (c:ComL) (w:World) (hv:ComS w v c) (hl:c.par.length<1000000) (ht:c.text.length<1099511627776):
  Rets Tryz.prog 151 #[v] w (fun v' D=>v'=vs (comB c)∧D= []):=by
 obtain⟨p,rfl,hp⟩:=hv
 obtain⟨b,off,arr,E,fz,hr⟩:=hp.row
 have ln:=hp.len
 have t2:=wN_ ht
 have t3:=je_ (c.par.length:Int)
 have t4:=c.tree.h
 have t5: (ada_ c).length≤38:=by unfold ada_;rw[List.length_append];omega
 refine Rets.enterV Tryz.func151 rfl (rs:= [.tmp 2]) Tryz.results151 Tryz.ntmps151 ?_
 refine kf ?_
 first|with_reducible refine ks [] @Zx_ ?_|refine kp @Zx_ ?_
 refine Ow.box rfl rfl fun bx hbx hwx=> ?_
 simp only[qv_,qu_,qA_,zj_,List.nil_append,List.cons_append]
 refine Ow.go rfl ?_
 simp(disch:=(first|assumption|omega| (simp only[KC_,XQ_,UInt64.reduceToNat];try omega))) only[↓Sx.S0,Sx.S1,Tryz.fx,Zx_,Nat.reduceAdd,Nat.reducePow,Int.reducePow,Nat.reduceBEq, ↓reduceIte,UInt8.reduceToNat,UInt16.reduceToNat,UInt32.reduceToNat,UInt64.reduceToNat,Int.reduceToNat]
 first|with_reducible refine ks [] (And.intro @Zx_ @ln) ?_|refine kp (And.intro @Zx_ @ln) ?_
 refine Cw.regionS [bx] [0,3,1,4,5,2,6,7,8] [] (by kernel_rfl) (by kernel_rfl) (by kernel_rfl) ?_
 simp only[zo_, ↓zi_, ↓zd_, ↓zz_, ↓zy_,ze_]
 refine kq (And.intro @Zx_ @ln) ?_
 refine Ow.callFV rfl Tryz.call185 (fun w' hw'=>aam_ _ w') ?_
 refine kq (And.intro @Zx_ @ln) ?_
 refine Ow.callFV rfl Tryz.call184 (fun w' hw'=>wy_ _ _ w' (Nat.le_refl _)) ?_
 refine kq (And.intro @Zx_ @ln) ?_
 rw[show c.tree.l++KL_ (q8_ c.par.length)=ada_ c++idsB (c.par.take 0) by simp[ada_,idsB]]
 refine Cw.loopG (G:=Nat) [13,14,15,16,17,20,21,22,23,24,25,26,27,3,18,19,4] (fun g=> [(3,vs (ada_ c++idsB (c.par.take g))),(4,vi g)]) (fun g=> [(bx, .cells (jd_ c.tree p c.text).toArray 172 (0,0))]) (fun g=>g≤c.par.length) (fun g=>c.par.length - g) 0 rfl rfl ?_ ?_
 ·exact Nat.zero_le _
 ·intro k jk hk
  refine kv ?_
  have h1:k≤c.par.length:=hk
  clear hk
  have t6:=ae9_ (c.par.take k)
  rw[List.length_take,Nat.min_eq_left h1] at t6
  by_cases hk:k<c.par.length
  ·have h0:0<c.par.length:=by omega
   have hbl:=hr.lt h0
   have hnb:bx≠b:=by omega
   have r2:=hr.has h0
   have i2:=hr.idx true k hk
   have l2:=aj2_ hr hk
   have hxl:=(c.par.getD k id0).h
   first|with_reducible refine ks [] (And.intro @Zx_ (And.intro @ln (And.intro @r2 (And.intro @i2 (@l2))))) ?_|refine kp (And.intro @Zx_ (And.intro @ln (And.intro @r2 (And.intro @i2 (@l2))))) ?_
   refine Ow.callFV rfl Tryz.call185 (fun w' hw'=>aam_ _ w') ?_
   refine ko (And.intro @Zx_ (And.intro @ln (And.intro @r2 (And.intro @i2 (@l2))))) ?_
   exact Again.mk (k+1) (by omega) (by omega) rfl (by rw[ah4_ hk,←List.append_assoc];rfl)
  ·obtain rfl:k=c.par.length:=by omega
   rw[List.take_length]
   rw[List.take_length] at t6
   first|with_reducible refine ks [] (And.intro @Zx_ @ln) ?_|refine kp (And.intro @Zx_ @ln) ?_
   refine Ow.callFV rfl Tryz.call154 (fun w' hw'=>vb_ _ w' ht) ?_
   refine ko @Zx_ ?_
   refine⟨_,(ke @Zx_),⟨hwx,trivial⟩, ?_⟩
   rfl
end Go.Proofs
end
section
open Go Go.Proofs Go.Sx Go.StP
namespace Go.Proofs
set_option maxRecDepth 10000
set_option maxHeartbeats 400000
set_option linter.unusedSimpArgs false
instance:DecidableEq EntL:=fun a b=>if h:a.name=b.name∧a.kind=b.kind∧a.id.l=b.id.l then .isTrue (by cases a;cases b;simp only at h;obtain⟨rfl,rfl,h3⟩:=h;rw[IdL.ext' h3]) else .isFalse (fun e=>h (by rw[e];exact⟨rfl,rfl,rfl⟩))
theorem EntL.ext' {a b:EntL} (h: (a.name==b.name&&a.kind==b.kind&&a.id.l==b.id.l)=true):a=b:=by
 simp only[Bool.and_eq_true,beq_iff_eq] at h
 cases a;cases b;simp only at h;obtain⟨⟨rfl,rfl⟩,h3⟩:=h;rw[IdL.ext' h3]
set_option linter.defProp false
def at2_:=And.intro (And.intro (And.intro (@kg_) (@vt_)) (And.intro (@vk_) (@jj_))) (And.intro (And.intro (@qf_) (@qo_)) (And.intro (@zg_) (And.intro (@zf_) (@arP_))))
end Go.Proofs
end
section
open Go Go.Proofs Go.Sx Go.StP
namespace Go.Proofs
set_option maxRecDepth 10000
set_option maxHeartbeats 400000
set_option linter.unusedSimpArgs false
structure SoG where
 g:Nat
 Z:List EntL
 v:Value
 D:zc_
set_option linter.defProp false
def atO_:=And.intro (And.intro (And.intro (@kg_) (@vt_)) (And.intro (@vk_) (@jj_))) (And.intro (And.intro (@qf_) (@qo_)) (And.intro (@zg_) (@zf_)))
end Go.Proofs
end
section
open Go Go.Proofs Go.Sx Go.StP
namespace Go.Proofs
set_option maxRecDepth 10000
set_option maxHeartbeats 400000
set_option linter.unusedSimpArgs false
def Jt_ (l:List UInt8):IdL:=if h:l.length=32 then⟨l,h⟩ else id0
theorem JK_ {l:List UInt8} (h:l.length=32): (Jt_ l).l=l:=by unfold Jt_;rw[dif_pos h]
theorem aai_ (s:List UInt8) (a:Nat) (e:Int): (idR s a e).1.length=32:=by
 unfold idR
 simp only
 split
 ·assumption
 ·simp[z32]
theorem abu_ {s:List UInt8} {a:Nat} {e:Int} (ha:a≤s.length):a≤ (idR s a e).2.1∧(idR s a e).2.1≤s.length:=WD_ ha
theorem vO_ {s:List UInt8} {a:Nat} {e most:Int} (ha:a≤s.length):a≤ (zX_ s a e most).2.1∧(zX_ s a e most).2.1≤s.length:=by
 have hp:=jh_ (e:=e) (most:=most) ha
 have hq:=WD_ (e:=(zD_ s a e most).2.2) (n:=(zD_ s a e most).1) hp.2
 unfold zX_
 simp only
 split
 ·exact⟨Nat.le_refl _,ha⟩
 ·exact⟨by omega,hq.2⟩
theorem Xh_ (s:List UInt8) (a:Nat) (e most:Int): (zX_ s a e most).1.length≤s.length:=by
 have: ∀ (b:Nat) (e n:Int),(jo_ s b e n).1.length≤s.length:=by
  intro b e n
  unfold jo_
  split
  ·simp
  ·split
   ·simp
   ·split
    ·simp
    ·simp only[List.length_take,List.length_drop];omega
 unfold zX_
 simp only
 split
 ·simp
 ·exact this _ _ _
theorem afG_ {s:List UInt8} {a:Nat} {e n:Int} (he:e≠0): (jo_ s a e n).2=(a,e):=by unfold jo_;rw[if_pos he]
theorem aki_ {s:List UInt8} {a:Nat} {e most:Int} (he:e≠0): (zD_ s a e most).2=(a,e):=by unfold zD_;rw[if_pos he]
theorem W9_ {s:List UInt8} {a:Nat} {e most:Int} (he:e≠0): (zX_ s a e most).2=(a,e):=by
 unfold zX_
 simp only[aki_ he,afG_ he]
 rw[if_pos he]
theorem aiH_ {s:List UInt8} {a:Nat} {e:Int} (he:e≠0): (idR s a e).2=(a,e):=by unfold idR;simp only[afG_ he]
theorem ajO_ {s:List UInt8} {a:Nat} {e n:Int} (h:e≠5): (jo_ s a e n).2.2≠5:=by
 unfold jo_
 split
 ·exact h
 ·split
  ·show(2:Int)≠5;decide
  ·split
   ·show(3:Int)≠5;decide
   ·show(0:Int)≠5;decide
theorem aoc_ (most:Int): ∀ (l:List UInt8) (k n x:Nat),ja_ most l k n= .error x→x≠5:=by
 intro l
 induction l with
 |nil=>intro k n x h;unfold ja_ at h;cases h;decide
 |cons c r ih=>
  intro k n x h
  unfold ja_ at h
  split at h
  ·split at h
   ·cases h;decide
   ·exact ih _ _ _ h
  ·split at h
   ·cases h;decide
   ·split at h
    ·cases h
    ·cases h;decide
theorem ajj_ (most:Int): ∀ (l:List UInt8) (k n:Nat),ja_ most l k n≠ .error 0:=by
 intro l
 induction l with
 |nil=>intro k n h;unfold ja_ at h;cases h
 |cons c r ih=>
  intro k n h
  unfold ja_ at h
  split at h
  ·split at h
   ·cases h
   ·exact ih _ _ h
  ·split at h
   ·cases h
   ·split at h
    ·cases h
    ·cases h
theorem ahR_ {s:List UInt8} {a:Nat} {e most:Int} (h:e≠5): (zD_ s a e most).2.2≠5:=by
 unfold zD_
 split
 ·exact h
 ·split
  ·show(0:Int)≠5;decide
  ·rename_i x hx
   have:=aoc_ _ _ _ _ _ hx
   show((x:Nat):Int)≠5
   omega
theorem aoh_ {s:List UInt8} {a:Nat} {e most:Int} (h:e≠5): (zX_ s a e most).2.2≠5:=by
 unfold zX_
 simp only
 split
 ·exact ajO_ (ahR_ h)
 ·exact ajO_ (ahR_ h)
theorem ar7_ {s:List UInt8} {a:Nat} {e:Int} (h:e≠5): (idR s a e).2.2≠5:=by unfold idR;exact ajO_ h
theorem ajh_ {s:List UInt8} {a:Nat} {e most:Int} (h: (zD_ s a e most).2.2=0):a< (zD_ s a e most).2.1:=by
 unfold zD_ at h ⊢
 split
 ·rename_i he
  rw[if_pos he] at h
  exact absurd h he
 ·rename_i he
  rw[if_neg he] at h
  split
  ·rename_i n k hk
   have:=WT_ _ _ _ _ _ _ hk
   show a<a+k
   omega
  ·rename_i x hx
   rw[hx] at h
   exfalso
   have:x=0:=by have: ((x:Nat):Int)=0:=h;omega
   subst this
   exact ajj_ _ _ _ _ hx
def KZ_ (s:List UInt8) (a:Nat) (e:Int):EntL×Nat×Int:=
 let p:=zD_ s a e 2
 let q:=zX_ s p.2.1 p.2.2 32
 let i:=idR s q.2.1 q.2.2
 (⟨q.1,p.1,Jt_ i.1⟩,i.2)
theorem aec_ {s:List UInt8} {a:Nat} {e:Int} (ha:a≤s.length):a≤ (KZ_ s a e).2.1∧(KZ_ s a e).2.1≤s.length:=by
 have h1:=jh_ (e:=e) (most:=2) ha
 have h2:=vO_ (e:=(zD_ s a e 2).2.2) (most:=32) h1.2
 have h3:=abu_ (e:=(zX_ s (zD_ s a e 2).2.1 (zD_ s a e 2).2.2 32).2.2) h2.2
 unfold KZ_
 exact⟨by simp only;omega,h3.2⟩
theorem aqp_ {s:List UInt8} {a:Nat} {e:Int} (h:e≠5): (KZ_ s a e).2.2≠5:=ar7_ (aoh_ (ahR_ h))
theorem ahT_ {s:List UInt8} {a:Nat} {e:Int} (ha:a≤s.length) (h: (KZ_ s a e).2.2=0):a< (KZ_ s a e).2.1:=by
 have h1:=jh_ (e:=e) (most:=2) ha
 have h2:=vO_ (e:=(zD_ s a e 2).2.2) (most:=32) h1.2
 have h3:=abu_ (e:=(zX_ s (zD_ s a e 2).2.1 (zD_ s a e 2).2.2 32).2.2) h2.2
 unfold KZ_ at h ⊢
 simp only at h ⊢
 have e2: (zX_ s (zD_ s a e 2).2.1 (zD_ s a e 2).2.2 32).2.2=0:=Decidable.byContradiction fun hn=>by rw[aiH_ hn] at h;exact hn h
 have e1: (zD_ s a e 2).2.2=0:=Decidable.byContradiction fun hn=>by rw[W9_ hn] at e2;exact hn e2
 have:=ajh_ e1
 omega
def kL_ (s:List UInt8):Nat→Nat→Int→List EntL→List EntL×Nat×Int
 |0,a,e,l=>(l,a,e)
 |n+1,a,e,l=>if e=0∧a<s.length then kL_ s n (KZ_ s a e).2.1 (KZ_ s a e).2.2 (l++ [(KZ_ s a e).1]) else(l,a,e)
theorem Xy_ {s:List UInt8} {n a:Nat} {e:Int} {l:List EntL} (h:e=0∧a<s.length):kL_ s (n+1) a e l=kL_ s n (KZ_ s a e).2.1 (KZ_ s a e).2.2 (l++ [(KZ_ s a e).1]):=by rw[kL_,if_pos h]
theorem QD_ {s:List UInt8} {n a:Nat} {e:Int} {l:List EntL} (h: ¬ (e=0∧a<s.length)):kL_ s n a e l=(l,a,e):=by
 cases n with
 |zero=>rfl
 |succ n=>rw[kL_,if_neg h]
def j1_ (s:List UInt8):List EntL×Nat×Int:=kL_ s (s.length+1) 0 0 []
structure EntsJ (s:List UInt8) (n a:Nat) (e:Int) (l:List EntL):Prop where
 go:j1_ s=kL_ s n a e l
 le:a≤s.length
 five:e≠5
 fuel:e=0→s.length<a+n
 cnt:l.length+n=s.length+1
 short: ∀i,i<l.length→(l.getD i xU_).name.length≤s.length
theorem EntsJ.init (s:List UInt8):EntsJ s (s.length+1) 0 0 []:=⟨rfl,Nat.zero_le _,by decide,fun _=>by omega,by simp,fun i hi=>by simp at hi⟩
theorem EntsJ.next {s:List UInt8} {n a:Nat} {e:Int} {l:List EntL} (h:EntsJ s n a e l) (hc:e=0∧a<s.length): ∃m,n=m+1∧EntsJ s m (KZ_ s a e).2.1 (KZ_ s a e).2.2 (l++ [(KZ_ s a e).1]):=by
 have:=h.fuel hc.1
 obtain⟨m,rfl⟩: ∃m,n=m+1:=⟨n - 1,by omega⟩
 refine⟨m,rfl,h.go.trans (Xy_ hc),(aec_ h.le).2,aqp_ h.five,fun h0=> ?_, ?_,fun i hi=> ?_⟩
 ·have:=ahT_ h.le h0;omega
 ·have:=h.cnt;simp only[List.length_append,List.length_cons,List.length_nil];omega
 ·by_cases hlt:i<l.length
  ·rw[Wg_ hlt];exact h.short i hlt
  ·have:i=l.length:=by simp only[List.length_append,List.length_cons,List.length_nil] at hi;omega
   subst this
   rw[VZ_ (Nat.le_refl _),Nat.sub_self]
   exact Xh_ _ _ _ _
theorem EntsJ.done {s:List UInt8} {n a:Nat} {e:Int} {l:List EntL} (h:EntsJ s n a e l) (hc: ¬ (e=0∧a<s.length)):j1_ s=(l,a,e):=h.go.trans (QD_ hc)
theorem EntsJ.sh {s:List UInt8} {n a:Nat} {e:Int} {l:List EntL} (h:EntsJ s n a e l) (hs:s.length<1000000):afc_ l:=fun i hi=>by have:=h.short i hi;omega
end Go.Proofs
end
section
open Go Go.Proofs Go.Sx Go.StP
namespace Go.Proofs
set_option maxRecDepth 10000
set_option maxHeartbeats 400000
set_option linter.unusedSimpArgs false
theorem acJ_:jk_ (vw_ Tryz.prog 221) (zL_ Tryz.prog 221) []=some (.agg (jR_ xU_).toArray):=by
 rw[show vw_ Tryz.prog 221=some [(0,1),(1,1),(2,32)] from id (by kernel_rfl),alG_];rfl
theorem aia_ (s:List UInt8):jk_ (vw_ Tryz.prog 217) (zL_ Tryz.prog 217) [(0,vs s)]=some (.agg #[vs s,vi 0,vi 0]):=by
 have hp:vw_ Tryz.prog 217=some [(0,1),(1,1),(2,1)]:=id (by kernel_rfl)
 have hz:zL_ Tryz.prog 217=some (.agg #[vs [],vi 0,vi 0]):=id (by kernel_rfl)
 rw[hp,hz];rfl
def acO_ (s:List UInt8):Option (List EntL):=if(j1_ s).2.2=0∧vm_ (j1_ s).1=true∧k4_ (j1_ s).1=s then some (j1_ s).1 else none
def ai1_ (s:List UInt8) (v:Value) (D:zc_):Prop:=
 match acO_ s with
 |some l=> ∃v1,v= .tuple #[v1, .bool true]∧Gr D 221 34 v1 l.length (l.map jR_).flatten
 |none=>v= .tuple #[.slice none 0 0, .bool false]
structure EnG where
 n:Nat
 a:Nat
 e:Int
 l:List EntL
 v:Value
 D:zc_
set_option linter.defProp false
def q5_:=And.intro (And.intro (And.intro (@xX_) (And.intro (@x1_) (@x5_))) (And.intro (@xe_) (And.intro (@xm_) (@jj_)))) (And.intro (And.intro (@VO_) (And.intro (@VD_) (@Wd_))) (And.intro (And.intro (@qf_) (@qo_)) (And.intro (@zg_) (@zf_))))
theorem aah_ (s:List UInt8) (w:World) (hs:s.length<100000):
  Rets Tryz.prog 108 #[vs s] w (XS w [] (ai1_ s)):=by
 refine Rets.enterX Tryz.func108 rfl (rs:= [.tmp 2, .tmp 3]) Tryz.results108 Tryz.ntmps108 (fun p hp=>by cases hp) (by simp[keys]) ?_
 refine kf ?_
 first|with_reducible refine ks [] @q5_ ?_|refine kp @q5_ ?_
 refine Ow.build ((.agg #[vs s,vi 0,vi 0])) rfl (by kernel_rfl) ?_
 refine ko @q5_ ?_
 refine Ow.box rfl rfl fun br hbr hwr=> ?_
 simp only[qv_,qu_,qA_,zj_,List.nil_append]
 refine ko @q5_ ?_
 refine Cw.loopG (G:=EnG) [10,11,12,13,14,15,16,17,18,19,20,21,22,23,24,6,25,26,27,28,29,30,31,32,33,34,35,36,37,5] (fun q=> [(5,q.v)]) (fun q=>(br, .cells #[vs s,vi q.a,vi q.e] 217 (0,0))::q.D) (fun q=>EntsJ s q.n q.a q.e q.l∧New (br+1) q.D∧Gr q.D 221 34 q.v q.l.length (q.l.map jR_).flatten) (fun q=>q.n) ⟨s.length+1,0,0,[], .slice none 0 0,[]⟩ rfl rfl ?_ ?_
 ·exact⟨EntsJ.init s,trivial,Gr.nl⟩
 ·intro q jq hq
  refine kv ?_
  obtain⟨n,a,e,l,v,D⟩:=q
  simp only at hq ⊢
  obtain⟨hJ,hN,hG⟩:=hq
  have hle:=hJ.le
  by_cases hc:e=0∧a<s.length
  ·obtain⟨m,rfl,hJ'⟩:=hJ.next hc
   obtain⟨he,hlt⟩:=hc
   have d1: (e==0)=true:=by simp[he]
   have d2:decide ((a:Int)< (s.length:Int))=true:=decide_eq_true (by omega)
   have hp:=jh_ (e:=e) (most:=2) hle
   have hq:=vO_ (e:=(zD_ s a e 2).2.2) (most:=32) hp.2
   have heq:KZ_ s a e=(⟨(zX_ s (zD_ s a e 2).2.1 (zD_ s a e 2).2.2 32).1,(zD_ s a e 2).1,Jt_ (idR s (zX_ s (zD_ s a e 2).2.1 (zD_ s a e 2).2.2 32).2.1 (zX_ s (zD_ s a e 2).2.1 (zD_ s a e 2).2.2 32).2.2).1⟩,(idR s (zX_ s (zD_ s a e 2).2.1 (zD_ s a e 2).2.2 32).2.1 (zX_ s (zD_ s a e 2).2.1 (zD_ s a e 2).2.2 32).2.2).2):=rfl
   have hil:=aai_ s (zX_ s (zD_ s a e 2).2.1 (zD_ s a e 2).2.2 32).2.1 (zX_ s (zD_ s a e 2).2.1 (zD_ s a e 2).2.2 32).2.2
   first|with_reducible refine ks [] (And.intro @q5_ (And.intro @d1 (@d2))) ?_|refine kp (And.intro @q5_ (And.intro @d1 (@d2))) ?_
   refine Ow.build (.agg (jR_ xU_).toArray) rfl acJ_ ?_
   refine ko @q5_ ?_
   refine Ow.alloc rfl rfl alG_ fun b6 hb6 hw6=> ?_
   simp only[zj_,List.nil_append,List.cons_append]
   have hr6:br<b6:=zv_ hb6 (by simp[keys])
   refine Ow.permL (M:=(b6,Obj.cells (jR_ xU_).toArray 221 (0,0)):: (br, .cells #[vs s,vi a,vi e] 217 (0,0))::D) (by classical exact List.perm_iff_count.2 fun a=>by simp only[List.count_append,List.count_cons,List.count_nil]<;>omega) ?_
   refine ko @q5_ ?_
   refine Ow.callM rfl rfl Tryz.call146 (by simp[keys]) (fun w' hw'=>xD_ br s a e 2 w' hle (by omega) (hw'.has _ _ (List.mem_cons_of_mem _ List.mem_cons_self))) ?_
   generalize zD_ s a e 2=p at*
   obtain⟨kd,a1,e1⟩:=p
   simp only at hp hq heq hil ⊢
   refine kn ?_
   refine ko @q5_ ?_
   first|with_reducible refine ks [] @q5_ ?_|refine kp @q5_ ?_
   refine Ow.callM rfl rfl Tryz.call144 (by simp[keys]) (fun w' hw'=>kS_ br s a1 e1 32 w' hp.2 (by omega) (hw'.has _ _ (List.mem_cons_of_mem _ List.mem_cons_self))) ?_
   generalize zX_ s a1 e1 32=q at*
   obtain⟨tt,a2,e2⟩:=q
   simp only at hq heq hil ⊢
   refine kn ?_
   refine ko @q5_ ?_
   first|with_reducible refine ks [] @q5_ ?_|refine kp @q5_ ?_
   refine Ow.callM rfl rfl Tryz.call147 (by simp[keys]) (fun w' hw'=>QW_ br s a2 e2 w' hq.2 (by omega) (hw'.has _ _ (List.mem_cons_of_mem _ List.mem_cons_self))) ?_
   generalize idR s a2 e2=i at*
   obtain⟨il,a3,e3⟩:=i
   simp only at heq hil ⊢
   obtain⟨I,hI⟩: ∃I,Jt_ il=I:=⟨_,rfl⟩
   have hiI:il=I.l:=by rw[←hI,JK_ hil]
   rw[hI] at heq
   rw[hiI]
   refine kn ?_
   refine ko @q5_ ?_
   generalize hx: ({name:=tt,kind:=kd,id:=I}:EntL)=x
   rw[hx] at heq
   rw[heq] at hJ'
   refine Ow.buildSlice (e:=221) (jR_ x).toArray rfl rfl (zV_ Tryz.underlying168 ant_ alG_ (by decide) (j5_ x)) fun b13 hb13 hw13=> ?_
   have hr13:br<b13:=zv_ hb13 (by simp[keys])
   refine Ow.permL (M:=D++ ((b6,Obj.cells (jR_ x).toArray 221 (0,0)):: (br, .cells #[vs s,vi a3,vi e3] 217 (0,0)):: [(b13,Obj.cells (jR_ x).toArray 221 (0,0))])) (by classical exact List.perm_iff_count.2 fun a=>by simp only[List.count_append,List.count_cons,List.count_nil]<;>omega) ?_
   refine ko @q5_ ?_
   refine Ow.appendX (e:=221) (k:=1) (new:=jR_ x) (X:=D) v rfl rfl rfl rfl Tryz.underlying168 ant_ (by kernel_rfl) alG_ (by rw[qo_,List.size_toArray,j5_]) Tryz.underlying168 (by intro k h;cases h) hG (fun w' hw'=>AppX.one1 (hw'.has b13 (.cells (jR_ x).toArray 221 (0,0)) (by simp)) (j5_ _) (WO_ _)) (by omega) (by have:=hJ.cnt;omega) (fun B v4 D4 hA4 hB4 hbuf hk1 hk2 hlk=> ?_)
   have hB13:b13<B:=zv_ hA4 (by simp[zt_,keys])
   have hN4:New (br+1) D4:=New.of_le fun q hq=>by
    rcases hk2 q hq with h|h
    ·exact hN.le q h
    ·omega
   refine Ow.permL (M:=(br, .cells #[vs s,vi a3,vi e3] 217 (0,0)):: (D4++ [(b6,Obj.cells (jR_ x).toArray 221 (0,0)),(b13,Obj.cells (jR_ x).toArray 221 (0,0))])) (by classical exact List.perm_iff_count.2 fun a=>by simp only[List.count_append,List.count_cons,List.count_nil]<;>omega) ?_
   refine ko @q5_ ?_
   refine Again.mk (EnG.mk m a3 e3 (l++ [x]) v4 (D4++ [(b6,Obj.cells (jR_ x).toArray 221 (0,0)),(b13,Obj.cells (jR_ x).toArray 221 (0,0))])) (by show m<m+1;omega) ⟨hJ',hN4.app ⟨by omega,by omega,trivial⟩, ?_⟩ rfl rfl
   show Gr _ _ _ _ (l++ [x]).length ((l++ [x]).map jR_).flatten
   rw[List.length_append,List.map_append,List.flatten_append,show([x].map jR_).flatten=jR_ x by simp]
   exact Gr.app (.inl hbuf)
  ·have hd:=hJ.done hc
   have hsh:=hJ.sh (by omega)
   have hcn:=hJ.cnt
   have hR:acO_ s=if e=0∧vm_ l=true∧k4_ l=s then some l else none:=by unfold acO_;rw[hd]
   unfold ai1_
   rw[hR]
   have hNe:New w.heap.size ((br,Obj.cells #[vs s,vi a,vi e] 217 (0,0))::D):=⟨hwr,New.mono (by omega) hN⟩
   by_cases he:e=0
   ·have d1: (e==0)=true:=by simp[he]
    have d2:decide ((a:Int)< (s.length:Int))=false:=decide_eq_false (by omega)
    have hend: (if e≠0 then e else if(a:Int)< (s.length:Int) then 5 else 0)=(0:Int):=by rw[if_neg (by simp[he]),if_neg (by omega)]
    first|with_reducible refine ks [] (And.intro @q5_ (And.intro @d1 (@d2))) ?_|refine kp (And.intro @q5_ (And.intro @d1 (@d2))) ?_
    refine Ow.callFV rfl Tryz.call145 (fun w' hw'=>vV_ br s a e w' (hw'.has _ _ (by simp))) ?_
    rw[hend]
    have d4: ((0:Int) !=0)=false:=rfl
    refine ko (And.intro @q5_ @d4) ?_
    refine Ow.callFV rfl Tryz.call148 (fun w' hw'=>Vq_ v l w' (hG.slM (fun b o hm=>hw'.has b o (by simp[hm])) rfl rfl j5_) (by omega) hsh) ?_
    cases hr:vm_ l
    ·rw[if_neg (by simp)]
     refine ko @q5_ ?_
     first|with_reducible refine ks [] @q5_ ?_|refine kp @q5_ ?_
     refine⟨_,(ke @q5_), ?_⟩
     exact⟨Ext.of_new hNe,rfl⟩
    ·refine ko @q5_ ?_
     refine Ow.callFV rfl Tryz.call149 (fun w' hw'=>WA_ v l w' (hG.slM (fun b o hm=>hw'.has b o (by simp[hm])) rfl rfl j5_) (by omega) hsh) ?_
     by_cases hb:k4_ l=s
     ·have d3: (k4_ l !=s)=false:=by simp[hb]
      rw[if_pos ⟨he,rfl,hb⟩]
      refine ko (And.intro @q5_ @d3) ?_
      first|with_reducible refine ks [] @q5_ ?_|refine kp @q5_ ?_
      refine⟨_,(ke @q5_), ?_⟩
      exact⟨Ext.of_new hNe,v,rfl,hG.keep fun b o hb ho=>by rw[Sx.look,if_neg (by have:=hN.le b (zh_ ho);omega)];exact ho⟩
     ·have d3: (k4_ l !=s)=true:=by simp[hb]
      rw[if_neg (fun h=>hb h.2.2)]
      refine ko (And.intro @q5_ @d3) ?_
      first|with_reducible refine ks [] @q5_ ?_|refine kp @q5_ ?_
      refine⟨_,(ke @q5_), ?_⟩
      exact⟨Ext.of_new hNe,rfl⟩
   ·have d1: (e==0)=false:=by simp[he]
    have d3: (e !=0)=true:=by simp[he]
    have hend: (if e≠0 then e else if(a:Int)< (s.length:Int) then 5 else 0)=e:=by rw[if_pos he]
    rw[if_neg (fun h=>he h.1)]
    first|with_reducible refine ks [] (And.intro @q5_ @d1) ?_|refine kp (And.intro @q5_ @d1) ?_
    refine Ow.callFV rfl Tryz.call145 (fun w' hw'=>vV_ br s a e w' (hw'.has _ _ (by simp))) ?_
    rw[hend]
    refine ko (And.intro @q5_ @d3) ?_
    first|with_reducible refine ks [] @q5_ ?_|refine kp @q5_ ?_
    refine⟨_,(ke @q5_), ?_⟩
    exact⟨Ext.of_new hNe,rfl⟩
end Go.Proofs
end
section
open Go Go.Proofs Go.Sx Go.StP
namespace Go.Proofs
set_option maxRecDepth 10000
set_option maxHeartbeats 400000
set_option linter.unusedSimpArgs false
theorem Zs_ (most:Int): ∀ (l:List UInt8) (k n m k':Nat),ja_ most l k n= .ok (m,k')→(m:Int)≤most
 | [],_,_,_,_,h=>by simp[ja_] at h
 |c::r,k,n,m,k',h=>by
  unfold ja_ at h
  split at h
  ·split at h
   ·cases h
   ·exact Zs_ most r _ _ _ _ h
  ·split at h
   ·cases h
   ·split at h
    ·rename_i hh
     cases h
     exact hh.2
    ·cases h
theorem jB_ {s:List UInt8} {a:Nat} {e most:Int} (h0:0≤most):0≤ (zD_ s a e most).1∧(zD_ s a e most).1≤most:=by
 unfold zD_
 split
 ·exact⟨Int.le_refl 0,h0⟩
 ·split
  ·rename_i n k h
   exact⟨Int.natCast_nonneg _,Zs_ most _ _ _ _ _ h⟩
  ·exact⟨Int.le_refl 0,h0⟩
def qy_ (s:List UInt8) (a:Nat) (e:Int):Nat→List IdL×Nat×Int
 |0=>([],a,e)
 |n+1=>let p:=qy_ s a e n;let i:=idR s p.2.1 p.2.2;(p.1++ [Jt_ i.1],i.2)
theorem Xu_ (s:List UInt8) (a:Nat) (e:Int): ∀n,(qy_ s a e n).1.length=n
 |0=>rfl
 |n+1=>by simp only[qy_,List.length_append,List.length_cons,List.length_nil,Xu_ s a e n]
theorem JY_ {s:List UInt8} {a:Nat} {e:Int} (ha:a≤s.length): ∀n,(qy_ s a e n).2.1≤s.length
 |0=>ha
 |n+1=>(abu_ (JY_ ha n)).2
def comN (s:List UInt8):Int×Nat×Int:=zD_ s (idR s 0 0).2.1 (idR s 0 0).2.2 4
def Xd_ (s:List UInt8):List IdL×Nat×Int:=qy_ s (comN s).2.1 (comN s).2.2 (comN s).1.toNat
def comT (s:List UInt8):List UInt8×Nat×Int:=zX_ s (Xd_ s).2.1 (Xd_ s).2.2 64
def Zq_ (s:List UInt8):ComL×Nat×Int:=(⟨Jt_ (idR s 0 0).1,(Xd_ s).1,(comT s).1⟩,(comT s).2)
def vF_ (s:List UInt8) (a:Nat) (e:Int):Int:=if e≠0 then e else if(a:Int)< (s.length:Int) then 5 else 0
def adM_ (s:List UInt8):Option ComL:=if vF_ s (Zq_ s).2.1 (Zq_ s).2.2=0∧ZI_ (Zq_ s).1=true∧comB (Zq_ s).1=s then some (Zq_ s).1 else none
theorem afX_ (t x:IdL) (p:Value) (y:List UInt8) (a:Bool) (E:TypeId):zn_ (some (a,32)) (some (.cells (jd_ t p y).toArray E (0,0))) 0 (.agg (a8 x.l))=some (.cells (jd_ x p y).toArray E (0,0)):=
 zs_ [] _ _ _ a _ E rfl (by simp[t.h]) (zj_ _) (by simp[x.h]) (v5_ _)
theorem agJ_ (t:IdL) (p q:Value) (y:List UInt8) (a:Bool) (E:TypeId) (hq:Value.oneCell' q=true∧q.cells= #[q]):zn_ (some (a,1)) (some (.cells (jd_ t p y).toArray E (0,0))) 32 q=some (.cells (jd_ t q y).toArray E (0,0)):=
 zs_ (t.l.map v8) [p] [q] [vs y] a _ E (by simp[t.h]) rfl hq.2 rfl (by simp[hq.1])
theorem af2_ (t:IdL) (p:Value) (y z:List UInt8) (a:Bool) (E:TypeId):zn_ (some (a,1)) (some (.cells (jd_ t p y).toArray E (0,0))) 33 (vs z)=some (.cells (jd_ t p z).toArray E (0,0)):=by
 have e: ∀y,jd_ t p y=(t.l.map v8++ [p])++ ([vs y]++ []):=fun y=>by unfold jd_;simp only[List.append_assoc,List.append_nil]
 rw[e,e];exact zs_ _ _ _ _ a _ E (by simp[t.h]) rfl rfl rfl rfl
theorem amV_:zL_ Tryz.prog 172=some (.agg (jd_ id0 (.slice none 0 0) []).toArray):=id (by kernel_rfl)
theorem w9_:jk_ (vw_ Tryz.prog 172) (zL_ Tryz.prog 172) []=some (.agg (jd_ id0 (.slice none 0 0) []).toArray):=by
 rw[show vw_ Tryz.prog 172=some [(0,32),(32,1),(33,1)] from id (by kernel_rfl),amV_];rfl
theorem afd_:zT_ Tryz.prog 84=some (true,32):=id (by kernel_rfl)
theorem agi_:zL_ Tryz.prog 84=some (.agg (a8 id0.l)):=id (by kernel_rfl)
end Go.Proofs
end
section
open Go Go.Proofs Go.Sx Go.StP
namespace Go.Proofs
set_option maxRecDepth 10000
set_option maxHeartbeats 400000
set_option linter.unusedSimpArgs false
theorem aby_ {b:Nat} {x:Obj}: ∀ {D L:zc_},b∉keys D→setB (D++L) b x=D++setB L b x
 | [],_,_=>rfl
 | (c,y)::r,L,h=>by
  simp only[keys,List.map_cons,List.mem_cons,not_or] at h
  rw[List.cons_append,QF_ _ _ _ _ _ (Ne.symm h.1),aby_ (by simpa [keys] using h.2)];rfl
def ajV_ (s:List UInt8) (v:Value) (D:zc_):Prop:=
 match adM_ s with
 |some c=> ∃p,v= .tuple #[.agg (jd_ c.tree p c.text).toArray, .bool true]∧Gr D 84 32 p c.par.length (c.par.map JO_).flatten
 |none=>v= .tuple #[.agg (jd_ id0 (.slice none 0 0) []).toArray, .bool false]
theorem Jo_ (b:Nat) (s:List UInt8) (a:Nat) (e:Int) (w:World) (ho:w.heap[b]? =some (.cells #[vs s,vi a,vi e] 217 (0,0))):
  Rets Tryz.prog 145 #[vp b 0] w (fun v D=>v=vi (vF_ s a e)∧D= []):=vV_ b s a e w ho
structure CmG where
 g:Nat
 v:Value
 D:zc_
set_option linter.defProp false
def qY_:=And.intro (And.intro (And.intro (@xX_) (And.intro (@x1_) (@x5_))) (And.intro (And.intro (@xe_) (@xm_)) (And.intro (@wH_) (@wJ_)))) (And.intro (And.intro (@wW_) (And.intro (@ZU_) (@ks_))) (And.intro (And.intro (@afX_) (@af2_)) (And.intro (@zg_) (@zf_))))
theorem WW_ (s:List UInt8) (w:World) (hs:s.length<100000):
  Rets Tryz.prog 109 #[vs s] w (XS w [] (ajV_ s)):=by
 refine Rets.enterX Tryz.func109 rfl (rs:= [.cell 2 172, .tmp 3]) Tryz.results109 Tryz.ntmps109 (fun p hp=>by cases hp) (by simp[keys]) ?_
 refine kf ?_
 first|with_reducible refine ks [] @qY_ ?_|refine kp @qY_ ?_
 refine Ow.alloc rfl rfl amV_ fun b2 hb2 hw2=> ?_
 simp only[zj_,List.nil_append,List.cons_append]
 refine ko @qY_ ?_
 refine Ow.build ((.agg #[vs s,vi 0,vi 0])) rfl (by kernel_rfl) ?_
 refine ko @qY_ ?_
 refine Ow.box rfl rfl fun br hbr hwr=> ?_
 have h2r:b2<br:=zv_ hbr (by simp[keys])
 simp only[qv_,qu_,qA_,zj_,List.nil_append,List.cons_append]
 refine ko @qY_ ?_
 refine Ow.build (.agg (jd_ id0 (.slice none 0 0) []).toArray) rfl w9_ ?_
 refine ko @qY_ ?_
 refine Ow.alloc rfl rfl amV_ fun b5 hb5 hw5=> ?_
 simp only[zj_,List.nil_append,List.cons_append]
 have h25:b2<b5:=zv_ hb5 (by simp[keys])
 have hr5:br<b5:=zv_ hb5 (by simp[keys])
 have st5: ∀a E,zn_ (some (a,34)) (some (.cells (jd_ id0 (.slice none 0 0) []).toArray E (0,0))) 0 (.agg (jd_ id0 (.slice none 0 0) []).toArray)=some (.cells (jd_ id0 (.slice none 0 0) []).toArray E (0,0)):=fun a E=>Kz_ _ _ _ _ a E (by rw[List.size_toArray,Zb_]) rfl
 refine ko (And.intro @qY_ @st5) ?_
 refine Ow.callM rfl rfl Tryz.call147 (by simp[keys]) (fun w' hw'=>QW_ br s 0 0 w' (Nat.zero_le _) (by omega) (hw'.has _ _ (List.mem_cons_of_mem _ List.mem_cons_self))) ?_
 have ip:=abu_ (s:=s) (a:=0) (e:=0) (Nat.zero_le _)
 have np:=jh_ (e:=(idR s 0 0).2.2) (most:=4) ip.2
 have nm:=jB_ (s:=s) (a:=(idR s 0 0).2.1) (e:=(idR s 0 0).2.2) (most:=4) (by decide)
 obtain⟨T,hT⟩: ∃T,Jt_ (idR s 0 0).1=T:=⟨_,rfl⟩
 have hiT: (idR s 0 0).1=T.l:=by rw[←hT,JK_ (aai_ s 0 0)]
 have hcE:Zq_ s=(⟨T,(Xd_ s).1,(comT s).1⟩,(comT s).2):=by unfold Zq_;rw[hT]
 rw[hiT]
 refine kn ?_
 refine ko @qY_ ?_
 refine Ow.callM rfl rfl Tryz.call146 (by simp[keys]) (fun w' hw'=>xD_ br s _ _ 4 w' ip.2 (by omega) (hw'.has _ _ (List.mem_cons_of_mem _ List.mem_cons_self))) ?_
 have hP:Xd_ s=qy_ s (zD_ s (idR s 0 0).2.1 (idR s 0 0).2.2 4).2.1 (zD_ s (idR s 0 0).2.1 (idR s 0 0).2.2 4).2.2 (zD_ s (idR s 0 0).2.1 (idR s 0 0).2.2 4).1.toNat:=rfl
 generalize zD_ s (idR s 0 0).2.1 (idR s 0 0).2.2 4=nr at*
 obtain⟨cn,na,ne⟩:=nr
 simp only at np nm hP ⊢
 obtain⟨k,rfl⟩:=Int.eq_ofNat_of_zero_le nm.1
 rw[Int.toNat_natCast] at hP
 refine kn ?_
 refine ko @qY_ ?_
 refine Cw.permL (M:=(b5, .cells (jd_ T (.slice none 0 0) []).toArray 172 (0,0)):: (br, .cells #[vs s,vi na,vi ne] 217 (0,0)):: (b2, .cells (jd_ id0 (.slice none 0 0) []).toArray 172 (0,0)):: []) (by classical exact List.perm_iff_count.2 fun a=>by simp only[List.count_append,List.count_cons,List.count_nil]<;>omega) ?_
 refine Cw.loopG (G:=CmG) [17,18,19,22,23,24,25,26,27,28,20,21,7] (fun q=> [(7,vi q.g)]) (fun q=>(b5, .cells (jd_ T q.v []).toArray 172 (0,0)):: (br, .cells #[vs s,vi (qy_ s na ne q.g).2.1,vi (qy_ s na ne q.g).2.2] 217 (0,0)):: (b2, .cells (jd_ id0 (.slice none 0 0) []).toArray 172 (0,0))::q.D) (fun q=>q.g≤k∧New (b5+1) q.D∧Gr q.D 84 32 q.v q.g ((qy_ s na ne q.g).1.map JO_).flatten) (fun q=>k - q.g) ⟨0, .slice none 0 0,[]⟩ rfl rfl ?_ ?_
 ·exact⟨Nat.zero_le _,trivial,Gr.nl⟩
 ·intro q jq hq
  refine kv ?_
  obtain⟨g,v,D⟩:=q
  simp only at hq ⊢
  obtain⟨hgk,hN,hG⟩:=hq
  have gle:=JY_ (e:=ne) np.2 g
  by_cases hlt:g<k
  ·have hgs:qy_ s na ne (g+1)=((qy_ s na ne g).1++ [Jt_ (idR s (qy_ s na ne g).2.1 (qy_ s na ne g).2.2).1],(idR s (qy_ s na ne g).2.1 (qy_ s na ne g).2.2).2):=rfl
   first|with_reducible refine ks [7] @qY_ ?_|refine kp @qY_ ?_
   refine Cw.regionS [b5] [0,2,1,3,4,5,6,7] [7] (by kernel_rfl) (by kernel_rfl) (by kernel_rfl) ?_
   simp only[zo_, ↓zi_, ↓zd_, ↓zz_, ↓zy_,ze_]
   refine kq @qY_ ?_
   refine Ow.soft rfl rfl rfl ?_
   refine Ow.callM rfl rfl Tryz.call147 (by simp[keys]) (fun w' hw'=>QW_ br s (qy_ s na ne g).2.1 (qy_ s na ne g).2.2 w' gle (by omega) (hw'.has _ _ (List.mem_cons_of_mem _ List.mem_cons_self))) ?_
   with_reducible refine Ow.nil ?_
   refine⟨fun b hb=>aaO_ (by simp only[List.mem_cons,List.not_mem_nil,or_false] at hb;omega), ?_⟩
   have hil:=aai_ s (qy_ s na ne g).2.1 (qy_ s na ne g).2.2
   obtain⟨I,hI⟩: ∃I,Jt_ (idR s (qy_ s na ne g).2.1 (qy_ s na ne g).2.2).1=I:=⟨_,rfl⟩
   have hiI: (idR s (qy_ s na ne g).2.1 (qy_ s na ne g).2.2).1=I.l:=by rw[←hI,JK_ hil]
   rw[hI] at hgs
   have hg1: (qy_ s na ne (g+1)).1=(qy_ s na ne g).1++ [I]:=by rw[hgs]
   have hg2: (qy_ s na ne (g+1)).2=(idR s (qy_ s na ne g).2.1 (qy_ s na ne g).2.2).2:=by rw[hgs]
   rw[hiI,←hg2]
   refine kn ?_
   refine Ow.soft rfl rfl rfl ?_
   refine Ow.buildSlice (e:=84) (a8 I.l) rfl rfl (zV_ (cs:=I.l.map v8) Tryz.underlying106 afd_ agi_ (by decide) (by simp[I.h])) fun b13 hb13 hw13=> ?_
   have hr13:b5<b13:=zv_ hb13 (by simp[keys])
   with_reducible refine Ow.nil ?_
   refine⟨xv_ (by simp[keys]), ?_⟩
   try simp only[List.cons_append,List.nil_append]
   refine Ow.soft rfl rfl rfl ?_
   refine Ow.permL (M:=D++ ((b5,Obj.cells (jd_ T v []).toArray 172 (0,0)):: (br,Obj.cells #[vs s,vi (qy_ s na ne (g+1)).2.1,vi (qy_ s na ne (g+1)).2.2] 217 (0,0)):: (b2,Obj.cells (jd_ id0 (.slice none 0 0) []).toArray 172 (0,0)):: [(b13,Obj.cells (a8 I.l) 84 (0,0))])) (by classical exact List.perm_iff_count.2 fun a=>by simp only[List.count_append,List.count_cons,List.count_nil]<;>omega) ?_
   refine Ow.appendX (e:=84) (k:=1) (new:=JO_ I) (X:=D) v rfl rfl rfl rfl Tryz.underlying106 afd_ (by kernel_rfl) agi_ (by rw[zj_,QT_,id0.h]) Tryz.underlying106 (by intro k h;cases h) hG (fun w' hw'=>AppX.one1 (hw'.has b13 (.cells (a8 I.l) 84 (0,0)) (by simp)) (wU_ I) (aaw_ I)) (by omega) (by omega) (fun B v4 D4 hA4 hB4 hbuf hk1 hk2 hlk=> ?_)
   have hB13:b13<B:=zv_ hA4 (by simp[zt_,keys])
   have hN4:New (b5+1) D4:=New.of_le fun q hq=>by
    rcases hk2 q hq with h|h
    ·exact hN.le q h
    ·omega
   have h54:b5∉keys D4:=hN4.not (by omega)
   with_reducible refine Ow.nil ?_
   refine⟨fun q hq=> ?_, ?_⟩
   ·rw[List.mem_singleton] at hq
    subst hq
    rw[agq_ h54]
    simp only[xi_]
   have hlk5: ∀M,Sx.look (D4++M) b5=Sx.look M b5:=fun M=>z5_ h54
   have hsb5: ∀M x,setB (D4++M) b5 x=D4++setB M b5 x:=fun M x=>aby_ h54
   have st5:=fun a E=>agJ_ T v v4 [] a E hbuf.cell
   refine kq (And.intro @qY_ (And.intro @hlk5 (And.intro @hsb5 (And.intro @st5 (@jE_))))) ?_
   have hst7:kG_ (zT_ Tryz.prog 106) (D4++ [(b5,Obj.cells (jd_ T v []).toArray 172 (0,0)),(br,Obj.cells #[vs s,vi (qy_ s na ne (g+1)).2.1,vi (qy_ s na ne (g+1)).2.2] 217 (0,0)),(b2,Obj.cells (jd_ id0 (.slice none 0 0) []).toArray 172 (0,0)),(b13,Obj.cells (a8 I.l) 84 (0,0))]) (vp b5 32) v4=
     some (D4++ [(b5,Obj.cells (jd_ T v4 []).toArray 172 (0,0)),(br,Obj.cells #[vs s,vi (qy_ s na ne (g+1)).2.1,vi (qy_ s na ne (g+1)).2.2] 217 (0,0)),(b2,Obj.cells (jd_ id0 (.slice none 0 0) []).toArray 172 (0,0)),(b13,Obj.cells (a8 I.l) 84 (0,0))]):=by
    rw[Tryz.ag106,abK_,hlk5]
    simp only[ky_,st5,afC_,hsb5,ZO_]
   refine Ow.store rfl rfl rfl hst7 ?_
   refine ko @qY_ ?_
   refine Cw.permL (M:=(b5,Obj.cells (jd_ T v4 []).toArray 172 (0,0)):: (br,Obj.cells #[vs s,vi (qy_ s na ne (g+1)).2.1,vi (qy_ s na ne (g+1)).2.2] 217 (0,0)):: (b2,Obj.cells (jd_ id0 (.slice none 0 0) []).toArray 172 (0,0)):: (D4++ [(b13,Obj.cells (a8 I.l) 84 (0,0))])) (by classical exact List.perm_iff_count.2 fun a=>by simp only[List.count_append,List.count_cons,List.count_nil]<;>omega) ?_
   first|with_reducible refine ks [] @qY_ ?_|refine kp @qY_ ?_
   refine Again.mk (CmG.mk (g+1) v4 (D4++ [(b13,Obj.cells (a8 I.l) 84 (0,0))])) (by show k - (g+1)<k - g;omega) ⟨by show g+1≤k;omega,hN4.app ⟨by omega,trivial⟩, ?_⟩ rfl rfl
   show Gr _ _ _ _ (g+1) ((qy_ s na ne (g+1)).1.map JO_).flatten
   rw[hg1,List.map_append,List.flatten_append,show([I].map JO_).flatten=JO_ I by simp]
   exact Gr.app (.inl hbuf)
  ·obtain rfl:g=k:=by omega
   rw[←hP] at hG
   rw[←hP] at gle
   rw[←hP]
   have tp:=vO_ (e:=(Xd_ s).2.2) (most:=64) gle
   first|with_reducible refine ks [] @qY_ ?_|refine kp @qY_ ?_
   refine Ow.callM rfl rfl Tryz.call144 (by simp[keys]) (fun w' hw'=>kS_ br s (Xd_ s).2.1 (Xd_ s).2.2 64 w' gle (by omega) (hw'.has _ _ (List.mem_cons_of_mem _ List.mem_cons_self))) ?_
   refine kn ?_
   refine ko @qY_ ?_
   have hT2:comT s=zX_ s (Xd_ s).2.1 (Xd_ s).2.2 64:=rfl
   have htl:=Xh_ s (Xd_ s).2.1 (Xd_ s).2.2 64
   rw[hT2] at hcE
   generalize zX_ s (Xd_ s).2.1 (Xd_ s).2.2 64=tx at*
   obtain⟨tt,a3,e3⟩:=tx
   simp only at tp hcE htl ⊢
   have hPl: (Xd_ s).1.length=g:=by rw[hP,Xu_]
   generalize (Xd_ s).1=pl at*
   have hg4:g≤4:=by omega
   have hC: ∀w',Hp w ((b5,Obj.cells (jd_ T v tt).toArray 172 (0,0)):: (br, .cells #[vs s,vi a3,vi e3] 217 (0,0)):: (b2,Obj.cells (jd_ id0 (.slice none 0 0) []).toArray 172 (0,0))::D) w'→ComS w' (.agg (jd_ T v tt).toArray) ⟨T,pl,tt⟩:=fun w' hw'=>
    ⟨v,rfl,hG.slM (fun b o hm=>hw'.has b o (by simp[hm])) hPl rfl wU_⟩
   have hNe:New w.heap.size ((b5,Obj.cells (jd_ T v tt).toArray 172 (0,0)):: (br, .cells #[vs s,vi a3,vi e3] 217 (0,0)):: (b2,Obj.cells (jd_ id0 (.slice none 0 0) []).toArray 172 (0,0))::D):=⟨hw5,hwr,hw2,New.mono (by omega) hN⟩
   have hR:adM_ s=if vF_ s a3 e3=0∧ZI_ ⟨T,pl,tt⟩=true∧comB ⟨T,pl,tt⟩=s then some ⟨T,pl,tt⟩ else none:=by unfold adM_;rw[hcE]
   have stz: ∀a E,zn_ (some (a,34)) (some (.cells (jd_ id0 (.slice none 0 0) []).toArray E (0,0))) 0 (.agg (jd_ id0 (.slice none 0 0) []).toArray)=some (.cells (jd_ id0 (.slice none 0 0) []).toArray E (0,0)):=st5
   unfold ajV_
   rw[hR]
   refine Ow.callFV rfl Tryz.call145 (fun w' hw'=>Jo_ br s a3 e3 w' (hw'.has _ _ (List.mem_cons_of_mem _ List.mem_cons_self))) ?_
   by_cases he:vF_ s a3 e3=0
   ·have d1: (vF_ s a3 e3 !=0)=false:=by simp[he]
    refine ko (And.intro @qY_ @d1) ?_
    refine Ow.callFV rfl Tryz.call150 (fun w' hw'=>Jy_ _ _ w' (hC w' hw') (by show pl.length<1000000;omega) (by show tt.length<1099511627776;omega)) ?_
    cases hr:ZI_ ⟨T,pl,tt⟩
    ·rw[if_neg (by simp)]
     refine ko @qY_ ?_
     refine Ow.build (.agg (jd_ id0 (.slice none 0 0) []).toArray) rfl w9_ ?_
     refine ko (And.intro @qY_ @stz) ?_
     first|with_reducible refine ks [] @qY_ ?_|refine kp @qY_ ?_
     refine⟨_,(ke @qY_), ?_⟩
     exact⟨Ext.of_new hNe,rfl⟩
    ·refine ko @qY_ ?_
     refine Ow.callFV rfl Tryz.call151 (fun w' hw'=>Ks_ _ _ w' (hC w' hw') (by show pl.length<1000000;omega) (by show tt.length<1099511627776;omega)) ?_
     by_cases hb:comB ⟨T,pl,tt⟩=s
     ·have d3: (comB ⟨T,pl,tt⟩ !=s)=false:=by simp[hb]
      have stq: ∀a E,zn_ (some (a,34)) (some (.cells (jd_ id0 (.slice none 0 0) []).toArray E (0,0))) 0 (.agg (jd_ T v tt).toArray)=some (.cells (jd_ T v tt).toArray E (0,0)):=fun a E=>Kz_ _ _ _ _ a E (by rw[List.size_toArray,Zb_]) hG.cell.1
      rw[if_pos ⟨he,rfl,hb⟩]
      refine ko (And.intro @qY_ (And.intro @d3 (@stq))) ?_
      first|with_reducible refine ks [] @qY_ ?_|refine kp @qY_ ?_
      refine⟨_,(ke @qY_), ?_⟩
      refine⟨Ext.of_new ⟨hw5,hwr,hw2,New.mono (by omega) hN⟩,v,rfl, ?_⟩
      show Gr _ _ _ _ pl.length (pl.map JO_).flatten
      rw[hPl]
      exact hG.keep fun b o hb ho=>by
       have:=hN.le b (zh_ ho)
       simp(disch:=omega) only[vi_]
       exact ho
     ·have d3: (comB ⟨T,pl,tt⟩ !=s)=true:=by simp[hb]
      rw[if_neg (fun h=>hb h.2.2)]
      refine ko (And.intro @qY_ @d3) ?_
      refine Ow.build (.agg (jd_ id0 (.slice none 0 0) []).toArray) rfl w9_ ?_
      refine ko (And.intro @qY_ @stz) ?_
      first|with_reducible refine ks [] @qY_ ?_|refine kp @qY_ ?_
      refine⟨_,(ke @qY_), ?_⟩
      exact⟨Ext.of_new hNe,rfl⟩
   ·have d1: (vF_ s a3 e3 !=0)=true:=by simp[he]
    rw[if_neg (fun h=>he h.1)]
    refine ko (And.intro @qY_ @d1) ?_
    refine Ow.build (.agg (jd_ id0 (.slice none 0 0) []).toArray) rfl w9_ ?_
    refine ko (And.intro @qY_ @stz) ?_
    first|with_reducible refine ks [] @qY_ ?_|refine kp @qY_ ?_
    refine⟨_,(ke @qY_), ?_⟩
    exact⟨Ext.of_new hNe,rfl⟩
end Go.Proofs
end
section
open Go Go.Proofs Go.Sx Go.StP
namespace Go.Proofs
set_option maxRecDepth 10000
set_option maxHeartbeats 400000
set_option linter.unusedSimpArgs false
def roC (r v:Value) (t:IdL) (p:Value) (y:List UInt8):List Value:= [r]++ ([v]++jd_ t p y)
theorem Ws_ (r v:Value) (t:IdL) (p:Value) (y:List UInt8) (n:Nat) (E:TypeId) (fz:Nat×Nat):zk_ (some (false,n)) (some (.cells (roC r v t p y).toArray E fz)) 0=some r:=zK_ [] _ r n E fz rfl
theorem WI_ (r v:Value) (t:IdL) (p:Value) (y:List UInt8) (n:Nat) (E:TypeId) (fz:Nat×Nat):zk_ (some (false,n)) (some (.cells (roC r v t p y).toArray E fz)) 1=some v:=by
 unfold roC;exact zK_ [r] _ v n E fz rfl
theorem WQ_ (r v:Value) (t:IdL) (p:Value) (y:List UInt8) (E:TypeId) (fz:Nat×Nat):zk_ (some (true,34)) (some (.cells (roC r v t p y).toArray E fz)) 2=some (.agg (jd_ t p y).toArray):=by
 have e:roC r v t p y= [r,v]++ (jd_ t p y++ []):=by unfold roC;simp
 rw[e];exact v1_ [r,v] _ _ E fz rfl (Zb_ _ _ _)
theorem aaq_ (r v:Value) (t:IdL) (p:Value) (y:List UInt8) (n:Nat) (E:TypeId) (fz:Nat×Nat):zk_ (some (false,n)) (some (.cells (roC r v t p y).toArray E fz)) 34=some p:=by
 have e:roC r v t p y=([r,v]++t.l.map v8)++ ([p]++ [vs y]):=by unfold roC jd_;simp
 rw[e];exact zK_ _ _ p n E fz (by simp[t.h])
theorem ajz_ (r v:Value) (t x:IdL) (p:Value) (y:List UInt8) (a:Bool) (E:TypeId):zn_ (some (a,32)) (some (.cells (roC r v t p y).toArray E (0,0))) 2 (.agg (a8 x.l))=some (.cells (roC r v x p y).toArray E (0,0)):=by
 have e: ∀t,roC r v t p y= [r,v]++ (t.l.map v8++ ([p]++ [vs y])):=fun t=>by unfold roC jd_;simp
 rw[e,e];exact zs_ [r,v] _ _ _ a _ E rfl (by simp[t.h]) (zj_ _) (by simp[x.h]) (v5_ _)
theorem agD_ (r v:Value) (t:IdL) (p:Value) (y z:List UInt8) (a:Bool) (E:TypeId):zn_ (some (a,1)) (some (.cells (roC r v t p y).toArray E (0,0))) 35 (vs z)=some (.cells (roC r v t p z).toArray E (0,0)):=by
 have e: ∀y,roC r v t p y=(([r,v]++t.l.map v8)++ [p])++ ([vs y]++ []):=fun y=>by unfold roC jd_;simp
 rw[e,e];exact zs_ _ _ _ _ a _ E (by simp[t.h]) rfl rfl rfl rfl
set_option linter.defProp false
def auR_:=And.intro (And.intro (And.intro (And.intro (@xX_) (@x1_)) (And.intro (@x5_) (@xe_))) (And.intro (And.intro (@xm_) (@Ws_)) (And.intro (@WI_) (@WQ_)))) (And.intro (And.intro (And.intro (@aaq_) (@jj_)) (And.intro (@VO_) (@VD_))) (And.intro (And.intro (@Wd_) (@qf_)) (And.intro (@qo_) (And.intro (@zg_) (@zf_)))))
structure EnH where
 n:Nat
 a:Nat
 e:Int
 l:List EntL
 v:Value
 D:zc_
 H:zc_
def asV_ (bo bw:Nat) (s:List UInt8) (v:Value) (D:zc_):Prop:=
 v= .bool (vF_ s (j1_ s).2.1 (j1_ s).2.2==0&&vm_ (j1_ s).1)∧ ∃v1,Sx.look D bo=some (.cells (roC (vp bw 0) v1 id0 (.slice none 0 0) []).toArray 271 (0,0))∧Gr D 221 34 v1 (j1_ s).1.length ((j1_ s).1.map jR_).flatten
end Go.Proofs
end
section
open Go Go.Proofs Go.Sx Go.StP
namespace Go.Proofs
set_option maxRecDepth 10000
set_option maxHeartbeats 400000
set_option linter.unusedSimpArgs false
set_option linter.defProp false
def auP_:=And.intro (And.intro (And.intro (@xX_) (And.intro (@x1_) (@x5_))) (And.intro (And.intro (@xe_) (@xm_)) (And.intro (@Ws_) (@WI_)))) (And.intro (And.intro (@WQ_) (And.intro (@aaq_) (@ajz_))) (And.intro (And.intro (@agD_) (@ks_)) (And.intro (@zg_) (@zf_))))
structure CmH where
 g:Nat
 v:Value
 D:zc_
 H:zc_
def atg_ (bo bw:Nat) (s:List UInt8) (v:Value) (D:zc_):Prop:=
 v= .bool (vF_ s (Zq_ s).2.1 (Zq_ s).2.2==0&&ZI_ (Zq_ s).1)∧ ∃p,Sx.look D bo=some (.cells (roC (vp bw 0) (.slice none 0 0) (Zq_ s).1.tree p (Zq_ s).1.text).toArray 271 (0,0))∧Gr D 84 32 p (Zq_ s).1.par.length ((Zq_ s).1.par.map JO_).flatten
end Go.Proofs
end
