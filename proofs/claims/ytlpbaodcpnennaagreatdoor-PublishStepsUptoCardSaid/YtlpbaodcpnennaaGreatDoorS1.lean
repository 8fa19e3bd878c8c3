/-
  Part 1 of the walk: contracts of the functions that the law reaches, and the calculus they stand on.
  No conditions.
-/
import Derived.Test.YtlpbaodcpnennaaGreatDoorS0
import Derived.Maps.RangeRun
import Derived.RangeFuncLeaves
import Derived.RangeFuncIn
import Derived.RangeFuncSeq
import Derived.RangeFuncRecord
import Derived.TacticsIn
import Derived.Test.YtlpbaodcpnennaaGreatDoorProg
import Derived.Lib.Small
import Derived.Lib.Walk
import Derived.Lib.Bytealg
import Derived.Deep.Draws
import Derived.Deep.QuietTactic
import Derived.Lib.Strings
namespace Go.Sx
open Go
section
variable {P:Program} {w0:World} {f:Fr} {L:ze_} {N:Fr→ze_→Prop} {ops:Array Oper} {rest:List Oper} {md:Md}
 {d:Option Tmp} {ty:TypeId} {ps:String} {af:Array Edge} {g:Option (Nat×Bool)}
theorem aak_ {w0:World} {L:ze_} {b c:Nat} {x:Obj} (h:b≠c):zy_ w0 (setB L b x) c=zy_ w0 L c:=by
 unfold zy_;rw[zb_ h]
end
structure Ext (w:World) (X D:ze_):Prop where
 new: ∀c,c∈keys D→c∈keys X∨w.heap.size≤c
 all: ∀c,c∈keys X→c∈keys D
theorem Ext.refl (w:World) (X:ze_):Ext w X X:=⟨fun _ h=> .inl h,fun _ h=>h⟩
theorem Ext.setB {w:World} {X D:ze_} {b:Nat} {o:Obj} (h:Ext w X D):Ext w X (setB D b o):=⟨fun c hc=>h.new c (by rwa [zU_] at hc),fun c hc=>by rw[zU_];exact h.all c hc⟩
theorem Ext.app {w:World} {X D:ze_} {b:Nat} {o:Obj} (h:Ext w X D) (hb:w.heap.size≤b):Ext w X (D++ [(b,o)]):=
 ⟨fun c hc=>by
  rw[zo_] at hc
  rcases List.mem_append.1 hc with hc|hc
  ·exact h.new c hc
  ·simp only[keys,List.map_cons,List.map_nil,List.mem_singleton] at hc
   exact .inr (hc▸hb),fun c hc=>by rw[zo_];exact List.mem_append_left _ (h.all c hc)⟩
theorem Ext.grew {w:World} {X D D':ze_} {v:Value} (h:Ext w X D) (hg:Grew w v D D'):Ext w X D':=
 ⟨fun c hc=>by
  rcases hg.new c hc with hc| ⟨-,hc⟩
  ·exact h.new c hc
  ·exact .inr hc,fun c hc=>hg.keys c (h.all c hc)⟩
theorem Ext.keys {w:World} {X D D':ze_} (h:Ext w X D) (hk:Sx.keys D'=Sx.keys D):Ext w X D':=⟨fun c hc=>h.new c (hk▸hc),fun c hc=>hk▸h.all c hc⟩
theorem z6_ {w0:World} {L:ze_} {b:Nat} (h:b∉Sx.keys L):zy_ w0 L b=w0.heap[b]? :=by
 unfold zy_
 cases hl:look L b with
 |none=>rfl
 |some o=>exact absurd (zg_ hl) h
theorem Ext.not {w:World} {X D:ze_} (h:Ext w X D) {b:Nat} (hb:b<w.heap.size) (hn:b∉Sx.keys X):b∉Sx.keys D:=fun hm=>by
 rcases h.new b hm with h|h
 ·exact hn h
 ·omega
theorem Ext.old {w:World} {X D:ze_} (h:Ext w X D) {b:Nat} {o:Obj} (hb:w.heap[b]? =some o) (hn:b∉Sx.keys X):zy_ w D b=some o:=by
 rw[z6_ (h.not (Array.getElem?_eq_some_iff.1 hb).1 hn)];exact hb
def XS (w:World) (X:ze_) (S:Value→ze_→Prop) (v:Value) (D:ze_):Prop:=Ext w X D∧S v D
structure Came (w0:World) (L X D:ze_):Prop where
 new: ∀c,c∈Sx.keys D→c∈Sx.keys X∨(jB_ L c∧w0.heap.size≤c)
 all: ∀c,c∈Sx.keys X→c∈Sx.keys D
theorem Ext.came {w:World} {X D D' Y L:ze_} (h:Ext w X (D++Y)) (hc:Came w L D D'):Ext w X (D'++Y):=by
 refine⟨fun c hm=> ?_,fun c hm=> ?_⟩
 ·rw[zo_] at hm
  rcases List.mem_append.1 hm with hm|hm
  ·rcases hc.new c hm with hm| ⟨-,hm⟩
   ·exact h.new c (by rw[zo_];exact List.mem_append_left _ hm)
   ·exact .inr hm
  ·exact h.new c (by rw[zo_];exact List.mem_append_right _ hm)
 ·have:=h.all c hm
  rw[zo_] at this ⊢
  rcases List.mem_append.1 this with hm|hm
  ·exact List.mem_append_left _ (hc.all c hm)
  ·exact List.mem_append_right _ hm
theorem Ext.came0 {w:World} {X D D' L:ze_} (h:Ext w X D) (hc:Came w L D D'):Ext w X D':=by
 have:=Ext.came (Y:= []) (by simpa using h) hc
 simpa using this
theorem Hp.ownX {w0 w:World} {X:ze_} (h:Hp w0 [] w) (hX: ∀p,p∈X→w0.heap[p.1]? =some p.2) (hn: (keys X).Nodup):Hp w0 X w:=by
 refine⟨fun b o hm=> ?_,hn,fun b hb _=>h.old b hb (by simp[keys]),h.size,h.tape,h.os,h.output⟩
 have:=hX (b,o) hm
 simp only at this
 rw[h.old b (Array.getElem?_eq_some_iff.1 this).1 (by simp[keys])]
 exact this
theorem Rets.enterX {P:Program} {k:FuncId} {fn:Func} {c:Code} {rs:List ResultVar} {args:Array Value} {w:World} {S:Value→ze_→Prop} {n:Nat} {X:ze_}
  (hf:P.funcs[k]? =some fn) (hb:fn.body=some c) (hr:fn.results=rs.toArray) (hn:fn.ntmps=n) (hX: ∀p,p∈X→w.heap[p.1]? =some p.2) (hnd: (keys X).Nodup)
  (h:Cw P w c (args.toList++List.replicate (n - args.size) undef) X (retK P w rs (XS w X S))):Rets P k args w (XS w X S):=
 Rets.enter hf hb hr hn fun w' hw'=>h w' (hw'.ownX hX hnd)
section
variable {P:Program} {w0:World} {f:Fr} {L:ze_} {N:Fr→ze_→Prop} {ops:Array Oper} {rest:List Oper} {md:Md}
 {d:Option Tmp} {ty:TypeId} {ps:String} {af:Array Edge} {g:Option (Nat×Bool)}
theorem Ow.callX {l:List Operand} {ts:Array TypeId} {k:FuncId} {X Y:ze_} {S:Value→ze_→Prop} {md':Md} (hL:L=X++Y) (he:md.turn=some md')
  (hs:zs_ ops f ⟨d, .call ⟨.value (.func k),l.toArray,ts⟩,ty,ps,af,g⟩=false)
  (hk: ∀a w,(callFunc k a).run P w= .ok (.enter k a) w)
  (hc: ∀w,Hp w0 L w→(∀p,p∈X→w.heap[p.1]? =some p.2)→(keys X).Nodup→Rets P k (l.map (ev f)).toArray w (XS w X S))
  (hn: ∀v D,Came w0 L X D→S v D→Ow P w0 ops md' rest (qA_ f d v) (D++Y) N):
  Ow P w0 ops md (⟨d, .call ⟨.value (.func k),l.toArray,ts⟩,ty,ps,af,g⟩::rest) f L N:=by
 subst hL
 have hnd: ∀w,Hp w0 (X++Y) w→(keys X).Nodup∧ ∀c,c∈keys Y→c∉keys X:=by
  intro w hw
  have:=hw.nodup
  rw[zo_,List.nodup_append] at this
  exact⟨this.1,fun c hc hx=>this.2.2 c hx c hc rfl⟩
 refine Ow.callF (S:=fun B v D=>((∀c,c∈keys D→c∈keys X∨B≤c)∧(∀c,c∈keys X→c∈keys D)∧S v D)∧ ∃w,Hp w0 (X++Y) w∧w.heap.size=B) he hs hk (fun w hw=> ?_) ?_
 ·refine Calls.mono (hc w hw (fun p hp=>hw.has _ _ (List.mem_append_left _ hp)) (hnd w hw).1) ?_
  rintro e w' ⟨v,D,he,hp,hS⟩
  exact⟨v,D,he,hp,⟨hS.1.new,hS.1.all,hS.2⟩,w,hw,rfl⟩
 ·rintro B v D hab hB ⟨⟨h1,h2,h3⟩,w1,hw1,hwB⟩
  refine⟨D++Y, ?_,hn v D ⟨fun c hc=>(h1 c hc).imp id fun h=>⟨z2_ fun b hb=>by have:=hw1.lt hb;omega,by have:=hw1.size;omega⟩,h2⟩ h3⟩
  intro w w' hwb h k
  have ht:=h.trans k
  have hY: ∀c,c∈keys Y→c∉keys D:=by
   intro c hc hd
   rcases h1 c hd with hx|hx
   ·exact(hnd w h).2 c hc hx
   ·have:=h.lt (b:=c) (by rw[zo_];exact List.mem_append_right _ hc)
    omega
  have e1:X.filter (fun p=> !(keys D).contains p.1)= []:=by
   rw[List.filter_eq_nil_iff]
   intro p hp
   have:=h2 p.1 (List.mem_map.2 ⟨p,hp,rfl⟩)
   simpa using this
  have e2:Y.filter (fun p=> !(keys D).contains p.1)=Y:=jg_ hY
  rw[List.filter_append,e1,e2,List.nil_append] at ht
  refine ht.same (fun p=>by simp[or_comm]) ?_
  have:=ht.nodup
  rw[zo_] at this ⊢
  exact(List.perm_append_comm.nodup_iff).1 this
end
structure OneS {α:Type} (enc:α→Value) (z:α) (w:World) (v:Value) (l:List α) (b off:Nat) (arr:Array Value) (E:TypeId) (fz:Nat×Nat):Prop where
 len: ∀m,Zz_ (.sl m) v=some (vi l.length)
 idx: ∀m (k:Nat),k<l.length→zN_ (.sl m) v (some (k:Int))=some (vp b (off+k*m.2))
 has:0<l.length→w.heap[b]? =some (.cells arr E fz)
 get: ∀k,k<l.length→arr[off+k]? =some (enc (l.getD k z))
theorem OneS.sl {α:Type} {enc:α→Value} {z:α} {w:World} {l:List α} {b off n c:Nat} {arr:Array Value} {E:TypeId} {fz:Nat×Nat} (hn:n=l.length)
  (has:w.heap[b]? =some (.cells arr E fz)) (get: ∀k,k<l.length→arr[off+k]? =some (enc (l.getD k z))):OneS enc z w (vsl b off n c) l b off arr E fz:=by
 subst hn
 exact⟨fun _=>rfl,fun m k h=>by rw[qk_ _ _ _ _ _ _ (by omega)];simp,fun _=>has,get⟩
theorem OneS.lit {α:Type} {enc:α→Value} {z:α} {w:World} {b n c:Nat} {E:TypeId} {fz:Nat×Nat} {arr:Array Value} (l:List α) (hn:n=l.length) (ha:arr=(l.map enc).toArray) (has:w.heap[b]? =some (.cells arr E fz)):OneS enc z w (vsl b 0 n c) l b 0 arr E fz:=
 OneS.sl hn has (by intro k hk;rw[ha,Nat.zero_add,List.getElem?_toArray,List.getElem?_map,List.getD_eq_getElem?_getD,List.getElem?_eq_getElem hk];rfl)
structure RowS {α:Type} (m:Nat) (enc:α→List Value) (z:α) (w:World) (v:Value) (l:List α) (b off:Nat) (arr:Array Value) (E:TypeId) (fz:Nat×Nat):Prop where
 len: ∀x,Zz_ (.sl x) v=some (vi l.length)
 idx: ∀a (k:Nat),k<l.length→zN_ (.sl (a,m)) v (some (k:Int))=some (vp b (off+k*m))
 has:0<l.length→w.heap[b]? =some (.cells arr E fz)
 get: ∀k,k<l.length→ ∀j,j<m→arr[off+k*m+j]? =(enc (l.getD k z))[j]?
theorem RowS.sl {α:Type} {m:Nat} {enc:α→List Value} {z:α} {w:World} {l:List α} {b off n c:Nat} {arr:Array Value} {E:TypeId} {fz:Nat×Nat} (hn:n=l.length)
  (has:w.heap[b]? =some (.cells arr E fz)) (get: ∀k,k<l.length→ ∀j,j<m→arr[off+k*m+j]? =(enc (l.getD k z))[j]?):RowS m enc z w (vsl b off n c) l b off arr E fz:=by
 subst hn
 exact⟨fun _=>rfl,fun a k h=>by rw[qk_ _ _ _ _ _ _ (by omega)];simp,fun _=>has,get⟩
theorem RowS.nil {α:Type} {m:Nat} {enc:α→List Value} {z:α} (w:World) (n c:Nat) (hn:n=0):RowS m enc z w (.slice none n c) [] 0 0 #[] 0 (0,0):=by
 subst hn
 exact⟨fun _=>rfl,fun _ _ h=>absurd h (Nat.not_lt_zero _),fun h=>absurd h (Nat.not_lt_zero _),fun _ h=>absurd h (Nat.not_lt_zero _)⟩
theorem RowS.load {α:Type} {m:Nat} {enc:α→List Value} {z:α} {w:World} {v:Value} {l:List α} {b off:Nat} {arr:Array Value} {E:TypeId} {fz:Nat×Nat} (h:RowS m enc z w v l b off arr E fz) (hm: ∀x,(enc x).length=m) (h0:0<m) {k:Nat} (hk:k<l.length):
  zk_ (some (true,m)) (some (.cells arr E fz)) (off+k*m)=some (.agg (enc (l.getD k z)).toArray):=by
 have hg:=h.get k hk
 have hsz:off+k*m+m≤arr.size:=by
  have h1:=hg (m - 1) (by omega)
  rw[List.getElem?_eq_getElem (by rw[hm];omega)] at h1
  have:=(Array.getElem?_eq_some_iff.1 h1).1
  omega
 simp only[zk_,hsz, ↓reduceIte]
 congr 2
 apply Array.ext_getElem?
 intro j
 rw[Array.getElem?_extract]
 by_cases hj:j<m
 ·rw[if_pos (by omega),hg j hj,List.getElem?_toArray]
 ·rw[if_neg (by omega),List.getElem?_toArray,List.getElem?_eq_none (by rw[hm];omega)]
theorem RowS.cell {α:Type} {m:Nat} {enc:α→List Value} {z:α} {w:World} {v:Value} {l:List α} {b off:Nat} {arr:Array Value} {E:TypeId} {fz:Nat×Nat} (h:RowS m enc z w v l b off arr E fz) {k j n:Nat} (hk:k<l.length) (hj:j<m):
  zk_ (some (false,n)) (some (.cells arr E fz)) (off+k*m+j)=(enc (l.getD k z))[j]? :=h.get k hk j hj
end Go.Sx
namespace Go.Sx
open Go
section
variable {P:Program} {w0:World} {f:Fr} {L:ze_} {N:Fr→ze_→Prop} {ops:Array Oper} {rest:List Oper} {md:Md}
 {d:Option Tmp} {ty:TypeId} {ps:String} {af:Array Edge} {g:Option (Nat×Bool)}
theorem zn_ (R:List Nat) (x:UInt8):rdIn R (v8 x)=true:=(rfl)
theorem wy_ (R:List Nat) (x:UInt16):rdIn R (v16 x)=true:=(rfl)
theorem wv_ (R:List Nat) (x:UInt32):rdIn R (v32 x)=true:=(rfl)
theorem wk_ (R:List Nat) (x:UInt64):rdIn R (v64 x)=true:=(rfl)
theorem zm_ (R:List Nat) (x:Int):rdIn R (vi x)=true:=(rfl)
end
end Go.Sx
namespace Go.Sx
open Go
section
variable {P:Program} {w0:World} {f:Fr} {L:ze_} {N:Fr→ze_→Prop} {ops:Array Oper} {rest:List Oper} {md:Md}
 {d:Option Tmp} {ty:TypeId} {ps:String} {af:Array Edge} {g:Option (Nat×Bool)}
def K0_ (n:Int):Value:= .int .i32 n
theorem afm_ (op:BinOp) (t:TypeId) (a b:Int):q7_ P op t (K0_ a) (K0_ b)=zp_ op (K0_ a) (K0_ b):=(rfl)
theorem J1_ (a b:Int):zp_ .lss (K0_ a) (K0_ b)=some (.bool (decide (a<b))):=by simp[zp_,K0_,jp_,ZF_]
theorem Xx_ (a b:Int):zp_ .gtr (K0_ a) (K0_ b)=some (.bool (decide (b<a))):=by simp[zp_,K0_,jp_,ZF_]
theorem JI_ (a b:Int):zp_ .eql (K0_ a) (K0_ b)=some (.bool (a==b)):=by simp[zp_,K0_,jp_,ZF_]
theorem ai2_ (n:Int):Value.int .i32 n=K0_ n:=(rfl)
theorem Ow.callFn1 {x y:Operand} {ts:Array TypeId} {k:FuncId} {v a:Value} (hs:zs_ ops f ⟨d, .call ⟨.value x, #[y],ts⟩,ty,ps,af,g⟩=false) (hx:ev f x= .func (.func k) #[] #[]) (hy:ev f y=a)
  (hk: ∀a w,(callFunc k a).run P w= .ok (.enter k a) w) (hc: ∀w,Hp w0 L w→Rets P k #[a] w (fun v' D=>v'=v∧D= [])) (hn:Ow P w0 ops md.next rest (qA_ f d v) L N):
  Ow P w0 ops md (⟨d, .call ⟨.value x, #[y],ts⟩,ty,ps,af,g⟩::rest) f L N:=
 Ow.callV hs hx hk (fun w hw=>by simpa [hy] using hc w hw) hn
theorem Ow.rangeText {t:TypeId} {x:Operand} {l:List UInt8} {md':Md} (he:md.turn=some md') (hs:zs_ ops f ⟨d, .range t x,ty,ps,af,g⟩=false) (hu:P.underlying t=some .string) (hx:ev f x=vs l)
  (hn: ∀b,jB_ L b→w0.heap.size≤b→Ow P w0 ops md' rest (qA_ f d (vp b 0)) (L++ [(b, .stringIter ⟨l.toArray⟩ 0)]) N):
  Ow P w0 ops md (⟨d, .range t x,ty,ps,af,g⟩::rest) f L N:=by
 refine Ow.step he rfl hs fun w hw=> .inl ⟨vp w.heap.size 0,w.alloc (.stringIter ⟨l.toArray⟩ 0),_, ?_,hw.alloc _,hn _ (z2_ fun b hb=>hw.lt hb) hw.size⟩
 simp only[execOp,Instr.range,Sem.run_bind,run_underlying hu w,Result.andThen_ok,hx,vs]
 rfl
theorem Ow.nextText {x:Operand} {b:Nat} {l:List UInt8} {pos:Nat} {md':Md} (he:md.turn=some md') (hs:zs_ ops f ⟨d, .next x true,ty,ps,af,g⟩=false) (hx:ev f x=vp b 0) (hl:look L b=some (.stringIter ⟨l.toArray⟩ pos)) (hp:pos<l.length)
  (hn:Ow P w0 ops md' rest (qA_ f d (.tuple #[.bool true,vi pos,K0_ (Utf8.decode ⟨l.toArray⟩ pos).1])) (setB L b (.stringIter ⟨l.toArray⟩ (pos+ (Utf8.decode ⟨l.toArray⟩ pos).2))) N):
  Ow P w0 ops md (⟨d, .next x true,ty,ps,af,g⟩::rest) f L N:=by
 refine Ow.step he rfl hs fun w hw=> ?_
 have hb:=hw.has _ _ (zq_ hl)
 refine .inl ⟨_,{w with heap:=w.heap.setIfInBounds b (.stringIter ⟨l.toArray⟩ (pos+ (Utf8.decode ⟨l.toArray⟩ pos).2))},_, ?_,hw.set (zg_ hl) rfl rfl rfl rfl,hn⟩
 have hg: (getObj b).run P w= .ok (.stringIter ⟨l.toArray⟩ pos) w:=by
  simp only[getObj,Sem.run,hb]
 have hst: ∀o,(setObj b o).run P w= .ok () {w with heap:=w.heap.setIfInBounds b o}:=by
  intro o;simp only[setObj,Sem.run,hb]
 have hsz:pos< (ByteArray.mk l.toArray).size:=by rw[wO_];exact hp
 have: (Instr.next (vp b 0) true ty).run P w= .ok (.tuple #[.bool true,vi pos,K0_ (Utf8.decode ⟨l.toArray⟩ pos).1]) {w with heap:=w.heap.setIfInBounds b (.stringIter ⟨l.toArray⟩ (pos+ (Utf8.decode ⟨l.toArray⟩ pos).2))}:=by
  simp only[Instr.next,vp,Sem.run_bind,hg,Result.andThen_ok,hsz, ↓reduceIte,hst]
  rfl
 simp only[execOp,Sem.run_bind,hx]
 rw[this]
 rfl
theorem Ow.nextOver {x:Operand} {b:Nat} {l:List UInt8} {pos:Nat} {md':Md} (he:md.turn=some md') (hs:zs_ ops f ⟨d, .next x true,ty,ps,af,g⟩=false) (hx:ev f x=vp b 0) (hl:look L b=some (.stringIter ⟨l.toArray⟩ pos)) (hp: ¬pos<l.length)
  (hn:Ow P w0 ops md' rest (qA_ f d (.tuple #[.bool false])) L N):
  Ow P w0 ops md (⟨d, .next x true,ty,ps,af,g⟩::rest) f L N:=by
 refine Ow.step he rfl hs fun w hw=> ?_
 have hb:=hw.has _ _ (zq_ hl)
 refine .inl ⟨.tuple #[.bool false],w,_, ?_,hw,hn⟩
 have hg: (getObj b).run P w= .ok (.stringIter ⟨l.toArray⟩ pos) w:=by
  simp only[getObj,Sem.run,hb]
 have hsz: ¬pos< (ByteArray.mk l.toArray).size:=by rw[wO_];exact hp
 have: (Instr.next (vp b 0) true ty).run P w= .ok (.tuple #[.bool false]) w:=by
  simp only[Instr.next,vp,Sem.run_bind,hg,Result.andThen_ok,hsz, ↓reduceIte]
  rfl
 simp only[execOp,Sem.run_bind,hx]
 rw[this]
 rfl
end
theorem acK_ (l:List UInt8) (i:Nat) (h:i<l.length):0< (Utf8.decode ⟨l.toArray⟩ i).2∧
  ((l.getD i 0).toNat<128→Utf8.decode ⟨l.toArray⟩ i=((l.getD i 0).toNat,1))∧(128≤ (l.getD i 0).toNat→128≤ (Utf8.decode ⟨l.toArray⟩ i).1):=by
 have hb: ((ByteArray.mk l.toArray).get! (i+0))=l.getD i 0:=by
  simp[ByteArray.get!,h]
 unfold Utf8.decode
 simp only[hb]
 generalize (l.getD i 0).toNat=b0
 refine⟨?_,fun h1=> ?_,fun h1=> ?_⟩
 ·(repeat' split)<;>simp
 ·rw[if_pos h1]
 ·rw[if_neg (by omega)]
  (repeat' split)<;>first
   | (simp only[Utf8.runeError];omega)
   | (rename_i hc;simp only[Bool.and_eq_true,decide_eq_true_eq,ge_iff_le] at hc;omega)
   | (rename_i hc;simp only[ge_iff_le] at hc;omega)
end Go.Sx
namespace Go.Sx
open Go
abbrev Vals:=List (List UInt8×List UInt8)
def fnd (k:List UInt8):Vals→Nat→Option (Nat×List UInt8)
 | [],_=>none
 |p::r,i=>if k==p.1 then some (i,p.2) else fnd k r (i+1)
def updV (k v:List UInt8):Vals→Vals
 | []=> [(k,v)]
 |p::r=>if k==p.1 then(p.1,v)::r else p::updV k v r
def wG_ (p:List UInt8×List UInt8):Value×Value:=(vs p.1, .agg (a8 p.2))
def MapR (o:Obj) (m:Vals):Prop:= ∃es clock,o= .map es clock∧es.toList.map (fun e=>(e.key,e.val))=m.map wG_∧(es.toList.map (·.born)++ [clock]).Pairwise (· < ·)
theorem acb_ {es:List MapEntry} {c:Nat} {e:MapEntry} (h: (es.map (·.born)++ [c]).Pairwise (· < ·)) (he:e.born=c): ((es++ [e]).map (·.born)++ [c+1]).Pairwise (· < ·):=by
 rw[List.map_append,List.map_cons,List.map_nil,he]
 refine List.pairwise_append.2 ⟨h,List.pairwise_singleton _ _, ?_⟩
 intro a ha b hb
 rw[List.mem_singleton] at hb
 subst hb
 rcases List.mem_append.1 ha with hm|hm
 ·have:=(List.pairwise_append.1 h).2.2 a hm c (List.mem_singleton.2 rfl)
  omega
 ·rw[List.mem_singleton] at hm
  omega
theorem Jt_ {es:List MapEntry} {j:Nat} {g:MapEntry→MapEntry} (hg: ∀e,(g e).born=e.born): (es.modify j g).map (·.born)=es.map (·.born):=by
 apply List.ext_getElem?
 intro i
 rw[List.getElem?_map,List.getElem?_map,List.getElem?_modify]
 cases es[i]? with
 |none=>rfl
 |some e=>
  by_cases h:j=i
  ·simp[h,hg]
  ·simp[h]
theorem ag8_ {es:List MapEntry} {c j:Nat} (h: (es.map (·.born)++ [c]).Pairwise (· < ·)): ((es.eraseIdx j).map (·.born)++ [c]).Pairwise (· < ·):=
 h.sublist (((List.eraseIdx_sublist es j).map _).append_right [c])
theorem Vt_ (a b:List UInt8): ((ByteArray.mk a.toArray)==(ByteArray.mk b.toArray))=(a==b):=by
 show(a.toArray==b.toArray)=(a==b)
 simp
theorem Vk_ (k:List UInt8): ∀ (es:List MapEntry) (m:Vals) (i:Nat),es.map (fun e=>(e.key,e.val))=m.map wG_→
  Instr.findNow .string (vs k) es i=some ((fnd k m i).map fun p=>(p.1, .agg (a8 p.2)))
 | [],[],i,_=>rfl
 | [],_::_,_,h=>by cases h
 |_::_,[],_,h=>by cases h
 |e::es,p::m,i,h=>by
  simp only[List.map_cons,List.cons.injEq,wG_,Prod.mk.injEq] at h
  obtain⟨⟨h1,h2⟩,h3⟩:=h
  unfold Instr.findNow
  have hs:Instr.sameNow .string (vs k) e.key=some (k==p.1):=by
   rw[h1]
   simp only[vs,Instr.sameNow,Vt_]
  rw[hs]
  unfold fnd
  cases hk: (k==p.1)
  ·simp only[Bool.false_eq_true, ↓reduceIte]
   exact Vk_ k es m (i+1) h3
  ·simp[h2]
theorem Wy_ (k:List UInt8): ∀ (m:Vals) (i j:Nat) (v:List UInt8),fnd k m i=some (j,v)→i≤j∧ ∃a,m[j - i]? =some (k,a)∧a=v
 | [],_,_,_,h=>by cases h
 |p::r,i,j,v,h=>by
  unfold fnd at h
  split at h
  ·rename_i hk
   cases h
   refine⟨Nat.le_refl _,p.2, ?_,rfl⟩
   rw[Nat.sub_self,List.getElem?_cons_zero,eq_of_beq hk]
  ·obtain⟨h1,a,h2,h3⟩:=Wy_ k r (i+1) j v h
   refine⟨by omega,a, ?_,h3⟩
   rw[show j - i=(j - (i+1))+1 by omega,List.getElem?_cons_succ];exact h2
theorem aa0_ (k v:List UInt8): ∀ (es:List MapEntry) (m:Vals) (i j:Nat) (a:List UInt8),es.map (fun e=>(e.key,e.val))=m.map wG_→fnd k m i=some (j,a)→
  (es.modify (j - i) fun e=>{e with key:=vs k,val:= .agg (a8 v)}).map (fun e=>(e.key,e.val))=(updV k v m).map wG_
 | [],[],_,_,_,_,h=>by cases h
 | [],_::_,_,_,_,h,_=>by cases h
 |_::_,[],_,_,_,h,_=>by cases h
 |e::es,p::m,i,j,a,h,hf=>by
  simp only[List.map_cons,List.cons.injEq,wG_,Prod.mk.injEq] at h
  obtain⟨⟨h1,h2⟩,h3⟩:=h
  unfold fnd at hf
  unfold updV
  split at hf
  ·rename_i hk
   cases hf
   rw[if_pos hk,Nat.sub_self]
   simp only[List.modify_zero_cons,List.map_cons,wG_,eq_of_beq hk]
   rw[h3]
  ·rename_i hk
   have hle:=(Wy_ k m (i+1) j a hf).1
   rw[if_neg hk,show j - i=(j - (i+1))+1 by omega]
   simp only[List.modify_succ_cons,List.map_cons,wG_]
   rw[aa0_ k v es m (i+1) j a h3 hf,h1,h2]
theorem abN_ (k v:List UInt8): ∀ (m:Vals) (i:Nat),fnd k m i=none→updV k v m=m++ [(k,v)]
 | [],_,_=>rfl
 |p::r,i,h=>by
  unfold fnd at h
  split at h
  ·cases h
  ·rename_i hk
   unfold updV
   rw[if_neg hk,abN_ k v r (i+1) h];rfl
section
variable {P:Program} {w0:World} {f:Fr} {L:ze_} {N:Fr→ze_→Prop} {ops:Array Oper} {rest:List Oper} {md:Md}
 {d:Option Tmp} {ty:TypeId} {ps:String} {af:Array Edge} {g:Option (Nat×Bool)}
theorem aew_ {w:World} {t:TypeId} (hu:P.underlying t=some .string) (k:List UInt8) (es:List MapEntry) (m:Vals) (h:es.map (fun e=>(e.key,e.val))=m.map wG_):
  (Instr.findKey t (vs k) es).run P w= .ok ((fnd k m 0).map fun p=>(p.1, .agg (a8 p.2))) w:=by
 simp only[Instr.findKey,Sem.run_bind,run_underlying hu w,Result.andThen_ok,Vk_ k es m 0 h]
 rfl
theorem QD_ {w:World} {t:TypeId} (hu:P.underlying t=some .string) (e:Bool) (k:List UInt8): (Instr.checkKey e 10000 t (vs k)).run P w= .ok () w:=by
 unfold Instr.checkKey
 simp only[Sem.run_bind,run_underlying hu w,Result.andThen_ok,vs]
 rfl
theorem qI_ {w:World} {b:Nat} {es:Array MapEntry} {c:Nat} (hb:w.heap[b]? =some (.map es c)): (getObj b).run P w= .ok (.map es c) w:=by
 simp only[getObj,Sem.run,hb]
theorem j2_ {w:World} {b:Nat} {es:Array MapEntry} {c:Nat} (hb:w.heap[b]? =some (.map es c)) (o:Obj): (setObj b o).run P w= .ok () {w with heap:=w.heap.setIfInBounds b o}:=by
 simp only[setObj,Sem.run,hb]
def vm (b:Nat):Value:= .map (some b)
theorem Ow.makeMap {t:TypeId} {md':Md} (he:md.turn=some md') (hs:zs_ ops f ⟨d, .makeMap t none,ty,ps,af,g⟩=false)
  (hn: ∀b o,jB_ L b→w0.heap.size≤b→MapR o []→Ow P w0 ops md' rest (qA_ f d (vm b)) (L++ [(b,o)]) N):
  Ow P w0 ops md (⟨d, .makeMap t none,ty,ps,af,g⟩::rest) f L N:=by
 refine Ow.step he rfl hs fun w hw=> .inl ⟨vm w.heap.size,w.alloc (.map #[] 0),_, ?_,hw.alloc _,hn _ _ (z2_ fun b hb=>hw.lt hb) hw.size ⟨#[],0,rfl,rfl,List.pairwise_singleton _ _⟩⟩
 simp only[execOp,Instr.makeMap,Sem.run_bind,Option.map_none]
 rfl
theorem an1_ {k:List UInt8} {m:Vals} {es:List MapEntry} {j:Nat} {a:List UInt8} (h:es.map (fun e=>(e.key,e.val))=m.map wG_) (hf:fnd k m 0=some (j,a)): ∃e,es[j]? =some e∧e.key=vs k:=by
 obtain⟨-,a',h1,rfl⟩:=Wy_ k m 0 j a hf
 rw[Nat.sub_zero] at h1
 have:=congrArg (·[j]?) h
 simp only[List.getElem?_map,h1,Option.map_some] at this
 cases he:es[j]? with
 |none=>rw[he] at this;cases this
 |some e=>
  rw[he] at this
  simp only[Option.map_some,Option.some.injEq,wG_,Prod.mk.injEq] at this
  exact⟨e,rfl,this.1⟩
theorem Ow.mapUpdate {t kt vt:TypeId} {x y z:Operand} {b:Nat} {o:Obj} {m:Vals} {k v:List UInt8} {md':Md} (he:md.turn=some md') (hs:zs_ ops f ⟨d, .mapUpdate t x y z,ty,ps,af,g⟩=false) (hu:P.underlying t=some (.map kt vt)) (huk:P.underlying kt=some .string)
  (hx:ev f x=vm b) (hy:ev f y=vs k) (hz:ev f z= .agg (a8 v)) (hl:look L b=some o) (hm:MapR o m)
  (hn: ∀o',MapR o' (updV k v m)→Ow P w0 ops md' rest (qA_ f d undef) (setB L b o') N):
  Ow P w0 ops md (⟨d, .mapUpdate t x y z,ty,ps,af,g⟩::rest) f L N:=by
 obtain⟨es,c,rfl,hes,hbo⟩:=hm
 refine Ow.step he rfl hs fun w hw=> ?_
 have hb:=hw.has _ _ (zq_ hl)
 have hfk:=aew_ (w:=w) huk k es.toList m hes
 cases hf:fnd k m 0 with
 |none=>
  rw[hf] at hfk
  refine .inr (.inl ⟨{w with heap:=w.heap.setIfInBounds b (.map (es.push {key:=vs k,val:= .agg (a8 v),born:=c}) (c+1))},_, ?_,hw.set (zg_ hl) rfl rfl rfl rfl,hn _ ⟨_,_,rfl, ?_,by rw[Array.toList_push];exact acb_ hbo rfl⟩⟩)
  ·have: (Instr.mapUpdate t (vm b) (vs k) (.agg (a8 v))).run P w= .ok () {w with heap:=w.heap.setIfInBounds b (.map (es.push {key:=vs k,val:= .agg (a8 v),born:=c}) (c+1))}:=by
    simp only[Instr.mapUpdate,vm,Sem.run_bind,run_underlying hu w,Result.andThen_ok,qI_ hb,QD_ huk,hfk,Option.map_none,j2_ hb]
   simp only[execOp,Sem.run_bind,hx,hy,hz]
   rw[this];rfl
  ·rw[abN_ k v m 0 hf,Array.toList_push,List.map_append,hes,List.map_append];rfl
 |some p=>
  obtain⟨j,a⟩:=p
  rw[hf] at hfk
  obtain⟨e,hej,hek⟩:=an1_ hes hf
  have hej':es[j]? =some e:=by simpa using hej
  have hkt: (Instr.keyThatStays (((es[j]?).map (·.key)).getD (vs k)) (vs k)).run P w= .ok (vs k) w:=by
   rw[hej',Option.map_some,Option.getD_some,hek]
   unfold Instr.keyThatStays
   have:Instr.sameBits 10000 (vs k) (vs k)=true:=by simp[vs,Instr.sameBits,Vt_]
   rw[if_pos this];rfl
  refine .inr (.inl ⟨{w with heap:=w.heap.setIfInBounds b (.map (es.modify j fun e=>{e with key:=vs k,val:= .agg (a8 v)}) c)},_, ?_,hw.set (zg_ hl) rfl rfl rfl rfl,hn _ ⟨_,_,rfl, ?_,by rw[Array.toList_modify,Jt_ (g:=fun e=>{e with key:=vs k,val:= .agg (a8 v)}) fun _=>rfl];exact hbo⟩⟩)
  ·have: (Instr.mapUpdate t (vm b) (vs k) (.agg (a8 v))).run P w= .ok () {w with heap:=w.heap.setIfInBounds b (.map (es.modify j fun e=>{e with key:=vs k,val:= .agg (a8 v)}) c)}:=by
    simp only[Instr.mapUpdate,vm,Sem.run_bind,run_underlying hu w,Result.andThen_ok,qI_ hb,QD_ huk,hfk,Option.map_some,hkt,j2_ hb]
   simp only[execOp,Sem.run_bind,hx,hy,hz]
   rw[this];rfl
  ·rw[Array.toList_modify]
   have:=aa0_ k v es.toList m 0 j a hes hf
   rw[Nat.sub_zero] at this
   exact this
end
end Go.Sx
namespace Go.Sx
open Go
section
variable {P:Program} {w0:World} {f:Fr} {L:ze_} {N:Fr→ze_→Prop} {ops:Array Oper} {rest:List Oper} {md:Md}
 {d:Option Tmp} {ty:TypeId} {ps:String} {af:Array Edge} {g:Option (Nat×Bool)}
end
end Go.Sx
namespace Go.Sx
open Go
def kv (e:MapEntry):Value×Value:=(e.key,e.val)
def ItR (o:Obj) (bm:Nat) (om:Obj) (m dn lf:Vals):Prop:=
 ∃es clock,∃ds:List MapEntry,om= .map es clock∧(es.toList.map (·.born)++ [clock]).Pairwise (· < ·)∧o= .mapIter (some bm) clock (ds.map (·.born)).toArray clock∧
  ds.map kv=dn.map wG_∧(∀d,d∈ds→d∈es.toList)∧((es.toList.filter fun e=> !(ds.map (·.born)).contains e.born).map kv=lf.map wG_)∧(dn++lf).Perm m
theorem Qk_ {l:List MapEntry} {c:Nat} (h: (l.map (·.born)++ [c]).Pairwise (· < ·)): (l.map (·.born)).Nodup:=
 ((List.pairwise_append.1 h).1).imp fun h=>Nat.ne_of_lt h
theorem aoq_ {l:List MapEntry} {c:Nat} (h: (l.map (·.born)++ [c]).Pairwise (· < ·)): ∀x,x∈l→x.born<c:=fun x hx=>
 (List.pairwise_append.1 h).2.2 _ (List.mem_map.2 ⟨x,hx,rfl⟩) c (List.mem_singleton.2 rfl)
theorem aba_ (es:Array MapEntry) (ds:List MapEntry): (leftOf es (ds.map (·.born)).toArray).toList=es.toList.filter fun e=> !(ds.map (·.born)).contains e.born:=by
 unfold leftOf
 rw[Array.toList_filter]
 simp
theorem ItR.start {bm:Nat} {om:Obj} {m:Vals} (h:MapR om m): ∃es clock,om= .map es clock∧ItR (.mapIter (some bm) clock #[] clock) bm om m [] m:=by
 obtain⟨es,clock,rfl,h1,h2⟩:=h
 refine⟨es,clock,rfl,es,clock,[],rfl,h2,rfl,rfl,(fun d hd=>by cases hd), ?_,by rw[List.nil_append]⟩
 rw[show(es.toList.filter fun e=> !(([]:List MapEntry).map (·.born)).contains e.born)=es.toList from List.filter_eq_self.2 (fun _ _=>rfl)]
 exact h1
theorem ItR.step {bm:Nat} {om:Obj} {m dn lf:Vals} {es:Array MapEntry} {clock:Nat} {ds:List MapEntry} {e:MapEntry} (hb: (es.toList.map (·.born)++ [clock]).Pairwise (· < ·))
  (hd:ds.map kv=dn.map wG_) (hm: ∀d,d∈ds→d∈es.toList) (hl: (es.toList.filter fun e=> !(ds.map (·.born)).contains e.born).map kv=lf.map wG_) (hp: (dn++lf).Perm m)
  (he:e∈es.toList.filter fun e=> !(ds.map (·.born)).contains e.born) (hom:om= .map es clock):
  ∃p lf',kv e=wG_ p∧lf.length=lf'.length+1∧ItR (.mapIter (some bm) clock ((ds.map (·.born)).toArray.push e.born) clock) bm om m (dn++ [p]) lf':=by
 obtain⟨A,C,hAC⟩:=List.append_of_mem he
 rw[hAC,List.map_append,List.map_cons] at hl
 obtain⟨l1,l2,rfl,h1,h2⟩:=List.append_eq_map_iff.1 hl
 obtain⟨p,l3,rfl,h3,h4⟩:=(List.map_eq_cons_iff.1 h2)
 refine⟨p,l1++l3,h3.symm,by simp;omega,es,clock,ds++ [e],hom,hb,by simp,by simp[hd,h3], ?_, ?_, ?_⟩
 ·intro d hd'
  rcases List.mem_append.1 hd' with h|h
  ·exact hm d h
  ·rw[List.mem_singleton] at h;subst h;exact(List.mem_filter.1 he).1
 ·have hnd: ((A++e::C).map (·.born)).Nodup:=by
   rw[←hAC]
   exact(Qk_ hb).sublist ((List.filter_sublist).map _)
  have e1: (es.toList.filter fun x=> !((ds++ [e]).map (·.born)).contains x.born)=(A++e::C).filter fun x=> !(x.born==e.born):=by
   rw[←hAC,List.filter_filter]
   refine List.filter_congr fun x hx=> ?_
   simp only[List.map_append,List.map_cons,List.map_nil,List.contains_append,List.contains_cons,List.contains_nil,Bool.or_false,Bool.not_or]
   rw[Bool.and_comm]
  rw[List.map_append,List.map_cons,List.nodup_append] at hnd
  obtain⟨-,hn2,hn3⟩:=hnd
  rw[List.nodup_cons] at hn2
  have e2: ((A++e::C).filter fun x=> !(x.born==e.born))=A++C:=by
   rw[List.filter_append,List.filter_cons]
   simp only[beq_self_eq_true,Bool.not_true,Bool.false_eq_true, ↓reduceIte]
   congr 1
   ·refine List.filter_eq_self.2 fun x hx=> ?_
    have:=hn3 x.born (List.mem_map.2 ⟨x,hx,rfl⟩) e.born List.mem_cons_self
    simpa using this
   ·refine List.filter_eq_self.2 fun x hx=> ?_
    have:x.born≠e.born:=fun h=>hn2.1 (h▸List.mem_map.2 ⟨x,hx,rfl⟩)
    simpa using this
  rw[e1,e2,List.map_append,List.map_append,h1,h4]
 ·refine List.Perm.trans ?_ hp
  rw[List.append_assoc]
  refine List.Perm.append_left dn ?_
  rw[List.singleton_append]
  exact List.perm_middle.symm
section
variable {P:Program} {w0:World} {f:Fr} {L:ze_} {N:Fr→ze_→Prop} {ops:Array Oper} {rest:List Oper} {md:Md}
 {d:Option Tmp} {ty:TypeId} {ps:String} {af:Array Edge} {g:Option (Nat×Bool)}
def itv (b:Nat):Value:= .pointer (some ⟨b,0,none⟩)
end
end Go.Sx
namespace Go.Sx
open Go
theorem air_ (A B C:List Value) {o n:Nat} (hA:A.length=o) (hB:B.length=n): (A++ (B++C)).toArray.extract o (o+n)=B.toArray:=by
 subst hA;subst hB
 rw[List.extract_toArray,List.extract_eq_take_drop,List.drop_left,Nat.add_sub_cancel_left,List.take_left]
theorem akJ_ (A C:List Value) (v:Value) {o:Nat} (hA:A.length=o): (A++ ([v]++C)).toArray[o]? =some v:=by
 subst hA;simp
theorem x6_ (A C:List Value) (v:Value) {o:Nat} (hA:A.length=o): (A++ ([v]++C))[o]? =some v:=by
 subst hA;simp
theorem JY_ (A B B' C:List Value) {o:Nat} (hA:A.length=o) (hB:B.length=B'.length):QJ_ (A++ (B++C)).toArray o B'=(A++ (B'++C)).toArray:=by
 subst hA
 have hp:=acQ_ B' A B C hB
 rw[List.append_assoc,List.append_assoc] at hp
 exact hp
theorem WO_ (A C:List Value) (v:Value) {o n:Nat} (hA:A.length=o):partV (false,n) (A++ ([v]++C)).toArray o=some v:=akJ_ A C v hA
theorem Jp_ (A B C:List Value) {o n:Nat} (E:TypeId) (fz:Nat×Nat) (hA:A.length=o) (hB:B.length=n):zk_ (some (true,n)) (some (.cells (A++ (B++C)).toArray E fz)) o=some (.agg B.toArray):=by
 have hs:o+n≤ (A++ (B++C)).toArray.size:=by
  simp only[List.size_toArray,List.length_append];omega
 unfold zk_
 simp only[hs, ↓reduceIte]
 rw[air_ A B C hA hB]
theorem qw_ (A C:List Value) (v:Value) {o:Nat} (n:Nat) (E:TypeId) (fz:Nat×Nat) (hA:A.length=o):zk_ (some (false,n)) (some (.cells (A++ ([v]++C)).toArray E fz)) o=some v:=by
 rw[abr_];exact akJ_ A C v hA
theorem zt_ (A B B' C:List Value) {o n:Nat} (a:Bool) (x:Value) (E:TypeId) (hA:A.length=o) (hB:B.length=n) (hx:x.cells=B'.toArray) (hB':B'.length=n) (ho:B'.all Value.oneCell'=true):
  zu_ (some (a,n)) (some (.cells (A++ (B++C)).toArray E (0,0))) o x=some (.cells (A++ (B'++C)).toArray E (0,0)):=by
 subst hA
 have hp:=acQ_ B' A B C (by rw[hB,hB'])
 rw[List.append_assoc,List.append_assoc] at hp
 unfold zu_
 simp only[hx]
 rw[if_pos ⟨by rw[List.size_toArray,hB'],by simp only[List.size_toArray,List.length_append];omega, .inl (Nat.le_refl 0),ho⟩,hp]
theorem jJ_ (cs:List Value) {n:Nat} (a:Bool) (old:Array Value) (E:TypeId) (hn:cs.length=n) (ho:cs.all Value.oneCell'=true) (h:old.size=n):
  zu_ (some (a,n)) (some (.cells old E (0,0))) 0 (.agg cs.toArray)=some (.cells cs.toArray E (0,0)):=
 JP_ n a cs.toArray old E ⟨by rw[List.size_toArray,hn],h⟩ ho
theorem w9_ (l:List UInt8): (l.map v8).all Value.oneCell'=true:=by
 rw[List.all_map]
 exact List.all_eq_true.2 fun x _=>rfl
theorem RowS.part {α:Type} {m:Nat} {enc:α→List Value} {z:α} {w:World} {v:Value} {l:List α} {b off:Nat} {arr:Array Value} {E:TypeId} {fz:Nat×Nat} (h:RowS m enc z w v l b off arr E fz) (hm: ∀x,(enc x).length=m) {k o n:Nat} (hk:k<l.length) (ho:o+n≤m) (hn:0<n):
  zk_ (some (true,n)) (some (.cells arr E fz)) (off+k*m+o)=some (.agg ((enc (l.getD k z)).toArray.extract o (o+n))):=by
 have hg: ∀i,i<n→arr[off+k*m+ (o+i)]? =(enc (l.getD k z))[o+i]? :=fun i hi=>h.get k hk (o+i) (by omega)
 have hlen:=hm (l.getD k z)
 have hsz:off+k*m+o+n≤arr.size:=by
  have h1:=hg (n - 1) (by omega)
  rw[List.getElem?_eq_getElem (by omega)] at h1
  have:=(Array.getElem?_eq_some_iff.1 h1).1
  omega
 unfold zk_
 simp only[hsz, ↓reduceIte]
 congr 2
 apply Array.ext_getElem?
 intro i
 by_cases hi:i<n
 ·rw[Array.getElem?_extract,Array.getElem?_extract,if_pos (by omega),if_pos (by rw[List.size_toArray];omega)]
  have hh:=hg i hi
  rw[show off+k*m+ (o+i)=off+k*m+o+i by omega] at hh
  rw[hh]
  exact(List.getElem?_toArray ..).symm
 ·rw[Array.getElem?_eq_none (by rw[Array.size_extract];omega),Array.getElem?_eq_none (by rw[Array.size_extract];omega)]
end Go.Sx
namespace Go.Sx
open Go
end Go.Sx
namespace Go.Sx
open Go
def SlV {α:Type} (m:Nat) (enc:α→List Value) (z:α) (w:World) (v:Value) (l:List α):Prop:=
 ∃b off c arr E fz,RowS m enc z w v l b off arr E fz∧l.length≤c∧((v= .slice none 0 0∧l= []∧c=0)∨(v=vsl b off l.length c∧w.heap[b]? =some (.cells arr E fz)∧off+l.length*m≤arr.size))
section
variable {α:Type} {m:Nat} {enc:α→List Value} {z:α} {w:World} {v:Value} {l:List α}
theorem RowS.sl' {b off n c:Nat} {arr:Array Value} {E:TypeId} {fz:Nat×Nat} (hn:n=l.length)
  (has:0<l.length→w.heap[b]? =some (.cells arr E fz)) (get: ∀k,k<l.length→ ∀j,j<m→arr[off+k*m+j]? =(enc (l.getD k z))[j]?):RowS m enc z w (vsl b off n c) l b off arr E fz:=by
 subst hn
 exact⟨fun x=>rfl,fun a k hk=>qk_ _ _ _ _ _ _ ⟨by omega,by omega⟩,has,get⟩
theorem SlV.nil (w:World):SlV m enc z w (.slice none 0 0) []:=⟨0,0,0, #[],0,(0,0),RowS.nil w 0 0 rfl,Nat.le_refl _, .inl ⟨rfl,rfl,rfl⟩⟩
theorem SlV.row (h:SlV m enc z w v l): ∃b off arr E fz,RowS m enc z w v l b off arr E fz:=by
 obtain⟨b,off,c,arr,E,fz,hr,-⟩:=h;exact⟨b,off,arr,E,fz,hr⟩
theorem SlV.sl {b off c:Nat} {arr:Array Value} {E:TypeId} {fz:Nat×Nat} (has:w.heap[b]? =some (.cells arr E fz)) (get: ∀k,k<l.length→ ∀j,j<m→arr[off+k*m+j]? =(enc (l.getD k z))[j]?) (hc:l.length≤c) (hs:off+l.length*m≤arr.size):SlV m enc z w (vsl b off l.length c) l:=
 ⟨b,off,c,arr,E,fz,RowS.sl rfl has get,hc, .inr ⟨rfl,has,hs⟩⟩
theorem RowS.old {w':World} {b off:Nat} {arr:Array Value} {E:TypeId} {fz:Nat×Nat} {L:ze_} (h:RowS m enc z w v l b off arr E fz) (hw:Hp w L w') (hb:0<l.length→b∉keys L):RowS m enc z w' v l b off arr E fz:=
 ⟨h.len,h.idx,fun hl=>by have hh:=h.has hl;rw[hw.old b (Array.getElem?_eq_some_iff.1 hh).1 (hb hl)];exact hh,h.get⟩
theorem RowS.lt {b off:Nat} {arr:Array Value} {E:TypeId} {fz:Nat×Nat} (h:RowS m enc z w v l b off arr E fz) (hl:0<l.length):b<w.heap.size:=(Array.getElem?_eq_some_iff.1 (h.has hl)).1
theorem SlV.old {w':World} {L:ze_} (h:SlV m enc z w v l) (hw:Hp w L w') (hb: ∀b,slB v=some b→b<w.heap.size→b∉keys L):SlV m enc z w' v l:=by
 obtain⟨b,off,c,arr,E,fz,hr,hc,hv⟩:=h
 rcases hv with⟨rfl,rfl,rfl⟩ | ⟨rfl,hhas,hsz⟩
 ·exact SlV.nil w'
 ·have hnb:=hb b rfl (Array.getElem?_eq_some_iff.1 hhas).1
  refine⟨b,off,c,arr,E,fz,hr.old hw (fun _=>hnb),hc, .inr ⟨rfl, ?_,hsz⟩⟩
  rw[hw.old b (Array.getElem?_eq_some_iff.1 hhas).1 hnb];exact hhas
theorem New.not {L:ze_} {n b:Nat} (h:New n L) (hb:b<n):b∉keys L:=fun hm=>by have:=h.le b hm;omega
theorem SlV.oldN {w':World} {L:ze_} (h:SlV m enc z w v l) (hw:Hp w L w') (hn:New w.heap.size L):SlV m enc z w' v l:=h.old hw fun _ _ hb=>hn.not hb
theorem SlV.len (h:SlV m enc z w v l) (x:Bool×Nat):Zz_ (.sl x) v=some (vi l.length):=by
 obtain⟨b,off,arr,E,fz,hr⟩:=h.row
 exact hr.len x
theorem SlV.take (h:SlV m enc z w v l) {k:Nat} (hk:k≤l.length) (a:Bool): ∃v',qY_ (.sl (a,m)) v none (some (some (k:Int)))=some v'∧SlV m enc z w v' (l.take k)∧(∀b,slB v'=some b→slB v=some b):=by
 obtain⟨b,off,c,arr,E,fz,hr,hc,hv⟩:=h
 have hl: (l.take k).length=k:=by simp;omega
 rcases hv with⟨rfl,rfl,rfl⟩ | ⟨rfl,hhas,hsz⟩
 ·obtain rfl:k=0:=by simpa using hk
  refine⟨.slice none 0 0,rfl,SlV.nil w,fun b hb=>hb⟩
 ·refine⟨vsl b off k c, ?_, ?_,fun b hb=>hb⟩
  ·unfold qY_ vsl
   simp only[any_ _ _ _ (⟨by omega,by omega⟩: (0:Int)≤ (k:Int)∧(k:Int)≤ (c:Int)),Int.toNat_natCast,Nat.zero_mul,Nat.sub_zero,Option.map_some,jc_,Nat.add_zero]
   split<;>rfl
  ·refine⟨b,off,c,arr,E,fz,RowS.sl' hl.symm (fun h0=>hr.has (by omega)) ?_,by omega, .inr ⟨by rw[hl],hhas,by rw[hl];have:k*m≤l.length*m:=Nat.mul_le_mul_right _ hk;omega⟩⟩
   ·intro i hi j hj
    rw[hl] at hi
    rw[hr.get i (by omega) j hj]
    congr 2
    rw[List.getD_eq_getElem?_getD,List.getD_eq_getElem?_getD,List.getElem?_take_of_lt hi]
theorem Buf.slM {L:ze_} {E:TypeId} {n:Nat} {cs:List Value} (h:Buf L E m v n cs) (hw: ∀b o,(b,o)∈L→w.heap[b]? =some o) (hl:l.length=n) (hcs:cs=(l.map enc).flatten) (hm: ∀x,(enc x).length=m):SlV m enc z w v l:=by
 rcases h.inv with⟨rfl,rfl,rfl⟩ | ⟨b,c,rest,rfl,hlk,hlen,hnc,h0,hrest⟩
 ·have:l= []:=by simpa using hl
  subst this;exact SlV.nil w
 ·subst hl
  refine SlV.sl (hw _ _ (zq_ hlk)) ?_ hnc (by rw[List.size_toArray,List.length_append,hlen];omega)
  intro k hk j hj
  rw[Nat.zero_add,List.getElem?_toArray,List.getElem?_append_left (by rw[hlen];have: (k+1)*m≤l.length*m:=Nat.mul_le_mul_right _ hk;rw[Nat.add_mul,Nat.one_mul] at this;omega),hcs]
  clear hlen hrest hlk hcs hnc h
  induction l generalizing k with
  |nil=>simp at hk
  |cons x r ih=>
   rw[List.map_cons,List.flatten_cons]
   cases k with
   |zero=>
    rw[Nat.zero_mul,Nat.zero_add,List.getElem?_append_left (by rw[hm];exact hj),List.getD_cons_zero]
   |succ k=>
    rw[List.getElem?_append_right (by rw[hm,Nat.add_mul,Nat.one_mul];omega),hm,List.getD_cons_succ]
    have:=ih (k:=k) (by simpa using hk)
    rw[←this]
    congr 1
    rw[Nat.add_mul,Nat.one_mul];omega
theorem Buf.slV {L:ze_} {E:TypeId} {n:Nat} {cs:List Value} {w0:World} (h:Buf L E m v n cs) (hw:Hp w0 L w) (hl:l.length=n) (hcs:cs=(l.map enc).flatten) (hm: ∀x,(enc x).length=m):SlV m enc z w v l:=h.slM hw.has hl hcs hm
end
end Go.Sx
namespace Go.Sx
open Go
theorem New.mono {n m:Nat} (h:n≤m): ∀ {L:ze_},New m L→New n L
 | [],_=>trivial
 | (_,_)::_,hL=>⟨Nat.le_trans h hL.1,New.mono h hL.2⟩
theorem New.app {n:Nat} {M:ze_}: ∀ {L:ze_},New n L→New n M→New n (L++M)
 | [],_,hM=>hM
 | (_,_)::_,hL,hM=>⟨hL.1,New.app hL.2 hM⟩
section
variable {P:Program} {w0:World} {f:Fr} {L:ze_} {N:Fr→ze_→Prop} {ops:Array Oper} {rest:List Oper} {md:Md}
 {d:Option Tmp} {ty:TypeId} {ps:String} {af:Array Edge} {g:Option (Nat×Bool)}
theorem Ow.callN {l:List Operand} {ts:Array TypeId} {k:FuncId} {S:Nat→Value→ze_→Prop} {md':Md} (he:md.turn=some md')
  (hs:zs_ ops f ⟨d, .call ⟨.value (.func k),l.toArray,ts⟩,ty,ps,af,g⟩=false)
  (hk: ∀a w,(callFunc k a).run P w= .ok (.enter k a) w)
  (hc: ∀w,Hp w0 L w→Rets P k (l.map (ev f)).toArray w (fun v D=>S w.heap.size v D))
  (hnew: ∀B v D,S B v D→New B D)
  (hn: ∀B v D,jB_ L B→w0.heap.size≤B→S B v D→Ow P w0 ops md' rest (qA_ f d v) (L++D) N):
  Ow P w0 ops md (⟨d, .call ⟨.value (.func k),l.toArray,ts⟩,ty,ps,af,g⟩::rest) f L N:=by
 refine Ow.callF he hs hk (S:=S) hc ?_
 intro B v D ha hB hS
 exact⟨_,Mrg.fresh (hnew B v D hS).le,hn B v D ha hB hS⟩
end
end Go.Sx
section
namespace Go.Sx
open Go
set_option linter.unusedSimpArgs false
section
variable {P:Program} {w0:World} {L:ze_}
theorem vZ_ {w:World} {ts tx ty e:TypeId} {m:Bool×Nat} {z x:Value} {b k:Nat} {new:List Value} (hw:Hp w0 L w)
  (hu:P.underlying ts=some (.slice e)) (hm:qf_ P e=some m) (hi:kh_ P e=true) (hz:zK_ P e=some z) (hzs:z.cells.size=m.2) {d:TypeDesc} (hux:P.underlying tx=some d) (hnx: ∀k,d≠ .int k)
  (hXa: ∀w,Hp w0 L w→AppX P w m.2 x k new) (hbig:2* (0+k)+768≤2^38):
  (k=0∧(Builtin.append_ #[ts,tx] ty #[vsl b 0 0 0,x]).run P w= .ok (vsl b 0 0 0) w)∨
  (0<k∧ ∃v' w' L',(Builtin.append_ #[ts,tx] ty #[vsl b 0 0 0,x]).run P w= .ok v' w'∧Hp w0 L' w'∧Buf L' e m.2 v' (0+k) ([]++new)∧Grew w0 (.slice none 0 0) L L'∧ ∃c,slB v'=some c∧jB_ L c):=by
 obtain⟨i,hi,hb0,hbig⟩:=v6_ hi hbig
 have hti: ∀w,(typeInfo e).run P w= .ok i w:=by
  intro w
  simp only[typeInfo,program,Sem.run_bind]
  show Result.andThen (Result.ok P w) _=_
  simp only[Result.andThen_ok,hi]
  rfl
 have hmd: (match d with| .int _=>true|_=>false)=false:=by
  cases d<;>first|rfl|exact absurd rfl (hnx _)
 have e1: ∀ {α β:Type} (a:α) (f:α→World→Result β),(Sem.run P (pure a) w).andThen f=f a w:=fun _ _=>rfl
 have hX:=hXa w hw
 have hxl:=hX.len
 have hxc:=hX.cells
 have hzv:=xf_ (P:=P) hz
 have room: ∀ (b:Nat) (w:World),(askRoom b).run P w= .ok () w:=by
  intro b w
  unfold askRoom
  split<;>rfl
 have zc: ∀j,(Builtin.zeroCells z.cells j).toList.length=j*m.2:=by
  intro j;simp[Builtin.zeroCells,hzs]
 have hbg: ∀c,c<0+k→ ¬ (Builtin.nextslicecap (0+k) c*i.bytes>2^48):=by
  intro c hc
  have:=vG_ hc
  have h2:=Nat.mul_le_mul_right i.bytes this
  omega
 by_cases hk:k=0
 ·subst hk
  have hnew:new= []:=List.eq_nil_of_length_eq_zero (by have:=hX.size;omega)
  subst hnew
  refine .inl ⟨rfl, ?_⟩
  simp only[Builtin.append_,vsl,List.getElem?_toArray,List.getElem?_cons_zero,List.getElem?_cons_succ,Sem.run_bind,run_underlying hu w,Result.andThen_ok,zL_ hm w,run_underlying hux w,hmd,e1,Bool.false_eq_true, ↓reduceIte,hxl,Bool.not_false,Nat.add_zero,Nat.le_refl,hxc]
  rfl
 ·have hpos: ¬0+k≤0:=by omega
  have hbg':=hbg 0 (by omega)
  simp only[Builtin.append_,List.getElem?_toArray,List.getElem?_cons_zero,List.getElem?_cons_succ,Sem.run_bind,run_underlying hu w,Result.andThen_ok,zL_ hm w,run_underlying hux w,hmd,e1,Bool.false_eq_true, ↓reduceIte,hxl,Bool.not_false,hpos,vsl,hti,hb0,or_false,and_false,hbg']
  have hch: (choose (Question.appendCap (0+k) 0 e)).run P w= .ok ((0+k)+w.tape w.drawn (.appendCap (0+k) 0 e)% (2^63 - (0+k))) w.drew:=rfl
  rw[hch]
  generalize hcc: (0+k)+w.tape w.drawn (.appendCap (0+k) 0 e)% (2^63 - (0+k))=c
  have hw1:=hw.drew
  have hX1:=hXa _ hw1
  have hold: (Builtin.firstCells m.2 0 (Value.slice (some ⟨b,0,none⟩) 0 0)).run P w.drew= .ok #[] w.drew:=by
   simp only[Builtin.firstCells,Nat.zero_mul];rfl
  simp only[Result.andThen_ok,room,hold,hX1.cells,hzv]
  refine .inr ⟨by omega,_,_,L++ [(w.drew.heap.size, .cells ([]++new++ (Builtin.zeroCells z.cells (c - (0+k))).toList).toArray e (0,0))],rfl, ?_, .at_ (b:=w.drew.heap.size) (rest:=(Builtin.zeroCells z.cells (c - (0+k))).toList) ?_ ?_ ?_ (by omega) (by omega), ?_,⟨_,rfl,z2_ fun b hb=>hw1.lt hb⟩⟩
  ·have ea: ([]++new++ (Builtin.zeroCells z.cells (c - (0+k))).toList).toArray= #[]++new.toArray++Builtin.zeroCells z.cells (c - (0+k)):=by apply Array.ext';simp
   rw[ea]
   exact hw1.alloc _
  ·rw[zM_ (fun hm=>Nat.lt_irrefl _ (hw1.lt hm))]
   simp[look]
  ·rw[List.nil_append,hX.size,Nat.zero_add]
  ·exact zc _
  ·refine⟨fun c hc=>by rw[zo_];exact List.mem_append_left _ hc,fun c hc=> ?_,fun c o hne ho=>zi_ ho⟩
   rw[zo_] at hc
   rcases List.mem_append.1 hc with hc|hc
   ·exact .inl hc
   ·right
    simp only[keys,List.map_cons,List.map_nil,List.mem_singleton] at hc
    subst hc
    exact⟨z2_ fun b hb=>hw1.lt hb,hw1.size⟩
end
section
variable {P:Program} {w0:World} {f:Fr} {L:ze_} {N:Fr→ze_→Prop} {ops:Array Oper} {rest:List Oper} {md:Md}
 {d:Option Tmp} {ty:TypeId} {ps:String} {af:Array Edge} {g:Option (Nat×Bool)}
theorem Ow.appendEm {ts tx e:TypeId} {m:Bool×Nat} {z:Value} {s x:Operand} {b k:Nat} {new:List Value} {dx:TypeDesc} {md':Md} (hsv:ev f s=vsl b 0 0 0) (he:md.turn=some md')
  (hs:zs_ ops f ⟨d, .call ⟨.builtin .append, #[s,x], #[ts,tx]⟩,ty,ps,af,g⟩=false)
  (hu:P.underlying ts=some (.slice e)) (hm:qf_ P e=some m) (hi:kh_ P e=true) (hz:zK_ P e=some z) (hzs:z.cells.size=m.2) (hux:P.underlying tx=some dx) (hnx: ∀k,dx≠ .int k)
  (hX: ∀w,Hp w0 L w→AppX P w m.2 (ev f x) k new) (hbig:2* (0+k)+768≤2^38)
  (hn0:k=0→Ow P w0 ops md' rest (qA_ f d (vsl b 0 0 0)) L N)
  (hn: ∀v' L',0<k→Buf L' e m.2 v' (0+k) ([]++new)→Grew w0 (.slice none 0 0) L L'→(∃c,slB v'=some c∧jB_ L c)→Ow P w0 ops md' rest (qA_ f d v') L' N):
  Ow P w0 ops md (⟨d, .call ⟨.builtin .append, #[s,x], #[ts,tx]⟩,ty,ps,af,g⟩::rest) f L N:=by
 refine Ow.step he rfl hs fun w hw=> ?_
 rcases vZ_ (ty:=ty) (b:=b) hw hu hm hi hz hzs hux hnx hX hbig with⟨hk,hr⟩ | ⟨hk,v',w',L',hr,hp,hb,hg,hsl⟩
 ·refine .inl ⟨_,w,L, ?_,hw,hn0 hk⟩
  simp only[execOp,resolve,Sem.run_bind,Sem.run_pure,Result.andThen_ok,invoke,builtin,List.map_toArray,List.map_cons,List.map_nil,hsv]
  rw[hr]
  rfl
 ·refine .inl ⟨v',w',L', ?_,hp,hn v' L' hk hb hg hsl⟩
  simp only[execOp,resolve,Sem.run_bind,Sem.run_pure,Result.andThen_ok,invoke,builtin,List.map_toArray,List.map_cons,List.map_nil,hsv]
  rw[hr]
  rfl
end
end Go.Sx
end
namespace Go.Sx
open Go
def Gr (L:ze_) (E:TypeId) (m:Nat) (v:Value) (n:Nat) (cs:List Value):Prop:=
 Buf L E m v n cs∨(n=0∧cs= []∧ ∃b,v=vsl b 0 0 0∧look L b=some (.cells #[] E (0,0)))
theorem Gr.nl {L:ze_} {E:TypeId} {m:Nat}:Gr L E m (.slice none 0 0) 0 []:= .inl .nl
theorem Grew.any {w0:World} {v v':Value} {L L':ze_} (h:Grew w0 v L L') (hv:slB v=none):Grew w0 v' L L':=
 ⟨h.keys,h.new,fun c o _ hl=>h.look c o (by rw[hv];simp) hl⟩
theorem Gr.keep {L L':ze_} {E:TypeId} {m n:Nat} {v:Value} {cs:List Value} (h:Gr L E m v n cs) (hk: ∀b o,slB v=some b→look L b=some o→look L' b=some o):Gr L' E m v n cs:=by
 rcases h with h| ⟨h1,h2,b,rfl,h3⟩
 ·exact .inl (h.keep hk)
 ·exact .inr ⟨h1,h2,b,rfl,hk b _ rfl h3⟩
theorem Gr.app {L M:ze_} {E:TypeId} {m n:Nat} {v:Value} {cs:List Value} (h:Gr L E m v n cs):Gr (L++M) E m v n cs:=h.keep fun _ _ _ hl=>zi_ hl
theorem Gr.len {L:ze_} {E:TypeId} {m n:Nat} {v:Value} {cs:List Value} (h:Gr L E m v n cs) (x:Bool×Nat):Zz_ (.sl x) v=some (vi n):=by
 rcases h with h| ⟨rfl,rfl,b,rfl,-⟩
 ·exact h.len x
 ·rfl
theorem Gr.cell {L:ze_} {E:TypeId} {m n:Nat} {v:Value} {cs:List Value} (h:Gr L E m v n cs):Value.oneCell' v=true∧v.cells= #[v]:=by
 rcases h with h| ⟨rfl,rfl,b,rfl,-⟩
 ·exact h.cell
 ·exact⟨rfl,rfl⟩
theorem Gr.key {L:ze_} {E:TypeId} {m n:Nat} {v:Value} {cs:List Value} (h:Gr L E m v n cs) {b:Nat} (hb:slB v=some b):b∈keys L:=by
 rcases h with h| ⟨rfl,rfl,c,rfl,hl⟩
 ·rcases h.inv with⟨rfl,-,-⟩ | ⟨c,cc,rest,rfl,hl,-⟩
  ·cases hb
  ·cases hb;exact zg_ hl
 ·cases hb;exact zg_ hl
section
variable {α:Type} {m:Nat} {enc:α→List Value} {z:α} {w:World} {v:Value} {l:List α}
theorem Gr.slM {L:ze_} {E:TypeId} {n:Nat} {cs:List Value} (h:Gr L E m v n cs) (hw: ∀b o,(b,o)∈L→w.heap[b]? =some o) (hl:l.length=n) (hcs:cs=(l.map enc).flatten) (hm: ∀x,(enc x).length=m):SlV m enc z w v l:=by
 rcases h with h| ⟨rfl,rfl,b,rfl,hlk⟩
 ·exact h.slM hw hl hcs hm
 ·obtain rfl:l= []:=List.eq_nil_of_length_eq_zero hl
  exact SlV.sl (l:=([]:List α)) (off:=0) (c:=0) (hw _ _ (zq_ hlk)) (fun k hk=>by simp at hk) (Nat.le_refl 0) (by simp)
theorem Gr.slV {L:ze_} {E:TypeId} {n:Nat} {cs:List Value} {w0:World} (h:Gr L E m v n cs) (hw:Hp w0 L w) (hl:l.length=n) (hcs:cs=(l.map enc).flatten) (hm: ∀x,(enc x).length=m):SlV m enc z w v l:=h.slM hw.has hl hcs hm
theorem QM_ (hm: ∀x,(enc x).length=m) (arr:Array Value): ∀ (ls:List α) (off:Nat),off+ls.length*m≤arr.size→(∀k j,k<ls.length→j<m→arr[off+k*m+j]? =(enc (ls.getD k z))[j]?)→
  (arr.extract off (off+ls.length*m)).toList=(ls.map enc).flatten
 | [],off,_,_=>by simp
 |r::ls,off,hs,h=>by
  have hlm: (r::ls).length*m=m+ls.length*m:=by rw[List.length_cons,Nat.add_mul,Nat.one_mul,Nat.add_comm]
  rw[hlm] at hs ⊢
  have ih:=QM_ hm arr ls (off+m) (by omega) (fun k j hk hj=>by
   have:=h (k+1) j (by simpa using hk) hj
   rw[List.getD_cons_succ] at this
   rw[←this];congr 1;rw[Nat.add_mul,Nat.one_mul];omega)
  have h0: (arr.extract off (off+m)).toList=enc r:=by
   apply List.ext_getElem?
   intro j
   rw[Array.getElem?_toList,Array.getElem?_extract]
   by_cases hj:j<m
   ·rw[if_pos (by omega)]
    have:=h 0 j (by simp) hj
    simpa using this
   ·rw[if_neg (by omega),List.getElem?_eq_none (by rw[hm];omega)]
  rw[List.map_cons,List.flatten_cons,←ih,←h0,←Array.toList_append]
  congr 1
  rw[Array.extract_append_extract]
  congr 1<;>omega
theorem aeP_ (hm: ∀x,(enc x).length=m) (l:List α): (l.map enc).flatten.length=l.length*m:=by
 induction l with
 |nil=>simp
 |cons x r ih=>rw[List.map_cons,List.flatten_cons,List.length_append,ih,hm,List.length_cons,Nat.add_mul,Nat.one_mul,Nat.add_comm]
theorem AppX.one1 {P:Program} {b:Nat} {E:TypeId} {fz:Nat×Nat} {cs:List Value} (hb:w.heap[b]? =some (.cells cs.toArray E fz)) (hm:cs.length=m) (h1:cs.all Value.oneCell'=true):AppX P w m (vsl b 0 1 1) 1 cs:=by
 refine AppX.block (w0:=w) (L:= []) (by rw[ZU_];exact hb) (by simp;omega) ?_ h1 (Hp.refl w)
 rw[List.extract_toArray,List.extract_eq_take_drop,List.drop_zero,List.take_of_length_le (by omega)]
theorem SlV.appX {P:Program} (h:SlV m enc z w v l) (hm: ∀x,(enc x).length=m) (h1: ∀x,(enc x).all Value.oneCell'=true):AppX P w m v l.length (l.map enc).flatten:=by
 obtain⟨b,off,c,arr,E,fz,hr,hc,hv⟩:=h
 rcases hv with⟨rfl,rfl,rfl⟩ | ⟨rfl,hhas,hsz⟩
 ·exact AppX.nil P w m
 ·refine AppX.block (w0:=w) (L:= []) (by rw[ZU_];exact hhas) hsz (QM_ (z:=z) hm arr l off hsz (fun k j hk hj=>hr.get k hk j hj)) ?_ (Hp.refl w)
  rw[List.all_flatten,List.all_map,List.all_eq_true]
  exact fun r _=>h1 r
end
section
variable {P:Program} {w0:World} {f:Fr} {L:ze_} {N:Fr→ze_→Prop} {ops:Array Oper} {rest:List Oper} {md:Md}
 {d:Option Tmp} {ty:TypeId} {ps:String} {af:Array Edge} {g:Option (Nat×Bool)}
theorem Ow.appendG {ts tx e:TypeId} {m:Bool×Nat} {z:Value} {s x:Operand} {n k:Nat} {cs new:List Value} {dx:TypeDesc} {md':Md} (sv:Value) (hsv:ev f s=sv) (he:md.turn=some md')
  (hs:zs_ ops f ⟨d, .call ⟨.builtin .append, #[s,x], #[ts,tx]⟩,ty,ps,af,g⟩=false)
  (hu:P.underlying ts=some (.slice e)) (hm:qf_ P e=some m) (hi:kh_ P e=true) (hz:zK_ P e=some z) (hzs:z.cells.size=m.2) (hux:P.underlying tx=some dx) (hnx: ∀k,dx≠ .int k)
  (hB:Gr L e m.2 sv n cs) (hX: ∀w,Hp w0 L w→AppX P w m.2 (ev f x) k new) (hlen:new.length=k*m.2) (hbig:2* (n+k)+768≤2^38)
  (hn: ∀v' L',Gr L' e m.2 v' (n+k) (cs++new)→(0<k→Buf L' e m.2 v' (n+k) (cs++new))→Grew w0 sv L L'→(slB v'=slB sv∨ ∃c,slB v'=some c∧jB_ L c)→Ow P w0 ops md' rest (qA_ f d v') L' N):
  Ow P w0 ops md (⟨d, .call ⟨.builtin .append, #[s,x], #[ts,tx]⟩,ty,ps,af,g⟩::rest) f L N:=by
 rcases hB with hB| ⟨rfl,rfl,b,rfl,hlk⟩
 ·exact Ow.append sv hsv he hs hu hm hi hz hzs hux hnx hB hX hbig fun v' L' h1 h2 h3=>hn v' L' (.inl h1) (fun _=>h1) h2 h3
 ·refine Ow.appendEm hsv he hs hu hm hi hz hzs hux hnx hX hbig (fun h0=> ?_) (fun v' L' hk h1 h2 h3=> ?_)
  ·subst h0
   obtain rfl:new= []:=List.eq_nil_of_length_eq_zero (by rw[hlen,Nat.zero_mul])
   exact hn _ L (.inr ⟨rfl,rfl,b,rfl,hlk⟩) (fun h=>absurd h (Nat.lt_irrefl 0)) (Grew.refl _ _ _) (.inl rfl)
  ·exact hn v' L' (.inl h1) (fun _=>h1) (h2.any rfl) (.inr h3)
end
end Go.Sx
namespace Go.Sx
open Go
theorem aia_ {w0:World} {L M:ze_} {r:Nat} (h:r∈keys L):zy_ w0 (L++M) r=zy_ w0 L r:=by
 obtain⟨o,ho⟩:=Jk_ h
 rw[za_ ho,za_ (zi_ ho)]
theorem j6_ {w0:World} {L M:ze_} {R:List Nat} (h: ∀r,r∈R→r∈keys L): ∀r,r∈R→zy_ w0 (L++M) r=zy_ w0 L r:=fun r hr=>aia_ (h r hr)
theorem New.of_le {n:Nat}: ∀ {D:ze_},(∀c,c∈keys D→n≤c)→New n D
 | [],_=>trivial
 | (b,o)::r,h=>⟨h b (by simp[keys]),New.of_le fun c hc=>h c (by simp only[keys,List.map_cons,List.mem_cons] at hc ⊢;exact .inr hc)⟩
theorem agw_ {w0:World} {L M:ze_} {r:Nat} (h:r∉keys M):zy_ w0 (M++L) r=zy_ w0 L r:=by
 unfold zy_;rw[zM_ h]
theorem Ext.new0 {w:World} {D:ze_} (h:Ext w [] D):New w.heap.size D:=by
 have hn:=h.new
 have key: ∀ (D:ze_),(∀c,c∈Sx.keys D→w.heap.size≤c)→New w.heap.size D:=by
  intro D
  induction D with
  |nil=>intro _;trivial
  |cons p r ih=>
   obtain⟨b,o⟩:=p
   intro hh
   exact⟨hh b (by simp[Sx.keys]),ih fun c hc=>hh c (by simp only[Sx.keys,List.map_cons,List.mem_cons] at hc ⊢;exact .inr hc)⟩
 refine key D fun c hc=> ?_
 rcases hn c hc with h1|h1
 ·cases h1
 ·exact h1
theorem Ext.of_new {w:World} {D:ze_} (h:New w.heap.size D):Ext w [] D:=⟨fun c hc=> .inr (h.le c hc),fun c hc=>by cases hc⟩
section
variable {P:Program} {w0:World} {f:Fr} {L:ze_} {N:Fr→ze_→Prop} {K:xN_} {ops:Array Oper} {rest:List Oper} {md:Md}
 {d:Option Tmp} {ty:TypeId} {ps:String} {af:Array Edge} {g:Option (Nat×Bool)}
theorem jK_ {b:Nat} {o:Obj}: ∀ {B:ze_},(keys B).Nodup→(b,o)∈B→look B b=some o
 | [],_,h=>by cases h
 | (c,x)::q,hn,h=>by
  simp only[keys,List.map_cons,List.nodup_cons] at hn
  unfold look
  rcases List.mem_cons.1 h with h|h
  ·cases h;rw[if_pos rfl]
  ·have:c≠b:=fun e=>hn.1 (e▸List.mem_map.2 ⟨_,h,rfl⟩)
   rw[if_neg this]
   exact jK_ hn.2 h
theorem SR.perm {R:List Nat} {M:ze_} (h:M.Perm L) (hn: (keys L).Nodup):SR w0 R M=SR w0 R L:=by
 refine wx_ fun r _=> ?_
 have hk: ∀ (A B:ze_),A.Perm B→(keys B).Nodup→ ∀o,look A r=some o→look B r=some o:=fun A B hp hB o ho=>jK_ hB (hp.mem_iff.1 (zq_ ho))
 have hnM: (keys M).Nodup:=(List.Perm.nodup_iff (h.map Prod.fst)).2 hn
 unfold zy_
 cases hl:look L r with
 |some o=>rw[hk L M h.symm hnM o hl]
 |none=>
  cases hm:look M r with
  |none=>rfl
  |some o=>rw[hk M L h hn o hm] at hl;cases hl
theorem OwD.permL {l:List Oper} {listed:List Bool} {n:Nat} {R ts:List Nat} {a d:Nat} {z:Obj} {M:ze_} (hp:M.Perm L) (h:OwD P w0 l R ts a d z n listed f M N):OwD P w0 l R ts a d z n listed f L N:=by
 refine⟨fun w hw=> ?_,fun b w hb hbL hw=> ?_⟩
 ·have:=h.1 w (hw.perm hp)
  rw[SR.perm hp hw.nodup] at this
  exact this
 ·have hnd: (keys L).Nodup:=by
   have:=hw.nodup
   rw[zo_,List.nodup_append] at this
   exact this.1
  have:=h.2 b w hb (fun hm=>hbL (by have:=(hp.map Prod.fst).mem_iff.1 hm;exact this)) (hw.perm (hp.append_right _))
  rw[SR.perm hp hnd] at this
  exact this
theorem Cw.permL {c:Code} {M:ze_} (hp:M.Perm L) (h:Cw P w0 c f M K):Cw P w0 c f L K:=fun w hw=>h w (hw.perm hp)
theorem Ow.permL {M:ze_} {l:List Oper} (hp:M.Perm L) (h:Ow P w0 ops .seq l f M N):Ow P w0 ops .seq l f L N:=fun w hw=>h w (hw.perm hp)
theorem Ow.callC {l:List Operand} {ts:Array TypeId} {k:FuncId} {S:Value→ze_→Prop} {md':Md} (he:md.turn=some md')
  (hs:zs_ ops f ⟨d, .call ⟨.value (.func k),l.toArray,ts⟩,ty,ps,af,g⟩=false)
  (hk: ∀a w,(callFunc k a).run P w= .ok (.enter k a) w)
  (hc: ∀w,Hp w0 L w→Rets P k (l.map (ev f)).toArray w (XS w [] S))
  (hn: ∀B v D,jB_ L B→w0.heap.size≤B→New B D→S v D→Ow P w0 ops md' rest (qA_ f d v) (L++D) N):
  Ow P w0 ops md (⟨d, .call ⟨.value (.func k),l.toArray,ts⟩,ty,ps,af,g⟩::rest) f L N:=
 Ow.callN he hs hk (S:=fun B v D=>New B D∧S v D) (fun w hw=>(hc w hw).mono fun _v _D h=>⟨h.1.new0,h.2⟩) (fun _ _ _ h=>h.1) (fun B v D hA hB hS=>hn B v D hA hB hS.1 hS.2)
theorem Hp.part {w:World} {X Y:ze_} (h:Hp w0 (X++Y) w):Hp w X w:=
 ⟨fun b o hm=>h.has b o (List.mem_append_left _ hm),by have:=h.nodup;rw[zo_,List.nodup_append] at this;exact this.1,fun _ _ _=>rfl,Nat.le_refl _,rfl,rfl,rfl⟩
theorem Hp.join {w w':World} {X Y D:ze_} (h:Hp w0 (X++Y) w) (k:Hp w D w') (h1: ∀c,c∈keys X→c∈keys D) (h2: ∀c,c∈keys D→c∈keys X∨w.heap.size≤c):Hp w0 (D++Y) w':=by
 have hnd:=h.nodup
 rw[zo_,List.nodup_append] at hnd
 have hY: ∀c,c∈keys Y→c∉keys D:=by
  intro c hc hd
  rcases h2 c hd with hx|hx
  ·exact hnd.2.2 c hx c hc rfl
  ·have:=h.lt (b:=c) (by rw[zo_];exact List.mem_append_right _ hc)
   omega
 have ht:=h.trans k
 have e: (X++Y).filter (fun p=> !(keys D).contains p.1)=Y:=by
  rw[List.filter_append,jg_ hY]
  have:X.filter (fun p=> !(keys D).contains p.1)= []:=by
   rw[List.filter_eq_nil_iff]
   intro p hp
   have:=h1 p.1 (List.mem_map.2 ⟨p,hp,rfl⟩)
   simp[this]
  rw[this,List.nil_append]
 rw[e] at ht
 exact ht.perm List.perm_append_comm
theorem Ow.appendX {ts tx e:TypeId} {m:Bool×Nat} {z:Value} {s x:Operand} {n k:Nat} {cs new:List Value} {dx:TypeDesc} {md':Md} {X Y:ze_} (sv:Value) (hL:L=X++Y) (hsv:ev f s=sv) (he:md.turn=some md')
  (hs:zs_ ops f ⟨d, .call ⟨.builtin .append, #[s,x], #[ts,tx]⟩,ty,ps,af,g⟩=false)
  (hu:P.underlying ts=some (.slice e)) (hm:qf_ P e=some m) (hi:kh_ P e=true) (hz:zK_ P e=some z) (hzs:z.cells.size=m.2) (hux:P.underlying tx=some dx) (hnx: ∀k,dx≠ .int k)
  (hB:Gr X e m.2 sv n cs) (hX: ∀w,Hp w0 L w→AppX P w m.2 (ev f x) k new) (hk:0<k) (hbig:2* (n+k)+768≤2^38)
  (hn: ∀B v' D,jB_ L B→w0.heap.size≤B→Buf D e m.2 v' (n+k) (cs++new)→(∀c,c∈keys X→c∈keys D)→(∀c,c∈keys D→c∈keys X∨B≤c)→(∀c o,slB sv≠some c→look X c=some o→look D c=some o)→Ow P w0 ops md' rest (qA_ f d v') (D++Y) N):
  Ow P w0 ops md (⟨d, .call ⟨.builtin .append, #[s,x], #[ts,tx]⟩,ty,ps,af,g⟩::rest) f L N:=by
 subst hL
 refine Ow.step he rfl hs fun w hw=> ?_
 have hp:=hw.part
 have hA:jB_ (X++Y) w.heap.size:=z2_ fun b hb=>hw.lt hb
 have fin: ∀v' w' D,(Builtin.append_ #[ts,tx] ty #[sv,ev f x]).run P w= .ok v' w'→Hp w D w'→Buf D e m.2 v' (n+k) (cs++new)→(∀c,c∈keys X→c∈keys D)→(∀c,c∈keys D→c∈keys X∨w.heap.size≤c)→(∀c o,slB sv≠some c→look X c=some o→look D c=some o)→
   (∃v w' L',(execOp (ev f) ⟨d, .call ⟨.builtin .append, #[s,x], #[ts,tx]⟩,ty,ps,af,g⟩).run P w= .ok (.value v) w'∧Hp w0 L' w'∧Ow P w0 ops md' rest (qA_ f d v) L' N):=by
  intro v' w' D hr hD hb h1 h2 h3
  refine⟨v',w',D++Y, ?_,hw.join hD h1 h2,hn w.heap.size v' D hA hw.size hb h1 h2 h3⟩
  simp only[execOp,resolve,Sem.run_bind,Sem.run_pure,Result.andThen_ok,invoke,builtin,List.map_toArray,List.map_cons,List.map_nil,hsv]
  rw[hr]
  rfl
 have hX': ∀w',Hp w [] w'→True:=fun _ _=>trivial
 rcases hB with hB| ⟨rfl,rfl,b,rfl,hlk⟩
 ·obtain⟨v',w',D,hr,hD,hb,hg,-⟩:=Qc_ (w0:=w) (L:=X) (ty:=ty) (x:=ev f x) hp hu hm hi hz hzs hux hnx hB (fun w2 hw2=>hX w2 (by
   refine hw.join hw2 (fun c hc=>hc) (fun c hc=> .inl hc))) hbig
  exact .inl (fin v' w' D hr hD hb hg.keys (fun c hc=>(hg.new c hc).imp id And.right) hg.look)
 ·rcases vZ_ (w0:=w) (L:=X) (ty:=ty) (b:=b) (x:=ev f x) hp hu hm hi hz hzs hux hnx (fun w2 hw2=>hX w2 (by
   refine hw.join hw2 (fun c hc=>hc) (fun c hc=> .inl hc))) hbig with⟨h0,-⟩ | ⟨-,v',w',D,hr,hD,hb,hg,-⟩
  ·omega
  ·exact .inl (fin v' w' D hr hD hb hg.keys (fun c hc=>(hg.new c hc).imp id And.right) (fun c o _ hl=>hg.look c o (by simp[slB]) hl))
end
def GrI (D:ze_) (E:TypeId) (m:Nat) (v:Value) (n:Nat) (cs:List Value):Prop:= ∃X,(∀p,p∈X→p∈D)∧Gr X E m v n cs
theorem Gr.i {X D:ze_} {E:TypeId} {m n:Nat} {v:Value} {cs:List Value} (h:Gr X E m v n cs) (hX: ∀p,p∈X→p∈D):GrI D E m v n cs:=⟨X,hX,h⟩
theorem GrI.mono {D D':ze_} {E:TypeId} {m n:Nat} {v:Value} {cs:List Value} (h:GrI D E m v n cs) (hX: ∀p,p∈D→p∈D'):GrI D' E m v n cs:=by
 obtain⟨X,h1,h2⟩:=h;exact⟨X,fun p hp=>hX p (h1 p hp),h2⟩
theorem GrI.slV {α:Type} {m:Nat} {enc:α→List Value} {z:α} {w0 w:World} {v:Value} {l:List α} {D:ze_} {E:TypeId} {n:Nat} {cs:List Value} (h:GrI D E m v n cs) (hw:Hp w0 D w) (hl:l.length=n) (hcs:cs=(l.map enc).flatten) (hm: ∀x,(enc x).length=m):SlV m enc z w v l:=by
 obtain⟨X,h1,h2⟩:=h
 exact h2.slM (fun b o hm=>hw.has b o (h1 _ hm)) hl hcs hm
section
variable {P:Program} {w0:World} {f:Fr} {L:ze_} {N:Fr→ze_→Prop}
theorem adj_ {L _M:ze_} {b:Nat} {o:Obj} (h:b∉keys L):look (L++ [(b,o)]) b=some o:=by
 rw[zM_ h];exact xj_ _ _ _
end
end Go.Sx
namespace Go.Sx
open Go
theorem zT_ {P:Program} {t e:TypeId} {m:Nat} {zc:Array Value} {cs:List Value} (hu:P.underlying t=some (.slice e)) (ha:qf_ P e=some (true,m)) (hz:zK_ P e=some (.agg zc)) (hm:0<m∧m≤16777216) (hc:cs.length=m):
  Xd_ P t 1 [(0, .agg cs.toArray)]=some (e,cs.toArray):=by
 have h2:Value.cells (.agg cs.toArray)=cs.toArray:=zh_ _
 have hg: ¬ (1*m>2^24):=by simp;omega
 have h0: ¬ (1*m=0):=by omega
 simp only[Xd_,hu,ha,hz,Option.map_some]
 rw[if_neg hg,if_neg h0]
 simp only
 generalize hI: (Array.range (1*m)).map (fun x=>(Value.cells (.agg zc))[x% (Value.cells (.agg zc)).size]!)=I
 have hIs:I.size=m:=by rw[←hI];simp
 have hfl:Instr.fill (fun i=>some (i*m,m)) I [(0,Value.agg cs.toArray)]=some cs.toArray:=by
  unfold Instr.fill
  have s3:cs.toArray.size=m:=by simp[hc]
  simp only[h2,s3,hIs,Nat.zero_mul,ne_eq,not_true_eq_false,decide_false,Bool.false_or,Nat.zero_add,Nat.lt_irrefl,gt_iff_lt,Bool.false_eq_true, ↓reduceIte]
  unfold Instr.fill
  congr 1
  have hz:=Qj_ cs 0 0 I
  rw[Nat.add_zero,aff_ I cs (by rw[hc,hIs])] at hz
  simp only[Nat.zero_add] at hz
  rw[←Array.foldl_toList,Array.toList_zipIdx]
  exact hz
 rw[hfl]
 rfl
end Go.Sx
namespace Go.Sx
open Go
abbrev ltB (a b:List UInt8):Bool:=Op.bytesLess a b
theorem K5_: ∀ (x y:List UInt8),ltB x y=decide (x<y)
 | [],[]=>by simp[ltB,Op.bytesLess]
 |_::_,[]=>by simp[ltB,Op.bytesLess]
 | [],_::_=>by simp[ltB,Op.bytesLess]
 |a::x,b::y=>by
  have ih:=K5_ x y
  simp only[ltB] at ih ⊢
  rw[Op.bytesLess,ih]
  simp only[List.cons_lt_cons_iff]
  by_cases h1:a<b<;>by_cases h2:a=b<;>by_cases h3:x<y<;>simp[h1,h2,h3]
theorem Qr_ (a:List UInt8):ltB a a=false:=by
 rw[K5_];simp
theorem J2_ {a b c:List UInt8} (h:ltB a b=true) (k:ltB b c=true):ltB a c=true:=by
 rw[K5_,decide_eq_true_eq] at*
 exact List.lt_trans h k
theorem aaW_ {a b:List UInt8} (h:ltB a b=true):ltB b a=false:=by
 cases hb:ltB b a
 ·rfl
 ·have:=J2_ h hb
  rw[Qr_] at this;cases this
theorem Zy_ {a b:List UInt8} (h:ltB a b=false) (hne:a≠b):ltB b a=true:=by
 rw[K5_,decide_eq_false_iff_not] at h
 rw[K5_,decide_eq_true_eq]
 rcases Std.Trichotomous.rel_or_eq_or_rel_swap (r:=(· < · :List UInt8→List UInt8→Prop)) (a:=a) (b:=b) with h1|h1|h1
 ·exact absurd h1 h
 ·exact absurd h1 hne
 ·exact h1
end Go.Sx
namespace Go.StP
open Go Go.Sx
variable {α:Type} (key:α→List UInt8)
def lt (a b:α):Bool:=ltB (key a) (key b)
def Sorted (l:List α):Prop:=l.Pairwise fun a b=>lt key b a=false
def of (k:List UInt8) (l:List α):List α:=l.filter fun a=>key a==k
def St (l l':List α):Prop:= ∀k,of key k l'=of key k l
theorem St.refl (l:List α):St key l l:=fun _=>rfl
variable {key}
theorem St.trans {a b c:List α} (h:St key a b) (h':St key b c):St key a c:=fun k=>(h' k).trans (h k)
theorem St.symm {a b:List α} (h:St key a b):St key b a:=fun k=>(h k).symm
theorem afz_ (k:List UInt8) (a b:List α):of key k (a++b)=of key k a++of key k b:=List.filter_append ..
theorem St.app {a a' b b':List α} (h:St key a a') (h':St key b b'):St key (a++b) (a'++b'):=fun k=>by rw[afz_,afz_,h,h']
theorem anJ_ {k:List UInt8} {l:List α} {x:α}:x∈of key k l↔x∈l∧key x=k:=by
 unfold of;rw[List.mem_filter];simp
theorem St.mem {a b:List α} (h:St key a b) (x:α):x∈b↔x∈a:=by
 have e:=h (key x)
 have h1:x∈b↔x∈of key (key x) b:=by rw[anJ_];simp
 have h2:x∈a↔x∈of key (key x) a:=by rw[anJ_];simp
 rw[h1,h2,e]
theorem akU_ {k:List UInt8} {l:List α} (h: ∀x,x∈l→key x≠k):of key k l= []:=by
 unfold of
 rw[List.filter_eq_nil_iff]
 intro x hx
 simpa using h x hx
theorem St.swap {a b:List α} (h: ∀x,x∈a→ ∀y,y∈b→key x≠key y):St key (a++b) (b++a):=by
 intro k
 rw[afz_,afz_]
 by_cases ha: ∃x,x∈a∧key x=k
 ·obtain⟨x,hx,rfl⟩:=ha
  have:of key (key x) b= []:=akU_ fun y hy e=>h x hx y hy e.symm
  rw[this,List.append_nil,List.nil_append]
 ·have:of key k a= []:=akU_ fun x hx e=>ha ⟨x,hx,e⟩
  rw[this,List.append_nil,List.nil_append]
theorem lt_trans {a b c:α} (h:lt key a b=true) (k:lt key b c=true):lt key a c=true:=J2_ h k
theorem lt_irrefl (a:α):lt key a a=false:=Qr_ _
theorem arR_ {a b:α} (h:lt key a b=false) (k:lt key b a=false):key a=key b:=by
 cases hk:decide (key a=key b)
 ·have hne:key a≠key b:=of_decide_eq_false hk
  have:=Zy_ h hne
  unfold lt at k
  rw[this] at k;cases k
 ·exact of_decide_eq_true hk
theorem St.head {a b:α} {l l':List α} (hs:Sorted key (a::l)) (hs':Sorted key (b::l')) (h:St key (a::l) (b::l')):a=b∧St key l l':=by
 have h1:lt key b a=false:=by
  have hb:b∈a::l:=(h.mem b).1 List.mem_cons_self
  rcases List.mem_cons.1 hb with rfl|hb
  ·exact lt_irrefl _
  ·exact(List.pairwise_cons.1 hs).1 b hb
 have h2:lt key a b=false:=by
  have ha:a∈b::l':=(h.mem a).2 List.mem_cons_self
  rcases List.mem_cons.1 ha with rfl|ha
  ·exact lt_irrefl _
  ·exact(List.pairwise_cons.1 hs').1 a ha
 have hk:key a=key b:=arR_ h2 h1
 have he:=h (key a)
 unfold of at he
 rw[List.filter_cons,List.filter_cons,if_pos (by simp[hk]),if_pos (by simp)] at he
 have hab:b=a:=(List.cons.inj he).1
 refine⟨hab.symm,fun k=> ?_⟩
 have hk':=h k
 subst hab
 unfold of at hk' ⊢
 rw[List.filter_cons,List.filter_cons] at hk'
 split at hk'
 ·exact(List.cons.inj hk').2
 ·exact hk'
theorem St.eq: ∀ {l l':List α},Sorted key l→Sorted key l'→St key l l'→l=l'
 | [],[],_,_,_=>rfl
 | [],b::l',_,_,h=>by
  have:b∈ ([]:List α):=(h.mem b).1 List.mem_cons_self
  cases this
 |a::l,[],_,_,h=>by
  have:a∈ ([]:List α):=(h.mem a).2 List.mem_cons_self
  cases this
 |a::l,b::l',hs,hs',h=>by
  obtain⟨rfl,h'⟩:=St.head hs hs' h
  rw[St.eq (List.pairwise_cons.1 hs).2 (List.pairwise_cons.1 hs').2 h']
theorem Sorted.app {a b:List α} (ha:Sorted key a) (hb:Sorted key b) (h: ∀x,x∈a→ ∀y,y∈b→lt key y x=false):Sorted key (a++b):=
 List.pairwise_append.2 ⟨ha,hb,h⟩
theorem Sorted.left {a b:List α} (h:Sorted key (a++b)):Sorted key a:=(List.pairwise_append.1 h).1
theorem Sorted.right {a b:List α} (h:Sorted key (a++b)):Sorted key b:=(List.pairwise_append.1 h).2.1
end Go.StP
namespace Go.Sx
open Go
section
variable {α:Type} (enc:α→List Value)
def vo_ (E:TypeId) (rest:List Value) (d:List α):Obj:= .cells ((d.map enc).flatten++rest).toArray E (0,0)
variable {enc} {m:Nat} {E:TypeId} {rest:List Value} {d:List α} {z:α}
theorem Zi_ (hm: ∀x,(enc x).length=m) {k:Nat} (hk:k<d.length): ∃A C,(d.map enc).flatten++rest=A++ (enc (d.getD k z)++C)∧A.length=k*m∧ ∀x,((d.set k x).map enc).flatten++rest=A++ (enc x++C):=by
 refine⟨((d.take k).map enc).flatten,((d.drop (k+1)).map enc).flatten++rest, ?_, ?_,fun x=> ?_⟩
 ·have e:d=d.take k++d.getD k z::d.drop (k+1):=by
   rw[List.getD_eq_getElem?_getD,List.getElem?_eq_getElem hk,Option.getD_some,List.getElem_cons_drop,List.take_append_drop]
  have e2:=congrArg (fun l=>(l.map enc).flatten++rest) e
  simp only[List.map_append,List.map_cons,List.flatten_append,List.flatten_cons,List.append_assoc] at e2
  exact e2
 ·rw[aeP_ hm,List.length_take,Nat.min_eq_left (Nat.le_of_lt hk)]
 ·have e:d.set k x=d.take k++x::d.drop (k+1):=List.set_eq_take_append_cons_drop.trans (by rw[if_pos hk])
  rw[e]
  simp only[List.map_append,List.map_cons,List.flatten_append,List.flatten_cons,List.append_assoc]
theorem Jn_ (hm: ∀x,(enc x).length=m) (k:Nat) (hk:k<d.length):zk_ (some (true,m)) (some (vo_ enc E rest d)) (k*m)=some (.agg (enc (d.getD k z)).toArray):=by
 obtain⟨A,C,e,hA,-⟩:=Zi_ (z:=z) (rest:=rest) hm hk
 unfold vo_
 rw[e]
 exact Jp_ A _ C E (0,0) hA (hm _)
end
section
variable {P:Program} {w0:World} {f:Fr} {L:ze_} {N:Fr→ze_→Prop} {ops:Array Oper} {rest:List Oper} {md:Md} {d:Option Tmp} {ty:TypeId} {ps:String} {af:Array Edge} {g:Option (Nat×Bool)}
end
end Go.Sx
namespace Go.StP
open Go Go.Sx
variable {α:Type} {key:α→List UInt8} {z:α}
theorem Vr_ {a b:List α} {k:Nat} (h:k<a.length): (a++b).getD k z=a.getD k z:=by
 rw[List.getD_eq_getElem?_getD,List.getD_eq_getElem?_getD,List.getElem?_append_left h]
theorem Vd_ {a b:List α} {k:Nat} (h:a.length≤k): (a++b).getD k z=b.getD (k - a.length) z:=by
 rw[List.getD_eq_getElem?_getD,List.getD_eq_getElem?_getD,List.getElem?_append_right h]
theorem xd_ {l:List α} {k:Nat} (h:k<l.length):l.getD k z∈l:=by
 rw[List.getD_eq_getElem?_getD,List.getElem?_eq_getElem h];exact List.getElem_mem h
theorem ajq_ {l:List α} {k n:Nat} (h:k<n): (l.take n).getD k z=l.getD k z:=by
 rw[List.getD_eq_getElem?_getD,List.getD_eq_getElem?_getD,List.getElem?_take,if_pos h]
theorem aiX_ {l:List α} {k:Nat} (h:k<l.length):l.drop k=l.getD k z::l.drop (k+1):=by
 rw[List.getD_eq_getElem?_getD,List.getElem?_eq_getElem h]
 exact List.drop_eq_getElem_cons h
theorem take_snoc {l:List α} {k:Nat} (h:k<l.length):l.take (k+1)=l.take k++ [l.getD k z]:=by
 rw[List.getD_eq_getElem?_getD,List.getElem?_eq_getElem h]
 exact List.take_succ_eq_append_getElem h
theorem Sorted.at_ {l:List α} (h:Sorted key l) {i j:Nat} (hij:i≤j) (hj:j<l.length):lt key (l.getD j z) (l.getD i z)=false:=by
 rcases Nat.lt_or_eq_of_le hij with h1|rfl
 ·have:=List.pairwise_iff_getElem.1 h i j (by omega) hj h1
  rw[List.getD_eq_getElem?_getD,List.getD_eq_getElem?_getD,List.getElem?_eq_getElem hj,List.getElem?_eq_getElem (show i<l.length by omega)]
  exact this
 ·exact lt_irrefl _
end Go.StP
namespace Go.Sx
open Go
def KA_ (r:Option Nat):Fence:={Fence.wide with round:=r}
def XN_:Op→Bool
 | .defer _=>false
 |_=>true
section
variable {P:Program} {w0:World} {f:Fr} {L:ze_} {K:xN_} {N:Fr→ze_→Prop} {ops:Array Oper} {rest:List Oper} {r:Option Nat} {n:Nat}
theorem acr_ {k:FuncId} {args:Array Value} {w:World} {R:Ending→World→Prop} (h:Calls P k args w R):CallsIn (KA_ r) n P k args w R:=
 (callsIn_wide.2 h:CallsIn Fence.wide n P k args w R)
theorem af1_ {row:String} {args:Array Value} {w:World} {R:Value→World→Prop} (h:Rows P row args w R):RowsIn (KA_ r) n P row args w R:=
 (fun c cs _=>let ⟨v,w',hr,s⟩:=h c cs;⟨v,w',hr,stepsIn_wide.2 s⟩:RowsIn Fence.wide n P row args w R)
theorem aoh_ {o:Oper} {a:Act} {w:World} {next:Act→World→Prop} {Q:Exit→Act→World→Prop} (hd:XN_ o.op=true) (h:o.wp P a w next Q):o.wpIn (KA_ r) n P a w next Q:=by
 refine⟨fun _ _=>trivial, ?_⟩
 rw[Oper.semAt_eq _ _ _ (fun c e=>by rw[e] at hd;cases hd)]
 unfold Oper.wp at h
 generalize (execOp a.eval o).run P w=x at h
 match x,h with
 | .ok (.value v) _,h=>exact h
 | .ok .skip _,h=>exact h
 | .ok (.defer e) _,h=>exact h
 | .ok (.enter k args) w',h=>
  have h':Calls P k args w' _:=h
  exact⟨fun(e:false=true)=>(by cases e),acr_ h'⟩
 | .ok (.row row args) w',h=>
  have h':Rows P row args w' _:=h
  exact⟨fun(e:false=true)=>(by cases e),af1_ h'⟩
 | .halt (.panic u) _,h=>exact h
theorem acO_ {Q:Exit→Act→World→Prop} {l2:List Oper}: ∀ (l1:List Oper) (a:Act) (w:World),(l1.all fun o=>XN_ o.op)=true→
  wpList P ops (fun e a w=>e= .normal∧wpListIn (KA_ r) n P ops Q l2 a w) l1 a w→wpListIn (KA_ r) n P ops Q (l1++l2) a w
 | [],_,_,_,h=>h.2
 |o::l1,a,w,hd,h=>by
  rw[List.cons_append]
  unfold wpList at h
  unfold wpListIn
  rw[List.all_cons,Bool.and_eq_true] at hd
  split at h
  ·rename_i hw
   rw[if_pos hw]
   rcases h with h| ⟨-,hl⟩
   ·exact aoh_ hd.1 (vU_ (fun a w hx=>acO_ l1 a w hd.2 hx) (fun e a w hne hq=>hne hq.1) h)
   ·obtain⟨_,_,he,-⟩:=hl
    cases he
  ·rename_i hw
   rw[if_neg hw]
   exact⟨fun _ _=>trivial,acO_ l1 _ _ hd.2 h⟩
def OwI (r:Option Nat) (P:Program) (w0:World) (ops:Array Oper) (l:List Oper) (f:Fr) (L:ze_) (N:Fr→ze_→Prop):Prop:=
 ∀w,Hp w0 L w→wpListIn (KA_ r) 0 P ops (jE_ w0 N) l (act f) w
theorem OwI.nil (h:N f L):OwI r P w0 ops [] f L N:=fun _ hw=>⟨rfl,rfl,L,hw,by simpa [act] using h⟩
theorem OwI.pre {l1 l2:List Oper} (hd: (l1.all fun o=>XN_ o.op)=true) (h:Ow P w0 ops .seq l1 f L (fun f' L'=>OwI r P w0 ops l2 f' L' N)):OwI r P w0 ops (l1++l2) f L N:=by
 intro w hw
 refine acO_ l1 _ _ hd ?_
 have h1:=h w hw
 have mono: ∀ (l:List Oper) (a:Act) (w:World),wpList P ops (jE_ w0 (fun f' L'=>OwI r P w0 ops l2 f' L' N)) l a w→wpList P ops (fun e a w=>e= .normal∧wpListIn (KA_ r) 0 P ops (jE_ w0 N) l2 a w) l a w:=by
  intro l
  induction l with
  |nil=>
   rintro a w ⟨-,hd',L',hp,hO⟩
   refine⟨rfl, ?_⟩
   have:=hO w hp
   rwa [←JO_ hd'] at this
  |cons o l ih=>
   intro a w h
   unfold wpList at h ⊢
   split at h
   ·rename_i hw
    rw[if_pos hw]
    rcases h with h| ⟨-,hl⟩
    ·exact .inl (vU_ ih (fun e a w hne hq=>hne hq.1) h)
    ·obtain⟨_,_,he,-⟩:=hl
     cases he
   ·rename_i hw
    rw[if_neg hw]
    exact ih _ _ h
 exact mono l1 _ _ h1
theorem Ow.mono_seq {l:List Oper} {N':Fr→ze_→Prop} (h:Ow P w0 ops .seq l f L N) (hN: ∀f L,N f L→N' f L):Ow P w0 ops .seq l f L N':=by
 intro w hw
 have h1:=h w hw
 clear h
 revert h1
 generalize act f=a
 clear hw
 induction l generalizing a w with
 |nil=>rintro⟨h1,h2,L',h3,h4⟩;exact⟨h1,h2,L',h3,hN _ _ h4⟩
 |cons o l ih=>
  intro h
  unfold wpList at h ⊢
  split at h
  ·rename_i hw
   rw[if_pos hw]
   rcases h with h| ⟨-,hl⟩
   ·exact .inl (vU_ (fun a w hx=>ih w a hx) (fun e a w hne hq=>hne hq.1) h)
   ·obtain⟨_,_,he,-⟩:=hl
    cases he
  ·rename_i hw
   rw[if_neg hw]
   exact ih _ _ h
theorem OwI.all {l:List Oper} (hd: (l.all fun o=>XN_ o.op)=true) (h:Ow P w0 ops .seq l f L N):OwI r P w0 ops l f L N:=by
 have:=OwI.pre (r:=r) (l2:= []) (N:=N) hd (Ow.mono_seq h (fun f L hN=>OwI.nil hN))
 simpa using this
def CwR (r:Option Nat) (P:Program) (w0:World) (c:Code) (f:Fr) (L:ze_) (K:xN_):Prop:= ∀w,Hp w0 L w→c.wpIn (KA_ r) 0 P (post w0 K) (act f) w
theorem CwR.region {id:Nat} {l:List Oper} (hd: (l.all fun o=>XN_ o.op)=true) (h:Ow P w0 l.toArray .seq l f L (K .normal)):CwR r P w0 (.region id l.toArray false) f L K:=
 fun w hw=>wpIn_mono (wpIn_region_lit (OwI.all hd h w hw)) fun _ _ _ h=>xE_ h
theorem CwR.block {id:Nat} {c:Code} (h:CwR r P w0 c f L (ke_ id K)):CwR r P w0 (.block id c) f L K:=by
 intro w hw
 refine wpIn_block (wpIn_mono (h w hw) ?_)
 rintro e a w' ⟨hd,L',hp,k⟩
 cases e with
 |exit i=>
  simp only[Exit.inBlock]
  simp only[ke_] at k
  split
  ·rename_i e;rw[if_pos e] at k;exact⟨hd,L',hp,k⟩
  ·rename_i e;rw[if_neg e] at k;exact⟨hd,L',hp,k⟩
 |_=>exact⟨hd,L',hp,k⟩
theorem Hp.put {w:World} (h:Hp w0 L w) {b:Nat} {o:Obj} (hb:b∈keys L):Hp w0 (setB L b o) (w.putObj b o):=h.set hb rfl rfl rfl rfl
theorem YieldAt.of {l:Nat} {rc:Loop} {X:ze_} {args:Array Value} {w:World} {r0:Option Nat} {S:ze_→Prop} (hX:Hp w X w) (hl:look X l=some (.loop rc)) (hr:rc.state= .ready) (hp:rc.pending=none) (hs:args.size=rc.params.size)
  (h:CwR (some l) P w rc.assign ((rc.params.zip args).foldl (fun tmps (p:Tmp×Value)=>tmps.setIfInBounds p.1 p.2) rc.tmps).toList X (fun e f1 L1=>e= .normal∧look L1 l=some (.loop rc)∧
   CwR (some l) P w rc.body f1 (setB L1 l (.loop {rc with state:= .busy})) (fun e _ L2=>e= .normal∧look L2 l=some (.loop {rc with state:= .busy})∧S (setB L2 l (.loop rc))))):
  YieldAt (KA_ r0) 0 P l args w (fun e w'=> ∃D,e= .returned (.bool true)∧Hp w D w'∧S D):=by
 obtain⟨st,pe,fn0,tm,pa,asg,bo,de⟩:=rc
 obtain rfl:st= .ready:=hr
 obtain rfl:pe=none:=hp
 have hl0:=hX.has _ _ (zq_ hl)
 refine⟨fn0,_,asg,bo,run_yield hl0 hs,roundIn_of_wpIn (F:=KA_ r0) (n:=0) trivial ?_⟩
 have h1:=h w hX
 have ea:act ((pa.zip args).foldl (fun tmps (p:Tmp×Value)=>tmps.setIfInBounds p.1 p.2) tm).toList={tmps:=(pa.zip args).foldl (fun tmps (p:Tmp×Value)=>tmps.setIfInBounds p.1 p.2) tm,defers:= []}:=by
  simp[act]
 simp only at h1
 rw[ea] at h1
 refine wpIn_mono h1 ?_
 rintro e a1 w1 ⟨hd1,L1,hp1,rfl,hl1,hbody⟩
 have hb1:=run_beginRound (P:=P) (hp1.has _ _ (zq_ hl1)) rfl
 refine⟨_,hb1, ?_⟩
 have h2:=hbody _ (hp1.put (o:= .loop {state:= .busy,pending:=none,fn:=fn0,tmps:=tm,params:=pa,assign:=asg,body:=bo,defers:=de}) (zg_ hl1))
 rw[←JO_ hd1] at h2
 refine wpIn_mono h2 ?_
 rintro e a2 w2 ⟨hd2,L2,hp2,rfl,hl2,hS⟩
 have he:=run_endRound (P:=P) none (hp2.has _ _ (zq_ hl2))
 exact⟨_,_,he,_,rfl,hp2.put (zg_ hl2),hS⟩
def arV_ (ds:List Deferred) (w0:World) (K:xN_) (e:Exit) (a:Act) (w:World):Prop:=a.defers=ds∧ ∃L,Hp w0 L w∧K e a.tmps.toList L
def CwE (ds:List Deferred) (P:Program) (w0:World) (c:Code) (f:Fr) (L:ze_) (K:xN_):Prop:= ∀w,Hp w0 L w→c.wp P (arV_ ds w0 K) ⟨f.toArray,ds⟩ w
theorem CwE.seq {ds:List Deferred} {x y:Code} (h:CwE ds P w0 x f L (vJ_ (fun f L=>CwE ds P w0 y f L K) K)):CwE ds P w0 (.seq x y) f L K:=by
 intro w hw
 refine wp_seq (wp_mono (h w hw) ?_)
 rintro e a w' ⟨hd,L',hp,k⟩
 cases e with
 |normal=>
  have:=k w' hp
  have ea:a=⟨a.tmps.toList.toArray,ds⟩:=by cases a;simp only at hd;subst hd;simp
  rw[ea]
  exact this
 |_=>exact⟨hd,L',hp,k⟩
theorem CwE.ret {ds:List Deferred} (h:K .ret f L):CwE ds P w0 .ret f L K:=fun _ hw=>wp_ret ⟨rfl,L,hw,by simpa using h⟩
def evVs (P:Program) (w0:World) (L:ze_):List Oper→Fr→Option Fr
 | [],f=>some f
 |o::r,f=>match o.guard,vt_ P w0 L f o.op with
  |none,some v=>evVs P w0 L r (qA_ f o.dst v)
  |_,_=>none
theorem K3_ {ds:List Deferred} {Q:Exit→Act→World→Prop} {w:World} (hw:Hp w0 L w): ∀ (l:List Oper) (f f':Fr),evVs P w0 L l f=some f'→Q .normal ⟨f'.toArray,ds⟩ w→wpList P ops Q l ⟨f.toArray,ds⟩ w
 | [],f,f',h,hQ=>by cases h;exact hQ
 |o::l,f,f',h,hQ=>by
  unfold evVs at h
  split at h
  ·rename_i v hg hv
   unfold wpList
   have hwn:Region.wanted o (yielded ops (⟨f.toArray,ds⟩:Act).tmps)=true:=by unfold Region.wanted;rw[hg]
   rw[if_pos hwn]
   refine .inl ?_
   unfold Oper.wp
   have he: (⟨f.toArray,ds⟩:Act).eval=ev f:=by
    have:=jD_ f
    funext x
    exact(congrFun this x)
   rw[he,q0_ hw hv]
   have hp: (⟨f.toArray,ds⟩:Act).put o.dst v=⟨(qA_ f o.dst v).toArray,ds⟩:=by
    have:=z1_ f o.dst v
    cases hd:o.dst with
    |none=>rfl
    |some d=>simp only[Act.put,qA_,akH_]
   show wpList P ops Q l ((⟨f.toArray,ds⟩:Act).put o.dst v) w
   rw[hp]
   exact K3_ hw l _ f' h hQ
  ·cases h
theorem CwE.region {ds:List Deferred} {id:Nat} {l:List Oper} {f':Fr} (h:evVs P w0 L l f=some f') (hk:K .normal f' L):CwE ds P w0 (.region id l.toArray false) f L K:=
 fun w hw=>wp_region_lit (K3_ hw l f f' h ⟨rfl,L,hw,by simpa using hk⟩)
theorem Gr.at_ {L:ze_} {E:TypeId} {m n:Nat} {v:Value} {cs:List Value} (h:Gr L E m v n cs) {b:Nat} (hb:slB v=some b): ∃a,look L b=some (.cells a E (0,0)):=by
 rcases h with h| ⟨rfl,rfl,c,rfl,hl⟩
 ·rcases h.inv with⟨rfl,-,-⟩ | ⟨c,cc,rest,rfl,hl,-⟩
  ·cases hb
  ·have:c=b:=by simpa [slB,vsl] using hb
   subst this;exact⟨_,hl⟩
 ·have:c=b:=by simpa [slB,vsl] using hb
  subst this;exact⟨_,hl⟩
theorem Gr.ne {L:ze_} {E:TypeId} {m n:Nat} {v:Value} {cs:List Value} (h:Gr L E m v n cs) {b:Nat} {o:Obj} (hl:look L b=some o) (ho: ∀a,o≠ .cells a E (0,0)):slB v≠some b:=fun e=>by
 obtain⟨a,ha⟩:=h.at_ e
 rw[hl] at ha
 exact ho a (Option.some.inj ha)
theorem Gr.setB {L:ze_} {E:TypeId} {m n:Nat} {v:Value} {cs:List Value} (h:Gr L E m v n cs) {b:Nat} (hb:slB v≠some b) (x:Obj):Gr (setB L b x) E m v n cs:=
 h.keep fun c o hc ho=>by rw[zb_ (fun e:b=c=>hb (by rw[e];exact hc))];exact ho
end
end Go.Sx
namespace Go.Sx
open Go
section
variable {α:Type} {m:Nat} {enc:α→List Value} {z:α} {w:World} {v:Value} {l:List α}
theorem SlV.dropE (h:SlV m enc z w v l) {k:Nat} (hk:k≤l.length) (a:Bool): ∃v',qY_ (.sl (a,m)) v (some (some (k:Int))) none=some v'∧SlV m enc z w v' (l.drop k)∧(∀b,slB v'=some b→slB v=some b):=by
 obtain⟨b,off,c,arr,E,fz,hr,hc,hv⟩:=h
 have hl: (l.drop k).length=l.length - k:=by simp
 rcases hv with⟨rfl,rfl,rfl⟩ | ⟨rfl,hhas,hsz⟩
 ·obtain rfl:k=0:=by simpa using hk
  exact⟨.slice none 0 0,rfl,SlV.nil w,fun b hb=>hb⟩
 ·have hsl:qY_ (.sl (a,m)) (vsl b off l.length c) (some (some (k:Int))) none=some (vsl b (if c=k then off else off+k*m) (l.length - k) (c - k)):=by
   unfold qY_ vsl
   simp only[akc_ _ _ _ (⟨by omega,by omega⟩: (0:Int)≤ (k:Int)∧(k:Int)≤ (l.length:Int)),Int.toNat_natCast]
   by_cases hck:c=k
   ·simp[hck]
   ·simp only[hck, ↓reduceIte,Option.map_some,jc_]
  refine⟨_,hsl, ?_,fun b' hb=>hb⟩
  have hkm:k*m+ (l.length - k)*m=l.length*m:=by rw[←Nat.add_mul];congr 1;omega
  by_cases hck:c=k
  ·have h0:l.length - k=0:=by omega
   rw[if_pos hck]
   refine⟨b,off,c - k,arr,E,fz,RowS.sl' hl.symm (fun h=>by omega) (fun i hi=>by omega),by omega, .inr ⟨by rw[hl],hhas,by rw[hl,h0];omega⟩⟩
  ·rw[if_neg hck]
   refine⟨b,off+k*m,c - k,arr,E,fz,RowS.sl' hl.symm (fun h=>hhas) ?_,by omega, .inr ⟨by rw[hl],hhas,by rw[hl];omega⟩⟩
   intro i hi j hj
   rw[hl] at hi
   rw[List.getD_eq_getElem?_getD,List.getElem?_drop,←List.getD_eq_getElem?_getD,←hr.get (k+i) (by omega) j hj]
   congr 1
   rw[Nat.add_mul];omega
end
section
variable {P:Program} {w0:World} {f:Fr} {L:ze_} {N:Fr→ze_→Prop} {ops:Array Oper} {rest:List Oper} {md:Md} {d:Option Tmp} {ty:TypeId} {ps:String} {af:Array Edge} {g:Option (Nat×Bool)}
end
section
variable {P:Program} {w0:World} {f:Fr} {L:ze_} {K:xN_}
theorem Cw.world {c:Code} (h: ∀w,Hp w0 L w→Cw P w0 c f L K):Cw P w0 c f L K:=fun w hw=>h w hw w hw
theorem Gr.read {E:TypeId} {m n:Nat} {v:Value} {cs:List Value} (h:Gr L E m v n cs) {b:Nat} (hb:slB v=some b) {w:World} (hw:Hp w0 L w) {o:Obj} (ho:w.heap[b]? =some o):zy_ w0 L b=some o:=by
 obtain⟨a,ha⟩:=h.at_ hb
 rw[hw.has _ _ (zq_ ha)] at ho
 rw[za_ ha];exact ho
end
end Go.Sx
namespace Go.Sx
open Go
section
variable {α β:Type} [BEq α] [LawfulBEq α] (encK:α→Value) (encV:β→Value)
def Q8_ (k:α):List (α×β)→Nat→Option (Nat×β)
 | [],_=>none
 |p::r,i=>if k==p.1 then some (i,p.2) else Q8_ k r (i+1)
def updG (k:α) (v:β):List (α×β)→List (α×β)
 | []=> [(k,v)]
 |p::r=>if k==p.1 then(p.1,v)::r else p::updG k v r
def getG (k:α) (z:β) (m:List (α×β)):β:=match m.find? fun p=>k==p.1 with|some p=>p.2|none=>z
def xR_ (p:α×β):Value×Value:=(encK p.1,encV p.2)
def wB_ (o:Obj) (m:List (α×β)):Prop:= ∃es clock,o= .map es clock∧es.toList.map (fun e=>(e.key,e.val))=m.map (xR_ encK encV)∧(es.toList.map (·.born)++ [clock]).Pairwise (· < ·)
structure KeyOk (P:Program) (kt:TypeId) (encK:α→Value):Prop where
 find: ∀ {β:Type} (encV:β→Value) (w:World) (k:α) (es:List MapEntry) (m:List (α×β)),es.map (fun e=>(e.key,e.val))=m.map (xR_ encK encV)→(Instr.findKey kt (encK k) es).run P w= .ok ((Q8_ k m 0).map fun p=>(p.1,encV p.2)) w
 check: ∀ (w:World) (e:Bool) (k:α),(Instr.checkKey e 10000 kt (encK k)).run P w= .ok () w
 bits: ∀k,Instr.sameBits 10000 (encK k) (encK k)=true
variable {encK encV}
omit [LawfulBEq α] in
theorem JD_ {kd:TypeDesc} (hs: ∀a b,Instr.sameNow kd (encK a) (encK b)=some (a==b)) (k:α): ∀ (es:List MapEntry) (m:List (α×β)) (i:Nat),es.map (fun e=>(e.key,e.val))=m.map (xR_ encK encV)→
  Instr.findNow kd (encK k) es i=some ((Q8_ k m i).map fun p=>(p.1,encV p.2))
 | [],[],i,_=>rfl
 | [],_::_,_,h=>by cases h
 |_::_,[],_,h=>by cases h
 |e::es,p::m,i,h=>by
  simp only[List.map_cons,List.cons.injEq,xR_,Prod.mk.injEq] at h
  obtain⟨⟨h1,h2⟩,h3⟩:=h
  unfold Instr.findNow
  have hs:Instr.sameNow kd (encK k) e.key=some (k==p.1):=by rw[h1,hs]
  rw[hs]
  unfold Q8_
  cases hk: (k==p.1)
  ·simp only[Bool.false_eq_true, ↓reduceIte]
   exact JD_ ‹_› k es m (i+1) h3
  ·simp[h2]
theorem JU_ (k:α): ∀ (m:List (α×β)) (i j:Nat) (v:β),Q8_ k m i=some (j,v)→i≤j∧ ∃a,m[j - i]? =some (k,a)∧a=v
 | [],_,_,_,h=>by cases h
 |p::r,i,j,v,h=>by
  unfold Q8_ at h
  split at h
  ·rename_i hk
   cases h
   refine⟨Nat.le_refl _,p.2, ?_,rfl⟩
   rw[Nat.sub_self,List.getElem?_cons_zero,eq_of_beq hk]
  ·obtain⟨h1,a,h2,h3⟩:=JU_ k r (i+1) j v h
   refine⟨by omega,a, ?_,h3⟩
   rw[show j - i=(j - (i+1))+1 by omega,List.getElem?_cons_succ];exact h2
theorem abq_ (k:α) (v:β): ∀ (es:List MapEntry) (m:List (α×β)) (i j:Nat) (a:β),es.map (fun e=>(e.key,e.val))=m.map (xR_ encK encV)→Q8_ k m i=some (j,a)→
  (es.modify (j - i) fun e=>{e with key:=encK k,val:=encV v}).map (fun e=>(e.key,e.val))=(updG k v m).map (xR_ encK encV)
 | [],[],_,_,_,_,h=>by cases h
 | [],_::_,_,_,_,h,_=>by cases h
 |_::_,[],_,_,_,h,_=>by cases h
 |e::es,p::m,i,j,a,h,hf=>by
  simp only[List.map_cons,List.cons.injEq,xR_,Prod.mk.injEq] at h
  obtain⟨⟨h1,h2⟩,h3⟩:=h
  unfold Q8_ at hf
  unfold updG
  split at hf
  ·rename_i hk
   cases hf
   rw[if_pos hk,Nat.sub_self]
   simp only[List.modify_zero_cons,List.map_cons,xR_,eq_of_beq hk]
   rw[h3]
  ·rename_i hk
   have hle:=(JU_ k m (i+1) j a hf).1
   rw[if_neg hk,show j - i=(j - (i+1))+1 by omega]
   simp only[List.modify_succ_cons,List.map_cons,xR_]
   rw[abq_ k v es m (i+1) j a h3 hf,h1,h2]
omit [LawfulBEq α] in
theorem ab5_ (k:α) (v:β): ∀ (m:List (α×β)) (i:Nat),Q8_ k m i=none→updG k v m=m++ [(k,v)]
 | [],_,_=>rfl
 |p::r,i,h=>by
  unfold Q8_ at h
  split at h
  ·cases h
  ·rename_i hk
   unfold updG
   rw[if_neg hk,ab5_ k v r (i+1) h];rfl
omit [LawfulBEq α] in
theorem abI_ (k:α): ∀ (m:List (α×β)) (i:Nat),(Q8_ k m i).map Prod.snd=(m.find? fun p=>k==p.1).map Prod.snd
 | [],_=>rfl
 |p::r,i=>by
  unfold Q8_
  rw[List.find?_cons]
  cases h: (k==p.1)
  ·simp only[Bool.false_eq_true, ↓reduceIte];exact abI_ k r (i+1)
  ·rfl
theorem amW_ {k:α} {m:List (α×β)} {es:List MapEntry} {j:Nat} {a:β} (h:es.map (fun e=>(e.key,e.val))=m.map (xR_ encK encV)) (hf:Q8_ k m 0=some (j,a)): ∃e,es[j]? =some e∧e.key=encK k:=by
 obtain⟨-,a',h1,rfl⟩:=JU_ k m 0 j a hf
 rw[Nat.sub_zero] at h1
 have:=congrArg (·[j]?) h
 simp only[List.getElem?_map,h1,Option.map_some] at this
 cases he:es[j]? with
 |none=>rw[he] at this;cases this
 |some e=>
  rw[he] at this
  simp only[Option.map_some,Option.some.injEq,xR_,Prod.mk.injEq] at this
  exact⟨e,rfl,this.1⟩
theorem KeyOk.int {P:Program} {kt:TypeId} {k0:IntKind} (hu:P.underlying kt=some (.int k0)):KeyOk P kt vi where
 find encV w k es m h:=by
  simp only[Instr.findKey,Sem.run_bind,run_underlying hu w,Result.andThen_ok]
  rw[JD_ (encK:=vi) (fun a b=>by simp[Instr.sameNow,vi]) k es m 0 h]
  rfl
 check w e k:=by
  unfold Instr.checkKey
  simp only[Sem.run_bind,run_underlying hu w,Result.andThen_ok]
  rfl
 bits k:=by simp[vi,Instr.sameBits]
variable {P:Program} {w0:World} {f:Fr} {L:ze_} {N:Fr→ze_→Prop} {ops:Array Oper} {rest:List Oper} {md:Md}
 {d:Option Tmp} {ty:TypeId} {ps:String} {af:Array Edge} {g:Option (Nat×Bool)}
omit [BEq α] [LawfulBEq α] in
theorem Ow.makeMapG {t:TypeId} {md':Md} (he:md.turn=some md') (hs:zs_ ops f ⟨d, .makeMap t none,ty,ps,af,g⟩=false)
  (hn: ∀b o,jB_ L b→w0.heap.size≤b→wB_ encK encV o []→Ow P w0 ops md' rest (qA_ f d (vm b)) (L++ [(b,o)]) N):
  Ow P w0 ops md (⟨d, .makeMap t none,ty,ps,af,g⟩::rest) f L N:=by
 refine Ow.step he rfl hs fun w hw=> .inl ⟨vm w.heap.size,w.alloc (.map #[] 0),_, ?_,hw.alloc _,hn _ _ (z2_ fun b hb=>hw.lt hb) hw.size ⟨#[],0,rfl,rfl,List.pairwise_singleton _ _⟩⟩
 simp only[execOp,Instr.makeMap,Sem.run_bind,Option.map_none]
 rfl
theorem Ow.mapUpdateG {t kt vt:TypeId} {x y z:Operand} {b:Nat} {o:Obj} {m:List (α×β)} {k:α} {v:β} {md':Md} (he:md.turn=some md') (hs:zs_ ops f ⟨d, .mapUpdate t x y z,ty,ps,af,g⟩=false) (hu:P.underlying t=some (.map kt vt)) (hk:KeyOk P kt encK)
  (hx:ev f x=vm b) (hy:ev f y=encK k) (hz:ev f z=encV v) (hl:look L b=some o) (hm:wB_ encK encV o m)
  (hn: ∀o',wB_ encK encV o' (updG k v m)→Ow P w0 ops md' rest (qA_ f d undef) (setB L b o') N):
  Ow P w0 ops md (⟨d, .mapUpdate t x y z,ty,ps,af,g⟩::rest) f L N:=by
 obtain⟨es,c,rfl,hes,hbo⟩:=hm
 refine Ow.step he rfl hs fun w hw=> ?_
 have hb:=hw.has _ _ (zq_ hl)
 have hfk:=hk.find encV w k es.toList m hes
 cases hf:Q8_ k m 0 with
 |none=>
  rw[hf] at hfk
  refine .inr (.inl ⟨{w with heap:=w.heap.setIfInBounds b (.map (es.push {key:=encK k,val:=encV v,born:=c}) (c+1))},_, ?_,hw.set (zg_ hl) rfl rfl rfl rfl,hn _ ⟨_,_,rfl, ?_,by rw[Array.toList_push];exact acb_ hbo rfl⟩⟩)
  ·have: (Instr.mapUpdate t (vm b) (encK k) (encV v)).run P w= .ok () {w with heap:=w.heap.setIfInBounds b (.map (es.push {key:=encK k,val:=encV v,born:=c}) (c+1))}:=by
    simp only[Instr.mapUpdate,vm,Sem.run_bind,run_underlying hu w,Result.andThen_ok,qI_ hb,hk.check,hfk,Option.map_none,j2_ hb]
   simp only[execOp,Sem.run_bind,hx,hy,hz]
   rw[this];rfl
  ·rw[ab5_ k v m 0 hf,Array.toList_push,List.map_append,hes,List.map_append];rfl
 |some p=>
  obtain⟨j,a⟩:=p
  rw[hf] at hfk
  obtain⟨e,hej,hek⟩:=amW_ hes hf
  have hej':es[j]? =some e:=by simpa using hej
  have hkt: (Instr.keyThatStays (((es[j]?).map (·.key)).getD (encK k)) (encK k)).run P w= .ok (encK k) w:=by
   rw[hej',Option.map_some,Option.getD_some,hek]
   unfold Instr.keyThatStays
   rw[if_pos (hk.bits k)];rfl
  refine .inr (.inl ⟨{w with heap:=w.heap.setIfInBounds b (.map (es.modify j fun e=>{e with key:=encK k,val:=encV v}) c)},_, ?_,hw.set (zg_ hl) rfl rfl rfl rfl,hn _ ⟨_,_,rfl, ?_,by rw[Array.toList_modify,Jt_ (g:=fun e=>{e with key:=encK k,val:=encV v}) fun _=>rfl];exact hbo⟩⟩)
  ·have: (Instr.mapUpdate t (vm b) (encK k) (encV v)).run P w= .ok () {w with heap:=w.heap.setIfInBounds b (.map (es.modify j fun e=>{e with key:=encK k,val:=encV v}) c)}:=by
    simp only[Instr.mapUpdate,vm,Sem.run_bind,run_underlying hu w,Result.andThen_ok,qI_ hb,hk.check,hfk,Option.map_some,hkt,j2_ hb]
   simp only[execOp,Sem.run_bind,hx,hy,hz]
   rw[this];rfl
  ·rw[Array.toList_modify]
   have:=abq_ k v es.toList m 0 j a hes hf
   rw[Nat.sub_zero] at this
   exact this
omit [LawfulBEq α] in
theorem Ow.mapGetG {t kt vt:TypeId} {x y:Operand} {b:Nat} {o:Obj} {m:List (α×β)} {k:α} {z:β} {md':Md} (he:md.turn=some md') (hs:zs_ ops f ⟨d, .lookup t x y false,ty,ps,af,g⟩=false) (hu:P.underlying t=some (.map kt vt)) (hk:KeyOk P kt encK)
  (hz:zK_ P vt=some (encV z)) (hx:ev f x=vm b) (hy:ev f y=encK k) (hl:zy_ w0 L b=some o) (hm:wB_ encK encV o m)
  (hn:Ow P w0 ops md' rest (qA_ f d (encV (getG k z m))) L N):
  Ow P w0 ops md (⟨d, .lookup t x y false,ty,ps,af,g⟩::rest) f L N:=by
 obtain⟨es,c,rfl,hes,-⟩:=hm
 refine Ow.step he rfl hs fun w hw=> ?_
 have hb:=hw.read hl
 have hfk:=hk.find encV w k es.toList m hes
 refine .inl ⟨encV (getG k z m),w,L, ?_,hw,hn⟩
 have hff:=abI_ k m 0
 have: (Instr.lookup t (vm b) (encK k) false).run P w= .ok (encV (getG k z m)) w:=by
  cases hf:Q8_ k m 0 with
  |none=>
   rw[hf] at hfk hff
   have hg:getG k z m=z:=by
    unfold getG
    cases h:m.find? fun p=>k==p.1 with
    |none=>rfl
    |some q=>rw[h] at hff;cases hff
   simp only[Instr.lookup,vm,Sem.run_bind,run_underlying hu w,Result.andThen_ok,qI_ hb,Sem.run_pure,hk.check,hfk,Option.map_none,xf_ hz w,hg,Bool.false_eq_true, ↓reduceIte]
  |some p=>
   obtain⟨j,a⟩:=p
   rw[hf] at hfk hff
   have hg:getG k z m=a:=by
    unfold getG
    cases h:m.find? fun p=>k==p.1 with
    |none=>rw[h] at hff;cases hff
    |some q=>rw[h] at hff;simp only[Option.map_some,Option.some.injEq] at hff;exact hff.symm
   simp only[Instr.lookup,vm,Sem.run_bind,run_underlying hu w,Result.andThen_ok,qI_ hb,Sem.run_pure,hk.check,hfk,Option.map_some,hg,Bool.false_eq_true, ↓reduceIte]
 simp only[execOp,Sem.run_bind,hx,hy]
 rw[this];rfl
end
section
variable {P:Program} {w0:World} {f:Fr} {L:ze_} {N:Fr→ze_→Prop} {ops:Array Oper} {rest:List Oper} {md:Md} {d:Option Tmp} {ty:TypeId} {ps:String} {af:Array Edge} {g:Option (Nat×Bool)}
theorem Ow.callFnXC {x y:Operand} {b:Value} {cap ars:Array Value} (ha: #[b]++cap=ars) {ts:Array TypeId} {k:FuncId} {X Y:ze_} {S:Value→ze_→Prop} {md':Md} (hL:L=X++Y) (he:md.turn=some md')
  (hs:zs_ ops f ⟨d, .call ⟨.value x, #[y],ts⟩,ty,ps,af,g⟩=false)
  (hx:ev f x= .func (.func k) #[] cap) (hy:ev f y=b)
  (hk: ∀a w,(callFunc k a).run P w= .ok (.enter k a) w)
  (hc: ∀w,Hp w0 L w→(∀p,p∈X→w.heap[p.1]? =some p.2)→(keys X).Nodup→Rets P k ars w (XS w X S))
  (hn: ∀v D,Came w0 L X D→S v D→Ow P w0 ops md' rest (qA_ f d v) (D++Y) N):
  Ow P w0 ops md (⟨d, .call ⟨.value x, #[y],ts⟩,ty,ps,af,g⟩::rest) f L N:=by
 subst hL
 have hnd: ∀w,Hp w0 (X++Y) w→(keys X).Nodup∧ ∀c,c∈keys Y→c∉keys X:=by
  intro w hw
  have:=hw.nodup
  rw[zo_,List.nodup_append] at this
  exact⟨this.1,fun c hc hx=>this.2.2 c hx c hc rfl⟩
 refine Ow.call (S:=fun B v D=>((∀c,c∈keys D→c∈keys X∨B≤c)∧(∀c,c∈keys X→c∈keys D)∧S v D)∧ ∃w,Hp w0 (X++Y) w∧w.heap.size=B) he hs hx hk (fun w hw=> ?_) ?_
 ·show Rets P k (#[]++ #[y].map (ev f)++cap) w _
  rw[show(#[]++ #[y].map (ev f)++cap:Array Value)=ars by rw[←ha];simp[hy]]
  refine Calls.mono (hc w hw (fun p hp=>hw.has _ _ (List.mem_append_left _ hp)) (hnd w hw).1) ?_
  rintro e w' ⟨v,D,he,hp,hS⟩
  exact⟨v,D,he,hp,⟨hS.1.new,hS.1.all,hS.2⟩,w,hw,rfl⟩
 ·rintro B v D hab hB ⟨⟨h1,h2,h3⟩,w1,hw1,hwB⟩
  refine⟨D++Y, ?_,hn v D ⟨fun c hc=>(h1 c hc).imp id fun h=>⟨z2_ fun b hb=>by have:=hw1.lt hb;omega,by have:=hw1.size;omega⟩,h2⟩ h3⟩
  intro w w' hwb h k
  have ht:=h.trans k
  have hY: ∀c,c∈keys Y→c∉keys D:=by
   intro c hc hd
   rcases h1 c hd with hx|hx
   ·exact(hnd w h).2 c hc hx
   ·have:=h.lt (b:=c) (by rw[zo_];exact List.mem_append_right _ hc)
    omega
  have e1:X.filter (fun p=> !(keys D).contains p.1)= []:=by
   rw[List.filter_eq_nil_iff]
   intro p hp
   have:=h2 p.1 (List.mem_map.2 ⟨p,hp,rfl⟩)
   simpa using this
  have e2:Y.filter (fun p=> !(keys D).contains p.1)=Y:=jg_ hY
  rw[List.filter_append,e1,e2,List.nil_append] at ht
  refine ht.same (fun p=>by simp[or_comm]) ?_
  have:=ht.nodup
  rw[zo_] at this ⊢
  exact(List.perm_append_comm.nodup_iff).1 this
end
end Go.Sx
namespace Go.Sx
open Go
def ItG {α β:Type} (encK:α→Value) (encV:β→Value) (o:Obj) (bm:Nat) (om:Obj) (m dn lf:List (α×β)):Prop:=
 ∃es clock,∃ds:List MapEntry,om= .map es clock∧(es.toList.map (·.born)++ [clock]).Pairwise (· < ·)∧o= .mapIter (some bm) clock (ds.map (·.born)).toArray clock∧
  ds.map kv=dn.map (xR_ encK encV)∧(∀d,d∈ds→d∈es.toList)∧((es.toList.filter fun e=> !(ds.map (·.born)).contains e.born).map kv=lf.map (xR_ encK encV))∧(dn++lf).Perm m
theorem ItG.start {α β:Type} {encK:α→Value} {encV:β→Value} {bm:Nat} {om:Obj} {m:List (α×β)} (h:wB_ encK encV om m): ∃es clock,om= .map es clock∧ItG encK encV (.mapIter (some bm) clock #[] clock) bm om m [] m:=by
 obtain⟨es,clock,rfl,h1,h2⟩:=h
 refine⟨es,clock,rfl,es,clock,[],rfl,h2,rfl,rfl,(fun d hd=>by cases hd), ?_,by rw[List.nil_append]⟩
 rw[show(es.toList.filter fun e=> !(([]:List MapEntry).map (·.born)).contains e.born)=es.toList from List.filter_eq_self.2 (fun _ _=>rfl)]
 exact h1
theorem ItG.step {α β:Type} {encK:α→Value} {encV:β→Value} {bm:Nat} {om:Obj} {m dn lf:List (α×β)} {es:Array MapEntry} {clock:Nat} {ds:List MapEntry} {e:MapEntry} (hb: (es.toList.map (·.born)++ [clock]).Pairwise (· < ·))
  (hd:ds.map kv=dn.map (xR_ encK encV)) (hm: ∀d,d∈ds→d∈es.toList) (hl: (es.toList.filter fun e=> !(ds.map (·.born)).contains e.born).map kv=lf.map (xR_ encK encV)) (hp: (dn++lf).Perm m)
  (he:e∈es.toList.filter fun e=> !(ds.map (·.born)).contains e.born) (hom:om= .map es clock):
  ∃p lf',kv e=xR_ encK encV p∧lf.length=lf'.length+1∧ItG encK encV (.mapIter (some bm) clock ((ds.map (·.born)).toArray.push e.born) clock) bm om m (dn++ [p]) lf':=by
 obtain⟨A,C,hAC⟩:=List.append_of_mem he
 rw[hAC,List.map_append,List.map_cons] at hl
 obtain⟨l1,l2,rfl,h1,h2⟩:=List.append_eq_map_iff.1 hl
 obtain⟨p,l3,rfl,h3,h4⟩:=(List.map_eq_cons_iff.1 h2)
 refine⟨p,l1++l3,h3.symm,by simp;omega,es,clock,ds++ [e],hom,hb,by simp,by simp[hd,h3], ?_, ?_, ?_⟩
 ·intro d hd'
  rcases List.mem_append.1 hd' with h|h
  ·exact hm d h
  ·rw[List.mem_singleton] at h;subst h;exact(List.mem_filter.1 he).1
 ·have hnd: ((A++e::C).map (·.born)).Nodup:=by
   rw[←hAC]
   exact(Qk_ hb).sublist ((List.filter_sublist).map _)
  have e1: (es.toList.filter fun x=> !((ds++ [e]).map (·.born)).contains x.born)=(A++e::C).filter fun x=> !(x.born==e.born):=by
   rw[←hAC,List.filter_filter]
   refine List.filter_congr fun x hx=> ?_
   simp only[List.map_append,List.map_cons,List.map_nil,List.contains_append,List.contains_cons,List.contains_nil,Bool.or_false,Bool.not_or]
   rw[Bool.and_comm]
  rw[List.map_append,List.map_cons,List.nodup_append] at hnd
  obtain⟨-,hn2,hn3⟩:=hnd
  rw[List.nodup_cons] at hn2
  have e2: ((A++e::C).filter fun x=> !(x.born==e.born))=A++C:=by
   rw[List.filter_append,List.filter_cons]
   simp only[beq_self_eq_true,Bool.not_true,Bool.false_eq_true, ↓reduceIte]
   congr 1
   ·refine List.filter_eq_self.2 fun x hx=> ?_
    have:=hn3 x.born (List.mem_map.2 ⟨x,hx,rfl⟩) e.born List.mem_cons_self
    simpa using this
   ·refine List.filter_eq_self.2 fun x hx=> ?_
    have:x.born≠e.born:=fun h=>hn2.1 (h▸List.mem_map.2 ⟨x,hx,rfl⟩)
    simpa using this
  rw[e1,e2,List.map_append,List.map_append,h1,h4]
 ·refine List.Perm.trans ?_ hp
  rw[List.append_assoc]
  refine List.Perm.append_left dn ?_
  rw[List.singleton_append]
  exact List.perm_middle.symm
section
variable {α β:Type} {encK:α→Value} {encV:β→Value} {P:Program} {w0:World} {f:Fr} {L:ze_} {N:Fr→ze_→Prop} {ops:Array Oper} {rest:List Oper} {md:Md}
 {d:Option Tmp} {ty:TypeId} {ps:String} {af:Array Edge} {g:Option (Nat×Bool)}
theorem Ow.rangeMapG {t kt vt:TypeId} {x:Operand} {bm:Nat} {om:Obj} {m:List (α×β)} {md':Md} (he:md.turn=some md') (hs:zs_ ops f ⟨d, .range t x,ty,ps,af,g⟩=false) (hu:P.underlying t=some (.map kt vt))
  (hx:ev f x=vm bm) (hl:zy_ w0 L bm=some om) (hm:wB_ encK encV om m)
  (hn: ∀b o,jB_ L b→w0.heap.size≤b→ItG encK encV o bm om m [] m→Ow P w0 ops md' rest (qA_ f d (itv b)) (L++ [(b,o)]) N):
  Ow P w0 ops md (⟨d, .range t x,ty,ps,af,g⟩::rest) f L N:=by
 obtain⟨es,clock,rfl,hI⟩:=ItG.start (bm:=bm) hm
 refine Ow.step he rfl hs fun w hw=> .inl ⟨itv w.heap.size,w.alloc (.mapIter (some bm) clock #[] clock),_, ?_,hw.alloc _,hn _ _ (z2_ fun b hb=>hw.lt hb) hw.size hI⟩
 have hb:=hw.read hl
 have: (Instr.range t (vm bm)).run P w= .ok (itv w.heap.size) (w.alloc (.mapIter (some bm) clock #[] clock)):=by
  simp only[Instr.range,vm,Sem.run_bind,run_underlying hu w,Result.andThen_ok,qI_ hb]
  rfl
 simp only[execOp,Sem.run_bind,hx]
 rw[this];rfl
theorem Ow.nextMapG {x:Operand} {r bm:Nat} {o om:Obj} {m dn lf:List (α×β)} {md':Md} (he:md.turn=some md') (hs:zs_ ops f ⟨d, .next x false,ty,ps,af,g⟩=false)
  (hx:ev f x=itv r) (hl:look L r=some o) (hlm:zy_ w0 L bm=some om) (hI:ItG encK encV o bm om m dn lf)
  (h0:lf= []→Ow P w0 ops md' rest (qA_ f d (.tuple #[.bool false])) L N)
  (h1: ∀p o' lf',lf.length=lf'.length+1→ItG encK encV o' bm om m (dn++ [p]) lf'→Ow P w0 ops md' rest (qA_ f d (.tuple #[.bool true,encK p.1,encV p.2])) (setB L r o') N):
  Ow P w0 ops md (⟨d, .next x false,ty,ps,af,g⟩::rest) f L N:=by
 refine Ow.step he rfl hs fun w hw=> ?_
 have hr:=hw.has _ _ (zq_ hl)
 have hb:=hw.read hlm
 obtain⟨es,clock,ds,rfl,hbo,rfl,hd,hm,hlf,hp⟩:=hI
 rcases run_next_at (P:=P) w ty r bm clock clock (ds.map (·.born)).toArray es clock hr hb (aoq_ hbo) (Nat.le_refl _) with⟨hz,hrun⟩ | ⟨e,hem,w1,hw1,hrun⟩
 ·refine .inl ⟨.tuple #[.bool false],w,L, ?_,hw,h0 ?_⟩
  ·simp only[execOp,Sem.run_bind,hx,itv]
   rw[hrun];rfl
  ·have: (leftOf es (ds.map (·.born)).toArray).toList= []:=by
    rw[Array.toList_eq_nil_iff];exact Array.eq_empty_of_size_eq_zero hz
   rw[aba_] at this
   rw[this] at hlf
   exact(List.map_eq_nil_iff.1 hlf.symm)
 ·rw[aba_] at hem
  obtain⟨p,lf',hk,hlen,hI'⟩:=ItG.step (bm:=bm) hbo hd hm hlf hp hem rfl
  simp only[kv,xR_,Prod.mk.injEq] at hk
  have hw1':Hp w0 L w1:=by rcases hw1 with rfl|rfl;exact hw;exact hw.drew
  refine .inl ⟨.tuple #[.bool true,encK p.1,encV p.2],ChangeMaps.setBlock w1 r (.mapIter (some bm) clock ((ds.map (·.born)).toArray.push e.born) clock),_, ?_,hw1'.set (zg_ hl) rfl rfl rfl rfl,h1 p _ lf' hlen hI'⟩
  simp only[execOp,Sem.run_bind,hx,itv]
  rw[hrun,hk.1,hk.2];rfl
theorem Ow.entryMapG {x:Operand} {r bm:Nat} {o om:Obj} {m dn lf:List (α×β)} {p:α×β} {md':Md} (he:md.turn=some md') (hs:zs_ ops f ⟨d, .entry x,ty,ps,af,g⟩=false)
  (hx:ev f x=itv r) (hl:zy_ w0 L r=some o) (hlm:zy_ w0 L bm=some om) (hI:ItG encK encV o bm om m (dn++ [p]) lf)
  (hn:Ow P w0 ops md' rest (qA_ f d (.tuple #[encK p.1,encV p.2])) L N):
  Ow P w0 ops md (⟨d, .entry x,ty,ps,af,g⟩::rest) f L N:=by
 refine Ow.step he rfl hs fun w hw=> .inl ⟨_,w,L, ?_,hw,hn⟩
 have hr:=hw.read hl
 have hb:=hw.read hlm
 obtain⟨es,clock,ds,rfl,hbo,rfl,hd,hm,hlf,hp⟩:=hI
 rw[List.map_append,List.map_cons,List.map_nil] at hd
 obtain⟨d1,d2,rfl,-,h2⟩:=List.map_eq_append_iff.1 hd
 obtain⟨e,d3,rfl,h3,h4⟩:=List.map_eq_cons_iff.1 h2
 obtain rfl:=List.map_eq_nil_iff.1 h4
 simp only[kv,xR_,Prod.mk.injEq] at h3
 have hs': ((d1++ [e]).map (·.born)).toArray=(d1.map (·.born)).toArray.push e.born:=by simp
 rw[hs'] at hr
 have hrun:=run_entry_at (P:=P) w r bm clock (d1.map (·.born)).toArray es clock e hr hb (hm e (by simp)) (Qk_ hbo)
 simp only[execOp,Sem.run_bind,hx,itv]
 rw[hrun,h3.1,h3.2];rfl
end
theorem acH_ (l:List UInt8):Instr.sameBits 10000 (.agg (a8 l)) (.agg (a8 l))=true:=by
 show Instr.sameBits (9999+1) _ _=true
 unfold Instr.sameBits
 simp only[beq_self_eq_true,Bool.true_and,List.all_eq_true]
 intro p hp
 obtain⟨i,hi,rfl⟩:=List.getElem_of_mem hp
 rw[List.getElem_zip]
 simp[a8,Instr.sameBits]
theorem W8_ {P:Program} {t e:TypeId} {n:Nat} (hu:P.underlying t=some (.array n e)) (he:P.underlying e=some (.int .u8)) (hm:qf_ P e=some (false,1)) (l l':List UInt8) (hl:l.length=n) (hl':l'.length=n) (w:World):
  (Op.equal t (.agg (a8 l)) (.agg (a8 l'))).run P w= .ok (l==l') w:=
 akr_ P 8 9992 t _ _ _ (aiL_ (d:=6) hu he hm l l' hl hl') w
theorem XU_ {P:Program} {t e:TypeId} {n:Nat} (hu:P.underlying t=some (.array n e)) (he:P.underlying e=some (.int .u8)) (hm:qf_ P e=some (false,1)) (l:List UInt8) (hl:l.length=n) (em:Bool) (w:World):
  (Instr.checkKey em 10000 t (.agg (a8 l))).run P w= .ok () w:=by
 show(Instr.checkKey em (9999+1) t (.agg (a8 l))).run P w= .ok () w
 rw[Instr.checkKey]
 simp only[Sem.run_bind,run_underlying hu,Result.andThen_ok]
 simp only[Std.Legacy.Range.forIn_eq_forIn_range',Std.Legacy.Range.size,Nat.sub_zero,Nat.add_one_sub_one,Nat.div_one]
 have each: ∀j,j∈List.range' 0 n→j<l.length:=by
  intro j hj
  rw[List.mem_range'] at hj
  obtain⟨i,hi,rfl⟩:=hj
  omega
 generalize List.range' 0 n=is at each
 induction is with
 |nil=>simp
 |cons j is ih=>
  have hj:=each j (by simp)
  have p1: (part e (a8 l) (j*1)).run P w= .ok (v8 (l.getD j 0)) w:=by
   refine jY_ hm ?_ w
   simp[partV,a8,v8,hj]
  have p2: (Instr.checkKey em 9999 e (v8 (l.getD j 0))).run P w= .ok () w:=by
   show(Instr.checkKey em (9998+1) e (v8 (l.getD j 0))).run P w= .ok () w
   rw[Instr.checkKey]
   simp only[Sem.run_bind,run_underlying he,Result.andThen_ok,v8]
   rfl
  simp only[List.forIn_cons,Sem.run_bind,zL_ hm w,Result.andThen_ok,p1,p2,Sem.run_pure]
  exact ih (fun y hy=>each y (by simp[hy]))
theorem ag6_ {n:Nat} {e:TypeId} (x:Value): ∀ (es:List MapEntry) (i:Nat),es≠ []→Instr.findNow (.array n e) x es i=none
 | [],_,h=>absurd rfl h
 |_::_,_,_=>by cases x<;>rfl
theorem QI_ {α β:Type} [BEq α] {P:Program} {kt:TypeId} {encK:α→Value} {encV:β→Value} (he: ∀a b w,(Op.equal kt (encK a) (encK b)).run P w= .ok (a==b) w) (w:World) (k:α): ∀ (es:List MapEntry) (m:List (α×β)) (i:Nat),es.map (fun e=>(e.key,e.val))=m.map (xR_ encK encV)→
  (Instr.findAsking kt (encK k) es i).run P w= .ok ((Q8_ k m i).map fun p=>(p.1,encV p.2)) w
 | [],[],_,_=>rfl
 | [],_::_,_,h=>by cases h
 |_::_,[],_,h=>by cases h
 |e::es,p::m,i,h=>by
  simp only[List.map_cons,List.cons.injEq,xR_,Prod.mk.injEq] at h
  obtain⟨⟨h1,h2⟩,h3⟩:=h
  unfold Instr.findAsking Q8_
  rw[Sem.run_bind,h1,he]
  simp only[Result.andThen_ok]
  cases hk: (k==p.1)
  ·simp only[Bool.false_eq_true, ↓reduceIte]
   exact QI_ he w k es m (i+1) h3
  ·simp[h2]
theorem KeyOk.arr {α:Type} [BEq α] {P:Program} {kt e:TypeId} {n:Nat} (hu:P.underlying kt=some (.array n e)) (he:P.underlying e=some (.int .u8)) (hm:qf_ P e=some (false,1)) (bs:α→List UInt8) (hb: ∀a,(bs a).length=n) (hq: ∀a b,(bs a==bs b)=(a==b)):
  KeyOk P kt (fun a:α=> .agg (a8 (bs a))) where
 find encV w k es m h:=by
  cases es with
  |nil=>
   cases m with
   |nil=>simp only[Instr.findKey,Sem.run_bind,run_underlying hu w,Result.andThen_ok];rfl
   |cons=>cases h
  |cons e0 es=>
   simp only[Instr.findKey,Sem.run_bind,run_underlying hu w,Result.andThen_ok]
   rw[ag6_ _ _ _ (by simp)]
   exact QI_ (encK:=fun a:α=> .agg (a8 (bs a))) (fun a b w=>by rw[W8_ hu he hm _ _ (hb a) (hb b) w,hq]) w k _ m 0 h
 check w e k:=XU_ hu he hm _ (hb k) e w
 bits k:=acH_ _
section
variable {α β:Type} [BEq α] [LawfulBEq α] {encK:α→Value} {encV:β→Value} {P:Program} {w0:World} {f:Fr} {L:ze_} {N:Fr→ze_→Prop} {ops:Array Oper} {rest:List Oper} {md:Md}
 {d:Option Tmp} {ty:TypeId} {ps:String} {af:Array Edge} {g:Option (Nat×Bool)}
omit [LawfulBEq α] in
end
end Go.Sx
namespace Go.Sx
open Go
theorem KeyOk.str {P:Program} {kt:TypeId} (hu:P.underlying kt=some .string):KeyOk P kt vs where
 find encV w k es m h:=by
  simp only[Instr.findKey,Sem.run_bind,run_underlying hu w,Result.andThen_ok]
  rw[JD_ (encK:=vs) (fun a b=>by simp only[vs,Instr.sameNow,Vt_]) k es m 0 h]
  rfl
 check w e k:=by
  unfold Instr.checkKey
  simp only[Sem.run_bind,run_underlying hu w,Result.andThen_ok,vs]
  rfl
 bits k:=by simp only[vs,Instr.sameBits,Vt_,beq_self_eq_true]
section
variable {α β:Type} [BEq α] [LawfulBEq α]
def delG (k:α):List (α×β)→List (α×β)
 | []=> []
 |p::r=>if k==p.1 then r else p::delG k r
variable {encK:α→Value} {encV:β→Value}
omit [LawfulBEq α] in
theorem aiv_ (k:α): ∀ (m:List (α×β)) (i j:Nat) (a:β),Q8_ k m i=some (j,a)→i≤j
 | [],_,_,_,h=>by cases h
 |p::r,i,j,a,h=>by
  unfold Q8_ at h
  split at h
  ·cases h;exact Nat.le_refl _
  ·have:=aiv_ k r (i+1) j a h;omega
omit [LawfulBEq α] in
theorem ab0_ (k:α): ∀ (es:List MapEntry) (m:List (α×β)) (i j:Nat) (a:β),es.map (fun e=>(e.key,e.val))=m.map (xR_ encK encV)→Q8_ k m i=some (j,a)→
  (es.eraseIdx (j - i)).map (fun e=>(e.key,e.val))=(delG k m).map (xR_ encK encV)
 | [],[],_,_,_,_,h=>by cases h
 | [],_::_,_,_,_,h,_=>by cases h
 |_::_,[],_,_,_,h,_=>by cases h
 |e::es,p::m,i,j,a,h,hf=>by
  simp only[List.map_cons,List.cons.injEq] at h
  obtain⟨h1,h3⟩:=h
  unfold Q8_ at hf
  unfold delG
  split at hf
  ·rename_i hk
   cases hf
   rw[if_pos hk,Nat.sub_self]
   exact h3
  ·rename_i hk
   have hle:=aiv_ k m (i+1) j a hf
   rw[if_neg hk,show j - i=(j - (i+1))+1 by omega]
   simp only[List.eraseIdx_cons_succ,List.map_cons]
   rw[ab0_ k es m (i+1) j a h3 hf,h1]
omit [LawfulBEq α] in
theorem aa4_ (k:α): ∀ (m:List (α×β)) (i:Nat),Q8_ k m i=none→delG k m=m
 | [],_,_=>rfl
 |p::r,i,h=>by
  unfold Q8_ at h
  split at h
  ·cases h
  ·rename_i hk
   unfold delG
   rw[if_neg hk,aa4_ k r (i+1) h]
variable {P:Program} {w0:World} {f:Fr} {L:ze_} {N:Fr→ze_→Prop} {ops:Array Oper} {rest:List Oper} {md:Md}
 {d:Option Tmp} {ty:TypeId} {ps:String} {af:Array Edge} {g:Option (Nat×Bool)}
omit [LawfulBEq α] in
theorem Ow.mapDeleteG {t kt vt:TypeId} {x y:Operand} {t2:TypeId} {b:Nat} {o:Obj} {m:List (α×β)} {k:α} {md':Md} (he:md.turn=some md') (hs:zs_ ops f ⟨d, .call ⟨.builtin .delete, #[x,y], #[t,t2]⟩,ty,ps,af,g⟩=false) (hu:P.underlying t=some (.map kt vt)) (hk:KeyOk P kt encK)
  (hx:ev f x=vm b) (hy:ev f y=encK k) (hl:look L b=some o) (hm:wB_ encK encV o m)
  (hn: ∀o',wB_ encK encV o' (delG k m)→Ow P w0 ops md' rest (qA_ f d (.tuple #[])) (setB L b o') N):
  Ow P w0 ops md (⟨d, .call ⟨.builtin .delete, #[x,y], #[t,t2]⟩,ty,ps,af,g⟩::rest) f L N:=by
 obtain⟨es,c,rfl,hes,hbo⟩:=hm
 refine Ow.step he rfl hs fun w hw=> ?_
 have hb:=hw.has _ _ (zq_ hl)
 have hfk:=hk.find encV w k es.toList m hes
 cases hf:Q8_ k m 0 with
 |none=>
  rw[hf] at hfk
  refine .inl ⟨.tuple #[],{w with heap:=w.heap.setIfInBounds b (.map es c)},_, ?_,hw.set (zg_ hl) rfl rfl rfl rfl,hn _ ⟨es,c,rfl,by rw[aa4_ k m 0 hf];exact hes,hbo⟩⟩
  have: (Builtin.delete_ #[t,t2] ty #[vm b,encK k]).run P w= .ok (.tuple #[]) {w with heap:=w.heap.setIfInBounds b (.map es c)}:=by
   simp only[Builtin.delete_,vm,List.getElem?_toArray,List.getElem?_cons_zero,List.getElem?_cons_succ,Sem.run_bind,run_underlying hu w,Result.andThen_ok,qI_ hb,hk.check,hfk,Option.map_none,j2_ hb]
   rfl
  simp only[execOp,resolve,Sem.run_bind,Sem.run_pure,Result.andThen_ok,invoke,builtin,List.map_toArray,List.map_cons,List.map_nil,hx,hy]
  rw[this];rfl
 |some p=>
  obtain⟨j,a⟩:=p
  rw[hf] at hfk
  refine .inl ⟨.tuple #[],{w with heap:=w.heap.setIfInBounds b (.map (es.eraseIdxIfInBounds j) c)},_, ?_,hw.set (zg_ hl) rfl rfl rfl rfl,hn _ ⟨_,c,rfl, ?_,by rw[Array.toList_eraseIdxIfInBounds];exact ag8_ hbo⟩⟩
  ·have: (Builtin.delete_ #[t,t2] ty #[vm b,encK k]).run P w= .ok (.tuple #[]) {w with heap:=w.heap.setIfInBounds b (.map (es.eraseIdxIfInBounds j) c)}:=by
    simp only[Builtin.delete_,vm,List.getElem?_toArray,List.getElem?_cons_zero,List.getElem?_cons_succ,Sem.run_bind,run_underlying hu w,Result.andThen_ok,qI_ hb,hk.check,hfk,Option.map_some,j2_ hb]
    rfl
   simp only[execOp,resolve,Sem.run_bind,Sem.run_pure,Result.andThen_ok,invoke,builtin,List.map_toArray,List.map_cons,List.map_nil,hx,hy]
   rw[this];rfl
  ·have:=ab0_ (encK:=encK) (encV:=encV) k es.toList m 0 j a hes hf
   rw[Nat.sub_zero] at this
   rw[←this]
   simp
omit [BEq α] [LawfulBEq α] in
theorem Ow.mapClearG {t kt vt:TypeId} {x:Operand} {b:Nat} {o:Obj} {m:List (α×β)} {md':Md} (he:md.turn=some md') (hs:zs_ ops f ⟨d, .call ⟨.builtin .clear, #[x], #[t]⟩,ty,ps,af,g⟩=false) (hu:P.underlying t=some (.map kt vt))
  (hx:ev f x=vm b) (hl:look L b=some o) (hm:wB_ encK encV o m)
  (hn: ∀o',wB_ encK encV o' []→Ow P w0 ops md' rest (qA_ f d (.tuple #[])) (setB L b o') N):
  Ow P w0 ops md (⟨d, .call ⟨.builtin .clear, #[x], #[t]⟩,ty,ps,af,g⟩::rest) f L N:=by
 obtain⟨es,c,rfl,hes,hbo⟩:=hm
 refine Ow.step he rfl hs fun w hw=> ?_
 have hb:=hw.has _ _ (zq_ hl)
 refine .inl ⟨.tuple #[],{w with heap:=w.heap.setIfInBounds b (.map #[] c)},_, ?_,hw.set (zg_ hl) rfl rfl rfl rfl,hn _ ⟨#[],c,rfl,rfl,List.pairwise_singleton _ _⟩⟩
 have: (Builtin.clear_ #[t] ty #[vm b]).run P w= .ok (.tuple #[]) {w with heap:=w.heap.setIfInBounds b (.map #[] c)}:=by
  simp only[Builtin.clear_,vm,List.getElem?_toArray,List.getElem?_cons_zero,Sem.run_bind,run_underlying hu w,Result.andThen_ok,qI_ hb,j2_ hb]
  rfl
 simp only[execOp,resolve,Sem.run_bind,Sem.run_pure,Result.andThen_ok,invoke,builtin,List.map_toArray,List.map_cons,List.map_nil,hx]
 rw[this];rfl
end
section
variable {P:Program} {w0:World} {f:Fr} {L:ze_} {N:Fr→ze_→Prop} {ops:Array Oper} {rest:List Oper} {md:Md}
 {d:Option Tmp} {ty:TypeId} {ps:String} {af:Array Edge} {g:Option (Nat×Bool)}
theorem Ow.ifaceMap {t kt vt:TypeId} {x:Operand} {v:Value} (hs:zs_ ops f ⟨d, .makeInterface t x,ty,ps,af,g⟩=false) (hu:P.underlying t=some (.map kt vt)) (hx:ev f x=v)
  (hn:Ow P w0 ops md.next rest (qA_ f d (.iface t v)) L N):Ow P w0 ops md (⟨d, .makeInterface t x,ty,ps,af,g⟩::rest) f L N:=by
 refine Ow.calm rfl rfl hs (fun w hw=> .inl ⟨.iface t v,w,L, ?_,hw,rfl,rfl⟩) hn
 simp only[execOp,Instr.makeInterface,Sem.run_bind,run_underlying hu w,Result.andThen_ok,hx]
 rfl
theorem Ow.assertMap {t kt vt xt:TypeId} {x:Operand} {v:Value} (hs:zs_ ops f ⟨d, .typeAssert x xt t false,ty,ps,af,g⟩=false) (hu:P.underlying t=some (.map kt vt)) (hx:ev f x= .iface t v)
  (hn:Ow P w0 ops md.next rest (qA_ f d v) L N):Ow P w0 ops md (⟨d, .typeAssert x xt t false,ty,ps,af,g⟩::rest) f L N:=by
 refine Ow.calm rfl rfl hs (fun w hw=> .inl ⟨v,w,L, ?_,hw,rfl,rfl⟩) hn
 simp only[execOp,Instr.typeAssert,Sem.run_bind,run_underlying hu w,Result.andThen_ok,hx, ↓reduceIte]
 rfl
theorem Ow.cloneMap {α β:Type} {encK:α→Value} {encV:β→Value} {x:Operand} {ts:Array TypeId} {k:FuncId} {it:TypeId} {b:Nat} {o:Obj} {m:List (α×β)} {md':Md} (he:md.turn=some md')
  (hs:zs_ ops f ⟨d, .call ⟨.value (.func k), #[x],ts⟩,ty,ps,af,g⟩=false)
  (hk: ∀a w,(callFunc k #[a]).run P w=((Extern.MapsClone.clone #[a]).run P w).andThen fun v w=> .ok (.value v) w)
  (hx:ev f x= .iface it (vm b)) (hl:zy_ w0 L b=some o) (hm:wB_ encK encV o m)
  (hn: ∀c o',jB_ L c→w0.heap.size≤c→wB_ encK encV o' m→Ow P w0 ops md' rest (qA_ f d (.iface it (vm c))) (L++ [(c,o')]) N):
  Ow P w0 ops md (⟨d, .call ⟨.value (.func k), #[x],ts⟩,ty,ps,af,g⟩::rest) f L N:=by
 obtain⟨es,c,rfl,hes,hbo⟩:=hm
 refine Ow.step he rfl hs fun w hw=> .inl ⟨.iface it (vm w.heap.size),w.alloc (.map es c),_, ?_,hw.alloc _,hn _ _ (z2_ fun b hb=>hw.lt hb) hw.size ⟨es,c,rfl,hes,hbo⟩⟩
 have hb:=hw.read hl
 have hA:Array.map (ev f) #[x]= #[.iface it (vm b)]:=by simp[hx]
 have h: (callFunc k #[.iface it (vm b)]).run P w= .ok (.value (.iface it (vm w.heap.size))) (w.alloc (.map es c)):=by
  rw[hk]
  have hc:Extern.MapsClone.clone #[.iface it (vm b)]=(getObj b>>=fun o=>match o with| .map es c=>(newObj (.map es c)>>=fun r=>pure (.iface it (.map (some r)))) |_=>stuck "maps.clone: a map expected"):=rfl
  rw[hc,Sem.run_bind,qI_ hb]
  rfl
 simp only[execOp,resolve,Deferred.ofValue,ajM_,Sem.run_bind,Sem.run_pure,Result.andThen_ok,invoke,hA]
 simpa using h
end
end Go.Sx
namespace Go.Sx
open Go
theorem Hp.later {w0 w1 w2:World} {L D:ze_} (h:Hp w0 L w1) (k:Hp w1 D w2) (hD:New w1.heap.size D):Hp w0 (L++D) w2:=
 Mrg.fresh hD.le w1 w2 rfl h k
theorem Ow.world {P:Program} {w0:World} {ops:Array Oper} {l:List Oper} {f:Fr} {L:ze_} {N:Fr→ze_→Prop} (h: ∀w,Hp w0 L w→Ow P w0 ops .seq l f L N):Ow P w0 ops .seq l f L N:=fun w hw=>h w hw w hw
theorem Rets.chunk {P:Program} {k:FuncId} {args:Array Value} {w:World} {S:Value→Obj→Prop} {X:ze_} {b:Nat} (hX: ∀p,p∈X→w.heap[p.1]? =some p.2) (hn: (keys X).Nodup) (hb:b∈keys X)
  (h:Rets P k args w (fun v D=> ∃o,D= [(b,o)]∧S v o)):Rets P k args w (XS w X (fun v D=> ∃o,D=setB X b o∧S v o)):=
 Calls.mono h fun e w' ⟨v,D,he,hp,o,hD,hS⟩=>⟨v,setB X b o,he,by subst hD;exact Mrg.set hb w w' rfl ((Hp.refl w).ownX hX hn) hp,(Ext.refl w X).setB,o,rfl,hS⟩
theorem Rets.toX {P:Program} {k:FuncId} {a:Array Value} {w:World} {S:Value→Prop} (h:Rets P k a w (fun v D=>S v∧D= [])):Rets P k a w (XS w [] (fun v D=>D= []∧S v)):=
 h.mono fun v D ⟨h1,h2⟩=>⟨by subst h2;exact Ext.refl w [],h2,h1⟩
theorem Gr.rowL {α:Type} {m:Nat} {enc:α→List Value} {z:α} {w0 w:World} {v:Value} {l:List α} {L:ze_} {E:TypeId} {n:Nat} (h:Gr L E m v n (l.map enc).flatten) (hn:l.length=n) (hw:Hp w0 L w) (hm: ∀x,(enc x).length=m):
  ∃b off arr F fz,RowS m enc z w v l b off arr F fz∧(0<l.length→look L b=some (.cells arr F fz)):=by
 obtain⟨b,off,c,arr,F,fz,hr,hc,⟨rfl,rfl,rfl⟩ | ⟨rfl,hb,hsz⟩⟩:=h.slV (z:=z) hw hn rfl hm
 ·exact⟨b,off,arr,F,fz,hr,fun h0=>absurd h0 (by simp)⟩
 ·refine⟨b,off,arr,F,fz,hr,fun _=> ?_⟩
  obtain⟨o,ho⟩:=Jk_ (h.key (b:=b) rfl)
  have:=hw.has _ _ (zq_ ho)
  rw[hb] at this
  rw[ho,this]
theorem GrI.rowL {α:Type} {m:Nat} {enc:α→List Value} {z:α} {w0 w:World} {v:Value} {l:List α} {D:ze_} {E:TypeId} {n:Nat} (h:GrI D E m v n (l.map enc).flatten) (hn:l.length=n) (hw:Hp w0 D w) (hm: ∀x,(enc x).length=m):
  ∃b off arr F fz,RowS m enc z w v l b off arr F fz∧(0<l.length→look D b=some (.cells arr F fz)):=by
 obtain⟨X,hX,h⟩:=h
 obtain⟨b,off,c,arr,F,fz,hr,hc,⟨rfl,rfl,rfl⟩ | ⟨rfl,hb,hsz⟩⟩:=h.slM (z:=z) (fun b o hm=>hw.has b o (hX _ hm)) hn rfl hm
 ·exact⟨b,off,arr,F,fz,hr,fun h0=>absurd h0 (by simp)⟩
 ·refine⟨b,off,arr,F,fz,hr,fun _=> ?_⟩
  obtain⟨o,ho⟩:=Jk_ (h.key (b:=b) rfl)
  have hm:=hX _ (zq_ ho)
  have:=hw.has _ _ hm
  rw[hb] at this
  rw[jK_ hw.nodup hm,this]
end Go.Sx
section
namespace Go.Sx
open Go
set_option maxRecDepth 100000
set_option linter.defProp false
def S0:=And.intro (And.intro (And.intro (And.intro (And.intro (And.intro (@amb_) (And.intro (@am7_) (@aom_))) (And.intro (@amn_) (And.intro (@ahF_) (@al5_)))) (And.intro (And.intro (@akn_) (And.intro (@alT_) (@ael_))) (And.intro (And.intro (@aai_) (@WI_)) (And.intro (@akM_) (@Wk_))))) (And.intro (And.intro (And.intro (@ah4_) (And.intro (@amX_) (@aes_))) (And.intro (And.intro (@akl_) (@aaq_)) (And.intro (@an8_) (@apB_)))) (And.intro (And.intro (@aii_) (And.intro (@adq_) (@ahR_))) (And.intro (And.intro (@ao9_) (@ai0_)) (And.intro (@Km_) (@Wl_)))))) (And.intro (And.intro (And.intro (And.intro (@alk_) (And.intro (@aht_) (@al8_))) (And.intro (@agm_) (And.intro (@akF_) (@aoL_)))) (And.intro (And.intro (@apk_) (And.intro (@QY_) (@wI_))) (And.intro (And.intro (@acU_) (@agV_)) (And.intro (@V5_) (@akd_))))) (And.intro (And.intro (And.intro (@amG_) (And.intro (@agg_) (@Qg_))) (And.intro (And.intro (@abV_) (@KK_)) (And.intro (@ajJ_) (@al2_)))) (And.intro (And.intro (@api_) (And.intro (@al3_) (@qm_))) (And.intro (And.intro (@al7_) (@aig_)) (And.intro (@ajM_) (@ql_))))))) (And.intro (And.intro (And.intro (And.intro (And.intro (@qu_) (And.intro (@zw_) (@zv_))) (And.intro (@aec_) (And.intro (@Kl_) (@amF_)))) (And.intro (And.intro (@amE_) (And.intro (@aja_) (@af5_))) (And.intro (And.intro (@anV_) (@ahs_)) (And.intro (@akv_) (@and_))))) (And.intro (And.intro (And.intro (@alf_) (And.intro (@ai4_) (@ai7_))) (And.intro (And.intro (@amU_) (@am5_)) (And.intro (@am1_) (@apO_)))) (And.intro (And.intro (@aiY_) (And.intro (@alI_) (@alU_))) (And.intro (And.intro (@als_) (@apu_)) (And.intro (@ajD_) (@ak6_)))))) (And.intro (And.intro (And.intro (And.intro (@alW_) (And.intro (@ag4_) (@ajf_))) (And.intro (And.intro (@amP_) (@ajQ_)) (And.intro (@ahY_) (@aoH_)))) (And.intro (And.intro (@aop_) (And.intro (@ao5_) (@aoM_))) (And.intro (And.intro (@ao8_) (@ann_)) (And.intro (@amk_) (@am0_))))) (And.intro (And.intro (And.intro (@alx_) (And.intro (@alr_) (@ano_))) (And.intro (And.intro (@aly_) (@alg_)) (And.intro (@aot_) (@alo_)))) (And.intro (And.intro (@ar7_) (And.intro (@aq7_) (@aqG_))) (And.intro (And.intro (@ap1_) (@ams_)) (And.intro (@ahQ_) (@ahS_)))))))
def S1:=And.intro (And.intro (And.intro (And.intro (And.intro (And.intro (And.intro (And.intro (@ama_) (@apI_)) (And.intro (@apq_) (And.intro (@aqL_) (@aoc_)))) (And.intro (And.intro (@aqQ_) (@vq_)) (And.intro (@vs_) (And.intro (@jA_) (@ajL_))))) (And.intro (And.intro (And.intro (@agR_) (@ads_)) (And.intro (@amH_) (And.intro (@abi_) (@ank_)))) (And.intro (And.intro (@amj_) (@beq_true)) (And.intro (@beq_false) (And.intro (@Bool.not_true) (@Bool.not_false)))))) (And.intro (And.intro (And.intro (And.intro (@Md.next_seq) (@Md.next_any)) (And.intro (@Md.next_qui) (And.intro (@Md.next_sof) (@acG_)))) (And.intro (And.intro (@acY_) (@acy_)) (And.intro (@KH_) (And.intro (@Kp_) (@KL_))))) (And.intro (And.intro (And.intro (@aqg_) (@aoN_)) (And.intro (@ane_) (And.intro (@ali_) (@alO_)))) (And.intro (And.intro (@arf_) (And.intro (@aoB_) (@apn_))) (And.intro (@an3_) (And.intro (@apy_) (@apr_))))))) (And.intro (And.intro (And.intro (And.intro (And.intro (@afW_) (@ahv_)) (And.intro (@agO_) (And.intro (@ahC_) (@aiC_)))) (And.intro (And.intro (@aho_) (@aha_)) (And.intro (@ahq_) (And.intro (@agL_) (@agM_))))) (And.intro (And.intro (And.intro (@ahI_) (@agP_)) (And.intro (@ahr_) (And.intro (@af2_) (@ajX_)))) (And.intro (And.intro (@acv_) (And.intro (@JV_) (@ag5_))) (And.intro (@Wr_) (And.intro (@Wv_) (@QA_)))))) (And.intro (And.intro (And.intro (And.intro (@Qz_) (@Wo_)) (And.intro (@Ww_) (And.intro (@agQ_) (@KF_)))) (And.intro (And.intro (@KM_) (@acp_)) (And.intro (@KB_) (And.intro (@Ke_) (@adO_))))) (And.intro (And.intro (And.intro (@X9_) (@Kk_)) (And.intro (@adt_) (And.intro (@acV_) (@ac5_)))) (And.intro (And.intro (@aem_) (And.intro (@acC_) (@ahK_))) (And.intro (@ady_) (And.intro (@ac4_) (@aex_)))))))) (And.intro (And.intro (And.intro (And.intro (And.intro (And.intro (@acl_) (@ac3_)) (And.intro (@ac2_) (And.intro (@aeA_) (@acm_)))) (And.intro (And.intro (@ad4_) (@ahj_)) (And.intro (@aaK_) (And.intro (@QF_) (@ad2_))))) (And.intro (And.intro (And.intro (@X8_) (@X0_)) (And.intro (@Zd_) (And.intro (@Zj_) (@X7_)))) (And.intro (And.intro (@KN_) (And.intro (@adI_) (@Xb_))) (And.intro (@XJ_) (And.intro (@abX_) (@Jv_)))))) (And.intro (And.intro (And.intro (And.intro (@JR_) (@aaA_)) (And.intro (@Xa_) (And.intro (@JX_) (@aa1_)))) (And.intro (And.intro (@acE_) (@ad3_)) (And.intro (@acq_) (And.intro (@aeE_) (@ahm_))))) (And.intro (And.intro (And.intro (@adY_) (@xV_)) (And.intro (@xK_) (And.intro (@adx_) (@acN_)))) (And.intro (And.intro (@acu_) (And.intro (@acw_) (@act_))) (And.intro (@aeF_) (And.intro (@agN_) (@W7_))))))) (And.intro (And.intro (And.intro (And.intro (And.intro (@QP_) (@aeG_)) (And.intro (@Kv_) (And.intro (@Kz_) (@Zf_)))) (And.intro (And.intro (@Zq_) (@KO_)) (And.intro (@KJ_) (And.intro (@aeu_) (@JF_))))) (And.intro (And.intro (And.intro (@Xe_) (@aar_)) (And.intro (@XO_) (And.intro (@XP_) (@aaa_)))) (And.intro (And.intro (@XT_) (And.intro (@Xy_) (@aaj_))) (And.intro (@ac6_) (And.intro (@acs_) (@adS_)))))) (And.intro (And.intro (And.intro (And.intro (@ade_) (@ag9_)) (And.intro (@adW_) (And.intro (@ad7_) (@adb_)))) (And.intro (And.intro (@adw_) (@adh_)) (And.intro (@adK_) (And.intro (@adm_) (@adR_))))) (And.intro (And.intro (And.intro (@aeg_) (@aga_)) (And.intro (@abh_) (And.intro (@Qv_) (@aeC_)))) (And.intro (And.intro (@Kg_) (And.intro (@Kt_) (@Zp_))) (And.intro (@ZB_) (And.intro (@KD_) (@X4_))))))))) (And.intro (And.intro (And.intro (And.intro (And.intro (And.intro (And.intro (@ad6_) (@Xj_)) (And.intro (@Xk_) (And.intro (@aay_) (@XX_)))) (And.intro (And.intro (@JZ_) (@abp_)) (And.intro (@XW_) (And.intro (@JK_) (@aaw_))))) (And.intro (And.intro (And.intro (@ah8_) (@ai1_)) (And.intro (@aaz_) (And.intro (@aiB_) (@akA_)))) (And.intro (And.intro (@ajY_) (And.intro (@akb_) (@aiU_))) (And.intro (@aim_) (And.intro (@ajk_) (@aiR_)))))) (And.intro (And.intro (And.intro (And.intro (@amf_) (@aqb_)) (And.intro (@abE_) (And.intro (@akE_) (@ajx_)))) (And.intro (And.intro (@ajt_) (@aij_)) (And.intro (@ak9_) (And.intro (@akP_) (@ajF_))))) (And.intro (And.intro (And.intro (@aoR_) (@ak2_)) (And.intro (@app_) (And.intro (@ab7_) (@WZ_)))) (And.intro (And.intro (@Kn_) (And.intro (@aqc_) (@aqq_))) (And.intro (@amq_) (And.intro (@agG_) (@adE_))))))) (And.intro (And.intro (And.intro (And.intro (And.intro (@acW_) (@aez_)) (And.intro (@ahf_) (And.intro (@apc_) (@apl_)))) (And.intro (And.intro (@ak8_) (@aco_)) (And.intro (@abw_) (And.intro (@abD_) (@abm_))))) (And.intro (And.intro (And.intro (@aeD_) (@aph_)) (And.intro (@apt_) (And.intro (@akL_) (@adM_)))) (And.intro (And.intro (@aaH_) (And.intro (@abf_) (@aaB_))) (And.intro (@aeq_) (And.intro (@aoo_) (@apv_)))))) (And.intro (And.intro (And.intro (And.intro (@ake_) (@ack_)) (And.intro (@abb_) (And.intro (@aa3_) (@aaS_)))) (And.intro (And.intro (@adX_) (@aqa_)) (And.intro (@aqF_) (And.intro (@alS_) (@agI_))))) (And.intro (And.intro (And.intro (@acL_) (@ac8_)) (And.intro (@adD_) (And.intro (@agt_) (@ana_)))) (And.intro (And.intro (@alX_) (And.intro (@Wb_) (@aog_))) (And.intro (@aea_) (And.intro (@Zm_) (@qk_)))))))) (And.intro (And.intro (And.intro (And.intro (And.intro (And.intro (@arG_) (@ao4_)) (And.intro (@aqf_) (And.intro (@aqj_) (@VK_)))) (And.intro (And.intro (@KI_) (@xj_)) (And.intro (@kC_) (And.intro (@Zb_) (@Z1_))))) (And.intro (And.intro (And.intro (@jz_) (@kE_)) (And.intro (@al0_) (And.intro (@amT_) (@anP_)))) (And.intro (And.intro (@alZ_) (And.intro (@ab9_) (@agn_))) (And.intro (@abu_) (And.intro (@ahx_) (@adc_)))))) (And.intro (And.intro (And.intro (And.intro (@alw_) (@aiw_)) (And.intro (@afC_) (And.intro (@alD_) (@akB_)))) (And.intro (And.intro (@ajI_) (@apX_)) (And.intro (@apY_) (And.intro (@Option.map_some.{0,0}) (@Option.map_none.{0,0}))))) (And.intro (And.intro (And.intro (@VX_) (@VD_)) (And.intro (@Z4_) (And.intro (@afU_) (@Wd_)))) (And.intro (And.intro (@WH_) (And.intro (@VG_) (@amO_))) (And.intro (@amB_) (And.intro (@or_i) (@arX_))))))) (And.intro (And.intro (And.intro (And.intro (And.intro (@VC_) (@We_)) (And.intro (@Ki_) (And.intro (@zh_) (@List.cons_append.{0})))) (And.intro (And.intro (@List.nil_append.{0}) (@List.contains_cons.{0})) (And.intro (@List.contains_nil.{0}) (And.intro (@Bool.or_false) (@Bool.false_or))))) (And.intro (And.intro (And.intro (@Bool.or_true) (@Bool.true_or)) (And.intro (@Bool.false_eq_true) (And.intro (@ah9_) (@agd_)))) (And.intro (And.intro (@agv_) (And.intro (@amr_) (@aje_))) (And.intro (@Nat.add_sub_cancel_left) (And.intro (@List.set_set.{0}) (@Int.toNat_natCast)))))) (And.intro (And.intro (And.intro (And.intro (@Nat.mul_one) (@Nat.zero_add)) (And.intro (@Nat.add_zero) (And.intro (@ge_iff_le.{0}) (@gt_iff_lt.{0})))) (And.intro (And.intro (@beq_self_eq_true.{0}) (@arD_)) (And.intro (@arz_) (And.intro (@amA_) (@am4_))))) (And.intro (And.intro (And.intro (@aqB_) (@ara_)) (And.intro (@arW_) (And.intro (@arJ_) (@arI_)))) (And.intro (And.intro (@ary_) (And.intro (@aok_) (@apN_))) (And.intro (@ap3_) (And.intro (@aoU_) (@ao2_)))))))))
end Go.Sx
end
section
open Go Go.Proofs Go.Sx
namespace Go.Proofs
theorem Tryz.ix37:ixT Tryz.prog 37= .sl (false,1):=id (by kernel_rfl)
theorem Tryz.ix55:ixT Tryz.prog 55= .sl (false,1):=id (by kernel_rfl)
theorem Tryz.ix22:ixT Tryz.prog 22= .sl (true,3):=id (by kernel_rfl)
theorem Tryz.ix9:ixT Tryz.prog 9= .str:=id (by kernel_rfl)
theorem Tryz.ix74:ixT Tryz.prog 74= .sl (true,2):=id (by kernel_rfl)
theorem Tryz.ix79:ixT Tryz.prog 79= .arr 3 (true,3):=id (by kernel_rfl)
theorem Tryz.ix90:ixT Tryz.prog 90= .arr 6 (false,1):=id (by kernel_rfl)
theorem Tryz.ix97:ixT Tryz.prog 97= .arr 3 (false,1):=id (by kernel_rfl)
theorem Tryz.ix69:ixT Tryz.prog 69= .sl (false,1):=id (by kernel_rfl)
theorem Tryz.ix58:ixT Tryz.prog 58= .sl (true,2):=id (by kernel_rfl)
theorem Tryz.ix113:ixT Tryz.prog 113= .sl (true,32):=id (by kernel_rfl)
theorem Tryz.ix75:ixT Tryz.prog 75= .sl (true,2):=id (by kernel_rfl)
theorem Tryz.ix76:ixT Tryz.prog 76= .sl (true,4):=id (by kernel_rfl)
theorem Tryz.ix99:ixT Tryz.prog 99= .sl (false,1):=id (by kernel_rfl)
theorem Tryz.ix164:ixT Tryz.prog 164= .sl (true,3):=id (by kernel_rfl)
theorem Tryz.ix142:ixT Tryz.prog 142= .sl (true,34):=id (by kernel_rfl)
theorem Tryz.ix176:ixT Tryz.prog 176= .arr 8 (false,1):=id (by kernel_rfl)
theorem Tryz.ix118:ixT Tryz.prog 118= .arr 32 (false,1):=id (by kernel_rfl)
theorem Tryz.ix191:ixT Tryz.prog 191= .sl (false,1):=id (by kernel_rfl)
theorem Tryz.ix197:ixT Tryz.prog 197= .arr 8 (false,1):=id (by kernel_rfl)
theorem Tryz.ix198:ixT Tryz.prog 198= .arr 64 (false,1):=id (by kernel_rfl)
theorem Tryz.ix208:ixT Tryz.prog 208= .sl (true,2):=id (by kernel_rfl)
theorem Tryz.ag24:qf_ Tryz.prog 24=some (true,4):=id (by kernel_rfl)
theorem Tryz.ag9:qf_ Tryz.prog 9=some (false,1):=id (by kernel_rfl)
theorem Tryz.ag4:qf_ Tryz.prog 4=some (false,1):=id (by kernel_rfl)
theorem Tryz.ag37:qf_ Tryz.prog 37=some (false,1):=id (by kernel_rfl)
theorem Tryz.ag60:qf_ Tryz.prog 60=some (true,3):=id (by kernel_rfl)
theorem Tryz.ag62:qf_ Tryz.prog 62=some (false,1):=id (by kernel_rfl)
theorem Tryz.ag68:qf_ Tryz.prog 68=some (false,1):=id (by kernel_rfl)
theorem Tryz.ag67:qf_ Tryz.prog 67=some (true,2):=id (by kernel_rfl)
theorem Tryz.ag74:qf_ Tryz.prog 74=some (false,1):=id (by kernel_rfl)
theorem Tryz.ag83:qf_ Tryz.prog 83=some (true,2):=id (by kernel_rfl)
theorem Tryz.ag75:qf_ Tryz.prog 75=some (false,1):=id (by kernel_rfl)
theorem Tryz.ag86:qf_ Tryz.prog 86=some (true,2):=id (by kernel_rfl)
theorem Tryz.ag3:qf_ Tryz.prog 3=some (false,1):=id (by kernel_rfl)
theorem Tryz.ag88:qf_ Tryz.prog 88=some (true,7):=id (by kernel_rfl)
theorem Tryz.ag39:qf_ Tryz.prog 39=some (true,5):=id (by kernel_rfl)
theorem Tryz.ag90:qf_ Tryz.prog 90=some (true,6):=id (by kernel_rfl)
theorem Tryz.ag89:qf_ Tryz.prog 89=some (false,1):=id (by kernel_rfl)
theorem Tryz.ag64:qf_ Tryz.prog 64=some (true,5):=id (by kernel_rfl)
theorem Tryz.ag97:qf_ Tryz.prog 97=some (true,3):=id (by kernel_rfl)
theorem Tryz.ag71:qf_ Tryz.prog 71=some (true,3):=id (by kernel_rfl)
theorem Tryz.ag99:qf_ Tryz.prog 99=some (false,1):=id (by kernel_rfl)
theorem Tryz.ag69:qf_ Tryz.prog 69=some (false,1):=id (by kernel_rfl)
theorem Tryz.ag102:qf_ Tryz.prog 102=some (false,1):=id (by kernel_rfl)
theorem Tryz.ag116:qf_ Tryz.prog 116=some (true,2):=id (by kernel_rfl)
theorem Tryz.ag118:qf_ Tryz.prog 118=some (true,32):=id (by kernel_rfl)
theorem Tryz.ag81:qf_ Tryz.prog 81=some (true,13):=id (by kernel_rfl)
theorem Tryz.ag131:qf_ Tryz.prog 131=some (true,4):=id (by kernel_rfl)
theorem Tryz.ag76:qf_ Tryz.prog 76=some (false,1):=id (by kernel_rfl)
theorem Tryz.ag100:qf_ Tryz.prog 100=some (false,1):=id (by kernel_rfl)
theorem Tryz.ag146:qf_ Tryz.prog 146=some (true,34):=id (by kernel_rfl)
theorem Tryz.ag162:qf_ Tryz.prog 162=some (true,3):=id (by kernel_rfl)
theorem Tryz.ag169:qf_ Tryz.prog 169=some (true,34):=id (by kernel_rfl)
theorem Tryz.ag113:qf_ Tryz.prog 113=some (false,1):=id (by kernel_rfl)
theorem Tryz.ag176:qf_ Tryz.prog 176=some (true,8):=id (by kernel_rfl)
theorem Tryz.ag175:qf_ Tryz.prog 175=some (false,1):=id (by kernel_rfl)
theorem Tryz.ag5:qf_ Tryz.prog 5=some (false,1):=id (by kernel_rfl)
theorem Tryz.ag55:qf_ Tryz.prog 55=some (false,1):=id (by kernel_rfl)
theorem Tryz.ag193:qf_ Tryz.prog 193=some (true,3):=id (by kernel_rfl)
theorem Tryz.ag197:qf_ Tryz.prog 197=some (true,8):=id (by kernel_rfl)
theorem Tryz.ag198:qf_ Tryz.prog 198=some (true,64):=id (by kernel_rfl)
theorem Tryz.ag65:qf_ Tryz.prog 65=some (false,1):=id (by kernel_rfl)
theorem Tryz.ag201:qf_ Tryz.prog 201=some (false,1):=id (by kernel_rfl)
theorem Tryz.ag218:qf_ Tryz.prog 218=some (true,2):=id (by kernel_rfl)
theorem Tryz.ag216:qf_ Tryz.prog 216=some (false,1):=id (by kernel_rfl)
theorem Tryz.zr83:zK_ Tryz.prog 83=some (.agg #[(vs []),(vi 0)]):=id (by kernel_rfl)
theorem Tryz.zr86:zK_ Tryz.prog 86=some (.agg #[(vs []),(vi 0)]):=id (by kernel_rfl)
theorem Tryz.zr88:zK_ Tryz.prog 88=some (.agg #[(vs []),(vs []),(vs []),(.bool false),(vi 0),(.bool false),(.bool false)]):=id (by kernel_rfl)
theorem Tryz.zr39:zK_ Tryz.prog 39=some (.agg #[(vs []),(vs []),(vs []),(.slice none 0 0),(.bool false)]):=id (by kernel_rfl)
theorem Tryz.zr90:zK_ Tryz.prog 90=some (.agg #[.nilFunc, .nilFunc, .nilFunc, .nilFunc, .nilFunc, .nilFunc]):=id (by kernel_rfl)
theorem Tryz.zr118:zK_ Tryz.prog 118=some (.agg (a8 (List.replicate 32 0))):=id (by kernel_rfl)
theorem Tryz.zr81:zK_ Tryz.prog 81=some (.agg #[(.slice none 0 0),(.slice none 0 0),(.slice none 0 0),(.slice none 0 0),(.slice none 0 0),(.slice none 0 0),(.slice none 0 0),(.slice none 0 0),(.slice none 0 0),(.slice none 0 0),(vi 0),(vi 0),(.bool false)]):=id (by kernel_rfl)
theorem Tryz.zr131:zK_ Tryz.prog 131=some (.agg #[(vi 0),(vs []),(vs []),(vi 0)]):=id (by kernel_rfl)
theorem Tryz.zr176:zK_ Tryz.prog 176=some (.agg (a32 (List.replicate 8 0))):=id (by kernel_rfl)
theorem Tryz.zr197:zK_ Tryz.prog 197=some (.agg (a8 (List.replicate 8 0))):=id (by kernel_rfl)
theorem Tryz.zr198:zK_ Tryz.prog 198=some (.agg (a32 (List.replicate 64 0))):=id (by kernel_rfl)
theorem Tryz.fl24_0:jm_ Tryz.prog 24 0=some (0,(false,1)):=id (by kernel_rfl)
theorem Tryz.fl24_1:jm_ Tryz.prog 24 1=some (1,(false,1)):=id (by kernel_rfl)
theorem Tryz.fl24_2:jm_ Tryz.prog 24 2=some (2,(false,1)):=id (by kernel_rfl)
theorem Tryz.fl24_3:jm_ Tryz.prog 24 3=some (3,(false,1)):=id (by kernel_rfl)
theorem Tryz.fl39_3:jm_ Tryz.prog 39 3=some (3,(false,1)):=id (by kernel_rfl)
theorem Tryz.fl60_2:jm_ Tryz.prog 60 2=some (2,(false,1)):=id (by kernel_rfl)
theorem Tryz.fl60_1:jm_ Tryz.prog 60 1=some (1,(false,1)):=id (by kernel_rfl)
theorem Tryz.fl64_0:jm_ Tryz.prog 64 0=some (0,(false,1)):=id (by kernel_rfl)
theorem Tryz.fl60_0:jm_ Tryz.prog 60 0=some (0,(false,1)):=id (by kernel_rfl)
theorem Tryz.fl71_0:jm_ Tryz.prog 71 0=some (0,(false,1)):=id (by kernel_rfl)
theorem Tryz.fl81_1:jm_ Tryz.prog 81 1=some (9,(false,1)):=id (by kernel_rfl)
theorem Tryz.fl81_0:jm_ Tryz.prog 81 0=some (0,(true,9)):=id (by kernel_rfl)
theorem Tryz.fl78_0:jm_ Tryz.prog 78 0=some (0,(false,1)):=id (by kernel_rfl)
theorem Tryz.fl78_1:jm_ Tryz.prog 78 1=some (1,(false,1)):=id (by kernel_rfl)
theorem Tryz.fl64_2:jm_ Tryz.prog 64 2=some (2,(false,1)):=id (by kernel_rfl)
theorem Tryz.fl64_3:jm_ Tryz.prog 64 3=some (3,(false,1)):=id (by kernel_rfl)
theorem Tryz.fl81_3:jm_ Tryz.prog 81 3=some (11,(false,1)):=id (by kernel_rfl)
theorem Tryz.fl88_6:jm_ Tryz.prog 88 6=some (6,(false,1)):=id (by kernel_rfl)
theorem Tryz.fl88_4:jm_ Tryz.prog 88 4=some (4,(false,1)):=id (by kernel_rfl)
theorem Tryz.fl88_3:jm_ Tryz.prog 88 3=some (3,(false,1)):=id (by kernel_rfl)
theorem Tryz.fl88_5:jm_ Tryz.prog 88 5=some (5,(false,1)):=id (by kernel_rfl)
theorem Tryz.fl88_0:jm_ Tryz.prog 88 0=some (0,(false,1)):=id (by kernel_rfl)
theorem Tryz.fl88_1:jm_ Tryz.prog 88 1=some (1,(false,1)):=id (by kernel_rfl)
theorem Tryz.fl39_1:jm_ Tryz.prog 39 1=some (1,(false,1)):=id (by kernel_rfl)
theorem Tryz.fl39_0:jm_ Tryz.prog 39 0=some (0,(false,1)):=id (by kernel_rfl)
theorem Tryz.fl39_4:jm_ Tryz.prog 39 4=some (4,(false,1)):=id (by kernel_rfl)
theorem Tryz.fl39_2:jm_ Tryz.prog 39 2=some (2,(false,1)):=id (by kernel_rfl)
theorem Tryz.fl81_4:jm_ Tryz.prog 81 4=some (12,(false,1)):=id (by kernel_rfl)
theorem Tryz.fl71_2:jm_ Tryz.prog 71 2=some (2,(false,1)):=id (by kernel_rfl)
theorem Tryz.fl71_1:jm_ Tryz.prog 71 1=some (1,(false,1)):=id (by kernel_rfl)
theorem Tryz.fl64_4:jm_ Tryz.prog 64 4=some (4,(false,1)):=id (by kernel_rfl)
theorem Tryz.fl67_0:jm_ Tryz.prog 67 0=some (0,(false,1)):=id (by kernel_rfl)
theorem Tryz.fl67_1:jm_ Tryz.prog 67 1=some (1,(false,1)):=id (by kernel_rfl)
theorem Tryz.fl86_0:jm_ Tryz.prog 86 0=some (0,(false,1)):=id (by kernel_rfl)
theorem Tryz.fl83_0:jm_ Tryz.prog 83 0=some (0,(false,1)):=id (by kernel_rfl)
theorem Tryz.fl81_2:jm_ Tryz.prog 81 2=some (10,(false,1)):=id (by kernel_rfl)
theorem Tryz.fl131_0:jm_ Tryz.prog 131 0=some (0,(false,1)):=id (by kernel_rfl)
theorem Tryz.fl131_3:jm_ Tryz.prog 131 3=some (3,(false,1)):=id (by kernel_rfl)
theorem Tryz.fl83_1:jm_ Tryz.prog 83 1=some (1,(false,1)):=id (by kernel_rfl)
theorem Tryz.fl78_2:jm_ Tryz.prog 78 2=some (2,(false,1)):=id (by kernel_rfl)
theorem Tryz.fl86_1:jm_ Tryz.prog 86 1=some (1,(false,1)):=id (by kernel_rfl)
theorem Tryz.fl116_1:jm_ Tryz.prog 116 1=some (1,(false,1)):=id (by kernel_rfl)
theorem Tryz.fl116_0:jm_ Tryz.prog 116 0=some (0,(false,1)):=id (by kernel_rfl)
theorem Tryz.fl88_2:jm_ Tryz.prog 88 2=some (2,(false,1)):=id (by kernel_rfl)
theorem Tryz.fl131_1:jm_ Tryz.prog 131 1=some (1,(false,1)):=id (by kernel_rfl)
theorem Tryz.fl131_2:jm_ Tryz.prog 131 2=some (2,(false,1)):=id (by kernel_rfl)
theorem Tryz.fl162_2:jm_ Tryz.prog 162 2=some (2,(false,1)):=id (by kernel_rfl)
theorem Tryz.fl162_1:jm_ Tryz.prog 162 1=some (1,(false,1)):=id (by kernel_rfl)
theorem Tryz.fl169_1:jm_ Tryz.prog 169 1=some (1,(false,1)):=id (by kernel_rfl)
theorem Tryz.fl169_0:jm_ Tryz.prog 169 0=some (0,(false,1)):=id (by kernel_rfl)
theorem Tryz.fl169_2:jm_ Tryz.prog 169 2=some (2,(true,32)):=id (by kernel_rfl)
theorem Tryz.fl146_0:jm_ Tryz.prog 146 0=some (0,(true,32)):=id (by kernel_rfl)
theorem Tryz.fl146_1:jm_ Tryz.prog 146 1=some (32,(false,1)):=id (by kernel_rfl)
theorem Tryz.fl146_2:jm_ Tryz.prog 146 2=some (33,(false,1)):=id (by kernel_rfl)
theorem Tryz.fl64_1:jm_ Tryz.prog 64 1=some (1,(false,1)):=id (by kernel_rfl)
theorem Tryz.fl162_0:jm_ Tryz.prog 162 0=some (0,(false,1)):=id (by kernel_rfl)
theorem Tryz.fl193_0:jm_ Tryz.prog 193 0=some (0,(false,1)):=id (by kernel_rfl)
theorem Tryz.fl193_1:jm_ Tryz.prog 193 1=some (1,(false,1)):=id (by kernel_rfl)
theorem Tryz.fl193_2:jm_ Tryz.prog 193 2=some (2,(false,1)):=id (by kernel_rfl)
theorem Tryz.fl218_0:jm_ Tryz.prog 218 0=some (0,(false,1)):=id (by kernel_rfl)
theorem Tryz.fl218_1:jm_ Tryz.prog 218 1=some (1,(false,1)):=id (by kernel_rfl)
theorem Tryz.cv100_3:cvT Tryz.prog 100 3= .int .i64:=id (by kernel_rfl)
theorem Tryz.cv3_158:cvT Tryz.prog 3 158= .int .u64:=id (by kernel_rfl)
theorem Tryz.cv175_5:cvT Tryz.prog 175 5= .int .u8:=id (by kernel_rfl)
theorem Tryz.cv158_175:cvT Tryz.prog 158 175= .int .u32:=id (by kernel_rfl)
theorem Tryz.cv191_9:cvT Tryz.prog 191 9= .bytesStr:=id (by kernel_rfl)
theorem Tryz.cv5_3:cvT Tryz.prog 5 3= .int .i64:=id (by kernel_rfl)
theorem Tryz.cv3_189:cvT Tryz.prog 3 189= .int .u64:=id (by kernel_rfl)
theorem Tryz.cv189_5:cvT Tryz.prog 189 5= .int .u8:=id (by kernel_rfl)
theorem Tryz.cv5_175:cvT Tryz.prog 5 175= .int .u32:=id (by kernel_rfl)
theorem Tryz.cv3_201:cvT Tryz.prog 3 201= .int .u64:=id (by kernel_rfl)
theorem Tryz.cv158_3:cvT Tryz.prog 158 3= .int .i64:=id (by kernel_rfl)
theorem Tryz.cv3_5:cvT Tryz.prog 3 5= .int .u8:=id (by kernel_rfl)
theorem Tryz.cv3_219:cvT Tryz.prog 3 219= .no:=id (by kernel_rfl)
theorem Tryz.cv219_3:cvT Tryz.prog 219 3= .no:=id (by kernel_rfl)
set_option linter.defProp false
def Tryz.fx:=And.intro (And.intro (And.intro (And.intro (And.intro (And.intro (And.intro (@Tryz.ix37) (@Tryz.ix55)) (And.intro (@Tryz.ix22) (@Tryz.ix9))) (And.intro (And.intro (@Tryz.ix74) (@Tryz.ix79)) (And.intro (@Tryz.ix90) (@Tryz.ix97)))) (And.intro (And.intro (And.intro (@Tryz.ix69) (@Tryz.ix58)) (And.intro (@Tryz.ix113) (@Tryz.ix75))) (And.intro (And.intro (@Tryz.ix76) (@Tryz.ix99)) (And.intro (@Tryz.ix164) (And.intro (@Tryz.ix142) (@Tryz.ix176)))))) (And.intro (And.intro (And.intro (And.intro (@Tryz.ix118) (@Tryz.ix191)) (And.intro (@Tryz.ix197) (@Tryz.ix198))) (And.intro (And.intro (@Tryz.ix208) (@Tryz.ag24)) (And.intro (@Tryz.ag9) (And.intro (@Tryz.ag4) (@Tryz.ag37))))) (And.intro (And.intro (And.intro (@Tryz.ag60) (@Tryz.ag62)) (And.intro (@Tryz.ag68) (@Tryz.ag67))) (And.intro (And.intro (@Tryz.ag74) (@Tryz.ag83)) (And.intro (@Tryz.ag75) (And.intro (@Tryz.ag86) (@Tryz.ag3))))))) (And.intro (And.intro (And.intro (And.intro (And.intro (@Tryz.ag88) (@Tryz.ag39)) (And.intro (@Tryz.ag90) (@Tryz.ag89))) (And.intro (And.intro (@Tryz.ag64) (@Tryz.ag97)) (And.intro (@Tryz.ag71) (@Tryz.ag99)))) (And.intro (And.intro (And.intro (@Tryz.ag69) (@Tryz.ag102)) (And.intro (@Tryz.ag116) (@Tryz.ag118))) (And.intro (And.intro (@Tryz.ag81) (@Tryz.ag131)) (And.intro (@Tryz.ag76) (And.intro (@Tryz.ag100) (@Tryz.ag146)))))) (And.intro (And.intro (And.intro (And.intro (@Tryz.ag162) (@Tryz.ag169)) (And.intro (@Tryz.ag113) (@Tryz.ag176))) (And.intro (And.intro (@Tryz.ag175) (@Tryz.ag5)) (And.intro (@Tryz.ag55) (And.intro (@Tryz.ag193) (@Tryz.ag197))))) (And.intro (And.intro (And.intro (@Tryz.ag198) (@Tryz.ag65)) (And.intro (@Tryz.ag201) (@Tryz.ag218))) (And.intro (And.intro (@Tryz.ag216) (@Tryz.fl24_0)) (And.intro (@Tryz.fl24_1) (And.intro (@Tryz.fl24_2) (@Tryz.fl24_3)))))))) (And.intro (And.intro (And.intro (And.intro (And.intro (And.intro (@Tryz.fl39_3) (@Tryz.fl60_2)) (And.intro (@Tryz.fl60_1) (@Tryz.fl64_0))) (And.intro (And.intro (@Tryz.fl60_0) (@Tryz.fl71_0)) (And.intro (@Tryz.fl81_1) (@Tryz.fl81_0)))) (And.intro (And.intro (And.intro (@Tryz.fl78_0) (@Tryz.fl78_1)) (And.intro (@Tryz.fl64_2) (@Tryz.fl64_3))) (And.intro (And.intro (@Tryz.fl81_3) (@Tryz.fl88_6)) (And.intro (@Tryz.fl88_4) (And.intro (@Tryz.fl88_3) (@Tryz.fl88_5)))))) (And.intro (And.intro (And.intro (And.intro (@Tryz.fl88_0) (@Tryz.fl88_1)) (And.intro (@Tryz.fl39_1) (@Tryz.fl39_0))) (And.intro (And.intro (@Tryz.fl39_4) (@Tryz.fl39_2)) (And.intro (@Tryz.fl81_4) (And.intro (@Tryz.fl71_2) (@Tryz.fl71_1))))) (And.intro (And.intro (And.intro (@Tryz.fl64_4) (@Tryz.fl67_0)) (And.intro (@Tryz.fl67_1) (@Tryz.fl86_0))) (And.intro (And.intro (@Tryz.fl83_0) (@Tryz.fl81_2)) (And.intro (@Tryz.fl131_0) (And.intro (@Tryz.fl131_3) (@Tryz.fl83_1))))))) (And.intro (And.intro (And.intro (And.intro (And.intro (@Tryz.fl78_2) (@Tryz.fl86_1)) (And.intro (@Tryz.fl116_1) (@Tryz.fl116_0))) (And.intro (And.intro (@Tryz.fl88_2) (@Tryz.fl131_1)) (And.intro (@Tryz.fl131_2) (And.intro (@Tryz.fl162_2) (@Tryz.fl162_1))))) (And.intro (And.intro (And.intro (@Tryz.fl169_1) (@Tryz.fl169_0)) (And.intro (@Tryz.fl169_2) (@Tryz.fl146_0))) (And.intro (And.intro (@Tryz.fl146_1) (@Tryz.fl146_2)) (And.intro (@Tryz.fl64_1) (And.intro (@Tryz.fl162_0) (@Tryz.fl193_0)))))) (And.intro (And.intro (And.intro (And.intro (@Tryz.fl193_1) (@Tryz.fl193_2)) (And.intro (@Tryz.fl218_0) (@Tryz.fl218_1))) (And.intro (And.intro (@Tryz.cv100_3) (@Tryz.cv3_158)) (And.intro (@Tryz.cv175_5) (And.intro (@Tryz.cv158_175) (@Tryz.cv191_9))))) (And.intro (And.intro (And.intro (@Tryz.cv5_3) (@Tryz.cv3_189)) (And.intro (@Tryz.cv189_5) (@Tryz.cv5_175))) (And.intro (And.intro (@Tryz.cv3_201) (@Tryz.cv158_3)) (And.intro (@Tryz.cv3_5) (And.intro (@Tryz.cv3_219) (@Tryz.cv219_3))))))))
theorem kp {X A G:Prop} (x:X) (h:G) (e:X→A=G:=by intro x;(try simp(disch:=(first|assumption|omega| (simp only[w5_,wR_,UInt64.reduceToNat];try omega))) only[↓Sx.S0,Sx.S1,Tryz.fx,Nat.reduceAdd,Nat.reducePow,Int.reducePow,Nat.reduceBEq, ↓reduceIte,UInt8.reduceToNat,UInt16.reduceToNat,UInt32.reduceToNat,UInt64.reduceToNat,Int.reduceToNat,x]);exact rfl):A:=(e x).mpr h
section
variable {P:Program} {w0:World} {f:Fr} {L:ze_} {K:xN_} {N:Fr→ze_→Prop} {ops:Array Oper} {md:Md} {l:List Oper} {X G:Prop}
theorem ks {c:Code} (z:List Nat) [Sx.Steps c] (x:X) (h:G) (e:X→vcC P w0 z c f L (bsK K)=G:=by intro x;(try simp(disch:=(first|assumption|omega| (simp only[w5_,wR_,UInt64.reduceToNat];try omega))) only[↓Sx.S0,Sx.S1,Tryz.fx,Nat.reduceAdd,Nat.reducePow,Int.reducePow,Nat.reduceBEq, ↓reduceIte,UInt8.reduceToNat,UInt16.reduceToNat,UInt32.reduceToNat,UInt64.reduceToNat,Int.reduceToNat,x]);exact rfl):Cw P w0 c f L K:=Cw.go z ((e x).mpr h)
theorem ko (x:X) (h:G) (e:X→vcL P w0 ops true md l f L (owk P w0 ops (bsN N))=G:=by intro x;(try simp(disch:=(first|assumption|omega| (simp only[w5_,wR_,UInt64.reduceToNat];try omega))) only[↓Sx.S0,Sx.S1,Tryz.fx,Nat.reduceAdd,Nat.reducePow,Int.reducePow,Nat.reduceBEq, ↓reduceIte,UInt8.reduceToNat,UInt16.reduceToNat,UInt32.reduceToNat,UInt64.reduceToNat,Int.reduceToNat,x]);exact rfl) (he:md.eff=true:=by rfl):Ow P w0 ops md l f L N:=Ow.go he ((e x).mpr h)
theorem kq (x:X) (h:G) (e:X→vcL P w0 ops false md l f L (owk P w0 ops (bsN N))=G:=by intro x;(try simp(disch:=(first|assumption|omega| (simp only[w5_,wR_,UInt64.reduceToNat];try omega))) only[↓Sx.S0,Sx.S1,Tryz.fx,Nat.reduceAdd,Nat.reducePow,Int.reducePow,Nat.reduceBEq, ↓reduceIte,UInt8.reduceToNat,UInt16.reduceToNat,UInt32.reduceToNat,UInt64.reduceToNat,Int.reduceToNat,x]);exact rfl):Ow P w0 ops md l f L N:=Ow.goQ ((e x).mpr h)
end
theorem ke {α:Type} {X:Prop} {a b:α} (x:X) (e:X→a=b:=by intro x;(try simp(disch:=(first|assumption|omega| (simp only[w5_,wR_,UInt64.reduceToNat];try omega))) only[↓Sx.S0,Sx.S1,Tryz.fx,Nat.reduceAdd,Nat.reducePow,Int.reducePow,Nat.reduceBEq, ↓reduceIte,UInt8.reduceToNat,UInt16.reduceToNat,UInt32.reduceToNat,UInt64.reduceToNat,Int.reduceToNat,x]);exact rfl):a=b:=e x
theorem kn {A G:Prop} (h:G) (e:A=G:=by(try simp(disch:=(first|assumption|omega| (simp only[w5_,wR_,UInt64.reduceToNat];try omega))) only[Zb_,Z1_,List.cons_append,List.nil_append]);exact rfl):A:=e.mpr h
theorem kf {A G:Prop} (h:G) (e:A=G:=by simp only[List.size_toArray,List.length_cons,List.length_nil,Nat.reduceAdd,Nat.reduceSub,List.replicate_succ,List.replicate_zero,List.cons_append,List.nil_append];exact rfl):A:=e.mpr h
theorem kv {A G:Prop} (h:G) (e:A=G:=by simp only[qF_,pin,vq_,vs_,List.contains_cons,List.contains_nil,Nat.reduceBEq,Bool.or_false,Bool.false_or,Bool.or_true,Bool.true_or,Nat.reduceAdd, ↓reduceIte,Bool.false_eq_true];exact rfl):A:=e.mpr h
set_option maxRecDepth 10000
set_option maxHeartbeats 1000000
set_option linter.unusedSimpArgs false
set_option linter.defProp false
end Go.Proofs
end
section
open Go Go.Proofs Go.Sx
namespace Go.Proofs
set_option maxRecDepth 10000
set_option maxHeartbeats 1000000
set_option linter.unusedSimpArgs false
set_option linter.defProp false
end Go.Proofs
end
section
open Go Go.Proofs Go.Sx
namespace Go.Proofs
set_option maxRecDepth 10000
set_option maxHeartbeats 1000000
set_option linter.unusedSimpArgs false
set_option linter.defProp false
end Go.Proofs
end
section
open Go Go.Proofs Go.Sx
namespace Go.Proofs
set_option maxRecDepth 10000
set_option maxHeartbeats 1000000
set_option linter.unusedSimpArgs false
set_option linter.defProp false
def maxN:Int:=1099511627775
def numL (n:Nat):List UInt8:=if h:n<128 then [UInt8.ofNat n] else UInt8.ofNat (n%128+128)::numL (n / 128)
termination_by n
decreasing_by omega
def jS_ (n:Int):Nat:=(if(if maxN<n then maxN else n)>0 then(if maxN<n then maxN else n) else 0).toNat
theorem kA_ {n:Nat} (h:n<128):numL n= [UInt8.ofNat n]:=by rw[numL];simp[h]
theorem Jb_ {n:Nat} (h: ¬n<128):numL n=UInt8.ofNat (n%128+128)::numL (n / 128):=by rw[numL];simp[h]
theorem va_: ∀ (k n:Nat),n<128^k→0<k→(numL n).length≤k
 |0,n,h,h0=>absurd h0 (by omega)
 |k+1,n,h,_=>by
  by_cases hn:n<128
  ·rw[kA_ hn];simp
  ·rw[Jb_ hn]
   have hk:0<k:=by
    rcases Nat.eq_zero_or_pos k with rfl|hk
    ·simp at h;omega
    ·exact hk
   have:=va_ k (n / 128) (by rw[Nat.pow_succ] at h;omega) hk
   simp only[List.length_cons];omega
theorem akx_ (n:Int):jS_ n<1099511627776:=by unfold jS_ maxN;split<;>split at* <;>omega
theorem q4_ (n:Int): (numL (jS_ n)).length≤6:=va_ 6 _ (by have:=akx_ n;omega) (by omega)
theorem Je_ (m:Nat):UInt8.ofInt (m:Int)=UInt8.ofNat m:=by
 apply UInt8.toBitVec_inj.1
 apply BitVec.eq_of_toNat_eq
 simp[UInt8.ofInt,UInt8.ofNat]
 omega
end Go.Proofs
end
section
open Go Go.Proofs Go.Sx
namespace Go.Proofs
set_option maxRecDepth 10000
set_option maxHeartbeats 1000000
set_option linter.unusedSimpArgs false
set_option linter.defProp false
def Xw_ (s:List UInt8):List UInt8:=numL (jS_ s.length)++s
structure IdL where
 l:List UInt8
 h:l.length=32
def WQ_ (x:IdL):List Value:=x.l.map v8
def id0:IdL:=⟨List.replicate 32 0,by simp⟩
theorem ahU_ (x:IdL): (WQ_ x).toArray=a8 x.l:=rfl
end Go.Proofs
end
section
open Go Go.Proofs Go.Sx
namespace Go.Proofs
set_option maxRecDepth 10000
set_option maxHeartbeats 1000000
set_option linter.unusedSimpArgs false
theorem Q4_ (s:List UInt8) (a e:Int) (E:TypeId) (n:Nat):zk_ (some (false,n)) (some (.cells #[vs s,vi a,vi e] E (0,0))) 0=some (vs s):=(rfl)
theorem Ja_ (s:List UInt8) (a e:Int) (E:TypeId) (n:Nat):zk_ (some (false,n)) (some (.cells #[vs s,vi a,vi e] E (0,0))) 1=some (vi a):=(rfl)
theorem Js_ (s:List UInt8) (a e:Int) (E:TypeId) (n:Nat):zk_ (some (false,n)) (some (.cells #[vs s,vi a,vi e] E (0,0))) 2=some (vi e):=(rfl)
theorem Zr_ (s:List UInt8) (a e x:Int) (E:TypeId):zu_ (some (false,1)) (some (.cells #[vs s,vi a,vi e] E (0,0))) 1 (vi x)=some (.cells #[vs s,vi x,vi e] E (0,0)):=by
 simp[zu_,QJ_,vi,Value.cells,Value.oneCell']
theorem ZJ_ (s:List UInt8) (a e x:Int) (E:TypeId):zu_ (some (false,1)) (some (.cells #[vs s,vi a,vi e] E (0,0))) 2 (vi x)=some (.cells #[vs s,vi a,vi x] E (0,0)):=by
 simp[zu_,QJ_,vi,Value.cells,Value.oneCell']
set_option linter.defProp false
def jM_ (s:List UInt8) (a:Nat) (e n:Int):List UInt8×Nat×Int:=
 if e≠0 then([],a,e) else if n<0 then([],a,2) else if(s.length:Int) - a<n then([],a,3) else((s.drop a).take n.toNat,a+n.toNat,0)
end Go.Proofs
end
section
open Go Go.Proofs Go.Sx
namespace Go.Proofs
set_option maxRecDepth 10000
set_option maxHeartbeats 8000000
set_option linter.unusedSimpArgs false
set_option linter.defProp false
def qZ_ (most:Int):List UInt8→Nat→Nat→Except Nat (Nat×Nat)
 | [],_,_=> .error 3
 |c::r,k,n=>
  if 128≤c.toNat then(if k+1=6 then .error 4 else qZ_ most r (k+1) (n+c.toNat%128*128^k))
  else if c.toNat=0∧0<k then .error 2
  else if n+c.toNat%128*128^k≤1099511627775∧((n+c.toNat%128*128^k:Nat):Int)≤most then .ok (n+c.toNat%128*128^k,k+1)
  else .error 4
def zF_ (s:List UInt8) (a:Nat) (e most:Int):Int×Nat×Int:=
 if e≠0 then(0,a,e) else match qZ_ most (s.drop a) 0 0 with
  | .ok (n,k)=>(n,a+k,0)
  | .error x=>(0,a,x)
theorem aj9_ {s:List UInt8} {a:Nat} {e most:Int} {n k:Nat} (he:e=0) (h:qZ_ most (s.drop a) 0 0= .ok (n,k)):zF_ s a e most=((n:Int),a+k,0):=by
 unfold zF_;rw[if_neg (by simp[he]),h]
theorem kX_ {s:List UInt8} {a:Nat} {e most:Int} {x:Nat} (he:e=0) (h:qZ_ most (s.drop a) 0 0= .error x):zF_ s a e most=(0,a,(x:Int)):=by
 unfold zF_;rw[if_neg (by simp[he]),h]
end Go.Proofs
end
section
open Go Go.Proofs Go.Sx
namespace Go.Proofs
set_option maxRecDepth 10000
set_option maxHeartbeats 2000000
set_option linter.unusedSimpArgs false
set_option linter.defProp false
theorem V7_ (most:Int): ∀ (l:List UInt8) (k n m k':Nat),qZ_ most l k n= .ok (m,k')→k<k'∧k'≤k+l.length
 | [],k,n,m,k',h=>by cases h
 |c::r,k,n,m,k',h=>by
  unfold qZ_ at h
  split at h
  ·split at h
   ·cases h
   ·have:=V7_ most r (k+1) _ m k' h
    simp only[List.length_cons];omega
  ·split at h
   ·cases h
   ·split at h
    ·cases h;simp only[List.length_cons];omega
    ·cases h
theorem q6_ {s:List UInt8} {a:Nat} {e most:Int} (ha:a≤s.length):a≤ (zF_ s a e most).2.1∧(zF_ s a e most).2.1≤s.length:=by
 unfold zF_
 split
 ·exact⟨Nat.le_refl _,ha⟩
 ·cases h:qZ_ most (s.drop a) 0 0 with
  |error x=>exact⟨Nat.le_refl _,ha⟩
  |ok p=>
   obtain⟨n,k⟩:=p
   have:=V7_ most _ _ _ _ _ h
   rw[List.length_drop] at this
   exact⟨by show a≤a+k;omega,by show a+k≤s.length;omega⟩
theorem VQ_ {s:List UInt8} {a:Nat} {e n:Int} (ha:a≤s.length):a≤ (jM_ s a e n).2.1∧(jM_ s a e n).2.1≤s.length:=by
 unfold jM_
 split
 ·exact⟨Nat.le_refl _,ha⟩
 ·split
  ·exact⟨Nat.le_refl _,ha⟩
  ·split
   ·exact⟨Nat.le_refl _,ha⟩
   ·exact⟨by show a≤a+n.toNat;omega,by show a+n.toNat≤s.length;omega⟩
def zX_ (s:List UInt8) (a:Nat) (e most:Int):List UInt8×Nat×Int:=
 let p:=zF_ s a e most
 let q:=jM_ s p.2.1 p.2.2 p.1
 if q.2.2≠0 then([],a,q.2.2) else q
def z32:List UInt8:=List.replicate 32 0
def idR (s:List UInt8) (a:Nat) (e:Int):List UInt8×Nat×Int:=
 let q:=jM_ s a e 32
 (if q.1.length=32 then q.1 else z32,q.2)
theorem aml_ {s:List UInt8} {a:Nat} {e:Int} (_ha:a≤s.length): (jM_ s a e 32).1= []∨(jM_ s a e 32).1.length=32:=by
 unfold jM_
 split
 ·exact .inl rfl
 ·split
  ·exact .inl rfl
  ·split
   ·exact .inl rfl
   ·right
    show((s.drop a).take 32).length=32
    rw[List.length_take,List.length_drop];omega
end Go.Proofs
end
section
open Go Go.Proofs Go.Sx
namespace Go.Proofs
set_option maxRecDepth 10000
set_option maxHeartbeats 4000000
set_option linter.unusedSimpArgs false
set_option linter.defProp false
def zA_:=And.intro (And.intro (And.intro (@zn_) (@wy_)) (And.intro (@wv_) (And.intro (@wk_) (@zm_)))) (And.intro (And.intro (@Q4_) (@Ja_)) (And.intro (@Js_) (And.intro (@Zr_) (@ZJ_))))
theorem wP_ (b:Nat) (s:List UInt8) (a:Nat) (e n:Int) (w:World) (ha:a≤s.length) (hs:s.length<1099511627776) (ho:w.heap[b]? =some (.cells #[vs s,vi a,vi e] 162 (0,0))):
  Rets Tryz.prog 125 #[vp b 0,vi n] w (fun v D=> ∃o,D= [(b,o)]∧v=vs (jM_ s a e n).1∧o= .cells #[vs s,vi (jM_ s a e n).2.1,vi (jM_ s a e n).2.2] 162 (0,0)):=by
 refine Rets.enterM Tryz.func125 rfl (rs:= [.tmp 4]) Tryz.results125 Tryz.ntmps125 ho ?_
 refine kf ?_
 first|with_reducible refine ks [] @zA_ ?_|refine kp @zA_ ?_
 unfold jM_
 by_cases he:e=0
 ·subst he
  rw[if_neg (fun h=>h rfl)]
  first|with_reducible refine ks [] @zA_ ?_|refine kp @zA_ ?_
  by_cases hn:n<0
  ·rw[if_pos hn]
   first|with_reducible refine ks [] @zA_ ?_|refine kp @zA_ ?_
   refine⟨_,_,_,(ke @zA_),rfl,trivial, ?_⟩
   exact⟨rfl,rfl⟩
  ·rw[if_neg hn]
   first|with_reducible refine ks [] @zA_ ?_|refine kp @zA_ ?_
   refine Cw.regionS [b] [0,1,2,5,6,7,10,3,4,8,9,11] [] (by kernel_rfl) (by kernel_rfl) (by kernel_rfl) ?_
   simp only[zj_, ↓zf_, ↓zc_, ↓zw_, ↓zv_,zd_]
   refine kq @zA_ ?_
   try with_reducible refine Ow.nil ?_
   first|with_reducible refine ks [] @zA_ ?_|refine kp @zA_ ?_
   by_cases hl: (s.length:Int) - a<n
   ·rw[if_pos hl]
    first|with_reducible refine ks [] @zA_ ?_|refine kp @zA_ ?_
    refine⟨_,_,_,(ke @zA_),rfl,trivial, ?_⟩
    exact⟨rfl,rfl⟩
   ·rw[if_neg hl]
    obtain⟨m,rfl⟩: ∃m:Nat,n=(m:Int):=⟨n.toNat,by omega⟩
    first|with_reducible refine ks [] @zA_ ?_|refine kp @zA_ ?_
    refine Cw.regionS [b] [0,1,2,4,5,6,8,9,10,12,3,7,11,13,14,15] [] (by kernel_rfl) (by kernel_rfl) (by kernel_rfl) ?_
    simp only[zj_, ↓zf_, ↓zc_, ↓zw_, ↓zv_,zd_]
    refine kq @zA_ ?_
    try with_reducible refine Ow.nil ?_
    first|with_reducible refine ks [] @zA_ ?_|refine kp @zA_ ?_
    refine⟨_,_,_,(ke @zA_),rfl,trivial, ?_⟩
    refine⟨?_, ?_⟩
    ·simp only[kD_,Int.toNat_natCast]
     rw[List.drop_take,Nat.add_sub_cancel_left]
    ·rw[Int.toNat_natCast,Int.natCast_add]
 ·rw[if_pos he]
  first|with_reducible refine ks [] @zA_ ?_|refine kp @zA_ ?_
  refine⟨_,_,_,(ke @zA_),rfl,trivial, ?_⟩
  exact⟨rfl,rfl⟩
theorem vd_ (b:Nat) (s:List UInt8) (a e:Int) (w:World) (ho:w.heap[b]? =some (.cells #[vs s,vi a,vi e] 162 (0,0))):
  Rets Tryz.prog 98 #[vp b 0] w (fun v D=>v=vi (if e≠0 then e else if a<s.length then 5 else 0)∧D= []):=by
 refine Rets.enterV Tryz.func98 rfl (rs:= [.tmp 2]) Tryz.results98 Tryz.ntmps98 ?_
 refine kf ?_
 first|with_reducible refine ks [] (And.intro @zA_ @ho) ?_|refine kp (And.intro @zA_ @ho) ?_
 by_cases he:e=0
 ·first|with_reducible refine ks [] @zA_ ?_|refine kp @zA_ ?_
  refine Cw.regionS [b] [0,1,2,4,5,6,3,7,8,9] [] (by kernel_rfl) (by kernel_rfl) (by kernel_rfl) ?_
  simp only[zj_, ↓zf_, ↓zc_, ↓zw_, ↓zv_,zd_]
  refine kq (And.intro @zA_ @ho) ?_
  try with_reducible refine Ow.nil ?_
  first|with_reducible refine ks [] @zA_ ?_|refine kp @zA_ ?_
  refine cdC.splitp (fun hc=> ?_) (fun hc=> ?_)
  ·first|with_reducible refine ks [] @zA_ ?_|refine kp @zA_ ?_
   refine⟨_,(ke @zA_),trivial, ?_⟩
   simp[hc,he,kD_]
  ·first|with_reducible refine ks [] @zA_ ?_|refine kp @zA_ ?_
   refine⟨_,(ke @zA_),trivial, ?_⟩
   simp[hc,he,kD_]
 ·first|with_reducible refine ks [] (And.intro @zA_ @ho) ?_|refine kp (And.intro @zA_ @ho) ?_
  refine⟨_,(ke @zA_),trivial, ?_⟩
  simp[he,kD_]
structure KN where
 k:Nat
 n:Nat
theorem xb_ (b:Nat) (s:List UInt8) (a:Nat) (e most:Int) (w:World) (ha:a≤s.length) (hs:s.length<1099511627776) (ho:w.heap[b]? =some (.cells #[vs s,vi a,vi e] 162 (0,0))):
  Rets Tryz.prog 101 #[vp b 0,vi most] w (fun v D=> ∃o,D= [(b,o)]∧v=vi (zF_ s a e most).1∧o= .cells #[vs s,vi (zF_ s a e most).2.1,vi (zF_ s a e most).2.2] 162 (0,0)):=by
 refine Rets.enterM Tryz.func101 rfl (rs:= [.tmp 4]) Tryz.results101 Tryz.ntmps101 ho ?_
 refine kf ?_
 first|with_reducible refine ks [] @zA_ ?_|refine kp @zA_ ?_
 by_cases he:e=0
 ·subst he
  first|with_reducible refine ks [] @zA_ ?_|refine kp @zA_ ?_
  refine Cw.loopG (G:=KN) [14,15,18,19,20,21,22,23,24,25,26,27,28,29,30,31,32,4,33,34,35,36,37,38,39,40,41,42,43,44,8,45,46,47,48,49,50,5,51,52,6,53,54,55,56,57,58,59,60,61,62,63,64,65,66,67,68,69,70,71,72,73,74,75,76,77,78,79,80,81,82,83,84,16,17,7] (fun g=> [(5,vi g.n),(6,vi (128^g.k:Nat)),(7,vi g.k)]) (fun g=> [(b, .cells #[vs s,vi a,vi 0] 162 (0,0))]) (fun g=>g.k≤6∧(g.k<6→qZ_ most (s.drop a) 0 0=qZ_ most (s.drop (a+g.k)) g.k g.n∧a+g.k≤s.length∧g.n<128^g.k)∧(g.k=6→qZ_ most (s.drop a) 0 0= .error 4)) (fun g=>6 - g.k) ⟨0,0⟩ rfl rfl ?_ ?_
  ·exact⟨by simp,fun _=>⟨rfl,by simpa using ha,by simp⟩,fun h=>by cases h⟩
  intro g j hg
  refine kv ?_
  obtain⟨k,n⟩:=g
  simp only at hg ⊢
  obtain⟨hk6,hg1,hg2⟩:=hg
  by_cases hk:k<6
  ·obtain⟨hgo,hak,hn⟩:=hg1 hk
   first|with_reducible refine ks [] @zA_ ?_|refine kp @zA_ ?_
   refine Cw.regionS [b] [0,1,2,4,6,7,8,3,5,9,10,11] [] (by kernel_rfl) (by kernel_rfl) (by kernel_rfl) ?_
   simp only[zj_, ↓zf_, ↓zc_, ↓zw_, ↓zv_,zd_]
   refine kq @zA_ ?_
   try with_reducible refine Ow.nil ?_
   first|with_reducible refine ks [] @zA_ ?_|refine kp @zA_ ?_
   by_cases hend:a+k=s.length
   ·first|with_reducible refine ks [] @zA_ ?_|refine kp @zA_ ?_
    rw[kX_ (x:=3) rfl (by rw[hgo,hend,List.drop_length];rfl)]
    refine⟨_,_,_,(ke @zA_),rfl,trivial, ?_⟩
    exact⟨rfl,rfl⟩
   ·have hak':a+k<s.length:=by omega
    have hdrop:s.drop (a+k)=s.getD (a+k) 0::s.drop (a+k+1):=by
     rw[List.drop_eq_getElem_cons hak',List.getD_eq_getElem?_getD,List.getElem?_eq_getElem hak'];rfl
    rw[hdrop] at hgo
    first|with_reducible refine ks [] @zA_ ?_|refine kp @zA_ ?_
    refine Cw.regionS [b] [0,1,2,4,5,6,8,3,7,9,10,11,12] [] (by kernel_rfl) (by kernel_rfl) (by kernel_rfl) ?_
    simp only[zj_, ↓zf_, ↓zc_, ↓zw_, ↓zv_,zd_]
    have hcast: ((a:Int)+ (k:Int))=((a+k:Nat):Int):=by omega
    refine kq (And.intro @zA_ @hcast) ?_
    try with_reducible refine Ow.nil ?_
    generalize s.getD (a+k) 0=c at*
    have hp:128^k≤34359738368:=Nat.pow_le_pow_right (by omega) (show k≤5 by omega)
    have hp0:0<128^k:=Nat.pow_pos (by omega)
    have hcl:=c.toNat_lt
    have hdm:c.toNat%128*128^k≤127*128^k:=Nat.mul_le_mul_right _ (by omega)
    have hcm: ((c.toNat:Int)%128)=((c.toNat%128:Nat):Int):=by omega
    have hmul:zp_ .mul (vi ((c.toNat%128:Nat):Int)) (vi ((128^k:Nat):Int))=some (vi ((c.toNat%128*128^k:Nat):Int)):=by
     rw[aaz_ _ _ (by rw[←Int.natCast_mul];omega),←Int.natCast_mul]
    have hpow: (((128^k:Nat):Int)*128)=((128^ (k+1):Nat):Int):=by rw[Nat.pow_succ,Int.natCast_mul];rfl
    have hlt:n+c.toNat%128*128^k<128^ (k+1):=by rw[Nat.pow_succ];omega
    first|with_reducible refine ks [] (And.intro @zA_ (And.intro @hcm (And.intro @hmul (@hpow)))) ?_|refine kp (And.intro @zA_ (And.intro @hcm (And.intro @hmul (@hpow)))) ?_
    rw[show((n:Int)+ ((c.toNat%128*128^k:Nat):Int))=((n+c.toNat%128*128^k:Nat):Int) from(Int.natCast_add _ _).symm]
    by_cases hc128:128≤c.toNat
    ·first|with_reducible refine ks [] @zA_ ?_|refine kp @zA_ ?_
     refine Again.mk (KN.mk (k+1) (n+c.toNat%128*128^k)) (by show 6 - (k+1)<6 - k;omega) ⟨by show k+1≤6;omega,fun h=>⟨?_,by show a+ (k+1)≤s.length;omega,hlt⟩,fun h=> ?_⟩ rfl rfl
     ·show qZ_ most (s.drop a) 0 0=qZ_ most (s.drop (a+ (k+1))) (k+1) (n+c.toNat%128*128^k)
      have h':k+1<6:=h
      rw[hgo,qZ_,if_pos hc128,if_neg (by omega)]
      rfl
     ·have h':k+1=6:=h
      rw[hgo,qZ_,if_pos hc128,if_pos h']
    ·by_cases hz:c.toNat=0
     ·have e0: ((c.toNat:Int)==0)=true:=by simp[hz]
      first|with_reducible refine ks [] (And.intro @zA_ @e0) ?_|refine kp (And.intro @zA_ @e0) ?_
      by_cases hk0:0<k
      ·first|with_reducible refine ks [] @zA_ ?_|refine kp @zA_ ?_
       rw[kX_ (x:=2) rfl (by rw[hgo,qZ_,if_neg hc128,if_pos ⟨hz,hk0⟩])]
       refine⟨_,_,_,(ke @zA_),rfl,trivial, ?_⟩
       exact⟨rfl,rfl⟩
      ·have hc0: ¬ (c.toNat=0∧0<k):=fun h=>hk0 h.2
       first|with_reducible refine ks [] @zA_ ?_|refine kp @zA_ ?_
       by_cases hm:n+c.toNat%128*128^k≤1099511627775
       ·have e1:decide ((1099511627775:Int)< ((n+c.toNat%128*128^k:Nat):Int))=false:=decide_eq_false (by omega)
        first|with_reducible refine ks [] (And.intro @zA_ @e1) ?_|refine kp (And.intro @zA_ @e1) ?_
        by_cases hmo: ((n+c.toNat%128*128^k:Nat):Int)≤most
        ·first|with_reducible refine ks [] @zA_ ?_|refine kp @zA_ ?_
         rw[aj9_ rfl (by rw[hgo,qZ_,if_neg hc128,if_neg hc0,if_pos ⟨hm,hmo⟩])]
         refine⟨_,_,_,(ke @zA_),rfl,trivial, ?_⟩
         exact⟨rfl,rfl⟩
        ·first|with_reducible refine ks [] @zA_ ?_|refine kp @zA_ ?_
         rw[kX_ (x:=4) rfl (by rw[hgo,qZ_,if_neg hc128,if_neg hc0,if_neg (fun h=>hmo h.2)])]
         refine⟨_,_,_,(ke @zA_),rfl,trivial, ?_⟩
         exact⟨rfl,rfl⟩
       ·have e1:decide ((1099511627775:Int)< ((n+c.toNat%128*128^k:Nat):Int))=true:=decide_eq_true (by omega)
        first|with_reducible refine ks [] (And.intro @zA_ @e1) ?_|refine kp (And.intro @zA_ @e1) ?_
        rw[kX_ (x:=4) rfl (by rw[hgo,qZ_,if_neg hc128,if_neg hc0,if_neg (fun h=>hm h.1)])]
        refine⟨_,_,_,(ke @zA_),rfl,trivial, ?_⟩
        exact⟨rfl,rfl⟩
     ·have e0: ((c.toNat:Int)==0)=false:=by simp;omega
      have hc0: ¬ (c.toNat=0∧0<k):=fun h=>hz h.1
      first|with_reducible refine ks [] (And.intro @zA_ @e0) ?_|refine kp (And.intro @zA_ @e0) ?_
      by_cases hm:n+c.toNat%128*128^k≤1099511627775
      ·have e1:decide ((1099511627775:Int)< ((n+c.toNat%128*128^k:Nat):Int))=false:=decide_eq_false (by omega)
       first|with_reducible refine ks [] (And.intro @zA_ @e1) ?_|refine kp (And.intro @zA_ @e1) ?_
       by_cases hmo: ((n+c.toNat%128*128^k:Nat):Int)≤most
       ·first|with_reducible refine ks [] @zA_ ?_|refine kp @zA_ ?_
        rw[aj9_ rfl (by rw[hgo,qZ_,if_neg hc128,if_neg hc0,if_pos ⟨hm,hmo⟩])]
        refine⟨_,_,_,(ke @zA_),rfl,trivial, ?_⟩
        exact⟨rfl,rfl⟩
       ·first|with_reducible refine ks [] @zA_ ?_|refine kp @zA_ ?_
        rw[kX_ (x:=4) rfl (by rw[hgo,qZ_,if_neg hc128,if_neg hc0,if_neg (fun h=>hmo h.2)])]
        refine⟨_,_,_,(ke @zA_),rfl,trivial, ?_⟩
        exact⟨rfl,rfl⟩
      ·have e1:decide ((1099511627775:Int)< ((n+c.toNat%128*128^k:Nat):Int))=true:=decide_eq_true (by omega)
       first|with_reducible refine ks [] (And.intro @zA_ @e1) ?_|refine kp (And.intro @zA_ @e1) ?_
       rw[kX_ (x:=4) rfl (by rw[hgo,qZ_,if_neg hc128,if_neg hc0,if_neg (fun h=>hm h.1)])]
       refine⟨_,_,_,(ke @zA_),rfl,trivial, ?_⟩
       exact⟨rfl,rfl⟩
  ·have hke:k=6:=by omega
   first|with_reducible refine ks [] @zA_ ?_|refine kp @zA_ ?_
   rw[kX_ (x:=4) rfl (hg2 hke)]
   refine⟨_,_,_,(ke @zA_),rfl,trivial, ?_⟩
   exact⟨rfl,rfl⟩
 ·first|with_reducible refine ks [] @zA_ ?_|refine kp @zA_ ?_
  unfold zF_
  refine⟨_,_,_,(ke @zA_),rfl,trivial, ?_⟩
  simp[he,kD_]
end Go.Proofs
end
section
open Go Go.Proofs Go.Sx
namespace Go.Proofs
set_option maxRecDepth 10000
set_option maxHeartbeats 4000000
set_option linter.unusedSimpArgs false
set_option linter.defProp false
def jj_:=And.intro (And.intro (And.intro (@zn_) (@wy_)) (And.intro (@wv_) (And.intro (@wk_) (@zm_)))) (And.intro (And.intro (@Q4_) (@Ja_)) (And.intro (@Js_) (And.intro (@Zr_) (@ZJ_))))
theorem kc_ (b:Nat) (s:List UInt8) (a:Nat) (e most:Int) (w:World) (ha:a≤s.length) (hs:s.length<1099511627776) (ho:w.heap[b]? =some (.cells #[vs s,vi a,vi e] 162 (0,0))):
  Rets Tryz.prog 97 #[vp b 0,vi most] w (fun v D=> ∃o,D= [(b,o)]∧v=vs (zX_ s a e most).1∧o= .cells #[vs s,vi (zX_ s a e most).2.1,vi (zX_ s a e most).2.2] 162 (0,0)):=by
 refine Rets.enterM Tryz.func97 rfl (rs:= [.tmp 4]) Tryz.results97 Tryz.ntmps97 ho ?_
 refine kf ?_
 first|with_reducible refine ks [] @jj_ ?_|refine kp @jj_ ?_
 by_cases he:e=0
 ·first|with_reducible refine ks [] @jj_ ?_|refine kp @jj_ ?_
  have hp:=q6_ (e:=e) (most:=most) ha
  unfold zX_
  refine Ow.callM rfl rfl Tryz.call101 (by simp[keys]) (fun w' hw'=>xb_ b s a e most w' ha hs (hw'.has _ _ List.mem_cons_self)) ?_
  generalize zF_ s a e most=p at*
  obtain⟨n,a1,e1⟩:=p
  simp only at hp ⊢
  refine ko @jj_ ?_
  first|with_reducible refine ks [] @jj_ ?_|refine kp @jj_ ?_
  refine Ow.callM rfl rfl Tryz.call125 (by simp[keys]) (fun w' hw'=>wP_ b s a1 e1 n w' hp.2 hs (hw'.has _ _ List.mem_cons_self)) ?_
  generalize jM_ s a1 e1 n=q at*
  obtain⟨t,a2,e2⟩:=q
  simp only
  refine ko @jj_ ?_
  first|with_reducible refine ks [] @jj_ ?_|refine kp @jj_ ?_
  by_cases he2:e2=0
  ·first|with_reducible refine ks [] @jj_ ?_|refine kp @jj_ ?_
   refine⟨_,_,_,(ke @jj_),rfl,trivial, ?_⟩
   simp[he2,kD_]
  ·first|with_reducible refine ks [] @jj_ ?_|refine kp @jj_ ?_
   refine⟨_,_,_,(ke @jj_),rfl,trivial, ?_⟩
   simp[he2,kD_]
 ·first|with_reducible refine ks [] @jj_ ?_|refine kp @jj_ ?_
  have:zX_ s a e most=([],a,e):=by
   unfold zX_ zF_ jM_
   simp[he]
  rw[this]
  refine⟨_,_,_,(ke @jj_),rfl,trivial, ?_⟩
  exact⟨rfl,rfl⟩
def V1_ (t:List UInt8) (g:Nat):List UInt8:=t.take g++List.replicate (32 - g) 0
theorem akm_ (t:List UInt8) (g:Nat) (h:g≤t.length) (h2:t.length≤32): (V1_ t g).length=32:=by
 unfold V1_;rw[List.length_append,List.length_take,List.length_replicate];omega
theorem ahb_ (t:List UInt8) (g:Nat) (h:g<t.length) (h2:t.length≤32): (V1_ t g).set g (t.getD g 0)=V1_ t (g+1):=by
 unfold V1_
 have hl: (t.take g).length=g:=by rw[List.length_take];omega
 obtain⟨m,hm⟩: ∃m,32 - g=m+1:=⟨31 - g,by omega⟩
 rw[hm,List.replicate_succ,List.set_append_right _ _ (by omega),hl,Nat.sub_self,List.set_cons_zero,List.take_succ_eq_append_getElem h,List.getD_eq_getElem?_getD,List.getElem?_eq_getElem h,show 32 - (g+1)=m by omega,List.append_assoc]
 rfl
theorem ah5_ (t:List UInt8) (h:t= []∨t.length=32):V1_ t t.length=(if t.length=32 then t else z32):=by
 unfold V1_
 rcases h with rfl|h
 ·rfl
 ·rw[if_pos h,h,List.take_of_length_le (by omega)];simp
theorem Ql_ (b:Nat) (s:List UInt8) (a:Nat) (e:Int) (w:World) (ha:a≤s.length) (hs:s.length<1099511627776) (ho:w.heap[b]? =some (.cells #[vs s,vi a,vi e] 162 (0,0))):
  Rets Tryz.prog 102 #[vp b 0] w (fun v D=> ∃o,D= [(b,o)]∧v= .agg (a8 (idR s a e).1)∧o= .cells #[vs s,vi (idR s a e).2.1,vi (idR s a e).2.2] 162 (0,0)):=by
 have hbl:=(Array.getElem?_eq_some_iff.1 ho).1
 have hq:=aml_ (e:=e) ha
 unfold idR
 refine Rets.enterM Tryz.func102 rfl (rs:= [.cell 2 118]) Tryz.results102 Tryz.ntmps102 ho ?_
 refine kf ?_
 first|with_reducible refine ks [] @jj_ ?_|refine kp @jj_ ?_
 refine Ow.alloc rfl rfl Tryz.zr118 fun b2 hb2 hw2=> ?_
 obtain⟨h12,-⟩:=hb2
 refine ko @jj_ ?_
 first|with_reducible refine ks [] @jj_ ?_|refine kp @jj_ ?_
 refine Ow.callM rfl rfl Tryz.call125 (by simp[keys]) (fun w' hw'=>wP_ b s a e 32 w' ha hs (hw'.has _ _ List.mem_cons_self)) ?_
 generalize jM_ s a e 32=q at*
 obtain⟨t,a2,e2⟩:=q
 simp only at hq ⊢
 have ht32:t.length≤32:=by rcases hq with rfl|h<;>simp_all
 refine ko @jj_ ?_
 first|with_reducible refine ks [] @jj_ ?_|refine kp @jj_ ?_
 refine Ow.alloc rfl rfl Tryz.zr118 fun b3 hb3 hw3=> ?_
 refine ko @jj_ ?_
 obtain⟨h13,h23,-⟩:=hb3
 rw[show a8 (List.replicate 32 0)=a8 (V1_ t 0) from rfl]
 first|with_reducible refine ks [] @jj_ ?_|refine kp @jj_ ?_
 refine Cw.loopG (G:=Nat) [8,9,10,11,14,15,16,17,18,12,13,5] (fun g=> [(5,vi g)]) (fun g=> [(b, .cells #[vs s,vi a2,vi e2] 162 (0,0)),(b2, .cells (a8 z32) 118 (0,0)),(b3, .cells (a8 (V1_ t g)) 118 (0,0))]) (fun g=>g≤t.length) (fun g=>t.length - g) 0 rfl rfl ?_ ?_
 ·omega
 intro g j hg
 refine kv ?_
 by_cases hlt:g<t.length
 ·have hil:=akm_ t g hg ht32
  first|with_reducible refine ks [] @jj_ ?_|refine kp @jj_ ?_
  refine Again.mk (g+1) (by omega) (by omega) ?_ rfl
  rw[ahb_ t g hlt ht32]
 ·obtain rfl:g=t.length:=by omega
  rw[ah5_ t hq]
  have hil: (if t.length=32 then t else z32).length=32:=by
   split
   ·assumption
   ·simp[z32]
  have hz32:z32.length=32:=by simp[z32]
  generalize (if t.length=32 then t else z32)=id at*
  first|with_reducible refine ks [] @jj_ ?_|refine kp @jj_ ?_
  refine⟨_,_,_,(ke @jj_),rfl,⟨hw2,hw3,trivial⟩, ?_⟩
  exact⟨rfl,rfl⟩
end Go.Proofs
end
section
open Go Go.Proofs Go.Sx Go.StP
namespace Go.Proofs
set_option maxRecDepth 10000
set_option maxHeartbeats 4000000
set_option linter.unusedSimpArgs false
structure EntL where
 name:List UInt8
 kind:Int
 id:IdL
def xo_ (r:EntL):List Value:= [vs r.name]++ ([vi r.kind]++ (r.id.l.map v8))
def xA_:EntL:=⟨[],0,id0⟩
theorem xu_ (r:EntL): (xo_ r).length=34:=by simp[xo_,r.id.h]
theorem ZQ_ (r:EntL):Value.cells (.agg (xo_ r).toArray)=(xo_ r).toArray:=zh_ _
theorem afd_ (r:EntL): (xo_ r).all Value.oneCell'=true:=by
 unfold xo_
 simp only[List.all_append,List.all_cons,List.all_nil,w9_,Bool.and_true,Bool.true_and]
 rfl
theorem alQ_:zK_ Tryz.prog 169=some (.agg (xo_ xA_).toArray):=id (by kernel_rfl)
theorem anw_:qf_ Tryz.prog 169=some (true,34):=id (by kernel_rfl)
theorem VT_ (r:EntL):xo_ r=([]:List Value)++ (([vs r.name])++ ([vi r.kind]++ (r.id.l.map v8))):=by
 unfold xo_;simp only[List.append_assoc,List.nil_append,List.append_nil]
theorem aav_ (r:EntL) (n:Nat) (E:TypeId) (fz:Nat×Nat):zk_ (some (false,n)) (some (.cells (xo_ r).toArray E fz)) 0=some (vs r.name):=by
 rw[VT_];exact qw_ _ _ _ n E fz (by simp)
theorem V2_ {w:World} {v:Value} {l:List EntL} {b off:Nat} {arr:Array Value} {E:TypeId} {fz:Nat×Nat} (h:RowS 34 xo_ xA_ w v l b off arr E fz) {k:Nat} (hk:k<l.length) (n:Nat):zk_ (some (false,n)) (some (.cells arr E fz)) (off+k*34+0)=some (vs (l.getD k xA_).name):=by
 rw[RowS.cell h hk (by omega)];generalize l.getD k xA_=r;rw[VT_];exact x6_ _ _ _ (by simp)
theorem agl_ (r:EntL) (x:List UInt8) (a:Bool) (E:TypeId):zu_ (some (a,1)) (some (.cells (xo_ r).toArray E (0,0))) 0 (vs x)=some (.cells (xo_ {r with name:=x}).toArray E (0,0)):=by
 rw[VT_ r,VT_ {r with name:=x}];exact zt_ _ _ _ _ a _ E (by simp) rfl (rfl) rfl (rfl)
theorem V4_ (r:EntL):xo_ r=(([vs r.name]))++ (([vi r.kind])++ (r.id.l.map v8)):=by
 unfold xo_;simp only[List.append_assoc,List.nil_append,List.append_nil]
theorem abW_ (r:EntL) (n:Nat) (E:TypeId) (fz:Nat×Nat):zk_ (some (false,n)) (some (.cells (xo_ r).toArray E fz)) 1=some (vi r.kind):=by
 rw[V4_];exact qw_ _ _ _ n E fz (by simp)
theorem afS_ {w:World} {v:Value} {l:List EntL} {b off:Nat} {arr:Array Value} {E:TypeId} {fz:Nat×Nat} (h:RowS 34 xo_ xA_ w v l b off arr E fz) {k:Nat} (hk:k<l.length) (n:Nat):zk_ (some (false,n)) (some (.cells arr E fz)) (off+k*34+1)=some (vi (l.getD k xA_).kind):=by
 rw[RowS.cell h hk (by omega)];generalize l.getD k xA_=r;rw[V4_];exact x6_ _ _ _ (by simp)
theorem afV_ (r:EntL) (x:Int) (a:Bool) (E:TypeId):zu_ (some (a,1)) (some (.cells (xo_ r).toArray E (0,0))) 1 (vi x)=some (.cells (xo_ {r with kind:=x}).toArray E (0,0)):=by
 rw[V4_ r,V4_ {r with kind:=x}];exact zt_ _ _ _ _ a _ E (by simp) rfl (rfl) rfl (rfl)
theorem V8_ (r:EntL):xo_ r=(([vs r.name])++ ([vi r.kind]))++ ((r.id.l.map v8)++ (([]:List Value))):=by
 unfold xo_;simp only[List.append_assoc,List.nil_append,List.append_nil]
theorem aaE_ (r:EntL) (E:TypeId) (fz:Nat×Nat):zk_ (some (true,32)) (some (.cells (xo_ r).toArray E fz)) 2=some (Value.agg (a8 r.id.l)):=by
 rw[V8_,Jp_ _ _ _ E fz (by simp) (by simp[r.id.h])];rfl
theorem aqd_ (r:EntL): (xo_ r).toArray.extract 2 34=a8 r.id.l:=by
 rw[V8_];exact air_ (o:=2) (n:=32) _ _ _ (by simp) (by simp[r.id.h])
theorem alN_ {w:World} {v:Value} {l:List EntL} {b off:Nat} {arr:Array Value} {E:TypeId} {fz:Nat×Nat} (h:RowS 34 xo_ xA_ w v l b off arr E fz) {k:Nat} (hk:k<l.length):zk_ (some (true,32)) (some (.cells arr E fz)) (off+k*34+2)=some (Value.agg (a8 (l.getD k xA_).id.l)):=by
 rw[RowS.part h xu_ hk (by omega) (by omega),aqd_]
theorem ahc_ (r:EntL) (x:IdL) (a:Bool) (E:TypeId):zu_ (some (a,32)) (some (.cells (xo_ r).toArray E (0,0))) 2 (Value.agg (a8 x.l))=some (.cells (xo_ {r with id:=x}).toArray E (0,0)):=by
 rw[V8_ r,V8_ {r with id:=x}];exact zt_ _ _ _ _ a _ E (by simp) (by simp[r.id.h]) (zh_ _) (by simp[x.h]) (w9_ _)
theorem V6_ (r:EntL) (E:TypeId) (fz:Nat×Nat):zk_ (some (true,34)) (some (.cells (xo_ r).toArray E fz)) 0=some (.agg (xo_ r).toArray):=xa_ _ E fz 34 (by rw[List.size_toArray,xu_])
theorem aif_ (old:Array Value) (r:EntL) (a:Bool) (E:TypeId) (h:old.size=34):zu_ (some (a,34)) (some (.cells old E (0,0))) 0 (.agg (xo_ r).toArray)=some (.cells (xo_ r).toArray E (0,0)):=jJ_ _ a old E (xu_ r) (afd_ r) h
theorem Qh_ (r r':EntL) (a:Bool) (E:TypeId):zu_ (some (a,34)) (some (.cells (xo_ r').toArray E (0,0))) 0 (.agg (xo_ r).toArray)=some (.cells (xo_ r).toArray E (0,0)):=aif_ _ r a E (by rw[List.size_toArray,xu_])
theorem apD_ (a b:List UInt8): (!(Op.bytesLess a b||a==b))=ltB b a:=by
 cases h:ltB a b
 ·have h':Op.bytesLess a b=false:=h
  rw[h',Bool.false_or]
  by_cases e:a=b
  ·subst e;rw[h];simp
  ·rw[Zy_ h e];simp[e]
 ·have h':Op.bytesLess a b=true:=h
  rw[h',aaW_ h];rfl
set_option linter.defProp false
end Go.Proofs
end
section
open Go Go.Proofs Go.Sx Go.StP
namespace Go.Proofs
set_option maxRecDepth 10000
set_option maxHeartbeats 4000000
set_option linter.unusedSimpArgs false
section
variable {α:Type} {a x m y c:List α} {i k:Nat} {z:α}
end
set_option linter.defProp false
end Go.Proofs
end
section
open Go Go.Proofs Go.Sx Go.StP
namespace Go.Proofs
set_option maxRecDepth 10000
set_option maxHeartbeats 4000000
set_option linter.unusedSimpArgs false
abbrev aoy_ (l:List EntL):Prop:=StP.Sorted EntL.name l
abbrev StE (l l':List EntL):Prop:=StP.St EntL.name l l'
set_option linter.defProp false
end Go.Proofs
end
section
open Go Go.Proofs Go.Sx Go.StP
namespace Go.Proofs
set_option maxRecDepth 10000
set_option maxHeartbeats 4000000
set_option linter.unusedSimpArgs false
set_option linter.defProp false
end Go.Proofs
end
section
open Go Go.Proofs Go.Sx Go.StP
namespace Go.Proofs
set_option maxRecDepth 10000
set_option maxHeartbeats 4000000
set_option linter.unusedSimpArgs false
set_option linter.defProp false
end Go.Proofs
end
section
open Go Go.Proofs Go.Sx Go.StP
namespace Go.Proofs
set_option maxRecDepth 10000
set_option maxHeartbeats 4000000
set_option linter.unusedSimpArgs false
end Go.Proofs
end
section
open Go Go.Proofs Go.Sx Go.StP
namespace Go.Proofs
set_option maxRecDepth 10000
set_option maxHeartbeats 4000000
set_option linter.unusedSimpArgs false
abbrev EntS (w:World) (v:Value) (l:List EntL):Prop:=SlV 34 xo_ xA_ w v l
set_option linter.defProp false
end Go.Proofs
end
section
open Go Go.Proofs Go.Sx Go.StP
namespace Go.Proofs
set_option maxRecDepth 10000
set_option maxHeartbeats 4000000
set_option linter.unusedSimpArgs false
set_option linter.defProp false
end Go.Proofs
end
section
open Go Go.Proofs Go.Sx Go.StP
namespace Go.Proofs
set_option maxRecDepth 10000
set_option maxHeartbeats 4000000
set_option linter.unusedSimpArgs false
def SortOf (l Z:List EntL):Prop:=Z.length=l.length∧aoy_ Z∧StE l Z
theorem SortOf.eq {l Z Z':List EntL} (h:SortOf l Z) (h':SortOf l Z'):Z=Z':=StP.St.eq h.2.1 h'.2.1 (h.2.2.symm.trans h'.2.2)
end Go.Proofs
end
section
open Go Go.Proofs Go.Sx
namespace Go.Proofs
set_option maxRecDepth 10000
set_option maxHeartbeats 4000000
set_option linter.unusedSimpArgs false
def badR (c:Int):Bool:=decide (c<33) ||decide (126<c) || (c==47)
def Zh_ (b:UInt8):Bool:=decide (b.toNat<33) ||decide (126<b.toNat) || (b.toNat==47)
theorem eqb (a b:Bool):q7_ Tryz.prog .eql 4 (.bool a) (.bool b)=some (.bool (a==b)):=by
 simp[q7_,eqX,q8_,qR_,Tryz.underlying4]
theorem QG_ (a:Value): (#[a]:Array Value)[0]? =some a:=(rfl)
set_option linter.defProp false
def jl_:=And.intro (And.intro (And.intro (@zn_) (And.intro (@wy_) (@wv_))) (And.intro (And.intro (@wk_) (@zm_)) (And.intro (@afm_) (@J1_)))) (And.intro (And.intro (And.intro (@Xx_) (@JI_)) (And.intro (@ai2_) (@QG_))) (And.intro (And.intro (@Sx.tup3_0) (@Sx.tup3_1)) (And.intro (@Sx.tup3_2) (@eqb))))
theorem amx_ (l:List UInt8) (i:Nat) (h:i<l.length):badR ((Utf8.decode ⟨l.toArray⟩ i).1:Nat)=Zh_ (l.getD i 0)∧(Zh_ (l.getD i 0)=false→(Utf8.decode ⟨l.toArray⟩ i).2=1):=by
 obtain⟨h0,h1,h2⟩:=acK_ l i h
 by_cases hc: (l.getD i 0).toNat<128
 ·rw[h1 hc]
  refine⟨?_,fun _=>rfl⟩
  unfold badR Zh_
  congr 1
  ·congr 1
   ·apply decide_eq_decide.2;omega
   ·apply decide_eq_decide.2;omega
  ·rw[Bool.eq_iff_iff,beq_iff_eq,beq_iff_eq];omega
 ·have h2':=h2 (by omega)
  have hb:Zh_ (l.getD i 0)=true:=by
   unfold Zh_
   rw[decide_eq_true (show 126< (l.getD i 0).toNat by omega)];simp
  rw[hb]
  refine⟨?_,fun h=>by cases h⟩
  unfold badR
  rw[decide_eq_true (show(126:Int)< (((Utf8.decode ⟨l.toArray⟩ i).1:Nat):Int) by omega)];simp
theorem KP_ (s:List UInt8) (k:FuncId) (hk: ∀a w,(callFunc k a).run Tryz.prog w= .ok (.enter k a) w) (hc: ∀c w,Rets Tryz.prog k #[K0_ c] w (fun v D=>v= .bool (badR c)∧D= [])) (w:World) (hs:s.length<1099511627776):
  Rets Tryz.prog 110 #[vs s, .func (.func k) #[] #[], .bool true] w (fun v D=> ∃n:Int,v=vi n∧(0≤n↔s.any Zh_=true)∧D= []):=by
 refine Rets.mono (S:=fun v D=>(∃n:Int,v=vi n∧(0≤n↔s.any Zh_=true))∧D= []) ?_ (by rintro v D ⟨⟨n,h1,h2⟩,h3⟩;exact⟨n,h1,h2,h3⟩)
 refine Rets.enterV Tryz.func110 rfl (rs:= [.tmp 6]) Tryz.results110 Tryz.ntmps110 ?_
 refine kf ?_
 first|with_reducible refine ks [] @jl_ ?_|refine kp @jl_ ?_
 refine Ow.rangeText rfl rfl Tryz.underlying9 rfl fun b1 hb1 hw1=> ?_
 refine ko @jl_ ?_
 first|with_reducible refine ks [] @jl_ ?_|refine kp @jl_ ?_
 refine Cw.loopG (G:=Nat) [11,12,13,14,7,8,15,16,17,18,19,20,6] (fun g=> []) (fun g=> [(b1, .stringIter ⟨s.toArray⟩ g)]) (fun g=>g≤s.length∧ ∀i,i<g→Zh_ (s.getD i 0)=false) (fun g=>s.length - g) 0 rfl rfl ?_ ?_
 ·exact⟨by omega,fun i hi=>by omega⟩
 intro g j hg
 refine kv ?_
 obtain⟨hgL,hgood⟩:=hg
 by_cases hlt:g<s.length
 ·have hbr:=amx_ s g hlt
  first|with_reducible refine ks [] @jl_ ?_|refine kp @jl_ ?_
  refine Ow.nextText rfl rfl rfl (xj_ _ _ _) hlt ?_
  rw[Zb_]
  generalize hdd:Utf8.decode ⟨s.toArray⟩ g=dd at*
  obtain⟨c,n⟩:=dd
  simp only at hbr ⊢
  refine ko @jl_ ?_
  first|with_reducible refine ks [] @jl_ ?_|refine kp @jl_ ?_
  refine Ow.callFn1 (v:= .bool (badR c)) (k:=k) rfl rfl rfl hk (fun w' hw'=>hc _ w') ?_
  rw[hbr.1]
  refine ko @jl_ ?_
  cases hbb:Zh_ (s.getD g 0)
  ·first|with_reducible refine ks [] @jl_ ?_|refine kp @jl_ ?_
   refine Again.mk (g+1) (by omega) ⟨by omega,fun i hi=> ?_⟩ ?_ rfl
   ·by_cases hig:i=g
    ·rw[hig];exact hbb
    ·exact hgood i (by omega)
   ·rw[hbr.2 hbb]
  ·first|with_reducible refine ks [] @jl_ ?_|refine kp @jl_ ?_
   refine⟨_,(ke @jl_),⟨hw1,trivial⟩, ?_⟩
   refine⟨(g:Int),rfl,⟨fun _=> ?_,fun _=>by omega⟩⟩
   rw[List.any_eq_true]
   refine⟨s.getD g 0, ?_,hbb⟩
   rw[List.getD_eq_getElem?_getD,List.getElem?_eq_getElem hlt]
   exact List.getElem_mem hlt
 ·obtain rfl:g=s.length:=by omega
  first|with_reducible refine ks [] @jl_ ?_|refine kp @jl_ ?_
  refine Ow.nextOver rfl rfl rfl (xj_ _ _ _) hlt ?_
  refine ko @jl_ ?_
  first|with_reducible refine ks [] @jl_ ?_|refine kp @jl_ ?_
  refine⟨_,(ke @jl_),⟨hw1,trivial⟩, ?_⟩
  refine⟨-1,rfl,⟨fun h=>by omega,fun h=> ?_⟩⟩
  rw[List.any_eq_true] at h
  obtain⟨x,hx,hxb⟩:=h
  obtain⟨i,hi,rfl⟩:=List.getElem_of_mem hx
  have:=hgood i hi
  rw[List.getD_eq_getElem?_getD,List.getElem?_eq_getElem hi] at this
  exact absurd hxb (by simpa using this)
theorem KE_ (s:List UInt8) (k:FuncId) (hk: ∀a w,(callFunc k a).run Tryz.prog w= .ok (.enter k a) w) (hc: ∀c w,Rets Tryz.prog k #[K0_ c] w (fun v D=>v= .bool (badR c)∧D= [])) (w:World) (hs:s.length<1099511627776):
  Rets Tryz.prog 85 #[vs s, .func (.func k) #[] #[]] w (fun v D=> ∃n:Int,v=vi n∧(0≤n↔s.any Zh_=true)∧D= []):=by
 refine Rets.mono (S:=fun v D=>(∃n:Int,v=vi n∧(0≤n↔s.any Zh_=true))∧D= []) ?_ (by rintro v D ⟨⟨n,h1,h2⟩,h3⟩;exact⟨n,h1,h2,h3⟩)
 refine Rets.enterV Tryz.func85 rfl (rs:= [.tmp 4]) Tryz.results85 Tryz.ntmps85 ?_
 refine kf ?_
 first|with_reducible refine ks [] @jl_ ?_|refine kp @jl_ ?_
 refine Ow.callF rfl rfl Tryz.call110 (S:=fun _ v D=> ∃n:Int,v=vi n∧(0≤n↔s.any Zh_=true)∧D= []) (fun w' hw'=>KP_ s k hk hc w' hs) ?_
 rintro B v D - - ⟨n,rfl,hn,rfl⟩
 refine⟨_,Mrg.nil, ?_⟩
 refine ko @jl_ ?_
 first|with_reducible refine ks [] @jl_ ?_|refine kp @jl_ ?_
 refine⟨_,(ke @jl_),trivial, ?_⟩
 exact⟨n,rfl,hn⟩
theorem Qt_ (s:List UInt8) (k:FuncId) (hk: ∀a w,(callFunc k a).run Tryz.prog w= .ok (.enter k a) w) (hc: ∀c w,Rets Tryz.prog k #[K0_ c] w (fun v D=>v= .bool (badR c)∧D= [])) (w:World) (hs:s.length<1099511627776):
  Rets Tryz.prog 54 #[vs s, .func (.func k) #[] #[]] w (fun v D=>v= .bool (s.any Zh_)∧D= []):=by
 refine Rets.enterV Tryz.func54 rfl (rs:= [.tmp 4]) Tryz.results54 Tryz.ntmps54 ?_
 refine kf ?_
 first|with_reducible refine ks [] @jl_ ?_|refine kp @jl_ ?_
 refine Ow.callF rfl rfl Tryz.call85 (S:=fun _ v D=> ∃n:Int,v=vi n∧(0≤n↔s.any Zh_=true)∧D= []) (fun w' hw'=>KE_ s k hk hc w' hs) ?_
 rintro B v D - - ⟨n,rfl,hn,rfl⟩
 refine⟨_,Mrg.nil, ?_⟩
 refine ko @jl_ ?_
 first|with_reducible refine ks [] @jl_ ?_|refine kp @jl_ ?_
 refine⟨_,(ke @jl_),trivial, ?_⟩
 exact congrArg Value.bool (by rw[Bool.eq_iff_iff,decide_eq_true_eq];exact hn)
set_option linter.defProp false
def k2_:=And.intro (And.intro (@zn_) (@wy_)) (And.intro (@wv_) (And.intro (@wk_) (@zm_)))
def agB_ (s:List UInt8):Bool:= !(s== [])&&decide (s.length≤32)&& !(s.any Zh_)
theorem akk_ (c:UInt8):Zh_ c=(decide (c<33) ||decide (126<c) || (c==47)):=by
 unfold Zh_
 congr 1
 rw[Bool.eq_iff_iff,beq_iff_eq,beq_iff_eq,←UInt8.toNat_inj];rfl
theorem aaF_ (s:List UInt8) (w:World) (hs:s.length<1099511627776):
  Rets Tryz.prog 128 #[vs s] w (fun v D=>v= .bool (agB_ s)∧D= []):=by
 refine Rets.enterV Tryz.func128 rfl (rs:= [.tmp 2]) Tryz.results128 Tryz.ntmps128 ?_
 refine kf ?_
 first|with_reducible refine ks [] @k2_ ?_|refine kp @k2_ ?_
 refine Cw.loopG (G:=Nat) [4,5,6,7,10,11,12,13,14,15,16,17,18,19,20,21,22,23,24,25,2,8,9,3] (fun g=> [(3,vi g)]) (fun g=> []) (fun g=>g≤s.length∧ ∀i,i<g→Zh_ (s.getD i 0)=false) (fun g=>s.length - g) 0 rfl rfl ?_ ?_
 ·exact⟨by omega,fun i hi=>by omega⟩
 intro g j hg
 refine kv ?_
 obtain⟨hgL,hgood⟩:=hg
 by_cases hlt:g<s.length
 ·have hb:=akk_ (s.getD g 0)
  have hbad:Zh_ (s.getD g 0)=true→agB_ s=false:=by
   intro h
   have:s.any Zh_=true:=List.any_eq_true.2 ⟨s.getD g 0,by rw[List.getD_eq_getElem?_getD,List.getElem?_eq_getElem hlt];exact List.getElem_mem hlt,h⟩
   unfold agB_
   rw[this];simp
  have hgo:Zh_ (s.getD g 0)=false→ ∀i,i<g+1→Zh_ (s.getD i 0)=false:=fun h i hi=>by
   by_cases hig:i=g
   ·rw[hig];exact h
   ·exact hgood i (by omega)
  generalize hc:s.getD g 0=c at*
  cases h1:decide (c<33)
  ·cases h2:decide (126<c)
   ·cases h3: (c==47)
    ·first|with_reducible refine ks [] (And.intro @k2_ (And.intro @hc (And.intro @h1 (And.intro @h2 (@h3))))) ?_|refine kp (And.intro @k2_ (And.intro @hc (And.intro @h1 (And.intro @h2 (@h3))))) ?_
     refine Again.mk (g+1) (by omega) ⟨by omega,hgo (by rw[hb,h1,h2,h3];rfl)⟩ rfl rfl
    ·first|with_reducible refine ks [] (And.intro @k2_ (And.intro @hc (And.intro @h1 (And.intro @h2 (@h3))))) ?_|refine kp (And.intro @k2_ (And.intro @hc (And.intro @h1 (And.intro @h2 (@h3))))) ?_
     rw[hbad (by rw[hb,h1,h2,h3];rfl)]
     refine⟨_,(ke @k2_),trivial, ?_⟩
     rfl
   ·first|with_reducible refine ks [] (And.intro @k2_ (And.intro @hc (And.intro @h1 (@h2)))) ?_|refine kp (And.intro @k2_ (And.intro @hc (And.intro @h1 (@h2)))) ?_
    rw[hbad (by rw[hb,h1,h2];rfl)]
    refine⟨_,(ke @k2_),trivial, ?_⟩
    rfl
  ·first|with_reducible refine ks [] (And.intro @k2_ (And.intro @hc (@h1))) ?_|refine kp (And.intro @k2_ (And.intro @hc (@h1))) ?_
   rw[hbad (by rw[hb,h1];simp)]
   refine⟨_,(ke @k2_),trivial, ?_⟩
   rfl
 ·obtain rfl:g=s.length:=by omega
  have hany:s.any Zh_=false:=by
   rw[List.any_eq_false]
   intro x hx
   obtain⟨i,hi,rfl⟩:=List.getElem_of_mem hx
   have:=hgood i hi
   rw[List.getD_eq_getElem?_getD,List.getElem?_eq_getElem hi] at this
   simpa using this
  unfold agB_
  rw[hany]
  cases h1:decide (1≤ (s.length:Int))
  ·have e0: (s== [])=true:=by
    have:=of_decide_eq_false h1
    rw[List.eq_nil_of_length_eq_zero (show s.length=0 by omega)];rfl
   first|with_reducible refine ks [] (And.intro @k2_ @h1) ?_|refine kp (And.intro @k2_ @h1) ?_
   refine⟨_,(ke @k2_),trivial, ?_⟩
   simp only[kD_,e0,Bool.not_true,Bool.false_and]
  ·have e0: (s== [])=false:=by
    have:=of_decide_eq_true h1
    cases s with
    |nil=>simp at this
    |cons x r=>rfl
   have e1:decide ((s.length:Int)≤32)=decide (s.length≤32):=decide_eq_decide.2 (by omega)
   first|with_reducible refine ks [] (And.intro @k2_ @h1) ?_|refine kp (And.intro @k2_ @h1) ?_
   refine⟨_,(ke @k2_),trivial, ?_⟩
   simp only[kD_,e0,e1,Bool.not_false,Bool.true_and,Bool.and_true]
end Go.Proofs
end
section
open Go Go.Proofs Go.Sx Go.StP
namespace Go.Proofs
set_option maxRecDepth 10000
set_option maxHeartbeats 4000000
set_option linter.unusedSimpArgs false
def vy_ (l:List EntL) (i:Nat):Bool:=
 agB_ (l.getD i xA_).name&& ((l.getD i xA_).kind==1|| (l.getD i xA_).kind==2)&& (i==0||ltB (l.getD (i - 1) xA_).name (l.getD i xA_).name)
def vp_ (l:List EntL):Bool:=decide (l.length≤32)&& (List.range l.length).all (vy_ l)
theorem Ze_ {l:List EntL} {k:Nat} (hk:k<l.length) (h:vy_ l k=false):vp_ l=false:=by
 unfold vp_
 have: (List.range l.length).all (vy_ l)=false:=by
  rw[List.all_eq_false]
  exact⟨k,List.mem_range.2 hk,by simp[h]⟩
 rw[this,Bool.and_false]
theorem ahp_ {l:List EntL} (h: ∀i,i<l.length→vy_ l i=true):vp_ l=decide (l.length≤32):=by
 unfold vp_
 have: (List.range l.length).all (vy_ l)=true:=List.all_eq_true.2 fun i hi=>h i (List.mem_range.1 hi)
 rw[this,Bool.and_true]
set_option linter.defProp false
def ae4_ (l:List EntL):Prop:= ∀i,i<l.length→(l.getD i xA_).name.length<1099511627776
end Go.Proofs
end
section
open Go Go.Proofs Go.Sx Go.StP
namespace Go.Proofs
set_option maxRecDepth 10000
set_option maxHeartbeats 4000000
set_option linter.unusedSimpArgs false
set_option linter.defProp false
def kq_:=And.intro (And.intro (And.intro (@aav_) (@abW_)) (And.intro (@aaE_) (@V6_))) (And.intro (And.intro (@Qh_) (@ZQ_)) (And.intro (@zn_) (@zm_)))
theorem ai6_ (a b:List UInt8): (Op.bytesLess a b||a==b)= !ltB b a:=by rw[←apD_,Bool.not_not]
theorem KC_ (v:Value) (l:List EntL) (w:World) (hv:EntS w v l) (hl:l.length<1000000) (hsh:ae4_ l):
  Rets Tryz.prog 103 #[v] w (fun v' D=>v'= .bool (vp_ l)∧D= []):=by
 obtain⟨b,off,arr,E,fz,hr⟩:=hv.row
 have ln:=hv.len
 refine Rets.enterV Tryz.func103 rfl (rs:= [.tmp 2]) Tryz.results103 Tryz.ntmps103 ?_
 refine kf ?_
 by_cases h32:32<l.length
 ·first|with_reducible refine ks [] (And.intro @kq_ @ln) ?_|refine kp (And.intro @kq_ @ln) ?_
  have:vp_ l=false:=by unfold vp_;rw[decide_eq_false (by omega),Bool.false_and]
  rw[this]
  refine⟨_,(ke @kq_),trivial, ?_⟩
  rfl
 ·first|with_reducible refine ks [] (And.intro @kq_ @ln) ?_|refine kp (And.intro @kq_ @ln) ?_
  refine Cw.loopG (G:=Nat) [7,8,9,10,13,14,15,16,17,18,19,20,21,22,23,24,25,26,27,28,29,30,31,32,33,34,35,2,36,37,38,39,40,41,42,43,44,45,46,47,48,49,50,51,11,12,3] (fun g=> [(3,vi g)]) (fun g=> []) (fun g=>g≤l.length∧ ∀i,i<g→vy_ l i=true) (fun g=>l.length - g) 0 rfl rfl ?_ ?_
  ·exact⟨Nat.zero_le _,fun i hi=>absurd hi (Nat.not_lt_zero i)⟩
  ·intro k jk hk
   refine kv ?_
   obtain⟨h1,h2⟩:=hk
   by_cases hk:k<l.length
   ·have h0:0<l.length:=by omega
    have hbl:=hr.lt h0
    have r2:=hr.has h0
    have i2:=hr.idx true k hk
    have m0: ∀n,zk_ (some (false,n)) (some (.cells arr E fz)) (off+k*34)=some (vs (l.getD k xA_).name):=fun n=>V2_ hr hk n
    have m1: ∀n,zk_ (some (false,n)) (some (.cells arr E fz)) (off+k*34+1)=some (vi (l.getD k xA_).kind):=fun n=>afS_ hr hk n
    have hs:=hsh k hk
    first|with_reducible refine ks [] (And.intro @kq_ (And.intro @ln (And.intro @r2 (And.intro @i2 (And.intro @m0 (@m1)))))) ?_|refine kp (And.intro @kq_ (And.intro @ln (And.intro @r2 (And.intro @i2 (And.intro @m0 (@m1)))))) ?_
    refine Ow.callFV rfl Tryz.call128 (fun w' hw'=>aaF_ (l.getD k xA_).name w' hs) ?_
    cases hn:agB_ (l.getD k xA_).name
    ·have e0:vy_ l k=false:=by unfold vy_;rw[hn];rfl
     rw[Ze_ hk e0]
     refine ko @kq_ ?_
     refine⟨_,(ke @kq_),trivial, ?_⟩
     rfl
    ·cases hk1:decide ((l.getD k xA_).kind<1)
     ·cases hk2:decide (2< (l.getD k xA_).kind)
      ·have hkk: ((l.getD k xA_).kind==1|| (l.getD k xA_).kind==2)=true:=by
        have q1:=of_decide_eq_false hk1
        have q2:=of_decide_eq_false hk2
        rcases(show(l.getD k xA_).kind=1∨(l.getD k xA_).kind=2 by omega) with h|h<;>rw[h]<;>rfl
       refine ko (And.intro @kq_ (And.intro @r2 (And.intro @i2 (And.intro @m0 (And.intro @m1 (And.intro @hk1 (@hk2))))))) ?_
       by_cases h0k:k=0
       ·have d1:decide ((0:Int)< (k:Int))=false:=decide_eq_false (by omega)
        have e1:vy_ l k=true:=by unfold vy_;rw[hn,hkk,h0k];rfl
        refine Cw.regionS [b] [0,1,2,3,4,5,6,8,9,10,11,12,7,13,14,15] [] (by kernel_rfl) (by kernel_rfl) (by kernel_rfl) ?_
        simp only[zj_, ↓zf_, ↓zc_, ↓zw_, ↓zv_,zd_]
        refine kq (And.intro @kq_ @d1) ?_
        exact Again.mk (k+1) (by omega) ⟨by omega,fun i hi=>by
         rcases Nat.lt_succ_iff_lt_or_eq.1 hi with h|rfl
         ·exact h2 i h
         ·exact e1⟩ rfl rfl
       ·have d1:decide ((0:Int)< (k:Int))=true:=decide_eq_true (by omega)
        have i3:zN_ (.sl (true,34)) v (some ((k:Int) - 1))=some (vp b (off+ (k - 1)*34)):=by
         rw[show(k:Int) - 1=((k - 1:Nat):Int) by omega];exact hr.idx true (k - 1) (by omega)
        have l3: ∀n,zk_ (some (false,n)) (some (.cells arr E fz)) (off+ (k - 1)*34)=some (vs (l.getD (k - 1) xA_).name):=fun n=>V2_ hr (show k - 1<l.length by omega) n
        have ek: (k==0)=false:=beq_eq_false_iff_ne.2 h0k
        cases hl3:ltB (l.getD (k - 1) xA_).name (l.getD k xA_).name
        ·have e1:vy_ l k=false:=by unfold vy_;rw[hn,hkk,ek];exact hl3
         rw[Ze_ hk e1]
         refine Cw.regionS [b] [0,1,2,3,4,5,6,8,9,10,11,12,7,13,14,15] [] (by kernel_rfl) (by kernel_rfl) (by kernel_rfl) ?_
         simp only[zj_, ↓zf_, ↓zc_, ↓zw_, ↓zv_,zd_]
         refine kq (And.intro @kq_ (And.intro @d1 (And.intro @i2 (And.intro @i3 (And.intro @r2 (And.intro @m0 (And.intro @l3 (And.intro @ai6_ (@hl3))))))))) ?_
         refine⟨_,(ke @kq_),trivial, ?_⟩
         rfl
        ·have e1:vy_ l k=true:=by unfold vy_;rw[hn,hkk,ek];exact hl3
         refine Cw.regionS [b] [0,1,2,3,4,5,6,8,9,10,11,12,7,13,14,15] [] (by kernel_rfl) (by kernel_rfl) (by kernel_rfl) ?_
         simp only[zj_, ↓zf_, ↓zc_, ↓zw_, ↓zv_,zd_]
         refine kq (And.intro @kq_ (And.intro @d1 (And.intro @i2 (And.intro @i3 (And.intro @r2 (And.intro @m0 (And.intro @l3 (And.intro @ai6_ (@hl3))))))))) ?_
         exact Again.mk (k+1) (by omega) ⟨by omega,fun i hi=>by
          rcases Nat.lt_succ_iff_lt_or_eq.1 hi with h|rfl
          ·exact h2 i h
          ·exact e1⟩ rfl rfl
      ·have e0:vy_ l k=false:=by
        have q2:=of_decide_eq_true hk2
        unfold vy_
        rw[hn,show((l.getD k xA_).kind==1)=false from beq_eq_false_iff_ne.2 (by omega),show((l.getD k xA_).kind==2)=false from beq_eq_false_iff_ne.2 (by omega)];rfl
       rw[Ze_ hk e0]
       refine ko (And.intro @kq_ (And.intro @r2 (And.intro @i2 (And.intro @m0 (And.intro @m1 (And.intro @hk1 (@hk2))))))) ?_
       refine⟨_,(ke @kq_),trivial, ?_⟩
       rfl
     ·have e0:vy_ l k=false:=by
       have q2:=of_decide_eq_true hk1
       unfold vy_
       rw[hn,show((l.getD k xA_).kind==1)=false from beq_eq_false_iff_ne.2 (by omega),show((l.getD k xA_).kind==2)=false from beq_eq_false_iff_ne.2 (by omega)];rfl
      rw[Ze_ hk e0]
      refine ko (And.intro @kq_ (And.intro @r2 (And.intro @i2 (And.intro @m0 (And.intro @m1 (@hk1)))))) ?_
      refine⟨_,(ke @kq_),trivial, ?_⟩
      rfl
   ·obtain rfl:k=l.length:=by omega
    rw[ahp_ h2,show decide (l.length≤32)=true from decide_eq_true (by omega)]
    first|with_reducible refine ks [] (And.intro @kq_ @ln) ?_|refine kp (And.intro @kq_ @ln) ?_
    refine⟨_,(ke @kq_),trivial, ?_⟩
    rfl
end Go.Proofs
end
section
open Go Go.Proofs Go.Sx Go.StP
namespace Go.Proofs
set_option maxRecDepth 10000
set_option maxHeartbeats 4000000
set_option linter.unusedSimpArgs false
theorem wd_ (x:IdL): (WQ_ x).length=32:=by simp[WQ_,x.h]
theorem W4_ (x:IdL): (WQ_ x).all Value.oneCell'=true:=w9_ _
abbrev IdS (w:World) (v:Value) (l:List IdL):Prop:=SlV 32 WQ_ id0 w v l
theorem aka_ {w:World} {v:Value} {l:List IdL} {b off:Nat} {arr:Array Value} {E:TypeId} {fz:Nat×Nat} (h:RowS 32 WQ_ id0 w v l b off arr E fz) {k:Nat} (hk:k<l.length):
  zk_ (some (true,32)) (some (.cells arr E fz)) (off+k*32)=some (.agg (a8 (l.getD k id0).l)):=RowS.load h wd_ (by omega) hk
theorem apK_ (a b:IdL):q7_ Tryz.prog .eql 118 (.agg (a8 a.l)) (.agg (a8 b.l))=some (.bool (a.l==b.l)):=
 aoz_ Tryz.underlying118 Tryz.underlying5 Tryz.ag5 (by kernel_rfl) a.l b.l ⟨a.h,b.h⟩
theorem aqn_ (a b:IdL):q7_ Tryz.prog .neq 118 (.agg (a8 a.l)) (.agg (a8 b.l))=some (.bool (!(a.l==b.l))):=
 aln_ Tryz.underlying118 Tryz.underlying5 Tryz.ag5 (by kernel_rfl) a.l b.l ⟨a.h,b.h⟩
instance:DecidableEq IdL:=fun a b=>if h:a.l=b.l then .isTrue (by cases a;cases b;simp only at h;subst h;rfl) else .isFalse (fun e=>h (by rw[e]))
theorem IdL.ext' {a b:IdL} (h:a.l=b.l):a=b:=by cases a;cases b;simp only at h;subst h;rfl
theorem V0_ (x:IdL) (E:TypeId) (fz:Nat×Nat):zk_ (some (true,32)) (some (.cells (a8 x.l) E fz)) 0=some (.agg (a8 x.l)):=ab9_ _ E fz 32 x.h
set_option linter.defProp false
end Go.Proofs
end
section
open Go Go.Proofs Go.Sx Go.StP
namespace Go.Proofs
set_option maxRecDepth 100000
set_option maxHeartbeats 400000
set_option linter.unusedSimpArgs false
structure RwL where
 id:IdL
 place:Int
 spot:Int
set_option linter.defProp false
end Go.Proofs
end
section
open Go Go.Proofs Go.Sx Go.StP
namespace Go.Proofs
set_option maxRecDepth 10000
set_option maxHeartbeats 4000000
set_option linter.unusedSimpArgs false
set_option linter.defProp false
end Go.Proofs
end
section
open Go Go.Proofs Go.Sx Go.StP
namespace Go.Proofs
set_option maxRecDepth 10000
set_option maxHeartbeats 4000000
set_option linter.unusedSimpArgs false
abbrev aeH_ (l:List RwL):Prop:=StP.Sorted (fun r:RwL=>r.id.l) l
abbrev aoV_ (l l':List RwL):Prop:=StP.St (fun r:RwL=>r.id.l) l l'
set_option linter.defProp false
end Go.Proofs
end
section
open Go Go.Proofs Go.Sx Go.StP
namespace Go.Proofs
set_option maxRecDepth 10000
set_option maxHeartbeats 4000000
set_option linter.unusedSimpArgs false
set_option linter.defProp false
end Go.Proofs
end
section
open Go Go.Proofs Go.Sx Go.StP
namespace Go.Proofs
set_option maxRecDepth 10000
set_option maxHeartbeats 4000000
set_option linter.unusedSimpArgs false
set_option linter.defProp false
end Go.Proofs
end
section
open Go Go.Proofs Go.Sx Go.StP
namespace Go.Proofs
set_option maxRecDepth 10000
set_option maxHeartbeats 4000000
set_option linter.unusedSimpArgs false
end Go.Proofs
end
section
open Go Go.Proofs Go.Sx Go.StP
namespace Go.Proofs
set_option maxRecDepth 10000
set_option maxHeartbeats 4000000
set_option linter.unusedSimpArgs false
def rws_SortOf (l Z:List RwL):Prop:=Z.length=l.length∧aeH_ Z∧aoV_ l Z
theorem rws_SortOf.eq {l Z Z':List RwL} (h:rws_SortOf l Z) (h':rws_SortOf l Z'):Z=Z':=StP.St.eq h.2.1 h'.2.1 (h.2.2.symm.trans h'.2.2)
end Go.Proofs
end
section
open Go Go.Proofs Go.Sx Go.StP
namespace Go.Proofs
set_option maxRecDepth 10000
set_option maxHeartbeats 1000000
set_option linter.unusedSimpArgs false
set_option linter.defProp false
end Go.Proofs
end
section
open Go Go.Proofs Go.Sx Go.StP
namespace Go.Proofs
set_option maxRecDepth 10000
set_option maxHeartbeats 1000000
set_option linter.unusedSimpArgs false
set_option linter.defProp false
end Go.Proofs
end
section
open Go Go.Proofs Go.Sx Go.StP
namespace Go.Proofs
set_option maxRecDepth 10000
set_option maxHeartbeats 4000000
set_option linter.unusedSimpArgs false
structure ComL where
 tree:IdL
 par:List IdL
 text:List UInt8
def jq_ (t:IdL) (p:Value) (x:List UInt8):List Value:=t.l.map v8++ ([p]++ [vs x])
theorem ZC_ (t:IdL) (p:Value) (x:List UInt8): (jq_ t p x).length=34:=by simp[jq_,t.h]
theorem ang_ (t:IdL) (p:Value) (x:List UInt8) (hp:Value.oneCell' p=true): (jq_ t p x).all Value.oneCell'=true:=by
 unfold jq_
 simp only[List.all_append,List.all_cons,List.all_nil,w9_,hp,Bool.and_true,Bool.true_and]
 rfl
theorem ZG_ (t:IdL) (p:Value) (x:List UInt8):Value.cells (.agg (jq_ t p x).toArray)=(jq_ t p x).toArray:=zh_ _
theorem Xu_ (t:IdL) (p:Value) (x:List UInt8) (E:TypeId) (fz:Nat×Nat):zk_ (some (true,32)) (some (.cells (jq_ t p x).toArray E fz)) 0=some (.agg (a8 t.l)):=by
 unfold jq_;exact Jp_ [] _ _ E fz rfl (by simp[t.h])
theorem XA_ (t:IdL) (p:Value) (x:List UInt8) (n:Nat) (E:TypeId) (fz:Nat×Nat):zk_ (some (false,n)) (some (.cells (jq_ t p x).toArray E fz)) 32=some p:=by
 unfold jq_;exact qw_ _ _ p n E fz (by simp[t.h])
theorem XS_ (t:IdL) (p:Value) (x:List UInt8) (n:Nat) (E:TypeId) (fz:Nat×Nat):zk_ (some (false,n)) (some (.cells (jq_ t p x).toArray E fz)) 33=some (vs x):=by
 have e:jq_ t p x=(t.l.map v8++ [p])++ ([vs x]++ []):=by unfold jq_;simp only[List.append_assoc,List.append_nil]
 rw[e];exact qw_ _ _ (vs x) n E fz (by simp[t.h])
theorem VE_ (t:IdL) (p:Value) (x:List UInt8) (E:TypeId) (fz:Nat×Nat):zk_ (some (true,34)) (some (.cells (jq_ t p x).toArray E fz)) 0=some (.agg (jq_ t p x).toArray):=xa_ _ E fz 34 (by rw[List.size_toArray,ZC_])
theorem XR_ (old:Array Value) (t:IdL) (p:Value) (x:List UInt8) (a:Bool) (E:TypeId) (h:old.size=34) (hp:Value.oneCell' p=true):zu_ (some (a,34)) (some (.cells old E (0,0))) 0 (.agg (jq_ t p x).toArray)=some (.cells (jq_ t p x).toArray E (0,0)):=jJ_ _ a old E (ZC_ t p x) (ang_ t p x hp) h
def Kf_ (l:List IdL) (i:Nat):Bool:= !((l.take i).any fun y=>(l.getD i id0).l==y.l)
def ZS_ (c:ComL):Bool:=(decide (c.par.length≤4)&&decide (c.text.length≤64))&& (List.range c.par.length).all (Kf_ c.par)
theorem amI_ {c:ComL} {k:Nat} (hk:k<c.par.length) (h:Kf_ c.par k=false):ZS_ c=false:=by
 unfold ZS_
 have: (List.range c.par.length).all (Kf_ c.par)=false:=by
  rw[List.all_eq_false]
  exact⟨k,List.mem_range.2 hk,by simp[h]⟩
 rw[this,Bool.and_false]
theorem akO_ {c:ComL} (h: ∀i,i<c.par.length→Kf_ c.par i=true):ZS_ c=(decide (c.par.length≤4)&&decide (c.text.length≤64)):=by
 unfold ZS_
 have: (List.range c.par.length).all (Kf_ c.par)=true:=List.all_eq_true.2 fun i hi=>h i (List.mem_range.1 hi)
 rw[this,Bool.and_true]
abbrev ComS (w:World) (v:Value) (c:ComL):Prop:= ∃p,v= .agg (jq_ c.tree p c.text).toArray∧IdS w p c.par
theorem SlV.one {α:Type} {m:Nat} {enc:α→List Value} {z:α} {w:World} {v:Value} {l:List α} (h:SlV m enc z w v l):Value.oneCell' v=true∧v.cells= #[v]:=by
 obtain⟨b,off,c,arr,E,fz,-,-,⟨rfl,-,-⟩ | ⟨rfl,-,-⟩⟩:=h<;>exact⟨rfl,rfl⟩
set_option linter.defProp false
end Go.Proofs
end
section
open Go Go.Proofs Go.Sx Go.StP
namespace Go.Proofs
set_option maxRecDepth 10000
set_option maxHeartbeats 4000000
set_option linter.unusedSimpArgs false
set_option linter.defProp false
def xh_:=And.intro (And.intro (And.intro (@apK_) (@aqn_)) (And.intro (@V0_) (And.intro (@zn_) (@zm_)))) (And.intro (And.intro (@Xu_) (@XA_)) (And.intro (@XS_) (And.intro (@VE_) (@ZG_))))
theorem amL_ {l:List IdL} {k:Nat} {x:IdL} (hk:k<l.length) (h: ((l.take k).any fun y=>x.l==y.l)=false) (h2: (x.l==(l.getD k id0).l)=false): ((l.take (k+1)).any fun y=>x.l==y.l)=false:=by
 rw[take_snoc (z:=id0) hk,List.any_append,h,Bool.false_or,List.any_cons,h2];rfl
theorem apd_ {l:List IdL} {k i:Nat} {x:IdL} (hk:k<l.length) (hi:k<i) (h2: (x.l==(l.getD k id0).l)=true): ((l.take i).any fun y=>x.l==y.l)=true:=by
 rw[List.any_eq_true]
 refine⟨l.getD k id0, ?_,h2⟩
 rw[←ajq_ (l:=l) (z:=id0) hi]
 exact xd_ (by rw[List.length_take];omega)
theorem Q0_ (v:Value) (c:ComL) (w:World) (hv:ComS w v c) (hl:c.par.length<1000000) (ht:c.text.length<1099511627776):
  Rets Tryz.prog 105 #[v] w (fun v' D=>v'= .bool (ZS_ c)∧D= []):=by
 obtain⟨p,rfl,hp⟩:=hv
 obtain⟨b,off,arr,E,fz,hr⟩:=hp.row
 have ln:=hp.len
 refine Rets.enterV Tryz.func105 rfl (rs:= [.tmp 2]) Tryz.results105 Tryz.ntmps105 ?_
 refine kf ?_
 first|with_reducible refine ks [] @xh_ ?_|refine kp @xh_ ?_
 refine Ow.box rfl rfl fun bx hbx hwx=> ?_
 simp only[qm_,ql_,qu_,zh_,List.nil_append,List.cons_append]
 refine Ow.go rfl ?_
 simp(disch:=(first|assumption|omega| (simp only[w5_,wR_,UInt64.reduceToNat];try omega))) only[↓Sx.S0,Sx.S1,Tryz.fx,xh_,Nat.reduceAdd,Nat.reducePow,Int.reducePow,Nat.reduceBEq, ↓reduceIte,UInt8.reduceToNat,UInt16.reduceToNat,UInt32.reduceToNat,UInt64.reduceToNat,Int.reduceToNat]
 by_cases h4:4<c.par.length
 ·have d1:decide (4< ((c.par.length:Nat):Int))=true:=decide_eq_true (by omega)
  first|with_reducible refine ks [] (And.intro @xh_ (And.intro @ln (@d1))) ?_|refine kp (And.intro @xh_ (And.intro @ln (@d1))) ?_
  have:ZS_ c=false:=by unfold ZS_;rw[show decide (c.par.length≤4)=false from decide_eq_false (by omega)];rfl
  rw[this]
  refine⟨_,(ke @xh_),⟨hwx,trivial⟩, ?_⟩
  rfl
 have d1:decide (4< ((c.par.length:Nat):Int))=false:=decide_eq_false (by omega)
 by_cases h64:64<c.text.length
 ·have d2:decide (64< ((c.text.length:Nat):Int))=true:=decide_eq_true (by omega)
  first|with_reducible refine ks [] (And.intro @xh_ (And.intro @ln (And.intro @d1 (@d2)))) ?_|refine kp (And.intro @xh_ (And.intro @ln (And.intro @d1 (@d2)))) ?_
  have:ZS_ c=false:=by unfold ZS_;rw[show decide (c.text.length≤64)=false from decide_eq_false (by omega),Bool.and_false];rfl
  rw[this]
  refine⟨_,(ke @xh_),⟨hwx,trivial⟩, ?_⟩
  rfl
 have d2:decide (64< ((c.text.length:Nat):Int))=false:=decide_eq_false (by omega)
 first|with_reducible refine ks [] (And.intro @xh_ (And.intro @ln (And.intro @d1 (@d2)))) ?_|refine kp (And.intro @xh_ (And.intro @ln (And.intro @d1 (@d2)))) ?_
 refine Cw.loopG (G:=Nat) [15,16,17,18,19,4,22,23,24,27,28,29,30,31,32,33,34,35,36,37,2,25,26,20,21,3] (fun g=> [(3,vi g)]) (fun g=> [(bx, .cells (jq_ c.tree p c.text).toArray 146 (0,0))]) (fun g=>g≤c.par.length∧ ∀i,i<g→Kf_ c.par i=true) (fun g=>c.par.length - g) 0 rfl rfl ?_ ?_
 ·exact⟨Nat.zero_le _,fun i hi=>absurd hi (Nat.not_lt_zero i)⟩
 ·intro i ji hi
  refine kv ?_
  obtain⟨h1,h2⟩:=hi
  by_cases hi:i<c.par.length
  ·have h0:0<c.par.length:=by omega
   have hbl:=hr.lt h0
   have hnb:bx≠b:=by omega
   have r2:=hr.has h0
   have i2:=hr.idx true i hi
   have l2:=aka_ hr hi
   first|with_reducible refine ks [] (And.intro @xh_ @ln) ?_|refine kp (And.intro @xh_ @ln) ?_
   refine Cw.loopG (G:=Nat) [22,23,24,27,28,29,30,31,32,33,34,35,36,37,2,25,26,4] (fun g=> [(4,vi g)]) (fun g=> [(bx, .cells (jq_ c.tree p c.text).toArray 146 (0,0))]) (fun g=>g≤i∧((c.par.take g).any fun y=>(c.par.getD i id0).l==y.l)=false) (fun g=>i - g) 0 rfl rfl ?_ ?_
   ·exact⟨Nat.zero_le _,rfl⟩
   ·intro k jk hk
    refine kv ?_
    obtain⟨g1,g2⟩:=hk
    by_cases hk:k<i
    ·have i3:=hr.idx true k (show k<c.par.length by omega)
     have l3:=aka_ hr (show k<c.par.length by omega)
     first|with_reducible refine ks [] @xh_ ?_|refine kp @xh_ ?_
     refine Cw.regionS [bx,b] [0,2,5,7,1,3,4,6,8,9,10] [] (by kernel_rfl) (by kernel_rfl) (by kernel_rfl) ?_
     simp only[zj_, ↓zf_, ↓zc_, ↓zw_, ↓zv_,zd_]
     refine kq (And.intro @xh_ (And.intro @i2 (And.intro @r2 (And.intro @l2 (And.intro @i3 (@l3)))))) ?_
     cases hq: ((c.par.getD i id0).l==(c.par.getD k id0).l)
     ·first|with_reducible refine ks [] (And.intro @xh_ @hq) ?_|refine kp (And.intro @xh_ @hq) ?_
      exact Again.mk (k+1) (by omega) ⟨by omega,amL_ (by omega) g2 hq⟩ rfl rfl
     ·have e1:Kf_ c.par i=false:=by unfold Kf_;rw[apd_ (by omega) hk hq];rfl
      rw[amI_ hi e1]
      first|with_reducible refine ks [] (And.intro @xh_ @hq) ?_|refine kp (And.intro @xh_ @hq) ?_
      refine⟨_,(ke @xh_),⟨hwx,trivial⟩, ?_⟩
      rfl
    ·obtain rfl:k=i:=by omega
     have e1:Kf_ c.par k=true:=by unfold Kf_;rw[g2];rfl
     first|with_reducible refine ks [] @xh_ ?_|refine kp @xh_ ?_
     exact Again.mk (k+1) (by omega) ⟨by omega,fun i hi=>by
      rcases Nat.lt_succ_iff_lt_or_eq.1 hi with h|rfl
      ·exact h2 i h
      ·exact e1⟩ rfl rfl
  ·obtain rfl:i=c.par.length:=by omega
   rw[akO_ h2,show decide (c.par.length≤4)=true from decide_eq_true (by omega),show decide (c.text.length≤64)=true from decide_eq_true (by omega)]
   first|with_reducible refine ks [] (And.intro @xh_ @ln) ?_|refine kp (And.intro @xh_ @ln) ?_
   refine⟨_,(ke @xh_),⟨hwx,trivial⟩, ?_⟩
   rfl
end Go.Proofs
end
section
open Go Go.Proofs Go.Sx
namespace Go.Proofs
set_option maxRecDepth 10000
set_option maxHeartbeats 4000000
set_option linter.unusedSimpArgs false
theorem kS_ {n:Nat} (h:n<1099511627776):jS_ (n:Int)=n:=by unfold jS_ maxN;omega
theorem vV_: ∀ (k:Nat) (n:Int) (w:World),jS_ n≤k→
  Rets Tryz.prog 129 #[vi n] w (fun v D=>v=vs (numL (jS_ n))∧D= []):=by
 intro k
 induction k using Nat.strongRecOn with
 |ind k ih=>
  intro n w hk
  refine Rets.enterV Tryz.func129 rfl (rs:= [.tmp 2]) Tryz.results129 Tryz.ntmps129 ?_
  refine kf ?_
  by_cases h0:n<0
  ·have d1:decide (n<0)=true:=decide_eq_true h0
   have e:jS_ n=0:=by unfold jS_ maxN;omega
   rw[e]
   first|with_reducible refine ks [] @d1 ?_|refine kp @d1 ?_
   refine Ow.buildSlice (e:=5) #[v8 0] rfl rfl (by kernel_rfl) fun b1 hb1 hw1=> ?_
   rw[show(#[v8 0]:Array Value)=a8 [0] from rfl]
   refine ko @Nat.add_zero ?_
   first|with_reducible refine ks [] @Nat.add_zero ?_|refine kp @Nat.add_zero ?_
   refine⟨_,(ke @Nat.add_zero),⟨hw1,trivial⟩, ?_⟩
   rw[kA_ (by omega)];rfl
  ·have d1:decide (n<0)=false:=decide_eq_false h0
   generalize hm:jS_ n=m at hk ⊢
   have hm2:m≤1099511627775:=by unfold jS_ maxN at hm;omega
   by_cases h1:n>1099511627775
   ·have d2:decide (1099511627775<n)=true:=decide_eq_true h1
    have e: (1099511627775:Int)=(m:Int):=by unfold jS_ maxN at hm;omega
    first|with_reducible refine ks [5] (And.intro @d1 @d2) ?_|refine kp (And.intro @d1 @d2) ?_
    rw[e]
    by_cases h2:m<128
    ·have d3:decide ((m:Int)<128)=true:=decide_eq_true (by omega)
     rw[kA_ h2]
     first|with_reducible refine ks [] (And.intro @d1 @d3) ?_|refine kp (And.intro @d1 @d3) ?_
     generalize hc:UInt8.ofInt (m:Int)=c
     have hc':c=UInt8.ofNat m:=by rw[←hc,Je_]
     refine Ow.buildSlice (e:=5) #[v8 c] rfl rfl (by kernel_rfl) fun b1 hb1 hw1=> ?_
     rw[show(#[v8 c]:Array Value)=a8 [c] from rfl]
     have e4:List.take 1 (List.drop 0 [c])= [c]:=rfl
     refine ko @e4 ?_
     first|with_reducible refine ks [] @Nat.add_zero ?_|refine kp @Nat.add_zero ?_
     refine⟨_,(ke @Nat.add_zero),⟨hw1,trivial⟩, ?_⟩
     rw[hc'];rfl
    ·have d3:decide ((m:Int)<128)=false:=decide_eq_false (by omega)
     have ih2:=fun w=>ih (m / 128) (by omega) ((m / 128:Nat):Int) w (by rw[kS_ (by omega)];omega)
     rw[kS_ (by omega)] at ih2
     have hl2:=va_ 6 (m / 128) (by omega) (by omega)
     rw[Jb_ h2]
     first|with_reducible refine ks [] (And.intro @d1 @d3) ?_|refine kp (And.intro @d1 @d3) ?_
     refine Cw.regionK 11 (by kernel_rfl) (by kernel_rfl) ?_
     refine OwK.run [0,1,2,3,6,7] [true,true,true,true,false,false,true,true,false,false,false] 5 rfl (by kernel_rfl) (by kernel_rfl) fun k hk=> ?_
     simp only[zj_, ↓zf_, ↓zc_, ↓zw_, ↓zv_,zd_]
     simp(disch:=(first|assumption|omega| (simp only[w5_,wR_,UInt64.reduceToNat];try omega))) only[↓Sx.S0,Sx.S1,Tryz.fx,Nat.reduceAdd,Nat.reducePow,Int.reducePow,Nat.reduceBEq, ↓reduceIte,UInt8.reduceToNat,UInt16.reduceToNat,UInt32.reduceToNat,UInt64.reduceToNat,Int.reduceToNat]
     (with_reducible refine hk _ _ _ ?_);clear hk k
     generalize hc:UInt8.ofInt ((m:Int)%128+128)=c
     have hc':c=UInt8.ofNat (m%128+128):=by rw[←hc,show((m:Int)%128+128)=((m%128+128:Nat):Int) from rfl,Je_]
     rw[show(m:Int) / 128=((m / 128:Nat):Int) from rfl]
     refine OwK.two 4 8 _ _ (by kernel_rfl) rfl rfl ?_ ?_
     ·refine Ow.buildSlice (e:=5) #[v8 c] rfl rfl (by kernel_rfl) fun b1 hb1 hw1=> ?_
      rw[show(#[v8 c]:Array Value)=a8 [c] from rfl]
      have e4:List.take 1 (List.drop 0 [c])= [c]:=rfl
      refine ko @e4 ?_
      try with_reducible refine Ow.nil ?_
      refine OwK.two 5 8 _ _ (by kernel_rfl) rfl rfl ?_ ?_
      ·refine ko @e4 ?_
       refine OwK.rest [8,9,10] [4,8] rfl (by kernel_rfl) (by kernel_rfl) ?_
       simp only[zj_, ↓zf_, ↓zc_, ↓zw_, ↓zv_,zd_]
       refine Ow.callFV rfl Tryz.call129 (fun w' hw'=>ih2 w') ?_
       refine ko @Nat.add_zero ?_
       first|with_reducible refine ks [] @Nat.add_zero ?_|refine kp @Nat.add_zero ?_
       refine⟨_,(ke @Nat.add_zero),⟨hw1,trivial⟩, ?_⟩
       rw[hc'];rfl
      ·refine Ow.callFV rfl Tryz.call129 (fun w' hw'=>ih2 w') ?_
       refine ko @Nat.add_zero ?_
       refine OwK.rest [5,9,10] [4,8] rfl (by kernel_rfl) (by kernel_rfl) ?_
       simp only[zj_, ↓zf_, ↓zc_, ↓zw_, ↓zv_,zd_]
       refine ko @e4 ?_
       first|with_reducible refine ks [] @Nat.add_zero ?_|refine kp @Nat.add_zero ?_
       refine⟨_,(ke @Nat.add_zero),⟨hw1,trivial⟩, ?_⟩
       rw[hc'];rfl
     ·refine Ow.callFV rfl Tryz.call129 (fun w' hw'=>ih2 w') ?_
      refine ko @Nat.add_zero ?_
      refine OwK.rest [4,5,9,10] [4,8] rfl (by kernel_rfl) (by kernel_rfl) ?_
      simp only[zj_, ↓zf_, ↓zc_, ↓zw_, ↓zv_,zd_]
      refine Ow.buildSlice (e:=5) #[v8 c] rfl rfl (by kernel_rfl) fun b1 hb1 hw1=> ?_
      rw[show(#[v8 c]:Array Value)=a8 [c] from rfl]
      have e4:List.take 1 (List.drop 0 [c])= [c]:=rfl
      refine ko @e4 ?_
      first|with_reducible refine ks [] @Nat.add_zero ?_|refine kp @Nat.add_zero ?_
      refine⟨_,(ke @Nat.add_zero),⟨hw1,trivial⟩, ?_⟩
      rw[hc'];rfl
   ·have d2:decide (1099511627775<n)=false:=decide_eq_false h1
    have e:n=(m:Int):=by unfold jS_ maxN at hm;omega
    subst e
    first|with_reducible refine ks [5] (And.intro @d1 @d2) ?_|refine kp (And.intro @d1 @d2) ?_
    by_cases h2:m<128
    ·have d3:decide ((m:Int)<128)=true:=decide_eq_true (by omega)
     rw[kA_ h2]
     first|with_reducible refine ks [] (And.intro @d1 @d3) ?_|refine kp (And.intro @d1 @d3) ?_
     generalize hc:UInt8.ofInt (m:Int)=c
     have hc':c=UInt8.ofNat m:=by rw[←hc,Je_]
     refine Ow.buildSlice (e:=5) #[v8 c] rfl rfl (by kernel_rfl) fun b1 hb1 hw1=> ?_
     rw[show(#[v8 c]:Array Value)=a8 [c] from rfl]
     have e4:List.take 1 (List.drop 0 [c])= [c]:=rfl
     refine ko @e4 ?_
     first|with_reducible refine ks [] @Nat.add_zero ?_|refine kp @Nat.add_zero ?_
     refine⟨_,(ke @Nat.add_zero),⟨hw1,trivial⟩, ?_⟩
     rw[hc'];rfl
    ·have d3:decide ((m:Int)<128)=false:=decide_eq_false (by omega)
     have ih2:=fun w=>ih (m / 128) (by omega) ((m / 128:Nat):Int) w (by rw[kS_ (by omega)];omega)
     rw[kS_ (by omega)] at ih2
     have hl2:=va_ 6 (m / 128) (by omega) (by omega)
     rw[Jb_ h2]
     first|with_reducible refine ks [] (And.intro @d1 @d3) ?_|refine kp (And.intro @d1 @d3) ?_
     refine Cw.regionK 11 (by kernel_rfl) (by kernel_rfl) ?_
     refine OwK.run [0,1,2,3,6,7] [true,true,true,true,false,false,true,true,false,false,false] 5 rfl (by kernel_rfl) (by kernel_rfl) fun k hk=> ?_
     simp only[zj_, ↓zf_, ↓zc_, ↓zw_, ↓zv_,zd_]
     simp(disch:=(first|assumption|omega| (simp only[w5_,wR_,UInt64.reduceToNat];try omega))) only[↓Sx.S0,Sx.S1,Tryz.fx,Nat.reduceAdd,Nat.reducePow,Int.reducePow,Nat.reduceBEq, ↓reduceIte,UInt8.reduceToNat,UInt16.reduceToNat,UInt32.reduceToNat,UInt64.reduceToNat,Int.reduceToNat]
     (with_reducible refine hk _ _ _ ?_);clear hk k
     generalize hc:UInt8.ofInt ((m:Int)%128+128)=c
     have hc':c=UInt8.ofNat (m%128+128):=by rw[←hc,show((m:Int)%128+128)=((m%128+128:Nat):Int) from rfl,Je_]
     rw[show(m:Int) / 128=((m / 128:Nat):Int) from rfl]
     refine OwK.two 4 8 _ _ (by kernel_rfl) rfl rfl ?_ ?_
     ·refine Ow.buildSlice (e:=5) #[v8 c] rfl rfl (by kernel_rfl) fun b1 hb1 hw1=> ?_
      rw[show(#[v8 c]:Array Value)=a8 [c] from rfl]
      have e4:List.take 1 (List.drop 0 [c])= [c]:=rfl
      refine ko @e4 ?_
      try with_reducible refine Ow.nil ?_
      refine OwK.two 5 8 _ _ (by kernel_rfl) rfl rfl ?_ ?_
      ·refine ko @e4 ?_
       refine OwK.rest [8,9,10] [4,8] rfl (by kernel_rfl) (by kernel_rfl) ?_
       simp only[zj_, ↓zf_, ↓zc_, ↓zw_, ↓zv_,zd_]
       refine Ow.callFV rfl Tryz.call129 (fun w' hw'=>ih2 w') ?_
       refine ko @Nat.add_zero ?_
       first|with_reducible refine ks [] @Nat.add_zero ?_|refine kp @Nat.add_zero ?_
       refine⟨_,(ke @Nat.add_zero),⟨hw1,trivial⟩, ?_⟩
       rw[hc'];rfl
      ·refine Ow.callFV rfl Tryz.call129 (fun w' hw'=>ih2 w') ?_
       refine ko @Nat.add_zero ?_
       refine OwK.rest [5,9,10] [4,8] rfl (by kernel_rfl) (by kernel_rfl) ?_
       simp only[zj_, ↓zf_, ↓zc_, ↓zw_, ↓zv_,zd_]
       refine ko @e4 ?_
       first|with_reducible refine ks [] @Nat.add_zero ?_|refine kp @Nat.add_zero ?_
       refine⟨_,(ke @Nat.add_zero),⟨hw1,trivial⟩, ?_⟩
       rw[hc'];rfl
     ·refine Ow.callFV rfl Tryz.call129 (fun w' hw'=>ih2 w') ?_
      refine ko @Nat.add_zero ?_
      refine OwK.rest [4,5,9,10] [4,8] rfl (by kernel_rfl) (by kernel_rfl) ?_
      simp only[zj_, ↓zf_, ↓zc_, ↓zw_, ↓zv_,zd_]
      refine Ow.buildSlice (e:=5) #[v8 c] rfl rfl (by kernel_rfl) fun b1 hb1 hw1=> ?_
      rw[show(#[v8 c]:Array Value)=a8 [c] from rfl]
      have e4:List.take 1 (List.drop 0 [c])= [c]:=rfl
      refine ko @e4 ?_
      first|with_reducible refine ks [] @Nat.add_zero ?_|refine kp @Nat.add_zero ?_
      refine⟨_,(ke @Nat.add_zero),⟨hw1,trivial⟩, ?_⟩
      rw[hc'];rfl
theorem kv_ (s:List UInt8) (w:World) (hs:s.length<1099511627776):
  Rets Tryz.prog 109 #[vs s] w (fun v D=>v=vs (Xw_ s)∧D= []):=by
 have hnl:=q4_ (s.length:Int)
 refine Rets.enterV Tryz.func109 rfl (rs:= [.tmp 2]) Tryz.results109 Tryz.ntmps109 ?_
 refine kf ?_
 first|with_reducible refine ks [] @Nat.add_zero ?_|refine kp @Nat.add_zero ?_
 refine Ow.callFV rfl Tryz.call129 (fun w' hw'=>vV_ _ _ w' (Nat.le_refl _)) ?_
 refine ko @Nat.add_zero ?_
 first|with_reducible refine ks [] @Nat.add_zero ?_|refine kp @Nat.add_zero ?_
 refine⟨_,(ke @Nat.add_zero),trivial, ?_⟩
 rfl
theorem WL_ (x:IdL) (w:World):
  Rets Tryz.prog 130 #[.agg (a8 x.l)] w (fun v D=>v=vs x.l∧D= []):=by
 have hxl:=x.h
 refine Rets.enterV Tryz.func130 rfl (rs:= [.tmp 2]) Tryz.results130 Tryz.ntmps130 ?_
 refine kf ?_
 first|with_reducible refine ks [] @Nat.add_zero ?_|refine kp @Nat.add_zero ?_
 refine Ow.box rfl rfl fun bx hbx hwx=> ?_
 simp only[qm_,ql_,qu_,zh_,List.nil_append,List.cons_append]
 refine Ow.go rfl ?_
 simp(disch:=(first|assumption|omega| (simp only[w5_,wR_,UInt64.reduceToNat];try omega))) only[↓Sx.S0,Sx.S1,Tryz.fx,Nat.reduceAdd,Nat.reducePow,Int.reducePow,Nat.reduceBEq, ↓reduceIte,UInt8.reduceToNat,UInt16.reduceToNat,UInt32.reduceToNat,UInt64.reduceToNat,Int.reduceToNat]
 have e4:List.take 32 (List.drop 0 x.l)=x.l:=by rw[List.drop_zero,List.take_of_length_le (by omega)]
 first|with_reducible refine ks [] @e4 ?_|refine kp @e4 ?_
 refine⟨_,(ke @Nat.add_zero),⟨hwx,trivial⟩, ?_⟩
 rfl
end Go.Proofs
end
section
open Go Go.Proofs Go.Sx Go.StP
namespace Go.Proofs
set_option maxRecDepth 10000
set_option maxHeartbeats 400000
set_option linter.unusedSimpArgs false
set_option linter.defProp false
def J6_:=And.intro (And.intro (And.intro (@aav_) (@abW_)) (And.intro (@aaE_) (@V6_))) (And.intro (And.intro (@Qh_) (@ZQ_)) (And.intro (@zn_) (@zm_)))
def entB (e:EntL):List UInt8:=(numL (jS_ e.kind)++Xw_ e.name)++e.id.l
def kl_ (l:List EntL):List UInt8:=(l.map entB).flatten
theorem Vc_ {l:List EntL} {k:Nat} (hk:k<l.length):kl_ (l.take (k+1))=kl_ (l.take k)++entB (l.getD k xA_):=by
 unfold kl_
 rw[List.take_succ_eq_append_getElem hk,List.map_append,List.flatten_append,List.getD_eq_getElem?_getD,List.getElem?_eq_getElem hk]
 simp
theorem aeb_ {l:List EntL} {k:Nat} (hk:k<l.length):kl_ (l.take (k+1))=kl_ (l.take k)++numL (jS_ (l.getD k xA_).kind)++Xw_ (l.getD k xA_).name++ (l.getD k xA_).id.l:=by
 rw[Vc_ hk];simp only[entB,List.append_assoc]
theorem v7_ {s:List UInt8} (h:s.length<1099511627776): (Xw_ s).length<1099511627783:=by
 have:=q4_ (s.length:Int)
 unfold Xw_;rw[List.length_append];omega
theorem abz_ {l:List EntL} (hsh:ae4_ l): ∀k,k≤l.length→(kl_ (l.take k)).length≤k*1099511627830
 |0,_=>by simp[kl_]
 |k+1,hk=>by
  have ih:=abz_ hsh k (by omega)
  have h1:=v7_ (hsh k hk)
  have h2:=q4_ (l.getD k xA_).kind
  have h3:=(l.getD k xA_).id.h
  rw[Vc_ hk]
  unfold entB
  simp only[List.length_append]
  omega
theorem VO_ (v:Value) (l:List EntL) (w:World) (hv:EntS w v l) (hl:l.length<1000000) (hsh:ae4_ l):
  Rets Tryz.prog 104 #[v] w (fun v' D=>v'=vs (kl_ l)∧D= []):=by
 obtain⟨b,off,arr,E,fz,hr⟩:=hv.row
 have ln:=hv.len
 refine Rets.enterV Tryz.func104 rfl (rs:= [.tmp 2]) Tryz.results104 Tryz.ntmps104 ?_
 refine kf ?_
 first|with_reducible refine ks [] (And.intro @J6_ @ln) ?_|refine kp (And.intro @J6_ @ln) ?_
 refine Cw.loopG (G:=Nat) [5,6,7,8,11,12,13,14,15,16,17,18,19,20,21,22,23,24,25,26,27,28,29,30,31,32,3,9,10,4] (fun g=> [(3,vs (kl_ (l.take g))),(4,vi g)]) (fun g=> []) (fun g=>g≤l.length) (fun g=>l.length - g) 0 rfl rfl ?_ ?_
 ·exact Nat.zero_le _
 ·intro k jk hk
  refine kv ?_
  have h1:k≤l.length:=hk
  clear hk
  by_cases hk:k<l.length
  ·have h0:0<l.length:=by omega
   have hbl:=hr.lt h0
   have r2:=hr.has h0
   have i2:=hr.idx true k hk
   have m0: ∀n,zk_ (some (false,n)) (some (.cells arr E fz)) (off+k*34)=some (vs (l.getD k xA_).name):=fun n=>V2_ hr hk n
   have m1: ∀n,zk_ (some (false,n)) (some (.cells arr E fz)) (off+k*34+1)=some (vi (l.getD k xA_).kind):=fun n=>afS_ hr hk n
   have m2:zk_ (some (true,32)) (some (.cells arr E fz)) (off+k*34+2)=some (.agg (a8 (l.getD k xA_).id.l)):=alN_ hr hk
   have hs:=hsh k hk
   have t1:=abz_ hsh k h1
   have t2:=v7_ hs
   have t3:=q4_ (l.getD k xA_).kind
   have t4:=(l.getD k xA_).id.h
   first|with_reducible refine ks [] (And.intro @J6_ @ln) ?_|refine kp (And.intro @J6_ @ln) ?_
   refine Cw.regionS [b] [0,1,2,3,4,8,9,10,11,15,16,17,18,5,12,19,6,7,13,14,20,21,22] [] (by kernel_rfl) (by kernel_rfl) (by kernel_rfl) ?_
   simp only[zj_, ↓zf_, ↓zc_, ↓zw_, ↓zv_,zd_]
   refine kq (And.intro @J6_ (And.intro @r2 (And.intro @i2 (And.intro @m0 (And.intro @m1 (@m2)))))) ?_
   refine Ow.callFV rfl Tryz.call129 (fun w' hw'=>vV_ _ _ w' (Nat.le_refl _)) ?_
   refine kq (And.intro @J6_ (And.intro @r2 (And.intro @i2 (And.intro @m0 (And.intro @m1 (@m2)))))) ?_
   refine Ow.callFV rfl Tryz.call109 (fun w' hw'=>kv_ _ w' hs) ?_
   refine kq (And.intro @J6_ (And.intro @r2 (And.intro @i2 (And.intro @m0 (And.intro @m1 (@m2)))))) ?_
   refine Ow.callFV rfl Tryz.call130 (fun w' hw'=>WL_ _ w') ?_
   refine kq (And.intro @J6_ (And.intro @r2 (And.intro @i2 (And.intro @m0 (And.intro @m1 (@m2)))))) ?_
   exact Again.mk (k+1) (by omega) (by omega) rfl (by rw[aeb_ hk];rfl)
  ·obtain rfl:k=l.length:=by omega
   first|with_reducible refine ks [] (And.intro @J6_ @ln) ?_|refine kp (And.intro @J6_ @ln) ?_
   refine⟨_,(ke @J6_),trivial, ?_⟩
   rw[List.take_length];rfl
def idsB (l:List IdL):List UInt8:=(l.map IdL.l).flatten
theorem aie_ {l:List IdL} {k:Nat} (hk:k<l.length):idsB (l.take (k+1))=idsB (l.take k)++ (l.getD k id0).l:=by
 unfold idsB
 rw[List.take_succ_eq_append_getElem hk,List.map_append,List.flatten_append,List.getD_eq_getElem?_getD,List.getElem?_eq_getElem hk]
 simp
theorem ae1_: ∀ (l:List IdL),(idsB l).length=l.length*32
 | []=>rfl
 |x::r=>by
  have h:=ae1_ r
  have:=x.h
  unfold idsB at h ⊢
  rw[List.map_cons,List.flatten_cons,List.length_append,h,List.length_cons]
  omega
def acZ_ (c:ComL):List UInt8:=c.tree.l++numL (jS_ c.par.length)
def comB (c:ComL):List UInt8:=acZ_ c++idsB c.par++Xw_ c.text
set_option linter.defProp false
def wS_:=And.intro (And.intro (And.intro (@apK_) (@aqn_)) (And.intro (@V0_) (And.intro (@zn_) (@zm_)))) (And.intro (And.intro (@Xu_) (@XA_)) (And.intro (@XS_) (And.intro (@VE_) (@ZG_))))
theorem XL_ (v:Value) (c:ComL) (w:World) (hv:ComS w v c) (hl:c.par.length<1000000) (ht:c.text.length<1099511627776):
  Rets Tryz.prog 106 #[v] w (fun v' D=>v'=vs (comB c)∧D= []):=by
 obtain⟨p,rfl,hp⟩:=hv
 obtain⟨b,off,arr,E,fz,hr⟩:=hp.row
 have ln:=hp.len
 have t2:=v7_ ht
 have t3:=q4_ (c.par.length:Int)
 have t4:=c.tree.h
 have t5: (acZ_ c).length≤38:=by unfold acZ_;rw[List.length_append];omega
 refine Rets.enterV Tryz.func106 rfl (rs:= [.tmp 2]) Tryz.results106 Tryz.ntmps106 ?_
 refine kf ?_
 first|with_reducible refine ks [] @wS_ ?_|refine kp @wS_ ?_
 refine Ow.box rfl rfl fun bx hbx hwx=> ?_
 simp only[qm_,ql_,qu_,zh_,List.nil_append,List.cons_append]
 refine Ow.go rfl ?_
 simp(disch:=(first|assumption|omega| (simp only[w5_,wR_,UInt64.reduceToNat];try omega))) only[↓Sx.S0,Sx.S1,Tryz.fx,wS_,Nat.reduceAdd,Nat.reducePow,Int.reducePow,Nat.reduceBEq, ↓reduceIte,UInt8.reduceToNat,UInt16.reduceToNat,UInt32.reduceToNat,UInt64.reduceToNat,Int.reduceToNat]
 first|with_reducible refine ks [] (And.intro @wS_ @ln) ?_|refine kp (And.intro @wS_ @ln) ?_
 refine Cw.regionS [bx] [0,3,1,4,5,2,6,7,8] [] (by kernel_rfl) (by kernel_rfl) (by kernel_rfl) ?_
 simp only[zj_, ↓zf_, ↓zc_, ↓zw_, ↓zv_,zd_]
 refine kq (And.intro @wS_ @ln) ?_
 refine Ow.callFV rfl Tryz.call130 (fun w' hw'=>WL_ _ w') ?_
 refine kq (And.intro @wS_ @ln) ?_
 refine Ow.callFV rfl Tryz.call129 (fun w' hw'=>vV_ _ _ w' (Nat.le_refl _)) ?_
 refine kq (And.intro @wS_ @ln) ?_
 rw[show c.tree.l++numL (jS_ c.par.length)=acZ_ c++idsB (c.par.take 0) by simp[acZ_,idsB]]
 refine Cw.loopG (G:=Nat) [13,14,15,16,17,20,21,22,23,24,25,26,27,3,18,19,4] (fun g=> [(3,vs (acZ_ c++idsB (c.par.take g))),(4,vi g)]) (fun g=> [(bx, .cells (jq_ c.tree p c.text).toArray 146 (0,0))]) (fun g=>g≤c.par.length) (fun g=>c.par.length - g) 0 rfl rfl ?_ ?_
 ·exact Nat.zero_le _
 ·intro k jk hk
  refine kv ?_
  have h1:k≤c.par.length:=hk
  clear hk
  have t6:=ae1_ (c.par.take k)
  rw[List.length_take,Nat.min_eq_left h1] at t6
  by_cases hk:k<c.par.length
  ·have h0:0<c.par.length:=by omega
   have hbl:=hr.lt h0
   have hnb:bx≠b:=by omega
   have r2:=hr.has h0
   have i2:=hr.idx true k hk
   have l2:=aka_ hr hk
   have hxl:=(c.par.getD k id0).h
   first|with_reducible refine ks [] (And.intro @wS_ (And.intro @ln (And.intro @r2 (And.intro @i2 (@l2))))) ?_|refine kp (And.intro @wS_ (And.intro @ln (And.intro @r2 (And.intro @i2 (@l2))))) ?_
   refine Ow.callFV rfl Tryz.call130 (fun w' hw'=>WL_ _ w') ?_
   refine ko (And.intro @wS_ (And.intro @ln (And.intro @r2 (And.intro @i2 (@l2))))) ?_
   exact Again.mk (k+1) (by omega) (by omega) rfl (by rw[aie_ hk,←List.append_assoc];rfl)
  ·obtain rfl:k=c.par.length:=by omega
   rw[List.take_length]
   rw[List.take_length] at t6
   first|with_reducible refine ks [] (And.intro @wS_ @ln) ?_|refine kp (And.intro @wS_ @ln) ?_
   refine Ow.callFV rfl Tryz.call109 (fun w' hw'=>kv_ _ w' ht) ?_
   refine ko @wS_ ?_
   refine⟨_,(ke @wS_),⟨hwx,trivial⟩, ?_⟩
   rfl
end Go.Proofs
end
section
open Go Go.Proofs Go.Sx Go.StP
namespace Go.Proofs
set_option maxRecDepth 10000
set_option maxHeartbeats 400000
set_option linter.unusedSimpArgs false
instance:DecidableEq EntL:=fun a b=>if h:a.name=b.name∧a.kind=b.kind∧a.id.l=b.id.l then .isTrue (by cases a;cases b;simp only at h;obtain⟨rfl,rfl,h3⟩:=h;rw[IdL.ext' h3]) else .isFalse (fun e=>h (by rw[e];exact⟨rfl,rfl,rfl⟩))
theorem EntL.ext' {a b:EntL} (h: (a.name==b.name&&a.kind==b.kind&&a.id.l==b.id.l)=true):a=b:=by
 simp only[Bool.and_eq_true,beq_iff_eq] at h
 cases a;cases b;simp only at h;obtain⟨⟨rfl,rfl⟩,h3⟩:=h;rw[IdL.ext' h3]
set_option linter.defProp false
end Go.Proofs
end
section
open Go Go.Proofs Go.Sx Go.StP
namespace Go.Proofs
set_option maxRecDepth 10000
set_option maxHeartbeats 400000
set_option linter.unusedSimpArgs false
set_option linter.defProp false
end Go.Proofs
end
section
open Go Go.Proofs Go.Sx Go.StP
namespace Go.Proofs
set_option maxRecDepth 10000
set_option maxHeartbeats 400000
set_option linter.unusedSimpArgs false
def J3_ (l:List UInt8):IdL:=if h:l.length=32 then⟨l,h⟩ else id0
theorem Q9_ {l:List UInt8} (h:l.length=32): (J3_ l).l=l:=by unfold J3_;rw[dif_pos h]
theorem WD_ (s:List UInt8) (a:Nat) (e:Int): (idR s a e).1.length=32:=by
 unfold idR
 simp only
 split
 ·assumption
 ·simp[z32]
theorem aa8_ {s:List UInt8} {a:Nat} {e:Int} (ha:a≤s.length):a≤ (idR s a e).2.1∧(idR s a e).2.1≤s.length:=VQ_ ha
theorem k7_ {s:List UInt8} {a:Nat} {e most:Int} (ha:a≤s.length):a≤ (zX_ s a e most).2.1∧(zX_ s a e most).2.1≤s.length:=by
 have hp:=q6_ (e:=e) (most:=most) ha
 have hq:=VQ_ (e:=(zF_ s a e most).2.2) (n:=(zF_ s a e most).1) hp.2
 unfold zX_
 simp only
 split
 ·exact⟨Nat.le_refl _,ha⟩
 ·exact⟨by omega,hq.2⟩
theorem JC_ (s:List UInt8) (a:Nat) (e most:Int): (zX_ s a e most).1.length≤s.length:=by
 have: ∀ (b:Nat) (e n:Int),(jM_ s b e n).1.length≤s.length:=by
  intro b e n
  unfold jM_
  split
  ·simp
  ·split
   ·simp
   ·split
    ·simp
    ·simp only[List.length_take,List.length_drop];omega
 unfold zX_
 simp only
 split
 ·simp
 ·exact this _ _ _
theorem afG_ {s:List UInt8} {a:Nat} {e n:Int} (he:e≠0): (jM_ s a e n).2=(a,e):=by unfold jM_;rw[if_pos he]
theorem aku_ {s:List UInt8} {a:Nat} {e most:Int} (he:e≠0): (zF_ s a e most).2=(a,e):=by unfold zF_;rw[if_pos he]
theorem Ws_ {s:List UInt8} {a:Nat} {e most:Int} (he:e≠0): (zX_ s a e most).2=(a,e):=by
 unfold zX_
 simp only[aku_ he,afG_ he]
 rw[if_pos he]
theorem aiP_ {s:List UInt8} {a:Nat} {e:Int} (he:e≠0): (idR s a e).2=(a,e):=by unfold idR;simp only[afG_ he]
theorem ajV_ {s:List UInt8} {a:Nat} {e n:Int} (h:e≠5): (jM_ s a e n).2.2≠5:=by
 unfold jM_
 split
 ·exact h
 ·split
  ·show(2:Int)≠5;decide
  ·split
   ·show(3:Int)≠5;decide
   ·show(0:Int)≠5;decide
theorem aoe_ (most:Int): ∀ (l:List UInt8) (k n x:Nat),qZ_ most l k n= .error x→x≠5:=by
 intro l
 induction l with
 |nil=>intro k n x h;unfold qZ_ at h;cases h;decide
 |cons c r ih=>
  intro k n x h
  unfold qZ_ at h
  split at h
  ·split at h
   ·cases h;decide
   ·exact ih _ _ _ h
  ·split at h
   ·cases h;decide
   ·split at h
    ·cases h
    ·cases h;decide
theorem ajo_ (most:Int): ∀ (l:List UInt8) (k n:Nat),qZ_ most l k n≠ .error 0:=by
 intro l
 induction l with
 |nil=>intro k n h;unfold qZ_ at h;cases h
 |cons c r ih=>
  intro k n h
  unfold qZ_ at h
  split at h
  ·split at h
   ·cases h
   ·exact ih _ _ h
  ·split at h
   ·cases h
   ·split at h
    ·cases h
    ·cases h
theorem ah1_ {s:List UInt8} {a:Nat} {e most:Int} (h:e≠5): (zF_ s a e most).2.2≠5:=by
 unfold zF_
 split
 ·exact h
 ·split
  ·show(0:Int)≠5;decide
  ·rename_i x hx
   have:=aoe_ _ _ _ _ _ hx
   show((x:Nat):Int)≠5
   omega
theorem aoi_ {s:List UInt8} {a:Nat} {e most:Int} (h:e≠5): (zX_ s a e most).2.2≠5:=by
 unfold zX_
 simp only
 split
 ·exact ajV_ (ah1_ h)
 ·exact ajV_ (ah1_ h)
theorem arO_ {s:List UInt8} {a:Nat} {e:Int} (h:e≠5): (idR s a e).2.2≠5:=by unfold idR;exact ajV_ h
theorem ajm_ {s:List UInt8} {a:Nat} {e most:Int} (h: (zF_ s a e most).2.2=0):a< (zF_ s a e most).2.1:=by
 unfold zF_ at h ⊢
 split
 ·rename_i he
  rw[if_pos he] at h
  exact absurd h he
 ·rename_i he
  rw[if_neg he] at h
  split
  ·rename_i n k hk
   have:=V7_ _ _ _ _ _ _ hk
   show a<a+k
   omega
  ·rename_i x hx
   rw[hx] at h
   exfalso
   have:x=0:=by have: ((x:Nat):Int)=0:=h;omega
   subst this
   exact ajo_ _ _ _ _ hx
def Kb_ (s:List UInt8) (a:Nat) (e:Int):EntL×Nat×Int:=
 let p:=zF_ s a e 2
 let q:=zX_ s p.2.1 p.2.2 32
 let i:=idR s q.2.1 q.2.2
 (⟨q.1,p.1,J3_ i.1⟩,i.2)
theorem adZ_ {s:List UInt8} {a:Nat} {e:Int} (ha:a≤s.length):a≤ (Kb_ s a e).2.1∧(Kb_ s a e).2.1≤s.length:=by
 have h1:=q6_ (e:=e) (most:=2) ha
 have h2:=k7_ (e:=(zF_ s a e 2).2.2) (most:=32) h1.2
 have h3:=aa8_ (e:=(zX_ s (zF_ s a e 2).2.1 (zF_ s a e 2).2.2 32).2.2) h2.2
 unfold Kb_
 exact⟨by simp only;omega,h3.2⟩
theorem aql_ {s:List UInt8} {a:Nat} {e:Int} (h:e≠5): (Kb_ s a e).2.2≠5:=arO_ (aoi_ (ah1_ h))
theorem ah3_ {s:List UInt8} {a:Nat} {e:Int} (ha:a≤s.length) (h: (Kb_ s a e).2.2=0):a< (Kb_ s a e).2.1:=by
 have h1:=q6_ (e:=e) (most:=2) ha
 have h2:=k7_ (e:=(zF_ s a e 2).2.2) (most:=32) h1.2
 have h3:=aa8_ (e:=(zX_ s (zF_ s a e 2).2.1 (zF_ s a e 2).2.2 32).2.2) h2.2
 unfold Kb_ at h ⊢
 simp only at h ⊢
 have e2: (zX_ s (zF_ s a e 2).2.1 (zF_ s a e 2).2.2 32).2.2=0:=Decidable.byContradiction fun hn=>by rw[aiP_ hn] at h;exact hn h
 have e1: (zF_ s a e 2).2.2=0:=Decidable.byContradiction fun hn=>by rw[Ws_ hn] at e2;exact hn e2
 have:=ajm_ e1
 omega
def x8_ (s:List UInt8):Nat→Nat→Int→List EntL→List EntL×Nat×Int
 |0,a,e,l=>(l,a,e)
 |n+1,a,e,l=>if e=0∧a<s.length then x8_ s n (Kb_ s a e).2.1 (Kb_ s a e).2.2 (l++ [(Kb_ s a e).1]) else(l,a,e)
theorem JQ_ {s:List UInt8} {n a:Nat} {e:Int} {l:List EntL} (h:e=0∧a<s.length):x8_ s (n+1) a e l=x8_ s n (Kb_ s a e).2.1 (Kb_ s a e).2.2 (l++ [(Kb_ s a e).1]):=by rw[x8_,if_pos h]
theorem ZY_ {s:List UInt8} {n a:Nat} {e:Int} {l:List EntL} (h: ¬ (e=0∧a<s.length)):x8_ s n a e l=(l,a,e):=by
 cases n with
 |zero=>rfl
 |succ n=>rw[x8_,if_neg h]
def ki_ (s:List UInt8):List EntL×Nat×Int:=x8_ s (s.length+1) 0 0 []
structure EntsJ (s:List UInt8) (n a:Nat) (e:Int) (l:List EntL):Prop where
 go:ki_ s=x8_ s n a e l
 le:a≤s.length
 five:e≠5
 fuel:e=0→s.length<a+n
 cnt:l.length+n=s.length+1
 short: ∀i,i<l.length→(l.getD i xA_).name.length≤s.length
theorem EntsJ.init (s:List UInt8):EntsJ s (s.length+1) 0 0 []:=⟨rfl,Nat.zero_le _,by decide,fun _=>by omega,by simp,fun i hi=>by simp at hi⟩
theorem EntsJ.next {s:List UInt8} {n a:Nat} {e:Int} {l:List EntL} (h:EntsJ s n a e l) (hc:e=0∧a<s.length): ∃m,n=m+1∧EntsJ s m (Kb_ s a e).2.1 (Kb_ s a e).2.2 (l++ [(Kb_ s a e).1]):=by
 have:=h.fuel hc.1
 obtain⟨m,rfl⟩: ∃m,n=m+1:=⟨n - 1,by omega⟩
 refine⟨m,rfl,h.go.trans (JQ_ hc),(adZ_ h.le).2,aql_ h.five,fun h0=> ?_, ?_,fun i hi=> ?_⟩
 ·have:=ah3_ h.le h0;omega
 ·have:=h.cnt;simp only[List.length_append,List.length_cons,List.length_nil];omega
 ·by_cases hlt:i<l.length
  ·rw[Vr_ hlt];exact h.short i hlt
  ·have:i=l.length:=by simp only[List.length_append,List.length_cons,List.length_nil] at hi;omega
   subst this
   rw[Vd_ (Nat.le_refl _),Nat.sub_self]
   exact JC_ _ _ _ _
theorem EntsJ.done {s:List UInt8} {n a:Nat} {e:Int} {l:List EntL} (h:EntsJ s n a e l) (hc: ¬ (e=0∧a<s.length)):ki_ s=(l,a,e):=h.go.trans (ZY_ hc)
theorem EntsJ.sh {s:List UInt8} {n a:Nat} {e:Int} {l:List EntL} (h:EntsJ s n a e l) (hs:s.length<1000000):ae4_ l:=fun i hi=>by have:=h.short i hi;omega
end Go.Proofs
end
section
open Go Go.Proofs Go.Sx Go.StP
namespace Go.Proofs
set_option maxRecDepth 10000
set_option maxHeartbeats 400000
set_option linter.unusedSimpArgs false
theorem acA_:qM_ (xX_ Tryz.prog 169) (zK_ Tryz.prog 169) []=some (.agg (xo_ xA_).toArray):=by
 rw[show xX_ Tryz.prog 169=some [(0,1),(1,1),(2,32)] from id (by kernel_rfl),alQ_];rfl
theorem aik_ (s:List UInt8):qM_ (xX_ Tryz.prog 162) (zK_ Tryz.prog 162) [(0,vs s)]=some (.agg #[vs s,vi 0,vi 0]):=by
 have hp:xX_ Tryz.prog 162=some [(0,1),(1,1),(2,1)]:=id (by kernel_rfl)
 have hz:zK_ Tryz.prog 162=some (.agg #[vs [],vi 0,vi 0]):=id (by kernel_rfl)
 rw[hp,hz];rfl
def acF_ (s:List UInt8):Option (List EntL):=if(ki_ s).2.2=0∧vp_ (ki_ s).1=true∧kl_ (ki_ s).1=s then some (ki_ s).1 else none
def ai8_ (s:List UInt8) (v:Value) (D:ze_):Prop:=
 match acF_ s with
 |some l=> ∃v1,v= .tuple #[v1, .bool true]∧Gr D 169 34 v1 l.length (l.map xo_).flatten
 |none=>v= .tuple #[.slice none 0 0, .bool false]
structure EnG where
 n:Nat
 a:Nat
 e:Int
 l:List EntL
 v:Value
 D:ze_
set_option linter.defProp false
def qV_:=And.intro (And.intro (And.intro (@Q4_) (And.intro (@Ja_) (@Js_))) (And.intro (@Zr_) (And.intro (@ZJ_) (@V6_)))) (And.intro (And.intro (@agl_) (And.intro (@afV_) (@ahc_))) (And.intro (And.intro (@Qh_) (@ZQ_)) (And.intro (@zn_) (@zm_))))
theorem WA_ (s:List UInt8) (w:World) (hs:s.length<100000):
  Rets Tryz.prog 81 #[vs s] w (XS w [] (ai8_ s)):=by
 refine Rets.enterX Tryz.func81 rfl (rs:= [.tmp 2, .tmp 3]) Tryz.results81 Tryz.ntmps81 (fun p hp=>by cases hp) (by simp[keys]) ?_
 refine kf ?_
 first|with_reducible refine ks [] @qV_ ?_|refine kp @qV_ ?_
 refine Ow.build ((.agg #[vs s,vi 0,vi 0])) rfl (by kernel_rfl) ?_
 refine ko @qV_ ?_
 refine Ow.box rfl rfl fun br hbr hwr=> ?_
 simp only[qm_,ql_,qu_,zh_,List.nil_append]
 refine ko @qV_ ?_
 refine Cw.loopG (G:=EnG) [10,11,12,13,14,15,16,17,18,19,20,21,22,23,24,6,25,26,27,28,29,30,31,32,33,34,35,36,37,5] (fun q=> [(5,q.v)]) (fun q=>(br, .cells #[vs s,vi q.a,vi q.e] 162 (0,0))::q.D) (fun q=>EntsJ s q.n q.a q.e q.l∧New (br+1) q.D∧Gr q.D 169 34 q.v q.l.length (q.l.map xo_).flatten) (fun q=>q.n) ⟨s.length+1,0,0,[], .slice none 0 0,[]⟩ rfl rfl ?_ ?_
 ·exact⟨EntsJ.init s,trivial,Gr.nl⟩
 ·intro q jq hq
  refine kv ?_
  obtain⟨n,a,e,l,v,D⟩:=q
  simp only at hq ⊢
  obtain⟨hJ,hN,hG⟩:=hq
  have hle:=hJ.le
  by_cases hc:e=0∧a<s.length
  ·obtain⟨m,rfl,hJ'⟩:=hJ.next hc
   obtain⟨he,hlt⟩:=hc
   have d1: (e==0)=true:=by simp[he]
   have d2:decide ((a:Int)< (s.length:Int))=true:=decide_eq_true (by omega)
   have hp:=q6_ (e:=e) (most:=2) hle
   have hq:=k7_ (e:=(zF_ s a e 2).2.2) (most:=32) hp.2
   have heq:Kb_ s a e=(⟨(zX_ s (zF_ s a e 2).2.1 (zF_ s a e 2).2.2 32).1,(zF_ s a e 2).1,J3_ (idR s (zX_ s (zF_ s a e 2).2.1 (zF_ s a e 2).2.2 32).2.1 (zX_ s (zF_ s a e 2).2.1 (zF_ s a e 2).2.2 32).2.2).1⟩,(idR s (zX_ s (zF_ s a e 2).2.1 (zF_ s a e 2).2.2 32).2.1 (zX_ s (zF_ s a e 2).2.1 (zF_ s a e 2).2.2 32).2.2).2):=rfl
   have hil:=WD_ s (zX_ s (zF_ s a e 2).2.1 (zF_ s a e 2).2.2 32).2.1 (zX_ s (zF_ s a e 2).2.1 (zF_ s a e 2).2.2 32).2.2
   first|with_reducible refine ks [] (And.intro @qV_ (And.intro @d1 (@d2))) ?_|refine kp (And.intro @qV_ (And.intro @d1 (@d2))) ?_
   refine Ow.build (.agg (xo_ xA_).toArray) rfl acA_ ?_
   refine ko @qV_ ?_
   refine Ow.alloc rfl rfl alQ_ fun b6 hb6 hw6=> ?_
   simp only[zh_,List.nil_append,List.cons_append]
   have hr6:br<b6:=zx_ hb6 (by simp[keys])
   refine Ow.permL (M:=(b6,Obj.cells (xo_ xA_).toArray 169 (0,0)):: (br, .cells #[vs s,vi a,vi e] 162 (0,0))::D) (by classical exact List.perm_iff_count.2 fun a=>by simp only[List.count_append,List.count_cons,List.count_nil]<;>omega) ?_
   refine ko @qV_ ?_
   refine Ow.callM rfl rfl Tryz.call101 (by simp[keys]) (fun w' hw'=>xb_ br s a e 2 w' hle (by omega) (hw'.has _ _ (List.mem_cons_of_mem _ List.mem_cons_self))) ?_
   generalize zF_ s a e 2=p at*
   obtain⟨kd,a1,e1⟩:=p
   simp only at hp hq heq hil ⊢
   refine kn ?_
   refine ko @qV_ ?_
   first|with_reducible refine ks [] @qV_ ?_|refine kp @qV_ ?_
   refine Ow.callM rfl rfl Tryz.call97 (by simp[keys]) (fun w' hw'=>kc_ br s a1 e1 32 w' hp.2 (by omega) (hw'.has _ _ (List.mem_cons_of_mem _ List.mem_cons_self))) ?_
   generalize zX_ s a1 e1 32=q at*
   obtain⟨tt,a2,e2⟩:=q
   simp only at hq heq hil ⊢
   refine kn ?_
   refine ko @qV_ ?_
   first|with_reducible refine ks [] @qV_ ?_|refine kp @qV_ ?_
   refine Ow.callM rfl rfl Tryz.call102 (by simp[keys]) (fun w' hw'=>Ql_ br s a2 e2 w' hq.2 (by omega) (hw'.has _ _ (List.mem_cons_of_mem _ List.mem_cons_self))) ?_
   generalize idR s a2 e2=i at*
   obtain⟨il,a3,e3⟩:=i
   simp only at heq hil ⊢
   obtain⟨I,hI⟩: ∃I,J3_ il=I:=⟨_,rfl⟩
   have hiI:il=I.l:=by rw[←hI,Q9_ hil]
   rw[hI] at heq
   rw[hiI]
   refine kn ?_
   refine ko @qV_ ?_
   generalize hx: ({name:=tt,kind:=kd,id:=I}:EntL)=x
   rw[hx] at heq
   rw[heq] at hJ'
   refine Ow.buildSlice (e:=169) (xo_ x).toArray rfl rfl (zT_ Tryz.underlying142 anw_ alQ_ (by decide) (xu_ x)) fun b13 hb13 hw13=> ?_
   have hr13:br<b13:=zx_ hb13 (by simp[keys])
   refine Ow.permL (M:=D++ ((b6,Obj.cells (xo_ x).toArray 169 (0,0)):: (br, .cells #[vs s,vi a3,vi e3] 162 (0,0)):: [(b13,Obj.cells (xo_ x).toArray 169 (0,0))])) (by classical exact List.perm_iff_count.2 fun a=>by simp only[List.count_append,List.count_cons,List.count_nil]<;>omega) ?_
   refine ko @qV_ ?_
   refine Ow.appendX (e:=169) (k:=1) (new:=xo_ x) (X:=D) v rfl rfl rfl rfl Tryz.underlying142 anw_ (by kernel_rfl) alQ_ (by rw[ZQ_,List.size_toArray,xu_]) Tryz.underlying142 (by intro k h;cases h) hG (fun w' hw'=>AppX.one1 (hw'.has b13 (.cells (xo_ x).toArray 169 (0,0)) (by simp)) (xu_ _) (afd_ _)) (by omega) (by have:=hJ.cnt;omega) (fun B v4 D4 hA4 hB4 hbuf hk1 hk2 hlk=> ?_)
   have hB13:b13<B:=zx_ hA4 (by simp[zo_,keys])
   have hN4:New (br+1) D4:=New.of_le fun q hq=>by
    rcases hk2 q hq with h|h
    ·exact hN.le q h
    ·omega
   refine Ow.permL (M:=(br, .cells #[vs s,vi a3,vi e3] 162 (0,0)):: (D4++ [(b6,Obj.cells (xo_ x).toArray 169 (0,0)),(b13,Obj.cells (xo_ x).toArray 169 (0,0))])) (by classical exact List.perm_iff_count.2 fun a=>by simp only[List.count_append,List.count_cons,List.count_nil]<;>omega) ?_
   refine ko @qV_ ?_
   refine Again.mk (EnG.mk m a3 e3 (l++ [x]) v4 (D4++ [(b6,Obj.cells (xo_ x).toArray 169 (0,0)),(b13,Obj.cells (xo_ x).toArray 169 (0,0))])) (by show m<m+1;omega) ⟨hJ',hN4.app ⟨by omega,by omega,trivial⟩, ?_⟩ rfl rfl
   show Gr _ _ _ _ (l++ [x]).length ((l++ [x]).map xo_).flatten
   rw[List.length_append,List.map_append,List.flatten_append,show([x].map xo_).flatten=xo_ x by simp]
   exact Gr.app (.inl hbuf)
  ·have hd:=hJ.done hc
   have hsh:=hJ.sh (by omega)
   have hcn:=hJ.cnt
   have hR:acF_ s=if e=0∧vp_ l=true∧kl_ l=s then some l else none:=by unfold acF_;rw[hd]
   unfold ai8_
   rw[hR]
   have hNe:New w.heap.size ((br,Obj.cells #[vs s,vi a,vi e] 162 (0,0))::D):=⟨hwr,New.mono (by omega) hN⟩
   by_cases he:e=0
   ·have d1: (e==0)=true:=by simp[he]
    have d2:decide ((a:Int)< (s.length:Int))=false:=decide_eq_false (by omega)
    have hend: (if e≠0 then e else if(a:Int)< (s.length:Int) then 5 else 0)=(0:Int):=by rw[if_neg (by simp[he]),if_neg (by omega)]
    first|with_reducible refine ks [] (And.intro @qV_ (And.intro @d1 (@d2))) ?_|refine kp (And.intro @qV_ (And.intro @d1 (@d2))) ?_
    refine Ow.callFV rfl Tryz.call98 (fun w' hw'=>vd_ br s a e w' (hw'.has _ _ (by simp))) ?_
    rw[hend]
    have d4: ((0:Int) !=0)=false:=rfl
    refine ko (And.intro @qV_ @d4) ?_
    refine Ow.callFV rfl Tryz.call103 (fun w' hw'=>KC_ v l w' (hG.slM (fun b o hm=>hw'.has b o (by simp[hm])) rfl rfl xu_) (by omega) hsh) ?_
    cases hr:vp_ l
    ·rw[if_neg (by simp)]
     refine ko @qV_ ?_
     first|with_reducible refine ks [] @qV_ ?_|refine kp @qV_ ?_
     refine⟨_,(ke @qV_), ?_⟩
     exact⟨Ext.of_new hNe,rfl⟩
    ·refine ko @qV_ ?_
     refine Ow.callFV rfl Tryz.call104 (fun w' hw'=>VO_ v l w' (hG.slM (fun b o hm=>hw'.has b o (by simp[hm])) rfl rfl xu_) (by omega) hsh) ?_
     by_cases hb:kl_ l=s
     ·have d3: (kl_ l !=s)=false:=by simp[hb]
      rw[if_pos ⟨he,rfl,hb⟩]
      refine ko (And.intro @qV_ @d3) ?_
      first|with_reducible refine ks [] @qV_ ?_|refine kp @qV_ ?_
      refine⟨_,(ke @qV_), ?_⟩
      exact⟨Ext.of_new hNe,v,rfl,hG.keep fun b o hb ho=>by rw[Sx.look,if_neg (by have:=hN.le b (zg_ ho);omega)];exact ho⟩
     ·have d3: (kl_ l !=s)=true:=by simp[hb]
      rw[if_neg (fun h=>hb h.2.2)]
      refine ko (And.intro @qV_ @d3) ?_
      first|with_reducible refine ks [] @qV_ ?_|refine kp @qV_ ?_
      refine⟨_,(ke @qV_), ?_⟩
      exact⟨Ext.of_new hNe,rfl⟩
   ·have d1: (e==0)=false:=by simp[he]
    have d3: (e !=0)=true:=by simp[he]
    have hend: (if e≠0 then e else if(a:Int)< (s.length:Int) then 5 else 0)=e:=by rw[if_pos he]
    rw[if_neg (fun h=>he h.1)]
    first|with_reducible refine ks [] (And.intro @qV_ @d1) ?_|refine kp (And.intro @qV_ @d1) ?_
    refine Ow.callFV rfl Tryz.call98 (fun w' hw'=>vd_ br s a e w' (hw'.has _ _ (by simp))) ?_
    rw[hend]
    refine ko (And.intro @qV_ @d3) ?_
    first|with_reducible refine ks [] @qV_ ?_|refine kp @qV_ ?_
    refine⟨_,(ke @qV_), ?_⟩
    exact⟨Ext.of_new hNe,rfl⟩
end Go.Proofs
end
section
open Go Go.Proofs Go.Sx Go.StP
namespace Go.Proofs
set_option maxRecDepth 10000
set_option maxHeartbeats 400000
set_option linter.unusedSimpArgs false
theorem wM_ (most:Int): ∀ (l:List UInt8) (k n m k':Nat),qZ_ most l k n= .ok (m,k')→(m:Int)≤most
 | [],_,_,_,_,h=>by simp[qZ_] at h
 |c::r,k,n,m,k',h=>by
  unfold qZ_ at h
  split at h
  ·split at h
   ·cases h
   ·exact wM_ most r _ _ _ _ h
  ·split at h
   ·cases h
   ·split at h
    ·rename_i hh
     cases h
     exact hh.2
    ·cases h
theorem jo_ {s:List UInt8} {a:Nat} {e most:Int} (h0:0≤most):0≤ (zF_ s a e most).1∧(zF_ s a e most).1≤most:=by
 unfold zF_
 split
 ·exact⟨Int.le_refl 0,h0⟩
 ·split
  ·rename_i n k h
   exact⟨Int.natCast_nonneg _,wM_ most _ _ _ _ _ h⟩
  ·exact⟨Int.le_refl 0,h0⟩
def qs_ (s:List UInt8) (a:Nat) (e:Int):Nat→List IdL×Nat×Int
 |0=>([],a,e)
 |n+1=>let p:=qs_ s a e n;let i:=idR s p.2.1 p.2.2;(p.1++ [J3_ i.1],i.2)
theorem JM_ (s:List UInt8) (a:Nat) (e:Int): ∀n,(qs_ s a e n).1.length=n
 |0=>rfl
 |n+1=>by simp only[qs_,List.length_append,List.length_cons,List.length_nil,JM_ s a e n]
theorem Jl_ {s:List UInt8} {a:Nat} {e:Int} (ha:a≤s.length): ∀n,(qs_ s a e n).2.1≤s.length
 |0=>ha
 |n+1=>(aa8_ (Jl_ ha n)).2
def comN (s:List UInt8):Int×Nat×Int:=zF_ s (idR s 0 0).2.1 (idR s 0 0).2.2 4
def JA_ (s:List UInt8):List IdL×Nat×Int:=qs_ s (comN s).2.1 (comN s).2.2 (comN s).1.toNat
def comT (s:List UInt8):List UInt8×Nat×Int:=zX_ s (JA_ s).2.1 (JA_ s).2.2 64
def comE (s:List UInt8):ComL×Nat×Int:=(⟨J3_ (idR s 0 0).1,(JA_ s).1,(comT s).1⟩,(comT s).2)
def wl_ (s:List UInt8) (a:Nat) (e:Int):Int:=if e≠0 then e else if(a:Int)< (s.length:Int) then 5 else 0
def adz_ (s:List UInt8):Option ComL:=if wl_ s (comE s).2.1 (comE s).2.2=0∧ZS_ (comE s).1=true∧comB (comE s).1=s then some (comE s).1 else none
theorem af0_ (t x:IdL) (p:Value) (y:List UInt8) (a:Bool) (E:TypeId):zu_ (some (a,32)) (some (.cells (jq_ t p y).toArray E (0,0))) 0 (.agg (a8 x.l))=some (.cells (jq_ x p y).toArray E (0,0)):=
 zt_ [] _ _ _ a _ E rfl (by simp[t.h]) (zh_ _) (by simp[x.h]) (w9_ _)
theorem agT_ (t:IdL) (p q:Value) (y:List UInt8) (a:Bool) (E:TypeId) (hq:Value.oneCell' q=true∧q.cells= #[q]):zu_ (some (a,1)) (some (.cells (jq_ t p y).toArray E (0,0))) 32 q=some (.cells (jq_ t q y).toArray E (0,0)):=
 zt_ (t.l.map v8) [p] [q] [vs y] a _ E (by simp[t.h]) rfl hq.2 rfl (by simp[hq.1])
theorem af6_ (t:IdL) (p:Value) (y z:List UInt8) (a:Bool) (E:TypeId):zu_ (some (a,1)) (some (.cells (jq_ t p y).toArray E (0,0))) 33 (vs z)=some (.cells (jq_ t p z).toArray E (0,0)):=by
 have e: ∀y,jq_ t p y=(t.l.map v8++ [p])++ ([vs y]++ []):=fun y=>by unfold jq_;simp only[List.append_assoc,List.append_nil]
 rw[e,e];exact zt_ _ _ _ _ a _ E (by simp[t.h]) rfl rfl rfl rfl
theorem amY_:zK_ Tryz.prog 146=some (.agg (jq_ id0 (.slice none 0 0) []).toArray):=id (by kernel_rfl)
theorem wr_:qM_ (xX_ Tryz.prog 146) (zK_ Tryz.prog 146) []=some (.agg (jq_ id0 (.slice none 0 0) []).toArray):=by
 rw[show xX_ Tryz.prog 146=some [(0,32),(32,1),(33,1)] from id (by kernel_rfl),amY_];rfl
theorem ae7_:qf_ Tryz.prog 118=some (true,32):=id (by kernel_rfl)
theorem ago_:zK_ Tryz.prog 118=some (.agg (a8 id0.l)):=id (by kernel_rfl)
end Go.Proofs
end
section
open Go Go.Proofs Go.Sx Go.StP
namespace Go.Proofs
set_option maxRecDepth 10000
set_option maxHeartbeats 400000
set_option linter.unusedSimpArgs false
theorem abe_ {b:Nat} {x:Obj}: ∀ {D L:ze_},b∉keys D→setB (D++L) b x=D++setB L b x
 | [],_,_=>rfl
 | (c,y)::r,L,h=>by
  simp only[keys,List.map_cons,List.mem_cons,not_or] at h
  rw[List.cons_append,Z1_ _ _ _ _ _ (Ne.symm h.1),abe_ (by simpa [keys] using h.2)];rfl
def aj1_ (s:List UInt8) (v:Value) (D:ze_):Prop:=
 match adz_ s with
 |some c=> ∃p,v= .tuple #[.agg (jq_ c.tree p c.text).toArray, .bool true]∧Gr D 118 32 p c.par.length (c.par.map WQ_).flatten
 |none=>v= .tuple #[.agg (jq_ id0 (.slice none 0 0) []).toArray, .bool false]
theorem QQ_ (b:Nat) (s:List UInt8) (a:Nat) (e:Int) (w:World) (ho:w.heap[b]? =some (.cells #[vs s,vi a,vi e] 162 (0,0))):
  Rets Tryz.prog 98 #[vp b 0] w (fun v D=>v=vi (wl_ s a e)∧D= []):=vd_ b s a e w ho
structure CmG where
 g:Nat
 v:Value
 D:ze_
set_option linter.defProp false
def qP_:=And.intro (And.intro (And.intro (@Q4_) (And.intro (@Ja_) (@Js_))) (And.intro (And.intro (@Zr_) (@ZJ_)) (And.intro (@Xu_) (@XA_)))) (And.intro (And.intro (@XS_) (And.intro (@VE_) (@ZG_))) (And.intro (And.intro (@af0_) (@af6_)) (And.intro (@zn_) (@zm_))))
theorem Wc_ (s:List UInt8) (w:World) (hs:s.length<100000):
  Rets Tryz.prog 82 #[vs s] w (XS w [] (aj1_ s)):=by
 refine Rets.enterX Tryz.func82 rfl (rs:= [.cell 2 146, .tmp 3]) Tryz.results82 Tryz.ntmps82 (fun p hp=>by cases hp) (by simp[keys]) ?_
 refine kf ?_
 first|with_reducible refine ks [] @qP_ ?_|refine kp @qP_ ?_
 refine Ow.alloc rfl rfl amY_ fun b2 hb2 hw2=> ?_
 simp only[zh_,List.nil_append,List.cons_append]
 refine ko @qP_ ?_
 refine Ow.build ((.agg #[vs s,vi 0,vi 0])) rfl (by kernel_rfl) ?_
 refine ko @qP_ ?_
 refine Ow.box rfl rfl fun br hbr hwr=> ?_
 have h2r:b2<br:=zx_ hbr (by simp[keys])
 simp only[qm_,ql_,qu_,zh_,List.nil_append,List.cons_append]
 refine ko @qP_ ?_
 refine Ow.build (.agg (jq_ id0 (.slice none 0 0) []).toArray) rfl wr_ ?_
 refine ko @qP_ ?_
 refine Ow.alloc rfl rfl amY_ fun b5 hb5 hw5=> ?_
 simp only[zh_,List.nil_append,List.cons_append]
 have h25:b2<b5:=zx_ hb5 (by simp[keys])
 have hr5:br<b5:=zx_ hb5 (by simp[keys])
 have st5: ∀a E,zu_ (some (a,34)) (some (.cells (jq_ id0 (.slice none 0 0) []).toArray E (0,0))) 0 (.agg (jq_ id0 (.slice none 0 0) []).toArray)=some (.cells (jq_ id0 (.slice none 0 0) []).toArray E (0,0)):=fun a E=>XR_ _ _ _ _ a E (by rw[List.size_toArray,ZC_]) rfl
 refine ko (And.intro @qP_ @st5) ?_
 refine Ow.callM rfl rfl Tryz.call102 (by simp[keys]) (fun w' hw'=>Ql_ br s 0 0 w' (Nat.zero_le _) (by omega) (hw'.has _ _ (List.mem_cons_of_mem _ List.mem_cons_self))) ?_
 have ip:=aa8_ (s:=s) (a:=0) (e:=0) (Nat.zero_le _)
 have np:=q6_ (e:=(idR s 0 0).2.2) (most:=4) ip.2
 have nm:=jo_ (s:=s) (a:=(idR s 0 0).2.1) (e:=(idR s 0 0).2.2) (most:=4) (by decide)
 obtain⟨T,hT⟩: ∃T,J3_ (idR s 0 0).1=T:=⟨_,rfl⟩
 have hiT: (idR s 0 0).1=T.l:=by rw[←hT,Q9_ (WD_ s 0 0)]
 have hcE:comE s=(⟨T,(JA_ s).1,(comT s).1⟩,(comT s).2):=by unfold comE;rw[hT]
 rw[hiT]
 refine kn ?_
 refine ko @qP_ ?_
 refine Ow.callM rfl rfl Tryz.call101 (by simp[keys]) (fun w' hw'=>xb_ br s _ _ 4 w' ip.2 (by omega) (hw'.has _ _ (List.mem_cons_of_mem _ List.mem_cons_self))) ?_
 have hP:JA_ s=qs_ s (zF_ s (idR s 0 0).2.1 (idR s 0 0).2.2 4).2.1 (zF_ s (idR s 0 0).2.1 (idR s 0 0).2.2 4).2.2 (zF_ s (idR s 0 0).2.1 (idR s 0 0).2.2 4).1.toNat:=rfl
 generalize zF_ s (idR s 0 0).2.1 (idR s 0 0).2.2 4=nr at*
 obtain⟨cn,na,ne⟩:=nr
 simp only at np nm hP ⊢
 obtain⟨k,rfl⟩:=Int.eq_ofNat_of_zero_le nm.1
 rw[Int.toNat_natCast] at hP
 refine kn ?_
 refine ko @qP_ ?_
 refine Cw.permL (M:=(b5, .cells (jq_ T (.slice none 0 0) []).toArray 146 (0,0)):: (br, .cells #[vs s,vi na,vi ne] 162 (0,0)):: (b2, .cells (jq_ id0 (.slice none 0 0) []).toArray 146 (0,0)):: []) (by classical exact List.perm_iff_count.2 fun a=>by simp only[List.count_append,List.count_cons,List.count_nil]<;>omega) ?_
 refine Cw.loopG (G:=CmG) [17,18,19,22,23,24,25,26,27,28,20,21,7] (fun q=> [(7,vi q.g)]) (fun q=>(b5, .cells (jq_ T q.v []).toArray 146 (0,0)):: (br, .cells #[vs s,vi (qs_ s na ne q.g).2.1,vi (qs_ s na ne q.g).2.2] 162 (0,0)):: (b2, .cells (jq_ id0 (.slice none 0 0) []).toArray 146 (0,0))::q.D) (fun q=>q.g≤k∧New (b5+1) q.D∧Gr q.D 118 32 q.v q.g ((qs_ s na ne q.g).1.map WQ_).flatten) (fun q=>k - q.g) ⟨0, .slice none 0 0,[]⟩ rfl rfl ?_ ?_
 ·exact⟨Nat.zero_le _,trivial,Gr.nl⟩
 ·intro q jq hq
  refine kv ?_
  obtain⟨g,v,D⟩:=q
  simp only at hq ⊢
  obtain⟨hgk,hN,hG⟩:=hq
  have gle:=Jl_ (e:=ne) np.2 g
  by_cases hlt:g<k
  ·have hgs:qs_ s na ne (g+1)=((qs_ s na ne g).1++ [J3_ (idR s (qs_ s na ne g).2.1 (qs_ s na ne g).2.2).1],(idR s (qs_ s na ne g).2.1 (qs_ s na ne g).2.2).2):=rfl
   first|with_reducible refine ks [7] @qP_ ?_|refine kp @qP_ ?_
   refine Cw.regionS [b5] [0,2,1,3,4,5,6,7] [7] (by kernel_rfl) (by kernel_rfl) (by kernel_rfl) ?_
   simp only[zj_, ↓zf_, ↓zc_, ↓zw_, ↓zv_,zd_]
   refine kq @qP_ ?_
   refine Ow.soft rfl rfl rfl ?_
   refine Ow.callM rfl rfl Tryz.call102 (by simp[keys]) (fun w' hw'=>Ql_ br s (qs_ s na ne g).2.1 (qs_ s na ne g).2.2 w' gle (by omega) (hw'.has _ _ (List.mem_cons_of_mem _ List.mem_cons_self))) ?_
   with_reducible refine Ow.nil ?_
   refine⟨fun b hb=>aak_ (by simp only[List.mem_cons,List.not_mem_nil,or_false] at hb;omega), ?_⟩
   have hil:=WD_ s (qs_ s na ne g).2.1 (qs_ s na ne g).2.2
   obtain⟨I,hI⟩: ∃I,J3_ (idR s (qs_ s na ne g).2.1 (qs_ s na ne g).2.2).1=I:=⟨_,rfl⟩
   have hiI: (idR s (qs_ s na ne g).2.1 (qs_ s na ne g).2.2).1=I.l:=by rw[←hI,Q9_ hil]
   rw[hI] at hgs
   have hg1: (qs_ s na ne (g+1)).1=(qs_ s na ne g).1++ [I]:=by rw[hgs]
   have hg2: (qs_ s na ne (g+1)).2=(idR s (qs_ s na ne g).2.1 (qs_ s na ne g).2.2).2:=by rw[hgs]
   rw[hiI,←hg2]
   refine kn ?_
   refine Ow.soft rfl rfl rfl ?_
   refine Ow.buildSlice (e:=118) (a8 I.l) rfl rfl (zT_ (cs:=I.l.map v8) Tryz.underlying113 ae7_ ago_ (by decide) (by simp[I.h])) fun b13 hb13 hw13=> ?_
   have hr13:b5<b13:=zx_ hb13 (by simp[keys])
   with_reducible refine Ow.nil ?_
   refine⟨j6_ (by simp[keys]), ?_⟩
   try simp only[List.cons_append,List.nil_append]
   refine Ow.soft rfl rfl rfl ?_
   refine Ow.permL (M:=D++ ((b5,Obj.cells (jq_ T v []).toArray 146 (0,0)):: (br,Obj.cells #[vs s,vi (qs_ s na ne (g+1)).2.1,vi (qs_ s na ne (g+1)).2.2] 162 (0,0)):: (b2,Obj.cells (jq_ id0 (.slice none 0 0) []).toArray 146 (0,0)):: [(b13,Obj.cells (a8 I.l) 118 (0,0))])) (by classical exact List.perm_iff_count.2 fun a=>by simp only[List.count_append,List.count_cons,List.count_nil]<;>omega) ?_
   refine Ow.appendX (e:=118) (k:=1) (new:=WQ_ I) (X:=D) v rfl rfl rfl rfl Tryz.underlying113 ae7_ (by kernel_rfl) ago_ (by rw[zh_,Qi_,id0.h]) Tryz.underlying113 (by intro k h;cases h) hG (fun w' hw'=>AppX.one1 (hw'.has b13 (.cells (a8 I.l) 118 (0,0)) (by simp)) (wd_ I) (W4_ I)) (by omega) (by omega) (fun B v4 D4 hA4 hB4 hbuf hk1 hk2 hlk=> ?_)
   have hB13:b13<B:=zx_ hA4 (by simp[zo_,keys])
   have hN4:New (b5+1) D4:=New.of_le fun q hq=>by
    rcases hk2 q hq with h|h
    ·exact hN.le q h
    ·omega
   have h54:b5∉keys D4:=hN4.not (by omega)
   with_reducible refine Ow.nil ?_
   refine⟨fun q hq=> ?_, ?_⟩
   ·rw[List.mem_singleton] at hq
    subst hq
    rw[agw_ h54]
    simp only[jz_]
   have hlk5: ∀M,Sx.look (D4++M) b5=Sx.look M b5:=fun M=>zM_ h54
   have hsb5: ∀M x,setB (D4++M) b5 x=D4++setB M b5 x:=fun M x=>abe_ h54
   have st5:=fun a E=>agT_ T v v4 [] a E hbuf.cell
   refine kq (And.intro @qP_ (And.intro @hlk5 (And.intro @hsb5 (And.intro @st5 (@j0_))))) ?_
   have hst7:x5_ (qf_ Tryz.prog 113) (D4++ [(b5,Obj.cells (jq_ T v []).toArray 146 (0,0)),(br,Obj.cells #[vs s,vi (qs_ s na ne (g+1)).2.1,vi (qs_ s na ne (g+1)).2.2] 162 (0,0)),(b2,Obj.cells (jq_ id0 (.slice none 0 0) []).toArray 146 (0,0)),(b13,Obj.cells (a8 I.l) 118 (0,0))]) (vp b5 32) v4=
     some (D4++ [(b5,Obj.cells (jq_ T v4 []).toArray 146 (0,0)),(br,Obj.cells #[vs s,vi (qs_ s na ne (g+1)).2.1,vi (qs_ s na ne (g+1)).2.2] 162 (0,0)),(b2,Obj.cells (jq_ id0 (.slice none 0 0) []).toArray 146 (0,0)),(b13,Obj.cells (a8 I.l) 118 (0,0))]):=by
    rw[Tryz.ag113,abu_,hlk5]
    simp only[xj_,st5,afC_,hsb5,Zb_]
   refine Ow.store rfl rfl rfl hst7 ?_
   refine ko @qP_ ?_
   refine Cw.permL (M:=(b5,Obj.cells (jq_ T v4 []).toArray 146 (0,0)):: (br,Obj.cells #[vs s,vi (qs_ s na ne (g+1)).2.1,vi (qs_ s na ne (g+1)).2.2] 162 (0,0)):: (b2,Obj.cells (jq_ id0 (.slice none 0 0) []).toArray 146 (0,0)):: (D4++ [(b13,Obj.cells (a8 I.l) 118 (0,0))])) (by classical exact List.perm_iff_count.2 fun a=>by simp only[List.count_append,List.count_cons,List.count_nil]<;>omega) ?_
   first|with_reducible refine ks [] @qP_ ?_|refine kp @qP_ ?_
   refine Again.mk (CmG.mk (g+1) v4 (D4++ [(b13,Obj.cells (a8 I.l) 118 (0,0))])) (by show k - (g+1)<k - g;omega) ⟨by show g+1≤k;omega,hN4.app ⟨by omega,trivial⟩, ?_⟩ rfl rfl
   show Gr _ _ _ _ (g+1) ((qs_ s na ne (g+1)).1.map WQ_).flatten
   rw[hg1,List.map_append,List.flatten_append,show([I].map WQ_).flatten=WQ_ I by simp]
   exact Gr.app (.inl hbuf)
  ·obtain rfl:g=k:=by omega
   rw[←hP] at hG
   rw[←hP] at gle
   rw[←hP]
   have tp:=k7_ (e:=(JA_ s).2.2) (most:=64) gle
   first|with_reducible refine ks [] @qP_ ?_|refine kp @qP_ ?_
   refine Ow.callM rfl rfl Tryz.call97 (by simp[keys]) (fun w' hw'=>kc_ br s (JA_ s).2.1 (JA_ s).2.2 64 w' gle (by omega) (hw'.has _ _ (List.mem_cons_of_mem _ List.mem_cons_self))) ?_
   refine kn ?_
   refine ko @qP_ ?_
   have hT2:comT s=zX_ s (JA_ s).2.1 (JA_ s).2.2 64:=rfl
   have htl:=JC_ s (JA_ s).2.1 (JA_ s).2.2 64
   rw[hT2] at hcE
   generalize zX_ s (JA_ s).2.1 (JA_ s).2.2 64=tx at*
   obtain⟨tt,a3,e3⟩:=tx
   simp only at tp hcE htl ⊢
   have hPl: (JA_ s).1.length=g:=by rw[hP,JM_]
   generalize (JA_ s).1=pl at*
   have hg4:g≤4:=by omega
   have hC: ∀w',Hp w ((b5,Obj.cells (jq_ T v tt).toArray 146 (0,0)):: (br, .cells #[vs s,vi a3,vi e3] 162 (0,0)):: (b2,Obj.cells (jq_ id0 (.slice none 0 0) []).toArray 146 (0,0))::D) w'→ComS w' (.agg (jq_ T v tt).toArray) ⟨T,pl,tt⟩:=fun w' hw'=>
    ⟨v,rfl,hG.slM (fun b o hm=>hw'.has b o (by simp[hm])) hPl rfl wd_⟩
   have hNe:New w.heap.size ((b5,Obj.cells (jq_ T v tt).toArray 146 (0,0)):: (br, .cells #[vs s,vi a3,vi e3] 162 (0,0)):: (b2,Obj.cells (jq_ id0 (.slice none 0 0) []).toArray 146 (0,0))::D):=⟨hw5,hwr,hw2,New.mono (by omega) hN⟩
   have hR:adz_ s=if wl_ s a3 e3=0∧ZS_ ⟨T,pl,tt⟩=true∧comB ⟨T,pl,tt⟩=s then some ⟨T,pl,tt⟩ else none:=by unfold adz_;rw[hcE]
   have stz: ∀a E,zu_ (some (a,34)) (some (.cells (jq_ id0 (.slice none 0 0) []).toArray E (0,0))) 0 (.agg (jq_ id0 (.slice none 0 0) []).toArray)=some (.cells (jq_ id0 (.slice none 0 0) []).toArray E (0,0)):=st5
   unfold aj1_
   rw[hR]
   refine Ow.callFV rfl Tryz.call98 (fun w' hw'=>QQ_ br s a3 e3 w' (hw'.has _ _ (List.mem_cons_of_mem _ List.mem_cons_self))) ?_
   by_cases he:wl_ s a3 e3=0
   ·have d1: (wl_ s a3 e3 !=0)=false:=by simp[he]
    refine ko (And.intro @qP_ @d1) ?_
    refine Ow.callFV rfl Tryz.call105 (fun w' hw'=>Q0_ _ _ w' (hC w' hw') (by show pl.length<1000000;omega) (by show tt.length<1099511627776;omega)) ?_
    cases hr:ZS_ ⟨T,pl,tt⟩
    ·rw[if_neg (by simp)]
     refine ko @qP_ ?_
     refine Ow.build (.agg (jq_ id0 (.slice none 0 0) []).toArray) rfl wr_ ?_
     refine ko (And.intro @qP_ @stz) ?_
     first|with_reducible refine ks [] @qP_ ?_|refine kp @qP_ ?_
     refine⟨_,(ke @qP_), ?_⟩
     exact⟨Ext.of_new hNe,rfl⟩
    ·refine ko @qP_ ?_
     refine Ow.callFV rfl Tryz.call106 (fun w' hw'=>XL_ _ _ w' (hC w' hw') (by show pl.length<1000000;omega) (by show tt.length<1099511627776;omega)) ?_
     by_cases hb:comB ⟨T,pl,tt⟩=s
     ·have d3: (comB ⟨T,pl,tt⟩ !=s)=false:=by simp[hb]
      have stq: ∀a E,zu_ (some (a,34)) (some (.cells (jq_ id0 (.slice none 0 0) []).toArray E (0,0))) 0 (.agg (jq_ T v tt).toArray)=some (.cells (jq_ T v tt).toArray E (0,0)):=fun a E=>XR_ _ _ _ _ a E (by rw[List.size_toArray,ZC_]) hG.cell.1
      rw[if_pos ⟨he,rfl,hb⟩]
      refine ko (And.intro @qP_ (And.intro @d3 (@stq))) ?_
      first|with_reducible refine ks [] @qP_ ?_|refine kp @qP_ ?_
      refine⟨_,(ke @qP_), ?_⟩
      refine⟨Ext.of_new ⟨hw5,hwr,hw2,New.mono (by omega) hN⟩,v,rfl, ?_⟩
      show Gr _ _ _ _ pl.length (pl.map WQ_).flatten
      rw[hPl]
      exact hG.keep fun b o hb ho=>by
       have:=hN.le b (zg_ ho)
       simp(disch:=omega) only[kC_]
       exact ho
     ·have d3: (comB ⟨T,pl,tt⟩ !=s)=true:=by simp[hb]
      rw[if_neg (fun h=>hb h.2.2)]
      refine ko (And.intro @qP_ @d3) ?_
      refine Ow.build (.agg (jq_ id0 (.slice none 0 0) []).toArray) rfl wr_ ?_
      refine ko (And.intro @qP_ @stz) ?_
      first|with_reducible refine ks [] @qP_ ?_|refine kp @qP_ ?_
      refine⟨_,(ke @qP_), ?_⟩
      exact⟨Ext.of_new hNe,rfl⟩
   ·have d1: (wl_ s a3 e3 !=0)=true:=by simp[he]
    rw[if_neg (fun h=>he h.1)]
    refine ko (And.intro @qP_ @d1) ?_
    refine Ow.build (.agg (jq_ id0 (.slice none 0 0) []).toArray) rfl wr_ ?_
    refine ko (And.intro @qP_ @stz) ?_
    first|with_reducible refine ks [] @qP_ ?_|refine kp @qP_ ?_
    refine⟨_,(ke @qP_), ?_⟩
    exact⟨Ext.of_new hNe,rfl⟩
end Go.Proofs
end
section
open Go Go.Proofs Go.Sx Go.StP
namespace Go.Proofs
set_option maxRecDepth 10000
set_option maxHeartbeats 400000
set_option linter.unusedSimpArgs false
set_option linter.defProp false
end Go.Proofs
end
section
open Go Go.Proofs Go.Sx Go.StP
namespace Go.Proofs
set_option maxRecDepth 10000
set_option maxHeartbeats 400000
set_option linter.unusedSimpArgs false
set_option linter.defProp false
end Go.Proofs
end
section
open Go Go.Proofs Go.Sx Go.StP
namespace Go.Proofs
set_option maxRecDepth 10000
set_option maxHeartbeats 400000
set_option linter.unusedSimpArgs false
abbrev obV (k:Int) (t:List UInt8):Value:= .agg #[vi k,vs t]
theorem Qe_ (k:Int) (t:List UInt8) (E:TypeId) (fz:Nat×Nat):zk_ (some (true,2)) (some (.cells #[vi k,vs t] E fz)) 0=some (obV k t):=(rfl)
theorem wA_ (k:Int) (t:List UInt8) (n:Nat) (E:TypeId) (fz:Nat×Nat):zk_ (some (false,n)) (some (.cells #[vi k,vs t] E fz)) 0=some (vi k):=(rfl)
theorem wp_ (k:Int) (t:List UInt8) (n:Nat) (E:TypeId) (fz:Nat×Nat):zk_ (some (false,n)) (some (.cells #[vi k,vs t] E fz)) 1=some (vs t):=(rfl)
theorem wg_ (k k':Int) (t t':List UInt8) (a:Bool) (E:TypeId):zu_ (some (a,2)) (some (.cells #[vi k',vs t'] E (0,0))) 0 (obV k t)=some (.cells #[vi k,vs t] E (0,0)):=(rfl)
set_option linter.defProp false
def RdOk (k:Int) (t:List UInt8):Bool:=
 if 1≤k∧k≤3∧t.length≤4096 then
  (if k=1 then true else if k=2 then(wl_ t (ki_ t).2.1 (ki_ t).2.2==0&&vp_ (ki_ t).1) else(wl_ t (comE t).2.1 (comE t).2.2==0&&ZS_ (comE t).1))
 else false
end Go.Proofs
end
section
open Go Go.Proofs Go.Sx Go.StP
namespace Go.Proofs
set_option maxRecDepth 10000
set_option maxHeartbeats 400000
set_option linter.unusedSimpArgs false
set_option linter.defProp false
theorem zrOb:zK_ Tryz.prog 116=some (obV 0 []):=id (by kernel_rfl)
theorem v8_:qM_ (xX_ Tryz.prog 116) (zK_ Tryz.prog 116) []=some (obV 0 []):=by
 have hp:xX_ Tryz.prog 116=some [(0,1),(1,1)]:=id (by kernel_rfl)
 rw[hp,zrOb];rfl
end Go.Proofs
end
section
open Go Go.Proofs Go.Sx Go.StP
namespace Go.Proofs
set_option maxRecDepth 10000
set_option maxHeartbeats 400000
set_option linter.unusedSimpArgs false
set_option linter.defProp false
end Go.Proofs
end
section
open Go Go.Proofs Go.Sx Go.StP
namespace Go.Proofs
set_option maxRecDepth 10000
set_option maxHeartbeats 400000
set_option linter.unusedSimpArgs false
set_option linter.defProp false
end Go.Proofs
end
section
open Go Go.Proofs Go.Sx Go.StP
namespace Go.Proofs
set_option maxRecDepth 10000
set_option maxHeartbeats 400000
set_option linter.unusedSimpArgs false
set_option linter.defProp false
end Go.Proofs
end
section
open Go Go.Proofs Go.Sx Go.StP
namespace Go.Proofs
set_option maxRecDepth 10000
set_option maxHeartbeats 400000
set_option linter.unusedSimpArgs false
set_option linter.defProp false
def aqP_ (k:Int):List UInt8:=(([32,98,116,99]:List UInt8).take (k+1).toNat).drop k.toNat
def arb_ (k:Int) (t:List UInt8):List UInt8:=aqP_ k++Xw_ t
end Go.Proofs
end
section
open Go Go.Proofs Go.Sx Go.StP
namespace Go.Proofs
set_option maxRecDepth 10000
set_option maxHeartbeats 400000
set_option linter.unusedSimpArgs false
set_option linter.defProp false
def xZ_:=And.intro (And.intro (And.intro (@Qe_) (@wA_)) (And.intro (@wp_) (@wg_))) (And.intro (And.intro (@Sx.tup2_0) (@Sx.tup2_1)) (And.intro (@ZG_) (And.intro (@zn_) (@zm_))))
def xP_ (k:Int) (t:List UInt8):Bool:=if 4096<t.length then false else if k=2 then(acF_ t).isSome else if k=3 then(adz_ t).isSome else k==1
theorem JJ_ (k:Int) (t:List UInt8) (w:World):Rets Tryz.prog 52 #[obV k t] w (fun v D=>v= .bool (xP_ k t)∧D= []):=by
 refine Rets.enterV Tryz.func52 rfl (rs:= [.tmp 2]) Tryz.results52 Tryz.ntmps52 ?_
 refine kf ?_
 first|with_reducible refine ks [] @xZ_ ?_|refine kp @xZ_ ?_
 refine Ow.box rfl rfl fun b1 hb1 hw1=> ?_
 simp only[qm_,ql_,qu_,zh_,List.nil_append]
 refine ko @xZ_ ?_
 unfold xP_
 by_cases h3:4096<t.length
 ·have d1:decide (4096< (t.length:Int))=true:=decide_eq_true (by omega)
  rw[if_pos h3]
  first|with_reducible refine ks [] (And.intro @xZ_ @d1) ?_|refine kp (And.intro @xZ_ @d1) ?_
  refine⟨_,(ke @xZ_),⟨hw1,trivial⟩, ?_⟩
  rfl
 ·have d1:decide (4096< (t.length:Int))=false:=decide_eq_false (by omega)
  rw[if_neg h3]
  by_cases h2:k=2
  ·subst h2
   rw[if_pos rfl]
   first|with_reducible refine ks [] (And.intro @xZ_ @d1) ?_|refine kp (And.intro @xZ_ @d1) ?_
   refine Ow.callC rfl rfl Tryz.call81 (fun w' hw'=>WA_ t w' (by omega)) (fun B v D hA hB hN hS=> ?_)
   obtain⟨p,b,rfl,hb⟩: ∃p b,v= .tuple #[p, .bool b]∧(acF_ t).isSome=b:=by
    unfold ai8_ at hS
    cases h:acF_ t with
    |none=>rw[h] at hS;exact⟨_,_,hS,rfl⟩
    |some l=>rw[h] at hS;obtain⟨v1,rfl,-⟩:=hS;exact⟨_,_,rfl,rfl⟩
   rw[hb]
   refine ko @xZ_ ?_
   first|with_reducible refine ks [] @xZ_ ?_|refine kp @xZ_ ?_
   refine⟨_,(ke @xZ_),⟨hw1,New.mono hB hN⟩, ?_⟩
   rfl
  ·have d2: (k==2)=false:=by simpa using h2
   rw[if_neg h2]
   by_cases h4:k=3
   ·subst h4
    rw[if_pos rfl]
    first|with_reducible refine ks [] (And.intro @xZ_ (And.intro @d1 (@d2))) ?_|refine kp (And.intro @xZ_ (And.intro @d1 (@d2))) ?_
    refine Ow.callC rfl rfl Tryz.call82 (fun w' hw'=>Wc_ t w' (by omega)) (fun B v D hA hB hN hS=> ?_)
    obtain⟨c,p,x,b,rfl,hp,hb⟩: ∃c p x b,v= .tuple #[.agg (jq_ c p x).toArray, .bool b]∧Value.oneCell' p=true∧(adz_ t).isSome=b:=by
     unfold aj1_ at hS
     cases h:adz_ t with
     |none=>rw[h] at hS;exact⟨_,_,_,_,hS,rfl,rfl⟩
     |some l=>rw[h] at hS;obtain⟨v1,rfl,hg⟩:=hS;exact⟨_,_,_,_,rfl,hg.cell.1,rfl⟩
    rw[hb]
    have stq: ∀a E,zu_ (some (a,34)) (some (.cells (jq_ id0 (.slice none 0 0) []).toArray E (0,0))) 0 (.agg (jq_ c p x).toArray)=some (.cells (jq_ c p x).toArray E (0,0)):=fun a E=>XR_ _ _ _ _ a E (by rw[List.size_toArray,ZC_]) hp
    refine ko @xZ_ ?_
    refine Ow.alloc rfl rfl amY_ fun b5 hb5 hw5=> ?_
    simp only[zh_,List.nil_append,List.cons_append]
    refine Ow.permL (M:=(b5,Obj.cells (jq_ id0 (.slice none 0 0) []).toArray 146 (0,0)):: (b1,Obj.cells #[vi 3,vs t] 116 (0,0))::D) (by classical exact List.perm_iff_count.2 fun a=>by simp only[List.count_append,List.count_cons,List.count_nil]<;>omega) ?_
    refine ko (And.intro @xZ_ @stq) ?_
    first|with_reducible refine ks [] @xZ_ ?_|refine kp @xZ_ ?_
    refine⟨_,(ke @xZ_),⟨hw5,hw1,New.mono hB hN⟩, ?_⟩
    rfl
   ·have d3: (k==3)=false:=by simpa using h4
    rw[if_neg h4]
    first|with_reducible refine ks [] (And.intro @xZ_ (And.intro @d1 (And.intro @d2 (@d3)))) ?_|refine kp (And.intro @xZ_ (And.intro @d1 (And.intro @d2 (@d3)))) ?_
    refine⟨_,(ke @xZ_),⟨hw1,trivial⟩, ?_⟩
    rfl
end Go.Proofs
end
section
open Go Go.Proofs Go.Sx Go.StP
namespace Go.Proofs
set_option maxRecDepth 10000
set_option maxHeartbeats 400000
set_option linter.unusedSimpArgs false
theorem aeI_ (most:Int): ∀ (l:List UInt8) (k acc m k':Nat),qZ_ most l k acc= .ok (m,k')→ ∃n,l=numL n++l.drop (k' - k)∧m=acc+n*128^k∧(0<k→0<n)∧k<k':=by
 intro l
 induction l with
 |nil=>intro k acc m k' h;simp[qZ_] at h
 |cons c r ih=>
  intro k acc m k' h
  unfold qZ_ at h
  have hcl:=c.toNat_lt
  split at h
  ·rename_i hc
   split at h
   ·cases h
   ·obtain⟨n,h1,h2,h3,h4⟩:=ih _ _ _ _ h
    have hn:=h3 (by omega)
    refine⟨c.toNat%128+128*n, ?_, ?_,fun _=>by omega,by omega⟩
    ·rw[Jb_ (by omega),show(c.toNat%128+128*n) / 128=n by omega,show(c.toNat%128+128*n)%128+128=c.toNat by omega]
     rw[show k' - k=(k' - (k+1))+1 by omega,List.drop_succ_cons,List.cons_append,←h1]
     simp
    ·rw[h2,Nat.pow_succ,Nat.add_mul,Nat.add_assoc]
     congr 2
     rw[Nat.mul_comm 128 n,Nat.mul_assoc,Nat.mul_comm (128^k) 128]
  ·rename_i hc
   split at h
   ·cases h
   ·rename_i hz
    split at h
    ·cases h
     refine⟨c.toNat, ?_, ?_,fun hk=>by omega,by omega⟩
     ·rw[kA_ (by omega),Nat.add_sub_cancel_left]
      simp
     ·rw[Nat.mod_eq_of_lt (by omega)]
    ·cases h
theorem Qn_ {n:Nat} (h:n≤1099511627775):jS_ (n:Int)=n:=kS_ (by omega)
theorem QE_ (most:Int): ∀ (l:List UInt8) (k n m k':Nat),qZ_ most l k n= .ok (m,k')→m≤1099511627775
 | [],_,_,_,_,h=>by simp[qZ_] at h
 |c::r,k,n,m,k',h=>by
  unfold qZ_ at h
  split at h
  ·split at h
   ·cases h
   ·exact QE_ most r _ _ _ _ h
  ·split at h
   ·cases h
   ·split at h
    ·rename_i hh
     cases h
     exact hh.1
    ·cases h
theorem Z3_ {s:List UInt8} {a:Nat} {most:Int} (h: (zF_ s a 0 most).2.2=0): ∃n:Nat,(zF_ s a 0 most).1=(n:Int)∧n≤1099511627775∧(n:Int)≤most∧s.drop a=numL n++s.drop (zF_ s a 0 most).2.1:=by
 unfold zF_ at h ⊢
 rw[if_neg (by simp)] at h ⊢
 cases hg:qZ_ most (s.drop a) 0 0 with
 |ok p=>
  obtain⟨m,k⟩:=p
  obtain⟨n,h1,h2,-,-⟩:=aeI_ _ _ _ _ _ _ hg
  obtain rfl:m=n:=by rw[h2];simp
  refine⟨m,rfl,QE_ _ _ _ _ _ _ hg,wM_ _ _ _ _ _ _ hg, ?_⟩
  rw[Nat.sub_zero,List.drop_drop] at h1
  exact h1
 |error x=>
  rw[hg] at h
  exfalso
  have:x=0:=by have: ((x:Nat):Int)=0:=h;omega
  subst this
  exact ajo_ _ _ _ _ hg
theorem KT_ {s:List UInt8} {a:Nat} {n:Int} (ha:a≤s.length) (h: (jM_ s a 0 n).2.2=0):0≤n∧(jM_ s a 0 n).1.length=n.toNat∧s.drop a=(jM_ s a 0 n).1++s.drop (jM_ s a 0 n).2.1:=by
 unfold jM_ at h ⊢
 rw[if_neg (by simp)] at h ⊢
 split at h
 ·exact absurd (show(2:Int)=0 from h) (by decide)
 ·rename_i h1
  rw[if_neg h1]
  split at h
  ·exact absurd (show(3:Int)=0 from h) (by decide)
  ·rename_i h2
   rw[if_neg h2]
   refine⟨by omega, ?_, ?_⟩
   ·simp only[List.length_take,List.length_drop];omega
   ·simp only
    rw[←List.drop_drop,List.take_append_drop]
theorem Xt_ {s:List UInt8} {a:Nat} {most:Int} (ha:a≤s.length) (h: (zX_ s a 0 most).2.2=0): ((zX_ s a 0 most).1.length:Int)≤most∧s.drop a=Xw_ (zX_ s a 0 most).1++s.drop (zX_ s a 0 most).2.1:=by
 have hle:=q6_ (e:=0) (most:=most) ha
 have e1: (zF_ s a 0 most).2.2=0:=Decidable.byContradiction fun hn=>by
  unfold zX_ at h
  simp only[afG_ hn] at h
  rw[if_pos hn] at h
  exact hn h
 obtain⟨n,hn,hb,hm,hd⟩:=Z3_ e1
 unfold zX_ at h ⊢
 simp only at h ⊢
 generalize zF_ s a 0 most=p at*
 obtain⟨p1,p2,p3⟩:=p
 simp only at e1 hn hd hle h ⊢
 subst e1 hn
 have e2: (jM_ s p2 0 (n:Int)).2.2=0:=Decidable.byContradiction fun hh=>by rw[if_pos hh] at h;exact hh h
 rw[if_neg (by simp[e2])]
 obtain⟨-,hl,hr⟩:=KT_ hle.2 e2
 rw[Int.toNat_natCast] at hl
 refine⟨by rw[hl];exact hm, ?_⟩
 unfold Xw_
 rw[hl,Qn_ hb,List.append_assoc,←hr]
 exact hd
theorem JL_ {s:List UInt8} {a:Nat} (ha:a≤s.length) (h: (idR s a 0).2.2=0):s.drop a=(J3_ (idR s a 0).1).l++s.drop (idR s a 0).2.1:=by
 have e2: (jM_ s a 0 32).2.2=0:=h
 obtain⟨-,hl,hr⟩:=KT_ ha e2
 rw[Q9_ (WD_ s a 0)]
 unfold idR
 simp only
 have hl': (jM_ s a 0 32).1.length=32:=hl
 rw[if_pos hl']
 exact hr
theorem agj_ {s:List UInt8} {a:Nat} (ha:a≤s.length) (h: (Kb_ s a 0).2.2=0):s.drop a=entB (Kb_ s a 0).1++s.drop (Kb_ s a 0).2.1:=by
 have hq:=q6_ (e:=0) (most:=2) ha
 unfold Kb_ at h ⊢
 simp only at h ⊢
 have e1: (zF_ s a 0 2).2.2=0:=Decidable.byContradiction fun hn=>by
  rw[aiP_ (by rw[Ws_ hn];exact hn),Ws_ hn] at h;exact hn h
 obtain⟨n,hn,hb,-,hd⟩:=Z3_ e1
 generalize zF_ s a 0 2=p at*
 obtain⟨p1,p2,p3⟩:=p
 simp only at e1 hn hd hq h ⊢
 subst e1 hn
 have ht:=k7_ (e:=0) (most:=32) hq.2
 have e2: (zX_ s p2 0 32).2.2=0:=Decidable.byContradiction fun hn=>by rw[aiP_ hn] at h;exact hn h
 obtain⟨-,hd2⟩:=Xt_ hq.2 e2
 generalize zX_ s p2 0 32=q at*
 obtain⟨q1,q2,q3⟩:=q
 simp only at e2 hd2 ht h ⊢
 subst e2
 have hd3:=JL_ ht.2 h
 unfold entB
 simp only
 rw[Qn_ hb,List.append_assoc,List.append_assoc,←hd3,←hd2]
 exact hd
theorem agz_ (l:List EntL) (x:EntL):kl_ (l++ [x])=kl_ l++entB x:=by unfold kl_;simp
theorem Qu_ {s:List UInt8}: ∀ (n a:Nat) (e:Int) (l:List EntL),a≤s.length→(e=0→s=kl_ l++s.drop a)→((x8_ s n a e l).2.2=0→s=kl_ (x8_ s n a e l).1++s.drop (x8_ s n a e l).2.1)
 |0,_,_,_,_,h=>h
 |n+1,a,e,l,ha,h=>by
  by_cases hc:e=0∧a<s.length
  ·rw[JQ_ hc]
   refine Qu_ n _ _ _ (adZ_ ha).2 fun h0=> ?_
   obtain⟨rfl,-⟩:=hc
   rw[agz_,List.append_assoc,←agj_ ha h0]
   exact h rfl
  ·rw[ZY_ hc]
   exact h
theorem JN_ {s:List UInt8} {a:Nat} {e:Int} (h:wl_ s a e=0):e=0∧s.length≤a:=by
 unfold wl_ at h
 split at h
 ·rename_i he;exact absurd h he
 ·rename_i he
  split at h
  ·exact absurd h (by decide)
  ·exact⟨Decidable.byContradiction he,by omega⟩
theorem adA_ {s:List UInt8} (h:wl_ s (ki_ s).2.1 (ki_ s).2.2=0):kl_ (ki_ s).1=s:=by
 obtain⟨h1,h2⟩:=JN_ h
 have:=Qu_ (s:=s) (s.length+1) 0 0 [] (Nat.zero_le _) (fun _=>by simp[kl_]) h1
 rw[show x8_ s (s.length+1) 0 0 []=ki_ s from rfl,List.drop_eq_nil_of_le h2,List.append_nil] at this
 exact this.symm
theorem Xh_ {s:List UInt8}: ∀ (n a:Nat) (e:Int) (l:List EntL),a≤s.length→(e=0→s.length<a+n)→(x8_ s n a e l).2.2=0→s.length≤ (x8_ s n a e l).2.1
 |0,a,e,l,ha,hf,h=>by have:=hf h;show s.length≤a;omega
 |n+1,a,e,l,ha,hf,h=>by
  by_cases hc:e=0∧a<s.length
  ·rw[JQ_ hc] at h ⊢
   refine Xh_ n _ _ _ (adZ_ ha).2 (fun h0=> ?_) h
   obtain⟨rfl,-⟩:=hc
   have:=ah3_ ha h0
   have:=hf rfl
   omega
  ·rw[ZY_ hc] at h ⊢
   have h':e=0:=h
   exact Decidable.byContradiction fun hn=>hc ⟨h',by have hn': ¬s.length≤a:=hn;omega⟩
theorem aaJ_ (s:List UInt8): (wl_ s (ki_ s).2.1 (ki_ s).2.2=0)↔(ki_ s).2.2=0:=by
 refine⟨fun h=>(JN_ h).1,fun h=> ?_⟩
 have:=Xh_ (s:=s) (s.length+1) 0 0 [] (Nat.zero_le _) (fun _=>by omega) h
 have h2:s.length≤ (ki_ s).2.1:=this
 unfold wl_
 rw[if_neg (by simp[h]),if_neg (by omega)]
theorem aiu_ (l:List IdL) (x:IdL):idsB (l++ [x])=idsB l++x.l:=by unfold idsB;simp
theorem J0_ {s:List UInt8} {a:Nat} (ha:a≤s.length): ∀n,(qs_ s a 0 n).2.2=0→s.drop a=idsB (qs_ s a 0 n).1++s.drop (qs_ s a 0 n).2.1
 |0,_=>by simp[qs_,idsB]
 |n+1,h=>by
  unfold qs_ at h ⊢
  simp only at h ⊢
  have e1: (qs_ s a 0 n).2.2=0:=Decidable.byContradiction fun hn=>by rw[aiP_ hn] at h;exact hn h
  have ih:=J0_ ha n e1
  have hl:=Jl_ (e:=0) ha n
  generalize qs_ s a 0 n=p at*
  obtain⟨p1,p2,p3⟩:=p
  simp only at e1 ih hl h ⊢
  subst e1
  rw[aiu_,List.append_assoc,←JL_ hl h]
  exact ih
theorem ako_ {s:List UInt8} {a:Nat} {e:Int} (he:e≠0): ∀n,(qs_ s a e n).2=(a,e)
 |0=>rfl
 |n+1=>by
  have ih:=ako_ (s:=s) (a:=a) he n
  unfold qs_
  simp only
  rw[ih,aiP_ he]
theorem agJ_ {s:List UInt8} (h:wl_ s (comE s).2.1 (comE s).2.2=0):comB (comE s).1=s:=by
 obtain⟨h1,h2⟩:=JN_ h
 have ip:=aa8_ (s:=s) (a:=0) (e:=0) (Nat.zero_le _)
 have np:=q6_ (e:=(idR s 0 0).2.2) (most:=4) ip.2
 unfold comE at h1 h2 ⊢
 simp only at h1 h2 ⊢
 have e3: (JA_ s).2.2=0:=Decidable.byContradiction fun hn=>by unfold comT at h1;rw[Ws_ hn] at h1;exact hn h1
 have e2: (comN s).2.2=0:=Decidable.byContradiction fun hn=>by unfold JA_ at e3;rw[ako_ hn] at e3;exact hn e3
 have e1: (idR s 0 0).2.2=0:=Decidable.byContradiction fun hn=>by unfold comN at e2;rw[aku_ hn] at e2;exact hn e2
 have d1:=JL_ (Nat.zero_le _) e1
 rw[e1] at np
 have hcN:comN s=zF_ s (idR s 0 0).2.1 0 4:=by unfold comN;rw[e1]
 rw[hcN] at e2
 obtain⟨n,hn,hb,-,d2⟩:=Z3_ e2
 have hcP:JA_ s=qs_ s (comN s).2.1 0 n:=by unfold JA_;rw[hcN,e2,hn,Int.toNat_natCast]
 have hp: (comN s).2.1≤s.length:=by rw[hcN];exact np.2
 rw[hcP] at e3
 have d3:=J0_ hp n e3
 have hpl: (JA_ s).1.length=n:=by rw[hcP,JM_]
 have hcT:comT s=zX_ s (JA_ s).2.1 0 64:=by unfold comT;rw[hcP,e3]
 have hle: (JA_ s).2.1≤s.length:=by rw[hcP];exact Jl_ hp n
 rw[hcT] at h1
 obtain⟨-,d4⟩:=Xt_ hle h1
 rw[←hcT] at d4
 rw[←hcP] at d3
 rw[←hcN] at d2
 unfold comB acZ_
 simp only
 rw[hpl,Qn_ hb]
 rw[List.drop_eq_nil_of_le h2,List.append_nil] at d4
 rw[List.append_assoc,List.append_assoc,←d4,←d3,←d2,←d1]
 rfl
theorem K8_ (k:Int) (t:List UInt8):RdOk k t=xP_ k t:=by
 unfold RdOk xP_
 by_cases h4:4096<t.length
 ·rw[if_neg (by omega),if_pos h4]
 ·rw[if_neg h4]
  by_cases h2:k=2
  ·subst h2
   rw[if_pos (by omega),if_neg (by decide),if_pos rfl,if_pos rfl]
   unfold acF_
   by_cases hz:wl_ t (ki_ t).2.1 (ki_ t).2.2=0
   ·have:=adA_ hz
    have h1:=(aaJ_ t).1 hz
    rw[hz]
    cases ho:vp_ (ki_ t).1
    ·rw[if_neg (fun h=>by cases h.2.1)];rfl
    ·rw[if_pos ⟨h1,rfl,this⟩];rfl
   ·have h': ¬ (ki_ t).2.2=0:=fun h=>hz ((aaJ_ t).2 h)
    simp[hz,h']
  ·by_cases h3:k=3
   ·subst h3
    rw[if_pos (by omega),if_neg (by decide),if_neg (by decide),if_neg (by decide),if_pos rfl]
    unfold adz_
    by_cases hz:wl_ t (comE t).2.1 (comE t).2.2=0
    ·have:=agJ_ hz
     cases ho:ZS_ (comE t).1<;>simp[hz,this]
    ·simp[hz]
   ·rw[if_neg h2,if_neg h3]
    by_cases h1:k=1
    ·subst h1
     rw[if_pos (by omega)];rfl
    ·rw[if_neg (by omega)]
     simp[h1,h2]
end Go.Proofs
end
section
open Go Go.Proofs Go.Sx Go.StP
namespace Go.Proofs
set_option maxRecDepth 10000
set_option maxHeartbeats 400000
set_option linter.unusedSimpArgs false
def idxT (s:List UInt8):List UInt8→Int
 | []=>0
 |c::_=>Lib.indexByte s c
abbrev letL:List UInt8:= [32,98,116,99]
def frR (s:List UInt8):List UInt8×Nat×Int:=jM_ s 0 0 1
def frT (s:List UInt8):List UInt8×Nat×Int:=zX_ s (frR s).2.1 (frR s).2.2 4096
def frK (s:List UInt8):Int:=idxT letL (frR s).1
def frOk (s:List UInt8):Bool:=wl_ s (frT s).2.1 (frT s).2.2==0&&RdOk (frK s) (frT s).1
set_option linter.defProp false
end Go.Proofs
end
section
open Go Go.Proofs Go.Sx Go.StP
namespace Go.Proofs
set_option maxRecDepth 10000
set_option maxHeartbeats 400000
set_option linter.unusedSimpArgs false
def fkC (c:UInt8):Int:=if c=98 then 1 else if c=116 then 2 else if c=99 then 3 else 0
def lfT (r:List UInt8):List UInt8×Nat×Int:=zX_ r 0 0 4096
def lfK (s:List UInt8):Int:=match s with| []=>0|c::_=>fkC c
def lfOk (s:List UInt8):Bool:=lfK s !=0&&wl_ (s.drop 1) (lfT (s.drop 1)).2.1 (lfT (s.drop 1)).2.2==0&&xP_ (lfK s) (lfT (s.drop 1)).1
def anK_ (s:List UInt8) (v:Value):Prop:=v= .tuple #[obV (if lfOk s then lfK s else 0) (if lfOk s then(lfT (s.drop 1)).1 else []), .bool (lfOk s)]
theorem akI_ (k k':Int) (t:List UInt8) (a:Bool) (E:TypeId):zu_ (some (a,1)) (some (.cells #[vi k',vs t] E (0,0))) 0 (vi k)=some (.cells #[vi k,vs t] E (0,0)):=(rfl)
theorem akC_ (k:Int) (t t':List UInt8) (a:Bool) (E:TypeId):zu_ (some (a,1)) (some (.cells #[vi k,vs t'] E (0,0))) 1 (vs t)=some (.cells #[vi k,vs t] E (0,0)):=(rfl)
set_option linter.defProp false
def qq_:=And.intro (And.intro (And.intro (@Qe_) (@wA_)) (And.intro (@wp_) (And.intro (@wg_) (@akI_)))) (And.intro (And.intro (@akC_) (@Sx.tup2_0)) (And.intro (@Sx.tup2_1) (And.intro (@zn_) (@zm_))))
theorem Vp_ (s:List UInt8) (w:World) (hs:s.length<1099511627776):Rets Tryz.prog 79 #[vs s] w (fun v D=>anK_ s v∧D= []):=by
 refine Rets.enterV Tryz.func79 rfl (rs:= [.cell 2 116, .tmp 3]) Tryz.results79 Tryz.ntmps79 ?_
 refine kf ?_
 first|with_reducible refine ks [1000004] @qq_ ?_|refine kp @qq_ ?_
 refine Ow.alloc rfl rfl zrOb fun b2 hb2 hw2=> ?_
 simp only[zh_,List.nil_append,List.cons_append]
 refine ko @qq_ ?_
 by_cases hl:s.length=0
 ·obtain rfl:s= []:=List.eq_nil_of_length_eq_zero hl
  have d1: (((([]:List UInt8).length:Nat):Int)==0)=true:=rfl
  first|with_reducible refine ks [] (And.intro @qq_ @d1) ?_|refine kp (And.intro @qq_ @d1) ?_
  refine Ow.build (obV 0 []) rfl v8_ ?_
  refine ko @qq_ ?_
  first|with_reducible refine ks [] @qq_ ?_|refine kp @qq_ ?_
  refine⟨_,(ke @qq_),⟨hw2,trivial⟩, ?_⟩
  rfl
 ·have d1: ((s.length:Int)==0)=false:=beq_eq_false_iff_ne.2 (by omega)
  obtain⟨c,r,rfl⟩: ∃c r,s=c::r:=by cases s with|nil=>exact absurd rfl hl|cons c r=>exact⟨c,r,rfl⟩
  have hd1: (c::r).drop 1=r:=rfl
  have g0: (c::r).getD 0 0=c:=rfl
  have hlen: (c::r).length=r.length+1:=rfl
  have hrl:r.length<1099511627775:=by omega
  first|with_reducible refine ks [] (And.intro @qq_ @d1) ?_|refine kp (And.intro @qq_ @d1) ?_
  refine Ow.build (obV 0 []) rfl v8_ ?_
  refine ko @qq_ ?_
  refine Ow.alloc rfl rfl zrOb fun b4 hb4 hw4=> ?_
  simp only[zh_,List.nil_append,List.cons_append]
  have h24:b2<b4:=zx_ hb4 (by simp[keys])
  have ht:=k7_ (s:=r) (a:=0) (e:=0) (most:=4096) (Nat.zero_le _)
  have hLT:lfT r=zX_ r 0 0 4096:=rfl
  have hO:lfOk (c::r)=(fkC c !=0&&wl_ r (lfT r).2.1 (lfT r).2.2==0&&xP_ (fkC c) (lfT r).1):=rfl
  have hK:lfK (c::r)=fkC c:=rfl
  unfold anK_
  rw[hK,hd1]
  have htx: (zX_ r 0 0 4096).1.length≤r.length:=JC_ _ _ _ _
  have hf0:fkC c=0∨fkC c=1∨fkC c=2∨fkC c=3:=by
   unfold fkC;split<;>(try split)<;>(try split)<;>simp
  refine ko @qq_ ?_
  first|with_reducible refine ks [1000004] (And.intro @qq_ @g0) ?_|refine kp (And.intro @qq_ @g0) ?_
  refine Cw.cut (G:=Int) 40 (fun g=> [(0,vs (c::r)),(2,vp b2 0),(3, .bool false),(4,vp b4 0)]) (fun g=> [(b2,Obj.cells #[vi 0,vs []] 116 (0,0)),(b4,Obj.cells #[vi g,vs []] 116 (0,0))]) (fun g=>g=fkC c∧g≠0) ?_ ?_
  ·by_cases c1:c=98
   ·subst c1
    first|with_reducible refine ks [] (And.intro @qq_ @g0) ?_|refine kp (And.intro @qq_ @g0) ?_
    exact CutM.mk 1 ⟨rfl,by decide⟩ rfl rfl
   ·have e1: (c==98)=false:=by simpa using c1
    by_cases c2:c=116
    ·subst c2
     first|with_reducible refine ks [] (And.intro @qq_ (And.intro @e1 (@g0))) ?_|refine kp (And.intro @qq_ (And.intro @e1 (@g0))) ?_
     exact CutM.mk 2 ⟨rfl,by decide⟩ rfl rfl
    ·have e2: (c==116)=false:=by simpa using c2
     by_cases c3:c=99
     ·subst c3
      first|with_reducible refine ks [] (And.intro @qq_ (And.intro @e1 (And.intro @e2 (@g0)))) ?_|refine kp (And.intro @qq_ (And.intro @e1 (And.intro @e2 (@g0)))) ?_
      exact CutM.mk 3 ⟨rfl,by decide⟩ rfl rfl
     ·have e3: (c==99)=false:=by simpa using c3
      have hk:fkC c=0:=by unfold fkC;rw[if_neg c1,if_neg c2,if_neg c3]
      rw[hk] at hO ⊢
      rw[hO]
      first|with_reducible refine ks [] (And.intro @qq_ (And.intro @e1 (And.intro @e2 (And.intro @e3 (@g0))))) ?_|refine kp (And.intro @qq_ (And.intro @e1 (And.intro @e2 (And.intro @e3 (@g0))))) ?_
      refine Ow.build (obV 0 []) rfl v8_ ?_
      refine ko @qq_ ?_
      first|with_reducible refine ks [] @qq_ ?_|refine kp @qq_ ?_
      refine⟨_,(ke @qq_),⟨hw2,hw4,trivial⟩, ?_⟩
      rfl
  ·intro g j hg
   simp only[aqI_,aqt_,pin,vq_,vs_,Nat.reduceAdd]
   obtain⟨rfl,hk0⟩:=hg
   have d0: (fkC c !=0)=true:=by simpa using hk0
   rw[d0,Bool.true_and] at hO
   generalize fkC c=k at hO ⊢
   first|with_reducible refine ks [] (And.intro @qq_ @hd1) ?_|refine kp (And.intro @qq_ @hd1) ?_
   refine Ow.build (.agg #[vs r,vi 0,vi 0]) rfl (aik_ r) ?_
   refine ko @qq_ ?_
   refine Ow.box rfl rfl fun br hbr hwr=> ?_
   have h2r:b2<br:=zx_ hbr (by simp[keys])
   have h4r:b4<br:=zx_ hbr (by simp[keys])
   simp only[qm_,ql_,qu_,zh_,List.nil_append,List.cons_append]
   refine ko @qq_ ?_
   refine Ow.callM rfl rfl Tryz.call97 (by simp[keys]) (fun w' hw'=>kc_ br r 0 0 4096 w' (Nat.zero_le _) (by omega) (hw'.has _ _ (by simp))) ?_
   rw[←hLT] at ht htx ⊢
   generalize lfT r=q at*
   obtain⟨tt,a2,e2⟩:=q
   simp only at hO ht htx ⊢
   refine kn ?_
   refine ko @qq_ ?_
   refine Ow.callFV rfl Tryz.call98 (fun w' hw'=>QQ_ br r a2 e2 w' (hw'.has _ _ (by simp))) ?_
   by_cases he:wl_ r a2 e2=0
   ·have d5: (wl_ r a2 e2 !=0)=false:=by simp[he]
    have d6: (wl_ r a2 e2==0)=true:=by simp[he]
    rw[d6,Bool.true_and] at hO
    rw[hO]
    refine ko (And.intro @qq_ @d5) ?_
    refine Ow.callFV rfl Tryz.call52 (fun w' hw'=>JJ_ k tt w') ?_
    cases hr:xP_ k tt
    ·refine ko @qq_ ?_
     refine Ow.build (obV 0 []) rfl v8_ ?_
     refine ko @qq_ ?_
     first|with_reducible refine ks [] @qq_ ?_|refine kp @qq_ ?_
     refine⟨_,(ke @qq_),⟨hw2,hw4,hwr,trivial⟩, ?_⟩
     rfl
    ·refine ko @qq_ ?_
     first|with_reducible refine ks [] @qq_ ?_|refine kp @qq_ ?_
     refine⟨_,(ke @qq_),⟨hw2,hw4,hwr,trivial⟩, ?_⟩
     rfl
   ·have d5: (wl_ r a2 e2 !=0)=true:=by simpa using he
    have d6: (wl_ r a2 e2==0)=false:=by simpa using he
    rw[d6,Bool.false_and] at hO
    rw[hO]
    refine ko (And.intro @qq_ @d5) ?_
    refine Ow.build (obV 0 []) rfl v8_ ?_
    refine ko @qq_ ?_
    first|with_reducible refine ks [] @qq_ ?_|refine kp @qq_ ?_
    refine⟨_,(ke @qq_),⟨hw2,hw4,hwr,trivial⟩, ?_⟩
    rfl
end Go.Proofs
end
