/-
  Part 1 of the walk: contracts of the functions that the law reaches, and the calculus they stand on.
  No conditions.
-/
import Derived.Test.YtjjiclcgdngfdaaGreatDoorV0
import Derived.Maps.RangeRun
import Derived.RangeFuncLeaves
import Derived.RangeFuncIn
import Derived.RangeFuncSeq
import Derived.RangeFuncRecord
import Derived.TacticsIn
import Derived.Test.YtjjiclcgdngfdaaGreatDoorProg
import Derived.Lib.Small
import Derived.Lib.Walk
import Derived.Lib.Bytealg
import Derived.Deep.Draws
import Derived.Deep.QuietTactic
import Derived.Lib.Strings
namespace Go.Sx
open Go
section
variable {P:Program} {w0:World} {f:Fr} {L:aA} {N:Fr→aA→Prop} {ops:Array Oper} {rest:List Oper} {md:Md}
 {d:Option Tmp} {ty:TypeId} {ps:String} {af:Array Edge} {g:Option (Nat×Bool)}
theorem Fl {w0:World} {L:aA} {b c:Nat} {x:Obj} (h:b≠c):aM w0 (setB L b x) c=aM w0 L c:=by
 unfold aM;rw[bH h]
end
structure Ext (w:World) (X D:aA):Prop where
 new: ∀c,c∈keys D→c∈keys X∨w.heap.size≤c
 all: ∀c,c∈keys X→c∈keys D
theorem Ext.refl (w:World) (X:aA):Ext w X X:=⟨fun _ h=> .inl h,fun _ h=>h⟩
theorem Ext.setB {w:World} {X D:aA} {b:Nat} {o:Obj} (h:Ext w X D):Ext w X (setB D b o):=⟨fun c hc=>h.new c (by rwa [j9] at hc),fun c hc=>by rw[j9];exact h.all c hc⟩
theorem Ext.app {w:World} {X D:aA} {b:Nat} {o:Obj} (h:Ext w X D) (hb:w.heap.size≤b):Ext w X (D++ [(b,o)]):=
 ⟨fun c hc=>by
  rw[bO] at hc
  rcases List.mem_append.1 hc with hc|hc
  ·exact h.new c hc
  ·simp only[keys,List.map_cons,List.map_nil,List.mem_singleton] at hc
   exact .inr (hc▸hb),fun c hc=>by rw[bO];exact List.mem_append_left _ (h.all c hc)⟩
theorem Ext.grew {w:World} {X D D':aA} {v:Value} (h:Ext w X D) (hg:Grew w v D D'):Ext w X D':=
 ⟨fun c hc=>by
  rcases hg.new c hc with hc| ⟨-,hc⟩
  ·exact h.new c hc
  ·exact .inr hc,fun c hc=>hg.keys c (h.all c hc)⟩
theorem Ext.keys {w:World} {X D D':aA} (h:Ext w X D) (hk:Sx.keys D'=Sx.keys D):Ext w X D':=⟨fun c hc=>h.new c (hk▸hc),fun c hc=>hk▸h.all c hc⟩
theorem j7 {w0:World} {L:aA} {b:Nat} (h:b∉Sx.keys L):aM w0 L b=w0.heap[b]? :=by
 unfold aM
 cases hl:look L b with
 |none=>rfl
 |some o=>exact absurd (bV hl) h
theorem Ext.not {w:World} {X D:aA} (h:Ext w X D) {b:Nat} (hb:b<w.heap.size) (hn:b∉Sx.keys X):b∉Sx.keys D:=fun hm=>by
 rcases h.new b hm with h|h
 ·exact hn h
 ·omega
theorem Ext.old {w:World} {X D:aA} (h:Ext w X D) {b:Nat} {o:Obj} (hb:w.heap[b]? =some o) (hn:b∉Sx.keys X):aM w D b=some o:=by
 rw[j7 (h.not (Array.getElem?_eq_some_iff.1 hb).1 hn)];exact hb
def XS (w:World) (X:aA) (S:Value→aA→Prop) (v:Value) (D:aA):Prop:=Ext w X D∧S v D
structure Came (w0:World) (L X D:aA):Prop where
 new: ∀c,c∈Sx.keys D→c∈Sx.keys X∨(eG L c∧w0.heap.size≤c)
 all: ∀c,c∈Sx.keys X→c∈Sx.keys D
theorem Ext.came {w:World} {X D D' Y L:aA} (h:Ext w X (D++Y)) (hc:Came w L D D'):Ext w X (D'++Y):=by
 refine⟨fun c hm=> ?_,fun c hm=> ?_⟩
 ·rw[bO] at hm
  rcases List.mem_append.1 hm with hm|hm
  ·rcases hc.new c hm with hm| ⟨-,hm⟩
   ·exact h.new c (by rw[bO];exact List.mem_append_left _ hm)
   ·exact .inr hm
  ·exact h.new c (by rw[bO];exact List.mem_append_right _ hm)
 ·have:=h.all c hm
  rw[bO] at this ⊢
  rcases List.mem_append.1 this with hm|hm
  ·exact List.mem_append_left _ (hc.all c hm)
  ·exact List.mem_append_right _ hm
theorem Ext.came0 {w:World} {X D D' L:aA} (h:Ext w X D) (hc:Came w L D D'):Ext w X D':=by
 have:=Ext.came (Y:= []) (by simpa using h) hc
 simpa using this
theorem Hp.ownX {w0 w:World} {X:aA} (h:Hp w0 [] w) (hX: ∀p,p∈X→w0.heap[p.1]? =some p.2) (hn: (keys X).Nodup):Hp w0 X w:=by
 refine⟨fun b o hm=> ?_,hn,fun b hb _=>h.old b hb (by simp[keys]),h.size,h.tape,h.os,h.output⟩
 have:=hX (b,o) hm
 simp only at this
 rw[h.old b (Array.getElem?_eq_some_iff.1 this).1 (by simp[keys])]
 exact this
theorem Rets.enterX {P:Program} {k:FuncId} {fn:Func} {c:Code} {rs:List ResultVar} {args:Array Value} {w:World} {S:Value→aA→Prop} {n:Nat} {X:aA}
  (hf:P.funcs[k]? =some fn) (hb:fn.body=some c) (hr:fn.results=rs.toArray) (hn:fn.ntmps=n) (hX: ∀p,p∈X→w.heap[p.1]? =some p.2) (av: (keys X).Nodup)
  (h:Cw P w c (args.toList++List.replicate (n - args.size) undef) X (retK P w rs (XS w X S))):Rets P k args w (XS w X S):=
 Rets.enter hf hb hr hn fun w' aB=>h w' (aB.ownX hX av)
section
variable {P:Program} {w0:World} {f:Fr} {L:aA} {N:Fr→aA→Prop} {ops:Array Oper} {rest:List Oper} {md:Md}
 {d:Option Tmp} {ty:TypeId} {ps:String} {af:Array Edge} {g:Option (Nat×Bool)}
theorem Ow.callX {l:List Operand} {ts:Array TypeId} {k:FuncId} {X Y:aA} {S:Value→aA→Prop} {md':Md} (hL:L=X++Y) (he:md.turn=some md')
  (hs:bM ops f ⟨d, .call ⟨.value (.func k),l.toArray,ts⟩,ty,ps,af,g⟩=false)
  (hk: ∀a w,(callFunc k a).run P w= .ok (.enter k a) w)
  (hc: ∀w,Hp w0 L w→(∀p,p∈X→w.heap[p.1]? =some p.2)→(keys X).Nodup→Rets P k (l.map (ev f)).toArray w (XS w X S))
  (hn: ∀v D,Came w0 L X D→S v D→Ow P w0 ops md' rest (aW f d v) (D++Y) N):
  Ow P w0 ops md (⟨d, .call ⟨.value (.func k),l.toArray,ts⟩,ty,ps,af,g⟩::rest) f L N:=by
 subst hL
 have av: ∀w,Hp w0 (X++Y) w→(keys X).Nodup∧ ∀c,c∈keys Y→c∉keys X:=by
  intro w hw
  have:=hw.nodup
  rw[bO,List.nodup_append] at this
  exact⟨this.1,fun c hc hx=>this.2.2 c hx c hc rfl⟩
 refine Ow.callF (S:=fun B v D=>((∀c,c∈keys D→c∈keys X∨B≤c)∧(∀c,c∈keys X→c∈keys D)∧S v D)∧ ∃w,Hp w0 (X++Y) w∧w.heap.size=B) he hs hk (fun w hw=> ?_) ?_
 ·refine Calls.mono (hc w hw (fun p hp=>hw.has _ _ (List.mem_append_left _ hp)) (av w hw).1) ?_
  rintro e w' ⟨v,D,he,hp,hS⟩
  exact⟨v,D,he,hp,⟨hS.1.new,hS.1.all,hS.2⟩,w,hw,rfl⟩
 ·rintro B v D jF hB ⟨⟨h1,h2,h3⟩,w1,aJ,XB⟩
  refine⟨D++Y, ?_,hn v D ⟨fun c hc=>(h1 c hc).imp id fun h=>⟨gi fun b hb=>by have:=aJ.lt hb;omega,by have:=aJ.size;omega⟩,h2⟩ h3⟩
  intro w w' XC h k
  have ht:=h.trans k
  have hY: ∀c,c∈keys Y→c∉keys D:=by
   intro c hc hd
   rcases h1 c hd with hx|hx
   ·exact(av w h).2 c hc hx
   ·have:=h.lt (b:=c) (by rw[bO];exact List.mem_append_right _ hc)
    omega
  have e1:X.filter (fun p=> !(keys D).contains p.1)= []:=by
   rw[List.filter_eq_nil_iff]
   intro p hp
   have:=h2 p.1 (List.mem_map.2 ⟨p,hp,rfl⟩)
   simpa using this
  have e2:Y.filter (fun p=> !(keys D).contains p.1)=Y:=Bc hY
  rw[List.filter_append,e1,e2,List.nil_append] at ht
  refine ht.same (fun p=>by simp[or_comm]) ?_
  have:=ht.nodup
  rw[bO] at this ⊢
  exact(List.perm_append_comm.nodup_iff).1 this
end
structure OneS {α:Type} (enc:α→Value) (z:α) (w:World) (v:Value) (l:List α) (b off:Nat) (arr:Array Value) (E:TypeId) (fz:Nat×Nat):Prop where
 len: ∀m,fe (.sl m) v=some (vi l.length)
 idx: ∀m (k:Nat),k<l.length→jX (.sl m) v (some (k:Int))=some (vp b (off+k*m.2))
 has:0<l.length→w.heap[b]? =some (.cells arr E fz)
 get: ∀k,k<l.length→arr[off+k]? =some (enc (l.getD k z))
theorem OneS.sl {α:Type} {enc:α→Value} {z:α} {w:World} {l:List α} {b off n c:Nat} {arr:Array Value} {E:TypeId} {fz:Nat×Nat} (hn:n=l.length)
  (has:w.heap[b]? =some (.cells arr E fz)) (get: ∀k,k<l.length→arr[off+k]? =some (enc (l.getD k z))):OneS enc z w (vsl b off n c) l b off arr E fz:=by
 subst hn
 exact⟨fun _=>rfl,fun m k h=>by rw[ox _ _ _ _ _ _ (by omega)];simp,fun _=>has,get⟩
theorem OneS.lit {α:Type} {enc:α→Value} {z:α} {w:World} {b n c:Nat} {E:TypeId} {fz:Nat×Nat} {arr:Array Value} (l:List α) (hn:n=l.length) (ha:arr=(l.map enc).toArray) (has:w.heap[b]? =some (.cells arr E fz)):OneS enc z w (vsl b 0 n c) l b 0 arr E fz:=
 OneS.sl hn has (by intro k hk;rw[ha,Nat.zero_add,List.getElem?_toArray,List.getElem?_map,List.getD_eq_getElem?_getD,List.getElem?_eq_getElem hk];rfl)
structure RowS {α:Type} (m:Nat) (enc:α→List Value) (z:α) (w:World) (v:Value) (l:List α) (b off:Nat) (arr:Array Value) (E:TypeId) (fz:Nat×Nat):Prop where
 len: ∀x,fe (.sl x) v=some (vi l.length)
 idx: ∀a (k:Nat),k<l.length→jX (.sl (a,m)) v (some (k:Int))=some (vp b (off+k*m))
 has:0<l.length→w.heap[b]? =some (.cells arr E fz)
 get: ∀k,k<l.length→ ∀j,j<m→arr[off+k*m+j]? =(enc (l.getD k z))[j]?
theorem RowS.sl {α:Type} {m:Nat} {enc:α→List Value} {z:α} {w:World} {l:List α} {b off n c:Nat} {arr:Array Value} {E:TypeId} {fz:Nat×Nat} (hn:n=l.length)
  (has:w.heap[b]? =some (.cells arr E fz)) (get: ∀k,k<l.length→ ∀j,j<m→arr[off+k*m+j]? =(enc (l.getD k z))[j]?):RowS m enc z w (vsl b off n c) l b off arr E fz:=by
 subst hn
 exact⟨fun _=>rfl,fun a k h=>by rw[ox _ _ _ _ _ _ (by omega)];simp,fun _=>has,get⟩
theorem RowS.nil {α:Type} {m:Nat} {enc:α→List Value} {z:α} (w:World) (n c:Nat) (hn:n=0):RowS m enc z w (.slice none n c) [] 0 0 #[] 0 (0,0):=by
 subst hn
 exact⟨fun _=>rfl,fun _ _ h=>absurd h (Nat.not_lt_zero _),fun h=>absurd h (Nat.not_lt_zero _),fun _ h=>absurd h (Nat.not_lt_zero _)⟩
theorem RowS.load {α:Type} {m:Nat} {enc:α→List Value} {z:α} {w:World} {v:Value} {l:List α} {b off:Nat} {arr:Array Value} {E:TypeId} {fz:Nat×Nat} (h:RowS m enc z w v l b off arr E fz) (hm: ∀x,(enc x).length=m) (h0:0<m) {k:Nat} (hk:k<l.length):
  aF (some (true,m)) (some (.cells arr E fz)) (off+k*m)=some (.agg (enc (l.getD k z)).toArray):=by
 have hg:=h.get k hk
 have fr:off+k*m+m≤arr.size:=by
  have h1:=hg (m - 1) (by omega)
  rw[List.getElem?_eq_getElem (by rw[hm];omega)] at h1
  have:=(Array.getElem?_eq_some_iff.1 h1).1
  omega
 simp only[aF,fr, ↓reduceIte]
 congr 2
 apply Array.ext_getElem?
 intro j
 rw[Array.getElem?_extract]
 by_cases hj:j<m
 ·rw[if_pos (by omega),hg j hj,List.getElem?_toArray]
 ·rw[if_neg (by omega),List.getElem?_toArray,List.getElem?_eq_none (by rw[hm];omega)]
theorem RowS.cell {α:Type} {m:Nat} {enc:α→List Value} {z:α} {w:World} {v:Value} {l:List α} {b off:Nat} {arr:Array Value} {E:TypeId} {fz:Nat×Nat} (h:RowS m enc z w v l b off arr E fz) {k j n:Nat} (hk:k<l.length) (hj:j<m):
  aF (some (false,n)) (some (.cells arr E fz)) (off+k*m+j)=(enc (l.getD k z))[j]? :=h.get k hk j hj
end Go.Sx
namespace Go.Sx
open Go
section
variable {P:Program} {w0:World} {f:Fr} {L:aA} {N:Fr→aA→Prop} {ops:Array Oper} {rest:List Oper} {md:Md}
 {d:Option Tmp} {ty:TypeId} {ps:String} {af:Array Edge} {g:Option (Nat×Bool)}
theorem ay (R:List Nat) (x:UInt8):rdIn R (v8 x)=true:=(rfl)
theorem vg (R:List Nat) (x:UInt16):rdIn R (v16 x)=true:=(rfl)
theorem vw (R:List Nat) (x:UInt32):rdIn R (v32 x)=true:=(rfl)
theorem vn (R:List Nat) (x:UInt64):rdIn R (v64 x)=true:=(rfl)
theorem ax (R:List Nat) (x:Int):rdIn R (vi x)=true:=(rfl)
end
end Go.Sx
namespace Go.Sx
open Go
section
variable {P:Program} {w0:World} {f:Fr} {L:aA} {N:Fr→aA→Prop} {ops:Array Oper} {rest:List Oper} {md:Md}
 {d:Option Tmp} {ty:TypeId} {ps:String} {af:Array Edge} {g:Option (Nat×Bool)}
def iE (n:Int):Value:= .int .i32 n
theorem yP (op:BinOp) (t:TypeId) (a b:Int):bA P op t (iE a) (iE b)=aD op (iE a) (iE b):=(rfl)
theorem UV (a b:Int):aD .lss (iE a) (iE b)=some (.bool (decide (a<b))):=by simp[aD,iE,bB,eh]
theorem Vi (a b:Int):aD .gtr (iE a) (iE b)=some (.bool (decide (b<a))):=by simp[aD,iE,bB,eh]
theorem Ua (a b:Int):aD .eql (iE a) (iE b)=some (.bool (a==b)):=by simp[aD,iE,bB,eh]
theorem yc (n:Int):Value.int .i32 n=iE n:=(rfl)
theorem Ow.callFn1 {x y:Operand} {ts:Array TypeId} {k:FuncId} {v a:Value} (hs:bM ops f ⟨d, .call ⟨.value x, #[y],ts⟩,ty,ps,af,g⟩=false) (hx:ev f x= .func (.func k) #[] #[]) (hy:ev f y=a)
  (hk: ∀a w,(callFunc k a).run P w= .ok (.enter k a) w) (hc: ∀w,Hp w0 L w→Rets P k #[a] w (fun v' D=>v'=v∧D= [])) (hn:Ow P w0 ops md.next rest (aW f d v) L N):
  Ow P w0 ops md (⟨d, .call ⟨.value x, #[y],ts⟩,ty,ps,af,g⟩::rest) f L N:=
 Ow.callV hs hx hk (fun w hw=>by simpa [hy] using hc w hw) hn
theorem Ow.rangeText {t:TypeId} {x:Operand} {l:List UInt8} {md':Md} (he:md.turn=some md') (hs:bM ops f ⟨d, .range t x,ty,ps,af,g⟩=false) (hu:P.underlying t=some .string) (hx:ev f x=vs l)
  (hn: ∀b,eG L b→w0.heap.size≤b→Ow P w0 ops md' rest (aW f d (vp b 0)) (L++ [(b, .stringIter ⟨l.toArray⟩ 0)]) N):
  Ow P w0 ops md (⟨d, .range t x,ty,ps,af,g⟩::rest) f L N:=by
 refine Ow.step he rfl hs fun w hw=> .inl ⟨vp w.heap.size 0,w.alloc (.stringIter ⟨l.toArray⟩ 0),_, ?_,hw.alloc _,hn _ (gi fun b hb=>hw.lt hb) hw.size⟩
 simp only[execOp,Instr.range,Sem.run_bind,run_underlying hu w,Result.andThen_ok,hx,vs]
 rfl
theorem Ow.nextText {x:Operand} {b:Nat} {l:List UInt8} {pos:Nat} {md':Md} (he:md.turn=some md') (hs:bM ops f ⟨d, .next x true,ty,ps,af,g⟩=false) (hx:ev f x=vp b 0) (hl:look L b=some (.stringIter ⟨l.toArray⟩ pos)) (hp:pos<l.length)
  (hn:Ow P w0 ops md' rest (aW f d (.tuple #[.bool true,vi pos,iE (Utf8.decode ⟨l.toArray⟩ pos).1])) (setB L b (.stringIter ⟨l.toArray⟩ (pos+ (Utf8.decode ⟨l.toArray⟩ pos).2))) N):
  Ow P w0 ops md (⟨d, .next x true,ty,ps,af,g⟩::rest) f L N:=by
 refine Ow.step he rfl hs fun w hw=> ?_
 have hb:=hw.has _ _ (bh hl)
 refine .inl ⟨_,{w with heap:=w.heap.setIfInBounds b (.stringIter ⟨l.toArray⟩ (pos+ (Utf8.decode ⟨l.toArray⟩ pos).2))},_, ?_,hw.set (bV hl) rfl rfl rfl rfl,hn⟩
 have hg: (getObj b).run P w= .ok (.stringIter ⟨l.toArray⟩ pos) w:=by
  simp only[getObj,Sem.run,hb]
 have bQ: ∀o,(setObj b o).run P w= .ok () {w with heap:=w.heap.setIfInBounds b o}:=by
  intro o;simp only[setObj,Sem.run,hb]
 have fr:pos< (ByteArray.mk l.toArray).size:=by rw[ua];exact hp
 have: (Instr.next (vp b 0) true ty).run P w= .ok (.tuple #[.bool true,vi pos,iE (Utf8.decode ⟨l.toArray⟩ pos).1]) {w with heap:=w.heap.setIfInBounds b (.stringIter ⟨l.toArray⟩ (pos+ (Utf8.decode ⟨l.toArray⟩ pos).2))}:=by
  simp only[Instr.next,vp,Sem.run_bind,hg,Result.andThen_ok,fr, ↓reduceIte,bQ]
  rfl
 simp only[execOp,Sem.run_bind,hx]
 rw[this]
 rfl
theorem Ow.nextOver {x:Operand} {b:Nat} {l:List UInt8} {pos:Nat} {md':Md} (he:md.turn=some md') (hs:bM ops f ⟨d, .next x true,ty,ps,af,g⟩=false) (hx:ev f x=vp b 0) (hl:look L b=some (.stringIter ⟨l.toArray⟩ pos)) (hp: ¬pos<l.length)
  (hn:Ow P w0 ops md' rest (aW f d (.tuple #[.bool false])) L N):
  Ow P w0 ops md (⟨d, .next x true,ty,ps,af,g⟩::rest) f L N:=by
 refine Ow.step he rfl hs fun w hw=> ?_
 have hb:=hw.has _ _ (bh hl)
 refine .inl ⟨.tuple #[.bool false],w,_, ?_,hw,hn⟩
 have hg: (getObj b).run P w= .ok (.stringIter ⟨l.toArray⟩ pos) w:=by
  simp only[getObj,Sem.run,hb]
 have fr: ¬pos< (ByteArray.mk l.toArray).size:=by rw[ua];exact hp
 have: (Instr.next (vp b 0) true ty).run P w= .ok (.tuple #[.bool false]) w:=by
  simp only[Instr.next,vp,Sem.run_bind,hg,Result.andThen_ok,fr, ↓reduceIte]
  rfl
 simp only[execOp,Sem.run_bind,hx]
 rw[this]
 rfl
end
theorem Ga (l:List UInt8) (i:Nat) (h:i<l.length):0< (Utf8.decode ⟨l.toArray⟩ i).2∧
  ((l.getD i 0).toNat<128→Utf8.decode ⟨l.toArray⟩ i=((l.getD i 0).toNat,1))∧(128≤ (l.getD i 0).toNat→128≤ (Utf8.decode ⟨l.toArray⟩ i).1):=by
 have hb: ((ByteArray.mk l.toArray).get! (i+0))=l.getD i 0:=by
  simp[ByteArray.get!,h]
 unfold Utf8.decode
 simp only[hb]
 generalize (l.getD i 0).toNat=b0
 refine⟨?_,fun h1=> ?_,fun h1=> ?_⟩
 ·(repeat' split)<;>simp
 ·rw[if_pos h1]
 ·rw[if_neg (by omega)]
  (repeat' split)<;>first
   | (simp only[Utf8.runeError];omega)
   | (rename_i hc;simp only[Bool.and_eq_true,decide_eq_true_eq,ge_iff_le] at hc;omega)
   | (rename_i hc;simp only[ge_iff_le] at hc;omega)
end Go.Sx
namespace Go.Sx
open Go
abbrev Vals:=List (List UInt8×List UInt8)
def fnd (k:List UInt8):Vals→Nat→Option (Nat×List UInt8)
 | [],_=>none
 |p::r,i=>if k==p.1 then some (i,p.2) else fnd k r (i+1)
def updV (k v:List UInt8):Vals→Vals
 | []=> [(k,v)]
 |p::r=>if k==p.1 then(p.1,v)::r else p::updV k v r
def kS (p:List UInt8×List UInt8):Value×Value:=(vs p.1, .agg (a8 p.2))
def MapR (o:Obj) (m:Vals):Prop:= ∃es clock,o= .map es clock∧es.toList.map (fun e=>(e.key,e.val))=m.map kS∧(es.toList.map (·.born)++ [clock]).Pairwise (· < ·)
theorem xL {es:List MapEntry} {c:Nat} {e:MapEntry} (h: (es.map (·.born)++ [c]).Pairwise (· < ·)) (he:e.born=c): ((es++ [e]).map (·.born)++ [c+1]).Pairwise (· < ·):=by
 rw[List.map_append,List.map_cons,List.map_nil,he]
 refine List.pairwise_append.2 ⟨h,List.pairwise_singleton _ _, ?_⟩
 intro a ha b hb
 rw[List.mem_singleton] at hb
 subst hb
 rcases List.mem_append.1 ha with hm|hm
 ·have:=(List.pairwise_append.1 h).2.2 a hm c (List.mem_singleton.2 rfl)
  omega
 ·rw[List.mem_singleton] at hm
  omega
theorem Ud {es:List MapEntry} {j:Nat} {g:MapEntry→MapEntry} (hg: ∀e,(g e).born=e.born): (es.modify j g).map (·.born)=es.map (·.born):=by
 apply List.ext_getElem?
 intro i
 rw[List.getElem?_map,List.getElem?_map,List.getElem?_modify]
 cases es[i]? with
 |none=>rfl
 |some e=>
  by_cases h:j=i
  ·simp[h,hg]
  ·simp[h]
theorem Jw {es:List MapEntry} {c j:Nat} (h: (es.map (·.born)++ [c]).Pairwise (· < ·)): ((es.eraseIdx j).map (·.born)++ [c]).Pairwise (· < ·):=
 h.sublist (((List.eraseIdx_sublist es j).map _).append_right [c])
theorem uk (a b:List UInt8): ((ByteArray.mk a.toArray)==(ByteArray.mk b.toArray))=(a==b):=by
 show(a.toArray==b.toArray)=(a==b)
 simp
theorem VY (k:List UInt8): ∀ (es:List MapEntry) (m:Vals) (i:Nat),es.map (fun e=>(e.key,e.val))=m.map kS→
  Instr.findNow .string (vs k) es i=some ((fnd k m i).map fun p=>(p.1, .agg (a8 p.2)))
 | [],[],i,_=>rfl
 | [],_::_,_,h=>by cases h
 |_::_,[],_,h=>by cases h
 |e::es,p::m,i,h=>by
  simp only[List.map_cons,List.cons.injEq,kS,Prod.mk.injEq] at h
  obtain⟨⟨h1,h2⟩,h3⟩:=h
  unfold Instr.findNow
  have hs:Instr.sameNow .string (vs k) e.key=some (k==p.1):=by
   rw[h1]
   simp only[vs,Instr.sameNow,uk]
  rw[hs]
  unfold fnd
  cases hk: (k==p.1)
  ·simp only[Bool.false_eq_true, ↓reduceIte]
   exact VY k es m (i+1) h3
  ·simp[h2]
theorem Ep (k:List UInt8): ∀ (m:Vals) (i j:Nat) (v:List UInt8),fnd k m i=some (j,v)→i≤j∧ ∃a,m[j - i]? =some (k,a)∧a=v
 | [],_,_,_,h=>by cases h
 |p::r,i,j,v,h=>by
  unfold fnd at h
  split at h
  ·rename_i hk
   cases h
   refine⟨Nat.le_refl _,p.2, ?_,rfl⟩
   rw[Nat.sub_self,List.getElem?_cons_zero,eq_of_beq hk]
  ·obtain⟨h1,a,h2,h3⟩:=Ep k r (i+1) j v h
   refine⟨by omega,a, ?_,h3⟩
   rw[show j - i=(j - (i+1))+1 by omega,List.getElem?_cons_succ];exact h2
theorem wN (k v:List UInt8): ∀ (es:List MapEntry) (m:Vals) (i j:Nat) (a:List UInt8),es.map (fun e=>(e.key,e.val))=m.map kS→fnd k m i=some (j,a)→
  (es.modify (j - i) fun e=>{e with key:=vs k,val:= .agg (a8 v)}).map (fun e=>(e.key,e.val))=(updV k v m).map kS
 | [],[],_,_,_,_,h=>by cases h
 | [],_::_,_,_,_,h,_=>by cases h
 |_::_,[],_,_,_,h,_=>by cases h
 |e::es,p::m,i,j,a,h,hf=>by
  simp only[List.map_cons,List.cons.injEq,kS,Prod.mk.injEq] at h
  obtain⟨⟨h1,h2⟩,h3⟩:=h
  unfold fnd at hf
  unfold updV
  split at hf
  ·rename_i hk
   cases hf
   rw[if_pos hk,Nat.sub_self]
   simp only[List.modify_zero_cons,List.map_cons,kS,eq_of_beq hk]
   rw[h3]
  ·rename_i hk
   have eW:=(Ep k m (i+1) j a hf).1
   rw[if_neg hk,show j - i=(j - (i+1))+1 by omega]
   simp only[List.modify_succ_cons,List.map_cons,kS]
   rw[wN k v es m (i+1) j a h3 hf,h1,h2]
theorem x4 (k v:List UInt8): ∀ (m:Vals) (i:Nat),fnd k m i=none→updV k v m=m++ [(k,v)]
 | [],_,_=>rfl
 |p::r,i,h=>by
  unfold fnd at h
  split at h
  ·cases h
  ·rename_i hk
   unfold updV
   rw[if_neg hk,x4 k v r (i+1) h];rfl
section
variable {P:Program} {w0:World} {f:Fr} {L:aA} {N:Fr→aA→Prop} {ops:Array Oper} {rest:List Oper} {md:Md}
 {d:Option Tmp} {ty:TypeId} {ps:String} {af:Array Edge} {g:Option (Nat×Bool)}
theorem II {w:World} {t:TypeId} (hu:P.underlying t=some .string) (k:List UInt8) (es:List MapEntry) (m:Vals) (h:es.map (fun e=>(e.key,e.val))=m.map kS):
  (Instr.findKey t (vs k) es).run P w= .ok ((fnd k m 0).map fun p=>(p.1, .agg (a8 p.2))) w:=by
 simp only[Instr.findKey,Sem.run_bind,run_underlying hu w,Result.andThen_ok,VY k es m 0 h]
 rfl
theorem Ur {w:World} {t:TypeId} (hu:P.underlying t=some .string) (e:Bool) (k:List UInt8): (Instr.checkKey e 10000 t (vs k)).run P w= .ok () w:=by
 unfold Instr.checkKey
 simp only[Sem.run_bind,run_underlying hu w,Result.andThen_ok,vs]
 rfl
theorem o9 {w:World} {b:Nat} {es:Array MapEntry} {c:Nat} (hb:w.heap[b]? =some (.map es c)): (getObj b).run P w= .ok (.map es c) w:=by
 simp only[getObj,Sem.run,hb]
theorem ue {w:World} {b:Nat} {es:Array MapEntry} {c:Nat} (hb:w.heap[b]? =some (.map es c)) (o:Obj): (setObj b o).run P w= .ok () {w with heap:=w.heap.setIfInBounds b o}:=by
 simp only[setObj,Sem.run,hb]
def vm (b:Nat):Value:= .map (some b)
theorem Ow.makeMap {t:TypeId} {md':Md} (he:md.turn=some md') (hs:bM ops f ⟨d, .makeMap t none,ty,ps,af,g⟩=false)
  (hn: ∀b o,eG L b→w0.heap.size≤b→MapR o []→Ow P w0 ops md' rest (aW f d (vm b)) (L++ [(b,o)]) N):
  Ow P w0 ops md (⟨d, .makeMap t none,ty,ps,af,g⟩::rest) f L N:=by
 refine Ow.step he rfl hs fun w hw=> .inl ⟨vm w.heap.size,w.alloc (.map #[] 0),_, ?_,hw.alloc _,hn _ _ (gi fun b hb=>hw.lt hb) hw.size ⟨#[],0,rfl,rfl,List.pairwise_singleton _ _⟩⟩
 simp only[execOp,Instr.makeMap,Sem.run_bind,Option.map_none]
 rfl
theorem P5 {k:List UInt8} {m:Vals} {es:List MapEntry} {j:Nat} {a:List UInt8} (h:es.map (fun e=>(e.key,e.val))=m.map kS) (hf:fnd k m 0=some (j,a)): ∃e,es[j]? =some e∧e.key=vs k:=by
 obtain⟨-,a',h1,rfl⟩:=Ep k m 0 j a hf
 rw[Nat.sub_zero] at h1
 have:=congrArg (·[j]?) h
 simp only[List.getElem?_map,h1,Option.map_some] at this
 cases he:es[j]? with
 |none=>rw[he] at this;cases this
 |some e=>
  rw[he] at this
  simp only[Option.map_some,Option.some.injEq,kS,Prod.mk.injEq] at this
  exact⟨e,rfl,this.1⟩
theorem Ow.mapUpdate {t kt vt:TypeId} {x y z:Operand} {b:Nat} {o:Obj} {m:Vals} {k v:List UInt8} {md':Md} (he:md.turn=some md') (hs:bM ops f ⟨d, .mapUpdate t x y z,ty,ps,af,g⟩=false) (hu:P.underlying t=some (.map kt vt)) (vP:P.underlying kt=some .string)
  (hx:ev f x=vm b) (hy:ev f y=vs k) (hz:ev f z= .agg (a8 v)) (hl:look L b=some o) (hm:MapR o m)
  (hn: ∀o',MapR o' (updV k v m)→Ow P w0 ops md' rest (aW f d undef) (setB L b o') N):
  Ow P w0 ops md (⟨d, .mapUpdate t x y z,ty,ps,af,g⟩::rest) f L N:=by
 obtain⟨es,c,rfl,ga,iY⟩:=hm
 refine Ow.step he rfl hs fun w hw=> ?_
 have hb:=hw.has _ _ (bh hl)
 have fo:=II (w:=w) vP k es.toList m ga
 cases hf:fnd k m 0 with
 |none=>
  rw[hf] at fo
  refine .inr (.inl ⟨{w with heap:=w.heap.setIfInBounds b (.map (es.push {key:=vs k,val:= .agg (a8 v),born:=c}) (c+1))},_, ?_,hw.set (bV hl) rfl rfl rfl rfl,hn _ ⟨_,_,rfl, ?_,by rw[Array.toList_push];exact xL iY rfl⟩⟩)
  ·have: (Instr.mapUpdate t (vm b) (vs k) (.agg (a8 v))).run P w= .ok () {w with heap:=w.heap.setIfInBounds b (.map (es.push {key:=vs k,val:= .agg (a8 v),born:=c}) (c+1))}:=by
    simp only[Instr.mapUpdate,vm,Sem.run_bind,run_underlying hu w,Result.andThen_ok,o9 hb,Ur vP,fo,Option.map_none,ue hb]
   simp only[execOp,Sem.run_bind,hx,hy,hz]
   rw[this];rfl
  ·rw[x4 k v m 0 hf,Array.toList_push,List.map_append,ga,List.map_append];rfl
 |some p=>
  obtain⟨j,a⟩:=p
  rw[hf] at fo
  obtain⟨e,Sh,Si⟩:=P5 ga hf
  have tj:es[j]? =some e:=by simpa using Sh
  have fp: (Instr.keyThatStays (((es[j]?).map (·.key)).getD (vs k)) (vs k)).run P w= .ok (vs k) w:=by
   rw[tj,Option.map_some,Option.getD_some,Si]
   unfold Instr.keyThatStays
   have:Instr.sameBits 10000 (vs k) (vs k)=true:=by simp[vs,Instr.sameBits,uk]
   rw[if_pos this];rfl
  refine .inr (.inl ⟨{w with heap:=w.heap.setIfInBounds b (.map (es.modify j fun e=>{e with key:=vs k,val:= .agg (a8 v)}) c)},_, ?_,hw.set (bV hl) rfl rfl rfl rfl,hn _ ⟨_,_,rfl, ?_,by rw[Array.toList_modify,Ud (g:=fun e=>{e with key:=vs k,val:= .agg (a8 v)}) fun _=>rfl];exact iY⟩⟩)
  ·have: (Instr.mapUpdate t (vm b) (vs k) (.agg (a8 v))).run P w= .ok () {w with heap:=w.heap.setIfInBounds b (.map (es.modify j fun e=>{e with key:=vs k,val:= .agg (a8 v)}) c)}:=by
    simp only[Instr.mapUpdate,vm,Sem.run_bind,run_underlying hu w,Result.andThen_ok,o9 hb,Ur vP,fo,Option.map_some,fp,ue hb]
   simp only[execOp,Sem.run_bind,hx,hy,hz]
   rw[this];rfl
  ·rw[Array.toList_modify]
   have:=wN k v es.toList m 0 j a ga hf
   rw[Nat.sub_zero] at this
   exact this
end
end Go.Sx
namespace Go.Sx
open Go
section
variable {P:Program} {w0:World} {f:Fr} {L:aA} {N:Fr→aA→Prop} {ops:Array Oper} {rest:List Oper} {md:Md}
 {d:Option Tmp} {ty:TypeId} {ps:String} {af:Array Edge} {g:Option (Nat×Bool)}
end
end Go.Sx
namespace Go.Sx
open Go
def kv (e:MapEntry):Value×Value:=(e.key,e.val)
def ItR (o:Obj) (bm:Nat) (om:Obj) (m dn lf:Vals):Prop:=
 ∃es clock,∃ds:List MapEntry,om= .map es clock∧(es.toList.map (·.born)++ [clock]).Pairwise (· < ·)∧o= .mapIter (some bm) clock (ds.map (·.born)).toArray clock∧
  ds.map kv=dn.map kS∧(∀d,d∈ds→d∈es.toList)∧((es.toList.filter fun e=> !(ds.map (·.born)).contains e.born).map kv=lf.map kS)∧(dn++lf).Perm m
theorem EW {l:List MapEntry} {c:Nat} (h: (l.map (·.born)++ [c]).Pairwise (· < ·)): (l.map (·.born)).Nodup:=
 ((List.pairwise_append.1 h).1).imp fun h=>Nat.ne_of_lt h
theorem PR {l:List MapEntry} {c:Nat} (h: (l.map (·.born)++ [c]).Pairwise (· < ·)): ∀x,x∈l→x.born<c:=fun x hx=>
 (List.pairwise_append.1 h).2.2 _ (List.mem_map.2 ⟨x,hx,rfl⟩) c (List.mem_singleton.2 rfl)
theorem x9 (es:Array MapEntry) (ds:List MapEntry): (leftOf es (ds.map (·.born)).toArray).toList=es.toList.filter fun e=> !(ds.map (·.born)).contains e.born:=by
 unfold leftOf
 rw[Array.toList_filter]
 simp
theorem ItR.start {bm:Nat} {om:Obj} {m:Vals} (h:MapR om m): ∃es clock,om= .map es clock∧ItR (.mapIter (some bm) clock #[] clock) bm om m [] m:=by
 obtain⟨es,clock,rfl,h1,h2⟩:=h
 refine⟨es,clock,rfl,es,clock,[],rfl,h2,rfl,rfl,(fun d hd=>by cases hd), ?_,by rw[List.nil_append]⟩
 rw[show(es.toList.filter fun e=> !(([]:List MapEntry).map (·.born)).contains e.born)=es.toList from List.filter_eq_self.2 (fun _ _=>rfl)]
 exact h1
theorem ItR.step {bm:Nat} {om:Obj} {m dn lf:Vals} {es:Array MapEntry} {clock:Nat} {ds:List MapEntry} {e:MapEntry} (hb: (es.toList.map (·.born)++ [clock]).Pairwise (· < ·))
  (hd:ds.map kv=dn.map kS) (hm: ∀d,d∈ds→d∈es.toList) (hl: (es.toList.filter fun e=> !(ds.map (·.born)).contains e.born).map kv=lf.map kS) (hp: (dn++lf).Perm m)
  (he:e∈es.toList.filter fun e=> !(ds.map (·.born)).contains e.born) (jI:om= .map es clock):
  ∃p lf',kv e=kS p∧lf.length=lf'.length+1∧ItR (.mapIter (some bm) clock ((ds.map (·.born)).toArray.push e.born) clock) bm om m (dn++ [p]) lf':=by
 obtain⟨A,C,tP⟩:=List.append_of_mem he
 rw[tP,List.map_append,List.map_cons] at hl
 obtain⟨l1,l2,rfl,h1,h2⟩:=List.append_eq_map_iff.1 hl
 obtain⟨p,l3,rfl,h3,h4⟩:=(List.map_eq_cons_iff.1 h2)
 refine⟨p,l1++l3,h3.symm,by simp;omega,es,clock,ds++ [e],jI,hb,by simp,by simp[hd,h3], ?_, ?_, ?_⟩
 ·intro d fF
  rcases List.mem_append.1 fF with h|h
  ·exact hm d h
  ·rw[List.mem_singleton] at h;subst h;exact(List.mem_filter.1 he).1
 ·have av: ((A++e::C).map (·.born)).Nodup:=by
   rw[←tP]
   exact(EW hb).sublist ((List.filter_sublist).map _)
  have e1: (es.toList.filter fun x=> !((ds++ [e]).map (·.born)).contains x.born)=(A++e::C).filter fun x=> !(x.born==e.born):=by
   rw[←tP,List.filter_filter]
   refine List.filter_congr fun x hx=> ?_
   simp only[List.map_append,List.map_cons,List.map_nil,List.contains_append,List.contains_cons,List.contains_nil,Bool.or_false,Bool.not_or]
   rw[Bool.and_comm]
  rw[List.map_append,List.map_cons,List.nodup_append] at av
  obtain⟨-,mm,TO⟩:=av
  rw[List.nodup_cons] at mm
  have e2: ((A++e::C).filter fun x=> !(x.born==e.born))=A++C:=by
   rw[List.filter_append,List.filter_cons]
   simp only[beq_self_eq_true,Bool.not_true,Bool.false_eq_true, ↓reduceIte]
   congr 1
   ·refine List.filter_eq_self.2 fun x hx=> ?_
    have:=TO x.born (List.mem_map.2 ⟨x,hx,rfl⟩) e.born List.mem_cons_self
    simpa using this
   ·refine List.filter_eq_self.2 fun x hx=> ?_
    have:x.born≠e.born:=fun h=>mm.1 (h▸List.mem_map.2 ⟨x,hx,rfl⟩)
    simpa using this
  rw[e1,e2,List.map_append,List.map_append,h1,h4]
 ·refine List.Perm.trans ?_ hp
  rw[List.append_assoc]
  refine List.Perm.append_left dn ?_
  rw[List.singleton_append]
  exact List.perm_middle.symm
section
variable {P:Program} {w0:World} {f:Fr} {L:aA} {N:Fr→aA→Prop} {ops:Array Oper} {rest:List Oper} {md:Md}
 {d:Option Tmp} {ty:TypeId} {ps:String} {af:Array Edge} {g:Option (Nat×Bool)}
def itv (b:Nat):Value:= .pointer (some ⟨b,0,none⟩)
end
end Go.Sx
namespace Go.Sx
open Go
theorem yp (A B C:List Value) {o n:Nat} (hA:A.length=o) (hB:B.length=n): (A++ (B++C)).toArray.extract o (o+n)=B.toArray:=by
 subst hA;subst hB
 rw[List.extract_toArray,List.extract_eq_take_drop,List.drop_left,Nat.add_sub_cancel_left,List.take_left]
theorem zB (A C:List Value) (v:Value) {o:Nat} (hA:A.length=o): (A++ ([v]++C)).toArray[o]? =some v:=by
 subst hA;simp
theorem ru (A C:List Value) (v:Value) {o:Nat} (hA:A.length=o): (A++ ([v]++C))[o]? =some v:=by
 subst hA;simp
theorem w6 (A B B' C:List Value) {o:Nat} (hA:A.length=o) (hB:B.length=B'.length):fY (A++ (B++C)).toArray o B'=(A++ (B'++C)).toArray:=by
 subst hA
 have hp:=sN B' A B C hB
 rw[List.append_assoc,List.append_assoc] at hp
 exact hp
theorem Et (A C:List Value) (v:Value) {o n:Nat} (hA:A.length=o):partV (false,n) (A++ ([v]++C)).toArray o=some v:=zB A C v hA
theorem CU (A B C:List Value) {o n:Nat} (E:TypeId) (fz:Nat×Nat) (hA:A.length=o) (hB:B.length=n):aF (some (true,n)) (some (.cells (A++ (B++C)).toArray E fz)) o=some (.agg B.toArray):=by
 have hs:o+n≤ (A++ (B++C)).toArray.size:=by
  simp only[List.size_toArray,List.length_append];omega
 unfold aF
 simp only[hs, ↓reduceIte]
 rw[yp A B C hA hB]
theorem jO (A C:List Value) (v:Value) {o:Nat} (n:Nat) (E:TypeId) (fz:Nat×Nat) (hA:A.length=o):aF (some (false,n)) (some (.cells (A++ ([v]++C)).toArray E fz)) o=some v:=by
 rw[xF];exact zB A C v hA
theorem d9 (A B B' C:List Value) {o n:Nat} (a:Bool) (x:Value) (E:TypeId) (hA:A.length=o) (hB:B.length=n) (hx:x.cells=B'.toArray) (WI:B'.length=n) (ho:B'.all Value.oneCell'=true):
  ac (some (a,n)) (some (.cells (A++ (B++C)).toArray E (0,0))) o x=some (.cells (A++ (B'++C)).toArray E (0,0)):=by
 subst hA
 have hp:=sN B' A B C (by rw[hB,WI])
 rw[List.append_assoc,List.append_assoc] at hp
 unfold ac
 simp only[hx]
 rw[if_pos ⟨by rw[List.size_toArray,WI],by simp only[List.size_toArray,List.length_append];omega, .inl (Nat.le_refl 0),ho⟩,hp]
theorem ro (cs:List Value) {n:Nat} (a:Bool) (old:Array Value) (E:TypeId) (hn:cs.length=n) (ho:cs.all Value.oneCell'=true) (h:old.size=n):
  ac (some (a,n)) (some (.cells old E (0,0))) 0 (.agg cs.toArray)=some (.cells cs.toArray E (0,0)):=
 EO n a cs.toArray old E ⟨by rw[List.size_toArray,hn],h⟩ ho
theorem oy (l:List UInt8): (l.map v8).all Value.oneCell'=true:=by
 rw[List.all_map]
 exact List.all_eq_true.2 fun x _=>rfl
theorem RowS.part {α:Type} {m:Nat} {enc:α→List Value} {z:α} {w:World} {v:Value} {l:List α} {b off:Nat} {arr:Array Value} {E:TypeId} {fz:Nat×Nat} (h:RowS m enc z w v l b off arr E fz) (hm: ∀x,(enc x).length=m) {k o n:Nat} (hk:k<l.length) (ho:o+n≤m) (hn:0<n):
  aF (some (true,n)) (some (.cells arr E fz)) (off+k*m+o)=some (.agg ((enc (l.getD k z)).toArray.extract o (o+n))):=by
 have hg: ∀i,i<n→arr[off+k*m+ (o+i)]? =(enc (l.getD k z))[o+i]? :=fun i hi=>h.get k hk (o+i) (by omega)
 have aP:=hm (l.getD k z)
 have fr:off+k*m+o+n≤arr.size:=by
  have h1:=hg (n - 1) (by omega)
  rw[List.getElem?_eq_getElem (by omega)] at h1
  have:=(Array.getElem?_eq_some_iff.1 h1).1
  omega
 unfold aF
 simp only[fr, ↓reduceIte]
 congr 2
 apply Array.ext_getElem?
 intro i
 by_cases hi:i<n
 ·rw[Array.getElem?_extract,Array.getElem?_extract,if_pos (by omega),if_pos (by rw[List.size_toArray];omega)]
  have hh:=hg i hi
  rw[show off+k*m+ (o+i)=off+k*m+o+i by omega] at hh
  rw[hh]
  exact(List.getElem?_toArray ..).symm
 ·rw[Array.getElem?_eq_none (by rw[Array.size_extract];omega),Array.getElem?_eq_none (by rw[Array.size_extract];omega)]
end Go.Sx
namespace Go.Sx
open Go
end Go.Sx
namespace Go.Sx
open Go
def SlV {α:Type} (m:Nat) (enc:α→List Value) (z:α) (w:World) (v:Value) (l:List α):Prop:=
 ∃b off c arr E fz,RowS m enc z w v l b off arr E fz∧l.length≤c∧((v= .slice none 0 0∧l= []∧c=0)∨(v=vsl b off l.length c∧w.heap[b]? =some (.cells arr E fz)∧off+l.length*m≤arr.size))
section
variable {α:Type} {m:Nat} {enc:α→List Value} {z:α} {w:World} {v:Value} {l:List α}
theorem RowS.sl' {b off n c:Nat} {arr:Array Value} {E:TypeId} {fz:Nat×Nat} (hn:n=l.length)
  (has:0<l.length→w.heap[b]? =some (.cells arr E fz)) (get: ∀k,k<l.length→ ∀j,j<m→arr[off+k*m+j]? =(enc (l.getD k z))[j]?):RowS m enc z w (vsl b off n c) l b off arr E fz:=by
 subst hn
 exact⟨fun x=>rfl,fun a k hk=>ox _ _ _ _ _ _ ⟨by omega,by omega⟩,has,get⟩
theorem SlV.nil (w:World):SlV m enc z w (.slice none 0 0) []:=⟨0,0,0, #[],0,(0,0),RowS.nil w 0 0 rfl,Nat.le_refl _, .inl ⟨rfl,rfl,rfl⟩⟩
theorem SlV.row (h:SlV m enc z w v l): ∃b off arr E fz,RowS m enc z w v l b off arr E fz:=by
 obtain⟨b,off,c,arr,E,fz,hr,-⟩:=h;exact⟨b,off,arr,E,fz,hr⟩
theorem SlV.sl {b off c:Nat} {arr:Array Value} {E:TypeId} {fz:Nat×Nat} (has:w.heap[b]? =some (.cells arr E fz)) (get: ∀k,k<l.length→ ∀j,j<m→arr[off+k*m+j]? =(enc (l.getD k z))[j]?) (hc:l.length≤c) (hs:off+l.length*m≤arr.size):SlV m enc z w (vsl b off l.length c) l:=
 ⟨b,off,c,arr,E,fz,RowS.sl rfl has get,hc, .inr ⟨rfl,has,hs⟩⟩
theorem RowS.old {w':World} {b off:Nat} {arr:Array Value} {E:TypeId} {fz:Nat×Nat} {L:aA} (h:RowS m enc z w v l b off arr E fz) (hw:Hp w L w') (hb:0<l.length→b∉keys L):RowS m enc z w' v l b off arr E fz:=
 ⟨h.len,h.idx,fun hl=>by have hh:=h.has hl;rw[hw.old b (Array.getElem?_eq_some_iff.1 hh).1 (hb hl)];exact hh,h.get⟩
theorem RowS.lt {b off:Nat} {arr:Array Value} {E:TypeId} {fz:Nat×Nat} (h:RowS m enc z w v l b off arr E fz) (hl:0<l.length):b<w.heap.size:=(Array.getElem?_eq_some_iff.1 (h.has hl)).1
theorem SlV.old {w':World} {L:aA} (h:SlV m enc z w v l) (hw:Hp w L w') (hb: ∀b,slB v=some b→b<w.heap.size→b∉keys L):SlV m enc z w' v l:=by
 obtain⟨b,off,c,arr,E,fz,hr,hc,hv⟩:=h
 rcases hv with⟨rfl,rfl,rfl⟩ | ⟨rfl,fQ,fr⟩
 ·exact SlV.nil w'
 ·have oX:=hb b rfl (Array.getElem?_eq_some_iff.1 fQ).1
  refine⟨b,off,c,arr,E,fz,hr.old hw (fun _=>oX),hc, .inr ⟨rfl, ?_,fr⟩⟩
  rw[hw.old b (Array.getElem?_eq_some_iff.1 fQ).1 oX];exact fQ
theorem New.not {L:aA} {n b:Nat} (h:New n L) (hb:b<n):b∉keys L:=fun hm=>by have:=h.le b hm;omega
theorem SlV.oldN {w':World} {L:aA} (h:SlV m enc z w v l) (hw:Hp w L w') (hn:New w.heap.size L):SlV m enc z w' v l:=h.old hw fun _ _ hb=>hn.not hb
theorem SlV.len (h:SlV m enc z w v l) (x:Bool×Nat):fe (.sl x) v=some (vi l.length):=by
 obtain⟨b,off,arr,E,fz,hr⟩:=h.row
 exact hr.len x
theorem SlV.take (h:SlV m enc z w v l) {k:Nat} (hk:k≤l.length) (a:Bool): ∃v',ft (.sl (a,m)) v none (some (some (k:Int)))=some v'∧SlV m enc z w v' (l.take k)∧(∀b,slB v'=some b→slB v=some b):=by
 obtain⟨b,off,c,arr,E,fz,hr,hc,hv⟩:=h
 have hl: (l.take k).length=k:=by simp;omega
 rcases hv with⟨rfl,rfl,rfl⟩ | ⟨rfl,fQ,fr⟩
 ·obtain rfl:k=0:=by simpa using hk
  refine⟨.slice none 0 0,rfl,SlV.nil w,fun b hb=>hb⟩
 ·refine⟨vsl b off k c, ?_, ?_,fun b hb=>hb⟩
  ·unfold ft vsl
   simp only[zT _ _ _ (⟨by omega,by omega⟩: (0:Int)≤ (k:Int)∧(k:Int)≤ (c:Int)),Int.toNat_natCast,Nat.zero_mul,Nat.sub_zero,Option.map_some,lb,Nat.add_zero]
   split<;>rfl
  ·refine⟨b,off,c,arr,E,fz,RowS.sl' hl.symm (fun h0=>hr.has (by omega)) ?_,by omega, .inr ⟨by rw[hl],fQ,by rw[hl];have:k*m≤l.length*m:=Nat.mul_le_mul_right _ hk;omega⟩⟩
   ·intro i hi j hj
    rw[hl] at hi
    rw[hr.get i (by omega) j hj]
    congr 2
    rw[List.getD_eq_getElem?_getD,List.getD_eq_getElem?_getD,List.getElem?_take_of_lt hi]
theorem Buf.slM {L:aA} {E:TypeId} {n:Nat} {cs:List Value} (h:Buf L E m v n cs) (hw: ∀b o,(b,o)∈L→w.heap[b]? =some o) (hl:l.length=n) (dL:cs=(l.map enc).flatten) (hm: ∀x,(enc x).length=m):SlV m enc z w v l:=by
 rcases h.inv with⟨rfl,rfl,rfl⟩ | ⟨b,c,rest,rfl,bP,aP,TP,h0,nu⟩
 ·have:l= []:=by simpa using hl
  subst this;exact SlV.nil w
 ·subst hl
  refine SlV.sl (hw _ _ (bh bP)) ?_ TP (by rw[List.size_toArray,List.length_append,aP];omega)
  intro k hk j hj
  rw[Nat.zero_add,List.getElem?_toArray,List.getElem?_append_left (by rw[aP];have: (k+1)*m≤l.length*m:=Nat.mul_le_mul_right _ hk;rw[Nat.add_mul,Nat.one_mul] at this;omega),dL]
  clear aP nu bP dL TP h
  induction l generalizing k with
  |nil=>simp at hk
  |cons x r ih=>
   rw[List.map_cons,List.flatten_cons]
   cases k with
   |zero=>
    rw[Nat.zero_mul,Nat.zero_add,List.getElem?_append_left (by rw[hm];exact hj),List.getD_cons_zero]
   |succ k=>
    rw[List.getElem?_append_right (by rw[hm,Nat.add_mul,Nat.one_mul];omega),hm,List.getD_cons_succ]
    have:=ih (k:=k) (by simpa using hk)
    rw[←this]
    congr 1
    rw[Nat.add_mul,Nat.one_mul];omega
theorem Buf.slV {L:aA} {E:TypeId} {n:Nat} {cs:List Value} {w0:World} (h:Buf L E m v n cs) (hw:Hp w0 L w) (hl:l.length=n) (dL:cs=(l.map enc).flatten) (hm: ∀x,(enc x).length=m):SlV m enc z w v l:=h.slM hw.has hl dL hm
end
end Go.Sx
namespace Go.Sx
open Go
theorem New.mono {n m:Nat} (h:n≤m): ∀ {L:aA},New m L→New n L
 | [],_=>trivial
 | (_,_)::_,hL=>⟨Nat.le_trans h hL.1,New.mono h hL.2⟩
theorem New.app {n:Nat} {M:aA}: ∀ {L:aA},New n L→New n M→New n (L++M)
 | [],_,hM=>hM
 | (_,_)::_,hL,hM=>⟨hL.1,New.app hL.2 hM⟩
section
variable {P:Program} {w0:World} {f:Fr} {L:aA} {N:Fr→aA→Prop} {ops:Array Oper} {rest:List Oper} {md:Md}
 {d:Option Tmp} {ty:TypeId} {ps:String} {af:Array Edge} {g:Option (Nat×Bool)}
theorem Ow.callN {l:List Operand} {ts:Array TypeId} {k:FuncId} {S:Nat→Value→aA→Prop} {md':Md} (he:md.turn=some md')
  (hs:bM ops f ⟨d, .call ⟨.value (.func k),l.toArray,ts⟩,ty,ps,af,g⟩=false)
  (hk: ∀a w,(callFunc k a).run P w= .ok (.enter k a) w)
  (hc: ∀w,Hp w0 L w→Rets P k (l.map (ev f)).toArray w (fun v D=>S w.heap.size v D))
  (nn: ∀B v D,S B v D→New B D)
  (hn: ∀B v D,eG L B→w0.heap.size≤B→S B v D→Ow P w0 ops md' rest (aW f d v) (L++D) N):
  Ow P w0 ops md (⟨d, .call ⟨.value (.func k),l.toArray,ts⟩,ty,ps,af,g⟩::rest) f L N:=by
 refine Ow.callF he hs hk (S:=S) hc ?_
 intro B v D ha hB hS
 exact⟨_,Mrg.fresh (nn B v D hS).le,hn B v D ha hB hS⟩
end
end Go.Sx
section
namespace Go.Sx
open Go
set_option linter.unusedSimpArgs false
section
variable {P:Program} {w0:World} {L:aA}
theorem UD {w:World} {ts tx ty e:TypeId} {m:Bool×Nat} {z x:Value} {b k:Nat} {new:List Value} (hw:Hp w0 L w)
  (hu:P.underlying ts=some (.slice e)) (hm:aK P e=some m) (hi:ou P e=true) (hz:al P e=some z) (kI:z.cells.size=m.2) {d:TypeDesc} (iK:P.underlying tx=some d) (bW: ∀k,d≠ .int k)
  (vB: ∀w,Hp w0 L w→AppX P w m.2 x k new) (cZ:2* (0+k)+768≤2^38):
  (k=0∧(Builtin.append_ #[ts,tx] ty #[vsl b 0 0 0,x]).run P w= .ok (vsl b 0 0 0) w)∨
  (0<k∧ ∃v' w' L',(Builtin.append_ #[ts,tx] ty #[vsl b 0 0 0,x]).run P w= .ok v' w'∧Hp w0 L' w'∧Buf L' e m.2 v' (0+k) ([]++new)∧Grew w0 (.slice none 0 0) L L'∧ ∃c,slB v'=some c∧eG L c):=by
 obtain⟨i,hi,k9,cZ⟩:=UF hi cZ
 have Do: ∀w,(typeInfo e).run P w= .ok i w:=by
  intro w
  simp only[typeInfo,program,Sem.run_bind]
  show Result.andThen (Result.ok P w) _=_
  simp only[Result.andThen_ok,hi]
  rfl
 have nj: (match d with| .int _=>true|_=>false)=false:=by
  cases d<;>first|rfl|exact absurd rfl (bW _)
 have e1: ∀ {α β:Type} (a:α) (f:α→World→Result β),(Sem.run P (pure a) w).andThen f=f a w:=fun _ _=>rfl
 have hX:=vB w hw
 have jL:=hX.len
 have Dt:=hX.cells
 have rj:=s9 (P:=P) hz
 have room: ∀ (b:Nat) (w:World),(askRoom b).run P w= .ok () w:=by
  intro b w
  unfold askRoom
  split<;>rfl
 have zc: ∀j,(Builtin.zeroCells z.cells j).toList.length=j*m.2:=by
  intro j;simp[Builtin.zeroCells,kI]
 have DU: ∀c,c<0+k→ ¬ (Builtin.nextslicecap (0+k) c*i.bytes>2^48):=by
  intro c hc
  have:=XH hc
  have h2:=Nat.mul_le_mul_right i.bytes this
  omega
 by_cases hk:k=0
 ·subst hk
  have nn:new= []:=List.eq_nil_of_length_eq_zero (by have:=hX.size;omega)
  subst nn
  refine .inl ⟨rfl, ?_⟩
  simp only[Builtin.append_,vsl,List.getElem?_toArray,List.getElem?_cons_zero,List.getElem?_cons_succ,Sem.run_bind,run_underlying hu w,Result.andThen_ok,iR hm w,run_underlying iK w,nj,e1,Bool.false_eq_true, ↓reduceIte,jL,Bool.not_false,Nat.add_zero,Nat.le_refl,Dt]
  rfl
 ·have uI: ¬0+k≤0:=by omega
  have nX:=DU 0 (by omega)
  simp only[Builtin.append_,List.getElem?_toArray,List.getElem?_cons_zero,List.getElem?_cons_succ,Sem.run_bind,run_underlying hu w,Result.andThen_ok,iR hm w,run_underlying iK w,nj,e1,Bool.false_eq_true, ↓reduceIte,jL,Bool.not_false,uI,vsl,Do,k9,or_false,and_false,nX]
  have AW: (choose (Question.appendCap (0+k) 0 e)).run P w= .ok ((0+k)+w.tape w.drawn (.appendCap (0+k) 0 e)% (2^63 - (0+k))) w.drew:=rfl
  rw[AW]
  generalize kr: (0+k)+w.tape w.drawn (.appendCap (0+k) 0 e)% (2^63 - (0+k))=c
  have aJ:=hw.drew
  have lQ:=vB _ aJ
  have io: (Builtin.firstCells m.2 0 (Value.slice (some ⟨b,0,none⟩) 0 0)).run P w.drew= .ok #[] w.drew:=by
   simp only[Builtin.firstCells,Nat.zero_mul];rfl
  simp only[Result.andThen_ok,room,io,lQ.cells,rj]
  refine .inr ⟨by omega,_,_,L++ [(w.drew.heap.size, .cells ([]++new++ (Builtin.zeroCells z.cells (c - (0+k))).toList).toArray e (0,0))],rfl, ?_, .at_ (b:=w.drew.heap.size) (rest:=(Builtin.zeroCells z.cells (c - (0+k))).toList) ?_ ?_ ?_ (by omega) (by omega), ?_,⟨_,rfl,gi fun b hb=>aJ.lt hb⟩⟩
  ·have ea: ([]++new++ (Builtin.zeroCells z.cells (c - (0+k))).toList).toArray= #[]++new.toArray++Builtin.zeroCells z.cells (c - (0+k)):=by apply Array.ext';simp
   rw[ea]
   exact aJ.alloc _
  ·rw[iB (fun hm=>Nat.lt_irrefl _ (aJ.lt hm))]
   simp[look]
  ·rw[List.nil_append,hX.size,Nat.zero_add]
  ·exact zc _
  ·refine⟨fun c hc=>by rw[bO];exact List.mem_append_left _ hc,fun c hc=> ?_,fun c o ad ho=>aq ho⟩
   rw[bO] at hc
   rcases List.mem_append.1 hc with hc|hc
   ·exact .inl hc
   ·right
    simp only[keys,List.map_cons,List.map_nil,List.mem_singleton] at hc
    subst hc
    exact⟨gi fun b hb=>aJ.lt hb,aJ.size⟩
end
section
variable {P:Program} {w0:World} {f:Fr} {L:aA} {N:Fr→aA→Prop} {ops:Array Oper} {rest:List Oper} {md:Md}
 {d:Option Tmp} {ty:TypeId} {ps:String} {af:Array Edge} {g:Option (Nat×Bool)}
theorem Ow.appendEm {ts tx e:TypeId} {m:Bool×Nat} {z:Value} {s x:Operand} {b k:Nat} {new:List Value} {dx:TypeDesc} {md':Md} (gA:ev f s=vsl b 0 0 0) (he:md.turn=some md')
  (hs:bM ops f ⟨d, .call ⟨.builtin .append, #[s,x], #[ts,tx]⟩,ty,ps,af,g⟩=false)
  (hu:P.underlying ts=some (.slice e)) (hm:aK P e=some m) (hi:ou P e=true) (hz:al P e=some z) (kI:z.cells.size=m.2) (iK:P.underlying tx=some dx) (bW: ∀k,dx≠ .int k)
  (hX: ∀w,Hp w0 L w→AppX P w m.2 (ev f x) k new) (cZ:2* (0+k)+768≤2^38)
  (Aw:k=0→Ow P w0 ops md' rest (aW f d (vsl b 0 0 0)) L N)
  (hn: ∀v' L',0<k→Buf L' e m.2 v' (0+k) ([]++new)→Grew w0 (.slice none 0 0) L L'→(∃c,slB v'=some c∧eG L c)→Ow P w0 ops md' rest (aW f d v') L' N):
  Ow P w0 ops md (⟨d, .call ⟨.builtin .append, #[s,x], #[ts,tx]⟩,ty,ps,af,g⟩::rest) f L N:=by
 refine Ow.step he rfl hs fun w hw=> ?_
 rcases UD (ty:=ty) (b:=b) hw hu hm hi hz kI iK bW hX cZ with⟨hk,hr⟩ | ⟨hk,v',w',L',hr,hp,hb,hg,cT⟩
 ·refine .inl ⟨_,w,L, ?_,hw,Aw hk⟩
  simp only[execOp,resolve,Sem.run_bind,Sem.run_pure,Result.andThen_ok,invoke,builtin,List.map_toArray,List.map_cons,List.map_nil,gA]
  rw[hr]
  rfl
 ·refine .inl ⟨v',w',L', ?_,hp,hn v' L' hk hb hg cT⟩
  simp only[execOp,resolve,Sem.run_bind,Sem.run_pure,Result.andThen_ok,invoke,builtin,List.map_toArray,List.map_cons,List.map_nil,gA]
  rw[hr]
  rfl
end
end Go.Sx
end
namespace Go.Sx
open Go
def Gr (L:aA) (E:TypeId) (m:Nat) (v:Value) (n:Nat) (cs:List Value):Prop:=
 Buf L E m v n cs∨(n=0∧cs= []∧ ∃b,v=vsl b 0 0 0∧look L b=some (.cells #[] E (0,0)))
theorem Gr.nl {L:aA} {E:TypeId} {m:Nat}:Gr L E m (.slice none 0 0) 0 []:= .inl .nl
theorem Grew.any {w0:World} {v v':Value} {L L':aA} (h:Grew w0 v L L') (hv:slB v=none):Grew w0 v' L L':=
 ⟨h.keys,h.new,fun c o _ hl=>h.look c o (by rw[hv];simp) hl⟩
theorem Gr.keep {L L':aA} {E:TypeId} {m n:Nat} {v:Value} {cs:List Value} (h:Gr L E m v n cs) (hk: ∀b o,slB v=some b→look L b=some o→look L' b=some o):Gr L' E m v n cs:=by
 rcases h with h| ⟨h1,h2,b,rfl,h3⟩
 ·exact .inl (h.keep hk)
 ·exact .inr ⟨h1,h2,b,rfl,hk b _ rfl h3⟩
theorem Gr.app {L M:aA} {E:TypeId} {m n:Nat} {v:Value} {cs:List Value} (h:Gr L E m v n cs):Gr (L++M) E m v n cs:=h.keep fun _ _ _ hl=>aq hl
theorem Gr.len {L:aA} {E:TypeId} {m n:Nat} {v:Value} {cs:List Value} (h:Gr L E m v n cs) (x:Bool×Nat):fe (.sl x) v=some (vi n):=by
 rcases h with h| ⟨rfl,rfl,b,rfl,-⟩
 ·exact h.len x
 ·rfl
theorem Gr.cell {L:aA} {E:TypeId} {m n:Nat} {v:Value} {cs:List Value} (h:Gr L E m v n cs):Value.oneCell' v=true∧v.cells= #[v]:=by
 rcases h with h| ⟨rfl,rfl,b,rfl,-⟩
 ·exact h.cell
 ·exact⟨rfl,rfl⟩
theorem Gr.key {L:aA} {E:TypeId} {m n:Nat} {v:Value} {cs:List Value} (h:Gr L E m v n cs) {b:Nat} (hb:slB v=some b):b∈keys L:=by
 rcases h with h| ⟨rfl,rfl,c,rfl,hl⟩
 ·rcases h.inv with⟨rfl,-,-⟩ | ⟨c,cc,rest,rfl,hl,-⟩
  ·cases hb
  ·cases hb;exact bV hl
 ·cases hb;exact bV hl
section
variable {α:Type} {m:Nat} {enc:α→List Value} {z:α} {w:World} {v:Value} {l:List α}
theorem Gr.slM {L:aA} {E:TypeId} {n:Nat} {cs:List Value} (h:Gr L E m v n cs) (hw: ∀b o,(b,o)∈L→w.heap[b]? =some o) (hl:l.length=n) (dL:cs=(l.map enc).flatten) (hm: ∀x,(enc x).length=m):SlV m enc z w v l:=by
 rcases h with h| ⟨rfl,rfl,b,rfl,bP⟩
 ·exact h.slM hw hl dL hm
 ·obtain rfl:l= []:=List.eq_nil_of_length_eq_zero hl
  exact SlV.sl (l:=([]:List α)) (off:=0) (c:=0) (hw _ _ (bh bP)) (fun k hk=>by simp at hk) (Nat.le_refl 0) (by simp)
theorem Gr.slV {L:aA} {E:TypeId} {n:Nat} {cs:List Value} {w0:World} (h:Gr L E m v n cs) (hw:Hp w0 L w) (hl:l.length=n) (dL:cs=(l.map enc).flatten) (hm: ∀x,(enc x).length=m):SlV m enc z w v l:=h.slM hw.has hl dL hm
theorem Uw (hm: ∀x,(enc x).length=m) (arr:Array Value): ∀ (ls:List α) (off:Nat),off+ls.length*m≤arr.size→(∀k j,k<ls.length→j<m→arr[off+k*m+j]? =(enc (ls.getD k z))[j]?)→
  (arr.extract off (off+ls.length*m)).toList=(ls.map enc).flatten
 | [],off,_,_=>by simp
 |r::ls,off,hs,h=>by
  have eE: (r::ls).length*m=m+ls.length*m:=by rw[List.length_cons,Nat.add_mul,Nat.one_mul,Nat.add_comm]
  rw[eE] at hs ⊢
  have ih:=Uw hm arr ls (off+m) (by omega) (fun k j hk hj=>by
   have:=h (k+1) j (by simpa using hk) hj
   rw[List.getD_cons_succ] at this
   rw[←this];congr 1;rw[Nat.add_mul,Nat.one_mul];omega)
  have h0: (arr.extract off (off+m)).toList=enc r:=by
   apply List.ext_getElem?
   intro j
   rw[Array.getElem?_toList,Array.getElem?_extract]
   by_cases hj:j<m
   ·rw[if_pos (by omega)]
    have:=h 0 j (by simp) hj
    simpa using this
   ·rw[if_neg (by omega),List.getElem?_eq_none (by rw[hm];omega)]
  rw[List.map_cons,List.flatten_cons,←ih,←h0,←Array.toList_append]
  congr 1
  rw[Array.extract_append_extract]
  congr 1<;>omega
theorem xc (hm: ∀x,(enc x).length=m) (l:List α): (l.map enc).flatten.length=l.length*m:=by
 induction l with
 |nil=>simp
 |cons x r ih=>rw[List.map_cons,List.flatten_cons,List.length_append,ih,hm,List.length_cons,Nat.add_mul,Nat.one_mul,Nat.add_comm]
theorem AppX.one1 {P:Program} {b:Nat} {E:TypeId} {fz:Nat×Nat} {cs:List Value} (hb:w.heap[b]? =some (.cells cs.toArray E fz)) (hm:cs.length=m) (h1:cs.all Value.oneCell'=true):AppX P w m (vsl b 0 1 1) 1 cs:=by
 refine AppX.block (w0:=w) (L:= []) (by rw[Cu];exact hb) (by simp;omega) ?_ h1 (Hp.refl w)
 rw[List.extract_toArray,List.extract_eq_take_drop,List.drop_zero,List.take_of_length_le (by omega)]
theorem SlV.appX {P:Program} (h:SlV m enc z w v l) (hm: ∀x,(enc x).length=m) (h1: ∀x,(enc x).all Value.oneCell'=true):AppX P w m v l.length (l.map enc).flatten:=by
 obtain⟨b,off,c,arr,E,fz,hr,hc,hv⟩:=h
 rcases hv with⟨rfl,rfl,rfl⟩ | ⟨rfl,fQ,fr⟩
 ·exact AppX.nil P w m
 ·refine AppX.block (w0:=w) (L:= []) (by rw[Cu];exact fQ) fr (Uw (z:=z) hm arr l off fr (fun k j hk hj=>hr.get k hk j hj)) ?_ (Hp.refl w)
  rw[List.all_flatten,List.all_map,List.all_eq_true]
  exact fun r _=>h1 r
end
section
variable {P:Program} {w0:World} {f:Fr} {L:aA} {N:Fr→aA→Prop} {ops:Array Oper} {rest:List Oper} {md:Md}
 {d:Option Tmp} {ty:TypeId} {ps:String} {af:Array Edge} {g:Option (Nat×Bool)}
theorem Ow.appendG {ts tx e:TypeId} {m:Bool×Nat} {z:Value} {s x:Operand} {n k:Nat} {cs new:List Value} {dx:TypeDesc} {md':Md} (sv:Value) (gA:ev f s=sv) (he:md.turn=some md')
  (hs:bM ops f ⟨d, .call ⟨.builtin .append, #[s,x], #[ts,tx]⟩,ty,ps,af,g⟩=false)
  (hu:P.underlying ts=some (.slice e)) (hm:aK P e=some m) (hi:ou P e=true) (hz:al P e=some z) (kI:z.cells.size=m.2) (iK:P.underlying tx=some dx) (bW: ∀k,dx≠ .int k)
  (hB:Gr L e m.2 sv n cs) (hX: ∀w,Hp w0 L w→AppX P w m.2 (ev f x) k new) (aP:new.length=k*m.2) (cZ:2* (n+k)+768≤2^38)
  (hn: ∀v' L',Gr L' e m.2 v' (n+k) (cs++new)→(0<k→Buf L' e m.2 v' (n+k) (cs++new))→Grew w0 sv L L'→(slB v'=slB sv∨ ∃c,slB v'=some c∧eG L c)→Ow P w0 ops md' rest (aW f d v') L' N):
  Ow P w0 ops md (⟨d, .call ⟨.builtin .append, #[s,x], #[ts,tx]⟩,ty,ps,af,g⟩::rest) f L N:=by
 rcases hB with hB| ⟨rfl,rfl,b,rfl,bP⟩
 ·exact Ow.append sv gA he hs hu hm hi hz kI iK bW hB hX cZ fun v' L' h1 h2 h3=>hn v' L' (.inl h1) (fun _=>h1) h2 h3
 ·refine Ow.appendEm gA he hs hu hm hi hz kI iK bW hX cZ (fun h0=> ?_) (fun v' L' hk h1 h2 h3=> ?_)
  ·subst h0
   obtain rfl:new= []:=List.eq_nil_of_length_eq_zero (by rw[aP,Nat.zero_mul])
   exact hn _ L (.inr ⟨rfl,rfl,b,rfl,bP⟩) (fun h=>absurd h (Nat.lt_irrefl 0)) (Grew.refl _ _ _) (.inl rfl)
  ·exact hn v' L' (.inl h1) (fun _=>h1) (h2.any rfl) (.inr h3)
end
end Go.Sx
namespace Go.Sx
open Go
theorem Kj {w0:World} {L M:aA} {r:Nat} (h:r∈keys L):aM w0 (L++M) r=aM w0 L r:=by
 obtain⟨o,ho⟩:=CQ h
 rw[aL ho,aL (aq ho)]
theorem Bj {w0:World} {L M:aA} {R:List Nat} (h: ∀r,r∈R→r∈keys L): ∀r,r∈R→aM w0 (L++M) r=aM w0 L r:=fun r hr=>Kj (h r hr)
theorem New.of_le {n:Nat}: ∀ {D:aA},(∀c,c∈keys D→n≤c)→New n D
 | [],_=>trivial
 | (b,o)::r,h=>⟨h b (by simp[keys]),New.of_le fun c hc=>h c (by simp only[keys,List.map_cons,List.mem_cons] at hc ⊢;exact .inr hc)⟩
theorem Ij {w0:World} {L M:aA} {r:Nat} (h:r∉keys M):aM w0 (M++L) r=aM w0 L r:=by
 unfold aM;rw[iB h]
theorem Ext.new0 {w:World} {D:aA} (h:Ext w [] D):New w.heap.size D:=by
 have hn:=h.new
 have key: ∀ (D:aA),(∀c,c∈Sx.keys D→w.heap.size≤c)→New w.heap.size D:=by
  intro D
  induction D with
  |nil=>intro _;trivial
  |cons p r ih=>
   obtain⟨b,o⟩:=p
   intro hh
   exact⟨hh b (by simp[Sx.keys]),ih fun c hc=>hh c (by simp only[Sx.keys,List.map_cons,List.mem_cons] at hc ⊢;exact .inr hc)⟩
 refine key D fun c hc=> ?_
 rcases hn c hc with h1|h1
 ·cases h1
 ·exact h1
theorem Ext.of_new {w:World} {D:aA} (h:New w.heap.size D):Ext w [] D:=⟨fun c hc=> .inr (h.le c hc),fun c hc=>by cases hc⟩
section
variable {P:Program} {w0:World} {f:Fr} {L:aA} {N:Fr→aA→Prop} {K:cR} {ops:Array Oper} {rest:List Oper} {md:Md}
 {d:Option Tmp} {ty:TypeId} {ps:String} {af:Array Edge} {g:Option (Nat×Bool)}
theorem w5 {b:Nat} {o:Obj}: ∀ {B:aA},(keys B).Nodup→(b,o)∈B→look B b=some o
 | [],_,h=>by cases h
 | (c,x)::q,hn,h=>by
  simp only[keys,List.map_cons,List.nodup_cons] at hn
  unfold look
  rcases List.mem_cons.1 h with h|h
  ·cases h;rw[if_pos rfl]
  ·have:c≠b:=fun e=>hn.1 (e▸List.mem_map.2 ⟨_,h,rfl⟩)
   rw[if_neg this]
   exact w5 hn.2 h
theorem SR.perm {R:List Nat} {M:aA} (h:M.Perm L) (hn: (keys L).Nodup):SR w0 R M=SR w0 R L:=by
 refine vx fun r _=> ?_
 have hk: ∀ (A B:aA),A.Perm B→(keys B).Nodup→ ∀o,look A r=some o→look B r=some o:=fun A B hp hB o ho=>w5 hB (hp.mem_iff.1 (bh ho))
 have Ax: (keys M).Nodup:=(List.Perm.nodup_iff (h.map Prod.fst)).2 hn
 unfold aM
 cases hl:look L r with
 |some o=>rw[hk L M h.symm Ax o hl]
 |none=>
  cases hm:look M r with
  |none=>rfl
  |some o=>rw[hk M L h hn o hm] at hl;cases hl
theorem OwD.permL {l:List Oper} {listed:List Bool} {n:Nat} {R ts:List Nat} {a d:Nat} {z:Obj} {M:aA} (hp:M.Perm L) (h:OwD P w0 l R ts a d z n listed f M N):OwD P w0 l R ts a d z n listed f L N:=by
 refine⟨fun w hw=> ?_,fun b w hb qA hw=> ?_⟩
 ·have:=h.1 w (hw.perm hp)
  rw[SR.perm hp hw.nodup] at this
  exact this
 ·have av: (keys L).Nodup:=by
   have:=hw.nodup
   rw[bO,List.nodup_append] at this
   exact this.1
  have:=h.2 b w hb (fun hm=>qA (by have:=(hp.map Prod.fst).mem_iff.1 hm;exact this)) (hw.perm (hp.append_right _))
  rw[SR.perm hp av] at this
  exact this
theorem Cw.permL {c:Code} {M:aA} (hp:M.Perm L) (h:Cw P w0 c f M K):Cw P w0 c f L K:=fun w hw=>h w (hw.perm hp)
theorem Ow.permL {M:aA} {l:List Oper} (hp:M.Perm L) (h:Ow P w0 ops .seq l f M N):Ow P w0 ops .seq l f L N:=fun w hw=>h w (hw.perm hp)
theorem Ow.callC {l:List Operand} {ts:Array TypeId} {k:FuncId} {S:Value→aA→Prop} {md':Md} (he:md.turn=some md')
  (hs:bM ops f ⟨d, .call ⟨.value (.func k),l.toArray,ts⟩,ty,ps,af,g⟩=false)
  (hk: ∀a w,(callFunc k a).run P w= .ok (.enter k a) w)
  (hc: ∀w,Hp w0 L w→Rets P k (l.map (ev f)).toArray w (XS w [] S))
  (hn: ∀B v D,eG L B→w0.heap.size≤B→New B D→S v D→Ow P w0 ops md' rest (aW f d v) (L++D) N):
  Ow P w0 ops md (⟨d, .call ⟨.value (.func k),l.toArray,ts⟩,ty,ps,af,g⟩::rest) f L N:=
 Ow.callN he hs hk (S:=fun B v D=>New B D∧S v D) (fun w hw=>(hc w hw).mono fun _v _D h=>⟨h.1.new0,h.2⟩) (fun _ _ _ h=>h.1) (fun B v D hA hB hS=>hn B v D hA hB hS.1 hS.2)
theorem Hp.part {w:World} {X Y:aA} (h:Hp w0 (X++Y) w):Hp w X w:=
 ⟨fun b o hm=>h.has b o (List.mem_append_left _ hm),by have:=h.nodup;rw[bO,List.nodup_append] at this;exact this.1,fun _ _ _=>rfl,Nat.le_refl _,rfl,rfl,rfl⟩
theorem Hp.join {w w':World} {X Y D:aA} (h:Hp w0 (X++Y) w) (k:Hp w D w') (h1: ∀c,c∈keys X→c∈keys D) (h2: ∀c,c∈keys D→c∈keys X∨w.heap.size≤c):Hp w0 (D++Y) w':=by
 have av:=h.nodup
 rw[bO,List.nodup_append] at av
 have hY: ∀c,c∈keys Y→c∉keys D:=by
  intro c hc hd
  rcases h2 c hd with hx|hx
  ·exact av.2.2 c hx c hc rfl
  ·have:=h.lt (b:=c) (by rw[bO];exact List.mem_append_right _ hc)
   omega
 have ht:=h.trans k
 have e: (X++Y).filter (fun p=> !(keys D).contains p.1)=Y:=by
  rw[List.filter_append,Bc hY]
  have:X.filter (fun p=> !(keys D).contains p.1)= []:=by
   rw[List.filter_eq_nil_iff]
   intro p hp
   have:=h1 p.1 (List.mem_map.2 ⟨p,hp,rfl⟩)
   simp[this]
  rw[this,List.nil_append]
 rw[e] at ht
 exact ht.perm List.perm_append_comm
theorem Ow.appendX {ts tx e:TypeId} {m:Bool×Nat} {z:Value} {s x:Operand} {n k:Nat} {cs new:List Value} {dx:TypeDesc} {md':Md} {X Y:aA} (sv:Value) (hL:L=X++Y) (gA:ev f s=sv) (he:md.turn=some md')
  (hs:bM ops f ⟨d, .call ⟨.builtin .append, #[s,x], #[ts,tx]⟩,ty,ps,af,g⟩=false)
  (hu:P.underlying ts=some (.slice e)) (hm:aK P e=some m) (hi:ou P e=true) (hz:al P e=some z) (kI:z.cells.size=m.2) (iK:P.underlying tx=some dx) (bW: ∀k,dx≠ .int k)
  (hB:Gr X e m.2 sv n cs) (hX: ∀w,Hp w0 L w→AppX P w m.2 (ev f x) k new) (hk:0<k) (cZ:2* (n+k)+768≤2^38)
  (hn: ∀B v' D,eG L B→w0.heap.size≤B→Buf D e m.2 v' (n+k) (cs++new)→(∀c,c∈keys X→c∈keys D)→(∀c,c∈keys D→c∈keys X∨B≤c)→(∀c o,slB sv≠some c→look X c=some o→look D c=some o)→Ow P w0 ops md' rest (aW f d v') (D++Y) N):
  Ow P w0 ops md (⟨d, .call ⟨.builtin .append, #[s,x], #[ts,tx]⟩,ty,ps,af,g⟩::rest) f L N:=by
 subst hL
 refine Ow.step he rfl hs fun w hw=> ?_
 have hp:=hw.part
 have hA:eG (X++Y) w.heap.size:=gi fun b hb=>hw.lt hb
 have fin: ∀v' w' D,(Builtin.append_ #[ts,tx] ty #[sv,ev f x]).run P w= .ok v' w'→Hp w D w'→Buf D e m.2 v' (n+k) (cs++new)→(∀c,c∈keys X→c∈keys D)→(∀c,c∈keys D→c∈keys X∨w.heap.size≤c)→(∀c o,slB sv≠some c→look X c=some o→look D c=some o)→
   (∃v w' L',(execOp (ev f) ⟨d, .call ⟨.builtin .append, #[s,x], #[ts,tx]⟩,ty,ps,af,g⟩).run P w= .ok (.value v) w'∧Hp w0 L' w'∧Ow P w0 ops md' rest (aW f d v) L' N):=by
  intro v' w' D hr hD hb h1 h2 h3
  refine⟨v',w',D++Y, ?_,hw.join hD h1 h2,hn w.heap.size v' D hA hw.size hb h1 h2 h3⟩
  simp only[execOp,resolve,Sem.run_bind,Sem.run_pure,Result.andThen_ok,invoke,builtin,List.map_toArray,List.map_cons,List.map_nil,gA]
  rw[hr]
  rfl
 have aQ: ∀w',Hp w [] w'→True:=fun _ _=>trivial
 rcases hB with hB| ⟨rfl,rfl,b,rfl,bP⟩
 ·obtain⟨v',w',D,hr,hD,hb,hg,-⟩:=ER (w0:=w) (L:=X) (ty:=ty) (x:=ev f x) hp hu hm hi hz kI iK bW hB (fun w2 cU=>hX w2 (by
   refine hw.join cU (fun c hc=>hc) (fun c hc=> .inl hc))) cZ
  exact .inl (fin v' w' D hr hD hb hg.keys (fun c hc=>(hg.new c hc).imp id And.right) hg.look)
 ·rcases UD (w0:=w) (L:=X) (ty:=ty) (b:=b) (x:=ev f x) hp hu hm hi hz kI iK bW (fun w2 cU=>hX w2 (by
   refine hw.join cU (fun c hc=>hc) (fun c hc=> .inl hc))) cZ with⟨h0,-⟩ | ⟨-,v',w',D,hr,hD,hb,hg,-⟩
  ·omega
  ·exact .inl (fin v' w' D hr hD hb hg.keys (fun c hc=>(hg.new c hc).imp id And.right) (fun c o _ hl=>hg.look c o (by simp[slB]) hl))
end
def GrI (D:aA) (E:TypeId) (m:Nat) (v:Value) (n:Nat) (cs:List Value):Prop:= ∃X,(∀p,p∈X→p∈D)∧Gr X E m v n cs
theorem Gr.i {X D:aA} {E:TypeId} {m n:Nat} {v:Value} {cs:List Value} (h:Gr X E m v n cs) (hX: ∀p,p∈X→p∈D):GrI D E m v n cs:=⟨X,hX,h⟩
theorem GrI.mono {D D':aA} {E:TypeId} {m n:Nat} {v:Value} {cs:List Value} (h:GrI D E m v n cs) (hX: ∀p,p∈D→p∈D'):GrI D' E m v n cs:=by
 obtain⟨X,h1,h2⟩:=h;exact⟨X,fun p hp=>hX p (h1 p hp),h2⟩
theorem GrI.slV {α:Type} {m:Nat} {enc:α→List Value} {z:α} {w0 w:World} {v:Value} {l:List α} {D:aA} {E:TypeId} {n:Nat} {cs:List Value} (h:GrI D E m v n cs) (hw:Hp w0 D w) (hl:l.length=n) (dL:cs=(l.map enc).flatten) (hm: ∀x,(enc x).length=m):SlV m enc z w v l:=by
 obtain⟨X,h1,h2⟩:=h
 exact h2.slM (fun b o hm=>hw.has b o (h1 _ hm)) hl dL hm
section
variable {P:Program} {w0:World} {f:Fr} {L:aA} {N:Fr→aA→Prop}
theorem Hh {L _M:aA} {b:Nat} {o:Obj} (h:b∉keys L):look (L++ [(b,o)]) b=some o:=by
 rw[iB h];exact sA _ _ _
end
end Go.Sx
namespace Go.Sx
open Go
theorem j8 {P:Program} {t e:TypeId} {m:Nat} {zc:Array Value} {cs:List Value} (hu:P.underlying t=some (.slice e)) (ha:aK P e=some (true,m)) (hz:al P e=some (.agg zc)) (hm:0<m∧m≤16777216) (hc:cs.length=m):
  sH P t 1 [(0, .agg cs.toArray)]=some (e,cs.toArray):=by
 have h2:Value.cells (.agg cs.toArray)=cs.toArray:=bL _
 have hg: ¬ (1*m>2^24):=by simp;omega
 have h0: ¬ (1*m=0):=by omega
 simp only[sH,hu,ha,hz,Option.map_some]
 rw[if_neg hg,if_neg h0]
 simp only
 generalize hI: (Array.range (1*m)).map (fun x=>(Value.cells (.agg zc))[x% (Value.cells (.agg zc)).size]!)=I
 have WO:I.size=m:=by rw[←hI];simp
 have eN:Instr.fill (fun i=>some (i*m,m)) I [(0,Value.agg cs.toArray)]=some cs.toArray:=by
  unfold Instr.fill
  have s3:cs.toArray.size=m:=by simp[hc]
  simp only[h2,s3,WO,Nat.zero_mul,ne_eq,not_true_eq_false,decide_false,Bool.false_or,Nat.zero_add,Nat.lt_irrefl,gt_iff_lt,Bool.false_eq_true, ↓reduceIte]
  unfold Instr.fill
  congr 1
  have hz:=EV cs 0 0 I
  rw[Nat.add_zero,yH I cs (by rw[hc,WO])] at hz
  simp only[Nat.zero_add] at hz
  rw[←Array.foldl_toList,Array.toList_zipIdx]
  exact hz
 rw[eN]
 rfl
end Go.Sx
namespace Go.Sx
open Go
abbrev ltB (a b:List UInt8):Bool:=Op.bytesLess a b
theorem un: ∀ (x y:List UInt8),ltB x y=decide (x<y)
 | [],[]=>by simp[ltB,Op.bytesLess]
 |_::_,[]=>by simp[ltB,Op.bytesLess]
 | [],_::_=>by simp[ltB,Op.bytesLess]
 |a::x,b::y=>by
  have ih:=un x y
  simp only[ltB] at ih ⊢
  rw[Op.bytesLess,ih]
  simp only[List.cons_lt_cons_iff]
  by_cases h1:a<b<;>by_cases h2:a=b<;>by_cases h3:x<y<;>simp[h1,h2,h3]
theorem Eg (a:List UInt8):ltB a a=false:=by
 rw[un];simp
theorem EF {a b c:List UInt8} (h:ltB a b=true) (k:ltB b c=true):ltB a c=true:=by
 rw[un,decide_eq_true_eq] at*
 exact List.lt_trans h k
theorem wa {a b:List UInt8} (h:ltB a b=true):ltB b a=false:=by
 cases hb:ltB b a
 ·rfl
 ·have:=EF h hb
  rw[Eg] at this;cases this
theorem DI {a b:List UInt8} (h:ltB a b=false) (ad:a≠b):ltB b a=true:=by
 rw[un,decide_eq_false_iff_not] at h
 rw[un,decide_eq_true_eq]
 rcases Std.Trichotomous.rel_or_eq_or_rel_swap (r:=(· < · :List UInt8→List UInt8→Prop)) (a:=a) (b:=b) with h1|h1|h1
 ·exact absurd h1 h
 ·exact absurd h1 ad
 ·exact h1
end Go.Sx
namespace Go.StP
open Go Go.Sx
variable {α:Type} (key:α→List UInt8)
def lt (a b:α):Bool:=ltB (key a) (key b)
def Sorted (l:List α):Prop:=l.Pairwise fun a b=>lt key b a=false
def of (k:List UInt8) (l:List α):List α:=l.filter fun a=>key a==k
def St (l l':List α):Prop:= ∀k,of key k l'=of key k l
theorem St.refl (l:List α):St key l l:=fun _=>rfl
variable {key}
theorem St.trans {a b c:List α} (h:St key a b) (h':St key b c):St key a c:=fun k=>(h' k).trans (h k)
theorem St.symm {a b:List α} (h:St key a b):St key b a:=fun k=>(h k).symm
theorem pL (k:List UInt8) (a b:List α):of key k (a++b)=of key k a++of key k b:=List.filter_append ..
theorem St.app {a a' b b':List α} (h:St key a a') (h':St key b b'):St key (a++b) (a'++b'):=fun k=>by rw[pL,pL,h,h']
theorem ze {k:List UInt8} {l:List α} {x:α}:x∈of key k l↔x∈l∧key x=k:=by
 unfold of;rw[List.mem_filter];simp
theorem St.mem {a b:List α} (h:St key a b) (x:α):x∈b↔x∈a:=by
 have e:=h (key x)
 have h1:x∈b↔x∈of key (key x) b:=by rw[ze];simp
 have h2:x∈a↔x∈of key (key x) a:=by rw[ze];simp
 rw[h1,h2,e]
theorem z6 {k:List UInt8} {l:List α} (h: ∀x,x∈l→key x≠k):of key k l= []:=by
 unfold of
 rw[List.filter_eq_nil_iff]
 intro x hx
 simpa using h x hx
theorem St.swap {a b:List α} (h: ∀x,x∈a→ ∀y,y∈b→key x≠key y):St key (a++b) (b++a):=by
 intro k
 rw[pL,pL]
 by_cases ha: ∃x,x∈a∧key x=k
 ·obtain⟨x,hx,rfl⟩:=ha
  have:of key (key x) b= []:=z6 fun y hy e=>h x hx y hy e.symm
  rw[this,List.append_nil,List.nil_append]
 ·have:of key k a= []:=z6 fun x hx e=>ha ⟨x,hx,e⟩
  rw[this,List.append_nil,List.nil_append]
theorem lt_trans {a b c:α} (h:lt key a b=true) (k:lt key b c=true):lt key a c=true:=EF h k
theorem lt_irrefl (a:α):lt key a a=false:=Eg _
theorem R8 {a b:α} (h:lt key a b=false) (k:lt key b a=false):key a=key b:=by
 cases hk:decide (key a=key b)
 ·have ad:key a≠key b:=of_decide_eq_false hk
  have:=DI h ad
  unfold lt at k
  rw[this] at k;cases k
 ·exact of_decide_eq_true hk
theorem St.head {a b:α} {l l':List α} (hs:Sorted key (a::l)) (rW:Sorted key (b::l')) (h:St key (a::l) (b::l')):a=b∧St key l l':=by
 have h1:lt key b a=false:=by
  have hb:b∈a::l:=(h.mem b).1 List.mem_cons_self
  rcases List.mem_cons.1 hb with rfl|hb
  ·exact lt_irrefl _
  ·exact(List.pairwise_cons.1 hs).1 b hb
 have h2:lt key a b=false:=by
  have ha:a∈b::l':=(h.mem a).2 List.mem_cons_self
  rcases List.mem_cons.1 ha with rfl|ha
  ·exact lt_irrefl _
  ·exact(List.pairwise_cons.1 rW).1 a ha
 have hk:key a=key b:=R8 h2 h1
 have he:=h (key a)
 unfold of at he
 rw[List.filter_cons,List.filter_cons,if_pos (by simp[hk]),if_pos (by simp)] at he
 have jF:b=a:=(List.cons.inj he).1
 refine⟨jF.symm,fun k=> ?_⟩
 have cb:=h k
 subst jF
 unfold of at cb ⊢
 rw[List.filter_cons,List.filter_cons] at cb
 split at cb
 ·exact(List.cons.inj cb).2
 ·exact cb
theorem St.eq: ∀ {l l':List α},Sorted key l→Sorted key l'→St key l l'→l=l'
 | [],[],_,_,_=>rfl
 | [],b::l',_,_,h=>by
  have:b∈ ([]:List α):=(h.mem b).1 List.mem_cons_self
  cases this
 |a::l,[],_,_,h=>by
  have:a∈ ([]:List α):=(h.mem a).2 List.mem_cons_self
  cases this
 |a::l,b::l',hs,rW,h=>by
  obtain⟨rfl,h'⟩:=St.head hs rW h
  rw[St.eq (List.pairwise_cons.1 hs).2 (List.pairwise_cons.1 rW).2 h']
theorem Sorted.app {a b:List α} (ha:Sorted key a) (hb:Sorted key b) (h: ∀x,x∈a→ ∀y,y∈b→lt key y x=false):Sorted key (a++b):=
 List.pairwise_append.2 ⟨ha,hb,h⟩
theorem Sorted.left {a b:List α} (h:Sorted key (a++b)):Sorted key a:=(List.pairwise_append.1 h).1
theorem Sorted.right {a b:List α} (h:Sorted key (a++b)):Sorted key b:=(List.pairwise_append.1 h).2.1
end Go.StP
namespace Go.Sx
open Go
section
variable {α:Type} (enc:α→List Value)
def dQ (E:TypeId) (rest:List Value) (d:List α):Obj:= .cells ((d.map enc).flatten++rest).toArray E (0,0)
variable {enc} {m:Nat} {E:TypeId} {rest:List Value} {d:List α} {z:α}
theorem DC (hm: ∀x,(enc x).length=m) {k:Nat} (hk:k<d.length): ∃A C,(d.map enc).flatten++rest=A++ (enc (d.getD k z)++C)∧A.length=k*m∧ ∀x,((d.set k x).map enc).flatten++rest=A++ (enc x++C):=by
 refine⟨((d.take k).map enc).flatten,((d.drop (k+1)).map enc).flatten++rest, ?_, ?_,fun x=> ?_⟩
 ·have e:d=d.take k++d.getD k z::d.drop (k+1):=by
   rw[List.getD_eq_getElem?_getD,List.getElem?_eq_getElem hk,Option.getD_some,List.getElem_cons_drop,List.take_append_drop]
  have e2:=congrArg (fun l=>(l.map enc).flatten++rest) e
  simp only[List.map_append,List.map_cons,List.flatten_append,List.flatten_cons,List.append_assoc] at e2
  exact e2
 ·rw[xc hm,List.length_take,Nat.min_eq_left (Nat.le_of_lt hk)]
 ·have e:d.set k x=d.take k++x::d.drop (k+1):=List.set_eq_take_append_cons_drop.trans (by rw[if_pos hk])
  rw[e]
  simp only[List.map_append,List.map_cons,List.flatten_append,List.flatten_cons,List.append_assoc]
theorem CT (hm: ∀x,(enc x).length=m) (k:Nat) (hk:k<d.length):aF (some (true,m)) (some (dQ enc E rest d)) (k*m)=some (.agg (enc (d.getD k z)).toArray):=by
 obtain⟨A,C,e,hA,-⟩:=DC (z:=z) (rest:=rest) hm hk
 unfold dQ
 rw[e]
 exact CU A _ C E (0,0) hA (hm _)
end
section
variable {P:Program} {w0:World} {f:Fr} {L:aA} {N:Fr→aA→Prop} {ops:Array Oper} {rest:List Oper} {md:Md} {d:Option Tmp} {ty:TypeId} {ps:String} {af:Array Edge} {g:Option (Nat×Bool)}
end
end Go.Sx
namespace Go.StP
open Go Go.Sx
variable {α:Type} {key:α→List UInt8} {z:α}
theorem VB {a b:List α} {k:Nat} (h:k<a.length): (a++b).getD k z=a.getD k z:=by
 rw[List.getD_eq_getElem?_getD,List.getD_eq_getElem?_getD,List.getElem?_append_left h]
theorem VT {a b:List α} {k:Nat} (h:a.length≤k): (a++b).getD k z=b.getD (k - a.length) z:=by
 rw[List.getD_eq_getElem?_getD,List.getD_eq_getElem?_getD,List.getElem?_append_right h]
theorem mq {l:List α} {k:Nat} (h:k<l.length):l.getD k z∈l:=by
 rw[List.getD_eq_getElem?_getD,List.getElem?_eq_getElem h];exact List.getElem_mem h
theorem Li {l:List α} {k n:Nat} (h:k<n): (l.take n).getD k z=l.getD k z:=by
 rw[List.getD_eq_getElem?_getD,List.getD_eq_getElem?_getD,List.getElem?_take,if_pos h]
theorem KJ {l:List α} {k:Nat} (h:k<l.length):l.drop k=l.getD k z::l.drop (k+1):=by
 rw[List.getD_eq_getElem?_getD,List.getElem?_eq_getElem h]
 exact List.drop_eq_getElem_cons h
theorem take_snoc {l:List α} {k:Nat} (h:k<l.length):l.take (k+1)=l.take k++ [l.getD k z]:=by
 rw[List.getD_eq_getElem?_getD,List.getElem?_eq_getElem h]
 exact List.take_succ_eq_append_getElem h
theorem Sorted.at_ {l:List α} (h:Sorted key l) {i j:Nat} (kC:i≤j) (hj:j<l.length):lt key (l.getD j z) (l.getD i z)=false:=by
 rcases Nat.lt_or_eq_of_le kC with h1|rfl
 ·have:=List.pairwise_iff_getElem.1 h i j (by omega) hj h1
  rw[List.getD_eq_getElem?_getD,List.getD_eq_getElem?_getD,List.getElem?_eq_getElem hj,List.getElem?_eq_getElem (show i<l.length by omega)]
  exact this
 ·exact lt_irrefl _
end Go.StP
namespace Go.Sx
open Go
def oL (r:Option Nat):Fence:={Fence.wide with round:=r}
def wC:Op→Bool
 | .defer _=>false
 |_=>true
section
variable {P:Program} {w0:World} {f:Fr} {L:aA} {K:cR} {N:Fr→aA→Prop} {ops:Array Oper} {rest:List Oper} {r:Option Nat} {n:Nat}
theorem Gv {k:FuncId} {args:Array Value} {w:World} {R:Ending→World→Prop} (h:Calls P k args w R):CallsIn (oL r) n P k args w R:=
 (callsIn_wide.2 h:CallsIn Fence.wide n P k args w R)
theorem IV {row:String} {args:Array Value} {w:World} {R:Value→World→Prop} (h:Rows P row args w R):RowsIn (oL r) n P row args w R:=
 (fun c cs _=>let ⟨v,w',hr,s⟩:=h c cs;⟨v,w',hr,stepsIn_wide.2 s⟩:RowsIn Fence.wide n P row args w R)
theorem PI {o:Oper} {a:Act} {w:World} {next:Act→World→Prop} {Q:Exit→Act→World→Prop} (hd:wC o.op=true) (h:o.wp P a w next Q):o.wpIn (oL r) n P a w next Q:=by
 refine⟨fun _ _=>trivial, ?_⟩
 rw[Oper.semAt_eq _ _ _ (fun c e=>by rw[e] at hd;cases hd)]
 unfold Oper.wp at h
 generalize (execOp a.eval o).run P w=x at h
 match x,h with
 | .ok (.value v) _,h=>exact h
 | .ok .skip _,h=>exact h
 | .ok (.defer e) _,h=>exact h
 | .ok (.enter k args) w',h=>
  have h':Calls P k args w' _:=h
  exact⟨fun(e:false=true)=>(by cases e),Gv h'⟩
 | .ok (.row row args) w',h=>
  have h':Rows P row args w' _:=h
  exact⟨fun(e:false=true)=>(by cases e),IV h'⟩
 | .halt (.panic u) _,h=>exact h
theorem sM {Q:Exit→Act→World→Prop} {l2:List Oper}: ∀ (l1:List Oper) (a:Act) (w:World),(l1.all fun o=>wC o.op)=true→
  wpList P ops (fun e a w=>e= .normal∧wpListIn (oL r) n P ops Q l2 a w) l1 a w→wpListIn (oL r) n P ops Q (l1++l2) a w
 | [],_,_,_,h=>h.2
 |o::l1,a,w,hd,h=>by
  rw[List.cons_append]
  unfold wpList at h
  unfold wpListIn
  rw[List.all_cons,Bool.and_eq_true] at hd
  split at h
  ·rename_i hw
   rw[if_pos hw]
   rcases h with h| ⟨-,hl⟩
   ·exact PI hd.1 (Bv (fun a w hx=>sM l1 a w hd.2 hx) (fun e a w ad hq=>ad hq.1) h)
   ·obtain⟨_,_,he,-⟩:=hl
    cases he
  ·rename_i hw
   rw[if_neg hw]
   exact⟨fun _ _=>trivial,sM l1 _ _ hd.2 h⟩
def OwI (r:Option Nat) (P:Program) (w0:World) (ops:Array Oper) (l:List Oper) (f:Fr) (L:aA) (N:Fr→aA→Prop):Prop:=
 ∀w,Hp w0 L w→wpListIn (oL r) 0 P ops (eI w0 N) l (act f) w
theorem OwI.nil (h:N f L):OwI r P w0 ops [] f L N:=fun _ hw=>⟨rfl,rfl,L,hw,by simpa [act] using h⟩
theorem OwI.pre {l1 l2:List Oper} (hd: (l1.all fun o=>wC o.op)=true) (h:Ow P w0 ops .seq l1 f L (fun f' L'=>OwI r P w0 ops l2 f' L' N)):OwI r P w0 ops (l1++l2) f L N:=by
 intro w hw
 refine sM l1 _ _ hd ?_
 have h1:=h w hw
 have mono: ∀ (l:List Oper) (a:Act) (w:World),wpList P ops (eI w0 (fun f' L'=>OwI r P w0 ops l2 f' L' N)) l a w→wpList P ops (fun e a w=>e= .normal∧wpListIn (oL r) 0 P ops (eI w0 N) l2 a w) l a w:=by
  intro l
  induction l with
  |nil=>
   rintro a w ⟨-,fF,L',hp,hO⟩
   refine⟨rfl, ?_⟩
   have:=hO w hp
   rwa [←sD fF] at this
  |cons o l ih=>
   intro a w h
   unfold wpList at h ⊢
   split at h
   ·rename_i hw
    rw[if_pos hw]
    rcases h with h| ⟨-,hl⟩
    ·exact .inl (Bv ih (fun e a w ad hq=>ad hq.1) h)
    ·obtain⟨_,_,he,-⟩:=hl
     cases he
   ·rename_i hw
    rw[if_neg hw]
    exact ih _ _ h
 exact mono l1 _ _ h1
theorem Ow.mono_seq {l:List Oper} {N':Fr→aA→Prop} (h:Ow P w0 ops .seq l f L N) (hN: ∀f L,N f L→N' f L):Ow P w0 ops .seq l f L N':=by
 intro w hw
 have h1:=h w hw
 clear h
 revert h1
 generalize act f=a
 clear hw
 induction l generalizing a w with
 |nil=>rintro⟨h1,h2,L',h3,h4⟩;exact⟨h1,h2,L',h3,hN _ _ h4⟩
 |cons o l ih=>
  intro h
  unfold wpList at h ⊢
  split at h
  ·rename_i hw
   rw[if_pos hw]
   rcases h with h| ⟨-,hl⟩
   ·exact .inl (Bv (fun a w hx=>ih w a hx) (fun e a w ad hq=>ad hq.1) h)
   ·obtain⟨_,_,he,-⟩:=hl
    cases he
  ·rename_i hw
   rw[if_neg hw]
   exact ih _ _ h
theorem OwI.all {l:List Oper} (hd: (l.all fun o=>wC o.op)=true) (h:Ow P w0 ops .seq l f L N):OwI r P w0 ops l f L N:=by
 have:=OwI.pre (r:=r) (l2:= []) (N:=N) hd (Ow.mono_seq h (fun f L hN=>OwI.nil hN))
 simpa using this
def CwR (r:Option Nat) (P:Program) (w0:World) (c:Code) (f:Fr) (L:aA) (K:cR):Prop:= ∀w,Hp w0 L w→c.wpIn (oL r) 0 P (post w0 K) (act f) w
theorem CwR.region {id:Nat} {l:List Oper} (hd: (l.all fun o=>wC o.op)=true) (h:Ow P w0 l.toArray .seq l f L (K .normal)):CwR r P w0 (.region id l.toArray false) f L K:=
 fun w hw=>wpIn_mono (wpIn_region_lit (OwI.all hd h w hw)) fun _ _ _ h=>w4 h
theorem CwR.block {id:Nat} {c:Code} (h:CwR r P w0 c f L (lh id K)):CwR r P w0 (.block id c) f L K:=by
 intro w hw
 refine wpIn_block (wpIn_mono (h w hw) ?_)
 rintro e a w' ⟨hd,L',hp,k⟩
 cases e with
 |exit i=>
  simp only[Exit.inBlock]
  simp only[lh] at k
  split
  ·rename_i e;rw[if_pos e] at k;exact⟨hd,L',hp,k⟩
  ·rename_i e;rw[if_neg e] at k;exact⟨hd,L',hp,k⟩
 |_=>exact⟨hd,L',hp,k⟩
theorem Hp.put {w:World} (h:Hp w0 L w) {b:Nat} {o:Obj} (hb:b∈keys L):Hp w0 (setB L b o) (w.putObj b o):=h.set hb rfl rfl rfl rfl
theorem YieldAt.of {l:Nat} {rc:Loop} {X:aA} {args:Array Value} {w:World} {r0:Option Nat} {S:aA→Prop} (hX:Hp w X w) (hl:look X l=some (.loop rc)) (hr:rc.state= .ready) (hp:rc.pending=none) (hs:args.size=rc.params.size)
  (h:CwR (some l) P w rc.assign ((rc.params.zip args).foldl (fun tmps (p:Tmp×Value)=>tmps.setIfInBounds p.1 p.2) rc.tmps).toList X (fun e f1 L1=>e= .normal∧look L1 l=some (.loop rc)∧
   CwR (some l) P w rc.body f1 (setB L1 l (.loop {rc with state:= .busy})) (fun e _ L2=>e= .normal∧look L2 l=some (.loop {rc with state:= .busy})∧S (setB L2 l (.loop rc))))):
  YieldAt (oL r0) 0 P l args w (fun e w'=> ∃D,e= .returned (.bool true)∧Hp w D w'∧S D):=by
 obtain⟨st,pe,fn0,tm,pa,asg,bo,de⟩:=rc
 obtain rfl:st= .ready:=hr
 obtain rfl:pe=none:=hp
 have rN:=hX.has _ _ (bh hl)
 refine⟨fn0,_,asg,bo,run_yield rN hs,roundIn_of_wpIn (F:=oL r0) (n:=0) trivial ?_⟩
 have h1:=h w hX
 have ea:act ((pa.zip args).foldl (fun tmps (p:Tmp×Value)=>tmps.setIfInBounds p.1 p.2) tm).toList={tmps:=(pa.zip args).foldl (fun tmps (p:Tmp×Value)=>tmps.setIfInBounds p.1 p.2) tm,defers:= []}:=by
  simp[act]
 simp only at h1
 rw[ea] at h1
 refine wpIn_mono h1 ?_
 rintro e a1 w1 ⟨AZ,L1,mH,rfl,jH,AT⟩
 have bE:=run_beginRound (P:=P) (mH.has _ _ (bh jH)) rfl
 refine⟨_,bE, ?_⟩
 have h2:=AT _ (mH.put (o:= .loop {state:= .busy,pending:=none,fn:=fn0,tmps:=tm,params:=pa,assign:=asg,body:=bo,defers:=de}) (bV jH))
 rw[←sD AZ] at h2
 refine wpIn_mono h2 ?_
 rintro e a2 w2 ⟨jG,L2,gQ,rfl,ik,hS⟩
 have he:=run_endRound (P:=P) none (gQ.has _ _ (bh ik))
 exact⟨_,_,he,_,rfl,gQ.put (bV ik),hS⟩
def RC (ds:List Deferred) (w0:World) (K:cR) (e:Exit) (a:Act) (w:World):Prop:=a.defers=ds∧ ∃L,Hp w0 L w∧K e a.tmps.toList L
def CwE (ds:List Deferred) (P:Program) (w0:World) (c:Code) (f:Fr) (L:aA) (K:cR):Prop:= ∀w,Hp w0 L w→c.wp P (RC ds w0 K) ⟨f.toArray,ds⟩ w
theorem CwE.seq {ds:List Deferred} {x y:Code} (h:CwE ds P w0 x f L (jw (fun f L=>CwE ds P w0 y f L K) K)):CwE ds P w0 (.seq x y) f L K:=by
 intro w hw
 refine wp_seq (wp_mono (h w hw) ?_)
 rintro e a w' ⟨hd,L',hp,k⟩
 cases e with
 |normal=>
  have:=k w' hp
  have ea:a=⟨a.tmps.toList.toArray,ds⟩:=by cases a;simp only at hd;subst hd;simp
  rw[ea]
  exact this
 |_=>exact⟨hd,L',hp,k⟩
theorem CwE.ret {ds:List Deferred} (h:K .ret f L):CwE ds P w0 .ret f L K:=fun _ hw=>wp_ret ⟨rfl,L,hw,by simpa using h⟩
def evVs (P:Program) (w0:World) (L:aA):List Oper→Fr→Option Fr
 | [],f=>some f
 |o::r,f=>match o.guard,jR P w0 L f o.op with
  |none,some v=>evVs P w0 L r (aW f o.dst v)
  |_,_=>none
theorem VK {ds:List Deferred} {Q:Exit→Act→World→Prop} {w:World} (hw:Hp w0 L w): ∀ (l:List Oper) (f f':Fr),evVs P w0 L l f=some f'→Q .normal ⟨f'.toArray,ds⟩ w→wpList P ops Q l ⟨f.toArray,ds⟩ w
 | [],f,f',h,hQ=>by cases h;exact hQ
 |o::l,f,f',h,hQ=>by
  unfold evVs at h
  split at h
  ·rename_i v hg hv
   unfold wpList
   have o6:Region.wanted o (yielded ops (⟨f.toArray,ds⟩:Act).tmps)=true:=by unfold Region.wanted;rw[hg]
   rw[if_pos o6]
   refine .inl ?_
   unfold Oper.wp
   have he: (⟨f.toArray,ds⟩:Act).eval=ev f:=by
    have:=oq f
    funext x
    exact(congrFun this x)
   rw[he,mr hw hv]
   have hp: (⟨f.toArray,ds⟩:Act).put o.dst v=⟨(aW f o.dst v).toArray,ds⟩:=by
    have:=fK f o.dst v
    cases hd:o.dst with
    |none=>rfl
    |some d=>simp only[Act.put,aW,zA]
   show wpList P ops Q l ((⟨f.toArray,ds⟩:Act).put o.dst v) w
   rw[hp]
   exact VK hw l _ f' h hQ
  ·cases h
theorem CwE.region {ds:List Deferred} {id:Nat} {l:List Oper} {f':Fr} (h:evVs P w0 L l f=some f') (hk:K .normal f' L):CwE ds P w0 (.region id l.toArray false) f L K:=
 fun w hw=>wp_region_lit (VK hw l f f' h ⟨rfl,L,hw,by simpa using hk⟩)
theorem Gr.at_ {L:aA} {E:TypeId} {m n:Nat} {v:Value} {cs:List Value} (h:Gr L E m v n cs) {b:Nat} (hb:slB v=some b): ∃a,look L b=some (.cells a E (0,0)):=by
 rcases h with h| ⟨rfl,rfl,c,rfl,hl⟩
 ·rcases h.inv with⟨rfl,-,-⟩ | ⟨c,cc,rest,rfl,hl,-⟩
  ·cases hb
  ·have:c=b:=by simpa [slB,vsl] using hb
   subst this;exact⟨_,hl⟩
 ·have:c=b:=by simpa [slB,vsl] using hb
  subst this;exact⟨_,hl⟩
theorem Gr.ne {L:aA} {E:TypeId} {m n:Nat} {v:Value} {cs:List Value} (h:Gr L E m v n cs) {b:Nat} {o:Obj} (hl:look L b=some o) (ho: ∀a,o≠ .cells a E (0,0)):slB v≠some b:=fun e=>by
 obtain⟨a,ha⟩:=h.at_ e
 rw[hl] at ha
 exact ho a (Option.some.inj ha)
theorem Gr.setB {L:aA} {E:TypeId} {m n:Nat} {v:Value} {cs:List Value} (h:Gr L E m v n cs) {b:Nat} (hb:slB v≠some b) (x:Obj):Gr (setB L b x) E m v n cs:=
 h.keep fun c o hc ho=>by rw[bH (fun e:b=c=>hb (by rw[e];exact hc))];exact ho
end
end Go.Sx
namespace Go.Sx
open Go
section
variable {α:Type} {m:Nat} {enc:α→List Value} {z:α} {w:World} {v:Value} {l:List α}
theorem SlV.dropE (h:SlV m enc z w v l) {k:Nat} (hk:k≤l.length) (a:Bool): ∃v',ft (.sl (a,m)) v (some (some (k:Int))) none=some v'∧SlV m enc z w v' (l.drop k)∧(∀b,slB v'=some b→slB v=some b):=by
 obtain⟨b,off,c,arr,E,fz,hr,hc,hv⟩:=h
 have hl: (l.drop k).length=l.length - k:=by simp
 rcases hv with⟨rfl,rfl,rfl⟩ | ⟨rfl,fQ,fr⟩
 ·obtain rfl:k=0:=by simpa using hk
  exact⟨.slice none 0 0,rfl,SlV.nil w,fun b hb=>hb⟩
 ·have cT:ft (.sl (a,m)) (vsl b off l.length c) (some (some (k:Int))) none=some (vsl b (if c=k then off else off+k*m) (l.length - k) (c - k)):=by
   unfold ft vsl
   simp only[tC _ _ _ (⟨by omega,by omega⟩: (0:Int)≤ (k:Int)∧(k:Int)≤ (l.length:Int)),Int.toNat_natCast]
   by_cases AX:c=k
   ·simp[AX]
   ·simp only[AX, ↓reduceIte,Option.map_some,lb]
  refine⟨_,cT, ?_,fun b' hb=>hb⟩
  have vL:k*m+ (l.length - k)*m=l.length*m:=by rw[←Nat.add_mul];congr 1;omega
  by_cases AX:c=k
  ·have h0:l.length - k=0:=by omega
   rw[if_pos AX]
   refine⟨b,off,c - k,arr,E,fz,RowS.sl' hl.symm (fun h=>by omega) (fun i hi=>by omega),by omega, .inr ⟨by rw[hl],fQ,by rw[hl,h0];omega⟩⟩
  ·rw[if_neg AX]
   refine⟨b,off+k*m,c - k,arr,E,fz,RowS.sl' hl.symm (fun h=>fQ) ?_,by omega, .inr ⟨by rw[hl],fQ,by rw[hl];omega⟩⟩
   intro i hi j hj
   rw[hl] at hi
   rw[List.getD_eq_getElem?_getD,List.getElem?_drop,←List.getD_eq_getElem?_getD,←hr.get (k+i) (by omega) j hj]
   congr 1
   rw[Nat.add_mul];omega
end
section
variable {P:Program} {w0:World} {f:Fr} {L:aA} {N:Fr→aA→Prop} {ops:Array Oper} {rest:List Oper} {md:Md} {d:Option Tmp} {ty:TypeId} {ps:String} {af:Array Edge} {g:Option (Nat×Bool)}
end
section
variable {P:Program} {w0:World} {f:Fr} {L:aA} {K:cR}
theorem Cw.world {c:Code} (h: ∀w,Hp w0 L w→Cw P w0 c f L K):Cw P w0 c f L K:=fun w hw=>h w hw w hw
theorem Gr.read {E:TypeId} {m n:Nat} {v:Value} {cs:List Value} (h:Gr L E m v n cs) {b:Nat} (hb:slB v=some b) {w:World} (hw:Hp w0 L w) {o:Obj} (ho:w.heap[b]? =some o):aM w0 L b=some o:=by
 obtain⟨a,ha⟩:=h.at_ hb
 rw[hw.has _ _ (bh ha)] at ho
 rw[aL ha];exact ho
end
end Go.Sx
namespace Go.Sx
open Go
section
variable {α β:Type} [BEq α] [LawfulBEq α] (encK:α→Value) (encV:β→Value)
def g6 (k:α):List (α×β)→Nat→Option (Nat×β)
 | [],_=>none
 |p::r,i=>if k==p.1 then some (i,p.2) else g6 k r (i+1)
def updG (k:α) (v:β):List (α×β)→List (α×β)
 | []=> [(k,v)]
 |p::r=>if k==p.1 then(p.1,v)::r else p::updG k v r
def getG (k:α) (z:β) (m:List (α×β)):β:=match m.find? fun p=>k==p.1 with|some p=>p.2|none=>z
def gS (p:α×β):Value×Value:=(encK p.1,encV p.2)
def eD (o:Obj) (m:List (α×β)):Prop:= ∃es clock,o= .map es clock∧es.toList.map (fun e=>(e.key,e.val))=m.map (gS encK encV)∧(es.toList.map (·.born)++ [clock]).Pairwise (· < ·)
structure KeyOk (P:Program) (kt:TypeId) (encK:α→Value):Prop where
 find: ∀ {β:Type} (encV:β→Value) (w:World) (k:α) (es:List MapEntry) (m:List (α×β)),es.map (fun e=>(e.key,e.val))=m.map (gS encK encV)→(Instr.findKey kt (encK k) es).run P w= .ok ((g6 k m 0).map fun p=>(p.1,encV p.2)) w
 check: ∀ (w:World) (e:Bool) (k:α),(Instr.checkKey e 10000 kt (encK k)).run P w= .ok () w
 bits: ∀k,Instr.sameBits 10000 (encK k) (encK k)=true
variable {encK encV}
omit [LawfulBEq α] in
theorem EK {kd:TypeDesc} (hs: ∀a b,Instr.sameNow kd (encK a) (encK b)=some (a==b)) (k:α): ∀ (es:List MapEntry) (m:List (α×β)) (i:Nat),es.map (fun e=>(e.key,e.val))=m.map (gS encK encV)→
  Instr.findNow kd (encK k) es i=some ((g6 k m i).map fun p=>(p.1,encV p.2))
 | [],[],i,_=>rfl
 | [],_::_,_,h=>by cases h
 |_::_,[],_,h=>by cases h
 |e::es,p::m,i,h=>by
  simp only[List.map_cons,List.cons.injEq,gS,Prod.mk.injEq] at h
  obtain⟨⟨h1,h2⟩,h3⟩:=h
  unfold Instr.findNow
  have hs:Instr.sameNow kd (encK k) e.key=some (k==p.1):=by rw[h1,hs]
  rw[hs]
  unfold g6
  cases hk: (k==p.1)
  ·simp only[Bool.false_eq_true, ↓reduceIte]
   exact EK ‹_› k es m (i+1) h3
  ·simp[h2]
theorem EE (k:α): ∀ (m:List (α×β)) (i j:Nat) (v:β),g6 k m i=some (j,v)→i≤j∧ ∃a,m[j - i]? =some (k,a)∧a=v
 | [],_,_,_,h=>by cases h
 |p::r,i,j,v,h=>by
  unfold g6 at h
  split at h
  ·rename_i hk
   cases h
   refine⟨Nat.le_refl _,p.2, ?_,rfl⟩
   rw[Nat.sub_self,List.getElem?_cons_zero,eq_of_beq hk]
  ·obtain⟨h1,a,h2,h3⟩:=EE k r (i+1) j v h
   refine⟨by omega,a, ?_,h3⟩
   rw[show j - i=(j - (i+1))+1 by omega,List.getElem?_cons_succ];exact h2
theorem xE (k:α) (v:β): ∀ (es:List MapEntry) (m:List (α×β)) (i j:Nat) (a:β),es.map (fun e=>(e.key,e.val))=m.map (gS encK encV)→g6 k m i=some (j,a)→
  (es.modify (j - i) fun e=>{e with key:=encK k,val:=encV v}).map (fun e=>(e.key,e.val))=(updG k v m).map (gS encK encV)
 | [],[],_,_,_,_,h=>by cases h
 | [],_::_,_,_,_,h,_=>by cases h
 |_::_,[],_,_,_,h,_=>by cases h
 |e::es,p::m,i,j,a,h,hf=>by
  simp only[List.map_cons,List.cons.injEq,gS,Prod.mk.injEq] at h
  obtain⟨⟨h1,h2⟩,h3⟩:=h
  unfold g6 at hf
  unfold updG
  split at hf
  ·rename_i hk
   cases hf
   rw[if_pos hk,Nat.sub_self]
   simp only[List.modify_zero_cons,List.map_cons,gS,eq_of_beq hk]
   rw[h3]
  ·rename_i hk
   have eW:=(EE k m (i+1) j a hf).1
   rw[if_neg hk,show j - i=(j - (i+1))+1 by omega]
   simp only[List.modify_succ_cons,List.map_cons,gS]
   rw[xE k v es m (i+1) j a h3 hf,h1,h2]
omit [LawfulBEq α] in
theorem wm (k:α) (v:β): ∀ (m:List (α×β)) (i:Nat),g6 k m i=none→updG k v m=m++ [(k,v)]
 | [],_,_=>rfl
 |p::r,i,h=>by
  unfold g6 at h
  split at h
  ·cases h
  ·rename_i hk
   unfold updG
   rw[if_neg hk,wm k v r (i+1) h];rfl
omit [LawfulBEq α] in
theorem wy (k:α): ∀ (m:List (α×β)) (i:Nat),(g6 k m i).map Prod.snd=(m.find? fun p=>k==p.1).map Prod.snd
 | [],_=>rfl
 |p::r,i=>by
  unfold g6
  rw[List.find?_cons]
  cases h: (k==p.1)
  ·simp only[Bool.false_eq_true, ↓reduceIte];exact wy k r (i+1)
  ·rfl
theorem NG {k:α} {m:List (α×β)} {es:List MapEntry} {j:Nat} {a:β} (h:es.map (fun e=>(e.key,e.val))=m.map (gS encK encV)) (hf:g6 k m 0=some (j,a)): ∃e,es[j]? =some e∧e.key=encK k:=by
 obtain⟨-,a',h1,rfl⟩:=EE k m 0 j a hf
 rw[Nat.sub_zero] at h1
 have:=congrArg (·[j]?) h
 simp only[List.getElem?_map,h1,Option.map_some] at this
 cases he:es[j]? with
 |none=>rw[he] at this;cases this
 |some e=>
  rw[he] at this
  simp only[Option.map_some,Option.some.injEq,gS,Prod.mk.injEq] at this
  exact⟨e,rfl,this.1⟩
theorem KeyOk.int {P:Program} {kt:TypeId} {k0:IntKind} (hu:P.underlying kt=some (.int k0)):KeyOk P kt vi where
 find encV w k es m h:=by
  simp only[Instr.findKey,Sem.run_bind,run_underlying hu w,Result.andThen_ok]
  rw[EK (encK:=vi) (fun a b=>by simp[Instr.sameNow,vi]) k es m 0 h]
  rfl
 check w e k:=by
  unfold Instr.checkKey
  simp only[Sem.run_bind,run_underlying hu w,Result.andThen_ok]
  rfl
 bits k:=by simp[vi,Instr.sameBits]
variable {P:Program} {w0:World} {f:Fr} {L:aA} {N:Fr→aA→Prop} {ops:Array Oper} {rest:List Oper} {md:Md}
 {d:Option Tmp} {ty:TypeId} {ps:String} {af:Array Edge} {g:Option (Nat×Bool)}
omit [BEq α] [LawfulBEq α] in
theorem Ow.makeMapG {t:TypeId} {md':Md} (he:md.turn=some md') (hs:bM ops f ⟨d, .makeMap t none,ty,ps,af,g⟩=false)
  (hn: ∀b o,eG L b→w0.heap.size≤b→eD encK encV o []→Ow P w0 ops md' rest (aW f d (vm b)) (L++ [(b,o)]) N):
  Ow P w0 ops md (⟨d, .makeMap t none,ty,ps,af,g⟩::rest) f L N:=by
 refine Ow.step he rfl hs fun w hw=> .inl ⟨vm w.heap.size,w.alloc (.map #[] 0),_, ?_,hw.alloc _,hn _ _ (gi fun b hb=>hw.lt hb) hw.size ⟨#[],0,rfl,rfl,List.pairwise_singleton _ _⟩⟩
 simp only[execOp,Instr.makeMap,Sem.run_bind,Option.map_none]
 rfl
theorem Ow.mapUpdateG {t kt vt:TypeId} {x y z:Operand} {b:Nat} {o:Obj} {m:List (α×β)} {k:α} {v:β} {md':Md} (he:md.turn=some md') (hs:bM ops f ⟨d, .mapUpdate t x y z,ty,ps,af,g⟩=false) (hu:P.underlying t=some (.map kt vt)) (hk:KeyOk P kt encK)
  (hx:ev f x=vm b) (hy:ev f y=encK k) (hz:ev f z=encV v) (hl:look L b=some o) (hm:eD encK encV o m)
  (hn: ∀o',eD encK encV o' (updG k v m)→Ow P w0 ops md' rest (aW f d undef) (setB L b o') N):
  Ow P w0 ops md (⟨d, .mapUpdate t x y z,ty,ps,af,g⟩::rest) f L N:=by
 obtain⟨es,c,rfl,ga,iY⟩:=hm
 refine Ow.step he rfl hs fun w hw=> ?_
 have hb:=hw.has _ _ (bh hl)
 have fo:=hk.find encV w k es.toList m ga
 cases hf:g6 k m 0 with
 |none=>
  rw[hf] at fo
  refine .inr (.inl ⟨{w with heap:=w.heap.setIfInBounds b (.map (es.push {key:=encK k,val:=encV v,born:=c}) (c+1))},_, ?_,hw.set (bV hl) rfl rfl rfl rfl,hn _ ⟨_,_,rfl, ?_,by rw[Array.toList_push];exact xL iY rfl⟩⟩)
  ·have: (Instr.mapUpdate t (vm b) (encK k) (encV v)).run P w= .ok () {w with heap:=w.heap.setIfInBounds b (.map (es.push {key:=encK k,val:=encV v,born:=c}) (c+1))}:=by
    simp only[Instr.mapUpdate,vm,Sem.run_bind,run_underlying hu w,Result.andThen_ok,o9 hb,hk.check,fo,Option.map_none,ue hb]
   simp only[execOp,Sem.run_bind,hx,hy,hz]
   rw[this];rfl
  ·rw[wm k v m 0 hf,Array.toList_push,List.map_append,ga,List.map_append];rfl
 |some p=>
  obtain⟨j,a⟩:=p
  rw[hf] at fo
  obtain⟨e,Sh,Si⟩:=NG ga hf
  have tj:es[j]? =some e:=by simpa using Sh
  have fp: (Instr.keyThatStays (((es[j]?).map (·.key)).getD (encK k)) (encK k)).run P w= .ok (encK k) w:=by
   rw[tj,Option.map_some,Option.getD_some,Si]
   unfold Instr.keyThatStays
   rw[if_pos (hk.bits k)];rfl
  refine .inr (.inl ⟨{w with heap:=w.heap.setIfInBounds b (.map (es.modify j fun e=>{e with key:=encK k,val:=encV v}) c)},_, ?_,hw.set (bV hl) rfl rfl rfl rfl,hn _ ⟨_,_,rfl, ?_,by rw[Array.toList_modify,Ud (g:=fun e=>{e with key:=encK k,val:=encV v}) fun _=>rfl];exact iY⟩⟩)
  ·have: (Instr.mapUpdate t (vm b) (encK k) (encV v)).run P w= .ok () {w with heap:=w.heap.setIfInBounds b (.map (es.modify j fun e=>{e with key:=encK k,val:=encV v}) c)}:=by
    simp only[Instr.mapUpdate,vm,Sem.run_bind,run_underlying hu w,Result.andThen_ok,o9 hb,hk.check,fo,Option.map_some,fp,ue hb]
   simp only[execOp,Sem.run_bind,hx,hy,hz]
   rw[this];rfl
  ·rw[Array.toList_modify]
   have:=xE k v es.toList m 0 j a ga hf
   rw[Nat.sub_zero] at this
   exact this
omit [LawfulBEq α] in
theorem Ow.mapGetG {t kt vt:TypeId} {x y:Operand} {b:Nat} {o:Obj} {m:List (α×β)} {k:α} {z:β} {md':Md} (he:md.turn=some md') (hs:bM ops f ⟨d, .lookup t x y false,ty,ps,af,g⟩=false) (hu:P.underlying t=some (.map kt vt)) (hk:KeyOk P kt encK)
  (hz:al P vt=some (encV z)) (hx:ev f x=vm b) (hy:ev f y=encK k) (hl:aM w0 L b=some o) (hm:eD encK encV o m)
  (hn:Ow P w0 ops md' rest (aW f d (encV (getG k z m))) L N):
  Ow P w0 ops md (⟨d, .lookup t x y false,ty,ps,af,g⟩::rest) f L N:=by
 obtain⟨es,c,rfl,ga,-⟩:=hm
 refine Ow.step he rfl hs fun w hw=> ?_
 have hb:=hw.read hl
 have fo:=hk.find encV w k es.toList m ga
 refine .inl ⟨encV (getG k z m),w,L, ?_,hw,hn⟩
 have qF:=wy k m 0
 have: (Instr.lookup t (vm b) (encK k) false).run P w= .ok (encV (getG k z m)) w:=by
  cases hf:g6 k m 0 with
  |none=>
   rw[hf] at fo qF
   have hg:getG k z m=z:=by
    unfold getG
    cases h:m.find? fun p=>k==p.1 with
    |none=>rfl
    |some q=>rw[h] at qF;cases qF
   simp only[Instr.lookup,vm,Sem.run_bind,run_underlying hu w,Result.andThen_ok,o9 hb,Sem.run_pure,hk.check,fo,Option.map_none,s9 hz w,hg,Bool.false_eq_true, ↓reduceIte]
  |some p=>
   obtain⟨j,a⟩:=p
   rw[hf] at fo qF
   have hg:getG k z m=a:=by
    unfold getG
    cases h:m.find? fun p=>k==p.1 with
    |none=>rw[h] at qF;cases qF
    |some q=>rw[h] at qF;simp only[Option.map_some,Option.some.injEq] at qF;exact qF.symm
   simp only[Instr.lookup,vm,Sem.run_bind,run_underlying hu w,Result.andThen_ok,o9 hb,Sem.run_pure,hk.check,fo,Option.map_some,hg,Bool.false_eq_true, ↓reduceIte]
 simp only[execOp,Sem.run_bind,hx,hy]
 rw[this];rfl
end
section
variable {P:Program} {w0:World} {f:Fr} {L:aA} {N:Fr→aA→Prop} {ops:Array Oper} {rest:List Oper} {md:Md} {d:Option Tmp} {ty:TypeId} {ps:String} {af:Array Edge} {g:Option (Nat×Bool)}
theorem Ow.callFnXC {x y:Operand} {b:Value} {cap ars:Array Value} (ha: #[b]++cap=ars) {ts:Array TypeId} {k:FuncId} {X Y:aA} {S:Value→aA→Prop} {md':Md} (hL:L=X++Y) (he:md.turn=some md')
  (hs:bM ops f ⟨d, .call ⟨.value x, #[y],ts⟩,ty,ps,af,g⟩=false)
  (hx:ev f x= .func (.func k) #[] cap) (hy:ev f y=b)
  (hk: ∀a w,(callFunc k a).run P w= .ok (.enter k a) w)
  (hc: ∀w,Hp w0 L w→(∀p,p∈X→w.heap[p.1]? =some p.2)→(keys X).Nodup→Rets P k ars w (XS w X S))
  (hn: ∀v D,Came w0 L X D→S v D→Ow P w0 ops md' rest (aW f d v) (D++Y) N):
  Ow P w0 ops md (⟨d, .call ⟨.value x, #[y],ts⟩,ty,ps,af,g⟩::rest) f L N:=by
 subst hL
 have av: ∀w,Hp w0 (X++Y) w→(keys X).Nodup∧ ∀c,c∈keys Y→c∉keys X:=by
  intro w hw
  have:=hw.nodup
  rw[bO,List.nodup_append] at this
  exact⟨this.1,fun c hc hx=>this.2.2 c hx c hc rfl⟩
 refine Ow.call (S:=fun B v D=>((∀c,c∈keys D→c∈keys X∨B≤c)∧(∀c,c∈keys X→c∈keys D)∧S v D)∧ ∃w,Hp w0 (X++Y) w∧w.heap.size=B) he hs hx hk (fun w hw=> ?_) ?_
 ·show Rets P k (#[]++ #[y].map (ev f)++cap) w _
  rw[show(#[]++ #[y].map (ev f)++cap:Array Value)=ars by rw[←ha];simp[hy]]
  refine Calls.mono (hc w hw (fun p hp=>hw.has _ _ (List.mem_append_left _ hp)) (av w hw).1) ?_
  rintro e w' ⟨v,D,he,hp,hS⟩
  exact⟨v,D,he,hp,⟨hS.1.new,hS.1.all,hS.2⟩,w,hw,rfl⟩
 ·rintro B v D jF hB ⟨⟨h1,h2,h3⟩,w1,aJ,XB⟩
  refine⟨D++Y, ?_,hn v D ⟨fun c hc=>(h1 c hc).imp id fun h=>⟨gi fun b hb=>by have:=aJ.lt hb;omega,by have:=aJ.size;omega⟩,h2⟩ h3⟩
  intro w w' XC h k
  have ht:=h.trans k
  have hY: ∀c,c∈keys Y→c∉keys D:=by
   intro c hc hd
   rcases h1 c hd with hx|hx
   ·exact(av w h).2 c hc hx
   ·have:=h.lt (b:=c) (by rw[bO];exact List.mem_append_right _ hc)
    omega
  have e1:X.filter (fun p=> !(keys D).contains p.1)= []:=by
   rw[List.filter_eq_nil_iff]
   intro p hp
   have:=h2 p.1 (List.mem_map.2 ⟨p,hp,rfl⟩)
   simpa using this
  have e2:Y.filter (fun p=> !(keys D).contains p.1)=Y:=Bc hY
  rw[List.filter_append,e1,e2,List.nil_append] at ht
  refine ht.same (fun p=>by simp[or_comm]) ?_
  have:=ht.nodup
  rw[bO] at this ⊢
  exact(List.perm_append_comm.nodup_iff).1 this
end
end Go.Sx
namespace Go.Sx
open Go
def ItG {α β:Type} (encK:α→Value) (encV:β→Value) (o:Obj) (bm:Nat) (om:Obj) (m dn lf:List (α×β)):Prop:=
 ∃es clock,∃ds:List MapEntry,om= .map es clock∧(es.toList.map (·.born)++ [clock]).Pairwise (· < ·)∧o= .mapIter (some bm) clock (ds.map (·.born)).toArray clock∧
  ds.map kv=dn.map (gS encK encV)∧(∀d,d∈ds→d∈es.toList)∧((es.toList.filter fun e=> !(ds.map (·.born)).contains e.born).map kv=lf.map (gS encK encV))∧(dn++lf).Perm m
theorem ItG.start {α β:Type} {encK:α→Value} {encV:β→Value} {bm:Nat} {om:Obj} {m:List (α×β)} (h:eD encK encV om m): ∃es clock,om= .map es clock∧ItG encK encV (.mapIter (some bm) clock #[] clock) bm om m [] m:=by
 obtain⟨es,clock,rfl,h1,h2⟩:=h
 refine⟨es,clock,rfl,es,clock,[],rfl,h2,rfl,rfl,(fun d hd=>by cases hd), ?_,by rw[List.nil_append]⟩
 rw[show(es.toList.filter fun e=> !(([]:List MapEntry).map (·.born)).contains e.born)=es.toList from List.filter_eq_self.2 (fun _ _=>rfl)]
 exact h1
theorem ItG.step {α β:Type} {encK:α→Value} {encV:β→Value} {bm:Nat} {om:Obj} {m dn lf:List (α×β)} {es:Array MapEntry} {clock:Nat} {ds:List MapEntry} {e:MapEntry} (hb: (es.toList.map (·.born)++ [clock]).Pairwise (· < ·))
  (hd:ds.map kv=dn.map (gS encK encV)) (hm: ∀d,d∈ds→d∈es.toList) (hl: (es.toList.filter fun e=> !(ds.map (·.born)).contains e.born).map kv=lf.map (gS encK encV)) (hp: (dn++lf).Perm m)
  (he:e∈es.toList.filter fun e=> !(ds.map (·.born)).contains e.born) (jI:om= .map es clock):
  ∃p lf',kv e=gS encK encV p∧lf.length=lf'.length+1∧ItG encK encV (.mapIter (some bm) clock ((ds.map (·.born)).toArray.push e.born) clock) bm om m (dn++ [p]) lf':=by
 obtain⟨A,C,tP⟩:=List.append_of_mem he
 rw[tP,List.map_append,List.map_cons] at hl
 obtain⟨l1,l2,rfl,h1,h2⟩:=List.append_eq_map_iff.1 hl
 obtain⟨p,l3,rfl,h3,h4⟩:=(List.map_eq_cons_iff.1 h2)
 refine⟨p,l1++l3,h3.symm,by simp;omega,es,clock,ds++ [e],jI,hb,by simp,by simp[hd,h3], ?_, ?_, ?_⟩
 ·intro d fF
  rcases List.mem_append.1 fF with h|h
  ·exact hm d h
  ·rw[List.mem_singleton] at h;subst h;exact(List.mem_filter.1 he).1
 ·have av: ((A++e::C).map (·.born)).Nodup:=by
   rw[←tP]
   exact(EW hb).sublist ((List.filter_sublist).map _)
  have e1: (es.toList.filter fun x=> !((ds++ [e]).map (·.born)).contains x.born)=(A++e::C).filter fun x=> !(x.born==e.born):=by
   rw[←tP,List.filter_filter]
   refine List.filter_congr fun x hx=> ?_
   simp only[List.map_append,List.map_cons,List.map_nil,List.contains_append,List.contains_cons,List.contains_nil,Bool.or_false,Bool.not_or]
   rw[Bool.and_comm]
  rw[List.map_append,List.map_cons,List.nodup_append] at av
  obtain⟨-,mm,TO⟩:=av
  rw[List.nodup_cons] at mm
  have e2: ((A++e::C).filter fun x=> !(x.born==e.born))=A++C:=by
   rw[List.filter_append,List.filter_cons]
   simp only[beq_self_eq_true,Bool.not_true,Bool.false_eq_true, ↓reduceIte]
   congr 1
   ·refine List.filter_eq_self.2 fun x hx=> ?_
    have:=TO x.born (List.mem_map.2 ⟨x,hx,rfl⟩) e.born List.mem_cons_self
    simpa using this
   ·refine List.filter_eq_self.2 fun x hx=> ?_
    have:x.born≠e.born:=fun h=>mm.1 (h▸List.mem_map.2 ⟨x,hx,rfl⟩)
    simpa using this
  rw[e1,e2,List.map_append,List.map_append,h1,h4]
 ·refine List.Perm.trans ?_ hp
  rw[List.append_assoc]
  refine List.Perm.append_left dn ?_
  rw[List.singleton_append]
  exact List.perm_middle.symm
section
variable {α β:Type} {encK:α→Value} {encV:β→Value} {P:Program} {w0:World} {f:Fr} {L:aA} {N:Fr→aA→Prop} {ops:Array Oper} {rest:List Oper} {md:Md}
 {d:Option Tmp} {ty:TypeId} {ps:String} {af:Array Edge} {g:Option (Nat×Bool)}
theorem Ow.rangeMapG {t kt vt:TypeId} {x:Operand} {bm:Nat} {om:Obj} {m:List (α×β)} {md':Md} (he:md.turn=some md') (hs:bM ops f ⟨d, .range t x,ty,ps,af,g⟩=false) (hu:P.underlying t=some (.map kt vt))
  (hx:ev f x=vm bm) (hl:aM w0 L bm=some om) (hm:eD encK encV om m)
  (hn: ∀b o,eG L b→w0.heap.size≤b→ItG encK encV o bm om m [] m→Ow P w0 ops md' rest (aW f d (itv b)) (L++ [(b,o)]) N):
  Ow P w0 ops md (⟨d, .range t x,ty,ps,af,g⟩::rest) f L N:=by
 obtain⟨es,clock,rfl,hI⟩:=ItG.start (bm:=bm) hm
 refine Ow.step he rfl hs fun w hw=> .inl ⟨itv w.heap.size,w.alloc (.mapIter (some bm) clock #[] clock),_, ?_,hw.alloc _,hn _ _ (gi fun b hb=>hw.lt hb) hw.size hI⟩
 have hb:=hw.read hl
 have: (Instr.range t (vm bm)).run P w= .ok (itv w.heap.size) (w.alloc (.mapIter (some bm) clock #[] clock)):=by
  simp only[Instr.range,vm,Sem.run_bind,run_underlying hu w,Result.andThen_ok,o9 hb]
  rfl
 simp only[execOp,Sem.run_bind,hx]
 rw[this];rfl
theorem Ow.nextMapG {x:Operand} {r bm:Nat} {o om:Obj} {m dn lf:List (α×β)} {md':Md} (he:md.turn=some md') (hs:bM ops f ⟨d, .next x false,ty,ps,af,g⟩=false)
  (hx:ev f x=itv r) (hl:look L r=some o) (eE:aM w0 L bm=some om) (hI:ItG encK encV o bm om m dn lf)
  (h0:lf= []→Ow P w0 ops md' rest (aW f d (.tuple #[.bool false])) L N)
  (h1: ∀p o' lf',lf.length=lf'.length+1→ItG encK encV o' bm om m (dn++ [p]) lf'→Ow P w0 ops md' rest (aW f d (.tuple #[.bool true,encK p.1,encV p.2])) (setB L r o') N):
  Ow P w0 ops md (⟨d, .next x false,ty,ps,af,g⟩::rest) f L N:=by
 refine Ow.step he rfl hs fun w hw=> ?_
 have hr:=hw.has _ _ (bh hl)
 have hb:=hw.read eE
 obtain⟨es,clock,ds,rfl,iY,rfl,hd,hm,kD,hp⟩:=hI
 rcases run_next_at (P:=P) w ty r bm clock clock (ds.map (·.born)).toArray es clock hr hb (PR iY) (Nat.le_refl _) with⟨hz,nx⟩ | ⟨e,Wc,w1,aJ,nx⟩
 ·refine .inl ⟨.tuple #[.bool false],w,L, ?_,hw,h0 ?_⟩
  ·simp only[execOp,Sem.run_bind,hx,itv]
   rw[nx];rfl
  ·have: (leftOf es (ds.map (·.born)).toArray).toList= []:=by
    rw[Array.toList_eq_nil_iff];exact Array.eq_empty_of_size_eq_zero hz
   rw[x9] at this
   rw[this] at kD
   exact(List.map_eq_nil_iff.1 kD.symm)
 ·rw[x9] at Wc
  obtain⟨p,lf',hk,aP,kj⟩:=ItG.step (bm:=bm) iY hd hm kD hp Wc rfl
  simp only[kv,gS,Prod.mk.injEq] at hk
  have U9:Hp w0 L w1:=by rcases aJ with rfl|rfl;exact hw;exact hw.drew
  refine .inl ⟨.tuple #[.bool true,encK p.1,encV p.2],ChangeMaps.setBlock w1 r (.mapIter (some bm) clock ((ds.map (·.born)).toArray.push e.born) clock),_, ?_,U9.set (bV hl) rfl rfl rfl rfl,h1 p _ lf' aP kj⟩
  simp only[execOp,Sem.run_bind,hx,itv]
  rw[nx,hk.1,hk.2];rfl
theorem Ow.entryMapG {x:Operand} {r bm:Nat} {o om:Obj} {m dn lf:List (α×β)} {p:α×β} {md':Md} (he:md.turn=some md') (hs:bM ops f ⟨d, .entry x,ty,ps,af,g⟩=false)
  (hx:ev f x=itv r) (hl:aM w0 L r=some o) (eE:aM w0 L bm=some om) (hI:ItG encK encV o bm om m (dn++ [p]) lf)
  (hn:Ow P w0 ops md' rest (aW f d (.tuple #[encK p.1,encV p.2])) L N):
  Ow P w0 ops md (⟨d, .entry x,ty,ps,af,g⟩::rest) f L N:=by
 refine Ow.step he rfl hs fun w hw=> .inl ⟨_,w,L, ?_,hw,hn⟩
 have hr:=hw.read hl
 have hb:=hw.read eE
 obtain⟨es,clock,ds,rfl,iY,rfl,hd,hm,kD,hp⟩:=hI
 rw[List.map_append,List.map_cons,List.map_nil] at hd
 obtain⟨d1,d2,rfl,-,h2⟩:=List.map_eq_append_iff.1 hd
 obtain⟨e,d3,rfl,h3,h4⟩:=List.map_eq_cons_iff.1 h2
 obtain rfl:=List.map_eq_nil_iff.1 h4
 simp only[kv,gS,Prod.mk.injEq] at h3
 have rW: ((d1++ [e]).map (·.born)).toArray=(d1.map (·.born)).toArray.push e.born:=by simp
 rw[rW] at hr
 have nx:=run_entry_at (P:=P) w r bm clock (d1.map (·.born)).toArray es clock e hr hb (hm e (by simp)) (EW iY)
 simp only[execOp,Sem.run_bind,hx,itv]
 rw[nx,h3.1,h3.2];rfl
end
theorem GY (l:List UInt8):Instr.sameBits 10000 (.agg (a8 l)) (.agg (a8 l))=true:=by
 show Instr.sameBits (9999+1) _ _=true
 unfold Instr.sameBits
 simp only[beq_self_eq_true,Bool.true_and,List.all_eq_true]
 intro p hp
 obtain⟨i,hi,rfl⟩:=List.getElem_of_mem hp
 rw[List.getElem_zip]
 simp[a8,Instr.sameBits]
theorem Fg {P:Program} {t e:TypeId} {n:Nat} (hu:P.underlying t=some (.array n e)) (he:P.underlying e=some (.int .u8)) (hm:aK P e=some (false,1)) (l l':List UInt8) (hl:l.length=n) (l6:l'.length=n) (w:World):
  (Op.equal t (.agg (a8 l)) (.agg (a8 l'))).run P w= .ok (l==l') w:=
 z7 P 8 9992 t _ _ _ (sg (d:=6) hu he hm l l' hl l6) w
theorem Ys {P:Program} {t e:TypeId} {n:Nat} (hu:P.underlying t=some (.array n e)) (he:P.underlying e=some (.int .u8)) (hm:aK P e=some (false,1)) (l:List UInt8) (hl:l.length=n) (em:Bool) (w:World):
  (Instr.checkKey em 10000 t (.agg (a8 l))).run P w= .ok () w:=by
 show(Instr.checkKey em (9999+1) t (.agg (a8 l))).run P w= .ok () w
 rw[Instr.checkKey]
 simp only[Sem.run_bind,run_underlying hu,Result.andThen_ok]
 simp only[Std.Legacy.Range.forIn_eq_forIn_range',Std.Legacy.Range.size,Nat.sub_zero,Nat.add_one_sub_one,Nat.div_one]
 have each: ∀j,j∈List.range' 0 n→j<l.length:=by
  intro j hj
  rw[List.mem_range'] at hj
  obtain⟨i,hi,rfl⟩:=hj
  omega
 generalize List.range' 0 n=is at each
 induction is with
 |nil=>simp
 |cons j is ih=>
  have hj:=each j (by simp)
  have p1: (part e (a8 l) (j*1)).run P w= .ok (v8 (l.getD j 0)) w:=by
   refine o7 hm ?_ w
   simp[partV,a8,v8,hj]
  have p2: (Instr.checkKey em 9999 e (v8 (l.getD j 0))).run P w= .ok () w:=by
   show(Instr.checkKey em (9998+1) e (v8 (l.getD j 0))).run P w= .ok () w
   rw[Instr.checkKey]
   simp only[Sem.run_bind,run_underlying he,Result.andThen_ok,v8]
   rfl
  simp only[List.forIn_cons,Sem.run_bind,iR hm w,Result.andThen_ok,p1,p2,Sem.run_pure]
  exact ih (fun y hy=>each y (by simp[hy]))
theorem Ju {n:Nat} {e:TypeId} (x:Value): ∀ (es:List MapEntry) (i:Nat),es≠ []→Instr.findNow (.array n e) x es i=none
 | [],_,h=>absurd rfl h
 |_::_,_,_=>by cases x<;>rfl
theorem Uu {α β:Type} [BEq α] {P:Program} {kt:TypeId} {encK:α→Value} {encV:β→Value} (he: ∀a b w,(Op.equal kt (encK a) (encK b)).run P w= .ok (a==b) w) (w:World) (k:α): ∀ (es:List MapEntry) (m:List (α×β)) (i:Nat),es.map (fun e=>(e.key,e.val))=m.map (gS encK encV)→
  (Instr.findAsking kt (encK k) es i).run P w= .ok ((g6 k m i).map fun p=>(p.1,encV p.2)) w
 | [],[],_,_=>rfl
 | [],_::_,_,h=>by cases h
 |_::_,[],_,h=>by cases h
 |e::es,p::m,i,h=>by
  simp only[List.map_cons,List.cons.injEq,gS,Prod.mk.injEq] at h
  obtain⟨⟨h1,h2⟩,h3⟩:=h
  unfold Instr.findAsking g6
  rw[Sem.run_bind,h1,he]
  simp only[Result.andThen_ok]
  cases hk: (k==p.1)
  ·simp only[Bool.false_eq_true, ↓reduceIte]
   exact Uu he w k es m (i+1) h3
  ·simp[h2]
theorem KeyOk.arr {α:Type} [BEq α] {P:Program} {kt e:TypeId} {n:Nat} (hu:P.underlying kt=some (.array n e)) (he:P.underlying e=some (.int .u8)) (hm:aK P e=some (false,1)) (bs:α→List UInt8) (hb: ∀a,(bs a).length=n) (hq: ∀a b,(bs a==bs b)=(a==b)):
  KeyOk P kt (fun a:α=> .agg (a8 (bs a))) where
 find encV w k es m h:=by
  cases es with
  |nil=>
   cases m with
   |nil=>simp only[Instr.findKey,Sem.run_bind,run_underlying hu w,Result.andThen_ok];rfl
   |cons=>cases h
  |cons e0 es=>
   simp only[Instr.findKey,Sem.run_bind,run_underlying hu w,Result.andThen_ok]
   rw[Ju _ _ _ (by simp)]
   exact Uu (encK:=fun a:α=> .agg (a8 (bs a))) (fun a b w=>by rw[Fg hu he hm _ _ (hb a) (hb b) w,hq]) w k _ m 0 h
 check w e k:=Ys hu he hm _ (hb k) e w
 bits k:=GY _
section
variable {α β:Type} [BEq α] [LawfulBEq α] {encK:α→Value} {encV:β→Value} {P:Program} {w0:World} {f:Fr} {L:aA} {N:Fr→aA→Prop} {ops:Array Oper} {rest:List Oper} {md:Md}
 {d:Option Tmp} {ty:TypeId} {ps:String} {af:Array Edge} {g:Option (Nat×Bool)}
omit [LawfulBEq α] in
end
end Go.Sx
namespace Go.Sx
open Go
theorem KeyOk.str {P:Program} {kt:TypeId} (hu:P.underlying kt=some .string):KeyOk P kt vs where
 find encV w k es m h:=by
  simp only[Instr.findKey,Sem.run_bind,run_underlying hu w,Result.andThen_ok]
  rw[EK (encK:=vs) (fun a b=>by simp only[vs,Instr.sameNow,uk]) k es m 0 h]
  rfl
 check w e k:=by
  unfold Instr.checkKey
  simp only[Sem.run_bind,run_underlying hu w,Result.andThen_ok,vs]
  rfl
 bits k:=by simp only[vs,Instr.sameBits,uk,beq_self_eq_true]
section
variable {α β:Type} [BEq α] [LawfulBEq α]
def delG (k:α):List (α×β)→List (α×β)
 | []=> []
 |p::r=>if k==p.1 then r else p::delG k r
variable {encK:α→Value} {encV:β→Value}
omit [LawfulBEq α] in
theorem ye (k:α): ∀ (m:List (α×β)) (i j:Nat) (a:β),g6 k m i=some (j,a)→i≤j
 | [],_,_,_,h=>by cases h
 |p::r,i,j,a,h=>by
  unfold g6 at h
  split at h
  ·cases h;exact Nat.le_refl _
  ·have:=ye k r (i+1) j a h;omega
omit [LawfulBEq α] in
theorem x7 (k:α): ∀ (es:List MapEntry) (m:List (α×β)) (i j:Nat) (a:β),es.map (fun e=>(e.key,e.val))=m.map (gS encK encV)→g6 k m i=some (j,a)→
  (es.eraseIdx (j - i)).map (fun e=>(e.key,e.val))=(delG k m).map (gS encK encV)
 | [],[],_,_,_,_,h=>by cases h
 | [],_::_,_,_,_,h,_=>by cases h
 |_::_,[],_,_,_,h,_=>by cases h
 |e::es,p::m,i,j,a,h,hf=>by
  simp only[List.map_cons,List.cons.injEq] at h
  obtain⟨h1,h3⟩:=h
  unfold g6 at hf
  unfold delG
  split at hf
  ·rename_i hk
   cases hf
   rw[if_pos hk,Nat.sub_self]
   exact h3
  ·rename_i hk
   have eW:=ye k m (i+1) j a hf
   rw[if_neg hk,show j - i=(j - (i+1))+1 by omega]
   simp only[List.eraseIdx_cons_succ,List.map_cons]
   rw[x7 k es m (i+1) j a h3 hf,h1]
omit [LawfulBEq α] in
theorem wO (k:α): ∀ (m:List (α×β)) (i:Nat),g6 k m i=none→delG k m=m
 | [],_,_=>rfl
 |p::r,i,h=>by
  unfold g6 at h
  split at h
  ·cases h
  ·rename_i hk
   unfold delG
   rw[if_neg hk,wO k r (i+1) h]
variable {P:Program} {w0:World} {f:Fr} {L:aA} {N:Fr→aA→Prop} {ops:Array Oper} {rest:List Oper} {md:Md}
 {d:Option Tmp} {ty:TypeId} {ps:String} {af:Array Edge} {g:Option (Nat×Bool)}
omit [LawfulBEq α] in
theorem Ow.mapDeleteG {t kt vt:TypeId} {x y:Operand} {t2:TypeId} {b:Nat} {o:Obj} {m:List (α×β)} {k:α} {md':Md} (he:md.turn=some md') (hs:bM ops f ⟨d, .call ⟨.builtin .delete, #[x,y], #[t,t2]⟩,ty,ps,af,g⟩=false) (hu:P.underlying t=some (.map kt vt)) (hk:KeyOk P kt encK)
  (hx:ev f x=vm b) (hy:ev f y=encK k) (hl:look L b=some o) (hm:eD encK encV o m)
  (hn: ∀o',eD encK encV o' (delG k m)→Ow P w0 ops md' rest (aW f d (.tuple #[])) (setB L b o') N):
  Ow P w0 ops md (⟨d, .call ⟨.builtin .delete, #[x,y], #[t,t2]⟩,ty,ps,af,g⟩::rest) f L N:=by
 obtain⟨es,c,rfl,ga,iY⟩:=hm
 refine Ow.step he rfl hs fun w hw=> ?_
 have hb:=hw.has _ _ (bh hl)
 have fo:=hk.find encV w k es.toList m ga
 cases hf:g6 k m 0 with
 |none=>
  rw[hf] at fo
  refine .inl ⟨.tuple #[],{w with heap:=w.heap.setIfInBounds b (.map es c)},_, ?_,hw.set (bV hl) rfl rfl rfl rfl,hn _ ⟨es,c,rfl,by rw[wO k m 0 hf];exact ga,iY⟩⟩
  have: (Builtin.delete_ #[t,t2] ty #[vm b,encK k]).run P w= .ok (.tuple #[]) {w with heap:=w.heap.setIfInBounds b (.map es c)}:=by
   simp only[Builtin.delete_,vm,List.getElem?_toArray,List.getElem?_cons_zero,List.getElem?_cons_succ,Sem.run_bind,run_underlying hu w,Result.andThen_ok,o9 hb,hk.check,fo,Option.map_none,ue hb]
   rfl
  simp only[execOp,resolve,Sem.run_bind,Sem.run_pure,Result.andThen_ok,invoke,builtin,List.map_toArray,List.map_cons,List.map_nil,hx,hy]
  rw[this];rfl
 |some p=>
  obtain⟨j,a⟩:=p
  rw[hf] at fo
  refine .inl ⟨.tuple #[],{w with heap:=w.heap.setIfInBounds b (.map (es.eraseIdxIfInBounds j) c)},_, ?_,hw.set (bV hl) rfl rfl rfl rfl,hn _ ⟨_,c,rfl, ?_,by rw[Array.toList_eraseIdxIfInBounds];exact Jw iY⟩⟩
  ·have: (Builtin.delete_ #[t,t2] ty #[vm b,encK k]).run P w= .ok (.tuple #[]) {w with heap:=w.heap.setIfInBounds b (.map (es.eraseIdxIfInBounds j) c)}:=by
    simp only[Builtin.delete_,vm,List.getElem?_toArray,List.getElem?_cons_zero,List.getElem?_cons_succ,Sem.run_bind,run_underlying hu w,Result.andThen_ok,o9 hb,hk.check,fo,Option.map_some,ue hb]
    rfl
   simp only[execOp,resolve,Sem.run_bind,Sem.run_pure,Result.andThen_ok,invoke,builtin,List.map_toArray,List.map_cons,List.map_nil,hx,hy]
   rw[this];rfl
  ·have:=x7 (encK:=encK) (encV:=encV) k es.toList m 0 j a ga hf
   rw[Nat.sub_zero] at this
   rw[←this]
   simp
omit [BEq α] [LawfulBEq α] in
theorem Ow.mapClearG {t kt vt:TypeId} {x:Operand} {b:Nat} {o:Obj} {m:List (α×β)} {md':Md} (he:md.turn=some md') (hs:bM ops f ⟨d, .call ⟨.builtin .clear, #[x], #[t]⟩,ty,ps,af,g⟩=false) (hu:P.underlying t=some (.map kt vt))
  (hx:ev f x=vm b) (hl:look L b=some o) (hm:eD encK encV o m)
  (hn: ∀o',eD encK encV o' []→Ow P w0 ops md' rest (aW f d (.tuple #[])) (setB L b o') N):
  Ow P w0 ops md (⟨d, .call ⟨.builtin .clear, #[x], #[t]⟩,ty,ps,af,g⟩::rest) f L N:=by
 obtain⟨es,c,rfl,ga,iY⟩:=hm
 refine Ow.step he rfl hs fun w hw=> ?_
 have hb:=hw.has _ _ (bh hl)
 refine .inl ⟨.tuple #[],{w with heap:=w.heap.setIfInBounds b (.map #[] c)},_, ?_,hw.set (bV hl) rfl rfl rfl rfl,hn _ ⟨#[],c,rfl,rfl,List.pairwise_singleton _ _⟩⟩
 have: (Builtin.clear_ #[t] ty #[vm b]).run P w= .ok (.tuple #[]) {w with heap:=w.heap.setIfInBounds b (.map #[] c)}:=by
  simp only[Builtin.clear_,vm,List.getElem?_toArray,List.getElem?_cons_zero,Sem.run_bind,run_underlying hu w,Result.andThen_ok,o9 hb,ue hb]
  rfl
 simp only[execOp,resolve,Sem.run_bind,Sem.run_pure,Result.andThen_ok,invoke,builtin,List.map_toArray,List.map_cons,List.map_nil,hx]
 rw[this];rfl
end
section
variable {P:Program} {w0:World} {f:Fr} {L:aA} {N:Fr→aA→Prop} {ops:Array Oper} {rest:List Oper} {md:Md}
 {d:Option Tmp} {ty:TypeId} {ps:String} {af:Array Edge} {g:Option (Nat×Bool)}
theorem Ow.ifaceMap {t kt vt:TypeId} {x:Operand} {v:Value} (hs:bM ops f ⟨d, .makeInterface t x,ty,ps,af,g⟩=false) (hu:P.underlying t=some (.map kt vt)) (hx:ev f x=v)
  (hn:Ow P w0 ops md.next rest (aW f d (.iface t v)) L N):Ow P w0 ops md (⟨d, .makeInterface t x,ty,ps,af,g⟩::rest) f L N:=by
 refine Ow.calm rfl rfl hs (fun w hw=> .inl ⟨.iface t v,w,L, ?_,hw,rfl,rfl⟩) hn
 simp only[execOp,Instr.makeInterface,Sem.run_bind,run_underlying hu w,Result.andThen_ok,hx]
 rfl
theorem Ow.assertMap {t kt vt xt:TypeId} {x:Operand} {v:Value} (hs:bM ops f ⟨d, .typeAssert x xt t false,ty,ps,af,g⟩=false) (hu:P.underlying t=some (.map kt vt)) (hx:ev f x= .iface t v)
  (hn:Ow P w0 ops md.next rest (aW f d v) L N):Ow P w0 ops md (⟨d, .typeAssert x xt t false,ty,ps,af,g⟩::rest) f L N:=by
 refine Ow.calm rfl rfl hs (fun w hw=> .inl ⟨v,w,L, ?_,hw,rfl,rfl⟩) hn
 simp only[execOp,Instr.typeAssert,Sem.run_bind,run_underlying hu w,Result.andThen_ok,hx, ↓reduceIte]
 rfl
theorem Ow.cloneMap {α β:Type} {encK:α→Value} {encV:β→Value} {x:Operand} {ts:Array TypeId} {k:FuncId} {it:TypeId} {b:Nat} {o:Obj} {m:List (α×β)} {md':Md} (he:md.turn=some md')
  (hs:bM ops f ⟨d, .call ⟨.value (.func k), #[x],ts⟩,ty,ps,af,g⟩=false)
  (hk: ∀a w,(callFunc k #[a]).run P w=((Extern.MapsClone.clone #[a]).run P w).andThen fun v w=> .ok (.value v) w)
  (hx:ev f x= .iface it (vm b)) (hl:aM w0 L b=some o) (hm:eD encK encV o m)
  (hn: ∀c o',eG L c→w0.heap.size≤c→eD encK encV o' m→Ow P w0 ops md' rest (aW f d (.iface it (vm c))) (L++ [(c,o')]) N):
  Ow P w0 ops md (⟨d, .call ⟨.value (.func k), #[x],ts⟩,ty,ps,af,g⟩::rest) f L N:=by
 obtain⟨es,c,rfl,ga,iY⟩:=hm
 refine Ow.step he rfl hs fun w hw=> .inl ⟨.iface it (vm w.heap.size),w.alloc (.map es c),_, ?_,hw.alloc _,hn _ _ (gi fun b hb=>hw.lt hb) hw.size ⟨es,c,rfl,ga,iY⟩⟩
 have hb:=hw.read hl
 have hA:Array.map (ev f) #[x]= #[.iface it (vm b)]:=by simp[hx]
 have h: (callFunc k #[.iface it (vm b)]).run P w= .ok (.value (.iface it (vm w.heap.size))) (w.alloc (.map es c)):=by
  rw[hk]
  have hc:Extern.MapsClone.clone #[.iface it (vm b)]=(getObj b>>=fun o=>match o with| .map es c=>(newObj (.map es c)>>=fun r=>pure (.iface it (.map (some r)))) |_=>stuck "maps.clone: a map expected"):=rfl
  rw[hc,Sem.run_bind,o9 hb]
  rfl
 simp only[execOp,resolve,Deferred.ofValue,yu,Sem.run_bind,Sem.run_pure,Result.andThen_ok,invoke,hA]
 simpa using h
end
end Go.Sx
namespace Go.Sx
open Go
theorem Hp.later {w0 w1 w2:World} {L D:aA} (h:Hp w0 L w1) (k:Hp w1 D w2) (hD:New w1.heap.size D):Hp w0 (L++D) w2:=
 Mrg.fresh hD.le w1 w2 rfl h k
theorem Ow.world {P:Program} {w0:World} {ops:Array Oper} {l:List Oper} {f:Fr} {L:aA} {N:Fr→aA→Prop} (h: ∀w,Hp w0 L w→Ow P w0 ops .seq l f L N):Ow P w0 ops .seq l f L N:=fun w hw=>h w hw w hw
theorem Rets.chunk {P:Program} {k:FuncId} {args:Array Value} {w:World} {S:Value→Obj→Prop} {X:aA} {b:Nat} (hX: ∀p,p∈X→w.heap[p.1]? =some p.2) (hn: (keys X).Nodup) (hb:b∈keys X)
  (h:Rets P k args w (fun v D=> ∃o,D= [(b,o)]∧S v o)):Rets P k args w (XS w X (fun v D=> ∃o,D=setB X b o∧S v o)):=
 Calls.mono h fun e w' ⟨v,D,he,hp,o,hD,hS⟩=>⟨v,setB X b o,he,by subst hD;exact Mrg.set hb w w' rfl ((Hp.refl w).ownX hX hn) hp,(Ext.refl w X).setB,o,rfl,hS⟩
theorem Rets.toX {P:Program} {k:FuncId} {a:Array Value} {w:World} {S:Value→Prop} (h:Rets P k a w (fun v D=>S v∧D= [])):Rets P k a w (XS w [] (fun v D=>D= []∧S v)):=
 h.mono fun v D ⟨h1,h2⟩=>⟨by subst h2;exact Ext.refl w [],h2,h1⟩
theorem Gr.rowL {α:Type} {m:Nat} {enc:α→List Value} {z:α} {w0 w:World} {v:Value} {l:List α} {L:aA} {E:TypeId} {n:Nat} (h:Gr L E m v n (l.map enc).flatten) (hn:l.length=n) (hw:Hp w0 L w) (hm: ∀x,(enc x).length=m):
  ∃b off arr F fz,RowS m enc z w v l b off arr F fz∧(0<l.length→look L b=some (.cells arr F fz)):=by
 obtain⟨b,off,c,arr,F,fz,hr,hc,⟨rfl,rfl,rfl⟩ | ⟨rfl,hb,fr⟩⟩:=h.slV (z:=z) hw hn rfl hm
 ·exact⟨b,off,arr,F,fz,hr,fun h0=>absurd h0 (by simp)⟩
 ·refine⟨b,off,arr,F,fz,hr,fun _=> ?_⟩
  obtain⟨o,ho⟩:=CQ (h.key (b:=b) rfl)
  have:=hw.has _ _ (bh ho)
  rw[hb] at this
  rw[ho,this]
theorem GrI.rowL {α:Type} {m:Nat} {enc:α→List Value} {z:α} {w0 w:World} {v:Value} {l:List α} {D:aA} {E:TypeId} {n:Nat} (h:GrI D E m v n (l.map enc).flatten) (hn:l.length=n) (hw:Hp w0 D w) (hm: ∀x,(enc x).length=m):
  ∃b off arr F fz,RowS m enc z w v l b off arr F fz∧(0<l.length→look D b=some (.cells arr F fz)):=by
 obtain⟨X,hX,h⟩:=h
 obtain⟨b,off,c,arr,F,fz,hr,hc,⟨rfl,rfl,rfl⟩ | ⟨rfl,hb,fr⟩⟩:=h.slM (z:=z) (fun b o hm=>hw.has b o (hX _ hm)) hn rfl hm
 ·exact⟨b,off,arr,F,fz,hr,fun h0=>absurd h0 (by simp)⟩
 ·refine⟨b,off,arr,F,fz,hr,fun _=> ?_⟩
  obtain⟨o,ho⟩:=CQ (h.key (b:=b) rfl)
  have hm:=hX _ (bh ho)
  have:=hw.has _ _ hm
  rw[hb] at this
  rw[w5 hw.nodup hm,this]
end Go.Sx
section
namespace Go.Sx
open Go
set_option maxRecDepth 100000
set_option linter.defProp false
def S0:=And.intro (And.intro (And.intro (And.intro (And.intro (And.intro (@Nr) (And.intro (@OK) (@PN))) (And.intro (@NI) (And.intro (@Ji) (@Nk)))) (And.intro (And.intro (@MK) (And.intro (@MQ) (@IA))) (And.intro (And.intro (@Fj) (@Ya)) (And.intro (@M5) (@Yk))))) (And.intro (And.intro (And.intro (@Ke) (And.intro (@NH) (@IF))) (And.intro (And.intro (@MI) (@Fp)) (And.intro (@PA) (@Pj)))) (And.intro (And.intro (@Ko) (And.intro (@Ho) (@Jp))) (And.intro (And.intro (@Q1) (@KO)) (And.intro (@Y6) (@Yl)))))) (And.intro (And.intro (And.intro (And.intro (@N6) (And.intro (@KH) (@Nn))) (And.intro (@JN) (And.intro (@M2) (@Oz)))) (And.intro (And.intro (@QC) (And.intro (@Y9) (@wL_))) (And.intro (And.intro (@Gf) (@IZ)) (And.intro (@Yf) (@ME))))) (And.intro (And.intro (And.intro (@NU) (And.intro (@JI) (@YD))) (And.intro (And.intro (@G8) (@Xf)) (And.intro (@LO) (@Nh)))) (And.intro (And.intro (@QA) (And.intro (@Ni) (@eU))) (And.intro (And.intro (@Nm) (@Kn)) (And.intro (@yu) (@eT))))))) (And.intro (And.intro (And.intro (And.intro (And.intro (@ed) (And.intro (@an) (@am))) (And.intro (@HC) (And.intro (@Y5) (@NT)))) (And.intro (And.intro (@NS) (And.intro (@LW) (@J7))) (And.intro (And.intro (@O8) (@KG)) (And.intro (@Lu) (@OO))))) (And.intro (And.intro (And.intro (@N1) (And.intro (@LT) (@LU))) (And.intro (And.intro (@NE) (@OJ)) (And.intro (@OH) (@Ps)))) (And.intro (And.intro (@KK) (And.intro (@Mn) (@MR))) (And.intro (And.intro (@MY) (@Pe)) (And.intro (@LJ) (@Mx)))))) (And.intro (And.intro (And.intro (And.intro (@MT) (And.intro (@Js) (@Lb))) (And.intro (And.intro (@N9) (@LS)) (And.intro (@JV) (@Ou)))) (And.intro (And.intro (@PQ) (And.intro (@Px) (@P0))) (And.intro (And.intro (@Q0) (@OV)) (And.intro (@O0) (@OG))))) (And.intro (And.intro (And.intro (@Mc) (And.intro (@MX) (@OW))) (And.intro (And.intro (@Me) (@N2)) (And.intro (@Og) (@MV)))) (And.intro (And.intro (@Rm) (And.intro (@RV) (@Qb))) (And.intro (And.intro (@PZ) (@NL)) (And.intro (@Jo) (@Jq)))))))
def S1:=And.intro (And.intro (And.intro (And.intro (And.intro (And.intro (And.intro (And.intro (@Nq) (@Po)) (And.intro (@QI) (And.intro (@Qf) (@PE)))) (And.intro (And.intro (@Qj) (@my)) (And.intro (@mz) (And.intro (@ol) (@LP))))) (And.intro (And.intro (And.intro (@J2) (@Hq)) (And.intro (@NV) (And.intro (@GH) (@OT)))) (And.intro (And.intro (@Nz) (@beq_true)) (And.intro (@beq_false) (And.intro (@Bool.not_true) (@Bool.not_false)))))) (And.intro (And.intro (And.intro (And.intro (@Md.next_seq) (@Md.next_any)) (And.intro (@Md.next_qui) (And.intro (@Md.next_sof) (@GX)))) (And.intro (And.intro (@Gj) (@H3)) (And.intro (@Xc) (And.intro (@XO) (@Xg))))) (And.intro (And.intro (And.intro (@Qw) (@P1)) (And.intro (@OP) (And.intro (@N4) (@MM)))) (And.intro (And.intro (@Rb) (And.intro (@On) (@QG))) (And.intro (@P6) (And.intro (@Pg) (@Pb))))))) (And.intro (And.intro (And.intro (And.intro (And.intro (@IS) (@JZ)) (And.intro (@Iz) (And.intro (@Jf) (@KV)))) (And.intro (And.intro (@KB) (@Jy)) (And.intro (@KD) (And.intro (@Iv) (@Iw))))) (And.intro (And.intro (And.intro (@Jk) (@J0)) (And.intro (@KE) (And.intro (@IW) (@Kx)))) (And.intro (And.intro (@Gz) (And.intro (@UT) (@Jt))) (And.intro (@YT) (And.intro (@YU) (@Up)))))) (And.intro (And.intro (And.intro (And.intro (@Uo) (@Yn)) (And.intro (@YV) (And.intro (@J1) (@Xb)))) (And.intro (And.intro (@Xh) (@Gt)) (And.intro (@XX) (And.intro (@Xy) (@HP))))) (And.intro (And.intro (And.intro (@Xu) (@Y4)) (And.intro (@Hr) (And.intro (@Gg) (@GQ)))) (And.intro (And.intro (@IB) (And.intro (@GU) (@Jm))) (And.intro (@Hw) (And.intro (@GP) (@IJ)))))))) (And.intro (And.intro (And.intro (And.intro (And.intro (And.intro (@Gn) (@GO)) (And.intro (@GN) (And.intro (@IM) (@Gp)))) (And.intro (And.intro (@H7) (@K6)) (And.intro (@FY) (And.intro (@Ut) (@Ha))))) (And.intro (And.intro (And.intro (@Xt) (@Xl)) (And.intro (@Vx) (And.intro (@Vz) (@Xr)))) (And.intro (And.intro (@Xi) (And.intro (@HK) (@Z0))) (And.intro (@Yw) (And.intro (@G9) (@XK)))))) (And.intro (And.intro (And.intro (And.intro (@XN) (@FT)) (And.intro (@Yz) (And.intro (@XI) (@FO)))) (And.intro (And.intro (@GW) (@H6)) (And.intro (@Gu) (And.intro (@Hz) (@K9))))) (And.intro (And.intro (And.intro (@HX) (@C9)) (And.intro (@CB) (And.intro (@Hv) (@Gc)))) (And.intro (And.intro (@Gy) (And.intro (@H1) (@Gx))) (And.intro (@I0) (And.intro (@Iy) (@Ff))))))) (And.intro (And.intro (And.intro (And.intro (And.intro (@Uy) (@I1)) (And.intro (@XT) (And.intro (@XW) (@Vy)))) (And.intro (And.intro (@W5) (@Xj)) (And.intro (@Xe) (And.intro (@IH) (@XL))))) (And.intro (And.intro (And.intro (@Z1) (@Fq)) (And.intro (@Yy) (And.intro (@Yp) (@Fh)))) (And.intro (And.intro (@Yr) (And.intro (@Yv) (@Fk))) (And.intro (@GR) (And.intro (@Gw) (@HT)))))) (And.intro (And.intro (And.intro (And.intro (@Hd) (@Jx)) (And.intro (@HV) (And.intro (@H9) (@Hb)))) (And.intro (And.intro (@Hu) (@Hf)) (And.intro (@HL) (And.intro (@Hk) (@HS))))) (And.intro (And.intro (And.intro (@I5) (@JC)) (And.intro (@GG) (And.intro (@V3) (@IP)))) (And.intro (And.intro (@Xz) (And.intro (@XR) (@W4))) (And.intro (@Vu) (And.intro (@XZ) (@Xp))))))))) (And.intro (And.intro (And.intro (And.intro (And.intro (And.intro (And.intro (@H8) (@Z2)) (And.intro (@Z3) (And.intro (@FS) (@Yu)))) (And.intro (And.intro (@XJ) (@GK)) (And.intro (@Yt) (And.intro (@XM) (@FR))))) (And.intro (And.intro (And.intro (@Kh) (@KP)) (And.intro (@wR) (And.intro (@KU) (@Ly)))) (And.intro (And.intro (@Ky) (And.intro (@MD) (@Kd))) (And.intro (@Kr) (And.intro (@Lf) (@Kb)))))) (And.intro (And.intro (And.intro (And.intro (@Nv) (@Qs)) (And.intro (@Fv) (And.intro (@M1) (@LE)))) (And.intro (And.intro (@LB) (@Kp)) (And.intro (@N0) (And.intro (@Lk) (@LL))))) (And.intro (And.intro (And.intro (@P4) (@Mu)) (And.intro (@QH) (And.intro (@Ft) (@YP)))) (And.intro (And.intro (@Y7) (And.intro (@Qt) (@R3))) (And.intro (@NJ) (And.intro (@Ip) (@HG))))))) (And.intro (And.intro (And.intro (And.intro (And.intro (@Gh) (@IL)) (And.intro (@K2) (And.intro (@Q4) (@QD)))) (And.intro (And.intro (@Mz) (@Gs)) (And.intro (@GL) (And.intro (@Fu) (@GI))))) (And.intro (And.intro (And.intro (@Hy) (@Q9)) (And.intro (@Pd) (And.intro (@M4) (@HN)))) (And.intro (And.intro (@FX) (And.intro (@GE) (@FU))) (And.intro (@IC) (And.intro (@PP) (@Pf)))))) (And.intro (And.intro (And.intro (And.intro (@MF) (@Gm)) (And.intro (@GC) (And.intro (@FP) (@Fb)))) (And.intro (And.intro (@HW) (@Qq)) (And.intro (@Qa) (And.intro (@MP) (@Is))))) (And.intro (And.intro (And.intro (@Gb) (@GS)) (And.intro (@HF) (And.intro (@Ig) (@ON)))) (And.intro (And.intro (@Nc) (And.intro (@Yg) (@PH))) (And.intro (@HA) (And.intro (@W1) (@ox)))))))) (And.intro (And.intro (And.intro (And.intro (And.intro (And.intro (@RM) (@Pw)) (And.intro (@Qv) (And.intro (@Qy) (@YM)))) (And.intro (And.intro (@Xd) (@sA)) (And.intro (@Bg) (And.intro (@Cy) (@FF))))) (And.intro (And.intro (And.intro (@qc) (@Bh)) (And.intro (@Ng) (And.intro (@ND) (@OE)))) (And.intro (And.intro (@Nf) (And.intro (@wq) (@JO))) (And.intro (@xH) (And.intro (@Ja) (@Hc)))))) (And.intro (And.intro (And.intro (And.intro (@Mb) (@KR)) (And.intro (@xq) (And.intro (@Mi) (@Lz)))) (And.intro (And.intro (@LN) (@PV)) (And.intro (@PW) (And.intro (@Option.map_some.{0,0}) (@Option.map_none.{0,0}))))) (And.intro (And.intro (And.intro (@Yd) (@YK)) (And.intro (@Z5) (And.intro (@IQ) (@Yi)))) (And.intro (And.intro (@YZ) (And.intro (@YL) (@Nb))) (And.intro (@NQ) (And.intro (@or_i) (@Rd))))))) (And.intro (And.intro (And.intro (And.intro (And.intro (@YJ) (@Yj)) (And.intro (@Y3) (And.intro (@bL) (@List.cons_append.{0})))) (And.intro (And.intro (@List.nil_append.{0}) (@List.contains_cons.{0})) (And.intro (@List.contains_nil.{0}) (And.intro (@Bool.or_false) (@Bool.false_or))))) (And.intro (And.intro (And.intro (@Bool.or_true) (@Bool.true_or)) (And.intro (@Bool.false_eq_true) (And.intro (@Ki) (@JF)))) (And.intro (And.intro (@Ii) (And.intro (@NK) (@La))) (And.intro (@Nat.add_sub_cancel_left) (And.intro (@List.set_set.{0}) (@Int.toNat_natCast)))))) (And.intro (And.intro (And.intro (And.intro (@Nat.mul_one) (@Nat.zero_add)) (And.intro (@Nat.add_zero) (And.intro (@ge_iff_le.{0}) (@gt_iff_lt.{0})))) (And.intro (And.intro (@beq_self_eq_true.{0}) (@RJ)) (And.intro (@RF) (And.intro (@pf) (@pm))))) (And.intro (And.intro (And.intro (@zo) (@A2)) (And.intro (@Rc) (And.intro (@RP) (@RO)))) (And.intro (And.intro (@RE) (And.intro (@PL) (@Pr))) (And.intro (@Qk) (And.intro (@OZ) (@Pu)))))))))
end Go.Sx
end
section
open Go Go.Proofs Go.Sx
namespace Go.Proofs
theorem Tryz.ix24:ixT Tryz.prog 24= .sl (false,1):=id (by kernel_rfl)
theorem Tryz.ix23:ixT Tryz.prog 23= .sl (true,6):=id (by kernel_rfl)
theorem Tryz.ix22:ixT Tryz.prog 22= .sl (true,3):=id (by kernel_rfl)
theorem Tryz.ix9:ixT Tryz.prog 9= .str:=id (by kernel_rfl)
theorem Tryz.ix71:ixT Tryz.prog 71= .sl (true,4):=id (by kernel_rfl)
theorem Tryz.ix72:ixT Tryz.prog 72= .sl (false,1):=id (by kernel_rfl)
theorem Tryz.ix93:ixT Tryz.prog 93= .sl (true,5):=id (by kernel_rfl)
theorem Tryz.ix94:ixT Tryz.prog 94= .sl (true,2):=id (by kernel_rfl)
theorem Tryz.ix106:ixT Tryz.prog 106= .sl (true,32):=id (by kernel_rfl)
theorem Tryz.ix131:ixT Tryz.prog 131= .arr 3 (false,1):=id (by kernel_rfl)
theorem Tryz.ix128:ixT Tryz.prog 128= .sl (false,1):=id (by kernel_rfl)
theorem Tryz.ix58:ixT Tryz.prog 58= .sl (true,2):=id (by kernel_rfl)
theorem Tryz.ix57:ixT Tryz.prog 57= .arr 3 (true,3):=id (by kernel_rfl)
theorem Tryz.ix54:ixT Tryz.prog 54= .sl (true,4):=id (by kernel_rfl)
theorem Tryz.ix53:ixT Tryz.prog 53= .sl (true,2):=id (by kernel_rfl)
theorem Tryz.ix84:ixT Tryz.prog 84= .arr 32 (false,1):=id (by kernel_rfl)
theorem Tryz.ix196:ixT Tryz.prog 196= .sl (false,1):=id (by kernel_rfl)
theorem Tryz.ix209:ixT Tryz.prog 209= .arr 4 (false,1):=id (by kernel_rfl)
theorem Tryz.ix218:ixT Tryz.prog 218= .arr 64 (false,1):=id (by kernel_rfl)
theorem Tryz.ix168:ixT Tryz.prog 168= .sl (true,34):=id (by kernel_rfl)
theorem Tryz.ix227:ixT Tryz.prog 227= .arr 8 (false,1):=id (by kernel_rfl)
theorem Tryz.ix200:ixT Tryz.prog 200= .sl (false,1):=id (by kernel_rfl)
theorem Tryz.ix236:ixT Tryz.prog 236= .arr 6 (false,1):=id (by kernel_rfl)
theorem Tryz.ix255:ixT Tryz.prog 255= .arr 8 (false,1):=id (by kernel_rfl)
theorem Tryz.ix256:ixT Tryz.prog 256= .arr 64 (false,1):=id (by kernel_rfl)
theorem Tryz.ix260:ixT Tryz.prog 260= .sl (true,3):=id (by kernel_rfl)
theorem Tryz.ix269:ixT Tryz.prog 269= .arr 4 (false,1):=id (by kernel_rfl)
theorem Tryz.ix294:ixT Tryz.prog 294= .arr 16 (false,1):=id (by kernel_rfl)
theorem Tryz.ix297:ixT Tryz.prog 297= .sl (true,2):=id (by kernel_rfl)
theorem Tryz.ag31:aK Tryz.prog 31=some (true,6):=id (by kernel_rfl)
theorem Tryz.ag3:aK Tryz.prog 3=some (false,1):=id (by kernel_rfl)
theorem Tryz.ag36:aK Tryz.prog 36=some (true,3):=id (by kernel_rfl)
theorem Tryz.ag9:aK Tryz.prog 9=some (false,1):=id (by kernel_rfl)
theorem Tryz.ag24:aK Tryz.prog 24=some (false,1):=id (by kernel_rfl)
theorem Tryz.ag66:aK Tryz.prog 66=some (true,4):=id (by kernel_rfl)
theorem Tryz.ag4:aK Tryz.prog 4=some (false,1):=id (by kernel_rfl)
theorem Tryz.ag82:aK Tryz.prog 82=some (true,2):=id (by kernel_rfl)
theorem Tryz.ag84:aK Tryz.prog 84=some (true,32):=id (by kernel_rfl)
theorem Tryz.ag97:aK Tryz.prog 97=some (true,5):=id (by kernel_rfl)
theorem Tryz.ag121:aK Tryz.prog 121=some (false,1):=id (by kernel_rfl)
theorem Tryz.ag127:aK Tryz.prog 127=some (false,1):=id (by kernel_rfl)
theorem Tryz.ag126:aK Tryz.prog 126=some (true,2):=id (by kernel_rfl)
theorem Tryz.ag131:aK Tryz.prog 131=some (true,3):=id (by kernel_rfl)
theorem Tryz.ag128:aK Tryz.prog 128=some (false,1):=id (by kernel_rfl)
theorem Tryz.ag137:aK Tryz.prog 137=some (false,1):=id (by kernel_rfl)
theorem Tryz.ag58:aK Tryz.prog 58=some (false,1):=id (by kernel_rfl)
theorem Tryz.ag141:aK Tryz.prog 141=some (true,2):=id (by kernel_rfl)
theorem Tryz.ag53:aK Tryz.prog 53=some (false,1):=id (by kernel_rfl)
theorem Tryz.ag144:aK Tryz.prog 144=some (true,2):=id (by kernel_rfl)
theorem Tryz.ag123:aK Tryz.prog 123=some (true,5):=id (by kernel_rfl)
theorem Tryz.ag130:aK Tryz.prog 130=some (true,3):=id (by kernel_rfl)
theorem Tryz.ag60:aK Tryz.prog 60=some (true,13):=id (by kernel_rfl)
theorem Tryz.ag119:aK Tryz.prog 119=some (false,1):=id (by kernel_rfl)
theorem Tryz.ag54:aK Tryz.prog 54=some (false,1):=id (by kernel_rfl)
theorem Tryz.ag150:aK Tryz.prog 150=some (true,4):=id (by kernel_rfl)
theorem Tryz.ag5:aK Tryz.prog 5=some (false,1):=id (by kernel_rfl)
theorem Tryz.ag172:aK Tryz.prog 172=some (true,34):=id (by kernel_rfl)
theorem Tryz.ag193:aK Tryz.prog 193=some (true,7):=id (by kernel_rfl)
theorem Tryz.ag198:aK Tryz.prog 198=some (true,5):=id (by kernel_rfl)
theorem Tryz.ag196:aK Tryz.prog 196=some (false,1):=id (by kernel_rfl)
theorem Tryz.ag204:aK Tryz.prog 204=some (true,2):=id (by kernel_rfl)
theorem Tryz.ag209:aK Tryz.prog 209=some (true,4):=id (by kernel_rfl)
theorem Tryz.ag217:aK Tryz.prog 217=some (true,3):=id (by kernel_rfl)
theorem Tryz.ag218:aK Tryz.prog 218=some (true,64):=id (by kernel_rfl)
theorem Tryz.ag221:aK Tryz.prog 221=some (true,34):=id (by kernel_rfl)
theorem Tryz.ag106:aK Tryz.prog 106=some (false,1):=id (by kernel_rfl)
theorem Tryz.ag227:aK Tryz.prog 227=some (true,8):=id (by kernel_rfl)
theorem Tryz.ag207:aK Tryz.prog 207=some (false,1):=id (by kernel_rfl)
theorem Tryz.ag124:aK Tryz.prog 124=some (false,1):=id (by kernel_rfl)
theorem Tryz.ag236:aK Tryz.prog 236=some (true,6):=id (by kernel_rfl)
theorem Tryz.ag235:aK Tryz.prog 235=some (false,1):=id (by kernel_rfl)
theorem Tryz.ag250:aK Tryz.prog 250=some (true,3):=id (by kernel_rfl)
theorem Tryz.ag32:aK Tryz.prog 32=some (false,1):=id (by kernel_rfl)
theorem Tryz.ag254:aK Tryz.prog 254=some (true,75):=id (by kernel_rfl)
theorem Tryz.ag255:aK Tryz.prog 255=some (true,8):=id (by kernel_rfl)
theorem Tryz.ag256:aK Tryz.prog 256=some (true,64):=id (by kernel_rfl)
theorem Tryz.ag269:aK Tryz.prog 269=some (true,4):=id (by kernel_rfl)
theorem Tryz.ag271:aK Tryz.prog 271=some (true,36):=id (by kernel_rfl)
theorem Tryz.ag268:aK Tryz.prog 268=some (false,1):=id (by kernel_rfl)
theorem Tryz.ag200:aK Tryz.prog 200=some (false,1):=id (by kernel_rfl)
theorem Tryz.ag252:aK Tryz.prog 252=some (false,1):=id (by kernel_rfl)
theorem Tryz.ag279:aK Tryz.prog 279=some (true,3):=id (by kernel_rfl)
theorem Tryz.ag72:aK Tryz.prog 72=some (false,1):=id (by kernel_rfl)
theorem Tryz.ag210:aK Tryz.prog 210=some (false,1):=id (by kernel_rfl)
theorem Tryz.ag168:aK Tryz.prog 168=some (false,1):=id (by kernel_rfl)
theorem Tryz.ag199:aK Tryz.prog 199=some (false,1):=id (by kernel_rfl)
theorem Tryz.ag301:aK Tryz.prog 301=some (false,1):=id (by kernel_rfl)
theorem Tryz.ag311:aK Tryz.prog 311=some (true,2):=id (by kernel_rfl)
theorem Tryz.ag309:aK Tryz.prog 309=some (false,1):=id (by kernel_rfl)
theorem Tryz.ag294:aK Tryz.prog 294=some (true,16):=id (by kernel_rfl)
theorem Tryz.zr84:al Tryz.prog 84=some (.agg (a8 (List.replicate 32 0))):=id (by kernel_rfl)
theorem Tryz.zr141:al Tryz.prog 141=some (.agg #[(vs []),(vi 0)]):=id (by kernel_rfl)
theorem Tryz.zr144:al Tryz.prog 144=some (.agg #[(vs []),(vi 0)]):=id (by kernel_rfl)
theorem Tryz.zr60:al Tryz.prog 60=some (.agg #[(.slice none 0 0),(.slice none 0 0),(.slice none 0 0),(.slice none 0 0),(.slice none 0 0),(.slice none 0 0),(.slice none 0 0),(.slice none 0 0),(.slice none 0 0),(.slice none 0 0),(vi 0),(vi 0),(.bool false)]):=id (by kernel_rfl)
theorem Tryz.zr150:al Tryz.prog 150=some (.agg #[(vi 0),(vs []),(vs []),(vi 0)]):=id (by kernel_rfl)
theorem Tryz.zr193:al Tryz.prog 193=some (.agg #[(vs []),(vs []),(vs []),(.bool false),(vi 0),(.bool false),(.bool false)]):=id (by kernel_rfl)
theorem Tryz.zr198:al Tryz.prog 198=some (.agg #[(vs []),(vs []),(vs []),(.slice none 0 0),(.bool false)]):=id (by kernel_rfl)
theorem Tryz.zr227:al Tryz.prog 227=some (.agg (a32 (List.replicate 8 0))):=id (by kernel_rfl)
theorem Tryz.zr236:al Tryz.prog 236=some (.agg #[.nilFunc, .nilFunc, .nilFunc, .nilFunc, .nilFunc, .nilFunc]):=id (by kernel_rfl)
theorem Tryz.zr255:al Tryz.prog 255=some (.agg (a8 (List.replicate 8 0))):=id (by kernel_rfl)
theorem Tryz.zr256:al Tryz.prog 256=some (.agg (a32 (List.replicate 64 0))):=id (by kernel_rfl)
theorem Tryz.fl31_0:aU Tryz.prog 31 0=some (0,(false,1)):=id (by kernel_rfl)
theorem Tryz.fl36_0:aU Tryz.prog 36 0=some (0,(false,1)):=id (by kernel_rfl)
theorem Tryz.fl36_1:aU Tryz.prog 36 1=some (1,(false,1)):=id (by kernel_rfl)
theorem Tryz.fl31_2:aU Tryz.prog 31 2=some (2,(false,1)):=id (by kernel_rfl)
theorem Tryz.fl31_3:aU Tryz.prog 31 3=some (3,(false,1)):=id (by kernel_rfl)
theorem Tryz.fl31_4:aU Tryz.prog 31 4=some (4,(false,1)):=id (by kernel_rfl)
theorem Tryz.fl36_2:aU Tryz.prog 36 2=some (2,(false,1)):=id (by kernel_rfl)
theorem Tryz.fl31_1:aU Tryz.prog 31 1=some (1,(false,1)):=id (by kernel_rfl)
theorem Tryz.fl31_5:aU Tryz.prog 31 5=some (5,(false,1)):=id (by kernel_rfl)
theorem Tryz.fl60_2:aU Tryz.prog 60 2=some (10,(false,1)):=id (by kernel_rfl)
theorem Tryz.fl66_0:aU Tryz.prog 66 0=some (0,(false,1)):=id (by kernel_rfl)
theorem Tryz.fl66_1:aU Tryz.prog 66 1=some (1,(false,1)):=id (by kernel_rfl)
theorem Tryz.fl66_2:aU Tryz.prog 66 2=some (2,(false,1)):=id (by kernel_rfl)
theorem Tryz.fl66_3:aU Tryz.prog 66 3=some (3,(false,1)):=id (by kernel_rfl)
theorem Tryz.fl82_1:aU Tryz.prog 82 1=some (1,(false,1)):=id (by kernel_rfl)
theorem Tryz.fl97_2:aU Tryz.prog 97 2=some (2,(true,2)):=id (by kernel_rfl)
theorem Tryz.fl97_0:aU Tryz.prog 97 0=some (0,(false,1)):=id (by kernel_rfl)
theorem Tryz.fl97_1:aU Tryz.prog 97 1=some (1,(false,1)):=id (by kernel_rfl)
theorem Tryz.fl97_3:aU Tryz.prog 97 3=some (4,(false,1)):=id (by kernel_rfl)
theorem Tryz.fl123_0:aU Tryz.prog 123 0=some (0,(false,1)):=id (by kernel_rfl)
theorem Tryz.fl130_0:aU Tryz.prog 130 0=some (0,(false,1)):=id (by kernel_rfl)
theorem Tryz.fl126_0:aU Tryz.prog 126 0=some (0,(false,1)):=id (by kernel_rfl)
theorem Tryz.fl126_1:aU Tryz.prog 126 1=some (1,(false,1)):=id (by kernel_rfl)
theorem Tryz.fl130_2:aU Tryz.prog 130 2=some (2,(false,1)):=id (by kernel_rfl)
theorem Tryz.fl130_1:aU Tryz.prog 130 1=some (1,(false,1)):=id (by kernel_rfl)
theorem Tryz.fl123_4:aU Tryz.prog 123 4=some (4,(false,1)):=id (by kernel_rfl)
theorem Tryz.fl123_3:aU Tryz.prog 123 3=some (3,(false,1)):=id (by kernel_rfl)
theorem Tryz.fl60_1:aU Tryz.prog 60 1=some (9,(false,1)):=id (by kernel_rfl)
theorem Tryz.fl60_0:aU Tryz.prog 60 0=some (0,(true,9)):=id (by kernel_rfl)
theorem Tryz.fl56_0:aU Tryz.prog 56 0=some (0,(false,1)):=id (by kernel_rfl)
theorem Tryz.fl56_1:aU Tryz.prog 56 1=some (1,(false,1)):=id (by kernel_rfl)
theorem Tryz.fl60_4:aU Tryz.prog 60 4=some (12,(false,1)):=id (by kernel_rfl)
theorem Tryz.fl60_3:aU Tryz.prog 60 3=some (11,(false,1)):=id (by kernel_rfl)
theorem Tryz.fl56_2:aU Tryz.prog 56 2=some (2,(false,1)):=id (by kernel_rfl)
theorem Tryz.fl144_1:aU Tryz.prog 144 1=some (1,(false,1)):=id (by kernel_rfl)
theorem Tryz.fl141_0:aU Tryz.prog 141 0=some (0,(false,1)):=id (by kernel_rfl)
theorem Tryz.fl141_1:aU Tryz.prog 141 1=some (1,(false,1)):=id (by kernel_rfl)
theorem Tryz.fl150_0:aU Tryz.prog 150 0=some (0,(false,1)):=id (by kernel_rfl)
theorem Tryz.fl150_3:aU Tryz.prog 150 3=some (3,(false,1)):=id (by kernel_rfl)
theorem Tryz.fl123_2:aU Tryz.prog 123 2=some (2,(false,1)):=id (by kernel_rfl)
theorem Tryz.fl82_0:aU Tryz.prog 82 0=some (0,(false,1)):=id (by kernel_rfl)
theorem Tryz.fl144_0:aU Tryz.prog 144 0=some (0,(false,1)):=id (by kernel_rfl)
theorem Tryz.fl123_1:aU Tryz.prog 123 1=some (1,(false,1)):=id (by kernel_rfl)
theorem Tryz.fl150_1:aU Tryz.prog 150 1=some (1,(false,1)):=id (by kernel_rfl)
theorem Tryz.fl150_2:aU Tryz.prog 150 2=some (2,(false,1)):=id (by kernel_rfl)
theorem Tryz.fl198_3:aU Tryz.prog 198 3=some (3,(false,1)):=id (by kernel_rfl)
theorem Tryz.fl217_2:aU Tryz.prog 217 2=some (2,(false,1)):=id (by kernel_rfl)
theorem Tryz.fl217_1:aU Tryz.prog 217 1=some (1,(false,1)):=id (by kernel_rfl)
theorem Tryz.fl221_1:aU Tryz.prog 221 1=some (1,(false,1)):=id (by kernel_rfl)
theorem Tryz.fl221_0:aU Tryz.prog 221 0=some (0,(false,1)):=id (by kernel_rfl)
theorem Tryz.fl221_2:aU Tryz.prog 221 2=some (2,(true,32)):=id (by kernel_rfl)
theorem Tryz.fl172_0:aU Tryz.prog 172 0=some (0,(true,32)):=id (by kernel_rfl)
theorem Tryz.fl172_1:aU Tryz.prog 172 1=some (32,(false,1)):=id (by kernel_rfl)
theorem Tryz.fl172_2:aU Tryz.prog 172 2=some (33,(false,1)):=id (by kernel_rfl)
theorem Tryz.fl193_4:aU Tryz.prog 193 4=some (4,(false,1)):=id (by kernel_rfl)
theorem Tryz.fl193_3:aU Tryz.prog 193 3=some (3,(false,1)):=id (by kernel_rfl)
theorem Tryz.fl193_6:aU Tryz.prog 193 6=some (6,(false,1)):=id (by kernel_rfl)
theorem Tryz.fl193_5:aU Tryz.prog 193 5=some (5,(false,1)):=id (by kernel_rfl)
theorem Tryz.fl193_0:aU Tryz.prog 193 0=some (0,(false,1)):=id (by kernel_rfl)
theorem Tryz.fl193_1:aU Tryz.prog 193 1=some (1,(false,1)):=id (by kernel_rfl)
theorem Tryz.fl198_1:aU Tryz.prog 198 1=some (1,(false,1)):=id (by kernel_rfl)
theorem Tryz.fl198_0:aU Tryz.prog 198 0=some (0,(false,1)):=id (by kernel_rfl)
theorem Tryz.fl198_4:aU Tryz.prog 198 4=some (4,(false,1)):=id (by kernel_rfl)
theorem Tryz.fl198_2:aU Tryz.prog 198 2=some (2,(false,1)):=id (by kernel_rfl)
theorem Tryz.fl204_0:aU Tryz.prog 204 0=some (0,(true,2)):=id (by kernel_rfl)
theorem Tryz.fl250_1:aU Tryz.prog 250 1=some (1,(false,1)):=id (by kernel_rfl)
theorem Tryz.fl250_0:aU Tryz.prog 250 0=some (0,(false,1)):=id (by kernel_rfl)
theorem Tryz.fl250_2:aU Tryz.prog 250 2=some (2,(false,1)):=id (by kernel_rfl)
theorem Tryz.fl217_0:aU Tryz.prog 217 0=some (0,(false,1)):=id (by kernel_rfl)
theorem Tryz.fl202_1:aU Tryz.prog 202 1=some (1,(false,1)):=id (by kernel_rfl)
theorem Tryz.fl254_4:aU Tryz.prog 254 4=some (74,(false,1)):=id (by kernel_rfl)
theorem Tryz.fl254_3:aU Tryz.prog 254 3=some (73,(false,1)):=id (by kernel_rfl)
theorem Tryz.fl254_1:aU Tryz.prog 254 1=some (1,(true,8)):=id (by kernel_rfl)
theorem Tryz.fl279_0:aU Tryz.prog 279 0=some (0,(false,1)):=id (by kernel_rfl)
theorem Tryz.fl279_1:aU Tryz.prog 279 1=some (1,(false,1)):=id (by kernel_rfl)
theorem Tryz.fl279_2:aU Tryz.prog 279 2=some (2,(false,1)):=id (by kernel_rfl)
theorem Tryz.fl193_2:aU Tryz.prog 193 2=some (2,(false,1)):=id (by kernel_rfl)
theorem Tryz.fl271_0:aU Tryz.prog 271 0=some (0,(false,1)):=id (by kernel_rfl)
theorem Tryz.fl271_1:aU Tryz.prog 271 1=some (1,(false,1)):=id (by kernel_rfl)
theorem Tryz.fl271_2:aU Tryz.prog 271 2=some (2,(true,34)):=id (by kernel_rfl)
theorem Tryz.fl202_0:aU Tryz.prog 202 0=some (0,(false,1)):=id (by kernel_rfl)
theorem Tryz.fl254_0:aU Tryz.prog 254 0=some (0,(false,1)):=id (by kernel_rfl)
theorem Tryz.fl254_2:aU Tryz.prog 254 2=some (9,(true,64)):=id (by kernel_rfl)
theorem Tryz.fl311_0:aU Tryz.prog 311 0=some (0,(false,1)):=id (by kernel_rfl)
theorem Tryz.fl311_1:aU Tryz.prog 311 1=some (1,(false,1)):=id (by kernel_rfl)
theorem Tryz.cv5_3:cvT Tryz.prog 5 3= .int .i64:=id (by kernel_rfl)
theorem Tryz.cv3_5:cvT Tryz.prog 3 5= .int .u8:=id (by kernel_rfl)
theorem Tryz.cv119_3:cvT Tryz.prog 119 3= .int .i64:=id (by kernel_rfl)
theorem Tryz.cv207_5:cvT Tryz.prog 207 5= .int .u8:=id (by kernel_rfl)
theorem Tryz.cv200_9:cvT Tryz.prog 200 9= .bytesStr:=id (by kernel_rfl)
theorem Tryz.cv3_219:cvT Tryz.prog 3 219= .int .u64:=id (by kernel_rfl)
theorem Tryz.cv3_252:cvT Tryz.prog 3 252= .int .u64:=id (by kernel_rfl)
theorem Tryz.cv252_5:cvT Tryz.prog 252 5= .int .u8:=id (by kernel_rfl)
theorem Tryz.cv5_207:cvT Tryz.prog 5 207= .int .u32:=id (by kernel_rfl)
theorem Tryz.cv219_207:cvT Tryz.prog 219 207= .int .u32:=id (by kernel_rfl)
theorem Tryz.cv199_292:cvT Tryz.prog 199 292= .no:=id (by kernel_rfl)
theorem Tryz.cv292_199:cvT Tryz.prog 292 199= .no:=id (by kernel_rfl)
theorem Tryz.cv3_301:cvT Tryz.prog 3 301= .int .u64:=id (by kernel_rfl)
theorem Tryz.cv219_3:cvT Tryz.prog 219 3= .int .i64:=id (by kernel_rfl)
theorem Tryz.cv3_312:cvT Tryz.prog 3 312= .no:=id (by kernel_rfl)
theorem Tryz.cv312_3:cvT Tryz.prog 312 3= .no:=id (by kernel_rfl)
set_option linter.defProp false
def Tryz.fx:=And.intro (And.intro (And.intro (And.intro (And.intro (And.intro (And.intro (@Tryz.ix24) (@Tryz.ix23)) (And.intro (@Tryz.ix22) (And.intro (@Tryz.ix9) (@Tryz.ix71)))) (And.intro (And.intro (@Tryz.ix72) (And.intro (@Tryz.ix93) (@Tryz.ix94))) (And.intro (@Tryz.ix106) (And.intro (@Tryz.ix131) (@Tryz.ix128))))) (And.intro (And.intro (And.intro (@Tryz.ix58) (And.intro (@Tryz.ix57) (@Tryz.ix54))) (And.intro (@Tryz.ix53) (And.intro (@Tryz.ix84) (@Tryz.ix196)))) (And.intro (And.intro (@Tryz.ix209) (And.intro (@Tryz.ix218) (@Tryz.ix168))) (And.intro (@Tryz.ix227) (And.intro (@Tryz.ix200) (@Tryz.ix236)))))) (And.intro (And.intro (And.intro (And.intro (@Tryz.ix255) (And.intro (@Tryz.ix256) (@Tryz.ix260))) (And.intro (@Tryz.ix269) (And.intro (@Tryz.ix294) (@Tryz.ix297)))) (And.intro (And.intro (@Tryz.ag31) (And.intro (@Tryz.ag3) (@Tryz.ag36))) (And.intro (@Tryz.ag9) (And.intro (@Tryz.ag24) (@Tryz.ag66))))) (And.intro (And.intro (And.intro (@Tryz.ag4) (And.intro (@Tryz.ag82) (@Tryz.ag84))) (And.intro (@Tryz.ag97) (And.intro (@Tryz.ag121) (@Tryz.ag127)))) (And.intro (And.intro (@Tryz.ag126) (And.intro (@Tryz.ag131) (@Tryz.ag128))) (And.intro (@Tryz.ag137) (And.intro (@Tryz.ag58) (@Tryz.ag141))))))) (And.intro (And.intro (And.intro (And.intro (And.intro (@Tryz.ag53) (And.intro (@Tryz.ag144) (@Tryz.ag123))) (And.intro (@Tryz.ag130) (And.intro (@Tryz.ag60) (@Tryz.ag119)))) (And.intro (And.intro (@Tryz.ag54) (And.intro (@Tryz.ag150) (@Tryz.ag5))) (And.intro (@Tryz.ag172) (And.intro (@Tryz.ag193) (@Tryz.ag198))))) (And.intro (And.intro (And.intro (@Tryz.ag196) (And.intro (@Tryz.ag204) (@Tryz.ag209))) (And.intro (@Tryz.ag217) (And.intro (@Tryz.ag218) (@Tryz.ag221)))) (And.intro (And.intro (@Tryz.ag106) (And.intro (@Tryz.ag227) (@Tryz.ag207))) (And.intro (@Tryz.ag124) (And.intro (@Tryz.ag236) (@Tryz.ag235)))))) (And.intro (And.intro (And.intro (And.intro (@Tryz.ag250) (And.intro (@Tryz.ag32) (@Tryz.ag254))) (And.intro (@Tryz.ag255) (And.intro (@Tryz.ag256) (@Tryz.ag269)))) (And.intro (And.intro (@Tryz.ag271) (And.intro (@Tryz.ag268) (@Tryz.ag200))) (And.intro (@Tryz.ag252) (And.intro (@Tryz.ag279) (@Tryz.ag72))))) (And.intro (And.intro (And.intro (@Tryz.ag210) (And.intro (@Tryz.ag168) (@Tryz.ag199))) (And.intro (@Tryz.ag301) (And.intro (@Tryz.ag311) (@Tryz.ag309)))) (And.intro (And.intro (@Tryz.ag294) (And.intro (@Tryz.fl31_0) (@Tryz.fl36_0))) (And.intro (@Tryz.fl36_1) (And.intro (@Tryz.fl31_2) (@Tryz.fl31_3)))))))) (And.intro (And.intro (And.intro (And.intro (And.intro (And.intro (@Tryz.fl31_4) (And.intro (@Tryz.fl36_2) (@Tryz.fl31_1))) (And.intro (@Tryz.fl31_5) (And.intro (@Tryz.fl60_2) (@Tryz.fl66_0)))) (And.intro (And.intro (@Tryz.fl66_1) (And.intro (@Tryz.fl66_2) (@Tryz.fl66_3))) (And.intro (@Tryz.fl82_1) (And.intro (@Tryz.fl97_2) (@Tryz.fl97_0))))) (And.intro (And.intro (And.intro (@Tryz.fl97_1) (And.intro (@Tryz.fl97_3) (@Tryz.fl123_0))) (And.intro (@Tryz.fl130_0) (And.intro (@Tryz.fl126_0) (@Tryz.fl126_1)))) (And.intro (And.intro (@Tryz.fl130_2) (And.intro (@Tryz.fl130_1) (@Tryz.fl123_4))) (And.intro (@Tryz.fl123_3) (And.intro (@Tryz.fl60_1) (@Tryz.fl60_0)))))) (And.intro (And.intro (And.intro (And.intro (@Tryz.fl56_0) (And.intro (@Tryz.fl56_1) (@Tryz.fl60_4))) (And.intro (@Tryz.fl60_3) (And.intro (@Tryz.fl56_2) (@Tryz.fl144_1)))) (And.intro (And.intro (@Tryz.fl141_0) (And.intro (@Tryz.fl141_1) (@Tryz.fl150_0))) (And.intro (@Tryz.fl150_3) (And.intro (@Tryz.fl123_2) (@Tryz.fl82_0))))) (And.intro (And.intro (And.intro (@Tryz.fl144_0) (And.intro (@Tryz.fl123_1) (@Tryz.fl150_1))) (And.intro (@Tryz.fl150_2) (And.intro (@Tryz.fl198_3) (@Tryz.fl217_2)))) (And.intro (And.intro (@Tryz.fl217_1) (And.intro (@Tryz.fl221_1) (@Tryz.fl221_0))) (And.intro (@Tryz.fl221_2) (And.intro (@Tryz.fl172_0) (@Tryz.fl172_1))))))) (And.intro (And.intro (And.intro (And.intro (And.intro (@Tryz.fl172_2) (And.intro (@Tryz.fl193_4) (@Tryz.fl193_3))) (And.intro (@Tryz.fl193_6) (And.intro (@Tryz.fl193_5) (@Tryz.fl193_0)))) (And.intro (And.intro (@Tryz.fl193_1) (And.intro (@Tryz.fl198_1) (@Tryz.fl198_0))) (And.intro (@Tryz.fl198_4) (And.intro (@Tryz.fl198_2) (@Tryz.fl204_0))))) (And.intro (And.intro (And.intro (@Tryz.fl250_1) (And.intro (@Tryz.fl250_0) (@Tryz.fl250_2))) (And.intro (@Tryz.fl217_0) (And.intro (@Tryz.fl202_1) (@Tryz.fl254_4)))) (And.intro (And.intro (@Tryz.fl254_3) (And.intro (@Tryz.fl254_1) (@Tryz.fl279_0))) (And.intro (@Tryz.fl279_1) (And.intro (@Tryz.fl279_2) (@Tryz.fl193_2)))))) (And.intro (And.intro (And.intro (And.intro (@Tryz.fl271_0) (And.intro (@Tryz.fl271_1) (@Tryz.fl271_2))) (And.intro (@Tryz.fl202_0) (And.intro (@Tryz.fl254_0) (@Tryz.fl254_2)))) (And.intro (And.intro (@Tryz.fl311_0) (And.intro (@Tryz.fl311_1) (@Tryz.cv5_3))) (And.intro (@Tryz.cv3_5) (And.intro (@Tryz.cv119_3) (@Tryz.cv207_5))))) (And.intro (And.intro (And.intro (@Tryz.cv200_9) (And.intro (@Tryz.cv3_219) (@Tryz.cv3_252))) (And.intro (@Tryz.cv252_5) (And.intro (@Tryz.cv5_207) (@Tryz.cv219_207)))) (And.intro (And.intro (@Tryz.cv199_292) (And.intro (@Tryz.cv292_199) (@Tryz.cv3_301))) (And.intro (@Tryz.cv219_3) (And.intro (@Tryz.cv3_312) (@Tryz.cv312_3))))))))
theorem kp {X A G:Prop} (x:X) (h:G) (e:X→A=G:=by intro x;(try simp(disch:=(first|assumption|omega| (simp only[fM,fL,UInt64.reduceToNat];try omega))) only[↓Sx.S0,Sx.S1,Tryz.fx,Nat.reduceAdd,Nat.reducePow,Int.reducePow,Nat.reduceBEq, ↓reduceIte,UInt8.reduceToNat,UInt16.reduceToNat,UInt32.reduceToNat,UInt64.reduceToNat,Int.reduceToNat,x]);exact rfl):A:=(e x).mpr h
section
variable {P:Program} {w0:World} {f:Fr} {L:aA} {K:cR} {N:Fr→aA→Prop} {ops:Array Oper} {md:Md} {l:List Oper} {X G:Prop}
theorem ks {c:Code} (z:List Nat) [Sx.Steps c] (x:X) (h:G) (e:X→vcC P w0 z c f L (bsK K)=G:=by intro x;(try simp(disch:=(first|assumption|omega| (simp only[fM,fL,UInt64.reduceToNat];try omega))) only[↓Sx.S0,Sx.S1,Tryz.fx,Nat.reduceAdd,Nat.reducePow,Int.reducePow,Nat.reduceBEq, ↓reduceIte,UInt8.reduceToNat,UInt16.reduceToNat,UInt32.reduceToNat,UInt64.reduceToNat,Int.reduceToNat,x]);exact rfl):Cw P w0 c f L K:=Cw.go z ((e x).mpr h)
theorem ko (x:X) (h:G) (e:X→vcL P w0 ops true md l f L (owk P w0 ops (bsN N))=G:=by intro x;(try simp(disch:=(first|assumption|omega| (simp only[fM,fL,UInt64.reduceToNat];try omega))) only[↓Sx.S0,Sx.S1,Tryz.fx,Nat.reduceAdd,Nat.reducePow,Int.reducePow,Nat.reduceBEq, ↓reduceIte,UInt8.reduceToNat,UInt16.reduceToNat,UInt32.reduceToNat,UInt64.reduceToNat,Int.reduceToNat,x]);exact rfl) (he:md.eff=true:=by rfl):Ow P w0 ops md l f L N:=Ow.go he ((e x).mpr h)
theorem kq (x:X) (h:G) (e:X→vcL P w0 ops false md l f L (owk P w0 ops (bsN N))=G:=by intro x;(try simp(disch:=(first|assumption|omega| (simp only[fM,fL,UInt64.reduceToNat];try omega))) only[↓Sx.S0,Sx.S1,Tryz.fx,Nat.reduceAdd,Nat.reducePow,Int.reducePow,Nat.reduceBEq, ↓reduceIte,UInt8.reduceToNat,UInt16.reduceToNat,UInt32.reduceToNat,UInt64.reduceToNat,Int.reduceToNat,x]);exact rfl):Ow P w0 ops md l f L N:=Ow.goQ ((e x).mpr h)
end
theorem ke {α:Type} {X:Prop} {a b:α} (x:X) (e:X→a=b:=by intro x;(try simp(disch:=(first|assumption|omega| (simp only[fM,fL,UInt64.reduceToNat];try omega))) only[↓Sx.S0,Sx.S1,Tryz.fx,Nat.reduceAdd,Nat.reducePow,Int.reducePow,Nat.reduceBEq, ↓reduceIte,UInt8.reduceToNat,UInt16.reduceToNat,UInt32.reduceToNat,UInt64.reduceToNat,Int.reduceToNat,x]);exact rfl):a=b:=e x
theorem kn {A G:Prop} (h:G) (e:A=G:=by(try simp(disch:=(first|assumption|omega| (simp only[fM,fL,UInt64.reduceToNat];try omega))) only[Cy,FF,List.cons_append,List.nil_append]);exact rfl):A:=e.mpr h
theorem kf {A G:Prop} (h:G) (e:A=G:=by simp only[List.size_toArray,List.length_cons,List.length_nil,Nat.reduceAdd,Nat.reduceSub,List.replicate_succ,List.replicate_zero,List.cons_append,List.nil_append];exact rfl):A:=e.mpr h
theorem kv {A G:Prop} (h:G) (e:A=G:=by simp only[kN,pin,my,mz,List.contains_cons,List.contains_nil,Nat.reduceBEq,Bool.or_false,Bool.false_or,Bool.or_true,Bool.true_or,Nat.reduceAdd, ↓reduceIte,Bool.false_eq_true];exact rfl):A:=e.mpr h
set_option maxRecDepth 10000
set_option maxHeartbeats 1000000
set_option linter.unusedSimpArgs false
set_option linter.defProp false
end Go.Proofs
end
section
open Go Go.Proofs Go.Sx
namespace Go.Proofs
set_option maxRecDepth 10000
set_option maxHeartbeats 1000000
set_option linter.unusedSimpArgs false
set_option linter.defProp false
def BldAt (b:Nat) (l:List UInt8) (X:aA):Prop:=
 ∃p v,Sx.look X b=some (.cells #[p,v] 204 (0,0))∧(p= .pointer none∨p=vp b 0)∧Buf X 5 1 v l.length (l.map v8)∧slB v≠some b
end Go.Proofs
end
section
open Go Go.Proofs Go.Sx
namespace Go.Proofs
set_option maxRecDepth 10000
set_option maxHeartbeats 1000000
set_option linter.unusedSimpArgs false
set_option linter.defProp false
end Go.Proofs
end
section
open Go Go.Proofs Go.Sx
namespace Go.Proofs
set_option maxRecDepth 10000
set_option maxHeartbeats 1000000
set_option linter.unusedSimpArgs false
set_option linter.defProp false
def maxN:Int:=1099511627775
def numL (n:Nat):List UInt8:=if h:n<128 then [UInt8.ofNat n] else UInt8.ofNat (n%128+128)::numL (n / 128)
termination_by n
decreasing_by omega
def iv (n:Int):Nat:=(if(if maxN<n then maxN else n)>0 then(if maxN<n then maxN else n) else 0).toNat
theorem Be {n:Nat} (h:n<128):numL n= [UInt8.ofNat n]:=by rw[numL];simp[h]
theorem CI {n:Nat} (h: ¬n<128):numL n=UInt8.ofNat (n%128+128)::numL (n / 128):=by rw[numL];simp[h]
theorem Dz: ∀ (k n:Nat),n<128^k→0<k→(numL n).length≤k
 |0,n,h,h0=>absurd h0 (by omega)
 |k+1,n,h,_=>by
  by_cases hn:n<128
  ·rw[Be hn];simp
  ·rw[CI hn]
   have hk:0<k:=by
    rcases Nat.eq_zero_or_pos k with rfl|hk
    ·simp at h;omega
    ·exact hk
   have:=Dz k (n / 128) (by rw[Nat.pow_succ] at h;omega) hk
   simp only[List.length_cons];omega
theorem Lw (n:Int):iv n<1099511627776:=by unfold iv maxN;split<;>split at* <;>omega
theorem ve (n:Int): (numL (iv n)).length≤6:=Dz 6 _ (by have:=Lw n;omega) (by omega)
theorem CL (m:Nat):UInt8.ofInt (m:Int)=UInt8.ofNat m:=by
 apply UInt8.toBitVec_inj.1
 apply BitVec.eq_of_toNat_eq
 simp[UInt8.ofInt,UInt8.ofNat]
 omega
end Go.Proofs
end
section
open Go Go.Proofs Go.Sx
namespace Go.Proofs
set_option maxRecDepth 10000
set_option maxHeartbeats 1000000
set_option linter.unusedSimpArgs false
set_option linter.defProp false
theorem BldAt.app {b:Nat} {l:List UInt8} {X Y:aA} (h:BldAt b l X):BldAt b l (X++Y):=by
 obtain⟨p,v,h1,h2,h3,h4⟩:=h
 exact⟨p,v,aq h1,h2,h3.app,h4⟩
def n5 (s:List UInt8):List UInt8:=numL (iv s.length)++s
structure IdL where
 l:List UInt8
 h:l.length=32
def jB (x:IdL):List Value:=x.l.map v8
def id0:IdL:=⟨List.replicate 32 0,by simp⟩
theorem yY (x:IdL): (jB x).toArray=a8 x.l:=rfl
end Go.Proofs
end
section
open Go Go.Proofs Go.Sx
namespace Go.Proofs
set_option maxRecDepth 10000
set_option maxHeartbeats 1000000
set_option linter.unusedSimpArgs false
theorem CC (s:List UInt8) (a e:Int) (E:TypeId) (n:Nat):aF (some (false,n)) (some (.cells #[vs s,vi a,vi e] E (0,0))) 0=some (vs s):=(rfl)
theorem CH (s:List UInt8) (a e:Int) (E:TypeId) (n:Nat):aF (some (false,n)) (some (.cells #[vs s,vi a,vi e] E (0,0))) 1=some (vi a):=(rfl)
theorem CX (s:List UInt8) (a e:Int) (E:TypeId) (n:Nat):aF (some (false,n)) (some (.cells #[vs s,vi a,vi e] E (0,0))) 2=some (vi e):=(rfl)
theorem DF (s:List UInt8) (a e x:Int) (E:TypeId):ac (some (false,1)) (some (.cells #[vs s,vi a,vi e] E (0,0))) 1 (vi x)=some (.cells #[vs s,vi x,vi e] E (0,0)):=by
 simp[ac,fY,vi,Value.cells,Value.oneCell']
theorem Cp (s:List UInt8) (a e x:Int) (E:TypeId):ac (some (false,1)) (some (.cells #[vs s,vi a,vi e] E (0,0))) 2 (vi x)=some (.cells #[vs s,vi a,vi x] E (0,0)):=by
 simp[ac,fY,vi,Value.cells,Value.oneCell']
set_option linter.defProp false
def bK (s:List UInt8) (a:Nat) (e n:Int):List UInt8×Nat×Int:=
 if e≠0 then([],a,e) else if n<0 then([],a,2) else if(s.length:Int) - a<n then([],a,3) else((s.drop a).take n.toNat,a+n.toNat,0)
end Go.Proofs
end
section
open Go Go.Proofs Go.Sx
namespace Go.Proofs
set_option maxRecDepth 10000
set_option maxHeartbeats 8000000
set_option linter.unusedSimpArgs false
set_option linter.defProp false
def dP (most:Int):List UInt8→Nat→Nat→Except Nat (Nat×Nat)
 | [],_,_=> .error 3
 |c::r,k,n=>
  if 128≤c.toNat then(if k+1=6 then .error 4 else dP most r (k+1) (n+c.toNat%128*128^k))
  else if c.toNat=0∧0<k then .error 2
  else if n+c.toNat%128*128^k≤1099511627775∧((n+c.toNat%128*128^k:Nat):Int)≤most then .ok (n+c.toNat%128*128^k,k+1)
  else .error 4
def aE (s:List UInt8) (a:Nat) (e most:Int):Int×Nat×Int:=
 if e≠0 then(0,a,e) else match dP most (s.drop a) 0 0 with
  | .ok (n,k)=>(n,a+k,0)
  | .error x=>(0,a,x)
theorem zH {s:List UInt8} {a:Nat} {e most:Int} {n k:Nat} (he:e=0) (h:dP most (s.drop a) 0 0= .ok (n,k)):aE s a e most=((n:Int),a+k,0):=by
 unfold aE;rw[if_neg (by simp[he]),h]
theorem uM {s:List UInt8} {a:Nat} {e most:Int} {x:Nat} (he:e=0) (h:dP most (s.drop a) 0 0= .error x):aE s a e most=(0,a,(x:Int)):=by
 unfold aE;rw[if_neg (by simp[he]),h]
end Go.Proofs
end
section
open Go Go.Proofs Go.Sx
namespace Go.Proofs
set_option maxRecDepth 10000
set_option maxHeartbeats 2000000
set_option linter.unusedSimpArgs false
set_option linter.defProp false
theorem Ey (most:Int): ∀ (l:List UInt8) (k n m k':Nat),dP most l k n= .ok (m,k')→k<k'∧k'≤k+l.length
 | [],k,n,m,k',h=>by cases h
 |c::r,k,n,m,k',h=>by
  unfold dP at h
  split at h
  ·split at h
   ·cases h
   ·have:=Ey most r (k+1) _ m k' h
    simp only[List.length_cons];omega
  ·split at h
   ·cases h
   ·split at h
    ·cases h;simp only[List.length_cons];omega
    ·cases h
theorem jM {s:List UInt8} {a:Nat} {e most:Int} (ha:a≤s.length):a≤ (aE s a e most).2.1∧(aE s a e most).2.1≤s.length:=by
 unfold aE
 split
 ·exact⟨Nat.le_refl _,ha⟩
 ·cases h:dP most (s.drop a) 0 0 with
  |error x=>exact⟨Nat.le_refl _,ha⟩
  |ok p=>
   obtain⟨n,k⟩:=p
   have:=Ey most _ _ _ _ _ h
   rw[List.length_drop] at this
   exact⟨by show a≤a+k;omega,by show a+k≤s.length;omega⟩
theorem Cb {s:List UInt8} {a:Nat} {e n:Int} (ha:a≤s.length):a≤ (bK s a e n).2.1∧(bK s a e n).2.1≤s.length:=by
 unfold bK
 split
 ·exact⟨Nat.le_refl _,ha⟩
 ·split
  ·exact⟨Nat.le_refl _,ha⟩
  ·split
   ·exact⟨Nat.le_refl _,ha⟩
   ·exact⟨by show a≤a+n.toNat;omega,by show a+n.toNat≤s.length;omega⟩
def bN (s:List UInt8) (a:Nat) (e most:Int):List UInt8×Nat×Int:=
 let p:=aE s a e most
 let q:=bK s p.2.1 p.2.2 p.1
 if q.2.2≠0 then([],a,q.2.2) else q
def z32:List UInt8:=List.replicate 32 0
def idR (s:List UInt8) (a:Nat) (e:Int):List UInt8×Nat×Int:=
 let q:=bK s a e 32
 (if q.1.length=32 then q.1 else z32,q.2)
theorem O3 {s:List UInt8} {a:Nat} {e:Int} (_ha:a≤s.length): (bK s a e 32).1= []∨(bK s a e 32).1.length=32:=by
 unfold bK
 split
 ·exact .inl rfl
 ·split
  ·exact .inl rfl
  ·split
   ·exact .inl rfl
   ·right
    show((s.drop a).take 32).length=32
    rw[List.length_take,List.length_drop];omega
end Go.Proofs
end
section
open Go Go.Proofs Go.Sx
namespace Go.Proofs
set_option maxRecDepth 10000
set_option maxHeartbeats 4000000
set_option linter.unusedSimpArgs false
set_option linter.defProp false
def aT:=And.intro (And.intro (And.intro (@ay) (@vg)) (And.intro (@vw) (And.intro (@vn) (@ax)))) (And.intro (And.intro (@CC) (@CH)) (And.intro (@CX) (And.intro (@DF) (@Cp))))
theorem UO (b:Nat) (s:List UInt8) (a:Nat) (e n:Int) (w:World) (ha:a≤s.length) (hs:s.length<1099511627776) (ho:w.heap[b]? =some (.cells #[vs s,vi a,vi e] 217 (0,0))):
  Rets Tryz.prog 182 #[vp b 0,vi n] w (fun v D=> ∃o,D= [(b,o)]∧v=vs (bK s a e n).1∧o= .cells #[vs s,vi (bK s a e n).2.1,vi (bK s a e n).2.2] 217 (0,0)):=by
 refine Rets.enterM Tryz.func182 rfl (rs:= [.tmp 4]) Tryz.results182 Tryz.ntmps182 ho ?_
 refine kf ?_
 first|with_reducible refine ks [] @aT ?_|refine kp @aT ?_
 unfold bK
 by_cases he:e=0
 ·subst he
  rw[if_neg (fun h=>h rfl)]
  first|with_reducible refine ks [] @aT ?_|refine kp @aT ?_
  by_cases hn:n<0
  ·rw[if_pos hn]
   first|with_reducible refine ks [] @aT ?_|refine kp @aT ?_
   refine⟨_,_,_,(ke @aT),rfl,trivial, ?_⟩
   exact⟨rfl,rfl⟩
  ·rw[if_neg hn]
   first|with_reducible refine ks [] @aT ?_|refine kp @aT ?_
   refine Cw.regionS [b] [0,1,2,5,6,7,10,3,4,8,9,11] [] (by kernel_rfl) (by kernel_rfl) (by kernel_rfl) ?_
   simp only[ar, ↓ap, ↓ag, ↓an, ↓am,ah]
   refine kq @aT ?_
   try with_reducible refine Ow.nil ?_
   first|with_reducible refine ks [] @aT ?_|refine kp @aT ?_
   by_cases hl: (s.length:Int) - a<n
   ·rw[if_pos hl]
    first|with_reducible refine ks [] @aT ?_|refine kp @aT ?_
    refine⟨_,_,_,(ke @aT),rfl,trivial, ?_⟩
    exact⟨rfl,rfl⟩
   ·rw[if_neg hl]
    obtain⟨m,rfl⟩: ∃m:Nat,n=(m:Int):=⟨n.toNat,by omega⟩
    first|with_reducible refine ks [] @aT ?_|refine kp @aT ?_
    refine Cw.regionS [b] [0,1,2,4,5,6,8,9,10,12,3,7,11,13,14,15] [] (by kernel_rfl) (by kernel_rfl) (by kernel_rfl) ?_
    simp only[ar, ↓ap, ↓ag, ↓an, ↓am,ah]
    refine kq @aT ?_
    try with_reducible refine Ow.nil ?_
    first|with_reducible refine ks [] @aT ?_|refine kp @aT ?_
    refine⟨_,_,_,(ke @aT),rfl,trivial, ?_⟩
    refine⟨?_, ?_⟩
    ·simp only[ck,Int.toNat_natCast]
     rw[List.drop_take,Nat.add_sub_cancel_left]
    ·rw[Int.toNat_natCast,Int.natCast_add]
 ·rw[if_pos he]
  first|with_reducible refine ks [] @aT ?_|refine kp @aT ?_
  refine⟨_,_,_,(ke @aT),rfl,trivial, ?_⟩
  exact⟨rfl,rfl⟩
theorem E1 (b:Nat) (s:List UInt8) (a e:Int) (w:World) (ho:w.heap[b]? =some (.cells #[vs s,vi a,vi e] 217 (0,0))):
  Rets Tryz.prog 145 #[vp b 0] w (fun v D=>v=vi (if e≠0 then e else if a<s.length then 5 else 0)∧D= []):=by
 refine Rets.enterV Tryz.func145 rfl (rs:= [.tmp 2]) Tryz.results145 Tryz.ntmps145 ?_
 refine kf ?_
 first|with_reducible refine ks [] (And.intro @aT @ho) ?_|refine kp (And.intro @aT @ho) ?_
 by_cases he:e=0
 ·first|with_reducible refine ks [] @aT ?_|refine kp @aT ?_
  refine Cw.regionS [b] [0,1,2,4,5,6,3,7,8,9] [] (by kernel_rfl) (by kernel_rfl) (by kernel_rfl) ?_
  simp only[ar, ↓ap, ↓ag, ↓an, ↓am,ah]
  refine kq (And.intro @aT @ho) ?_
  try with_reducible refine Ow.nil ?_
  first|with_reducible refine ks [] @aT ?_|refine kp @aT ?_
  refine cdC.splitp (fun hc=> ?_) (fun hc=> ?_)
  ·first|with_reducible refine ks [] @aT ?_|refine kp @aT ?_
   refine⟨_,(ke @aT),trivial, ?_⟩
   simp[hc,he,ck]
  ·first|with_reducible refine ks [] @aT ?_|refine kp @aT ?_
   refine⟨_,(ke @aT),trivial, ?_⟩
   simp[hc,he,ck]
 ·first|with_reducible refine ks [] (And.intro @aT @ho) ?_|refine kp (And.intro @aT @ho) ?_
  refine⟨_,(ke @aT),trivial, ?_⟩
  simp[he,ck]
structure KN where
 k:Nat
 n:Nat
theorem EC (b:Nat) (s:List UInt8) (a:Nat) (e most:Int) (w:World) (ha:a≤s.length) (hs:s.length<1099511627776) (ho:w.heap[b]? =some (.cells #[vs s,vi a,vi e] 217 (0,0))):
  Rets Tryz.prog 146 #[vp b 0,vi most] w (fun v D=> ∃o,D= [(b,o)]∧v=vi (aE s a e most).1∧o= .cells #[vs s,vi (aE s a e most).2.1,vi (aE s a e most).2.2] 217 (0,0)):=by
 refine Rets.enterM Tryz.func146 rfl (rs:= [.tmp 4]) Tryz.results146 Tryz.ntmps146 ho ?_
 refine kf ?_
 first|with_reducible refine ks [] @aT ?_|refine kp @aT ?_
 by_cases he:e=0
 ·subst he
  first|with_reducible refine ks [] @aT ?_|refine kp @aT ?_
  refine Cw.loopG (G:=KN) [14,15,18,19,20,21,22,23,24,25,26,27,28,29,30,31,32,4,33,34,35,36,37,38,39,40,41,42,43,44,8,45,46,47,48,49,50,5,51,52,6,53,54,55,56,57,58,59,60,61,62,63,64,65,66,67,68,69,70,71,72,73,74,75,76,77,78,79,80,81,82,83,84,16,17,7] (fun g=> [(5,vi g.n),(6,vi (128^g.k:Nat)),(7,vi g.k)]) (fun g=> [(b, .cells #[vs s,vi a,vi 0] 217 (0,0))]) (fun g=>g.k≤6∧(g.k<6→dP most (s.drop a) 0 0=dP most (s.drop (a+g.k)) g.k g.n∧a+g.k≤s.length∧g.n<128^g.k)∧(g.k=6→dP most (s.drop a) 0 0= .error 4)) (fun g=>6 - g.k) ⟨0,0⟩ rfl rfl ?_ ?_
  ·exact⟨by simp,fun _=>⟨rfl,by simpa using ha,by simp⟩,fun h=>by cases h⟩
  intro g j hg
  refine kv ?_
  obtain⟨k,n⟩:=g
  simp only at hg ⊢
  obtain⟨mE,rI,kz⟩:=hg
  by_cases hk:k<6
  ·obtain⟨da,hak,hn⟩:=rI hk
   first|with_reducible refine ks [] @aT ?_|refine kp @aT ?_
   refine Cw.regionS [b] [0,1,2,4,6,7,8,3,5,9,10,11] [] (by kernel_rfl) (by kernel_rfl) (by kernel_rfl) ?_
   simp only[ar, ↓ap, ↓ag, ↓an, ↓am,ah]
   refine kq @aT ?_
   try with_reducible refine Ow.nil ?_
   first|with_reducible refine ks [] @aT ?_|refine kp @aT ?_
   by_cases nZ:a+k=s.length
   ·first|with_reducible refine ks [] @aT ?_|refine kp @aT ?_
    rw[uM (x:=3) rfl (by rw[da,nZ,List.drop_length];rfl)]
    refine⟨_,_,_,(ke @aT),rfl,trivial, ?_⟩
    exact⟨rfl,rfl⟩
   ·have AJ:a+k<s.length:=by omega
    have Af:s.drop (a+k)=s.getD (a+k) 0::s.drop (a+k+1):=by
     rw[List.drop_eq_getElem_cons AJ,List.getD_eq_getElem?_getD,List.getElem?_eq_getElem AJ];rfl
    rw[Af] at da
    first|with_reducible refine ks [] @aT ?_|refine kp @aT ?_
    refine Cw.regionS [b] [0,1,2,4,5,6,8,3,7,9,10,11,12] [] (by kernel_rfl) (by kernel_rfl) (by kernel_rfl) ?_
    simp only[ar, ↓ap, ↓ag, ↓an, ↓am,ah]
    have AV: ((a:Int)+ (k:Int))=((a+k:Nat):Int):=by omega
    refine kq (And.intro @aT @AV) ?_
    try with_reducible refine Ow.nil ?_
    generalize s.getD (a+k) 0=c at*
    have hp:128^k≤34359738368:=Nat.pow_le_pow_right (by omega) (show k≤5 by omega)
    have g9:0<128^k:=Nat.pow_pos (by omega)
    have qC:=c.toNat_lt
    have hdm:c.toNat%128*128^k≤127*128^k:=Nat.mul_le_mul_right _ (by omega)
    have rE: ((c.toNat:Int)%128)=((c.toNat%128:Nat):Int):=by omega
    have Av:aD .mul (vi ((c.toNat%128:Nat):Int)) (vi ((128^k:Nat):Int))=some (vi ((c.toNat%128*128^k:Nat):Int)):=by
     rw[wR _ _ (by rw[←Int.natCast_mul];omega),←Int.natCast_mul]
    have BM: (((128^k:Nat):Int)*128)=((128^ (k+1):Nat):Int):=by rw[Nat.pow_succ,Int.natCast_mul];rfl
    have aC:n+c.toNat%128*128^k<128^ (k+1):=by rw[Nat.pow_succ];omega
    first|with_reducible refine ks [] (And.intro @aT (And.intro @rE (And.intro @Av (@BM)))) ?_|refine kp (And.intro @aT (And.intro @rE (And.intro @Av (@BM)))) ?_
    rw[show((n:Int)+ ((c.toNat%128*128^k:Nat):Int))=((n+c.toNat%128*128^k:Nat):Int) from(Int.natCast_add _ _).symm]
    by_cases ep:128≤c.toNat
    ·first|with_reducible refine ks [] @aT ?_|refine kp @aT ?_
     refine Again.mk (KN.mk (k+1) (n+c.toNat%128*128^k)) (by show 6 - (k+1)<6 - k;omega) ⟨by show k+1≤6;omega,fun h=>⟨?_,by show a+ (k+1)≤s.length;omega,aC⟩,fun h=> ?_⟩ rfl rfl
     ·show dP most (s.drop a) 0 0=dP most (s.drop (a+ (k+1))) (k+1) (n+c.toNat%128*128^k)
      have h':k+1<6:=h
      rw[da,dP,if_pos ep,if_neg (by omega)]
      rfl
     ·have h':k+1=6:=h
      rw[da,dP,if_pos ep,if_pos h']
    ·by_cases hz:c.toNat=0
     ·have e0: ((c.toNat:Int)==0)=true:=by simp[hz]
      first|with_reducible refine ks [] (And.intro @aT @e0) ?_|refine kp (And.intro @aT @e0) ?_
      by_cases jg:0<k
      ·first|with_reducible refine ks [] @aT ?_|refine kp @aT ?_
       rw[uM (x:=2) rfl (by rw[da,dP,if_neg ep,if_pos ⟨hz,jg⟩])]
       refine⟨_,_,_,(ke @aT),rfl,trivial, ?_⟩
       exact⟨rfl,rfl⟩
      ·have oR: ¬ (c.toNat=0∧0<k):=fun h=>jg h.2
       first|with_reducible refine ks [] @aT ?_|refine kp @aT ?_
       by_cases hm:n+c.toNat%128*128^k≤1099511627775
       ·have e1:decide ((1099511627775:Int)< ((n+c.toNat%128*128^k:Nat):Int))=false:=decide_eq_false (by omega)
        first|with_reducible refine ks [] (And.intro @aT @e1) ?_|refine kp (And.intro @aT @e1) ?_
        by_cases rP: ((n+c.toNat%128*128^k:Nat):Int)≤most
        ·first|with_reducible refine ks [] @aT ?_|refine kp @aT ?_
         rw[zH rfl (by rw[da,dP,if_neg ep,if_neg oR,if_pos ⟨hm,rP⟩])]
         refine⟨_,_,_,(ke @aT),rfl,trivial, ?_⟩
         exact⟨rfl,rfl⟩
        ·first|with_reducible refine ks [] @aT ?_|refine kp @aT ?_
         rw[uM (x:=4) rfl (by rw[da,dP,if_neg ep,if_neg oR,if_neg (fun h=>rP h.2)])]
         refine⟨_,_,_,(ke @aT),rfl,trivial, ?_⟩
         exact⟨rfl,rfl⟩
       ·have e1:decide ((1099511627775:Int)< ((n+c.toNat%128*128^k:Nat):Int))=true:=decide_eq_true (by omega)
        first|with_reducible refine ks [] (And.intro @aT @e1) ?_|refine kp (And.intro @aT @e1) ?_
        rw[uM (x:=4) rfl (by rw[da,dP,if_neg ep,if_neg oR,if_neg (fun h=>hm h.1)])]
        refine⟨_,_,_,(ke @aT),rfl,trivial, ?_⟩
        exact⟨rfl,rfl⟩
     ·have e0: ((c.toNat:Int)==0)=false:=by simp;omega
      have oR: ¬ (c.toNat=0∧0<k):=fun h=>hz h.1
      first|with_reducible refine ks [] (And.intro @aT @e0) ?_|refine kp (And.intro @aT @e0) ?_
      by_cases hm:n+c.toNat%128*128^k≤1099511627775
      ·have e1:decide ((1099511627775:Int)< ((n+c.toNat%128*128^k:Nat):Int))=false:=decide_eq_false (by omega)
       first|with_reducible refine ks [] (And.intro @aT @e1) ?_|refine kp (And.intro @aT @e1) ?_
       by_cases rP: ((n+c.toNat%128*128^k:Nat):Int)≤most
       ·first|with_reducible refine ks [] @aT ?_|refine kp @aT ?_
        rw[zH rfl (by rw[da,dP,if_neg ep,if_neg oR,if_pos ⟨hm,rP⟩])]
        refine⟨_,_,_,(ke @aT),rfl,trivial, ?_⟩
        exact⟨rfl,rfl⟩
       ·first|with_reducible refine ks [] @aT ?_|refine kp @aT ?_
        rw[uM (x:=4) rfl (by rw[da,dP,if_neg ep,if_neg oR,if_neg (fun h=>rP h.2)])]
        refine⟨_,_,_,(ke @aT),rfl,trivial, ?_⟩
        exact⟨rfl,rfl⟩
      ·have e1:decide ((1099511627775:Int)< ((n+c.toNat%128*128^k:Nat):Int))=true:=decide_eq_true (by omega)
       first|with_reducible refine ks [] (And.intro @aT @e1) ?_|refine kp (And.intro @aT @e1) ?_
       rw[uM (x:=4) rfl (by rw[da,dP,if_neg ep,if_neg oR,if_neg (fun h=>hm h.1)])]
       refine⟨_,_,_,(ke @aT),rfl,trivial, ?_⟩
       exact⟨rfl,rfl⟩
  ·have T2:k=6:=by omega
   first|with_reducible refine ks [] @aT ?_|refine kp @aT ?_
   rw[uM (x:=4) rfl (kz T2)]
   refine⟨_,_,_,(ke @aT),rfl,trivial, ?_⟩
   exact⟨rfl,rfl⟩
 ·first|with_reducible refine ks [] @aT ?_|refine kp @aT ?_
  unfold aE
  refine⟨_,_,_,(ke @aT),rfl,trivial, ?_⟩
  simp[he,ck]
end Go.Proofs
end
section
open Go Go.Proofs Go.Sx
namespace Go.Proofs
set_option maxRecDepth 10000
set_option maxHeartbeats 4000000
set_option linter.unusedSimpArgs false
set_option linter.defProp false
def dl:=And.intro (And.intro (And.intro (@ay) (@vg)) (And.intro (@vw) (And.intro (@vn) (@ax)))) (And.intro (And.intro (@CC) (@CH)) (And.intro (@CX) (And.intro (@DF) (@Cp))))
theorem Dy (b:Nat) (s:List UInt8) (a:Nat) (e most:Int) (w:World) (ha:a≤s.length) (hs:s.length<1099511627776) (ho:w.heap[b]? =some (.cells #[vs s,vi a,vi e] 217 (0,0))):
  Rets Tryz.prog 144 #[vp b 0,vi most] w (fun v D=> ∃o,D= [(b,o)]∧v=vs (bN s a e most).1∧o= .cells #[vs s,vi (bN s a e most).2.1,vi (bN s a e most).2.2] 217 (0,0)):=by
 refine Rets.enterM Tryz.func144 rfl (rs:= [.tmp 4]) Tryz.results144 Tryz.ntmps144 ho ?_
 refine kf ?_
 first|with_reducible refine ks [] @dl ?_|refine kp @dl ?_
 by_cases he:e=0
 ·first|with_reducible refine ks [] @dl ?_|refine kp @dl ?_
  have hp:=jM (e:=e) (most:=most) ha
  unfold bN
  refine Ow.callM rfl rfl Tryz.call146 (by simp[keys]) (fun w' aB=>EC b s a e most w' ha hs (aB.has _ _ List.mem_cons_self)) ?_
  generalize aE s a e most=p at*
  obtain⟨n,a1,e1⟩:=p
  simp only at hp ⊢
  refine ko @dl ?_
  first|with_reducible refine ks [] @dl ?_|refine kp @dl ?_
  refine Ow.callM rfl rfl Tryz.call182 (by simp[keys]) (fun w' aB=>UO b s a1 e1 n w' hp.2 hs (aB.has _ _ List.mem_cons_self)) ?_
  generalize bK s a1 e1 n=q at*
  obtain⟨t,a2,e2⟩:=q
  simp only
  refine ko @dl ?_
  first|with_reducible refine ks [] @dl ?_|refine kp @dl ?_
  by_cases ti:e2=0
  ·first|with_reducible refine ks [] @dl ?_|refine kp @dl ?_
   refine⟨_,_,_,(ke @dl),rfl,trivial, ?_⟩
   simp[ti,ck]
  ·first|with_reducible refine ks [] @dl ?_|refine kp @dl ?_
   refine⟨_,_,_,(ke @dl),rfl,trivial, ?_⟩
   simp[ti,ck]
 ·first|with_reducible refine ks [] @dl ?_|refine kp @dl ?_
  have:bN s a e most=([],a,e):=by
   unfold bN aE bK
   simp[he]
  rw[this]
  refine⟨_,_,_,(ke @dl),rfl,trivial, ?_⟩
  exact⟨rfl,rfl⟩
def pB (t:List UInt8) (g:Nat):List UInt8:=t.take g++List.replicate (32 - g) 0
theorem MJ (t:List UInt8) (g:Nat) (h:g≤t.length) (h2:t.length≤32): (pB t g).length=32:=by
 unfold pB;rw[List.length_append,List.length_take,List.length_replicate];omega
theorem Jz (t:List UInt8) (g:Nat) (h:g<t.length) (h2:t.length≤32): (pB t g).set g (t.getD g 0)=pB t (g+1):=by
 unfold pB
 have hl: (t.take g).length=g:=by rw[List.length_take];omega
 obtain⟨m,hm⟩: ∃m,32 - g=m+1:=⟨31 - g,by omega⟩
 rw[hm,List.replicate_succ,List.set_append_right _ _ (by omega),hl,Nat.sub_self,List.set_cons_zero,List.take_succ_eq_append_getElem h,List.getD_eq_getElem?_getD,List.getElem?_eq_getElem h,show 32 - (g+1)=m by omega,List.append_assoc]
 rfl
theorem Kf (t:List UInt8) (h:t= []∨t.length=32):pB t t.length=(if t.length=32 then t else z32):=by
 unfold pB
 rcases h with rfl|h
 ·rfl
 ·rw[if_pos h,h,List.take_of_length_le (by omega)];simp
theorem EX (b:Nat) (s:List UInt8) (a:Nat) (e:Int) (w:World) (ha:a≤s.length) (hs:s.length<1099511627776) (ho:w.heap[b]? =some (.cells #[vs s,vi a,vi e] 217 (0,0))):
  Rets Tryz.prog 147 #[vp b 0] w (fun v D=> ∃o,D= [(b,o)]∧v= .agg (a8 (idR s a e).1)∧o= .cells #[vs s,vi (idR s a e).2.1,vi (idR s a e).2.2] 217 (0,0)):=by
 have m9:=(Array.getElem?_eq_some_iff.1 ho).1
 have hq:=O3 (e:=e) ha
 unfold idR
 refine Rets.enterM Tryz.func147 rfl (rs:= [.cell 2 84]) Tryz.results147 Tryz.ntmps147 ho ?_
 refine kf ?_
 first|with_reducible refine ks [] @dl ?_|refine kp @dl ?_
 refine Ow.alloc rfl rfl Tryz.zr84 fun b2 bG cU=> ?_
 obtain⟨A3,-⟩:=bG
 refine ko @dl ?_
 first|with_reducible refine ks [] @dl ?_|refine kp @dl ?_
 refine Ow.callM rfl rfl Tryz.call182 (by simp[keys]) (fun w' aB=>UO b s a e 32 w' ha hs (aB.has _ _ List.mem_cons_self)) ?_
 generalize bK s a e 32=q at*
 obtain⟨t,a2,e2⟩:=q
 simp only at hq ⊢
 have BX:t.length≤32:=by rcases hq with rfl|h<;>simp_all
 refine ko @dl ?_
 first|with_reducible refine ks [] @dl ?_|refine kp @dl ?_
 refine Ow.alloc rfl rfl Tryz.zr84 fun b3 gM jK=> ?_
 refine ko @dl ?_
 obtain⟨DK,DL,-⟩:=gM
 rw[show a8 (List.replicate 32 0)=a8 (pB t 0) from rfl]
 first|with_reducible refine ks [] @dl ?_|refine kp @dl ?_
 refine Cw.loopG (G:=Nat) [8,9,10,11,14,15,16,17,18,12,13,5] (fun g=> [(5,vi g)]) (fun g=> [(b, .cells #[vs s,vi a2,vi e2] 217 (0,0)),(b2, .cells (a8 z32) 84 (0,0)),(b3, .cells (a8 (pB t g)) 84 (0,0))]) (fun g=>g≤t.length) (fun g=>t.length - g) 0 rfl rfl ?_ ?_
 ·omega
 intro g j hg
 refine kv ?_
 by_cases aC:g<t.length
 ·have oW:=MJ t g hg BX
  first|with_reducible refine ks [] @dl ?_|refine kp @dl ?_
  refine Again.mk (g+1) (by omega) (by omega) ?_ rfl
  rw[Jz t g aC BX]
 ·obtain rfl:g=t.length:=by omega
  rw[Kf t hq]
  have oW: (if t.length=32 then t else z32).length=32:=by
   split
   ·assumption
   ·simp[z32]
  have hz32:z32.length=32:=by simp[z32]
  generalize (if t.length=32 then t else z32)=id at*
  first|with_reducible refine ks [] @dl ?_|refine kp @dl ?_
  refine⟨_,_,_,(ke @dl),rfl,⟨cU,jK,trivial⟩, ?_⟩
  exact⟨rfl,rfl⟩
end Go.Proofs
end
section
open Go Go.Proofs Go.Sx Go.StP
namespace Go.Proofs
set_option maxRecDepth 10000
set_option maxHeartbeats 4000000
set_option linter.unusedSimpArgs false
structure EntL where
 name:List UInt8
 kind:Int
 id:IdL
def cE (r:EntL):List Value:= [vs r.name]++ ([vi r.kind]++ (r.id.l.map v8))
def cK:EntL:=⟨[],0,id0⟩
theorem qo (r:EntL): (cE r).length=34:=by simp[cE,r.id.h]
theorem Cs (r:EntL):Value.cells (.agg (cE r).toArray)=(cE r).toArray:=bL _
theorem yE (r:EntL): (cE r).all Value.oneCell'=true:=by
 unfold cE
 simp only[List.all_append,List.all_cons,List.all_nil,oy,Bool.and_true,Bool.true_and]
 rfl
theorem pU:al Tryz.prog 221=some (.agg (cE cK).toArray):=id (by kernel_rfl)
theorem zR:aK Tryz.prog 221=some (true,34):=id (by kernel_rfl)
theorem Cc (r:EntL):cE r=([]:List Value)++ (([vs r.name])++ ([vi r.kind]++ (r.id.l.map v8))):=by
 unfold cE;simp only[List.append_assoc,List.nil_append,List.append_nil]
theorem wQ (r:EntL) (n:Nat) (E:TypeId) (fz:Nat×Nat):aF (some (false,n)) (some (.cells (cE r).toArray E fz)) 0=some (vs r.name):=by
 rw[Cc];exact jO _ _ _ n E fz (by simp)
theorem Ev {w:World} {v:Value} {l:List EntL} {b off:Nat} {arr:Array Value} {E:TypeId} {fz:Nat×Nat} (h:RowS 34 cE cK w v l b off arr E fz) {k:Nat} (hk:k<l.length) (n:Nat):aF (some (false,n)) (some (.cells arr E fz)) (off+k*34+0)=some (vs (l.getD k cK).name):=by
 rw[RowS.cell h hk (by omega)];generalize l.getD k cK=r;rw[Cc];exact ru _ _ _ (by simp)
theorem JM (r:EntL) (x:List UInt8) (a:Bool) (E:TypeId):ac (some (a,1)) (some (.cells (cE r).toArray E (0,0))) 0 (vs x)=some (.cells (cE {r with name:=x}).toArray E (0,0)):=by
 rw[Cc r,Cc {r with name:=x}];exact d9 _ _ _ _ a _ E (by simp) rfl (rfl) rfl (rfl)
theorem Ci (r:EntL):cE r=(([vs r.name]))++ (([vi r.kind])++ (r.id.l.map v8)):=by
 unfold cE;simp only[List.append_assoc,List.nil_append,List.append_nil]
theorem x6 (r:EntL) (n:Nat) (E:TypeId) (fz:Nat×Nat):aF (some (false,n)) (some (.cells (cE r).toArray E fz)) 1=some (vi r.kind):=by
 rw[Ci];exact jO _ _ _ n E fz (by simp)
theorem xn {w:World} {v:Value} {l:List EntL} {b off:Nat} {arr:Array Value} {E:TypeId} {fz:Nat×Nat} (h:RowS 34 cE cK w v l b off arr E fz) {k:Nat} (hk:k<l.length) (n:Nat):aF (some (false,n)) (some (.cells arr E fz)) (off+k*34+1)=some (vi (l.getD k cK).kind):=by
 rw[RowS.cell h hk (by omega)];generalize l.getD k cK=r;rw[Ci];exact ru _ _ _ (by simp)
theorem IR (r:EntL) (x:Int) (a:Bool) (E:TypeId):ac (some (a,1)) (some (.cells (cE r).toArray E (0,0))) 1 (vi x)=some (.cells (cE {r with kind:=x}).toArray E (0,0)):=by
 rw[Ci r,Ci {r with kind:=x}];exact d9 _ _ _ _ a _ E (by simp) rfl (rfl) rfl (rfl)
theorem Cj (r:EntL):cE r=(([vs r.name])++ ([vi r.kind]))++ ((r.id.l.map v8)++ (([]:List Value))):=by
 unfold cE;simp only[List.append_assoc,List.nil_append,List.append_nil]
theorem wS (r:EntL) (E:TypeId) (fz:Nat×Nat):aF (some (true,32)) (some (.cells (cE r).toArray E fz)) 2=some (Value.agg (a8 r.id.l)):=by
 rw[Cj,CU _ _ _ E fz (by simp) (by simp[r.id.h])];rfl
theorem Qu (r:EntL): (cE r).toArray.extract 2 34=a8 r.id.l:=by
 rw[Cj];exact yp (o:=2) (n:=32) _ _ _ (by simp) (by simp[r.id.h])
theorem ML {w:World} {v:Value} {l:List EntL} {b off:Nat} {arr:Array Value} {E:TypeId} {fz:Nat×Nat} (h:RowS 34 cE cK w v l b off arr E fz) {k:Nat} (hk:k<l.length):aF (some (true,32)) (some (.cells arr E fz)) (off+k*34+2)=some (Value.agg (a8 (l.getD k cK).id.l)):=by
 rw[RowS.part h qo hk (by omega) (by omega),Qu]
theorem K0 (r:EntL) (x:IdL) (a:Bool) (E:TypeId):ac (some (a,32)) (some (.cells (cE r).toArray E (0,0))) 2 (Value.agg (a8 x.l))=some (.cells (cE {r with id:=x}).toArray E (0,0)):=by
 rw[Cj r,Cj {r with id:=x}];exact d9 _ _ _ _ a _ E (by simp) (by simp[r.id.h]) (bL _) (by simp[x.h]) (oy _)
theorem Ex (r:EntL) (E:TypeId) (fz:Nat×Nat):aF (some (true,34)) (some (.cells (cE r).toArray E fz)) 0=some (.agg (cE r).toArray):=p6 _ E fz 34 (by rw[List.size_toArray,qo])
theorem Km (old:Array Value) (r:EntL) (a:Bool) (E:TypeId) (h:old.size=34):ac (some (a,34)) (some (.cells old E (0,0))) 0 (.agg (cE r).toArray)=some (.cells (cE r).toArray E (0,0)):=ro _ a old E (qo r) (yE r) h
theorem EU (r r':EntL) (a:Bool) (E:TypeId):ac (some (a,34)) (some (.cells (cE r').toArray E (0,0))) 0 (.agg (cE r).toArray)=some (.cells (cE r).toArray E (0,0)):=Km _ r a E (by rw[List.size_toArray,qo])
theorem Pl (a b:List UInt8): (!(Op.bytesLess a b||a==b))=ltB b a:=by
 cases h:ltB a b
 ·have h':Op.bytesLess a b=false:=h
  rw[h',Bool.false_or]
  by_cases e:a=b
  ·subst e;rw[h];simp
  ·rw[DI h e];simp[e]
 ·have h':Op.bytesLess a b=true:=h
  rw[h',wa h];rfl
set_option linter.defProp false
end Go.Proofs
end
section
open Go Go.Proofs Go.Sx Go.StP
namespace Go.Proofs
set_option maxRecDepth 10000
set_option maxHeartbeats 4000000
set_option linter.unusedSimpArgs false
section
variable {α:Type} {a x m y c:List α} {i k:Nat} {z:α}
end
set_option linter.defProp false
end Go.Proofs
end
section
open Go Go.Proofs Go.Sx Go.StP
namespace Go.Proofs
set_option maxRecDepth 10000
set_option maxHeartbeats 4000000
set_option linter.unusedSimpArgs false
abbrev Ol (l:List EntL):Prop:=StP.Sorted EntL.name l
abbrev StE (l l':List EntL):Prop:=StP.St EntL.name l l'
set_option linter.defProp false
end Go.Proofs
end
section
open Go Go.Proofs Go.Sx Go.StP
namespace Go.Proofs
set_option maxRecDepth 10000
set_option maxHeartbeats 4000000
set_option linter.unusedSimpArgs false
set_option linter.defProp false
end Go.Proofs
end
section
open Go Go.Proofs Go.Sx Go.StP
namespace Go.Proofs
set_option maxRecDepth 10000
set_option maxHeartbeats 4000000
set_option linter.unusedSimpArgs false
set_option linter.defProp false
end Go.Proofs
end
section
open Go Go.Proofs Go.Sx Go.StP
namespace Go.Proofs
set_option maxRecDepth 10000
set_option maxHeartbeats 4000000
set_option linter.unusedSimpArgs false
end Go.Proofs
end
section
open Go Go.Proofs Go.Sx Go.StP
namespace Go.Proofs
set_option maxRecDepth 10000
set_option maxHeartbeats 4000000
set_option linter.unusedSimpArgs false
abbrev EntS (w:World) (v:Value) (l:List EntL):Prop:=SlV 34 cE cK w v l
set_option linter.defProp false
end Go.Proofs
end
section
open Go Go.Proofs Go.Sx Go.StP
namespace Go.Proofs
set_option maxRecDepth 10000
set_option maxHeartbeats 4000000
set_option linter.unusedSimpArgs false
set_option linter.defProp false
end Go.Proofs
end
section
open Go Go.Proofs Go.Sx Go.StP
namespace Go.Proofs
set_option maxRecDepth 10000
set_option maxHeartbeats 4000000
set_option linter.unusedSimpArgs false
def SortOf (l Z:List EntL):Prop:=Z.length=l.length∧Ol Z∧StE l Z
theorem SortOf.eq {l Z Z':List EntL} (h:SortOf l Z) (h':SortOf l Z'):Z=Z':=StP.St.eq h.2.1 h'.2.1 (h.2.2.symm.trans h'.2.2)
end Go.Proofs
end
section
open Go Go.Proofs Go.Sx
namespace Go.Proofs
set_option maxRecDepth 10000
set_option maxHeartbeats 4000000
set_option linter.unusedSimpArgs false
def badR (c:Int):Bool:=decide (c<33) ||decide (126<c) || (c==47)
def eo (b:UInt8):Bool:=decide (b.toNat<33) ||decide (126<b.toNat) || (b.toNat==47)
theorem eqb (a b:Bool):bA Tryz.prog .eql 4 (.bool a) (.bool b)=some (.bool (a==b)):=by
 simp[bA,eqX,gb,gB,Tryz.underlying4]
theorem qu (a:Value): (#[a]:Array Value)[0]? =some a:=(rfl)
set_option linter.defProp false
def dr:=And.intro (And.intro (And.intro (@ay) (And.intro (@vg) (@vw))) (And.intro (And.intro (@vn) (@ax)) (And.intro (@yP) (@UV)))) (And.intro (And.intro (And.intro (@Vi) (@Ua)) (And.intro (@yc) (@qu))) (And.intro (And.intro (@Sx.tup3_0) (@Sx.tup3_1)) (And.intro (@Sx.tup3_2) (@eqb))))
theorem NO (l:List UInt8) (i:Nat) (h:i<l.length):badR ((Utf8.decode ⟨l.toArray⟩ i).1:Nat)=eo (l.getD i 0)∧(eo (l.getD i 0)=false→(Utf8.decode ⟨l.toArray⟩ i).2=1):=by
 obtain⟨h0,h1,h2⟩:=Ga l i h
 by_cases hc: (l.getD i 0).toNat<128
 ·rw[h1 hc]
  refine⟨?_,fun _=>rfl⟩
  unfold badR eo
  congr 1
  ·congr 1
   ·apply decide_eq_decide.2;omega
   ·apply decide_eq_decide.2;omega
  ·rw[Bool.eq_iff_iff,beq_iff_eq,beq_iff_eq];omega
 ·have Rn:=h2 (by omega)
  have hb:eo (l.getD i 0)=true:=by
   unfold eo
   rw[decide_eq_true (show 126< (l.getD i 0).toNat by omega)];simp
  rw[hb]
  refine⟨?_,fun h=>by cases h⟩
  unfold badR
  rw[decide_eq_true (show(126:Int)< (((Utf8.decode ⟨l.toArray⟩ i).1:Nat):Int) by omega)];simp
theorem Xk (s:List UInt8) (k:FuncId) (hk: ∀a w,(callFunc k a).run Tryz.prog w= .ok (.enter k a) w) (hc: ∀c w,Rets Tryz.prog k #[iE c] w (fun v D=>v= .bool (badR c)∧D= [])) (w:World) (hs:s.length<1099511627776):
  Rets Tryz.prog 191 #[vs s, .func (.func k) #[] #[], .bool true] w (fun v D=> ∃n:Int,v=vi n∧(0≤n↔s.any eo=true)∧D= []):=by
 refine Rets.mono (S:=fun v D=>(∃n:Int,v=vi n∧(0≤n↔s.any eo=true))∧D= []) ?_ (by rintro v D ⟨⟨n,h1,h2⟩,h3⟩;exact⟨n,h1,h2,h3⟩)
 refine Rets.enterV Tryz.func191 rfl (rs:= [.tmp 6]) Tryz.results191 Tryz.ntmps191 ?_
 refine kf ?_
 first|with_reducible refine ks [] @dr ?_|refine kp @dr ?_
 refine Ow.rangeText rfl rfl Tryz.underlying9 rfl fun b1 bE aJ=> ?_
 refine ko @dr ?_
 first|with_reducible refine ks [] @dr ?_|refine kp @dr ?_
 refine Cw.loopG (G:=Nat) [11,12,13,14,7,8,15,16,17,18,19,20,6] (fun g=> []) (fun g=> [(b1, .stringIter ⟨s.toArray⟩ g)]) (fun g=>g≤s.length∧ ∀i,i<g→eo (s.getD i 0)=false) (fun g=>s.length - g) 0 rfl rfl ?_ ?_
 ·exact⟨by omega,fun i hi=>by omega⟩
 intro g j hg
 refine kv ?_
 obtain⟨hgL,jf⟩:=hg
 by_cases aC:g<s.length
 ·have lR:=NO s g aC
  first|with_reducible refine ks [] @dr ?_|refine kp @dr ?_
  refine Ow.nextText rfl rfl rfl (sA _ _ _) aC ?_
  rw[Cy]
  generalize vF:Utf8.decode ⟨s.toArray⟩ g=dd at*
  obtain⟨c,n⟩:=dd
  simp only at lR ⊢
  refine ko @dr ?_
  first|with_reducible refine ks [] @dr ?_|refine kp @dr ?_
  refine Ow.callFn1 (v:= .bool (badR c)) (k:=k) rfl rfl rfl hk (fun w' aB=>hc _ w') ?_
  rw[lR.1]
  refine ko @dr ?_
  cases AP:eo (s.getD g 0)
  ·first|with_reducible refine ks [] @dr ?_|refine kp @dr ?_
   refine Again.mk (g+1) (by omega) ⟨by omega,fun i hi=> ?_⟩ ?_ rfl
   ·by_cases Ss:i=g
    ·rw[Ss];exact AP
    ·exact jf i (by omega)
   ·rw[lR.2 AP]
  ·first|with_reducible refine ks [] @dr ?_|refine kp @dr ?_
   refine⟨_,(ke @dr),⟨aJ,trivial⟩, ?_⟩
   refine⟨(g:Int),rfl,⟨fun _=> ?_,fun _=>by omega⟩⟩
   rw[List.any_eq_true]
   refine⟨s.getD g 0, ?_,AP⟩
   rw[List.getD_eq_getElem?_getD,List.getElem?_eq_getElem aC]
   exact List.getElem_mem aC
 ·obtain rfl:g=s.length:=by omega
  first|with_reducible refine ks [] @dr ?_|refine kp @dr ?_
  refine Ow.nextOver rfl rfl rfl (sA _ _ _) aC ?_
  refine ko @dr ?_
  first|with_reducible refine ks [] @dr ?_|refine kp @dr ?_
  refine⟨_,(ke @dr),⟨aJ,trivial⟩, ?_⟩
  refine⟨-1,rfl,⟨fun h=>by omega,fun h=> ?_⟩⟩
  rw[List.any_eq_true] at h
  obtain⟨x,hx,hxb⟩:=h
  obtain⟨i,hi,rfl⟩:=List.getElem_of_mem hx
  have:=jf i hi
  rw[List.getD_eq_getElem?_getD,List.getElem?_eq_getElem hi] at this
  exact absurd hxb (by simpa using this)
theorem Xa (s:List UInt8) (k:FuncId) (hk: ∀a w,(callFunc k a).run Tryz.prog w= .ok (.enter k a) w) (hc: ∀c w,Rets Tryz.prog k #[iE c] w (fun v D=>v= .bool (badR c)∧D= [])) (w:World) (hs:s.length<1099511627776):
  Rets Tryz.prog 160 #[vs s, .func (.func k) #[] #[]] w (fun v D=> ∃n:Int,v=vi n∧(0≤n↔s.any eo=true)∧D= []):=by
 refine Rets.mono (S:=fun v D=>(∃n:Int,v=vi n∧(0≤n↔s.any eo=true))∧D= []) ?_ (by rintro v D ⟨⟨n,h1,h2⟩,h3⟩;exact⟨n,h1,h2,h3⟩)
 refine Rets.enterV Tryz.func160 rfl (rs:= [.tmp 4]) Tryz.results160 Tryz.ntmps160 ?_
 refine kf ?_
 first|with_reducible refine ks [] @dr ?_|refine kp @dr ?_
 refine Ow.callF rfl rfl Tryz.call191 (S:=fun _ v D=> ∃n:Int,v=vi n∧(0≤n↔s.any eo=true)∧D= []) (fun w' aB=>Xk s k hk hc w' hs) ?_
 rintro B v D - - ⟨n,rfl,hn,rfl⟩
 refine⟨_,Mrg.nil, ?_⟩
 refine ko @dr ?_
 first|with_reducible refine ks [] @dr ?_|refine kp @dr ?_
 refine⟨_,(ke @dr),trivial, ?_⟩
 exact⟨n,rfl,hn⟩
theorem YE (s:List UInt8) (k:FuncId) (hk: ∀a w,(callFunc k a).run Tryz.prog w= .ok (.enter k a) w) (hc: ∀c w,Rets Tryz.prog k #[iE c] w (fun v D=>v= .bool (badR c)∧D= [])) (w:World) (hs:s.length<1099511627776):
  Rets Tryz.prog 118 #[vs s, .func (.func k) #[] #[]] w (fun v D=>v= .bool (s.any eo)∧D= []):=by
 refine Rets.enterV Tryz.func118 rfl (rs:= [.tmp 4]) Tryz.results118 Tryz.ntmps118 ?_
 refine kf ?_
 first|with_reducible refine ks [] @dr ?_|refine kp @dr ?_
 refine Ow.callF rfl rfl Tryz.call160 (S:=fun _ v D=> ∃n:Int,v=vi n∧(0≤n↔s.any eo=true)∧D= []) (fun w' aB=>Xa s k hk hc w' hs) ?_
 rintro B v D - - ⟨n,rfl,hn,rfl⟩
 refine⟨_,Mrg.nil, ?_⟩
 refine ko @dr ?_
 first|with_reducible refine ks [] @dr ?_|refine kp @dr ?_
 refine⟨_,(ke @dr),trivial, ?_⟩
 exact congrArg Value.bool (by rw[Bool.eq_iff_iff,decide_eq_true_eq];exact hn)
set_option linter.defProp false
def iz:=And.intro (And.intro (@ay) (@vg)) (And.intro (@vw) (And.intro (@vn) (@ax)))
def lu (s:List UInt8):Bool:= !(s== [])&&decide (s.length≤32)&& !(s.any eo)
theorem zK (c:UInt8):eo c=(decide (c<33) ||decide (126<c) || (c==47)):=by
 unfold eo
 congr 1
 rw[Bool.eq_iff_iff,beq_iff_eq,beq_iff_eq,←UInt8.toNat_inj];rfl
theorem FW (s:List UInt8) (w:World) (hs:s.length<1099511627776):
  Rets Tryz.prog 183 #[vs s] w (fun v D=>v= .bool (lu s)∧D= []):=by
 refine Rets.enterV Tryz.func183 rfl (rs:= [.tmp 2]) Tryz.results183 Tryz.ntmps183 ?_
 refine kf ?_
 first|with_reducible refine ks [] @iz ?_|refine kp @iz ?_
 refine Cw.loopG (G:=Nat) [4,5,6,7,10,11,12,13,14,15,16,17,18,19,20,21,22,23,24,25,2,8,9,3] (fun g=> [(3,vi g)]) (fun g=> []) (fun g=>g≤s.length∧ ∀i,i<g→eo (s.getD i 0)=false) (fun g=>s.length - g) 0 rfl rfl ?_ ?_
 ·exact⟨by omega,fun i hi=>by omega⟩
 intro g j hg
 refine kv ?_
 obtain⟨hgL,jf⟩:=hg
 by_cases aC:g<s.length
 ·have hb:=zK (s.getD g 0)
  have ta:eo (s.getD g 0)=true→lu s=false:=by
   intro h
   have:s.any eo=true:=List.any_eq_true.2 ⟨s.getD g 0,by rw[List.getD_eq_getElem?_getD,List.getElem?_eq_getElem aC];exact List.getElem_mem aC,h⟩
   unfold lu
   rw[this];simp
  have da:eo (s.getD g 0)=false→ ∀i,i<g+1→eo (s.getD i 0)=false:=fun h i hi=>by
   by_cases Ss:i=g
   ·rw[Ss];exact h
   ·exact jf i (by omega)
  generalize hc:s.getD g 0=c at*
  cases h1:decide (c<33)
  ·cases h2:decide (126<c)
   ·cases h3: (c==47)
    ·first|with_reducible refine ks [] (And.intro @iz (And.intro @hc (And.intro @h1 (And.intro @h2 (@h3))))) ?_|refine kp (And.intro @iz (And.intro @hc (And.intro @h1 (And.intro @h2 (@h3))))) ?_
     refine Again.mk (g+1) (by omega) ⟨by omega,da (by rw[hb,h1,h2,h3];rfl)⟩ rfl rfl
    ·first|with_reducible refine ks [] (And.intro @iz (And.intro @hc (And.intro @h1 (And.intro @h2 (@h3))))) ?_|refine kp (And.intro @iz (And.intro @hc (And.intro @h1 (And.intro @h2 (@h3))))) ?_
     rw[ta (by rw[hb,h1,h2,h3];rfl)]
     refine⟨_,(ke @iz),trivial, ?_⟩
     rfl
   ·first|with_reducible refine ks [] (And.intro @iz (And.intro @hc (And.intro @h1 (@h2)))) ?_|refine kp (And.intro @iz (And.intro @hc (And.intro @h1 (@h2)))) ?_
    rw[ta (by rw[hb,h1,h2];rfl)]
    refine⟨_,(ke @iz),trivial, ?_⟩
    rfl
  ·first|with_reducible refine ks [] (And.intro @iz (And.intro @hc (@h1))) ?_|refine kp (And.intro @iz (And.intro @hc (@h1))) ?_
   rw[ta (by rw[hb,h1];simp)]
   refine⟨_,(ke @iz),trivial, ?_⟩
   rfl
 ·obtain rfl:g=s.length:=by omega
  have tW:s.any eo=false:=by
   rw[List.any_eq_false]
   intro x hx
   obtain⟨i,hi,rfl⟩:=List.getElem_of_mem hx
   have:=jf i hi
   rw[List.getD_eq_getElem?_getD,List.getElem?_eq_getElem hi] at this
   simpa using this
  unfold lu
  rw[tW]
  cases h1:decide (1≤ (s.length:Int))
  ·have e0: (s== [])=true:=by
    have:=of_decide_eq_false h1
    rw[List.eq_nil_of_length_eq_zero (show s.length=0 by omega)];rfl
   first|with_reducible refine ks [] (And.intro @iz @h1) ?_|refine kp (And.intro @iz @h1) ?_
   refine⟨_,(ke @iz),trivial, ?_⟩
   simp only[ck,e0,Bool.not_true,Bool.false_and]
  ·have e0: (s== [])=false:=by
    have:=of_decide_eq_true h1
    cases s with
    |nil=>simp at this
    |cons x r=>rfl
   have e1:decide ((s.length:Int)≤32)=decide (s.length≤32):=decide_eq_decide.2 (by omega)
   first|with_reducible refine ks [] (And.intro @iz @h1) ?_|refine kp (And.intro @iz @h1) ?_
   refine⟨_,(ke @iz),trivial, ?_⟩
   simp only[ck,e0,e1,Bool.not_false,Bool.true_and,Bool.and_true]
end Go.Proofs
end
section
open Go Go.Proofs Go.Sx Go.StP
namespace Go.Proofs
set_option maxRecDepth 10000
set_option maxHeartbeats 4000000
set_option linter.unusedSimpArgs false
def jW (l:List EntL) (i:Nat):Bool:=
 lu (l.getD i cK).name&& ((l.getD i cK).kind==1|| (l.getD i cK).kind==2)&& (i==0||ltB (l.getD (i - 1) cK).name (l.getD i cK).name)
def mw (l:List EntL):Bool:=decide (l.length≤32)&& (List.range l.length).all (jW l)
theorem DA {l:List EntL} {k:Nat} (hk:k<l.length) (h:jW l k=false):mw l=false:=by
 unfold mw
 have: (List.range l.length).all (jW l)=false:=by
  rw[List.all_eq_false]
  exact⟨k,List.mem_range.2 hk,by simp[h]⟩
 rw[this,Bool.and_false]
theorem KC {l:List EntL} (h: ∀i,i<l.length→jW l i=true):mw l=decide (l.length≤32):=by
 unfold mw
 have: (List.range l.length).all (jW l)=true:=List.all_eq_true.2 fun i hi=>h i (List.mem_range.1 hi)
 rw[this,Bool.and_true]
set_option linter.defProp false
def pH (l:List EntL):Prop:= ∀i,i<l.length→(l.getD i cK).name.length<1099511627776
end Go.Proofs
end
section
open Go Go.Proofs Go.Sx Go.StP
namespace Go.Proofs
set_option maxRecDepth 10000
set_option maxHeartbeats 4000000
set_option linter.unusedSimpArgs false
set_option linter.defProp false
def iA:=And.intro (And.intro (And.intro (@wQ) (@x6)) (And.intro (@wS) (@Ex))) (And.intro (And.intro (@EU) (@Cs)) (And.intro (@ay) (@ax)))
theorem yw (a b:List UInt8): (Op.bytesLess a b||a==b)= !ltB b a:=by rw[←Pl,Bool.not_not]
theorem XY (v:Value) (l:List EntL) (w:World) (hv:EntS w v l) (hl:l.length<1000000) (jn:pH l):
  Rets Tryz.prog 148 #[v] w (fun v' D=>v'= .bool (mw l)∧D= []):=by
 obtain⟨b,off,arr,E,fz,hr⟩:=hv.row
 have ln:=hv.len
 refine Rets.enterV Tryz.func148 rfl (rs:= [.tmp 2]) Tryz.results148 Tryz.ntmps148 ?_
 refine kf ?_
 by_cases WD:32<l.length
 ·first|with_reducible refine ks [] (And.intro @iA @ln) ?_|refine kp (And.intro @iA @ln) ?_
  have:mw l=false:=by unfold mw;rw[decide_eq_false (by omega),Bool.false_and]
  rw[this]
  refine⟨_,(ke @iA),trivial, ?_⟩
  rfl
 ·first|with_reducible refine ks [] (And.intro @iA @ln) ?_|refine kp (And.intro @iA @ln) ?_
  refine Cw.loopG (G:=Nat) [7,8,9,10,13,14,15,16,17,18,19,20,21,22,23,24,25,26,27,28,29,30,31,32,33,34,35,2,36,37,38,39,40,41,42,43,44,45,46,47,48,49,50,51,11,12,3] (fun g=> [(3,vi g)]) (fun g=> []) (fun g=>g≤l.length∧ ∀i,i<g→jW l i=true) (fun g=>l.length - g) 0 rfl rfl ?_ ?_
  ·exact⟨Nat.zero_le _,fun i hi=>absurd hi (Nat.not_lt_zero i)⟩
  ·intro k jk hk
   refine kv ?_
   obtain⟨h1,h2⟩:=hk
   by_cases hk:k<l.length
   ·have h0:0<l.length:=by omega
    have m9:=hr.lt h0
    have r2:=hr.has h0
    have i2:=hr.idx true k hk
    have m0: ∀n,aF (some (false,n)) (some (.cells arr E fz)) (off+k*34)=some (vs (l.getD k cK).name):=fun n=>Ev hr hk n
    have m1: ∀n,aF (some (false,n)) (some (.cells arr E fz)) (off+k*34+1)=some (vi (l.getD k cK).kind):=fun n=>xn hr hk n
    have hs:=jn k hk
    first|with_reducible refine ks [] (And.intro @iA (And.intro @ln (And.intro @r2 (And.intro @i2 (And.intro @m0 (@m1)))))) ?_|refine kp (And.intro @iA (And.intro @ln (And.intro @r2 (And.intro @i2 (And.intro @m0 (@m1)))))) ?_
    refine Ow.callFV rfl Tryz.call183 (fun w' aB=>FW (l.getD k cK).name w' hs) ?_
    cases hn:lu (l.getD k cK).name
    ·have e0:jW l k=false:=by unfold jW;rw[hn];rfl
     rw[DA hk e0]
     refine ko @iA ?_
     refine⟨_,(ke @iA),trivial, ?_⟩
     rfl
    ·cases fR:decide ((l.getD k cK).kind<1)
     ·cases ex:decide (2< (l.getD k cK).kind)
      ·have vK: ((l.getD k cK).kind==1|| (l.getD k cK).kind==2)=true:=by
        have q1:=of_decide_eq_false fR
        have q2:=of_decide_eq_false ex
        rcases(show(l.getD k cK).kind=1∨(l.getD k cK).kind=2 by omega) with h|h<;>rw[h]<;>rfl
       refine ko (And.intro @iA (And.intro @r2 (And.intro @i2 (And.intro @m0 (And.intro @m1 (And.intro @fR (@ex))))))) ?_
       by_cases W7:k=0
       ·have d1:decide ((0:Int)< (k:Int))=false:=decide_eq_false (by omega)
        have e1:jW l k=true:=by unfold jW;rw[hn,vK,W7];rfl
        refine Cw.regionS [b] [0,1,2,3,4,5,6,8,9,10,11,12,7,13,14,15] [] (by kernel_rfl) (by kernel_rfl) (by kernel_rfl) ?_
        simp only[ar, ↓ap, ↓ag, ↓an, ↓am,ah]
        refine kq (And.intro @iA @d1) ?_
        exact Again.mk (k+1) (by omega) ⟨by omega,fun i hi=>by
         rcases Nat.lt_succ_iff_lt_or_eq.1 hi with h|rfl
         ·exact h2 i h
         ·exact e1⟩ rfl rfl
       ·have d1:decide ((0:Int)< (k:Int))=true:=decide_eq_true (by omega)
        have i3:jX (.sl (true,34)) v (some ((k:Int) - 1))=some (vp b (off+ (k - 1)*34)):=by
         rw[show(k:Int) - 1=((k - 1:Nat):Int) by omega];exact hr.idx true (k - 1) (by omega)
        have l3: ∀n,aF (some (false,n)) (some (.cells arr E fz)) (off+ (k - 1)*34)=some (vs (l.getD (k - 1) cK).name):=fun n=>Ev hr (show k - 1<l.length by omega) n
        have ek: (k==0)=false:=beq_eq_false_iff_ne.2 W7
        cases ml:ltB (l.getD (k - 1) cK).name (l.getD k cK).name
        ·have e1:jW l k=false:=by unfold jW;rw[hn,vK,ek];exact ml
         rw[DA hk e1]
         refine Cw.regionS [b] [0,1,2,3,4,5,6,8,9,10,11,12,7,13,14,15] [] (by kernel_rfl) (by kernel_rfl) (by kernel_rfl) ?_
         simp only[ar, ↓ap, ↓ag, ↓an, ↓am,ah]
         refine kq (And.intro @iA (And.intro @d1 (And.intro @i2 (And.intro @i3 (And.intro @r2 (And.intro @m0 (And.intro @l3 (And.intro @yw (@ml))))))))) ?_
         refine⟨_,(ke @iA),trivial, ?_⟩
         rfl
        ·have e1:jW l k=true:=by unfold jW;rw[hn,vK,ek];exact ml
         refine Cw.regionS [b] [0,1,2,3,4,5,6,8,9,10,11,12,7,13,14,15] [] (by kernel_rfl) (by kernel_rfl) (by kernel_rfl) ?_
         simp only[ar, ↓ap, ↓ag, ↓an, ↓am,ah]
         refine kq (And.intro @iA (And.intro @d1 (And.intro @i2 (And.intro @i3 (And.intro @r2 (And.intro @m0 (And.intro @l3 (And.intro @yw (@ml))))))))) ?_
         exact Again.mk (k+1) (by omega) ⟨by omega,fun i hi=>by
          rcases Nat.lt_succ_iff_lt_or_eq.1 hi with h|rfl
          ·exact h2 i h
          ·exact e1⟩ rfl rfl
      ·have e0:jW l k=false:=by
        have q2:=of_decide_eq_true ex
        unfold jW
        rw[hn,show((l.getD k cK).kind==1)=false from beq_eq_false_iff_ne.2 (by omega),show((l.getD k cK).kind==2)=false from beq_eq_false_iff_ne.2 (by omega)];rfl
       rw[DA hk e0]
       refine ko (And.intro @iA (And.intro @r2 (And.intro @i2 (And.intro @m0 (And.intro @m1 (And.intro @fR (@ex))))))) ?_
       refine⟨_,(ke @iA),trivial, ?_⟩
       rfl
     ·have e0:jW l k=false:=by
       have q2:=of_decide_eq_true fR
       unfold jW
       rw[hn,show((l.getD k cK).kind==1)=false from beq_eq_false_iff_ne.2 (by omega),show((l.getD k cK).kind==2)=false from beq_eq_false_iff_ne.2 (by omega)];rfl
      rw[DA hk e0]
      refine ko (And.intro @iA (And.intro @r2 (And.intro @i2 (And.intro @m0 (And.intro @m1 (@fR)))))) ?_
      refine⟨_,(ke @iA),trivial, ?_⟩
      rfl
   ·obtain rfl:k=l.length:=by omega
    rw[KC h2,show decide (l.length≤32)=true from decide_eq_true (by omega)]
    first|with_reducible refine ks [] (And.intro @iA @ln) ?_|refine kp (And.intro @iA @ln) ?_
    refine⟨_,(ke @iA),trivial, ?_⟩
    rfl
end Go.Proofs
end
section
open Go Go.Proofs Go.Sx Go.StP
namespace Go.Proofs
set_option maxRecDepth 10000
set_option maxHeartbeats 4000000
set_option linter.unusedSimpArgs false
theorem C6 (x:IdL): (jB x).length=32:=by simp[jB,x.h]
theorem Vd (x:IdL): (jB x).all Value.oneCell'=true:=oy _
abbrev IdS (w:World) (v:Value) (l:List IdL):Prop:=SlV 32 jB id0 w v l
theorem tB {w:World} {v:Value} {l:List IdL} {b off:Nat} {arr:Array Value} {E:TypeId} {fz:Nat×Nat} (h:RowS 32 jB id0 w v l b off arr E fz) {k:Nat} (hk:k<l.length):
  aF (some (true,32)) (some (.cells arr E fz)) (off+k*32)=some (.agg (a8 (l.getD k id0).l)):=RowS.load h C6 (by omega) hk
theorem tL (a b:IdL):bA Tryz.prog .eql 84 (.agg (a8 a.l)) (.agg (a8 b.l))=some (.bool (a.l==b.l)):=
 Om Tryz.underlying84 Tryz.underlying5 Tryz.ag5 (by kernel_rfl) a.l b.l ⟨a.h,b.h⟩
theorem zu (a b:IdL):bA Tryz.prog .neq 84 (.agg (a8 a.l)) (.agg (a8 b.l))=some (.bool (!(a.l==b.l))):=
 MU Tryz.underlying84 Tryz.underlying5 Tryz.ag5 (by kernel_rfl) a.l b.l ⟨a.h,b.h⟩
instance:DecidableEq IdL:=fun a b=>if h:a.l=b.l then .isTrue (by cases a;cases b;simp only at h;subst h;rfl) else .isFalse (fun e=>h (by rw[e]))
theorem IdL.ext' {a b:IdL} (h:a.l=b.l):a=b:=by cases a;cases b;simp only at h;subst h;rfl
theorem Eu (x:IdL) (E:TypeId) (fz:Nat×Nat):aF (some (true,32)) (some (.cells (a8 x.l) E fz)) 0=some (.agg (a8 x.l)):=wq _ E fz 32 x.h
set_option linter.defProp false
end Go.Proofs
end
section
open Go Go.Proofs Go.Sx Go.StP
namespace Go.Proofs
set_option maxRecDepth 100000
set_option maxHeartbeats 400000
set_option linter.unusedSimpArgs false
structure RwL where
 id:IdL
 place:Int
 spot:Int
set_option linter.defProp false
end Go.Proofs
end
section
open Go Go.Proofs Go.Sx Go.StP
namespace Go.Proofs
set_option maxRecDepth 10000
set_option maxHeartbeats 4000000
set_option linter.unusedSimpArgs false
set_option linter.defProp false
end Go.Proofs
end
section
open Go Go.Proofs Go.Sx Go.StP
namespace Go.Proofs
set_option maxRecDepth 10000
set_option maxHeartbeats 4000000
set_option linter.unusedSimpArgs false
abbrev I2 (l:List RwL):Prop:=StP.Sorted (fun r:RwL=>r.id.l) l
abbrev Oa (l l':List RwL):Prop:=StP.St (fun r:RwL=>r.id.l) l l'
set_option linter.defProp false
end Go.Proofs
end
section
open Go Go.Proofs Go.Sx Go.StP
namespace Go.Proofs
set_option maxRecDepth 10000
set_option maxHeartbeats 4000000
set_option linter.unusedSimpArgs false
set_option linter.defProp false
end Go.Proofs
end
section
open Go Go.Proofs Go.Sx Go.StP
namespace Go.Proofs
set_option maxRecDepth 10000
set_option maxHeartbeats 4000000
set_option linter.unusedSimpArgs false
set_option linter.defProp false
end Go.Proofs
end
section
open Go Go.Proofs Go.Sx Go.StP
namespace Go.Proofs
set_option maxRecDepth 10000
set_option maxHeartbeats 4000000
set_option linter.unusedSimpArgs false
end Go.Proofs
end
section
open Go Go.Proofs Go.Sx Go.StP
namespace Go.Proofs
set_option maxRecDepth 10000
set_option maxHeartbeats 4000000
set_option linter.unusedSimpArgs false
def rws_SortOf (l Z:List RwL):Prop:=Z.length=l.length∧I2 Z∧Oa l Z
theorem rws_SortOf.eq {l Z Z':List RwL} (h:rws_SortOf l Z) (h':rws_SortOf l Z'):Z=Z':=StP.St.eq h.2.1 h'.2.1 (h.2.2.symm.trans h'.2.2)
end Go.Proofs
end
section
open Go Go.Proofs Go.Sx Go.StP
namespace Go.Proofs
set_option maxRecDepth 10000
set_option maxHeartbeats 1000000
set_option linter.unusedSimpArgs false
set_option linter.defProp false
end Go.Proofs
end
section
open Go Go.Proofs Go.Sx Go.StP
namespace Go.Proofs
set_option maxRecDepth 10000
set_option maxHeartbeats 1000000
set_option linter.unusedSimpArgs false
set_option linter.defProp false
end Go.Proofs
end
section
open Go Go.Proofs Go.Sx Go.StP
namespace Go.Proofs
set_option maxRecDepth 10000
set_option maxHeartbeats 4000000
set_option linter.unusedSimpArgs false
structure ComL where
 tree:IdL
 par:List IdL
 text:List UInt8
def bC (t:IdL) (p:Value) (x:List UInt8):List Value:=t.l.map v8++ ([p]++ [vs x])
theorem wD (t:IdL) (p:Value) (x:List UInt8): (bC t p x).length=34:=by simp[bC,t.h]
theorem OQ (t:IdL) (p:Value) (x:List UInt8) (hp:Value.oneCell' p=true): (bC t p x).all Value.oneCell'=true:=by
 unfold bC
 simp only[List.all_append,List.all_cons,List.all_nil,oy,hp,Bool.and_true,Bool.true_and]
 rfl
theorem Co (t:IdL) (p:Value) (x:List UInt8):Value.cells (.agg (bC t p x).toArray)=(bC t p x).toArray:=bL _
theorem F4 (t:IdL) (p:Value) (x:List UInt8) (E:TypeId) (fz:Nat×Nat):aF (some (true,32)) (some (.cells (bC t p x).toArray E fz)) 0=some (.agg (a8 t.l)):=by
 unfold bC;exact CU [] _ _ E fz rfl (by simp[t.h])
theorem F6 (t:IdL) (p:Value) (x:List UInt8) (n:Nat) (E:TypeId) (fz:Nat×Nat):aF (some (false,n)) (some (.cells (bC t p x).toArray E fz)) 32=some p:=by
 unfold bC;exact jO _ _ p n E fz (by simp[t.h])
theorem F1 (t:IdL) (p:Value) (x:List UInt8) (n:Nat) (E:TypeId) (fz:Nat×Nat):aF (some (false,n)) (some (.cells (bC t p x).toArray E fz)) 33=some (vs x):=by
 have e:bC t p x=(t.l.map v8++ [p])++ ([vs x]++ []):=by unfold bC;simp only[List.append_assoc,List.append_nil]
 rw[e];exact jO _ _ (vs x) n E fz (by simp[t.h])
theorem Ej (t:IdL) (p:Value) (x:List UInt8) (E:TypeId) (fz:Nat×Nat):aF (some (true,34)) (some (.cells (bC t p x).toArray E fz)) 0=some (.agg (bC t p x).toArray):=p6 _ E fz 34 (by rw[List.size_toArray,wD])
theorem F0 (old:Array Value) (t:IdL) (p:Value) (x:List UInt8) (a:Bool) (E:TypeId) (h:old.size=34) (hp:Value.oneCell' p=true):ac (some (a,34)) (some (.cells old E (0,0))) 0 (.agg (bC t p x).toArray)=some (.cells (bC t p x).toArray E (0,0)):=ro _ a old E (wD t p x) (OQ t p x hp) h
def oM (l:List IdL) (i:Nat):Bool:= !((l.take i).any fun y=>(l.getD i id0).l==y.l)
def lP (c:ComL):Bool:=(decide (c.par.length≤4)&&decide (c.text.length≤64))&& (List.range c.par.length).all (oM c.par)
theorem NW {c:ComL} {k:Nat} (hk:k<c.par.length) (h:oM c.par k=false):lP c=false:=by
 unfold lP
 have: (List.range c.par.length).all (oM c.par)=false:=by
  rw[List.all_eq_false]
  exact⟨k,List.mem_range.2 hk,by simp[h]⟩
 rw[this,Bool.and_false]
theorem M6 {c:ComL} (h: ∀i,i<c.par.length→oM c.par i=true):lP c=(decide (c.par.length≤4)&&decide (c.text.length≤64)):=by
 unfold lP
 have: (List.range c.par.length).all (oM c.par)=true:=List.all_eq_true.2 fun i hi=>h i (List.mem_range.1 hi)
 rw[this,Bool.and_true]
abbrev ComS (w:World) (v:Value) (c:ComL):Prop:= ∃p,v= .agg (bC c.tree p c.text).toArray∧IdS w p c.par
theorem SlV.one {α:Type} {m:Nat} {enc:α→List Value} {z:α} {w:World} {v:Value} {l:List α} (h:SlV m enc z w v l):Value.oneCell' v=true∧v.cells= #[v]:=by
 obtain⟨b,off,c,arr,E,fz,-,-,⟨rfl,-,-⟩ | ⟨rfl,-,-⟩⟩:=h<;>exact⟨rfl,rfl⟩
set_option linter.defProp false
end Go.Proofs
end
section
open Go Go.Proofs Go.Sx Go.StP
namespace Go.Proofs
set_option maxRecDepth 10000
set_option maxHeartbeats 4000000
set_option linter.unusedSimpArgs false
set_option linter.defProp false
def fa:=And.intro (And.intro (And.intro (@tL) (@zu)) (And.intro (@Eu) (And.intro (@ay) (@ax)))) (And.intro (And.intro (@F4) (@F6)) (And.intro (@F1) (And.intro (@Ej) (@Co))))
theorem NY {l:List IdL} {k:Nat} {x:IdL} (hk:k<l.length) (h: ((l.take k).any fun y=>x.l==y.l)=false) (h2: (x.l==(l.getD k id0).l)=false): ((l.take (k+1)).any fun y=>x.l==y.l)=false:=by
 rw[take_snoc (z:=id0) hk,List.any_append,h,Bool.false_or,List.any_cons,h2];rfl
theorem Q5 {l:List IdL} {k i:Nat} {x:IdL} (hk:k<l.length) (hi:k<i) (h2: (x.l==(l.getD k id0).l)=true): ((l.take i).any fun y=>x.l==y.l)=true:=by
 rw[List.any_eq_true]
 refine⟨l.getD k id0, ?_,h2⟩
 rw[←Li (l:=l) (z:=id0) hi]
 exact mq (by rw[List.length_take];omega)
theorem YB (v:Value) (c:ComL) (w:World) (hv:ComS w v c) (hl:c.par.length<1000000) (ht:c.text.length<1099511627776):
  Rets Tryz.prog 150 #[v] w (fun v' D=>v'= .bool (lP c)∧D= []):=by
 obtain⟨p,rfl,hp⟩:=hv
 obtain⟨b,off,arr,E,fz,hr⟩:=hp.row
 have ln:=hp.len
 refine Rets.enterV Tryz.func150 rfl (rs:= [.tmp 2]) Tryz.results150 Tryz.ntmps150 ?_
 refine kf ?_
 first|with_reducible refine ks [] @fa ?_|refine kp @fa ?_
 refine Ow.box rfl rfl fun bx kA ri=> ?_
 simp only[eU,eT,ed,bL,List.nil_append,List.cons_append]
 refine Ow.go rfl ?_
 simp(disch:=(first|assumption|omega| (simp only[fM,fL,UInt64.reduceToNat];try omega))) only[↓Sx.S0,Sx.S1,Tryz.fx,fa,Nat.reduceAdd,Nat.reducePow,Int.reducePow,Nat.reduceBEq, ↓reduceIte,UInt8.reduceToNat,UInt16.reduceToNat,UInt32.reduceToNat,UInt64.reduceToNat,Int.reduceToNat]
 by_cases h4:4<c.par.length
 ·have d1:decide (4< ((c.par.length:Nat):Int))=true:=decide_eq_true (by omega)
  first|with_reducible refine ks [] (And.intro @fa (And.intro @ln (@d1))) ?_|refine kp (And.intro @fa (And.intro @ln (@d1))) ?_
  have:lP c=false:=by unfold lP;rw[show decide (c.par.length≤4)=false from decide_eq_false (by omega)];rfl
  rw[this]
  refine⟨_,(ke @fa),⟨ri,trivial⟩, ?_⟩
  rfl
 have d1:decide (4< ((c.par.length:Nat):Int))=false:=decide_eq_false (by omega)
 by_cases DM:64<c.text.length
 ·have d2:decide (64< ((c.text.length:Nat):Int))=true:=decide_eq_true (by omega)
  first|with_reducible refine ks [] (And.intro @fa (And.intro @ln (And.intro @d1 (@d2)))) ?_|refine kp (And.intro @fa (And.intro @ln (And.intro @d1 (@d2)))) ?_
  have:lP c=false:=by unfold lP;rw[show decide (c.text.length≤64)=false from decide_eq_false (by omega),Bool.and_false];rfl
  rw[this]
  refine⟨_,(ke @fa),⟨ri,trivial⟩, ?_⟩
  rfl
 have d2:decide (64< ((c.text.length:Nat):Int))=false:=decide_eq_false (by omega)
 first|with_reducible refine ks [] (And.intro @fa (And.intro @ln (And.intro @d1 (@d2)))) ?_|refine kp (And.intro @fa (And.intro @ln (And.intro @d1 (@d2)))) ?_
 refine Cw.loopG (G:=Nat) [15,16,17,18,19,4,22,23,24,27,28,29,30,31,32,33,34,35,36,37,2,25,26,20,21,3] (fun g=> [(3,vi g)]) (fun g=> [(bx, .cells (bC c.tree p c.text).toArray 172 (0,0))]) (fun g=>g≤c.par.length∧ ∀i,i<g→oM c.par i=true) (fun g=>c.par.length - g) 0 rfl rfl ?_ ?_
 ·exact⟨Nat.zero_le _,fun i hi=>absurd hi (Nat.not_lt_zero i)⟩
 ·intro i ji hi
  refine kv ?_
  obtain⟨h1,h2⟩:=hi
  by_cases hi:i<c.par.length
  ·have h0:0<c.par.length:=by omega
   have m9:=hr.lt h0
   have oX:bx≠b:=by omega
   have r2:=hr.has h0
   have i2:=hr.idx true i hi
   have l2:=tB hr hi
   first|with_reducible refine ks [] (And.intro @fa @ln) ?_|refine kp (And.intro @fa @ln) ?_
   refine Cw.loopG (G:=Nat) [22,23,24,27,28,29,30,31,32,33,34,35,36,37,2,25,26,4] (fun g=> [(4,vi g)]) (fun g=> [(bx, .cells (bC c.tree p c.text).toArray 172 (0,0))]) (fun g=>g≤i∧((c.par.take g).any fun y=>(c.par.getD i id0).l==y.l)=false) (fun g=>i - g) 0 rfl rfl ?_ ?_
   ·exact⟨Nat.zero_le _,rfl⟩
   ·intro k jk hk
    refine kv ?_
    obtain⟨g1,g2⟩:=hk
    by_cases hk:k<i
    ·have i3:=hr.idx true k (show k<c.par.length by omega)
     have l3:=tB hr (show k<c.par.length by omega)
     first|with_reducible refine ks [] @fa ?_|refine kp @fa ?_
     refine Cw.regionS [bx,b] [0,2,5,7,1,3,4,6,8,9,10] [] (by kernel_rfl) (by kernel_rfl) (by kernel_rfl) ?_
     simp only[ar, ↓ap, ↓ag, ↓an, ↓am,ah]
     refine kq (And.intro @fa (And.intro @i2 (And.intro @r2 (And.intro @l2 (And.intro @i3 (@l3)))))) ?_
     cases hq: ((c.par.getD i id0).l==(c.par.getD k id0).l)
     ·first|with_reducible refine ks [] (And.intro @fa @hq) ?_|refine kp (And.intro @fa @hq) ?_
      exact Again.mk (k+1) (by omega) ⟨by omega,NY (by omega) g2 hq⟩ rfl rfl
     ·have e1:oM c.par i=false:=by unfold oM;rw[Q5 (by omega) hk hq];rfl
      rw[NW hi e1]
      first|with_reducible refine ks [] (And.intro @fa @hq) ?_|refine kp (And.intro @fa @hq) ?_
      refine⟨_,(ke @fa),⟨ri,trivial⟩, ?_⟩
      rfl
    ·obtain rfl:k=i:=by omega
     have e1:oM c.par k=true:=by unfold oM;rw[g2];rfl
     first|with_reducible refine ks [] @fa ?_|refine kp @fa ?_
     exact Again.mk (k+1) (by omega) ⟨by omega,fun i hi=>by
      rcases Nat.lt_succ_iff_lt_or_eq.1 hi with h|rfl
      ·exact h2 i h
      ·exact e1⟩ rfl rfl
  ·obtain rfl:i=c.par.length:=by omega
   rw[M6 h2,show decide (c.par.length≤4)=true from decide_eq_true (by omega),show decide (c.text.length≤64)=true from decide_eq_true (by omega)]
   first|with_reducible refine ks [] (And.intro @fa @ln) ?_|refine kp (And.intro @fa @ln) ?_
   refine⟨_,(ke @fa),⟨ri,trivial⟩, ?_⟩
   rfl
end Go.Proofs
end
section
open Go Go.Proofs Go.Sx
namespace Go.Proofs
set_option maxRecDepth 10000
set_option maxHeartbeats 4000000
set_option linter.unusedSimpArgs false
theorem Bl {n:Nat} (h:n<1099511627776):iv (n:Int)=n:=by unfold iv maxN;omega
theorem UI: ∀ (k:Nat) (n:Int) (w:World),iv n≤k→
  Rets Tryz.prog 184 #[vi n] w (fun v D=>v=vs (numL (iv n))∧D= []):=by
 intro k
 induction k using Nat.strongRecOn with
 |ind k ih=>
  intro n w hk
  refine Rets.enterV Tryz.func184 rfl (rs:= [.tmp 2]) Tryz.results184 Tryz.ntmps184 ?_
  refine kf ?_
  by_cases h0:n<0
  ·have d1:decide (n<0)=true:=decide_eq_true h0
   have e:iv n=0:=by unfold iv maxN;omega
   rw[e]
   first|with_reducible refine ks [] @d1 ?_|refine kp @d1 ?_
   refine Ow.buildSlice (e:=5) #[v8 0] rfl rfl (by kernel_rfl) fun b1 bE aJ=> ?_
   rw[show(#[v8 0]:Array Value)=a8 [0] from rfl]
   refine ko @Nat.add_zero ?_
   first|with_reducible refine ks [] @Nat.add_zero ?_|refine kp @Nat.add_zero ?_
   refine⟨_,(ke @Nat.add_zero),⟨aJ,trivial⟩, ?_⟩
   rw[Be (by omega)];rfl
  ·have d1:decide (n<0)=false:=decide_eq_false h0
   generalize hm:iv n=m at hk ⊢
   have lV:m≤1099511627775:=by unfold iv maxN at hm;omega
   by_cases h1:n>1099511627775
   ·have d2:decide (1099511627775<n)=true:=decide_eq_true h1
    have e: (1099511627775:Int)=(m:Int):=by unfold iv maxN at hm;omega
    first|with_reducible refine ks [5] (And.intro @d1 @d2) ?_|refine kp (And.intro @d1 @d2) ?_
    rw[e]
    by_cases h2:m<128
    ·have d3:decide ((m:Int)<128)=true:=decide_eq_true (by omega)
     rw[Be h2]
     first|with_reducible refine ks [] (And.intro @d1 @d3) ?_|refine kp (And.intro @d1 @d3) ?_
     generalize hc:UInt8.ofInt (m:Int)=c
     have gZ:c=UInt8.ofNat m:=by rw[←hc,CL]
     refine Ow.buildSlice (e:=5) #[v8 c] rfl rfl (by kernel_rfl) fun b1 bE aJ=> ?_
     rw[show(#[v8 c]:Array Value)=a8 [c] from rfl]
     have e4:List.take 1 (List.drop 0 [c])= [c]:=rfl
     refine ko @e4 ?_
     first|with_reducible refine ks [] @Nat.add_zero ?_|refine kp @Nat.add_zero ?_
     refine⟨_,(ke @Nat.add_zero),⟨aJ,trivial⟩, ?_⟩
     rw[gZ];rfl
    ·have d3:decide ((m:Int)<128)=false:=decide_eq_false (by omega)
     have ih2:=fun w=>ih (m / 128) (by omega) ((m / 128:Nat):Int) w (by rw[Bl (by omega)];omega)
     rw[Bl (by omega)] at ih2
     have ik:=Dz 6 (m / 128) (by omega) (by omega)
     rw[CI h2]
     first|with_reducible refine ks [] (And.intro @d1 @d3) ?_|refine kp (And.intro @d1 @d3) ?_
     refine Cw.regionK 11 (by kernel_rfl) (by kernel_rfl) ?_
     refine OwK.run [0,1,2,3,6,7] [true,true,true,true,false,false,true,true,false,false,false] 5 rfl (by kernel_rfl) (by kernel_rfl) fun k hk=> ?_
     simp only[ar, ↓ap, ↓ag, ↓an, ↓am,ah]
     simp(disch:=(first|assumption|omega| (simp only[fM,fL,UInt64.reduceToNat];try omega))) only[↓Sx.S0,Sx.S1,Tryz.fx,Nat.reduceAdd,Nat.reducePow,Int.reducePow,Nat.reduceBEq, ↓reduceIte,UInt8.reduceToNat,UInt16.reduceToNat,UInt32.reduceToNat,UInt64.reduceToNat,Int.reduceToNat]
     (with_reducible refine hk _ _ _ ?_);clear hk k
     generalize hc:UInt8.ofInt ((m:Int)%128+128)=c
     have gZ:c=UInt8.ofNat (m%128+128):=by rw[←hc,show((m:Int)%128+128)=((m%128+128:Nat):Int) from rfl,CL]
     rw[show(m:Int) / 128=((m / 128:Nat):Int) from rfl]
     refine OwK.two 4 8 _ _ (by kernel_rfl) rfl rfl ?_ ?_
     ·refine Ow.buildSlice (e:=5) #[v8 c] rfl rfl (by kernel_rfl) fun b1 bE aJ=> ?_
      rw[show(#[v8 c]:Array Value)=a8 [c] from rfl]
      have e4:List.take 1 (List.drop 0 [c])= [c]:=rfl
      refine ko @e4 ?_
      try with_reducible refine Ow.nil ?_
      refine OwK.two 5 8 _ _ (by kernel_rfl) rfl rfl ?_ ?_
      ·refine ko @e4 ?_
       refine OwK.rest [8,9,10] [4,8] rfl (by kernel_rfl) (by kernel_rfl) ?_
       simp only[ar, ↓ap, ↓ag, ↓an, ↓am,ah]
       refine Ow.callFV rfl Tryz.call184 (fun w' aB=>ih2 w') ?_
       refine ko @Nat.add_zero ?_
       first|with_reducible refine ks [] @Nat.add_zero ?_|refine kp @Nat.add_zero ?_
       refine⟨_,(ke @Nat.add_zero),⟨aJ,trivial⟩, ?_⟩
       rw[gZ];rfl
      ·refine Ow.callFV rfl Tryz.call184 (fun w' aB=>ih2 w') ?_
       refine ko @Nat.add_zero ?_
       refine OwK.rest [5,9,10] [4,8] rfl (by kernel_rfl) (by kernel_rfl) ?_
       simp only[ar, ↓ap, ↓ag, ↓an, ↓am,ah]
       refine ko @e4 ?_
       first|with_reducible refine ks [] @Nat.add_zero ?_|refine kp @Nat.add_zero ?_
       refine⟨_,(ke @Nat.add_zero),⟨aJ,trivial⟩, ?_⟩
       rw[gZ];rfl
     ·refine Ow.callFV rfl Tryz.call184 (fun w' aB=>ih2 w') ?_
      refine ko @Nat.add_zero ?_
      refine OwK.rest [4,5,9,10] [4,8] rfl (by kernel_rfl) (by kernel_rfl) ?_
      simp only[ar, ↓ap, ↓ag, ↓an, ↓am,ah]
      refine Ow.buildSlice (e:=5) #[v8 c] rfl rfl (by kernel_rfl) fun b1 bE aJ=> ?_
      rw[show(#[v8 c]:Array Value)=a8 [c] from rfl]
      have e4:List.take 1 (List.drop 0 [c])= [c]:=rfl
      refine ko @e4 ?_
      first|with_reducible refine ks [] @Nat.add_zero ?_|refine kp @Nat.add_zero ?_
      refine⟨_,(ke @Nat.add_zero),⟨aJ,trivial⟩, ?_⟩
      rw[gZ];rfl
   ·have d2:decide (1099511627775<n)=false:=decide_eq_false h1
    have e:n=(m:Int):=by unfold iv maxN at hm;omega
    subst e
    first|with_reducible refine ks [5] (And.intro @d1 @d2) ?_|refine kp (And.intro @d1 @d2) ?_
    by_cases h2:m<128
    ·have d3:decide ((m:Int)<128)=true:=decide_eq_true (by omega)
     rw[Be h2]
     first|with_reducible refine ks [] (And.intro @d1 @d3) ?_|refine kp (And.intro @d1 @d3) ?_
     generalize hc:UInt8.ofInt (m:Int)=c
     have gZ:c=UInt8.ofNat m:=by rw[←hc,CL]
     refine Ow.buildSlice (e:=5) #[v8 c] rfl rfl (by kernel_rfl) fun b1 bE aJ=> ?_
     rw[show(#[v8 c]:Array Value)=a8 [c] from rfl]
     have e4:List.take 1 (List.drop 0 [c])= [c]:=rfl
     refine ko @e4 ?_
     first|with_reducible refine ks [] @Nat.add_zero ?_|refine kp @Nat.add_zero ?_
     refine⟨_,(ke @Nat.add_zero),⟨aJ,trivial⟩, ?_⟩
     rw[gZ];rfl
    ·have d3:decide ((m:Int)<128)=false:=decide_eq_false (by omega)
     have ih2:=fun w=>ih (m / 128) (by omega) ((m / 128:Nat):Int) w (by rw[Bl (by omega)];omega)
     rw[Bl (by omega)] at ih2
     have ik:=Dz 6 (m / 128) (by omega) (by omega)
     rw[CI h2]
     first|with_reducible refine ks [] (And.intro @d1 @d3) ?_|refine kp (And.intro @d1 @d3) ?_
     refine Cw.regionK 11 (by kernel_rfl) (by kernel_rfl) ?_
     refine OwK.run [0,1,2,3,6,7] [true,true,true,true,false,false,true,true,false,false,false] 5 rfl (by kernel_rfl) (by kernel_rfl) fun k hk=> ?_
     simp only[ar, ↓ap, ↓ag, ↓an, ↓am,ah]
     simp(disch:=(first|assumption|omega| (simp only[fM,fL,UInt64.reduceToNat];try omega))) only[↓Sx.S0,Sx.S1,Tryz.fx,Nat.reduceAdd,Nat.reducePow,Int.reducePow,Nat.reduceBEq, ↓reduceIte,UInt8.reduceToNat,UInt16.reduceToNat,UInt32.reduceToNat,UInt64.reduceToNat,Int.reduceToNat]
     (with_reducible refine hk _ _ _ ?_);clear hk k
     generalize hc:UInt8.ofInt ((m:Int)%128+128)=c
     have gZ:c=UInt8.ofNat (m%128+128):=by rw[←hc,show((m:Int)%128+128)=((m%128+128:Nat):Int) from rfl,CL]
     rw[show(m:Int) / 128=((m / 128:Nat):Int) from rfl]
     refine OwK.two 4 8 _ _ (by kernel_rfl) rfl rfl ?_ ?_
     ·refine Ow.buildSlice (e:=5) #[v8 c] rfl rfl (by kernel_rfl) fun b1 bE aJ=> ?_
      rw[show(#[v8 c]:Array Value)=a8 [c] from rfl]
      have e4:List.take 1 (List.drop 0 [c])= [c]:=rfl
      refine ko @e4 ?_
      try with_reducible refine Ow.nil ?_
      refine OwK.two 5 8 _ _ (by kernel_rfl) rfl rfl ?_ ?_
      ·refine ko @e4 ?_
       refine OwK.rest [8,9,10] [4,8] rfl (by kernel_rfl) (by kernel_rfl) ?_
       simp only[ar, ↓ap, ↓ag, ↓an, ↓am,ah]
       refine Ow.callFV rfl Tryz.call184 (fun w' aB=>ih2 w') ?_
       refine ko @Nat.add_zero ?_
       first|with_reducible refine ks [] @Nat.add_zero ?_|refine kp @Nat.add_zero ?_
       refine⟨_,(ke @Nat.add_zero),⟨aJ,trivial⟩, ?_⟩
       rw[gZ];rfl
      ·refine Ow.callFV rfl Tryz.call184 (fun w' aB=>ih2 w') ?_
       refine ko @Nat.add_zero ?_
       refine OwK.rest [5,9,10] [4,8] rfl (by kernel_rfl) (by kernel_rfl) ?_
       simp only[ar, ↓ap, ↓ag, ↓an, ↓am,ah]
       refine ko @e4 ?_
       first|with_reducible refine ks [] @Nat.add_zero ?_|refine kp @Nat.add_zero ?_
       refine⟨_,(ke @Nat.add_zero),⟨aJ,trivial⟩, ?_⟩
       rw[gZ];rfl
     ·refine Ow.callFV rfl Tryz.call184 (fun w' aB=>ih2 w') ?_
      refine ko @Nat.add_zero ?_
      refine OwK.rest [4,5,9,10] [4,8] rfl (by kernel_rfl) (by kernel_rfl) ?_
      simp only[ar, ↓ap, ↓ag, ↓an, ↓am,ah]
      refine Ow.buildSlice (e:=5) #[v8 c] rfl rfl (by kernel_rfl) fun b1 bE aJ=> ?_
      rw[show(#[v8 c]:Array Value)=a8 [c] from rfl]
      have e4:List.take 1 (List.drop 0 [c])= [c]:=rfl
      refine ko @e4 ?_
      first|with_reducible refine ks [] @Nat.add_zero ?_|refine kp @Nat.add_zero ?_
      refine⟨_,(ke @Nat.add_zero),⟨aJ,trivial⟩, ?_⟩
      rw[gZ];rfl
theorem Bd (s:List UInt8) (w:World) (hs:s.length<1099511627776):
  Rets Tryz.prog 154 #[vs s] w (fun v D=>v=vs (n5 s)∧D= []):=by
 have cH:=ve (s.length:Int)
 refine Rets.enterV Tryz.func154 rfl (rs:= [.tmp 2]) Tryz.results154 Tryz.ntmps154 ?_
 refine kf ?_
 first|with_reducible refine ks [] @Nat.add_zero ?_|refine kp @Nat.add_zero ?_
 refine Ow.callFV rfl Tryz.call184 (fun w' aB=>UI _ _ w' (Nat.le_refl _)) ?_
 refine ko @Nat.add_zero ?_
 first|with_reducible refine ks [] @Nat.add_zero ?_|refine kp @Nat.add_zero ?_
 refine⟨_,(ke @Nat.add_zero),trivial, ?_⟩
 rfl
theorem Es (x:IdL) (w:World):
  Rets Tryz.prog 185 #[.agg (a8 x.l)] w (fun v D=>v=vs x.l∧D= []):=by
 have jL:=x.h
 refine Rets.enterV Tryz.func185 rfl (rs:= [.tmp 2]) Tryz.results185 Tryz.ntmps185 ?_
 refine kf ?_
 first|with_reducible refine ks [] @Nat.add_zero ?_|refine kp @Nat.add_zero ?_
 refine Ow.box rfl rfl fun bx kA ri=> ?_
 simp only[eU,eT,ed,bL,List.nil_append,List.cons_append]
 refine Ow.go rfl ?_
 simp(disch:=(first|assumption|omega| (simp only[fM,fL,UInt64.reduceToNat];try omega))) only[↓Sx.S0,Sx.S1,Tryz.fx,Nat.reduceAdd,Nat.reducePow,Int.reducePow,Nat.reduceBEq, ↓reduceIte,UInt8.reduceToNat,UInt16.reduceToNat,UInt32.reduceToNat,UInt64.reduceToNat,Int.reduceToNat]
 have e4:List.take 32 (List.drop 0 x.l)=x.l:=by rw[List.drop_zero,List.take_of_length_le (by omega)]
 first|with_reducible refine ks [] @e4 ?_|refine kp @e4 ?_
 refine⟨_,(ke @Nat.add_zero),⟨ri,trivial⟩, ?_⟩
 rfl
end Go.Proofs
end
section
open Go Go.Proofs Go.Sx Go.StP
namespace Go.Proofs
set_option maxRecDepth 10000
set_option maxHeartbeats 400000
set_option linter.unusedSimpArgs false
set_option linter.defProp false
def nB:=And.intro (And.intro (And.intro (@wQ) (@x6)) (And.intro (@wS) (@Ex))) (And.intro (And.intro (@EU) (@Cs)) (And.intro (@ay) (@ax)))
def entB (e:EntL):List UInt8:=(numL (iv e.kind)++n5 e.name)++e.id.l
def i9 (l:List EntL):List UInt8:=(l.map entB).flatten
theorem VR {l:List EntL} {k:Nat} (hk:k<l.length):i9 (l.take (k+1))=i9 (l.take k)++entB (l.getD k cK):=by
 unfold i9
 rw[List.take_succ_eq_append_getElem hk,List.map_append,List.flatten_append,List.getD_eq_getElem?_getD,List.getElem?_eq_getElem hk]
 simp
theorem HB {l:List EntL} {k:Nat} (hk:k<l.length):i9 (l.take (k+1))=i9 (l.take k)++numL (iv (l.getD k cK).kind)++n5 (l.getD k cK).name++ (l.getD k cK).id.l:=by
 rw[VR hk];simp only[entB,List.append_assoc]
theorem Bo {s:List UInt8} (h:s.length<1099511627776): (n5 s).length<1099511627783:=by
 have:=ve (s.length:Int)
 unfold n5;rw[List.length_append];omega
theorem xK {l:List EntL} (jn:pH l): ∀k,k≤l.length→(i9 (l.take k)).length≤k*1099511627830
 |0,_=>by simp[i9]
 |k+1,hk=>by
  have ih:=xK jn k (by omega)
  have h1:=Bo (jn k hk)
  have h2:=ve (l.getD k cK).kind
  have h3:=(l.getD k cK).id.h
  rw[VR hk]
  unfold entB
  simp only[List.length_append]
  omega
theorem YF (v:Value) (l:List EntL) (w:World) (hv:EntS w v l) (hl:l.length<1000000) (jn:pH l):
  Rets Tryz.prog 149 #[v] w (fun v' D=>v'=vs (i9 l)∧D= []):=by
 obtain⟨b,off,arr,E,fz,hr⟩:=hv.row
 have ln:=hv.len
 refine Rets.enterV Tryz.func149 rfl (rs:= [.tmp 2]) Tryz.results149 Tryz.ntmps149 ?_
 refine kf ?_
 first|with_reducible refine ks [] (And.intro @nB @ln) ?_|refine kp (And.intro @nB @ln) ?_
 refine Cw.loopG (G:=Nat) [5,6,7,8,11,12,13,14,15,16,17,18,19,20,21,22,23,24,25,26,27,28,29,30,31,32,3,9,10,4] (fun g=> [(3,vs (i9 (l.take g))),(4,vi g)]) (fun g=> []) (fun g=>g≤l.length) (fun g=>l.length - g) 0 rfl rfl ?_ ?_
 ·exact Nat.zero_le _
 ·intro k jk hk
  refine kv ?_
  have h1:k≤l.length:=hk
  clear hk
  by_cases hk:k<l.length
  ·have h0:0<l.length:=by omega
   have m9:=hr.lt h0
   have r2:=hr.has h0
   have i2:=hr.idx true k hk
   have m0: ∀n,aF (some (false,n)) (some (.cells arr E fz)) (off+k*34)=some (vs (l.getD k cK).name):=fun n=>Ev hr hk n
   have m1: ∀n,aF (some (false,n)) (some (.cells arr E fz)) (off+k*34+1)=some (vi (l.getD k cK).kind):=fun n=>xn hr hk n
   have m2:aF (some (true,32)) (some (.cells arr E fz)) (off+k*34+2)=some (.agg (a8 (l.getD k cK).id.l)):=ML hr hk
   have hs:=jn k hk
   have t1:=xK jn k h1
   have t2:=Bo hs
   have t3:=ve (l.getD k cK).kind
   have t4:=(l.getD k cK).id.h
   first|with_reducible refine ks [] (And.intro @nB @ln) ?_|refine kp (And.intro @nB @ln) ?_
   refine Cw.regionS [b] [0,1,2,3,4,8,9,10,11,15,16,17,18,5,12,19,6,7,13,14,20,21,22] [] (by kernel_rfl) (by kernel_rfl) (by kernel_rfl) ?_
   simp only[ar, ↓ap, ↓ag, ↓an, ↓am,ah]
   refine kq (And.intro @nB (And.intro @r2 (And.intro @i2 (And.intro @m0 (And.intro @m1 (@m2)))))) ?_
   refine Ow.callFV rfl Tryz.call184 (fun w' aB=>UI _ _ w' (Nat.le_refl _)) ?_
   refine kq (And.intro @nB (And.intro @r2 (And.intro @i2 (And.intro @m0 (And.intro @m1 (@m2)))))) ?_
   refine Ow.callFV rfl Tryz.call154 (fun w' aB=>Bd _ w' hs) ?_
   refine kq (And.intro @nB (And.intro @r2 (And.intro @i2 (And.intro @m0 (And.intro @m1 (@m2)))))) ?_
   refine Ow.callFV rfl Tryz.call185 (fun w' aB=>Es _ w') ?_
   refine kq (And.intro @nB (And.intro @r2 (And.intro @i2 (And.intro @m0 (And.intro @m1 (@m2)))))) ?_
   exact Again.mk (k+1) (by omega) (by omega) rfl (by rw[HB hk];rfl)
  ·obtain rfl:k=l.length:=by omega
   first|with_reducible refine ks [] (And.intro @nB @ln) ?_|refine kp (And.intro @nB @ln) ?_
   refine⟨_,(ke @nB),trivial, ?_⟩
   rw[List.take_length];rfl
def idsB (l:List IdL):List UInt8:=(l.map IdL.l).flatten
theorem Kl {l:List IdL} {k:Nat} (hk:k<l.length):idsB (l.take (k+1))=idsB (l.take k)++ (l.getD k id0).l:=by
 unfold idsB
 rw[List.take_succ_eq_append_getElem hk,List.map_append,List.flatten_append,List.getD_eq_getElem?_getD,List.getElem?_eq_getElem hk]
 simp
theorem xN: ∀ (l:List IdL),(idsB l).length=l.length*32
 | []=>rfl
 |x::r=>by
  have h:=xN r
  have:=x.h
  unfold idsB at h ⊢
  rw[List.map_cons,List.flatten_cons,List.length_append,h,List.length_cons]
  omega
def kb (c:ComL):List UInt8:=c.tree.l++numL (iv c.par.length)
def comB (c:ComL):List UInt8:=kb c++idsB c.par++n5 c.text
set_option linter.defProp false
def lJ:=And.intro (And.intro (And.intro (@tL) (@zu)) (And.intro (@Eu) (And.intro (@ay) (@ax)))) (And.intro (And.intro (@F4) (@F6)) (And.intro (@F1) (And.intro (@Ej) (@Co))))
theorem Yx (v:Value) (c:ComL) (w:World) (hv:ComS w v c) (hl:c.par.length<1000000) (ht:c.text.length<1099511627776):
  Rets Tryz.prog 151 #[v] w (fun v' D=>v'=vs (comB c)∧D= []):=by
 obtain⟨p,rfl,hp⟩:=hv
 obtain⟨b,off,arr,E,fz,hr⟩:=hp.row
 have ln:=hp.len
 have t2:=Bo ht
 have t3:=ve (c.par.length:Int)
 have t4:=c.tree.h
 have t5: (kb c).length≤38:=by unfold kb;rw[List.length_append];omega
 refine Rets.enterV Tryz.func151 rfl (rs:= [.tmp 2]) Tryz.results151 Tryz.ntmps151 ?_
 refine kf ?_
 first|with_reducible refine ks [] @lJ ?_|refine kp @lJ ?_
 refine Ow.box rfl rfl fun bx kA ri=> ?_
 simp only[eU,eT,ed,bL,List.nil_append,List.cons_append]
 refine Ow.go rfl ?_
 simp(disch:=(first|assumption|omega| (simp only[fM,fL,UInt64.reduceToNat];try omega))) only[↓Sx.S0,Sx.S1,Tryz.fx,lJ,Nat.reduceAdd,Nat.reducePow,Int.reducePow,Nat.reduceBEq, ↓reduceIte,UInt8.reduceToNat,UInt16.reduceToNat,UInt32.reduceToNat,UInt64.reduceToNat,Int.reduceToNat]
 first|with_reducible refine ks [] (And.intro @lJ @ln) ?_|refine kp (And.intro @lJ @ln) ?_
 refine Cw.regionS [bx] [0,3,1,4,5,2,6,7,8] [] (by kernel_rfl) (by kernel_rfl) (by kernel_rfl) ?_
 simp only[ar, ↓ap, ↓ag, ↓an, ↓am,ah]
 refine kq (And.intro @lJ @ln) ?_
 refine Ow.callFV rfl Tryz.call185 (fun w' aB=>Es _ w') ?_
 refine kq (And.intro @lJ @ln) ?_
 refine Ow.callFV rfl Tryz.call184 (fun w' aB=>UI _ _ w' (Nat.le_refl _)) ?_
 refine kq (And.intro @lJ @ln) ?_
 rw[show c.tree.l++numL (iv c.par.length)=kb c++idsB (c.par.take 0) by simp[kb,idsB]]
 refine Cw.loopG (G:=Nat) [13,14,15,16,17,20,21,22,23,24,25,26,27,3,18,19,4] (fun g=> [(3,vs (kb c++idsB (c.par.take g))),(4,vi g)]) (fun g=> [(bx, .cells (bC c.tree p c.text).toArray 172 (0,0))]) (fun g=>g≤c.par.length) (fun g=>c.par.length - g) 0 rfl rfl ?_ ?_
 ·exact Nat.zero_le _
 ·intro k jk hk
  refine kv ?_
  have h1:k≤c.par.length:=hk
  clear hk
  have t6:=xN (c.par.take k)
  rw[List.length_take,Nat.min_eq_left h1] at t6
  by_cases hk:k<c.par.length
  ·have h0:0<c.par.length:=by omega
   have m9:=hr.lt h0
   have oX:bx≠b:=by omega
   have r2:=hr.has h0
   have i2:=hr.idx true k hk
   have l2:=tB hr hk
   have jL:=(c.par.getD k id0).h
   first|with_reducible refine ks [] (And.intro @lJ (And.intro @ln (And.intro @r2 (And.intro @i2 (@l2))))) ?_|refine kp (And.intro @lJ (And.intro @ln (And.intro @r2 (And.intro @i2 (@l2))))) ?_
   refine Ow.callFV rfl Tryz.call185 (fun w' aB=>Es _ w') ?_
   refine ko (And.intro @lJ (And.intro @ln (And.intro @r2 (And.intro @i2 (@l2))))) ?_
   exact Again.mk (k+1) (by omega) (by omega) rfl (by rw[Kl hk,←List.append_assoc];rfl)
  ·obtain rfl:k=c.par.length:=by omega
   rw[List.take_length]
   rw[List.take_length] at t6
   first|with_reducible refine ks [] (And.intro @lJ @ln) ?_|refine kp (And.intro @lJ @ln) ?_
   refine Ow.callFV rfl Tryz.call154 (fun w' aB=>Bd _ w' ht) ?_
   refine ko @lJ ?_
   refine⟨_,(ke @lJ),⟨ri,trivial⟩, ?_⟩
   rfl
end Go.Proofs
end
section
open Go Go.Proofs Go.Sx Go.StP
namespace Go.Proofs
set_option maxRecDepth 10000
set_option maxHeartbeats 400000
set_option linter.unusedSimpArgs false
instance:DecidableEq EntL:=fun a b=>if h:a.name=b.name∧a.kind=b.kind∧a.id.l=b.id.l then .isTrue (by cases a;cases b;simp only at h;obtain⟨rfl,rfl,h3⟩:=h;rw[IdL.ext' h3]) else .isFalse (fun e=>h (by rw[e];exact⟨rfl,rfl,rfl⟩))
theorem EntL.ext' {a b:EntL} (h: (a.name==b.name&&a.kind==b.kind&&a.id.l==b.id.l)=true):a=b:=by
 simp only[Bool.and_eq_true,beq_iff_eq] at h
 cases a;cases b;simp only at h;obtain⟨⟨rfl,rfl⟩,h3⟩:=h;rw[IdL.ext' h3]
set_option linter.defProp false
end Go.Proofs
end
section
open Go Go.Proofs Go.Sx Go.StP
namespace Go.Proofs
set_option maxRecDepth 10000
set_option maxHeartbeats 400000
set_option linter.unusedSimpArgs false
set_option linter.defProp false
end Go.Proofs
end
section
open Go Go.Proofs Go.Sx Go.StP
namespace Go.Proofs
set_option maxRecDepth 10000
set_option maxHeartbeats 400000
set_option linter.unusedSimpArgs false
def n9 (l:List UInt8):IdL:=if h:l.length=32 then⟨l,h⟩ else id0
theorem CG {l:List UInt8} (h:l.length=32): (n9 l).l=l:=by unfold n9;rw[dif_pos h]
theorem Ch (s:List UInt8) (a:Nat) (e:Int): (idR s a e).1.length=32:=by
 unfold idR
 simp only
 split
 ·assumption
 ·simp[z32]
theorem nJ {s:List UInt8} {a:Nat} {e:Int} (ha:a≤s.length):a≤ (idR s a e).2.1∧(idR s a e).2.1≤s.length:=Cb ha
theorem uS {s:List UInt8} {a:Nat} {e most:Int} (ha:a≤s.length):a≤ (bN s a e most).2.1∧(bN s a e most).2.1≤s.length:=by
 have hp:=jM (e:=e) (most:=most) ha
 have hq:=Cb (e:=(aE s a e most).2.2) (n:=(aE s a e most).1) hp.2
 unfold bN
 simp only
 split
 ·exact⟨Nat.le_refl _,ha⟩
 ·exact⟨by omega,hq.2⟩
theorem EJ (s:List UInt8) (a:Nat) (e most:Int): (bN s a e most).1.length≤s.length:=by
 have: ∀ (b:Nat) (e n:Int),(bK s b e n).1.length≤s.length:=by
  intro b e n
  unfold bK
  split
  ·simp
  ·split
   ·simp
   ·split
    ·simp
    ·simp only[List.length_take,List.length_drop];omega
 unfold bN
 simp only
 split
 ·simp
 ·exact this _ _ _
theorem pN {s:List UInt8} {a:Nat} {e n:Int} (he:e≠0): (bK s a e n).2=(a,e):=by unfold bK;rw[if_pos he]
theorem tA {s:List UInt8} {a:Nat} {e most:Int} (he:e≠0): (aE s a e most).2=(a,e):=by unfold aE;rw[if_pos he]
theorem Ce {s:List UInt8} {a:Nat} {e most:Int} (he:e≠0): (bN s a e most).2=(a,e):=by
 unfold bN
 simp only[tA he,pN he]
 rw[if_pos he]
theorem nN {s:List UInt8} {a:Nat} {e:Int} (he:e≠0): (idR s a e).2=(a,e):=by unfold idR;simp only[pN he]
theorem sm {s:List UInt8} {a:Nat} {e n:Int} (h:e≠5): (bK s a e n).2.2≠5:=by
 unfold bK
 split
 ·exact h
 ·split
  ·show(2:Int)≠5;decide
  ·split
   ·show(3:Int)≠5;decide
   ·show(0:Int)≠5;decide
theorem PF (most:Int): ∀ (l:List UInt8) (k n x:Nat),dP most l k n= .error x→x≠5:=by
 intro l
 induction l with
 |nil=>intro k n x h;unfold dP at h;cases h;decide
 |cons c r ih=>
  intro k n x h
  unfold dP at h
  split at h
  ·split at h
   ·cases h;decide
   ·exact ih _ _ _ h
  ·split at h
   ·cases h;decide
   ·split at h
    ·cases h
    ·cases h;decide
theorem yz (most:Int): ∀ (l:List UInt8) (k n:Nat),dP most l k n≠ .error 0:=by
 intro l
 induction l with
 |nil=>intro k n h;unfold dP at h;cases h
 |cons c r ih=>
  intro k n h
  unfold dP at h
  split at h
  ·split at h
   ·cases h
   ·exact ih _ _ h
  ·split at h
   ·cases h
   ·split at h
    ·cases h
    ·cases h
theorem sc {s:List UInt8} {a:Nat} {e most:Int} (h:e≠5): (aE s a e most).2.2≠5:=by
 unfold aE
 split
 ·exact h
 ·split
  ·show(0:Int)≠5;decide
  ·rename_i x hx
   have:=PF _ _ _ _ _ hx
   show((x:Nat):Int)≠5
   omega
theorem PJ {s:List UInt8} {a:Nat} {e most:Int} (h:e≠5): (bN s a e most).2.2≠5:=by
 unfold bN
 simp only
 split
 ·exact sm (sc h)
 ·exact sm (sc h)
theorem R6 {s:List UInt8} {a:Nat} {e:Int} (h:e≠5): (idR s a e).2.2≠5:=by unfold idR;exact sm h
theorem yy {s:List UInt8} {a:Nat} {e most:Int} (h: (aE s a e most).2.2=0):a< (aE s a e most).2.1:=by
 unfold aE at h ⊢
 split
 ·rename_i he
  rw[if_pos he] at h
  exact absurd h he
 ·rename_i he
  rw[if_neg he] at h
  split
  ·rename_i n k hk
   have:=Ey _ _ _ _ _ _ hk
   show a<a+k
   omega
  ·rename_i x hx
   rw[hx] at h
   exfalso
   have:x=0:=by have: ((x:Nat):Int)=0:=h;omega
   subst this
   exact yz _ _ _ _ hx
def gk (s:List UInt8) (a:Nat) (e:Int):EntL×Nat×Int:=
 let p:=aE s a e 2
 let q:=bN s p.2.1 p.2.2 32
 let i:=idR s q.2.1 q.2.2
 (⟨q.1,p.1,n9 i.1⟩,i.2)
theorem sS {s:List UInt8} {a:Nat} {e:Int} (ha:a≤s.length):a≤ (gk s a e).2.1∧(gk s a e).2.1≤s.length:=by
 have h1:=jM (e:=e) (most:=2) ha
 have h2:=uS (e:=(aE s a e 2).2.2) (most:=32) h1.2
 have h3:=nJ (e:=(bN s (aE s a e 2).2.1 (aE s a e 2).2.2 32).2.2) h2.2
 unfold gk
 exact⟨by simp only;omega,h3.2⟩
theorem R0 {s:List UInt8} {a:Nat} {e:Int} (h:e≠5): (gk s a e).2.2≠5:=R6 (PJ (sc h))
theorem yk {s:List UInt8} {a:Nat} {e:Int} (ha:a≤s.length) (h: (gk s a e).2.2=0):a< (gk s a e).2.1:=by
 have h1:=jM (e:=e) (most:=2) ha
 have h2:=uS (e:=(aE s a e 2).2.2) (most:=32) h1.2
 have h3:=nJ (e:=(bN s (aE s a e 2).2.1 (aE s a e 2).2.2 32).2.2) h2.2
 unfold gk at h ⊢
 simp only at h ⊢
 have e2: (bN s (aE s a e 2).2.1 (aE s a e 2).2.2 32).2.2=0:=Decidable.byContradiction fun hn=>by rw[nN hn] at h;exact hn h
 have e1: (aE s a e 2).2.2=0:=Decidable.byContradiction fun hn=>by rw[Ce hn] at e2;exact hn e2
 have:=yy e1
 omega
def lc (s:List UInt8):Nat→Nat→Int→List EntL→List EntL×Nat×Int
 |0,a,e,l=>(l,a,e)
 |n+1,a,e,l=>if e=0∧a<s.length then lc s n (gk s a e).2.1 (gk s a e).2.2 (l++ [(gk s a e).1]) else(l,a,e)
theorem EP {s:List UInt8} {n a:Nat} {e:Int} {l:List EntL} (h:e=0∧a<s.length):lc s (n+1) a e l=lc s n (gk s a e).2.1 (gk s a e).2.2 (l++ [(gk s a e).1]):=by rw[lc,if_pos h]
theorem FL {s:List UInt8} {n a:Nat} {e:Int} {l:List EntL} (h: ¬ (e=0∧a<s.length)):lc s n a e l=(l,a,e):=by
 cases n with
 |zero=>rfl
 |succ n=>rw[lc,if_neg h]
def i7 (s:List UInt8):List EntL×Nat×Int:=lc s (s.length+1) 0 0 []
structure EntsJ (s:List UInt8) (n a:Nat) (e:Int) (l:List EntL):Prop where
 go:i7 s=lc s n a e l
 le:a≤s.length
 five:e≠5
 fuel:e=0→s.length<a+n
 cnt:l.length+n=s.length+1
 short: ∀i,i<l.length→(l.getD i cK).name.length≤s.length
theorem EntsJ.init (s:List UInt8):EntsJ s (s.length+1) 0 0 []:=⟨rfl,Nat.zero_le _,by decide,fun _=>by omega,by simp,fun i hi=>by simp at hi⟩
theorem EntsJ.next {s:List UInt8} {n a:Nat} {e:Int} {l:List EntL} (h:EntsJ s n a e l) (hc:e=0∧a<s.length): ∃m,n=m+1∧EntsJ s m (gk s a e).2.1 (gk s a e).2.2 (l++ [(gk s a e).1]):=by
 have:=h.fuel hc.1
 obtain⟨m,rfl⟩: ∃m,n=m+1:=⟨n - 1,by omega⟩
 refine⟨m,rfl,h.go.trans (EP hc),(sS h.le).2,R0 h.five,fun h0=> ?_, ?_,fun i hi=> ?_⟩
 ·have:=yk h.le h0;omega
 ·have:=h.cnt;simp only[List.length_append,List.length_cons,List.length_nil];omega
 ·by_cases aC:i<l.length
  ·rw[VB aC];exact h.short i aC
  ·have:i=l.length:=by simp only[List.length_append,List.length_cons,List.length_nil] at hi;omega
   subst this
   rw[VT (Nat.le_refl _),Nat.sub_self]
   exact EJ _ _ _ _
theorem EntsJ.done {s:List UInt8} {n a:Nat} {e:Int} {l:List EntL} (h:EntsJ s n a e l) (hc: ¬ (e=0∧a<s.length)):i7 s=(l,a,e):=h.go.trans (FL hc)
theorem EntsJ.sh {s:List UInt8} {n a:Nat} {e:Int} {l:List EntL} (h:EntsJ s n a e l) (hs:s.length<1000000):pH l:=fun i hi=>by have:=h.short i hi;omega
end Go.Proofs
end
section
open Go Go.Proofs Go.Sx Go.StP
namespace Go.Proofs
set_option maxRecDepth 10000
set_option maxHeartbeats 400000
set_option linter.unusedSimpArgs false
theorem H5:fU (cX Tryz.prog 221) (al Tryz.prog 221) []=some (.agg (cE cK).toArray):=by
 rw[show cX Tryz.prog 221=some [(0,1),(1,1),(2,32)] from id (by kernel_rfl),pU];rfl
theorem Kq (s:List UInt8):fU (cX Tryz.prog 217) (al Tryz.prog 217) [(0,vs s)]=some (.agg #[vs s,vi 0,vi 0]):=by
 have hp:cX Tryz.prog 217=some [(0,1),(1,1),(2,1)]:=id (by kernel_rfl)
 have hz:al Tryz.prog 217=some (.agg #[vs [],vi 0,vi 0]):=id (by kernel_rfl)
 rw[hp,hz];rfl
def kZ (s:List UInt8):Option (List EntL):=if(i7 s).2.2=0∧mw (i7 s).1=true∧i9 (i7 s).1=s then some (i7 s).1 else none
def sx (s:List UInt8) (v:Value) (D:aA):Prop:=
 match kZ s with
 |some l=> ∃v1,v= .tuple #[v1, .bool true]∧Gr D 221 34 v1 l.length (l.map cE).flatten
 |none=>v= .tuple #[.slice none 0 0, .bool false]
structure EnG where
 n:Nat
 a:Nat
 e:Int
 l:List EntL
 v:Value
 D:aA
set_option linter.defProp false
def dJ:=And.intro (And.intro (And.intro (@CC) (And.intro (@CH) (@CX))) (And.intro (@DF) (And.intro (@Cp) (@Ex)))) (And.intro (And.intro (@JM) (And.intro (@IR) (@K0))) (And.intro (And.intro (@EU) (@Cs)) (And.intro (@ay) (@ax))))
theorem YW (s:List UInt8) (w:World) (hs:s.length<100000):
  Rets Tryz.prog 108 #[vs s] w (XS w [] (sx s)):=by
 refine Rets.enterX Tryz.func108 rfl (rs:= [.tmp 2, .tmp 3]) Tryz.results108 Tryz.ntmps108 (fun p hp=>by cases hp) (by simp[keys]) ?_
 refine kf ?_
 first|with_reducible refine ks [] @dJ ?_|refine kp @dJ ?_
 refine Ow.build ((.agg #[vs s,vi 0,vi 0])) rfl (by kernel_rfl) ?_
 refine ko @dJ ?_
 refine Ow.box rfl rfl fun br lR kH=> ?_
 simp only[eU,eT,ed,bL,List.nil_append]
 refine ko @dJ ?_
 refine Cw.loopG (G:=EnG) [10,11,12,13,14,15,16,17,18,19,20,21,22,23,24,6,25,26,27,28,29,30,31,32,33,34,35,36,37,5] (fun q=> [(5,q.v)]) (fun q=>(br, .cells #[vs s,vi q.a,vi q.e] 217 (0,0))::q.D) (fun q=>EntsJ s q.n q.a q.e q.l∧New (br+1) q.D∧Gr q.D 221 34 q.v q.l.length (q.l.map cE).flatten) (fun q=>q.n) ⟨s.length+1,0,0,[], .slice none 0 0,[]⟩ rfl rfl ?_ ?_
 ·exact⟨EntsJ.init s,trivial,Gr.nl⟩
 ·intro q jq hq
  refine kv ?_
  obtain⟨n,a,e,l,v,D⟩:=q
  simp only at hq ⊢
  obtain⟨hJ,hN,hG⟩:=hq
  have eW:=hJ.le
  by_cases hc:e=0∧a<s.length
  ·obtain⟨m,rfl,mf⟩:=hJ.next hc
   obtain⟨he,aC⟩:=hc
   have d1: (e==0)=true:=by simp[he]
   have d2:decide ((a:Int)< (s.length:Int))=true:=decide_eq_true (by omega)
   have hp:=jM (e:=e) (most:=2) eW
   have hq:=uS (e:=(aE s a e 2).2.2) (most:=32) hp.2
   have heq:gk s a e=(⟨(bN s (aE s a e 2).2.1 (aE s a e 2).2.2 32).1,(aE s a e 2).1,n9 (idR s (bN s (aE s a e 2).2.1 (aE s a e 2).2.2 32).2.1 (bN s (aE s a e 2).2.1 (aE s a e 2).2.2 32).2.2).1⟩,(idR s (bN s (aE s a e 2).2.1 (aE s a e 2).2.2 32).2.1 (bN s (aE s a e 2).2.1 (aE s a e 2).2.2 32).2.2).2):=rfl
   have oW:=Ch s (bN s (aE s a e 2).2.1 (aE s a e 2).2.2 32).2.1 (bN s (aE s a e 2).2.1 (aE s a e 2).2.2 32).2.2
   first|with_reducible refine ks [] (And.intro @dJ (And.intro @d1 (@d2))) ?_|refine kp (And.intro @dJ (And.intro @d1 (@d2))) ?_
   refine Ow.build (.agg (cE cK).toArray) rfl H5 ?_
   refine ko @dJ ?_
   refine Ow.alloc rfl rfl pU fun b6 SQ XA=> ?_
   simp only[bL,List.nil_append,List.cons_append]
   have ob:br<b6:=cY SQ (by simp[keys])
   refine Ow.permL (M:=(b6,Obj.cells (cE cK).toArray 221 (0,0)):: (br, .cells #[vs s,vi a,vi e] 217 (0,0))::D) (by classical exact List.perm_iff_count.2 fun a=>by simp only[List.count_append,List.count_cons,List.count_nil]<;>omega) ?_
   refine ko @dJ ?_
   refine Ow.callM rfl rfl Tryz.call146 (by simp[keys]) (fun w' aB=>EC br s a e 2 w' eW (by omega) (aB.has _ _ (List.mem_cons_of_mem _ List.mem_cons_self))) ?_
   generalize aE s a e 2=p at*
   obtain⟨kd,a1,e1⟩:=p
   simp only at hp hq heq oW ⊢
   refine kn ?_
   refine ko @dJ ?_
   first|with_reducible refine ks [] @dJ ?_|refine kp @dJ ?_
   refine Ow.callM rfl rfl Tryz.call144 (by simp[keys]) (fun w' aB=>Dy br s a1 e1 32 w' hp.2 (by omega) (aB.has _ _ (List.mem_cons_of_mem _ List.mem_cons_self))) ?_
   generalize bN s a1 e1 32=q at*
   obtain⟨tt,a2,e2⟩:=q
   simp only at hq heq oW ⊢
   refine kn ?_
   refine ko @dJ ?_
   first|with_reducible refine ks [] @dJ ?_|refine kp @dJ ?_
   refine Ow.callM rfl rfl Tryz.call147 (by simp[keys]) (fun w' aB=>EX br s a2 e2 w' hq.2 (by omega) (aB.has _ _ (List.mem_cons_of_mem _ List.mem_cons_self))) ?_
   generalize idR s a2 e2=i at*
   obtain⟨il,a3,e3⟩:=i
   simp only at heq oW ⊢
   obtain⟨I,hI⟩: ∃I,n9 il=I:=⟨_,rfl⟩
   have Sr:il=I.l:=by rw[←hI,CG oW]
   rw[hI] at heq
   rw[Sr]
   refine kn ?_
   refine ko @dJ ?_
   generalize hx: ({name:=tt,kind:=kd,id:=I}:EntL)=x
   rw[hx] at heq
   rw[heq] at mf
   refine Ow.buildSlice (e:=221) (cE x).toArray rfl rfl (j8 Tryz.underlying168 zR pU (by decide) (qo x)) fun b13 tZ UA=> ?_
   have Tp:br<b13:=cY tZ (by simp[keys])
   refine Ow.permL (M:=D++ ((b6,Obj.cells (cE x).toArray 221 (0,0)):: (br, .cells #[vs s,vi a3,vi e3] 217 (0,0)):: [(b13,Obj.cells (cE x).toArray 221 (0,0))])) (by classical exact List.perm_iff_count.2 fun a=>by simp only[List.count_append,List.count_cons,List.count_nil]<;>omega) ?_
   refine ko @dJ ?_
   refine Ow.appendX (e:=221) (k:=1) (new:=cE x) (X:=D) v rfl rfl rfl rfl Tryz.underlying168 zR (by kernel_rfl) pU (by rw[Cs,List.size_toArray,qo]) Tryz.underlying168 (by intro k h;cases h) hG (fun w' aB=>AppX.one1 (aB.has b13 (.cells (cE x).toArray 221 (0,0)) (by simp)) (qo _) (yE _)) (by omega) (by have:=hJ.cnt;omega) (fun B v4 D4 jE r7 qB fR ex bP=> ?_)
   have Rr:b13<B:=cY jE (by simp[bO,keys])
   have fi:New (br+1) D4:=New.of_le fun q hq=>by
    rcases ex q hq with h|h
    ·exact hN.le q h
    ·omega
   refine Ow.permL (M:=(br, .cells #[vs s,vi a3,vi e3] 217 (0,0)):: (D4++ [(b6,Obj.cells (cE x).toArray 221 (0,0)),(b13,Obj.cells (cE x).toArray 221 (0,0))])) (by classical exact List.perm_iff_count.2 fun a=>by simp only[List.count_append,List.count_cons,List.count_nil]<;>omega) ?_
   refine ko @dJ ?_
   refine Again.mk (EnG.mk m a3 e3 (l++ [x]) v4 (D4++ [(b6,Obj.cells (cE x).toArray 221 (0,0)),(b13,Obj.cells (cE x).toArray 221 (0,0))])) (by show m<m+1;omega) ⟨mf,fi.app ⟨by omega,by omega,trivial⟩, ?_⟩ rfl rfl
   show Gr _ _ _ _ (l++ [x]).length ((l++ [x]).map cE).flatten
   rw[List.length_append,List.map_append,List.flatten_append,show([x].map cE).flatten=cE x by simp]
   exact Gr.app (.inl qB)
  ·have hd:=hJ.done hc
   have jn:=hJ.sh (by omega)
   have rF:=hJ.cnt
   have hR:kZ s=if e=0∧mw l=true∧i9 l=s then some l else none:=by unfold kZ;rw[hd]
   unfold sx
   rw[hR]
   have r9:New w.heap.size ((br,Obj.cells #[vs s,vi a,vi e] 217 (0,0))::D):=⟨kH,New.mono (by omega) hN⟩
   by_cases he:e=0
   ·have d1: (e==0)=true:=by simp[he]
    have d2:decide ((a:Int)< (s.length:Int))=false:=decide_eq_false (by omega)
    have nZ: (if e≠0 then e else if(a:Int)< (s.length:Int) then 5 else 0)=(0:Int):=by rw[if_neg (by simp[he]),if_neg (by omega)]
    first|with_reducible refine ks [] (And.intro @dJ (And.intro @d1 (@d2))) ?_|refine kp (And.intro @dJ (And.intro @d1 (@d2))) ?_
    refine Ow.callFV rfl Tryz.call145 (fun w' aB=>E1 br s a e w' (aB.has _ _ (by simp))) ?_
    rw[nZ]
    have d4: ((0:Int) !=0)=false:=rfl
    refine ko (And.intro @dJ @d4) ?_
    refine Ow.callFV rfl Tryz.call148 (fun w' aB=>XY v l w' (hG.slM (fun b o hm=>aB.has b o (by simp[hm])) rfl rfl qo) (by omega) jn) ?_
    cases hr:mw l
    ·rw[if_neg (by simp)]
     refine ko @dJ ?_
     first|with_reducible refine ks [] @dJ ?_|refine kp @dJ ?_
     refine⟨_,(ke @dJ), ?_⟩
     exact⟨Ext.of_new r9,rfl⟩
    ·refine ko @dJ ?_
     refine Ow.callFV rfl Tryz.call149 (fun w' aB=>YF v l w' (hG.slM (fun b o hm=>aB.has b o (by simp[hm])) rfl rfl qo) (by omega) jn) ?_
     by_cases hb:i9 l=s
     ·have d3: (i9 l !=s)=false:=by simp[hb]
      rw[if_pos ⟨he,rfl,hb⟩]
      refine ko (And.intro @dJ @d3) ?_
      first|with_reducible refine ks [] @dJ ?_|refine kp @dJ ?_
      refine⟨_,(ke @dJ), ?_⟩
      exact⟨Ext.of_new r9,v,rfl,hG.keep fun b o hb ho=>by rw[Sx.look,if_neg (by have:=hN.le b (bV ho);omega)];exact ho⟩
     ·have d3: (i9 l !=s)=true:=by simp[hb]
      rw[if_neg (fun h=>hb h.2.2)]
      refine ko (And.intro @dJ @d3) ?_
      first|with_reducible refine ks [] @dJ ?_|refine kp @dJ ?_
      refine⟨_,(ke @dJ), ?_⟩
      exact⟨Ext.of_new r9,rfl⟩
   ·have d1: (e==0)=false:=by simp[he]
    have d3: (e !=0)=true:=by simp[he]
    have nZ: (if e≠0 then e else if(a:Int)< (s.length:Int) then 5 else 0)=e:=by rw[if_pos he]
    rw[if_neg (fun h=>he h.1)]
    first|with_reducible refine ks [] (And.intro @dJ @d1) ?_|refine kp (And.intro @dJ @d1) ?_
    refine Ow.callFV rfl Tryz.call145 (fun w' aB=>E1 br s a e w' (aB.has _ _ (by simp))) ?_
    rw[nZ]
    refine ko (And.intro @dJ @d3) ?_
    first|with_reducible refine ks [] @dJ ?_|refine kp @dJ ?_
    refine⟨_,(ke @dJ), ?_⟩
    exact⟨Ext.of_new r9,rfl⟩
end Go.Proofs
end
section
open Go Go.Proofs Go.Sx Go.StP
namespace Go.Proofs
set_option maxRecDepth 10000
set_option maxHeartbeats 400000
set_option linter.unusedSimpArgs false
theorem UM (most:Int): ∀ (l:List UInt8) (k n m k':Nat),dP most l k n= .ok (m,k')→(m:Int)≤most
 | [],_,_,_,_,h=>by simp[dP] at h
 |c::r,k,n,m,k',h=>by
  unfold dP at h
  split at h
  ·split at h
   ·cases h
   ·exact UM most r _ _ _ _ h
  ·split at h
   ·cases h
   ·split at h
    ·rename_i hh
     cases h
     exact hh.2
    ·cases h
theorem qe {s:List UInt8} {a:Nat} {e most:Int} (h0:0≤most):0≤ (aE s a e most).1∧(aE s a e most).1≤most:=by
 unfold aE
 split
 ·exact⟨Int.le_refl 0,h0⟩
 ·split
  ·rename_i n k h
   exact⟨Int.natCast_nonneg _,UM most _ _ _ _ _ h⟩
  ·exact⟨Int.le_refl 0,h0⟩
def cO (s:List UInt8) (a:Nat) (e:Int):Nat→List IdL×Nat×Int
 |0=>([],a,e)
 |n+1=>let p:=cO s a e n;let i:=idR s p.2.1 p.2.2;(p.1++ [n9 i.1],i.2)
theorem EM (s:List UInt8) (a:Nat) (e:Int): ∀n,(cO s a e n).1.length=n
 |0=>rfl
 |n+1=>by simp only[cO,List.length_append,List.length_cons,List.length_nil,EM s a e n]
theorem CR {s:List UInt8} {a:Nat} {e:Int} (ha:a≤s.length): ∀n,(cO s a e n).2.1≤s.length
 |0=>ha
 |n+1=>(nJ (CR ha n)).2
def comN (s:List UInt8):Int×Nat×Int:=aE s (idR s 0 0).2.1 (idR s 0 0).2.2 4
def gJ (s:List UInt8):List IdL×Nat×Int:=cO s (comN s).2.1 (comN s).2.2 (comN s).1.toNat
def comT (s:List UInt8):List UInt8×Nat×Int:=bN s (gJ s).2.1 (gJ s).2.2 64
def comE (s:List UInt8):ComL×Nat×Int:=(⟨n9 (idR s 0 0).1,(gJ s).1,(comT s).1⟩,(comT s).2)
def du (s:List UInt8) (a:Nat) (e:Int):Int:=if e≠0 then e else if(a:Int)< (s.length:Int) then 5 else 0
def kc (s:List UInt8):Option ComL:=if du s (comE s).2.1 (comE s).2.2=0∧lP (comE s).1=true∧comB (comE s).1=s then some (comE s).1 else none
theorem IU (t x:IdL) (p:Value) (y:List UInt8) (a:Bool) (E:TypeId):ac (some (a,32)) (some (.cells (bC t p y).toArray E (0,0))) 0 (.agg (a8 x.l))=some (.cells (bC x p y).toArray E (0,0)):=
 d9 [] _ _ _ a _ E rfl (by simp[t.h]) (bL _) (by simp[x.h]) (oy _)
theorem IX (t:IdL) (p q:Value) (y:List UInt8) (a:Bool) (E:TypeId) (hq:Value.oneCell' q=true∧q.cells= #[q]):ac (some (a,1)) (some (.cells (bC t p y).toArray E (0,0))) 32 q=some (.cells (bC t q y).toArray E (0,0)):=
 d9 (t.l.map v8) [p] [q] [vs y] a _ E (by simp[t.h]) rfl hq.2 rfl (by simp[hq.1])
theorem J8 (t:IdL) (p:Value) (y z:List UInt8) (a:Bool) (E:TypeId):ac (some (a,1)) (some (.cells (bC t p y).toArray E (0,0))) 33 (vs z)=some (.cells (bC t p z).toArray E (0,0)):=by
 have e: ∀y,bC t p y=(t.l.map v8++ [p])++ ([vs y]++ []):=fun y=>by unfold bC;simp only[List.append_assoc,List.append_nil]
 rw[e,e];exact d9 _ _ _ _ a _ E (by simp[t.h]) rfl rfl rfl rfl
theorem pY:al Tryz.prog 172=some (.agg (bC id0 (.slice none 0 0) []).toArray):=id (by kernel_rfl)
theorem E9:fU (cX Tryz.prog 172) (al Tryz.prog 172) []=some (.agg (bC id0 (.slice none 0 0) []).toArray):=by
 rw[show cX Tryz.prog 172=some [(0,32),(32,1),(33,1)] from id (by kernel_rfl),pY];rfl
theorem pI:aK Tryz.prog 84=some (true,32):=id (by kernel_rfl)
theorem lx:al Tryz.prog 84=some (.agg (a8 id0.l)):=id (by kernel_rfl)
end Go.Proofs
end
section
open Go Go.Proofs Go.Sx Go.StP
namespace Go.Proofs
set_option maxRecDepth 10000
set_option maxHeartbeats 400000
set_option linter.unusedSimpArgs false
theorem xA {b:Nat} {x:Obj}: ∀ {D L:aA},b∉keys D→setB (D++L) b x=D++setB L b x
 | [],_,_=>rfl
 | (c,y)::r,L,h=>by
  simp only[keys,List.map_cons,List.mem_cons,not_or] at h
  rw[List.cons_append,FF _ _ _ _ _ (Ne.symm h.1),xA (by simpa [keys] using h.2)];rfl
def so (s:List UInt8) (v:Value) (D:aA):Prop:=
 match kc s with
 |some c=> ∃p,v= .tuple #[.agg (bC c.tree p c.text).toArray, .bool true]∧Gr D 84 32 p c.par.length (c.par.map jB).flatten
 |none=>v= .tuple #[.agg (bC id0 (.slice none 0 0) []).toArray, .bool false]
theorem Uz (b:Nat) (s:List UInt8) (a:Nat) (e:Int) (w:World) (ho:w.heap[b]? =some (.cells #[vs s,vi a,vi e] 217 (0,0))):
  Rets Tryz.prog 145 #[vp b 0] w (fun v D=>v=vi (du s a e)∧D= []):=E1 b s a e w ho
structure CmG where
 g:Nat
 v:Value
 D:aA
set_option linter.defProp false
def dD:=And.intro (And.intro (And.intro (@CC) (And.intro (@CH) (@CX))) (And.intro (And.intro (@DF) (@Cp)) (And.intro (@F4) (@F6)))) (And.intro (And.intro (@F1) (And.intro (@Ej) (@Co))) (And.intro (And.intro (@IU) (@J8)) (And.intro (@ay) (@ax))))
theorem Yh (s:List UInt8) (w:World) (hs:s.length<100000):
  Rets Tryz.prog 109 #[vs s] w (XS w [] (so s)):=by
 refine Rets.enterX Tryz.func109 rfl (rs:= [.cell 2 172, .tmp 3]) Tryz.results109 Tryz.ntmps109 (fun p hp=>by cases hp) (by simp[keys]) ?_
 refine kf ?_
 first|with_reducible refine ks [] @dD ?_|refine kp @dD ?_
 refine Ow.alloc rfl rfl pY fun b2 bG cU=> ?_
 simp only[bL,List.nil_append,List.cons_append]
 refine ko @dD ?_
 refine Ow.build ((.agg #[vs s,vi 0,vi 0])) rfl (by kernel_rfl) ?_
 refine ko @dD ?_
 refine Ow.box rfl rfl fun br lR kH=> ?_
 have ZV:b2<br:=cY lR (by simp[keys])
 simp only[eU,eT,ed,bL,List.nil_append,List.cons_append]
 refine ko @dD ?_
 refine Ow.build (.agg (bC id0 (.slice none 0 0) []).toArray) rfl E9 ?_
 refine ko @dD ?_
 refine Ow.alloc rfl rfl pY fun b5 SP vT=> ?_
 simp only[bL,List.nil_append,List.cons_append]
 have WC:b2<b5:=cY SP (by simp[keys])
 have Dk:br<b5:=cY SP (by simp[keys])
 have st5: ∀a E,ac (some (a,34)) (some (.cells (bC id0 (.slice none 0 0) []).toArray E (0,0))) 0 (.agg (bC id0 (.slice none 0 0) []).toArray)=some (.cells (bC id0 (.slice none 0 0) []).toArray E (0,0)):=fun a E=>F0 _ _ _ _ a E (by rw[List.size_toArray,wD]) rfl
 refine ko (And.intro @dD @st5) ?_
 refine Ow.callM rfl rfl Tryz.call147 (by simp[keys]) (fun w' aB=>EX br s 0 0 w' (Nat.zero_le _) (by omega) (aB.has _ _ (List.mem_cons_of_mem _ List.mem_cons_self))) ?_
 have ip:=nJ (s:=s) (a:=0) (e:=0) (Nat.zero_le _)
 have np:=jM (e:=(idR s 0 0).2.2) (most:=4) ip.2
 have nm:=qe (s:=s) (a:=(idR s 0 0).2.1) (e:=(idR s 0 0).2.2) (most:=4) (by decide)
 obtain⟨T,hT⟩: ∃T,n9 (idR s 0 0).1=T:=⟨_,rfl⟩
 have hiT: (idR s 0 0).1=T.l:=by rw[←hT,CG (Ch s 0 0)]
 have Sb:comE s=(⟨T,(gJ s).1,(comT s).1⟩,(comT s).2):=by unfold comE;rw[hT]
 rw[hiT]
 refine kn ?_
 refine ko @dD ?_
 refine Ow.callM rfl rfl Tryz.call146 (by simp[keys]) (fun w' aB=>EC br s _ _ 4 w' ip.2 (by omega) (aB.has _ _ (List.mem_cons_of_mem _ List.mem_cons_self))) ?_
 have hP:gJ s=cO s (aE s (idR s 0 0).2.1 (idR s 0 0).2.2 4).2.1 (aE s (idR s 0 0).2.1 (idR s 0 0).2.2 4).2.2 (aE s (idR s 0 0).2.1 (idR s 0 0).2.2 4).1.toNat:=rfl
 generalize aE s (idR s 0 0).2.1 (idR s 0 0).2.2 4=nr at*
 obtain⟨cn,na,ne⟩:=nr
 simp only at np nm hP ⊢
 obtain⟨k,rfl⟩:=Int.eq_ofNat_of_zero_le nm.1
 rw[Int.toNat_natCast] at hP
 refine kn ?_
 refine ko @dD ?_
 refine Cw.permL (M:=(b5, .cells (bC T (.slice none 0 0) []).toArray 172 (0,0)):: (br, .cells #[vs s,vi na,vi ne] 217 (0,0)):: (b2, .cells (bC id0 (.slice none 0 0) []).toArray 172 (0,0)):: []) (by classical exact List.perm_iff_count.2 fun a=>by simp only[List.count_append,List.count_cons,List.count_nil]<;>omega) ?_
 refine Cw.loopG (G:=CmG) [17,18,19,22,23,24,25,26,27,28,20,21,7] (fun q=> [(7,vi q.g)]) (fun q=>(b5, .cells (bC T q.v []).toArray 172 (0,0)):: (br, .cells #[vs s,vi (cO s na ne q.g).2.1,vi (cO s na ne q.g).2.2] 217 (0,0)):: (b2, .cells (bC id0 (.slice none 0 0) []).toArray 172 (0,0))::q.D) (fun q=>q.g≤k∧New (b5+1) q.D∧Gr q.D 84 32 q.v q.g ((cO s na ne q.g).1.map jB).flatten) (fun q=>k - q.g) ⟨0, .slice none 0 0,[]⟩ rfl rfl ?_ ?_
 ·exact⟨Nat.zero_le _,trivial,Gr.nl⟩
 ·intro q jq hq
  refine kv ?_
  obtain⟨g,v,D⟩:=q
  simp only at hq ⊢
  obtain⟨hgk,hN,hG⟩:=hq
  have gle:=CR (e:=ne) np.2 g
  by_cases aC:g<k
  ·have Sq:cO s na ne (g+1)=((cO s na ne g).1++ [n9 (idR s (cO s na ne g).2.1 (cO s na ne g).2.2).1],(idR s (cO s na ne g).2.1 (cO s na ne g).2.2).2):=rfl
   first|with_reducible refine ks [7] @dD ?_|refine kp @dD ?_
   refine Cw.regionS [b5] [0,2,1,3,4,5,6,7] [7] (by kernel_rfl) (by kernel_rfl) (by kernel_rfl) ?_
   simp only[ar, ↓ap, ↓ag, ↓an, ↓am,ah]
   refine kq @dD ?_
   refine Ow.soft rfl rfl rfl ?_
   refine Ow.callM rfl rfl Tryz.call147 (by simp[keys]) (fun w' aB=>EX br s (cO s na ne g).2.1 (cO s na ne g).2.2 w' gle (by omega) (aB.has _ _ (List.mem_cons_of_mem _ List.mem_cons_self))) ?_
   with_reducible refine Ow.nil ?_
   refine⟨fun b hb=>Fl (by simp only[List.mem_cons,List.not_mem_nil,or_false] at hb;omega), ?_⟩
   have oW:=Ch s (cO s na ne g).2.1 (cO s na ne g).2.2
   obtain⟨I,hI⟩: ∃I,n9 (idR s (cO s na ne g).2.1 (cO s na ne g).2.2).1=I:=⟨_,rfl⟩
   have Sr: (idR s (cO s na ne g).2.1 (cO s na ne g).2.2).1=I.l:=by rw[←hI,CG oW]
   rw[hI] at Sq
   have rI: (cO s na ne (g+1)).1=(cO s na ne g).1++ [I]:=by rw[Sq]
   have kz: (cO s na ne (g+1)).2=(idR s (cO s na ne g).2.1 (cO s na ne g).2.2).2:=by rw[Sq]
   rw[Sr,←kz]
   refine kn ?_
   refine Ow.soft rfl rfl rfl ?_
   refine Ow.buildSlice (e:=84) (a8 I.l) rfl rfl (j8 (cs:=I.l.map v8) Tryz.underlying106 pI lx (by decide) (by simp[I.h])) fun b13 tZ UA=> ?_
   have Tp:b5<b13:=cY tZ (by simp[keys])
   with_reducible refine Ow.nil ?_
   refine⟨Bj (by simp[keys]), ?_⟩
   try simp only[List.cons_append,List.nil_append]
   refine Ow.soft rfl rfl rfl ?_
   refine Ow.permL (M:=D++ ((b5,Obj.cells (bC T v []).toArray 172 (0,0)):: (br,Obj.cells #[vs s,vi (cO s na ne (g+1)).2.1,vi (cO s na ne (g+1)).2.2] 217 (0,0)):: (b2,Obj.cells (bC id0 (.slice none 0 0) []).toArray 172 (0,0)):: [(b13,Obj.cells (a8 I.l) 84 (0,0))])) (by classical exact List.perm_iff_count.2 fun a=>by simp only[List.count_append,List.count_cons,List.count_nil]<;>omega) ?_
   refine Ow.appendX (e:=84) (k:=1) (new:=jB I) (X:=D) v rfl rfl rfl rfl Tryz.underlying106 pI (by kernel_rfl) lx (by rw[bL,ui,id0.h]) Tryz.underlying106 (by intro k h;cases h) hG (fun w' aB=>AppX.one1 (aB.has b13 (.cells (a8 I.l) 84 (0,0)) (by simp)) (C6 I) (Vd I)) (by omega) (by omega) (fun B v4 D4 jE r7 qB fR ex bP=> ?_)
   have Rr:b13<B:=cY jE (by simp[bO,keys])
   have fi:New (b5+1) D4:=New.of_le fun q hq=>by
    rcases ex q hq with h|h
    ·exact hN.le q h
    ·omega
   have Rp:b5∉keys D4:=fi.not (by omega)
   with_reducible refine Ow.nil ?_
   refine⟨fun q hq=> ?_, ?_⟩
   ·rw[List.mem_singleton] at hq
    subst hq
    rw[Ij Rp]
    simp only[qc]
   have ey: ∀M,Sx.look (D4++M) b5=Sx.look M b5:=fun M=>iB Rp
   have BS: ∀M x,setB (D4++M) b5 x=D4++setB M b5 x:=fun M x=>xA Rp
   have st5:=fun a E=>IX T v v4 [] a E qB.cell
   refine kq (And.intro @dD (And.intro @ey (And.intro @BS (And.intro @st5 (@iu))))) ?_
   have d7:rt (aK Tryz.prog 106) (D4++ [(b5,Obj.cells (bC T v []).toArray 172 (0,0)),(br,Obj.cells #[vs s,vi (cO s na ne (g+1)).2.1,vi (cO s na ne (g+1)).2.2] 217 (0,0)),(b2,Obj.cells (bC id0 (.slice none 0 0) []).toArray 172 (0,0)),(b13,Obj.cells (a8 I.l) 84 (0,0))]) (vp b5 32) v4=
     some (D4++ [(b5,Obj.cells (bC T v4 []).toArray 172 (0,0)),(br,Obj.cells #[vs s,vi (cO s na ne (g+1)).2.1,vi (cO s na ne (g+1)).2.2] 217 (0,0)),(b2,Obj.cells (bC id0 (.slice none 0 0) []).toArray 172 (0,0)),(b13,Obj.cells (a8 I.l) 84 (0,0))]):=by
    rw[Tryz.ag106,xH,ey]
    simp only[sA,st5,xq,BS,Cy]
   refine Ow.store rfl rfl rfl d7 ?_
   refine ko @dD ?_
   refine Cw.permL (M:=(b5,Obj.cells (bC T v4 []).toArray 172 (0,0)):: (br,Obj.cells #[vs s,vi (cO s na ne (g+1)).2.1,vi (cO s na ne (g+1)).2.2] 217 (0,0)):: (b2,Obj.cells (bC id0 (.slice none 0 0) []).toArray 172 (0,0)):: (D4++ [(b13,Obj.cells (a8 I.l) 84 (0,0))])) (by classical exact List.perm_iff_count.2 fun a=>by simp only[List.count_append,List.count_cons,List.count_nil]<;>omega) ?_
   first|with_reducible refine ks [] @dD ?_|refine kp @dD ?_
   refine Again.mk (CmG.mk (g+1) v4 (D4++ [(b13,Obj.cells (a8 I.l) 84 (0,0))])) (by show k - (g+1)<k - g;omega) ⟨by show g+1≤k;omega,fi.app ⟨by omega,trivial⟩, ?_⟩ rfl rfl
   show Gr _ _ _ _ (g+1) ((cO s na ne (g+1)).1.map jB).flatten
   rw[rI,List.map_append,List.flatten_append,show([I].map jB).flatten=jB I by simp]
   exact Gr.app (.inl qB)
  ·obtain rfl:g=k:=by omega
   rw[←hP] at hG
   rw[←hP] at gle
   rw[←hP]
   have tp:=uS (e:=(gJ s).2.2) (most:=64) gle
   first|with_reducible refine ks [] @dD ?_|refine kp @dD ?_
   refine Ow.callM rfl rfl Tryz.call144 (by simp[keys]) (fun w' aB=>Dy br s (gJ s).2.1 (gJ s).2.2 64 w' gle (by omega) (aB.has _ _ (List.mem_cons_of_mem _ List.mem_cons_self))) ?_
   refine kn ?_
   refine ko @dD ?_
   have Zz:comT s=bN s (gJ s).2.1 (gJ s).2.2 64:=rfl
   have od:=EJ s (gJ s).2.1 (gJ s).2.2 64
   rw[Zz] at Sb
   generalize bN s (gJ s).2.1 (gJ s).2.2 64=tx at*
   obtain⟨tt,a3,e3⟩:=tx
   simp only at tp Sb od ⊢
   have WU: (gJ s).1.length=g:=by rw[hP,EM]
   generalize (gJ s).1=pl at*
   have hg4:g≤4:=by omega
   have hC: ∀w',Hp w ((b5,Obj.cells (bC T v tt).toArray 172 (0,0)):: (br, .cells #[vs s,vi a3,vi e3] 217 (0,0)):: (b2,Obj.cells (bC id0 (.slice none 0 0) []).toArray 172 (0,0))::D) w'→ComS w' (.agg (bC T v tt).toArray) ⟨T,pl,tt⟩:=fun w' aB=>
    ⟨v,rfl,hG.slM (fun b o hm=>aB.has b o (by simp[hm])) WU rfl C6⟩
   have r9:New w.heap.size ((b5,Obj.cells (bC T v tt).toArray 172 (0,0)):: (br, .cells #[vs s,vi a3,vi e3] 217 (0,0)):: (b2,Obj.cells (bC id0 (.slice none 0 0) []).toArray 172 (0,0))::D):=⟨vT,kH,cU,New.mono (by omega) hN⟩
   have hR:kc s=if du s a3 e3=0∧lP ⟨T,pl,tt⟩=true∧comB ⟨T,pl,tt⟩=s then some ⟨T,pl,tt⟩ else none:=by unfold kc;rw[Sb]
   have stz: ∀a E,ac (some (a,34)) (some (.cells (bC id0 (.slice none 0 0) []).toArray E (0,0))) 0 (.agg (bC id0 (.slice none 0 0) []).toArray)=some (.cells (bC id0 (.slice none 0 0) []).toArray E (0,0)):=st5
   unfold so
   rw[hR]
   refine Ow.callFV rfl Tryz.call145 (fun w' aB=>Uz br s a3 e3 w' (aB.has _ _ (List.mem_cons_of_mem _ List.mem_cons_self))) ?_
   by_cases he:du s a3 e3=0
   ·have d1: (du s a3 e3 !=0)=false:=by simp[he]
    refine ko (And.intro @dD @d1) ?_
    refine Ow.callFV rfl Tryz.call150 (fun w' aB=>YB _ _ w' (hC w' aB) (by show pl.length<1000000;omega) (by show tt.length<1099511627776;omega)) ?_
    cases hr:lP ⟨T,pl,tt⟩
    ·rw[if_neg (by simp)]
     refine ko @dD ?_
     refine Ow.build (.agg (bC id0 (.slice none 0 0) []).toArray) rfl E9 ?_
     refine ko (And.intro @dD @stz) ?_
     first|with_reducible refine ks [] @dD ?_|refine kp @dD ?_
     refine⟨_,(ke @dD), ?_⟩
     exact⟨Ext.of_new r9,rfl⟩
    ·refine ko @dD ?_
     refine Ow.callFV rfl Tryz.call151 (fun w' aB=>Yx _ _ w' (hC w' aB) (by show pl.length<1000000;omega) (by show tt.length<1099511627776;omega)) ?_
     by_cases hb:comB ⟨T,pl,tt⟩=s
     ·have d3: (comB ⟨T,pl,tt⟩ !=s)=false:=by simp[hb]
      have stq: ∀a E,ac (some (a,34)) (some (.cells (bC id0 (.slice none 0 0) []).toArray E (0,0))) 0 (.agg (bC T v tt).toArray)=some (.cells (bC T v tt).toArray E (0,0)):=fun a E=>F0 _ _ _ _ a E (by rw[List.size_toArray,wD]) hG.cell.1
      rw[if_pos ⟨he,rfl,hb⟩]
      refine ko (And.intro @dD (And.intro @d3 (@stq))) ?_
      first|with_reducible refine ks [] @dD ?_|refine kp @dD ?_
      refine⟨_,(ke @dD), ?_⟩
      refine⟨Ext.of_new ⟨vT,kH,cU,New.mono (by omega) hN⟩,v,rfl, ?_⟩
      show Gr _ _ _ _ pl.length (pl.map jB).flatten
      rw[WU]
      exact hG.keep fun b o hb ho=>by
       have:=hN.le b (bV ho)
       simp(disch:=omega) only[Bg]
       exact ho
     ·have d3: (comB ⟨T,pl,tt⟩ !=s)=true:=by simp[hb]
      rw[if_neg (fun h=>hb h.2.2)]
      refine ko (And.intro @dD @d3) ?_
      refine Ow.build (.agg (bC id0 (.slice none 0 0) []).toArray) rfl E9 ?_
      refine ko (And.intro @dD @stz) ?_
      first|with_reducible refine ks [] @dD ?_|refine kp @dD ?_
      refine⟨_,(ke @dD), ?_⟩
      exact⟨Ext.of_new r9,rfl⟩
   ·have d1: (du s a3 e3 !=0)=true:=by simp[he]
    rw[if_neg (fun h=>he h.1)]
    refine ko (And.intro @dD @d1) ?_
    refine Ow.build (.agg (bC id0 (.slice none 0 0) []).toArray) rfl E9 ?_
    refine ko (And.intro @dD @stz) ?_
    first|with_reducible refine ks [] @dD ?_|refine kp @dD ?_
    refine⟨_,(ke @dD), ?_⟩
    exact⟨Ext.of_new r9,rfl⟩
end Go.Proofs
end
section
open Go Go.Proofs Go.Sx Go.StP
namespace Go.Proofs
set_option maxRecDepth 10000
set_option maxHeartbeats 400000
set_option linter.unusedSimpArgs false
set_option linter.defProp false
end Go.Proofs
end
section
open Go Go.Proofs Go.Sx Go.StP
namespace Go.Proofs
set_option maxRecDepth 10000
set_option maxHeartbeats 400000
set_option linter.unusedSimpArgs false
set_option linter.defProp false
end Go.Proofs
end
section
open Go Go.Proofs Go.Sx Go.StP
namespace Go.Proofs
set_option maxRecDepth 10000
set_option maxHeartbeats 400000
set_option linter.unusedSimpArgs false
abbrev obV (k:Int) (t:List UInt8):Value:= .agg #[vi k,vs t]
theorem uh (k:Int) (t:List UInt8) (E:TypeId) (fz:Nat×Nat):aF (some (true,2)) (some (.cells #[vi k,vs t] E fz)) 0=some (obV k t):=(rfl)
theorem vh (k:Int) (t:List UInt8) (n:Nat) (E:TypeId) (fz:Nat×Nat):aF (some (false,n)) (some (.cells #[vi k,vs t] E fz)) 0=some (vi k):=(rfl)
theorem vq (k:Int) (t:List UInt8) (n:Nat) (E:TypeId) (fz:Nat×Nat):aF (some (false,n)) (some (.cells #[vi k,vs t] E fz)) 1=some (vs t):=(rfl)
theorem vk (k k':Int) (t t':List UInt8) (a:Bool) (E:TypeId):ac (some (a,2)) (some (.cells #[vi k',vs t'] E (0,0))) 0 (obV k t)=some (.cells #[vi k,vs t] E (0,0)):=(rfl)
set_option linter.defProp false
def RdOk (k:Int) (t:List UInt8):Bool:=
 if 1≤k∧k≤3∧t.length≤4096 then
  (if k=1 then true else if k=2 then(du t (i7 t).2.1 (i7 t).2.2==0&&mw (i7 t).1) else(du t (comE t).2.1 (comE t).2.2==0&&lP (comE t).1))
 else false
end Go.Proofs
end
section
open Go Go.Proofs Go.Sx Go.StP
namespace Go.Proofs
set_option maxRecDepth 10000
set_option maxHeartbeats 400000
set_option linter.unusedSimpArgs false
set_option linter.defProp false
theorem zrOb:al Tryz.prog 82=some (obV 0 []):=id (by kernel_rfl)
theorem Bp:fU (cX Tryz.prog 82) (al Tryz.prog 82) []=some (obV 0 []):=by
 have hp:cX Tryz.prog 82=some [(0,1),(1,1)]:=id (by kernel_rfl)
 rw[hp,zrOb];rfl
end Go.Proofs
end
section
open Go Go.Proofs Go.Sx Go.StP
namespace Go.Proofs
set_option maxRecDepth 10000
set_option maxHeartbeats 400000
set_option linter.unusedSimpArgs false
set_option linter.defProp false
end Go.Proofs
end
section
open Go Go.Proofs Go.Sx Go.StP
namespace Go.Proofs
set_option maxRecDepth 10000
set_option maxHeartbeats 400000
set_option linter.unusedSimpArgs false
set_option linter.defProp false
end Go.Proofs
end
section
open Go Go.Proofs Go.Sx Go.StP
namespace Go.Proofs
set_option maxRecDepth 10000
set_option maxHeartbeats 400000
set_option linter.unusedSimpArgs false
set_option linter.defProp false
end Go.Proofs
end
section
open Go Go.Proofs Go.Sx Go.StP
namespace Go.Proofs
set_option maxRecDepth 10000
set_option maxHeartbeats 400000
set_option linter.unusedSimpArgs false
set_option linter.defProp false
def zq (k:Int):List UInt8:=(([32,98,116,99]:List UInt8).take (k+1).toNat).drop k.toNat
def RX (k:Int) (t:List UInt8):List UInt8:=zq k++n5 t
end Go.Proofs
end
section
open Go Go.Proofs Go.Sx Go.StP
namespace Go.Proofs
set_option maxRecDepth 10000
set_option maxHeartbeats 400000
set_option linter.unusedSimpArgs false
set_option linter.defProp false
def gc:=And.intro (And.intro (And.intro (@uh) (@vh)) (And.intro (@vq) (@vk))) (And.intro (And.intro (@Sx.tup2_0) (@Sx.tup2_1)) (And.intro (@Co) (And.intro (@ay) (@ax))))
def lM (k:Int) (t:List UInt8):Bool:=if 4096<t.length then false else if k=2 then(kZ t).isSome else if k=3 then(kc t).isSome else k==1
theorem Ub (k:Int) (t:List UInt8) (w:World):Rets Tryz.prog 54 #[obV k t] w (fun v D=>v= .bool (lM k t)∧D= []):=by
 refine Rets.enterV Tryz.func54 rfl (rs:= [.tmp 2]) Tryz.results54 Tryz.ntmps54 ?_
 refine kf ?_
 first|with_reducible refine ks [] @gc ?_|refine kp @gc ?_
 refine Ow.box rfl rfl fun b1 bE aJ=> ?_
 simp only[eU,eT,ed,bL,List.nil_append]
 refine ko @gc ?_
 unfold lM
 by_cases h3:4096<t.length
 ·have d1:decide (4096< (t.length:Int))=true:=decide_eq_true (by omega)
  rw[if_pos h3]
  first|with_reducible refine ks [] (And.intro @gc @d1) ?_|refine kp (And.intro @gc @d1) ?_
  refine⟨_,(ke @gc),⟨aJ,trivial⟩, ?_⟩
  rfl
 ·have d1:decide (4096< (t.length:Int))=false:=decide_eq_false (by omega)
  rw[if_neg h3]
  by_cases h2:k=2
  ·subst h2
   rw[if_pos rfl]
   first|with_reducible refine ks [] (And.intro @gc @d1) ?_|refine kp (And.intro @gc @d1) ?_
   refine Ow.callC rfl rfl Tryz.call108 (fun w' aB=>YW t w' (by omega)) (fun B v D hA hB hN hS=> ?_)
   obtain⟨p,b,rfl,hb⟩: ∃p b,v= .tuple #[p, .bool b]∧(kZ t).isSome=b:=by
    unfold sx at hS
    cases h:kZ t with
    |none=>rw[h] at hS;exact⟨_,_,hS,rfl⟩
    |some l=>rw[h] at hS;obtain⟨v1,rfl,-⟩:=hS;exact⟨_,_,rfl,rfl⟩
   rw[hb]
   refine ko @gc ?_
   first|with_reducible refine ks [] @gc ?_|refine kp @gc ?_
   refine⟨_,(ke @gc),⟨aJ,New.mono hB hN⟩, ?_⟩
   rfl
  ·have d2: (k==2)=false:=by simpa using h2
   rw[if_neg h2]
   by_cases h4:k=3
   ·subst h4
    rw[if_pos rfl]
    first|with_reducible refine ks [] (And.intro @gc (And.intro @d1 (@d2))) ?_|refine kp (And.intro @gc (And.intro @d1 (@d2))) ?_
    refine Ow.callC rfl rfl Tryz.call109 (fun w' aB=>Yh t w' (by omega)) (fun B v D hA hB hN hS=> ?_)
    obtain⟨c,p,x,b,rfl,hp,hb⟩: ∃c p x b,v= .tuple #[.agg (bC c p x).toArray, .bool b]∧Value.oneCell' p=true∧(kc t).isSome=b:=by
     unfold so at hS
     cases h:kc t with
     |none=>rw[h] at hS;exact⟨_,_,_,_,hS,rfl,rfl⟩
     |some l=>rw[h] at hS;obtain⟨v1,rfl,hg⟩:=hS;exact⟨_,_,_,_,rfl,hg.cell.1,rfl⟩
    rw[hb]
    have stq: ∀a E,ac (some (a,34)) (some (.cells (bC id0 (.slice none 0 0) []).toArray E (0,0))) 0 (.agg (bC c p x).toArray)=some (.cells (bC c p x).toArray E (0,0)):=fun a E=>F0 _ _ _ _ a E (by rw[List.size_toArray,wD]) hp
    refine ko @gc ?_
    refine Ow.alloc rfl rfl pY fun b5 SP vT=> ?_
    simp only[bL,List.nil_append,List.cons_append]
    refine Ow.permL (M:=(b5,Obj.cells (bC id0 (.slice none 0 0) []).toArray 172 (0,0)):: (b1,Obj.cells #[vi 3,vs t] 82 (0,0))::D) (by classical exact List.perm_iff_count.2 fun a=>by simp only[List.count_append,List.count_cons,List.count_nil]<;>omega) ?_
    refine ko (And.intro @gc @stq) ?_
    first|with_reducible refine ks [] @gc ?_|refine kp @gc ?_
    refine⟨_,(ke @gc),⟨vT,aJ,New.mono hB hN⟩, ?_⟩
    rfl
   ·have d3: (k==3)=false:=by simpa using h4
    rw[if_neg h4]
    first|with_reducible refine ks [] (And.intro @gc (And.intro @d1 (And.intro @d2 (@d3)))) ?_|refine kp (And.intro @gc (And.intro @d1 (And.intro @d2 (@d3)))) ?_
    refine⟨_,(ke @gc),⟨aJ,trivial⟩, ?_⟩
    rfl
end Go.Proofs
end
section
open Go Go.Proofs Go.Sx Go.StP
namespace Go.Proofs
set_option maxRecDepth 10000
set_option maxHeartbeats 400000
set_option linter.unusedSimpArgs false
theorem I3 (most:Int): ∀ (l:List UInt8) (k acc m k':Nat),dP most l k acc= .ok (m,k')→ ∃n,l=numL n++l.drop (k' - k)∧m=acc+n*128^k∧(0<k→0<n)∧k<k':=by
 intro l
 induction l with
 |nil=>intro k acc m k' h;simp[dP] at h
 |cons c r ih=>
  intro k acc m k' h
  unfold dP at h
  have qC:=c.toNat_lt
  split at h
  ·rename_i hc
   split at h
   ·cases h
   ·obtain⟨n,h1,h2,h3,h4⟩:=ih _ _ _ _ h
    have hn:=h3 (by omega)
    refine⟨c.toNat%128+128*n, ?_, ?_,fun _=>by omega,by omega⟩
    ·rw[CI (by omega),show(c.toNat%128+128*n) / 128=n by omega,show(c.toNat%128+128*n)%128+128=c.toNat by omega]
     rw[show k' - k=(k' - (k+1))+1 by omega,List.drop_succ_cons,List.cons_append,←h1]
     simp
    ·rw[h2,Nat.pow_succ,Nat.add_mul,Nat.add_assoc]
     congr 2
     rw[Nat.mul_comm 128 n,Nat.mul_assoc,Nat.mul_comm (128^k) 128]
  ·rename_i hc
   split at h
   ·cases h
   ·rename_i hz
    split at h
    ·cases h
     refine⟨c.toNat, ?_, ?_,fun hk=>by omega,by omega⟩
     ·rw[Be (by omega),Nat.add_sub_cancel_left]
      simp
     ·rw[Nat.mod_eq_of_lt (by omega)]
    ·cases h
theorem EZ {n:Nat} (h:n≤1099511627775):iv (n:Int)=n:=Bl (by omega)
theorem Us (most:Int): ∀ (l:List UInt8) (k n m k':Nat),dP most l k n= .ok (m,k')→m≤1099511627775
 | [],_,_,_,_,h=>by simp[dP] at h
 |c::r,k,n,m,k',h=>by
  unfold dP at h
  split at h
  ·split at h
   ·cases h
   ·exact Us most r _ _ _ _ h
  ·split at h
   ·cases h
   ·split at h
    ·rename_i hh
     cases h
     exact hh.1
    ·cases h
theorem FH {s:List UInt8} {a:Nat} {most:Int} (h: (aE s a 0 most).2.2=0): ∃n:Nat,(aE s a 0 most).1=(n:Int)∧n≤1099511627775∧(n:Int)≤most∧s.drop a=numL n++s.drop (aE s a 0 most).2.1:=by
 unfold aE at h ⊢
 rw[if_neg (by simp)] at h ⊢
 cases hg:dP most (s.drop a) 0 0 with
 |ok p=>
  obtain⟨m,k⟩:=p
  obtain⟨n,h1,h2,-,-⟩:=I3 _ _ _ _ _ _ hg
  obtain rfl:m=n:=by rw[h2];simp
  refine⟨m,rfl,Us _ _ _ _ _ _ hg,UM _ _ _ _ _ _ hg, ?_⟩
  rw[Nat.sub_zero,List.drop_drop] at h1
  exact h1
 |error x=>
  rw[hg] at h
  exfalso
  have:x=0:=by have: ((x:Nat):Int)=0:=h;omega
  subst this
  exact yz _ _ _ _ hg
theorem Uj {s:List UInt8} {a:Nat} {n:Int} (ha:a≤s.length) (h: (bK s a 0 n).2.2=0):0≤n∧(bK s a 0 n).1.length=n.toNat∧s.drop a=(bK s a 0 n).1++s.drop (bK s a 0 n).2.1:=by
 unfold bK at h ⊢
 rw[if_neg (by simp)] at h ⊢
 split at h
 ·exact absurd (show(2:Int)=0 from h) (by decide)
 ·rename_i h1
  rw[if_neg h1]
  split at h
  ·exact absurd (show(3:Int)=0 from h) (by decide)
  ·rename_i h2
   rw[if_neg h2]
   refine⟨by omega, ?_, ?_⟩
   ·simp only[List.length_take,List.length_drop];omega
   ·simp only
    rw[←List.drop_drop,List.take_append_drop]
theorem Vg {s:List UInt8} {a:Nat} {most:Int} (ha:a≤s.length) (h: (bN s a 0 most).2.2=0): ((bN s a 0 most).1.length:Int)≤most∧s.drop a=n5 (bN s a 0 most).1++s.drop (bN s a 0 most).2.1:=by
 have eW:=jM (e:=0) (most:=most) ha
 have e1: (aE s a 0 most).2.2=0:=Decidable.byContradiction fun hn=>by
  unfold bN at h
  simp only[pN hn] at h
  rw[if_pos hn] at h
  exact hn h
 obtain⟨n,hn,hb,hm,hd⟩:=FH e1
 unfold bN at h ⊢
 simp only at h ⊢
 generalize aE s a 0 most=p at*
 obtain⟨p1,p2,p3⟩:=p
 simp only at e1 hn hd eW h ⊢
 subst e1 hn
 have e2: (bK s p2 0 (n:Int)).2.2=0:=Decidable.byContradiction fun hh=>by rw[if_pos hh] at h;exact hh h
 rw[if_neg (by simp[e2])]
 obtain⟨-,hl,hr⟩:=Uj eW.2 e2
 rw[Int.toNat_natCast] at hl
 refine⟨by rw[hl];exact hm, ?_⟩
 unfold n5
 rw[hl,EZ hb,List.append_assoc,←hr]
 exact hd
theorem EL {s:List UInt8} {a:Nat} (ha:a≤s.length) (h: (idR s a 0).2.2=0):s.drop a=(n9 (idR s a 0).1).l++s.drop (idR s a 0).2.1:=by
 have e2: (bK s a 0 32).2.2=0:=h
 obtain⟨-,hl,hr⟩:=Uj ha e2
 rw[CG (Ch s a 0)]
 unfold idR
 simp only
 have l6: (bK s a 0 32).1.length=32:=hl
 rw[if_pos l6]
 exact hr
theorem JK {s:List UInt8} {a:Nat} (ha:a≤s.length) (h: (gk s a 0).2.2=0):s.drop a=entB (gk s a 0).1++s.drop (gk s a 0).2.1:=by
 have hq:=jM (e:=0) (most:=2) ha
 unfold gk at h ⊢
 simp only at h ⊢
 have e1: (aE s a 0 2).2.2=0:=Decidable.byContradiction fun hn=>by
  rw[nN (by rw[Ce hn];exact hn),Ce hn] at h;exact hn h
 obtain⟨n,hn,hb,-,hd⟩:=FH e1
 generalize aE s a 0 2=p at*
 obtain⟨p1,p2,p3⟩:=p
 simp only at e1 hn hd hq h ⊢
 subst e1 hn
 have ht:=uS (e:=0) (most:=32) hq.2
 have e2: (bN s p2 0 32).2.2=0:=Decidable.byContradiction fun hn=>by rw[nN hn] at h;exact hn h
 obtain⟨-,jG⟩:=Vg hq.2 e2
 generalize bN s p2 0 32=q at*
 obtain⟨q1,q2,q3⟩:=q
 simp only at e2 jG ht h ⊢
 subst e2
 have Aa:=EL ht.2 h
 unfold entB
 simp only
 rw[EZ hb,List.append_assoc,List.append_assoc,←Aa,←jG]
 exact hd
theorem Im (l:List EntL) (x:EntL):i9 (l++ [x])=i9 l++entB x:=by unfold i9;simp
theorem V2 {s:List UInt8}: ∀ (n a:Nat) (e:Int) (l:List EntL),a≤s.length→(e=0→s=i9 l++s.drop a)→((lc s n a e l).2.2=0→s=i9 (lc s n a e l).1++s.drop (lc s n a e l).2.1)
 |0,_,_,_,_,h=>h
 |n+1,a,e,l,ha,h=>by
  by_cases hc:e=0∧a<s.length
  ·rw[EP hc]
   refine V2 n _ _ _ (sS ha).2 fun h0=> ?_
   obtain⟨rfl,-⟩:=hc
   rw[Im,List.append_assoc,←JK ha h0]
   exact h rfl
  ·rw[FL hc]
   exact h
theorem EN {s:List UInt8} {a:Nat} {e:Int} (h:du s a e=0):e=0∧s.length≤a:=by
 unfold du at h
 split at h
 ·rename_i he;exact absurd h he
 ·rename_i he
  split at h
  ·exact absurd h (by decide)
  ·exact⟨Decidable.byContradiction he,by omega⟩
theorem Hx {s:List UInt8} (h:du s (i7 s).2.1 (i7 s).2.2=0):i9 (i7 s).1=s:=by
 obtain⟨h1,h2⟩:=EN h
 have:=V2 (s:=s) (s.length+1) 0 0 [] (Nat.zero_le _) (fun _=>by simp[i9]) h1
 rw[show lc s (s.length+1) 0 0 []=i7 s from rfl,List.drop_eq_nil_of_le h2,List.append_nil] at this
 exact this.symm
theorem Vs {s:List UInt8}: ∀ (n a:Nat) (e:Int) (l:List EntL),a≤s.length→(e=0→s.length<a+n)→(lc s n a e l).2.2=0→s.length≤ (lc s n a e l).2.1
 |0,a,e,l,ha,hf,h=>by have:=hf h;show s.length≤a;omega
 |n+1,a,e,l,ha,hf,h=>by
  by_cases hc:e=0∧a<s.length
  ·rw[EP hc] at h ⊢
   refine Vs n _ _ _ (sS ha).2 (fun h0=> ?_) h
   obtain⟨rfl,-⟩:=hc
   have:=yk ha h0
   have:=hf rfl
   omega
  ·rw[FL hc] at h ⊢
   have h':e=0:=h
   exact Decidable.byContradiction fun hn=>hc ⟨h',by have aN: ¬s.length≤a:=hn;omega⟩
theorem wV (s:List UInt8): (du s (i7 s).2.1 (i7 s).2.2=0)↔(i7 s).2.2=0:=by
 refine⟨fun h=>(EN h).1,fun h=> ?_⟩
 have:=Vs (s:=s) (s.length+1) 0 0 [] (Nat.zero_le _) (fun _=>by omega) h
 have h2:s.length≤ (i7 s).2.1:=this
 unfold du
 rw[if_neg (by simp[h]),if_neg (by omega)]
theorem KQ (l:List IdL) (x:IdL):idsB (l++ [x])=idsB l++x.l:=by unfold idsB;simp
theorem UU {s:List UInt8} {a:Nat} (ha:a≤s.length): ∀n,(cO s a 0 n).2.2=0→s.drop a=idsB (cO s a 0 n).1++s.drop (cO s a 0 n).2.1
 |0,_=>by simp[cO,idsB]
 |n+1,h=>by
  unfold cO at h ⊢
  simp only at h ⊢
  have e1: (cO s a 0 n).2.2=0:=Decidable.byContradiction fun hn=>by rw[nN hn] at h;exact hn h
  have ih:=UU ha n e1
  have hl:=CR (e:=0) ha n
  generalize cO s a 0 n=p at*
  obtain⟨p1,p2,p3⟩:=p
  simp only at e1 ih hl h ⊢
  subst e1
  rw[KQ,List.append_assoc,←EL hl h]
  exact ih
theorem zL {s:List UInt8} {a:Nat} {e:Int} (he:e≠0): ∀n,(cO s a e n).2=(a,e)
 |0=>rfl
 |n+1=>by
  have ih:=zL (s:=s) (a:=a) he n
  unfold cO
  simp only
  rw[ih,nN he]
theorem It {s:List UInt8} (h:du s (comE s).2.1 (comE s).2.2=0):comB (comE s).1=s:=by
 obtain⟨h1,h2⟩:=EN h
 have ip:=nJ (s:=s) (a:=0) (e:=0) (Nat.zero_le _)
 have np:=jM (e:=(idR s 0 0).2.2) (most:=4) ip.2
 unfold comE at h1 h2 ⊢
 simp only at h1 h2 ⊢
 have e3: (gJ s).2.2=0:=Decidable.byContradiction fun hn=>by unfold comT at h1;rw[Ce hn] at h1;exact hn h1
 have e2: (comN s).2.2=0:=Decidable.byContradiction fun hn=>by unfold gJ at e3;rw[zL hn] at e3;exact hn e3
 have e1: (idR s 0 0).2.2=0:=Decidable.byContradiction fun hn=>by unfold comN at e2;rw[tA hn] at e2;exact hn e2
 have d1:=EL (Nat.zero_le _) e1
 rw[e1] at np
 have DV:comN s=aE s (idR s 0 0).2.1 0 4:=by unfold comN;rw[e1]
 rw[DV] at e2
 obtain⟨n,hn,hb,-,d2⟩:=FH e2
 have AU:gJ s=cO s (comN s).2.1 0 n:=by unfold gJ;rw[DV,e2,hn,Int.toNat_natCast]
 have hp: (comN s).2.1≤s.length:=by rw[DV];exact np.2
 rw[AU] at e3
 have d3:=UU hp n e3
 have fT: (gJ s).1.length=n:=by rw[AU,EM]
 have WZ:comT s=bN s (gJ s).2.1 0 64:=by unfold comT;rw[AU,e3]
 have eW: (gJ s).2.1≤s.length:=by rw[AU];exact CR hp n
 rw[WZ] at h1
 obtain⟨-,d4⟩:=Vg eW h1
 rw[←WZ] at d4
 rw[←AU] at d3
 rw[←DV] at d2
 unfold comB kb
 simp only
 rw[fT,EZ hb]
 rw[List.drop_eq_nil_of_le h2,List.append_nil] at d4
 rw[List.append_assoc,List.append_assoc,←d4,←d3,←d2,←d1]
 rfl
theorem VO (k:Int) (t:List UInt8):RdOk k t=lM k t:=by
 unfold RdOk lM
 by_cases h4:4096<t.length
 ·rw[if_neg (by omega),if_pos h4]
 ·rw[if_neg h4]
  by_cases h2:k=2
  ·subst h2
   rw[if_pos (by omega),if_neg (by decide),if_pos rfl,if_pos rfl]
   unfold kZ
   by_cases hz:du t (i7 t).2.1 (i7 t).2.2=0
   ·have:=Hx hz
    have h1:=(wV t).1 hz
    rw[hz]
    cases ho:mw (i7 t).1
    ·rw[if_neg (fun h=>by cases h.2.1)];rfl
    ·rw[if_pos ⟨h1,rfl,this⟩];rfl
   ·have h': ¬ (i7 t).2.2=0:=fun h=>hz ((wV t).2 h)
    simp[hz,h']
  ·by_cases h3:k=3
   ·subst h3
    rw[if_pos (by omega),if_neg (by decide),if_neg (by decide),if_neg (by decide),if_pos rfl]
    unfold kc
    by_cases hz:du t (comE t).2.1 (comE t).2.2=0
    ·have:=It hz
     cases ho:lP (comE t).1<;>simp[hz,this]
    ·simp[hz]
   ·rw[if_neg h2,if_neg h3]
    by_cases h1:k=1
    ·subst h1
     rw[if_pos (by omega)];rfl
    ·rw[if_neg (by omega)]
     simp[h1,h2]
end Go.Proofs
end
section
open Go Go.Proofs Go.Sx Go.StP
namespace Go.Proofs
set_option maxRecDepth 10000
set_option maxHeartbeats 400000
set_option linter.unusedSimpArgs false
def idxT (s:List UInt8):List UInt8→Int
 | []=>0
 |c::_=>Lib.indexByte s c
abbrev letL:List UInt8:= [32,98,116,99]
def frR (s:List UInt8):List UInt8×Nat×Int:=bK s 0 0 1
def frT (s:List UInt8):List UInt8×Nat×Int:=bN s (frR s).2.1 (frR s).2.2 4096
def frK (s:List UInt8):Int:=idxT letL (frR s).1
def frOk (s:List UInt8):Bool:=du s (frT s).2.1 (frT s).2.2==0&&RdOk (frK s) (frT s).1
set_option linter.defProp false
end Go.Proofs
end
