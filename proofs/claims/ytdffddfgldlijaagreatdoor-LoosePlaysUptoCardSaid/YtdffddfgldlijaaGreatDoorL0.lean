/-
  Part 0 of the walk: contracts of the functions that the law reaches, and the calculus they stand on.
  No conditions.
-/
import Derived.WalkKit
import Derived.Deep.LoopGhost
import Derived.ScopeJumps
set_option linter.defProp false
def aK:=@decide_eq_true
def aO:=@decide_eq_false
def aV:=@Nat.zero_le
def am:=@List.mem_cons_self
def bq:=@Nat.le_refl
def cN:=@List.mem_cons_of_mem
def cz:=@List.mem_append_left
def dJ:=@List.mem_append_right
set_option linter.defProp false
set_option linter.unusedSimpArgs false
def aN {a b:Prop} (x:a) (y:b):a∧b:=⟨x,y⟩
open Classical in
def pM {α:Type} {l m:List α} (h:∀ a:α,l.count a=m.count a:=by intro a;simp only[List.count_append,List.count_cons,List.count_nil]<;>omega):l.Perm m:=List.perm_iff_count.2 h
def oM {p:Prop} (h:p:=by omega):p:=h
def kR {p:Prop} (h:p:=by kernel_rfl):p:=h
namespace Go.Sx
open Go
abbrev aB:=List (Nat×Obj)
def keys (L:aB):List Nat:=L.map Prod.fst
def look:aB→Nat→Option Obj
 | [],_=>none
 | (b,o)::r,k=>if b=k then some o else look r k
def setB:aB→Nat→Obj→aB
 | [],_,_=> []
 | (b,o)::r,k,x=>if b=k then(b,x)::r else(b,o)::setB r k x
def cQ {L:aB} {k:Nat} {o:Obj} (h:look L k=some o): (k,o)∈L:=by
 induction L with
 |nil=>cases h
 |cons p r ih=>
  obtain⟨b,x⟩:=p
  unfold look at h
  split at h
  ·rename_i e
   cases h;subst e;exact am
  exact cN _ (ih h)
def J6 {L:aB} {k:Nat} (h:look L k=none):k∉keys L:=by
 induction L with
 |nil=>intro h;cases h
 |cons p r ih=>
  obtain⟨b,x⟩:=p
  unfold look at h
  split at h
  ·cases h
  rename_i e
  intro hm
  rcases List.mem_cons.1 hm with h'|h'
  ·exact e h'.symm
  exact ih h h'
def l5 (L:aB) (k:Nat) (x:Obj):keys (setB L k x)=keys L:=by
 induction L with
 |nil=>rfl
 |cons p r ih=>
  obtain⟨b,o⟩:=p
  unfold setB
  split
  ·rfl
  simp only[keys,List.map_cons] at ih ⊢
  rw[ih]
def EN {L:aB} (hn: (keys L).Nodup) {k b:Nat} {x o:Obj} (h: (b,o)∈setB L k x): (b=k∧o=x)∨(b≠k∧(b,o)∈L):=by
 induction L with
 |nil=>cases h
 |cons p r ih=>
  obtain⟨c,y⟩:=p
  simp only[keys,List.map_cons,List.nodup_cons] at hn
  unfold setB at h
  split at h
  ·rename_i e
   rcases List.mem_cons.1 h with h'|h'
   ·simp only[Prod.mk.injEq] at h'
    exact .inl ⟨h'.1.trans e,h'.2⟩
   refine .inr ⟨?_,cN _ h'⟩
   intro e2
   exact hn.1 (by rw[e,←e2];exact List.mem_map.2 ⟨_,h',rfl⟩)
  rename_i e
  rcases List.mem_cons.1 h with h'|h'
  ·simp only[Prod.mk.injEq] at h'
   refine .inr ⟨by rw[h'.1];exact e, ?_⟩
   rw[h'.1,h'.2];exact am
  rcases ih hn.2 h' with h2|h2
  ·exact .inl h2
  exact .inr ⟨h2.1,cN _ h2.2⟩
structure Hp (w0:World) (L:aB) (w:World):Prop where
 has: ∀b o,(b,o)∈L→w.heap[b]? =some o
 nodup: (keys L).Nodup
 old: ∀b,b<w0.heap.size→b∉keys L→w.heap[b]? =w0.heap[b]?
 size:w0.heap.size≤w.heap.size
 tape:w.tape=w0.tape
 os:w.os=w0.os
 output:w.output=w0.output
def Hp.refl (w:World):Hp w [] w:=
 ⟨fun _ _ h=>(by cases h),List.nodup_nil,fun _ _ _=>rfl,bq _,rfl,rfl,rfl⟩
def Hp.lt {w0 w:World} {L:aB} (h:Hp w0 L w) {b:Nat} (hb:b∈keys L):b<w.heap.size:=by
 obtain⟨p,hp,rfl⟩:=List.mem_map.1 hb
 have:=h.has p.1 p.2 hp
 exact(Array.getElem?_eq_some_iff.1 this).1
def Hp.of_heap {w0 w w':World} {L:aB} (h:Hp w0 L w) (hh:w'.heap=w.heap) (ht:w'.tape=w.tape) (ho:w'.os=w.os) (hu:w'.output=w.output):Hp w0 L w':=
 ⟨by rw[hh];exact h.has,h.nodup,by rw[hh];exact h.old,by rw[hh];exact h.size,ht.trans h.tape,ho.trans h.os,hu.trans h.output⟩
theorem Hp.drew {w0 w:World} {L:aB} (h:Hp w0 L w):Hp w0 L w.drew:=h.of_heap rfl rfl rfl rfl
theorem Hp.alloc {w0 w:World} {L:aB} (h:Hp w0 L w) (o:Obj):Hp w0 (L++ [(w.heap.size,o)]) (w.alloc o):=by
 have hk: ∀b,b∈keys (L++ [(w.heap.size,o)])→b∈keys L∨b=w.heap.size:=by
  intro b hb
  simp only[keys,List.map_append,List.map_cons,List.map_nil,List.mem_append,List.mem_singleton] at hb
  exact hb
 refine⟨?_, ?_, ?_, ?_,h.tape,h.os,h.output⟩
 ·intro b x hm
  rcases List.mem_append.1 hm with hm|hm
  ·have aC:b<w.heap.size:=h.lt (List.mem_map.2 ⟨_,hm,rfl⟩)
   rw[RowKit.Below.heap_alloc w o b aC];exact h.has b x hm
  simp only[List.mem_singleton,Prod.mk.injEq] at hm
  rw[hm.1,hm.2];exact(by show(w.heap.push o)[w.heap.size]? =some o;simp)
 ·simp only[keys,List.map_append,List.map_cons,List.map_nil]
  refine List.nodup_append.2 ⟨h.nodup,List.pairwise_singleton _ _, ?_⟩
  intro a ha b hb
  simp only[List.mem_singleton] at hb
  have:=h.lt ha
  omega
 ·intro b hb hn
  rw[RowKit.Below.heap_alloc w o b (Nat.lt_of_lt_of_le hb h.size)]
  refine h.old b hb (fun hm=>hn ?_)
  simp only[keys,List.map_append,List.mem_append]
  exact .inl hm
 rw[World.size_alloc];have:=h.size;omega
def Hp.set {w0 w w':World} {L:aB} (h:Hp w0 L w) {b:Nat} {x:Obj} (hb:b∈keys L) (hh:w'.heap=w.heap.setIfInBounds b x)
  (ht:w'.tape=w.tape) (ho:w'.os=w.os) (hu:w'.output=w.output):Hp w0 (setB L b x) w':=by
 have aC:=h.lt hb
 refine⟨?_,by rw[l5];exact h.nodup, ?_, ?_,ht.trans h.tape,ho.trans h.os,hu.trans h.output⟩
 ·intro c o hm
  rw[hh]
  rcases EN h.nodup hm with⟨rfl,rfl⟩ | ⟨aX,ii⟩
  ·simp[aC]
  rw[Array.getElem?_setIfInBounds_ne (Ne.symm aX)];exact h.has c o ii
 ·intro c hc hn
  rw[l5] at hn
  have aX:b≠c:=fun e=>hn (e▸hb)
  rw[hh,Array.getElem?_setIfInBounds_ne aX]
  exact h.old c hc hn
 rw[hh];simpa using h.size
def Hp.own {w0 w:World} {L:aB} (h:Hp w0 L w) {b:Nat} {o:Obj} (hb:w0.heap[b]? =some o) (hn:b∉keys L):Hp w0 (L++ [(b,o)]) w:=by
 have aC:b<w0.heap.size:=(Array.getElem?_eq_some_iff.1 hb).1
 refine⟨?_, ?_, ?_,h.size,h.tape,h.os,h.output⟩
 ·intro c x hm
  rcases List.mem_append.1 hm with hm|hm
  ·exact h.has c x hm
  simp only[List.mem_singleton,Prod.mk.injEq] at hm
  rw[hm.1,hm.2,h.old b aC hn];exact hb
 ·simp only[keys,List.map_append,List.map_cons,List.map_nil]
  refine List.nodup_append.2 ⟨h.nodup,List.pairwise_singleton _ _, ?_⟩
  intro a ha c hc
  simp only[List.mem_singleton] at hc
  subst hc
  exact fun e=>hn (e▸ha)
 intro c hc hm
 exact h.old c hc (fun ii=>hm (by simp only[keys,List.map_append,List.mem_append];exact .inl ii))
def Hp.drop {w0 w:World} {L M:aB} (h:Hp w0 L w) (hM: ∀p∈M,p∈L) (hn: (keys M).Nodup) (ku: ∀p∈L,p.1<w0.heap.size→p.1∉keys M→w0.heap[p.1]? =some p.2):Hp w0 M w:=by
 refine⟨fun b o hm=>h.has b o (hM _ hm),hn, ?_,h.size,h.tape,h.os,h.output⟩
 intro b hb hm
 by_cases hk:b∈keys L
 ·obtain⟨p,hp,rfl⟩:=List.mem_map.1 hk
  rw[h.has _ _ hp,ku p hp hb hm]
 exact h.old b hb hk
theorem Hp.trans {w0 w w':World} {L D:aB} (h:Hp w0 L w) (k:Hp w D w'):Hp w0 (L.filter (fun p=> !(keys D).contains p.1)++D) w':=by
 have hf: ∀b,b∈keys (L.filter (fun p=> !(keys D).contains p.1))↔b∈keys L∧b∉keys D:=by
  intro b
  constructor
  ·intro hb
   obtain⟨p,hp,rfl⟩:=List.mem_map.1 hb
   have:=List.mem_filter.1 hp
   refine⟨List.mem_map.2 ⟨p,this.1,rfl⟩, ?_⟩
   simpa using this.2
  rintro⟨hb,hn⟩
  obtain⟨p,hp,rfl⟩:=List.mem_map.1 hb
  exact List.mem_map.2 ⟨p,List.mem_filter.2 ⟨hp,by simpa using hn⟩,rfl⟩
 refine⟨?_, ?_, ?_,Nat.le_trans h.size k.size,k.tape.trans h.tape,k.os.trans h.os,k.output.trans h.output⟩
 ·intro b o hm
  rcases List.mem_append.1 hm with hm|hm
  ·have hb:b∈keys (L.filter (fun p=> !(keys D).contains p.1)):=List.mem_map.2 ⟨_,hm,rfl⟩
   have dO:=(hf b).1 hb
   rw[k.old b (h.lt dO.1) dO.2]
   exact h.has b o (List.mem_filter.1 hm).1
  exact k.has b o hm
 ·simp only[keys,List.map_append]
  refine List.nodup_append.2 ⟨?_,k.nodup, ?_⟩
  ·exact List.Nodup.sublist (List.Sublist.map _ List.filter_sublist) h.nodup
  intro a ha b hb e
  exact((hf a).1 ha).2 (e▸hb)
 intro b hb hn
 have aT:b∉keys L∧b∉keys D:=by
  simp only[keys,List.map_append,List.mem_append,not_or] at hn
  have hD:b∉keys D:=hn.2
  exact⟨fun hm=>hn.1 ((hf b).2 ⟨hm,hD⟩),hD⟩
 rw[k.old b (Nat.lt_of_lt_of_le hb h.size) aT.2]
 exact h.old b hb aT.1
def Hp.trans_nil {w0 w w':World} {L:aB} (h:Hp w0 L w) (k:Hp w [] w'):Hp w0 L w':=by
 have:=h.trans k
 rwa [show L.filter (fun p=> !(keys ([]:aB)).contains p.1)++ []=L from by simp[keys]] at this
def aU (w0:World) (L:aB) (b:Nat):Option Obj:=
 match look L b with
 |some o=>some o
 |none=>w0.heap[b]?
def Hp.read {w0 w:World} {L:aB} (h:Hp w0 L w) {b:Nat} {o:Obj} (hr:aU w0 L b=some o):w.heap[b]? =some o:=by
 unfold aU at hr
 split at hr
 ·rename_i o' hl
  cases hr
  exact h.has _ _ (cQ hl)
 rename_i hl
 rw[h.old b (Array.getElem?_eq_some_iff.1 hr).1 (J6 hl)]
 exact hr
abbrev Fr:=List Value
def ec:Fr→Nat→Value
 | [],_=>undef
 |v::_,0=>v
 |_::r,n+1=>ec r n
def setF:Fr→Nat→Value→Fr
 | [],_,_=> []
 |_::r,0,x=>x::r
 |v::r,n+1,x=>v::setF r n x
def al (f:Fr):Option Tmp→Value→Fr
 |some d,v=>setF f d v
 |none,_=>f
def ev (f:Fr):Operand→Value
 | .tmp t=>ec f t
 | .const v=>v
 | .global g=> .pointer (some ⟨g,0,none⟩)
 | .func k=> .func (.func k) #[] #[]
def tM (f:Fr) (t:Nat):f.toArray.getD t undef=ec f t:=by
 rw[Array.getD_eq_getD_getElem?,List.getElem?_toArray]
 induction f generalizing t with
 |nil=>rfl
 |cons v r ih=>cases t<;>simp[ec,ih]
def FX (f:Fr) (d:Nat) (v:Value):f.toArray.setIfInBounds d v=(setF f d v).toArray:=by
 rw[List.setIfInBounds_toArray]
 congr 1
 induction f generalizing d with
 |nil=>rfl
 |cons x r ih=>cases d<;>simp[setF,ih]
def act (f:Fr):Act:=⟨f.toArray,[]⟩
def Dt (f:Fr) (x:Operand): (act f).eval x=ev f x:=by
 cases x with
 |tmp t=>exact tM f t
 |_=>rfl
def sm (f:Fr): (act f).eval=ev f:=funext (Dt f)
def gN (f:Fr) (d:Option Tmp) (v:Value): (act f).put d v=act (al f d v):=by
 cases d with
 |none=>rfl
 |some d=>simp only[act,Act.put,al,FX]
def v_ {a:Act} (h:a.defers= []):a=act a.tmps.toList:=by
 cases a with
 |mk t d=>simp only at h;subst h;simp[act]
abbrev d9:=Exit→Fr→aB→Prop
def post (w0:World) (K:d9) (e:Exit) (a:Act) (w:World):Prop:=a.defers= []∧ ∃L,Hp w0 L w∧K e a.tmps.toList L
def Cw (P:Program) (w0:World) (c:Code) (f:Fr) (L:aB) (K:d9):Prop:=
 ∀w,Hp w0 L w→c.wp P (post w0 K) (act f) w
def lR (N:Fr→aB→Prop) (K:d9):d9
 | .normal=>N
 | .exit i=>K (.exit i)
 | .goto i=>K (.goto i)
 | .ret=>K .ret
 | .panic c=>K (.panic c)
 | .outgrown=>K .outgrown
def oF (id:Nat) (K:d9):d9
 | .normal=>K .normal
 | .exit i=>if i=id then K .normal else K (.exit i)
 | .goto i=>K (.goto i)
 | .ret=>K .ret
 | .panic c=>K (.panic c)
 | .outgrown=>K .outgrown
section
variable {P:Program} {w0:World} {f:Fr} {L:aB} {K:d9}
def Cw.mono {c:Code} {K':d9} (h:Cw P w0 c f L K) (hk: ∀e f L,K e f L→K' e f L):Cw P w0 c f L K':=
 fun w hw=>wp_mono (h w hw) fun _ _ _ ⟨hd,L',hp,k⟩=>⟨hd,L',hp,hk _ _ _ k⟩
theorem Cw.seq {x y:Code} (h:Cw P w0 x f L (lR (fun f L=>Cw P w0 y f L K) K)):Cw P w0 (.seq x y) f L K:=by
 intro w hw
 refine wp_seq (wp_mono (h w hw) ?_)
 rintro e a w' ⟨hd,L',hp,k⟩
 cases e with
 |normal=>
  have:=k w' hp
  rw[←v_ hd] at this
  exact this
 |_=>exact⟨hd,L',hp,k⟩
theorem Cw.skip (h:K .normal f L):Cw P w0 .skip f L K:=fun w hw=>wp_skip ⟨rfl,L,hw,by simpa [act] using h⟩
theorem Cw.label {l:Nat} (h:K .normal f L):Cw P w0 (.label l) f L K:=fun w hw=>wp_label ⟨rfl,L,hw,by simpa [act] using h⟩
theorem Cw.exit {i:Nat} (h:K (.exit i) f L):Cw P w0 (.exit i) f L K:=fun w hw=>wp_exit ⟨rfl,L,hw,by simpa [act] using h⟩
theorem Cw.goto {i:Nat} (h:K (.goto i) f L):Cw P w0 (.goto i) f L K:=fun w hw=>wp_goto ⟨rfl,L,hw,by simpa [act] using h⟩
theorem Cw.ret (h:K .ret f L):Cw P w0 .ret f L K:=fun w hw=>wp_ret ⟨rfl,L,hw,by simpa [act] using h⟩
theorem Cw.cond {c:Operand} {x y:Code} {b:Bool} (hc:ev f c= .bool b) (ht:b=true→Cw P w0 x f L K) (he:b=false→Cw P w0 y f L K):Cw P w0 (.cond c x y) f L K:=by
 intro w hw
 have j5: (act f).eval c= .bool b:=(Dt f c).trans hc
 cases b with
 |true=>exact wp_cond_true j5 (ht rfl w hw)
 |false=>exact wp_cond_false j5 (he rfl w hw)
theorem Cw.block {id:Nat} {c:Code} (h:Cw P w0 c f L (oF id K)):Cw P w0 (.block id c) f L K:=by
 intro w hw
 refine wp_block (wp_mono (h w hw) ?_)
 rintro e a w' ⟨hd,L',hp,k⟩
 cases e with
 |exit i=>
  simp only[Exit.inBlock]
  simp only[oF] at k
  split
  ·rename_i e;rw[if_pos e] at k;exact⟨hd,L',hp,k⟩
  rename_i e;rw[if_neg e] at k;exact⟨hd,L',hp,k⟩
 |_=>exact⟨hd,L',hp,k⟩
theorem Cw.loop {c:Code} (I:Nat→Fr→aB→Prop) (n0:Nat) (h0:I n0 f L)
  (round: ∀n f L,I n f L→Cw P w0 c f L (lR (fun f' L'=> ∃n',n'<n∧I n' f' L') K)):Cw P w0 (.loop c) f L K:=by
 intro w hw
 refine wp_loop_ghost (fun n a w=>a.defers= []∧ ∃L,Hp w0 L w∧I n a.tmps.toList L) n0 ⟨rfl,L,hw,by simpa [act] using h0⟩ ?_
 rintro n a w ⟨hd,L,hp,hI⟩
 have:=round n _ _ hI w hp
 rw[←v_ hd] at this
 refine wp_mono this ?_
 rintro e a' w' ⟨iK,L',uQ,k⟩
 cases e with
 |normal=>
  obtain⟨n',aC,n2⟩:=k
  exact⟨n',aC,iK,L',uQ,n2⟩
 |_=>exact⟨iK,L',uQ,k⟩
end
def over (j:Nat→Value) (M:List Nat) (f:Fr):Fr:=f.zipIdx.map fun p=>if M.contains p.2 then j p.2 else p.1
def pin (f:Fr):List (Nat×Value)→Fr
 | []=>f
 | (t,v)::r=>pin (setF f t v) r
def mQ (j:Nat→Value) (M:List Nat):Nat→Fr→Fr
 |_,[]=> []
 |n,v::r=>(if M.contains n then j n else v)::mQ j M (n+1) r
def Again {G:Type} (M:List Nat) (S:G→List (Nat×Value)) (H:G→aB) (J:G→Prop) (μ:G→Nat) (f:Fr) (g:G) (f':Fr) (L':aB):Prop:=
 ∃g',μ g'<μ g∧J g'∧L'=H g'∧f'=pin (mQ (ec f') M 0 f) (S g')
def Again.mk {G:Type} {M:List Nat} {S:G→List (Nat×Value)} {H:G→aB} {J:G→Prop} {μ:G→Nat} {f:Fr} {g:G} {f':Fr} {L':aB} (g':G)
  (hμ:μ g'<μ g) (hJ:J g') (hL:L'=H g') (hf:f'=pin (mQ (ec f') M 0 f) (S g')):Again M S H J μ f g f' L':=⟨g',hμ,hJ,hL,hf⟩
section
variable {P:Program} {w0:World} {f:Fr} {L:aB} {K:d9}
def Cw.loopG {c:Code} {G:Type} (M:List Nat) (S:G→List (Nat×Value)) (H:G→aB) (J:G→Prop) (μ:G→Nat) (g0:G)
  (hf:f=pin (mQ (ec f) M 0 f) (S g0)) (hL:L=H g0) (hJ:J g0)
  (round: ∀ (g:G) (j:Nat→Value),J g→Cw P w0 c (pin (mQ j M 0 f) (S g)) (H g)
   (lR (Again M S H J μ f g) K)):Cw P w0 (.loop c) f L K:=by
 refine Cw.loop (fun n f' L'=> ∃g j,n=μ g∧J g∧L'=H g∧f'=pin (mQ j M 0 f) (S g)) (μ g0) ⟨g0,ec f,rfl,hJ,hL,hf⟩ ?_
 rintro n f' L' ⟨g,j,rfl,hg,rfl,rfl⟩
 refine(round g j hg).mono ?_
 intro e f'' L'' k
 cases e with
 |normal=>
  obtain⟨g',h1,h2,h3,h4⟩:=k
  exact⟨_,h1,g',ec f'',rfl,h2,h3,h4⟩
 |_=>exact k
end
end Go.Sx
section
namespace Go.Sx
open Go
def bitV (op:BinOp) (k:IntKind) (a b:BitVec k.bits):Option (BitVec k.bits):=
 match op with
 | .and=>some (a&&&b)
 | .or=>some (a|||b)
 | .xor=>some (a^^^b)
 | .andNot=>some (a&&& ~~~b)
 |_=>none
def cmpV (op:BinOp) (a b:Int):Option Value:=
 match op with
 | .eql=>some (.bool (a==b))
 | .neq=>some (.bool (a !=b))
 | .lss=>some (.bool (decide (a<b)))
 | .leq=>some (.bool (decide (a≤b)))
 | .gtr=>some (.bool (decide (a>b)))
 | .geq=>some (.bool (decide (a≥b)))
 |_=>none
def dm (op:BinOp) (k:IntKind) (a b:Int):Option Value:=
 match op with
 | .add=>some (.int k (k.wrap (a+b)))
 | .sub=>some (.int k (k.wrap (a - b)))
 | .mul=>some (.int k (k.wrap (a*b)))
 | .quo=>if b=0 then none else some (.int k (k.wrap (a.tdiv b)))
 | .rem=>if b=0 then none else some (.int k (a.tmod b))
 | .and=>(bitV .and k (BitVec.ofInt k.bits a) (BitVec.ofInt k.bits b)).map fun r=> .int k (k.wrap (r.toNat:Int))
 | .or=>(bitV .or k (BitVec.ofInt k.bits a) (BitVec.ofInt k.bits b)).map fun r=> .int k (k.wrap (r.toNat:Int))
 | .xor=>(bitV .xor k (BitVec.ofInt k.bits a) (BitVec.ofInt k.bits b)).map fun r=> .int k (k.wrap (r.toNat:Int))
 | .andNot=>(bitV .andNot k (BitVec.ofInt k.bits a) (BitVec.ofInt k.bits b)).map fun r=> .int k (k.wrap (r.toNat:Int))
 |op=>cmpV op a b
def sB (op:BinOp) (k:IntKind) (a b:Int):Option Value:=
 if b<0 then none else
  match op with
  | .shl=>some (.int k (k.wrap (a*2^ (min b.toNat k.bits))))
  | .shr=>some (.int k (a.fdiv (2^ (min b.toNat k.bits))))
  |_=>none
def strV (op:BinOp) (a b:ByteArray):Option Value:=
 let eq:=a.toList==b.toList
 let lt:=Op.bytesLess a.toList b.toList
 match op with
 | .add=>if a.size+b.size≤9223372036854775807 then some (.string (a++b)) else none
 | .eql=>some (.bool eq)
 | .neq=>some (.bool !eq)
 | .lss=>some (.bool lt)
 | .leq=>some (.bool (lt||eq))
 | .gtr=>some (.bool !(lt||eq))
 | .geq=>some (.bool !lt)
 |_=>none
def aJ (op:BinOp) (x y:Value):Option Value:=
 match x,y with
 | .int k a, .int k' b=>
  match op with
  | .shl=>sB .shl k a b
  | .shr=>sB .shr k a b
  |op=>if k=k' then dm op k a b else none
 | .string a, .string b=>strV op a b
 |_,_=>none
def unV (op:UnOp) (x:Value):Option Value:=
 match op,x with
 | .neg, .int k n=>some (.int k (k.wrap (0 - n)))
 | .xor, .int k n=>(bitV .xor k (BitVec.ofInt k.bits (if k.signed then -1 else k.max)) (BitVec.ofInt k.bits n)).map fun r=> .int k (k.wrap (r.toNat:Int))
 | .not, .bool b=>some (.bool !b)
 |_,_=>none
def gK (k:IntKind) (x:Value):Option Value:=
 match x with
 | .int _ n=>some (.int k (k.wrap n))
 |_=>none
def UF {P:Program} {op:BinOp} {t:TypeId} {x y v:Value} (w:World) (h:aJ op x y=some v): (binOp op t x y).run P w= .ok v w:=by
 unfold aJ at h
 split at h
 ·rename_i k a k' b
  split at h
  ·unfold sB at h
   split at h
   ·cases h
   rename_i hb
   simp only[Option.some.injEq] at h;subst h
   simp only[binOp,Op.shift,hb, ↓reduceIte];rfl
  ·unfold sB at h
   split at h
   ·cases h
   rename_i hb
   simp only[Option.some.injEq] at h;subst h
   simp only[binOp,Op.shift,hb, ↓reduceIte];rfl
  rename_i h1 h2
  split at h
  ·rename_i hk
   subst hk
   cases op<;>simp only[dm,bitV,cmpV,Option.map_some,Option.some.injEq,reduceCtorEq] at h<;>first
    | (subst h;simp only[binOp,Op.intArith,Op.intBits,Op.intCmp,ne_eq,not_true_eq_false, ↓reduceIte];rfl)
    | (
      split at h
      ·cases h
      rename_i hb
      simp only[Option.some.injEq] at h;subst h
      simp only[binOp,Op.intDiv,ne_eq,not_true_eq_false, ↓reduceIte,hb];rfl)
    | (exact(h1 rfl).elim)
    | (exact(h2 rfl).elim)
  cases h
 ·rename_i a b
  have hm: (9223372036854775807:Int)=IntKind.i64.max:=by decide
  cases op<;>simp only[strV,reduceCtorEq,Option.some.injEq] at h<;>first
   | (subst h;simp only[binOp,Op.stringOp];rfl)
   | (
     split at h
     ·rename_i hs
      simp only[Option.some.injEq] at h;subst h
      have h0: ¬ (((a.size+b.size:Nat):Int)>IntKind.i64.max):=by rw[←hm];omega
      simp only[binOp,Op.stringOp,h0, ↓reduceIte];rfl
     cases h)
 cases h
def WV {P:Program} {op:UnOp} {x v:Value} (w:World) (h:unV op x=some v): (Op.unary op x).run P w= .ok v w:=by
 unfold unV at h
 split at h
 ·simp only[Option.some.injEq] at h;subst h;rfl
 ·simp only[bitV,Option.map_some,Option.some.injEq] at h;subst h;rfl
 ·simp only[Option.some.injEq] at h;subst h;rfl
 cases h
def rr (n:Int) (h: -9223372036854775808≤n∧n≤9223372036854775807):IntKind.wrap .i64 n=n:=by
 simp only[IntKind.wrap,IntKind.bits,IntKind.signed,Bool.true_and]
 split<;>rename_i h'<;>simp only[ge_iff_le,decide_eq_true_eq,Int.not_le] at h'<;>omega
def Mh (n:Int):IntKind.wrap .u8 n=((UInt8.ofInt n).toNat:Int):=by
 simp only[IntKind.wrap,IntKind.bits,IntKind.signed,Bool.false_and,Bool.false_eq_true, ↓reduceIte]
 rw[show UInt8.ofInt n=UInt8.ofNat (n%2^8).toNat from rfl,UInt8.toNat_ofNat']
 omega
def M8 (n:Int):IntKind.wrap .u32 n=((UInt32.ofInt n).toNat:Int):=by
 simp only[IntKind.wrap,IntKind.bits,IntKind.signed,Bool.false_and,Bool.false_eq_true, ↓reduceIte]
 rw[show UInt32.ofInt n=UInt32.ofNat (n%2^32).toNat from rfl,UInt32.toNat_ofNat']
 omega
def W7_ (n:Int):IntKind.wrap .u64 n=((UInt64.ofInt n).toNat:Int):=by
 simp only[IntKind.wrap,IntKind.bits,IntKind.signed,Bool.false_and,Bool.false_eq_true, ↓reduceIte]
 rw[show UInt64.ofInt n=UInt64.ofNat (n%2^64).toNat from rfl,UInt64.toNat_ofNat']
 omega
def vi (n:Int):Value:= .int .i64 n
def YW (n:Int):Value.int .i64 n=vi n:=(rfl)
def RV (a b:Int) (h: -9223372036854775808≤a+b∧a+b≤9223372036854775807):aJ .add (vi a) (vi b)=some (vi (a+b)):=by
 simp only[aJ,vi,dm, ↓reduceIte,rr _ h]
def SO (a b:Int) (h: -9223372036854775808≤a - b∧a - b≤9223372036854775807):aJ .sub (vi a) (vi b)=some (vi (a - b)):=by
 simp only[aJ,vi,dm, ↓reduceIte,rr _ h]
def CL (a b:Int) (h: -9223372036854775808≤a*b∧a*b≤9223372036854775807):aJ .mul (vi a) (vi b)=some (vi (a*b)):=by
 simp only[aJ,vi,dm, ↓reduceIte,rr _ h]
def Se (a b:Int) (h:0≤a∧0<b∧a≤9223372036854775807):aJ .quo (vi a) (vi b)=some (vi (a / b)):=by
 have h0: (b=0)=False:=by simp only[eq_iff_iff,iff_false];omega
 have e:a.tdiv b=a / b:=Int.tdiv_eq_ediv_of_nonneg h.1
 have h1:0≤a / b:=Int.ediv_nonneg h.1 oM
 have h2:a / b≤a:=Int.ediv_le_self b h.1
 simp only[aJ,vi,dm, ↓reduceIte,h0,e,rr (a / b) ⟨by omega,by omega⟩]
def Te (a b:Int) (h:0≤a∧0<b):aJ .rem (vi a) (vi b)=some (vi (a%b)):=by
 have h0: (b=0)=False:=by simp only[eq_iff_iff,iff_false];omega
 have e:a.tmod b=a%b:=Int.tmod_eq_emod_of_nonneg h.1
 simp only[aJ,vi,dm, ↓reduceIte,h0,e]
def Tn (a b:Int):aJ .eql (vi a) (vi b)=some (.bool (a==b)):=(rfl)
def Tw (a b:Int):aJ .neq (vi a) (vi b)=some (.bool (a !=b)):=(rfl)
def SF (a b:Int):aJ .lss (vi a) (vi b)=some (.bool (decide (a<b))):=(rfl)
def SV (a b:Int):aJ .leq (vi a) (vi b)=some (.bool (decide (a≤b))):=(rfl)
def TJ (a b:Int):aJ .gtr (vi a) (vi b)=some (.bool (decide (b<a))):=(rfl)
def SD (a b:Int):aJ .geq (vi a) (vi b)=some (.bool (decide (b≤a))):=(rfl)
def V1 (a:Int) (h: -9223372036854775807≤a∧a≤9223372036854775807):unV .neg (vi a)=some (vi (-a)):=by
 simp only[unV,vi,Int.zero_sub,rr (-a) ⟨by omega,by omega⟩]
def Y9 (b:Bool):unV .not (.bool b)=some (.bool !b):=(rfl)
def Nd (n:Int) (h: -9223372036854775808≤n∧n≤9223372036854775807):gK .i64 (vi n)=some (vi n):=by
 simp only[gK,vi,rr _ h]
def F0 (a:Int) (kk:IntKind) (c:Nat) (h:c<63∧0≤a∧a*2^c≤9223372036854775807):aJ .shl (vi a) (.int kk (c:Int))=some (vi (a*2^c)):=by
 have h0: ((c:Int)<0)=False:=by simp only[eq_iff_iff,iff_false];omega
 have hm:min c 64=c:=by omega
 have hp: (0:Int)≤a*2^c:=Int.mul_nonneg h.2.1 (Int.pow_nonneg oM)
 simp only[aJ,vi,sB,h0, ↓reduceIte,Int.toNat_natCast,IntKind.bits,hm,rr (a*2^c) ⟨by omega,h.2.2⟩]
def XH (a:Int) (kk:IntKind) (c:Nat) (h:c<64∧0≤a):aJ .shr (vi a) (.int kk (c:Int))=some (vi (a / 2^c)):=by
 have h0: ((c:Int)<0)=False:=by simp only[eq_iff_iff,iff_false];omega
 have hm:min c 64=c:=by omega
 have hp: (0:Int)≤2^c:=Int.pow_nonneg oM
 simp only[aJ,vi,sB,h0, ↓reduceIte,Int.toNat_natCast,IntKind.bits,hm,Int.fdiv_eq_ediv_of_nonneg _ hp]
def v8 (x:UInt8):Value:= .int .u8 (x.toNat:Int)
def Ff (n:Nat) (h:n<256):IntKind.wrap .u8 (n:Int)=(n:Int):=by
 simp only[IntKind.wrap,IntKind.bits,IntKind.signed,Bool.false_and,Bool.false_eq_true, ↓reduceIte]
 omega
def JP (n:Nat):IntKind.wrap .u8 (n:Int)=((n%256:Nat):Int):=by
 simp only[IntKind.wrap,IntKind.bits,IntKind.signed,Bool.false_and,Bool.false_eq_true, ↓reduceIte]
 omega
def GY (x:UInt8):BitVec.ofInt (IntKind.bits .u8) (x.toNat:Int)=x.toBitVec:=by
 apply BitVec.eq_of_toNat_eq
 simp only[IntKind.bits,BitVec.ofInt_natCast,BitVec.toNat_ofNat,UInt8.toNat_toBitVec]
 exact Nat.mod_eq_of_lt x.toNat_lt
def Zr (n:Nat) (h:n<256):Value.int .u8 (no_index (@OfNat.ofNat Int n _))=v8 (@OfNat.ofNat UInt8 n _):=by
 have: ((@OfNat.ofNat UInt8 n _).toNat:Int)=(@OfNat.ofNat Int n _):=by
  have e: (@OfNat.ofNat UInt8 n _).toNat=n:=by rw[UInt8.toNat_ofNat];exact Nat.mod_eq_of_lt h
  rw[e];rfl
 rw[v8,this]
def Pz (x y:UInt8):aJ .add (v8 x) (v8 y)=some (v8 (x+y)):=by
 simp only[aJ,v8,dm, ↓reduceIte,UInt8.toNat_add]
 rw[←Int.natCast_add,JP]
def QR (x y:UInt8):aJ .mul (v8 x) (v8 y)=some (v8 (x*y)):=by
 simp only[aJ,v8,dm, ↓reduceIte,UInt8.toNat_mul]
 rw[←Int.natCast_mul,JP]
def Rn (x y:UInt8):aJ .and (v8 x) (v8 y)=some (v8 (x&&&y)):=by
 simp only[aJ,v8,dm, ↓reduceIte,bitV,GY,Option.map_some]
 show some (Value.int .u8 (IntKind.wrap .u8 ((x&&&y).toNat:Int)))=_
 rw[Ff _ (x&&&y).toNat_lt]
def Sf (x y:UInt8):aJ .or (v8 x) (v8 y)=some (v8 (x|||y)):=by
 simp only[aJ,v8,dm, ↓reduceIte,bitV,GY,Option.map_some]
 show some (Value.int .u8 (IntKind.wrap .u8 ((x|||y).toNat:Int)))=_
 rw[Ff _ (x|||y).toNat_lt]
def sC (x:UInt8) (n:Nat):UInt8:=UInt8.ofNat (x.toNat / 2^n)
def R7 (x y:UInt8):aJ .lss (v8 x) (v8 y)=some (.bool (decide (x<y))):=by
 simp only[aJ,v8,dm, ↓reduceIte,cmpV,UInt8.lt_iff_toNat_lt,Int.ofNat_lt,Int.ofNat_le]
def R8 (x y:UInt8):aJ .leq (v8 x) (v8 y)=some (.bool (decide (x≤y))):=by
 simp only[aJ,v8,dm, ↓reduceIte,cmpV,UInt8.le_iff_toNat_le,Int.ofNat_lt,Int.ofNat_le]
def Rr (x y:UInt8):aJ .gtr (v8 x) (v8 y)=some (.bool (decide (y<x))):=by
 simp only[aJ,v8,dm, ↓reduceIte,cmpV,UInt8.lt_iff_toNat_lt,Int.ofNat_lt,Int.ofNat_le,gt_iff_lt,ge_iff_le]
def QS (x y:UInt8):aJ .geq (v8 x) (v8 y)=some (.bool (decide (y≤x))):=by
 simp only[aJ,v8,dm, ↓reduceIte,cmpV,UInt8.le_iff_toNat_le,Int.ofNat_lt,Int.ofNat_le,gt_iff_lt,ge_iff_le]
def Fy (x y:UInt8): ((x.toNat:Int)==(y.toNat:Int))=(x==y):=by
 rw[Bool.eq_iff_iff,beq_iff_eq,beq_iff_eq,Int.ofNat_inj,UInt8.toNat_inj]
def Rd (x y:UInt8):aJ .eql (v8 x) (v8 y)=some (.bool (x==y)):=by
 simp only[aJ,v8,dm, ↓reduceIte,cmpV,Fy]
def Q4 (x y:UInt8):aJ .neq (v8 x) (v8 y)=some (.bool (x !=y)):=by
 simp only[aJ,v8,dm, ↓reduceIte,cmpV,bne,Fy]
def CA (x y:UInt8) (h:0<y.toNat):aJ .rem (v8 x) (v8 y)=some (v8 (x%y)):=by
 have e: ((x.toNat:Int).tmod (y.toNat:Int))=((x%y).toNat:Int):=by
  rw[UInt8.toNat_mod,Int.tmod_eq_emod_of_nonneg oM,Int.natCast_emod]
 have h0: ((y.toNat:Int)=0)=False:=by simp only[eq_iff_iff,iff_false];omega
 simp only[aJ,v8,dm, ↓reduceIte,h0,e]
def EH (x:UInt8) (kk:IntKind) (c:Nat):aJ .shr (v8 x) (.int kk (c:Int))=some (v8 (sC x c)):=by
 have hx:=x.toNat_lt
 have h0: ((c:Int)<0)=False:=by simp only[eq_iff_iff,iff_false];omega
 have e: ((x.toNat:Int).fdiv (2^ (min c 8)))=((sC x c).toNat:Int):=by
  have hp: (2:Int)^ (min c 8)=((2^ (min c 8):Nat):Int):=by rw[Int.natCast_pow];rfl
  rw[hp,Int.fdiv_eq_ediv_of_nonneg _ (Int.natCast_nonneg _),←Int.natCast_ediv,sC,UInt8.toNat_ofNat']
  congr 1
  rw[Nat.mod_eq_of_lt (Nat.lt_of_le_of_lt (Nat.div_le_self _ _) hx)]
  by_cases hc:c≤8
  ·rw[Nat.min_eq_left hc]
  rw[Nat.min_eq_right oM,Nat.div_eq_of_lt (by simpa using hx),Nat.div_eq_of_lt]
  exact Nat.lt_of_lt_of_le (by simpa using hx) (Nat.pow_le_pow_right oM (by omega:8≤c))
 simp only[aJ,v8,sB,h0, ↓reduceIte,Int.toNat_natCast,IntKind.bits,e]
def v16 (x:UInt16):Value:= .int .u16 (x.toNat:Int)
def Xd (n:Nat) (h:n<65536):Value.int .u16 (no_index (@OfNat.ofNat Int n _))=v16 (@OfNat.ofNat UInt16 n _):=by
 have: ((@OfNat.ofNat UInt16 n _).toNat:Int)=(@OfNat.ofNat Int n _):=by
  have e: (@OfNat.ofNat UInt16 n _).toNat=n:=by rw[UInt16.toNat_ofNat];exact Nat.mod_eq_of_lt h
  rw[e];rfl
 rw[v16,this]
def v32 (x:UInt32):Value:= .int .u32 (x.toNat:Int)
def J0 (n:Nat) (h:n<4294967296):IntKind.wrap .u32 (n:Int)=(n:Int):=by
 simp only[IntKind.wrap,IntKind.bits,IntKind.signed,Bool.false_and,Bool.false_eq_true, ↓reduceIte]
 omega
def AS (n:Nat):IntKind.wrap .u32 (n:Int)=((n%4294967296:Nat):Int):=by
 simp only[IntKind.wrap,IntKind.bits,IntKind.signed,Bool.false_and,Bool.false_eq_true, ↓reduceIte]
 omega
def tU (x:UInt32):BitVec.ofInt (IntKind.bits .u32) (x.toNat:Int)=x.toBitVec:=by
 apply BitVec.eq_of_toNat_eq
 simp only[IntKind.bits,BitVec.ofInt_natCast,BitVec.toNat_ofNat,UInt32.toNat_toBitVec]
 exact Nat.mod_eq_of_lt x.toNat_lt
def XA (n:Nat) (h:n<4294967296):Value.int .u32 (no_index (@OfNat.ofNat Int n _))=v32 (@OfNat.ofNat UInt32 n _):=by
 have: ((@OfNat.ofNat UInt32 n _).toNat:Int)=(@OfNat.ofNat Int n _):=by
  have e: (@OfNat.ofNat UInt32 n _).toNat=n:=by rw[UInt32.toNat_ofNat];exact Nat.mod_eq_of_lt h
  rw[e];rfl
 rw[v32,this]
def Ns (x y:UInt32):aJ .add (v32 x) (v32 y)=some (v32 (x+y)):=by
 simp only[aJ,v32,dm, ↓reduceIte,UInt32.toNat_add]
 rw[←Int.natCast_add,AS]
def O0 (x y:UInt32):aJ .mul (v32 x) (v32 y)=some (v32 (x*y)):=by
 simp only[aJ,v32,dm, ↓reduceIte,UInt32.toNat_mul]
 rw[←Int.natCast_mul,AS]
def Pl (x y:UInt32):aJ .sub (v32 x) (v32 y)=some (v32 (x - y)):=by
 have hx:=x.toNat_lt;have hy:=y.toNat_lt
 have e:IntKind.wrap .u32 ((x.toNat:Int) - (y.toNat:Int))=((x - y).toNat:Int):=by
  rw[UInt32.toNat_sub]
  simp only[IntKind.wrap,IntKind.bits,IntKind.signed,Bool.false_and,Bool.false_eq_true, ↓reduceIte]
  omega
 simp only[aJ,v32,dm, ↓reduceIte,e]
def P7 (x y:UInt32):aJ .and (v32 x) (v32 y)=some (v32 (x&&&y)):=by
 simp only[aJ,v32,dm, ↓reduceIte,bitV,tU,Option.map_some]
 show some (Value.int .u32 (IntKind.wrap .u32 ((x&&&y).toNat:Int)))=_
 rw[J0 _ (x&&&y).toNat_lt]
def Ra (x y:UInt32):aJ .or (v32 x) (v32 y)=some (v32 (x|||y)):=by
 simp only[aJ,v32,dm, ↓reduceIte,bitV,tU,Option.map_some]
 show some (Value.int .u32 (IntKind.wrap .u32 ((x|||y).toNat:Int)))=_
 rw[J0 _ (x|||y).toNat_lt]
def Pg (x y:UInt32):aJ .xor (v32 x) (v32 y)=some (v32 (x^^^y)):=by
 simp only[aJ,v32,dm, ↓reduceIte,bitV,tU,Option.map_some]
 show some (Value.int .u32 (IntKind.wrap .u32 ((x^^^y).toNat:Int)))=_
 rw[J0 _ (x^^^y).toNat_lt]
def R9 (x:UInt32):unV .xor (v32 x)=some (v32 (~~~ x)):=by
 have hx:=x.toNat_lt
 have e: (BitVec.ofInt (IntKind.bits .u32) (IntKind.max .u32))=BitVec.allOnes 32:=rfl
 have e2: (BitVec.allOnes 32^^^x.toBitVec)=(~~~ x).toBitVec:=by rw[UInt32.toBitVec_not];exact BitVec.allOnes_xor
 simp only[unV,v32,bitV,tU,IntKind.signed,Bool.false_eq_true, ↓reduceIte,e,Option.map_some]
 show some (Value.int .u32 (IntKind.wrap .u32 ((BitVec.allOnes 32^^^x.toBitVec).toNat:Int)))=_
 rw[e2]
 show some (Value.int .u32 (IntKind.wrap .u32 ((~~~ x).toNat:Int)))=_
 rw[J0 _ (~~~ x).toNat_lt]
def fv (x:UInt32) (n:Nat):UInt32:=UInt32.ofNat (x.toNat / 2^n)
def rv (x:UInt32) (n:Nat):UInt32:=UInt32.ofNat (x.toNat*2^n)
def O8 (x y:UInt32):aJ .geq (v32 x) (v32 y)=some (.bool (decide (y≤x))):=by
 simp only[aJ,v32,dm, ↓reduceIte,cmpV,UInt32.le_iff_toNat_le,Int.ofNat_lt,Int.ofNat_le,gt_iff_lt,ge_iff_le]
def Wu (x y:UInt32): ((x.toNat:Int)==(y.toNat:Int))=(x==y):=by
 rw[Bool.eq_iff_iff,beq_iff_eq,beq_iff_eq,Int.ofNat_inj,UInt32.toNat_inj]
def O6 (x y:UInt32):aJ .eql (v32 x) (v32 y)=some (.bool (x==y)):=by
 simp only[aJ,v32,dm, ↓reduceIte,cmpV,Wu]
def ID (x y:UInt32) (h:0<y.toNat):aJ .quo (v32 x) (v32 y)=some (v32 (x / y)):=by
 have hx:=x.toNat_lt
 have e:IntKind.wrap .u32 ((x.toNat:Int).tdiv (y.toNat:Int))=((x / y).toNat:Int):=by
  rw[UInt32.toNat_div,Int.tdiv_eq_ediv_of_nonneg oM,←Int.natCast_ediv,AS]
  congr 1
  exact Nat.mod_eq_of_lt (Nat.lt_of_le_of_lt (Nat.div_le_self _ _) hx)
 have h0: ((y.toNat:Int)=0)=False:=by simp only[eq_iff_iff,iff_false];omega
 simp only[aJ,v32,dm, ↓reduceIte,h0,e]
def IH (x y:UInt32) (h:0<y.toNat):aJ .rem (v32 x) (v32 y)=some (v32 (x%y)):=by
 have e: ((x.toNat:Int).tmod (y.toNat:Int))=((x%y).toNat:Int):=by
  rw[UInt32.toNat_mod,Int.tmod_eq_emod_of_nonneg oM,Int.natCast_emod]
 have h0: ((y.toNat:Int)=0)=False:=by simp only[eq_iff_iff,iff_false];omega
 simp only[aJ,v32,dm, ↓reduceIte,h0,e]
def Cz (x:UInt32) (kk:IntKind) (c:Nat):aJ .shr (v32 x) (.int kk (c:Int))=some (v32 (fv x c)):=by
 have hx:=x.toNat_lt
 have h0: ((c:Int)<0)=False:=by simp only[eq_iff_iff,iff_false];omega
 have e: ((x.toNat:Int).fdiv (2^ (min c 32)))=((fv x c).toNat:Int):=by
  have hp: (2:Int)^ (min c 32)=((2^ (min c 32):Nat):Int):=by rw[Int.natCast_pow];rfl
  rw[hp,Int.fdiv_eq_ediv_of_nonneg _ (Int.natCast_nonneg _),←Int.natCast_ediv,fv,UInt32.toNat_ofNat']
  congr 1
  rw[Nat.mod_eq_of_lt (Nat.lt_of_le_of_lt (Nat.div_le_self _ _) hx)]
  by_cases hc:c≤32
  ·rw[Nat.min_eq_left hc]
  rw[Nat.min_eq_right oM,Nat.div_eq_of_lt (by simpa using hx),Nat.div_eq_of_lt]
  exact Nat.lt_of_lt_of_le (by simpa using hx) (Nat.pow_le_pow_right oM (by omega:32≤c))
 simp only[aJ,v32,sB,h0, ↓reduceIte,Int.toNat_natCast,IntKind.bits,e]
def DZ (x:UInt32) (kk:IntKind) (c:Nat):aJ .shl (v32 x) (.int kk (c:Int))=some (v32 (rv x c)):=by
 have h0: ((c:Int)<0)=False:=by simp only[eq_iff_iff,iff_false];omega
 have e:IntKind.wrap .u32 ((x.toNat:Int)* (2^ (min c 32)))=((rv x c).toNat:Int):=by
  have hp: (2:Int)^ (min c 32)=((2^ (min c 32):Nat):Int):=by rw[Int.natCast_pow];rfl
  rw[hp,←Int.natCast_mul,AS,rv,UInt32.toNat_ofNat']
  congr 1
  by_cases hc:c≤32
  ·rw[Nat.min_eq_left hc]
  rw[Nat.min_eq_right oM]
  have:2^c=2^32*2^ (c - 32):=by rw[←Nat.pow_add];congr 1;omega
  rw[this,←Nat.mul_assoc,Nat.mul_right_comm]
  simp[Nat.mul_mod_left]
 simp only[aJ,v32,sB,h0, ↓reduceIte,Int.toNat_natCast,IntKind.bits,e]
def v64 (x:UInt64):Value:= .int .u64 (x.toNat:Int)
def VG (n:Nat) (h:n<18446744073709551616):IntKind.wrap .u64 (n:Int)=(n:Int):=by
 simp only[IntKind.wrap,IntKind.bits,IntKind.signed,Bool.false_and,Bool.false_eq_true, ↓reduceIte]
 omega
def L_ (n:Nat):IntKind.wrap .u64 (n:Int)=((n%18446744073709551616:Nat):Int):=by
 simp only[IntKind.wrap,IntKind.bits,IntKind.signed,Bool.false_and,Bool.false_eq_true, ↓reduceIte]
 omega
def Y' (x:UInt64):BitVec.ofInt (IntKind.bits .u64) (x.toNat:Int)=x.toBitVec:=by
 apply BitVec.eq_of_toNat_eq
 simp only[IntKind.bits,BitVec.ofInt_natCast,BitVec.toNat_ofNat,UInt64.toNat_toBitVec]
 exact Nat.mod_eq_of_lt x.toNat_lt
def WR (n:Nat) (h:n<18446744073709551616):Value.int .u64 (no_index (@OfNat.ofNat Int n _))=v64 (@OfNat.ofNat UInt64 n _):=by
 have: ((@OfNat.ofNat UInt64 n _).toNat:Int)=(@OfNat.ofNat Int n _):=by
  have e: (@OfNat.ofNat UInt64 n _).toNat=n:=by rw[UInt64.toNat_ofNat];exact Nat.mod_eq_of_lt h
  rw[e];rfl
 rw[v64,this]
def OR (x y:UInt64):aJ .add (v64 x) (v64 y)=some (v64 (x+y)):=by
 simp only[aJ,v64,dm, ↓reduceIte,UInt64.toNat_add]
 rw[←Int.natCast_add,L_]
def Pc (x y:UInt64):aJ .mul (v64 x) (v64 y)=some (v64 (x*y)):=by
 simp only[aJ,v64,dm, ↓reduceIte,UInt64.toNat_mul]
 rw[←Int.natCast_mul,L_]
def O4 (x y:UInt64):aJ .sub (v64 x) (v64 y)=some (v64 (x - y)):=by
 have hx:=x.toNat_lt;have hy:=y.toNat_lt
 have e:IntKind.wrap .u64 ((x.toNat:Int) - (y.toNat:Int))=((x - y).toNat:Int):=by
  rw[UInt64.toNat_sub]
  simp only[IntKind.wrap,IntKind.bits,IntKind.signed,Bool.false_and,Bool.false_eq_true, ↓reduceIte]
  omega
 simp only[aJ,v64,dm, ↓reduceIte,e]
def OV (x y:UInt64):aJ .and (v64 x) (v64 y)=some (v64 (x&&&y)):=by
 simp only[aJ,v64,dm, ↓reduceIte,bitV,Y',Option.map_some]
 show some (Value.int .u64 (IntKind.wrap .u64 ((x&&&y).toNat:Int)))=_
 rw[VG _ (x&&&y).toNat_lt]
def ud (x:UInt64) (n:Nat):UInt64:=UInt64.ofNat (x.toNat / 2^n)
def Oa (x y:UInt64):aJ .geq (v64 x) (v64 y)=some (.bool (decide (y≤x))):=by
 simp only[aJ,v64,dm, ↓reduceIte,cmpV,UInt64.le_iff_toNat_le,Int.ofNat_lt,Int.ofNat_le,gt_iff_lt,ge_iff_le]
def Pn (x y:UInt64) (h:0<y.toNat):aJ .quo (v64 x) (v64 y)=some (v64 (x / y)):=by
 have hx:=x.toNat_lt
 have e:IntKind.wrap .u64 ((x.toNat:Int).tdiv (y.toNat:Int))=((x / y).toNat:Int):=by
  rw[UInt64.toNat_div,Int.tdiv_eq_ediv_of_nonneg oM,←Int.natCast_ediv,L_]
  congr 1
  exact Nat.mod_eq_of_lt (Nat.lt_of_le_of_lt (Nat.div_le_self _ _) hx)
 have h0: ((y.toNat:Int)=0)=False:=by simp only[eq_iff_iff,iff_false];omega
 simp only[aJ,v64,dm, ↓reduceIte,h0,e]
def OS (x y:UInt64) (h:0<y.toNat):aJ .rem (v64 x) (v64 y)=some (v64 (x%y)):=by
 have e: ((x.toNat:Int).tmod (y.toNat:Int))=((x%y).toNat:Int):=by
  rw[UInt64.toNat_mod,Int.tmod_eq_emod_of_nonneg oM,Int.natCast_emod]
 have h0: ((y.toNat:Int)=0)=False:=by simp only[eq_iff_iff,iff_false];omega
 simp only[aJ,v64,dm, ↓reduceIte,h0,e]
def DR (x:UInt64) (kk:IntKind) (c:Nat):aJ .shr (v64 x) (.int kk (c:Int))=some (v64 (ud x c)):=by
 have hx:=x.toNat_lt
 have h0: ((c:Int)<0)=False:=by simp only[eq_iff_iff,iff_false];omega
 have e: ((x.toNat:Int).fdiv (2^ (min c 64)))=((ud x c).toNat:Int):=by
  have hp: (2:Int)^ (min c 64)=((2^ (min c 64):Nat):Int):=by rw[Int.natCast_pow];rfl
  rw[hp,Int.fdiv_eq_ediv_of_nonneg _ (Int.natCast_nonneg _),←Int.natCast_ediv,ud,UInt64.toNat_ofNat']
  congr 1
  rw[Nat.mod_eq_of_lt (Nat.lt_of_le_of_lt (Nat.div_le_self _ _) hx)]
  by_cases hc:c≤64
  ·rw[Nat.min_eq_left hc]
  rw[Nat.min_eq_right oM,Nat.div_eq_of_lt (by simpa using hx),Nat.div_eq_of_lt]
  exact Nat.lt_of_lt_of_le (by simpa using hx) (Nat.pow_le_pow_right oM (by omega:64≤c))
 simp only[aJ,v64,sB,h0, ↓reduceIte,Int.toNat_natCast,IntKind.bits,e]
def PV (x:UInt8):gK .u32 (v8 x)=some (v32 (UInt32.ofNat x.toNat)):=by
 simp only[gK,v8,v32,AS,UInt32.toNat_ofNat']
def W5_ (x:UInt8) (c:UInt64):aJ .shr (v8 x) (v64 c)=some (v8 (sC x c.toNat)):=EH x _ _
def KA_ (x:UInt8) (kk:IntKind) (c:Int) (h:0≤c):aJ .shr (v8 x) (.int kk c)=some (v8 (sC x c.toNat)):=by
 obtain⟨n,rfl⟩:=Int.eq_ofNat_of_zero_le h;exact EH x _ _
def O7 (x:UInt8):gK .i64 (v8 x)=some (.int .i64 ((x.toNat:Int))):=by
 have hx:=x.toNat_lt
 simp only[gK,v8]
 rw[rr _ oM]
def VY_ (kk:IntKind) (n:Int):gK .u8 (.int kk n)=some (v8 (UInt8.ofInt n)):=by
 simp only[gK,v8,Mh]
def Nf (x:UInt16):gK .i64 (v16 x)=some (.int .i64 ((x.toNat:Int))):=by
 have hx:=x.toNat_lt
 simp only[gK,v16]
 rw[rr _ oM]
def PQ (x:UInt32):gK .u8 (v32 x)=some (v8 (UInt8.ofNat x.toNat)):=by
 simp only[gK,v32,v8,JP,UInt8.toNat_ofNat']
def WR_ (x:UInt32) (c:UInt64):aJ .shr (v32 x) (v64 c)=some (v32 (fv x c.toNat)):=Cz x _ _
def Wx_ (x:UInt32) (c:UInt64):aJ .shl (v32 x) (v64 c)=some (v32 (rv x c.toNat)):=DZ x _ _
def JV_ (x:UInt32) (kk:IntKind) (c:Int) (h:0≤c):aJ .shr (v32 x) (.int kk c)=some (v32 (fv x c.toNat)):=by
 obtain⟨n,rfl⟩:=Int.eq_ofNat_of_zero_le h;exact Cz x _ _
def Xa_ (x:UInt32) (kk:IntKind) (c:Int) (h:0≤c):aJ .shl (v32 x) (.int kk c)=some (v32 (rv x c.toNat)):=by
 obtain⟨n,rfl⟩:=Int.eq_ofNat_of_zero_le h;exact DZ x _ _
def KO_ (kk:IntKind) (n:Int):gK .u32 (.int kk n)=some (v32 (UInt32.ofInt n)):=by
 simp only[gK,v32,M8]
def Pm (x:UInt64):gK .u8 (v64 x)=some (v8 (UInt8.ofNat x.toNat)):=by
 simp only[gK,v64,v8,JP,UInt8.toNat_ofNat']
def Nc (x:UInt64):gK .u32 (v64 x)=some (v32 (UInt32.ofNat x.toNat)):=by
 simp only[gK,v64,v32,AS,UInt32.toNat_ofNat']
def WW_ (x:UInt64) (c:UInt64):aJ .shr (v64 x) (v64 c)=some (v64 (ud x c.toNat)):=DR x _ _
def J9_ (x:UInt64) (kk:IntKind) (c:Int) (h:0≤c):aJ .shr (v64 x) (.int kk c)=some (v64 (ud x c.toNat)):=by
 obtain⟨n,rfl⟩:=Int.eq_ofNat_of_zero_le h;exact DR x _ _
def NY (x:UInt64):gK .i64 (v64 x)=some (.int .i64 (IntKind.wrap .i64 (x.toNat:Int))):=by
 have hx:=x.toNat_lt
 simp only[gK,v64]
def Kw_ (kk:IntKind) (n:Int):gK .u64 (.int kk n)=some (v64 (UInt64.ofInt n)):=by
 simp only[gK,v64,W7_]
def Qj (n:Int):gK .u8 (vi n)=some (v8 (UInt8.ofInt n)):=VY_ _ n
def P8 (n:Int):gK .u32 (vi n)=some (v32 (UInt32.ofInt n)):=KO_ _ n
def P6 (n:Int):gK .u64 (vi n)=some (v64 (UInt64.ofInt n)):=Kw_ _ n
def Mk (x:UInt8) (c:Int) (h:0≤c):aJ .shr (v8 x) (vi c)=some (v8 (sC x c.toNat)):=KA_ x _ c h
def MG (x:UInt32) (c:Int) (h:0≤c):aJ .shr (v32 x) (vi c)=some (v32 (fv x c.toNat)):=JV_ x _ c h
def MJ (x:UInt32) (c:Int) (h:0≤c):aJ .shl (v32 x) (vi c)=some (v32 (rv x c.toNat)):=Xa_ x _ c h
def M7 (x:UInt64) (c:Int) (h:0≤c):aJ .shr (v64 x) (vi c)=some (v64 (ud x c.toNat)):=J9_ x _ c h
end Go.Sx
end
section
namespace Go.Sx
open Go
def GH:TypeDesc→Bool
 | .struct _=>true
 | .array _ _=>true
 |_=>false
def aR (P:Program) (t:TypeId):Option (Bool×Nat):=
 match P.underlying t,P.info? t with
 |some d,some i=>some (GH d,i.size)
 |_,_=>none
inductive Ix where
 |arr (n:Nat) (m:Bool×Nat)
 |sl (m:Bool×Nat)
 |str
 |no
def ixT (P:Program) (t:TypeId):Ix:=
 match P.underlying t with
 |some (.array n e)=>match aR P e with|some m=> .arr n m|none=> .no
 |some (.slice e)=>match aR P e with|some m=> .sl m|none=> .no
 |some .string=> .str
 |_=> .no
def bB (P:Program) (t:TypeId) (i:Nat):Option (Nat× (Bool×Nat)):=
 match P.underlying t with
 |some (.struct fs)=>match fs[i]? with
  |some fd=>match aR P fd.type with
   |some m=>some (fd.offset,m)
   |none=>none
  |none=>none
 |_=>none
inductive Cv where
 |int (k:IntKind)
 |str
 |bytesStr
 |strBytes (e:TypeId)
 |no
def cvT (P:Program) (s d:TypeId):Cv:=
 match P.underlying s,P.underlying d with
 |some (.int _),some (.int k)=> .int k
 |some .string,some .string=> .str
 |some (.slice e),some .string=>match P.underlying e with|some (.int .u8)=> .bytesStr|_=> .no
 |some .string,some (.slice e)=>match P.underlying e with|some (.int .u8)=> .strBytes e|_=> .no
 |_,_=> .no
section
variable {P:Program}
def Cl {t:TypeId} {m:Bool×Nat} (h:aR P t=some m): ∃d i,P.underlying t=some d∧P.info? t=some i∧GH d=m.1∧i.size=m.2:=by
 unfold aR at h
 split at h
 ·rename_i d i hd hi
  cases h
  exact⟨d,i,hd,hi,rfl,rfl⟩
 cases h
def Lk {t:TypeId} {m:Bool×Nat} (h:aR P t=some m) (w:World): (isAgg t).run P w= .ok m.1 w:=by
 obtain⟨d,i,hd,hi,h1,_⟩:=Cl h
 unfold isAgg
 rw[Sem.run_bind,run_underlying hd w,←h1]
 cases d<;>rfl
def iT {t:TypeId} {m:Bool×Nat} (h:aR P t=some m) (w:World): (sizeOf t).run P w= .ok m.2 w:=by
 obtain⟨d,i,hd,hi,_,h2⟩:=Cl h
 simp[sizeOf,typeInfo,hi,h2]
def partV (m:Bool×Nat) (cs:Array Value) (off:Nat):Option Value:=
 if m.1 then some (.agg (cs.extract off (off+m.2))) else cs[off]?
def rn {t:TypeId} {m:Bool×Nat} (h:aR P t=some m) {cs:Array Value} {off:Nat} {v:Value} (hv:partV m cs off=some v) (w:World): (part t cs off).run P w= .ok v w:=by
 unfold part
 rw[Sem.run_bind,Lk h w]
 simp only[Result.andThen_ok]
 unfold partV at hv
 cases hm:m.1 with
 |true=>
  rw[hm] at hv
  simp only[↓reduceIte,Option.some.injEq] at hv
  simp only[↓reduceIte]
  rw[Sem.run_bind,iT h w]
  simp only[Result.andThen_ok,Sem.run_pure,hv]
 |false=>
  rw[hm] at hv
  simp only[Bool.false_eq_true, ↓reduceIte] at hv
  simp only[Bool.false_eq_true, ↓reduceIte,hv,Sem.run_pure]
end
def vp (b off:Nat):Value:= .pointer (some ⟨b,off,none⟩)
def vsl (b off n c:Nat):Value:= .slice (some ⟨b,off,none⟩) n c
def vs (l:List UInt8):Value:= .string ⟨l.toArray⟩
def o0 (b o n:Nat): (Addr.mk b o none).add n=⟨b,o+n,none⟩:=by
 unfold Addr.add;split<;>simp_all
def ixI:Value→Option Int
 | .int _ n=>some n
 |_=>none
def qV (x:Ix) (v:Value) (i:Option Int):Option Value:=
 match x,v,i with
 | .arr n m, .agg cs,some k=>if 0≤k∧k<n then partV m cs (k.toNat*m.2) else none
 | .str, .string s,some k=>if 0≤k then(s[k.toNat]?).map fun b=> .int .u8 (b.toNat:Int) else none
 |_,_,_=>none
def i_ (x:Ix) (v:Value) (i:Option Int):Option Value:=
 match x,v,i with
 | .arr n m, .pointer (some a),some k=>if 0≤k∧k<n then some (.pointer (some (a.add (k.toNat*m.2)))) else none
 | .sl m, .slice (some a) n _,some k=>if 0≤k∧k<n then some (.pointer (some (a.add (k.toNat*m.2)))) else none
 |_,_,_=>none
def AD (x:Option (Nat× (Bool×Nat))) (v:Value):Option Value:=
 match x,v with
 |some (off,m), .pointer (some a)=>if m.2=0 then none else some (.pointer (some (a.add off)))
 |_,_=>none
def tX (x:Option (Nat× (Bool×Nat))) (v:Value):Option Value:=
 match x,v with
 |some (off,m), .agg cs=>partV m cs off
 |_,_=>none
def nilV (v:Value):Option Value:=
 match v with
 | .pointer (some a)=>some (.pointer (some a))
 | .func (.func k) a b=>some (.func (.func k) a b)
 |_=>none
def Ib (v:Value) (i:Nat):Option Value:=
 match v with
 | .tuple vs=>vs[i]?
 |_=>none
def gY (x:Ix) (v:Value):Option Value:=
 match x,v with
 | .str, .string s=>some (.int .i64 s.size)
 | .arr n _,_=>some (.int .i64 n)
 | .sl _, .slice _ n _=>some (.int .i64 n)
 |_,_=>none
def capV (x:Ix) (v:Value):Option Value:=
 match x,v with
 | .arr n _,_=>some (.int .i64 n)
 | .sl _, .slice _ _ c=>some (.int .i64 c)
 |_,_=>none
def jG (c a b:Value):Option Value:=
 match c with
 | .bool true=>some a
 | .bool false=>some b
 |_=>none
def bndV (n c:Nat) (lo hi:Option (Option Int)):Option (Nat×Nat):=
 match lo,hi with
 |none,none=>some (0,n)
 |some (some l),none=>if 0≤l∧l≤n then some (l.toNat,n) else none
 |none,some (some h)=>if 0≤h∧h≤c then some (0,h.toNat) else none
 |some (some l),some (some h)=>if 0≤l∧l≤h∧h≤c then some (l.toNat,h.toNat) else none
 |_,_=>none
def gb (x:Ix) (v:Value) (lo hi:Option (Option Int)):Option Value:=
 match x,v with
 | .str, .string s=>match bndV s.size s.size lo hi with
  |some (l,h)=>some (.string (s.extract l h))
  |none=>none
 | .sl m, .slice a n c=>match bndV n c lo hi with
  |some (l,h)=>some (.slice (if c=l then a else a.map (·.add (l*m.2))) (h - l) (c - l))
  |none=>none
 | .arr n m, .pointer (some a)=>match bndV n n lo hi with
  |some (l,h)=>some (.slice (some (if n=l then a else a.add (l*m.2))) (h - l) (n - l))
  |none=>none
 |_,_=>none
def aG (m:Option (Bool×Nat)) (o:Option Obj) (off:Nat):Option Value:=
 match m,o with
 |some (true,n),some (.cells cs _ _)=>if off+n≤cs.size then some (.agg (cs.extract off (off+n))) else none
 |some (false,_),some (.cells cs _ _)=>cs[off]?
 |_,_=>none
def ut (m:Option (Bool×Nat)) (w0:World) (L:aB) (v:Value):Option Value:=
 match v with
 | .pointer (some ⟨b,off,none⟩)=>aG m (aU w0 L b) off
 |_=>none
def uo:List Value→Option (List UInt8)
 | []=>some []
 | .int .u8 n::r=>match uo r with
  |some l=>some (UInt8.ofNat n.toNat::l)
  |none=>none
 |_=>none
def ir (o:Option Obj) (off n:Nat):Option Value:=
 match o with
 |some (.cells cs _ _)=>if off+n≤cs.size then(uo (cs.extract off (off+n)).toList).map fun l=> .string ⟨l.toArray⟩ else none
 |_=>none
def x7 (w0:World) (L:aB) (v:Value):Option Value:=
 match v with
 | .slice none _ _=>some (.string .empty)
 | .slice (some ⟨b,off,none⟩) n _=>ir (aU w0 L b) off n
 |_=>none
def jP (w0:World) (L:aB) (c:Cv) (v:Value):Option Value:=
 match c with
 | .int k=>gK k v
 | .str=>match v with| .string s=>some (.string s) |_=>none
 | .bytesStr=>x7 w0 L v
 |_=>none
def eW (d:Option TypeDesc) (x y:Value):Option Bool:=
 match d,x,y with
 |some (.pointer _), .pointer none, .pointer b=>some b.isNone
 |some (.pointer _), .pointer (some _), .pointer none=>some false
 |some (.slice _), .slice none _ _, .slice b _ _=>some b.isNone
 |some (.slice _), .slice (some _) _ _, .slice none _ _=>some false
 |some (.map _ _), .map none, .map b=>some b.isNone
 |some (.map _ _), .map (some _), .map none=>some false
 |some (.func _ _ _), .nilFunc, .nilFunc=>some true
 |some (.func _ _ _), .nilFunc, .func _ _ _=>some false
 |some (.func _ _ _), .func _ _ _, .nilFunc=>some false
 |some .bool, .bool a, .bool b=>some (a==b)
 |_,_,_=>none
def eu:Value→Bool
 | .int _ _=>true
 | .string _=>true
 |_=>false
def Ap (f:Nat→Option Bool):List Nat→Option Bool
 | []=>some true
 |i::r=>match f i with
  |some true=>Ap f r
  |some false=>some false
  |none=>none
def AI (f:Field→Option Bool):List Field→Option Bool
 | []=>some true
 |x::r=>if x.name≠ "_" then(match f x with
  |some true=>AI f r
  |some false=>some false
  |none=>none) else AI f r
def sx (m:Option (Bool×Nat)) (f:Value→Value→Option Bool) (xs ys:Array Value) (off:Nat):Option Bool:=
 match m with
 |some m=>match partV m xs off,partV m ys off with
  |some a,some b=>f a b
  |_,_=>none
 |none=>none
def eqD (P:Program):Nat→TypeId→Value→Value→Option Bool
 |0,_,_,_=>none
 |d+1,t,x,y=>match P.underlying t,x,y with
  |some (.int _), .int k a, .int k' b=>if k=k' then some (a==b) else none
  |some .string, .string a, .string b=>some (a==b)
  |some (.array n e), .agg xs, .agg ys=>match aR P e with
   |some m=>Ap (fun i=>sx (some m) (eqD P d e) xs ys (i*m.2)) (List.range n)
   |none=>none
  |some (.struct fs), .agg xs, .agg ys=>if P.stoodInHeld t then none else
   AI (fun f=>sx (aR P f.type) (eqD P d f.type) xs ys f.offset) fs.toList
  |D,x,y=>eW D x y
def eqX (P:Program) (t:TypeId) (x y:Value):Option Bool:=
 match x,y with
 | .agg xs, .agg ys=>if P.eqGuardType P.depth t then none else eqD P 8 t (.agg xs) (.agg ys)
 |x,y=>eW (P.underlying t) x y
def bF (P:Program) (op:BinOp) (t:TypeId) (x y:Value):Option Value:=
 if eu x&&eu y then aJ op x y
 else match op with
  | .eql=>(eqX P t x y).map fun b=> .bool b
  | .neq=>(eqX P t x y).map fun b=> .bool (!b)
  |_=>none
def jo (P:Program) (w0:World) (L:aB) (f:Fr):Op→Option Value
 | .move x=>some (ev f x)
 | .assign x=>some (ev f x)
 | .pick c a b=>jG (ev f c) (ev f a) (ev f b)
 | .binOp op t x y _=>bF P op t (ev f x) (ev f y)
 | .unOp op _ x=>unV op (ev f x)
 | .convert s d x=>jP w0 L (cvT P s d) (ev f x)
 | .nilCheck x=>nilV (ev f x)
 | .fieldAddr s x i=>AD (bB P s i) (ev f x)
 | .field s x i=>tX (bB P s i) (ev f x)
 | .indexAddr t x i=>i_ (ixT P t) (ev f x) (ixI (ev f i))
 | .index t x i=>qV (ixT P t) (ev f x) (ixI (ev f i))
 | .load t x=>ut (aR P t) w0 L (ev f x)
 | .extract x i=>Ib (ev f x) i
 | .slice t x lo hi none=>gb (ixT P t) (ev f x) (lo.map fun o=>ixI (ev f o)) (hi.map fun o=>ixI (ev f o))
 | .makeFunc fn a b=>some (.func fn (a.map (ev f)) (b.map (ev f)))
 | .call ⟨.builtin .len,args,ts⟩=>match args[0]?,ts[0]? with
  |some x,some t=>gY (ixT P t) (ev f x)
  |_,_=>none
 | .call ⟨.builtin .cap,args,ts⟩=>match args[0]?,ts[0]? with
  |some x,some t=>capV (ixT P t) (ev f x)
  |_,_=>none
 |_=>none
def N_ {w0 w:World} {L:aB} (h:Hp w0 L w) {b:Nat} {cs:Array Value} {E:TypeId} {fz:Nat×Nat} (hr:aU w0 L b=some (.cells cs E fz)) (off:Nat):w.cell? ⟨b,off,none⟩=cs[off]? :=
 cell_of_row w b off cs E fz (h.read hr)
section
variable {P:Program} {w0 w:World} {L:aB}
def KU {b:Nat} {cs:Array Value} {E:TypeId} {fz:Nat×Nat} (hb:w.heap[b]? =some (.cells cs E fz)) (off n:Nat) (hn:off+n≤cs.size):
  (loadCells ⟨b,off,none⟩ n).run P w= .ok (cs.extract off (off+n)) w:=by
 have h:=run_loadCells_list (P:=P) w ⟨b,off,none⟩ (cs.extract off (off+n)).toList (by
  intro j v hv
  rw[o0,cell_of_row w b _ cs E fz hb]
  simp only[Array.getElem?_toList,Array.getElem?_extract] at hv
  split at hv
  ·exact hv
  cases hv)
 have e: (cs.extract off (off+n)).toList.length=n:=by simp;omega
 rw[e,Array.toArray_toList] at h
 exact h
def WG_ {t:TypeId} {b off:Nat} {v:Value} (hw:Hp w0 L w) (h:aG (aR P t) (aU w0 L b) off=some v): (loadVar t ⟨b,off,none⟩).run P w= .ok v w:=by
 unfold aG at h
 split at h
 ·rename_i n cs E fz hm ho
  split at h
  ·rename_i hn
   simp only[Option.some.injEq] at h;subst h
   unfold loadVar
   rw[Sem.run_bind,Lk hm w]
   simp only[Result.andThen_ok, ↓reduceIte,Sem.run_bind,iT hm w,KU (hw.read ho) off n hn,Sem.run_pure]
  cases h
 ·rename_i n cs E fz hm ho
  unfold loadVar
  rw[Sem.run_bind,Lk hm w]
  simp only[Result.andThen_ok,Bool.false_eq_true, ↓reduceIte,run_load,N_ hw ho,h]
 cases h
theorem V9_ (f:Value→ByteArray→Sem (ForInStep ByteArray)) (hf: ∀ (n:Int) s,f (.int .u8 n) s=pure (.yield (s.push (UInt8.ofNat n.toNat)))):
  ∀ (l:List Value) (bs:List UInt8) (s:ByteArray) (w:World),uo l=some bs→(forIn l s f).run P w= .ok ⟨s.data++bs.toArray⟩ w
 | [],bs,s,w,h=>by
  simp only[uo,Option.some.injEq] at h;subst h
  simp
 |v::r,bs,s,w,h=>by
  unfold uo at h
  split at h
  ·cases ‹v::r= []›
  ·rename_i n r' e
   cases e
   split at h
   ·rename_i l hl
    simp only[Option.some.injEq] at h;subst h
    have ih:=V9_ f hf r l (s.push (UInt8.ofNat n.toNat)) w hl
    rw[List.forIn_cons,hf]
    simp only[pure_bind]
    rw[ih]
    congr 1
    apply congrArg
    apply Array.ext'
    simp[ByteArray.push]
   cases h
  cases h
def XT_ {b off n c:Nat} {v:Value} (hw:Hp w0 L w) (h:ir (aU w0 L b) off n=some v): (Conv.bytesToString (.slice (some ⟨b,off,none⟩) n c)).run P w= .ok v w:=by
 unfold ir at h
 split at h
 ·rename_i cs E fz ho
  split at h
  ·rename_i hn
   cases hl:uo (cs.extract off (off+n)).toList with
   |none=>rw[hl] at h;cases h
   |some l=>
    rw[hl] at h
    simp only[Option.map_some,Option.some.injEq] at h;subst h
    unfold Conv.bytesToString
    simp only[Sem.run_bind,KU (hw.read ho) off n hn,Result.andThen_ok]
    rw[←Array.forIn_toList,V9_ _ (fun n s=>rfl) _ _ _ w hl]
    simp[ByteArray.empty,ByteArray.emptyWithCapacity]
    rfl
  cases h
 cases h
end
end Go.Sx
end
section
namespace Go.Sx
open Go
section
variable {P:Program} {w0 w:World} {L:aB}
def IG {v:Value} {i:Int} (h:ixI v=some i): ∃k,v= .int k i:=by
 cases v<;>simp only[ixI,reduceCtorEq,Option.some.injEq] at h
 subst h;exact⟨_,rfl⟩
def QC {t:TypeId} {x i v:Value} (h:qV (ixT P t) x (ixI i)=some v) (w:World): (Instr.index t x i).run P w= .ok v w:=by
 unfold qV at h
 split at h
 ·rename_i n m cs k hx hi
  split at h
  ·rename_i hk
   obtain⟨kk,rfl⟩:=IG hi
   unfold ixT at hx
   split at hx
   ·rename_i n' e hu
    split at hx
    ·rename_i m' hm
     cases hx
     simp only[Instr.index,asIntOf,Sem.run_bind,Sem.run_pure,Result.andThen_ok,run_underlying hu w,hk,and_self, ↓reduceIte,iT hm w]
     exact rn hm h w
    cases hx
   ·split at hx<;>cases hx
   ·cases hx
   cases hx
  cases h
 ·rename_i s k hx hi
  split at h
  ·rename_i hk
   obtain⟨kk,rfl⟩:=IG hi
   unfold ixT at hx
   split at hx
   ·split at hx<;>cases hx
   ·split at hx<;>cases hx
   ·rename_i hu
    cases hs:s[k.toNat]? with
    |none=>rw[hs] at h;cases h
    |some b=>
     rw[hs] at h
     simp only[Option.map_some,Option.some.injEq] at h;subst h
     simp only[Instr.index,asIntOf,Sem.run_bind,Sem.run_pure,Result.andThen_ok,run_underlying hu w,hk, ↓reduceIte,hs]
   cases hx
  cases h
 cases h
def M5 {t:TypeId} {x i v:Value} (h:i_ (ixT P t) x (ixI i)=some v) (w:World): (Instr.indexAt t x i).run P w= .ok v w:=by
 unfold i_ at h
 split at h
 ·rename_i n m a k hx hi
  split at h
  ·rename_i hk
   obtain⟨kk,rfl⟩:=IG hi
   unfold ixT at hx
   split at hx
   ·rename_i n' e hu
    split at hx
    ·rename_i m' hm
     cases hx
     cases h
     simp only[Instr.indexAt,asIntOf,Sem.run_bind,Sem.run_pure,Result.andThen_ok,run_underlying hu w,Instr.sureAddr,hk,and_self, ↓reduceIte,iT hm w]
    cases hx
   ·split at hx<;>cases hx
   ·cases hx
   cases hx
  cases h
 ·rename_i m a n c k hx hi
  split at h
  ·rename_i hk
   obtain⟨kk,rfl⟩:=IG hi
   unfold ixT at hx
   split at hx
   ·split at hx<;>cases hx
   ·rename_i e hu
    split at hx
    ·rename_i m' hm
     cases hx
     cases h
     simp only[Instr.indexAt,asIntOf,Sem.run_bind,Sem.run_pure,Result.andThen_ok,run_underlying hu w,hk,and_self, ↓reduceIte,iT hm w]
    cases hx
   ·cases hx
   cases hx
  cases h
 cases h
def M6 {t:TypeId} {x v:Value} {i:Nat} (h:AD (bB P t i) x=some v) (w:World): (Instr.fieldAt t x i).run P w= .ok v w:=by
 unfold AD at h
 split at h
 ·rename_i off m a hx
  split at h
  ·cases h
  rename_i vK
  unfold bB at hx
  split at hx
  ·rename_i fs hu
   split at hx
   ·rename_i fd hf
    split at hx
    ·rename_i m' hm
     cases hx
     cases h
     simp only[Instr.fieldAt,Sem.run_bind,Sem.run_pure,Result.andThen_ok,run_underlying hu w,hf,Instr.sureAddr,fieldPlace,iT hm w,vK, ↓reduceIte]
    cases hx
   cases hx
  cases hx
 cases h
def QH {t:TypeId} {x v:Value} {i:Nat} (h:tX (bB P t i) x=some v) (w:World): (Instr.field t x i).run P w= .ok v w:=by
 unfold tX at h
 split at h
 ·rename_i off m cs hx
  unfold bB at hx
  split at hx
  ·rename_i fs hu
   split at hx
   ·rename_i fd hf
    split at hx
    ·rename_i m' hm
     cases hx
     simp only[Instr.field,Sem.run_bind,Result.andThen_ok,run_underlying hu w,hf,asAgg,Sem.run_pure]
     exact rn hm h w
    cases hx
   cases hx
  cases hx
 cases h
def x5 {t:TypeId} {n:Nat} {m:Bool×Nat} (h:ixT P t= .arr n m): ∃e,P.underlying t=some (.array n e)∧aR P e=some m:=by
 unfold ixT at h
 split at h
 ·rename_i n' e hu
  split at h
  ·rename_i m' hm;cases h;exact⟨e,hu,hm⟩
  cases h
 ·split at h<;>cases h
 ·cases h
 cases h
def xZ {t:TypeId} {m:Bool×Nat} (h:ixT P t= .sl m): ∃e,P.underlying t=some (.slice e)∧aR P e=some m:=by
 unfold ixT at h
 split at h
 ·split at h<;>cases h
 ·rename_i e hu
  split at h
  ·rename_i m' hm;cases h;exact⟨e,hu,hm⟩
  cases h
 ·cases h
 cases h
def FJ {t:TypeId} (h:ixT P t= .str):P.underlying t=some .string:=by
 unfold ixT at h
 split at h
 ·split at h<;>cases h
 ·split at h<;>cases h
 ·assumption
 cases h
def UD {t:TypeId} {x v:Value} (h:gY (ixT P t) x=some v) (y:TypeId) (ts:Array TypeId) (vs:Array Value) (h1:vs[0]? =some x) (h2:ts[0]? =some t) (w:World):
  (Builtin.len_ ts y vs).run P w= .ok v w:=by
 unfold gY at h
 split at h
 ·rename_i s hx
  cases h
  simp only[Builtin.len_,h1,h2,Sem.run_bind,run_underlying (FJ hx) w,Result.andThen_ok];rfl
 ·rename_i n m hx
  cases h
  obtain⟨e,hu,_⟩:=x5 hx
  simp only[Builtin.len_,h1,h2,Sem.run_bind,run_underlying hu w,Result.andThen_ok];rfl
 ·rename_i m a n c hx
  cases h
  obtain⟨e,hu,_⟩:=xZ hx
  simp only[Builtin.len_,h1,h2,Sem.run_bind,run_underlying hu w,Result.andThen_ok];rfl
 cases h
def Vh {t:TypeId} {x v:Value} (h:capV (ixT P t) x=some v) (y:TypeId) (ts:Array TypeId) (vs:Array Value) (h1:vs[0]? =some x) (h2:ts[0]? =some t) (w:World):
  (Builtin.cap_ ts y vs).run P w= .ok v w:=by
 unfold capV at h
 split at h
 ·rename_i n m hx
  cases h
  obtain⟨e,hu,_⟩:=x5 hx
  simp only[Builtin.cap_,h1,h2,Sem.run_bind,run_underlying hu w,Result.andThen_ok];rfl
 ·rename_i m a n c hx
  cases h
  obtain⟨e,hu,_⟩:=xZ hx
  simp only[Builtin.cap_,h1,h2,Sem.run_bind,run_underlying hu w,Result.andThen_ok];rfl
 cases h
def IU {x:Value} {i:Int} (h:ixI x=some i) {y:Nat} (hi:0≤i∧i≤y) (code:BoundsCode) (w:World): (Instr.sliceBound x y code).run P w= .ok i.toNat w:=by
 obtain⟨k,rfl⟩:=IG h
 simp only[Instr.sliceBound,asIntOf,Sem.run_bind,Sem.run_pure,Result.andThen_ok,hi,and_self, ↓reduceIte]
def Lu {b:Bool} {n c l h:Nat} {lo hi:Option Value} (hh:bndV n c (lo.map ixI) (hi.map ixI)=some (l,h)) (w:World):
  (Instr.sliceBounds b n c lo hi none).run P w= .ok (l,h,c) w:=by
 unfold bndV at hh
 cases lo with
 |none=>
  cases hi with
  |none=>
   simp only[Option.map_none,Option.some.injEq,Prod.mk.injEq] at hh
   obtain⟨rfl,rfl⟩:=hh
   simp[Instr.sliceBounds]
  |some hv=>
   simp only[Option.map_none,Option.map_some] at hh
   split at hh
   ·cases ‹some (ixI hv)=none›
   ·cases ‹_=none›
   ·rename_i h' e1 e2
    split at hh
    ·rename_i hb
     cases hh
     simp only[Option.some.injEq] at e2
     simp[Instr.sliceBounds,IU e2 hb]
    cases hh
   ·cases ‹none=some (some _)›
   cases hh
 |some lv=>
  cases hi with
  |none=>
   simp only[Option.map_none,Option.map_some] at hh
   split at hh
   ·cases ‹some (ixI lv)=none›
   ·rename_i l' e1 e2
    split at hh
    ·rename_i hb
     cases hh
     simp only[Option.some.injEq] at e1
     simp[Instr.sliceBounds,IU e1 hb]
    cases hh
   ·cases ‹some (ixI lv)=none›
   ·cases ‹none=some (some _)›
   cases hh
  |some hv=>
   simp only[Option.map_some] at hh
   split at hh
   ·cases ‹some (ixI lv)=none›
   ·cases ‹some (ixI hv)=none›
   ·cases ‹some (ixI lv)=none›
   ·rename_i l' h' e1 e2
    split at hh
    ·rename_i hb
     cases hh
     simp only[Option.some.injEq] at e1 e2
     simp[Instr.sliceBounds,IU e2 (⟨by omega,hb.2.2⟩:0≤h'∧h'≤ (c:Int)),IU e1 (y:=h'.toNat) ⟨hb.1,by omega⟩]
    cases hh
   cases hh
def Ro {t:TypeId} {x v:Value} {lo hi:Option Value} (h:gb (ixT P t) x (lo.map ixI) (hi.map ixI)=some v) (w:World): (Instr.sliceAt t x lo hi none).run P w= .ok v w:=by
 unfold gb at h
 split at h
 ·rename_i s hx
  split at h
  ·rename_i l zu hb
   cases h
   have hu:=FJ hx
   simp only[Instr.sliceAt,Instr.slice,Sem.run_bind,run_underlying hu w,Result.andThen_ok,Option.isSome_none,Bool.false_eq_true, ↓reduceIte,Lu hb w,Sem.run_pure]
  cases h
 ·rename_i m a n c hx
  split at h
  ·rename_i l zu hb
   cases h
   obtain⟨e,hu,hm⟩:=xZ hx
   simp only[Instr.sliceAt,Instr.slice,Sem.run_bind,run_underlying hu w,Result.andThen_ok,Lu hb w,iT hm w,Sem.run_pure]
  cases h
 ·rename_i n m a hx
  split at h
  ·rename_i l zu hb
   cases h
   obtain⟨e,hu,hm⟩:=x5 hx
   simp only[Instr.sliceAt,Instr.sureAddr,Sem.run_bind,run_underlying hu w,Result.andThen_ok,Lu hb w,iT hm w,Sem.run_pure]
  cases h
 cases h
def BF {t:TypeId} {x y:Value} {b:Bool} (d:Nat) (h:eW (P.underlying t) x y=some b) (w:World): (Op.equalIn (d+1) t x y).run P w= .ok b w:=by
 unfold eW at h
 split at h<;>first
  | (
    rename_i hu
    simp only[Option.some.injEq] at h
    subst h
    simp only[Op.equalIn,Sem.run_bind,run_underlying hu w,Result.andThen_ok]
    rfl)
  |cases h
def FV (P:Program): ∀ (d k:Nat) (t:TypeId) (x y:Value) (b:Bool),eqD P d t x y=some b→ ∀w,(Op.equalIn (d+k) t x y).run P w= .ok b w:=by
 intro d
 induction d with
 |zero=>intro k t x y b h;cases h
 |succ d ih=>
  intro k t x y b h w
  have e:d+1+k=(d+k)+1:=by omega
  rw[e]
  unfold eqD at h
  split at h
  ·rename_i k0 k1 a k2 c hu
   split at h
   ·rename_i hk
    cases h
    subst hk
    simp[Op.equalIn,run_underlying hu w]
   cases h
  ·rename_i a c hu
   cases h
   simp[Op.equalIn,run_underlying hu w]
  ·rename_i n el xs ys hu
   split at h
   ·rename_i m hm
    simp only[Op.equalIn,Sem.run_bind,run_underlying hu w,Result.andThen_ok,iT hm w]
    simp only[Std.Legacy.Range.forIn_eq_forIn_range',Std.Legacy.Range.size,Nat.sub_zero,Nat.add_one_sub_one,Nat.div_one]
    rw[List.range_eq_range'] at h
    generalize List.range' 0 n=is at h ⊢
    induction is with
    |nil=>cases h;simp
    |cons j is ihl=>
     unfold Ap at h
     simp only[List.forIn_cons,Sem.run_bind]
     split at h
     ·rename_i h1
      unfold sx at h1
      split at h1
      ·rename_i m' he
       cases he
       split at h1
       ·rename_i a c ha hc
        simp only[rn hm ha w,rn hm hc w,Result.andThen_ok,ih k el a c true h1 w,Bool.not_true,Bool.false_eq_true,if_false,Sem.run_pure]
        exact ihl h
       cases h1
      cases h1
     ·rename_i h1
      cases h
      unfold sx at h1
      split at h1
      ·rename_i m' he
       cases he
       split at h1
       ·rename_i a c ha hc
        simp only[rn hm ha w,rn hm hc w,Result.andThen_ok,ih k el a c false h1 w,Bool.not_false,if_true,Sem.run_pure]
       cases h1
      cases h1
     cases h
   cases h
  ·rename_i fs xs ys hu
   split at h
   ·cases h
   rename_i bK
   have ri:P.stoodInHeld t=false:=by simpa using bK
   simp only[Op.equalIn,Sem.run_bind,run_underlying hu w,Result.andThen_ok,run_program,ri,Bool.false_eq_true,if_false]
   rw[←Array.forIn_toList]
   generalize fs.toList=l at h ⊢
   clear hu
   induction l with
   |nil=>cases h;simp
   |cons f l ihl=>
    unfold AI at h
    simp only[List.forIn_cons,Sem.run_bind,Sem.run_ite]
    split at h
    ·rename_i aX
     rw[if_pos aX]
     split at h
     ·rename_i h1
      unfold sx at h1
      split at h1
      ·rename_i m' hm
       split at h1
       ·rename_i a c ha hc
        simp only[rn hm ha w,rn hm hc w,Result.andThen_ok,ih k f.type a c true h1 w,Bool.not_true,Bool.false_eq_true,if_false,Sem.run_pure]
        exact ihl h
       cases h1
      cases h1
     ·rename_i h1
      cases h
      unfold sx at h1
      split at h1
      ·rename_i m' hm
       split at h1
       ·rename_i a c ha hc
        simp only[rn hm ha w,rn hm hc w,Result.andThen_ok,ih k f.type a c false h1 w,Bool.not_false,if_true,Sem.run_pure]
       cases h1
      cases h1
     cases h
    rename_i aX
    rw[if_neg aX]
    simp only[Sem.run_pure,Result.andThen_ok]
    exact ihl h
  exact BF (d+k) h w
def FC {op:BinOp} {t:TypeId} {x y:Operand} {a b:Value} {r:Bool} (hp: (eu a&&eu b)≠true) (hr:eqX P t a b=some r) (w:World):
  (eqGuard op t x y a b).run P w= .ok () w∧(Op.equal t a b).run P w= .ok r w∧binOp .eql t a b=(do pure (.bool (←Op.equal t a b)):Sem Value)∧binOp .neq t a b=(do pure (.bool (!(←Op.equal t a b))):Sem Value):=by
 unfold eqX at hr
 split at hr
 ·rename_i xs ys
  split at hr
  ·cases hr
  rename_i hg
  have HL:P.eqGuardType P.depth t=false:=by simpa using hg
  refine⟨?_,FV P 8 9992 t _ _ r hr w,rfl,rfl⟩
  unfold eqGuard
  cases op<;>first
   |rfl
   |simp[Sem.run_bind,run_program,HL]
 refine⟨?_,BF 9999 hr w, ?_, ?_⟩
 ·unfold eW at hr
  split at hr<;>first| (unfold eqGuard;cases op<;>rfl) |cases hr
 ·unfold eW at hr
  split at hr<;>first|rfl|cases hr
 unfold eW at hr
 split at hr<;>first|rfl|cases hr
def UN {op:BinOp} {t:TypeId} {x y:Operand} {a b v:Value} (h:bF P op t a b=some v) (w:World):
  (do eqGuard op t x y a b;binOp op t a b:Sem Value).run P w= .ok v w:=by
 unfold bF at h
 split at h
 ·rename_i hp
  have hg: (eqGuard op t x y a b).run P w= .ok () w:=by
   unfold eqGuard
   cases a<;>simp only[eu,Bool.false_and,Bool.false_eq_true] at hp<;>
    (split<;>rfl)
  rw[Sem.run_bind,hg]
  exact UF w h
 rename_i hp
 split at h
 ·cases hr:eqX P t a b with
  |none=>rw[hr] at h;cases h
  |some r=>
   rw[hr] at h
   simp only[Option.map_some,Option.some.injEq] at h;subst h
   obtain⟨h1,h2,e,-⟩:=FC (op:= .eql) (x:=x) (y:=y) hp hr w
   rw[Sem.run_bind,h1]
   simp only[Result.andThen_ok]
   rw[e,Sem.run_bind,h2];rfl
 ·cases hr:eqX P t a b with
  |none=>rw[hr] at h;cases h
  |some r=>
   rw[hr] at h
   simp only[Option.map_some,Option.some.injEq] at h;subst h
   obtain⟨h1,h2,-,e⟩:=FC (op:= .neq) (x:=x) (y:=y) hp hr w
   rw[Sem.run_bind,h1]
   simp only[Result.andThen_ok]
   rw[e,Sem.run_bind,h2];rfl
 cases h
def WM {s d:TypeId} {k:IntKind} (h:cvT P s d= .int k): ∃k',P.underlying s=some (.int k')∧P.underlying d=some (.int k):=by
 unfold cvT at h
 split at h
 ·rename_i a b;cases h;exact⟨_,a,b⟩
 ·cases h
 ·split at h<;>cases h
 ·split at h<;>cases h
 cases h
def Sc {s d:TypeId} {x v:Value} (hw:Hp w0 L w) (h:jP w0 L (cvT P s d) x=some v): (convert s d x).run P w= .ok v w:=by
 unfold jP at h
 split at h
 ·rename_i k hc
  obtain⟨k',h1,h2⟩:=WM hc
  unfold gK at h
  split at h
  ·cases h
   simp only[convert,Sem.run_bind,run_underlying h1 w,run_underlying h2 w,Result.andThen_ok,Conv.intToInt,Sem.run_pure]
  cases h
 ·rename_i hc
  unfold cvT at hc
  split at hc
  ·cases hc
  ·rename_i h1 h2
   split at h
   ·cases h
    simp only[convert,Sem.run_bind,run_underlying h1 w,run_underlying h2 w,Result.andThen_ok,Sem.run_pure]
   cases h
  ·split at hc<;>cases hc
  ·split at hc<;>cases hc
  cases hc
 ·rename_i hc
  unfold cvT at hc
  split at hc
  ·cases hc
  ·cases hc
  ·rename_i e h1 h2
   split at hc
   ·rename_i h3
    unfold x7 at h
    split at h
    ·cases h
     simp only[convert,Sem.run_bind,run_underlying h1 w,run_underlying h2 w,run_underlying h3 w,Result.andThen_ok];rfl
    ·simp only[convert,Sem.run_bind,run_underlying h1 w,run_underlying h2 w,run_underlying h3 w,Result.andThen_ok]
     exact XT_ hw h
    cases h
   cases hc
  ·split at hc<;>cases hc
  cases hc
 cases h
def qL {f:Fr} {o:Oper} {v:Value} (hw:Hp w0 L w) (h:jo P w0 L f o.op=some v): (execOp (ev f) o).run P w= .ok (.value v) w:=by
 obtain⟨dst,op,ty,pos,after,guard⟩:=o
 simp only at h
 unfold jo at h
 split at h<;>simp only[execOp]
 ·cases h;rfl
 ·cases h;rfl
 ·rename_i c a b
  cases hc:ev f c<;>rw[hc] at h<;>simp only[jG,reduceCtorEq] at h
  rename_i t
  cases t<;>simp only[Option.some.injEq] at h<;>subst h<;>rfl
 ·rw[Sem.run_bind,UN h w];rfl
 ·rw[Sem.run_bind,WV w h];rfl
 ·rw[Sem.run_bind,Sc hw h];rfl
 ·rename_i x
  unfold nilV at h
  split at h
  ·rename_i a hx;cases h;simp only[hx];rfl
  ·rename_i k a b hx;cases h;simp only[hx];rfl
  cases h
 ·rw[Sem.run_bind,M6 h w];rfl
 ·rw[Sem.run_bind,QH h w];rfl
 ·rw[Sem.run_bind,M5 h w];rfl
 ·rw[Sem.run_bind,QC h w];rfl
 ·rename_i t x
  unfold ut at h
  split at h
  ·rename_i b off hx
   simp only[Instr.loadAt,hx,Instr.sureAddr,Sem.run_bind,Sem.run_pure,Result.andThen_ok,WG_ hw h]
  cases h
 ·rename_i x i
  unfold Ib at h
  split at h
  ·rename_i vs hx
   simp only[Instr.extract,hx,h];rfl
  cases h
 ·rename_i t x lo hi
  have h':gb (ixT P t) (ev f x) ((lo.map (ev f)).map ixI) ((hi.map (ev f)).map ixI)=some v:=by
   rw[Option.map_map,Option.map_map];exact h
  rw[Sem.run_bind]
  simp only[Option.map_none]
  rw[Ro h' w];rfl
 ·cases h;rfl
 ·rename_i args ts
  split at h
  ·rename_i x t hx ht
   have h1: (args.map (ev f))[0]? =some (ev f x):=by simp[hx]
   simp only[resolve,Sem.run_bind,Sem.run_pure,Result.andThen_ok,invoke,builtin]
   rw[UD h _ _ _ h1 ht w];rfl
  cases h
 ·rename_i args ts
  split at h
  ·rename_i x t hx ht
   have h1: (args.map (ev f))[0]? =some (ev f x):=by simp[hx]
   simp only[resolve,Sem.run_bind,Sem.run_pure,Result.andThen_ok,invoke,builtin]
   rw[Vh h _ _ _ h1 ht w];rfl
  cases h
 cases h
end
end Go.Sx
end
namespace Go.Sx
open Go
section
variable {P:Program} {ops:Array Oper} {Q:Exit→Act→World→Prop}
def Left (o:Oper) (a a':Act):Prop:= ∃u ds,a'=({a with defers:=ds}:Act).put o.dst u
def Qo {o:Oper} {a:Act} {d:Option Tmp} {v:Value} {K:Act→World→Prop} (hd: ∀t,d=some t→o.dst≠some t)
  (hQ: ∀c a w,Q (.panic c) (a.put d v) w→Q (.panic c) a w) (r:Result Next) (h:o.upon P (a.put d v) K Q r):
  o.upon P a (fun a' w'=>Left o a a'∧K (a'.put d v) w') Q r:=by
 have comm: ∀u,(a.put o.dst u).put d v=(a.put d v).put o.dst u:=fun u=>(Act.put_comm a v u hd).symm
 have hl: ∀u,Left o a (a.put o.dst u):=fun u=>⟨u,a.defers,rfl⟩
 match r,h with
 | .ok (.value u) _,h=>exact⟨hl u,by rw[comm];exact h⟩
 | .ok .skip _,h=>exact⟨hl undef,by rw[comm];exact h⟩
 | .ok (.defer e) _,h=>
  refine⟨⟨undef,e::a.defers,rfl⟩, ?_⟩
  rw[←Act.put_comm _ v undef hd,←Act.put_defers]
  exact h
 | .ok (.enter f args) _,h=>
  refine Calls.mono h fun e w'' he=> ?_
  match e,he with
  | .returned u,he=>exact⟨hl u,by rw[comm];exact he⟩
  | .panicked c,he=>exact hQ _ _ _ he
  | .outgrown,he=>exact he
 | .ok (.row row args) _,h=>exact Rows.mono h fun u w'' he=>⟨hl u,by rw[comm];exact he⟩
 | .halt (.panic u) _,h=>exact hQ _ _ _ h
def Qa {j:Nat} {oi oj:Oper} {v:Value} (hj:ops[j]? =some oj) (sK:oi.apart ops oj=true) (Hx: ∀cs b,oj.op≠ .select cs b)
  (hQ: ∀c a w,Q (.panic c) (a.put oi.dst v) w→Q (.panic c) a w) {K:Act→World→Prop} {a:Act} {w:World}
  (h:wpOp P ops Q j K (a.put oi.dst v) w):wpOp P ops Q j (fun a' w'=>Left oj a a'∧K (a'.put oi.dst v) w') a w:=by
 obtain⟨h1,h2,h3⟩:=Oper.apart_spec sK
 unfold wpOp at h ⊢
 simp only[hj] at h ⊢
 rw[wanted_put oj a oi.dst v h1] at h
 cases hw:Region.wanted oj (yielded ops a.tmps) with
 |true=>
  rw[hw] at h
  simp only[if_true] at h ⊢
  rcases h with h| ⟨uy,hl⟩
  ·left
   unfold Oper.wp at h ⊢
   rw[execOp_put oj Hx a oi.dst v h1] at h
   exact Qo h2 hQ _ h
  right
  exact⟨by unfold Oper.asks at*;rwa [execOp_put oj Hx a oi.dst v h1] at uy,hl⟩
 |false=>
  rw[hw] at h
  simp only[Bool.false_eq_true,if_false] at h ⊢
  exact⟨⟨undef,a.defers,rfl⟩,by rw[←Act.put_comm a v undef h2];exact h⟩
def mU (P:Program) (ops:Array Oper) (Q:Exit→Act→World→Prop) (ts:List Nat) (C:World→Prop):Nat→Array Bool→Act→World→Prop
 |0,listed,a,w=>((∀t,t∈ts→listed.getD t true=false)→C w)∧Region.ready .any ops listed= []∧Q .normal a w
 |n+1,listed,a,w=>
  ((∀t,t∈ts→listed.getD t true=false)→C w)∧(Region.ready .any ops listed= []→Q .normal a w)∧
  ∀i∈Region.ready .any ops listed,wpOp P ops Q i (mU P ops Q ts C n (listed.setIfInBounds i true)) a w
variable {ts:List Nat} {C:World→Prop}
def Az {listed:Array Bool} {i t:Nat} (h:listed.getD t true=true): (listed.setIfInBounds i true).getD t true=true:=by
 by_cases he:i=t
 ·subst he
  rw[Array.getD_eq_getD_getElem?,Array.getElem?_setIfInBounds_self]
  split<;>rfl
 rw[getD_set_ne true he];exact h
theorem II: ∀ (n:Nat) (listed:Array Bool) (a:Act) (w:World),mU P ops Q ts C n listed a w→wpAny P .any ops Q n listed a w
 |0,_,_,_,h=>h.2
 |n+1,_,_,_,h=>⟨h.2.1,fun i hi=>wpOp_mono (fun a w k=>II n _ a w k) (h.2.2 i hi)⟩
theorem wH: ∀ (n:Nat) (listed:Array Bool) (a:Act) (w:World),(∃t∈ts,listed.getD t true=true)→wpAny P .any ops Q n listed a w→mU P ops Q ts C n listed a w
 |0,_,_,_,⟨t,ht,hl⟩,h=>⟨fun hn=>(by rw[hn t ht] at hl;cases hl),h.1,h.2⟩
 |n+1,_,_,_,⟨t,ht,hl⟩,h=>
  ⟨fun hn=>(by rw[hn t ht] at hl;cases hl),h.1,fun i hi=>wpOp_mono (fun a w k=>wH n _ a w ⟨t,ht,Az hl⟩ k) (h.2 i hi)⟩
structure First (ops:Array Oper) (ts:List Nat) (i:Nat) (oi:Oper) (pure:Prop) (listed:Array Bool):Prop where
 ready:i∈Region.ready .any ops listed
 free: ∀j oj,ops[j]? =some oj→j≠i→listed.getD j true=false→(∀e∈oj.after,Region.binds .any e=true→e.on≠i)→oi.apart ops oj=true
 waits:pure∨ ∃cs:List Nat,(∀t,t∈ts→listed.getD t true=false→t∈cs)∧
  ∀c,c∈cs→c≠i∧listed.getD c true=false∧ ∃oc,ops[c]? =some oc∧ ∃e∈oc.after,Region.binds .any e=true∧(e.on=i∨e.on∈cs)
def YieldsC (P:Program) (ops:Array Oper) (C:World→Prop) (pure:Prop) (o:Oper) (v:Value) (a:Act):Prop:=
 (Region.wanted o (yielded ops a.tmps)=true∧ ∀w,(pure∨C w)→(execOp a.eval o).run P w= .ok (.value v) w)∨
 (Region.wanted o (yielded ops a.tmps)=false∧v=undef)
theorem YieldsC.wpOp {pure:Prop} {i:Nat} {o:Oper} {v:Value} {a:Act} (hi:ops[i]? =some o) (hy:YieldsC P ops C pure o v a)
  {K:Act→World→Prop} {w:World} (hw:pure∨C w) (h:K (a.put o.dst v) w):Go.wpOp P ops Q i K a w:=by
 unfold Go.wpOp
 simp only[hi]
 rcases hy with⟨h1,hv⟩ | ⟨h1,rfl⟩
 ·simp only[h1,if_true,Oper.wp,hv w hw,Oper.upon];exact .inl h
 simp only[h1,Bool.false_eq_true,if_false];exact h
def YieldsC.left {pure:Prop} {oi oj:Oper} {v:Value} {a a':Act} (hy:YieldsC P ops C pure oi v a) (hsi: ∀cs b,oi.op≠ .select cs b)
  (h3: ∀d,oj.dst=some d→d∉oi.looksAt ops) (hl:Left oj a a'):YieldsC P ops C pure oi v a':=by
 obtain⟨u,ds,rfl⟩:=hl
 have e1:execOp (({a with defers:=ds}:Act).put oj.dst u).eval oi=execOp a.eval oi:=execOp_put oi hsi ({a with defers:=ds}:Act) oj.dst u h3
 have e2:Region.wanted oi (yielded ops (({a with defers:=ds}:Act).put oj.dst u).tmps)=Region.wanted oi (yielded ops a.tmps):=wanted_put oi ({a with defers:=ds}:Act) oj.dst u h3
 unfold YieldsC
 rw[e1,e2]
 exact hy
def s_ {pure:Prop} {i:Nat} {oi:Oper} {v:Value} (hi:ops[i]? =some oi) (cY:i∉ts) (jb: ∀ (j:Nat) (o:Oper) cs b,ops[j]? =some o→o.op≠ .select cs b)
  (hQ: ∀c a w,Q (.panic c) (a.put oi.dst v) w→Q (.panic c) a w):
  ∀ (fuel:Nat) (listed:Array Bool) (a:Act) (w:World),First ops ts i oi pure listed→(pure∨ ∀t,t∈ts→listed.getD t true=false)→YieldsC P ops C pure oi v a→
   mU P ops Q ts C fuel (listed.setIfInBounds i true) (a.put oi.dst v) w→mU P ops Q ts C (fuel+1) listed a w:=by
 intro fuel
 induction fuel with
 |zero=>
  intro listed a w hF hn hy H
  have cV: ∀t,t∈ts→(listed.setIfInBounds i true).getD t true=listed.getD t true:=fun t ht=>getD_set_ne true (fun e=>cY (e▸ht))
  have hC: (∀t,t∈ts→listed.getD t true=false)→C w:=fun h=>H.1 fun t ht=>(cV t ht).trans (h t ht)
  refine⟨hC,fun h=>(by have:=hF.ready;rw[h] at this;cases this),fun j hj=> ?_⟩
  by_cases vE:j=i
  ·subst vE;exact hy.wpOp hi (hn.imp id hC) H
  have:=ready_mono hj vE
  rw[H.2.1] at this
  cases this
 |succ fuel ih=>
  intro listed a w hF hn hy H
  have cV: ∀t,t∈ts→(listed.setIfInBounds i true).getD t true=listed.getD t true:=fun t ht=>getD_set_ne true (fun e=>cY (e▸ht))
  have hC: (∀t,t∈ts→listed.getD t true=false)→C w:=fun h=>H.1 fun t ht=>(cV t ht).trans (h t ht)
  refine⟨hC,fun h=>(by have:=hF.ready;rw[h] at this;cases this),fun j hj=> ?_⟩
  by_cases vE:j=i
  ·subst vE;exact hy.wpOp hi (hn.imp id hC) H
  have h1:=H.2.2 j (ready_mono hj vE)
  obtain⟨HO,oj,Jz,gh⟩:=mem_ready.1 hj
  have Hd: ∀e∈oj.after,Region.binds .any e=true→e.on≠i:=fun e he hb heq=>by
   have h2:=gh e he hb
   have h0:=(mem_ready.1 hF.ready).1
   rw[heq] at h2
   rcases Nat.lt_or_ge i listed.size with h'|h'
   ·simp[h'] at h0 h2;rw[h0] at h2;cases h2
   simp[Array.getElem?_eq_none h'] at h2
  have sK:=hF.free j oj Jz vE HO Hd
  have h2:=Qa Jz sK (fun cs b=>jb j oj cs b Jz) hQ h1
  have old: ∀k,(listed.setIfInBounds j true).getD k true=false→listed.getD k true=false:=fun k hk=>by
   by_cases qE:j=k
   ·subst qE;exact HO
   rwa [getD_set_ne true qE] at hk
  have A2: ∀k,listed.getD k true=false→k≠j→(listed.setIfInBounds j true).getD k true=false:=fun k hk hkj=>by
   rw[getD_set_ne true (Ne.symm hkj)];exact hk
  have rI:=(mem_ready.1 hF.ready).1
  have aA: ∀cs:List Nat,(∀c,c∈cs→c≠i∧listed.getD c true=false∧ ∃oc,ops[c]? =some oc∧ ∃e∈oc.after,Region.binds .any e=true∧(e.on=i∨e.on∈cs))→j∉cs:=by
   intro cs eD hjc
   obtain⟨-,-,oc,hoc,e,he,hb,heq⟩:=eD j hjc
   rw[Jz] at hoc
   cases hoc
   have h2:=gh e he hb
   rcases heq with heq|heq
   ·exact Hd e he hb heq
   have h3:=(eD _ heq).2.1
   rcases Nat.lt_or_ge e.on listed.size with h'|h'
   ·simp[h'] at h2 h3;rw[h3] at h2;cases h2
   simp[Array.getElem?_eq_none h'] at h2
  have eB:First ops ts i oi pure (listed.setIfInBounds j true):=
   ⟨ready_mono hF.ready (Ne.symm vE),fun k ok hk hki A2 qH=>hF.free k ok hk hki (old k A2) qH,hF.waits.imp id fun⟨cs,du,ef⟩=>
    ⟨cs,fun t ht hu=>du t ht (old t hu),fun c hc=>by
     obtain⟨h1,h2,h3⟩:=ef c hc
     exact⟨h1,A2 c h2 (fun e=>aA cs ef (e▸hc)),h3⟩⟩⟩
  have aT:pure∨ ∀t,t∈ts→(listed.setIfInBounds j true).getD t true=false:=by
   rcases hF.waits with h| ⟨cs,du,ef⟩
   ·exact .inl h
   rcases hn with h|hn
   ·exact .inl h
   refine .inr fun t ht=> ?_
   have hjc:=aA cs ef
   exact A2 t (hn t ht) (fun e=>hjc (e▸du t ht (hn t ht)))
  refine wpOp_mono (fun a' w' h3=>ih (listed.setIfInBounds j true) a' w' eB aT (hy.left (fun cs b=>jb i oi cs b hi) (Oper.apart_spec sK).2.2 h3.1) ?_) h2
  rw[Array.setIfInBounds_comm _ _ vE]
  exact h3.2
end
end Go.Sx
section
namespace Go.Sx
open Go
def eb (cs:Array Value) (off:Nat):List Value→Array Value
 | []=>cs
 |v::r=>eb (cs.setIfInBounds off v) (off+1) r
def ad (m:Option (Bool×Nat)) (o:Option Obj) (off:Nat) (v:Value):Option Obj:=
 match m,o with
 |some (_,n),some (.cells cs E fz)=>if v.cells.size=n∧off+n≤cs.size∧(fz.2≤fz.1∨off+n≤fz.1)∧v.cells.toList.all Value.oneCell'=true then some (.cells (eb cs off v.cells.toList) E fz) else none
 |_,_=>none
def sa (m:Option (Bool×Nat)) (L:aB) (a v:Value):Option aB:=
 match a with
 | .pointer (some ⟨b,off,none⟩)=>match ad m (look L b) off v with
  |some o=>some (setB L b o)
  |none=>none
 |_=>none
section
variable {P:Program} {w0 w:World} {L:aB}
def O9 {b off:Nat} {v:Value} {cs:Array Value} {E:TypeId} {fz:Nat×Nat} (hb:w.heap[b]? =some (.cells cs E fz)):
  w.setCell ⟨b,off,none⟩ v={w with heap:=w.heap.setIfInBounds b (.cells (cs.setIfInBounds off v) E fz)}:=by
 have aC:=(Array.getElem?_eq_some_iff.1 hb).1
 unfold World.setCell
 congr 1
 apply Array.ext_getElem?
 intro i
 rw[Array.getElem?_modify]
 by_cases hi:b=i
 ·subst hi
  rw[if_pos rfl,hb]
  simp[aC]
 rw[if_neg hi,Array.getElem?_setIfInBounds_ne hi]
theorem KB {b off:Nat} {E:TypeId} {fz:Nat×Nat}: ∀ (vs:List Value) (i:Nat) (cs:Array Value) (w:World),w.heap[b]? =some (.cells cs E fz)→
  off+i+vs.length≤cs.size→(fz.2≤fz.1∨off+i+vs.length≤fz.1)→vs.all Value.oneCell'=true→
  (storeCells ⟨b,off,none⟩ vs i).run P w= .ok () {w with heap:=w.heap.setIfInBounds b (.cells (eb cs (off+i) vs) E fz)}
 | [],i,cs,w,hb,_,_,_=>by
  have aC:=(Array.getElem?_eq_some_iff.1 hb)
  have:w.heap.setIfInBounds b (.cells cs E fz)=w.heap:=by
   apply Array.ext_getElem?
   intro j
   by_cases hj:b=j
   ·subst hj;rw[hb];simp[aC.1]
   rw[Array.getElem?_setIfInBounds_ne hj]
  simp only[storeCells,eb,this];rfl
 |v::r,i,cs,w,hb,hs,hf,ho=>by
  simp only[List.all_cons,Bool.and_eq_true] at ho
  simp only[List.length_cons] at hs hf
  have hc:w.cell? ⟨b,off+i,none⟩=some (cs[off+i]'oM):=by
   rw[cell_of_row w b _ cs E fz hb,Array.getElem?_eq_getElem oM]
  have hfz:w.frozen? ⟨b,off+i,none⟩=false:=by
   simp only[World.frozen?,hb,Bool.and_eq_false_iff,decide_eq_false_iff_not]
   omega
  have aC:=(Array.getElem?_eq_some_iff.1 hb).1
  simp only[storeCells,o0,Sem.run_bind,run_store P w _ v .plain ho.1,hc,hfz,Bool.false_eq_true, ↓reduceIte,Result.andThen_ok,O9 hb]
  have dO: ({w with heap:=w.heap.setIfInBounds b (.cells (cs.setIfInBounds (off+i) v) E fz)}:World).heap[b]? =some (.cells (cs.setIfInBounds (off+i) v) E fz):=by
   simp[aC]
  rw[KB r (i+1) _ _ dO (by simp;omega) oM ho.2]
  simp[eb,Nat.add_assoc]
def OC {t:TypeId} {a v:Value} {L':aB} (hw:Hp w0 L w) (h:sa (aR P t) L a v=some L'): ∃w',(Instr.storeAt t a v).run P w= .ok () w'∧Hp w0 L' w':=by
 unfold sa at h
 split at h
 ·rename_i b off
  split at h
  ·rename_i o hs
   cases h
   unfold ad at hs
   split at hs
   ·rename_i m n cs E fz hm hl
    split at hs
    ·rename_i hc
     obtain⟨h1,h2,h3,h4⟩:=hc
     cases hs
     have hb:=hw.has _ _ (cQ hl)
     have aP:v.cells.toList.length=n:=by simpa using h1
     refine⟨{w with heap:=w.heap.setIfInBounds b (.cells (eb cs off v.cells.toList) E fz)}, ?_,hw.set (List.mem_map.2 ⟨_,cQ hl,rfl⟩) rfl rfl rfl rfl⟩
     simp only[Instr.storeAt,Instr.sureAddr,Sem.run_bind,Sem.run_pure,Result.andThen_ok,storeVar,iT hm w,h1,ne_eq,not_true_eq_false, ↓reduceIte]
     rw[KB v.cells.toList 0 cs w hb oM oM h4]
     rfl
    cases hs
   cases hs
  cases h
 cases h
end
def wA (ops:Array Oper) (f:Fr) (j:Nat):Option Bool:=
 match(ops[j]?).bind (·.dst) with
 |some d=>match ec f d with
  | .bool b=>some b
  |_=>none
 |none=>none
def QZ (ops:Array Oper) (f:Fr) (j:Nat):yielded ops f.toArray j=wA ops f j:=by
 unfold yielded wA
 cases(ops[j]?).bind (·.dst) with
 |none=>rfl
 |some d=>
  simp only[Option.bind_some]
  have:=tM f d
  rw[Array.getD_eq_getD_getElem?] at this
  cases h:f.toArray[d]? with
  |none=>
   rw[h] at this
   simp only[Option.getD_none] at this
   rw[←this];rfl
  |some v=>
   rw[h] at this
   simp only[Option.getD_some] at this
   rw[←this]
   cases v<;>rfl
inductive Md where
 |seq
 |qui (is ts:List Nat)
 |any (is ts:List Nat)
 |sof (R is ts:List Nat)
def gW (P:Program):Op→Bool
 | .move _=>true
 | .assign _=>true
 | .pick .. =>true
 | .binOp .. =>true
 | .unOp .. =>true
 | .convert s d _=>match cvT P s d with| .int _=>true| .str=>true|_=>false
 | .nilCheck _=>true
 | .fieldAddr .. =>true
 | .field .. =>true
 | .indexAddr .. =>true
 | .index .. =>true
 | .extract .. =>true
 | .slice .. =>true
 | .makeFunc .. =>true
 | .call ⟨.builtin .len,_,_⟩=>true
 | .call ⟨.builtin .cap,_,_⟩=>true
 | .build .. =>true
 |_=>false
def jQ:Op→Bool
 | .load .. =>true
 | .convert .. =>true
 |_=>false
def wY (ops:Array Oper) (listed:Array Bool) (i:Nat):Nat→List Nat→List Nat
 |0,cs=>cs
 |n+1,cs=>wY ops listed i n ((List.range ops.size).filter fun j=>j !=i&& !listed.getD j true&&match ops[j]? with
  |some oj=>oj.after.any fun e=>Region.binds .any e&& (e.on==i||cs.contains e.on)
  |none=>false)
def FP (ops:Array Oper) (ts:List Nat) (listed:Array Bool) (i:Nat) (cs:List Nat):Bool:=
 (ts.all fun t=>listed.getD t true||cs.contains t)&&cs.all fun c=>c !=i&& !listed.getD c true&&match ops[c]? with
  |some oc=>oc.after.any fun e=>Region.binds .any e&& (e.on==i||cs.contains e.on)
  |none=>false
def w5 (ops:Array Oper) (ts:List Nat) (listed:Array Bool) (i:Nat):Bool:=
 FP ops ts listed i (wY ops listed i 6 [])
def uk (P:Program) (ops:Array Oper) (ts:List Nat):List Nat→Array Bool→Bool
 | [],listed=>(Region.ready .any ops listed).isEmpty
 |k::is,listed=>
  (match ops[k]? with
   |some o=>
    ((Region.ready .any ops listed== [k])&& !(ts.contains k&& (gW P o.op||jQ o.op))) ||
    (!ts.contains k&& (Region.ready .any ops listed).contains k&&Region.free .any ops listed k&&
     (gW P o.op|| (jQ o.op&&w5 ops ts listed k&&ts.all fun t=> !listed.getD t true)))
   |none=>false)&&uk P ops ts is (listed.setIfInBounds k true)
def fT (w0:World) (N:Fr→aB→Prop) (e:Exit) (a:Act) (w:World):Prop:=e= .normal∧a.defers= []∧ ∃L,Hp w0 L w∧N a.tmps.toList L
structure Fits (P:Program) (ops:Array Oper) (ts is:List Nat) (l:List Oper) (listed:Array Bool):Prop where
 len:is.length=l.length
 at_: ∀j:Nat,l[j]? =(is[j]?).bind fun i:Nat=>ops[i]?
 sel:Region.noSelect ops=true
 order:uk P ops ts is listed=true
def SR (w0:World) (R:List Nat) (L:aB) (w:World):Prop:= ∀b,b∈R→ ∀o,aU w0 L b=some o→w.heap[b]? =some o
def SR.of {w0 w:World} {R:List Nat} {L:aB} (h:Hp w0 L w):SR w0 R L w:=fun _ _ _ ho=>h.read ho
def Ow (P:Program) (w0:World) (ops:Array Oper) (md:Md) (l:List Oper) (f:Fr) (L:aB) (N:Fr→aB→Prop):Prop:=
 match md with
 | .seq=> ∀w,Hp w0 L w→wpList P ops (fT w0 N) l (act f) w
 | .qui is ts=> ∀listed,Fits P ops ts is l listed→(∀t,t∈ts→listed.getD t true=false)→ ∀w,Hp w0 L w→mU P ops (fT w0 N) ts (Hp w0 L) l.length listed (act f) w
 | .any is ts=> ∀listed,Fits P ops ts is l listed→(∃t∈ts,listed.getD t true=true)→ ∀w,Hp w0 L w→wpAny P .any ops (fT w0 N) l.length listed (act f) w
 | .sof R is ts=> ∀listed,Fits P ops ts is l listed→(∀t,t∈ts→listed.getD t true=false)→ ∀w,Hp w0 L w→mU P ops (fT w0 N) ts (SR w0 R L) l.length listed (act f) w
def Md.next:Md→Md
 | .seq=> .seq
 | .qui is ts=>match is with
  |k::is=>if ts.contains k then .any is ts else .qui is ts
  | []=> .qui [] ts
 | .any is ts=> .any is.tail ts
 | .sof R is ts=>match is with
  |k::is=>if ts.contains k then .any is ts else .sof R is ts
  | []=> .sof R [] ts
def Md.turn:Md→Option Md
 | .seq=>some .seq
 | .qui is ts=>match is with
  |k::is=>if ts.contains k then some (.any is ts) else none
  | []=>none
 | .any is ts=>some (.any is.tail ts)
 | .sof _ is ts=>match is with
  |k::is=>if ts.contains k then some (.any is ts) else none
  | []=>none
def bT (ops:Array Oper) (f:Fr) (o:Oper):Bool:=
 match o.guard with
 |none=>false
 |some (j,want)=> !(wA ops f j==some want)
def mY (ops:Array Oper) (f:Fr) (o:Oper):Region.wanted o (yielded ops (act f).tmps)= !bT ops f o:=by
 unfold Region.wanted bT
 cases o.guard with
 |none=>rfl
 |some p=>simp only[act,QZ,Bool.not_not]
section
variable {P:Program} {w0:World} {f:Fr} {L:aB} {K:d9} {N:Fr→aB→Prop} {ops:Array Oper} {o:Oper} {rest:List Oper} {md:Md} {ts is:List Nat} {listed:Array Bool}
theorem Fits.nil (h:Fits P ops ts is [] listed):is= []∧Region.ready .any ops listed= []:=by
 have:=h.len
 have hi:is= []:=by cases is with|nil=>rfl|cons _ _=>cases this
 subst hi
 exact⟨rfl,by simpa [uk] using h.order⟩
theorem Fits.cons (h:Fits P ops ts is (o::rest) listed): ∃k is',is=k::is'∧ops[k]? =some o∧Fits P ops ts is' rest (listed.setIfInBounds k true)∧
  ((gW P o.op=true∨jQ o.op=true)→k∉ts)∧(Region.ready .any ops listed= [k]∨(k∉ts∧k∈Region.ready .any ops listed∧Region.free .any ops listed k=true∧
   (gW P o.op=true∨(jQ o.op=true∧w5 ops ts listed k=true∧ ∀t,t∈ts→listed.getD t true=false)))):=by
 cases is with
 |nil=>have:=h.len;cases this
 |cons k is'=>
  have hk:ops[k]? =some o:=by have:=h.at_ 0;simpa using this.symm
  have ho:=h.order
  simp only[uk,hk,Bool.and_eq_true,Bool.or_eq_true,beq_iff_eq,Bool.not_eq_true',List.contains_eq_mem,decide_eq_true_eq,decide_eq_false_iff_not,List.all_eq_true,Bool.and_eq_false_iff,Bool.or_eq_false_iff] at ho
  refine⟨k,is',rfl,hk,⟨by have:=h.len;simpa using this,fun j=>by have:=h.at_ (j+1);simpa using this,h.sel,ho.2⟩, ?_⟩
  rcases ho.1 with⟨h1,h2⟩ | ⟨⟨⟨h1,h2⟩,h3⟩,h4⟩
  ·refine⟨fun hx=> ?_, .inl h1⟩
   rcases h2 with h2| ⟨h2,h3⟩
   ·exact h2
   rcases hx with hx|hx
   ·rw[hx] at h2;cases h2
   rw[hx] at h3;cases h3
  refine⟨fun _=>h1, .inr ⟨h1,h2,h3, ?_⟩⟩
  rcases h4 with h4| ⟨⟨h4,h5⟩,h6⟩
  ·exact .inl h4
  exact .inr ⟨h4,h5,h6⟩
theorem Ow.nil (h:N f L):Ow P w0 ops md [] f L N:=by
 cases md with
 |seq=>exact fun w hw=>wpList_nil ⟨rfl,rfl,L,hw,by simpa [act] using h⟩
 |qui is ts=>
  intro listed hF ht w hw
  exact⟨fun _=>hw,hF.nil.2,rfl,rfl,L,hw,by simpa [act] using h⟩
 |any is ts=>
  intro listed hF ht w hw
  exact wpAny_done hF.nil.2 ⟨rfl,rfl,L,hw,by simpa [act] using h⟩ 0
 |sof R is ts=>
  intro listed hF ht w hw
  exact⟨fun _=>SR.of hw,hF.nil.2,rfl,rfl,L,hw,by simpa [act] using h⟩
def yw {w0:World} {K:d9} {e:Exit} {a:Act} {w:World} (h:fT w0 (K .normal) e a w):post w0 K e a w:=by
 obtain⟨rfl,hd,L,hp,hk⟩:=h
 exact⟨hd,L,hp,hk⟩
def nW {w0:World} {N:Fr→aB→Prop} {c:List PanicEntry} {a a':Act} {w:World} (h:fT w0 N (.panic c) a w):fT w0 N (.panic c) a' w:=by
 obtain⟨h,_⟩:=h;cases h
theorem Cw.region {id:Nat} {l:List Oper} (h:Ow P w0 l.toArray .seq l f L (K .normal)):Cw P w0 (.region id l.toArray false) f L K:=
 fun w hw=>wp_mono (wp_region_lit (h w hw)) fun _ _ _ h=>yw h
def tN (P:Program) (l:List Oper) (is ts:List Nat):Bool:=
 Region.noSelect l.toArray&&is.length==l.length&& (ts.all fun t=>decide (t<l.length))&&uk P l.toArray ts is (Array.replicate l.length false)
def dh:List Oper→Nat→Option Oper
 | [],_=>none
 |o::_,0=>some o
 |_::r,n+1=>dh r n
def xj:Option Oper→List Oper→List Oper
 |some o,l=>o::l
 |none,l=>l
def iB (l:List Oper):List Nat→List Oper
 | []=> []
 |i::is=>xj (dh l i) (iB l is)
def nl (l:List Oper) (k:List Oper→Prop):Prop:=k l
@[congr] theorem aws_ {x y:List Oper} {k:List Oper→Prop} (h:x=y):nl x k=nl y k:=by rw[h]
def ai (o:Oper) (r:List Oper) (k:List Oper→Prop):nl (o::r) k=k (o::r):=(rfl)
def ag (o:Oper) (r:List Oper):dh (o::r) 0=some o:=(rfl)
def ae (o:Oper) (r:List Oper) (n:Nat):dh (o::r) (n+1)=dh r n:=(rfl)
def ac (o:Oper) (l:List Oper):xj (some o) l=o::l:=(rfl)
def ah (l:List Oper):iB l []= []:=(rfl)
def ab (l:List Oper) (i:Nat) (is:List Nat):iB l (i::is)=xj (dh l i) (iB l is):=(rfl)
def Cw.regionO {id:Nat} {l:List Oper} (is ts:List Nat) (hm:P.follows .mixedOrders=true) (hB:tN P l is ts=true) (hl:is.map (fun i:Nat=>l[i]?)=(iB l is).map some)
  (h:nl (iB l is) fun l'=>Ow P w0 l.toArray (.qui is ts) l' f L (K .normal)):Cw P w0 (.region id l.toArray true) f L K:=by
 revert hl h
 generalize iB l is=l'
 intro hl h w hw
 simp only[tN,Bool.and_eq_true,beq_iff_eq,List.all_eq_true,decide_eq_true_eq] at hB
 obtain⟨⟨⟨h1,h2⟩,h3⟩,h4⟩:=hB
 have aP:is.length=l'.length:=by have:=congrArg List.length hl;simpa using this
 refine wp_mono (wp_region_any hm ?_) fun _ _ _ h=>yw h
 have hF:Fits P l.toArray ts is l' (Array.replicate l.length false):=⟨aP,fun j=>by
  have:=congrArg (·[j]?) hl
  simp only[List.getElem?_map] at this
  cases hj:is[j]? with
  |none=>
   rw[hj] at this
   simp only[Option.map_none] at this
   cases fY:l'[j]? with
   |none=>rfl
   |some x=>rw[fY] at this;cases this
  |some i=>
   rw[hj] at this
   simp only[Option.map_some] at this
   cases fY:l'[j]? with
   |none=>rw[fY] at this;cases this
   |some x=>
    rw[fY] at this
    simp only[Option.map_some,Option.some.injEq] at this
    simp[this],h1,h4⟩
 have:=(h:Ow P w0 l.toArray (.qui is ts) l' f L (K .normal)) (Array.replicate l.length false) hF (fun t ht=>by have:=h3 t ht;simp[this]) _ hw.drew
 rw[←aP,h2] at this
 have:=II _ _ _ _ this
 simpa using this
def OpS (P:Program) (w0:World) (f:Fr) (L:aB) (o:Oper) (M:Value→aB→Prop):Prop:=
 ∀w,Hp w0 L w→
  (∃v w' L',(execOp (ev f) o).run P w= .ok (.value v) w'∧Hp w0 L' w'∧M v L')∨
  (∃w' L',(execOp (ev f) o).run P w= .ok .skip w'∧Hp w0 L' w'∧M undef L')∨
  (∃k args w1,(execOp (ev f) o).run P w= .ok (.enter k args) w1∧Calls P k args w1 fun e w'=> ∃v L',e= .returned v∧Hp w0 L' w'∧M v L')
theorem OpS.wp {M:Value→aB→Prop} {next:Act→World→Prop} {Q:Exit→Act→World→Prop} (h:OpS P w0 f L o M)
  (hn: ∀v L' w',Hp w0 L' w'→M v L'→next (act (al f o.dst v)) w') {w:World} (hw:Hp w0 L w):o.wp P (act f) w next Q:=by
 unfold Oper.wp
 rw[sm]
 rcases h w hw with⟨v,w',L',hr,hp,hm⟩ | ⟨w',L',hr,hp,hm⟩ | ⟨k,args,w1,hr,hc⟩
 ·rw[hr,Oper.upon_value,gN];exact hn _ _ _ hp hm
 ·rw[hr,Oper.upon_skip,gN];exact hn _ _ _ hp hm
 rw[hr,Oper.upon_enter]
 refine hc.mono ?_
 rintro e w' ⟨v,L',rfl,hp,hm⟩
 show next ((act f).put o.dst v) w'
 rw[gN];exact hn _ _ _ hp hm
theorem OpS.mono {M M':Value→aB→Prop} (h:OpS P w0 f L o M) (hm: ∀v L,M v L→M' v L):OpS P w0 f L o M':=fun w hw=>by
 rcases h w hw with⟨v,w',L',hr,hp,h1⟩ | ⟨w',L',hr,hp,h1⟩ | ⟨k,args,w1,hr,hc⟩
 ·exact .inl ⟨v,w',L',hr,hp,hm _ _ h1⟩
 ·exact .inr (.inl ⟨w',L',hr,hp,hm _ _ h1⟩)
 exact .inr (.inr ⟨k,args,w1,hr,hc.mono fun e w' ⟨v,L',he,hp,h1⟩=>⟨v,L',he,hp,hm _ _ h1⟩⟩)
def zQ {i:Nat} (h:listed.getD i true=false): (listed.setIfInBounds i true).getD i true=true:=by
 have aC:i<listed.size:=by
  rcases Nat.lt_or_ge i listed.size with h'|h'
  ·exact h'
  simp[Array.getElem?_eq_none h'] at h
 simp[aC]
def ro {i:Nat} (cY:i∉ts) (ht: ∀t,t∈ts→listed.getD t true=false): ∀t,t∈ts→(listed.setIfInBounds i true).getD t true=false:=
 fun t z'=>by rw[getD_set_ne true (fun(e:i=t)=>cY (by rw[e];exact z'))];exact ht t z'
def xB {k:Nat} (hk:ops[k]? =some o) (hr:Region.ready .any ops listed= [k]) (hs:bT ops f o=false) {n:Nat} {M:Value→aB→Prop} (h:OpS P w0 f L o M)
  (hn: ∀v L' w',Hp w0 L' w'→M v L'→wpAny P .any ops (fT w0 N) n (listed.setIfInBounds k true) (act (al f o.dst v)) w') {w:World} (hw:Hp w0 L w):wpAny P .any ops (fT w0 N) (n+1) listed (act f) w:=by
 refine wpAny_all hr (by simp) ?_
 intro i hi
 simp only[List.mem_singleton] at hi
 subst hi
 unfold wpOp
 simp only[hk,mY,hs,Bool.not_false, ↓reduceIte]
 exact .inl (h.wp hn hw)
def Ow.step {md':Md} (he:md.turn=some md') (hp:gW P o.op=false) (hs:bT ops f o=false) (h:OpS P w0 f L o (fun v L'=>Ow P w0 ops md' rest (al f o.dst v) L' N)):Ow P w0 ops md (o::rest) f L N:=by
 cases md with
 |seq=>
  cases he
  intro w hw
  unfold wpList
  rw[mY,hs]
  simp only[Bool.not_false, ↓reduceIte]
  exact .inl (h.wp (fun v L' w' hp hm=>hm w' hp) hw)
 |any is ts=>
  cases he
  intro listed hF ht w hw
  obtain⟨k,is',rfl,hk,eB,fe,hc⟩:=hF.cons
  obtain⟨t,uT,pC⟩:=ht
  have hr:Region.ready .any ops listed= [k]:=by
   rcases hc with hc| ⟨_,_,_,hc| ⟨_,_,hc⟩⟩
   ·exact hc
   ·rw[hp] at hc;cases hc
   rw[hc t uT] at pC;cases pC
  exact xB hk hr hs h (fun v L' w' hp hm=>hm _ eB ⟨t,uT,Az pC⟩ w' hp) hw
 |qui is ts=>
  intro listed hF ht w hw
  obtain⟨k,is',rfl,hk,eB,fe,hc⟩:=hF.cons
  simp only[Md.turn] at he
  split at he
  ·rename_i gn
   cases he
   have ki:k∈ts:=by simpa using gn
   have hr:Region.ready .any ops listed= [k]:=by
    rcases hc with hc| ⟨hc,_⟩
    ·exact hc
    exact absurd ki hc
   have cV:=zQ (ht k ki)
   refine⟨fun _=>hw,(fun h=>by rw[hr] at h;cases h), ?_⟩
   intro i hi
   rw[hr,List.mem_singleton] at hi
   subst hi
   unfold wpOp
   simp only[hk,mY,hs,Bool.not_false, ↓reduceIte]
   exact .inl (h.wp (fun v L' w' hp hm=>wH _ _ _ _ ⟨i,ki,cV⟩ (hm _ eB ⟨i,ki,cV⟩ w' hp)) hw)
  cases he
 |sof R is ts=>
  intro listed hF ht w hw
  obtain⟨k,is',rfl,hk,eB,fe,hc⟩:=hF.cons
  simp only[Md.turn] at he
  split at he
  ·rename_i gn
   cases he
   have ki:k∈ts:=by simpa using gn
   have hr:Region.ready .any ops listed= [k]:=by
    rcases hc with hc| ⟨hc,_⟩
    ·exact hc
    exact absurd ki hc
   have cV:=zQ (ht k ki)
   refine⟨fun _=>SR.of hw,(fun h=>by rw[hr] at h;cases h), ?_⟩
   intro i hi
   rw[hr,List.mem_singleton] at hi
   subst hi
   unfold wpOp
   simp only[hk,mY,hs,Bool.not_false, ↓reduceIte]
   exact .inl (h.wp (fun v L' w' hp hm=>wH _ _ _ _ ⟨i,ki,cV⟩ (hm _ eB ⟨i,ki,cV⟩ w' hp)) hw)
  cases he
def Ow.calm {v:Value} (hp:gW P o.op=false) (vP:jQ o.op=false) (hs:bT ops f o=false) (h:OpS P w0 f L o (fun v' L'=>v'=v∧L'=L))
  (hn:Ow P w0 ops md.next rest (al f o.dst v) L N):Ow P w0 ops md (o::rest) f L N:=by
 cases md with
 |seq=>exact Ow.step rfl hp hs (h.mono fun v' L' ⟨h1,h2⟩=>by rw[h1,h2];exact hn)
 |any is ts=>exact Ow.step rfl hp hs (h.mono fun v' L' ⟨h1,h2⟩=>by rw[h1,h2];exact hn)
 |qui is ts=>
  intro listed hF ht w hw
  obtain⟨k,is',rfl,hk,eB,fe,hc⟩:=hF.cons
  have hr:Region.ready .any ops listed= [k]:=by
   rcases hc with hc| ⟨_,_,_,hc| ⟨hc,_⟩⟩
   ·exact hc
   ·rw[hp] at hc;cases hc
   rw[vP] at hc;cases hc
  refine⟨fun _=>hw,(fun h=>by rw[hr] at h;cases h), ?_⟩
  intro i hi
  rw[hr,List.mem_singleton] at hi
  subst hi
  unfold wpOp
  simp only[hk,mY,hs,Bool.not_false, ↓reduceIte]
  refine .inl (h.wp (fun v' L' w' hp hm=> ?_) hw)
  obtain⟨rfl,rfl⟩:=hm
  simp only[Md.next] at hn
  split at hn
  ·rename_i gn
   have cY:i∈ts:=by simpa using gn
   have cV:=zQ (ht i cY)
   exact wH _ _ _ _ ⟨i,cY,cV⟩ (hn _ eB ⟨i,cY,cV⟩ w' hp)
  rename_i gn
  have cY:i∉ts:=by simpa using gn
  exact hn _ eB (ro cY ht) w' hp
 |sof R is ts=>
  intro listed hF ht w hw
  obtain⟨k,is',rfl,hk,eB,fe,hc⟩:=hF.cons
  have hr:Region.ready .any ops listed= [k]:=by
   rcases hc with hc| ⟨_,_,_,hc| ⟨hc,_⟩⟩
   ·exact hc
   ·rw[hp] at hc;cases hc
   rw[vP] at hc;cases hc
  refine⟨fun _=>SR.of hw,(fun h=>by rw[hr] at h;cases h), ?_⟩
  intro i hi
  rw[hr,List.mem_singleton] at hi
  subst hi
  unfold wpOp
  simp only[hk,mY,hs,Bool.not_false, ↓reduceIte]
  refine .inl (h.wp (fun v' L' w' hp hm=> ?_) hw)
  obtain⟨rfl,rfl⟩:=hm
  simp only[Md.next] at hn
  split at hn
  ·rename_i gn
   have cY:i∈ts:=by simpa using gn
   have cV:=zQ (ht i cY)
   exact wH _ _ _ _ ⟨i,cY,cV⟩ (hn _ eB ⟨i,cY,cV⟩ w' hp)
  rename_i gn
  have cY:i∉ts:=by simpa using gn
  exact hn _ eB (ro cY ht) w' hp
def uZ {k:Nat} (hk:ops[k]? =some o) (h1:k∈Region.ready .any ops listed) (h2:Region.free .any ops listed k=true)
  (h3:gW P o.op=true∨(jQ o.op=true∧w5 ops ts listed k=true∧ ∀t,t∈ts→listed.getD t true=false)):First ops ts k o (gW P o.op=true) listed:=by
 refine⟨h1,Region.free_spec hk h2,h3.imp id fun⟨_,hw,_⟩=> ?_⟩
 unfold w5 FP at hw
 generalize wY ops listed k 6 []=cs at hw
 simp only[Bool.and_eq_true,List.all_eq_true,Bool.or_eq_true,List.contains_eq_mem,decide_eq_true_eq,bne_iff_ne,ne_eq,Bool.not_eq_true'] at hw
 obtain⟨aI,bV⟩:=hw
 refine⟨cs,fun t ht hu=> ?_,fun c hc=> ?_⟩
 ·rcases aI t ht with h|h
  ·rw[hu] at h;cases h
  exact h
 obtain⟨⟨h1,h2⟩,h3⟩:=bV c hc
 refine⟨h1,h2, ?_⟩
 cases ho:ops[c]? with
 |none=>rw[ho] at h3;cases h3
 |some oc=>
  rw[ho] at h3
  obtain⟨e,he,hb⟩:=Array.any_eq_true'.1 h3
  simp only[Bool.and_eq_true,Bool.or_eq_true,beq_iff_eq,List.contains_eq_mem,decide_eq_true_eq] at hb
  exact⟨oc,rfl,e,he,hb.1,hb.2⟩
def Ow.skip (hs:bT ops f o=true) (h:Ow P w0 ops md.next rest (al f o.dst undef) L N):Ow P w0 ops md (o::rest) f L N:=by
 have eP:Region.wanted o (yielded ops (act f).tmps)=false:=by rw[mY,hs];rfl
 cases md with
 |seq=>
  intro w hw
  unfold wpList
  rw[eP]
  simp only[Bool.false_eq_true, ↓reduceIte]
  rw[gN]
  exact h w hw
 |any is ts=>
  intro listed hF ht w hw
  obtain⟨k,is',rfl,hk,eB,fe,hc⟩:=hF.cons
  obtain⟨t,uT,pC⟩:=ht
  have dF:=h _ eB ⟨t,uT,Az pC⟩ w hw
  rcases hc with hc| ⟨du,ef,jV,kc⟩
  ·refine wpAny_all hc (by simp) ?_
   intro i hi
   simp only[List.mem_singleton] at hi
   subst hi
   unfold wpOp
   simp only[hk,eP,Bool.false_eq_true, ↓reduceIte]
   rw[gN];exact dF
  refine wpAny_take (v:=undef) hk hF.sel jV (by simpa using ef) (fun c a w h=>nW h) (.inr ⟨eP,rfl⟩) ?_
  rw[gN];exact dF
 |qui is ts=>
  intro listed hF ht w hw
  obtain⟨k,is',rfl,hk,eB,fe,hc⟩:=hF.cons
  simp only[Md.next] at h
  rcases hc with hc| ⟨du,ef,jV,kc⟩
  ·refine⟨fun _=>hw,fun h=>(by rw[hc] at h;cases h), ?_⟩
   intro i hi
   rw[hc,List.mem_singleton] at hi
   subst hi
   unfold wpOp
   simp only[hk,eP,Bool.false_eq_true, ↓reduceIte]
   rw[gN]
   split at h
   ·rename_i gn
    have cY:i∈ts:=by simpa using gn
    have cV:=zQ (ht i cY)
    exact wH _ _ _ _ ⟨i,cY,cV⟩ (h _ eB ⟨i,cY,cV⟩ w hw)
   rename_i gn
   exact h _ eB (ro (by simpa using gn) ht) w hw
  rw[if_neg (by simpa using du)] at h
  refine s_ hk du (Region.noSelect_spec hF.sel) (fun c a w h=>nW h) _ _ _ _ (uZ (P:=P) hk ef jV kc) (.inr ht) (.inr ⟨eP,rfl⟩) ?_
  rw[gN];exact h _ eB (ro du ht) w hw
 |sof R is ts=>
  intro listed hF ht w hw
  obtain⟨k,is',rfl,hk,eB,fe,hc⟩:=hF.cons
  simp only[Md.next] at h
  rcases hc with hc| ⟨du,ef,jV,kc⟩
  ·refine⟨fun _=>SR.of hw,fun h=>(by rw[hc] at h;cases h), ?_⟩
   intro i hi
   rw[hc,List.mem_singleton] at hi
   subst hi
   unfold wpOp
   simp only[hk,eP,Bool.false_eq_true, ↓reduceIte]
   rw[gN]
   split at h
   ·rename_i gn
    have cY:i∈ts:=by simpa using gn
    have cV:=zQ (ht i cY)
    exact wH _ _ _ _ ⟨i,cY,cV⟩ (h _ eB ⟨i,cY,cV⟩ w hw)
   rename_i gn
   exact h _ eB (ro (by simpa using gn) ht) w hw
  rw[if_neg (by simpa using du)] at h
  refine s_ hk du (Region.noSelect_spec hF.sel) (fun c a w h=>nW h) _ _ _ _ (uZ (P:=P) hk ef jV kc) (.inr ht) (.inr ⟨eP,rfl⟩) ?_
  rw[gN];exact h _ eB (ro du ht) w hw
def AF {op:Op} {v:Value} (hp:gW P op=true) (h:jo P w0 L f op=some v) (w:World):jo P w [] f op=some v:=by
 cases op<;>simp only[gW,Bool.false_eq_true] at hp<;>first
  |exact h
  |skip
 ·rename_i s d x
  simp only[jo] at h ⊢
  cases hc:cvT P s d<;>rw[hc] at h hp<;>first
   |exact h
   |cases hp
 ·rename_i t x lo hi mx
  cases mx<;>exact h
 rename_i c
 obtain⟨cl,args,ts⟩:=c
 cases cl with
 |builtin b=>cases b<;>first|exact h|cases hp
 |value x=>cases hp
 |invoke x m=>cases hp
def Ba {op:Op} {v:Value} (h:jo P w0 L f op=some v):gW P op=true∨jQ op=true:=by
 unfold jo at h
 split at h<;>first
  |exact .inl rfl
  |exact .inr rfl
  |cases h
def rdIn (R:List Nat):Value→Bool
 | .pointer (some a)=>R.contains a.block
 | .slice (some a) _ _=>R.contains a.block
 |_=>true
def rdOk (md:Md) (f:Fr) (op:Op):Bool:=
 match op with
 | .load _ x=>(match md with| .sof R _ _=>rdIn R (ev f x) |_=>true)
 | .convert _ _ x=>(match md with| .sof R _ _=>rdIn R (ev f x) |_=>true)
 |_=>true
def JC (w:World) (b:Nat):aU w [] b=w.heap[b]? :=(rfl)
def KW {R is ts:List Nat} {op:Op} {v:Value} {w:World} (ce:rdOk (.sof R is ts) f op=true) (h:jo P w0 L f op=some v) (hS:SR w0 R L w):jo P w [] f op=some v:=by
 cases op<;>first
  |exact h
  |skip
 case load t x=>
  simp only[jo,ut] at h ⊢
  simp only[rdOk] at ce
  split at h
  ·rename_i b off hx
   rw[hx] at ce
   simp only[rdIn,List.contains_eq_mem,decide_eq_true_eq] at ce
   simp only[JC]
   cases hr:aU w0 L b with
   |none=>rw[hr] at h;unfold aG at h;split at h<;>simp_all
   |some o=>rw[hS b ce o hr];rw[hr] at h;exact h
  cases h
 case convert s d x=>
  simp only[jo,jP] at h ⊢
  simp only[rdOk] at ce
  cases hc:cvT P s d<;>rw[hc] at h<;>simp only at h ⊢ <;>first
   |exact h
   |skip
  unfold x7 at h ⊢
  split at h
  ·exact h
  ·rename_i b off n c hx
   rw[hx] at ce
   simp only[rdIn,List.contains_eq_mem,decide_eq_true_eq] at ce
   simp only[JC]
   cases hr:aU w0 L b with
   |none=>rw[hr] at h;unfold ir at h;cases h
   |some o=>rw[hS b ce o hr];rw[hr] at h;exact h
  cases h
 case slice t x lo hi mx=>cases mx<;>exact h
 case call c=>
  obtain⟨cl,args,ts'⟩:=c
  cases cl with
  |builtin b=>cases b<;>exact h
  |value x=>exact h
  |invoke x m=>exact h
def Ow.value {v:Value} (hs:bT ops f o=false) (ce:rdOk md f o.op=true) (hv:jo P w0 L f o.op=some v) (h:Ow P w0 ops md.next rest (al f o.dst v) L N):Ow P w0 ops md (o::rest) f L N:=by
 have eP:Region.wanted o (yielded ops (act f).tmps)=true:=by rw[mY,hs];rfl
 have hS:OpS P w0 f L o (fun v' L'=>v'=v∧L'=L):=fun w hw=> .inl ⟨v,w,L,qL hw hv,hw,rfl,rfl⟩
 have hY:YieldsC P ops (Hp w0 L) (gW P o.op=true) o v (act f):=by
  refine .inl ⟨eP,fun w hw=> ?_⟩
  rw[sm]
  rcases hw with hp|hw
  ·exact qL (Hp.refl w) (AF hp hv w)
  exact qL hw hv
 cases md with
 |seq=>
  intro w hw
  unfold wpList
  rw[eP]
  simp only[↓reduceIte]
  exact .inl (hS.wp (fun v' L' w' hp hm=>by obtain⟨rfl,rfl⟩:=hm;exact h w' hp) hw)
 |any is ts=>
  intro listed hF ht w hw
  obtain⟨k,is',rfl,hk,eB,fe,hc⟩:=hF.cons
  obtain⟨t,uT,pC⟩:=ht
  have dF:=fun w hw=>h _ eB ⟨t,uT,Az pC⟩ w hw
  rcases hc with hc| ⟨du,ef,jV,kc| ⟨_,_,kc⟩⟩
  ·exact xB hk hc hs hS (fun v' L' w' hp hm=>by obtain⟨rfl,rfl⟩:=hm;exact dF w' hp) hw
  ·refine wpAny_take (v:=v) hk hF.sel jV (by simpa using ef) (fun c a w h=>nW h) (.inl ⟨eP,fun w=> ?_⟩) ?_
   ·rw[sm];exact qL (Hp.refl w) (AF kc hv w)
   rw[gN];exact dF w hw
  rw[kc t uT] at pC;cases pC
 |qui is ts=>
  intro listed hF ht w hw
  obtain⟨k,is',rfl,hk,eB,fe,hc⟩:=hF.cons
  have cY:k∉ts:=fe (Ba hv)
  simp only[Md.next] at h
  rw[if_neg (by simpa using cY)] at h
  have dF:=fun w hw=>h _ eB (ro cY ht) w hw
  rcases hc with hc| ⟨du,ef,jV,kc⟩
  ·refine⟨fun _=>hw,fun h=>(by rw[hc] at h;cases h), ?_⟩
   intro i hi
   rw[hc,List.mem_singleton] at hi
   subst hi
   unfold wpOp
   simp only[hk,eP, ↓reduceIte]
   exact .inl (hS.wp (fun v' L' w' hp hm=>by obtain⟨rfl,rfl⟩:=hm;exact dF w' hp) hw)
  refine s_ hk du (Region.noSelect_spec hF.sel) (fun c a w h=>nW h) _ _ _ _ (uZ (P:=P) hk ef jV kc) (.inr ht) hY ?_
  rw[gN];exact dF w hw
 |sof R is ts=>
  intro listed hF ht w hw
  have hYs:YieldsC P ops (SR w0 R L) (gW P o.op=true) o v (act f):=by
   refine .inl ⟨eP,fun w hw=> ?_⟩
   rw[sm]
   rcases hw with hp|hw
   ·exact qL (Hp.refl w) (AF hp hv w)
   exact qL (Hp.refl w) (KW ce hv hw)
  obtain⟨k,is',rfl,hk,eB,fe,hc⟩:=hF.cons
  have cY:k∉ts:=fe (Ba hv)
  simp only[Md.next] at h
  rw[if_neg (by simpa using cY)] at h
  have dF:=fun w hw=>h _ eB (ro cY ht) w hw
  rcases hc with hc| ⟨du,ef,jV,kc⟩
  ·refine⟨fun _=>SR.of hw,fun h=>(by rw[hc] at h;cases h), ?_⟩
   intro i hi
   rw[hc,List.mem_singleton] at hi
   subst hi
   unfold wpOp
   simp only[hk,eP, ↓reduceIte]
   exact .inl (hS.wp (fun v' L' w' hp hm=>by obtain⟨rfl,rfl⟩:=hm;exact dF w' hp) hw)
  refine s_ hk du (Region.noSelect_spec hF.sel) (fun c a w h=>nW h) _ _ _ _ (uZ (P:=P) hk ef jV kc) (.inr ht) hYs ?_
  rw[gN];exact dF w hw
def Ow.pureV {v:Value} (hp:gW P o.op=true) (hs:bT ops f o=false) (hv: ∀w,(execOp (ev f) o).run P w= .ok (.value v) w) (h:Ow P w0 ops md.next rest (al f o.dst v) L N):Ow P w0 ops md (o::rest) f L N:=by
 have eP:Region.wanted o (yielded ops (act f).tmps)=true:=by rw[mY,hs];rfl
 have hS:OpS P w0 f L o (fun v' L'=>v'=v∧L'=L):=fun w hw=> .inl ⟨v,w,L,hv w,hw,rfl,rfl⟩
 have hY: ∀C,YieldsC P ops C (gW P o.op=true) o v (act f):=fun C=> .inl ⟨eP,fun w _=>by rw[sm];exact hv w⟩
 cases md with
 |seq=>
  intro w hw
  unfold wpList
  rw[eP]
  simp only[↓reduceIte]
  exact .inl (hS.wp (fun v' L' w' hp hm=>by obtain⟨rfl,rfl⟩:=hm;exact h w' hp) hw)
 |any is ts=>
  intro listed hF ht w hw
  obtain⟨k,is',rfl,hk,eB,fe,hc⟩:=hF.cons
  obtain⟨t,uT,pC⟩:=ht
  have dF:=fun w hw=>h _ eB ⟨t,uT,Az pC⟩ w hw
  rcases hc with hc| ⟨du,ef,jV,kc⟩
  ·exact xB hk hc hs hS (fun v' L' w' hp hm=>by obtain⟨rfl,rfl⟩:=hm;exact dF w' hp) hw
  refine wpAny_take (v:=v) hk hF.sel jV (by simpa using ef) (fun c a w h=>nW h) (.inl ⟨eP,fun w=> ?_⟩) ?_
  ·rw[sm];exact hv w
  rw[gN];exact dF w hw
 |qui is ts=>
  intro listed hF ht w hw
  obtain⟨k,is',rfl,hk,eB,fe,hc⟩:=hF.cons
  have cY:k∉ts:=fe (.inl hp)
  simp only[Md.next] at h
  rw[if_neg (by simpa using cY)] at h
  have dF:=fun w hw=>h _ eB (ro cY ht) w hw
  rcases hc with hc| ⟨du,ef,jV,kc⟩
  ·refine⟨fun _=>hw,fun h=>(by rw[hc] at h;cases h), ?_⟩
   intro i hi
   rw[hc,List.mem_singleton] at hi
   subst hi
   unfold wpOp
   simp only[hk,eP, ↓reduceIte]
   exact .inl (hS.wp (fun v' L' w' hp hm=>by obtain⟨rfl,rfl⟩:=hm;exact dF w' hp) hw)
  refine s_ hk du (Region.noSelect_spec hF.sel) (fun c a w h=>nW h) _ _ _ _ (uZ (P:=P) hk ef jV kc) (.inr ht) (hY _) ?_
  rw[gN];exact dF w hw
 |sof R is ts=>
  intro listed hF ht w hw
  obtain⟨k,is',rfl,hk,eB,fe,hc⟩:=hF.cons
  have cY:k∉ts:=fe (.inl hp)
  simp only[Md.next] at h
  rw[if_neg (by simpa using cY)] at h
  have dF:=fun w hw=>h _ eB (ro cY ht) w hw
  rcases hc with hc| ⟨du,ef,jV,kc⟩
  ·refine⟨fun _=>SR.of hw,fun h=>(by rw[hc] at h;cases h), ?_⟩
   intro i hi
   rw[hc,List.mem_singleton] at hi
   subst hi
   unfold wpOp
   simp only[hk,eP, ↓reduceIte]
   exact .inl (hS.wp (fun v' L' w' hp hm=>by obtain⟨rfl,rfl⟩:=hm;exact dF w' hp) hw)
  refine s_ hk du (Region.noSelect_spec hF.sel) (fun c a w h=>nW h) _ _ _ _ (uZ (P:=P) hk ef jV kc) (.inr ht) (hY _) ?_
  rw[gN];exact dF w hw
theorem Ow.store {t:TypeId} {a x:Operand} {L':aB} {md':Md} (he:md.turn=some md') (hs:bT ops f o=false) (ho:o.op= .store t a x) (hv:sa (aR P t) L (ev f a) (ev f x)=some L') (h:Ow P w0 ops md' rest (al f o.dst undef) L' N):Ow P w0 ops md (o::rest) f L N:=
 Ow.step he (by rw[ho];rfl) hs fun w hw=>by
  obtain⟨w',hr,hp⟩:=OC hw hv
  refine .inr (.inl ⟨w',L', ?_,hp,h⟩)
  simp only[execOp,ho,Sem.run_bind,hr];rfl
end
inductive Kind where
 |value|store (t:TypeId) (a x:Operand) |other
def xd:Op→Kind
 | .move _=> .value
 | .assign _=> .value
 | .pick .. => .value
 | .binOp .. => .value
 | .unOp .. => .value
 | .convert .. => .value
 | .nilCheck _=> .value
 | .fieldAddr .. => .value
 | .field .. => .value
 | .indexAddr .. => .value
 | .index .. => .value
 | .load .. => .value
 | .extract .. => .value
 | .slice .. => .value
 | .makeFunc .. => .value
 | .call ⟨.builtin .len,_,_⟩=> .value
 | .call ⟨.builtin .cap,_,_⟩=> .value
 | .store t a x=> .store t a x
 |_=> .other
abbrev Dep {α:Type} (_:α):Type:=Prop
def ov (x:Option Value) (k:Value→Prop):Dep k:=match x with|some v=>k v|none=>False
def ovs (x:Option Value) (k:Value→Prop) (s:Prop):Dep (k,s):=match x with|some v=>k v|none=>s
def oh (x:Option aB) (k:aB→Prop):Dep k:=match x with|some v=>k v|none=>False
def nf (f:Fr) (k:Fr→Prop):Dep k:=k f
def nh (L:aB) (k:aB→Prop):Dep k:=k L
@[congr] theorem awy_ {x y:Option Value} {k:Value→Prop} (h:x=y):ov x k=ov y k:=by rw[h]
@[congr] theorem auW_ {x y:Option Value} {k:Value→Prop} {s:Prop} (h:x=y):ovs x k s=ovs y k s:=by rw[h]
@[congr] theorem awB_ {x y:Option aB} {k:aB→Prop} (h:x=y):oh x k=oh y k:=by rw[h]
@[congr] theorem awt_ {x y:Fr} {k:Fr→Prop} (h:x=y):nf x k=nf y k:=by rw[h]
@[congr] theorem awF_ {x y:aB} {k:aB→Prop} (h:x=y):nh x k=nh y k:=by rw[h]
def VX (v:Value) (k:Value→Prop) (s:Prop):ovs (some v) k s=k v:=(rfl)
def Uy (k:Value→Prop) (s:Prop):ovs none k s=s:=(rfl)
def Ye (v:aB) (k:aB→Prop):oh (some v) k=k v:=(rfl)
def YP (v:Value) (r:Fr) (k:Fr→Prop):nf (v::r) k=k (v::r):=(rfl)
def Yw (k:Fr→Prop):nf [] k=k []:=(rfl)
def WY (v:Nat×Obj) (r:aB) (k:aB→Prop):nh (v::r) k=k (v::r):=(rfl)
def Y_ (k:aB→Prop):nh [] k=k []:=(rfl)
def ib (b:Bool) (x y:Prop):Dep (x,y):=match b with|true=>x|false=>y
@[congr] theorem awC_ {a b:Bool} {x y:Prop} (h:a=b):ib a x y=ib b x y:=by rw[h]
def X5 (x y:Prop):ib true x y=x:=(rfl)
def Va (x y:Prop):ib false x y=y:=(rfl)
def vcB (P:Program) (w0:World) (st:Bool) (md:Md) (o:Oper) (f:Fr) (L:aB) (go:Fr→aB→Prop) (stop:Prop):Prop:=
 match xd o.op with
 | .value=>ib (rdOk md f o.op) (ovs (jo P w0 L f o.op) (fun v=>nf (al f o.dst v) fun f'=>go f' L) stop) stop
 | .store t a x=>ib st (oh (sa (aR P t) L (ev f a) (ev f x)) fun L'=>nh L' fun L'=>nf (al f o.dst undef) fun f'=>go f' L') stop
 | .other=>stop
def vcL (P:Program) (w0:World) (ops:Array Oper) (st:Bool) (md:Md):List Oper→Fr→aB→(Md→List Oper→Fr→aB→Prop)→Prop
 | [],f,L,k=>k md [] f L
 |o::rest,f,L,k=>
  ib (bT ops f o) (nf (al f o.dst undef) fun f'=>vcL P w0 ops st md.next rest f' L k)
   (vcB P w0 st md o f L (fun f' L'=>vcL P w0 ops st md.next rest f' L' k) (k md (o::rest) f L))
def Md.eff:Md→Bool
 | .seq=>true
 | .qui _ _=>false
 | .any _ _=>true
 | .sof _ _ _=>false
def Md.turn_eff {md:Md} (h:md.eff=true):md.turn=some md.next:=by
 cases md<;>first|rfl|cases h
def Md.next_eff {md:Md} (h:md.eff=true):md.next.eff=true:=by
 cases md<;>first|rfl|cases h
def N5 {op:Op} {t:TypeId} {a x:Operand} (h:xd op= .store t a x):op= .store t a x:=by
 unfold xd at h
 split at h<;>first| (cases h;done) | (cases h;rfl)
theorem AP {P:Program} {w0:World} {ops:Array Oper} {N:Fr→aB→Prop} (k:Md→List Oper→Fr→aB→Prop) (hk: ∀md l f L,k md l f L→Ow P w0 ops md l f L N) (st:Bool):
  ∀ (l:List Oper) (md:Md) (f:Fr) (L:aB),(st=true→md.eff=true)→vcL P w0 ops st md l f L k→Ow P w0 ops md l f L N
 | [],md,f,L,_,h=>hk _ _ _ _ h
 |o::rest,md,f,L,bK,h=>by
  unfold vcL at h
  have ri:st=true→md.next.eff=true:=fun e=>Md.next_eff (bK e)
  cases hs:bT ops f o with
  |true=>
   rw[hs] at h
   exact Ow.skip hs (AP k hk st rest _ _ L ri h)
  |false=>
   rw[hs] at h
   simp only[ib,vcB] at h
   split at h
   ·cases ce:rdOk md f o.op with
    |false=>rw[ce] at h;exact hk _ _ _ _ h
    |true=>
     rw[ce] at h
     cases hv:jo P w0 L f o.op with
     |none=>rw[hv] at h;exact hk _ _ _ _ h
     |some v=>rw[hv] at h;exact Ow.value hs ce hv (AP k hk st rest _ _ L ri h)
   ·rename_i t a x HQ
    cases st with
    |true=>
     simp only at h
     cases hv:sa (aR P t) L (ev f a) (ev f x) with
     |none=>rw[hv] at h;exact h.elim
     |some L'=>
      rw[hv] at h
      exact Ow.store (Md.turn_eff (bK rfl)) hs (N5 HQ) hv (AP k hk true rest _ _ L' ri h)
    |false=>exact hk _ _ _ _ h
   exact hk _ _ _ _ h
def Ow.run {P:Program} {w0:World} {ops:Array Oper} {md:Md} {N:Fr→aB→Prop} {l:List Oper} {f:Fr} {L:aB} (he:md.eff=true)
  (h: ∀k:Md→List Oper→Fr→aB→Prop,(∀md l f L,Ow P w0 ops md l f L N→k md l f L)→vcL P w0 ops true md l f L k):Ow P w0 ops md l f L N:=
 AP (fun md l f L=>Ow P w0 ops md l f L N) (fun _ _ _ _ h=>h) true l md f L (fun _=>he) (h _ fun _ _ _ _ h=>h)
def Nu (f:Fr) (t:TypeId) (x:Operand):rdOk .seq f (.load t x)=true:=(rfl)
def Oy (f:Fr) (is ts:List Nat) (t:TypeId) (x:Operand):rdOk (.any is ts) f (.load t x)=true:=(rfl)
def Nm (f:Fr) (is ts:List Nat) (t:TypeId) (x:Operand):rdOk (.qui is ts) f (.load t x)=true:=(rfl)
def PE (f:Fr) (R is ts:List Nat) (t:TypeId) (x:Operand):rdOk (.sof R is ts) f (.load t x)=rdIn R (ev f x):=(rfl)
def MN (f:Fr) (s t:TypeId) (x:Operand):rdOk .seq f (.convert s t x)=true:=(rfl)
def MD (f:Fr) (is ts:List Nat) (s t:TypeId) (x:Operand):rdOk (.any is ts) f (.convert s t x)=true:=(rfl)
def M2 (f:Fr) (is ts:List Nat) (s t:TypeId) (x:Operand):rdOk (.qui is ts) f (.convert s t x)=true:=(rfl)
def MA (f:Fr) (R is ts:List Nat) (s t:TypeId) (x:Operand):rdOk (.sof R is ts) f (.convert s t x)=rdIn R (ev f x):=(rfl)
def Z9 (R:List Nat) (b o:Nat):rdIn R (vp b o)=R.contains b:=(rfl)
def Xn (R:List Nat) (b o n c:Nat):rdIn R (vsl b o n c)=R.contains b:=(rfl)
def Vk (R:List Nat) (n c:Nat):rdIn R (.slice none n c)=true:=(rfl)
def UC (R:List Nat) (k:IntKind) (n:Int):rdIn R (.int k n)=true:=(rfl)
def VJ (R:List Nat) (l:List UInt8):rdIn R (vs l)=true:=(rfl)
def Md.next_sof (k:Nat) (R is ts:List Nat): (Md.sof R (k::is) ts).next=if ts.contains k then .any is ts else .sof R is ts:=(rfl)
def Md.next_seq:Md.seq.next= .seq:=(rfl)
def Md.next_any (k:Nat) (is ts:List Nat): (Md.any (k::is) ts).next= .any is ts:=(rfl)
def Md.next_qui (k:Nat) (is ts:List Nat): (Md.qui (k::is) ts).next=if ts.contains k then .any is ts else .qui is ts:=(rfl)
def tR:Value→Option Bool
 | .bool b=>some b
 |_=>none
def xU (o:Option Oper) (f:Fr):Option Bool:=
 match o with
 |some o=>match o.dst with
  |some d=>tR (ec f d)
  |none=>none
 |none=>none
def pQ (l:List Oper) (j:Nat):dh l j=l[j]? :=by
 induction l generalizing j with
 |nil=>rfl
 |cons o r ih=>cases j<;>simp[dh,ih]
def QT (l:List Oper) (f:Fr) (j:Nat):wA l.toArray f j=xU (dh l j) f:=by
 unfold wA xU
 rw[pQ,List.getElem?_toArray]
 cases l[j]? with
 |none=>rfl
 |some o=>
  simp only[Option.bind_some]
  cases o.dst with
  |none=>rfl
  |some d=>
   simp only
   cases ec f d<;>rfl
def Og (d:Tmp) (op:Op) (ty:TypeId) (ps:String) (af:Array Edge) (g:Option (Nat×Bool)) (f:Fr):xU (some ⟨some d,op,ty,ps,af,g⟩) f=tR (ec f d):=(rfl)
def Vx (b:Bool):tR (.bool b)=some b:=(rfl)
def NZ:tR undef=none:=(rfl)
def Vo (a b:Bool): ((some a:Option Bool)==some b)=(a==b):=(rfl)
def V6 (b:Bool): ((none:Option Bool)==some b)=false:=(rfl)
section
variable (P:Program) (w0:World) (ops:Array Oper) (rest:List Oper) (f:Fr) (L:aB) (k:Md→List Oper→Fr→aB→Prop)
 (st:Bool) (md:Md) (d:Option Tmp) (ty:TypeId) (ps:String) (af:Array Edge)
def Wk:vcL P w0 ops st md [] f L k=k md [] f L:=(rfl)
def Uz (op:Op):vcL P w0 ops st md (⟨d,op,ty,ps,af,none⟩::rest) f L k=
  vcB P w0 st md ⟨d,op,ty,ps,af,none⟩ f L (fun f' L'=>vcL P w0 ops st md.next rest f' L' k) (k md (⟨d,op,ty,ps,af,none⟩::rest) f L):=(rfl)
def Vg (op:Op) (j:Nat) (b:Bool):vcL P w0 ops st md (⟨d,op,ty,ps,af,some (j,b)⟩::rest) f L k=
  ib (wA ops f j==some b) (vcB P w0 st md ⟨d,op,ty,ps,af,some (j,b)⟩ f L (fun f' L'=>vcL P w0 ops st md.next rest f' L' k) (k md (⟨d,op,ty,ps,af,some (j,b)⟩::rest) f L)) (nf (al f d undef) fun f'=>vcL P w0 ops st md.next rest f' L k):=by
 simp only[vcL,bT]
 cases(wA ops f j==some b)<;>rfl
end
@[congr] theorem av3_ {P:Program} {w0:World} {st:Bool} {md:Md} {o:Oper} {f:Fr} {L:aB} {go:Fr→aB→Prop} {stop:Prop}:vcB P w0 st md o f L go stop=vcB P w0 st md o f L go stop:=(rfl)
section
variable (P:Program) (w0:World) (f:Fr) (L:aB) (st:Bool) (md:Md) (d:Option Tmp) (ty:TypeId) (ps:String) (af:Array Edge) (g:Option (Nat×Bool)) (go:Fr→aB→Prop) (stop:Prop)
def VA (x:Operand):vcB P w0 st md ⟨d, .move x,ty,ps,af,g⟩ f L go stop=ovs (some (ev f x)) (fun v=>nf (al f d v) fun f'=>go f' L) stop:=(rfl)
def Rq (x:Operand):vcB P w0 st md ⟨d, .assign x,ty,ps,af,g⟩ f L go stop=ovs (some (ev f x)) (fun v=>nf (al f d v) fun f'=>go f' L) stop:=(rfl)
def Vc (c a b:Operand):vcB P w0 st md ⟨d, .pick c a b,ty,ps,af,g⟩ f L go stop=ovs (jG (ev f c) (ev f a) (ev f b)) (fun v=>nf (al f d v) fun f'=>go f' L) stop:=(rfl)
def U0 (op:BinOp) (t t':TypeId) (x y:Operand):vcB P w0 st md ⟨d, .binOp op t x y t',ty,ps,af,g⟩ f L go stop=ovs (bF P op t (ev f x) (ev f y)) (fun v=>nf (al f d v) fun f'=>go f' L) stop:=(rfl)
def VN (op:UnOp) (t:TypeId) (x:Operand):vcB P w0 st md ⟨d, .unOp op t x,ty,ps,af,g⟩ f L go stop=ovs (unV op (ev f x)) (fun v=>nf (al f d v) fun f'=>go f' L) stop:=(rfl)
def PL (s t:TypeId) (x:Operand):vcB P w0 st md ⟨d, .convert s t x,ty,ps,af,g⟩ f L go stop=ib (rdOk md f (.convert s t x)) (ovs (jP w0 L (cvT P s t) (ev f x)) (fun v=>nf (al f d v) fun f'=>go f' L) stop) stop:=(rfl)
def N4 (x:Operand):vcB P w0 st md ⟨d, .nilCheck x,ty,ps,af,g⟩ f L go stop=ovs (nilV (ev f x)) (fun v=>nf (al f d v) fun f'=>go f' L) stop:=(rfl)
def Mb (s:TypeId) (x:Operand) (i:Nat):vcB P w0 st md ⟨d, .fieldAddr s x i,ty,ps,af,g⟩ f L go stop=ovs (AD (bB P s i) (ev f x)) (fun v=>nf (al f d v) fun f'=>go f' L) stop:=(rfl)
def Tk (s:TypeId) (x:Operand) (i:Nat):vcB P w0 st md ⟨d, .field s x i,ty,ps,af,g⟩ f L go stop=ovs (tX (bB P s i) (ev f x)) (fun v=>nf (al f d v) fun f'=>go f' L) stop:=(rfl)
def Mf (t:TypeId) (x i:Operand):vcB P w0 st md ⟨d, .indexAddr t x i,ty,ps,af,g⟩ f L go stop=ovs (i_ (ixT P t) (ev f x) (ixI (ev f i))) (fun v=>nf (al f d v) fun f'=>go f' L) stop:=(rfl)
def RT (t:TypeId) (x i:Operand):vcB P w0 st md ⟨d, .index t x i,ty,ps,af,g⟩ f L go stop=ovs (qV (ixT P t) (ev f x) (ixI (ev f i))) (fun v=>nf (al f d v) fun f'=>go f' L) stop:=(rfl)
def W9 (t:TypeId) (x:Operand):vcB P w0 st md ⟨d, .load t x,ty,ps,af,g⟩ f L go stop=ib (rdOk md f (.load t x)) (ovs (ut (aR P t) w0 L (ev f x)) (fun v=>nf (al f d v) fun f'=>go f' L) stop) stop:=(rfl)
def PO (x:Operand) (i:Nat):vcB P w0 st md ⟨d, .extract x i,ty,ps,af,g⟩ f L go stop=ovs (Ib (ev f x) i) (fun v=>nf (al f d v) fun f'=>go f' L) stop:=(rfl)
def T_ (t:TypeId) (x:Operand) (lo hi:Option Operand):vcB P w0 st md ⟨d, .slice t x lo hi none,ty,ps,af,g⟩ f L go stop=ovs (gb (ixT P t) (ev f x) (lo.map fun o=>ixI (ev f o)) (hi.map fun o=>ixI (ev f o))) (fun v=>nf (al f d v) fun f'=>go f' L) stop:=(rfl)
def N7 (fn:Fn) (a b:Array Operand):vcB P w0 st md ⟨d, .makeFunc fn a b,ty,ps,af,g⟩ f L go stop=ovs (some (.func fn (a.map (ev f)) (b.map (ev f)))) (fun v=>nf (al f d v) fun f'=>go f' L) stop:=(rfl)
def WT (x:Operand) (t:TypeId):vcB P w0 st md ⟨d, .call ⟨.builtin .len, #[x], #[t]⟩,ty,ps,af,g⟩ f L go stop=ovs (gY (ixT P t) (ev f x)) (fun v=>nf (al f d v) fun f'=>go f' L) stop:=(rfl)
def YZ (x:Operand) (t:TypeId):vcB P w0 st md ⟨d, .call ⟨.builtin .cap, #[x], #[t]⟩,ty,ps,af,g⟩ f L go stop=ovs (capV (ixT P t) (ev f x)) (fun v=>nf (al f d v) fun f'=>go f' L) stop:=(rfl)
def RG (t:TypeId) (a x:Operand):vcB P w0 true md ⟨none, .store t a x,ty,ps,af,g⟩ f L go stop=oh (sa (aR P t) L (ev f a) (ev f x)) fun L'=>nh L' fun L'=>go f L':=(rfl)
def Oe (t:TypeId) (a x:Operand):vcB P w0 false md ⟨d, .store t a x,ty,ps,af,g⟩ f L go stop=stop:=(rfl)
def RI (t:TypeId):vcB P w0 st md ⟨d, .alloc t,ty,ps,af,g⟩ f L go stop=stop:=(rfl)
def XQ (t:TypeId) (x:Operand):vcB P w0 st md ⟨d, .box t x,ty,ps,af,g⟩ f L go stop=stop:=(rfl)
def SN (t:TypeId) (x:Array (Nat×Operand)):vcB P w0 st md ⟨d, .build t x,ty,ps,af,g⟩ f L go stop=stop:=(rfl)
def MB (t:TypeId) (n:Nat) (x:Array (Nat×Operand)):vcB P w0 st md ⟨d, .buildSlice t n x,ty,ps,af,g⟩ f L go stop=stop:=(rfl)
def Mg (t:TypeId) (x y:Operand):vcB P w0 st md ⟨d, .makeSlice t x y,ty,ps,af,g⟩ f L go stop=stop:=(rfl)
def UE (x:Operand) (a:Array Operand) (t:Array TypeId):vcB P w0 st md ⟨d, .call ⟨.value x,a,t⟩,ty,ps,af,g⟩ f L go stop=stop:=(rfl)
def Rg (a:Array Operand) (t:Array TypeId):vcB P w0 st md ⟨d, .call ⟨.builtin .append,a,t⟩,ty,ps,af,g⟩ f L go stop=stop:=(rfl)
def KZ_ (a:Array Operand) (t:Array TypeId):vcB P w0 st md ⟨d, .call ⟨.builtin .unsafeString,a,t⟩,ty,ps,af,g⟩ f L go stop=stop:=(rfl)
def Jo_ (a:Array Operand) (t:Array TypeId):vcB P w0 st md ⟨d, .call ⟨.builtin .unsafeSliceData,a,t⟩,ty,ps,af,g⟩ f L go stop=stop:=(rfl)
def Ux (a:Array Operand) (t:Array TypeId):vcB P w0 st md ⟨d, .call ⟨.builtin .copy,a,t⟩,ty,ps,af,g⟩ f L go stop=stop:=(rfl)
def Qp (a:Array Operand) (t:Array TypeId):vcB P w0 st md ⟨d, .call ⟨.builtin .delete,a,t⟩,ty,ps,af,g⟩ f L go stop=stop:=(rfl)
def Th (a:Array Operand) (t:Array TypeId):vcB P w0 st md ⟨d, .call ⟨.builtin .clear,a,t⟩,ty,ps,af,g⟩ f L go stop=stop:=(rfl)
def Xl (a:Array Operand) (t:Array TypeId):vcB P w0 st md ⟨d, .call ⟨.builtin .max,a,t⟩,ty,ps,af,g⟩ f L go stop=stop:=(rfl)
def X7 (a:Array Operand) (t:Array TypeId):vcB P w0 st md ⟨d, .call ⟨.builtin .min,a,t⟩,ty,ps,af,g⟩ f L go stop=stop:=(rfl)
def Ot (t:TypeId) (x:Option Operand):vcB P w0 st md ⟨d, .makeMap t x,ty,ps,af,g⟩ f L go stop=stop:=(rfl)
def QX (t:TypeId) (x y:Operand) (c:Bool):vcB P w0 st md ⟨d, .lookup t x y c,ty,ps,af,g⟩ f L go stop=stop:=(rfl)
def Mv (t:TypeId) (m x y:Operand):vcB P w0 st md ⟨d, .mapUpdate t m x y,ty,ps,af,g⟩ f L go stop=stop:=(rfl)
def Tx (t:TypeId) (x:Operand):vcB P w0 st md ⟨d, .range t x,ty,ps,af,g⟩ f L go stop=stop:=(rfl)
def Vv (x:Operand) (b:Bool):vcB P w0 st md ⟨d, .next x b,ty,ps,af,g⟩ f L go stop=stop:=(rfl)
def Pv (t:TypeId) (m x y:Operand):vcB P w0 st md ⟨d, .insert t m x y,ty,ps,af,g⟩ f L go stop=stop:=(rfl)
def Kh_ (t:TypeId) (x:Operand):vcB P w0 st md ⟨d, .makeInterface t x,ty,ps,af,g⟩ f L go stop=stop:=(rfl)
def OG (t:TypeId) (m x:Operand):vcB P w0 st md ⟨d, .mapEntry t m x,ty,ps,af,g⟩ f L go stop=stop:=(rfl)
def MP (t:TypeId) (m x y:Operand):vcB P w0 st md ⟨d, .entryStore t m x y,ty,ps,af,g⟩ f L go stop=stop:=(rfl)
def T7 (x:Operand):vcB P w0 st md ⟨d, .entry x,ty,ps,af,g⟩ f L go stop=stop:=(rfl)
end
end Go.Sx
end
section
namespace Go.Sx
open Go
def resV (P:Program) (w0:World) (L:aB) (f:Fr):ResultVar→Option Value
 | .tmp t=>some (ec f t)
 | .cell a t=>ut (aR P t) w0 L (ec f a)
def ti:Option Value→Option (List Value)→Option (List Value)
 |some v,some vs=>some (v::vs)
 |_,_=>none
def nc (P:Program) (w0:World) (L:aB) (f:Fr):List ResultVar→Option (List Value)
 | []=>some []
 |r::rs=>ti (resV P w0 L f r) (nc P w0 L f rs)
def CT (P:Program) (w0:World) (L:aB) (f:Fr):nc P w0 L f []=some []:=(rfl)
def BU (P:Program) (w0:World) (L:aB) (f:Fr) (r:ResultVar) (rs:List ResultVar):nc P w0 L f (r::rs)=ti (resV P w0 L f r) (nc P w0 L f rs):=(rfl)
def Bb (v:Value) (vs:List Value):ti (some v) (some vs)=some (v::vs):=(rfl)
def EE (P:Program) (w0:World) (L:aB) (f:Fr) (t:Tmp):resV P w0 L f (.tmp t)=some (ec f t):=(rfl)
def TD (P:Program) (w0:World) (L:aB) (f:Fr) (a:Tmp) (t:TypeId):resV P w0 L f (.cell a t)=ut (aR P t) w0 L (ec f a):=(rfl)
def cM:List Value→Value
 | [v]=>v
 |vs=> .tuple vs.toArray
section
variable {P:Program} {w0 w:World} {L:aB} {f:Fr}
def resS (f:Fr) (r:ResultVar):Sem Value:=
 match r with
 | .tmp t=>pure ((act f).tmps.getD t undef)
 | .cell a t=>do loadVar t (←asAddr ((act f).tmps.getD a undef))
def V3 {r:ResultVar} {v:Value} (hw:Hp w0 L w) (h:resV P w0 L f r=some v): (resS f r).run P w= .ok v w:=by
 cases r with
 |tmp t=>simp only[resV,Option.some.injEq] at h;subst h;simp only[resS,act,tM];rfl
 |cell a t=>
  simp only[resV] at h
  unfold ut at h
  split at h
  ·rename_i b off hx
   simp only[resS,act,tM,hx,asAddr,Sem.run_bind,Sem.run_pure,Result.andThen_ok,WG_ hw h]
  cases h
theorem DW: ∀ (rs:List ResultVar) (vs:List Value),Hp w0 L w→nc P w0 L f rs=some vs→(rs.mapM (resS f)).run P w= .ok vs w
 | [],vs,_,h=>by simp only[nc,Option.some.injEq] at h;subst h;rfl
 |r::rs,vs,hw,h=>by
  unfold nc ti at h
  split at h
  ·rename_i v vs' h1 h2
   simp only[Option.some.injEq] at h;subst h
   rw[List.mapM_cons,Sem.run_bind,V3 hw h1]
   simp only[Result.andThen_ok]
   rw[Sem.run_bind,DW rs vs' hw h2]
   rfl
  cases h
def Vw_ {fn:Func} {rs:List ResultVar} {vs:List Value} (hr:fn.results=rs.toArray) (hw:Hp w0 L w) (h:nc P w0 L f rs=some vs): (results fn (act f).tmps).run P w= .ok (cM vs) w:=by
 unfold results
 rw[hr]
 have e: (Array.mapM (m:=Sem) (resS f) rs.toArray).run P w= .ok vs.toArray w:=by
  rw[List.mapM_toArray,Sem.run_map,DW rs vs hw h];rfl
 rw[Sem.run_bind]
 show Result.andThen ((Array.mapM (m:=Sem) (resS f) rs.toArray).run P w) (fun a w'=>(pure (if h:a.size=1 then a[0] else Value.tuple a):Sem Value).run P w')=_
 rw[e]
 cases vs with
 |nil=>rfl
 |cons v r=>cases r<;>rfl
end
def Rets (P:Program) (k:FuncId) (args:Array Value) (w:World) (S:Value→aB→Prop):Prop:=
 Calls P k args w fun e w'=> ∃v D,e= .returned v∧Hp w D w'∧S v D
theorem Rets.mono {P:Program} {k:FuncId} {args:Array Value} {w:World} {S S':Value→aB→Prop} (h:Rets P k args w S) (hs: ∀v D,S v D→S' v D):Rets P k args w S':=
 Calls.mono h fun _ _ ⟨v,D,he,hp,hS⟩=>⟨v,D,he,hp,hs _ _ hS⟩
theorem Cw.own {P:Program} {w0:World} {c:Code} {f:Fr} {L:aB} {K:d9} {b:Nat} {o:Obj} (hb:w0.heap[b]? =some o) (hn:b∉keys L) (h:Cw P w0 c f (L++ [(b,o)]) K):Cw P w0 c f L K:=
 fun w hw=>h w (hw.own hb hn)
def retK (P:Program) (w0:World) (rs:List ResultVar) (S:Value→aB→Prop):d9
 | .normal,f,L=> ∃vs,nc P w0 L f rs=some vs∧S (cM vs) L
 | .ret,f,L=> ∃vs,nc P w0 L f rs=some vs∧S (cM vs) L
 |_,_,_=>False
def Rets.enter {P:Program} {k:FuncId} {fn:Func} {c:Code} {rs:List ResultVar} {args:Array Value} {w:World} {S:Value→aB→Prop} {n:Nat}
  (hf:P.funcs[k]? =some fn) (hb:fn.body=some c) (hr:fn.results=rs.toArray) (hn:fn.ntmps=n)
  (h:Cw P w c (args.toList++List.replicate (n - args.size) undef) [] (retK P w rs S)):Rets P k args w S:=by
 refine calls_of_wp hf hb ?_
 have e: ({tmps:=args++Array.replicate (fn.ntmps - args.size) undef,defers:= []}:Act)=act (args.toList++List.replicate (n - args.size) undef):=by
  rw[hn];simp only[act];congr 1;apply Array.ext';simp
 rw[e]
 refine wp_mono (h w (Hp.refl w)) ?_
 rintro e a w' ⟨hd,L,hp,hk⟩
 have ha:=v_ hd
 cases e with
 |normal=>
  obtain⟨vs,h1,h2⟩:=hk
  exact⟨hd,cM vs,by rw[ha];exact Vw_ hr hp h1,cM vs,L,rfl,hp,h2⟩
 |ret=>
  obtain⟨vs,h1,h2⟩:=hk
  exact⟨hd,cM vs,by rw[ha];exact Vw_ hr hp h1,cM vs,L,rfl,hp,h2⟩
 |exit i=>exact hk.elim
 |goto i=>exact hk.elim
 |panic c=>exact hk.elim
 |outgrown=>exact hk.elim
def New (n:Nat):aB→Prop
 | []=>True
 | (b,_)::r=>n≤b∧New n r
def New.le {n:Nat} {L:aB} (h:New n L): ∀b,b∈keys L→n≤b:=by
 induction L with
 |nil=>intro b hb;cases hb
 |cons p r ih=>
  obtain⟨c,o⟩:=p
  intro b hb
  rcases List.mem_cons.1 hb with hb|hb
  ·rw[hb];exact h.1
  exact ih h.2 b hb
def Hp.garbage {w w':World} {D:aB} (h:Hp w D w') (hn:New w.heap.size D):Hp w [] w':=
 h.drop (fun _ hp=>by cases hp) List.nodup_nil (fun p hp aC _=>by
  have:=hn.le p.1 (List.mem_map.2 ⟨p,hp,rfl⟩);omega)
def retV (P:Program) (w0:World) (rs:List ResultVar) (S:Value→Prop):d9
 | .normal,f,L=> ∃vs,nc P w0 L f rs=some vs∧New w0.heap.size L∧S (cM vs)
 | .ret,f,L=> ∃vs,nc P w0 L f rs=some vs∧New w0.heap.size L∧S (cM vs)
 |_,_,_=>False
def Rets.enterV {P:Program} {k:FuncId} {fn:Func} {c:Code} {rs:List ResultVar} {args:Array Value} {w:World} {S:Value→Prop} {n:Nat}
  (hf:P.funcs[k]? =some fn) (hb:fn.body=some c) (hr:fn.results=rs.toArray) (hn:fn.ntmps=n)
  (h:Cw P w c (args.toList++List.replicate (n - args.size) undef) [] (retV P w rs S)):Rets P k args w (fun v D=>S v∧D= []):=by
 have:=Rets.enter (S:=fun v D=>New w.heap.size D∧S v) hf hb hr hn (h.mono (by
  intro e f L hk
  cases e<;>first
   |exact hk
   |exact hk.elim))
 refine Calls.mono this ?_
 rintro e w' ⟨v,D,he,hp,hn,hS⟩
 exact⟨v,[],he,hp.garbage hn,hS,rfl⟩
def retM (P:Program) (w0:World) (rs:List ResultVar) (b:Nat) (S:Value→Obj→Prop):d9
 | .normal,f,L=> ∃vs o N,nc P w0 L f rs=some vs∧L=(b,o)::N∧New w0.heap.size N∧S (cM vs) o
 | .ret,f,L=> ∃vs o N,nc P w0 L f rs=some vs∧L=(b,o)::N∧New w0.heap.size N∧S (cM vs) o
 |_,_,_=>False
def Rets.enterM {P:Program} {k:FuncId} {fn:Func} {c:Code} {rs:List ResultVar} {args:Array Value} {w:World} {S:Value→Obj→Prop} {n b:Nat} {o:Obj}
  (hf:P.funcs[k]? =some fn) (hb:fn.body=some c) (hr:fn.results=rs.toArray) (hn:fn.ntmps=n) (ho:w.heap[b]? =some o)
  (h:Cw P w c (args.toList++List.replicate (n - args.size) undef) [(b,o)] (retM P w rs b S)):Rets P k args w (fun v D=> ∃o,D= [(b,o)]∧S v o):=by
 have:=Rets.enter (S:=fun v D=> ∃o N,D=(b,o)::N∧New w.heap.size N∧S v o) hf hb hr hn
  (Cw.own ho (by simp[keys]) (h.mono (by
   intro e f L hk
   cases e with
   |normal=>obtain⟨vs,o,N,h1,h2,h3,h4⟩:=hk;exact⟨vs,h1,o,N,h2,h3,h4⟩
   |ret=>obtain⟨vs,o,N,h1,h2,h3,h4⟩:=hk;exact⟨vs,h1,o,N,h2,h3,h4⟩
   |_=>exact hk.elim)))
 refine Calls.mono this ?_
 rintro e w' ⟨v,D,he,hp,o',N,rfl,hN,hS⟩
 have iJ:=(Array.getElem?_eq_some_iff.1 ho).1
 refine⟨v,[(b,o')],he,hp.drop (fun p hp=> ?_) (by simp[keys]) (fun p hp aC hnk=> ?_),o',rfl,hS⟩
 ·simp only[List.mem_singleton] at hp;subst hp;exact am
 rcases List.mem_cons.1 hp with h|h
 ·exfalso;apply hnk;rw[h];simp[keys]
 have:=hN.le p.1 (List.mem_map.2 ⟨p,h,rfl⟩);omega
def fU:aB→Nat→Prop
 | [],_=>True
 | (b,_)::r,n=>b<n∧fU r n
def io {L:aB} {n:Nat} (h: ∀b,b∈keys L→b<n):fU L n:=by
 induction L with
 |nil=>trivial
 |cons p r ih=>
  obtain⟨b,o⟩:=p
  exact⟨h b am,ih fun c hc=>h c (cN _ hc)⟩
def Mrg (w0:World) (L:aB) (B:Nat) (D L':aB):Prop:= ∀w w',w.heap.size=B→Hp w0 L w→Hp w D w'→Hp w0 L' w'
def Mrg.nil {w0:World} {L:aB} {B:Nat}:Mrg w0 L B [] L:=fun _ _ _ h k=>h.trans_nil k
def Hp.same {w0 w:World} {L M:aB} (h:Hp w0 L w) (hs: ∀p,p∈M↔p∈L) (hn: (keys M).Nodup):Hp w0 M w:=by
 have hk: ∀b,b∈keys M↔b∈keys L:=fun b=>by
  constructor<;>intro hb<;>obtain⟨p,hp,rfl⟩:=List.mem_map.1 hb
  ·exact List.mem_map.2 ⟨p,(hs p).1 hp,rfl⟩
  exact List.mem_map.2 ⟨p,(hs p).2 hp,rfl⟩
 exact⟨fun b o hm=>h.has b o ((hs _).1 hm),hn,fun b hb hm=>h.old b hb (fun ii=>hm ((hk b).2 ii)),h.size,h.tape,h.os,h.output⟩
def A7 {L D:aB} (h: ∀b,b∈keys L→b∉keys D):L.filter (fun p=> !(keys D).contains p.1)=L:=by
 apply List.filter_eq_self.2
 intro p hp
 have:=h p.1 (List.mem_map.2 ⟨p,hp,rfl⟩)
 simpa using this
def Mrg.fresh {w0:World} {L D:aB} {B:Nat} (hD: ∀b,b∈keys D→B≤b):Mrg w0 L B D (L++D):=by
 intro w w' hB h k
 have:=h.trans k
 rwa [A7 (fun b hb hm=>by have:=h.lt hb;have:=hD b hm;omega)] at this
def Mrg.set {w0:World} {L:aB} {B b:Nat} {o:Obj} (hb:b∈keys L):Mrg w0 L B [(b,o)] (setB L b o):=by
 intro w w' hB h k
 have ht:=h.trans k
 refine ht.same (fun p=> ?_) (by rw[l5];exact h.nodup)
 obtain⟨c,x⟩:=p
 simp only[List.mem_append,List.mem_filter,keys,List.map_cons,List.map_nil,List.contains_eq_mem,List.mem_singleton,Prod.mk.injEq,Bool.not_eq_true',decide_eq_false_iff_not]
 constructor
 ·intro hm
  rcases EN h.nodup hm with⟨h1,h2⟩ | ⟨h1,h2⟩
  ·exact .inr ⟨h1,h2⟩
  exact .inl ⟨h2,h1⟩
 rintro(⟨h1,h2⟩ | ⟨rfl,rfl⟩)
 ·have: ∀ (L:aB),(c,x)∈L→c≠b→(c,x)∈setB L b o:=by
   intro L
   induction L with
   |nil=>intro hm _;cases hm
   |cons q r ih=>
    obtain⟨e,y⟩:=q
    intro hm aX
    unfold setB
    split
    ·rename_i he
     rcases List.mem_cons.1 hm with hm|hm
     ·simp only[Prod.mk.injEq] at hm;exact absurd (hm.1.trans he) aX
     exact cN _ hm
    rcases List.mem_cons.1 hm with hm|hm
    ·rw[hm];exact am
    exact cN _ (ih hm aX)
  exact this L h1 h2
 have: ∀ (L:aB),c∈keys L→(c,x)∈setB L c x:=by
  intro L
  induction L with
  |nil=>intro hm;cases hm
  |cons q r ih=>
   obtain⟨e,y⟩:=q
   intro hm
   unfold setB
   split
   ·rename_i he;subst he;exact am
   rename_i he
   rcases List.mem_cons.1 hm with hm|hm
   ·exact absurd hm.symm he
   exact cN _ (ih hm)
 exact this L hb
section
variable {P:Program} {w0:World} {f:Fr} {L:aB} {N:Fr→aB→Prop} {ops:Array Oper} {rest:List Oper} {md:Md}
 {d:Option Tmp} {ty:TypeId} {ps:String} {af:Array Edge} {g:Option (Nat×Bool)}
def ED {x:Operand} {args:Array Operand} {ts:Array TypeId} {k:FuncId} {fst cap:Array Value} (hx:ev f x= .func (.func k) fst cap)
  (hk: ∀a w,(callFunc k a).run P w= .ok (.enter k a) w) (w:World):
  (execOp (ev f) ⟨d, .call ⟨.value x,args,ts⟩,ty,ps,af,g⟩).run P w= .ok (.enter k (fst++args.map (ev f)++cap)) w:=by
 simp only[execOp,resolve,hx,Deferred.ofValue,Sem.run_bind,Sem.run_pure,Result.andThen_ok,invoke,hk]
theorem Ow.call {x:Operand} {args:Array Operand} {ts:Array TypeId} {k:FuncId} {fst cap:Array Value} {S:Nat→Value→aB→Prop} {md':Md} (he:md.turn=some md')
  (hs:bT ops f ⟨d, .call ⟨.value x,args,ts⟩,ty,ps,af,g⟩=false) (hx:ev f x= .func (.func k) fst cap)
  (hk: ∀a w,(callFunc k a).run P w= .ok (.enter k a) w) (hc: ∀w,Hp w0 L w→Rets P k (fst++args.map (ev f)++cap) w (S w.heap.size))
  (hn: ∀B v D,fU L B→w0.heap.size≤B→S B v D→ ∃L',Mrg w0 L B D L'∧Ow P w0 ops md' rest (al f d v) L' N):
  Ow P w0 ops md (⟨d, .call ⟨.value x,args,ts⟩,ty,ps,af,g⟩::rest) f L N:=by
 refine Ow.step he rfl hs fun w hw=> .inr (.inr ⟨k,_,w,ED hx hk w, ?_⟩)
 refine Calls.mono (hc w hw) ?_
 rintro e w' ⟨v,D,rfl,hp,hS⟩
 obtain⟨L',hm,hO⟩:=hn w.heap.size v D (io fun b hb=>hw.lt hb) hw.size hS
 exact⟨v,L',rfl,hm w w' rfl hw hp,hO⟩
def Ow.callV {x:Operand} {args:Array Operand} {ts:Array TypeId} {k:FuncId} {fst cap:Array Value} {v:Value}
  (hs:bT ops f ⟨d, .call ⟨.value x,args,ts⟩,ty,ps,af,g⟩=false) (hx:ev f x= .func (.func k) fst cap)
  (hk: ∀a w,(callFunc k a).run P w= .ok (.enter k a) w) (hc: ∀w,Hp w0 L w→Rets P k (fst++args.map (ev f)++cap) w (fun v' D=>v'=v∧D= []))
  (hn:Ow P w0 ops md.next rest (al f d v) L N):
  Ow P w0 ops md (⟨d, .call ⟨.value x,args,ts⟩,ty,ps,af,g⟩::rest) f L N:=by
 refine Ow.calm rfl rfl hs (fun w hw=> .inr (.inr ⟨k,_,w,ED hx hk w, ?_⟩)) hn
 refine Calls.mono (hc w hw) ?_
 rintro e w' ⟨v',D,rfl,hp,rfl,rfl⟩
 exact⟨_,_,rfl,hw.trans_nil hp,rfl,rfl⟩
def Ow.callF {l:List Operand} {ts:Array TypeId} {k:FuncId} {S:Nat→Value→aB→Prop} {md':Md} (he:md.turn=some md')
  (hs:bT ops f ⟨d, .call ⟨.value (.func k),l.toArray,ts⟩,ty,ps,af,g⟩=false)
  (hk: ∀a w,(callFunc k a).run P w= .ok (.enter k a) w) (hc: ∀w,Hp w0 L w→Rets P k (l.map (ev f)).toArray w (S w.heap.size))
  (hn: ∀B v D,fU L B→w0.heap.size≤B→S B v D→ ∃L',Mrg w0 L B D L'∧Ow P w0 ops md' rest (al f d v) L' N):
  Ow P w0 ops md (⟨d, .call ⟨.value (.func k),l.toArray,ts⟩,ty,ps,af,g⟩::rest) f L N:=
 Ow.call he hs rfl hk (fun w hw=>by simpa using hc w hw) hn
def Ow.callFV {l:List Operand} {ts:Array TypeId} {k:FuncId} {v:Value}
  (hs:bT ops f ⟨d, .call ⟨.value (.func k),l.toArray,ts⟩,ty,ps,af,g⟩=false)
  (hk: ∀a w,(callFunc k a).run P w= .ok (.enter k a) w) (hc: ∀w,Hp w0 L w→Rets P k (l.map (ev f)).toArray w (fun v' D=>v'=v∧D= []))
  (hn:Ow P w0 ops md.next rest (al f d v) L N):
  Ow P w0 ops md (⟨d, .call ⟨.value (.func k),l.toArray,ts⟩,ty,ps,af,g⟩::rest) f L N:=
 Ow.callV hs rfl hk (fun w hw=>by simpa using hc w hw) hn
def an (P:Program) (t:TypeId):Option Value:=(P.info? t).bind (·.zero)
def vZ {t:TypeId} {z:Value} (h:an P t=some z) (w:World): (zeroValue t).run P w= .ok z w:=by
 unfold an at h
 cases hi:P.info? t with
 |none=>rw[hi] at h;cases h
 |some i=>
  rw[hi] at h
  simp only[Option.bind_some] at h
  simp only[zeroValue,Sem.run_bind,typeInfo,run_program,Result.andThen_ok,hi,Sem.run_pure,h]
theorem Ow.alloc {t:TypeId} {z:Value} {md':Md} (he:md.turn=some md') (hs:bT ops f ⟨d, .alloc t,ty,ps,af,g⟩=false) (hz:an P t=some z)
  (hn: ∀b,fU L b→w0.heap.size≤b→Ow P w0 ops md' rest (al f d (vp b 0)) (L++ [(b, .cells z.cells t)]) N):
  Ow P w0 ops md (⟨d, .alloc t,ty,ps,af,g⟩::rest) f L N:=by
 refine Ow.step he rfl hs fun w hw=> .inl ⟨vp w.heap.size 0,w.alloc (.cells z.cells t),_, ?_,hw.alloc _,hn _ (io fun b hb=>hw.lt hb) hw.size⟩
 simp only[execOp,Instr.alloc,Sem.run_bind,vZ hz w,Result.andThen_ok]
 rfl
theorem Ow.box {t:TypeId} {x:Operand} {md':Md} (he:md.turn=some md') (hs:bT ops f ⟨d, .box t x,ty,ps,af,g⟩=false)
  (hn: ∀b,fU L b→w0.heap.size≤b→Ow P w0 ops md' rest (al f d (vp b 0)) (L++ [(b, .cells (ev f x).cells t)]) N):
  Ow P w0 ops md (⟨d, .box t x,ty,ps,af,g⟩::rest) f L N:=by
 refine Ow.step he rfl hs fun w hw=> .inl ⟨vp w.heap.size 0,w.alloc (.cells (ev f x).cells t),_, ?_,hw.alloc _,hn _ (io fun b hb=>hw.lt hb) hw.size⟩
 simp only[execOp,Instr.box,Sem.run_bind,Result.andThen_ok]
 rfl
def cC (P:Program) (t:TypeId):Option (List (Nat×Nat)):=
 match P.underlying t with
 |some (.struct fs)=>fs.toList.mapM fun f=>(aR P f.type).map fun m=>(f.offset,m.2)
 |some (.array n e)=>(aR P e).map fun m=>(List.range n).map fun i=>(i*m.2,m.2)
 |_=>none
def fillV (pl:List (Nat×Nat)):Array Value→List (Nat×Value)→Option (Array Value)
 |cs,[]=>some cs
 |cs,(i,v)::r=>match pl[i]? with
  |some (off,n)=>if v.cells.size=n∧off+n≤cs.size then fillV pl (eb cs off v.cells.toList) r else none
  |none=>none
def dl (pl:Option (List (Nat×Nat))) (z:Option Value) (parts:List (Nat×Value)):Option Value:=
 match pl,z with
 |some pl,some (.agg cs)=>(fillV pl cs parts).map .agg
 |_,_=>none
theorem Kp: ∀ (vs:List Value) (off j:Nat) (cs:Array Value),(vs.zipIdx j).foldl (fun cs (p:Value×Nat)=>cs.setIfInBounds (off+p.2) p.1) cs=eb cs (off+j) vs
 | [],_,_,_=>rfl
 |v::r,off,j,cs=>by
  simp only[List.zipIdx_cons,List.foldl_cons,eb]
  rw[Kp r off (j+1)]
  rfl
theorem x6 {place:Nat→Option (Nat×Nat)} {pl:List (Nat×Nat)} (hp: ∀i p,pl[i]? =some p→place i=some p): ∀ (parts:List (Nat×Value)) (cs cs':Array Value),fillV pl cs parts=some cs'→Instr.fill place cs parts=some cs'
 | [],_,_,h=>h
 | (i,v)::r,cs,cs',h=>by
  unfold fillV at h
  split at h
  ·rename_i off n hi
   split at h
   ·rename_i hc
    unfold Instr.fill
    rw[hp i _ hi]
    simp only
    have h1: (decide (v.cells.size≠n) ||decide (off+v.cells.size>cs.size))=false:=by
     simp only[Bool.or_eq_false_iff,decide_eq_false_iff_not];omega
    have t_: ¬ ((decide (v.cells.size≠n) ||decide (off+v.cells.size>cs.size))=true):=by rw[h1];simp
    rw[if_neg t_]
    have e: (v.cells.zipIdx.foldl (fun cs (x:Value×Nat)=>match x with| (c,j)=>cs.setIfInBounds (off+j) c) cs)=eb cs off v.cells.toList:=by
     have:=Kp v.cells.toList off 0 cs
     rw[←Array.foldl_toList,Array.toList_zipIdx]
     simpa using this
    rw[e]
    exact x6 hp r _ _ h
   cases h
  cases h
def PX {fs:List Field} {pl:List (Nat×Nat)} (h:fs.mapM (fun f=>(aR P f.type).map fun m=>(f.offset,m.2))=some pl) (w:World):
  (fs.mapM (fun f=>do pure (f.offset,←sizeOf f.type):Field→Sem (Nat×Nat))).run P w= .ok pl w:=by
 induction fs generalizing pl with
 |nil=>cases h;rfl
 |cons f r ih=>
  simp only[List.mapM_cons,Option.bind_eq_bind,Option.bind_eq_some_iff,Option.map_eq_some_iff] at h
  obtain⟨p,⟨m,hm,rfl⟩,ps,hps,h⟩:=h
  cases h
  rw[List.mapM_cons,Sem.run_bind]
  simp only[Sem.run_bind,iT hm,Result.andThen_ok,Sem.run_pure,ih hps]
def QF {t:TypeId} {parts:Array (Nat×Value)} {v:Value} (h:dl (cC P t) (an P t) parts.toList=some v) (w:World): (Instr.build t parts).run P w= .ok v w:=by
 unfold dl at h
 split at h
 ·rename_i pl cs fc hz
  cases hf:fillV pl cs parts.toList with
  |none=>rw[hf] at h;cases h
  |some cs'=>
   rw[hf] at h
   cases h
   unfold cC at fc
   split at fc
   ·rename_i fs hu
    have hpl':fs.toList.mapM (fun f=>(aR P f.type).map fun m=>(f.offset,m.2))=some pl:=fc
    have hm:=PX hpl' w
    have ii: (fs.mapM (fun f=>do pure (f.offset,←sizeOf f.type):Field→Sem (Nat×Nat))).run P w= .ok pl.toArray w:=by
     rw[←Array.toArray_toList (xs:=fs),List.mapM_toArray,Sem.run_map,hm];rfl
    have rF:=x6 (place:=(pl.toArray[·]?)) (fun i p hi=>by simpa using hi) _ _ _ hf
    simp only[Instr.build,Sem.run_bind,vZ hz w,Result.andThen_ok,run_underlying hu w,Value.cells]
    rw[ii]
    simp only[Result.andThen_ok,rF,Sem.run_pure]
   ·rename_i n e hu
    cases hm:aR P e with
    |none=>rw[hm] at fc;cases fc
    |some m=>
     rw[hm] at fc
     simp only[Option.map_some,Option.some.injEq] at fc
     have rF:=x6 (place:=fun i=>some (i*m.2,m.2)) (fun i p hi=>by
      rw[←fc] at hi
      simp only[List.getElem?_map,Option.map_eq_some_iff] at hi
      obtain⟨j,hj,rfl⟩:=hi
      have:j=i:=by
       have:=List.getElem?_eq_some_iff.1 hj
       obtain⟨h1,h2⟩:=this
       simpa using h2.symm
      rw[this]) _ _ _ hf
     simp only[Instr.build,Sem.run_bind,vZ hz w,Result.andThen_ok,run_underlying hu w,Value.cells,iT hm w]
     simp only[rF,Sem.run_pure]
   cases fc
 cases h
theorem Ow.build {t:TypeId} {parts:Array (Nat×Operand)} (v:Value) (hs:bT ops f ⟨d, .build t parts,ty,ps,af,g⟩=false)
  (hv:dl (cC P t) (an P t) (parts.toList.map fun p=>(p.1,ev f p.2))=some v)
  (hn:Ow P w0 ops md.next rest (al f d v) L N):Ow P w0 ops md (⟨d, .build t parts,ty,ps,af,g⟩::rest) f L N:=by
 refine Ow.pureV rfl hs (fun w=> ?_) hn
 have h':dl (cC P t) (an P t) (parts.map fun(i,x)=>(i,ev f x)).toList=some v:=by
  rw[Array.toList_map];exact hv
 simp only[execOp,Sem.run_bind,QF h' w,Result.andThen_ok]
 rfl
def Ow.val {o:Oper} {v:Value} {md':Md} (he:md.turn=some md') (hp:gW P o.op=false) (hs:bT ops f o=false) (hv: ∀w,Hp w0 L w→(execOp (ev f) o).run P w= .ok (.value v) w)
  (hn:Ow P w0 ops md' rest (al f o.dst v) L N):Ow P w0 ops md (o::rest) f L N:=
 Ow.step he hp hs fun w hw=> .inl ⟨v,w,L,hv w hw,hw,hn⟩
end
def a8 (l:List UInt8):Array Value:=(l.map fun x=>Value.int .u8 (x.toNat:Int)).toArray
def a32 (l:List UInt32):Array Value:=(l.map fun x=>Value.int .u32 (x.toNat:Int)).toArray
end Go.Sx
end
section
namespace Go.Sx
open Go
section
variable {P:Program} {w0:World} {f:Fr} {L:aB} {K:d9} {N:Fr→aB→Prop}
def KE (h:N f L):lR N K .normal f L:=h
end
def CwC (P:Program) (w0:World) (v:Value) (x y:Code) (f:Fr) (L:aB) (K:d9):Prop:= ∃b,v= .bool b∧(b=true→Cw P w0 x f L K)∧(b=false→Cw P w0 y f L K)
section
variable {P:Program} {w0:World} {f:Fr} {L:aB} {K:d9} {v:Value} {x y:Code}
def CwC.split {b:Bool} (hv:v= .bool b) (ht:b=true→Cw P w0 x f L K) (he:b=false→Cw P w0 y f L K):CwC P w0 v x y f L K:=⟨b,hv,ht,he⟩
def CwC.splitp {p:Prop} [Decidable p] (hv:v= .bool (decide p)) (ht:p→Cw P w0 x f L K) (he: ¬p→Cw P w0 y f L K):CwC P w0 v x y f L K:=
 ⟨_,hv,(fun h=>ht (of_decide_eq_true h)),(fun h=>he (of_decide_eq_false h))⟩
def CwC.tt (hv:v= .bool true) (ht:Cw P w0 x f L K):CwC P w0 v x y f L K:=⟨_,hv,(fun _=>ht),(fun h=>by cases h)⟩
def CwC.ff (hv:v= .bool false) (he:Cw P w0 y f L K):CwC P w0 v x y f L K:=⟨_,hv,(fun h=>by cases h),(fun _=>he)⟩
def CwC.bt {b:Bool} (hv:v= .bool b) (hb:b=true) (ht:Cw P w0 x f L K):CwC P w0 v x y f L K:=CwC.tt (by rw[hv,hb]) ht
def CwC.bf {b:Bool} (hv:v= .bool b) (hb:b=false) (he:Cw P w0 y f L K):CwC P w0 v x y f L K:=CwC.ff (by rw[hv,hb]) he
def CwC.pt {p:Prop} [Decidable p] (hv:v= .bool (decide p)) (hp:p) (ht:Cw P w0 x f L K):CwC P w0 v x y f L K:=CwC.bt hv (aK hp) ht
def CwC.it {a b:Int} (hv:v= .bool (a==b)) (hp:a=b) (ht:Cw P w0 x f L K):CwC P w0 v x y f L K:=CwC.bt hv (beq_iff_eq.2 hp) ht
def CwC.if {a b:Int} (hv:v= .bool (a==b)) (hp: ¬a=b) (he:Cw P w0 y f L K):CwC P w0 v x y f L K:=CwC.bf hv (beq_eq_false_iff_ne.2 hp) he
def CwC.nf {a b:Int} (hv:v= .bool (a !=b)) (hp:a=b) (he:Cw P w0 y f L K):CwC P w0 v x y f L K:=CwC.bf hv (by rw[hp];simp) he
end
def dC (f:Fr) (t:Tmp):ev f (.tmp t)=ec f t:=(rfl)
def Vf (f:Fr) (v:Value):ev f (.const v)=v:=(rfl)
def RE (f:Fr) (g:Nat):ev f (.global g)=vp g 0:=(rfl)
def FQ (f:Fr) (k:FuncId):ev f (.func k)= .func (.func k) #[] #[]:=(rfl)
def cy (v:Value) (r:Fr):ec (v::r) 0=v:=(rfl)
def dA (v:Value) (r:Fr) (n:Nat):ec (v::r) (n+1)=ec r n:=(rfl)
def mT (v x:Value) (r:Fr):setF (v::r) 0 x=x::r:=(rfl)
def mW (v x:Value) (r:Fr) (n:Nat):setF (v::r) (n+1) x=v::setF r n x:=(rfl)
def pN (f:Fr) (d:Tmp) (v:Value):al f (some d) v=setF f d v:=(rfl)
def T8 (f:Fr) (v:Value):al f none v=f:=(rfl)
def YQ (l:List UInt8):Value.string (ByteArray.mk (List.toArray l))=vs l:=(rfl)
def Xr (P:Program) (op:BinOp) (t:TypeId) (a b:List UInt8):bF P op t (vs a) (vs b)=aJ op (vs a) (vs b):=(rfl)
def uu (l:List UInt8): (ByteArray.mk l.toArray).size=l.length:=by simp[ByteArray.size]
def AQ (l:List UInt8): (ByteArray.mk l.toArray).toList=l:=by rw[ByteArray.toList_eq]
def Tg (a b:List UInt8) (h:a.length+b.length≤9223372036854775807):aJ .add (vs a) (vs b)=some (vs (a++b)):=by
 simp only[aJ,vs,strV,uu,h, ↓reduceIte]
 congr 2
def Sr (a b:List UInt8):aJ .eql (vs a) (vs b)=some (.bool (a==b)):=by simp only[aJ,vs,strV,AQ]
def TS (a b:List UInt8):aJ .neq (vs a) (vs b)=some (.bool (a !=b)):=by simp only[aJ,vs,strV,AQ];rfl
def SQ (a b:List UInt8):aJ .lss (vs a) (vs b)=some (.bool (Op.bytesLess a b)):=by simp only[aJ,vs,strV,AQ]
def Uh (a b:List UInt8):aJ .leq (vs a) (vs b)=some (.bool (Op.bytesLess a b||a==b)):=by simp only[aJ,vs,strV,AQ]
def Tl (a b:List UInt8):aJ .gtr (vs a) (vs b)=some (.bool (!(Op.bytesLess a b||a==b))):=by simp only[aJ,vs,strV,AQ]
def T0 (a b:List UInt8):aJ .geq (vs a) (vs b)=some (.bool (!Op.bytesLess a b)):=by simp only[aJ,vs,strV,AQ]
def Ub (l:List UInt8) (k:Int) (h:0≤k∧k<l.length):qV .str (vs l) (some k)=some (v8 (l.getD k.toNat 0)):=by
 have aC:k.toNat<l.length:=by omega
 simp only[qV,vs,h.1, ↓reduceIte]
 have: (ByteArray.mk l.toArray)[k.toNat]? =some l[k.toNat]:=by
  have hs:k.toNat< (ByteArray.mk l.toArray).size:=by rw[uu];exact aC
  rw[ByteArray.getElem?_lt' _ _ hs];rfl
 rw[this]
 simp[v8,List.getD_eq_getElem?_getD,aC]
def YO (l:List UInt8):gY .str (vs l)=some (vi l.length):=by simp only[gY,vs,uu];rfl
def LZ (l:List UInt8) (lo hi:Option (Option Int)) (a b:Nat) (h:bndV l.length l.length lo hi=some (a,b)):gb .str (vs l) lo hi=some (vs ((l.take b).drop a)):=by
 simp only[gb,vs,uu,h]
 rw[ByteArray.extract_mk]
 congr 3
 rw[List.drop_take]
def Vb (n c:Nat):bndV n c none none=some (0,n):=(rfl)
def xc (n c:Nat) (l:Int) (h:0≤l∧l≤n):bndV n c (some (some l)) none=some (l.toNat,n):=by simp only[bndV,h,and_self, ↓reduceIte]
def Fl (n c:Nat) (l:Int) (h:0≤l∧l≤c):bndV n c none (some (some l))=some (0,l.toNat):=by simp only[bndV,h,and_self, ↓reduceIte]
def ER (n c:Nat) (l k:Int) (h:0≤l∧l≤k∧k≤c):bndV n c (some (some l)) (some (some k))=some (l.toNat,k.toNat):=by simp only[bndV,h,and_self, ↓reduceIte]
def Nv (l:List UInt8) (k:Int) (h:0≤k∧k≤l.length):gb .str (vs l) (some (some k)) none=some (vs (l.drop k.toNat)):=by
 rw[LZ l _ _ _ _ (xc _ _ k h),List.take_length]
def NH (l:List UInt8) (k:Int) (h:0≤k∧k≤l.length):gb .str (vs l) none (some (some k))=some (vs (l.take k.toNat)):=by
 rw[LZ l _ _ _ _ (Fl _ _ k h),List.drop_zero]
def Jg_ (l:List UInt8) (j k:Int) (h:0≤j∧j≤k∧k≤l.length):gb .str (vs l) (some (some j)) (some (some k))=some (vs ((l.take k.toNat).drop j.toNat)):=by
 rw[LZ l _ _ _ _ (ER _ _ j k h)]
def Vi (w0:World) (L:aB) (k:IntKind) (v:Value):jP w0 L (.int k) v=gK k v:=(rfl)
def VS (w0:World) (L:aB) (l:List UInt8):jP w0 L .str (vs l)=some (vs l):=(rfl)
def Mw (w0:World) (L:aB) (b off n c:Nat):jP w0 L .bytesStr (vsl b off n c)=ir (aU w0 L b) off n:=(rfl)
def QW (l:List UInt8):uo (l.map fun x=>Value.int .u8 (x.toNat:Int))=some l:=by
 induction l with
 |nil=>rfl
 |cons x r ih=>
  simp only[List.map_cons,uo,ih,Int.toNat_natCast]
  simp
def Wd (l:List UInt8) (E:TypeId) (fz:Nat×Nat) (off n:Nat) (h:off+n≤l.length):ir (some (.cells (a8 l) E fz)) off n=some (vs ((l.drop off).take n)):=by
 have hs:off+n≤ (a8 l).size:=by simpa [a8] using h
 simp only[ir,hs, ↓reduceIte]
 have e: ((a8 l).extract off (off+n)).toList=((l.drop off).take n).map fun x=>Value.int .u8 (x.toNat:Int):=by
  simp[a8,List.map_drop,List.map_take,List.take_drop,List.extract_eq_take_drop]
 rw[e,QW];rfl
def PB (off n b o:Nat) (a:Bool) (h:0<n):AD (some (off,(a,n))) (vp b o)=some (vp b (o+off)):=by
 have: ¬n=0:=by omega
 simp only[AD,vp,this, ↓reduceIte,o0]
def J7_ (n:Nat) (m:Bool×Nat) (b o:Nat) (k:Int) (h:0≤k∧k<n):i_ (.arr n m) (vp b o) (some k)=some (vp b (o+k.toNat*m.2)):=by
 simp only[i_,vp,h,and_self, ↓reduceIte,o0]
def pS (m:Bool×Nat) (b o n c:Nat) (k:Int) (h:0≤k∧k<n):i_ (.sl m) (vsl b o n c) (some k)=some (vp b (o+k.toNat*m.2)):=by
 simp only[i_,vp,vsl,h,and_self, ↓reduceIte,o0]
def Zg (b o:Nat):nilV (vp b o)=some (vp b o):=(rfl)
def XJ (n:Nat) (m:Bool×Nat) (v:Value):gY (.arr n m) v=some (vi n):=(rfl)
def Z8 (m:Bool×Nat) (b o n c:Nat):gY (.sl m) (vsl b o n c)=some (vi n):=(rfl)
def ZA (m:Bool×Nat) (b o n c:Nat):capV (.sl m) (vsl b o n c)=some (vi c):=(rfl)
def MZ (n:Nat) (m:Bool×Nat) (b o:Nat) (h:0<n):gb (.arr n m) (vp b o) none none=some (vsl b o n n):=by
 have: ¬n=0:=by omega
 simp only[gb,vp,Vb,this, ↓reduceIte,vsl,o0,Nat.zero_mul,Nat.add_zero,Nat.sub_zero]
def MO (n:Nat) (m:Bool×Nat) (b o:Nat) (j k:Int) (h:0≤j∧j≤k∧k≤n∧j<n):gb (.arr n m) (vp b o) (some (some j)) (some (some k))=some (vsl b (o+j.toNat*m.2) (k.toNat - j.toNat) (n - j.toNat)):=by
 have: ¬n=j.toNat:=by omega
 simp only[gb,vp,ER n n j k ⟨h.1,h.2.1,h.2.2.1⟩,this, ↓reduceIte,vsl,o0]
def kH (L:aB) (b:Nat) (o:Obj):look ((b,o)::L) b=some o:=by simp[look]
def rl (L:aB) (b c:Nat) (o:Obj) (h:b≠c):look ((b,o)::L) c=look L c:=by simp[look,h]
def uh (L:aB) (b:Nat) (o x:Obj):setB ((b,o)::L) b x=(b,x)::L:=by simp[setB]
def yy (L:aB) (b c:Nat) (o x:Obj) (h:b≠c):setB ((b,o)::L) c x=(b,o)::setB L c x:=by simp[setB,h]
def o5 (w0:World) (L:aB) (b:Nat) (o:Obj):aU w0 ((b,o)::L) b=some o:=by simp[aU,look]
def yz (w0:World) (L:aB) (b c:Nat) (o:Obj) (h:b≠c):aU w0 ((b,o)::L) c=aU w0 L c:=by simp[aU,look,h]
def VW (w0:World) (b:Nat):aU w0 [] b=w0.heap[b]? :=(rfl)
def W5 (m:Option (Bool×Nat)) (w0:World) (L:aB) (b o:Nat):ut m w0 L (vp b o)=aG m (aU w0 L b) o:=(rfl)
def rx (cs:Array Value) (E:TypeId) (fz:Nat×Nat) (n:Nat) (h:cs.size=n):aG (some (true,n)) (some (.cells cs E fz)) 0=some (.agg cs):=by
 subst h
 simp[aG]
def sg (l:List UInt8): (a8 l).size=l.length:=by simp[a8]
def At (l:List UInt32): (a32 l).size=l.length:=by simp[a32]
def F3 (l:List UInt8) (E:TypeId) (fz:Nat×Nat) (n i:Nat) (h:i<l.length):aG (some (false,n)) (some (.cells (a8 l) E fz)) i=some (v8 (l.getD i 0)):=by
 simp[aG,a8,v8,h]
def VV (l:List UInt32) (E:TypeId) (fz:Nat×Nat) (n i:Nat) (h:i<l.length):aG (some (false,n)) (some (.cells (a32 l) E fz)) i=some (v32 (l.getD i 0)):=by
 simp[aG,a32,v32,h]
def Lc (l:List UInt8) (E:TypeId) (fz:Nat×Nat) (n:Nat) (h:l.length=n):aG (some (true,n)) (some (.cells (a8 l) E fz)) 0=some (.agg (a8 l)):=rx _ E fz n (by rw[sg,h])
def Qq (l:List UInt32) (E:TypeId) (fz:Nat×Nat) (n:Nat) (h:l.length=n):aG (some (true,n)) (some (.cells (a32 l) E fz)) 0=some (.agg (a32 l)):=rx _ E fz n (by rw[At,h])
def aS (cs:Array Value): (Value.agg cs).cells=cs:=(rfl)
def Ym (l:List UInt8): (a8 l).toList.all Value.oneCell'=true:=by simp[a8,Value.oneCell']
def FM (l:List UInt32): (a32 l).toList.all Value.oneCell'=true:=by simp[a32,Value.oneCell']
def tD (vs:List Value): ∀ (pre mid suf:List Value),mid.length=vs.length→eb (pre++mid++suf).toArray pre.length vs=(pre++vs++suf).toArray:=by
 induction vs with
 |nil=>
  intro pre mid suf h
  cases mid with
  |nil=>rfl
  |cons _ _=>cases h
 |cons v r ih=>
  intro pre mid suf h
  cases mid with
  |nil=>cases h
  |cons m ms=>
   simp only[List.length_cons,Nat.add_right_cancel_iff] at h
   have:=ih (pre++ [v]) ms suf h
   simp only[eb]
   have e: ((pre++m::ms++suf).toArray.setIfInBounds pre.length v)=(pre++ [v]++ms++suf).toArray:=by
    simp
   rw[e]
   simpa using this
def E3 (cs:Array Value) (vs:List Value) (h:vs.length=cs.size):eb cs 0 vs=vs.toArray:=by
 have:=tD vs [] cs.toList [] (by simpa using h.symm)
 simpa using this
def IR (n:Nat) (a:Bool) (cs old:Array Value) (E:TypeId) (h:cs.size=n∧old.size=n) (ho:cs.toList.all Value.oneCell'=true):
  ad (some (a,n)) (some (.cells old E (0,0))) 0 (.agg cs)=some (.cells cs E (0,0)):=by
 obtain⟨h1,h2⟩:=h
 have hp:eb old 0 cs.toList=cs:=by
  rw[E3 _ _ (by rw[Array.length_toList,h1,h2])]
 have hz: (0:Nat)+n≤old.size:=by omega
 simp only[ad,aS,h1,hz,bq,true_or,ho,and_self, ↓reduceIte,hp]
def Ri (n:Nat) (a:Bool) (l:List UInt8) (old:Array Value) (E:TypeId) (h:l.length=n∧old.size=n):
  ad (some (a,n)) (some (.cells old E (0,0))) 0 (.agg (a8 l))=some (.cells (a8 l) E (0,0)):=IR n a _ _ E (by rw[sg];exact h) (Ym l)
def OT (n:Nat) (a:Bool) (l:List UInt32) (old:Array Value) (E:TypeId) (h:l.length=n∧old.size=n):
  ad (some (a,n)) (some (.cells old E (0,0))) 0 (.agg (a32 l))=some (.cells (a32 l) E (0,0)):=IR n a _ _ E (by rw[At];exact h) (FM l)
def z7 (a:Bool) (v:Value) (cs:Array Value) (E:TypeId) (i:Nat) (h:i<cs.size) (hv:v.cells= #[v]) (ho:v.oneCell'=true):
  ad (some (a,1)) (some (.cells cs E (0,0))) i v=some (.cells (cs.setIfInBounds i v) E (0,0)):=by
 have h1:i+1≤cs.size:=h
 simp only[ad,hv,List.size_toArray,List.length_cons,List.length_nil,h1,bq,true_or,List.all_cons,ho,List.all_nil,Bool.and_self,and_self, ↓reduceIte,eb,Nat.zero_add]
def ZJ (l:List UInt8) (i:Nat) (x:UInt8): (a8 l).setIfInBounds i (v8 x)=a8 (l.set i x):=by
 simp[a8,v8,List.map_set]
def WK (l:List UInt32) (i:Nat) (x:UInt32): (a32 l).setIfInBounds i (v32 x)=a32 (l.set i x):=by
 simp[a32,v32,List.map_set]
def UP (a:Bool) (l:List UInt8) (E:TypeId) (i:Nat) (x:UInt8) (h:i<l.length):ad (some (a,1)) (some (.cells (a8 l) E (0,0))) i (v8 x)=some (.cells (a8 (l.set i x)) E (0,0)):=by
 rw[z7 a _ _ E i (by rw[sg];exact h) rfl rfl,ZJ]
def Ui (a:Bool) (l:List UInt32) (E:TypeId) (i:Nat) (x:UInt32) (h:i<l.length):ad (some (a,1)) (some (.cells (a32 l) E (0,0))) i (v32 x)=some (.cells (a32 (l.set i x)) E (0,0)):=by
 rw[z7 a _ _ E i (by rw[At];exact h) rfl rfl,WK]
def upd (L:aB) (b:Nat) (o:Option Obj):Option aB:=match o with|some o=>some (setB L b o) |none=>none
def Aj (L:aB) (b:Nat) (o:Obj):upd L b (some o)=some (setB L b o):=(rfl)
def Aa (m:Option (Bool×Nat)) (L:aB) (b o:Nat) (v:Value):sa m L (vp b o) v=upd L b (ad m (look L b) o v):=(rfl)
def UX (n:Nat) (l:List UInt8) (i:Int) (h:0≤i∧i<n) (hl:l.length=n):qV (.arr n (false,1)) (.agg (a8 l)) (some i)=some (v8 (l.getD i.toNat 0)):=by
 have:i.toNat<l.length:=by omega
 simp[qV,h,partV,a8,v8,this]
def Tf (n:Nat) (l:List UInt32) (i:Int) (h:0≤i∧i<n) (hl:l.length=n):qV (.arr n (false,1)) (.agg (a32 l)) (some i)=some (v32 (l.getD i.toNat 0)):=by
 have:i.toNat<l.length:=by omega
 simp[qV,h,partV,a32,v32,this]
def T5 (vs:Array Value) (i:Nat):Ib (.tuple vs) i=vs[i]? :=(rfl)
def YK (a b:Value):jG (.bool true) a b=some a:=(rfl)
def YL (a b:Value):jG (.bool false) a b=some b:=(rfl)
def Ms (g n:Nat): ((g:Int)+no_index (@OfNat.ofNat Int n _)).toNat=g+ @OfNat.ofNat Nat n _:=by
 show((g:Int)+ (n:Int)).toNat=g+n
 omega
def MX (g n:Nat): (no_index (@OfNat.ofNat Int n _)* (g:Int)).toNat= @OfNat.ofNat Nat n _*g:=by
 show((n:Int)* (g:Int)).toNat=n*g
 rw[←Int.natCast_mul,Int.toNat_natCast]
def X3_ (g n m:Nat): (no_index (@OfNat.ofNat Int n _)* (g:Int)+no_index (@OfNat.ofNat Int m _)).toNat= @OfNat.ofNat Nat n _*g+ @OfNat.ofNat Nat m _:=by
 show((n:Int)* (g:Int)+ (m:Int)).toNat=n*g+m
 rw[←Int.natCast_mul,←Int.natCast_add,Int.toNat_natCast]
def Py (g n:Nat): ((g:Int) - no_index (@OfNat.ofNat Int n _)).toNat=g - @OfNat.ofNat Nat n _:=by
 show((g:Int) - (n:Int)).toNat=g - n
 omega
def My (g n:Nat): (no_index (@OfNat.ofNat Int n _) - (g:Int)).toNat= @OfNat.ofNat Nat n _ - g:=by
 show((n:Int) - (g:Int)).toNat=n - g
 omega
def Mq (g n:Nat): ((g:Int) / no_index (@OfNat.ofNat Int n _)).toNat=g / @OfNat.ofNat Nat n _:=by
 show((g:Int) / (n:Int)).toNat=g / n
 rw[←Int.natCast_ediv,Int.toNat_natCast]
def MY (g n:Nat): ((g:Int)%no_index (@OfNat.ofNat Int n _)).toNat=g% @OfNat.ofNat Nat n _:=by
 show((g:Int)% (n:Int)).toNat=g%n
 rw[←Int.natCast_emod,Int.toNat_natCast]
def M9 (g n:Nat): ((g:Int)+ (n:Int)).toNat=g+n:=by omega
def MW (g n m:Nat): ((g:Int) / no_index (@OfNat.ofNat Int n _)+no_index (@OfNat.ofNat Int m _)).toNat=g / @OfNat.ofNat Nat n _+ @OfNat.ofNat Nat m _:=by
 show((g:Int) / (n:Int)+ (m:Int)).toNat=g / n+m
 rw[←Int.natCast_ediv,←Int.natCast_add,Int.toNat_natCast]
def Mz (g n m:Nat): ((g:Int)%no_index (@OfNat.ofNat Int n _)+no_index (@OfNat.ofNat Int m _)).toNat=g% @OfNat.ofNat Nat n _+ @OfNat.ofNat Nat m _:=by
 show((g:Int)% (n:Int)+ (m:Int)).toNat=g%n+m
 rw[←Int.natCast_emod,←Int.natCast_add,Int.toNat_natCast]
def W0 (a:Int) (c:UInt64) (h:c.toNat<63∧0≤a∧a*2^c.toNat≤9223372036854775807):aJ .shl (vi a) (v64 c)=some (vi (a*2^c.toNat)):=F0 a _ _ h
def Us (a:Int) (c:UInt64) (h:c.toNat<64∧0≤a):aJ .shr (vi a) (v64 c)=some (vi (a / 2^c.toNat)):=XH a _ _ h
def or_i (a b:Int) (h:0≤a∧0≤b∧a≤9223372036854775807∧b≤9223372036854775807):aJ .or (vi a) (vi b)=some (vi ((a.toNat|||b.toNat:Nat):Int)):=by
 obtain⟨h1,h2,h3,h4⟩:=h
 obtain⟨n,rfl⟩:=Int.eq_ofNat_of_zero_le h1
 obtain⟨m,rfl⟩:=Int.eq_ofNat_of_zero_le h2
 have hn:n<2^63:=by omega
 have hm:m<2^63:=by omega
 have aC:=Nat.or_lt_two_pow hn hm
 simp only[aJ,vi,dm,bitV, ↓reduceIte,Option.map_some,Int.toNat_natCast]
 have e: (BitVec.ofInt (IntKind.bits .i64) (n:Int) |||BitVec.ofInt (IntKind.bits .i64) (m:Int)).toNat=n|||m:=by
  show(BitVec.ofInt 64 (n:Int) |||BitVec.ofInt 64 (m:Int)).toNat=_
  rw[BitVec.toNat_or,BitVec.ofInt_natCast,BitVec.ofInt_natCast,BitVec.toNat_ofNat,BitVec.toNat_ofNat,Nat.mod_eq_of_lt oM,Nat.mod_eq_of_lt oM]
 rw[e,rr _ ⟨by omega,by omega⟩]
def Zy (a b:Int) (h:0≤a∧0≤b∧a≤9223372036854775807∧b≤9223372036854775807):aJ .and (vi a) (vi b)=some (vi ((a.toNat&&&b.toNat:Nat):Int)):=by
 obtain⟨h1,h2,h3,h4⟩:=h
 obtain⟨n,rfl⟩:=Int.eq_ofNat_of_zero_le h1
 obtain⟨m,rfl⟩:=Int.eq_ofNat_of_zero_le h2
 have aC:n&&&m≤n:=Nat.and_le_left
 simp only[aJ,vi,dm,bitV, ↓reduceIte,Option.map_some,Int.toNat_natCast]
 have e: (BitVec.ofInt (IntKind.bits .i64) (n:Int)&&&BitVec.ofInt (IntKind.bits .i64) (m:Int)).toNat=n&&&m:=by
  show(BitVec.ofInt 64 (n:Int)&&&BitVec.ofInt 64 (m:Int)).toNat=_
  rw[BitVec.toNat_and,BitVec.ofInt_natCast,BitVec.ofInt_natCast,BitVec.toNat_ofNat,BitVec.toNat_ofNat,Nat.mod_eq_of_lt oM,Nat.mod_eq_of_lt oM]
 rw[e,rr _ ⟨by omega,by omega⟩]
def R2 (P:Program) (op:BinOp) (t:TypeId) (x:UInt8) (y:UInt8):bF P op t (v8 x) (v8 y)=aJ op (v8 x) (v8 y):=(rfl)
def P3 (P:Program) (op:BinOp) (t:TypeId) (x:UInt8) (y:UInt64):bF P op t (v8 x) (v64 y)=aJ op (v8 x) (v64 y):=(rfl)
def QI (P:Program) (op:BinOp) (t:TypeId) (x:UInt8) (y:Int):bF P op t (v8 x) (vi y)=aJ op (v8 x) (vi y):=(rfl)
def NW (P:Program) (op:BinOp) (t:TypeId) (x:UInt32) (y:UInt32):bF P op t (v32 x) (v32 y)=aJ op (v32 x) (v32 y):=(rfl)
def ND (P:Program) (op:BinOp) (t:TypeId) (x:UInt32) (y:UInt64):bF P op t (v32 x) (v64 y)=aJ op (v32 x) (v64 y):=(rfl)
def PM (P:Program) (op:BinOp) (t:TypeId) (x:UInt32) (y:Int):bF P op t (v32 x) (vi y)=aJ op (v32 x) (vi y):=(rfl)
def Nh (P:Program) (op:BinOp) (t:TypeId) (x:UInt64) (y:UInt64):bF P op t (v64 x) (v64 y)=aJ op (v64 x) (v64 y):=(rfl)
def Pf (P:Program) (op:BinOp) (t:TypeId) (x:UInt64) (y:Int):bF P op t (v64 x) (vi y)=aJ op (v64 x) (vi y):=(rfl)
def OK (P:Program) (op:BinOp) (t:TypeId) (x:Int) (y:UInt64):bF P op t (vi x) (v64 y)=aJ op (vi x) (v64 y):=(rfl)
def Qv (P:Program) (op:BinOp) (t:TypeId) (x:Int) (y:Int):bF P op t (vi x) (vi y)=aJ op (vi x) (vi y):=(rfl)
def Z6 (x:UInt8):ixI (v8 x)=some (x.toNat:Int):=(rfl)
def ZG (x:UInt8):Value.oneCell' (v8 x)=true:=(rfl)
def VD (x:UInt8): (v8 x).cells= #[v8 x]:=(rfl)
def XV (x:UInt16):ixI (v16 x)=some (x.toNat:Int):=(rfl)
def X8 (x:UInt16):Value.oneCell' (v16 x)=true:=(rfl)
def Ug (x:UInt16): (v16 x).cells= #[v16 x]:=(rfl)
def W_ (x:UInt32):ixI (v32 x)=some (x.toNat:Int):=(rfl)
def YS (x:UInt32):Value.oneCell' (v32 x)=true:=(rfl)
def Tj (x:UInt32): (v32 x).cells= #[v32 x]:=(rfl)
def Wn (x:UInt64):ixI (v64 x)=some (x.toNat:Int):=(rfl)
def YU (x:UInt64):Value.oneCell' (v64 x)=true:=(rfl)
def Ty (x:UInt64): (v64 x).cells= #[v64 x]:=(rfl)
def Y7 (x:Int):ixI (vi x)=some x:=(rfl)
def Yq (x:Int):Value.oneCell' (vi x)=true:=(rfl)
def VM (x:Int): (vi x).cells= #[vi x]:=(rfl)
end Go.Sx
end
namespace Go.Sx
open Go
section
variable {P:Program} {w0:World} {f:Fr} {L:aB} {N:Fr→aB→Prop} {ops:Array Oper} {rest:List Oper} {md:Md}
 {d:Option Tmp} {ty:TypeId} {ps:String} {af:Array Edge} {g:Option (Nat×Bool)}
def Ow.callM {l:List Operand} {ts:Array TypeId} {k:FuncId} {b:Nat} {v:Value} {o:Obj} {md':Md} (he:md.turn=some md')
  (hs:bT ops f ⟨d, .call ⟨.value (.func k),l.toArray,ts⟩,ty,ps,af,g⟩=false)
  (hk: ∀a w,(callFunc k a).run P w= .ok (.enter k a) w) (hb:b∈keys L)
  (hc: ∀w,Hp w0 L w→Rets P k (l.map (ev f)).toArray w (fun v' D=> ∃o',D= [(b,o')]∧v'=v∧o'=o))
  (hn:Ow P w0 ops md' rest (al f d v) (setB L b o) N):
  Ow P w0 ops md (⟨d, .call ⟨.value (.func k),l.toArray,ts⟩,ty,ps,af,g⟩::rest) f L N:=
 Ow.callF (S:=fun _ v' D=> ∃o',D= [(b,o')]∧v'=v∧o'=o) he hs hk hc (by
  rintro _ _ _ - - ⟨_,rfl,rfl,rfl⟩
  exact⟨_,Mrg.set hb,hn⟩)
end
def w8 (P:Program) (t:TypeId) (len:Nat) (parts:List (Nat×Value)):Option (TypeId×Array Value):=
 match P.underlying t with
 |some (.slice e)=>match aR P e with
  |some m=>if len*m.2>2^24 then none else
   match(if len*m.2=0 then some #[] else(an P e).map Value.cells) with
   |some zero=>(Instr.fill (fun i=>some (i*m.2,m.2)) ((Array.range (len*m.2)).map (zero[· %zero.size]!)) parts).map fun c=>(e,c)
   |none=>none
  |none=>none
 |_=>none
def W1_ {P:Program} {t e:TypeId} {len:Nat} {parts:Array (Nat×Value)} {cells:Array Value} (h:w8 P t len parts.toList=some (e,cells)) (w:World):
  (Instr.buildSlice t len parts).run P w= .ok (vsl w.heap.size 0 len len) (w.alloc (.cells cells e)):=by
 unfold w8 at h
 split at h
 ·rename_i el hu
  split at h
  ·rename_i m hm
   split at h
   ·cases h
   rename_i dP
   split at h
   ·rename_i zero hz
    cases hf:Instr.fill (fun i=>some (i*m.2,m.2)) ((Array.range (len*m.2)).map (zero[· %zero.size]!)) parts.toList with
    |none=>rw[hf] at h;cases h
    |some c=>
     rw[hf] at h
     cases h
     simp only[Instr.buildSlice,Sem.run_bind,run_underlying hu w,Result.andThen_ok,iT hm w,dP,if_false]
     split at hz
     ·rename_i h0
      cases hz
      have e1: ∀ (k:Array Value→World→Result Value),(Sem.run P (pure (#[]:Array Value)) w).andThen k=k #[] w:=fun _=>rfl
      simp only[h0,if_true] at hf ⊢
      rw[Sem.run_bind,e1]
      simp only[hf,Sem.run_bind]
      rfl
     rename_i h0
     cases vW:an P e with
     |none=>rw[vW] at hz;cases hz
     |some z=>
      rw[vW] at hz
      cases hz
      simp only[h0,if_false,Sem.run_bind,vZ vW w,Result.andThen_ok,Sem.run_pure,hf]
      rfl
   cases h
  cases h
 cases h
section
variable {P:Program} {w0:World} {f:Fr} {L:aB} {N:Fr→aB→Prop} {ops:Array Oper} {rest:List Oper} {md:Md}
 {d:Option Tmp} {ty:TypeId} {ps:String} {af:Array Edge} {g:Option (Nat×Bool)}
theorem Ow.buildSlice {t e:TypeId} {len:Nat} {parts:Array (Nat×Operand)} (cells:Array Value) {md':Md} (he:md.turn=some md') (hs:bT ops f ⟨d, .buildSlice t len parts,ty,ps,af,g⟩=false)
  (hv:w8 P t len (parts.toList.map fun p=>(p.1,ev f p.2))=some (e,cells))
  (hn: ∀b,fU L b→w0.heap.size≤b→Ow P w0 ops md' rest (al f d (vsl b 0 len len)) (L++ [(b, .cells cells e)]) N):
  Ow P w0 ops md (⟨d, .buildSlice t len parts,ty,ps,af,g⟩::rest) f L N:=by
 refine Ow.step he rfl hs fun w hw=> .inl ⟨vsl w.heap.size 0 len len,w.alloc (.cells cells e),_, ?_,hw.alloc _,hn _ (io fun b hb=>hw.lt hb) hw.size⟩
 have h':w8 P t len (parts.map fun(i,x)=>(i,ev f x)).toList=some (e,cells):=by
  rw[Array.toList_map];exact hv
 simp only[execOp,Sem.run_bind,W1_ h' w,Result.andThen_ok]
 rfl
end
def OO {f:Nat→Option Bool} {g:Nat→Bool} (is:List Nat) (h: ∀i,i∈is→f i=some (g i)):Ap f is=some (is.all g):=by
 induction is with
 |nil=>rfl
 |cons i r ih=>
  unfold Ap
  rw[h i am,List.all_cons]
  cases g i
  ·rfl
  simpa using ih fun j hj=>h j (cN _ hj)
def Nr (l l':List UInt8) (n:Nat) (h:l.length=n) (h':l'.length=n): ((List.range n).all fun i=>l.getD i 0==l'.getD i 0)=(l==l'):=by
 rw[Bool.eq_iff_iff,List.all_eq_true,beq_iff_eq]
 constructor
 ·intro ha
  apply List.ext_getElem oM
  intro i h1 h2
  have:=ha i (List.mem_range.2 oM)
  rw[beq_iff_eq,List.getD_eq_getElem?_getD,List.getD_eq_getElem?_getD,List.getElem?_eq_getElem h1,List.getElem?_eq_getElem h2] at this
  exact this
 rintro rfl i _
 simp
def xM {P:Program} {t e:TypeId} {n d:Nat} (hu:P.underlying t=some (.array n e)) (he:P.underlying e=some (.int .u8)) (hm:aR P e=some (false,1)) (l l':List UInt8) (hl:l.length=n) (lw:l'.length=n):
  eqD P (d+2) t (.agg (a8 l)) (.agg (a8 l'))=some (l==l'):=by
 rw[←Nr l l' n hl lw]
 unfold eqD
 rw[hu]
 simp only[hm]
 apply OO
 intro i hi
 have hi:=List.mem_range.1 hi
 have p: ∀ (x:List UInt8),x.length=n→partV (false,1) (a8 x) (i*1)=some (v8 (x.getD i 0)):=by
  intro x hx
  simp[partV,a8,v8,hx,hi]
 simp only[sx,p l hl,p l' lw]
 unfold eqD
 rw[he]
 simp only[v8, ↓reduceIte,Option.some.injEq]
 rw[Bool.eq_iff_iff,beq_iff_eq,beq_iff_eq,←UInt8.toNat_inj]
 omega
def Xc {P:Program} {t e:TypeId} {n:Nat} (hu:P.underlying t=some (.array n e)) (he:P.underlying e=some (.int .u8)) (hm:aR P e=some (false,1)) (hg:P.eqGuardType P.depth t=false) (l l':List UInt8) (hl:l.length=n∧l'.length=n):
  bF P .eql t (.agg (a8 l)) (.agg (a8 l'))=some (.bool (l==l')):=by
 unfold bF eqX
 rw[hg]
 simp[eu,xM (d:=6) hu he hm l l' hl.1 hl.2]
def UG {P:Program} {t e:TypeId} {n:Nat} (hu:P.underlying t=some (.array n e)) (he:P.underlying e=some (.int .u8)) (hm:aR P e=some (false,1)) (hg:P.eqGuardType P.depth t=false) (l l':List UInt8) (hl:l.length=n∧l'.length=n):
  bF P .neq t (.agg (a8 l)) (.agg (a8 l'))=some (.bool (!(l==l'))):=by
 unfold bF eqX
 rw[hg]
 simp[eu,xM (d:=6) hu he hm l l' hl.1 hl.2]
def tup2_0 (a b:Value): (#[a,b]:Array Value)[0]? =some a:=(rfl)
def tup2_1 (a b:Value): (#[a,b]:Array Value)[1]? =some b:=(rfl)
def tup3_0 (a b c:Value): (#[a,b,c]:Array Value)[0]? =some a:=(rfl)
def tup3_1 (a b c:Value): (#[a,b,c]:Array Value)[1]? =some b:=(rfl)
def tup3_2 (a b c:Value): (#[a,b,c]:Array Value)[2]? =some c:=(rfl)
structure StrS (w:World) (v:Value) (l:List (List UInt8)) (b off:Nat) (arr:Array Value) (E:TypeId) (fz:Nat×Nat):Prop where
 len: ∀m,gY (.sl m) v=some (vi l.length)
 idx: ∀m (k:Nat),k<l.length→i_ (.sl m) v (some (k:Int))=some (vp b (off+k*m.2))
 has:0<l.length→w.heap[b]? =some (.cells arr E fz)
 get: ∀k,k<l.length→arr[off+k]? =some (vs (l.getD k []))
def StrS.sl {w:World} {l:List (List UInt8)} {b off n c:Nat} {arr:Array Value} {E:TypeId} {fz:Nat×Nat} (hn:n=l.length)
  (has:w.heap[b]? =some (.cells arr E fz)) (get: ∀k,k<l.length→arr[off+k]? =some (vs (l.getD k []))):StrS w (vsl b off n c) l b off arr E fz:=by
 subst hn
 exact⟨fun _=>rfl,fun m k h=>by rw[pS _ _ _ _ _ _ oM];simp,fun _=>has,get⟩
theorem StrS.none (w:World) (n c:Nat) (hn:n=0):StrS w (.slice none n c) [] 0 0 #[] 0 (0,0):=by
 subst hn
 exact⟨fun _=>rfl,fun _ _ h=>absurd h (Nat.not_lt_zero _),fun h=>absurd h (Nat.not_lt_zero _),fun _ h=>absurd h (Nat.not_lt_zero _)⟩
theorem StrS.old {w w':World} {v:Value} {l:List (List UInt8)} {b off:Nat} {arr:Array Value} {E:TypeId} {fz:Nat×Nat} {L:aB} (h:StrS w v l b off arr E fz) (hw:Hp w L w') (hb:0<l.length→b∉keys L):StrS w' v l b off arr E fz:=by
 refine⟨h.len,h.idx,fun h0=> ?_,h.get⟩
 rw[hw.old b (Array.getElem?_eq_some_iff.1 (h.has h0)).1 (hb h0)]
 exact h.has h0
def loadV_one (cs:Array Value) (E:TypeId) (fz:Nat×Nat) (n i:Nat):aG (some (false,n)) (some (.cells cs E fz)) i=cs[i]? :=(rfl)
end Go.Sx
namespace Go.Sx
open Go
def OwK (P:Program) (w0:World) (ops:Array Oper) (n:Nat) (listed:List Bool) (f:Fr) (L:aB) (N:Fr→aB→Prop):Prop:=
 ∀w,Hp w0 L w→wpAny P .any ops (fT w0 N) n listed.toArray (act f) w
section
variable {P:Program} {w0:World} {f:Fr} {L:aB} {N:Fr→aB→Prop} {K:d9} {l:List Oper} {n:Nat} {listed:List Bool}
def Cw.regionK {id:Nat} (m:Nat) (hl:l.length=m) (hm:P.follows .mixedOrders=true) (h:OwK P w0 l.toArray m (List.replicate m false) f L (K .normal)):Cw P w0 (.region id l.toArray true) f L K:=fun w hw=>by
 subst hl
 refine wp_mono (wp_region_any hm ?_) fun _ _ _ h=>yw h
 have:=h _ hw.drew
 simpa using this
def OwK.done {ops:Array Oper} (hr:Region.ready .any ops listed.toArray= []) (h:N f L):OwK P w0 ops n listed f L N:=
 fun w hw=>wpAny_done hr ⟨rfl,rfl,L,hw,by simpa [act] using h⟩ n
def AW {o:Oper} {a:Act} {next next':Act→World→Prop} {Q Q':Exit→Act→World→Prop} (hn: ∀a w,next a w→next' a w) (hQ: ∀e a w,e≠ .normal→Q e a w→False) {r:Result Next}
  (h:o.upon P a next Q r):o.upon P a next' Q' r:=by
 cases r with
 |ok x w'=>
  cases x<;>simp only[Oper.upon] at h ⊢ <;>
   first
    |exact hn _ _ h
    |exact Calls.mono h (fun e w'' he=>by
      cases e<;>first|exact hn _ _ he|exact(hQ _ _ _ (by simp) he).elim| (obtain⟨a,w,h⟩:=he;exact(hQ _ _ _ (by simp) h).elim))
    |exact Rows.mono h (fun _ _ he=>hn _ _ he)
    |exact h.elim
 |halt x w'=>
  cases x<;>simp only[Oper.upon] at h ⊢ <;>first|exact(hQ _ _ _ (by simp) h).elim|exact h.elim
def Ic {N:Fr→aB→Prop} {e:Exit} {a:Act} {w:World} (he:e≠ .normal) (h:fT w0 N e a w):False:=he h.1
def vv {ops:Array Oper} {k:Nat} {o:Oper} (hk:ops[k]? =some o) {X:Act→World→Prop}
  (h:Ow P w0 ops .seq [o] f L (fun f' L'=> ∀w,Hp w0 L' w→X (act f') w)) {w:World} (hw:Hp w0 L w):wpOp P ops (fT w0 N) k X (act f) w:=by
 have h1:=h w hw
 unfold wpList at h1
 unfold wpOp
 simp only[hk]
 have hX: ∀a w,wpList P ops (fT w0 fun f' L'=> ∀w,Hp w0 L' w→X (act f') w) [] a w→X a w:=by
  intro a w' hx
  obtain⟨-,hd,L',hp,hh⟩:=(show fT w0 _ _ a w' from hx)
  have:=hh w' hp
  obtain⟨t,d⟩:=a
  simp only at hd
  subst hd
  simpa [act] using this
 cases rk:Region.wanted o (yielded ops (act f).tmps) with
 |true=>
  rw[rk] at h1
  simp only[↓reduceIte] at h1 ⊢
  rcases h1 with h1| ⟨-,a,w',h1⟩
  ·exact .inl (AW hX (fun e a w he h=>Ic he h) h1)
  exact(Ic (by simp) h1).elim
 |false=>
  rw[rk] at h1
  simp only[Bool.false_eq_true, ↓reduceIte] at h1 ⊢
  exact hX _ _ h1
def KG {ops:Array Oper} {o:Oper} {N N':Fr→aB→Prop} (hN: ∀f L,N f L→N' f L) {w:World} {a:Act} (h:wpList P ops (fT w0 N) [o] a w):wpList P ops (fT w0 N') [o] a w:=by
 have hm: ∀a w,fT w0 N .normal a w→fT w0 N' .normal a w:=fun a w ⟨h1,h2,L',h3,h4⟩=>⟨h1,h2,L',h3,hN _ _ h4⟩
 unfold wpList at h ⊢
 cases rk:Region.wanted o (yielded ops a.tmps) with
 |true=>
  rw[rk] at h
  simp only[↓reduceIte] at h ⊢
  rcases h with h| ⟨-,a,w',h1⟩
  ·exact .inl (AW (fun a w h=>hm a w h) (fun e a w he h=>Ic he h) h)
  exact(Ic (by simp) h1).elim
 |false=>
  rw[rk] at h
  simp only[Bool.false_eq_true, ↓reduceIte] at h ⊢
  exact hm _ _ h
def qN (l:List Bool) (i:Nat):l.toArray.setIfInBounds i true=(l.set i true).toArray:=by simp
def OwK.one (k:Nat) (o:Oper) (hr:Region.ready .any l.toArray listed.toArray= [k]) (hk:dh l k=some o)
  (h:Ow P w0 l.toArray .seq [o] f L (fun f' L'=>OwK P w0 l.toArray n (listed.set k true) f' L' N)):OwK P w0 l.toArray (n+1) listed f L N:=by
 intro w hw
 refine wpAny_all hr (by simp) ?_
 intro i hi
 simp only[List.mem_singleton] at hi
 subst hi
 rw[qN]
 exact vv (by rw[pQ] at hk;simpa using hk) h hw
def OwK.two (i j:Nat) (oi oj:Oper) (hr:Region.ready .any l.toArray listed.toArray= [i,j]) (hi:dh l i=some oi) (hj:dh l j=some oj)
  (h1:Ow P w0 l.toArray .seq [oi] f L (fun f' L'=>OwK P w0 l.toArray n (listed.set i true) f' L' N))
  (h2:Ow P w0 l.toArray .seq [oj] f L (fun f' L'=>OwK P w0 l.toArray n (listed.set j true) f' L' N)):OwK P w0 l.toArray (n+1) listed f L N:=by
 intro w hw
 refine wpAny_all hr (by simp) ?_
 intro k hk
 rw[qN]
 simp only[List.mem_cons,List.not_mem_nil,or_false] at hk
 rcases hk with rfl|rfl
 ·exact vv (by rw[pQ] at hi;simpa using hi) h1 hw
 exact vv (by rw[pQ] at hj;simpa using hj) h2 hw
def chkK (P:Program) (l:List Oper):List Nat→List Bool→Option (List Bool)
 | [],listed=>some listed
 |k::is,listed=>
  match dh l k with
  |some o=>if(Region.ready .any l.toArray listed.toArray).contains k&&Region.free .any l.toArray listed.toArray k&&gW P o.op then chkK P l is (listed.set k true) else none
  |none=>none
theorem OwK.runs {k:Md→List Oper→Fr→aB→Prop} (dj:Region.noSelect l.toArray=true): ∀ (is:List Nat) {listed listed':List Bool} {f:Fr} {L:aB},chkK P l is listed=some listed'→
  (∀md r f' L',k md r f' L'→r= []∧OwK P w0 l.toArray n listed' f' L' N)→vcL P w0 l.toArray false .seq (iB l is) f L k→OwK P w0 l.toArray (is.length+n) listed f L N
 | [],listed,listed',f,L,hc,hk,h=>by
  cases hc
  rw[List.length_nil,Nat.zero_add]
  exact(hk _ _ _ _ h).2
 |i::is,listed,listed',f,L,hc,hk,h=>by
  unfold chkK at hc
  rw[ab] at h
  cases ho:dh l i with
  |none=>rw[ho] at hc;cases hc
  |some o=>
   rw[ho] at hc h
   simp only at hc
   split at hc
   ·rename_i nD
    simp only[Bool.and_eq_true] at nD
    obtain⟨⟨du,ef⟩,jV⟩:=nD
    rw[ac] at h
    have k8:l.toArray[i]? =some o:=by rw[pQ] at ho;simpa using ho
    unfold vcL at h
    rw[List.length_cons,show is.length+1+n=(is.length+n)+1 by omega]
    cases hs:bT l.toArray f o with
    |true=>
     rw[hs] at h
     have eP:Region.wanted o (yielded l.toArray (act f).tmps)=false:=by rw[mY,hs];rfl
     intro w hw
     refine wpAny_take (v:=undef) k8 dj ef du (fun c a w h=>nW h) (.inr ⟨eP,rfl⟩) ?_
     rw[gN,qN]
     exact OwK.runs dj is hc hk h w hw
    |false=>
     rw[hs] at h
     have eP:Region.wanted o (yielded l.toArray (act f).tmps)=true:=by rw[mY,hs];rfl
     simp only[ib,vcB] at h
     split at h
     ·have ce:rdOk .seq f o.op=true:=by
       cases o.op<;>rfl
      rw[ce] at h
      simp only at h
      cases hv:jo P w0 L f o.op with
      |none=>rw[hv] at h;exact absurd (hk _ _ _ _ h).1 (by simp)
      |some v=>
       rw[hv] at h
       intro w hw
       refine wpAny_take (v:=v) k8 dj ef du (fun c a w h=>nW h) (.inl ⟨eP,fun w=> ?_⟩) ?_
       ·rw[sm];exact qL (Hp.refl w) (AF jV hv w)
       rw[gN,qN]
       exact OwK.runs dj is hc hk h w hw
     ·exact absurd (hk _ _ _ _ h).1 (by simp)
     exact absurd (hk _ _ _ _ h).1 (by simp)
   cases hc
def OwK.run (is:List Nat) (listed':List Bool) (n:Nat) {m:Nat} (hm:m=is.length+n) (dj:Region.noSelect l.toArray=true) (hc:chkK P l is listed=some listed')
  (h: ∀k:Md→List Oper→Fr→aB→Prop,(∀md f L,OwK P w0 l.toArray n listed' f L N→k md [] f L)→nl (iB l is) fun l'=>vcL P w0 l.toArray false .seq l' f L k):OwK P w0 l.toArray m listed f L N:=by
 subst hm
 refine OwK.runs (k:=fun _ r f' L'=>r= []∧OwK P w0 l.toArray n listed' f' L' N) dj is hc (fun _ _ _ _ h=>h) ?_
 exact h _ fun _ _ _ h=>⟨rfl,h⟩
def Ow.soft {ops:Array Oper} {R is ts:List Nat} {k:Nat} {o:Oper} {rest:List Oper} (hp:gW P o.op=false) (vP:jQ o.op=false) (gn:ts.contains k=false)
  (h:Ow P w0 ops .seq [o] f L (fun f' L'=>(∀b,b∈R→aU w0 L' b=aU w0 L b)∧Ow P w0 ops (.sof R is ts) rest f' L' N)):Ow P w0 ops (.sof R (k::is) ts) (o::rest) f L N:=by
 intro listed hF ht w hw
 obtain⟨k',is',hki,hk,eB,fe,hc⟩:=hF.cons
 cases hki
 have cY:k∉ts:=by simpa using gn
 have hr:Region.ready .any ops listed= [k]:=by
  rcases hc with hc| ⟨_,_,_,hc| ⟨hc,_⟩⟩
  ·exact hc
  ·rw[hp] at hc;cases hc
  rw[vP] at hc;cases hc
 refine⟨fun _=>SR.of hw,(fun h=>by rw[hr] at h;cases h), ?_⟩
 intro i hi
 rw[hr,List.mem_singleton] at hi
 subst hi
 refine vv hk (X:=mU P ops (fT w0 N) ts (SR w0 R L) rest.length (listed.setIfInBounds i true)) ?_ hw
 intro w' aA
 have h1:=h w' aA
 refine KG ?_ h1
 rintro f' L' ⟨hS,hO⟩ w'' nT
 have e:SR w0 R L=SR w0 R L':=by
  funext v
  unfold SR
  apply propext
  constructor
  ·intro hh b hb o ho;exact hh b hb o (by rw[←hS b hb];exact ho)
  intro hh b hb o ho;exact hh b hb o (by rw[hS b hb];exact ho)
 rw[e]
 exact hO _ eB (ro cY ht) w'' nT
def Cw.regionS {id:Nat} (R is ts:List Nat) (hm:P.follows .mixedOrders=true) (hB:tN P l is ts=true) (hl:is.map (fun i:Nat=>l[i]?)=(iB l is).map some)
  (h:nl (iB l is) fun l'=>Ow P w0 l.toArray (.sof R is ts) l' f L (K .normal)):Cw P w0 (.region id l.toArray true) f L K:=by
 revert hl h
 generalize iB l is=l'
 intro hl h w hw
 simp only[tN,Bool.and_eq_true,beq_iff_eq,List.all_eq_true,decide_eq_true_eq] at hB
 obtain⟨⟨⟨h1,h2⟩,h3⟩,h4⟩:=hB
 have aP:is.length=l'.length:=by have:=congrArg List.length hl;simpa using this
 refine wp_mono (wp_region_any hm ?_) fun _ _ _ h=>yw h
 have hF:Fits P l.toArray ts is l' (Array.replicate l.length false):=⟨aP,fun j=>by
  have:=congrArg (·[j]?) hl
  simp only[List.getElem?_map] at this
  cases hj:is[j]? with
  |none=>
   rw[hj] at this
   simp only[Option.map_none] at this
   cases fY:l'[j]? with
   |none=>rfl
   |some x=>rw[fY] at this;cases this
  |some i=>
   rw[hj] at this
   simp only[Option.map_some] at this
   cases fY:l'[j]? with
   |none=>rw[fY] at this;cases this
   |some x=>
    rw[fY] at this
    simp only[Option.map_some,Option.some.injEq] at this
    simp[this],h1,h4⟩
 have:=(h:Ow P w0 l.toArray (.sof R is ts) l' f L (K .normal)) (Array.replicate l.length false) hF (fun t ht=>by have:=h3 t ht;simp[this]) _ hw.drew
 rw[←aP,h2] at this
 have:=II _ _ _ _ this
 simpa using this
def Fv (P:Program) (l:List Oper) (is ts:List Nat) (listed:List Bool):Bool:=
 Region.noSelect l.toArray&&uk P l.toArray ts is listed.toArray&&ts.any fun t=>listed.toArray.getD t true
def OwK.rest (is ts:List Nat) {m:Nat} (hm:m=is.length) (hB:Fv P l is ts listed=true) (hl:is.map (fun i:Nat=>l[i]?)=(iB l is).map some)
  (h:nl (iB l is) fun l'=>Ow P w0 l.toArray (.any is ts) l' f L N):OwK P w0 l.toArray m listed f L N:=by
 subst hm
 revert hl h
 generalize iB l is=l'
 intro hl h w hw
 simp only[Fv,Bool.and_eq_true] at hB
 obtain⟨⟨h1,h4⟩,h5⟩:=hB
 have aP:is.length=l'.length:=by have:=congrArg List.length hl;simpa using this
 have hF:Fits P l.toArray ts is l' listed.toArray:=⟨aP,fun j=>by
  have:=congrArg (·[j]?) hl
  simp only[List.getElem?_map] at this
  cases hj:is[j]? with
  |none=>
   rw[hj] at this
   simp only[Option.map_none] at this
   cases fY:l'[j]? with
   |none=>rfl
   |some x=>rw[fY] at this;cases this
  |some i=>
   rw[hj] at this
   simp only[Option.map_some] at this
   cases fY:l'[j]? with
   |none=>rw[fY] at this;cases this
   |some x=>
    rw[fY] at this
    simp only[Option.map_some,Option.some.injEq] at this
    simp[this],h1,h4⟩
 obtain⟨t,ht,pC⟩:=List.any_eq_true.1 h5
 rw[aP]
 exact(h:Ow P w0 l.toArray (.any is ts) l' f L N) listed.toArray hF ⟨t,ht,pC⟩ w hw
end
def StrS.lit {w:World} {b n c:Nat} {E:TypeId} {fz:Nat×Nat} {arr:Array Value} (l:List (List UInt8)) (hn:n=l.length) (ha:arr=(l.map vs).toArray) (has:w.heap[b]? =some (.cells arr E fz)):StrS w (vsl b 0 n c) l b 0 arr E fz:=
 StrS.sl hn has (by intro k hk;rw[ha,Nat.zero_add,List.getElem?_toArray,List.getElem?_map,List.getD_eq_getElem?_getD,List.getElem?_eq_getElem hk];rfl)
end Go.Sx
namespace Go.Sx
open Go
def GW (J:Nat→Act→World→Prop) (Q:Exit→Act→World→Prop):Exit→Act→World→Prop
 | .goto l,a,w=>J l a w
 |e,a,w=>Q e a w
def OB {P:Program} {a:Act} {w:World} {Q:Exit→Act→World→Prop} {c:Code} (J:Nat→Nat→Act→World→Prop)
  (first:c.wp P (GW (fun l a w=> ∃n,J n l a w) Q) a w)
  (pass: ∀n l a w,J n l a w→ ∃rest,findLabel c l=some rest∧rest.wp P (GW (fun l' a' w'=> ∃n',n'<n∧J n' l' a' w') Q) a w): (Code.scope c).wp P Q a w:=by
 intro b k cs
 have hg: ∀ {l rest},findLabel c l=some rest→gotoIn l (.inScope c::k)=some (.code rest:: .inScope c::k):=by intro l rest hf;simp[gotoIn,hf]
 have key: ∀n l a w,J n l a w→ ∃rest,findLabel c l=some rest∧ ∃e a' w',Q e a' w'∧Arrives P (lone (b.at a (.code rest:: .inScope c::k)) cs w) b k cs e a' w':=by
  intro n
  induction n using Nat.strongRecOn with
  |_ n ih=>
   intro l a w hJ
   obtain⟨rest,hf,hp⟩:=pass n l a w hJ
   refine⟨rest,hf, ?_⟩
   obtain⟨e,a₁,w₁,hq,gS⟩:=hp b (.inScope c::k) cs
   cases e with
   |normal=>exact⟨.normal,a₁,w₁,hq,Steps.trans gS (.one step_inScope)⟩
   |exit id=>exact⟨.exit id,a₁,w₁,hq,fun k' hk=>gS k' (by simp[exitTo,hk])⟩
   |goto l'=>
    obtain⟨n',aC,n3⟩:=hq
    obtain⟨rest',nF,e₂,a₂,w₂,hq₂,harr₂⟩:=ih n' aC l' a₁ w₁ n3
    exact⟨e₂,a₂,w₂,hq₂, .of_steps (gS _ (hg nF)) harr₂⟩
   |ret=>exact⟨_,a₁,w₁,hq,gS⟩
   |panic ch=>exact⟨_,a₁,w₁,hq,gS⟩
   |outgrown=>exact⟨_,a₁,w₁,hq,gS⟩
 obtain⟨e,a₁,w₁,hq,gS⟩:=first b (.inScope c::k) cs
 cases e with
 |normal=>exact⟨.normal,a₁,w₁,hq, .head step_scope (Steps.trans gS (.one step_inScope))⟩
 |exit id=>exact⟨.exit id,a₁,w₁,hq,fun k' hk=> .head step_scope (gS k' (by simp[exitTo,hk]))⟩
 |goto l'=>
  obtain⟨n,n3⟩:=hq
  obtain⟨rest',nF,e₂,a₂,w₂,hq₂,harr₂⟩:=key n l' a₁ w₁ n3
  exact⟨e₂,a₂,w₂,hq₂, .of_steps (.head step_scope (gS _ (hg nF))) harr₂⟩
 |ret=>exact⟨_,a₁,w₁,hq, .of_steps (.one step_scope) gS⟩
 |panic ch=>exact⟨_,a₁,w₁,hq, .of_steps (.one step_scope) gS⟩
 |outgrown=>exact⟨_,a₁,w₁,hq, .of_steps (.one step_scope) gS⟩
def pp (A:Nat→Fr→aB→Prop) (K:d9):d9
 | .normal=>K .normal
 | .exit i=>K (.exit i)
 | .goto i=>A i
 | .ret=>K .ret
 | .panic c=>K (.panic c)
 | .outgrown=>K .outgrown
def Jump {G:Type} (lab:G→Nat) (M:List Nat) (S:G→List (Nat×Value)) (H:G→aB) (J B:G→Prop) (f:Fr) (i:Nat) (f':Fr) (L':aB):Prop:=
 ∃g',lab g'=i∧B g'∧J g'∧L'=H g'∧f'=pin (mQ (ec f') M 0 f) (S g')
def Jump.mk {G:Type} {lab:G→Nat} {M:List Nat} {S:G→List (Nat×Value)} {H:G→aB} {J B:G→Prop} {f:Fr} {i:Nat} {f':Fr} {L':aB} (g':G) (hl:lab g'=i)
  (hB:B g') (hJ:J g') (hL:L'=H g') (hf:f'=pin (mQ (ec f') M 0 f) (S g')):Jump lab M S H J B f i f' L':=⟨g',hl,hB,hJ,hL,hf⟩
section
variable {P:Program} {w0:World} {f:Fr} {L:aB} {K:d9} {A:Nat→Fr→aB→Prop}
def Cw.scopeG {c:Code} {G:Type} (lab:G→Nat) (M:List Nat) (S:G→List (Nat×Value)) (H:G→aB) (J:G→Prop) (μ:G→Nat)
  (first:Cw P w0 c f L (pp (Jump lab M S H J (fun _=>True) f) K))
  (pass: ∀ (g:G) (j:Nat→Value),J g→ ∃rest,findLabel c (lab g)=some rest∧Cw P w0 rest (pin (mQ j M 0 f) (S g)) (H g) (pp (Jump lab M S H J (fun g'=>μ g'<μ g) f) K)):Cw P w0 (.scope c) f L K:=by
 intro w hw
 refine OB (fun n l a w=> ∃g j,lab g=l∧μ g=n∧J g∧a=act (pin (mQ j M 0 f) (S g))∧Hp w0 (H g) w) ?_ ?_
 ·refine wp_mono (first w hw) ?_
  rintro e a w' ⟨hd,L',hp,k⟩
  cases e with
  |goto i=>
   obtain⟨g',h1,-,h2,h3,h4⟩:=k
   subst h3
   refine⟨μ g',g',ec a.tmps.toList,h1,rfl,h2, ?_,hp⟩
   rw[←h4]
   exact v_ hd
  |_=>exact⟨hd,L',hp,k⟩
 rintro n l a w' ⟨g,j,h1,h2,h3,rfl,hp⟩
 obtain⟨rest,hf,hc⟩:=pass g j h3
 subst h1
 refine⟨rest,hf, ?_⟩
 refine wp_mono (hc w' hp) ?_
 rintro e a w' ⟨hd,L',hp,k⟩
 cases e with
 |goto i=>
  obtain⟨g',h1,h0,h2',h3,h4⟩:=k
  subst h3
  refine⟨μ g',by omega,g',ec a.tmps.toList,h1,rfl,h2', ?_,hp⟩
  rw[←h4]
  exact v_ hd
 |_=>exact⟨hd,L',hp,k⟩
def hasL:Code→Nat→Bool
 | .seq a b,l=>hasL a l||hasL b l
 | .label l',l=>l'==l
 |_,_=>false
def m9 (P:Program) (w0:World):Code→Nat→d9→Fr→aB→Prop
 | .seq a b,l,K=>if hasL a l=true then m9 P w0 a l (lR (fun f L=>Cw P w0 b f L K) K) else m9 P w0 b l K
 | .label _,_,K=>K .normal
 |_,_,_=>fun _ _=>False
theorem LM: ∀ (c:Code) (l:Nat),hasL c l=false→findLabel c l=none
 | .seq a b,l,h=>by
  simp only[hasL,Bool.or_eq_false_iff] at h
  simp only[findLabel,LM a l h.1,LM b l h.2]
 | .label l',l,h=>by
  simp only[hasL] at h
  simp[findLabel,h]
 | .skip,_,_=>rfl| .region ..,_,_=>rfl| .cond ..,_,_=>rfl| .block ..,_,_=>rfl| .loop _,_,_=>rfl| .rangeFunc ..,_,_=>rfl
 | .exit _,_,_=>rfl| .scope _,_,_=>rfl| .goto _,_,_=>rfl| .ret,_,_=>rfl| .refuse _,_,_=>rfl
theorem Lx: ∀ (c:Code) (l:Nat) (K:d9),hasL c l=true→m9 P w0 c l K f L→ ∃rest,findLabel c l=some rest∧Cw P w0 rest f L K
 | .seq a b,l,K,hh,h=>by
  unfold m9 at h
  split at h
  ·rename_i ha
   obtain⟨rest,h1,h2⟩:=Lx a l _ ha h
   exact⟨.seq rest b,by simp[findLabel,h1],Cw.seq h2⟩
  rename_i ha
  have r6:hasL a l=false:=by simpa using ha
  have hb:hasL b l=true:=by simpa [hasL,r6] using hh
  obtain⟨rest,h1,h2⟩:=Lx b l K hb h
  exact⟨rest,by simp[findLabel,LM a l r6,h1],h2⟩
 | .label l',l,K,hh,h=>by
  simp only[hasL] at hh
  exact⟨.skip,by simp[findLabel,hh],Cw.skip h⟩
 | .skip,_,_,h,_=>by cases h
 | .region ..,_,_,h,_=>by cases h
 | .cond ..,_,_,h,_=>by cases h
 | .block ..,_,_,h,_=>by cases h
 | .loop _,_,_,h,_=>by cases h
 | .rangeFunc ..,_,_,h,_=>by cases h
 | .exit _,_,_,h,_=>by cases h
 | .scope _,_,_,h,_=>by cases h
 | .goto _,_,_,h,_=>by cases h
 | .ret,_,_,h,_=>by cases h
 | .refuse _,_,_,h,_=>by cases h
theorem Ku: ∀ (c:Code) (l:Nat) (K K':d9),(∀e f L,K e f L→K' e f L)→ ∀f L,m9 P w0 c l K f L→m9 P w0 c l K' f L
 | .seq a b,l,K,K',hK,f,L,h=>by
  unfold m9 at h ⊢
  split at h
  ·rename_i ha
   rw[if_pos ha]
   refine Ku a l _ _ ?_ f L h
   intro e f L hh
   cases e with
   |normal=>exact Cw.mono hh hK
   |_=>exact hK _ _ _ hh
  rename_i ha
  rw[if_neg ha]
  exact Ku b l K K' hK f L h
 | .label l',l,K,K',hK,f,L,h=>hK _ _ _ h
 | .skip,_,_,_,_,_,_,h=>h.elim
 | .region ..,_,_,_,_,_,_,h=>h.elim
 | .cond ..,_,_,_,_,_,_,h=>h.elim
 | .block ..,_,_,_,_,_,_,h=>h.elim
 | .loop _,_,_,_,_,_,_,h=>h.elim
 | .rangeFunc ..,_,_,_,_,_,_,h=>h.elim
 | .exit _,_,_,_,_,_,_,h=>h.elim
 | .scope _,_,_,_,_,_,_,h=>h.elim
 | .goto _,_,_,_,_,_,_,h=>h.elim
 | .ret,_,_,_,_,_,_,h=>h.elim
 | .refuse _,_,_,_,_,_,_,h=>h.elim
def Cw.scopeL {c:Code} {G:Type} (lab:G→Nat) (M:List Nat) (S:G→List (Nat×Value)) (H:G→aB) (J:G→Prop) (μ:G→Nat) (hl: ∀g,hasL c (lab g)=true)
  (pass: ∀ (g:G) (j:Nat→Value),J g→m9 P w0 c (lab g) (pp (Jump lab M S H J (fun g'=>μ g'<μ g) f) K) (pin (mQ j M 0 f) (S g)) (H g))
  (first: (∀ (g:G) (f':Fr),J g→f'=pin (mQ (ec f') M 0 f) (S g)→m9 P w0 c (lab g) (pp (Jump lab M S H J (fun _=>True) f) K) f' (H g))→
   Cw P w0 c f L (pp (Jump lab M S H J (fun _=>True) f) K)):Cw P w0 (.scope c) f L K:=by
 refine Cw.scopeG lab M S H J μ (first fun g f' hg hf=> ?_) fun g j hg=>Lx c _ _ (hl g) (pass g j hg)
 have:=pass g (ec f') hg
 rw[←hf] at this
 refine Ku c _ _ _ ?_ _ _ this
 intro e f L hh
 cases e with
 |goto i=>obtain⟨g',h1,-,h3⟩:=hh;exact⟨g',h1,trivial,h3⟩
 |_=>exact hh
def Cw.scopeS {c:Code} (h:Cw P w0 c f L (pp (fun _ _ _=>False) K)):Cw P w0 (.scope c) f L K:=by
 intro w hw
 refine wp_scope_straight (wp_mono (h w hw) ?_)
 rintro e a w' ⟨hd,L',hp,k⟩
 cases e with
 |goto i=>exact k.elim
 |_=>exact⟨hd,L',hp,k⟩
end
end Go.Sx
section
namespace Go.Sx
open Go
def az {L M:aB} {b:Nat} {o:Obj} (h:look L b=some o):look (L++M) b=some o:=by
 induction L with
 |nil=>cases h
 |cons p r ih=>
  obtain⟨c,x⟩:=p
  simp only[List.cons_append,look] at h ⊢
  split
  ·rename_i e;rw[if_pos e] at h;exact h
  rename_i e;rw[if_neg e] at h;exact ih h
def gO {L M:aB} {b:Nat} (h:b∉keys L):look (L++M) b=look M b:=by
 induction L with
 |nil=>rfl
 |cons p r ih=>
  obtain⟨c,x⟩:=p
  simp only[keys,List.map_cons,List.mem_cons,not_or] at h
  simp only[List.cons_append,look]
  rw[if_neg (fun e=>h.1 e.symm)]
  exact ih h.2
def dp {L:aB} {b:Nat} {x o:Obj} (h:look L b=some o):look (setB L b x) b=some x:=by
 induction L with
 |nil=>cases h
 |cons p r ih=>
  obtain⟨c,y⟩:=p
  simp only[look] at h
  simp only[setB]
  split
  ·simp[look, *]
  rename_i e
  rw[if_neg e] at h
  simp only[look]
  rw[if_neg e]
  exact ih h
def bR {L:aB} {b c:Nat} {x:Obj} (h:b≠c):look (setB L b x) c=look L c:=by
 induction L with
 |nil=>rfl
 |cons p r ih=>
  obtain⟨d,y⟩:=p
  simp only[setB]
  split
  ·rename_i e
   subst e
   simp[look,h]
  simp only[look]
  split
  ·rfl
  exact ih
def bY {L:aB} {b:Nat} {o:Obj} (h:look L b=some o):b∈keys L:=List.mem_map.2 ⟨_,cQ h,rfl⟩
def J1 {L:aB} {b:Nat} (h:b∈keys L): ∃o,look L b=some o:=by
 cases hl:look L b with
 |some o=>exact⟨o,rfl⟩
 |none=>exact absurd h (J6 hl)
def aQ {w0:World} {L:aB} {b:Nat} {o:Obj} (h:look L b=some o):aU w0 L b=some o:=by
 unfold aU;rw[h]
def ao (L M:aB):keys (L++M)=keys L++keys M:=List.map_append
def ak {L:aB} {n b:Nat} (h:fU L n) (hb:b∈keys L):b<n:=by
 induction L with
 |nil=>cases hb
 |cons p r ih=>
  obtain⟨c,y⟩:=p
  simp only[keys,List.map_cons,List.mem_cons] at hb
  rcases hb with rfl|hb
  ·exact h.1
  exact ih h.2 hb
def Eq (vs:List Value): ∀ (A B:List Value),vs.length≤B.length→eb (A++B).toArray A.length vs=(A++vs++B.drop vs.length).toArray:=by
 induction vs with
 |nil=>intro A B _;simp[eb]
 |cons v r ih=>
  intro A B h
  cases B with
  |nil=>simp at h
  |cons x B=>
   have e: (A++x::B).toArray.setIfInBounds A.length v=((A++ [v])++B).toArray:=by
    rw[List.setIfInBounds_toArray]
    simp
   have h':=ih (A++ [v]) B (by simpa using h)
   simp only[List.length_append,List.length_cons,List.length_nil,Nat.zero_add] at h'
   rw[eb,e,h']
   simp
theorem CK (N:Nat): ∀r c,c≤2*N+768→Builtin.growBy N r c≤2*N+768
 |0,c,h=>h
 |r+1,c,h=>by
  unfold Builtin.growBy
  split
  ·exact h
  exact CK N r _ oM
def ZT_ {N c:Nat} (h:c<N):Builtin.nextslicecap N c≤2*N+768:=by
 unfold Builtin.nextslicecap
 split
 ·omega
 split
 ·omega
 exact CK N 4 c oM
structure AppX (P:Program) (w:World) (size:Nat) (x:Value) (k:Nat) (new:List Value):Prop where
 len: (Builtin.lenOf x).run P w= .ok k w
 cells: (Builtin.firstCells size k x).run P w= .ok new.toArray w
 one:new.all Value.oneCell'=true
 size:new.length=k*size
def AppX.text (P:Program) (w:World) (l:List UInt8):AppX P w 1 (vs l) l.length (l.map v8):=by
 refine⟨?_, ?_, ?_,by simp⟩
 ·simp only[vs,Builtin.lenOf,uu];rfl
 ·simp only[vs,Builtin.firstCells]
  show Result.ok _ w=_
  congr 1
  have: ((ByteArray.mk l.toArray).extract 0 l.length).data=l.toArray:=by
   rw[ByteArray.data_extract]
   simp
  rw[this]
  simp[v8]
 rw[List.all_map,List.all_eq_true];intro x _;rfl
def se (P:Program) (e:TypeId):Bool:=match P.info? e with
 |some i=>i.bytes !=0&&decide (i.bytes≤1024)
 |none=>false
def Kz {P:Program} {e:TypeId} {j:Nat} (h:se P e=true) (hj:j≤2^38): ∃i,P.info? e=some i∧i.bytes≠0∧j*i.bytes≤2^48:=by
 unfold se at h
 cases hi:P.info? e with
 |none=>rw[hi] at h;cases h
 |some i=>
  rw[hi] at h
  simp only[Bool.and_eq_true,bne_iff_ne,ne_eq,decide_eq_true_eq] at h
  refine⟨i,rfl,h.1, ?_⟩
  calc j*i.bytes≤2^38*1024:=Nat.mul_le_mul hj h.2
   _=2^48:=by decide
def lz (L:aB) (k:aB→Prop):nh L k=k L:=(rfl)
inductive Buf (L:aB) (E:TypeId) (size:Nat):Value→Nat→List Value→Prop
 |nl:Buf L E size (.slice none 0 0) 0 []
 |at_ {b n c:Nat} {cs rest:List Value} (hl:look L b=some (.cells (cs++rest).toArray E (0,0))) (h1:cs.length=n*size) (h2:rest.length=(c - n)*size) (h3:n≤c) (h4:0<c):
  Buf L E size (vsl b 0 n c) n cs
def slB:Value→Option Nat
 | .slice (some a) _ _=>some a.block
 |_=>none
def Buf.keep {L L':aB} {E:TypeId} {size n:Nat} {v:Value} {cs:List Value} (h:Buf L E size v n cs) (hk: ∀b o,slB v=some b→look L b=some o→look L' b=some o):Buf L' E size v n cs:=by
 cases h with
 |nl=>exact .nl
 |at_ hl h1 h2 h3 h4=>exact .at_ (hk _ _ rfl hl) h1 h2 h3 h4
def Buf.setO {L:aB} {E:TypeId} {size n b:Nat} {v:Value} {cs:List Value} {x:Obj} (h:Buf L E size v n cs) (hb:slB v≠some b):Buf (setB L b x) E size v n cs:=
 h.keep fun c o hc ho=>by rw[bR (fun e:b=c=>hb (by rw[e];exact hc))];exact ho
def Buf.app {L M:aB} {E:TypeId} {size n:Nat} {v:Value} {cs:List Value} (h:Buf L E size v n cs):Buf (L++M) E size v n cs:=h.keep fun _ _ _ ho=>az ho
def Buf.cell {L:aB} {E:TypeId} {size n:Nat} {v:Value} {cs:List Value} (h:Buf L E size v n cs):Value.oneCell' v=true∧v.cells= #[v]:=by
 cases h<;>exact⟨rfl,rfl⟩
def Buf.len {L:aB} {E:TypeId} {size n:Nat} {v:Value} {cs:List Value} (h:Buf L E size v n cs) (x:Bool×Nat):gY (.sl x) v=some (vi n):=by
 cases h<;>rfl
def Buf.inv {L:aB} {E:TypeId} {size n:Nat} {v:Value} {cs:List Value} (h:Buf L E size v n cs): (v= .slice none 0 0∧n=0∧cs= [])∨
  ∃b c rest,v=vsl b 0 n c∧look L b=some (.cells (cs++rest).toArray E (0,0))∧cs.length=n*size∧n≤c∧0<c∧rest.length=(c - n)*size:=by
 cases h with
 |nl=>exact .inl ⟨rfl,rfl,rfl⟩
 |at_ hl h1 h2 h3 h4=>exact .inr ⟨_,_,_,rfl,hl,h1,h3,h4,h2⟩
def rz {L:aB} {b:Nat} {o:Obj} (h:fU L b):look (L++ [(b,o)]) b=some o:=by
 rw[gO (fun hm=>Nat.lt_irrefl _ (ak h hm))];simp[look]
structure Grew (w0:World) (v:Value) (L L':aB):Prop where
 keys: ∀c,c∈keys L→c∈keys L'
 new: ∀c,c∈Sx.keys L'→c∈Sx.keys L∨(fU L c∧w0.heap.size≤c)
 look: ∀c o,slB v≠some c→Sx.look L c=some o→Sx.look L' c=some o
def Grew.refl (w0:World) (v:Value) (L:aB):Grew w0 v L L:=⟨fun _ h=>h,fun _ h=> .inl h,fun _ _ _ h=>h⟩
section
variable {P:Program} {w0:World} {L:aB}
def Kk {w:World} {ts tx ty e:TypeId} {m:Bool×Nat} {z s x:Value} {n k:Nat} {cs new:List Value} (hw:Hp w0 L w)
  (hu:P.underlying ts=some (.slice e)) (hm:aR P e=some m) (hi:se P e=true) (hz:an P e=some z) (mP:z.cells.size=m.2) {d:TypeDesc} (kD:P.underlying tx=some d) (cF: ∀k,d≠ .int k)
  (hB:Buf L e m.2 s n cs) (zi: ∀w,Hp w0 L w→AppX P w m.2 x k new) (dP:2* (n+k)+768≤2^38):
  ∃v' w' L',(Builtin.append_ #[ts,tx] ty #[s,x]).run P w= .ok v' w'∧Hp w0 L' w'∧Buf L' e m.2 v' (n+k) (cs++new)∧Grew w0 s L L'∧(slB v'=slB s∨ ∃c,slB v'=some c∧fU L c):=by
 obtain⟨i,hi,jy,dP⟩:=Kz hi dP
 have K2: ∀w,(typeInfo e).run P w= .ok i w:=by
  intro w
  simp only[typeInfo,program,Sem.run_bind]
  show Result.andThen (Result.ok P w) _=_
  simp only[Result.andThen_ok,hi]
  rfl
 have rQ: (match d with| .int _=>true|_=>false)=false:=by
  cases d<;>first|rfl|exact absurd rfl (cF _)
 have e1: ∀ {α β:Type} (a:α) (f:α→World→Result β),(Sem.run P (pure a) w).andThen f=f a w:=fun _ _=>rfl
 have hX:=zi w hw
 have gV:=hX.len
 have K8:=hX.cells
 have vW:=vZ (P:=P) hz
 have room: ∀ (b:Nat) (w:World),(askRoom b).run P w= .ok () w:=by
  intro b w
  unfold askRoom
  split<;>rfl
 have zc: ∀j,(Builtin.zeroCells z.cells j).toList.length=j*m.2:=by
  intro j;simp[Builtin.zeroCells,mP]
 have Jf: ∀c,c<n+k→ ¬ (Builtin.nextslicecap (n+k) c*i.bytes>2^48):=by
  intro c hc
  have:=ZT_ hc
  have h2:=Nat.mul_le_mul_right i.bytes this
  omega
 cases hB with
 |nl=>
  by_cases hk:k=0
  ·subst hk
   have km:new= []:=List.eq_nil_of_length_eq_zero (by have:=hX.size;omega)
   subst km
   refine⟨.slice none 0 0,w,L, ?_,hw, .nl,Grew.refl _ _ _, .inl rfl⟩
   simp only[Builtin.append_,List.getElem?_toArray,List.getElem?_cons_zero,List.getElem?_cons_succ,Sem.run_bind,run_underlying hu w,Result.andThen_ok,iT hm w,run_underlying kD w,rQ,e1,Bool.false_eq_true, ↓reduceIte,gV,Bool.not_false,Nat.add_zero,bq,K8]
   rfl
  have yj: ¬0+k≤0:=by omega
  have r9:=Jf 0 oM
  simp only[Builtin.append_,List.getElem?_toArray,List.getElem?_cons_zero,List.getElem?_cons_succ,Sem.run_bind,run_underlying hu w,Result.andThen_ok,iT hm w,run_underlying kD w,rQ,e1,Bool.false_eq_true, ↓reduceIte,gV,Bool.not_false,yj,K2,jy,or_false,and_false,r9]
  have HB: (choose (Question.appendCap (0+k) 0 e)).run P w= .ok ((0+k)+w.tape w.drawn (.appendCap (0+k) 0 e)% (2^63 - (0+k))) w.drew:=rfl
  rw[HB]
  generalize nD: (0+k)+w.tape w.drawn (.appendCap (0+k) 0 e)% (2^63 - (0+k))=c
  have aI:=hw.drew
  have sJ:=zi _ aI
  have ku: (Builtin.firstCells m.2 0 (Value.slice none 0 0)).run P w.drew= .ok #[] w.drew:=rfl
  simp only[Result.andThen_ok,room,ku,sJ.cells,vW]
  refine⟨_,_,L++ [(w.drew.heap.size, .cells ([]++new++ (Builtin.zeroCells z.cells (c - (0+k))).toList).toArray e (0,0))],rfl, ?_, .at_ (b:=w.drew.heap.size) (rest:=(Builtin.zeroCells z.cells (c - (0+k))).toList) ?_ ?_ ?_ oM oM, ?_, .inr ⟨_,rfl,io fun b hb=>aI.lt hb⟩⟩
  ·have ea: ([]++new++ (Builtin.zeroCells z.cells (c - (0+k))).toList).toArray= #[]++new.toArray++Builtin.zeroCells z.cells (c - (0+k)):=by apply Array.ext';simp
   rw[ea]
   exact aI.alloc _
  ·rw[gO (fun hm=>Nat.lt_irrefl _ (aI.lt hm))]
   simp[look]
  ·rw[List.nil_append,hX.size,Nat.zero_add]
  ·exact zc _
  refine⟨fun c hc=>by rw[ao];exact cz _ hc,fun c hc=> ?_,fun c o aX ho=>az ho⟩
  rw[ao] at hc
  rcases List.mem_append.1 hc with hc|hc
  ·exact .inl hc
  right
  simp only[keys,List.map_cons,List.map_nil,List.mem_singleton] at hc
  subst hc
  exact⟨io fun b hb=>aI.lt hb,aI.size⟩
 | @at_ b n c cs rest hl h1 h2 h3 h4=>
  have hhb:=hw.has _ _ (cQ hl)
  by_cases rK:n+k≤c
  ·have aC:=(Array.getElem?_eq_some_iff.1 hhb).1
   have g_:=hX.size
   have bK:=KB (P:=P) (b:=b) (off:=n*m.2) (E:=e) (fz:=(0,0)) new 0 (cs++rest).toArray w hhb (by
    simp only[List.size_toArray,List.length_append,h1,h2,g_,Nat.add_zero]
    rw[←Nat.add_mul,←Nat.add_mul]
    exact Nat.mul_le_mul_right _ oM) (.inl (bq 0)) hX.one
   simp only[Builtin.append_,List.getElem?_toArray,List.getElem?_cons_zero,List.getElem?_cons_succ,Sem.run_bind,run_underlying hu w,Result.andThen_ok,iT hm w,run_underlying kD w,rQ,e1,Bool.false_eq_true, ↓reduceIte,gV,Bool.not_false,rK,K8,o0,Nat.zero_add,bK,vsl]
   rw[Nat.add_zero,←h1,Eq new cs rest (by rw[h2,g_];exact Nat.mul_le_mul_right _ oM)]
   refine⟨vsl b 0 (n+k) c,_,setB L b (.cells (cs++new++rest.drop new.length).toArray e (0,0)),rfl,hw.set (bY hl) rfl rfl rfl rfl, .at_ (dp hl) ?_ ?_ rK h4, ?_, .inl rfl⟩
   ·rw[List.length_append,h1,g_,Nat.add_mul]
   ·rw[List.length_drop,h2,g_,←Nat.sub_mul]
    congr 1
    omega
   refine⟨fun c hc=>by rw[l5];exact hc,fun c hc=>by rw[l5] at hc;exact .inl hc,fun c o aX ho=> ?_⟩
   rw[bR (fun e=>aX (by rw[←e];rfl))]
   exact ho
  have r9:=Jf c oM
  simp only[Builtin.append_,List.getElem?_toArray,List.getElem?_cons_zero,List.getElem?_cons_succ,Sem.run_bind,run_underlying hu w,Result.andThen_ok,iT hm w,run_underlying kD w,rQ,e1,Bool.false_eq_true, ↓reduceIte,gV,Bool.not_false,rK,K2,jy,or_false,and_false,r9,vsl]
  have HB: (choose (Question.appendCap (n+k) c e)).run P w= .ok ((n+k)+w.tape w.drawn (.appendCap (n+k) c e)% (2^63 - (n+k))) w.drew:=rfl
  rw[HB]
  generalize nD: (n+k)+w.tape w.drawn (.appendCap (n+k) c e)% (2^63 - (n+k))=c2
  have aI:=hw.drew
  have sJ:=zi _ aI
  have ku: (Builtin.firstCells m.2 n (Value.slice (some ⟨b,0,none⟩) n c)).run P w.drew= .ok cs.toArray w.drew:=by
   simp only[Builtin.firstCells]
   rw[KU (aI.has _ _ (cQ hl)) 0 (n*m.2) (by simp only[List.size_toArray,List.length_append,h1];omega)]
   congr 1
   simp only[Nat.zero_add,List.extract_toArray,←h1]
   simp
  simp only[Result.andThen_ok,room,ku,sJ.cells,vW]
  refine⟨_,_,L++ [(w.drew.heap.size, .cells (cs++new++ (Builtin.zeroCells z.cells (c2 - (n+k))).toList).toArray e (0,0))],rfl, ?_, .at_ (b:=w.drew.heap.size) (rest:=(Builtin.zeroCells z.cells (c2 - (n+k))).toList) ?_ ?_ ?_ oM oM, ?_, .inr ⟨_,rfl,io fun b hb=>aI.lt hb⟩⟩
  ·have ea: (cs++new++ (Builtin.zeroCells z.cells (c2 - (n+k))).toList).toArray=cs.toArray++new.toArray++Builtin.zeroCells z.cells (c2 - (n+k)):=by apply Array.ext';simp
   rw[ea]
   exact aI.alloc _
  ·rw[gO (fun hm=>Nat.lt_irrefl _ (aI.lt hm))]
   simp[look]
  ·rw[List.length_append,h1,hX.size,Nat.add_mul]
  ·exact zc _
  refine⟨fun c hc=>by rw[ao];exact cz _ hc,fun c hc=> ?_,fun c o aX ho=>az ho⟩
  rw[ao] at hc
  rcases List.mem_append.1 hc with hc|hc
  ·exact .inl hc
  right
  simp only[keys,List.map_cons,List.map_nil,List.mem_singleton] at hc
  subst hc
  exact⟨io fun b hb=>aI.lt hb,aI.size⟩
def AppX.block {b off k cap size:Nat} {arr:Array Value} {E:TypeId} {fz:Nat×Nat} {new:List Value} (hr:aU w0 L b=some (.cells arr E fz)) (hn:off+k*size≤arr.size) (hc: (arr.extract off (off+k*size)).toList=new)
  (h1:new.all Value.oneCell'=true) {w:World} (hw:Hp w0 L w):AppX P w size (vsl b off k cap) k new:=by
 refine⟨rfl, ?_,h1, ?_⟩
 ·simp only[vsl,Builtin.firstCells]
  rw[KU (hw.read hr) off (k*size) hn,←hc]
 rw[←hc];simp;omega
def AppX.nil (P:Program) (w:World) (size:Nat):AppX P w size (.slice none 0 0) 0 []:=⟨rfl,rfl,rfl,by simp⟩
theorem Xu_ {b:Nat} {E:TypeId} {fz:Nat×Nat} {arr:Array Value} {w:World} (hb:w.heap[b]? =some (.cells arr E fz)): ∀ (l:List UInt8) (off:Nat) (acc:ByteArray),(∀j,j<l.length→arr[off+j]? =some (v8 (l.getD j 0)))→
  (loadBytes ⟨b,off,none⟩ acc l.length).run P w= .ok (acc++ ⟨l.toArray⟩) w
 | [],off,acc,_=>by
  show Result.ok acc w=_
  congr 1
  apply ByteArray.ext
  simp
 |x::l,off,acc,h=>by
  have h0:=h 0 (by simp)
  simp only[Nat.add_zero,List.getD_cons_zero] at h0
  have hc:w.cell? ⟨b,off,none⟩=some (v8 x):=by rw[cell_of_row w b _ arr E fz hb];exact h0
  have vJ: (load ⟨b,off,none⟩).run P w= .ok (v8 x) w:=by
   simp only[load,Sem.run,hc]
  rw[List.length_cons,loadBytes,Sem.run_bind,vJ,Result.andThen_ok]
  simp only[v8,o0]
  have e: ((x.toNat:Int).toNat.toUInt8)=x:=by
   rw[Int.toNat_natCast]
   exact UInt8.ofNat_toNat
  rw[e,Xu_ hb l (off+1) _ (fun j hj=>by
   have:=h (j+1) (by simpa using hj)
   rw[List.getD_cons_succ] at this
   rw[←this];congr 1;omega)]
  congr 1
  apply ByteArray.ext
  simp
def RR {p:Program} {e:TypeId} {c n:Nat} (hd:1<p.depth) (hs:p.cellsOf e=1) (hn:n≤c):liesAt p p.depth e (c / p.cellsOf e) 0 e n=true:=by
 obtain⟨d,iK⟩: ∃d,p.depth=d+2:=⟨p.depth - 2,by omega⟩
 have bh:sameLayout p p.depth e e=true:=by
  rw[iK];unfold sameLayout;simp
 rw[iK] at bh ⊢
 unfold liesAt
 rw[iK]
 unfold rowAt
 simp[hs,hn,bh]
def KW_ {w:World} {pt it ty e:TypeId} {b:Nat} {l:List UInt8} {rest:List Value} (hw:Hp w0 L w) (hl:look L b=some (.cells (l.map v8++rest).toArray e (0,0))) (h0:0<l.length) (yb: (l.length:Int)≤9223372036854775807)
  (fe:P.underlying pt=some (.pointer e)) (hs:P.cellsOf e=1) (hd:1<P.depth):
  ∃w',(Builtin.unsafeString_ #[pt,it] ty #[vp b 0,vi l.length]).run P w= .ok (vs l) w'∧Hp w0 (setB L b (.cells (l.map v8++rest).toArray e (0,l.length))) w':=by
 have hb:=hw.has _ _ (cQ hl)
 have e1: ∀ {α β:Type} (a:α) (f:α→World→Result β),(Sem.run P (pure a) w).andThen f=f a w:=fun _ _=>rfl
 have qF:=Xu_ (P:=P) hb l 0 .empty (by
  intro j hj
  rw[Nat.zero_add,List.getElem?_toArray,List.getElem?_append_left (by simpa using hj),List.getElem?_map,List.getD_eq_getElem?_getD,List.getElem?_eq_getElem hj]
  rfl)
 have hva: (variablesAt ⟨b,0,none⟩ e l.length).run P w= .ok true w:=by
  have gw:w.shape? b=some (e,(l.map v8++rest).toArray.size):=by
   simp only[World.shape?,hb]
  have hp:liesAt P P.depth e ((l.map v8++rest).toArray.size / P.cellsOf e) 0 e l.length=true:=RR hd hs (by simp)
  simp only[variablesAt,program,shape,Sem.run_bind]
  show Result.andThen (Result.ok P w) _=_
  simp only[Result.andThen_ok]
  show Result.andThen (Result.ok (w.shape? b) w) _=_
  rw[gw]
  simp only[Result.andThen_ok]
  rw[hp]
  rfl
 have lm: (elemOf pt).run P w= .ok e w:=by
  simp only[elemOf,Sem.run_bind,run_underlying fe w,Result.andThen_ok]
  rfl
 refine⟨w.freeze ⟨b,0,none⟩ l.length, ?_, ?_⟩
 ·have hn0: ¬ ((l.length:Int)<0):=by omega
  have gH: ¬ ((l.length:Int)>IntKind.i64.max):=by
   show¬ ((l.length:Int)>9223372036854775807);omega
  have hnz: ¬ ((l.length:Int)=0):=by omega
  have hai: (asInt (vi l.length)).run P w= .ok (l.length:Int) w:=rfl
  rw[show vp b 0= .pointer (some ⟨b,0,none⟩) from rfl]
  show Sem.run P (asInt (vi l.length)>>=_) w=_
  simp only[Sem.run_bind,hai,Result.andThen_ok,List.getElem?_toArray,List.getElem?_cons_zero,hn0,gH,hnz, ↓reduceIte,lm,Int.toNat_natCast,hva,qF]
  show Result.ok (Value.string (ByteArray.empty++ ⟨l.toArray⟩)) _=_
  congr 2
 have aX: ¬l.length=0:=by omega
 have aC:=(Array.getElem?_eq_some_iff.1 hb).1
 refine hw.set (bY hl) ?_ ?_ ?_ ?_<;>simp only[World.freeze,aX, ↓reduceIte]
 apply Array.ext_getElem?
 intro i
 rw[Array.getElem?_modify]
 by_cases hi:b=i
 ·subst hi
  rw[if_pos rfl,hb]
  simp[aC]
 rw[if_neg hi,Array.getElem?_setIfInBounds_ne hi]
end
section
variable {P:Program} {w0:World} {f:Fr} {L:aB} {N:Fr→aB→Prop} {ops:Array Oper} {rest:List Oper} {md:Md}
 {d:Option Tmp} {ty:TypeId} {ps:String} {af:Array Edge} {g:Option (Nat×Bool)}
theorem Ow.append {ts tx e:TypeId} {m:Bool×Nat} {z:Value} {s x:Operand} {n k:Nat} {cs new:List Value} {dx:TypeDesc} {md':Md} (sv:Value) (iL:ev f s=sv) (he:md.turn=some md')
  (hs:bT ops f ⟨d, .call ⟨.builtin .append, #[s,x], #[ts,tx]⟩,ty,ps,af,g⟩=false)
  (hu:P.underlying ts=some (.slice e)) (hm:aR P e=some m) (hi:se P e=true) (hz:an P e=some z) (mP:z.cells.size=m.2) (kD:P.underlying tx=some dx) (cF: ∀k,dx≠ .int k)
  (hB:Buf L e m.2 sv n cs) (hX: ∀w,Hp w0 L w→AppX P w m.2 (ev f x) k new) (dP:2* (n+k)+768≤2^38)
  (hn: ∀v' L',Buf L' e m.2 v' (n+k) (cs++new)→Grew w0 sv L L'→(slB v'=slB sv∨ ∃c,slB v'=some c∧fU L c)→Ow P w0 ops md' rest (al f d v') L' N):
  Ow P w0 ops md (⟨d, .call ⟨.builtin .append, #[s,x], #[ts,tx]⟩,ty,ps,af,g⟩::rest) f L N:=by
 subst iL
 refine Ow.step he rfl hs fun w hw=> ?_
 obtain⟨v',w',L',hr,hp,hb,hg,bh⟩:=Kk (ty:=ty) hw hu hm hi hz mP kD cF hB hX dP
 refine .inl ⟨v',w',L', ?_,hp,hn v' L' hb hg bh⟩
 simp only[execOp,resolve,Sem.run_bind,Sem.run_pure,Result.andThen_ok,invoke,builtin,List.map_toArray,List.map_cons,List.map_nil]
 rw[hr]
 rfl
theorem Ow.unsafeString {pt it e:TypeId} {x y:Operand} {b:Nat} {l:List UInt8} {rs:List Value} {md':Md} (he:md.turn=some md')
  (hs:bT ops f ⟨d, .call ⟨.builtin .unsafeString, #[x,y], #[pt,it]⟩,ty,ps,af,g⟩=false)
  (hx:ev f x=vp b 0) (hy:ev f y=vi l.length) (hl:look L b=some (.cells (l.map v8++rs).toArray e (0,0))) (h0:0<l.length) (yb: (l.length:Int)≤9223372036854775807)
  (fe:P.underlying pt=some (.pointer e)) (hc:P.cellsOf e=1) (hd:1<P.depth)
  (hn:Ow P w0 ops md' rest (al f d (vs l)) (setB L b (.cells (l.map v8++rs).toArray e (0,l.length))) N):
  Ow P w0 ops md (⟨d, .call ⟨.builtin .unsafeString, #[x,y], #[pt,it]⟩,ty,ps,af,g⟩::rest) f L N:=by
 refine Ow.step he rfl hs fun w hw=> ?_
 obtain⟨w',hr,hp⟩:=KW_ (it:=it) (ty:=ty) hw hl h0 yb fe hc hd
 refine .inl ⟨vs l,w',_, ?_,hp,hn⟩
 simp only[execOp,resolve,Sem.run_bind,Sem.run_pure,Result.andThen_ok,invoke,builtin,List.map_toArray,List.map_cons,List.map_nil,hx,hy]
 rw[hr]
 rfl
def Ow.unsafeStringNil {pt it:TypeId} {x y:Operand} {md':Md} (he:md.turn=some md')
  (hs:bT ops f ⟨d, .call ⟨.builtin .unsafeString, #[x,y], #[pt,it]⟩,ty,ps,af,g⟩=false)
  {p:Option Addr} (hx:ev f x= .pointer p) (hy:ev f y=vi 0)
  (hn:Ow P w0 ops md' rest (al f d (vs [])) L N):
  Ow P w0 ops md (⟨d, .call ⟨.builtin .unsafeString, #[x,y], #[pt,it]⟩,ty,ps,af,g⟩::rest) f L N:=by
 refine Ow.step he rfl hs fun w hw=> ?_
 refine .inl ⟨vs [],w,L, ?_,hw,hn⟩
 simp only[execOp,resolve,Sem.run_bind,Sem.run_pure,Result.andThen_ok,invoke,builtin,List.map_toArray,List.map_cons,List.map_nil,hx,hy]
 cases p<;>rfl
def Ow.sliceData {t:TypeId} {x:Operand} {v:Value} {md':Md} (he:md.turn=some md')
  (hs:bT ops f ⟨d, .call ⟨.builtin .unsafeSliceData, #[x], #[t]⟩,ty,ps,af,g⟩=false)
  (hx: (∃n c,ev f x= .slice none n c∧v= .pointer none)∨ ∃b n c,ev f x=vsl b 0 n c∧c≠0∧v=vp b 0)
  (hn:Ow P w0 ops md' rest (al f d v) L N):
  Ow P w0 ops md (⟨d, .call ⟨.builtin .unsafeSliceData, #[x], #[t]⟩,ty,ps,af,g⟩::rest) f L N:=by
 refine Ow.step he rfl hs fun w hw=> ?_
 refine .inl ⟨v,w,L, ?_,hw,hn⟩
 simp only[execOp,resolve,Sem.run_bind,Sem.run_pure,Result.andThen_ok,invoke,builtin,List.map_toArray,List.map_cons,List.map_nil]
 rcases hx with⟨n,c,hx,rfl⟩ | ⟨b,n,c,hx,hc,rfl⟩
 ·rw[hx];rfl
 rw[hx]
 have e:Builtin.unsafeSliceData_ #[t] ty #[vsl b 0 n c]=(if c≠0 then pure (.pointer (some ⟨b,0,none⟩)) else do
   if(←viewAt b).isSome then pure (.pointer (some ⟨b,0,none⟩)) else pure (.pointer (some ⟨←newObj (.view ⟨b,0,none⟩ (←elemOf ty)),0,none⟩))):=rfl
 rw[e,if_pos hc]
 rfl
end
end Go.Sx
end
namespace Go.Sx
open Go
section
variable {P:Program} {w0:World} {f:Fr} {L:aB} {N:Fr→aB→Prop} {K:d9} {l:List Oper} {listed:List Bool} {n:Nat} {R ts:List Nat} {a d:Nat} {z:Obj}
def Md.next_sofnil (R ts:List Nat): (Md.sof R [] ts).next= .sof R [] ts:=(rfl)
def NF {Q:Exit→Act→World→Prop} {o:Oper} {x:Act} {d:Option Tmp} {v:Value} {K:Act→World→Prop} (hd: ∀t,d=some t→o.dst≠some t)
  (hQ: ∀c a w,Q (.panic c) a w→Q (.panic c) (a.put d v) w) (r:Result Next) (h:o.upon P x (fun a' w'=>K (a'.put d v) w') Q r):
  o.upon P (x.put d v) K Q r:=by
 have comm: ∀u,(x.put o.dst u).put d v=(x.put d v).put o.dst u:=fun u=>(Act.put_comm x v u hd).symm
 match r,h with
 | .ok (.value u) _,h=>show K _ _;rw[←comm];exact h
 | .ok .skip _,h=>show K _ _;rw[←comm];exact h
 | .ok (.defer e) w',h=>
  have h':K ((({x with defers:=e::x.defers}:Act).put o.dst undef).put d v) w':=h
  rw[←Act.put_comm _ v undef hd,←Act.put_defers] at h'
  exact h'
 | .ok (.enter f args) _,h=>
  refine Calls.mono h fun e w'' he=> ?_
  match e,he with
  | .returned u,he=>show K _ _;rw[←comm];exact he
  | .panicked c,he=>exact hQ _ _ _ he
  | .outgrown,he=>exact he
 | .ok (.row row args) _,h=>exact Rows.mono h fun u w'' he=>by rw[←comm];exact he
 | .halt (.panic u) _,h=>exact hQ _ _ _ h
def NI {ops:Array Oper} {Q:Exit→Act→World→Prop} {j:Nat} {oj:Oper} {d:Option Tmp} {v:Value} (hj:ops[j]? =some oj) (h1: ∀t,d=some t→t∉oj.looksAt ops) (h2: ∀t,d=some t→oj.dst≠some t) (Hx: ∀cs b,oj.op≠ .select cs b)
  (hQ: ∀c a w,Q (.panic c) a w→Q (.panic c) (a.put d v) w) {K:Act→World→Prop} {x:Act} {w:World}
  (h:wpOp P ops Q j (fun a' w'=>K (a'.put d v) w') x w):wpOp P ops Q j K (x.put d v) w:=by
 unfold wpOp at h ⊢
 simp only[hj] at h ⊢
 rw[wanted_put oj x d v h1]
 cases hw:Region.wanted oj (yielded ops x.tmps) with
 |true=>
  rw[hw] at h
  simp only[if_true] at h ⊢
  rcases h with h| ⟨uy,hl⟩
  ·left
   unfold Oper.wp at h ⊢
   rw[execOp_put oj Hx x d v h1]
   exact NF h2 hQ _ h
  right
  exact⟨by unfold Oper.asks at*;rwa [execOp_put oj Hx x d v h1],hl⟩
 |false=>
  rw[hw] at h
  simp only[Bool.false_eq_true,if_false] at h ⊢
  rw[Act.put_comm x v undef h2]
  exact h
structure Drift (P:Program) (l:List Oper) (ts:List Nat) (a d:Nat) (z:Obj):Prop where
 here: ∃oa t zv,l.toArray[a]? =some oa∧oa.op= .alloc t∧oa.dst=some d∧oa.guard=none∧an P t=some zv∧z= .cells zv.cells t
 ts:a∉ts
 sel:Region.noSelect l.toArray=true
def OwD (P:Program) (w0:World) (l:List Oper) (R ts:List Nat) (a d:Nat) (z:Obj) (n:Nat) (listed:List Bool) (f:Fr) (L:aB) (N:Fr→aB→Prop):Prop:=
 (∀w,Hp w0 L w→mU P l.toArray (fT w0 N) ts (SR w0 R L) (n+1) listed.toArray (act f) w)∧
 (∀b w,w0.heap.size≤b→b∉keys L→Hp w0 (L++ [(b,z)]) w→mU P l.toArray (fT w0 N) ts (SR w0 R L) n (listed.set a true).toArray (act (setF f d (vp b 0))) w)
def SR.ofE {w:World} {b:Nat} (hb:w0.heap.size≤b) (h:Hp w0 (L++ [(b,z)]) w):SR w0 R L w:=by
 intro r _ o ho
 unfold aU at ho
 split at ho
 ·rename_i o' hl
  cases ho
  exact h.has _ _ (cz _ (cQ hl))
 rename_i hl
 have aC:=(Array.getElem?_eq_some_iff.1 ho).1
 rw[h.old r aC ?_];exact ho
 intro hm
 simp only[keys,List.map_append,List.map_cons,List.map_nil,List.mem_append,List.mem_singleton] at hm
 rcases hm with hm|hm
 ·exact J6 hl hm
 omega
def Sh {c:List PanicEntry} {x x':Act} {w:World} (h:fT w0 N (.panic c) x w):fT w0 N (.panic c) x' w:=nW h
def Hp.perm {w:World} {M:aB} (h:Hp w0 L w) (hp:M.Perm L):Hp w0 M w:=
 h.same (fun _=>hp.mem_iff) ((List.Perm.nodup_iff (hp.map Prod.fst)).2 h.nodup)
def chkD (P:Program) (l:List Oper) (ts:List Nat) (a:Nat):List Nat→List Bool→Option (List Bool)
 | [],listed=>some listed
 |k::is,listed=>
  match dh l k,dh l a with
  |some o,some oa=>if k !=a&& !ts.contains k&& (ts.all fun t=> !listed.toArray.getD t true&& !(listed.set a true).toArray.getD t true)&& (Region.ready .any l.toArray listed.toArray).contains k&&Region.free .any l.toArray listed.toArray k&&
    (Region.ready .any l.toArray (listed.set a true).toArray).contains k&&Region.free .any l.toArray (listed.set a true).toArray k&&o.apart l.toArray oa&&
    (gW P o.op|| (jQ o.op&&w5 l.toArray ts listed.toArray k&&w5 l.toArray ts (listed.set a true).toArray k)) then chkD P l ts a is (listed.set k true) else none
  |_,_=>none
def OwD.step {k:Nat} {o:Oper} {v:Value} (hD:Drift P l ts a d z) (hk:dh l k=some o) {rest:List Bool} (hc:chkD P l ts a [k] listed=some rest)
  (hY:YieldsC P l.toArray (SR w0 R L) (gW P o.op=true) o v (act f)) (h:OwD P w0 l R ts a d z n rest (al f o.dst v) L N):OwD P w0 l R ts a d z (n+1) listed f L N:=by
 obtain⟨⟨oa,t,zv,ha,nO,iZ,hg,hz,rfl⟩,H1,dj⟩:=hD
 have k8:l.toArray[k]? =some o:=by rw[pQ] at hk;simpa using hk
 have r6:dh l a=some oa:=by rw[pQ];simpa using ha
 unfold chkD at hc
 rw[hk,r6] at hc
 simp only at hc
 split at hc
 ·rename_i nD
  simp only[chkD,Option.some.injEq] at hc
  subst hc
  simp only[Bool.and_eq_true,Bool.or_eq_true,Bool.not_eq_true',List.all_eq_true,List.contains_eq_mem,decide_eq_true_eq,decide_eq_false_iff_not,bne_iff_ne,ne_eq] at nD
  obtain⟨⟨⟨⟨⟨⟨⟨⟨c1,c2⟩,c3⟩,c4⟩,c5⟩,c6⟩,c7⟩,c8⟩,c9⟩:=nD
  obtain⟨q1,q2,q3⟩:=Oper.apart_spec c8
  have jb:=Region.noSelect_spec dj
  have cV: (listed.set k true).set a true=(listed.set a true).set k true:=List.set_comm _ _ c1
  refine⟨fun w hw=> ?_,fun b w hb nC hw=> ?_⟩
  ·refine s_ k8 c2 jb (fun c a w h=>nW h) _ _ _ _ (uZ (P:=P) k8 c4 c5 (c9.imp id fun h=>⟨h.1.1,h.1.2,fun t ht=>(c3 t ht).1⟩)) (.inr fun t ht=>(c3 t ht).1) hY ?_
   rw[gN,qN]
   exact h.1 w hw
  have hY2:YieldsC P l.toArray (SR w0 R L) (gW P o.op=true) o v (act (setF f d (vp b 0))):=by
   refine hY.left (jb k o · · k8) (oj:=oa) q3 ⟨vp b 0,[], ?_⟩
   rw[iZ]
   exact(gN f (some d) (vp b 0)).symm
  refine s_ k8 c2 jb (fun c a w h=>nW h) _ _ _ _ (uZ (P:=P) k8 c6 c7 (c9.imp id fun h=>⟨h.1.1,h.2,fun t ht=>(c3 t ht).2⟩)) (.inr fun t ht=>(c3 t ht).2) hY2 ?_
  have e: (act (setF f d (vp b 0))).put o.dst v=act (setF (al f o.dst v) d (vp b 0)):=by
   have e1:act (setF f d (vp b 0))=(act f).put (some d) (vp b 0):=(gN f (some d) (vp b 0)).symm
   rw[e1,Act.put_comm (act f) (x:=some d) (y:=o.dst) (vp b 0) v (fun t ht hod=>by cases ht;exact q2 _ hod iZ),gN,gN];rfl
  rw[e,qN,←cV]
  exact h.2 b w hb nC hw
 cases hc
def Sm {k:Nat} {is:List Nat} {listed listed':List Bool} (h:chkD P l ts a (k::is) listed=some listed'):chkD P l ts a [k] listed=some (listed.set k true)∧chkD P l ts a is (listed.set k true)=some listed':=by
 rw[chkD] at h
 cases ho:dh l k with
 |none=>rw[ho] at h;cases h
 |some o=>
  cases hoa:dh l a with
  |none=>rw[ho,hoa] at h;cases h
  |some oa=>
   rw[ho,hoa] at h
   simp only at h
   split at h
   ·rename_i nD
    refine⟨?_,h⟩
    rw[chkD,ho,hoa]
    simp only
    rw[if_pos nD];rfl
   cases h
theorem OwD.runs {k:Md→List Oper→Fr→aB→Prop} (hD:Drift P l ts a d z): ∀ (is:List Nat) {listed listed':List Bool} {f:Fr} {L:aB},chkD P l ts a is listed=some listed'→
  (∀md r f' L',k md r f' L'→r= []∧OwD P w0 l R ts a d z n listed' f' L' N)→vcL P w0 l.toArray false (.sof R [] []) (iB l is) f L k→OwD P w0 l R ts a d z (is.length+n) listed f L N
 | [],listed,listed',f,L,hc,hk,h=>by
  cases hc
  rw[List.length_nil,Nat.zero_add]
  exact(hk _ _ _ _ h).2
 |i::is,listed,listed',f,L,hc,hk,h=>by
  obtain⟨du,ef⟩:=Sm hc
  rw[ab] at h
  cases ho:dh l i with
  |none=>unfold chkD at du;rw[ho] at du;cases du
  |some o=>
   rw[ho,ac] at h
   unfold vcL at h
   rw[List.length_cons,show is.length+1+n=(is.length+n)+1 by omega]
   cases hs:bT l.toArray f o with
   |true=>
    rw[hs] at h
    have eP:Region.wanted o (yielded l.toArray (act f).tmps)=false:=by rw[mY,hs];rfl
    exact OwD.step hD ho du (v:=undef) (.inr ⟨eP,rfl⟩) (OwD.runs hD is ef hk h)
   |false=>
    rw[hs] at h
    have eP:Region.wanted o (yielded l.toArray (act f).tmps)=true:=by rw[mY,hs];rfl
    simp only[ib,vcB] at h
    split at h
    ·cases ce:rdOk (.sof R [] []) f o.op with
     |false=>rw[ce] at h;exact absurd (hk _ _ _ _ h).1 (by simp)
     |true=>
      rw[ce] at h
      simp only at h
      cases hv:jo P w0 L f o.op with
      |none=>rw[hv] at h;exact absurd (hk _ _ _ _ h).1 (by simp)
      |some v=>
       rw[hv] at h
       refine OwD.step hD ho du (v:=v) (.inl ⟨eP,fun w hw=> ?_⟩) (OwD.runs hD is ef hk h)
       rw[sm]
       rcases hw with hp|hw
       ·exact qL (Hp.refl w) (AF hp hv w)
       exact qL (Hp.refl w) (KW ce hv hw)
    ·exact absurd (hk _ _ _ _ h).1 (by simp)
    exact absurd (hk _ _ _ _ h).1 (by simp)
def OwD.run (is:List Nat) (listed':List Bool) (n:Nat) {m:Nat} (hm:m=is.length+n) (hD:Drift P l ts a d z) (hc:chkD P l ts a is listed=some listed')
  (h: ∀k:Md→List Oper→Fr→aB→Prop,(∀md f L,OwD P w0 l R ts a d z n listed' f L N→k md [] f L)→nl (iB l is) fun l'=>vcL P w0 l.toArray false (.sof R [] []) l' f L k):OwD P w0 l R ts a d z m listed f L N:=by
 subst hm
 refine OwD.runs (k:=fun _ r f' L'=>r= []∧OwD P w0 l R ts a d z n listed' f' L' N) hD is hc (fun _ _ _ _ h=>h) ?_
 exact h _ fun _ _ _ h=>⟨rfl,h⟩
def Bj {t:TypeId} {zv:Value} {oa:Oper} {Q:Exit→Act→World→Prop} {X:Act→World→Prop} {w:World} (ha:l.toArray[a]? =some oa) (nO:oa.op= .alloc t) (iZ:oa.dst=some d) (hg:oa.guard=none) (hz:an P t=some zv)
  (h:X (act (setF f d (vp w.heap.size 0))) (w.alloc (.cells zv.cells t))):wpOp P l.toArray Q a X (act f) w:=by
 obtain⟨dst,op,ty,pos,after,guard⟩:=oa
 simp only at nO iZ hg
 subst nO;subst iZ;subst hg
 unfold wpOp
 simp only[ha]
 have hw:Region.wanted ⟨some d, .alloc t,ty,pos,after,none⟩ (yielded l.toArray (act f).tmps)=true:=by rw[mY];rfl
 rw[hw]
 simp only[↓reduceIte]
 left
 unfold Oper.wp
 have hr: (execOp (act f).eval ⟨some d, .alloc t,ty,pos,after,none⟩).run P w= .ok (.value (vp w.heap.size 0)) (w.alloc (.cells zv.cells t)):=by
  simp only[execOp,Instr.alloc,Sem.run_bind,vZ hz w,Result.andThen_ok]
  rfl
 rw[hr]
 show X ((act f).put (some d) (vp w.heap.size 0)) _
 rw[gN]
 exact h
def zV {L':aB} (hS: ∀b,b∈R→aU w0 L' b=aU w0 L b):SR w0 R L=SR w0 R L':=by
 funext v
 unfold SR
 apply propext
 constructor
 ·intro hh b hb o ho;exact hh b hb o (by rw[←hS b hb];exact ho)
 intro hh b hb o ho;exact hh b hb o (by rw[hS b hb];exact ho)
def tO (l:List Oper) (ts:List Nat) (a:Nat) (ks:List Nat) (listed:List Bool):Bool:=
 ((Region.ready .any l.toArray listed.toArray).all fun i=>i==a||ks.contains i)&& (Region.ready .any l.toArray listed.toArray != [])&& ((Region.ready .any l.toArray (listed.set a true).toArray).all fun i=>ks.contains i)&& (Region.ready .any l.toArray (listed.set a true).toArray != [])&&ks.all fun k=>
  match dh l k,dh l a with
  |some o,some oa=>k !=a&& !ts.contains k&&o.apart l.toArray oa
  |_,_=>false
def OwD.softs (ks:List Nat) (hD:Drift P l ts a d z) (hs:tO l ts a ks listed=true)
  (h: ∀k,k∈ks→ ∀o,dh l k=some o→ ∀E,(E= []∨ ∃b,E= [(b,z)]∧w0.heap.size≤b∧b∉keys L)→Ow P w0 l.toArray .seq [o] f (L++E) (fun f' L''=> ∃L',(L'++E).Perm L''∧(∀r,r∈R→aU w0 L' r=aU w0 L r)∧OwD P w0 l R ts a d z n (listed.set k true) f' L' N)):
  OwD P w0 l R ts a d z (n+1) listed f L N:=by
 obtain⟨⟨oa,t,zv,ha,nO,iZ,hg,hz,rfl⟩,H1,dj⟩:=hD
 have r6:dh l a=some oa:=by rw[pQ];simpa using ha
 unfold tO at hs
 simp only[Bool.and_eq_true,List.all_eq_true,Bool.or_eq_true,beq_iff_eq,bne_iff_ne,ne_eq,List.contains_eq_mem,decide_eq_true_eq] at hs
 obtain⟨⟨⟨⟨c3,c4⟩,c5⟩,c5'⟩,c6⟩:=hs
 have jb:=Region.noSelect_spec dj
 have nt: ∀k,k∈ks→ ∃o,dh l k=some o∧k≠a∧k∉ts∧o.apart l.toArray oa=true:=by
  intro k hk
  have:=c6 k hk
  rw[r6] at this
  cases ho:dh l k with
  |none=>rw[ho] at this;cases this
  |some o=>
   rw[ho] at this
   simp only[Bool.and_eq_true,Bool.not_eq_true',bne_iff_ne,ne_eq,decide_eq_false_iff_not] at this
   exact⟨o,rfl,this.1.1,this.1.2,this.2⟩
 have t2: ∀b w,w0.heap.size≤b→b∉keys L→Hp w0 (L++ [(b, .cells zv.cells t)]) w→mU P l.toArray (fT w0 N) ts (SR w0 R L) (n+1) (listed.set a true).toArray (act (setF f d (vp b 0))) w:=by
  intro b w hb nC hw
  refine⟨fun _=>SR.ofE hb hw,(fun h=>absurd h c5'), ?_⟩
  intro k hi
  have zy:=c5 k hi
  obtain⟨o,hk,c1,c2,c7⟩:=nt k zy
  have k8:l.toArray[k]? =some o:=by rw[pQ] at hk;simpa using hk
  obtain⟨q1,q2,q3⟩:=Oper.apart_spec c7
  have cV: (listed.set k true).set a true=(listed.set a true).set k true:=List.set_comm _ _ c1
  have e1:act (setF f d (vp b 0))=(act f).put (some d) (vp b 0):=(gN f (some d) (vp b 0)).symm
  rw[e1]
  refine NI k8 (fun t ht=>by cases ht;exact q3 d iZ) (fun t ht=>by cases ht;exact fun hod=>q2 d hod iZ) (jb _ o · · k8) (fun c a w h=>Sh h) ?_
  refine vv k8 (X:=fun a' w'=>mU P l.toArray (fT w0 N) ts (SR w0 R L) n ((listed.set a true).toArray.setIfInBounds k true) (a'.put (some d) (vp b 0)) w') ?_ hw
  intro w' aA
  refine KG ?_ (h k zy o hk [(b, .cells zv.cells t)] (.inr ⟨b,rfl,hb,nC⟩) w' aA)
  rintro f' L'' ⟨L',vO,hR,hO⟩ w'' nT
  have dV:=nT.perm vO
  rw[gN,qN,←cV,zV hR]
  refine hO.2 b w'' hb (fun hm=> ?_) dV
  have bA:=dV.nodup
  rw[ao,List.nodup_append] at bA
  exact bA.2.2 b hm b (by simp[keys]) rfl
 refine⟨fun w hw=>⟨fun _=>SR.of hw,fun h=>absurd h c4,fun k hi=> ?_⟩,t2⟩
 rcases c3 k hi with rfl|zy
 ·refine Bj ha nO iZ hg hz ?_
  rw[qN]
  refine t2 _ _ hw.size (fun hm=>Nat.lt_irrefl _ (hw.lt hm)) (hw.alloc _)
 obtain⟨o,hk,c1,c2,c7⟩:=nt k zy
 have k8:l.toArray[k]? =some o:=by rw[pQ] at hk;simpa using hk
 refine vv k8 (X:=mU P l.toArray (fT w0 N) ts (SR w0 R L) (n+1) (listed.toArray.setIfInBounds k true)) ?_ hw
 intro w' aA
 have h1:=h k zy o hk [] (.inl rfl)
 rw[List.append_nil] at h1
 refine KG ?_ (h1 w' aA)
 rintro f' L'' ⟨L',vO,hR,hO⟩ w'' nT
 rw[List.append_nil] at vO
 rw[qN,zV hR]
 exact hO.1 w'' (nT.perm vO)
def OwD.soft (k:Nat) (o:Oper) (hD:Drift P l ts a d z) (hk:dh l k=some o) (hs:tO l ts a [k] listed=true)
  (h: ∀E,(E= []∨ ∃b,E= [(b,z)]∧w0.heap.size≤b∧b∉keys L)→Ow P w0 l.toArray .seq [o] f (L++E) (fun f' L''=> ∃L',(L'++E).Perm L''∧(∀r,r∈R→aU w0 L' r=aU w0 L r)∧OwD P w0 l R ts a d z n (listed.set k true) f' L' N)):
  OwD P w0 l R ts a d z (n+1) listed f L N:=OwD.softs [k] hD hs fun k' dQ o' yd=>by
 rw[List.mem_singleton] at dQ
 subst dQ
 rw[hk] at yd
 cases yd
 exact h
def OwD.two (k k2:Nat) (o o2:Oper) (hD:Drift P l ts a d z) (hk:dh l k=some o) (cZ:dh l k2=some o2) (hs:tO l ts a [k,k2] listed=true)
  (h: ∀E,(E= []∨ ∃b,E= [(b,z)]∧w0.heap.size≤b∧b∉keys L)→Ow P w0 l.toArray .seq [o] f (L++E) (fun f' L''=> ∃L',(L'++E).Perm L''∧(∀r,r∈R→aU w0 L' r=aU w0 L r)∧OwD P w0 l R ts a d z n (listed.set k true) f' L' N))
  (h2: ∀E,(E= []∨ ∃b,E= [(b,z)]∧w0.heap.size≤b∧b∉keys L)→Ow P w0 l.toArray .seq [o2] f (L++E) (fun f' L''=> ∃L',(L'++E).Perm L''∧(∀r,r∈R→aU w0 L' r=aU w0 L r)∧OwD P w0 l R ts a d z n (listed.set k2 true) f' L' N)):
  OwD P w0 l R ts a d z (n+1) listed f L N:=OwD.softs [k,k2] hD hs fun k' dQ o' yd=>by
 simp only[List.mem_cons,List.not_mem_nil,or_false] at dQ
 rcases dQ with rfl|rfl
 ·rw[hk] at yd;cases yd;exact h
 rw[cZ] at yd;cases yd;exact h2
def OwD.real (is:List Nat) {m:Nat} (hm:m=is.length) (hD:Drift P l ts a d z) (hr:Region.ready .any l.toArray listed.toArray= [a]) (hB:uk P l.toArray ts is (listed.set a true).toArray=true) (j6: (ts.all fun t=> !(listed.set a true).toArray.getD t true)=true)
  (hl:is.map (fun i:Nat=>l[i]?)=(iB l is).map some) (hR: ∀r,r∈R→r∈keys L∨r<w0.heap.size)
  (h:nl (iB l is) fun l'=> ∀b,w0.heap.size≤b→b∉keys L→Ow P w0 l.toArray (.sof R is ts) l' (setF f d (vp b 0)) (L++ [(b,z)]) N):OwD P w0 l R ts a d z m listed f L N:=by
 subst hm
 obtain⟨⟨oa,t,zv,ha,nO,iZ,hg,hz,rfl⟩,H1,dj⟩:=hD
 simp only[List.all_eq_true,Bool.not_eq_true'] at j6
 revert hl h
 generalize iB l is=l'
 intro hl h
 have aP:is.length=l'.length:=by have:=congrArg List.length hl;simpa using this
 have hF:Fits P l.toArray ts is l' (listed.set a true).toArray:=⟨aP,fun j=>by
  have:=congrArg (·[j]?) hl
  simp only[List.getElem?_map] at this
  cases hj:is[j]? with
  |none=>
   rw[hj] at this
   simp only[Option.map_none] at this
   cases fY:l'[j]? with
   |none=>rfl
   |some x=>rw[fY] at this;cases this
  |some i=>
   rw[hj] at this
   simp only[Option.map_some] at this
   cases fY:l'[j]? with
   |none=>rw[fY] at this;cases this
   |some x=>
    rw[fY] at this
    simp only[Option.map_some,Option.some.injEq] at this
    simp[this],dj,hB⟩
 have hRb: ∀b,w0.heap.size≤b→b∉keys L→ ∀r,r∈R→aU w0 (L++ [(b,Obj.cells zv.cells t)]) r=aU w0 L r:=by
  intro b hb nC r hr
  unfold aU
  cases bQ:look L r with
  |some o=>rw[az bQ]
  |none=>
   have sV:r∉keys L:=J6 bQ
   have aX:b≠r:=by
    rcases hR r hr with h|h
    ·exact absurd h sV
    omega
   rw[gO sV]
   unfold look
   rw[if_neg aX];rfl
 have t2: ∀b w,w0.heap.size≤b→b∉keys L→Hp w0 (L++ [(b, .cells zv.cells t)]) w→mU P l.toArray (fT w0 N) ts (SR w0 R L) is.length (listed.set a true).toArray (act (setF f d (vp b 0))) w:=by
  intro b w hb nC hw
  rw[aP,zV (hRb b hb nC)]
  exact h b hb nC _ hF (fun t ht=>j6 t ht) w hw
 refine⟨fun w hw=>⟨fun _=>SR.of hw,(fun h=>by rw[hr] at h;cases h),fun i hi=> ?_⟩,t2⟩
 rw[hr,List.mem_singleton] at hi
 subst hi
 refine Bj ha nO iZ hg hz ?_
 rw[qN]
 exact t2 _ _ hw.size (fun hm=>Nat.lt_irrefl _ (hw.lt hm)) (hw.alloc _)
def Cw.regionD {id:Nat} (R ts:List Nat) (a d t m:Nat) (zv:Value) (hl:l.length=m+1) (hm:P.follows .mixedOrders=true) (nO: ((dh l a).map fun o=>(o.op,o.dst,o.guard))=some (.alloc t,some d,none)) (j6:ts.contains a=false) (dj:Region.noSelect l.toArray=true) (hz:an P t=some zv)
  (h:Drift P l ts a d (.cells zv.cells t)→OwD P w0 l R ts a d (.cells zv.cells t) m (List.replicate (m+1) false) f L (K .normal)):Cw P w0 (.region id l.toArray true) f L K:=by
 intro w hw
 refine wp_mono (wp_region_any hm ?_) fun _ _ _ h=>yw h
 have hD:Drift P l ts a d (.cells zv.cells t):=by
  cases hn:dh l a with
  |none=>rw[hn] at nO;cases nO
  |some oa=>
   rw[hn] at nO
   simp only[Option.map_some,Option.some.injEq,Prod.mk.injEq] at nO
   exact⟨⟨oa,t,zv,by rw[pQ] at hn;simpa using hn,nO.1,nO.2.1,nO.2.2,hz,rfl⟩,by simpa using j6,dj⟩
 have h1:=(h hD).1 w.drew hw.drew
 have:=II _ _ _ _ h1
 simpa [hl] using this
end
end Go.Sx
namespace Go.Sx
open Go
def ug {α:Type}: (∀ (a:α) (l:List α),(a::l).length=l.length+1)∧([]:List α).length=0∧(∀ (l:List α) (i:Nat) (a:α),(l.set i a).length=l.length)∧(∀ (l m:List α),(l++m).length=l.length+m.length)∧
  (∀ (n:Nat) (a:α),(List.replicate n a).length=n)∧(∀ (n:Nat) (l:List α),(l.take n).length=min n l.length)∧(∀ (n:Nat) (l:List α),(l.drop n).length=l.length - n)∧ ∀ {β:Type} (f:α→β) (l:List α),(l.map f).length=l.length:=
 ⟨fun _ _=>List.length_cons,List.length_nil,fun _ _ _=>List.length_set,fun _ _=>List.length_append,fun _ _=>List.length_replicate,fun _ _=>List.length_take,fun _ _=>List.length_drop,fun _ _=>List.length_map ..⟩
def uf: (∀n:Nat,((n:Int)).toNat=n)∧(∀l:List UInt8,(a8 l).size=l.length)∧(∀l:List UInt32,(a32 l).size=l.length)∧(∀p:Prop,(p∧p)=p)∧(∀p:Prop,(p∧True)=p)∧ ∀p:Prop,(True∧p)=p:=
 ⟨Int.toNat_natCast,sg,At,fun _=>and_self _,fun _=>and_true _,fun _=>true_and _⟩
inductive Tag {α:Type} (x:α):Type
 |mk:Tag x
def seqN (F:Fr→aB→d9→Prop) (K:d9) (f:Fr) (L:aB):Prop:=F f L K
def cdC (v:Value) (A B S:Prop) (_:Tag (A,B,S)):Prop:=
 match v with
 | .bool true=>A
 | .bool false=>B
 |_=>S
abbrev CwS (P:Program) (w0:World) (c:Code) (f:Fr) (L:aB) (K:d9) (_:Tag (c,K)):Prop:=Cw P w0 c f L K
abbrev OwS (P:Program) (w0:World) (ops:Array Oper) (md:Md) (l:List Oper) (f:Fr) (L:aB) (N:Fr→aB→Prop) (_:Tag (ops,l,N)):Prop:=Ow P w0 ops md l f L N
def bsK (K:d9) (e:Exit) (f:Fr) (L:aB):Dep K:=K e f L
def bsN (N:Fr→aB→Prop) (f:Fr) (L:aB):Dep N:=N f L
abbrev bsR (K:d9) (e:Exit) (f:Fr) (L:aB) (_:Tag K):Prop:=K e f L
abbrev bsM (N:Fr→aB→Prop) (f:Fr) (L:aB) (_:Tag N):Prop:=N f L
def owk (P:Program) (w0:World) (ops:Array Oper) (N:Fr→aB→Prop) (md:Md) (l:List Oper) (f:Fr) (L:aB):Dep (ops,N):=
 match l with
 | []=>N f L
 |o::r=>Ow P w0 ops md (o::r) f L N
def fid:Code→Nat
 | .seq a _=>fid a
 | .region i _ _=>i
 | .block _ c=>fid c
 | .loop c=>fid c
 | .scope c=>fid c
 |_=>500000
def my (z:List Nat) (c:Code):Bool:=match z with
 | []=>false
 |k::r=>(k==1000000+fid c) ||my r c
def vcC (P:Program) (w0:World) (z:List Nat):Code→Fr→aB→d9→Prop
 | .seq x y,f,L,K=>ib (my z (.seq x y)) (CwS P w0 (.seq x y) f L K .mk) (vcC P w0 z x f L (lR (seqN (fun f L K=>ib (z.contains 999999) (CwS P w0 y f L K .mk) (vcC P w0 z y f L K)) K) K))
 | .skip,f,L,K=>K .normal f L
 | .exit i,f,L,K=>K (.exit i) f L
 | .goto i,f,L,K=>K (.goto i) f L
 | .ret,f,L,K=>K .ret f L
 | .label l,f,L,K=>ib (z.contains 999999) (Cw P w0 (.label l) f L K) (K .normal f L)
 | .block id c,f,L,K=>vcC P w0 z c f L (oF id K)
 | .cond c x y,f,L,K=> ∃b,ev f c= .bool b∧(b=true→vcC P w0 z x f L K)∧(b=false→vcC P w0 z y f L K)
 | .region id ops false,f,L,K=>ib (z.contains id) (Cw P w0 (.region id ops false) f L K) (vcL P w0 ops true .seq ops.toList f L (owk P w0 ops (K .normal)))
 |c,f,L,K=>Cw P w0 c f L K
section
variable {P:Program} {w0:World} {f:Fr} {L:aB} {K:d9} {N:Fr→aB→Prop} {ops:Array Oper} {md:Md} {l:List Oper}
def G5 (h:owk P w0 ops N md l f L):Ow P w0 ops md l f L N:=by
 cases l with
 |nil=>exact Ow.nil h
 |cons o r=>exact h
def Ow.go (he:md.eff=true) (h:vcL P w0 ops true md l f L (owk P w0 ops (bsN N))):Ow P w0 ops md l f L N:=
 AP _ (fun _ _ _ _ h=>G5 h) true l md f L (fun _=>he) h
def Ow.goQ (h:vcL P w0 ops false md l f L (owk P w0 ops (bsN N))):Ow P w0 ops md l f L N:=
 AP _ (fun _ _ _ _ h=>G5 h) false l md f L (fun e=>by cases e) h
theorem AL {z:List Nat}: ∀ (c:Code) {f:Fr} {L:aB} {K:d9},vcC P w0 z c f L K→Cw P w0 c f L K
 | .seq x y,f,L,K,h=>by
   unfold vcC at h
   cases hs:my z (.seq x y) with
   |true=>rw[hs] at h;exact h
   |false=>
    rw[hs] at h
    refine Cw.seq ((AL x h).mono fun e f L k=> ?_)
    cases e with
    |normal=>
     have k':ib (z.contains 999999) (CwS P w0 y f L K .mk) (vcC P w0 z y f L K):=k
     cases hz:z.contains 999999 with
     |true=>rw[hz] at k';exact k'
     |false=>rw[hz] at k';exact AL y k'
    |_=>exact k
 | .skip,_,_,_,h=>Cw.skip h
 | .exit _,_,_,_,h=>Cw.exit h
 | .goto _,_,_,_,h=>Cw.goto h
 | .ret,_,_,_,h=>Cw.ret h
 | .label l,_,_,_,h=>by
   unfold vcC at h
   cases hz:z.contains 999999 with
   |true=>rw[hz] at h;exact h
   |false=>rw[hz] at h;exact Cw.label h
 | .block id c,_,_,_,h=>Cw.block (AL c h)
 | .cond c x y,_,_,_,⟨b,hb,h1,h2⟩=>Cw.cond hb (fun e=>AL x (h1 e)) (fun e=>AL y (h2 e))
 | .region id ops false,f,L,K,h=>by
   obtain⟨l⟩:=ops
   unfold vcC at h
   cases hz:z.contains id with
   |true=>rw[hz] at h;exact h
   |false=>rw[hz] at h;exact Cw.region (Ow.go rfl h)
 | .region _ _ true,_,_,_,h=>h
 | .loop _,_,_,_,h=>h
 | .rangeFunc _ _ _ _,_,_,_,h=>h
 | .scope _,_,_,_,h=>h
 | .refuse _,_,_,_,h=>h
end
class Steps (c:Code):Prop
instance {x y:Code}:Steps (.seq x y):=⟨⟩
instance:Steps .skip:=⟨⟩
instance {i:Nat}:Steps (.exit i):=⟨⟩
instance {i:Nat}:Steps (.goto i):=⟨⟩
instance:Steps .ret:=⟨⟩
instance {i:Nat} {c:Code}:Steps (.block i c):=⟨⟩
instance {c:Operand} {x y:Code}:Steps (.cond c x y):=⟨⟩
instance {i:Nat} {ops:Array Oper}:Steps (.region i ops false):=⟨⟩
def Cw.go {P:Program} {w0:World} {c:Code} {f:Fr} {L:aB} {K:d9} (z:List Nat) [Steps c] (h:vcC P w0 z c f L (bsK K)):Cw P w0 c f L K:=AL c h
@[congr] theorem awc_ {v v':Value} {A B S:Prop} {t:Tag (A,B,S)} (h:v=v'):cdC v A B S t=cdC v' A B S t:=by rw[h]
section
variable (P:Program) (w0:World) (z:List Nat) (f:Fr) (L:aB) (K:d9) (N:Fr→aB→Prop) (ops:Array Oper) (md:Md)
def Uw (x y:Code):vcC P w0 [] (.seq x y) f L K=vcC P w0 [] x f L (lR (seqN (fun f L K=>vcC P w0 [] y f L K) K) K):=(rfl)
def Uv (k:Nat) (z:List Nat) (x y:Code):vcC P w0 (k::z) (.seq x y) f L K=ib (my (k::z) (.seq x y)) (CwS P w0 (.seq x y) f L K .mk) (vcC P w0 (k::z) x f L (lR (seqN (fun f L K=>ib ((k::z).contains 999999) (CwS P w0 y f L K .mk) (vcC P w0 (k::z) y f L K)) K) K)):=(rfl)
def U4:vcC P w0 z .skip f L K=K .normal f L:=(rfl)
def VO (i:Nat):vcC P w0 z (.exit i) f L K=K (.exit i) f L:=(rfl)
def UM (i:Nat):vcC P w0 z (.goto i) f L K=K (.goto i) f L:=(rfl)
def YT:vcC P w0 z .ret f L K=K .ret f L:=(rfl)
def Sz (i:Nat):vcC P w0 z (.label i) f L K=ib (z.contains 999999) (CwS P w0 (.label i) f L K .mk) (K .normal f L):=(rfl)
def Ue (i:Nat) (c:Code):vcC P w0 z (.block i c) f L K=vcC P w0 z c f L (oF i K):=(rfl)
def VQ (c:Operand) (x y:Code):vcC P w0 z (.cond c x y) f L K=cdC (ev f c) (vcC P w0 z x f L K) (vcC P w0 z y f L K) (vcC P w0 z (.cond c x y) f L K) .mk:=by
 unfold cdC
 split
 ·rename_i h;simp[vcC,h]
 ·rename_i h;simp[vcC,h]
 rfl
def Qi (i:Nat) (l:List Oper):vcC P w0 z (.region i l.toArray false) f L K=ib (z.contains i) (CwS P w0 (.region i l.toArray false) f L K .mk) (vcL P w0 l.toArray true .seq l f L (owk P w0 l.toArray (K .normal))):=(rfl)
def TE (i:Nat) (ops:Array Oper):vcC P w0 z (.region i ops true) f L K=CwS P w0 (.region i ops true) f L K .mk:=(rfl)
def W2 (c:Code):vcC P w0 z (.loop c) f L K=CwS P w0 (.loop c) f L K .mk:=(rfl)
def Sl (c:Code):vcC P w0 z (.scope c) f L K=CwS P w0 (.scope c) f L K .mk:=(rfl)
def RO (x:Operand) (p:Array Tmp) (a c:Code):vcC P w0 z (.rangeFunc x p a c) f L K=CwS P w0 (.rangeFunc x p a c) f L K .mk:=(rfl)
def Xh (F:Fr→aB→d9→Prop):bsN (seqN F K) f L=F f L K:=(rfl)
def axv_ (e:Exit):bsN (K e) f L=bsK K e f L:=(rfl)
def Zk (c:Code):bsN (fun f L=>Cw P w0 c f L K) f L=CwS P w0 c f L K .mk:=(rfl)
def WH:lR N K .normal f L=bsN N f L:=(rfl)
def XL (i:Nat):lR N K (.exit i) f L=K (.exit i) f L:=(rfl)
def Xm (i:Nat):lR N K (.goto i) f L=K (.goto i) f L:=(rfl)
def XP:lR N K .ret f L=K .ret f L:=(rfl)
def Vt (i:Nat):oF i K .normal f L=K .normal f L:=(rfl)
def V7 (i j:Nat):oF i K (.goto j) f L=K (.goto j) f L:=(rfl)
def WB (i:Nat):oF i K .ret f L=K .ret f L:=(rfl)
def UQ (i j:Nat):oF i K (.exit j) f L=ib (j==i) (K .normal f L) (K (.exit j) f L):=by
 by_cases h:j=i
 ·have e: (j==i)=true:=beq_iff_eq.2 h
  rw[e]
  simp[oF,ib,h]
 have e: (j==i)=false:=beq_eq_false_iff_ne.2 h
 rw[e]
 simp[oF,ib,h]
def UJ (A:Nat→Fr→aB→Prop):pp A K .normal f L=K .normal f L:=(rfl)
def Vu (A:Nat→Fr→aB→Prop) (i:Nat):pp A K (.exit i) f L=K (.exit i) f L:=(rfl)
def US (A:Nat→Fr→aB→Prop) (i:Nat):pp A K (.goto i) f L=bsN (A i) f L:=(rfl)
def Ul (A:Nat→Fr→aB→Prop):pp A K .ret f L=K .ret f L:=(rfl)
def WL:owk P w0 ops N md [] f L=bsN N f L:=(rfl)
def Xv (e:Exit):bsK K e f L=bsR K e f L .mk:=(rfl)
def XG:bsN N f L=bsM N f L .mk:=(rfl)
def Yr:bsN (bsN N) f L=bsN N f L:=(rfl)
def Y0 (e:Exit):bsK (bsK K) e f L=bsK K e f L:=(rfl)
def VE (e:Exit):bsK (lR N K) e f L=lR N (bsK K) e f L:=by cases e<;>rfl
def Rv (i:Nat) (e:Exit):bsK (oF i K) e f L=oF i (bsK K) e f L:=by cases e<;>rfl
def RJ (A:Nat→Fr→aB→Prop) (e:Exit):bsK (pp A K) e f L=pp A (bsK K) e f L:=by cases e<;>rfl
def UH (o:Oper) (r:List Oper):owk P w0 ops N md (o::r) f L=OwS P w0 ops md (o::r) f L N .mk:=(rfl)
end
section
variable (A B S:Prop) (t:Tag (A,B,S))
def Ze:cdC (.bool true) A B S t=A:=(rfl)
def Za:cdC (.bool false) A B S t=B:=(rfl)
def tg (b:Bool) (h:b=true):cdC (.bool b) A B S t=A:=by rw[h];rfl
def tz (b:Bool) (h:b=false):cdC (.bool b) A B S t=B:=by rw[h];rfl
def GN (p:Prop) [Decidable p] (h:p):cdC (.bool (decide p)) A B S t=A:=tg A B S t _ (aK h)
def Ga (p:Prop) [Decidable p] (h: ¬p):cdC (.bool (decide p)) A B S t=B:=tz A B S t _ (aO h)
def GQ (a b:Int) (h:a=b):cdC (.bool (a==b)) A B S t=A:=tg A B S t _ (beq_iff_eq.2 h)
def GT (a b:Int) (h: ¬a=b):cdC (.bool (a==b)) A B S t=B:=tz A B S t _ (beq_eq_false_iff_ne.2 h)
def ZN (a b:Int) (h: ¬a=b):cdC (.bool (a !=b)) A B S t=A:=tg A B S t _ (bne_iff_ne.2 h)
def ZY (a b:Int) (h:a=b):cdC (.bool (a !=b)) A B S t=B:=tz A B S t _ (by rw[h];simp)
end
def Wh (w0:World) (L:aB) (v:Value):jP w0 L .no v=none:=(rfl)
def YB (w0:World) (L:aB) (e:TypeId) (v:Value):jP w0 L (.strBytes e) v=none:=(rfl)
def Y3 (v:Value):gY .no v=none:=by unfold gY;split<;>first|rfl| (rename_i h;cases h)
def Rz (c:Code):my [] c=false:=(rfl)
def Q9 (k:Nat) (r:List Nat) (c:Code):my (k::r) c=((k==1000000+fid c) ||my r c):=(rfl)
def Wr (a b:Code):fid (.seq a b)=fid a:=(rfl)
def Re (i:Nat) (o:Array Oper) (d:Bool):fid (.region i o d)=i:=(rfl)
def Tb (i:Nat) (c:Code):fid (.block i c)=fid c:=(rfl)
def Vj (c:Operand) (x y:Code):fid (.cond c x y)=500000:=(rfl)
def Uj (c:Code):fid (.loop c)=fid c:=(rfl)
def SP (c:Code):fid (.scope c)=fid c:=(rfl)
def Rx (i:Nat):fid (.label i)=500000:=(rfl)
def W6 (i:Nat):fid (.goto i)=500000:=(rfl)
def WD (i:Nat):fid (.exit i)=500000:=(rfl)
def WC:fid .skip=500000:=(rfl)
def YE:fid .ret=500000:=(rfl)
def SI (x:Operand) (p:Array Tmp) (a c:Code):fid (.rangeFunc x p a c)=500000:=(rfl)
def allF (j:Nat→Value):Nat→Nat→Fr
 |_,0=> []
 |k,n+1=>j k::allF j (k+1) n
def ZI (j:Nat→Value) (k:Nat):allF j k 0= []:=(rfl)
def Yt (j:Nat→Value) (k n:Nat):allF j k (n+1)=j k::allF j (k+1) n:=(rfl)
def CutM {G:Type} (n:Nat) (S:G→List (Nat×Value)) (H:G→aB) (J:G→Prop) (f':Fr) (L':aB):Prop:=
 ∃g,J g∧L'=H g∧f'=pin (allF (ec f') 0 n) (S g)
def CutM.mk {G:Type} {n:Nat} {S:G→List (Nat×Value)} {H:G→aB} {J:G→Prop} {f':Fr} {L':aB} (g:G) (hJ:J g) (hL:L'=H g) (hf:f'=pin (allF (ec f') 0 n) (S g)):CutM n S H J f' L':=⟨g,hJ,hL,hf⟩
def Cw.cut {P:Program} {w0:World} {x y:Code} {f:Fr} {L:aB} {K:d9} {G:Type} (n:Nat) (S:G→List (Nat×Value)) (H:G→aB) (J:G→Prop) (h1:Cw P w0 x f L (lR (CutM n S H J) K))
  (h2: ∀ (g:G) (j:Nat→Value),J g→Cw P w0 y (pin (allF j 0 n) (S g)) (H g) K):Cw P w0 (.seq x y) f L K:=by
 refine Cw.seq (h1.mono fun e f L k=> ?_)
 cases e with
 |normal=>
  obtain⟨g,hJ,rfl,hf⟩:=k
  have:=h2 g (ec f) hJ
  rw[←hf] at this
  exact this
 |_=>exact k
def cdC.splitp {p:Prop} [Decidable p] {A B S:Prop} {t:Tag (A,B,S)} (ht:p→A) (he: ¬p→B):cdC (.bool (decide p)) A B S t:=by
 by_cases h:p
 ·rw[GN A B S t p h];exact ht h
 rw[Ga A B S t p h];exact he h
def cdC.split {b:Bool} {A B S:Prop} {t:Tag (A,B,S)} (ht:b=true→A) (he:b=false→B):cdC (.bool b) A B S t:=by
 cases b with
 |true=>exact ht rfl
 |false=>exact he rfl
end Go.Sx
namespace Go.Sx
open Go
section
variable {P:Program} {w0:World} {l:List Oper} {R ts:List Nat} {n:Nat} {listed:List Bool} {f:Fr} {L:aB} {N:Fr→aB→Prop}
def OwG (P:Program) (w0:World) (l:List Oper) (R ts:List Nat) (n:Nat) (listed:List Bool) (f:Fr) (L:aB) (N:Fr→aB→Prop):Prop:=
 ∀w,Hp w0 L w→mU P l.toArray (fT w0 N) ts (SR w0 R L) n listed.toArray (act f) w
def Cw.regionG {id:Nat} {K:d9} (R ts:List Nat) (m:Nat) (hl:l.length=m) (hm:P.follows .mixedOrders=true) (h:OwG P w0 l R ts m (List.replicate m false) f L (K .normal)):Cw P w0 (.region id l.toArray true) f L K:=by
 intro w hw
 subst hl
 refine wp_mono (wp_region_any hm ?_) fun _ _ _ h=>yw h
 have:=II _ _ _ _ (h _ hw.drew)
 simpa using this
def chkG (P:Program) (l:List Oper) (ts:List Nat):List Nat→List Bool→Option (List Bool)
 | [],listed=>some listed
 |k::is,listed=>
  match dh l k with
  |some o=>if !ts.contains k&& (ts.all fun t=> !listed.toArray.getD t true)&& (Region.ready .any l.toArray listed.toArray).contains k&&Region.free .any l.toArray listed.toArray k&&
    (gW P o.op|| (jQ o.op&&w5 l.toArray ts listed.toArray k)) then chkG P l ts is (listed.set k true) else none
  |none=>none
def OwG.step {k:Nat} {o:Oper} {v:Value} (dj:Region.noSelect l.toArray=true) (hk:dh l k=some o) {rest:List Bool} (hc:chkG P l ts [k] listed=some rest)
  (hY:YieldsC P l.toArray (SR w0 R L) (gW P o.op=true) o v (act f)) (h:OwG P w0 l R ts n rest (al f o.dst v) L N):OwG P w0 l R ts (n+1) listed f L N:=by
 have k8:l.toArray[k]? =some o:=by rw[pQ] at hk;simpa using hk
 unfold chkG at hc
 rw[hk] at hc
 simp only at hc
 split at hc
 ·rename_i nD
  simp only[chkG,Option.some.injEq] at hc
  subst hc
  simp only[Bool.and_eq_true,Bool.or_eq_true,Bool.not_eq_true',List.all_eq_true,List.contains_eq_mem,decide_eq_true_eq,decide_eq_false_iff_not] at nD
  obtain⟨⟨⟨⟨c2,c3⟩,c4⟩,c5⟩,c9⟩:=nD
  have jb:=Region.noSelect_spec dj
  intro w hw
  refine s_ k8 c2 jb (fun c a w h=>nW h) _ _ _ _ (uZ (P:=P) k8 c4 c5 (c9.imp id fun h=>⟨h.1,h.2,fun t ht=>c3 t ht⟩)) (.inr fun t ht=>c3 t ht) hY ?_
  rw[gN,qN]
  exact h w hw
 cases hc
def UZ {k:Nat} {is:List Nat} {listed listed':List Bool} (h:chkG P l ts (k::is) listed=some listed'):chkG P l ts [k] listed=some (listed.set k true)∧chkG P l ts is (listed.set k true)=some listed':=by
 rw[chkG] at h
 cases ho:dh l k with
 |none=>rw[ho] at h;cases h
 |some o=>
  rw[ho] at h
  simp only at h
  split at h
  ·rename_i nD
   refine⟨?_,h⟩
   rw[chkG,ho]
   simp only
   rw[if_pos nD];rfl
  cases h
theorem OwG.runs {k:Md→List Oper→Fr→aB→Prop} (dj:Region.noSelect l.toArray=true): ∀ (is:List Nat) {listed listed':List Bool} {f:Fr} {L:aB},chkG P l ts is listed=some listed'→
  (∀md r f' L',k md r f' L'→r= []∧OwG P w0 l R ts n listed' f' L' N)→vcL P w0 l.toArray false (.sof R [] []) (iB l is) f L k→OwG P w0 l R ts (is.length+n) listed f L N
 | [],listed,listed',f,L,hc,hk,h=>by
  cases hc
  rw[List.length_nil,Nat.zero_add]
  exact(hk _ _ _ _ h).2
 |i::is,listed,listed',f,L,hc,hk,h=>by
  obtain⟨du,ef⟩:=UZ hc
  rw[ab] at h
  cases ho:dh l i with
  |none=>unfold chkG at du;rw[ho] at du;cases du
  |some o=>
   rw[ho,ac] at h
   unfold vcL at h
   rw[List.length_cons,show is.length+1+n=(is.length+n)+1 by omega]
   cases hs:bT l.toArray f o with
   |true=>
    rw[hs] at h
    have eP:Region.wanted o (yielded l.toArray (act f).tmps)=false:=by rw[mY,hs];rfl
    exact OwG.step dj ho du (v:=undef) (.inr ⟨eP,rfl⟩) (OwG.runs dj is ef hk h)
   |false=>
    rw[hs] at h
    have eP:Region.wanted o (yielded l.toArray (act f).tmps)=true:=by rw[mY,hs];rfl
    simp only[ib,vcB] at h
    split at h
    ·cases ce:rdOk (.sof R [] []) f o.op with
     |false=>rw[ce] at h;exact absurd (hk _ _ _ _ h).1 (by simp)
     |true=>
      rw[ce] at h
      simp only at h
      cases hv:jo P w0 L f o.op with
      |none=>rw[hv] at h;exact absurd (hk _ _ _ _ h).1 (by simp)
      |some v=>
       rw[hv] at h
       refine OwG.step dj ho du (v:=v) (.inl ⟨eP,fun w hw=> ?_⟩) (OwG.runs dj is ef hk h)
       rw[sm]
       rcases hw with hp|hw
       ·exact qL (Hp.refl w) (AF hp hv w)
       exact qL (Hp.refl w) (KW ce hv hw)
    ·exact absurd (hk _ _ _ _ h).1 (by simp)
    exact absurd (hk _ _ _ _ h).1 (by simp)
def OwG.run (is:List Nat) (listed':List Bool) (n:Nat) {m:Nat} (hm:m=is.length+n) (dj:Region.noSelect l.toArray=true) (hc:chkG P l ts is listed=some listed')
  (h: ∀k:Md→List Oper→Fr→aB→Prop,(∀md f L,OwG P w0 l R ts n listed' f L N→k md [] f L)→nl (iB l is) fun l'=>vcL P w0 l.toArray false (.sof R [] []) l' f L k):OwG P w0 l R ts m listed f L N:=by
 subst hm
 refine OwG.runs (k:=fun _ r f' L'=>r= []∧OwG P w0 l R ts n listed' f' L' N) dj is hc (fun _ _ _ _ h=>h) ?_
 exact h _ fun _ _ _ h=>⟨rfl,h⟩
def tQ (l:List Oper) (ts:List Nat) (ks:List Nat) (listed:List Bool):Bool:=
 ((Region.ready .any l.toArray listed.toArray).all fun i=>ks.contains i)&& (Region.ready .any l.toArray listed.toArray != [])&&ks.all fun k=> !ts.contains k
def OwG.softs (ks:List Nat) (hs:tQ l ts ks listed=true)
  (h: ∀k,k∈ks→ ∀o,dh l k=some o→Ow P w0 l.toArray .seq [o] f L (fun f' L'=>(∀r,r∈R→aU w0 L' r=aU w0 L r)∧OwG P w0 l R ts n (listed.set k true) f' L' N)):
  OwG P w0 l R ts (n+1) listed f L N:=by
 unfold tQ at hs
 simp only[Bool.and_eq_true,List.all_eq_true,bne_iff_ne,ne_eq,List.contains_eq_mem,decide_eq_true_eq,Bool.not_eq_true',decide_eq_false_iff_not] at hs
 obtain⟨⟨c3,c4⟩,c6⟩:=hs
 intro w hw
 refine⟨fun _=>SR.of hw,fun hr=>absurd hr c4,fun i hi=> ?_⟩
 have HN:=c3 i hi
 obtain⟨-,oi,k8,-⟩:=mem_ready.1 hi
 have hni:dh l i=some oi:=by rw[pQ];simpa using k8
 refine vv k8 (X:=mU P l.toArray (fT w0 N) ts (SR w0 R L) n (listed.toArray.setIfInBounds i true)) ?_ hw
 intro w' aA
 have h1:=h i HN oi hni w' aA
 refine KG ?_ h1
 rintro f' L' ⟨hS,hO⟩ w'' nT
 rw[zV hS,qN]
 exact hO w'' nT
def OwG.one (i:Nat) (oi:Oper) (hs:tQ l ts [i] listed=true) (hi:dh l i=some oi)
  (h:Ow P w0 l.toArray .seq [oi] f L (fun f' L'=>(∀r,r∈R→aU w0 L' r=aU w0 L r)∧OwG P w0 l R ts n (listed.set i true) f' L' N)):OwG P w0 l R ts (n+1) listed f L N:=
 OwG.softs [i] hs fun k hk o ho=>by
  rw[List.mem_singleton] at hk
  subst hk
  rw[hi] at ho
  cases ho
  exact h
def OwG.two (i j:Nat) (oi oj:Oper) (hs:tQ l ts [i,j] listed=true) (hi:dh l i=some oi) (hj:dh l j=some oj)
  (h1:Ow P w0 l.toArray .seq [oi] f L (fun f' L'=>(∀r,r∈R→aU w0 L' r=aU w0 L r)∧OwG P w0 l R ts n (listed.set i true) f' L' N))
  (h2:Ow P w0 l.toArray .seq [oj] f L (fun f' L'=>(∀r,r∈R→aU w0 L' r=aU w0 L r)∧OwG P w0 l R ts n (listed.set j true) f' L' N)):OwG P w0 l R ts (n+1) listed f L N:=
 OwG.softs [i,j] hs fun k hk o ho=>by
  simp only[List.mem_cons,List.not_mem_nil,or_false] at hk
  rcases hk with rfl|rfl
  ·rw[hi] at ho;cases ho;exact h1
  rw[hj] at ho;cases ho;exact h2
def OwG.permL {M:aB} (hp:M.Perm L) (hR: ∀r,r∈R→aU w0 M r=aU w0 L r) (h:OwG P w0 l R ts n listed f M N):OwG P w0 l R ts n listed f L N:=by
 intro w hw
 rw[zV hR]
 exact h w (hw.perm hp)
def GU (P:Program) (l:List Oper) (is ts:List Nat) (listed:List Bool):Bool:=
 Region.noSelect l.toArray&&uk P l.toArray ts is listed.toArray&&ts.all fun t=> !listed.toArray.getD t true
def OwG.rest (is:List Nat) {m:Nat} (hm:m=is.length) (hB:GU P l is ts listed=true) (hl:is.map (fun i:Nat=>l[i]?)=(iB l is).map some)
  (h:nl (iB l is) fun l'=>Ow P w0 l.toArray (.sof R is ts) l' f L N):OwG P w0 l R ts m listed f L N:=by
 subst hm
 revert hl h
 generalize iB l is=l'
 intro hl h w hw
 simp only[GU,Bool.and_eq_true,List.all_eq_true,Bool.not_eq_true'] at hB
 obtain⟨⟨h1,h4⟩,h5⟩:=hB
 have aP:is.length=l'.length:=by have:=congrArg List.length hl;simpa using this
 have hF:Fits P l.toArray ts is l' listed.toArray:=⟨aP,fun j=>by
  have:=congrArg (·[j]?) hl
  simp only[List.getElem?_map] at this
  cases hj:is[j]? with
  |none=>
   rw[hj] at this
   simp only[Option.map_none] at this
   cases fY:l'[j]? with
   |none=>rfl
   |some x=>rw[fY] at this;cases this
  |some i=>
   rw[hj] at this
   simp only[Option.map_some] at this
   cases fY:l'[j]? with
   |none=>rw[fY] at this;cases this
   |some x=>
    rw[fY] at this
    simp only[Option.map_some,Option.some.injEq] at this
    simp[this],h1,h4⟩
 rw[aP]
 exact(h:Ow P w0 l.toArray (.sof R is ts) l' f L N) listed.toArray hF (fun t ht=>h5 t ht) w hw
end
def CutO {G:Type} (M:List Nat) (S:G→List (Nat×Value)) (H:G→aB) (J:G→Prop) (f f':Fr) (L':aB):Prop:=
 ∃g,J g∧L'=H g∧f'=pin (mQ (ec f') M 0 f) (S g)
def CutO.mk {G:Type} {M:List Nat} {S:G→List (Nat×Value)} {H:G→aB} {J:G→Prop} {f f':Fr} {L':aB} (g:G) (hJ:J g) (hL:L'=H g) (hf:f'=pin (mQ (ec f') M 0 f) (S g)):CutO M S H J f f' L':=⟨g,hJ,hL,hf⟩
def Cw.cutO {P:Program} {w0:World} {x y:Code} {f:Fr} {L:aB} {K:d9} {G:Type} (M:List Nat) (S:G→List (Nat×Value)) (H:G→aB) (J:G→Prop) (h1:Cw P w0 x f L (lR (CutO M S H J f) K))
  (h2: ∀ (g:G) (j:Nat→Value),J g→Cw P w0 y (pin (mQ j M 0 f) (S g)) (H g) K):Cw P w0 (.seq x y) f L K:=by
 refine Cw.seq (h1.mono fun e f' L' k=> ?_)
 cases e with
 |normal=>
  obtain⟨g,hJ,rfl,hf⟩:=k
  have:=h2 g (ec f') hJ
  rw[←hf] at this
  exact this
 |_=>exact k
end Go.Sx
namespace Go.Sx
open Go
section
variable {P:Program} {w0:World} {f:Fr} {L:aB} {N:Fr→aB→Prop} {ops:Array Oper} {rest:List Oper} {md:Md}
 {d:Option Tmp} {ty:TypeId} {ps:String} {af:Array Edge} {g:Option (Nat×Bool)}
def NC {w:World} {s dt t:TypeId} {b off:Nat} {m:Bool×Nat} {cs:Array Value} {E:TypeId} {fz:Nat×Nat} (hb:w.heap[b]? =some (.cells cs E fz)) (ho:off<cs.size) (hm:aR P t=some m) (vK:m.2≠0)
  (hs:P.underlying s=some (.pointer t)) (hd:P.underlying dt=some .unsafePointer): (convert s dt (vp b off)).run P w= .ok (vp b off) w:=by
 have gw:w.shape? b=some (E,cs.size):=by simp only[World.shape?,hb]
 have e1: ∀ {α β:Type} (a:α) (f:α→World→Result β),(Sem.run P (pure a) w).andThen f=f a w:=fun _ _=>rfl
 have e2: (shape b).run P w= .ok (some (E,cs.size)) w:=by show Result.ok (w.shape? b) w=_;rw[gw]
 have hv: (Conv.seenAt ⟨b,off,none⟩).run P w= .ok ⟨b,off,none⟩ w:=by
  simp only[Conv.seenAt,viewAt,Sem.run_bind,e2,Result.andThen_ok,Option.isSome_some, ↓reduceIte]
  rfl
 have Jj: (cellsIn b).run P w= .ok (some cs.size) w:=by
  simp only[cellsIn,Sem.run_bind,e2,Result.andThen_ok]
  rfl
 have qH: (decide (m.2=0) ||decide (off≥cs.size)&& (none:Option Nat).isNone)=false:=by
  have: ¬ (off≥cs.size):=by omega
  simp[vK,this]
 have hu: (Conv.unsafePointer s dt (vp b off)).run P w= .ok (vp b off) w:=by
  simp only[Conv.unsafePointer,vp,Sem.run_bind,run_underlying hs w,run_underlying hd w,Result.andThen_ok,hv,Jj,iT hm w]
  rw[if_neg (by rw[qH];simp)]
  rfl
 unfold convert
 simp only[vp,Sem.run_bind,run_underlying hs w,run_underlying hd w,Result.andThen_ok]
 exact hu
def NO {w:World} {s dt t:TypeId} {b off:Nat} {m:Bool×Nat} {cs:Array Value} {E:TypeId} {fz:Nat×Nat} (hb:w.heap[b]? =some (.cells cs E fz)) (hm:aR P t=some m) (hla:liesAt P P.depth E (cs.size / P.cellsOf E) off t 1=true)
  (hs:P.underlying s=some .unsafePointer) (hd:P.underlying dt=some (.pointer t)): (convert s dt (vp b off)).run P w= .ok (vp b off) w:=by
 have gw:w.shape? b=some (E,cs.size):=by simp only[World.shape?,hb]
 have e2: (shape b).run P w= .ok (some (E,cs.size)) w:=by show Result.ok (w.shape? b) w=_;rw[gw]
 have hv: (Conv.seenAt ⟨b,off,none⟩).run P w= .ok ⟨b,off,none⟩ w:=by
  simp only[Conv.seenAt,viewAt,Sem.run_bind,e2,Result.andThen_ok,Option.isSome_some, ↓reduceIte]
  rfl
 have hva: (variablesAt ⟨b,off,none⟩ t 1).run P w= .ok true w:=by
  simp only[variablesAt,program,Sem.run_bind]
  show Result.andThen (Result.ok P w) _=_
  simp only[Result.andThen_ok,e2]
  rw[hla]
  rfl
 have hu: (Conv.unsafePointer s dt (vp b off)).run P w= .ok (vp b off) w:=by
  simp only[Conv.unsafePointer,vp,Sem.run_bind,run_underlying hs w,run_underlying hd w,Result.andThen_ok,hv,iT hm w,hva]
  by_cases h0:m.2=0
  ·simp[h0]
  simp[h0]
 unfold convert
 simp only[vp,Sem.run_bind,run_underlying hs w,run_underlying hd w,Result.andThen_ok]
 exact hu
def Ow.toUnsafe {s dt t:TypeId} {x:Operand} {b off:Nat} {m:Bool×Nat} {cs:Array Value} {E:TypeId} {fz:Nat×Nat} {md':Md} (he:md.turn=some md') (qJ:bT ops f ⟨d, .convert s dt x,ty,ps,af,g⟩=false)
  (qB:cvT P s dt= .no) (hx:ev f x=vp b off) (hb:aU w0 L b=some (.cells cs E fz)) (ho:off<cs.size) (hm:aR P t=some m) (vK:m.2≠0) (hs:P.underlying s=some (.pointer t)) (hd:P.underlying dt=some .unsafePointer)
  (hn:Ow P w0 ops md' rest (al f d (vp b off)) L N):Ow P w0 ops md (⟨d, .convert s dt x,ty,ps,af,g⟩::rest) f L N:=by
 refine Ow.step he (by simp[gW,qB]) qJ fun w hw=> .inl ⟨vp b off,w,L, ?_,hw,hn⟩
 simp only[execOp,Sem.run_bind,hx,NC (hw.read hb) ho hm vK hs hd]
 rfl
def Ow.ofUnsafe {s dt t:TypeId} {x:Operand} {b off:Nat} {m:Bool×Nat} {cs:Array Value} {E:TypeId} {fz:Nat×Nat} {md':Md} (he:md.turn=some md') (qJ:bT ops f ⟨d, .convert s dt x,ty,ps,af,g⟩=false)
  (qB:cvT P s dt= .no) (hx:ev f x=vp b off) (hb:aU w0 L b=some (.cells cs E fz)) (hm:aR P t=some m) (hla:liesAt P P.depth E (cs.size / P.cellsOf E) off t 1=true) (hs:P.underlying s=some .unsafePointer) (hd:P.underlying dt=some (.pointer t))
  (hn:Ow P w0 ops md' rest (al f d (vp b off)) L N):Ow P w0 ops md (⟨d, .convert s dt x,ty,ps,af,g⟩::rest) f L N:=by
 refine Ow.step he (by simp[gW,qB]) qJ fun w hw=> .inl ⟨vp b off,w,L, ?_,hw,hn⟩
 simp only[execOp,Sem.run_bind,hx,NO (hw.read hb) hm hla hs hd]
 rfl
def Ow.neqSame {t t' e:TypeId} {x y:Operand} {b off:Nat} {m:Bool×Nat} (hs:bT ops f ⟨d, .binOp .neq t x y t',ty,ps,af,g⟩=false) (hu:P.underlying t=some (.pointer e)) (hm:aR P e=some m) (hx:ev f x=vp b off) (hy:ev f y=vp b off)
  (hn:Ow P w0 ops md.next rest (al f d (.bool false)) L N):Ow P w0 ops md (⟨d, .binOp .neq t x y t',ty,ps,af,g⟩::rest) f L N:=by
 refine Ow.pureV rfl hs (fun w=> ?_) hn
 have he: (Op.equal t (vp b off) (vp b off)).run P w= .ok true w:=by
  show(Op.equalIn 10000 t (vp b off) (vp b off)).run P w=_
  unfold Op.equalIn
  simp only[vp,Sem.run_bind,run_underlying hu w,Result.andThen_ok,iT hm w]
  by_cases h0:m.2=0
  ·simp[h0]
  simp only[h0,ne_eq,not_false_eq_true, ↓reduceIte,sameAddr,beq_self_eq_true]
  rfl
 simp only[execOp,Sem.run_bind,hx,hy]
 have hg: (eqGuard .neq t x y (vp b off) (vp b off)).run P w= .ok () w:=rfl
 have hb:binOp .neq t (vp b off) (vp b off)=(do pure (.bool (!(←Op.equal t (vp b off) (vp b off)))):Sem Value):=rfl
 rw[hg,Result.andThen_ok,hb,Sem.run_bind,he]
 rfl
def M1 {w0:World} {L:aB} {b c:Nat} {x:Obj} (h:b≠c):aU w0 (setB L b x) c=aU w0 L c:=by
 unfold aU;rw[bR h]
def Ow.callExt {l:List Operand} {ts:Array TypeId} {k:FuncId} {v:Value} {md':Md} (he:md.turn=some md')
  (hs:bT ops f ⟨d, .call ⟨.value (.func k),l.toArray,ts⟩,ty,ps,af,g⟩=false)
  (hv: ∀w,(callFunc k (l.map (ev f)).toArray).run P w= .ok (.value v) w)
  (hn:Ow P w0 ops md' rest (al f d v) L N):
  Ow P w0 ops md (⟨d, .call ⟨.value (.func k),l.toArray,ts⟩,ty,ps,af,g⟩::rest) f L N:=by
 refine Ow.step he rfl hs fun w hw=> .inl ⟨v,w,L, ?_,hw,hn⟩
 have:=hv w
 simp only[execOp,resolve,Deferred.ofValue,ev,Sem.run_bind,Sem.run_pure,Result.andThen_ok,invoke]
 simpa using this
def Ow.minI {x y:Operand} {ts:Array TypeId} {a b:Int} (hs:bT ops f ⟨d, .call ⟨.builtin .min, #[x,y],ts⟩,ty,ps,af,g⟩=false) (hx:ev f x=vi a) (hy:ev f y=vi b)
  (hn:Ow P w0 ops md.next rest (al f d (vi (if b<a then b else a))) L N):Ow P w0 ops md (⟨d, .call ⟨.builtin .min, #[x,y],ts⟩,ty,ps,af,g⟩::rest) f L N:=by
 refine Ow.calm rfl rfl hs (fun w hw=> .inl ⟨vi (if b<a then b else a),w,L, ?_,hw,rfl,rfl⟩) hn
 simp only[execOp,resolve,Sem.run_bind,Sem.run_pure,Result.andThen_ok,invoke,builtin,List.map_toArray,List.map_cons,List.map_nil,hx,hy]
 rfl
def Ow.maxI {x y:Operand} {ts:Array TypeId} {a b:Int} (hs:bT ops f ⟨d, .call ⟨.builtin .max, #[x,y],ts⟩,ty,ps,af,g⟩=false) (hx:ev f x=vi a) (hy:ev f y=vi b)
  (hn:Ow P w0 ops md.next rest (al f d (vi (if b>a then b else a))) L N):Ow P w0 ops md (⟨d, .call ⟨.builtin .max, #[x,y],ts⟩,ty,ps,af,g⟩::rest) f L N:=by
 refine Ow.calm rfl rfl hs (fun w hw=> .inl ⟨vi (if b>a then b else a),w,L, ?_,hw,rfl,rfl⟩) hn
 simp only[execOp,resolve,Sem.run_bind,Sem.run_pure,Result.andThen_ok,invoke,builtin,List.map_toArray,List.map_cons,List.map_nil,hx,hy]
 rfl
end
structure Ext (w:World) (X D:aB):Prop where
 new: ∀c,c∈keys D→c∈keys X∨w.heap.size≤c
 all: ∀c,c∈keys X→c∈keys D
def Ext.refl (w:World) (X:aB):Ext w X X:=⟨fun _ h=> .inl h,fun _ h=>h⟩
theorem Ext.setB {w:World} {X D:aB} {b:Nat} {o:Obj} (h:Ext w X D):Ext w X (setB D b o):=⟨fun c hc=>h.new c (by rwa [l5] at hc),fun c hc=>by rw[l5];exact h.all c hc⟩
def Ext.app {w:World} {X D:aB} {b:Nat} {o:Obj} (h:Ext w X D) (hb:w.heap.size≤b):Ext w X (D++ [(b,o)]):=
 ⟨fun c hc=>by
  rw[ao] at hc
  rcases List.mem_append.1 hc with hc|hc
  ·exact h.new c hc
  simp only[keys,List.map_cons,List.map_nil,List.mem_singleton] at hc
  exact .inr (hc▸hb),fun c hc=>by rw[ao];exact cz _ (h.all c hc)⟩
def Ext.grew {w:World} {X D D':aB} {v:Value} (h:Ext w X D) (hg:Grew w v D D'):Ext w X D':=
 ⟨fun c hc=>by
  rcases hg.new c hc with hc| ⟨-,hc⟩
  ·exact h.new c hc
  exact .inr hc,fun c hc=>hg.keys c (h.all c hc)⟩
theorem Ext.keys {w:World} {X D D':aB} (h:Ext w X D) (hk:Sx.keys D'=Sx.keys D):Ext w X D':=⟨fun c hc=>h.new c (hk▸hc),fun c hc=>hk▸h.all c hc⟩
def jn {w0:World} {L:aB} {b:Nat} (h:b∉Sx.keys L):aU w0 L b=w0.heap[b]? :=by
 unfold aU
 cases hl:look L b with
 |none=>rfl
 |some o=>exact absurd (bY hl) h
def Ext.not {w:World} {X D:aB} (h:Ext w X D) {b:Nat} (hb:b<w.heap.size) (hn:b∉Sx.keys X):b∉Sx.keys D:=fun hm=>by
 rcases h.new b hm with h|h
 ·exact hn h
 omega
def Ext.old {w:World} {X D:aB} (h:Ext w X D) {b:Nat} {o:Obj} (hb:w.heap[b]? =some o) (hn:b∉Sx.keys X):aU w D b=some o:=by
 rw[jn (h.not (Array.getElem?_eq_some_iff.1 hb).1 hn)];exact hb
def XS (w:World) (X:aB) (S:Value→aB→Prop) (v:Value) (D:aB):Prop:=Ext w X D∧S v D
structure Came (w0:World) (L X D:aB):Prop where
 new: ∀c,c∈Sx.keys D→c∈Sx.keys X∨(fU L c∧w0.heap.size≤c)
 all: ∀c,c∈Sx.keys X→c∈Sx.keys D
def Ext.came {w:World} {X D D' Y L:aB} (h:Ext w X (D++Y)) (hc:Came w L D D'):Ext w X (D'++Y):=by
 refine⟨fun c hm=> ?_,fun c hm=> ?_⟩
 ·rw[ao] at hm
  rcases List.mem_append.1 hm with hm|hm
  ·rcases hc.new c hm with hm| ⟨-,hm⟩
   ·exact h.new c (by rw[ao];exact cz _ hm)
   exact .inr hm
  exact h.new c (by rw[ao];exact dJ _ hm)
 have:=h.all c hm
 rw[ao] at this ⊢
 rcases List.mem_append.1 this with hm|hm
 ·exact cz _ (hc.all c hm)
 exact dJ _ hm
def Ext.came0 {w:World} {X D D' L:aB} (h:Ext w X D) (hc:Came w L D D'):Ext w X D':=by
 have:=Ext.came (Y:= []) (by simpa using h) hc
 simpa using this
def Hp.ownX {w0 w:World} {X:aB} (h:Hp w0 [] w) (hX: ∀p,p∈X→w0.heap[p.1]? =some p.2) (hn: (keys X).Nodup):Hp w0 X w:=by
 refine⟨fun b o hm=> ?_,hn,fun b hb _=>h.old b hb (by simp[keys]),h.size,h.tape,h.os,h.output⟩
 have:=hX (b,o) hm
 simp only at this
 rw[h.old b (Array.getElem?_eq_some_iff.1 this).1 (by simp[keys])]
 exact this
def Rets.enterX {P:Program} {k:FuncId} {fn:Func} {c:Code} {rs:List ResultVar} {args:Array Value} {w:World} {S:Value→aB→Prop} {n:Nat} {X:aB}
  (hf:P.funcs[k]? =some fn) (hb:fn.body=some c) (hr:fn.results=rs.toArray) (hn:fn.ntmps=n) (hX: ∀p,p∈X→w.heap[p.1]? =some p.2) (bA: (keys X).Nodup)
  (h:Cw P w c (args.toList++List.replicate (n - args.size) undef) X (retK P w rs (XS w X S))):Rets P k args w (XS w X S):=
 Rets.enter hf hb hr hn fun w' aA=>h w' (aA.ownX hX bA)
section
variable {P:Program} {w0:World} {f:Fr} {L:aB} {N:Fr→aB→Prop} {ops:Array Oper} {rest:List Oper} {md:Md}
 {d:Option Tmp} {ty:TypeId} {ps:String} {af:Array Edge} {g:Option (Nat×Bool)}
def Ow.callX {l:List Operand} {ts:Array TypeId} {k:FuncId} {X Y:aB} {S:Value→aB→Prop} {md':Md} (hL:L=X++Y) (he:md.turn=some md')
  (hs:bT ops f ⟨d, .call ⟨.value (.func k),l.toArray,ts⟩,ty,ps,af,g⟩=false)
  (hk: ∀a w,(callFunc k a).run P w= .ok (.enter k a) w)
  (hc: ∀w,Hp w0 L w→(∀p,p∈X→w.heap[p.1]? =some p.2)→(keys X).Nodup→Rets P k (l.map (ev f)).toArray w (XS w X S))
  (hn: ∀v D,Came w0 L X D→S v D→Ow P w0 ops md' rest (al f d v) (D++Y) N):
  Ow P w0 ops md (⟨d, .call ⟨.value (.func k),l.toArray,ts⟩,ty,ps,af,g⟩::rest) f L N:=by
 subst hL
 have bA: ∀w,Hp w0 (X++Y) w→(keys X).Nodup∧ ∀c,c∈keys Y→c∉keys X:=by
  intro w hw
  have:=hw.nodup
  rw[ao,List.nodup_append] at this
  exact⟨this.1,fun c hc hx=>this.2.2 c hx c hc rfl⟩
 refine Ow.callF (S:=fun B v D=>((∀c,c∈keys D→c∈keys X∨B≤c)∧(∀c,c∈keys X→c∈keys D)∧S v D)∧ ∃w,Hp w0 (X++Y) w∧w.heap.size=B) he hs hk (fun w hw=> ?_) ?_
 ·refine Calls.mono (hc w hw (fun p hp=>hw.has _ _ (cz _ hp)) (bA w hw).1) ?_
  rintro e w' ⟨v,D,he,hp,hS⟩
  exact⟨v,D,he,hp,⟨hS.1.new,hS.1.all,hS.2⟩,w,hw,rfl⟩
 rintro B v D gR hB ⟨⟨h1,h2,h3⟩,w1,aI,hwB⟩
 refine⟨D++Y, ?_,hn v D ⟨fun c hc=>(h1 c hc).imp id fun h=>⟨io fun b hb=>by have:=aI.lt hb;omega,by have:=aI.size;omega⟩,h2⟩ h3⟩
 intro w w' yv h k
 have ht:=h.trans k
 have hY: ∀c,c∈keys Y→c∉keys D:=by
  intro c hc hd
  rcases h1 c hd with hx|hx
  ·exact(bA w h).2 c hc hx
  have:=h.lt (b:=c) (by rw[ao];exact dJ _ hc)
  omega
 have e1:X.filter (fun p=> !(keys D).contains p.1)= []:=by
  rw[List.filter_eq_nil_iff]
  intro p hp
  have:=h2 p.1 (List.mem_map.2 ⟨p,hp,rfl⟩)
  simpa using this
 have e2:Y.filter (fun p=> !(keys D).contains p.1)=Y:=A7 hY
 rw[List.filter_append,e1,e2,List.nil_append] at ht
 refine ht.same (fun p=>by simp[or_comm]) ?_
 have:=ht.nodup
 rw[ao] at this ⊢
 exact(List.perm_append_comm.nodup_iff).1 this
end
structure OneS {α:Type} (enc:α→Value) (z:α) (w:World) (v:Value) (l:List α) (b off:Nat) (arr:Array Value) (E:TypeId) (fz:Nat×Nat):Prop where
 len: ∀m,gY (.sl m) v=some (vi l.length)
 idx: ∀m (k:Nat),k<l.length→i_ (.sl m) v (some (k:Int))=some (vp b (off+k*m.2))
 has:0<l.length→w.heap[b]? =some (.cells arr E fz)
 get: ∀k,k<l.length→arr[off+k]? =some (enc (l.getD k z))
def OneS.sl {α:Type} {enc:α→Value} {z:α} {w:World} {l:List α} {b off n c:Nat} {arr:Array Value} {E:TypeId} {fz:Nat×Nat} (hn:n=l.length)
  (has:w.heap[b]? =some (.cells arr E fz)) (get: ∀k,k<l.length→arr[off+k]? =some (enc (l.getD k z))):OneS enc z w (vsl b off n c) l b off arr E fz:=by
 subst hn
 exact⟨fun _=>rfl,fun m k h=>by rw[pS _ _ _ _ _ _ oM];simp,fun _=>has,get⟩
def OneS.lit {α:Type} {enc:α→Value} {z:α} {w:World} {b n c:Nat} {E:TypeId} {fz:Nat×Nat} {arr:Array Value} (l:List α) (hn:n=l.length) (ha:arr=(l.map enc).toArray) (has:w.heap[b]? =some (.cells arr E fz)):OneS enc z w (vsl b 0 n c) l b 0 arr E fz:=
 OneS.sl hn has (by intro k hk;rw[ha,Nat.zero_add,List.getElem?_toArray,List.getElem?_map,List.getD_eq_getElem?_getD,List.getElem?_eq_getElem hk];rfl)
structure RowS {α:Type} (m:Nat) (enc:α→List Value) (z:α) (w:World) (v:Value) (l:List α) (b off:Nat) (arr:Array Value) (E:TypeId) (fz:Nat×Nat):Prop where
 len: ∀x,gY (.sl x) v=some (vi l.length)
 idx: ∀a (k:Nat),k<l.length→i_ (.sl (a,m)) v (some (k:Int))=some (vp b (off+k*m))
 has:0<l.length→w.heap[b]? =some (.cells arr E fz)
 get: ∀k,k<l.length→ ∀j,j<m→arr[off+k*m+j]? =(enc (l.getD k z))[j]?
def RowS.sl {α:Type} {m:Nat} {enc:α→List Value} {z:α} {w:World} {l:List α} {b off n c:Nat} {arr:Array Value} {E:TypeId} {fz:Nat×Nat} (hn:n=l.length)
  (has:w.heap[b]? =some (.cells arr E fz)) (get: ∀k,k<l.length→ ∀j,j<m→arr[off+k*m+j]? =(enc (l.getD k z))[j]?):RowS m enc z w (vsl b off n c) l b off arr E fz:=by
 subst hn
 exact⟨fun _=>rfl,fun a k h=>by rw[pS _ _ _ _ _ _ oM];simp,fun _=>has,get⟩
def RowS.nil {α:Type} {m:Nat} {enc:α→List Value} {z:α} (w:World) (n c:Nat) (hn:n=0):RowS m enc z w (.slice none n c) [] 0 0 #[] 0 (0,0):=by
 subst hn
 exact⟨fun _=>rfl,fun _ _ h=>absurd h (Nat.not_lt_zero _),fun h=>absurd h (Nat.not_lt_zero _),fun _ h=>absurd h (Nat.not_lt_zero _)⟩
def RowS.load {α:Type} {m:Nat} {enc:α→List Value} {z:α} {w:World} {v:Value} {l:List α} {b off:Nat} {arr:Array Value} {E:TypeId} {fz:Nat×Nat} (h:RowS m enc z w v l b off arr E fz) (hm: ∀x,(enc x).length=m) (h0:0<m) {k:Nat} (hk:k<l.length):
  aG (some (true,m)) (some (.cells arr E fz)) (off+k*m)=some (.agg (enc (l.getD k z)).toArray):=by
 have hg:=h.get k hk
 have g_:off+k*m+m≤arr.size:=by
  have h1:=hg (m - 1) oM
  rw[List.getElem?_eq_getElem (by rw[hm];omega)] at h1
  have:=(Array.getElem?_eq_some_iff.1 h1).1
  omega
 simp only[aG,g_, ↓reduceIte]
 congr 2
 apply Array.ext_getElem?
 intro j
 rw[Array.getElem?_extract]
 by_cases hj:j<m
 ·rw[if_pos oM,hg j hj,List.getElem?_toArray]
 rw[if_neg oM,List.getElem?_toArray,List.getElem?_eq_none (by rw[hm];omega)]
def RowS.cell {α:Type} {m:Nat} {enc:α→List Value} {z:α} {w:World} {v:Value} {l:List α} {b off:Nat} {arr:Array Value} {E:TypeId} {fz:Nat×Nat} (h:RowS m enc z w v l b off arr E fz) {k j n:Nat} (hk:k<l.length) (hj:j<m):
  aG (some (false,n)) (some (.cells arr E fz)) (off+k*m+j)=(enc (l.getD k z))[j]? :=h.get k hk j hj
end Go.Sx
