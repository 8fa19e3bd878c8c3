/-
  Part 0 of the walk: contracts of the functions that the law reaches, and the calculus they stand on.
  No conditions.
-/
import Derived.WalkKit
import Derived.Deep.LoopGhost
import Derived.ScopeJumps
namespace Go.Sx
open Go
abbrev za_:=List (Nat×Obj)
def keys (L:za_):List Nat:=L.map Prod.fst
def look:za_→Nat→Option Obj
 | [],_=>none
 | (b,o)::r,k=>if b=k then some o else look r k
def setB:za_→Nat→Obj→za_
 | [],_,_=> []
 | (b,o)::r,k,x=>if b=k then(b,x)::r else(b,o)::setB r k x
theorem zi_ {L:za_} {k:Nat} {o:Obj} (h:look L k=some o): (k,o)∈L:=by
 induction L with
 |nil=>cases h
 |cons p r ih=>
  obtain⟨b,x⟩:=p
  unfold look at h
  split at h
  ·rename_i e
   cases h;subst e;exact List.mem_cons_self
  ·exact List.mem_cons_of_mem _ (ih h)
theorem ve_ {L:za_} {k:Nat} (h:look L k=none):k∉keys L:=by
 induction L with
 |nil=>intro h;cases h
 |cons p r ih=>
  obtain⟨b,x⟩:=p
  unfold look at h
  split at h
  ·cases h
  ·rename_i e
   intro hm
   rcases List.mem_cons.1 hm with h'|h'
   ·exact e h'.symm
   ·exact ih h h'
theorem qe_ (L:za_) (k:Nat) (x:Obj):keys (setB L k x)=keys L:=by
 induction L with
 |nil=>rfl
 |cons p r ih=>
  obtain⟨b,o⟩:=p
  unfold setB
  split
  ·rfl
  ·simp only[keys,List.map_cons] at ih ⊢
   rw[ih]
theorem Xo_ {L:za_} (hn: (keys L).Nodup) {k b:Nat} {x o:Obj} (h: (b,o)∈setB L k x): (b=k∧o=x)∨(b≠k∧(b,o)∈L):=by
 induction L with
 |nil=>cases h
 |cons p r ih=>
  obtain⟨c,y⟩:=p
  simp only[keys,List.map_cons,List.nodup_cons] at hn
  unfold setB at h
  split at h
  ·rename_i e
   rcases List.mem_cons.1 h with h'|h'
   ·simp only[Prod.mk.injEq] at h'
    exact .inl ⟨h'.1.trans e,h'.2⟩
   ·refine .inr ⟨?_,List.mem_cons_of_mem _ h'⟩
    intro e2
    exact hn.1 (by rw[e,←e2];exact List.mem_map.2 ⟨_,h',rfl⟩)
  ·rename_i e
   rcases List.mem_cons.1 h with h'|h'
   ·simp only[Prod.mk.injEq] at h'
    refine .inr ⟨by rw[h'.1];exact e, ?_⟩
    rw[h'.1,h'.2];exact List.mem_cons_self
   ·rcases ih hn.2 h' with h2|h2
    ·exact .inl h2
    ·exact .inr ⟨h2.1,List.mem_cons_of_mem _ h2.2⟩
structure Hp (w0:World) (L:za_) (w:World):Prop where
 has: ∀b o,(b,o)∈L→w.heap[b]? =some o
 nodup: (keys L).Nodup
 old: ∀b,b<w0.heap.size→b∉keys L→w.heap[b]? =w0.heap[b]?
 size:w0.heap.size≤w.heap.size
 tape:w.tape=w0.tape
 os:w.os=w0.os
 output:w.output=w0.output
theorem Hp.refl (w:World):Hp w [] w:=
 ⟨fun _ _ h=>(by cases h),List.nodup_nil,fun _ _ _=>rfl,Nat.le_refl _,rfl,rfl,rfl⟩
theorem Hp.lt {w0 w:World} {L:za_} (h:Hp w0 L w) {b:Nat} (hb:b∈keys L):b<w.heap.size:=by
 obtain⟨p,hp,rfl⟩:=List.mem_map.1 hb
 have:=h.has p.1 p.2 hp
 exact(Array.getElem?_eq_some_iff.1 this).1
theorem Hp.of_heap {w0 w w':World} {L:za_} (h:Hp w0 L w) (hh:w'.heap=w.heap) (ht:w'.tape=w.tape) (ho:w'.os=w.os) (hu:w'.output=w.output):Hp w0 L w':=
 ⟨by rw[hh];exact h.has,h.nodup,by rw[hh];exact h.old,by rw[hh];exact h.size,ht.trans h.tape,ho.trans h.os,hu.trans h.output⟩
theorem Hp.drew {w0 w:World} {L:za_} (h:Hp w0 L w):Hp w0 L w.drew:=h.of_heap rfl rfl rfl rfl
theorem Hp.alloc {w0 w:World} {L:za_} (h:Hp w0 L w) (o:Obj):Hp w0 (L++ [(w.heap.size,o)]) (w.alloc o):=by
 have hk: ∀b,b∈keys (L++ [(w.heap.size,o)])→b∈keys L∨b=w.heap.size:=by
  intro b hb
  simp only[keys,List.map_append,List.map_cons,List.map_nil,List.mem_append,List.mem_singleton] at hb
  exact hb
 refine⟨?_, ?_, ?_, ?_,h.tape,h.os,h.output⟩
 ·intro b x hm
  rcases List.mem_append.1 hm with hm|hm
  ·have hlt:b<w.heap.size:=h.lt (List.mem_map.2 ⟨_,hm,rfl⟩)
   rw[RowKit.Below.heap_alloc w o b hlt];exact h.has b x hm
  ·simp only[List.mem_singleton,Prod.mk.injEq] at hm
   rw[hm.1,hm.2];exact(by show(w.heap.push o)[w.heap.size]? =some o;simp)
 ·simp only[keys,List.map_append,List.map_cons,List.map_nil]
  refine List.nodup_append.2 ⟨h.nodup,List.pairwise_singleton _ _, ?_⟩
  intro a ha b hb
  simp only[List.mem_singleton] at hb
  have:=h.lt ha
  omega
 ·intro b hb hn
  rw[RowKit.Below.heap_alloc w o b (Nat.lt_of_lt_of_le hb h.size)]
  refine h.old b hb (fun hm=>hn ?_)
  simp only[keys,List.map_append,List.mem_append]
  exact .inl hm
 ·rw[World.size_alloc];have:=h.size;omega
theorem Hp.set {w0 w w':World} {L:za_} (h:Hp w0 L w) {b:Nat} {x:Obj} (hb:b∈keys L) (hh:w'.heap=w.heap.setIfInBounds b x)
  (ht:w'.tape=w.tape) (ho:w'.os=w.os) (hu:w'.output=w.output):Hp w0 (setB L b x) w':=by
 have hlt:=h.lt hb
 refine⟨?_,by rw[qe_];exact h.nodup, ?_, ?_,ht.trans h.tape,ho.trans h.os,hu.trans h.output⟩
 ·intro c o hm
  rw[hh]
  rcases Xo_ h.nodup hm with⟨rfl,rfl⟩ | ⟨hne,hm'⟩
  ·simp[hlt]
  ·rw[Array.getElem?_setIfInBounds_ne (Ne.symm hne)];exact h.has c o hm'
 ·intro c hc hn
  rw[qe_] at hn
  have hne:b≠c:=fun e=>hn (e▸hb)
  rw[hh,Array.getElem?_setIfInBounds_ne hne]
  exact h.old c hc hn
 ·rw[hh];simpa using h.size
theorem Hp.own {w0 w:World} {L:za_} (h:Hp w0 L w) {b:Nat} {o:Obj} (hb:w0.heap[b]? =some o) (hn:b∉keys L):Hp w0 (L++ [(b,o)]) w:=by
 have hlt:b<w0.heap.size:=(Array.getElem?_eq_some_iff.1 hb).1
 refine⟨?_, ?_, ?_,h.size,h.tape,h.os,h.output⟩
 ·intro c x hm
  rcases List.mem_append.1 hm with hm|hm
  ·exact h.has c x hm
  ·simp only[List.mem_singleton,Prod.mk.injEq] at hm
   rw[hm.1,hm.2,h.old b hlt hn];exact hb
 ·simp only[keys,List.map_append,List.map_cons,List.map_nil]
  refine List.nodup_append.2 ⟨h.nodup,List.pairwise_singleton _ _, ?_⟩
  intro a ha c hc
  simp only[List.mem_singleton] at hc
  subst hc
  exact fun e=>hn (e▸ha)
 ·intro c hc hm
  exact h.old c hc (fun hm'=>hm (by simp only[keys,List.map_append,List.mem_append];exact .inl hm'))
theorem Hp.drop {w0 w:World} {L M:za_} (h:Hp w0 L w) (hM: ∀p∈M,p∈L) (hn: (keys M).Nodup) (hold: ∀p∈L,p.1<w0.heap.size→p.1∉keys M→w0.heap[p.1]? =some p.2):Hp w0 M w:=by
 refine⟨fun b o hm=>h.has b o (hM _ hm),hn, ?_,h.size,h.tape,h.os,h.output⟩
 intro b hb hm
 by_cases hk:b∈keys L
 ·obtain⟨p,hp,rfl⟩:=List.mem_map.1 hk
  rw[h.has _ _ hp,hold p hp hb hm]
 ·exact h.old b hb hk
theorem Hp.trans {w0 w w':World} {L D:za_} (h:Hp w0 L w) (k:Hp w D w'):Hp w0 (L.filter (fun p=> !(keys D).contains p.1)++D) w':=by
 have hf: ∀b,b∈keys (L.filter (fun p=> !(keys D).contains p.1))↔b∈keys L∧b∉keys D:=by
  intro b
  constructor
  ·intro hb
   obtain⟨p,hp,rfl⟩:=List.mem_map.1 hb
   have:=List.mem_filter.1 hp
   refine⟨List.mem_map.2 ⟨p,this.1,rfl⟩, ?_⟩
   simpa using this.2
  ·rintro⟨hb,hn⟩
   obtain⟨p,hp,rfl⟩:=List.mem_map.1 hb
   exact List.mem_map.2 ⟨p,List.mem_filter.2 ⟨hp,by simpa using hn⟩,rfl⟩
 refine⟨?_, ?_, ?_,Nat.le_trans h.size k.size,k.tape.trans h.tape,k.os.trans h.os,k.output.trans h.output⟩
 ·intro b o hm
  rcases List.mem_append.1 hm with hm|hm
  ·have hb:b∈keys (L.filter (fun p=> !(keys D).contains p.1)):=List.mem_map.2 ⟨_,hm,rfl⟩
   have hb':=(hf b).1 hb
   rw[k.old b (h.lt hb'.1) hb'.2]
   exact h.has b o (List.mem_filter.1 hm).1
  ·exact k.has b o hm
 ·simp only[keys,List.map_append]
  refine List.nodup_append.2 ⟨?_,k.nodup, ?_⟩
  ·exact List.Nodup.sublist (List.Sublist.map _ List.filter_sublist) h.nodup
  ·intro a ha b hb e
   exact((hf a).1 ha).2 (e▸hb)
 ·intro b hb hn
  have hn':b∉keys L∧b∉keys D:=by
   simp only[keys,List.map_append,List.mem_append,not_or] at hn
   have hD:b∉keys D:=hn.2
   exact⟨fun hm=>hn.1 ((hf b).2 ⟨hm,hD⟩),hD⟩
  rw[k.old b (Nat.lt_of_lt_of_le hb h.size) hn'.2]
  exact h.old b hb hn'.1
theorem Hp.trans_nil {w0 w w':World} {L:za_} (h:Hp w0 L w) (k:Hp w [] w'):Hp w0 L w':=by
 have:=h.trans k
 rwa [show L.filter (fun p=> !(keys ([]:za_)).contains p.1)++ []=L from by simp[keys]] at this
def zm_ (w0:World) (L:za_) (b:Nat):Option Obj:=
 match look L b with
 |some o=>some o
 |none=>w0.heap[b]?
theorem Hp.read {w0 w:World} {L:za_} (h:Hp w0 L w) {b:Nat} {o:Obj} (hr:zm_ w0 L b=some o):w.heap[b]? =some o:=by
 unfold zm_ at hr
 split at hr
 ·rename_i o' hl
  cases hr
  exact h.has _ _ (zi_ hl)
 ·rename_i hl
  rw[h.old b (Array.getElem?_eq_some_iff.1 hr).1 (ve_ hl)]
  exact hr
abbrev Fr:=List Value
def xG_:Fr→Nat→Value
 | [],_=>undef
 |v::_,0=>v
 |_::r,n+1=>xG_ r n
def ZP_:Fr→Nat→Value→Fr
 | [],_,_=> []
 |_::r,0,x=>x::r
 |v::r,n+1,x=>v::ZP_ r n x
def zR_ (f:Fr):Option Tmp→Value→Fr
 |some d,v=>ZP_ f d v
 |none,_=>f
def ev (f:Fr):Operand→Value
 | .tmp t=>xG_ f t
 | .const v=>v
 | .global g=> .pointer (some ⟨g,0,none⟩)
 | .func k=> .func (.func k) #[] #[]
theorem wZ_ (f:Fr) (t:Nat):f.toArray.getD t undef=xG_ f t:=by
 rw[Array.getD_eq_getD_getElem?,List.getElem?_toArray]
 induction f generalizing t with
 |nil=>rfl
 |cons v r ih=>cases t<;>simp[xG_,ih]
theorem W6_ (f:Fr) (d:Nat) (v:Value):f.toArray.setIfInBounds d v=(ZP_ f d v).toArray:=by
 rw[List.setIfInBounds_toArray]
 congr 1
 induction f generalizing d with
 |nil=>rfl
 |cons x r ih=>cases d<;>simp[ZP_,ih]
def act (f:Fr):Act:=⟨f.toArray,[]⟩
theorem Xy_ (f:Fr) (x:Operand): (act f).eval x=ev f x:=by
 cases x with
 |tmp t=>exact wZ_ f t
 |_=>rfl
theorem z7_ (f:Fr): (act f).eval=ev f:=funext (Xy_ f)
theorem zr_ (f:Fr) (d:Option Tmp) (v:Value): (act f).put d v=act (zR_ f d v):=by
 cases d with
 |none=>rfl
 |some d=>simp only[act,Act.put,zR_,W6_]
theorem ZH_ {a:Act} (h:a.defers= []):a=act a.tmps.toList:=by
 cases a with
 |mk t d=>simp only at h;subst h;simp[act]
abbrev q4_:=Exit→Fr→za_→Prop
def post (w0:World) (K:q4_) (e:Exit) (a:Act) (w:World):Prop:=a.defers= []∧ ∃L,Hp w0 L w∧K e a.tmps.toList L
def Cw (P:Program) (w0:World) (c:Code) (f:Fr) (L:za_) (K:q4_):Prop:=
 ∀w,Hp w0 L w→c.wp P (post w0 K) (act f) w
def xL_ (N:Fr→za_→Prop) (K:q4_):q4_
 | .normal=>N
 | .exit i=>K (.exit i)
 | .goto i=>K (.goto i)
 | .ret=>K .ret
 | .panic c=>K (.panic c)
 | .outgrown=>K .outgrown
def q0_ (id:Nat) (K:q4_):q4_
 | .normal=>K .normal
 | .exit i=>if i=id then K .normal else K (.exit i)
 | .goto i=>K (.goto i)
 | .ret=>K .ret
 | .panic c=>K (.panic c)
 | .outgrown=>K .outgrown
section
variable {P:Program} {w0:World} {f:Fr} {L:za_} {K:q4_}
theorem Cw.mono {c:Code} {K':q4_} (h:Cw P w0 c f L K) (hk: ∀e f L,K e f L→K' e f L):Cw P w0 c f L K':=
 fun w hw=>wp_mono (h w hw) fun _ _ _ ⟨hd,L',hp,k⟩=>⟨hd,L',hp,hk _ _ _ k⟩
theorem Cw.seq {x y:Code} (h:Cw P w0 x f L (xL_ (fun f L=>Cw P w0 y f L K) K)):Cw P w0 (.seq x y) f L K:=by
 intro w hw
 refine wp_seq (wp_mono (h w hw) ?_)
 rintro e a w' ⟨hd,L',hp,k⟩
 cases e with
 |normal=>
  have:=k w' hp
  rw[←ZH_ hd] at this
  exact this
 |_=>exact⟨hd,L',hp,k⟩
theorem Cw.skip (h:K .normal f L):Cw P w0 .skip f L K:=fun w hw=>wp_skip ⟨rfl,L,hw,by simpa [act] using h⟩
theorem Cw.label {l:Nat} (h:K .normal f L):Cw P w0 (.label l) f L K:=fun w hw=>wp_label ⟨rfl,L,hw,by simpa [act] using h⟩
theorem Cw.exit {i:Nat} (h:K (.exit i) f L):Cw P w0 (.exit i) f L K:=fun w hw=>wp_exit ⟨rfl,L,hw,by simpa [act] using h⟩
theorem Cw.goto {i:Nat} (h:K (.goto i) f L):Cw P w0 (.goto i) f L K:=fun w hw=>wp_goto ⟨rfl,L,hw,by simpa [act] using h⟩
theorem Cw.ret (h:K .ret f L):Cw P w0 .ret f L K:=fun w hw=>wp_ret ⟨rfl,L,hw,by simpa [act] using h⟩
theorem Cw.cond {c:Operand} {x y:Code} {b:Bool} (hc:ev f c= .bool b) (ht:b=true→Cw P w0 x f L K) (he:b=false→Cw P w0 y f L K):Cw P w0 (.cond c x y) f L K:=by
 intro w hw
 have hc': (act f).eval c= .bool b:=(Xy_ f c).trans hc
 cases b with
 |true=>exact wp_cond_true hc' (ht rfl w hw)
 |false=>exact wp_cond_false hc' (he rfl w hw)
theorem Cw.block {id:Nat} {c:Code} (h:Cw P w0 c f L (q0_ id K)):Cw P w0 (.block id c) f L K:=by
 intro w hw
 refine wp_block (wp_mono (h w hw) ?_)
 rintro e a w' ⟨hd,L',hp,k⟩
 cases e with
 |exit i=>
  simp only[Exit.inBlock]
  simp only[q0_] at k
  split
  ·rename_i e;rw[if_pos e] at k;exact⟨hd,L',hp,k⟩
  ·rename_i e;rw[if_neg e] at k;exact⟨hd,L',hp,k⟩
 |_=>exact⟨hd,L',hp,k⟩
theorem Cw.loop {c:Code} (I:Nat→Fr→za_→Prop) (n0:Nat) (h0:I n0 f L)
  (round: ∀n f L,I n f L→Cw P w0 c f L (xL_ (fun f' L'=> ∃n',n'<n∧I n' f' L') K)):Cw P w0 (.loop c) f L K:=by
 intro w hw
 refine wp_loop_ghost (fun n a w=>a.defers= []∧ ∃L,Hp w0 L w∧I n a.tmps.toList L) n0 ⟨rfl,L,hw,by simpa [act] using h0⟩ ?_
 rintro n a w ⟨hd,L,hp,hI⟩
 have:=round n _ _ hI w hp
 rw[←ZH_ hd] at this
 refine wp_mono this ?_
 rintro e a' w' ⟨hd',L',hp',k⟩
 cases e with
 |normal=>
  obtain⟨n',hlt,hI'⟩:=k
  exact⟨n',hlt,hd',L',hp',hI'⟩
 |_=>exact⟨hd',L',hp',k⟩
end
def over (j:Nat→Value) (M:List Nat) (f:Fr):Fr:=f.zipIdx.map fun p=>if M.contains p.2 then j p.2 else p.1
def pin (f:Fr):List (Nat×Value)→Fr
 | []=>f
 | (t,v)::r=>pin (ZP_ f t v) r
def qj_ (j:Nat→Value) (M:List Nat):Nat→Fr→Fr
 |_,[]=> []
 |n,v::r=>(if M.contains n then j n else v)::qj_ j M (n+1) r
def Again {G:Type} (M:List Nat) (S:G→List (Nat×Value)) (H:G→za_) (J:G→Prop) (μ:G→Nat) (f:Fr) (g:G) (f':Fr) (L':za_):Prop:=
 ∃g',μ g'<μ g∧J g'∧L'=H g'∧f'=pin (qj_ (xG_ f') M 0 f) (S g')
theorem Again.mk {G:Type} {M:List Nat} {S:G→List (Nat×Value)} {H:G→za_} {J:G→Prop} {μ:G→Nat} {f:Fr} {g:G} {f':Fr} {L':za_} (g':G)
  (hμ:μ g'<μ g) (hJ:J g') (hL:L'=H g') (hf:f'=pin (qj_ (xG_ f') M 0 f) (S g')):Again M S H J μ f g f' L':=⟨g',hμ,hJ,hL,hf⟩
section
variable {P:Program} {w0:World} {f:Fr} {L:za_} {K:q4_}
theorem Cw.loopG {c:Code} {G:Type} (M:List Nat) (S:G→List (Nat×Value)) (H:G→za_) (J:G→Prop) (μ:G→Nat) (g0:G)
  (hf:f=pin (qj_ (xG_ f) M 0 f) (S g0)) (hL:L=H g0) (hJ:J g0)
  (round: ∀ (g:G) (j:Nat→Value),J g→Cw P w0 c (pin (qj_ j M 0 f) (S g)) (H g)
   (xL_ (Again M S H J μ f g) K)):Cw P w0 (.loop c) f L K:=by
 refine Cw.loop (fun n f' L'=> ∃g j,n=μ g∧J g∧L'=H g∧f'=pin (qj_ j M 0 f) (S g)) (μ g0) ⟨g0,xG_ f,rfl,hJ,hL,hf⟩ ?_
 rintro n f' L' ⟨g,j,rfl,hg,rfl,rfl⟩
 refine(round g j hg).mono ?_
 intro e f'' L'' k
 cases e with
 |normal=>
  obtain⟨g',h1,h2,h3,h4⟩:=k
  exact⟨_,h1,g',xG_ f'',rfl,h2,h3,h4⟩
 |_=>exact k
end
end Go.Sx
section
namespace Go.Sx
set_option linter.unusedSimpArgs false
open Go
def ke_ (op:BinOp) (k:IntKind) (a b:BitVec k.bits):Option (BitVec k.bits):=
 match op with
 | .and=>some (a&&&b)
 | .or=>some (a|||b)
 | .xor=>some (a^^^b)
 | .andNot=>some (a&&& ~~~b)
 |_=>none
def xz_ (op:BinOp) (a b:Int):Option Value:=
 match op with
 | .eql=>some (.bool (a==b))
 | .neq=>some (.bool (a !=b))
 | .lss=>some (.bool (decide (a<b)))
 | .leq=>some (.bool (decide (a≤b)))
 | .gtr=>some (.bool (decide (a>b)))
 | .geq=>some (.bool (decide (a≥b)))
 |_=>none
def z5_ (op:BinOp) (k:IntKind) (a b:Int):Option Value:=
 match op with
 | .add=>some (.int k (k.wrap (a+b)))
 | .sub=>some (.int k (k.wrap (a - b)))
 | .mul=>some (.int k (k.wrap (a*b)))
 | .quo=>if b=0 then none else some (.int k (k.wrap (a.tdiv b)))
 | .rem=>if b=0 then none else some (.int k (a.tmod b))
 | .and=>(ke_ .and k (BitVec.ofInt k.bits a) (BitVec.ofInt k.bits b)).map fun r=> .int k (k.wrap (r.toNat:Int))
 | .or=>(ke_ .or k (BitVec.ofInt k.bits a) (BitVec.ofInt k.bits b)).map fun r=> .int k (k.wrap (r.toNat:Int))
 | .xor=>(ke_ .xor k (BitVec.ofInt k.bits a) (BitVec.ofInt k.bits b)).map fun r=> .int k (k.wrap (r.toNat:Int))
 | .andNot=>(ke_ .andNot k (BitVec.ofInt k.bits a) (BitVec.ofInt k.bits b)).map fun r=> .int k (k.wrap (r.toNat:Int))
 |op=>xz_ op a b
def qY_ (op:BinOp) (k:IntKind) (a b:Int):Option Value:=
 if b<0 then none else
  match op with
  | .shl=>some (.int k (k.wrap (a*2^ (min b.toNat k.bits))))
  | .shr=>some (.int k (a.fdiv (2^ (min b.toNat k.bits))))
  |_=>none
def strV (op:BinOp) (a b:ByteArray):Option Value:=
 let eq:=a.toList==b.toList
 let lt:=Op.bytesLess a.toList b.toList
 match op with
 | .add=>if a.size+b.size≤9223372036854775807 then some (.string (a++b)) else none
 | .eql=>some (.bool eq)
 | .neq=>some (.bool !eq)
 | .lss=>some (.bool lt)
 | .leq=>some (.bool (lt||eq))
 | .gtr=>some (.bool !(lt||eq))
 | .geq=>some (.bool !lt)
 |_=>none
def ze_ (op:BinOp) (x y:Value):Option Value:=
 match x,y with
 | .int k a, .int k' b=>
  match op with
  | .shl=>qY_ .shl k a b
  | .shr=>qY_ .shr k a b
  |op=>if k=k' then z5_ op k a b else none
 | .string a, .string b=>strV op a b
 |_,_=>none
def unV (op:UnOp) (x:Value):Option Value:=
 match op,x with
 | .neg, .int k n=>some (.int k (k.wrap (0 - n)))
 | .xor, .int k n=>(ke_ .xor k (BitVec.ofInt k.bits (if k.signed then -1 else k.max)) (BitVec.ofInt k.bits n)).map fun r=> .int k (k.wrap (r.toNat:Int))
 | .not, .bool b=>some (.bool !b)
 |_,_=>none
def zq_ (k:IntKind) (x:Value):Option Value:=
 match x with
 | .int _ n=>some (.int k (k.wrap n))
 |_=>none
theorem aaA_ {P:Program} {op:BinOp} {t:TypeId} {x y v:Value} (w:World) (h:ze_ op x y=some v): (binOp op t x y).run P w= .ok v w:=by
 unfold ze_ at h
 split at h
 ·rename_i k a k' b
  split at h
  ·unfold qY_ at h
   split at h
   ·cases h
   ·rename_i hb
    simp only[Option.some.injEq] at h;subst h
    simp only[binOp,Op.shift,hb, ↓reduceIte];rfl
  ·unfold qY_ at h
   split at h
   ·cases h
   ·rename_i hb
    simp only[Option.some.injEq] at h;subst h
    simp only[binOp,Op.shift,hb, ↓reduceIte];rfl
  ·rename_i h1 h2
   split at h
   ·rename_i hk
    subst hk
    cases op<;>simp only[z5_,ke_,xz_,Option.map_some,Option.some.injEq,reduceCtorEq] at h<;>first
     | (subst h;simp only[binOp,Op.intArith,Op.intBits,Op.intCmp,ne_eq,not_true_eq_false, ↓reduceIte];rfl)
     | (
       split at h
       ·cases h
       ·rename_i hb
        simp only[Option.some.injEq] at h;subst h
        simp only[binOp,Op.intDiv,ne_eq,not_true_eq_false, ↓reduceIte,hb];rfl)
     | (exact(h1 rfl).elim)
     | (exact(h2 rfl).elim)
   ·cases h
 ·rename_i a b
  have hm: (9223372036854775807:Int)=IntKind.i64.max:=by decide
  cases op<;>simp only[strV,reduceCtorEq,Option.some.injEq] at h<;>first
   | (subst h;simp only[binOp,Op.stringOp];rfl)
   | (
     split at h
     ·rename_i hs
      simp only[Option.some.injEq] at h;subst h
      have h0: ¬ (((a.size+b.size:Nat):Int)>IntKind.i64.max):=by rw[←hm];omega
      simp only[binOp,Op.stringOp,h0, ↓reduceIte];rfl
     ·cases h)
 ·cases h
theorem acs_ {P:Program} {op:UnOp} {x v:Value} (w:World) (h:unV op x=some v): (Op.unary op x).run P w= .ok v w:=by
 unfold unV at h
 split at h
 ·simp only[Option.some.injEq] at h;subst h;rfl
 ·simp only[ke_,Option.map_some,Option.some.injEq] at h;subst h;rfl
 ·simp only[Option.some.injEq] at h;subst h;rfl
 ·cases h
theorem z9_ (n:Int) (h: -9223372036854775808≤n∧n≤9223372036854775807):IntKind.wrap .i64 n=n:=by
 simp only[IntKind.wrap,IntKind.bits,IntKind.signed,Bool.true_and]
 split<;>rename_i h'<;>simp only[ge_iff_le,decide_eq_true_eq,Int.not_le] at h'<;>omega
theorem w9_ (n:Int):IntKind.wrap .u8 n=((UInt8.ofInt n).toNat:Int):=by
 simp only[IntKind.wrap,IntKind.bits,IntKind.signed,Bool.false_and,Bool.false_eq_true, ↓reduceIte]
 rw[show UInt8.ofInt n=UInt8.ofNat (n%2^8).toNat from rfl,UInt8.toNat_ofNat']
 omega
theorem vR_ (n:Int):IntKind.wrap .u16 n=((UInt16.ofInt n).toNat:Int):=by
 simp only[IntKind.wrap,IntKind.bits,IntKind.signed,Bool.false_and,Bool.false_eq_true, ↓reduceIte]
 rw[show UInt16.ofInt n=UInt16.ofNat (n%2^16).toNat from rfl,UInt16.toNat_ofNat']
 omega
theorem vH_ (n:Int):IntKind.wrap .u32 n=((UInt32.ofInt n).toNat:Int):=by
 simp only[IntKind.wrap,IntKind.bits,IntKind.signed,Bool.false_and,Bool.false_eq_true, ↓reduceIte]
 rw[show UInt32.ofInt n=UInt32.ofNat (n%2^32).toNat from rfl,UInt32.toNat_ofNat']
 omega
theorem vC_ (n:Int):IntKind.wrap .u64 n=((UInt64.ofInt n).toNat:Int):=by
 simp only[IntKind.wrap,IntKind.bits,IntKind.signed,Bool.false_and,Bool.false_eq_true, ↓reduceIte]
 rw[show UInt64.ofInt n=UInt64.ofNat (n%2^64).toNat from rfl,UInt64.toNat_ofNat']
 omega
def vi (n:Int):Value:= .int .i64 n
theorem ads_ (n:Int):Value.int .i64 n=vi n:=(rfl)
theorem VB_ (a b:Int) (h: -9223372036854775808≤a+b∧a+b≤9223372036854775807):ze_ .add (vi a) (vi b)=some (vi (a+b)):=by
 simp only[ze_,vi,z5_, ↓reduceIte,z9_ _ h]
theorem Wc_ (a b:Int) (h: -9223372036854775808≤a - b∧a - b≤9223372036854775807):ze_ .sub (vi a) (vi b)=some (vi (a - b)):=by
 simp only[ze_,vi,z5_, ↓reduceIte,z9_ _ h]
theorem VY_ (a b:Int) (h: -9223372036854775808≤a*b∧a*b≤9223372036854775807):ze_ .mul (vi a) (vi b)=some (vi (a*b)):=by
 simp only[ze_,vi,z5_, ↓reduceIte,z9_ _ h]
theorem VZ_ (a b:Int) (h:0≤a∧0<b∧a≤9223372036854775807):ze_ .quo (vi a) (vi b)=some (vi (a / b)):=by
 have h0: (b=0)=False:=by simp only[eq_iff_iff,iff_false];omega
 have e:a.tdiv b=a / b:=Int.tdiv_eq_ediv_of_nonneg h.1
 have h1:0≤a / b:=Int.ediv_nonneg h.1 (by omega)
 have h2:a / b≤a:=Int.ediv_le_self b h.1
 simp only[ze_,vi,z5_, ↓reduceIte,h0,e,z9_ (a / b) ⟨by omega,by omega⟩]
theorem W2_ (a b:Int) (h:0≤a∧0<b):ze_ .rem (vi a) (vi b)=some (vi (a%b)):=by
 have h0: (b=0)=False:=by simp only[eq_iff_iff,iff_false];omega
 have e:a.tmod b=a%b:=Int.tmod_eq_emod_of_nonneg h.1
 simp only[ze_,vi,z5_, ↓reduceIte,h0,e]
theorem WJ_ (a b:Int):ze_ .eql (vi a) (vi b)=some (.bool (a==b)):=(rfl)
theorem WQ_ (a b:Int):ze_ .neq (vi a) (vi b)=some (.bool (a !=b)):=(rfl)
theorem V8_ (a b:Int):ze_ .lss (vi a) (vi b)=some (.bool (decide (a<b))):=(rfl)
theorem VO_ (a b:Int):ze_ .leq (vi a) (vi b)=some (.bool (decide (a≤b))):=(rfl)
theorem Wp_ (a b:Int):ze_ .gtr (vi a) (vi b)=some (.bool (decide (b<a))):=(rfl)
theorem V7_ (a b:Int):ze_ .geq (vi a) (vi b)=some (.bool (decide (b≤a))):=(rfl)
theorem abb_ (a:Int) (h: -9223372036854775807≤a∧a≤9223372036854775807):unV .neg (vi a)=some (vi (-a)):=by
 simp only[unV,vi,Int.zero_sub,z9_ (-a) ⟨by omega,by omega⟩]
theorem adT_ (b:Bool):unV .not (.bool b)=some (.bool !b):=(rfl)
theorem Qm_ (n:Int) (h: -9223372036854775808≤n∧n≤9223372036854775807):zq_ .i64 (vi n)=some (vi n):=by
 simp only[zq_,vi,z9_ _ h]
theorem acu_ (a:Int) (kk:IntKind) (c:Nat) (h:c<63∧0≤a∧a*2^c≤9223372036854775807):ze_ .shl (vi a) (.int kk (c:Int))=some (vi (a*2^c)):=by
 have h0: ((c:Int)<0)=False:=by simp only[eq_iff_iff,iff_false];omega
 have hm:min c 64=c:=by omega
 have hp: (0:Int)≤a*2^c:=Int.mul_nonneg h.2.1 (Int.pow_nonneg (by omega))
 simp only[ze_,vi,qY_,h0, ↓reduceIte,Int.toNat_natCast,IntKind.bits,hm,z9_ (a*2^c) ⟨by omega,h.2.2⟩]
theorem ac6_ (a:Int) (kk:IntKind) (c:Nat) (h:c<64∧0≤a):ze_ .shr (vi a) (.int kk (c:Int))=some (vi (a / 2^c)):=by
 have h0: ((c:Int)<0)=False:=by simp only[eq_iff_iff,iff_false];omega
 have hm:min c 64=c:=by omega
 have hp: (0:Int)≤2^c:=Int.pow_nonneg (by omega)
 simp only[ze_,vi,qY_,h0, ↓reduceIte,Int.toNat_natCast,IntKind.bits,hm,Int.fdiv_eq_ediv_of_nonneg _ hp]
def v8 (x:UInt8):Value:= .int .u8 (x.toNat:Int)
theorem Zh_ (n:Nat) (h:n<256):IntKind.wrap .u8 (n:Int)=(n:Int):=by
 simp only[IntKind.wrap,IntKind.bits,IntKind.signed,Bool.false_and,Bool.false_eq_true, ↓reduceIte]
 omega
theorem zY_ (n:Nat):IntKind.wrap .u8 (n:Int)=((n%256:Nat):Int):=by
 simp only[IntKind.wrap,IntKind.bits,IntKind.signed,Bool.false_and,Bool.false_eq_true, ↓reduceIte]
 omega
theorem abW_ (x:UInt8):BitVec.ofInt (IntKind.bits .u8) (x.toNat:Int)=x.toBitVec:=by
 apply BitVec.eq_of_toNat_eq
 simp only[IntKind.bits,BitVec.ofInt_natCast,BitVec.toNat_ofNat,UInt8.toNat_toBitVec]
 exact Nat.mod_eq_of_lt x.toNat_lt
theorem aeA_ (n:Nat) (h:n<256):Value.int .u8 (no_index (@OfNat.ofNat Int n _))=v8 (@OfNat.ofNat UInt8 n _):=by
 have: ((@OfNat.ofNat UInt8 n _).toNat:Int)=(@OfNat.ofNat Int n _):=by
  have e: (@OfNat.ofNat UInt8 n _).toNat=n:=by rw[UInt8.toNat_ofNat];exact Nat.mod_eq_of_lt h
  rw[e];rfl
 rw[v8,this]
theorem X4_ (x y:UInt8):ze_ .add (v8 x) (v8 y)=some (v8 (x+y)):=by
 simp only[ze_,v8,z5_, ↓reduceIte,UInt8.toNat_add]
 rw[←Int.natCast_add,zY_]
theorem KC_ (x y:UInt8):ze_ .mul (v8 x) (v8 y)=some (v8 (x*y)):=by
 simp only[ze_,v8,z5_, ↓reduceIte,UInt8.toNat_mul]
 rw[←Int.natCast_mul,zY_]
theorem K7_ (x y:UInt8):ze_ .sub (v8 x) (v8 y)=some (v8 (x - y)):=by
 have hx:=x.toNat_lt;have hy:=y.toNat_lt
 have e:IntKind.wrap .u8 ((x.toNat:Int) - (y.toNat:Int))=((x - y).toNat:Int):=by
  rw[UInt8.toNat_sub]
  simp only[IntKind.wrap,IntKind.bits,IntKind.signed,Bool.false_and,Bool.false_eq_true, ↓reduceIte]
  omega
 simp only[ze_,v8,z5_, ↓reduceIte,e]
theorem Va_ (x y:UInt8):ze_ .and (v8 x) (v8 y)=some (v8 (x&&&y)):=by
 simp only[ze_,v8,z5_, ↓reduceIte,ke_,abW_,Option.map_some]
 show some (Value.int .u8 (IntKind.wrap .u8 ((x&&&y).toNat:Int)))=_
 rw[Zh_ _ (x&&&y).toNat_lt]
theorem V0_ (x y:UInt8):ze_ .or (v8 x) (v8 y)=some (v8 (x|||y)):=by
 simp only[ze_,v8,z5_, ↓reduceIte,ke_,abW_,Option.map_some]
 show some (Value.int .u8 (IntKind.wrap .u8 ((x|||y).toNat:Int)))=_
 rw[Zh_ _ (x|||y).toNat_lt]
theorem K2_ (x y:UInt8):ze_ .xor (v8 x) (v8 y)=some (v8 (x^^^y)):=by
 simp only[ze_,v8,z5_, ↓reduceIte,ke_,abW_,Option.map_some]
 show some (Value.int .u8 (IntKind.wrap .u8 ((x^^^y).toNat:Int)))=_
 rw[Zh_ _ (x^^^y).toNat_lt]
theorem WI_ (x:UInt8):unV .xor (v8 x)=some (v8 (~~~ x)):=by
 have hx:=x.toNat_lt
 have e: (BitVec.ofInt (IntKind.bits .u8) (IntKind.max .u8))=BitVec.allOnes 8:=rfl
 have e2: (BitVec.allOnes 8^^^x.toBitVec)=(~~~ x).toBitVec:=by rw[UInt8.toBitVec_not];exact BitVec.allOnes_xor
 simp only[unV,v8,ke_,abW_,IntKind.signed,Bool.false_eq_true, ↓reduceIte,e,Option.map_some]
 show some (Value.int .u8 (IntKind.wrap .u8 ((BitVec.allOnes 8^^^x.toBitVec).toNat:Int)))=_
 rw[e2]
 show some (Value.int .u8 (IntKind.wrap .u8 ((~~~ x).toNat:Int)))=_
 rw[Zh_ _ (~~~ x).toNat_lt]
def xE_ (x:UInt8) (n:Nat):UInt8:=UInt8.ofNat (x.toNat / 2^n)
def xC_ (x:UInt8) (n:Nat):UInt8:=UInt8.ofNat (x.toNat*2^n)
theorem Ky_ (x y:UInt8):ze_ .lss (v8 x) (v8 y)=some (.bool (decide (x<y))):=by
 simp only[ze_,v8,z5_, ↓reduceIte,xz_,UInt8.lt_iff_toNat_lt,Int.ofNat_lt,Int.ofNat_le]
theorem Kz_ (x y:UInt8):ze_ .leq (v8 x) (v8 y)=some (.bool (decide (x≤y))):=by
 simp only[ze_,v8,z5_, ↓reduceIte,xz_,UInt8.le_iff_toNat_le,Int.ofNat_lt,Int.ofNat_le]
theorem Ve_ (x y:UInt8):ze_ .gtr (v8 x) (v8 y)=some (.bool (decide (y<x))):=by
 simp only[ze_,v8,z5_, ↓reduceIte,xz_,UInt8.lt_iff_toNat_lt,Int.ofNat_lt,Int.ofNat_le,gt_iff_lt,ge_iff_le]
theorem KD_ (x y:UInt8):ze_ .geq (v8 x) (v8 y)=some (.bool (decide (y≤x))):=by
 simp only[ze_,v8,z5_, ↓reduceIte,xz_,UInt8.le_iff_toNat_le,Int.ofNat_lt,Int.ofNat_le,gt_iff_lt,ge_iff_le]
theorem ab1_ (x y:UInt8): ((x.toNat:Int)==(y.toNat:Int))=(x==y):=by
 rw[Bool.eq_iff_iff,beq_iff_eq,beq_iff_eq,Int.ofNat_inj,UInt8.toNat_inj]
theorem K4_ (x y:UInt8):ze_ .eql (v8 x) (v8 y)=some (.bool (x==y)):=by
 simp only[ze_,v8,z5_, ↓reduceIte,xz_,ab1_]
theorem X7_ (x y:UInt8):ze_ .neq (v8 x) (v8 y)=some (.bool (x !=y)):=by
 simp only[ze_,v8,z5_, ↓reduceIte,xz_,bne,ab1_]
theorem KU_ (x y:UInt8) (h:0<y.toNat):ze_ .quo (v8 x) (v8 y)=some (v8 (x / y)):=by
 have hx:=x.toNat_lt
 have e:IntKind.wrap .u8 ((x.toNat:Int).tdiv (y.toNat:Int))=((x / y).toNat:Int):=by
  rw[UInt8.toNat_div,Int.tdiv_eq_ediv_of_nonneg (by omega),←Int.natCast_ediv,zY_]
  congr 1
  exact Nat.mod_eq_of_lt (Nat.lt_of_le_of_lt (Nat.div_le_self _ _) hx)
 have h0: ((y.toNat:Int)=0)=False:=by simp only[eq_iff_iff,iff_false];omega
 simp only[ze_,v8,z5_, ↓reduceIte,h0,e]
theorem K3_ (x y:UInt8) (h:0<y.toNat):ze_ .rem (v8 x) (v8 y)=some (v8 (x%y)):=by
 have e: ((x.toNat:Int).tmod (y.toNat:Int))=((x%y).toNat:Int):=by
  rw[UInt8.toNat_mod,Int.tmod_eq_emod_of_nonneg (by omega),Int.natCast_emod]
 have h0: ((y.toNat:Int)=0)=False:=by simp only[eq_iff_iff,iff_false];omega
 simp only[ze_,v8,z5_, ↓reduceIte,h0,e]
theorem xj_ (x:UInt8) (kk:IntKind) (c:Nat):ze_ .shr (v8 x) (.int kk (c:Int))=some (v8 (xE_ x c)):=by
 have hx:=x.toNat_lt
 have h0: ((c:Int)<0)=False:=by simp only[eq_iff_iff,iff_false];omega
 have e: ((x.toNat:Int).fdiv (2^ (min c 8)))=((xE_ x c).toNat:Int):=by
  have hp: (2:Int)^ (min c 8)=((2^ (min c 8):Nat):Int):=by rw[Int.natCast_pow];rfl
  rw[hp,Int.fdiv_eq_ediv_of_nonneg _ (Int.natCast_nonneg _),←Int.natCast_ediv,xE_,UInt8.toNat_ofNat']
  congr 1
  rw[Nat.mod_eq_of_lt (Nat.lt_of_le_of_lt (Nat.div_le_self _ _) hx)]
  by_cases hc:c≤8
  ·rw[Nat.min_eq_left hc]
  ·rw[Nat.min_eq_right (by omega),Nat.div_eq_of_lt (by simpa using hx),Nat.div_eq_of_lt]
   exact Nat.lt_of_lt_of_le (by simpa using hx) (Nat.pow_le_pow_right (by omega) (by omega:8≤c))
 simp only[ze_,v8,qY_,h0, ↓reduceIte,Int.toNat_natCast,IntKind.bits,e]
theorem xo_ (x:UInt8) (kk:IntKind) (c:Nat):ze_ .shl (v8 x) (.int kk (c:Int))=some (v8 (xC_ x c)):=by
 have h0: ((c:Int)<0)=False:=by simp only[eq_iff_iff,iff_false];omega
 have e:IntKind.wrap .u8 ((x.toNat:Int)* (2^ (min c 8)))=((xC_ x c).toNat:Int):=by
  have hp: (2:Int)^ (min c 8)=((2^ (min c 8):Nat):Int):=by rw[Int.natCast_pow];rfl
  rw[hp,←Int.natCast_mul,zY_,xC_,UInt8.toNat_ofNat']
  congr 1
  by_cases hc:c≤8
  ·rw[Nat.min_eq_left hc]
  ·rw[Nat.min_eq_right (by omega)]
   have:2^c=2^8*2^ (c - 8):=by rw[←Nat.pow_add];congr 1;omega
   rw[this,←Nat.mul_assoc,Nat.mul_right_comm]
   simp[Nat.mul_mod_left]
 simp only[ze_,v8,qY_,h0, ↓reduceIte,Int.toNat_natCast,IntKind.bits,e]
def v16 (x:UInt16):Value:= .int .u16 (x.toNat:Int)
theorem kn_ (n:Nat) (h:n<65536):IntKind.wrap .u16 (n:Int)=(n:Int):=by
 simp only[IntKind.wrap,IntKind.bits,IntKind.signed,Bool.false_and,Bool.false_eq_true, ↓reduceIte]
 omega
theorem zP_ (n:Nat):IntKind.wrap .u16 (n:Int)=((n%65536:Nat):Int):=by
 simp only[IntKind.wrap,IntKind.bits,IntKind.signed,Bool.false_and,Bool.false_eq_true, ↓reduceIte]
 omega
theorem XI_ (x:UInt16):BitVec.ofInt (IntKind.bits .u16) (x.toNat:Int)=x.toBitVec:=by
 apply BitVec.eq_of_toNat_eq
 simp only[IntKind.bits,BitVec.ofInt_natCast,BitVec.toNat_ofNat,UInt16.toNat_toBitVec]
 exact Nat.mod_eq_of_lt x.toNat_lt
theorem acN_ (n:Nat) (h:n<65536):Value.int .u16 (no_index (@OfNat.ofNat Int n _))=v16 (@OfNat.ofNat UInt16 n _):=by
 have: ((@OfNat.ofNat UInt16 n _).toNat:Int)=(@OfNat.ofNat Int n _):=by
  have e: (@OfNat.ofNat UInt16 n _).toNat=n:=by rw[UInt16.toNat_ofNat];exact Nat.mod_eq_of_lt h
  rw[e];rfl
 rw[v16,this]
theorem Jd_ (x y:UInt16):ze_ .add (v16 x) (v16 y)=some (v16 (x+y)):=by
 simp only[ze_,v16,z5_, ↓reduceIte,UInt16.toNat_add]
 rw[←Int.natCast_add,zP_]
theorem J6_ (x y:UInt16):ze_ .mul (v16 x) (v16 y)=some (v16 (x*y)):=by
 simp only[ze_,v16,z5_, ↓reduceIte,UInt16.toNat_mul]
 rw[←Int.natCast_mul,zP_]
theorem Jk_ (x y:UInt16):ze_ .sub (v16 x) (v16 y)=some (v16 (x - y)):=by
 have hx:=x.toNat_lt;have hy:=y.toNat_lt
 have e:IntKind.wrap .u16 ((x.toNat:Int) - (y.toNat:Int))=((x - y).toNat:Int):=by
  rw[UInt16.toNat_sub]
  simp only[IntKind.wrap,IntKind.bits,IntKind.signed,Bool.false_and,Bool.false_eq_true, ↓reduceIte]
  omega
 simp only[ze_,v16,z5_, ↓reduceIte,e]
theorem QZ_ (x y:UInt16):ze_ .and (v16 x) (v16 y)=some (v16 (x&&&y)):=by
 simp only[ze_,v16,z5_, ↓reduceIte,ke_,XI_,Option.map_some]
 show some (Value.int .u16 (IntKind.wrap .u16 ((x&&&y).toNat:Int)))=_
 rw[kn_ _ (x&&&y).toNat_lt]
theorem Vh_ (x y:UInt16):ze_ .or (v16 x) (v16 y)=some (v16 (x|||y)):=by
 simp only[ze_,v16,z5_, ↓reduceIte,ke_,XI_,Option.map_some]
 show some (Value.int .u16 (IntKind.wrap .u16 ((x|||y).toNat:Int)))=_
 rw[kn_ _ (x|||y).toNat_lt]
theorem JF_ (x y:UInt16):ze_ .xor (v16 x) (v16 y)=some (v16 (x^^^y)):=by
 simp only[ze_,v16,z5_, ↓reduceIte,ke_,XI_,Option.map_some]
 show some (Value.int .u16 (IntKind.wrap .u16 ((x^^^y).toNat:Int)))=_
 rw[kn_ _ (x^^^y).toNat_lt]
theorem KY_ (x:UInt16):unV .xor (v16 x)=some (v16 (~~~ x)):=by
 have hx:=x.toNat_lt
 have e: (BitVec.ofInt (IntKind.bits .u16) (IntKind.max .u16))=BitVec.allOnes 16:=rfl
 have e2: (BitVec.allOnes 16^^^x.toBitVec)=(~~~ x).toBitVec:=by rw[UInt16.toBitVec_not];exact BitVec.allOnes_xor
 simp only[unV,v16,ke_,XI_,IntKind.signed,Bool.false_eq_true, ↓reduceIte,e,Option.map_some]
 show some (Value.int .u16 (IntKind.wrap .u16 ((BitVec.allOnes 16^^^x.toBitVec).toNat:Int)))=_
 rw[e2]
 show some (Value.int .u16 (IntKind.wrap .u16 ((~~~ x).toNat:Int)))=_
 rw[kn_ _ (~~~ x).toNat_lt]
def js_ (x:UInt16) (n:Nat):UInt16:=UInt16.ofNat (x.toNat / 2^n)
def jk_ (x:UInt16) (n:Nat):UInt16:=UInt16.ofNat (x.toNat*2^n)
theorem QK_ (x y:UInt16):ze_ .lss (v16 x) (v16 y)=some (.bool (decide (x<y))):=by
 simp only[ze_,v16,z5_, ↓reduceIte,xz_,UInt16.lt_iff_toNat_lt,Int.ofNat_lt,Int.ofNat_le]
theorem Jh_ (x y:UInt16):ze_ .leq (v16 x) (v16 y)=some (.bool (decide (x≤y))):=by
 simp only[ze_,v16,z5_, ↓reduceIte,xz_,UInt16.le_iff_toNat_le,Int.ofNat_lt,Int.ofNat_le]
theorem Jg_ (x y:UInt16):ze_ .gtr (v16 x) (v16 y)=some (.bool (decide (y<x))):=by
 simp only[ze_,v16,z5_, ↓reduceIte,xz_,UInt16.lt_iff_toNat_lt,Int.ofNat_lt,Int.ofNat_le,gt_iff_lt,ge_iff_le]
theorem Xg_ (x y:UInt16):ze_ .geq (v16 x) (v16 y)=some (.bool (decide (y≤x))):=by
 simp only[ze_,v16,z5_, ↓reduceIte,xz_,UInt16.le_iff_toNat_le,Int.ofNat_lt,Int.ofNat_le,gt_iff_lt,ge_iff_le]
theorem WY_ (x y:UInt16): ((x.toNat:Int)==(y.toNat:Int))=(x==y):=by
 rw[Bool.eq_iff_iff,beq_iff_eq,beq_iff_eq,Int.ofNat_inj,UInt16.toNat_inj]
theorem QL_ (x y:UInt16):ze_ .eql (v16 x) (v16 y)=some (.bool (x==y)):=by
 simp only[ze_,v16,z5_, ↓reduceIte,xz_,WY_]
theorem JX_ (x y:UInt16):ze_ .neq (v16 x) (v16 y)=some (.bool (x !=y)):=by
 simp only[ze_,v16,z5_, ↓reduceIte,xz_,bne,WY_]
theorem Jj_ (x y:UInt16) (h:0<y.toNat):ze_ .quo (v16 x) (v16 y)=some (v16 (x / y)):=by
 have hx:=x.toNat_lt
 have e:IntKind.wrap .u16 ((x.toNat:Int).tdiv (y.toNat:Int))=((x / y).toNat:Int):=by
  rw[UInt16.toNat_div,Int.tdiv_eq_ediv_of_nonneg (by omega),←Int.natCast_ediv,zP_]
  congr 1
  exact Nat.mod_eq_of_lt (Nat.lt_of_le_of_lt (Nat.div_le_self _ _) hx)
 have h0: ((y.toNat:Int)=0)=False:=by simp only[eq_iff_iff,iff_false];omega
 simp only[ze_,v16,z5_, ↓reduceIte,h0,e]
theorem Xd_ (x y:UInt16) (h:0<y.toNat):ze_ .rem (v16 x) (v16 y)=some (v16 (x%y)):=by
 have e: ((x.toNat:Int).tmod (y.toNat:Int))=((x%y).toNat:Int):=by
  rw[UInt16.toNat_mod,Int.tmod_eq_emod_of_nonneg (by omega),Int.natCast_emod]
 have h0: ((y.toNat:Int)=0)=False:=by simp only[eq_iff_iff,iff_false];omega
 simp only[ze_,v16,z5_, ↓reduceIte,h0,e]
theorem jO_ (x:UInt16) (kk:IntKind) (c:Nat):ze_ .shr (v16 x) (.int kk (c:Int))=some (v16 (js_ x c)):=by
 have hx:=x.toNat_lt
 have h0: ((c:Int)<0)=False:=by simp only[eq_iff_iff,iff_false];omega
 have e: ((x.toNat:Int).fdiv (2^ (min c 16)))=((js_ x c).toNat:Int):=by
  have hp: (2:Int)^ (min c 16)=((2^ (min c 16):Nat):Int):=by rw[Int.natCast_pow];rfl
  rw[hp,Int.fdiv_eq_ediv_of_nonneg _ (Int.natCast_nonneg _),←Int.natCast_ediv,js_,UInt16.toNat_ofNat']
  congr 1
  rw[Nat.mod_eq_of_lt (Nat.lt_of_le_of_lt (Nat.div_le_self _ _) hx)]
  by_cases hc:c≤16
  ·rw[Nat.min_eq_left hc]
  ·rw[Nat.min_eq_right (by omega),Nat.div_eq_of_lt (by simpa using hx),Nat.div_eq_of_lt]
   exact Nat.lt_of_lt_of_le (by simpa using hx) (Nat.pow_le_pow_right (by omega) (by omega:16≤c))
 simp only[ze_,v16,qY_,h0, ↓reduceIte,Int.toNat_natCast,IntKind.bits,e]
theorem jT_ (x:UInt16) (kk:IntKind) (c:Nat):ze_ .shl (v16 x) (.int kk (c:Int))=some (v16 (jk_ x c)):=by
 have h0: ((c:Int)<0)=False:=by simp only[eq_iff_iff,iff_false];omega
 have e:IntKind.wrap .u16 ((x.toNat:Int)* (2^ (min c 16)))=((jk_ x c).toNat:Int):=by
  have hp: (2:Int)^ (min c 16)=((2^ (min c 16):Nat):Int):=by rw[Int.natCast_pow];rfl
  rw[hp,←Int.natCast_mul,zP_,jk_,UInt16.toNat_ofNat']
  congr 1
  by_cases hc:c≤16
  ·rw[Nat.min_eq_left hc]
  ·rw[Nat.min_eq_right (by omega)]
   have:2^c=2^16*2^ (c - 16):=by rw[←Nat.pow_add];congr 1;omega
   rw[this,←Nat.mul_assoc,Nat.mul_right_comm]
   simp[Nat.mul_mod_left]
 simp only[ze_,v16,qY_,h0, ↓reduceIte,Int.toNat_natCast,IntKind.bits,e]
def v32 (x:UInt32):Value:= .int .u32 (x.toNat:Int)
theorem kp_ (n:Nat) (h:n<4294967296):IntKind.wrap .u32 (n:Int)=(n:Int):=by
 simp only[IntKind.wrap,IntKind.bits,IntKind.signed,Bool.false_and,Bool.false_eq_true, ↓reduceIte]
 omega
theorem zL_ (n:Nat):IntKind.wrap .u32 (n:Int)=((n%4294967296:Nat):Int):=by
 simp only[IntKind.wrap,IntKind.bits,IntKind.signed,Bool.false_and,Bool.false_eq_true, ↓reduceIte]
 omega
theorem XR_ (x:UInt32):BitVec.ofInt (IntKind.bits .u32) (x.toNat:Int)=x.toBitVec:=by
 apply BitVec.eq_of_toNat_eq
 simp only[IntKind.bits,BitVec.ofInt_natCast,BitVec.toNat_ofNat,UInt32.toNat_toBitVec]
 exact Nat.mod_eq_of_lt x.toNat_lt
theorem adj_ (n:Nat) (h:n<4294967296):Value.int .u32 (no_index (@OfNat.ofNat Int n _))=v32 (@OfNat.ofNat UInt32 n _):=by
 have: ((@OfNat.ofNat UInt32 n _).toNat:Int)=(@OfNat.ofNat Int n _):=by
  have e: (@OfNat.ofNat UInt32 n _).toNat=n:=by rw[UInt32.toNat_ofNat];exact Nat.mod_eq_of_lt h
  rw[e];rfl
 rw[v32,this]
theorem Q1_ (x y:UInt32):ze_ .add (v32 x) (v32 y)=some (v32 (x+y)):=by
 simp only[ze_,v32,z5_, ↓reduceIte,UInt32.toNat_add]
 rw[←Int.natCast_add,zL_]
theorem QP_ (x y:UInt32):ze_ .mul (v32 x) (v32 y)=some (v32 (x*y)):=by
 simp only[ze_,v32,z5_, ↓reduceIte,UInt32.toNat_mul]
 rw[←Int.natCast_mul,zL_]
theorem JW_ (x y:UInt32):ze_ .sub (v32 x) (v32 y)=some (v32 (x - y)):=by
 have hx:=x.toNat_lt;have hy:=y.toNat_lt
 have e:IntKind.wrap .u32 ((x.toNat:Int) - (y.toNat:Int))=((x - y).toNat:Int):=by
  rw[UInt32.toNat_sub]
  simp only[IntKind.wrap,IntKind.bits,IntKind.signed,Bool.false_and,Bool.false_eq_true, ↓reduceIte]
  omega
 simp only[ze_,v32,z5_, ↓reduceIte,e]
theorem Xj_ (x y:UInt32):ze_ .and (v32 x) (v32 y)=some (v32 (x&&&y)):=by
 simp only[ze_,v32,z5_, ↓reduceIte,ke_,XR_,Option.map_some]
 show some (Value.int .u32 (IntKind.wrap .u32 ((x&&&y).toNat:Int)))=_
 rw[kp_ _ (x&&&y).toNat_lt]
theorem K0_ (x y:UInt32):ze_ .or (v32 x) (v32 y)=some (v32 (x|||y)):=by
 simp only[ze_,v32,z5_, ↓reduceIte,ke_,XR_,Option.map_some]
 show some (Value.int .u32 (IntKind.wrap .u32 ((x|||y).toNat:Int)))=_
 rw[kp_ _ (x|||y).toNat_lt]
theorem JT_ (x y:UInt32):ze_ .xor (v32 x) (v32 y)=some (v32 (x^^^y)):=by
 simp only[ze_,v32,z5_, ↓reduceIte,ke_,XR_,Option.map_some]
 show some (Value.int .u32 (IntKind.wrap .u32 ((x^^^y).toNat:Int)))=_
 rw[kp_ _ (x^^^y).toNat_lt]
theorem KA_ (x:UInt32):unV .xor (v32 x)=some (v32 (~~~ x)):=by
 have hx:=x.toNat_lt
 have e: (BitVec.ofInt (IntKind.bits .u32) (IntKind.max .u32))=BitVec.allOnes 32:=rfl
 have e2: (BitVec.allOnes 32^^^x.toBitVec)=(~~~ x).toBitVec:=by rw[UInt32.toBitVec_not];exact BitVec.allOnes_xor
 simp only[unV,v32,ke_,XR_,IntKind.signed,Bool.false_eq_true, ↓reduceIte,e,Option.map_some]
 show some (Value.int .u32 (IntKind.wrap .u32 ((BitVec.allOnes 32^^^x.toBitVec).toNat:Int)))=_
 rw[e2]
 show some (Value.int .u32 (IntKind.wrap .u32 ((~~~ x).toNat:Int)))=_
 rw[kp_ _ (~~~ x).toNat_lt]
def qm_ (x:UInt32) (n:Nat):UInt32:=UInt32.ofNat (x.toNat / 2^n)
def qK_ (x:UInt32) (n:Nat):UInt32:=UInt32.ofNat (x.toNat*2^n)
theorem JE_ (x y:UInt32):ze_ .lss (v32 x) (v32 y)=some (.bool (decide (x<y))):=by
 simp only[ze_,v32,z5_, ↓reduceIte,xz_,UInt32.lt_iff_toNat_lt,Int.ofNat_lt,Int.ofNat_le]
theorem Q8_ (x y:UInt32):ze_ .leq (v32 x) (v32 y)=some (.bool (decide (x≤y))):=by
 simp only[ze_,v32,z5_, ↓reduceIte,xz_,UInt32.le_iff_toNat_le,Int.ofNat_lt,Int.ofNat_le]
theorem QT_ (x y:UInt32):ze_ .gtr (v32 x) (v32 y)=some (.bool (decide (y<x))):=by
 simp only[ze_,v32,z5_, ↓reduceIte,xz_,UInt32.lt_iff_toNat_lt,Int.ofNat_lt,Int.ofNat_le,gt_iff_lt,ge_iff_le]
theorem QV_ (x y:UInt32):ze_ .geq (v32 x) (v32 y)=some (.bool (decide (y≤x))):=by
 simp only[ze_,v32,z5_, ↓reduceIte,xz_,UInt32.le_iff_toNat_le,Int.ofNat_lt,Int.ofNat_le,gt_iff_lt,ge_iff_le]
theorem Vr_ (x y:UInt32): ((x.toNat:Int)==(y.toNat:Int))=(x==y):=by
 rw[Bool.eq_iff_iff,beq_iff_eq,beq_iff_eq,Int.ofNat_inj,UInt32.toNat_inj]
theorem QS_ (x y:UInt32):ze_ .eql (v32 x) (v32 y)=some (.bool (x==y)):=by
 simp only[ze_,v32,z5_, ↓reduceIte,xz_,Vr_]
theorem Xk_ (x y:UInt32):ze_ .neq (v32 x) (v32 y)=some (.bool (x !=y)):=by
 simp only[ze_,v32,z5_, ↓reduceIte,xz_,bne,Vr_]
theorem JS_ (x y:UInt32) (h:0<y.toNat):ze_ .quo (v32 x) (v32 y)=some (v32 (x / y)):=by
 have hx:=x.toNat_lt
 have e:IntKind.wrap .u32 ((x.toNat:Int).tdiv (y.toNat:Int))=((x / y).toNat:Int):=by
  rw[UInt32.toNat_div,Int.tdiv_eq_ediv_of_nonneg (by omega),←Int.natCast_ediv,zL_]
  congr 1
  exact Nat.mod_eq_of_lt (Nat.lt_of_le_of_lt (Nat.div_le_self _ _) hx)
 have h0: ((y.toNat:Int)=0)=False:=by simp only[eq_iff_iff,iff_false];omega
 simp only[ze_,v32,z5_, ↓reduceIte,h0,e]
theorem Jl_ (x y:UInt32) (h:0<y.toNat):ze_ .rem (v32 x) (v32 y)=some (v32 (x%y)):=by
 have e: ((x.toNat:Int).tmod (y.toNat:Int))=((x%y).toNat:Int):=by
  rw[UInt32.toNat_mod,Int.tmod_eq_emod_of_nonneg (by omega),Int.natCast_emod]
 have h0: ((y.toNat:Int)=0)=False:=by simp only[eq_iff_iff,iff_false];omega
 simp only[ze_,v32,z5_, ↓reduceIte,h0,e]
theorem jI_ (x:UInt32) (kk:IntKind) (c:Nat):ze_ .shr (v32 x) (.int kk (c:Int))=some (v32 (qm_ x c)):=by
 have hx:=x.toNat_lt
 have h0: ((c:Int)<0)=False:=by simp only[eq_iff_iff,iff_false];omega
 have e: ((x.toNat:Int).fdiv (2^ (min c 32)))=((qm_ x c).toNat:Int):=by
  have hp: (2:Int)^ (min c 32)=((2^ (min c 32):Nat):Int):=by rw[Int.natCast_pow];rfl
  rw[hp,Int.fdiv_eq_ediv_of_nonneg _ (Int.natCast_nonneg _),←Int.natCast_ediv,qm_,UInt32.toNat_ofNat']
  congr 1
  rw[Nat.mod_eq_of_lt (Nat.lt_of_le_of_lt (Nat.div_le_self _ _) hx)]
  by_cases hc:c≤32
  ·rw[Nat.min_eq_left hc]
  ·rw[Nat.min_eq_right (by omega),Nat.div_eq_of_lt (by simpa using hx),Nat.div_eq_of_lt]
   exact Nat.lt_of_lt_of_le (by simpa using hx) (Nat.pow_le_pow_right (by omega) (by omega:32≤c))
 simp only[ze_,v32,qY_,h0, ↓reduceIte,Int.toNat_natCast,IntKind.bits,e]
theorem jR_ (x:UInt32) (kk:IntKind) (c:Nat):ze_ .shl (v32 x) (.int kk (c:Int))=some (v32 (qK_ x c)):=by
 have h0: ((c:Int)<0)=False:=by simp only[eq_iff_iff,iff_false];omega
 have e:IntKind.wrap .u32 ((x.toNat:Int)* (2^ (min c 32)))=((qK_ x c).toNat:Int):=by
  have hp: (2:Int)^ (min c 32)=((2^ (min c 32):Nat):Int):=by rw[Int.natCast_pow];rfl
  rw[hp,←Int.natCast_mul,zL_,qK_,UInt32.toNat_ofNat']
  congr 1
  by_cases hc:c≤32
  ·rw[Nat.min_eq_left hc]
  ·rw[Nat.min_eq_right (by omega)]
   have:2^c=2^32*2^ (c - 32):=by rw[←Nat.pow_add];congr 1;omega
   rw[this,←Nat.mul_assoc,Nat.mul_right_comm]
   simp[Nat.mul_mod_left]
 simp only[ze_,v32,qY_,h0, ↓reduceIte,Int.toNat_natCast,IntKind.bits,e]
def v64 (x:UInt64):Value:= .int .u64 (x.toNat:Int)
theorem ko_ (n:Nat) (h:n<18446744073709551616):IntKind.wrap .u64 (n:Int)=(n:Int):=by
 simp only[IntKind.wrap,IntKind.bits,IntKind.signed,Bool.false_and,Bool.false_eq_true, ↓reduceIte]
 omega
theorem zO_ (n:Nat):IntKind.wrap .u64 (n:Int)=((n%18446744073709551616:Nat):Int):=by
 simp only[IntKind.wrap,IntKind.bits,IntKind.signed,Bool.false_and,Bool.false_eq_true, ↓reduceIte]
 omega
theorem XO_ (x:UInt64):BitVec.ofInt (IntKind.bits .u64) (x.toNat:Int)=x.toBitVec:=by
 apply BitVec.eq_of_toNat_eq
 simp only[IntKind.bits,BitVec.ofInt_natCast,BitVec.toNat_ofNat,UInt64.toNat_toBitVec]
 exact Nat.mod_eq_of_lt x.toNat_lt
theorem aco_ (n:Nat) (h:n<18446744073709551616):Value.int .u64 (no_index (@OfNat.ofNat Int n _))=v64 (@OfNat.ofNat UInt64 n _):=by
 have: ((@OfNat.ofNat UInt64 n _).toNat:Int)=(@OfNat.ofNat Int n _):=by
  have e: (@OfNat.ofNat UInt64 n _).toNat=n:=by rw[UInt64.toNat_ofNat];exact Nat.mod_eq_of_lt h
  rw[e];rfl
 rw[v64,this]
theorem Jn_ (x y:UInt64):ze_ .add (v64 x) (v64 y)=some (v64 (x+y)):=by
 simp only[ze_,v64,z5_, ↓reduceIte,UInt64.toNat_add]
 rw[←Int.natCast_add,zO_]
theorem JP_ (x y:UInt64):ze_ .mul (v64 x) (v64 y)=some (v64 (x*y)):=by
 simp only[ze_,v64,z5_, ↓reduceIte,UInt64.toNat_mul]
 rw[←Int.natCast_mul,zO_]
theorem QR_ (x y:UInt64):ze_ .sub (v64 x) (v64 y)=some (v64 (x - y)):=by
 have hx:=x.toNat_lt;have hy:=y.toNat_lt
 have e:IntKind.wrap .u64 ((x.toNat:Int) - (y.toNat:Int))=((x - y).toNat:Int):=by
  rw[UInt64.toNat_sub]
  simp only[IntKind.wrap,IntKind.bits,IntKind.signed,Bool.false_and,Bool.false_eq_true, ↓reduceIte]
  omega
 simp only[ze_,v64,z5_, ↓reduceIte,e]
theorem Jr_ (x y:UInt64):ze_ .and (v64 x) (v64 y)=some (v64 (x&&&y)):=by
 simp only[ze_,v64,z5_, ↓reduceIte,ke_,XO_,Option.map_some]
 show some (Value.int .u64 (IntKind.wrap .u64 ((x&&&y).toNat:Int)))=_
 rw[ko_ _ (x&&&y).toNat_lt]
theorem KT_ (x y:UInt64):ze_ .or (v64 x) (v64 y)=some (v64 (x|||y)):=by
 simp only[ze_,v64,z5_, ↓reduceIte,ke_,XO_,Option.map_some]
 show some (Value.int .u64 (IntKind.wrap .u64 ((x|||y).toNat:Int)))=_
 rw[ko_ _ (x|||y).toNat_lt]
theorem JQ_ (x y:UInt64):ze_ .xor (v64 x) (v64 y)=some (v64 (x^^^y)):=by
 simp only[ze_,v64,z5_, ↓reduceIte,ke_,XO_,Option.map_some]
 show some (Value.int .u64 (IntKind.wrap .u64 ((x^^^y).toNat:Int)))=_
 rw[ko_ _ (x^^^y).toNat_lt]
theorem Kc_ (x:UInt64):unV .xor (v64 x)=some (v64 (~~~ x)):=by
 have hx:=x.toNat_lt
 have e: (BitVec.ofInt (IntKind.bits .u64) (IntKind.max .u64))=BitVec.allOnes 64:=rfl
 have e2: (BitVec.allOnes 64^^^x.toBitVec)=(~~~ x).toBitVec:=by rw[UInt64.toBitVec_not];exact BitVec.allOnes_xor
 simp only[unV,v64,ke_,XO_,IntKind.signed,Bool.false_eq_true, ↓reduceIte,e,Option.map_some]
 show some (Value.int .u64 (IntKind.wrap .u64 ((BitVec.allOnes 64^^^x.toBitVec).toNat:Int)))=_
 rw[e2]
 show some (Value.int .u64 (IntKind.wrap .u64 ((~~~ x).toNat:Int)))=_
 rw[ko_ _ (~~~ x).toNat_lt]
def q2_ (x:UInt64) (n:Nat):UInt64:=UInt64.ofNat (x.toNat / 2^n)
def jv_ (x:UInt64) (n:Nat):UInt64:=UInt64.ofNat (x.toNat*2^n)
theorem JC_ (x y:UInt64):ze_ .lss (v64 x) (v64 y)=some (.bool (decide (x<y))):=by
 simp only[ze_,v64,z5_, ↓reduceIte,xz_,UInt64.lt_iff_toNat_lt,Int.ofNat_lt,Int.ofNat_le]
theorem Js_ (x y:UInt64):ze_ .leq (v64 x) (v64 y)=some (.bool (decide (x≤y))):=by
 simp only[ze_,v64,z5_, ↓reduceIte,xz_,UInt64.le_iff_toNat_le,Int.ofNat_lt,Int.ofNat_le]
theorem JK_ (x y:UInt64):ze_ .gtr (v64 x) (v64 y)=some (.bool (decide (y<x))):=by
 simp only[ze_,v64,z5_, ↓reduceIte,xz_,UInt64.lt_iff_toNat_lt,Int.ofNat_lt,Int.ofNat_le,gt_iff_lt,ge_iff_le]
theorem Jv_ (x y:UInt64):ze_ .geq (v64 x) (v64 y)=some (.bool (decide (y≤x))):=by
 simp only[ze_,v64,z5_, ↓reduceIte,xz_,UInt64.le_iff_toNat_le,Int.ofNat_lt,Int.ofNat_le,gt_iff_lt,ge_iff_le]
theorem VN_ (x y:UInt64): ((x.toNat:Int)==(y.toNat:Int))=(x==y):=by
 rw[Bool.eq_iff_iff,beq_iff_eq,beq_iff_eq,Int.ofNat_inj,UInt64.toNat_inj]
theorem JO_ (x y:UInt64):ze_ .eql (v64 x) (v64 y)=some (.bool (x==y)):=by
 simp only[ze_,v64,z5_, ↓reduceIte,xz_,VN_]
theorem J3_ (x y:UInt64):ze_ .neq (v64 x) (v64 y)=some (.bool (x !=y)):=by
 simp only[ze_,v64,z5_, ↓reduceIte,xz_,bne,VN_]
theorem JZ_ (x y:UInt64) (h:0<y.toNat):ze_ .quo (v64 x) (v64 y)=some (v64 (x / y)):=by
 have hx:=x.toNat_lt
 have e:IntKind.wrap .u64 ((x.toNat:Int).tdiv (y.toNat:Int))=((x / y).toNat:Int):=by
  rw[UInt64.toNat_div,Int.tdiv_eq_ediv_of_nonneg (by omega),←Int.natCast_ediv,zO_]
  congr 1
  exact Nat.mod_eq_of_lt (Nat.lt_of_le_of_lt (Nat.div_le_self _ _) hx)
 have h0: ((y.toNat:Int)=0)=False:=by simp only[eq_iff_iff,iff_false];omega
 simp only[ze_,v64,z5_, ↓reduceIte,h0,e]
theorem Jp_ (x y:UInt64) (h:0<y.toNat):ze_ .rem (v64 x) (v64 y)=some (v64 (x%y)):=by
 have e: ((x.toNat:Int).tmod (y.toNat:Int))=((x%y).toNat:Int):=by
  rw[UInt64.toNat_mod,Int.tmod_eq_emod_of_nonneg (by omega),Int.natCast_emod]
 have h0: ((y.toNat:Int)=0)=False:=by simp only[eq_iff_iff,iff_false];omega
 simp only[ze_,v64,z5_, ↓reduceIte,h0,e]
theorem jW_ (x:UInt64) (kk:IntKind) (c:Nat):ze_ .shr (v64 x) (.int kk (c:Int))=some (v64 (q2_ x c)):=by
 have hx:=x.toNat_lt
 have h0: ((c:Int)<0)=False:=by simp only[eq_iff_iff,iff_false];omega
 have e: ((x.toNat:Int).fdiv (2^ (min c 64)))=((q2_ x c).toNat:Int):=by
  have hp: (2:Int)^ (min c 64)=((2^ (min c 64):Nat):Int):=by rw[Int.natCast_pow];rfl
  rw[hp,Int.fdiv_eq_ediv_of_nonneg _ (Int.natCast_nonneg _),←Int.natCast_ediv,q2_,UInt64.toNat_ofNat']
  congr 1
  rw[Nat.mod_eq_of_lt (Nat.lt_of_le_of_lt (Nat.div_le_self _ _) hx)]
  by_cases hc:c≤64
  ·rw[Nat.min_eq_left hc]
  ·rw[Nat.min_eq_right (by omega),Nat.div_eq_of_lt (by simpa using hx),Nat.div_eq_of_lt]
   exact Nat.lt_of_lt_of_le (by simpa using hx) (Nat.pow_le_pow_right (by omega) (by omega:64≤c))
 simp only[ze_,v64,qY_,h0, ↓reduceIte,Int.toNat_natCast,IntKind.bits,e]
theorem jV_ (x:UInt64) (kk:IntKind) (c:Nat):ze_ .shl (v64 x) (.int kk (c:Int))=some (v64 (jv_ x c)):=by
 have h0: ((c:Int)<0)=False:=by simp only[eq_iff_iff,iff_false];omega
 have e:IntKind.wrap .u64 ((x.toNat:Int)* (2^ (min c 64)))=((jv_ x c).toNat:Int):=by
  have hp: (2:Int)^ (min c 64)=((2^ (min c 64):Nat):Int):=by rw[Int.natCast_pow];rfl
  rw[hp,←Int.natCast_mul,zO_,jv_,UInt64.toNat_ofNat']
  congr 1
  by_cases hc:c≤64
  ·rw[Nat.min_eq_left hc]
  ·rw[Nat.min_eq_right (by omega)]
   have:2^c=2^64*2^ (c - 64):=by rw[←Nat.pow_add];congr 1;omega
   rw[this,←Nat.mul_assoc,Nat.mul_right_comm]
   simp[Nat.mul_mod_left]
 simp only[ze_,v64,qY_,h0, ↓reduceIte,Int.toNat_natCast,IntKind.bits,e]
theorem Za_ (x:UInt8) (c:UInt8):ze_ .shr (v8 x) (v8 c)=some (v8 (xE_ x c.toNat)):=xj_ x _ _
theorem Zg_ (x:UInt8) (c:UInt8):ze_ .shl (v8 x) (v8 c)=some (v8 (xC_ x c.toNat)):=xo_ x _ _
theorem KE_ (x:UInt8):zq_ .u8 (v8 x)=some (v8 (UInt8.ofNat x.toNat)):=by
 simp only[zq_,v8,v8,zY_,UInt8.toNat_ofNat']
theorem v2_ (x:UInt8) (c:UInt16):ze_ .shr (v8 x) (v16 c)=some (v8 (xE_ x c.toNat)):=xj_ x _ _
theorem v8_ (x:UInt8) (c:UInt16):ze_ .shl (v8 x) (v16 c)=some (v8 (xC_ x c.toNat)):=xo_ x _ _
theorem QO_ (x:UInt8):zq_ .u16 (v8 x)=some (v16 (UInt16.ofNat x.toNat)):=by
 simp only[zq_,v8,v16,zP_,UInt16.toNat_ofNat']
theorem vZ_ (x:UInt8) (c:UInt32):ze_ .shr (v8 x) (v32 c)=some (v8 (xE_ x c.toNat)):=xj_ x _ _
theorem vF_ (x:UInt8) (c:UInt32):ze_ .shl (v8 x) (v32 c)=some (v8 (xC_ x c.toNat)):=xo_ x _ _
theorem JM_ (x:UInt8):zq_ .u32 (v8 x)=some (v32 (UInt32.ofNat x.toNat)):=by
 simp only[zq_,v8,v32,zL_,UInt32.toNat_ofNat']
theorem vB_ (x:UInt8) (c:UInt64):ze_ .shr (v8 x) (v64 c)=some (v8 (xE_ x c.toNat)):=xj_ x _ _
theorem vK_ (x:UInt8) (c:UInt64):ze_ .shl (v8 x) (v64 c)=some (v8 (xC_ x c.toNat)):=xo_ x _ _
theorem JB_ (x:UInt8):zq_ .u64 (v8 x)=some (v64 (UInt64.ofNat x.toNat)):=by
 simp only[zq_,v8,v64,zO_,UInt64.toNat_ofNat']
theorem x2_ (x:UInt8) (kk:IntKind) (c:Int) (h:0≤c):ze_ .shr (v8 x) (.int kk c)=some (v8 (xE_ x c.toNat)):=by
 obtain⟨n,rfl⟩:=Int.eq_ofNat_of_zero_le h;exact xj_ x _ _
theorem x1_ (x:UInt8) (kk:IntKind) (c:Int) (h:0≤c):ze_ .shl (v8 x) (.int kk c)=some (v8 (xC_ x c.toNat)):=by
 obtain⟨n,rfl⟩:=Int.eq_ofNat_of_zero_le h;exact xo_ x _ _
theorem QU_ (x:UInt8):zq_ .i64 (v8 x)=some (.int .i64 ((x.toNat:Int))):=by
 have hx:=x.toNat_lt
 simp only[zq_,v8]
 rw[z9_ _ (by omega)]
theorem kM_ (kk:IntKind) (n:Int):zq_ .u8 (.int kk n)=some (v8 (UInt8.ofInt n)):=by
 simp only[zq_,v8,w9_]
theorem vz_ (x:UInt16) (c:UInt8):ze_ .shr (v16 x) (v8 c)=some (v16 (js_ x c.toNat)):=jO_ x _ _
theorem v9_ (x:UInt16) (c:UInt8):ze_ .shl (v16 x) (v8 c)=some (v16 (jk_ x c.toNat)):=jT_ x _ _
theorem JJ_ (x:UInt16):zq_ .u8 (v16 x)=some (v8 (UInt8.ofNat x.toNat)):=by
 simp only[zq_,v16,v8,zY_,UInt8.toNat_ofNat']
theorem kX_ (x:UInt16) (c:UInt16):ze_ .shr (v16 x) (v16 c)=some (v16 (js_ x c.toNat)):=jO_ x _ _
theorem vj_ (x:UInt16) (c:UInt16):ze_ .shl (v16 x) (v16 c)=some (v16 (jk_ x c.toNat)):=jT_ x _ _
theorem Qv_ (x:UInt16):zq_ .u16 (v16 x)=some (v16 (UInt16.ofNat x.toNat)):=by
 simp only[zq_,v16,v16,zP_,UInt16.toNat_ofNat']
theorem kr_ (x:UInt16) (c:UInt32):ze_ .shr (v16 x) (v32 c)=some (v16 (js_ x c.toNat)):=jO_ x _ _
theorem kJ_ (x:UInt16) (c:UInt32):ze_ .shl (v16 x) (v32 c)=some (v16 (jk_ x c.toNat)):=jT_ x _ _
theorem ZL_ (x:UInt16):zq_ .u32 (v16 x)=some (v32 (UInt32.ofNat x.toNat)):=by
 simp only[zq_,v16,v32,zL_,UInt32.toNat_ofNat']
theorem kW_ (x:UInt16) (c:UInt64):ze_ .shr (v16 x) (v64 c)=some (v16 (js_ x c.toNat)):=jO_ x _ _
theorem kO_ (x:UInt16) (c:UInt64):ze_ .shl (v16 x) (v64 c)=some (v16 (jk_ x c.toNat)):=jT_ x _ _
theorem ZX_ (x:UInt16):zq_ .u64 (v16 x)=some (v64 (UInt64.ofNat x.toNat)):=by
 simp only[zq_,v16,v64,zO_,UInt64.toNat_ofNat']
theorem xm_ (x:UInt16) (kk:IntKind) (c:Int) (h:0≤c):ze_ .shr (v16 x) (.int kk c)=some (v16 (js_ x c.toNat)):=by
 obtain⟨n,rfl⟩:=Int.eq_ofNat_of_zero_le h;exact jO_ x _ _
theorem xp_ (x:UInt16) (kk:IntKind) (c:Int) (h:0≤c):ze_ .shl (v16 x) (.int kk c)=some (v16 (jk_ x c.toNat)):=by
 obtain⟨n,rfl⟩:=Int.eq_ofNat_of_zero_le h;exact jT_ x _ _
theorem ZR_ (x:UInt16):zq_ .i64 (v16 x)=some (.int .i64 ((x.toNat:Int))):=by
 have hx:=x.toNat_lt
 simp only[zq_,v16]
 rw[z9_ _ (by omega)]
theorem x5_ (kk:IntKind) (n:Int):zq_ .u16 (.int kk n)=some (v16 (UInt16.ofInt n)):=by
 simp only[zq_,v16,vR_]
theorem wa_ (x:UInt32) (c:UInt8):ze_ .shr (v32 x) (v8 c)=some (v32 (qm_ x c.toNat)):=jI_ x _ _
theorem v5_ (x:UInt32) (c:UInt8):ze_ .shl (v32 x) (v8 c)=some (v32 (qK_ x c.toNat)):=jR_ x _ _
theorem Xa_ (x:UInt32):zq_ .u8 (v32 x)=some (v8 (UInt8.ofNat x.toNat)):=by
 simp only[zq_,v32,v8,zY_,UInt8.toNat_ofNat']
theorem kB_ (x:UInt32) (c:UInt16):ze_ .shr (v32 x) (v16 c)=some (v32 (qm_ x c.toNat)):=jI_ x _ _
theorem kY_ (x:UInt32) (c:UInt16):ze_ .shl (v32 x) (v16 c)=some (v32 (qK_ x c.toNat)):=jR_ x _ _
theorem ZF_ (x:UInt32):zq_ .u16 (v32 x)=some (v16 (UInt16.ofNat x.toNat)):=by
 simp only[zq_,v32,v16,zP_,UInt16.toNat_ofNat']
theorem vn_ (x:UInt32) (c:UInt32):ze_ .shr (v32 x) (v32 c)=some (v32 (qm_ x c.toNat)):=jI_ x _ _
theorem vo_ (x:UInt32) (c:UInt32):ze_ .shl (v32 x) (v32 c)=some (v32 (qK_ x c.toNat)):=jR_ x _ _
theorem Zw_ (x:UInt32):zq_ .u32 (v32 x)=some (v32 (UInt32.ofNat x.toNat)):=by
 simp only[zq_,v32,v32,zL_,UInt32.toNat_ofNat']
theorem vp_ (x:UInt32) (c:UInt64):ze_ .shr (v32 x) (v64 c)=some (v32 (qm_ x c.toNat)):=jI_ x _ _
theorem vb_ (x:UInt32) (c:UInt64):ze_ .shl (v32 x) (v64 c)=some (v32 (qK_ x c.toNat)):=jR_ x _ _
theorem ZA_ (x:UInt32):zq_ .u64 (v32 x)=some (v64 (UInt64.ofNat x.toNat)):=by
 simp only[zq_,v32,v64,zO_,UInt64.toNat_ofNat']
theorem xn_ (x:UInt32) (kk:IntKind) (c:Int) (h:0≤c):ze_ .shr (v32 x) (.int kk c)=some (v32 (qm_ x c.toNat)):=by
 obtain⟨n,rfl⟩:=Int.eq_ofNat_of_zero_le h;exact jI_ x _ _
theorem xs_ (x:UInt32) (kk:IntKind) (c:Int) (h:0≤c):ze_ .shl (v32 x) (.int kk c)=some (v32 (qK_ x c.toNat)):=by
 obtain⟨n,rfl⟩:=Int.eq_ofNat_of_zero_le h;exact jR_ x _ _
theorem Zu_ (x:UInt32):zq_ .i64 (v32 x)=some (.int .i64 ((x.toNat:Int))):=by
 have hx:=x.toNat_lt
 simp only[zq_,v32]
 rw[z9_ _ (by omega)]
theorem x8_ (kk:IntKind) (n:Int):zq_ .u32 (.int kk n)=some (v32 (UInt32.ofInt n)):=by
 simp only[zq_,v32,vH_]
theorem v0_ (x:UInt64) (c:UInt8):ze_ .shr (v64 x) (v8 c)=some (v64 (q2_ x c.toNat)):=jW_ x _ _
theorem vy_ (x:UInt64) (c:UInt8):ze_ .shl (v64 x) (v8 c)=some (v64 (jv_ x c.toNat)):=jV_ x _ _
theorem JY_ (x:UInt64):zq_ .u8 (v64 x)=some (v8 (UInt8.ofNat x.toNat)):=by
 simp only[zq_,v64,v8,zY_,UInt8.toNat_ofNat']
theorem kZ_ (x:UInt64) (c:UInt16):ze_ .shr (v64 x) (v16 c)=some (v64 (q2_ x c.toNat)):=jW_ x _ _
theorem k0_ (x:UInt64) (c:UInt16):ze_ .shl (v64 x) (v16 c)=some (v64 (jv_ x c.toNat)):=jV_ x _ _
theorem ZK_ (x:UInt64):zq_ .u16 (v64 x)=some (v16 (UInt16.ofNat x.toNat)):=by
 simp only[zq_,v64,v16,zP_,UInt16.toNat_ofNat']
theorem vt_ (x:UInt64) (c:UInt32):ze_ .shr (v64 x) (v32 c)=some (v64 (q2_ x c.toNat)):=jW_ x _ _
theorem kP_ (x:UInt64) (c:UInt32):ze_ .shl (v64 x) (v32 c)=some (v64 (jv_ x c.toNat)):=jV_ x _ _
theorem Qd_ (x:UInt64):zq_ .u32 (v64 x)=some (v32 (UInt32.ofNat x.toNat)):=by
 simp only[zq_,v64,v32,zL_,UInt32.toNat_ofNat']
theorem vs_ (x:UInt64) (c:UInt64):ze_ .shr (v64 x) (v64 c)=some (v64 (q2_ x c.toNat)):=jW_ x _ _
theorem kE_ (x:UInt64) (c:UInt64):ze_ .shl (v64 x) (v64 c)=some (v64 (jv_ x c.toNat)):=jV_ x _ _
theorem ZJ_ (x:UInt64):zq_ .u64 (v64 x)=some (v64 (UInt64.ofNat x.toNat)):=by
 simp only[zq_,v64,v64,zO_,UInt64.toNat_ofNat']
theorem xr_ (x:UInt64) (kk:IntKind) (c:Int) (h:0≤c):ze_ .shr (v64 x) (.int kk c)=some (v64 (q2_ x c.toNat)):=by
 obtain⟨n,rfl⟩:=Int.eq_ofNat_of_zero_le h;exact jW_ x _ _
theorem xw_ (x:UInt64) (kk:IntKind) (c:Int) (h:0≤c):ze_ .shl (v64 x) (.int kk c)=some (v64 (jv_ x c.toNat)):=by
 obtain⟨n,rfl⟩:=Int.eq_ofNat_of_zero_le h;exact jV_ x _ _
theorem Z6_ (x:UInt64):zq_ .i64 (v64 x)=some (.int .i64 (IntKind.wrap .i64 (x.toNat:Int))):=by
 have hx:=x.toNat_lt
 simp only[zq_,v64]
theorem xZ_ (kk:IntKind) (n:Int):zq_ .u64 (.int kk n)=some (v64 (UInt64.ofInt n)):=by
 simp only[zq_,v64,vC_]
theorem KQ_ (n:Int):zq_ .u8 (vi n)=some (v8 (UInt8.ofInt n)):=kM_ _ n
theorem JV_ (n:Int):zq_ .u16 (vi n)=some (v16 (UInt16.ofInt n)):=x5_ _ n
theorem Xl_ (n:Int):zq_ .u32 (vi n)=some (v32 (UInt32.ofInt n)):=x8_ _ n
theorem Xh_ (n:Int):zq_ .u64 (vi n)=some (v64 (UInt64.ofInt n)):=xZ_ _ n
theorem Zc_ (x:UInt8) (c:Int) (h:0≤c):ze_ .shr (v8 x) (vi c)=some (v8 (xE_ x c.toNat)):=x2_ x _ c h
theorem Zf_ (x:UInt8) (c:Int) (h:0≤c):ze_ .shl (v8 x) (vi c)=some (v8 (xC_ x c.toNat)):=x1_ x _ c h
theorem vA_ (x:UInt16) (c:Int) (h:0≤c):ze_ .shr (v16 x) (vi c)=some (v16 (js_ x c.toNat)):=xm_ x _ c h
theorem vv_ (x:UInt16) (c:Int) (h:0≤c):ze_ .shl (v16 x) (vi c)=some (v16 (jk_ x c.toNat)):=xp_ x _ c h
theorem vT_ (x:UInt32) (c:Int) (h:0≤c):ze_ .shr (v32 x) (vi c)=some (v32 (qm_ x c.toNat)):=xn_ x _ c h
theorem vX_ (x:UInt32) (c:Int) (h:0≤c):ze_ .shl (v32 x) (vi c)=some (v32 (qK_ x c.toNat)):=xs_ x _ c h
theorem vG_ (x:UInt64) (c:Int) (h:0≤c):ze_ .shr (v64 x) (vi c)=some (v64 (q2_ x c.toNat)):=xr_ x _ c h
theorem vS_ (x:UInt64) (c:Int) (h:0≤c):ze_ .shl (v64 x) (vi c)=some (v64 (jv_ x c.toNat)):=xw_ x _ c h
end Go.Sx
end
section
namespace Go.Sx
open Go
set_option linter.unusedSimpArgs false
def aci_:TypeDesc→Bool
 | .struct _=>true
 | .array _ _=>true
 |_=>false
def qk_ (P:Program) (t:TypeId):Option (Bool×Nat):=
 match P.underlying t,P.info? t with
 |some d,some i=>some (aci_ d,i.size)
 |_,_=>none
inductive Ix where
 |arr (n:Nat) (m:Bool×Nat)
 |sl (m:Bool×Nat)
 |str
 |no
def ixT (P:Program) (t:TypeId):Ix:=
 match P.underlying t with
 |some (.array n e)=>match qk_ P e with|some m=> .arr n m|none=> .no
 |some (.slice e)=>match qk_ P e with|some m=> .sl m|none=> .no
 |some .string=> .str
 |_=> .no
def kk_ (P:Program) (t:TypeId) (i:Nat):Option (Nat× (Bool×Nat)):=
 match P.underlying t with
 |some (.struct fs)=>match fs[i]? with
  |some fd=>match qk_ P fd.type with
   |some m=>some (fd.offset,m)
   |none=>none
  |none=>none
 |_=>none
inductive Cv where
 |int (k:IntKind)
 |str
 |bytesStr
 |strBytes (e:TypeId)
 |no
def cvT (P:Program) (s d:TypeId):Cv:=
 match P.underlying s,P.underlying d with
 |some (.int _),some (.int k)=> .int k
 |some .string,some .string=> .str
 |some (.slice e),some .string=>match P.underlying e with|some (.int .u8)=> .bytesStr|_=> .no
 |some .string,some (.slice e)=>match P.underlying e with|some (.int .u8)=> .strBytes e|_=> .no
 |_,_=> .no
section
variable {P:Program}
theorem Qb_ {t:TypeId} {m:Bool×Nat} (h:qk_ P t=some m): ∃d i,P.underlying t=some d∧P.info? t=some i∧aci_ d=m.1∧i.size=m.2:=by
 unfold qk_ at h
 split at h
 ·rename_i d i hd hi
  cases h
  exact⟨d,i,hd,hi,rfl,rfl⟩
 ·cases h
theorem k8_ {t:TypeId} {m:Bool×Nat} (h:qk_ P t=some m) (w:World): (isAgg t).run P w= .ok m.1 w:=by
 obtain⟨d,i,hd,hi,h1,_⟩:=Qb_ h
 unfold isAgg
 rw[Sem.run_bind,run_underlying hd w,←h1]
 cases d<;>rfl
theorem zl_ {t:TypeId} {m:Bool×Nat} (h:qk_ P t=some m) (w:World): (sizeOf t).run P w= .ok m.2 w:=by
 obtain⟨d,i,hd,hi,_,h2⟩:=Qb_ h
 simp[sizeOf,typeInfo,hi,h2]
def xW_ (m:Bool×Nat) (cs:Array Value) (off:Nat):Option Value:=
 if m.1 then some (.agg (cs.extract off (off+m.2))) else cs[off]?
theorem qf_ {t:TypeId} {m:Bool×Nat} (h:qk_ P t=some m) {cs:Array Value} {off:Nat} {v:Value} (hv:xW_ m cs off=some v) (w:World): (part t cs off).run P w= .ok v w:=by
 unfold part
 rw[Sem.run_bind,k8_ h w]
 simp only[Result.andThen_ok]
 unfold xW_ at hv
 cases hm:m.1 with
 |true=>
  rw[hm] at hv
  simp only[↓reduceIte,Option.some.injEq] at hv
  simp only[↓reduceIte]
  rw[Sem.run_bind,zl_ h w]
  simp only[Result.andThen_ok,Sem.run_pure,hv]
 |false=>
  rw[hm] at hv
  simp only[Bool.false_eq_true, ↓reduceIte] at hv
  simp only[Bool.false_eq_true, ↓reduceIte,hv,Sem.run_pure]
end
def vp (b off:Nat):Value:= .pointer (some ⟨b,off,none⟩)
def vsl (b off n c:Nat):Value:= .slice (some ⟨b,off,none⟩) n c
def vs (l:List UInt8):Value:= .string ⟨l.toArray⟩
theorem z3_ (b o n:Nat): (Addr.mk b o none).add n=⟨b,o+n,none⟩:=by
 unfold Addr.add;split<;>simp_all
def ixI:Value→Option Int
 | .int _ n=>some n
 |_=>none
def jJ_ (x:Ix) (v:Value) (i:Option Int):Option Value:=
 match x,v,i with
 | .arr n m, .agg cs,some k=>if 0≤k∧k<n then xW_ m cs (k.toNat*m.2) else none
 | .str, .string s,some k=>if 0≤k then(s[k.toNat]?).map fun b=> .int .u8 (b.toNat:Int) else none
 |_,_,_=>none
def zK_ (x:Ix) (v:Value) (i:Option Int):Option Value:=
 match x,v,i with
 | .arr n m, .pointer (some a),some k=>if 0≤k∧k<n then some (.pointer (some (a.add (k.toNat*m.2)))) else none
 | .sl m, .slice (some a) n _,some k=>if 0≤k∧k<n then some (.pointer (some (a.add (k.toNat*m.2)))) else none
 |_,_,_=>none
def qH_ (x:Option (Nat× (Bool×Nat))) (v:Value):Option Value:=
 match x,v with
 |some (off,m), .pointer (some a)=>if m.2=0 then none else some (.pointer (some (a.add off)))
 |_,_=>none
def XX_ (x:Option (Nat× (Bool×Nat))) (v:Value):Option Value:=
 match x,v with
 |some (off,m), .agg cs=>xW_ m cs off
 |_,_=>none
def nilV (v:Value):Option Value:=
 match v with
 | .pointer (some a)=>some (.pointer (some a))
 | .func (.func k) a b=>some (.func (.func k) a b)
 |_=>none
def kg_ (v:Value) (i:Nat):Option Value:=
 match v with
 | .tuple vs=>vs[i]?
 |_=>none
def wu_ (x:Ix) (v:Value):Option Value:=
 match x,v with
 | .str, .string s=>some (.int .i64 s.size)
 | .arr n _,_=>some (.int .i64 n)
 | .sl _, .slice _ n _=>some (.int .i64 n)
 |_,_=>none
def capV (x:Ix) (v:Value):Option Value:=
 match x,v with
 | .arr n _,_=>some (.int .i64 n)
 | .sl _, .slice _ _ c=>some (.int .i64 c)
 |_,_=>none
def jB_ (c a b:Value):Option Value:=
 match c with
 | .bool true=>some a
 | .bool false=>some b
 |_=>none
def Ki_ (n c:Nat) (lo hi:Option (Option Int)):Option (Nat×Nat):=
 match lo,hi with
 |none,none=>some (0,n)
 |some (some l),none=>if 0≤l∧l≤n then some (l.toNat,n) else none
 |none,some (some h)=>if 0≤h∧h≤c then some (0,h.toNat) else none
 |some (some l),some (some h)=>if 0≤l∧l≤h∧h≤c then some (l.toNat,h.toNat) else none
 |_,_=>none
def z4_ (x:Ix) (v:Value) (lo hi:Option (Option Int)):Option Value:=
 match x,v with
 | .str, .string s=>match Ki_ s.size s.size lo hi with
  |some (l,h)=>some (.string (s.extract l h))
  |none=>none
 | .sl m, .slice a n c=>match Ki_ n c lo hi with
  |some (l,h)=>some (.slice (if c=l then a else a.map (·.add (l*m.2))) (h - l) (c - l))
  |none=>none
 | .arr n m, .pointer (some a)=>match Ki_ n n lo hi with
  |some (l,h)=>some (.slice (some (if n=l then a else a.add (l*m.2))) (h - l) (n - l))
  |none=>none
 |_,_=>none
def zy_ (m:Option (Bool×Nat)) (o:Option Obj) (off:Nat):Option Value:=
 match m,o with
 |some (true,n),some (.cells cs _ _)=>if off+n≤cs.size then some (.agg (cs.extract off (off+n))) else none
 |some (false,_),some (.cells cs _ _)=>cs[off]?
 |_,_=>none
def jD_ (m:Option (Bool×Nat)) (w0:World) (L:za_) (v:Value):Option Value:=
 match v with
 | .pointer (some ⟨b,off,none⟩)=>zy_ m (zm_ w0 L b) off
 |_=>none
def jL_:List Value→Option (List UInt8)
 | []=>some []
 | .int .u8 n::r=>match jL_ r with
  |some l=>some (UInt8.ofNat n.toNat::l)
  |none=>none
 |_=>none
def k7_ (o:Option Obj) (off n:Nat):Option Value:=
 match o with
 |some (.cells cs _ _)=>if off+n≤cs.size then(jL_ (cs.extract off (off+n)).toList).map fun l=> .string ⟨l.toArray⟩ else none
 |_=>none
def J0_ (w0:World) (L:za_) (v:Value):Option Value:=
 match v with
 | .slice none _ _=>some (.string .empty)
 | .slice (some ⟨b,off,none⟩) n _=>k7_ (zm_ w0 L b) off n
 |_=>none
def vJ_ (w0:World) (L:za_) (c:Cv) (v:Value):Option Value:=
 match c with
 | .int k=>zq_ k v
 | .str=>match v with| .string s=>some (.string s) |_=>none
 | .bytesStr=>J0_ w0 L v
 |_=>none
def qd_ (d:Option TypeDesc) (x y:Value):Option Bool:=
 match d,x,y with
 |some (.pointer _), .pointer none, .pointer b=>some b.isNone
 |some (.pointer _), .pointer (some _), .pointer none=>some false
 |some (.slice _), .slice none _ _, .slice b _ _=>some b.isNone
 |some (.slice _), .slice (some _) _ _, .slice none _ _=>some false
 |some (.map _ _), .map none, .map b=>some b.isNone
 |some (.map _ _), .map (some _), .map none=>some false
 |some (.func _ _ _), .nilFunc, .nilFunc=>some true
 |some (.func _ _ _), .nilFunc, .func _ _ _=>some false
 |some (.func _ _ _), .func _ _ _, .nilFunc=>some false
 |some .bool, .bool a, .bool b=>some (a==b)
 |_,_,_=>none
def qu_:Value→Bool
 | .int _ _=>true
 | .string _=>true
 |_=>false
def xt_ (f:Nat→Option Bool):List Nat→Option Bool
 | []=>some true
 |i::r=>match f i with
  |some true=>xt_ f r
  |some false=>some false
  |none=>none
def xv_ (f:Field→Option Bool):List Field→Option Bool
 | []=>some true
 |x::r=>if x.name≠ "_" then(match f x with
  |some true=>xv_ f r
  |some false=>some false
  |none=>none) else xv_ f r
def xc_ (m:Option (Bool×Nat)) (f:Value→Value→Option Bool) (xs ys:Array Value) (off:Nat):Option Bool:=
 match m with
 |some m=>match xW_ m xs off,xW_ m ys off with
  |some a,some b=>f a b
  |_,_=>none
 |none=>none
def eqD (P:Program):Nat→TypeId→Value→Value→Option Bool
 |0,_,_,_=>none
 |d+1,t,x,y=>match P.underlying t,x,y with
  |some (.int _), .int k a, .int k' b=>if k=k' then some (a==b) else none
  |some .string, .string a, .string b=>some (a==b)
  |some (.array n e), .agg xs, .agg ys=>match qk_ P e with
   |some m=>xt_ (fun i=>xc_ (some m) (eqD P d e) xs ys (i*m.2)) (List.range n)
   |none=>none
  |some (.struct fs), .agg xs, .agg ys=>if P.stoodInHeld t then none else
   xv_ (fun f=>xc_ (qk_ P f.type) (eqD P d f.type) xs ys f.offset) fs.toList
  |D,x,y=>qd_ D x y
def eqX (P:Program) (t:TypeId) (x y:Value):Option Bool:=
 match x,y with
 | .agg xs, .agg ys=>if P.eqGuardType P.depth t then none else eqD P 8 t (.agg xs) (.agg ys)
 |x,y=>qd_ (P.underlying t) x y
def qq_ (P:Program) (op:BinOp) (t:TypeId) (x y:Value):Option Value:=
 if qu_ x&&qu_ y then ze_ op x y
 else match op with
  | .eql=>(eqX P t x y).map fun b=> .bool b
  | .neq=>(eqX P t x y).map fun b=> .bool (!b)
  |_=>none
def jz_ (P:Program) (w0:World) (L:za_) (f:Fr):Op→Option Value
 | .move x=>some (ev f x)
 | .assign x=>some (ev f x)
 | .pick c a b=>jB_ (ev f c) (ev f a) (ev f b)
 | .binOp op t x y _=>qq_ P op t (ev f x) (ev f y)
 | .unOp op _ x=>unV op (ev f x)
 | .convert s d x=>vJ_ w0 L (cvT P s d) (ev f x)
 | .nilCheck x=>nilV (ev f x)
 | .fieldAddr s x i=>qH_ (kk_ P s i) (ev f x)
 | .field s x i=>XX_ (kk_ P s i) (ev f x)
 | .indexAddr t x i=>zK_ (ixT P t) (ev f x) (ixI (ev f i))
 | .index t x i=>jJ_ (ixT P t) (ev f x) (ixI (ev f i))
 | .load t x=>jD_ (qk_ P t) w0 L (ev f x)
 | .extract x i=>kg_ (ev f x) i
 | .slice t x lo hi none=>z4_ (ixT P t) (ev f x) (lo.map fun o=>ixI (ev f o)) (hi.map fun o=>ixI (ev f o))
 | .makeFunc fn a b=>some (.func fn (a.map (ev f)) (b.map (ev f)))
 | .call ⟨.builtin .len,args,ts⟩=>match args[0]?,ts[0]? with
  |some x,some t=>wu_ (ixT P t) (ev f x)
  |_,_=>none
 | .call ⟨.builtin .cap,args,ts⟩=>match args[0]?,ts[0]? with
  |some x,some t=>capV (ixT P t) (ev f x)
  |_,_=>none
 |_=>none
theorem QM_ {w0 w:World} {L:za_} (h:Hp w0 L w) {b:Nat} {cs:Array Value} {E:TypeId} {fz:Nat×Nat} (hr:zm_ w0 L b=some (.cells cs E fz)) (off:Nat):w.cell? ⟨b,off,none⟩=cs[off]? :=
 cell_of_row w b off cs E fz (h.read hr)
section
variable {P:Program} {w0 w:World} {L:za_}
theorem z1_ {b:Nat} {cs:Array Value} {E:TypeId} {fz:Nat×Nat} (hb:w.heap[b]? =some (.cells cs E fz)) (off n:Nat) (hn:off+n≤cs.size):
  (loadCells ⟨b,off,none⟩ n).run P w= .ok (cs.extract off (off+n)) w:=by
 have h:=run_loadCells_list (P:=P) w ⟨b,off,none⟩ (cs.extract off (off+n)).toList (by
  intro j v hv
  rw[z3_,cell_of_row w b _ cs E fz hb]
  simp only[Array.getElem?_toList,Array.getElem?_extract] at hv
  split at hv
  ·exact hv
  ·cases hv)
 have e: (cs.extract off (off+n)).toList.length=n:=by simp;omega
 rw[e,Array.toArray_toList] at h
 exact h
theorem vi_ {t:TypeId} {b off:Nat} {v:Value} (hw:Hp w0 L w) (h:zy_ (qk_ P t) (zm_ w0 L b) off=some v): (loadVar t ⟨b,off,none⟩).run P w= .ok v w:=by
 unfold zy_ at h
 split at h
 ·rename_i n cs E fz hm ho
  split at h
  ·rename_i hn
   simp only[Option.some.injEq] at h;subst h
   unfold loadVar
   rw[Sem.run_bind,k8_ hm w]
   simp only[Result.andThen_ok, ↓reduceIte,Sem.run_bind,zl_ hm w,z1_ (hw.read ho) off n hn,Sem.run_pure]
  ·cases h
 ·rename_i n cs E fz hm ho
  unfold loadVar
  rw[Sem.run_bind,k8_ hm w]
  simp only[Result.andThen_ok,Bool.false_eq_true, ↓reduceIte,run_load,QM_ hw ho,h]
 ·cases h
theorem kU_ (f:Value→ByteArray→Sem (ForInStep ByteArray)) (hf: ∀ (n:Int) s,f (.int .u8 n) s=pure (.yield (s.push (UInt8.ofNat n.toNat)))):
  ∀ (l:List Value) (bs:List UInt8) (s:ByteArray) (w:World),jL_ l=some bs→(forIn l s f).run P w= .ok ⟨s.data++bs.toArray⟩ w
 | [],bs,s,w,h=>by
  simp only[jL_,Option.some.injEq] at h;subst h
  simp
 |v::r,bs,s,w,h=>by
  unfold jL_ at h
  split at h
  ·cases ‹v::r= []›
  ·rename_i n r' e
   cases e
   split at h
   ·rename_i l hl
    simp only[Option.some.injEq] at h;subst h
    have ih:=kU_ f hf r l (s.push (UInt8.ofNat n.toNat)) w hl
    rw[List.forIn_cons,hf]
    simp only[pure_bind]
    rw[ih]
    congr 1
    apply congrArg
    apply Array.ext'
    simp[ByteArray.push]
   ·cases h
  ·cases h
theorem xH_ {b off n c:Nat} {v:Value} (hw:Hp w0 L w) (h:k7_ (zm_ w0 L b) off n=some v): (Conv.bytesToString (.slice (some ⟨b,off,none⟩) n c)).run P w= .ok v w:=by
 unfold k7_ at h
 split at h
 ·rename_i cs E fz ho
  split at h
  ·rename_i hn
   cases hl:jL_ (cs.extract off (off+n)).toList with
   |none=>rw[hl] at h;cases h
   |some l=>
    rw[hl] at h
    simp only[Option.map_some,Option.some.injEq] at h;subst h
    unfold Conv.bytesToString
    simp only[Sem.run_bind,z1_ (hw.read ho) off n hn,Result.andThen_ok]
    rw[←Array.forIn_toList,kU_ _ (fun n s=>rfl) _ _ _ w hl]
    simp[ByteArray.empty,ByteArray.emptyWithCapacity]
    rfl
  ·cases h
 ·cases h
end
end Go.Sx
end
section
namespace Go.Sx
open Go
set_option linter.unusedSimpArgs false
section
variable {P:Program} {w0 w:World} {L:za_}
theorem qO_ {v:Value} {i:Int} (h:ixI v=some i): ∃k,v= .int k i:=by
 cases v<;>simp only[ixI,reduceCtorEq,Option.some.injEq] at h
 subst h;exact⟨_,rfl⟩
theorem Ka_ {t:TypeId} {x i v:Value} (h:jJ_ (ixT P t) x (ixI i)=some v) (w:World): (Instr.index t x i).run P w= .ok v w:=by
 unfold jJ_ at h
 split at h
 ·rename_i n m cs k hx hi
  split at h
  ·rename_i hk
   obtain⟨kk,rfl⟩:=qO_ hi
   unfold ixT at hx
   split at hx
   ·rename_i n' e hu
    split at hx
    ·rename_i m' hm
     cases hx
     simp only[Instr.index,asIntOf,Sem.run_bind,Sem.run_pure,Result.andThen_ok,run_underlying hu w,hk,and_self, ↓reduceIte,zl_ hm w]
     exact qf_ hm h w
    ·cases hx
   ·split at hx<;>cases hx
   ·cases hx
   ·cases hx
  ·cases h
 ·rename_i s k hx hi
  split at h
  ·rename_i hk
   obtain⟨kk,rfl⟩:=qO_ hi
   unfold ixT at hx
   split at hx
   ·split at hx<;>cases hx
   ·split at hx<;>cases hx
   ·rename_i hu
    cases hs:s[k.toNat]? with
    |none=>rw[hs] at h;cases h
    |some b=>
     rw[hs] at h
     simp only[Option.map_some,Option.some.injEq] at h;subst h
     simp only[Instr.index,asIntOf,Sem.run_bind,Sem.run_pure,Result.andThen_ok,run_underlying hu w,hk, ↓reduceIte,hs]
   ·cases hx
  ·cases h
 ·cases h
theorem vD_ {t:TypeId} {x i v:Value} (h:zK_ (ixT P t) x (ixI i)=some v) (w:World): (Instr.indexAt t x i).run P w= .ok v w:=by
 unfold zK_ at h
 split at h
 ·rename_i n m a k hx hi
  split at h
  ·rename_i hk
   obtain⟨kk,rfl⟩:=qO_ hi
   unfold ixT at hx
   split at hx
   ·rename_i n' e hu
    split at hx
    ·rename_i m' hm
     cases hx
     cases h
     simp only[Instr.indexAt,asIntOf,Sem.run_bind,Sem.run_pure,Result.andThen_ok,run_underlying hu w,Instr.sureAddr,hk,and_self, ↓reduceIte,zl_ hm w]
    ·cases hx
   ·split at hx<;>cases hx
   ·cases hx
   ·cases hx
  ·cases h
 ·rename_i m a n c k hx hi
  split at h
  ·rename_i hk
   obtain⟨kk,rfl⟩:=qO_ hi
   unfold ixT at hx
   split at hx
   ·split at hx<;>cases hx
   ·rename_i e hu
    split at hx
    ·rename_i m' hm
     cases hx
     cases h
     simp only[Instr.indexAt,asIntOf,Sem.run_bind,Sem.run_pure,Result.andThen_ok,run_underlying hu w,hk,and_self, ↓reduceIte,zl_ hm w]
    ·cases hx
   ·cases hx
   ·cases hx
  ·cases h
 ·cases h
theorem vE_ {t:TypeId} {x v:Value} {i:Nat} (h:qH_ (kk_ P t i) x=some v) (w:World): (Instr.fieldAt t x i).run P w= .ok v w:=by
 unfold qH_ at h
 split at h
 ·rename_i off m a hx
  split at h
  ·cases h
  ·rename_i hm0
   unfold kk_ at hx
   split at hx
   ·rename_i fs hu
    split at hx
    ·rename_i fd hf
     split at hx
     ·rename_i m' hm
      cases hx
      cases h
      simp only[Instr.fieldAt,Sem.run_bind,Sem.run_pure,Result.andThen_ok,run_underlying hu w,hf,Instr.sureAddr,fieldPlace,zl_ hm w,hm0, ↓reduceIte]
     ·cases hx
    ·cases hx
   ·cases hx
 ·cases h
theorem KV_ {t:TypeId} {x v:Value} {i:Nat} (h:XX_ (kk_ P t i) x=some v) (w:World): (Instr.field t x i).run P w= .ok v w:=by
 unfold XX_ at h
 split at h
 ·rename_i off m cs hx
  unfold kk_ at hx
  split at hx
  ·rename_i fs hu
   split at hx
   ·rename_i fd hf
    split at hx
    ·rename_i m' hm
     cases hx
     simp only[Instr.field,Sem.run_bind,Result.andThen_ok,run_underlying hu w,hf,asAgg,Sem.run_pure]
     exact qf_ hm h w
    ·cases hx
   ·cases hx
  ·cases hx
 ·cases h
theorem Jb_ {t:TypeId} {n:Nat} {m:Bool×Nat} (h:ixT P t= .arr n m): ∃e,P.underlying t=some (.array n e)∧qk_ P e=some m:=by
 unfold ixT at h
 split at h
 ·rename_i n' e hu
  split at h
  ·rename_i m' hm;cases h;exact⟨e,hu,hm⟩
  ·cases h
 ·split at h<;>cases h
 ·cases h
 ·cases h
theorem aag_ {t:TypeId} {m:Bool×Nat} (h:ixT P t= .sl m): ∃e,P.underlying t=some (.slice e)∧qk_ P e=some m:=by
 unfold ixT at h
 split at h
 ·split at h<;>cases h
 ·rename_i e hu
  split at h
  ·rename_i m' hm;cases h;exact⟨e,hu,hm⟩
  ·cases h
 ·cases h
 ·cases h
theorem VQ_ {t:TypeId} (h:ixT P t= .str):P.underlying t=some .string:=by
 unfold ixT at h
 split at h
 ·split at h<;>cases h
 ·split at h<;>cases h
 ·assumption
 ·cases h
theorem aay_ {t:TypeId} {x v:Value} (h:wu_ (ixT P t) x=some v) (y:TypeId) (ts:Array TypeId) (vs:Array Value) (h1:vs[0]? =some x) (h2:ts[0]? =some t) (w:World):
  (Builtin.len_ ts y vs).run P w= .ok v w:=by
 unfold wu_ at h
 split at h
 ·rename_i s hx
  cases h
  simp only[Builtin.len_,h1,h2,Sem.run_bind,run_underlying (VQ_ hx) w,Result.andThen_ok];rfl
 ·rename_i n m hx
  cases h
  obtain⟨e,hu,_⟩:=Jb_ hx
  simp only[Builtin.len_,h1,h2,Sem.run_bind,run_underlying hu w,Result.andThen_ok];rfl
 ·rename_i m a n c hx
  cases h
  obtain⟨e,hu,_⟩:=aag_ hx
  simp only[Builtin.len_,h1,h2,Sem.run_bind,run_underlying hu w,Result.andThen_ok];rfl
 ·cases h
theorem abP_ {t:TypeId} {x v:Value} (h:capV (ixT P t) x=some v) (y:TypeId) (ts:Array TypeId) (vs:Array Value) (h1:vs[0]? =some x) (h2:ts[0]? =some t) (w:World):
  (Builtin.cap_ ts y vs).run P w= .ok v w:=by
 unfold capV at h
 split at h
 ·rename_i n m hx
  cases h
  obtain⟨e,hu,_⟩:=Jb_ hx
  simp only[Builtin.cap_,h1,h2,Sem.run_bind,run_underlying hu w,Result.andThen_ok];rfl
 ·rename_i m a n c hx
  cases h
  obtain⟨e,hu,_⟩:=aag_ hx
  simp only[Builtin.cap_,h1,h2,Sem.run_bind,run_underlying hu w,Result.andThen_ok];rfl
 ·cases h
theorem xl_ {x:Value} {i:Int} (h:ixI x=some i) {y:Nat} (hi:0≤i∧i≤y) (code:BoundsCode) (w:World): (Instr.sliceBound x y code).run P w= .ok i.toNat w:=by
 obtain⟨k,rfl⟩:=qO_ h
 simp only[Instr.sliceBound,asIntOf,Sem.run_bind,Sem.run_pure,Result.andThen_ok,hi,and_self, ↓reduceIte]
theorem xN_ {b:Bool} {n c l h:Nat} {lo hi:Option Value} (hh:Ki_ n c (lo.map ixI) (hi.map ixI)=some (l,h)) (w:World):
  (Instr.sliceBounds b n c lo hi none).run P w= .ok (l,h,c) w:=by
 unfold Ki_ at hh
 cases lo with
 |none=>
  cases hi with
  |none=>
   simp only[Option.map_none,Option.some.injEq,Prod.mk.injEq] at hh
   obtain⟨rfl,rfl⟩:=hh
   simp[Instr.sliceBounds]
  |some hv=>
   simp only[Option.map_none,Option.map_some] at hh
   split at hh
   ·cases ‹some (ixI hv)=none›
   ·cases ‹_=none›
   ·rename_i h' e1 e2
    split at hh
    ·rename_i hb
     cases hh
     simp only[Option.some.injEq] at e2
     simp[Instr.sliceBounds,xl_ e2 hb]
    ·cases hh
   ·cases ‹none=some (some _)›
   ·cases hh
 |some lv=>
  cases hi with
  |none=>
   simp only[Option.map_none,Option.map_some] at hh
   split at hh
   ·cases ‹some (ixI lv)=none›
   ·rename_i l' e1 e2
    split at hh
    ·rename_i hb
     cases hh
     simp only[Option.some.injEq] at e1
     simp[Instr.sliceBounds,xl_ e1 hb]
    ·cases hh
   ·cases ‹some (ixI lv)=none›
   ·cases ‹none=some (some _)›
   ·cases hh
  |some hv=>
   simp only[Option.map_some] at hh
   split at hh
   ·cases ‹some (ixI lv)=none›
   ·cases ‹some (ixI hv)=none›
   ·cases ‹some (ixI lv)=none›
   ·rename_i l' h' e1 e2
    split at hh
    ·rename_i hb
     cases hh
     simp only[Option.some.injEq] at e1 e2
     simp[Instr.sliceBounds,xl_ e2 (⟨by omega,hb.2.2⟩:0≤h'∧h'≤ (c:Int)),xl_ e1 (y:=h'.toNat) ⟨hb.1,by omega⟩]
    ·cases hh
   ·cases hh
theorem Vb_ {t:TypeId} {x v:Value} {lo hi:Option Value} (h:z4_ (ixT P t) x (lo.map ixI) (hi.map ixI)=some v) (w:World): (Instr.sliceAt t x lo hi none).run P w= .ok v w:=by
 unfold z4_ at h
 split at h
 ·rename_i s hx
  split at h
  ·rename_i l hi' hb
   cases h
   have hu:=VQ_ hx
   simp only[Instr.sliceAt,Instr.slice,Sem.run_bind,run_underlying hu w,Result.andThen_ok,Option.isSome_none,Bool.false_eq_true, ↓reduceIte,xN_ hb w,Sem.run_pure]
  ·cases h
 ·rename_i m a n c hx
  split at h
  ·rename_i l hi' hb
   cases h
   obtain⟨e,hu,hm⟩:=aag_ hx
   simp only[Instr.sliceAt,Instr.slice,Sem.run_bind,run_underlying hu w,Result.andThen_ok,xN_ hb w,zl_ hm w,Sem.run_pure]
  ·cases h
 ·rename_i n m a hx
  split at h
  ·rename_i l hi' hb
   cases h
   obtain⟨e,hu,hm⟩:=Jb_ hx
   simp only[Instr.sliceAt,Instr.sureAddr,Sem.run_bind,run_underlying hu w,Result.andThen_ok,xN_ hb w,zl_ hm w,Sem.run_pure]
  ·cases h
 ·cases h
theorem wp_ {t:TypeId} {x y:Value} {b:Bool} (d:Nat) (h:qd_ (P.underlying t) x y=some b) (w:World): (Op.equalIn (d+1) t x y).run P w= .ok b w:=by
 unfold qd_ at h
 split at h<;>first
  | (
    rename_i hu
    simp only[Option.some.injEq] at h
    subst h
    simp only[Op.equalIn,Sem.run_bind,run_underlying hu w,Result.andThen_ok]
    rfl)
  |cases h
theorem WX_ (P:Program): ∀ (d k:Nat) (t:TypeId) (x y:Value) (b:Bool),eqD P d t x y=some b→ ∀w,(Op.equalIn (d+k) t x y).run P w= .ok b w:=by
 intro d
 induction d with
 |zero=>intro k t x y b h;cases h
 |succ d ih=>
  intro k t x y b h w
  have e:d+1+k=(d+k)+1:=by omega
  rw[e]
  unfold eqD at h
  split at h
  ·rename_i k0 k1 a k2 c hu
   split at h
   ·rename_i hk
    cases h
    subst hk
    simp[Op.equalIn,run_underlying hu w]
   ·cases h
  ·rename_i a c hu
   cases h
   simp[Op.equalIn,run_underlying hu w]
  ·rename_i n el xs ys hu
   split at h
   ·rename_i m hm
    simp only[Op.equalIn,Sem.run_bind,run_underlying hu w,Result.andThen_ok,zl_ hm w]
    simp only[Std.Legacy.Range.forIn_eq_forIn_range',Std.Legacy.Range.size,Nat.sub_zero,Nat.add_one_sub_one,Nat.div_one]
    rw[List.range_eq_range'] at h
    generalize List.range' 0 n=is at h ⊢
    induction is with
    |nil=>cases h;simp
    |cons j is ihl=>
     unfold xt_ at h
     simp only[List.forIn_cons,Sem.run_bind]
     split at h
     ·rename_i h1
      unfold xc_ at h1
      split at h1
      ·rename_i m' he
       cases he
       split at h1
       ·rename_i a c ha hc
        simp only[qf_ hm ha w,qf_ hm hc w,Result.andThen_ok,ih k el a c true h1 w,Bool.not_true,Bool.false_eq_true,if_false,Sem.run_pure]
        exact ihl h
       ·cases h1
      ·cases h1
     ·rename_i h1
      cases h
      unfold xc_ at h1
      split at h1
      ·rename_i m' he
       cases he
       split at h1
       ·rename_i a c ha hc
        simp only[qf_ hm ha w,qf_ hm hc w,Result.andThen_ok,ih k el a c false h1 w,Bool.not_false,if_true,Sem.run_pure]
       ·cases h1
      ·cases h1
     ·cases h
   ·cases h
  ·rename_i fs xs ys hu
   split at h
   ·cases h
   ·rename_i hst
    have hst':P.stoodInHeld t=false:=by simpa using hst
    simp only[Op.equalIn,Sem.run_bind,run_underlying hu w,Result.andThen_ok,run_program,hst',Bool.false_eq_true,if_false]
    rw[←Array.forIn_toList]
    generalize fs.toList=l at h ⊢
    clear hu
    induction l with
    |nil=>cases h;simp
    |cons f l ihl=>
     unfold xv_ at h
     simp only[List.forIn_cons,Sem.run_bind,Sem.run_ite]
     split at h
     ·rename_i hne
      rw[if_pos hne]
      split at h
      ·rename_i h1
       unfold xc_ at h1
       split at h1
       ·rename_i m' hm
        split at h1
        ·rename_i a c ha hc
         simp only[qf_ hm ha w,qf_ hm hc w,Result.andThen_ok,ih k f.type a c true h1 w,Bool.not_true,Bool.false_eq_true,if_false,Sem.run_pure]
         exact ihl h
        ·cases h1
       ·cases h1
      ·rename_i h1
       cases h
       unfold xc_ at h1
       split at h1
       ·rename_i m' hm
        split at h1
        ·rename_i a c ha hc
         simp only[qf_ hm ha w,qf_ hm hc w,Result.andThen_ok,ih k f.type a c false h1 w,Bool.not_false,if_true,Sem.run_pure]
        ·cases h1
       ·cases h1
      ·cases h
     ·rename_i hne
      rw[if_neg hne]
      simp only[Sem.run_pure,Result.andThen_ok]
      exact ihl h
  ·exact wp_ (d+k) h w
theorem V5_ {op:BinOp} {t:TypeId} {x y:Operand} {a b:Value} {r:Bool} (hp: (qu_ a&&qu_ b)≠true) (hr:eqX P t a b=some r) (w:World):
  (eqGuard op t x y a b).run P w= .ok () w∧(Op.equal t a b).run P w= .ok r w∧binOp .eql t a b=(do pure (.bool (←Op.equal t a b)):Sem Value)∧binOp .neq t a b=(do pure (.bool (!(←Op.equal t a b))):Sem Value):=by
 unfold eqX at hr
 split at hr
 ·rename_i xs ys
  split at hr
  ·cases hr
  ·rename_i hg
   have hg':P.eqGuardType P.depth t=false:=by simpa using hg
   refine⟨?_,WX_ P 8 9992 t _ _ r hr w,rfl,rfl⟩
   unfold eqGuard
   cases op<;>first
    |rfl
    |simp[Sem.run_bind,run_program,hg']
 ·refine⟨?_,wp_ 9999 hr w, ?_, ?_⟩
  ·unfold qd_ at hr
   split at hr<;>first| (unfold eqGuard;cases op<;>rfl) |cases hr
  ·unfold qd_ at hr
   split at hr<;>first|rfl|cases hr
  ·unfold qd_ at hr
   split at hr<;>first|rfl|cases hr
theorem aaF_ {op:BinOp} {t:TypeId} {x y:Operand} {a b v:Value} (h:qq_ P op t a b=some v) (w:World):
  (do eqGuard op t x y a b;binOp op t a b:Sem Value).run P w= .ok v w:=by
 unfold qq_ at h
 split at h
 ·rename_i hp
  have hg: (eqGuard op t x y a b).run P w= .ok () w:=by
   unfold eqGuard
   cases a<;>simp only[qu_,Bool.false_and,Bool.false_eq_true] at hp<;>
    (split<;>rfl)
  rw[Sem.run_bind,hg]
  exact aaA_ w h
 ·rename_i hp
  split at h
  ·cases hr:eqX P t a b with
   |none=>rw[hr] at h;cases h
   |some r=>
    rw[hr] at h
    simp only[Option.map_some,Option.some.injEq] at h;subst h
    obtain⟨h1,h2,e,-⟩:=V5_ (op:= .eql) (x:=x) (y:=y) hp hr w
    rw[Sem.run_bind,h1]
    simp only[Result.andThen_ok]
    rw[e,Sem.run_bind,h2];rfl
  ·cases hr:eqX P t a b with
   |none=>rw[hr] at h;cases h
   |some r=>
    rw[hr] at h
    simp only[Option.map_some,Option.some.injEq] at h;subst h
    obtain⟨h1,h2,-,e⟩:=V5_ (op:= .neq) (x:=x) (y:=y) hp hr w
    rw[Sem.run_bind,h1]
    simp only[Result.andThen_ok]
    rw[e,Sem.run_bind,h2];rfl
  ·cases h
theorem acH_ {s d:TypeId} {k:IntKind} (h:cvT P s d= .int k): ∃k',P.underlying s=some (.int k')∧P.underlying d=some (.int k):=by
 unfold cvT at h
 split at h
 ·rename_i a b;cases h;exact⟨_,a,b⟩
 ·cases h
 ·split at h<;>cases h
 ·split at h<;>cases h
 ·cases h
theorem VX_ {s d:TypeId} {x v:Value} (hw:Hp w0 L w) (h:vJ_ w0 L (cvT P s d) x=some v): (convert s d x).run P w= .ok v w:=by
 unfold vJ_ at h
 split at h
 ·rename_i k hc
  obtain⟨k',h1,h2⟩:=acH_ hc
  unfold zq_ at h
  split at h
  ·cases h
   simp only[convert,Sem.run_bind,run_underlying h1 w,run_underlying h2 w,Result.andThen_ok,Conv.intToInt,Sem.run_pure]
  ·cases h
 ·rename_i hc
  unfold cvT at hc
  split at hc
  ·cases hc
  ·rename_i h1 h2
   split at h
   ·cases h
    simp only[convert,Sem.run_bind,run_underlying h1 w,run_underlying h2 w,Result.andThen_ok,Sem.run_pure]
   ·cases h
  ·split at hc<;>cases hc
  ·split at hc<;>cases hc
  ·cases hc
 ·rename_i hc
  unfold cvT at hc
  split at hc
  ·cases hc
  ·cases hc
  ·rename_i e h1 h2
   split at hc
   ·rename_i h3
    unfold J0_ at h
    split at h
    ·cases h
     simp only[convert,Sem.run_bind,run_underlying h1 w,run_underlying h2 w,run_underlying h3 w,Result.andThen_ok];rfl
    ·simp only[convert,Sem.run_bind,run_underlying h1 w,run_underlying h2 w,run_underlying h3 w,Result.andThen_ok]
     exact xH_ hw h
    ·cases h
   ·cases hc
  ·split at hc<;>cases hc
  ·cases hc
 ·cases h
theorem zS_ {f:Fr} {o:Oper} {v:Value} (hw:Hp w0 L w) (h:jz_ P w0 L f o.op=some v): (execOp (ev f) o).run P w= .ok (.value v) w:=by
 obtain⟨dst,op,ty,pos,after,guard⟩:=o
 simp only at h
 unfold jz_ at h
 split at h<;>simp only[execOp]
 ·cases h;rfl
 ·cases h;rfl
 ·rename_i c a b
  cases hc:ev f c<;>rw[hc] at h<;>simp only[jB_,reduceCtorEq] at h
  rename_i t
  cases t<;>simp only[Option.some.injEq] at h<;>subst h<;>rfl
 ·rw[Sem.run_bind,aaF_ h w];rfl
 ·rw[Sem.run_bind,acs_ w h];rfl
 ·rw[Sem.run_bind,VX_ hw h];rfl
 ·rename_i x
  unfold nilV at h
  split at h
  ·rename_i a hx;cases h;simp only[hx];rfl
  ·rename_i k a b hx;cases h;simp only[hx];rfl
  ·cases h
 ·rw[Sem.run_bind,vE_ h w];rfl
 ·rw[Sem.run_bind,KV_ h w];rfl
 ·rw[Sem.run_bind,vD_ h w];rfl
 ·rw[Sem.run_bind,Ka_ h w];rfl
 ·rename_i t x
  unfold jD_ at h
  split at h
  ·rename_i b off hx
   simp only[Instr.loadAt,hx,Instr.sureAddr,Sem.run_bind,Sem.run_pure,Result.andThen_ok,vi_ hw h]
  ·cases h
 ·rename_i x i
  unfold kg_ at h
  split at h
  ·rename_i vs hx
   simp only[Instr.extract,hx,h];rfl
  ·cases h
 ·rename_i t x lo hi
  have h':z4_ (ixT P t) (ev f x) ((lo.map (ev f)).map ixI) ((hi.map (ev f)).map ixI)=some v:=by
   rw[Option.map_map,Option.map_map];exact h
  rw[Sem.run_bind]
  simp only[Option.map_none]
  rw[Vb_ h' w];rfl
 ·cases h;rfl
 ·rename_i args ts
  split at h
  ·rename_i x t hx ht
   have h1: (args.map (ev f))[0]? =some (ev f x):=by simp[hx]
   simp only[resolve,Sem.run_bind,Sem.run_pure,Result.andThen_ok,invoke,builtin]
   rw[aay_ h _ _ _ h1 ht w];rfl
  ·cases h
 ·rename_i args ts
  split at h
  ·rename_i x t hx ht
   have h1: (args.map (ev f))[0]? =some (ev f x):=by simp[hx]
   simp only[resolve,Sem.run_bind,Sem.run_pure,Result.andThen_ok,invoke,builtin]
   rw[abP_ h _ _ _ h1 ht w];rfl
  ·cases h
 ·cases h
end
end Go.Sx
end
namespace Go.Sx
open Go
section
variable {P:Program} {ops:Array Oper} {Q:Exit→Act→World→Prop}
def Left (o:Oper) (a a':Act):Prop:= ∃u ds,a'=({a with defers:=ds}:Act).put o.dst u
theorem Kj_ {o:Oper} {a:Act} {d:Option Tmp} {v:Value} {K:Act→World→Prop} (hd: ∀t,d=some t→o.dst≠some t)
  (hQ: ∀c a w,Q (.panic c) (a.put d v) w→Q (.panic c) a w) (r:Result Next) (h:o.upon P (a.put d v) K Q r):
  o.upon P a (fun a' w'=>Left o a a'∧K (a'.put d v) w') Q r:=by
 have comm: ∀u,(a.put o.dst u).put d v=(a.put d v).put o.dst u:=fun u=>(Act.put_comm a v u hd).symm
 have hl: ∀u,Left o a (a.put o.dst u):=fun u=>⟨u,a.defers,rfl⟩
 match r,h with
 | .ok (.value u) _,h=>exact⟨hl u,by rw[comm];exact h⟩
 | .ok .skip _,h=>exact⟨hl undef,by rw[comm];exact h⟩
 | .ok (.defer e) _,h=>
  refine⟨⟨undef,e::a.defers,rfl⟩, ?_⟩
  rw[←Act.put_comm _ v undef hd,←Act.put_defers]
  exact h
 | .ok (.enter f args) _,h=>
  refine Calls.mono h fun e w'' he=> ?_
  match e,he with
  | .returned u,he=>exact⟨hl u,by rw[comm];exact he⟩
  | .panicked c,he=>exact hQ _ _ _ he
  | .outgrown,he=>exact he
 | .ok (.row row args) _,h=>exact Rows.mono h fun u w'' he=>⟨hl u,by rw[comm];exact he⟩
 | .halt (.panic u) _,h=>exact hQ _ _ _ h
theorem KJ_ {j:Nat} {oi oj:Oper} {v:Value} (hj:ops[j]? =some oj) (hap:oi.apart ops oj=true) (hsj: ∀cs b,oj.op≠ .select cs b)
  (hQ: ∀c a w,Q (.panic c) (a.put oi.dst v) w→Q (.panic c) a w) {K:Act→World→Prop} {a:Act} {w:World}
  (h:wpOp P ops Q j K (a.put oi.dst v) w):wpOp P ops Q j (fun a' w'=>Left oj a a'∧K (a'.put oi.dst v) w') a w:=by
 obtain⟨h1,h2,h3⟩:=Oper.apart_spec hap
 unfold wpOp at h ⊢
 simp only[hj] at h ⊢
 rw[wanted_put oj a oi.dst v h1] at h
 cases hw:Region.wanted oj (yielded ops a.tmps) with
 |true=>
  rw[hw] at h
  simp only[if_true] at h ⊢
  rcases h with h| ⟨hasks,hl⟩
  ·left
   unfold Oper.wp at h ⊢
   rw[execOp_put oj hsj a oi.dst v h1] at h
   exact Kj_ h2 hQ _ h
  ·right
   exact⟨by unfold Oper.asks at*;rwa [execOp_put oj hsj a oi.dst v h1] at hasks,hl⟩
 |false=>
  rw[hw] at h
  simp only[Bool.false_eq_true,if_false] at h ⊢
  exact⟨⟨undef,a.defers,rfl⟩,by rw[←Act.put_comm a v undef h2];exact h⟩
def qR_ (P:Program) (ops:Array Oper) (Q:Exit→Act→World→Prop) (ts:List Nat) (C:World→Prop):Nat→Array Bool→Act→World→Prop
 |0,listed,a,w=>((∀t,t∈ts→listed.getD t true=false)→C w)∧Region.ready .any ops listed= []∧Q .normal a w
 |n+1,listed,a,w=>
  ((∀t,t∈ts→listed.getD t true=false)→C w)∧(Region.ready .any ops listed= []→Q .normal a w)∧
  ∀i∈Region.ready .any ops listed,wpOp P ops Q i (qR_ P ops Q ts C n (listed.setIfInBounds i true)) a w
variable {ts:List Nat} {C:World→Prop}
theorem jK_ {listed:Array Bool} {i t:Nat} (h:listed.getD t true=true): (listed.setIfInBounds i true).getD t true=true:=by
 by_cases he:i=t
 ·subst he
  rw[Array.getD_eq_getD_getElem?,Array.getElem?_setIfInBounds_self]
  split<;>rfl
 ·rw[getD_set_ne true he];exact h
theorem xQ_: ∀ (n:Nat) (listed:Array Bool) (a:Act) (w:World),qR_ P ops Q ts C n listed a w→wpAny P .any ops Q n listed a w
 |0,_,_,_,h=>h.2
 |n+1,_,_,_,h=>⟨h.2.1,fun i hi=>wpOp_mono (fun a w k=>xQ_ n _ a w k) (h.2.2 i hi)⟩
theorem jq_: ∀ (n:Nat) (listed:Array Bool) (a:Act) (w:World),(∃t∈ts,listed.getD t true=true)→wpAny P .any ops Q n listed a w→qR_ P ops Q ts C n listed a w
 |0,_,_,_,⟨t,ht,hl⟩,h=>⟨fun hn=>(by rw[hn t ht] at hl;cases hl),h.1,h.2⟩
 |n+1,_,_,_,⟨t,ht,hl⟩,h=>
  ⟨fun hn=>(by rw[hn t ht] at hl;cases hl),h.1,fun i hi=>wpOp_mono (fun a w k=>jq_ n _ a w ⟨t,ht,jK_ hl⟩ k) (h.2 i hi)⟩
structure First (ops:Array Oper) (ts:List Nat) (i:Nat) (oi:Oper) (pure:Prop) (listed:Array Bool):Prop where
 ready:i∈Region.ready .any ops listed
 free: ∀j oj,ops[j]? =some oj→j≠i→listed.getD j true=false→(∀e∈oj.after,Region.binds .any e=true→e.on≠i)→oi.apart ops oj=true
 waits:pure∨ ∃cs:List Nat,(∀t,t∈ts→listed.getD t true=false→t∈cs)∧
  ∀c,c∈cs→c≠i∧listed.getD c true=false∧ ∃oc,ops[c]? =some oc∧ ∃e∈oc.after,Region.binds .any e=true∧(e.on=i∨e.on∈cs)
def YieldsC (P:Program) (ops:Array Oper) (C:World→Prop) (pure:Prop) (o:Oper) (v:Value) (a:Act):Prop:=
 (Region.wanted o (yielded ops a.tmps)=true∧ ∀w,(pure∨C w)→(execOp a.eval o).run P w= .ok (.value v) w)∨
 (Region.wanted o (yielded ops a.tmps)=false∧v=undef)
theorem YieldsC.wpOp {pure:Prop} {i:Nat} {o:Oper} {v:Value} {a:Act} (hi:ops[i]? =some o) (hy:YieldsC P ops C pure o v a)
  {K:Act→World→Prop} {w:World} (hw:pure∨C w) (h:K (a.put o.dst v) w):Go.wpOp P ops Q i K a w:=by
 unfold Go.wpOp
 simp only[hi]
 rcases hy with⟨h1,hv⟩ | ⟨h1,rfl⟩
 ·simp only[h1,if_true,Oper.wp,hv w hw,Oper.upon];exact .inl h
 ·simp only[h1,Bool.false_eq_true,if_false];exact h
theorem YieldsC.left {pure:Prop} {oi oj:Oper} {v:Value} {a a':Act} (hy:YieldsC P ops C pure oi v a) (hsi: ∀cs b,oi.op≠ .select cs b)
  (h3: ∀d,oj.dst=some d→d∉oi.looksAt ops) (hl:Left oj a a'):YieldsC P ops C pure oi v a':=by
 obtain⟨u,ds,rfl⟩:=hl
 have e1:execOp (({a with defers:=ds}:Act).put oj.dst u).eval oi=execOp a.eval oi:=execOp_put oi hsi ({a with defers:=ds}:Act) oj.dst u h3
 have e2:Region.wanted oi (yielded ops (({a with defers:=ds}:Act).put oj.dst u).tmps)=Region.wanted oi (yielded ops a.tmps):=wanted_put oi ({a with defers:=ds}:Act) oj.dst u h3
 unfold YieldsC
 rw[e1,e2]
 exact hy
theorem ju_ {pure:Prop} {i:Nat} {oi:Oper} {v:Value} (hi:ops[i]? =some oi) (hit:i∉ts) (hsel: ∀ (j:Nat) (o:Oper) cs b,ops[j]? =some o→o.op≠ .select cs b)
  (hQ: ∀c a w,Q (.panic c) (a.put oi.dst v) w→Q (.panic c) a w):
  ∀ (fuel:Nat) (listed:Array Bool) (a:Act) (w:World),First ops ts i oi pure listed→(pure∨ ∀t,t∈ts→listed.getD t true=false)→YieldsC P ops C pure oi v a→
   qR_ P ops Q ts C fuel (listed.setIfInBounds i true) (a.put oi.dst v) w→qR_ P ops Q ts C (fuel+1) listed a w:=by
 intro fuel
 induction fuel with
 |zero=>
  intro listed a w hF hn hy H
  have hset: ∀t,t∈ts→(listed.setIfInBounds i true).getD t true=listed.getD t true:=fun t ht=>getD_set_ne true (fun e=>hit (e▸ht))
  have hC: (∀t,t∈ts→listed.getD t true=false)→C w:=fun h=>H.1 fun t ht=>(hset t ht).trans (h t ht)
  refine⟨hC,fun h=>(by have:=hF.ready;rw[h] at this;cases this),fun j hj=> ?_⟩
  by_cases hji:j=i
  ·subst hji;exact hy.wpOp hi (hn.imp id hC) H
  ·have:=ready_mono hj hji
   rw[H.2.1] at this
   cases this
 |succ fuel ih=>
  intro listed a w hF hn hy H
  have hset: ∀t,t∈ts→(listed.setIfInBounds i true).getD t true=listed.getD t true:=fun t ht=>getD_set_ne true (fun e=>hit (e▸ht))
  have hC: (∀t,t∈ts→listed.getD t true=false)→C w:=fun h=>H.1 fun t ht=>(hset t ht).trans (h t ht)
  refine⟨hC,fun h=>(by have:=hF.ready;rw[h] at this;cases this),fun j hj=> ?_⟩
  by_cases hji:j=i
  ·subst hji;exact hy.wpOp hi (hn.imp id hC) H
  ·have h1:=H.2.2 j (ready_mono hj hji)
   obtain⟨hjun,oj,hoj,hall⟩:=mem_ready.1 hj
   have hnot: ∀e∈oj.after,Region.binds .any e=true→e.on≠i:=fun e he hb heq=>by
    have h2:=hall e he hb
    have h0:=(mem_ready.1 hF.ready).1
    rw[heq] at h2
    rcases Nat.lt_or_ge i listed.size with h'|h'
    ·simp[h'] at h0 h2;rw[h0] at h2;cases h2
    ·simp[Array.getElem?_eq_none h'] at h2
   have hap:=hF.free j oj hoj hji hjun hnot
   have h2:=KJ_ hoj hap (fun cs b=>hsel j oj cs b hoj) hQ h1
   have old: ∀k,(listed.setIfInBounds j true).getD k true=false→listed.getD k true=false:=fun k hk=>by
    by_cases hjk:j=k
    ·subst hjk;exact hjun
    ·rwa [getD_set_ne true hjk] at hk
   have hun: ∀k,listed.getD k true=false→k≠j→(listed.setIfInBounds j true).getD k true=false:=fun k hk hkj=>by
    rw[getD_set_ne true (Ne.symm hkj)];exact hk
   have hi0:=(mem_ready.1 hF.ready).1
   have hw': ∀cs:List Nat,(∀c,c∈cs→c≠i∧listed.getD c true=false∧ ∃oc,ops[c]? =some oc∧ ∃e∈oc.after,Region.binds .any e=true∧(e.on=i∨e.on∈cs))→j∉cs:=by
    intro cs hcs hjc
    obtain⟨-,-,oc,hoc,e,he,hb,heq⟩:=hcs j hjc
    rw[hoj] at hoc
    cases hoc
    have h2:=hall e he hb
    rcases heq with heq|heq
    ·exact hnot e he hb heq
    ·have h3:=(hcs _ heq).2.1
     rcases Nat.lt_or_ge e.on listed.size with h'|h'
     ·simp[h'] at h2 h3;rw[h3] at h2;cases h2
     ·simp[Array.getElem?_eq_none h'] at h2
   have hF':First ops ts i oi pure (listed.setIfInBounds j true):=
    ⟨ready_mono hF.ready (Ne.symm hji),fun k ok hk hki hun hno=>hF.free k ok hk hki (old k hun) hno,hF.waits.imp id fun⟨cs,hc1,hc2⟩=>
     ⟨cs,fun t ht hu=>hc1 t ht (old t hu),fun c hc=>by
      obtain⟨h1,h2,h3⟩:=hc2 c hc
      exact⟨h1,hun c h2 (fun e=>hw' cs hc2 (e▸hc)),h3⟩⟩⟩
   have hn':pure∨ ∀t,t∈ts→(listed.setIfInBounds j true).getD t true=false:=by
    rcases hF.waits with h| ⟨cs,hc1,hc2⟩
    ·exact .inl h
    ·rcases hn with h|hn
     ·exact .inl h
     ·refine .inr fun t ht=> ?_
      have hjc:=hw' cs hc2
      exact hun t (hn t ht) (fun e=>hjc (e▸hc1 t ht (hn t ht)))
   refine wpOp_mono (fun a' w' h3=>ih (listed.setIfInBounds j true) a' w' hF' hn' (hy.left (fun cs b=>hsel i oi cs b hi) (Oper.apart_spec hap).2.2 h3.1) ?_) h2
   rw[Array.setIfInBounds_comm _ _ hji]
   exact h3.2
end
end Go.Sx
section
namespace Go.Sx
open Go
set_option linter.unusedSimpArgs false
def Zp_ (cs:Array Value) (off:Nat):List Value→Array Value
 | []=>cs
 |v::r=>Zp_ (cs.setIfInBounds off v) (off+1) r
def zM_ (m:Option (Bool×Nat)) (o:Option Obj) (off:Nat) (v:Value):Option Obj:=
 match m,o with
 |some (_,n),some (.cells cs E fz)=>if v.cells.size=n∧off+n≤cs.size∧(fz.2≤fz.1∨off+n≤fz.1)∧v.cells.toList.all Value.oneCell'=true then some (.cells (Zp_ cs off v.cells.toList) E fz) else none
 |_,_=>none
def jn_ (m:Option (Bool×Nat)) (L:za_) (a v:Value):Option za_:=
 match a with
 | .pointer (some ⟨b,off,none⟩)=>match zM_ m (look L b) off v with
  |some o=>some (setB L b o)
  |none=>none
 |_=>none
section
variable {P:Program} {w0 w:World} {L:za_}
theorem QW_ {b off:Nat} {v:Value} {cs:Array Value} {E:TypeId} {fz:Nat×Nat} (hb:w.heap[b]? =some (.cells cs E fz)):
  w.setCell ⟨b,off,none⟩ v={w with heap:=w.heap.setIfInBounds b (.cells (cs.setIfInBounds off v) E fz)}:=by
 have hlt:=(Array.getElem?_eq_some_iff.1 hb).1
 unfold World.setCell
 congr 1
 apply Array.ext_getElem?
 intro i
 rw[Array.getElem?_modify]
 by_cases hi:b=i
 ·subst hi
  rw[if_pos rfl,hb]
  simp[hlt]
 ·rw[if_neg hi,Array.getElem?_setIfInBounds_ne hi]
theorem q1_ {b off:Nat} {E:TypeId} {fz:Nat×Nat}: ∀ (vs:List Value) (i:Nat) (cs:Array Value) (w:World),w.heap[b]? =some (.cells cs E fz)→
  off+i+vs.length≤cs.size→(fz.2≤fz.1∨off+i+vs.length≤fz.1)→vs.all Value.oneCell'=true→
  (storeCells ⟨b,off,none⟩ vs i).run P w= .ok () {w with heap:=w.heap.setIfInBounds b (.cells (Zp_ cs (off+i) vs) E fz)}
 | [],i,cs,w,hb,_,_,_=>by
  have hlt:=(Array.getElem?_eq_some_iff.1 hb)
  have:w.heap.setIfInBounds b (.cells cs E fz)=w.heap:=by
   apply Array.ext_getElem?
   intro j
   by_cases hj:b=j
   ·subst hj;rw[hb];simp[hlt.1]
   ·rw[Array.getElem?_setIfInBounds_ne hj]
  simp only[storeCells,Zp_,this];rfl
 |v::r,i,cs,w,hb,hs,hf,ho=>by
  simp only[List.all_cons,Bool.and_eq_true] at ho
  simp only[List.length_cons] at hs hf
  have hc:w.cell? ⟨b,off+i,none⟩=some (cs[off+i]'(by omega)):=by
   rw[cell_of_row w b _ cs E fz hb,Array.getElem?_eq_getElem (by omega)]
  have hfz:w.frozen? ⟨b,off+i,none⟩=false:=by
   simp only[World.frozen?,hb,Bool.and_eq_false_iff,decide_eq_false_iff_not]
   omega
  have hlt:=(Array.getElem?_eq_some_iff.1 hb).1
  simp only[storeCells,z3_,Sem.run_bind,run_store P w _ v .plain ho.1,hc,hfz,Bool.false_eq_true, ↓reduceIte,Result.andThen_ok,QW_ hb]
  have hb': ({w with heap:=w.heap.setIfInBounds b (.cells (cs.setIfInBounds (off+i) v) E fz)}:World).heap[b]? =some (.cells (cs.setIfInBounds (off+i) v) E fz):=by
   simp[hlt]
  rw[q1_ r (i+1) _ _ hb' (by simp;omega) (by omega) ho.2]
  simp[Zp_,Nat.add_assoc]
theorem Qs_ {t:TypeId} {a v:Value} {L':za_} (hw:Hp w0 L w) (h:jn_ (qk_ P t) L a v=some L'): ∃w',(Instr.storeAt t a v).run P w= .ok () w'∧Hp w0 L' w':=by
 unfold jn_ at h
 split at h
 ·rename_i b off
  split at h
  ·rename_i o hs
   cases h
   unfold zM_ at hs
   split at hs
   ·rename_i m n cs E fz hm hl
    split at hs
    ·rename_i hc
     obtain⟨h1,h2,h3,h4⟩:=hc
     cases hs
     have hb:=hw.has _ _ (zi_ hl)
     have hlen:v.cells.toList.length=n:=by simpa using h1
     refine⟨{w with heap:=w.heap.setIfInBounds b (.cells (Zp_ cs off v.cells.toList) E fz)}, ?_,hw.set (List.mem_map.2 ⟨_,zi_ hl,rfl⟩) rfl rfl rfl rfl⟩
     simp only[Instr.storeAt,Instr.sureAddr,Sem.run_bind,Sem.run_pure,Result.andThen_ok,storeVar,zl_ hm w,h1,ne_eq,not_true_eq_false, ↓reduceIte]
     rw[q1_ v.cells.toList 0 cs w hb (by omega) (by omega) h4]
     rfl
    ·cases hs
   ·cases hs
  ·cases h
 ·cases h
end
def k2_ (ops:Array Oper) (f:Fr) (j:Nat):Option Bool:=
 match(ops[j]?).bind (·.dst) with
 |some d=>match xG_ f d with
  | .bool b=>some b
  |_=>none
 |none=>none
theorem KI_ (ops:Array Oper) (f:Fr) (j:Nat):yielded ops f.toArray j=k2_ ops f j:=by
 unfold yielded k2_
 cases(ops[j]?).bind (·.dst) with
 |none=>rfl
 |some d=>
  simp only[Option.bind_some]
  have:=wZ_ f d
  rw[Array.getD_eq_getD_getElem?] at this
  cases h:f.toArray[d]? with
  |none=>
   rw[h] at this
   simp only[Option.getD_none] at this
   rw[←this];rfl
  |some v=>
   rw[h] at this
   simp only[Option.getD_some] at this
   rw[←this]
   cases v<;>rfl
inductive Md where
 |seq
 |qui (is ts:List Nat)
 |any (is ts:List Nat)
 |sof (R is ts:List Nat)
def qE_ (P:Program):Op→Bool
 | .move _=>true
 | .assign _=>true
 | .pick .. =>true
 | .binOp .. =>true
 | .unOp .. =>true
 | .convert s d _=>match cvT P s d with| .int _=>true| .str=>true|_=>false
 | .nilCheck _=>true
 | .fieldAddr .. =>true
 | .field .. =>true
 | .indexAddr .. =>true
 | .index .. =>true
 | .extract .. =>true
 | .slice .. =>true
 | .makeFunc .. =>true
 | .call ⟨.builtin .len,_,_⟩=>true
 | .call ⟨.builtin .cap,_,_⟩=>true
 | .build .. =>true
 |_=>false
def k3_:Op→Bool
 | .load .. =>true
 | .convert .. =>true
 |_=>false
def wM_ (ops:Array Oper) (listed:Array Bool) (i:Nat):Nat→List Nat→List Nat
 |0,cs=>cs
 |n+1,cs=>wM_ ops listed i n ((List.range ops.size).filter fun j=>j !=i&& !listed.getD j true&&match ops[j]? with
  |some oj=>oj.after.any fun e=>Region.binds .any e&& (e.on==i||cs.contains e.on)
  |none=>false)
def WA_ (ops:Array Oper) (ts:List Nat) (listed:Array Bool) (i:Nat) (cs:List Nat):Bool:=
 (ts.all fun t=>listed.getD t true||cs.contains t)&&cs.all fun c=>c !=i&& !listed.getD c true&&match ops[c]? with
  |some oc=>oc.after.any fun e=>Region.binds .any e&& (e.on==i||cs.contains e.on)
  |none=>false
def ky_ (ops:Array Oper) (ts:List Nat) (listed:Array Bool) (i:Nat):Bool:=
 WA_ ops ts listed i (wM_ ops listed i 6 [])
def kS_ (P:Program) (ops:Array Oper) (ts:List Nat):List Nat→Array Bool→Bool
 | [],listed=>(Region.ready .any ops listed).isEmpty
 |k::is,listed=>
  (match ops[k]? with
   |some o=>
    ((Region.ready .any ops listed== [k])&& !(ts.contains k&& (qE_ P o.op||k3_ o.op))) ||
    (!ts.contains k&& (Region.ready .any ops listed).contains k&&Region.free .any ops listed k&&
     (qE_ P o.op|| (k3_ o.op&&ky_ ops ts listed k&&ts.all fun t=> !listed.getD t true)))
   |none=>false)&&kS_ P ops ts is (listed.setIfInBounds k true)
def qa_ (w0:World) (N:Fr→za_→Prop) (e:Exit) (a:Act) (w:World):Prop:=e= .normal∧a.defers= []∧ ∃L,Hp w0 L w∧N a.tmps.toList L
structure Fits (P:Program) (ops:Array Oper) (ts is:List Nat) (l:List Oper) (listed:Array Bool):Prop where
 len:is.length=l.length
 at_: ∀j:Nat,l[j]? =(is[j]?).bind fun i:Nat=>ops[i]?
 sel:Region.noSelect ops=true
 order:kS_ P ops ts is listed=true
def SR (w0:World) (R:List Nat) (L:za_) (w:World):Prop:= ∀b,b∈R→ ∀o,zm_ w0 L b=some o→w.heap[b]? =some o
theorem SR.of {w0 w:World} {R:List Nat} {L:za_} (h:Hp w0 L w):SR w0 R L w:=fun _ _ _ ho=>h.read ho
def Ow (P:Program) (w0:World) (ops:Array Oper) (md:Md) (l:List Oper) (f:Fr) (L:za_) (N:Fr→za_→Prop):Prop:=
 match md with
 | .seq=> ∀w,Hp w0 L w→wpList P ops (qa_ w0 N) l (act f) w
 | .qui is ts=> ∀listed,Fits P ops ts is l listed→(∀t,t∈ts→listed.getD t true=false)→ ∀w,Hp w0 L w→qR_ P ops (qa_ w0 N) ts (Hp w0 L) l.length listed (act f) w
 | .any is ts=> ∀listed,Fits P ops ts is l listed→(∃t∈ts,listed.getD t true=true)→ ∀w,Hp w0 L w→wpAny P .any ops (qa_ w0 N) l.length listed (act f) w
 | .sof R is ts=> ∀listed,Fits P ops ts is l listed→(∀t,t∈ts→listed.getD t true=false)→ ∀w,Hp w0 L w→qR_ P ops (qa_ w0 N) ts (SR w0 R L) l.length listed (act f) w
def Md.next:Md→Md
 | .seq=> .seq
 | .qui is ts=>match is with
  |k::is=>if ts.contains k then .any is ts else .qui is ts
  | []=> .qui [] ts
 | .any is ts=> .any is.tail ts
 | .sof R is ts=>match is with
  |k::is=>if ts.contains k then .any is ts else .sof R is ts
  | []=> .sof R [] ts
def Md.turn:Md→Option Md
 | .seq=>some .seq
 | .qui is ts=>match is with
  |k::is=>if ts.contains k then some (.any is ts) else none
  | []=>none
 | .any is ts=>some (.any is.tail ts)
 | .sof _ is ts=>match is with
  |k::is=>if ts.contains k then some (.any is ts) else none
  | []=>none
def zg_ (ops:Array Oper) (f:Fr) (o:Oper):Bool:=
 match o.guard with
 |none=>false
 |some (j,want)=> !(k2_ ops f j==some want)
theorem zu_ (ops:Array Oper) (f:Fr) (o:Oper):Region.wanted o (yielded ops (act f).tmps)= !zg_ ops f o:=by
 unfold Region.wanted zg_
 cases o.guard with
 |none=>rfl
 |some p=>simp only[act,KI_,Bool.not_not]
section
variable {P:Program} {w0:World} {f:Fr} {L:za_} {K:q4_} {N:Fr→za_→Prop} {ops:Array Oper} {o:Oper} {rest:List Oper} {md:Md} {ts is:List Nat} {listed:Array Bool}
theorem Fits.nil (h:Fits P ops ts is [] listed):is= []∧Region.ready .any ops listed= []:=by
 have:=h.len
 have hi:is= []:=by cases is with|nil=>rfl|cons _ _=>cases this
 subst hi
 exact⟨rfl,by simpa [kS_] using h.order⟩
theorem Fits.cons (h:Fits P ops ts is (o::rest) listed): ∃k is',is=k::is'∧ops[k]? =some o∧Fits P ops ts is' rest (listed.setIfInBounds k true)∧
  ((qE_ P o.op=true∨k3_ o.op=true)→k∉ts)∧(Region.ready .any ops listed= [k]∨(k∉ts∧k∈Region.ready .any ops listed∧Region.free .any ops listed k=true∧
   (qE_ P o.op=true∨(k3_ o.op=true∧ky_ ops ts listed k=true∧ ∀t,t∈ts→listed.getD t true=false)))):=by
 cases is with
 |nil=>have:=h.len;cases this
 |cons k is'=>
  have hk:ops[k]? =some o:=by have:=h.at_ 0;simpa using this.symm
  have ho:=h.order
  simp only[kS_,hk,Bool.and_eq_true,Bool.or_eq_true,beq_iff_eq,Bool.not_eq_true',List.contains_eq_mem,decide_eq_true_eq,decide_eq_false_iff_not,List.all_eq_true,Bool.and_eq_false_iff,Bool.or_eq_false_iff] at ho
  refine⟨k,is',rfl,hk,⟨by have:=h.len;simpa using this,fun j=>by have:=h.at_ (j+1);simpa using this,h.sel,ho.2⟩, ?_⟩
  rcases ho.1 with⟨h1,h2⟩ | ⟨⟨⟨h1,h2⟩,h3⟩,h4⟩
  ·refine⟨fun hx=> ?_, .inl h1⟩
   rcases h2 with h2| ⟨h2,h3⟩
   ·exact h2
   ·rcases hx with hx|hx
    ·rw[hx] at h2;cases h2
    ·rw[hx] at h3;cases h3
  ·refine⟨fun _=>h1, .inr ⟨h1,h2,h3, ?_⟩⟩
   rcases h4 with h4| ⟨⟨h4,h5⟩,h6⟩
   ·exact .inl h4
   ·exact .inr ⟨h4,h5,h6⟩
theorem Ow.nil (h:N f L):Ow P w0 ops md [] f L N:=by
 cases md with
 |seq=>exact fun w hw=>wpList_nil ⟨rfl,rfl,L,hw,by simpa [act] using h⟩
 |qui is ts=>
  intro listed hF ht w hw
  exact⟨fun _=>hw,hF.nil.2,rfl,rfl,L,hw,by simpa [act] using h⟩
 |any is ts=>
  intro listed hF ht w hw
  exact wpAny_done hF.nil.2 ⟨rfl,rfl,L,hw,by simpa [act] using h⟩ 0
 |sof R is ts=>
  intro listed hF ht w hw
  exact⟨fun _=>SR.of hw,hF.nil.2,rfl,rfl,L,hw,by simpa [act] using h⟩
theorem j5_ {w0:World} {K:q4_} {e:Exit} {a:Act} {w:World} (h:qa_ w0 (K .normal) e a w):post w0 K e a w:=by
 obtain⟨rfl,hd,L,hp,hk⟩:=h
 exact⟨hd,L,hp,hk⟩
theorem zo_ {w0:World} {N:Fr→za_→Prop} {c:List PanicEntry} {a a':Act} {w:World} (h:qa_ w0 N (.panic c) a w):qa_ w0 N (.panic c) a' w:=by
 obtain⟨h,_⟩:=h;cases h
theorem Cw.region {id:Nat} {l:List Oper} (h:Ow P w0 l.toArray .seq l f L (K .normal)):Cw P w0 (.region id l.toArray false) f L K:=
 fun w hw=>wp_mono (wp_region_lit (h w hw)) fun _ _ _ h=>j5_ h
def Wx_ (P:Program) (l:List Oper) (is ts:List Nat):Bool:=
 Region.noSelect l.toArray&&is.length==l.length&& (ts.all fun t=>decide (t<l.length))&&kS_ P l.toArray ts is (Array.replicate l.length false)
def jt_:List Oper→Nat→Option Oper
 | [],_=>none
 |o::_,0=>some o
 |_::r,n+1=>jt_ r n
def ac4_:Option Oper→List Oper→List Oper
 |some o,l=>o::l
 |none,l=>l
def jo_ (l:List Oper):List Nat→List Oper
 | []=> []
 |i::is=>ac4_ (jt_ l i) (jo_ l is)
def nl (l:List Oper) (k:List Oper→Prop):Prop:=k l
@[congr] theorem aeB_ {x y:List Oper} {k:List Oper→Prop} (h:x=y):nl x k=nl y k:=by rw[h]
theorem acU_ (o:Oper) (r:List Oper) (k:List Oper→Prop):nl (o::r) k=k (o::r):=(rfl)
theorem ab7_ (o:Oper) (r:List Oper):jt_ (o::r) 0=some o:=(rfl)
theorem ab5_ (o:Oper) (r:List Oper) (n:Nat):jt_ (o::r) (n+1)=jt_ r n:=(rfl)
theorem j0_ (o:Oper) (l:List Oper):ac4_ (some o) l=o::l:=(rfl)
theorem VD_ (l:List Oper):jo_ l []= []:=(rfl)
theorem jY_ (l:List Oper) (i:Nat) (is:List Nat):jo_ l (i::is)=ac4_ (jt_ l i) (jo_ l is):=(rfl)
def OpS (P:Program) (w0:World) (f:Fr) (L:za_) (o:Oper) (M:Value→za_→Prop):Prop:=
 ∀w,Hp w0 L w→
  (∃v w' L',(execOp (ev f) o).run P w= .ok (.value v) w'∧Hp w0 L' w'∧M v L')∨
  (∃w' L',(execOp (ev f) o).run P w= .ok .skip w'∧Hp w0 L' w'∧M undef L')∨
  (∃k args w1,(execOp (ev f) o).run P w= .ok (.enter k args) w1∧Calls P k args w1 fun e w'=> ∃v L',e= .returned v∧Hp w0 L' w'∧M v L')
theorem OpS.wp {M:Value→za_→Prop} {next:Act→World→Prop} {Q:Exit→Act→World→Prop} (h:OpS P w0 f L o M)
  (hn: ∀v L' w',Hp w0 L' w'→M v L'→next (act (zR_ f o.dst v)) w') {w:World} (hw:Hp w0 L w):o.wp P (act f) w next Q:=by
 unfold Oper.wp
 rw[z7_]
 rcases h w hw with⟨v,w',L',hr,hp,hm⟩ | ⟨w',L',hr,hp,hm⟩ | ⟨k,args,w1,hr,hc⟩
 ·rw[hr,Oper.upon_value,zr_];exact hn _ _ _ hp hm
 ·rw[hr,Oper.upon_skip,zr_];exact hn _ _ _ hp hm
 ·rw[hr,Oper.upon_enter]
  refine hc.mono ?_
  rintro e w' ⟨v,L',rfl,hp,hm⟩
  show next ((act f).put o.dst v) w'
  rw[zr_];exact hn _ _ _ hp hm
theorem OpS.mono {M M':Value→za_→Prop} (h:OpS P w0 f L o M) (hm: ∀v L,M v L→M' v L):OpS P w0 f L o M':=fun w hw=>by
 rcases h w hw with⟨v,w',L',hr,hp,h1⟩ | ⟨w',L',hr,hp,h1⟩ | ⟨k,args,w1,hr,hc⟩
 ·exact .inl ⟨v,w',L',hr,hp,hm _ _ h1⟩
 ·exact .inr (.inl ⟨w',L',hr,hp,hm _ _ h1⟩)
 ·exact .inr (.inr ⟨k,args,w1,hr,hc.mono fun e w' ⟨v,L',he,hp,h1⟩=>⟨v,L',he,hp,hm _ _ h1⟩⟩)
theorem j1_ {i:Nat} (h:listed.getD i true=false): (listed.setIfInBounds i true).getD i true=true:=by
 have hlt:i<listed.size:=by
  rcases Nat.lt_or_ge i listed.size with h'|h'
  ·exact h'
  ·simp[Array.getElem?_eq_none h'] at h
 simp[hlt]
theorem qh_ {i:Nat} (hit:i∉ts) (ht: ∀t,t∈ts→listed.getD t true=false): ∀t,t∈ts→(listed.setIfInBounds i true).getD t true=false:=
 fun t ht'=>by rw[getD_set_ne true (fun(e:i=t)=>hit (by rw[e];exact ht'))];exact ht t ht'
theorem J7_ {k:Nat} (hk:ops[k]? =some o) (hr:Region.ready .any ops listed= [k]) (hs:zg_ ops f o=false) {n:Nat} {M:Value→za_→Prop} (h:OpS P w0 f L o M)
  (hn: ∀v L' w',Hp w0 L' w'→M v L'→wpAny P .any ops (qa_ w0 N) n (listed.setIfInBounds k true) (act (zR_ f o.dst v)) w') {w:World} (hw:Hp w0 L w):wpAny P .any ops (qa_ w0 N) (n+1) listed (act f) w:=by
 refine wpAny_all hr (by simp) ?_
 intro i hi
 simp only[List.mem_singleton] at hi
 subst hi
 unfold wpOp
 simp only[hk,zu_,hs,Bool.not_false, ↓reduceIte]
 exact .inl (h.wp hn hw)
theorem Ow.step {md':Md} (he:md.turn=some md') (hp:qE_ P o.op=false) (hs:zg_ ops f o=false) (h:OpS P w0 f L o (fun v L'=>Ow P w0 ops md' rest (zR_ f o.dst v) L' N)):Ow P w0 ops md (o::rest) f L N:=by
 cases md with
 |seq=>
  cases he
  intro w hw
  unfold wpList
  rw[zu_,hs]
  simp only[Bool.not_false, ↓reduceIte]
  exact .inl (h.wp (fun v L' w' hp hm=>hm w' hp) hw)
 |any is ts=>
  cases he
  intro listed hF ht w hw
  obtain⟨k,is',rfl,hk,hF',hpt,hc⟩:=hF.cons
  obtain⟨t,ht1,ht2⟩:=ht
  have hr:Region.ready .any ops listed= [k]:=by
   rcases hc with hc| ⟨_,_,_,hc| ⟨_,_,hc⟩⟩
   ·exact hc
   ·rw[hp] at hc;cases hc
   ·rw[hc t ht1] at ht2;cases ht2
  exact J7_ hk hr hs h (fun v L' w' hp hm=>hm _ hF' ⟨t,ht1,jK_ ht2⟩ w' hp) hw
 |qui is ts=>
  intro listed hF ht w hw
  obtain⟨k,is',rfl,hk,hF',hpt,hc⟩:=hF.cons
  simp only[Md.turn] at he
  split at he
  ·rename_i hkt
   cases he
   have hkt':k∈ts:=by simpa using hkt
   have hr:Region.ready .any ops listed= [k]:=by
    rcases hc with hc| ⟨hc,_⟩
    ·exact hc
    ·exact absurd hkt' hc
   have hset:=j1_ (ht k hkt')
   refine⟨fun _=>hw,(fun h=>by rw[hr] at h;cases h), ?_⟩
   intro i hi
   rw[hr,List.mem_singleton] at hi
   subst hi
   unfold wpOp
   simp only[hk,zu_,hs,Bool.not_false, ↓reduceIte]
   exact .inl (h.wp (fun v L' w' hp hm=>jq_ _ _ _ _ ⟨i,hkt',hset⟩ (hm _ hF' ⟨i,hkt',hset⟩ w' hp)) hw)
  ·cases he
 |sof R is ts=>
  intro listed hF ht w hw
  obtain⟨k,is',rfl,hk,hF',hpt,hc⟩:=hF.cons
  simp only[Md.turn] at he
  split at he
  ·rename_i hkt
   cases he
   have hkt':k∈ts:=by simpa using hkt
   have hr:Region.ready .any ops listed= [k]:=by
    rcases hc with hc| ⟨hc,_⟩
    ·exact hc
    ·exact absurd hkt' hc
   have hset:=j1_ (ht k hkt')
   refine⟨fun _=>SR.of hw,(fun h=>by rw[hr] at h;cases h), ?_⟩
   intro i hi
   rw[hr,List.mem_singleton] at hi
   subst hi
   unfold wpOp
   simp only[hk,zu_,hs,Bool.not_false, ↓reduceIte]
   exact .inl (h.wp (fun v L' w' hp hm=>jq_ _ _ _ _ ⟨i,hkt',hset⟩ (hm _ hF' ⟨i,hkt',hset⟩ w' hp)) hw)
  ·cases he
theorem Ow.calm {v:Value} (hp:qE_ P o.op=false) (hr0:k3_ o.op=false) (hs:zg_ ops f o=false) (h:OpS P w0 f L o (fun v' L'=>v'=v∧L'=L))
  (hn:Ow P w0 ops md.next rest (zR_ f o.dst v) L N):Ow P w0 ops md (o::rest) f L N:=by
 cases md with
 |seq=>exact Ow.step rfl hp hs (h.mono fun v' L' ⟨h1,h2⟩=>by rw[h1,h2];exact hn)
 |any is ts=>exact Ow.step rfl hp hs (h.mono fun v' L' ⟨h1,h2⟩=>by rw[h1,h2];exact hn)
 |qui is ts=>
  intro listed hF ht w hw
  obtain⟨k,is',rfl,hk,hF',hpt,hc⟩:=hF.cons
  have hr:Region.ready .any ops listed= [k]:=by
   rcases hc with hc| ⟨_,_,_,hc| ⟨hc,_⟩⟩
   ·exact hc
   ·rw[hp] at hc;cases hc
   ·rw[hr0] at hc;cases hc
  refine⟨fun _=>hw,(fun h=>by rw[hr] at h;cases h), ?_⟩
  intro i hi
  rw[hr,List.mem_singleton] at hi
  subst hi
  unfold wpOp
  simp only[hk,zu_,hs,Bool.not_false, ↓reduceIte]
  refine .inl (h.wp (fun v' L' w' hp hm=> ?_) hw)
  obtain⟨rfl,rfl⟩:=hm
  simp only[Md.next] at hn
  split at hn
  ·rename_i hkt
   have hit:i∈ts:=by simpa using hkt
   have hset:=j1_ (ht i hit)
   exact jq_ _ _ _ _ ⟨i,hit,hset⟩ (hn _ hF' ⟨i,hit,hset⟩ w' hp)
  ·rename_i hkt
   have hit:i∉ts:=by simpa using hkt
   exact hn _ hF' (qh_ hit ht) w' hp
 |sof R is ts=>
  intro listed hF ht w hw
  obtain⟨k,is',rfl,hk,hF',hpt,hc⟩:=hF.cons
  have hr:Region.ready .any ops listed= [k]:=by
   rcases hc with hc| ⟨_,_,_,hc| ⟨hc,_⟩⟩
   ·exact hc
   ·rw[hp] at hc;cases hc
   ·rw[hr0] at hc;cases hc
  refine⟨fun _=>SR.of hw,(fun h=>by rw[hr] at h;cases h), ?_⟩
  intro i hi
  rw[hr,List.mem_singleton] at hi
  subst hi
  unfold wpOp
  simp only[hk,zu_,hs,Bool.not_false, ↓reduceIte]
  refine .inl (h.wp (fun v' L' w' hp hm=> ?_) hw)
  obtain⟨rfl,rfl⟩:=hm
  simp only[Md.next] at hn
  split at hn
  ·rename_i hkt
   have hit:i∈ts:=by simpa using hkt
   have hset:=j1_ (ht i hit)
   exact jq_ _ _ _ _ ⟨i,hit,hset⟩ (hn _ hF' ⟨i,hit,hset⟩ w' hp)
  ·rename_i hkt
   have hit:i∉ts:=by simpa using hkt
   exact hn _ hF' (qh_ hit ht) w' hp
theorem qB_ {k:Nat} (hk:ops[k]? =some o) (h1:k∈Region.ready .any ops listed) (h2:Region.free .any ops listed k=true)
  (h3:qE_ P o.op=true∨(k3_ o.op=true∧ky_ ops ts listed k=true∧ ∀t,t∈ts→listed.getD t true=false)):First ops ts k o (qE_ P o.op=true) listed:=by
 refine⟨h1,Region.free_spec hk h2,h3.imp id fun⟨_,hw,_⟩=> ?_⟩
 unfold ky_ WA_ at hw
 generalize wM_ ops listed k 6 []=cs at hw
 simp only[Bool.and_eq_true,List.all_eq_true,Bool.or_eq_true,List.contains_eq_mem,decide_eq_true_eq,bne_iff_ne,ne_eq,Bool.not_eq_true'] at hw
 obtain⟨hw1,hw2⟩:=hw
 refine⟨cs,fun t ht hu=> ?_,fun c hc=> ?_⟩
 ·rcases hw1 t ht with h|h
  ·rw[hu] at h;cases h
  ·exact h
 ·obtain⟨⟨h1,h2⟩,h3⟩:=hw2 c hc
  refine⟨h1,h2, ?_⟩
  cases ho:ops[c]? with
  |none=>rw[ho] at h3;cases h3
  |some oc=>
   rw[ho] at h3
   obtain⟨e,he,hb⟩:=Array.any_eq_true'.1 h3
   simp only[Bool.and_eq_true,Bool.or_eq_true,beq_iff_eq,List.contains_eq_mem,decide_eq_true_eq] at hb
   exact⟨oc,rfl,e,he,hb.1,hb.2⟩
theorem Ow.skip (hs:zg_ ops f o=true) (h:Ow P w0 ops md.next rest (zR_ f o.dst undef) L N):Ow P w0 ops md (o::rest) f L N:=by
 have hw0:Region.wanted o (yielded ops (act f).tmps)=false:=by rw[zu_,hs];rfl
 cases md with
 |seq=>
  intro w hw
  unfold wpList
  rw[hw0]
  simp only[Bool.false_eq_true, ↓reduceIte]
  rw[zr_]
  exact h w hw
 |any is ts=>
  intro listed hF ht w hw
  obtain⟨k,is',rfl,hk,hF',hpt,hc⟩:=hF.cons
  obtain⟨t,ht1,ht2⟩:=ht
  have hgo:=h _ hF' ⟨t,ht1,jK_ ht2⟩ w hw
  rcases hc with hc| ⟨hc1,hc2,hc3,hc4⟩
  ·refine wpAny_all hc (by simp) ?_
   intro i hi
   simp only[List.mem_singleton] at hi
   subst hi
   unfold wpOp
   simp only[hk,hw0,Bool.false_eq_true, ↓reduceIte]
   rw[zr_];exact hgo
  ·refine wpAny_take (v:=undef) hk hF.sel hc3 (by simpa using hc2) (fun c a w h=>zo_ h) (.inr ⟨hw0,rfl⟩) ?_
   rw[zr_];exact hgo
 |qui is ts=>
  intro listed hF ht w hw
  obtain⟨k,is',rfl,hk,hF',hpt,hc⟩:=hF.cons
  simp only[Md.next] at h
  rcases hc with hc| ⟨hc1,hc2,hc3,hc4⟩
  ·refine⟨fun _=>hw,fun h=>(by rw[hc] at h;cases h), ?_⟩
   intro i hi
   rw[hc,List.mem_singleton] at hi
   subst hi
   unfold wpOp
   simp only[hk,hw0,Bool.false_eq_true, ↓reduceIte]
   rw[zr_]
   split at h
   ·rename_i hkt
    have hit:i∈ts:=by simpa using hkt
    have hset:=j1_ (ht i hit)
    exact jq_ _ _ _ _ ⟨i,hit,hset⟩ (h _ hF' ⟨i,hit,hset⟩ w hw)
   ·rename_i hkt
    exact h _ hF' (qh_ (by simpa using hkt) ht) w hw
  ·rw[if_neg (by simpa using hc1)] at h
   refine ju_ hk hc1 (Region.noSelect_spec hF.sel) (fun c a w h=>zo_ h) _ _ _ _ (qB_ (P:=P) hk hc2 hc3 hc4) (.inr ht) (.inr ⟨hw0,rfl⟩) ?_
   rw[zr_];exact h _ hF' (qh_ hc1 ht) w hw
 |sof R is ts=>
  intro listed hF ht w hw
  obtain⟨k,is',rfl,hk,hF',hpt,hc⟩:=hF.cons
  simp only[Md.next] at h
  rcases hc with hc| ⟨hc1,hc2,hc3,hc4⟩
  ·refine⟨fun _=>SR.of hw,fun h=>(by rw[hc] at h;cases h), ?_⟩
   intro i hi
   rw[hc,List.mem_singleton] at hi
   subst hi
   unfold wpOp
   simp only[hk,hw0,Bool.false_eq_true, ↓reduceIte]
   rw[zr_]
   split at h
   ·rename_i hkt
    have hit:i∈ts:=by simpa using hkt
    have hset:=j1_ (ht i hit)
    exact jq_ _ _ _ _ ⟨i,hit,hset⟩ (h _ hF' ⟨i,hit,hset⟩ w hw)
   ·rename_i hkt
    exact h _ hF' (qh_ (by simpa using hkt) ht) w hw
  ·rw[if_neg (by simpa using hc1)] at h
   refine ju_ hk hc1 (Region.noSelect_spec hF.sel) (fun c a w h=>zo_ h) _ _ _ _ (qB_ (P:=P) hk hc2 hc3 hc4) (.inr ht) (.inr ⟨hw0,rfl⟩) ?_
   rw[zr_];exact h _ hF' (qh_ hc1 ht) w hw
theorem qI_ {op:Op} {v:Value} (hp:qE_ P op=true) (h:jz_ P w0 L f op=some v) (w:World):jz_ P w [] f op=some v:=by
 cases op<;>simp only[qE_,Bool.false_eq_true] at hp<;>first
  |exact h
  |skip
 ·rename_i s d x
  simp only[jz_] at h ⊢
  cases hc:cvT P s d<;>rw[hc] at h hp<;>first
   |exact h
   |cases hp
 ·rename_i t x lo hi mx
  cases mx<;>exact h
 ·rename_i c
  obtain⟨cl,args,ts⟩:=c
  cases cl with
  |builtin b=>cases b<;>first|exact h|cases hp
  |value x=>cases hp
  |invoke x m=>cases hp
theorem wl_ {op:Op} {v:Value} (h:jz_ P w0 L f op=some v):qE_ P op=true∨k3_ op=true:=by
 unfold jz_ at h
 split at h<;>first
  |exact .inl rfl
  |exact .inr rfl
  |cases h
def QI_ (R:List Nat):Value→Bool
 | .pointer (some a)=>R.contains a.block
 | .slice (some a) _ _=>R.contains a.block
 |_=>true
def w5_ (md:Md) (f:Fr) (op:Op):Bool:=
 match op with
 | .load _ x=>(match md with| .sof R _ _=>QI_ R (ev f x) |_=>true)
 | .convert _ _ x=>(match md with| .sof R _ _=>QI_ R (ev f x) |_=>true)
 |_=>true
theorem vu_ (w:World) (b:Nat):zm_ w [] b=w.heap[b]? :=(rfl)
theorem xd_ {R is ts:List Nat} {op:Op} {v:Value} {w:World} (hrd:w5_ (.sof R is ts) f op=true) (h:jz_ P w0 L f op=some v) (hS:SR w0 R L w):jz_ P w [] f op=some v:=by
 cases op<;>first
  |exact h
  |skip
 case load t x=>
  simp only[jz_,jD_] at h ⊢
  simp only[w5_] at hrd
  split at h
  ·rename_i b off hx
   rw[hx] at hrd
   simp only[QI_,List.contains_eq_mem,decide_eq_true_eq] at hrd
   simp only[vu_]
   cases hr:zm_ w0 L b with
   |none=>rw[hr] at h;unfold zy_ at h;split at h<;>simp_all
   |some o=>rw[hS b hrd o hr];rw[hr] at h;exact h
  ·cases h
 case convert s d x=>
  simp only[jz_,vJ_] at h ⊢
  simp only[w5_] at hrd
  cases hc:cvT P s d<;>rw[hc] at h<;>simp only at h ⊢ <;>first
   |exact h
   |skip
  unfold J0_ at h ⊢
  split at h
  ·exact h
  ·rename_i b off n c hx
   rw[hx] at hrd
   simp only[QI_,List.contains_eq_mem,decide_eq_true_eq] at hrd
   simp only[vu_]
   cases hr:zm_ w0 L b with
   |none=>rw[hr] at h;unfold k7_ at h;cases h
   |some o=>rw[hS b hrd o hr];rw[hr] at h;exact h
  ·cases h
 case slice t x lo hi mx=>cases mx<;>exact h
 case call c=>
  obtain⟨cl,args,ts'⟩:=c
  cases cl with
  |builtin b=>cases b<;>exact h
  |value x=>exact h
  |invoke x m=>exact h
theorem Ow.value {v:Value} (hs:zg_ ops f o=false) (hrd:w5_ md f o.op=true) (hv:jz_ P w0 L f o.op=some v) (h:Ow P w0 ops md.next rest (zR_ f o.dst v) L N):Ow P w0 ops md (o::rest) f L N:=by
 have hw0:Region.wanted o (yielded ops (act f).tmps)=true:=by rw[zu_,hs];rfl
 have hS:OpS P w0 f L o (fun v' L'=>v'=v∧L'=L):=fun w hw=> .inl ⟨v,w,L,zS_ hw hv,hw,rfl,rfl⟩
 have hY:YieldsC P ops (Hp w0 L) (qE_ P o.op=true) o v (act f):=by
  refine .inl ⟨hw0,fun w hw=> ?_⟩
  rw[z7_]
  rcases hw with hp|hw
  ·exact zS_ (Hp.refl w) (qI_ hp hv w)
  ·exact zS_ hw hv
 cases md with
 |seq=>
  intro w hw
  unfold wpList
  rw[hw0]
  simp only[↓reduceIte]
  exact .inl (hS.wp (fun v' L' w' hp hm=>by obtain⟨rfl,rfl⟩:=hm;exact h w' hp) hw)
 |any is ts=>
  intro listed hF ht w hw
  obtain⟨k,is',rfl,hk,hF',hpt,hc⟩:=hF.cons
  obtain⟨t,ht1,ht2⟩:=ht
  have hgo:=fun w hw=>h _ hF' ⟨t,ht1,jK_ ht2⟩ w hw
  rcases hc with hc| ⟨hc1,hc2,hc3,hc4| ⟨_,_,hc4⟩⟩
  ·exact J7_ hk hc hs hS (fun v' L' w' hp hm=>by obtain⟨rfl,rfl⟩:=hm;exact hgo w' hp) hw
  ·refine wpAny_take (v:=v) hk hF.sel hc3 (by simpa using hc2) (fun c a w h=>zo_ h) (.inl ⟨hw0,fun w=> ?_⟩) ?_
   ·rw[z7_];exact zS_ (Hp.refl w) (qI_ hc4 hv w)
   ·rw[zr_];exact hgo w hw
  ·rw[hc4 t ht1] at ht2;cases ht2
 |qui is ts=>
  intro listed hF ht w hw
  obtain⟨k,is',rfl,hk,hF',hpt,hc⟩:=hF.cons
  have hit:k∉ts:=hpt (wl_ hv)
  simp only[Md.next] at h
  rw[if_neg (by simpa using hit)] at h
  have hgo:=fun w hw=>h _ hF' (qh_ hit ht) w hw
  rcases hc with hc| ⟨hc1,hc2,hc3,hc4⟩
  ·refine⟨fun _=>hw,fun h=>(by rw[hc] at h;cases h), ?_⟩
   intro i hi
   rw[hc,List.mem_singleton] at hi
   subst hi
   unfold wpOp
   simp only[hk,hw0, ↓reduceIte]
   exact .inl (hS.wp (fun v' L' w' hp hm=>by obtain⟨rfl,rfl⟩:=hm;exact hgo w' hp) hw)
  ·refine ju_ hk hc1 (Region.noSelect_spec hF.sel) (fun c a w h=>zo_ h) _ _ _ _ (qB_ (P:=P) hk hc2 hc3 hc4) (.inr ht) hY ?_
   rw[zr_];exact hgo w hw
 |sof R is ts=>
  intro listed hF ht w hw
  have hYs:YieldsC P ops (SR w0 R L) (qE_ P o.op=true) o v (act f):=by
   refine .inl ⟨hw0,fun w hw=> ?_⟩
   rw[z7_]
   rcases hw with hp|hw
   ·exact zS_ (Hp.refl w) (qI_ hp hv w)
   ·exact zS_ (Hp.refl w) (xd_ hrd hv hw)
  obtain⟨k,is',rfl,hk,hF',hpt,hc⟩:=hF.cons
  have hit:k∉ts:=hpt (wl_ hv)
  simp only[Md.next] at h
  rw[if_neg (by simpa using hit)] at h
  have hgo:=fun w hw=>h _ hF' (qh_ hit ht) w hw
  rcases hc with hc| ⟨hc1,hc2,hc3,hc4⟩
  ·refine⟨fun _=>SR.of hw,fun h=>(by rw[hc] at h;cases h), ?_⟩
   intro i hi
   rw[hc,List.mem_singleton] at hi
   subst hi
   unfold wpOp
   simp only[hk,hw0, ↓reduceIte]
   exact .inl (hS.wp (fun v' L' w' hp hm=>by obtain⟨rfl,rfl⟩:=hm;exact hgo w' hp) hw)
  ·refine ju_ hk hc1 (Region.noSelect_spec hF.sel) (fun c a w h=>zo_ h) _ _ _ _ (qB_ (P:=P) hk hc2 hc3 hc4) (.inr ht) hYs ?_
   rw[zr_];exact hgo w hw
theorem Ow.pureV {v:Value} (hp:qE_ P o.op=true) (hs:zg_ ops f o=false) (hv: ∀w,(execOp (ev f) o).run P w= .ok (.value v) w) (h:Ow P w0 ops md.next rest (zR_ f o.dst v) L N):Ow P w0 ops md (o::rest) f L N:=by
 have hw0:Region.wanted o (yielded ops (act f).tmps)=true:=by rw[zu_,hs];rfl
 have hS:OpS P w0 f L o (fun v' L'=>v'=v∧L'=L):=fun w hw=> .inl ⟨v,w,L,hv w,hw,rfl,rfl⟩
 have hY: ∀C,YieldsC P ops C (qE_ P o.op=true) o v (act f):=fun C=> .inl ⟨hw0,fun w _=>by rw[z7_];exact hv w⟩
 cases md with
 |seq=>
  intro w hw
  unfold wpList
  rw[hw0]
  simp only[↓reduceIte]
  exact .inl (hS.wp (fun v' L' w' hp hm=>by obtain⟨rfl,rfl⟩:=hm;exact h w' hp) hw)
 |any is ts=>
  intro listed hF ht w hw
  obtain⟨k,is',rfl,hk,hF',hpt,hc⟩:=hF.cons
  obtain⟨t,ht1,ht2⟩:=ht
  have hgo:=fun w hw=>h _ hF' ⟨t,ht1,jK_ ht2⟩ w hw
  rcases hc with hc| ⟨hc1,hc2,hc3,hc4⟩
  ·exact J7_ hk hc hs hS (fun v' L' w' hp hm=>by obtain⟨rfl,rfl⟩:=hm;exact hgo w' hp) hw
  ·refine wpAny_take (v:=v) hk hF.sel hc3 (by simpa using hc2) (fun c a w h=>zo_ h) (.inl ⟨hw0,fun w=> ?_⟩) ?_
   ·rw[z7_];exact hv w
   ·rw[zr_];exact hgo w hw
 |qui is ts=>
  intro listed hF ht w hw
  obtain⟨k,is',rfl,hk,hF',hpt,hc⟩:=hF.cons
  have hit:k∉ts:=hpt (.inl hp)
  simp only[Md.next] at h
  rw[if_neg (by simpa using hit)] at h
  have hgo:=fun w hw=>h _ hF' (qh_ hit ht) w hw
  rcases hc with hc| ⟨hc1,hc2,hc3,hc4⟩
  ·refine⟨fun _=>hw,fun h=>(by rw[hc] at h;cases h), ?_⟩
   intro i hi
   rw[hc,List.mem_singleton] at hi
   subst hi
   unfold wpOp
   simp only[hk,hw0, ↓reduceIte]
   exact .inl (hS.wp (fun v' L' w' hp hm=>by obtain⟨rfl,rfl⟩:=hm;exact hgo w' hp) hw)
  ·refine ju_ hk hc1 (Region.noSelect_spec hF.sel) (fun c a w h=>zo_ h) _ _ _ _ (qB_ (P:=P) hk hc2 hc3 hc4) (.inr ht) (hY _) ?_
   rw[zr_];exact hgo w hw
 |sof R is ts=>
  intro listed hF ht w hw
  obtain⟨k,is',rfl,hk,hF',hpt,hc⟩:=hF.cons
  have hit:k∉ts:=hpt (.inl hp)
  simp only[Md.next] at h
  rw[if_neg (by simpa using hit)] at h
  have hgo:=fun w hw=>h _ hF' (qh_ hit ht) w hw
  rcases hc with hc| ⟨hc1,hc2,hc3,hc4⟩
  ·refine⟨fun _=>SR.of hw,fun h=>(by rw[hc] at h;cases h), ?_⟩
   intro i hi
   rw[hc,List.mem_singleton] at hi
   subst hi
   unfold wpOp
   simp only[hk,hw0, ↓reduceIte]
   exact .inl (hS.wp (fun v' L' w' hp hm=>by obtain⟨rfl,rfl⟩:=hm;exact hgo w' hp) hw)
  ·refine ju_ hk hc1 (Region.noSelect_spec hF.sel) (fun c a w h=>zo_ h) _ _ _ _ (qB_ (P:=P) hk hc2 hc3 hc4) (.inr ht) (hY _) ?_
   rw[zr_];exact hgo w hw
theorem Ow.store {t:TypeId} {a x:Operand} {L':za_} {md':Md} (he:md.turn=some md') (hs:zg_ ops f o=false) (ho:o.op= .store t a x) (hv:jn_ (qk_ P t) L (ev f a) (ev f x)=some L') (h:Ow P w0 ops md' rest (zR_ f o.dst undef) L' N):Ow P w0 ops md (o::rest) f L N:=
 Ow.step he (by rw[ho];rfl) hs fun w hw=>by
  obtain⟨w',hr,hp⟩:=Qs_ hw hv
  refine .inr (.inl ⟨w',L', ?_,hp,h⟩)
  simp only[execOp,ho,Sem.run_bind,hr];rfl
end
inductive Kind where
 |value|store (t:TypeId) (a x:Operand) |other
def WU_:Op→Kind
 | .move _=> .value
 | .assign _=> .value
 | .pick .. => .value
 | .binOp .. => .value
 | .unOp .. => .value
 | .convert .. => .value
 | .nilCheck _=> .value
 | .fieldAddr .. => .value
 | .field .. => .value
 | .indexAddr .. => .value
 | .index .. => .value
 | .load .. => .value
 | .extract .. => .value
 | .slice .. => .value
 | .makeFunc .. => .value
 | .call ⟨.builtin .len,_,_⟩=> .value
 | .call ⟨.builtin .cap,_,_⟩=> .value
 | .store t a x=> .store t a x
 |_=> .other
abbrev Dep {α:Type} (_:α):Type:=Prop
def ov (x:Option Value) (k:Value→Prop):Dep k:=match x with|some v=>k v|none=>False
def ovs (x:Option Value) (k:Value→Prop) (s:Prop):Dep (k,s):=match x with|some v=>k v|none=>s
def oh (x:Option za_) (k:za_→Prop):Dep k:=match x with|some v=>k v|none=>False
def nf (f:Fr) (k:Fr→Prop):Dep k:=k f
def nh (L:za_) (k:za_→Prop):Dep k:=k L
@[congr] theorem aeF_ {x y:Option Value} {k:Value→Prop} (h:x=y):ov x k=ov y k:=by rw[h]
@[congr] theorem adL_ {x y:Option Value} {k:Value→Prop} {s:Prop} (h:x=y):ovs x k s=ovs y k s:=by rw[h]
@[congr] theorem aeH_ {x y:Option za_} {k:za_→Prop} (h:x=y):oh x k=oh y k:=by rw[h]
@[congr] theorem aeC_ {x y:Fr} {k:Fr→Prop} (h:x=y):nf x k=nf y k:=by rw[h]
@[congr] theorem aeK_ {x y:za_} {k:za_→Prop} (h:x=y):nh x k=nh y k:=by rw[h]
theorem aaY_ (v:Value) (k:Value→Prop) (s:Prop):ovs (some v) k s=k v:=(rfl)
theorem aa8_ (k:Value→Prop) (s:Prop):ovs none k s=s:=(rfl)
theorem adx_ (v:za_) (k:za_→Prop):oh (some v) k=k v:=(rfl)
theorem adn_ (v:Value) (r:Fr) (k:Fr→Prop):nf (v::r) k=k (v::r):=(rfl)
theorem ael_ (k:Fr→Prop):nf [] k=k []:=(rfl)
theorem acv_ (v:Nat×Obj) (r:za_) (k:za_→Prop):nh (v::r) k=k (v::r):=(rfl)
theorem aem_ (k:za_→Prop):nh [] k=k []:=(rfl)
def ib (b:Bool) (x y:Prop):Dep (x,y):=match b with|true=>x|false=>y
@[congr] theorem aeI_ {a b:Bool} {x y:Prop} (h:a=b):ib a x y=ib b x y:=by rw[h]
theorem adf_ (x y:Prop):ib true x y=x:=(rfl)
theorem aaZ_ (x y:Prop):ib false x y=y:=(rfl)
def vcB (P:Program) (w0:World) (st:Bool) (md:Md) (o:Oper) (f:Fr) (L:za_) (go:Fr→za_→Prop) (stop:Prop):Prop:=
 match WU_ o.op with
 | .value=>ib (w5_ md f o.op) (ovs (jz_ P w0 L f o.op) (fun v=>nf (zR_ f o.dst v) fun f'=>go f' L) stop) stop
 | .store t a x=>ib st (oh (jn_ (qk_ P t) L (ev f a) (ev f x)) fun L'=>nh L' fun L'=>nf (zR_ f o.dst undef) fun f'=>go f' L') stop
 | .other=>stop
def vcL (P:Program) (w0:World) (ops:Array Oper) (st:Bool) (md:Md):List Oper→Fr→za_→(Md→List Oper→Fr→za_→Prop)→Prop
 | [],f,L,k=>k md [] f L
 |o::rest,f,L,k=>
  ib (zg_ ops f o) (nf (zR_ f o.dst undef) fun f'=>vcL P w0 ops st md.next rest f' L k)
   (vcB P w0 st md o f L (fun f' L'=>vcL P w0 ops st md.next rest f' L' k) (k md (o::rest) f L))
def Md.eff:Md→Bool
 | .seq=>true
 | .qui _ _=>false
 | .any _ _=>true
 | .sof _ _ _=>false
theorem Md.turn_eff {md:Md} (h:md.eff=true):md.turn=some md.next:=by
 cases md<;>first|rfl|cases h
theorem Md.next_eff {md:Md} (h:md.eff=true):md.next.eff=true:=by
 cases md<;>first|rfl|cases h
theorem ZD_ {op:Op} {t:TypeId} {a x:Operand} (h:WU_ op= .store t a x):op= .store t a x:=by
 unfold WU_ at h
 split at h<;>first| (cases h;done) | (cases h;rfl)
theorem q6_ {P:Program} {w0:World} {ops:Array Oper} {N:Fr→za_→Prop} (k:Md→List Oper→Fr→za_→Prop) (hk: ∀md l f L,k md l f L→Ow P w0 ops md l f L N) (st:Bool):
  ∀ (l:List Oper) (md:Md) (f:Fr) (L:za_),(st=true→md.eff=true)→vcL P w0 ops st md l f L k→Ow P w0 ops md l f L N
 | [],md,f,L,_,h=>hk _ _ _ _ h
 |o::rest,md,f,L,hst,h=>by
  unfold vcL at h
  have hst':st=true→md.next.eff=true:=fun e=>Md.next_eff (hst e)
  cases hs:zg_ ops f o with
  |true=>
   rw[hs] at h
   exact Ow.skip hs (q6_ k hk st rest _ _ L hst' h)
  |false=>
   rw[hs] at h
   simp only[ib,vcB] at h
   split at h
   ·cases hrd:w5_ md f o.op with
    |false=>rw[hrd] at h;exact hk _ _ _ _ h
    |true=>
     rw[hrd] at h
     cases hv:jz_ P w0 L f o.op with
     |none=>rw[hv] at h;exact hk _ _ _ _ h
     |some v=>rw[hv] at h;exact Ow.value hs hrd hv (q6_ k hk st rest _ _ L hst' h)
   ·rename_i t a x hkd
    cases st with
    |true=>
     simp only at h
     cases hv:jn_ (qk_ P t) L (ev f a) (ev f x) with
     |none=>rw[hv] at h;exact h.elim
     |some L'=>
      rw[hv] at h
      exact Ow.store (Md.turn_eff (hst rfl)) hs (ZD_ hkd) hv (q6_ k hk true rest _ _ L' hst' h)
    |false=>exact hk _ _ _ _ h
   ·exact hk _ _ _ _ h
theorem Ow.run {P:Program} {w0:World} {ops:Array Oper} {md:Md} {N:Fr→za_→Prop} {l:List Oper} {f:Fr} {L:za_} (he:md.eff=true)
  (h: ∀k:Md→List Oper→Fr→za_→Prop,(∀md l f L,Ow P w0 ops md l f L N→k md l f L)→vcL P w0 ops true md l f L k):Ow P w0 ops md l f L N:=
 q6_ (fun md l f L=>Ow P w0 ops md l f L N) (fun _ _ _ _ h=>h) true l md f L (fun _=>he) (h _ fun _ _ _ _ h=>h)
theorem Q2_ (f:Fr) (t:TypeId) (x:Operand):w5_ .seq f (.load t x)=true:=(rfl)
theorem Jf_ (f:Fr) (is ts:List Nat) (t:TypeId) (x:Operand):w5_ (.any is ts) f (.load t x)=true:=(rfl)
theorem QX_ (f:Fr) (is ts:List Nat) (t:TypeId) (x:Operand):w5_ (.qui is ts) f (.load t x)=true:=(rfl)
theorem J2_ (f:Fr) (R is ts:List Nat) (t:TypeId) (x:Operand):w5_ (.sof R is ts) f (.load t x)=QI_ R (ev f x):=(rfl)
theorem v3_ (f:Fr) (s t:TypeId) (x:Operand):w5_ .seq f (.convert s t x)=true:=(rfl)
theorem vP_ (f:Fr) (is ts:List Nat) (s t:TypeId) (x:Operand):w5_ (.any is ts) f (.convert s t x)=true:=(rfl)
theorem v7_ (f:Fr) (is ts:List Nat) (s t:TypeId) (x:Operand):w5_ (.qui is ts) f (.convert s t x)=true:=(rfl)
theorem vL_ (f:Fr) (R is ts:List Nat) (s t:TypeId) (x:Operand):w5_ (.sof R is ts) f (.convert s t x)=QI_ R (ev f x):=(rfl)
theorem ad1_ (R:List Nat) (b o:Nat):QI_ R (vp b o)=R.contains b:=(rfl)
theorem acV_ (R:List Nat) (b o n c:Nat):QI_ R (vsl b o n c)=R.contains b:=(rfl)
theorem abV_ (R:List Nat) (n c:Nat):QI_ R (.slice none n c)=true:=(rfl)
theorem aax_ (R:List Nat) (k:IntKind) (n:Int):QI_ R (.int k n)=true:=(rfl)
theorem aaO_ (R:List Nat) (l:List UInt8):QI_ R (vs l)=true:=(rfl)
theorem Md.next_sof (k:Nat) (R is ts:List Nat): (Md.sof R (k::is) ts).next=if ts.contains k then .any is ts else .sof R is ts:=(rfl)
theorem Md.next_seq:Md.seq.next= .seq:=(rfl)
theorem Md.next_any (k:Nat) (is ts:List Nat): (Md.any (k::is) ts).next= .any is ts:=(rfl)
theorem Md.next_qui (k:Nat) (is ts:List Nat): (Md.qui (k::is) ts).next=if ts.contains k then .any is ts else .qui is ts:=(rfl)
def Xr_:Value→Option Bool
 | .bool b=>some b
 |_=>none
def WE_ (o:Option Oper) (f:Fr):Option Bool:=
 match o with
 |some o=>match o.dst with
  |some d=>Xr_ (xG_ f d)
  |none=>none
 |none=>none
theorem qy_ (l:List Oper) (j:Nat):jt_ l j=l[j]? :=by
 induction l generalizing j with
 |nil=>rfl
 |cons o r ih=>cases j<;>simp[jt_,ih]
theorem KF_ (l:List Oper) (f:Fr) (j:Nat):k2_ l.toArray f j=WE_ (jt_ l j) f:=by
 unfold k2_ WE_
 rw[qy_,List.getElem?_toArray]
 cases l[j]? with
 |none=>rfl
 |some o=>
  simp only[Option.bind_some]
  cases o.dst with
  |none=>rfl
  |some d=>
   simp only
   cases xG_ f d<;>rfl
theorem JA_ (d:Tmp) (op:Op) (ty:TypeId) (ps:String) (af:Array Edge) (g:Option (Nat×Bool)) (f:Fr):WE_ (some ⟨some d,op,ty,ps,af,g⟩) f=Xr_ (xG_ f d):=(rfl)
theorem abx_ (b:Bool):Xr_ (.bool b)=some b:=(rfl)
theorem Z7_:Xr_ undef=none:=(rfl)
theorem abX_ (a b:Bool): ((some a:Option Bool)==some b)=(a==b):=(rfl)
theorem abd_ (b:Bool): ((none:Option Bool)==some b)=false:=(rfl)
section
variable (P:Program) (w0:World) (ops:Array Oper) (rest:List Oper) (f:Fr) (L:za_) (k:Md→List Oper→Fr→za_→Prop)
 (st:Bool) (md:Md) (d:Option Tmp) (ty:TypeId) (ps:String) (af:Array Edge)
theorem acB_:vcL P w0 ops st md [] f L k=k md [] f L:=(rfl)
theorem aba_ (op:Op):vcL P w0 ops st md (⟨d,op,ty,ps,af,none⟩::rest) f L k=
  vcB P w0 st md ⟨d,op,ty,ps,af,none⟩ f L (fun f' L'=>vcL P w0 ops st md.next rest f' L' k) (k md (⟨d,op,ty,ps,af,none⟩::rest) f L):=(rfl)
theorem abO_ (op:Op) (j:Nat) (b:Bool):vcL P w0 ops st md (⟨d,op,ty,ps,af,some (j,b)⟩::rest) f L k=
  ib (k2_ ops f j==some b) (vcB P w0 st md ⟨d,op,ty,ps,af,some (j,b)⟩ f L (fun f' L'=>vcL P w0 ops st md.next rest f' L' k) (k md (⟨d,op,ty,ps,af,some (j,b)⟩::rest) f L)) (nf (zR_ f d undef) fun f'=>vcL P w0 ops st md.next rest f' L k):=by
 simp only[vcL,zg_]
 cases(k2_ ops f j==some b)<;>rfl
end
@[congr] theorem aeq_ {P:Program} {w0:World} {st:Bool} {md:Md} {o:Oper} {f:Fr} {L:za_} {go:Fr→za_→Prop} {stop:Prop}:vcB P w0 st md o f L go stop=vcB P w0 st md o f L go stop:=(rfl)
section
variable (P:Program) (w0:World) (f:Fr) (L:za_) (st:Bool) (md:Md) (d:Option Tmp) (ty:TypeId) (ps:String) (af:Array Edge) (g:Option (Nat×Bool)) (go:Fr→za_→Prop) (stop:Prop)
theorem abg_ (x:Operand):vcB P w0 st md ⟨d, .move x,ty,ps,af,g⟩ f L go stop=ovs (some (ev f x)) (fun v=>nf (zR_ f d v) fun f'=>go f' L) stop:=(rfl)
theorem Vd_ (x:Operand):vcB P w0 st md ⟨d, .assign x,ty,ps,af,g⟩ f L go stop=ovs (some (ev f x)) (fun v=>nf (zR_ f d v) fun f'=>go f' L) stop:=(rfl)
theorem aa3_ (c a b:Operand):vcB P w0 st md ⟨d, .pick c a b,ty,ps,af,g⟩ f L go stop=ovs (jB_ (ev f c) (ev f a) (ev f b)) (fun v=>nf (zR_ f d v) fun f'=>go f' L) stop:=(rfl)
theorem WW_ (op:BinOp) (t t':TypeId) (x y:Operand):vcB P w0 st md ⟨d, .binOp op t x y t',ty,ps,af,g⟩ f L go stop=ovs (qq_ P op t (ev f x) (ev f y)) (fun v=>nf (zR_ f d v) fun f'=>go f' L) stop:=(rfl)
theorem aaS_ (op:UnOp) (t:TypeId) (x:Operand):vcB P w0 st md ⟨d, .unOp op t x,ty,ps,af,g⟩ f L go stop=ovs (unV op (ev f x)) (fun v=>nf (zR_ f d v) fun f'=>go f' L) stop:=(rfl)
theorem J5_ (s t:TypeId) (x:Operand):vcB P w0 st md ⟨d, .convert s t x,ty,ps,af,g⟩ f L go stop=ib (w5_ md f (.convert s t x)) (ovs (vJ_ w0 L (cvT P s t) (ev f x)) (fun v=>nf (zR_ f d v) fun f'=>go f' L) stop) stop:=(rfl)
theorem Zz_ (x:Operand):vcB P w0 st md ⟨d, .nilCheck x,ty,ps,af,g⟩ f L go stop=ovs (nilV (ev f x)) (fun v=>nf (zR_ f d v) fun f'=>go f' L) stop:=(rfl)
theorem Zk_ (s:TypeId) (x:Operand) (i:Nat):vcB P w0 st md ⟨d, .fieldAddr s x i,ty,ps,af,g⟩ f L go stop=ovs (qH_ (kk_ P s i) (ev f x)) (fun v=>nf (zR_ f d v) fun f'=>go f' L) stop:=(rfl)
theorem W9_ (s:TypeId) (x:Operand) (i:Nat):vcB P w0 st md ⟨d, .field s x i,ty,ps,af,g⟩ f L go stop=ovs (XX_ (kk_ P s i) (ev f x)) (fun v=>nf (zR_ f d v) fun f'=>go f' L) stop:=(rfl)
theorem w6_ (t:TypeId) (x i:Operand):vcB P w0 st md ⟨d, .indexAddr t x i,ty,ps,af,g⟩ f L go stop=ovs (zK_ (ixT P t) (ev f x) (ixI (ev f i))) (fun v=>nf (zR_ f d v) fun f'=>go f' L) stop:=(rfl)
theorem Vy_ (t:TypeId) (x i:Operand):vcB P w0 st md ⟨d, .index t x i,ty,ps,af,g⟩ f L go stop=ovs (jJ_ (ixT P t) (ev f x) (ixI (ev f i))) (fun v=>nf (zR_ f d v) fun f'=>go f' L) stop:=(rfl)
theorem abH_ (t:TypeId) (x:Operand):vcB P w0 st md ⟨d, .load t x,ty,ps,af,g⟩ f L go stop=ib (w5_ md f (.load t x)) (ovs (jD_ (qk_ P t) w0 L (ev f x)) (fun v=>nf (zR_ f d v) fun f'=>go f' L) stop) stop:=(rfl)
theorem J9_ (x:Operand) (i:Nat):vcB P w0 st md ⟨d, .extract x i,ty,ps,af,g⟩ f L go stop=ovs (kg_ (ev f x) i) (fun v=>nf (zR_ f d v) fun f'=>go f' L) stop:=(rfl)
theorem WV_ (t:TypeId) (x:Operand) (lo hi:Option Operand):vcB P w0 st md ⟨d, .slice t x lo hi none,ty,ps,af,g⟩ f L go stop=ovs (z4_ (ixT P t) (ev f x) (lo.map fun o=>ixI (ev f o)) (hi.map fun o=>ixI (ev f o))) (fun v=>nf (zR_ f d v) fun f'=>go f' L) stop:=(rfl)
theorem ZE_ (fn:Fn) (a b:Array Operand):vcB P w0 st md ⟨d, .makeFunc fn a b,ty,ps,af,g⟩ f L go stop=ovs (some (.func fn (a.map (ev f)) (b.map (ev f)))) (fun v=>nf (zR_ f d v) fun f'=>go f' L) stop:=(rfl)
theorem acr_ (x:Operand) (t:TypeId):vcB P w0 st md ⟨d, .call ⟨.builtin .len, #[x], #[t]⟩,ty,ps,af,g⟩ f L go stop=ovs (wu_ (ixT P t) (ev f x)) (fun v=>nf (zR_ f d v) fun f'=>go f' L) stop:=(rfl)
theorem adt_ (x:Operand) (t:TypeId):vcB P w0 st md ⟨d, .call ⟨.builtin .cap, #[x], #[t]⟩,ty,ps,af,g⟩ f L go stop=ovs (capV (ixT P t) (ev f x)) (fun v=>nf (zR_ f d v) fun f'=>go f' L) stop:=(rfl)
theorem VF_ (t:TypeId) (a x:Operand):vcB P w0 true md ⟨none, .store t a x,ty,ps,af,g⟩ f L go stop=oh (jn_ (qk_ P t) L (ev f a) (ev f x)) fun L'=>nh L' fun L'=>go f L':=(rfl)
theorem Jy_ (t:TypeId) (a x:Operand):vcB P w0 false md ⟨d, .store t a x,ty,ps,af,g⟩ f L go stop=stop:=(rfl)
theorem Vo_ (t:TypeId):vcB P w0 st md ⟨d, .alloc t,ty,ps,af,g⟩ f L go stop=stop:=(rfl)
theorem ada_ (t:TypeId) (x:Operand):vcB P w0 st md ⟨d, .box t x,ty,ps,af,g⟩ f L go stop=stop:=(rfl)
theorem Wa_ (t:TypeId) (x:Array (Nat×Operand)):vcB P w0 st md ⟨d, .build t x,ty,ps,af,g⟩ f L go stop=stop:=(rfl)
theorem vM_ (t:TypeId) (n:Nat) (x:Array (Nat×Operand)):vcB P w0 st md ⟨d, .buildSlice t n x,ty,ps,af,g⟩ f L go stop=stop:=(rfl)
theorem w8_ (t:TypeId) (x y:Operand):vcB P w0 st md ⟨d, .makeSlice t x y,ty,ps,af,g⟩ f L go stop=stop:=(rfl)
theorem aaz_ (x:Operand) (a:Array Operand) (t:Array TypeId):vcB P w0 st md ⟨d, .call ⟨.value x,a,t⟩,ty,ps,af,g⟩ f L go stop=stop:=(rfl)
theorem K6_ (a:Array Operand) (t:Array TypeId):vcB P w0 st md ⟨d, .call ⟨.builtin .append,a,t⟩,ty,ps,af,g⟩ f L go stop=stop:=(rfl)
theorem kd_ (a:Array Operand) (t:Array TypeId):vcB P w0 st md ⟨d, .call ⟨.builtin .unsafeString,a,t⟩,ty,ps,af,g⟩ f L go stop=stop:=(rfl)
theorem xa_ (a:Array Operand) (t:Array TypeId):vcB P w0 st md ⟨d, .call ⟨.builtin .unsafeSliceData,a,t⟩,ty,ps,af,g⟩ f L go stop=stop:=(rfl)
theorem aa7_ (a:Array Operand) (t:Array TypeId):vcB P w0 st md ⟨d, .call ⟨.builtin .copy,a,t⟩,ty,ps,af,g⟩ f L go stop=stop:=(rfl)
theorem Kk_ (a:Array Operand) (t:Array TypeId):vcB P w0 st md ⟨d, .call ⟨.builtin .delete,a,t⟩,ty,ps,af,g⟩ f L go stop=stop:=(rfl)
theorem W5_ (a:Array Operand) (t:Array TypeId):vcB P w0 st md ⟨d, .call ⟨.builtin .clear,a,t⟩,ty,ps,af,g⟩ f L go stop=stop:=(rfl)
theorem acS_ (a:Array Operand) (t:Array TypeId):vcB P w0 st md ⟨d, .call ⟨.builtin .max,a,t⟩,ty,ps,af,g⟩ f L go stop=stop:=(rfl)
theorem adg_ (a:Array Operand) (t:Array TypeId):vcB P w0 st md ⟨d, .call ⟨.builtin .min,a,t⟩,ty,ps,af,g⟩ f L go stop=stop:=(rfl)
theorem Jc_ (t:TypeId) (x:Option Operand):vcB P w0 st md ⟨d, .makeMap t x,ty,ps,af,g⟩ f L go stop=stop:=(rfl)
theorem KH_ (t:TypeId) (x y:Operand) (c:Bool):vcB P w0 st md ⟨d, .lookup t x y c,ty,ps,af,g⟩ f L go stop=stop:=(rfl)
theorem wX_ (t:TypeId) (m x y:Operand):vcB P w0 st md ⟨d, .mapUpdate t m x y,ty,ps,af,g⟩ f L go stop=stop:=(rfl)
theorem WR_ (t:TypeId) (x:Operand):vcB P w0 st md ⟨d, .range t x,ty,ps,af,g⟩ f L go stop=stop:=(rfl)
theorem abw_ (x:Operand) (b:Bool):vcB P w0 st md ⟨d, .next x b,ty,ps,af,g⟩ f L go stop=stop:=(rfl)
theorem Kh_ (t:TypeId) (m x y:Operand):vcB P w0 st md ⟨d, .insert t m x y,ty,ps,af,g⟩ f L go stop=stop:=(rfl)
theorem xT_ (t:TypeId) (x:Operand):vcB P w0 st md ⟨d, .makeInterface t x,ty,ps,af,g⟩ f L go stop=stop:=(rfl)
theorem Qu_ (t:TypeId) (m x:Operand):vcB P w0 st md ⟨d, .mapEntry t m x,ty,ps,af,g⟩ f L go stop=stop:=(rfl)
theorem v6_ (t:TypeId) (m x y:Operand):vcB P w0 st md ⟨d, .entryStore t m x y,ty,ps,af,g⟩ f L go stop=stop:=(rfl)
theorem Wz_ (x:Operand):vcB P w0 st md ⟨d, .entry x,ty,ps,af,g⟩ f L go stop=stop:=(rfl)
end
end Go.Sx
end
section
namespace Go.Sx
open Go
set_option linter.unusedSimpArgs false
def resV (P:Program) (w0:World) (L:za_) (f:Fr):ResultVar→Option Value
 | .tmp t=>some (xG_ f t)
 | .cell a t=>jD_ (qk_ P t) w0 L (xG_ f a)
def abp_:Option Value→Option (List Value)→Option (List Value)
 |some v,some vs=>some (v::vs)
 |_,_=>none
def xA_ (P:Program) (w0:World) (L:za_) (f:Fr):List ResultVar→Option (List Value)
 | []=>some []
 |r::rs=>abp_ (resV P w0 L f r) (xA_ P w0 L f rs)
theorem VC_ (P:Program) (w0:World) (L:za_) (f:Fr):xA_ P w0 L f []=some []:=(rfl)
theorem Kg_ (P:Program) (w0:World) (L:za_) (f:Fr) (r:ResultVar) (rs:List ResultVar):xA_ P w0 L f (r::rs)=abp_ (resV P w0 L f r) (xA_ P w0 L f rs):=(rfl)
theorem Kq_ (v:Value) (vs:List Value):abp_ (some v) (some vs)=some (v::vs):=(rfl)
theorem abl_ (P:Program) (w0:World) (L:za_) (f:Fr) (t:Tmp):resV P w0 L f (.tmp t)=some (xG_ f t):=(rfl)
theorem Wm_ (P:Program) (w0:World) (L:za_) (f:Fr) (a:Tmp) (t:TypeId):resV P w0 L f (.cell a t)=jD_ (qk_ P t) w0 L (xG_ f a):=(rfl)
def xF_:List Value→Value
 | [v]=>v
 |vs=> .tuple vs.toArray
section
variable {P:Program} {w0 w:World} {L:za_} {f:Fr}
def resS (f:Fr) (r:ResultVar):Sem Value:=
 match r with
 | .tmp t=>pure ((act f).tmps.getD t undef)
 | .cell a t=>do loadVar t (←asAddr ((act f).tmps.getD a undef))
theorem abc_ {r:ResultVar} {v:Value} (hw:Hp w0 L w) (h:resV P w0 L f r=some v): (resS f r).run P w= .ok v w:=by
 cases r with
 |tmp t=>simp only[resV,Option.some.injEq] at h;subst h;simp only[resS,act,wZ_];rfl
 |cell a t=>
  simp only[resV] at h
  unfold jD_ at h
  split at h
  ·rename_i b off hx
   simp only[resS,act,wZ_,hx,asAddr,Sem.run_bind,Sem.run_pure,Result.andThen_ok,vi_ hw h]
  ·cases h
theorem Qr_: ∀ (rs:List ResultVar) (vs:List Value),Hp w0 L w→xA_ P w0 L f rs=some vs→(rs.mapM (resS f)).run P w= .ok vs w
 | [],vs,_,h=>by simp only[xA_,Option.some.injEq] at h;subst h;rfl
 |r::rs,vs,hw,h=>by
  unfold xA_ abp_ at h
  split at h
  ·rename_i v vs' h1 h2
   simp only[Option.some.injEq] at h;subst h
   rw[List.mapM_cons,Sem.run_bind,abc_ hw h1]
   simp only[Result.andThen_ok]
   rw[Sem.run_bind,Qr_ rs vs' hw h2]
   rfl
  ·cases h
theorem kw_ {fn:Func} {rs:List ResultVar} {vs:List Value} (hr:fn.results=rs.toArray) (hw:Hp w0 L w) (h:xA_ P w0 L f rs=some vs): (results fn (act f).tmps).run P w= .ok (xF_ vs) w:=by
 unfold results
 rw[hr]
 have e: (Array.mapM (m:=Sem) (resS f) rs.toArray).run P w= .ok vs.toArray w:=by
  rw[List.mapM_toArray,Sem.run_map,Qr_ rs vs hw h];rfl
 rw[Sem.run_bind]
 show Result.andThen ((Array.mapM (m:=Sem) (resS f) rs.toArray).run P w) (fun a w'=>(pure (if h:a.size=1 then a[0] else Value.tuple a):Sem Value).run P w')=_
 rw[e]
 cases vs with
 |nil=>rfl
 |cons v r=>cases r<;>rfl
end
def Rets (P:Program) (k:FuncId) (args:Array Value) (w:World) (S:Value→za_→Prop):Prop:=
 Calls P k args w fun e w'=> ∃v D,e= .returned v∧Hp w D w'∧S v D
theorem Rets.mono {P:Program} {k:FuncId} {args:Array Value} {w:World} {S S':Value→za_→Prop} (h:Rets P k args w S) (hs: ∀v D,S v D→S' v D):Rets P k args w S':=
 Calls.mono h fun _ _ ⟨v,D,he,hp,hS⟩=>⟨v,D,he,hp,hs _ _ hS⟩
theorem Cw.own {P:Program} {w0:World} {c:Code} {f:Fr} {L:za_} {K:q4_} {b:Nat} {o:Obj} (hb:w0.heap[b]? =some o) (hn:b∉keys L) (h:Cw P w0 c f (L++ [(b,o)]) K):Cw P w0 c f L K:=
 fun w hw=>h w (hw.own hb hn)
def retK (P:Program) (w0:World) (rs:List ResultVar) (S:Value→za_→Prop):q4_
 | .normal,f,L=> ∃vs,xA_ P w0 L f rs=some vs∧S (xF_ vs) L
 | .ret,f,L=> ∃vs,xA_ P w0 L f rs=some vs∧S (xF_ vs) L
 |_,_,_=>False
theorem Rets.enter {P:Program} {k:FuncId} {fn:Func} {c:Code} {rs:List ResultVar} {args:Array Value} {w:World} {S:Value→za_→Prop} {n:Nat}
  (hf:P.funcs[k]? =some fn) (hb:fn.body=some c) (hr:fn.results=rs.toArray) (hn:fn.ntmps=n)
  (h:Cw P w c (args.toList++List.replicate (n - args.size) undef) [] (retK P w rs S)):Rets P k args w S:=by
 refine calls_of_wp hf hb ?_
 have e: ({tmps:=args++Array.replicate (fn.ntmps - args.size) undef,defers:= []}:Act)=act (args.toList++List.replicate (n - args.size) undef):=by
  rw[hn];simp only[act];congr 1;apply Array.ext';simp
 rw[e]
 refine wp_mono (h w (Hp.refl w)) ?_
 rintro e a w' ⟨hd,L,hp,hk⟩
 have ha:=ZH_ hd
 cases e with
 |normal=>
  obtain⟨vs,h1,h2⟩:=hk
  exact⟨hd,xF_ vs,by rw[ha];exact kw_ hr hp h1,xF_ vs,L,rfl,hp,h2⟩
 |ret=>
  obtain⟨vs,h1,h2⟩:=hk
  exact⟨hd,xF_ vs,by rw[ha];exact kw_ hr hp h1,xF_ vs,L,rfl,hp,h2⟩
 |exit i=>exact hk.elim
 |goto i=>exact hk.elim
 |panic c=>exact hk.elim
 |outgrown=>exact hk.elim
def New (n:Nat):za_→Prop
 | []=>True
 | (b,_)::r=>n≤b∧New n r
theorem New.le {n:Nat} {L:za_} (h:New n L): ∀b,b∈keys L→n≤b:=by
 induction L with
 |nil=>intro b hb;cases hb
 |cons p r ih=>
  obtain⟨c,o⟩:=p
  intro b hb
  rcases List.mem_cons.1 hb with hb|hb
  ·rw[hb];exact h.1
  ·exact ih h.2 b hb
theorem Hp.garbage {w w':World} {D:za_} (h:Hp w D w') (hn:New w.heap.size D):Hp w [] w':=
 h.drop (fun _ hp=>by cases hp) List.nodup_nil (fun p hp hlt _=>by
  have:=hn.le p.1 (List.mem_map.2 ⟨p,hp,rfl⟩);omega)
def retV (P:Program) (w0:World) (rs:List ResultVar) (S:Value→Prop):q4_
 | .normal,f,L=> ∃vs,xA_ P w0 L f rs=some vs∧New w0.heap.size L∧S (xF_ vs)
 | .ret,f,L=> ∃vs,xA_ P w0 L f rs=some vs∧New w0.heap.size L∧S (xF_ vs)
 |_,_,_=>False
theorem Rets.enterV {P:Program} {k:FuncId} {fn:Func} {c:Code} {rs:List ResultVar} {args:Array Value} {w:World} {S:Value→Prop} {n:Nat}
  (hf:P.funcs[k]? =some fn) (hb:fn.body=some c) (hr:fn.results=rs.toArray) (hn:fn.ntmps=n)
  (h:Cw P w c (args.toList++List.replicate (n - args.size) undef) [] (retV P w rs S)):Rets P k args w (fun v D=>S v∧D= []):=by
 have:=Rets.enter (S:=fun v D=>New w.heap.size D∧S v) hf hb hr hn (h.mono (by
  intro e f L hk
  cases e<;>first
   |exact hk
   |exact hk.elim))
 refine Calls.mono this ?_
 rintro e w' ⟨v,D,he,hp,hn,hS⟩
 exact⟨v,[],he,hp.garbage hn,hS,rfl⟩
def retM (P:Program) (w0:World) (rs:List ResultVar) (b:Nat) (S:Value→Obj→Prop):q4_
 | .normal,f,L=> ∃vs o N,xA_ P w0 L f rs=some vs∧L=(b,o)::N∧New w0.heap.size N∧S (xF_ vs) o
 | .ret,f,L=> ∃vs o N,xA_ P w0 L f rs=some vs∧L=(b,o)::N∧New w0.heap.size N∧S (xF_ vs) o
 |_,_,_=>False
theorem Rets.enterM {P:Program} {k:FuncId} {fn:Func} {c:Code} {rs:List ResultVar} {args:Array Value} {w:World} {S:Value→Obj→Prop} {n b:Nat} {o:Obj}
  (hf:P.funcs[k]? =some fn) (hb:fn.body=some c) (hr:fn.results=rs.toArray) (hn:fn.ntmps=n) (ho:w.heap[b]? =some o)
  (h:Cw P w c (args.toList++List.replicate (n - args.size) undef) [(b,o)] (retM P w rs b S)):Rets P k args w (fun v D=> ∃o,D= [(b,o)]∧S v o):=by
 have:=Rets.enter (S:=fun v D=> ∃o N,D=(b,o)::N∧New w.heap.size N∧S v o) hf hb hr hn
  (Cw.own ho (by simp[keys]) (h.mono (by
   intro e f L hk
   cases e with
   |normal=>obtain⟨vs,o,N,h1,h2,h3,h4⟩:=hk;exact⟨vs,h1,o,N,h2,h3,h4⟩
   |ret=>obtain⟨vs,o,N,h1,h2,h3,h4⟩:=hk;exact⟨vs,h1,o,N,h2,h3,h4⟩
   |_=>exact hk.elim)))
 refine Calls.mono this ?_
 rintro e w' ⟨v,D,he,hp,o',N,rfl,hN,hS⟩
 have hbl:=(Array.getElem?_eq_some_iff.1 ho).1
 refine⟨v,[(b,o')],he,hp.drop (fun p hp=> ?_) (by simp[keys]) (fun p hp hlt hnk=> ?_),o',rfl,hS⟩
 ·simp only[List.mem_singleton] at hp;subst hp;exact List.mem_cons_self
 ·rcases List.mem_cons.1 hp with h|h
  ·exfalso;apply hnk;rw[h];simp[keys]
  ·have:=hN.le p.1 (List.mem_map.2 ⟨p,h,rfl⟩);omega
def qo_:za_→Nat→Prop
 | [],_=>True
 | (b,_)::r,n=>b<n∧qo_ r n
theorem zv_ {L:za_} {n:Nat} (h: ∀b,b∈keys L→b<n):qo_ L n:=by
 induction L with
 |nil=>trivial
 |cons p r ih=>
  obtain⟨b,o⟩:=p
  exact⟨h b List.mem_cons_self,ih fun c hc=>h c (List.mem_cons_of_mem _ hc)⟩
def Mrg (w0:World) (L:za_) (B:Nat) (D L':za_):Prop:= ∀w w',w.heap.size=B→Hp w0 L w→Hp w D w'→Hp w0 L' w'
theorem Mrg.nil {w0:World} {L:za_} {B:Nat}:Mrg w0 L B [] L:=fun _ _ _ h k=>h.trans_nil k
theorem Hp.same {w0 w:World} {L M:za_} (h:Hp w0 L w) (hs: ∀p,p∈M↔p∈L) (hn: (keys M).Nodup):Hp w0 M w:=by
 have hk: ∀b,b∈keys M↔b∈keys L:=fun b=>by
  constructor<;>intro hb<;>obtain⟨p,hp,rfl⟩:=List.mem_map.1 hb
  ·exact List.mem_map.2 ⟨p,(hs p).1 hp,rfl⟩
  ·exact List.mem_map.2 ⟨p,(hs p).2 hp,rfl⟩
 exact⟨fun b o hm=>h.has b o ((hs _).1 hm),hn,fun b hb hm=>h.old b hb (fun hm'=>hm ((hk b).2 hm')),h.size,h.tape,h.os,h.output⟩
theorem qN_ {L D:za_} (h: ∀b,b∈keys L→b∉keys D):L.filter (fun p=> !(keys D).contains p.1)=L:=by
 apply List.filter_eq_self.2
 intro p hp
 have:=h p.1 (List.mem_map.2 ⟨p,hp,rfl⟩)
 simpa using this
theorem Mrg.fresh {w0:World} {L D:za_} {B:Nat} (hD: ∀b,b∈keys D→B≤b):Mrg w0 L B D (L++D):=by
 intro w w' hB h k
 have:=h.trans k
 rwa [qN_ (fun b hb hm=>by have:=h.lt hb;have:=hD b hm;omega)] at this
theorem Mrg.set {w0:World} {L:za_} {B b:Nat} {o:Obj} (hb:b∈keys L):Mrg w0 L B [(b,o)] (setB L b o):=by
 intro w w' hB h k
 have ht:=h.trans k
 refine ht.same (fun p=> ?_) (by rw[qe_];exact h.nodup)
 obtain⟨c,x⟩:=p
 simp only[List.mem_append,List.mem_filter,keys,List.map_cons,List.map_nil,List.contains_eq_mem,List.mem_singleton,Prod.mk.injEq,Bool.not_eq_true',decide_eq_false_iff_not]
 constructor
 ·intro hm
  rcases Xo_ h.nodup hm with⟨h1,h2⟩ | ⟨h1,h2⟩
  ·exact .inr ⟨h1,h2⟩
  ·exact .inl ⟨h2,h1⟩
 ·rintro(⟨h1,h2⟩ | ⟨rfl,rfl⟩)
  ·have: ∀ (L:za_),(c,x)∈L→c≠b→(c,x)∈setB L b o:=by
    intro L
    induction L with
    |nil=>intro hm _;cases hm
    |cons q r ih=>
     obtain⟨e,y⟩:=q
     intro hm hne
     unfold setB
     split
     ·rename_i he
      rcases List.mem_cons.1 hm with hm|hm
      ·simp only[Prod.mk.injEq] at hm;exact absurd (hm.1.trans he) hne
      ·exact List.mem_cons_of_mem _ hm
     ·rcases List.mem_cons.1 hm with hm|hm
      ·rw[hm];exact List.mem_cons_self
      ·exact List.mem_cons_of_mem _ (ih hm hne)
   exact this L h1 h2
  ·have: ∀ (L:za_),c∈keys L→(c,x)∈setB L c x:=by
    intro L
    induction L with
    |nil=>intro hm;cases hm
    |cons q r ih=>
     obtain⟨e,y⟩:=q
     intro hm
     unfold setB
     split
     ·rename_i he;subst he;exact List.mem_cons_self
     ·rename_i he
      rcases List.mem_cons.1 hm with hm|hm
      ·exact absurd hm.symm he
      ·exact List.mem_cons_of_mem _ (ih hm)
   exact this L hb
section
variable {P:Program} {w0:World} {f:Fr} {L:za_} {N:Fr→za_→Prop} {ops:Array Oper} {rest:List Oper} {md:Md}
 {d:Option Tmp} {ty:TypeId} {ps:String} {af:Array Edge} {g:Option (Nat×Bool)}
theorem XJ_ {x:Operand} {args:Array Operand} {ts:Array TypeId} {k:FuncId} {fst cap:Array Value} (hx:ev f x= .func (.func k) fst cap)
  (hk: ∀a w,(callFunc k a).run P w= .ok (.enter k a) w) (w:World):
  (execOp (ev f) ⟨d, .call ⟨.value x,args,ts⟩,ty,ps,af,g⟩).run P w= .ok (.enter k (fst++args.map (ev f)++cap)) w:=by
 simp only[execOp,resolve,hx,Deferred.ofValue,Sem.run_bind,Sem.run_pure,Result.andThen_ok,invoke,hk]
theorem Ow.call {x:Operand} {args:Array Operand} {ts:Array TypeId} {k:FuncId} {fst cap:Array Value} {S:Nat→Value→za_→Prop} {md':Md} (he:md.turn=some md')
  (hs:zg_ ops f ⟨d, .call ⟨.value x,args,ts⟩,ty,ps,af,g⟩=false) (hx:ev f x= .func (.func k) fst cap)
  (hk: ∀a w,(callFunc k a).run P w= .ok (.enter k a) w) (hc: ∀w,Hp w0 L w→Rets P k (fst++args.map (ev f)++cap) w (S w.heap.size))
  (hn: ∀B v D,qo_ L B→w0.heap.size≤B→S B v D→ ∃L',Mrg w0 L B D L'∧Ow P w0 ops md' rest (zR_ f d v) L' N):
  Ow P w0 ops md (⟨d, .call ⟨.value x,args,ts⟩,ty,ps,af,g⟩::rest) f L N:=by
 refine Ow.step he rfl hs fun w hw=> .inr (.inr ⟨k,_,w,XJ_ hx hk w, ?_⟩)
 refine Calls.mono (hc w hw) ?_
 rintro e w' ⟨v,D,rfl,hp,hS⟩
 obtain⟨L',hm,hO⟩:=hn w.heap.size v D (zv_ fun b hb=>hw.lt hb) hw.size hS
 exact⟨v,L',rfl,hm w w' rfl hw hp,hO⟩
theorem Ow.callV {x:Operand} {args:Array Operand} {ts:Array TypeId} {k:FuncId} {fst cap:Array Value} {v:Value}
  (hs:zg_ ops f ⟨d, .call ⟨.value x,args,ts⟩,ty,ps,af,g⟩=false) (hx:ev f x= .func (.func k) fst cap)
  (hk: ∀a w,(callFunc k a).run P w= .ok (.enter k a) w) (hc: ∀w,Hp w0 L w→Rets P k (fst++args.map (ev f)++cap) w (fun v' D=>v'=v∧D= []))
  (hn:Ow P w0 ops md.next rest (zR_ f d v) L N):
  Ow P w0 ops md (⟨d, .call ⟨.value x,args,ts⟩,ty,ps,af,g⟩::rest) f L N:=by
 refine Ow.calm rfl rfl hs (fun w hw=> .inr (.inr ⟨k,_,w,XJ_ hx hk w, ?_⟩)) hn
 refine Calls.mono (hc w hw) ?_
 rintro e w' ⟨v',D,rfl,hp,rfl,rfl⟩
 exact⟨_,_,rfl,hw.trans_nil hp,rfl,rfl⟩
theorem Ow.callF {l:List Operand} {ts:Array TypeId} {k:FuncId} {S:Nat→Value→za_→Prop} {md':Md} (he:md.turn=some md')
  (hs:zg_ ops f ⟨d, .call ⟨.value (.func k),l.toArray,ts⟩,ty,ps,af,g⟩=false)
  (hk: ∀a w,(callFunc k a).run P w= .ok (.enter k a) w) (hc: ∀w,Hp w0 L w→Rets P k (l.map (ev f)).toArray w (S w.heap.size))
  (hn: ∀B v D,qo_ L B→w0.heap.size≤B→S B v D→ ∃L',Mrg w0 L B D L'∧Ow P w0 ops md' rest (zR_ f d v) L' N):
  Ow P w0 ops md (⟨d, .call ⟨.value (.func k),l.toArray,ts⟩,ty,ps,af,g⟩::rest) f L N:=
 Ow.call he hs rfl hk (fun w hw=>by simpa using hc w hw) hn
theorem Ow.callFV {l:List Operand} {ts:Array TypeId} {k:FuncId} {v:Value}
  (hs:zg_ ops f ⟨d, .call ⟨.value (.func k),l.toArray,ts⟩,ty,ps,af,g⟩=false)
  (hk: ∀a w,(callFunc k a).run P w= .ok (.enter k a) w) (hc: ∀w,Hp w0 L w→Rets P k (l.map (ev f)).toArray w (fun v' D=>v'=v∧D= []))
  (hn:Ow P w0 ops md.next rest (zR_ f d v) L N):
  Ow P w0 ops md (⟨d, .call ⟨.value (.func k),l.toArray,ts⟩,ty,ps,af,g⟩::rest) f L N:=
 Ow.callV hs rfl hk (fun w hw=>by simpa using hc w hw) hn
def qg_ (P:Program) (t:TypeId):Option Value:=(P.info? t).bind (·.zero)
theorem qv_ {t:TypeId} {z:Value} (h:qg_ P t=some z) (w:World): (zeroValue t).run P w= .ok z w:=by
 unfold qg_ at h
 cases hi:P.info? t with
 |none=>rw[hi] at h;cases h
 |some i=>
  rw[hi] at h
  simp only[Option.bind_some] at h
  simp only[zeroValue,Sem.run_bind,typeInfo,run_program,Result.andThen_ok,hi,Sem.run_pure,h]
theorem Ow.alloc {t:TypeId} {z:Value} {md':Md} (he:md.turn=some md') (hs:zg_ ops f ⟨d, .alloc t,ty,ps,af,g⟩=false) (hz:qg_ P t=some z)
  (hn: ∀b,qo_ L b→w0.heap.size≤b→Ow P w0 ops md' rest (zR_ f d (vp b 0)) (L++ [(b, .cells z.cells t)]) N):
  Ow P w0 ops md (⟨d, .alloc t,ty,ps,af,g⟩::rest) f L N:=by
 refine Ow.step he rfl hs fun w hw=> .inl ⟨vp w.heap.size 0,w.alloc (.cells z.cells t),_, ?_,hw.alloc _,hn _ (zv_ fun b hb=>hw.lt hb) hw.size⟩
 simp only[execOp,Instr.alloc,Sem.run_bind,qv_ hz w,Result.andThen_ok]
 rfl
theorem Ow.box {t:TypeId} {x:Operand} {md':Md} (he:md.turn=some md') (hs:zg_ ops f ⟨d, .box t x,ty,ps,af,g⟩=false)
  (hn: ∀b,qo_ L b→w0.heap.size≤b→Ow P w0 ops md' rest (zR_ f d (vp b 0)) (L++ [(b, .cells (ev f x).cells t)]) N):
  Ow P w0 ops md (⟨d, .box t x,ty,ps,af,g⟩::rest) f L N:=by
 refine Ow.step he rfl hs fun w hw=> .inl ⟨vp w.heap.size 0,w.alloc (.cells (ev f x).cells t),_, ?_,hw.alloc _,hn _ (zv_ fun b hb=>hw.lt hb) hw.size⟩
 simp only[execOp,Instr.box,Sem.run_bind,Result.andThen_ok]
 rfl
def plcT (P:Program) (t:TypeId):Option (List (Nat×Nat)):=
 match P.underlying t with
 |some (.struct fs)=>fs.toList.mapM fun f=>(qk_ P f.type).map fun m=>(f.offset,m.2)
 |some (.array n e)=>(qk_ P e).map fun m=>(List.range n).map fun i=>(i*m.2,m.2)
 |_=>none
def Kf_ (pl:List (Nat×Nat)):Array Value→List (Nat×Value)→Option (Array Value)
 |cs,[]=>some cs
 |cs,(i,v)::r=>match pl[i]? with
  |some (off,n)=>if v.cells.size=n∧off+n≤cs.size then Kf_ pl (Zp_ cs off v.cells.toList) r else none
  |none=>none
def vc_ (pl:Option (List (Nat×Nat))) (z:Option Value) (parts:List (Nat×Value)):Option Value:=
 match pl,z with
 |some pl,some (.agg cs)=>(Kf_ pl cs parts).map .agg
 |_,_=>none
theorem wx_: ∀ (vs:List Value) (off j:Nat) (cs:Array Value),(vs.zipIdx j).foldl (fun cs (p:Value×Nat)=>cs.setIfInBounds (off+p.2) p.1) cs=Zp_ cs (off+j) vs
 | [],_,_,_=>rfl
 |v::r,off,j,cs=>by
  simp only[List.zipIdx_cons,List.foldl_cons,Zp_]
  rw[wx_ r off (j+1)]
  rfl
theorem Xb_ {place:Nat→Option (Nat×Nat)} {pl:List (Nat×Nat)} (hp: ∀i p,pl[i]? =some p→place i=some p): ∀ (parts:List (Nat×Value)) (cs cs':Array Value),Kf_ pl cs parts=some cs'→Instr.fill place cs parts=some cs'
 | [],_,_,h=>h
 | (i,v)::r,cs,cs',h=>by
  unfold Kf_ at h
  split at h
  ·rename_i off n hi
   split at h
   ·rename_i hc
    unfold Instr.fill
    rw[hp i _ hi]
    simp only
    have h1: (decide (v.cells.size≠n) ||decide (off+v.cells.size>cs.size))=false:=by
     simp only[Bool.or_eq_false_iff,decide_eq_false_iff_not];omega
    have h1': ¬ ((decide (v.cells.size≠n) ||decide (off+v.cells.size>cs.size))=true):=by rw[h1];simp
    rw[if_neg h1']
    have e: (v.cells.zipIdx.foldl (fun cs (x:Value×Nat)=>match x with| (c,j)=>cs.setIfInBounds (off+j) c) cs)=Zp_ cs off v.cells.toList:=by
     have:=wx_ v.cells.toList off 0 cs
     rw[←Array.foldl_toList,Array.toList_zipIdx]
     simpa using this
    rw[e]
    exact Xb_ hp r _ _ h
   ·cases h
  ·cases h
theorem JN_ {fs:List Field} {pl:List (Nat×Nat)} (h:fs.mapM (fun f=>(qk_ P f.type).map fun m=>(f.offset,m.2))=some pl) (w:World):
  (fs.mapM (fun f=>do pure (f.offset,←sizeOf f.type):Field→Sem (Nat×Nat))).run P w= .ok pl w:=by
 induction fs generalizing pl with
 |nil=>cases h;rfl
 |cons f r ih=>
  simp only[List.mapM_cons,Option.bind_eq_bind,Option.bind_eq_some_iff,Option.map_eq_some_iff] at h
  obtain⟨p,⟨m,hm,rfl⟩,ps,hps,h⟩:=h
  cases h
  rw[List.mapM_cons,Sem.run_bind]
  simp only[Sem.run_bind,zl_ hm,Result.andThen_ok,Sem.run_pure,ih hps]
theorem Kb_ {t:TypeId} {parts:Array (Nat×Value)} {v:Value} (h:vc_ (plcT P t) (qg_ P t) parts.toList=some v) (w:World): (Instr.build t parts).run P w= .ok v w:=by
 unfold vc_ at h
 split at h
 ·rename_i pl cs hpl hz
  cases hf:Kf_ pl cs parts.toList with
  |none=>rw[hf] at h;cases h
  |some cs'=>
   rw[hf] at h
   cases h
   unfold plcT at hpl
   split at hpl
   ·rename_i fs hu
    have hpl':fs.toList.mapM (fun f=>(qk_ P f.type).map fun m=>(f.offset,m.2))=some pl:=hpl
    have hm:=JN_ hpl' w
    have hm': (fs.mapM (fun f=>do pure (f.offset,←sizeOf f.type):Field→Sem (Nat×Nat))).run P w= .ok pl.toArray w:=by
     rw[←Array.toArray_toList (xs:=fs),List.mapM_toArray,Sem.run_map,hm];rfl
    have hfill:=Xb_ (place:=(pl.toArray[·]?)) (fun i p hi=>by simpa using hi) _ _ _ hf
    simp only[Instr.build,Sem.run_bind,qv_ hz w,Result.andThen_ok,run_underlying hu w,Value.cells]
    rw[hm']
    simp only[Result.andThen_ok,hfill,Sem.run_pure]
   ·rename_i n e hu
    cases hm:qk_ P e with
    |none=>rw[hm] at hpl;cases hpl
    |some m=>
     rw[hm] at hpl
     simp only[Option.map_some,Option.some.injEq] at hpl
     have hfill:=Xb_ (place:=fun i=>some (i*m.2,m.2)) (fun i p hi=>by
      rw[←hpl] at hi
      simp only[List.getElem?_map,Option.map_eq_some_iff] at hi
      obtain⟨j,hj,rfl⟩:=hi
      have:j=i:=by
       have:=List.getElem?_eq_some_iff.1 hj
       obtain⟨h1,h2⟩:=this
       simpa using h2.symm
      rw[this]) _ _ _ hf
     simp only[Instr.build,Sem.run_bind,qv_ hz w,Result.andThen_ok,run_underlying hu w,Value.cells,zl_ hm w]
     simp only[hfill,Sem.run_pure]
   ·cases hpl
 ·cases h
theorem Ow.build {t:TypeId} {parts:Array (Nat×Operand)} (v:Value) (hs:zg_ ops f ⟨d, .build t parts,ty,ps,af,g⟩=false)
  (hv:vc_ (plcT P t) (qg_ P t) (parts.toList.map fun p=>(p.1,ev f p.2))=some v)
  (hn:Ow P w0 ops md.next rest (zR_ f d v) L N):Ow P w0 ops md (⟨d, .build t parts,ty,ps,af,g⟩::rest) f L N:=by
 refine Ow.pureV rfl hs (fun w=> ?_) hn
 have h':vc_ (plcT P t) (qg_ P t) (parts.map fun(i,x)=>(i,ev f x)).toList=some v:=by
  rw[Array.toList_map];exact hv
 simp only[execOp,Sem.run_bind,Kb_ h' w,Result.andThen_ok]
 rfl
theorem Ow.val {o:Oper} {v:Value} {md':Md} (he:md.turn=some md') (hp:qE_ P o.op=false) (hs:zg_ ops f o=false) (hv: ∀w,Hp w0 L w→(execOp (ev f) o).run P w= .ok (.value v) w)
  (hn:Ow P w0 ops md' rest (zR_ f o.dst v) L N):Ow P w0 ops md (o::rest) f L N:=
 Ow.step he hp hs fun w hw=> .inl ⟨v,w,L,hv w hw,hw,hn⟩
end
def a8 (l:List UInt8):Array Value:=(l.map fun x=>Value.int .u8 (x.toNat:Int)).toArray
def a32 (l:List UInt32):Array Value:=(l.map fun x=>Value.int .u32 (x.toNat:Int)).toArray
end Go.Sx
end
section
namespace Go.Sx
open Go
set_option linter.unusedSimpArgs false
section
variable {P:Program} {w0:World} {f:Fr} {L:za_} {K:q4_} {N:Fr→za_→Prop}
end
def CwC (P:Program) (w0:World) (v:Value) (x y:Code) (f:Fr) (L:za_) (K:q4_):Prop:= ∃b,v= .bool b∧(b=true→Cw P w0 x f L K)∧(b=false→Cw P w0 y f L K)
section
variable {P:Program} {w0:World} {f:Fr} {L:za_} {K:q4_} {v:Value} {x y:Code}
theorem CwC.split {b:Bool} (hv:v= .bool b) (ht:b=true→Cw P w0 x f L K) (he:b=false→Cw P w0 y f L K):CwC P w0 v x y f L K:=⟨b,hv,ht,he⟩
theorem CwC.tt (hv:v= .bool true) (ht:Cw P w0 x f L K):CwC P w0 v x y f L K:=⟨_,hv,(fun _=>ht),(fun h=>by cases h)⟩
theorem CwC.ff (hv:v= .bool false) (he:Cw P w0 y f L K):CwC P w0 v x y f L K:=⟨_,hv,(fun h=>by cases h),(fun _=>he)⟩
theorem CwC.bt {b:Bool} (hv:v= .bool b) (hb:b=true) (ht:Cw P w0 x f L K):CwC P w0 v x y f L K:=CwC.tt (by rw[hv,hb]) ht
theorem CwC.bf {b:Bool} (hv:v= .bool b) (hb:b=false) (he:Cw P w0 y f L K):CwC P w0 v x y f L K:=CwC.ff (by rw[hv,hb]) he
theorem CwC.pt {p:Prop} [Decidable p] (hv:v= .bool (decide p)) (hp:p) (ht:Cw P w0 x f L K):CwC P w0 v x y f L K:=CwC.bt hv (decide_eq_true hp) ht
theorem CwC.it {a b:Int} (hv:v= .bool (a==b)) (hp:a=b) (ht:Cw P w0 x f L K):CwC P w0 v x y f L K:=CwC.bt hv (beq_iff_eq.2 hp) ht
theorem CwC.if {a b:Int} (hv:v= .bool (a==b)) (hp: ¬a=b) (he:Cw P w0 y f L K):CwC P w0 v x y f L K:=CwC.bf hv (beq_eq_false_iff_ne.2 hp) he
theorem CwC.nf {a b:Int} (hv:v= .bool (a !=b)) (hp:a=b) (he:Cw P w0 y f L K):CwC P w0 v x y f L K:=CwC.bf hv (by rw[hp];simp) he
end
theorem ji_ (f:Fr) (t:Tmp):ev f (.tmp t)=xG_ f t:=(rfl)
theorem aa5_ (f:Fr) (v:Value):ev f (.const v)=v:=(rfl)
theorem VE_ (f:Fr) (g:Nat):ev f (.global g)=vp g 0:=(rfl)
theorem WC_ (f:Fr) (k:FuncId):ev f (.func k)= .func (.func k) #[] #[]:=(rfl)
theorem jf_ (v:Value) (r:Fr):xG_ (v::r) 0=v:=(rfl)
theorem jx_ (v:Value) (r:Fr) (n:Nat):xG_ (v::r) (n+1)=xG_ r n:=(rfl)
theorem WP_ (v x:Value) (r:Fr):ZP_ (v::r) 0 x=x::r:=(rfl)
theorem aaj_ (v x:Value) (r:Fr) (n:Nat):ZP_ (v::r) (n+1) x=v::ZP_ r n x:=(rfl)
theorem ZS_ (f:Fr) (d:Tmp) (v:Value):zR_ f (some d) v=ZP_ f d v:=(rfl)
theorem WB_ (f:Fr) (v:Value):zR_ f none v=f:=(rfl)
theorem ado_ (l:List UInt8):Value.string (ByteArray.mk (List.toArray l))=vs l:=(rfl)
theorem acX_ (P:Program) (op:BinOp) (t:TypeId) (a b:List UInt8):qq_ P op t (vs a) (vs b)=ze_ op (vs a) (vs b):=(rfl)
theorem xb_ (l:List UInt8): (ByteArray.mk l.toArray).size=l.length:=by simp[ByteArray.size]
theorem q7_ (l:List UInt8): (ByteArray.mk l.toArray).toList=l:=by rw[ByteArray.toList_eq]
theorem W4_ (a b:List UInt8) (h:a.length+b.length≤9223372036854775807):ze_ .add (vs a) (vs b)=some (vs (a++b)):=by
 simp only[ze_,vs,strV,xb_,h, ↓reduceIte]
 congr 2
theorem Ws_ (a b:List UInt8):ze_ .eql (vs a) (vs b)=some (.bool (a==b)):=by simp only[ze_,vs,strV,q7_]
theorem Wr_ (a b:List UInt8):ze_ .neq (vs a) (vs b)=some (.bool (a !=b)):=by simp only[ze_,vs,strV,q7_];rfl
theorem VK_ (a b:List UInt8):ze_ .lss (vs a) (vs b)=some (.bool (Op.bytesLess a b)):=by simp only[ze_,vs,strV,q7_]
theorem aaq_ (a b:List UInt8):ze_ .leq (vs a) (vs b)=some (.bool (Op.bytesLess a b||a==b)):=by simp only[ze_,vs,strV,q7_]
theorem aaa_ (a b:List UInt8):ze_ .gtr (vs a) (vs b)=some (.bool (!(Op.bytesLess a b||a==b))):=by simp only[ze_,vs,strV,q7_]
theorem Wv_ (a b:List UInt8):ze_ .geq (vs a) (vs b)=some (.bool (!Op.bytesLess a b)):=by simp only[ze_,vs,strV,q7_]
theorem aal_ (l:List UInt8) (k:Int) (h:0≤k∧k<l.length):jJ_ .str (vs l) (some k)=some (v8 (l.getD k.toNat 0)):=by
 have hlt:k.toNat<l.length:=by omega
 simp only[jJ_,vs,h.1, ↓reduceIte]
 have: (ByteArray.mk l.toArray)[k.toNat]? =some l[k.toNat]:=by
  have hs:k.toNat< (ByteArray.mk l.toArray).size:=by rw[xb_];exact hlt
  rw[ByteArray.getElem?_lt' _ _ hs];rfl
 rw[this]
 simp[v8,List.getD_eq_getElem?_getD,hlt]
theorem adl_ (l:List UInt8):wu_ .str (vs l)=some (vi l.length):=by simp only[wu_,vs,xb_];rfl
theorem vl_ (l:List UInt8) (lo hi:Option (Option Int)) (a b:Nat) (h:Ki_ l.length l.length lo hi=some (a,b)):z4_ .str (vs l) lo hi=some (vs ((l.take b).drop a)):=by
 simp only[z4_,vs,xb_,h]
 rw[ByteArray.extract_mk]
 congr 3
 rw[List.drop_take]
theorem aa1_ (n c:Nat):Ki_ n c none none=some (0,n):=(rfl)
theorem acc_ (n c:Nat) (l:Int) (h:0≤l∧l≤n):Ki_ n c (some (some l)) none=some (l.toNat,n):=by simp only[Ki_,h,and_self, ↓reduceIte]
theorem ab4_ (n c:Nat) (l:Int) (h:0≤l∧l≤c):Ki_ n c none (some (some l))=some (0,l.toNat):=by simp only[Ki_,h,and_self, ↓reduceIte]
theorem Xq_ (n c:Nat) (l k:Int) (h:0≤l∧l≤k∧k≤c):Ki_ n c (some (some l)) (some (some k))=some (l.toNat,k.toNat):=by simp only[Ki_,h,and_self, ↓reduceIte]
theorem QA_ (l:List UInt8) (k:Int) (h:0≤k∧k≤l.length):z4_ .str (vs l) (some (some k)) none=some (vs (l.drop k.toNat)):=by
 rw[vl_ l _ _ _ _ (acc_ _ _ k h),List.take_length]
theorem Zs_ (l:List UInt8) (k:Int) (h:0≤k∧k≤l.length):z4_ .str (vs l) none (some (some k))=some (vs (l.take k.toNat)):=by
 rw[vl_ l _ _ _ _ (ab4_ _ _ k h),List.drop_zero]
theorem vN_ (l:List UInt8) (j k:Int) (h:0≤j∧j≤k∧k≤l.length):z4_ .str (vs l) (some (some j)) (some (some k))=some (vs ((l.take k.toNat).drop j.toNat)):=by
 rw[vl_ l _ _ _ _ (Xq_ _ _ j k h)]
theorem abR_ (w0:World) (L:za_) (k:IntKind) (v:Value):vJ_ w0 L (.int k) v=zq_ k v:=(rfl)
theorem aaV_ (w0:World) (L:za_) (l:List UInt8):vJ_ w0 L .str (vs l)=some (vs l):=(rfl)
theorem w0_ (w0:World) (L:za_) (b off n c:Nat):vJ_ w0 L .bytesStr (vsl b off n c)=k7_ (zm_ w0 L b) off n:=(rfl)
theorem KG_ (l:List UInt8):jL_ (l.map fun x=>Value.int .u8 (x.toNat:Int))=some l:=by
 induction l with
 |nil=>rfl
 |cons x r ih=>
  simp only[List.map_cons,jL_,ih,Int.toNat_natCast]
  simp
theorem acx_ (l:List UInt8) (E:TypeId) (fz:Nat×Nat) (off n:Nat) (h:off+n≤l.length):k7_ (some (.cells (a8 l) E fz)) off n=some (vs ((l.drop off).take n)):=by
 have hs:off+n≤ (a8 l).size:=by simpa [a8] using h
 simp only[k7_,hs, ↓reduceIte]
 have e: ((a8 l).extract off (off+n)).toList=((l.drop off).take n).map fun x=>Value.int .u8 (x.toNat:Int):=by
  simp[a8,List.map_drop,List.map_take,List.take_drop,List.extract_eq_take_drop]
 rw[e,KG_];rfl
theorem J1_ (off n b o:Nat) (a:Bool) (h:0<n):qH_ (some (off,(a,n))) (vp b o)=some (vp b (o+off)):=by
 have: ¬n=0:=by omega
 simp only[qH_,vp,this, ↓reduceIte,z3_]
theorem wO_ (n:Nat) (m:Bool×Nat) (b o:Nat) (k:Int) (h:0≤k∧k<n):zK_ (.arr n m) (vp b o) (some k)=some (vp b (o+k.toNat*m.2)):=by
 simp only[zK_,vp,h,and_self, ↓reduceIte,z3_]
theorem qw_ (m:Bool×Nat) (b o n c:Nat) (k:Int) (h:0≤k∧k<n):zK_ (.sl m) (vsl b o n c) (some k)=some (vp b (o+k.toNat*m.2)):=by
 simp only[zK_,vp,vsl,h,and_self, ↓reduceIte,z3_]
theorem ae5_ (b o:Nat):nilV (vp b o)=some (vp b o):=(rfl)
theorem ac7_ (n:Nat) (m:Bool×Nat) (v:Value):wu_ (.arr n m) v=some (vi n):=(rfl)
theorem ad0_ (m:Bool×Nat) (b o n c:Nat):wu_ (.sl m) (vsl b o n c)=some (vi n):=(rfl)
theorem ad3_ (m:Bool×Nat) (b o n c:Nat):capV (.sl m) (vsl b o n c)=some (vi c):=(rfl)
theorem wL_ (n:Nat) (m:Bool×Nat) (b o:Nat) (h:0<n):z4_ (.arr n m) (vp b o) none none=some (vsl b o n n):=by
 have: ¬n=0:=by omega
 simp only[z4_,vp,aa1_,this, ↓reduceIte,vsl,z3_,Nat.zero_mul,Nat.add_zero,Nat.sub_zero]
theorem v4_ (n:Nat) (m:Bool×Nat) (b o:Nat) (j k:Int) (h:0≤j∧j≤k∧k≤n∧j<n):z4_ (.arr n m) (vp b o) (some (some j)) (some (some k))=some (vsl b (o+j.toNat*m.2) (k.toNat - j.toNat) (n - j.toNat)):=by
 have: ¬n=j.toNat:=by omega
 simp only[z4_,vp,Xq_ n n j k ⟨h.1,h.2.1,h.2.2.1⟩,this, ↓reduceIte,vsl,z3_]
theorem jU_ (L:za_) (b:Nat) (o:Obj):look ((b,o)::L) b=some o:=by simp[look]
theorem wm_ (L:za_) (b c:Nat) (o:Obj) (h:b≠c):look ((b,o)::L) c=look L c:=by simp[look,h]
theorem ku_ (L:za_) (b:Nat) (o x:Obj):setB ((b,o)::L) b x=(b,x)::L:=by simp[setB]
theorem wh_ (L:za_) (b c:Nat) (o x:Obj) (h:b≠c):setB ((b,o)::L) c x=(b,o)::setB L c x:=by simp[setB,h]
theorem kT_ (w0:World) (L:za_) (b:Nat) (o:Obj):zm_ w0 ((b,o)::L) b=some o:=by simp[zm_,look]
theorem Kt_ (w0:World) (L:za_) (b c:Nat) (o:Obj) (h:b≠c):zm_ w0 ((b,o)::L) c=zm_ w0 L c:=by simp[zm_,look,h]
theorem aaX_ (w0:World) (b:Nat):zm_ w0 [] b=w0.heap[b]? :=(rfl)
theorem abD_ (m:Option (Bool×Nat)) (w0:World) (L:za_) (b o:Nat):jD_ m w0 L (vp b o)=zy_ m (zm_ w0 L b) o:=(rfl)
theorem kj_ (cs:Array Value) (E:TypeId) (fz:Nat×Nat) (n:Nat) (h:cs.size=n):zy_ (some (true,n)) (some (.cells cs E fz)) 0=some (.agg cs):=by
 subst h
 simp[zy_]
theorem Zd_ (l:List UInt8): (a8 l).size=l.length:=by simp[a8]
theorem kl_ (l:List UInt32): (a32 l).size=l.length:=by simp[a32]
theorem acj_ (l:List UInt8) (E:TypeId) (fz:Nat×Nat) (n i:Nat) (h:i<l.length):zy_ (some (false,n)) (some (.cells (a8 l) E fz)) i=some (v8 (l.getD i 0)):=by
 simp[zy_,a8,v8,h]
theorem aaW_ (l:List UInt32) (E:TypeId) (fz:Nat×Nat) (n i:Nat) (h:i<l.length):zy_ (some (false,n)) (some (.cells (a32 l) E fz)) i=some (v32 (l.getD i 0)):=by
 simp[zy_,a32,v32,h]
theorem aap_ (l:List UInt8) (E:TypeId) (fz:Nat×Nat) (n:Nat) (h:l.length=n):zy_ (some (true,n)) (some (.cells (a8 l) E fz)) 0=some (.agg (a8 l)):=kj_ _ E fz n (by rw[Zd_,h])
theorem Kl_ (l:List UInt32) (E:TypeId) (fz:Nat×Nat) (n:Nat) (h:l.length=n):zy_ (some (true,n)) (some (.cells (a32 l) E fz)) 0=some (.agg (a32 l)):=kj_ _ E fz n (by rw[kl_,h])
theorem zZ_ (cs:Array Value): (Value.agg cs).cells=cs:=(rfl)
theorem aee_ (l:List UInt8): (a8 l).toList.all Value.oneCell'=true:=by simp[a8,Value.oneCell']
theorem acI_ (l:List UInt32): (a32 l).toList.all Value.oneCell'=true:=by simp[a32,Value.oneCell']
theorem VM_ (vs:List Value): ∀ (pre mid suf:List Value),mid.length=vs.length→Zp_ (pre++mid++suf).toArray pre.length vs=(pre++vs++suf).toArray:=by
 induction vs with
 |nil=>
  intro pre mid suf h
  cases mid with
  |nil=>rfl
  |cons _ _=>cases h
 |cons v r ih=>
  intro pre mid suf h
  cases mid with
  |nil=>cases h
  |cons m ms=>
   simp only[List.length_cons,Nat.add_right_cancel_iff] at h
   have:=ih (pre++ [v]) ms suf h
   simp only[Zp_]
   have e: ((pre++m::ms++suf).toArray.setIfInBounds pre.length v)=(pre++ [v]++ms++suf).toArray:=by
    simp
   rw[e]
   simpa using this
theorem aa0_ (cs:Array Value) (vs:List Value) (h:vs.length=cs.size):Zp_ cs 0 vs=vs.toArray:=by
 have:=VM_ vs [] cs.toList [] (by simpa using h.symm)
 simpa using this
theorem kI_ (n:Nat) (a:Bool) (cs old:Array Value) (E:TypeId) (h:cs.size=n∧old.size=n) (ho:cs.toList.all Value.oneCell'=true):
  zM_ (some (a,n)) (some (.cells old E (0,0))) 0 (.agg cs)=some (.cells cs E (0,0)):=by
 obtain⟨h1,h2⟩:=h
 have hp:Zp_ old 0 cs.toList=cs:=by
  rw[aa0_ _ _ (by rw[Array.length_toList,h1,h2])]
 have hz: (0:Nat)+n≤old.size:=by omega
 simp only[zM_,zZ_,h1,hz,Nat.le_refl,true_or,ho,and_self, ↓reduceIte,hp]
theorem K8_ (n:Nat) (a:Bool) (l:List UInt8) (old:Array Value) (E:TypeId) (h:l.length=n∧old.size=n):
  zM_ (some (a,n)) (some (.cells old E (0,0))) 0 (.agg (a8 l))=some (.cells (a8 l) E (0,0)):=kI_ n a _ _ E (by rw[Zd_];exact h) (aee_ l)
theorem Jq_ (n:Nat) (a:Bool) (l:List UInt32) (old:Array Value) (E:TypeId) (h:l.length=n∧old.size=n):
  zM_ (some (a,n)) (some (.cells old E (0,0))) 0 (.agg (a32 l))=some (.cells (a32 l) E (0,0)):=kI_ n a _ _ E (by rw[kl_];exact h) (acI_ l)
theorem Z8_ (a:Bool) (v:Value) (cs:Array Value) (E:TypeId) (i:Nat) (h:i<cs.size) (hv:v.cells= #[v]) (ho:v.oneCell'=true):
  zM_ (some (a,1)) (some (.cells cs E (0,0))) i v=some (.cells (cs.setIfInBounds i v) E (0,0)):=by
 have h1:i+1≤cs.size:=h
 simp only[zM_,hv,List.size_toArray,List.length_cons,List.length_nil,h1,Nat.le_refl,true_or,List.all_cons,ho,List.all_nil,Bool.and_self,and_self, ↓reduceIte,Zp_,Nat.zero_add]
theorem aeb_ (l:List UInt8) (i:Nat) (x:UInt8): (a8 l).setIfInBounds i (v8 x)=a8 (l.set i x):=by
 simp[a8,v8,List.map_set]
theorem acF_ (l:List UInt32) (i:Nat) (x:UInt32): (a32 l).setIfInBounds i (v32 x)=a32 (l.set i x):=by
 simp[a32,v32,List.map_set]
theorem aaG_ (a:Bool) (l:List UInt8) (E:TypeId) (i:Nat) (x:UInt8) (h:i<l.length):zM_ (some (a,1)) (some (.cells (a8 l) E (0,0))) i (v8 x)=some (.cells (a8 (l.set i x)) E (0,0)):=by
 rw[Z8_ a _ _ E i (by rw[Zd_];exact h) rfl rfl,aeb_]
theorem VV_ (a:Bool) (l:List UInt32) (E:TypeId) (i:Nat) (x:UInt32) (h:i<l.length):zM_ (some (a,1)) (some (.cells (a32 l) E (0,0))) i (v32 x)=some (.cells (a32 (l.set i x)) E (0,0)):=by
 rw[Z8_ a _ _ E i (by rw[kl_];exact h) rfl rfl,acF_]
def upd (L:za_) (b:Nat) (o:Option Obj):Option za_:=match o with|some o=>some (setB L b o) |none=>none
theorem abF_ (L:za_) (b:Nat) (o:Obj):upd L b (some o)=some (setB L b o):=(rfl)
theorem WL_ (m:Option (Bool×Nat)) (L:za_) (b o:Nat) (v:Value):jn_ m L (vp b o) v=upd L b (zM_ m (look L b) o v):=(rfl)
theorem aaJ_ (n:Nat) (l:List UInt8) (i:Int) (h:0≤i∧i<n) (hl:l.length=n):jJ_ (.arr n (false,1)) (.agg (a8 l)) (some i)=some (v8 (l.getD i.toNat 0)):=by
 have:i.toNat<l.length:=by omega
 simp[jJ_,h,xW_,a8,v8,this]
theorem W3_ (n:Nat) (l:List UInt32) (i:Int) (h:0≤i∧i<n) (hl:l.length=n):jJ_ (.arr n (false,1)) (.agg (a32 l)) (some i)=some (v32 (l.getD i.toNat 0)):=by
 have:i.toNat<l.length:=by omega
 simp[jJ_,h,xW_,a32,v32,this]
theorem Wy_ (vs:Array Value) (i:Nat):kg_ (.tuple vs) i=vs[i]? :=(rfl)
theorem adJ_ (a b:Value):jB_ (.bool true) a b=some a:=(rfl)
theorem adK_ (a b:Value):jB_ (.bool false) a b=some b:=(rfl)
theorem wT_ (g n:Nat): ((g:Int)+no_index (@OfNat.ofNat Int n _)).toNat=g+ @OfNat.ofNat Nat n _:=by
 show((g:Int)+ (n:Int)).toNat=g+n
 omega
theorem wG_ (g n:Nat): (no_index (@OfNat.ofNat Int n _)* (g:Int)).toNat= @OfNat.ofNat Nat n _*g:=by
 show((n:Int)* (g:Int)).toNat=n*g
 rw[←Int.natCast_mul,Int.toNat_natCast]
theorem xK_ (g n m:Nat): (no_index (@OfNat.ofNat Int n _)* (g:Int)+no_index (@OfNat.ofNat Int m _)).toNat= @OfNat.ofNat Nat n _*g+ @OfNat.ofNat Nat m _:=by
 show((n:Int)* (g:Int)+ (m:Int)).toNat=n*g+m
 rw[←Int.natCast_mul,←Int.natCast_add,Int.toNat_natCast]
theorem X3_ (g n:Nat): ((g:Int) - no_index (@OfNat.ofNat Int n _)).toNat=g - @OfNat.ofNat Nat n _:=by
 show((g:Int) - (n:Int)).toNat=g - n
 omega
theorem w2_ (g n:Nat): (no_index (@OfNat.ofNat Int n _) - (g:Int)).toNat= @OfNat.ofNat Nat n _ - g:=by
 show((n:Int) - (g:Int)).toNat=n - g
 omega
theorem Zj_ (g n:Nat): ((g:Int) / no_index (@OfNat.ofNat Int n _)).toNat=g / @OfNat.ofNat Nat n _:=by
 show((g:Int) / (n:Int)).toNat=g / n
 rw[←Int.natCast_ediv,Int.toNat_natCast]
theorem wH_ (g n:Nat): ((g:Int)%no_index (@OfNat.ofNat Int n _)).toNat=g% @OfNat.ofNat Nat n _:=by
 show((g:Int)% (n:Int)).toNat=g%n
 rw[←Int.natCast_emod,Int.toNat_natCast]
theorem vI_ (g n:Nat): ((g:Int)+ (n:Int)).toNat=g+n:=by omega
theorem wF_ (g n m:Nat): ((g:Int) / no_index (@OfNat.ofNat Int n _)+no_index (@OfNat.ofNat Int m _)).toNat=g / @OfNat.ofNat Nat n _+ @OfNat.ofNat Nat m _:=by
 show((g:Int) / (n:Int)+ (m:Int)).toNat=g / n+m
 rw[←Int.natCast_ediv,←Int.natCast_add,Int.toNat_natCast]
theorem w3_ (g n m:Nat): ((g:Int)%no_index (@OfNat.ofNat Int n _)+no_index (@OfNat.ofNat Int m _)).toNat=g% @OfNat.ofNat Nat n _+ @OfNat.ofNat Nat m _:=by
 show((g:Int)% (n:Int)+ (m:Int)).toNat=g%n+m
 rw[←Int.natCast_emod,←Int.natCast_add,Int.toNat_natCast]
theorem abz_ (a:Int) (c:UInt64) (h:c.toNat<63∧0≤a∧a*2^c.toNat≤9223372036854775807):ze_ .shl (vi a) (v64 c)=some (vi (a*2^c.toNat)):=acu_ a _ _ h
theorem abt_ (a:Int) (c:UInt64) (h:c.toNat<64∧0≤a):ze_ .shr (vi a) (v64 c)=some (vi (a / 2^c.toNat)):=ac6_ a _ _ h
theorem or_i (a b:Int) (h:0≤a∧0≤b∧a≤9223372036854775807∧b≤9223372036854775807):ze_ .or (vi a) (vi b)=some (vi ((a.toNat|||b.toNat:Nat):Int)):=by
 obtain⟨h1,h2,h3,h4⟩:=h
 obtain⟨n,rfl⟩:=Int.eq_ofNat_of_zero_le h1
 obtain⟨m,rfl⟩:=Int.eq_ofNat_of_zero_le h2
 have hn:n<2^63:=by omega
 have hm:m<2^63:=by omega
 have hlt:=Nat.or_lt_two_pow hn hm
 simp only[ze_,vi,z5_,ke_, ↓reduceIte,Option.map_some,Int.toNat_natCast]
 have e: (BitVec.ofInt (IntKind.bits .i64) (n:Int) |||BitVec.ofInt (IntKind.bits .i64) (m:Int)).toNat=n|||m:=by
  show(BitVec.ofInt 64 (n:Int) |||BitVec.ofInt 64 (m:Int)).toNat=_
  rw[BitVec.toNat_or,BitVec.ofInt_natCast,BitVec.ofInt_natCast,BitVec.toNat_ofNat,BitVec.toNat_ofNat,Nat.mod_eq_of_lt (by omega),Nat.mod_eq_of_lt (by omega)]
 rw[e,z9_ _ ⟨by omega,by omega⟩]
theorem afo_ (a b:Int) (h:0≤a∧0≤b∧a≤9223372036854775807∧b≤9223372036854775807):ze_ .and (vi a) (vi b)=some (vi ((a.toNat&&&b.toNat:Nat):Int)):=by
 obtain⟨h1,h2,h3,h4⟩:=h
 obtain⟨n,rfl⟩:=Int.eq_ofNat_of_zero_le h1
 obtain⟨m,rfl⟩:=Int.eq_ofNat_of_zero_le h2
 have hlt:n&&&m≤n:=Nat.and_le_left
 simp only[ze_,vi,z5_,ke_, ↓reduceIte,Option.map_some,Int.toNat_natCast]
 have e: (BitVec.ofInt (IntKind.bits .i64) (n:Int)&&&BitVec.ofInt (IntKind.bits .i64) (m:Int)).toNat=n&&&m:=by
  show(BitVec.ofInt 64 (n:Int)&&&BitVec.ofInt 64 (m:Int)).toNat=_
  rw[BitVec.toNat_and,BitVec.ofInt_natCast,BitVec.ofInt_natCast,BitVec.toNat_ofNat,BitVec.toNat_ofNat,Nat.mod_eq_of_lt (by omega),Nat.mod_eq_of_lt (by omega)]
 rw[e,z9_ _ ⟨by omega,by omega⟩]
theorem Kw_ (P:Program) (op:BinOp) (t:TypeId) (x:UInt8) (y:UInt8):qq_ P op t (v8 x) (v8 y)=ze_ op (v8 x) (v8 y):=(rfl)
theorem JH_ (P:Program) (op:BinOp) (t:TypeId) (x:UInt8) (y:UInt16):qq_ P op t (v8 x) (v16 y)=ze_ op (v8 x) (v16 y):=(rfl)
theorem Je_ (P:Program) (op:BinOp) (t:TypeId) (x:UInt8) (y:UInt32):qq_ P op t (v8 x) (v32 y)=ze_ op (v8 x) (v32 y):=(rfl)
theorem Xe_ (P:Program) (op:BinOp) (t:TypeId) (x:UInt8) (y:UInt64):qq_ P op t (v8 x) (v64 y)=ze_ op (v8 x) (v64 y):=(rfl)
theorem KW_ (P:Program) (op:BinOp) (t:TypeId) (x:UInt8) (y:Int):qq_ P op t (v8 x) (vi y)=ze_ op (v8 x) (vi y):=(rfl)
theorem QN_ (P:Program) (op:BinOp) (t:TypeId) (x:UInt16) (y:UInt8):qq_ P op t (v16 x) (v8 y)=ze_ op (v16 x) (v8 y):=(rfl)
theorem Qh_ (P:Program) (op:BinOp) (t:TypeId) (x:UInt16) (y:UInt16):qq_ P op t (v16 x) (v16 y)=ze_ op (v16 x) (v16 y):=(rfl)
theorem Ql_ (P:Program) (op:BinOp) (t:TypeId) (x:UInt16) (y:UInt32):qq_ P op t (v16 x) (v32 y)=ze_ op (v16 x) (v32 y):=(rfl)
theorem Z9_ (P:Program) (op:BinOp) (t:TypeId) (x:UInt16) (y:UInt64):qq_ P op t (v16 x) (v64 y)=ze_ op (v16 x) (v64 y):=(rfl)
theorem Xi_ (P:Program) (op:BinOp) (t:TypeId) (x:UInt16) (y:Int):qq_ P op t (v16 x) (vi y)=ze_ op (v16 x) (vi y):=(rfl)
theorem JL_ (P:Program) (op:BinOp) (t:TypeId) (x:UInt32) (y:UInt8):qq_ P op t (v32 x) (v8 y)=ze_ op (v32 x) (v8 y):=(rfl)
theorem ZQ_ (P:Program) (op:BinOp) (t:TypeId) (x:UInt32) (y:UInt16):qq_ P op t (v32 x) (v16 y)=ze_ op (v32 x) (v16 y):=(rfl)
theorem Z4_ (P:Program) (op:BinOp) (t:TypeId) (x:UInt32) (y:UInt32):qq_ P op t (v32 x) (v32 y)=ze_ op (v32 x) (v32 y):=(rfl)
theorem ZM_ (P:Program) (op:BinOp) (t:TypeId) (x:UInt32) (y:UInt64):qq_ P op t (v32 x) (v64 y)=ze_ op (v32 x) (v64 y):=(rfl)
theorem J8_ (P:Program) (op:BinOp) (t:TypeId) (x:UInt32) (y:Int):qq_ P op t (v32 x) (vi y)=ze_ op (v32 x) (vi y):=(rfl)
theorem QJ_ (P:Program) (op:BinOp) (t:TypeId) (x:UInt64) (y:UInt8):qq_ P op t (v64 x) (v8 y)=ze_ op (v64 x) (v8 y):=(rfl)
theorem Z3_ (P:Program) (op:BinOp) (t:TypeId) (x:UInt64) (y:UInt16):qq_ P op t (v64 x) (v16 y)=ze_ op (v64 x) (v16 y):=(rfl)
theorem ZY_ (P:Program) (op:BinOp) (t:TypeId) (x:UInt64) (y:UInt32):qq_ P op t (v64 x) (v32 y)=ze_ op (v64 x) (v32 y):=(rfl)
theorem ZV_ (P:Program) (op:BinOp) (t:TypeId) (x:UInt64) (y:UInt64):qq_ P op t (v64 x) (v64 y)=ze_ op (v64 x) (v64 y):=(rfl)
theorem JR_ (P:Program) (op:BinOp) (t:TypeId) (x:UInt64) (y:Int):qq_ P op t (v64 x) (vi y)=ze_ op (v64 x) (vi y):=(rfl)
theorem Kx_ (P:Program) (op:BinOp) (t:TypeId) (x:Int) (y:UInt8):qq_ P op t (vi x) (v8 y)=ze_ op (vi x) (v8 y):=(rfl)
theorem Q6_ (P:Program) (op:BinOp) (t:TypeId) (x:Int) (y:UInt16):qq_ P op t (vi x) (v16 y)=ze_ op (vi x) (v16 y):=(rfl)
theorem Jo_ (P:Program) (op:BinOp) (t:TypeId) (x:Int) (y:UInt32):qq_ P op t (vi x) (v32 y)=ze_ op (vi x) (v32 y):=(rfl)
theorem JG_ (P:Program) (op:BinOp) (t:TypeId) (x:Int) (y:UInt64):qq_ P op t (vi x) (v64 y)=ze_ op (vi x) (v64 y):=(rfl)
theorem Ko_ (P:Program) (op:BinOp) (t:TypeId) (x:Int) (y:Int):qq_ P op t (vi x) (vi y)=ze_ op (vi x) (vi y):=(rfl)
theorem adW_ (x:UInt8):ixI (v8 x)=some (x.toNat:Int):=(rfl)
theorem ad8_ (x:UInt8):Value.oneCell' (v8 x)=true:=(rfl)
theorem abj_ (x:UInt8): (v8 x).cells= #[v8 x]:=(rfl)
theorem adc_ (x:UInt16):ixI (v16 x)=some (x.toNat:Int):=(rfl)
theorem adh_ (x:UInt16):Value.oneCell' (v16 x)=true:=(rfl)
theorem aao_ (x:UInt16): (v16 x).cells= #[v16 x]:=(rfl)
theorem ade_ (x:UInt32):ixI (v32 x)=some (x.toNat:Int):=(rfl)
theorem adp_ (x:UInt32):Value.oneCell' (v32 x)=true:=(rfl)
theorem W8_ (x:UInt32): (v32 x).cells= #[v32 x]:=(rfl)
theorem acC_ (x:UInt64):ixI (v64 x)=some (x.toNat:Int):=(rfl)
theorem adr_ (x:UInt64):Value.oneCell' (v64 x)=true:=(rfl)
theorem WS_ (x:UInt64): (v64 x).cells= #[v64 x]:=(rfl)
theorem adR_ (x:Int):ixI (vi x)=some x:=(rfl)
theorem aeh_ (x:Int):Value.oneCell' (vi x)=true:=(rfl)
theorem aaR_ (x:Int): (vi x).cells= #[vi x]:=(rfl)
end Go.Sx
end
namespace Go.Sx
open Go
section
variable {P:Program} {w0:World} {f:Fr} {L:za_} {N:Fr→za_→Prop} {ops:Array Oper} {rest:List Oper} {md:Md}
 {d:Option Tmp} {ty:TypeId} {ps:String} {af:Array Edge} {g:Option (Nat×Bool)}
theorem Ow.callM {l:List Operand} {ts:Array TypeId} {k:FuncId} {b:Nat} {v:Value} {o:Obj} {md':Md} (he:md.turn=some md')
  (hs:zg_ ops f ⟨d, .call ⟨.value (.func k),l.toArray,ts⟩,ty,ps,af,g⟩=false)
  (hk: ∀a w,(callFunc k a).run P w= .ok (.enter k a) w) (hb:b∈keys L)
  (hc: ∀w,Hp w0 L w→Rets P k (l.map (ev f)).toArray w (fun v' D=> ∃o',D= [(b,o')]∧v'=v∧o'=o))
  (hn:Ow P w0 ops md' rest (zR_ f d v) (setB L b o) N):
  Ow P w0 ops md (⟨d, .call ⟨.value (.func k),l.toArray,ts⟩,ty,ps,af,g⟩::rest) f L N:=
 Ow.callF (S:=fun _ v' D=> ∃o',D= [(b,o')]∧v'=v∧o'=o) he hs hk hc (by
  rintro _ _ _ - - ⟨_,rfl,rfl,rfl⟩
  exact⟨_,Mrg.set hb,hn⟩)
end
def XB_ (P:Program) (t:TypeId) (len:Nat) (parts:List (Nat×Value)):Option (TypeId×Array Value):=
 match P.underlying t with
 |some (.slice e)=>match qk_ P e with
  |some m=>if len*m.2>2^24 then none else
   match(if len*m.2=0 then some #[] else(qg_ P e).map Value.cells) with
   |some zero=>(Instr.fill (fun i=>some (i*m.2,m.2)) ((Array.range (len*m.2)).map (zero[· %zero.size]!)) parts).map fun c=>(e,c)
   |none=>none
  |none=>none
 |_=>none
theorem vw_ {P:Program} {t e:TypeId} {len:Nat} {parts:Array (Nat×Value)} {cells:Array Value} (h:XB_ P t len parts.toList=some (e,cells)) (w:World):
  (Instr.buildSlice t len parts).run P w= .ok (vsl w.heap.size 0 len len) (w.alloc (.cells cells e)):=by
 unfold XB_ at h
 split at h
 ·rename_i el hu
  split at h
  ·rename_i m hm
   split at h
   ·cases h
   ·rename_i hbig
    split at h
    ·rename_i zero hz
     cases hf:Instr.fill (fun i=>some (i*m.2,m.2)) ((Array.range (len*m.2)).map (zero[· %zero.size]!)) parts.toList with
     |none=>rw[hf] at h;cases h
     |some c=>
      rw[hf] at h
      cases h
      simp only[Instr.buildSlice,Sem.run_bind,run_underlying hu w,Result.andThen_ok,zl_ hm w,hbig,if_false]
      split at hz
      ·rename_i h0
       cases hz
       have e1: ∀ (k:Array Value→World→Result Value),(Sem.run P (pure (#[]:Array Value)) w).andThen k=k #[] w:=fun _=>rfl
       simp only[h0,if_true] at hf ⊢
       rw[Sem.run_bind,e1]
       simp only[hf,Sem.run_bind]
       rfl
      ·rename_i h0
       cases hzv:qg_ P e with
       |none=>rw[hzv] at hz;cases hz
       |some z=>
        rw[hzv] at hz
        cases hz
        simp only[h0,if_false,Sem.run_bind,qv_ hzv w,Result.andThen_ok,Sem.run_pure,hf]
        rfl
    ·cases h
  ·cases h
 ·cases h
section
variable {P:Program} {w0:World} {f:Fr} {L:za_} {N:Fr→za_→Prop} {ops:Array Oper} {rest:List Oper} {md:Md}
 {d:Option Tmp} {ty:TypeId} {ps:String} {af:Array Edge} {g:Option (Nat×Bool)}
theorem Ow.buildSlice {t e:TypeId} {len:Nat} {parts:Array (Nat×Operand)} (cells:Array Value) {md':Md} (he:md.turn=some md') (hs:zg_ ops f ⟨d, .buildSlice t len parts,ty,ps,af,g⟩=false)
  (hv:XB_ P t len (parts.toList.map fun p=>(p.1,ev f p.2))=some (e,cells))
  (hn: ∀b,qo_ L b→w0.heap.size≤b→Ow P w0 ops md' rest (zR_ f d (vsl b 0 len len)) (L++ [(b, .cells cells e)]) N):
  Ow P w0 ops md (⟨d, .buildSlice t len parts,ty,ps,af,g⟩::rest) f L N:=by
 refine Ow.step he rfl hs fun w hw=> .inl ⟨vsl w.heap.size 0 len len,w.alloc (.cells cells e),_, ?_,hw.alloc _,hn _ (zv_ fun b hb=>hw.lt hb) hw.size⟩
 have h':XB_ P t len (parts.map fun(i,x)=>(i,ev f x)).toList=some (e,cells):=by
  rw[Array.toList_map];exact hv
 simp only[execOp,Sem.run_bind,vw_ h' w,Result.andThen_ok]
 rfl
end
theorem JI_ {f:Nat→Option Bool} {g:Nat→Bool} (is:List Nat) (h: ∀i,i∈is→f i=some (g i)):xt_ f is=some (is.all g):=by
 induction is with
 |nil=>rfl
 |cons i r ih=>
  unfold xt_
  rw[h i List.mem_cons_self,List.all_cons]
  cases g i
  ·rfl
  ·simpa using ih fun j hj=>h j (List.mem_cons_of_mem _ hj)
theorem Q0_ (l l':List UInt8) (n:Nat) (h:l.length=n) (h':l'.length=n): ((List.range n).all fun i=>l.getD i 0==l'.getD i 0)=(l==l'):=by
 rw[Bool.eq_iff_iff,List.all_eq_true,beq_iff_eq]
 constructor
 ·intro ha
  apply List.ext_getElem (by omega)
  intro i h1 h2
  have:=ha i (List.mem_range.2 (by omega))
  rw[beq_iff_eq,List.getD_eq_getElem?_getD,List.getD_eq_getElem?_getD,List.getElem?_eq_getElem h1,List.getElem?_eq_getElem h2] at this
  exact this
 ·rintro rfl i _
  simp
theorem adU_ {P:Program} {t e:TypeId} {n d:Nat} (hu:P.underlying t=some (.array n e)) (he:P.underlying e=some (.int .u8)) (hm:qk_ P e=some (false,1)) (l l':List UInt8) (hl:l.length=n) (hl':l'.length=n):
  eqD P (d+2) t (.agg (a8 l)) (.agg (a8 l'))=some (l==l'):=by
 rw[←Q0_ l l' n hl hl']
 unfold eqD
 rw[hu]
 simp only[hm]
 apply JI_
 intro i hi
 have hi:=List.mem_range.1 hi
 have p: ∀ (x:List UInt8),x.length=n→xW_ (false,1) (a8 x) (i*1)=some (v8 (x.getD i 0)):=by
  intro x hx
  simp[xW_,a8,v8,hx,hi]
 simp only[xc_,p l hl,p l' hl']
 unfold eqD
 rw[he]
 simp only[v8, ↓reduceIte,Option.some.injEq]
 rw[Bool.eq_iff_iff,beq_iff_eq,beq_iff_eq,←UInt8.toNat_inj]
 omega
theorem tup2_0 (a b:Value): (#[a,b]:Array Value)[0]? =some a:=(rfl)
theorem tup2_1 (a b:Value): (#[a,b]:Array Value)[1]? =some b:=(rfl)
theorem tup3_0 (a b c:Value): (#[a,b,c]:Array Value)[0]? =some a:=(rfl)
theorem tup3_1 (a b c:Value): (#[a,b,c]:Array Value)[1]? =some b:=(rfl)
theorem tup3_2 (a b c:Value): (#[a,b,c]:Array Value)[2]? =some c:=(rfl)
structure StrS (w:World) (v:Value) (l:List (List UInt8)) (b off:Nat) (arr:Array Value) (E:TypeId) (fz:Nat×Nat):Prop where
 len: ∀m,wu_ (.sl m) v=some (vi l.length)
 idx: ∀m (k:Nat),k<l.length→zK_ (.sl m) v (some (k:Int))=some (vp b (off+k*m.2))
 has:0<l.length→w.heap[b]? =some (.cells arr E fz)
 get: ∀k,k<l.length→arr[off+k]? =some (vs (l.getD k []))
theorem StrS.sl {w:World} {l:List (List UInt8)} {b off n c:Nat} {arr:Array Value} {E:TypeId} {fz:Nat×Nat} (hn:n=l.length)
  (has:w.heap[b]? =some (.cells arr E fz)) (get: ∀k,k<l.length→arr[off+k]? =some (vs (l.getD k []))):StrS w (vsl b off n c) l b off arr E fz:=by
 subst hn
 exact⟨fun _=>rfl,fun m k h=>by rw[qw_ _ _ _ _ _ _ (by omega)];simp,fun _=>has,get⟩
theorem StrS.none (w:World) (n c:Nat) (hn:n=0):StrS w (.slice none n c) [] 0 0 #[] 0 (0,0):=by
 subst hn
 exact⟨fun _=>rfl,fun _ _ h=>absurd h (Nat.not_lt_zero _),fun h=>absurd h (Nat.not_lt_zero _),fun _ h=>absurd h (Nat.not_lt_zero _)⟩
theorem StrS.old {w w':World} {v:Value} {l:List (List UInt8)} {b off:Nat} {arr:Array Value} {E:TypeId} {fz:Nat×Nat} {L:za_} (h:StrS w v l b off arr E fz) (hw:Hp w L w') (hb:0<l.length→b∉keys L):StrS w' v l b off arr E fz:=by
 refine⟨h.len,h.idx,fun h0=> ?_,h.get⟩
 rw[hw.old b (Array.getElem?_eq_some_iff.1 (h.has h0)).1 (hb h0)]
 exact h.has h0
theorem Qf_ (cs:Array Value) (E:TypeId) (fz:Nat×Nat) (n i:Nat):zy_ (some (false,n)) (some (.cells cs E fz)) i=cs[i]? :=(rfl)
end Go.Sx
namespace Go.Sx
open Go
def OwK (P:Program) (w0:World) (ops:Array Oper) (n:Nat) (listed:List Bool) (f:Fr) (L:za_) (N:Fr→za_→Prop):Prop:=
 ∀w,Hp w0 L w→wpAny P .any ops (qa_ w0 N) n listed.toArray (act f) w
section
variable {P:Program} {w0:World} {f:Fr} {L:za_} {N:Fr→za_→Prop} {K:q4_} {l:List Oper} {n:Nat} {listed:List Bool}
theorem OwK.done {ops:Array Oper} (hr:Region.ready .any ops listed.toArray= []) (h:N f L):OwK P w0 ops n listed f L N:=
 fun w hw=>wpAny_done hr ⟨rfl,rfl,L,hw,by simpa [act] using h⟩ n
theorem jM_ {o:Oper} {a:Act} {next next':Act→World→Prop} {Q Q':Exit→Act→World→Prop} (hn: ∀a w,next a w→next' a w) (hQ: ∀e a w,e≠ .normal→Q e a w→False) {r:Result Next}
  (h:o.upon P a next Q r):o.upon P a next' Q' r:=by
 cases r with
 |ok x w'=>
  cases x<;>simp only[Oper.upon] at h ⊢ <;>
   first
    |exact hn _ _ h
    |exact Calls.mono h (fun e w'' he=>by
      cases e<;>first|exact hn _ _ he|exact(hQ _ _ _ (by simp) he).elim| (obtain⟨a,w,h⟩:=he;exact(hQ _ _ _ (by simp) h).elim))
    |exact Rows.mono h (fun _ _ he=>hn _ _ he)
    |exact h.elim
 |halt x w'=>
  cases x<;>simp only[Oper.upon] at h ⊢ <;>first|exact(hQ _ _ _ (by simp) h).elim|exact h.elim
theorem kh_ {N:Fr→za_→Prop} {e:Exit} {a:Act} {w:World} (he:e≠ .normal) (h:qa_ w0 N e a w):False:=he h.1
theorem xe_ {ops:Array Oper} {k:Nat} {o:Oper} (hk:ops[k]? =some o) {X:Act→World→Prop}
  (h:Ow P w0 ops .seq [o] f L (fun f' L'=> ∀w,Hp w0 L' w→X (act f') w)) {w:World} (hw:Hp w0 L w):wpOp P ops (qa_ w0 N) k X (act f) w:=by
 have h1:=h w hw
 unfold wpList at h1
 unfold wpOp
 simp only[hk]
 have hX: ∀a w,wpList P ops (qa_ w0 fun f' L'=> ∀w,Hp w0 L' w→X (act f') w) [] a w→X a w:=by
  intro a w' hx
  obtain⟨-,hd,L',hp,hh⟩:=(show qa_ w0 _ _ a w' from hx)
  have:=hh w' hp
  obtain⟨t,d⟩:=a
  simp only at hd
  subst hd
  simpa [act] using this
 cases hwn:Region.wanted o (yielded ops (act f).tmps) with
 |true=>
  rw[hwn] at h1
  simp only[↓reduceIte] at h1 ⊢
  rcases h1 with h1| ⟨-,a,w',h1⟩
  ·exact .inl (jM_ hX (fun e a w he h=>kh_ he h) h1)
  ·exact(kh_ (by simp) h1).elim
 |false=>
  rw[hwn] at h1
  simp only[Bool.false_eq_true, ↓reduceIte] at h1 ⊢
  exact hX _ _ h1
theorem qX_ {ops:Array Oper} {o:Oper} {N N':Fr→za_→Prop} (hN: ∀f L,N f L→N' f L) {w:World} {a:Act} (h:wpList P ops (qa_ w0 N) [o] a w):wpList P ops (qa_ w0 N') [o] a w:=by
 have hm: ∀a w,qa_ w0 N .normal a w→qa_ w0 N' .normal a w:=fun a w ⟨h1,h2,L',h3,h4⟩=>⟨h1,h2,L',h3,hN _ _ h4⟩
 unfold wpList at h ⊢
 cases hwn:Region.wanted o (yielded ops a.tmps) with
 |true=>
  rw[hwn] at h
  simp only[↓reduceIte] at h ⊢
  rcases h with h| ⟨-,a,w',h1⟩
  ·exact .inl (jM_ (fun a w h=>hm a w h) (fun e a w he h=>kh_ he h) h)
  ·exact(kh_ (by simp) h1).elim
 |false=>
  rw[hwn] at h
  simp only[Bool.false_eq_true, ↓reduceIte] at h ⊢
  exact hm _ _ h
theorem zz_ (l:List Bool) (i:Nat):l.toArray.setIfInBounds i true=(l.set i true).toArray:=by simp
theorem OwK.one (k:Nat) (o:Oper) (hr:Region.ready .any l.toArray listed.toArray= [k]) (hk:jt_ l k=some o)
  (h:Ow P w0 l.toArray .seq [o] f L (fun f' L'=>OwK P w0 l.toArray n (listed.set k true) f' L' N)):OwK P w0 l.toArray (n+1) listed f L N:=by
 intro w hw
 refine wpAny_all hr (by simp) ?_
 intro i hi
 simp only[List.mem_singleton] at hi
 subst hi
 rw[zz_]
 exact xe_ (by rw[qy_] at hk;simpa using hk) h hw
theorem OwK.two (i j:Nat) (oi oj:Oper) (hr:Region.ready .any l.toArray listed.toArray= [i,j]) (hi:jt_ l i=some oi) (hj:jt_ l j=some oj)
  (h1:Ow P w0 l.toArray .seq [oi] f L (fun f' L'=>OwK P w0 l.toArray n (listed.set i true) f' L' N))
  (h2:Ow P w0 l.toArray .seq [oj] f L (fun f' L'=>OwK P w0 l.toArray n (listed.set j true) f' L' N)):OwK P w0 l.toArray (n+1) listed f L N:=by
 intro w hw
 refine wpAny_all hr (by simp) ?_
 intro k hk
 rw[zz_]
 simp only[List.mem_cons,List.not_mem_nil,or_false] at hk
 rcases hk with rfl|rfl
 ·exact xe_ (by rw[qy_] at hi;simpa using hi) h1 hw
 ·exact xe_ (by rw[qy_] at hj;simpa using hj) h2 hw
def chkK (P:Program) (l:List Oper):List Nat→List Bool→Option (List Bool)
 | [],listed=>some listed
 |k::is,listed=>
  match jt_ l k with
  |some o=>if(Region.ready .any l.toArray listed.toArray).contains k&&Region.free .any l.toArray listed.toArray k&&qE_ P o.op then chkK P l is (listed.set k true) else none
  |none=>none
theorem OwK.runs {k:Md→List Oper→Fr→za_→Prop} (hns:Region.noSelect l.toArray=true): ∀ (is:List Nat) {listed listed':List Bool} {f:Fr} {L:za_},chkK P l is listed=some listed'→
  (∀md r f' L',k md r f' L'→r= []∧OwK P w0 l.toArray n listed' f' L' N)→vcL P w0 l.toArray false .seq (jo_ l is) f L k→OwK P w0 l.toArray (is.length+n) listed f L N
 | [],listed,listed',f,L,hc,hk,h=>by
  cases hc
  rw[List.length_nil,Nat.zero_add]
  exact(hk _ _ _ _ h).2
 |i::is,listed,listed',f,L,hc,hk,h=>by
  unfold chkK at hc
  rw[jY_] at h
  cases ho:jt_ l i with
  |none=>rw[ho] at hc;cases hc
  |some o=>
   rw[ho] at hc h
   simp only at hc
   split at hc
   ·rename_i hcc
    simp only[Bool.and_eq_true] at hcc
    obtain⟨⟨hc1,hc2⟩,hc3⟩:=hcc
    rw[j0_] at h
    have hoi:l.toArray[i]? =some o:=by rw[qy_] at ho;simpa using ho
    unfold vcL at h
    rw[List.length_cons,show is.length+1+n=(is.length+n)+1 by omega]
    cases hs:zg_ l.toArray f o with
    |true=>
     rw[hs] at h
     have hw0:Region.wanted o (yielded l.toArray (act f).tmps)=false:=by rw[zu_,hs];rfl
     intro w hw
     refine wpAny_take (v:=undef) hoi hns hc2 hc1 (fun c a w h=>zo_ h) (.inr ⟨hw0,rfl⟩) ?_
     rw[zr_,zz_]
     exact OwK.runs hns is hc hk h w hw
    |false=>
     rw[hs] at h
     have hw0:Region.wanted o (yielded l.toArray (act f).tmps)=true:=by rw[zu_,hs];rfl
     simp only[ib,vcB] at h
     split at h
     ·have hrd:w5_ .seq f o.op=true:=by
       cases o.op<;>rfl
      rw[hrd] at h
      simp only at h
      cases hv:jz_ P w0 L f o.op with
      |none=>rw[hv] at h;exact absurd (hk _ _ _ _ h).1 (by simp)
      |some v=>
       rw[hv] at h
       intro w hw
       refine wpAny_take (v:=v) hoi hns hc2 hc1 (fun c a w h=>zo_ h) (.inl ⟨hw0,fun w=> ?_⟩) ?_
       ·rw[z7_];exact zS_ (Hp.refl w) (qI_ hc3 hv w)
       ·rw[zr_,zz_]
        exact OwK.runs hns is hc hk h w hw
     ·exact absurd (hk _ _ _ _ h).1 (by simp)
     ·exact absurd (hk _ _ _ _ h).1 (by simp)
   ·cases hc
theorem OwK.run (is:List Nat) (listed':List Bool) (n:Nat) {m:Nat} (hm:m=is.length+n) (hns:Region.noSelect l.toArray=true) (hc:chkK P l is listed=some listed')
  (h: ∀k:Md→List Oper→Fr→za_→Prop,(∀md f L,OwK P w0 l.toArray n listed' f L N→k md [] f L)→nl (jo_ l is) fun l'=>vcL P w0 l.toArray false .seq l' f L k):OwK P w0 l.toArray m listed f L N:=by
 subst hm
 refine OwK.runs (k:=fun _ r f' L'=>r= []∧OwK P w0 l.toArray n listed' f' L' N) hns is hc (fun _ _ _ _ h=>h) ?_
 exact h _ fun _ _ _ h=>⟨rfl,h⟩
theorem Ow.soft {ops:Array Oper} {R is ts:List Nat} {k:Nat} {o:Oper} {rest:List Oper} (hp:qE_ P o.op=false) (hr0:k3_ o.op=false) (hkt:ts.contains k=false)
  (h:Ow P w0 ops .seq [o] f L (fun f' L'=>(∀b,b∈R→zm_ w0 L' b=zm_ w0 L b)∧Ow P w0 ops (.sof R is ts) rest f' L' N)):Ow P w0 ops (.sof R (k::is) ts) (o::rest) f L N:=by
 intro listed hF ht w hw
 obtain⟨k',is',hki,hk,hF',hpt,hc⟩:=hF.cons
 cases hki
 have hit:k∉ts:=by simpa using hkt
 have hr:Region.ready .any ops listed= [k]:=by
  rcases hc with hc| ⟨_,_,_,hc| ⟨hc,_⟩⟩
  ·exact hc
  ·rw[hp] at hc;cases hc
  ·rw[hr0] at hc;cases hc
 refine⟨fun _=>SR.of hw,(fun h=>by rw[hr] at h;cases h), ?_⟩
 intro i hi
 rw[hr,List.mem_singleton] at hi
 subst hi
 refine xe_ hk (X:=qR_ P ops (qa_ w0 N) ts (SR w0 R L) rest.length (listed.setIfInBounds i true)) ?_ hw
 intro w' hw'
 have h1:=h w' hw'
 refine qX_ ?_ h1
 rintro f' L' ⟨hS,hO⟩ w'' hw''
 have e:SR w0 R L=SR w0 R L':=by
  funext v
  unfold SR
  apply propext
  constructor
  ·intro hh b hb o ho;exact hh b hb o (by rw[←hS b hb];exact ho)
  ·intro hh b hb o ho;exact hh b hb o (by rw[hS b hb];exact ho)
 rw[e]
 exact hO _ hF' (qh_ hit ht) w'' hw''
theorem Ow.softA {ops:Array Oper} {R is ts:List Nat} {k:Nat} {o:Oper} {rest:List Oper}
  (h:Ow P w0 ops .seq [o] f L (fun f' L'=>(∀b,b∈R→zm_ w0 L' b=zm_ w0 L b)∧Ow P w0 ops (.sof R is ts) rest f' L' N)) (hp:qE_ P o.op=false:=by exact rfl) (hr0:k3_ o.op=false:=by exact rfl) (hkt:ts.contains k=false:=by exact rfl):Ow P w0 ops (.sof R (k::is) ts) (o::rest) f L N:=Ow.soft hp hr0 hkt h
theorem Ow.nilD {ops:Array Oper} {md:Md} {R:List Nat} {M:Fr→za_→Prop} (h:M f L):Ow P w0 ops md [] f L (fun f' L'=>(∀b,b∈R→zm_ w0 L' b=zm_ w0 L b)∧M f' L'):=Ow.nil ⟨fun _ _=>rfl,h⟩
theorem Cw.regionS {id:Nat} (R is ts:List Nat) (hm:P.follows .mixedOrders=true) (hB:Wx_ P l is ts=true) (hl:is.map (fun i:Nat=>l[i]?)=(jo_ l is).map some)
  (h:nl (jo_ l is) fun l'=>Ow P w0 l.toArray (.sof R is ts) l' f L (K .normal)):Cw P w0 (.region id l.toArray true) f L K:=by
 revert hl h
 generalize jo_ l is=l'
 intro hl h w hw
 simp only[Wx_,Bool.and_eq_true,beq_iff_eq,List.all_eq_true,decide_eq_true_eq] at hB
 obtain⟨⟨⟨h1,h2⟩,h3⟩,h4⟩:=hB
 have hlen:is.length=l'.length:=by have:=congrArg List.length hl;simpa using this
 refine wp_mono (wp_region_any hm ?_) fun _ _ _ h=>j5_ h
 have hF:Fits P l.toArray ts is l' (Array.replicate l.length false):=⟨hlen,fun j=>by
  have:=congrArg (·[j]?) hl
  simp only[List.getElem?_map] at this
  cases hj:is[j]? with
  |none=>
   rw[hj] at this
   simp only[Option.map_none] at this
   cases hj':l'[j]? with
   |none=>rfl
   |some x=>rw[hj'] at this;cases this
  |some i=>
   rw[hj] at this
   simp only[Option.map_some] at this
   cases hj':l'[j]? with
   |none=>rw[hj'] at this;cases this
   |some x=>
    rw[hj'] at this
    simp only[Option.map_some,Option.some.injEq] at this
    simp[this],h1,h4⟩
 have:=(h:Ow P w0 l.toArray (.sof R is ts) l' f L (K .normal)) (Array.replicate l.length false) hF (fun t ht=>by have:=h3 t ht;simp[this]) _ hw.drew
 rw[←hlen,h2] at this
 have:=xQ_ _ _ _ _ this
 simpa using this
def acb_ (P:Program) (l:List Oper) (is ts:List Nat) (listed:List Bool):Bool:=
 Region.noSelect l.toArray&&kS_ P l.toArray ts is listed.toArray&&ts.any fun t=>listed.toArray.getD t true
theorem OwK.rest (is ts:List Nat) {m:Nat} (hm:m=is.length) (hB:acb_ P l is ts listed=true) (hl:is.map (fun i:Nat=>l[i]?)=(jo_ l is).map some)
  (h:nl (jo_ l is) fun l'=>Ow P w0 l.toArray (.any is ts) l' f L N):OwK P w0 l.toArray m listed f L N:=by
 subst hm
 revert hl h
 generalize jo_ l is=l'
 intro hl h w hw
 simp only[acb_,Bool.and_eq_true] at hB
 obtain⟨⟨h1,h4⟩,h5⟩:=hB
 have hlen:is.length=l'.length:=by have:=congrArg List.length hl;simpa using this
 have hF:Fits P l.toArray ts is l' listed.toArray:=⟨hlen,fun j=>by
  have:=congrArg (·[j]?) hl
  simp only[List.getElem?_map] at this
  cases hj:is[j]? with
  |none=>
   rw[hj] at this
   simp only[Option.map_none] at this
   cases hj':l'[j]? with
   |none=>rfl
   |some x=>rw[hj'] at this;cases this
  |some i=>
   rw[hj] at this
   simp only[Option.map_some] at this
   cases hj':l'[j]? with
   |none=>rw[hj'] at this;cases this
   |some x=>
    rw[hj'] at this
    simp only[Option.map_some,Option.some.injEq] at this
    simp[this],h1,h4⟩
 obtain⟨t,ht,ht2⟩:=List.any_eq_true.1 h5
 rw[hlen]
 exact(h:Ow P w0 l.toArray (.any is ts) l' f L N) listed.toArray hF ⟨t,ht,ht2⟩ w hw
end
theorem StrS.lit {w:World} {b n c:Nat} {E:TypeId} {fz:Nat×Nat} {arr:Array Value} (l:List (List UInt8)) (hn:n=l.length) (ha:arr=(l.map vs).toArray) (has:w.heap[b]? =some (.cells arr E fz)):StrS w (vsl b 0 n c) l b 0 arr E fz:=
 StrS.sl hn has (by intro k hk;rw[ha,Nat.zero_add,List.getElem?_toArray,List.getElem?_map,List.getD_eq_getElem?_getD,List.getElem?_eq_getElem hk];rfl)
end Go.Sx
namespace Go.Sx
open Go
def we_ (A:Nat→Fr→za_→Prop) (K:q4_):q4_
 | .normal=>K .normal
 | .exit i=>K (.exit i)
 | .goto i=>A i
 | .ret=>K .ret
 | .panic c=>K (.panic c)
 | .outgrown=>K .outgrown
def Jump {G:Type} (lab:G→Nat) (M:List Nat) (S:G→List (Nat×Value)) (H:G→za_) (J B:G→Prop) (f:Fr) (i:Nat) (f':Fr) (L':za_):Prop:=
 ∃g',lab g'=i∧B g'∧J g'∧L'=H g'∧f'=pin (qj_ (xG_ f') M 0 f) (S g')
theorem Jump.mk {G:Type} {lab:G→Nat} {M:List Nat} {S:G→List (Nat×Value)} {H:G→za_} {J B:G→Prop} {f:Fr} {i:Nat} {f':Fr} {L':za_} (g':G) (hl:lab g'=i)
  (hB:B g') (hJ:J g') (hL:L'=H g') (hf:f'=pin (qj_ (xG_ f') M 0 f) (S g')):Jump lab M S H J B f i f' L':=⟨g',hl,hB,hJ,hL,hf⟩
section
variable {P:Program} {w0:World} {f:Fr} {L:za_} {K:q4_} {A:Nat→Fr→za_→Prop}
end
end Go.Sx
section
namespace Go.Sx
open Go
set_option linter.unusedSimpArgs false
theorem zn_ {L M:za_} {b:Nat} {o:Obj} (h:look L b=some o):look (L++M) b=some o:=by
 induction L with
 |nil=>cases h
 |cons p r ih=>
  obtain⟨c,x⟩:=p
  simp only[List.cons_append,look] at h ⊢
  split
  ·rename_i e;rw[if_pos e] at h;exact h
  ·rename_i e;rw[if_neg e] at h;exact ih h
theorem qn_ {L M:za_} {b:Nat} (h:b∉keys L):look (L++M) b=look M b:=by
 induction L with
 |nil=>rfl
 |cons p r ih=>
  obtain⟨c,x⟩:=p
  simp only[keys,List.map_cons,List.mem_cons,not_or] at h
  simp only[List.cons_append,look]
  rw[if_neg (fun e=>h.1 e.symm)]
  exact ih h.2
theorem zF_ {L:za_} {b:Nat} {x o:Obj} (h:look L b=some o):look (setB L b x) b=some x:=by
 induction L with
 |nil=>cases h
 |cons p r ih=>
  obtain⟨c,y⟩:=p
  simp only[look] at h
  simp only[setB]
  split
  ·simp[look, *]
  ·rename_i e
   rw[if_neg e] at h
   simp only[look]
   rw[if_neg e]
   exact ih h
theorem zd_ {L:za_} {b c:Nat} {x:Obj} (h:b≠c):look (setB L b x) c=look L c:=by
 induction L with
 |nil=>rfl
 |cons p r ih=>
  obtain⟨d,y⟩:=p
  simp only[setB]
  split
  ·rename_i e
   subst e
   simp[look,h]
  ·simp only[look]
   split
   ·rfl
   ·exact ih
theorem zb_ {L:za_} {b:Nat} {o:Obj} (h:look L b=some o):b∈keys L:=List.mem_map.2 ⟨_,zi_ h,rfl⟩
theorem Zb_ {L:za_} {b:Nat} (h:b∈keys L): ∃o,look L b=some o:=by
 cases hl:look L b with
 |some o=>exact⟨o,rfl⟩
 |none=>exact absurd h (ve_ hl)
theorem zc_ {w0:World} {L:za_} {b:Nat} {o:Obj} (h:look L b=some o):zm_ w0 L b=some o:=by
 unfold zm_;rw[h]
theorem zk_ (L M:za_):keys (L++M)=keys L++keys M:=List.map_append
theorem zB_ {L:za_} {n b:Nat} (h:qo_ L n) (hb:b∈keys L):b<n:=by
 induction L with
 |nil=>cases hb
 |cons p r ih=>
  obtain⟨c,y⟩:=p
  simp only[keys,List.map_cons,List.mem_cons] at hb
  rcases hb with rfl|hb
  ·exact h.1
  ·exact ih h.2 hb
theorem abQ_ (vs:List Value): ∀ (A B:List Value),vs.length≤B.length→Zp_ (A++B).toArray A.length vs=(A++vs++B.drop vs.length).toArray:=by
 induction vs with
 |nil=>intro A B _;simp[Zp_]
 |cons v r ih=>
  intro A B h
  cases B with
  |nil=>simp at h
  |cons x B=>
   have e: (A++x::B).toArray.setIfInBounds A.length v=((A++ [v])++B).toArray:=by
    rw[List.setIfInBounds_toArray]
    simp
   have h':=ih (A++ [v]) B (by simpa using h)
   simp only[List.length_append,List.length_cons,List.length_nil,Nat.zero_add] at h'
   rw[Zp_,e,h']
   simp
theorem ZG_ (N:Nat): ∀r c,c≤2*N+768→Builtin.growBy N r c≤2*N+768
 |0,c,h=>h
 |r+1,c,h=>by
  unfold Builtin.growBy
  split
  ·exact h
  ·exact ZG_ N r _ (by omega)
theorem jE_ {N c:Nat} (h:c<N):Builtin.nextslicecap N c≤2*N+768:=by
 unfold Builtin.nextslicecap
 split
 ·omega
 ·split
  ·omega
  ·exact ZG_ N 4 c (by omega)
structure AppX (P:Program) (w:World) (size:Nat) (x:Value) (k:Nat) (new:List Value):Prop where
 len: (Builtin.lenOf x).run P w= .ok k w
 cells: (Builtin.firstCells size k x).run P w= .ok new.toArray w
 one:new.all Value.oneCell'=true
 size:new.length=k*size
theorem AppX.text (P:Program) (w:World) (l:List UInt8):AppX P w 1 (vs l) l.length (l.map v8):=by
 refine⟨?_, ?_, ?_,by simp⟩
 ·simp only[vs,Builtin.lenOf,xb_];rfl
 ·simp only[vs,Builtin.firstCells]
  show Result.ok _ w=_
  congr 1
  have: ((ByteArray.mk l.toArray).extract 0 l.length).data=l.toArray:=by
   rw[ByteArray.data_extract]
   simp
  rw[this]
  simp[v8]
 ·rw[List.all_map,List.all_eq_true];intro x _;rfl
def jF_ (P:Program) (e:TypeId):Bool:=match P.info? e with
 |some i=>i.bytes !=0&&decide (i.bytes≤1024)
 |none=>false
theorem jQ_ {P:Program} {e:TypeId} {j:Nat} (h:jF_ P e=true) (hj:j≤2^38): ∃i,P.info? e=some i∧i.bytes≠0∧j*i.bytes≤2^48:=by
 unfold jF_ at h
 cases hi:P.info? e with
 |none=>rw[hi] at h;cases h
 |some i=>
  rw[hi] at h
  simp only[Bool.and_eq_true,bne_iff_ne,ne_eq,decide_eq_true_eq] at h
  refine⟨i,rfl,h.1, ?_⟩
  calc j*i.bytes≤2^38*1024:=Nat.mul_le_mul hj h.2
   _=2^48:=by decide
theorem wB_ (L:za_) (k:za_→Prop):nh L k=k L:=(rfl)
inductive Buf (L:za_) (E:TypeId) (size:Nat):Value→Nat→List Value→Prop
 |nl:Buf L E size (.slice none 0 0) 0 []
 |at_ {b n c:Nat} {cs rest:List Value} (hl:look L b=some (.cells (cs++rest).toArray E (0,0))) (h1:cs.length=n*size) (h2:rest.length=(c - n)*size) (h3:n≤c) (h4:0<c):
  Buf L E size (vsl b 0 n c) n cs
def slB:Value→Option Nat
 | .slice (some a) _ _=>some a.block
 |_=>none
theorem Buf.keep {L L':za_} {E:TypeId} {size n:Nat} {v:Value} {cs:List Value} (h:Buf L E size v n cs) (hk: ∀b o,slB v=some b→look L b=some o→look L' b=some o):Buf L' E size v n cs:=by
 cases h with
 |nl=>exact .nl
 |at_ hl h1 h2 h3 h4=>exact .at_ (hk _ _ rfl hl) h1 h2 h3 h4
theorem Buf.app {L M:za_} {E:TypeId} {size n:Nat} {v:Value} {cs:List Value} (h:Buf L E size v n cs):Buf (L++M) E size v n cs:=h.keep fun _ _ _ ho=>zn_ ho
theorem Buf.cell {L:za_} {E:TypeId} {size n:Nat} {v:Value} {cs:List Value} (h:Buf L E size v n cs):Value.oneCell' v=true∧v.cells= #[v]:=by
 cases h<;>exact⟨rfl,rfl⟩
theorem Buf.len {L:za_} {E:TypeId} {size n:Nat} {v:Value} {cs:List Value} (h:Buf L E size v n cs) (x:Bool×Nat):wu_ (.sl x) v=some (vi n):=by
 cases h<;>rfl
theorem Buf.inv {L:za_} {E:TypeId} {size n:Nat} {v:Value} {cs:List Value} (h:Buf L E size v n cs): (v= .slice none 0 0∧n=0∧cs= [])∨
  ∃b c rest,v=vsl b 0 n c∧look L b=some (.cells (cs++rest).toArray E (0,0))∧cs.length=n*size∧n≤c∧0<c∧rest.length=(c - n)*size:=by
 cases h with
 |nl=>exact .inl ⟨rfl,rfl,rfl⟩
 |at_ hl h1 h2 h3 h4=>exact .inr ⟨_,_,_,rfl,hl,h1,h3,h4,h2⟩
theorem qU_ {L:za_} {b:Nat} {o:Obj} (h:qo_ L b):look (L++ [(b,o)]) b=some o:=by
 rw[qn_ (fun hm=>Nat.lt_irrefl _ (zB_ h hm))];simp[look]
structure Grew (w0:World) (v:Value) (L L':za_):Prop where
 keys: ∀c,c∈keys L→c∈keys L'
 new: ∀c,c∈Sx.keys L'→c∈Sx.keys L∨(qo_ L c∧w0.heap.size≤c)
 look: ∀c o,slB v≠some c→Sx.look L c=some o→Sx.look L' c=some o
theorem Grew.refl (w0:World) (v:Value) (L:za_):Grew w0 v L L:=⟨fun _ h=>h,fun _ h=> .inl h,fun _ _ _ h=>h⟩
section
variable {P:Program} {w0:World} {L:za_}
theorem KB_ {w:World} {ts tx ty e:TypeId} {m:Bool×Nat} {z s x:Value} {n k:Nat} {cs new:List Value} (hw:Hp w0 L w)
  (hu:P.underlying ts=some (.slice e)) (hm:qk_ P e=some m) (hi:jF_ P e=true) (hz:qg_ P e=some z) (hzs:z.cells.size=m.2) {d:TypeDesc} (hux:P.underlying tx=some d) (hnx: ∀k,d≠ .int k)
  (hB:Buf L e m.2 s n cs) (hXa: ∀w,Hp w0 L w→AppX P w m.2 x k new) (hbig:2* (n+k)+768≤2^38):
  ∃v' w' L',(Builtin.append_ #[ts,tx] ty #[s,x]).run P w= .ok v' w'∧Hp w0 L' w'∧Buf L' e m.2 v' (n+k) (cs++new)∧Grew w0 s L L'∧(slB v'=slB s∨ ∃c,slB v'=some c∧qo_ L c):=by
 obtain⟨i,hi,hb0,hbig⟩:=jQ_ hi hbig
 have hti: ∀w,(typeInfo e).run P w= .ok i w:=by
  intro w
  simp only[typeInfo,program,Sem.run_bind]
  show Result.andThen (Result.ok P w) _=_
  simp only[Result.andThen_ok,hi]
  rfl
 have hmd: (match d with| .int _=>true|_=>false)=false:=by
  cases d<;>first|rfl|exact absurd rfl (hnx _)
 have e1: ∀ {α β:Type} (a:α) (f:α→World→Result β),(Sem.run P (pure a) w).andThen f=f a w:=fun _ _=>rfl
 have hX:=hXa w hw
 have hxl:=hX.len
 have hxc:=hX.cells
 have hzv:=qv_ (P:=P) hz
 have room: ∀ (b:Nat) (w:World),(askRoom b).run P w= .ok () w:=by
  intro b w
  unfold askRoom
  split<;>rfl
 have zc: ∀j,(Builtin.zeroCells z.cells j).toList.length=j*m.2:=by
  intro j;simp[Builtin.zeroCells,hzs]
 have hbg: ∀c,c<n+k→ ¬ (Builtin.nextslicecap (n+k) c*i.bytes>2^48):=by
  intro c hc
  have:=jE_ hc
  have h2:=Nat.mul_le_mul_right i.bytes this
  omega
 cases hB with
 |nl=>
  by_cases hk:k=0
  ·subst hk
   have hnew:new= []:=List.eq_nil_of_length_eq_zero (by have:=hX.size;omega)
   subst hnew
   refine⟨.slice none 0 0,w,L, ?_,hw, .nl,Grew.refl _ _ _, .inl rfl⟩
   simp only[Builtin.append_,List.getElem?_toArray,List.getElem?_cons_zero,List.getElem?_cons_succ,Sem.run_bind,run_underlying hu w,Result.andThen_ok,zl_ hm w,run_underlying hux w,hmd,e1,Bool.false_eq_true, ↓reduceIte,hxl,Bool.not_false,Nat.add_zero,Nat.le_refl,hxc]
   rfl
  ·have hpos: ¬0+k≤0:=by omega
   have hbg':=hbg 0 (by omega)
   simp only[Builtin.append_,List.getElem?_toArray,List.getElem?_cons_zero,List.getElem?_cons_succ,Sem.run_bind,run_underlying hu w,Result.andThen_ok,zl_ hm w,run_underlying hux w,hmd,e1,Bool.false_eq_true, ↓reduceIte,hxl,Bool.not_false,hpos,hti,hb0,or_false,and_false,hbg']
   have hch: (choose (Question.appendCap (0+k) 0 e)).run P w= .ok ((0+k)+w.tape w.drawn (.appendCap (0+k) 0 e)% (2^63 - (0+k))) w.drew:=rfl
   rw[hch]
   generalize hcc: (0+k)+w.tape w.drawn (.appendCap (0+k) 0 e)% (2^63 - (0+k))=c
   have hw1:=hw.drew
   have hX1:=hXa _ hw1
   have hold: (Builtin.firstCells m.2 0 (Value.slice none 0 0)).run P w.drew= .ok #[] w.drew:=rfl
   simp only[Result.andThen_ok,room,hold,hX1.cells,hzv]
   refine⟨_,_,L++ [(w.drew.heap.size, .cells ([]++new++ (Builtin.zeroCells z.cells (c - (0+k))).toList).toArray e (0,0))],rfl, ?_, .at_ (b:=w.drew.heap.size) (rest:=(Builtin.zeroCells z.cells (c - (0+k))).toList) ?_ ?_ ?_ (by omega) (by omega), ?_, .inr ⟨_,rfl,zv_ fun b hb=>hw1.lt hb⟩⟩
   ·have ea: ([]++new++ (Builtin.zeroCells z.cells (c - (0+k))).toList).toArray= #[]++new.toArray++Builtin.zeroCells z.cells (c - (0+k)):=by apply Array.ext';simp
    rw[ea]
    exact hw1.alloc _
   ·rw[qn_ (fun hm=>Nat.lt_irrefl _ (hw1.lt hm))]
    simp[look]
   ·rw[List.nil_append,hX.size,Nat.zero_add]
   ·exact zc _
   ·refine⟨fun c hc=>by rw[zk_];exact List.mem_append_left _ hc,fun c hc=> ?_,fun c o hne ho=>zn_ ho⟩
    rw[zk_] at hc
    rcases List.mem_append.1 hc with hc|hc
    ·exact .inl hc
    ·right
     simp only[keys,List.map_cons,List.map_nil,List.mem_singleton] at hc
     subst hc
     exact⟨zv_ fun b hb=>hw1.lt hb,hw1.size⟩
 | @at_ b n c cs rest hl h1 h2 h3 h4=>
  have hhb:=hw.has _ _ (zi_ hl)
  by_cases hin:n+k≤c
  ·have hlt:=(Array.getElem?_eq_some_iff.1 hhb).1
   have hsz:=hX.size
   have hst:=q1_ (P:=P) (b:=b) (off:=n*m.2) (E:=e) (fz:=(0,0)) new 0 (cs++rest).toArray w hhb (by
    simp only[List.size_toArray,List.length_append,h1,h2,hsz,Nat.add_zero]
    rw[←Nat.add_mul,←Nat.add_mul]
    exact Nat.mul_le_mul_right _ (by omega)) (.inl (Nat.le_refl 0)) hX.one
   simp only[Builtin.append_,List.getElem?_toArray,List.getElem?_cons_zero,List.getElem?_cons_succ,Sem.run_bind,run_underlying hu w,Result.andThen_ok,zl_ hm w,run_underlying hux w,hmd,e1,Bool.false_eq_true, ↓reduceIte,hxl,Bool.not_false,hin,hxc,z3_,Nat.zero_add,hst,vsl]
   rw[Nat.add_zero,←h1,abQ_ new cs rest (by rw[h2,hsz];exact Nat.mul_le_mul_right _ (by omega))]
   refine⟨vsl b 0 (n+k) c,_,setB L b (.cells (cs++new++rest.drop new.length).toArray e (0,0)),rfl,hw.set (zb_ hl) rfl rfl rfl rfl, .at_ (zF_ hl) ?_ ?_ hin h4, ?_, .inl rfl⟩
   ·rw[List.length_append,h1,hsz,Nat.add_mul]
   ·rw[List.length_drop,h2,hsz,←Nat.sub_mul]
    congr 1
    omega
   ·refine⟨fun c hc=>by rw[qe_];exact hc,fun c hc=>by rw[qe_] at hc;exact .inl hc,fun c o hne ho=> ?_⟩
    rw[zd_ (fun e=>hne (by rw[←e];rfl))]
    exact ho
  ·have hbg':=hbg c (by omega)
   simp only[Builtin.append_,List.getElem?_toArray,List.getElem?_cons_zero,List.getElem?_cons_succ,Sem.run_bind,run_underlying hu w,Result.andThen_ok,zl_ hm w,run_underlying hux w,hmd,e1,Bool.false_eq_true, ↓reduceIte,hxl,Bool.not_false,hin,hti,hb0,or_false,and_false,hbg',vsl]
   have hch: (choose (Question.appendCap (n+k) c e)).run P w= .ok ((n+k)+w.tape w.drawn (.appendCap (n+k) c e)% (2^63 - (n+k))) w.drew:=rfl
   rw[hch]
   generalize hcc: (n+k)+w.tape w.drawn (.appendCap (n+k) c e)% (2^63 - (n+k))=c2
   have hw1:=hw.drew
   have hX1:=hXa _ hw1
   have hold: (Builtin.firstCells m.2 n (Value.slice (some ⟨b,0,none⟩) n c)).run P w.drew= .ok cs.toArray w.drew:=by
    simp only[Builtin.firstCells]
    rw[z1_ (hw1.has _ _ (zi_ hl)) 0 (n*m.2) (by simp only[List.size_toArray,List.length_append,h1];omega)]
    congr 1
    simp only[Nat.zero_add,List.extract_toArray,←h1]
    simp
   simp only[Result.andThen_ok,room,hold,hX1.cells,hzv]
   refine⟨_,_,L++ [(w.drew.heap.size, .cells (cs++new++ (Builtin.zeroCells z.cells (c2 - (n+k))).toList).toArray e (0,0))],rfl, ?_, .at_ (b:=w.drew.heap.size) (rest:=(Builtin.zeroCells z.cells (c2 - (n+k))).toList) ?_ ?_ ?_ (by omega) (by omega), ?_, .inr ⟨_,rfl,zv_ fun b hb=>hw1.lt hb⟩⟩
   ·have ea: (cs++new++ (Builtin.zeroCells z.cells (c2 - (n+k))).toList).toArray=cs.toArray++new.toArray++Builtin.zeroCells z.cells (c2 - (n+k)):=by apply Array.ext';simp
    rw[ea]
    exact hw1.alloc _
   ·rw[qn_ (fun hm=>Nat.lt_irrefl _ (hw1.lt hm))]
    simp[look]
   ·rw[List.length_append,h1,hX.size,Nat.add_mul]
   ·exact zc _
   ·refine⟨fun c hc=>by rw[zk_];exact List.mem_append_left _ hc,fun c hc=> ?_,fun c o hne ho=>zn_ ho⟩
    rw[zk_] at hc
    rcases List.mem_append.1 hc with hc|hc
    ·exact .inl hc
    ·right
     simp only[keys,List.map_cons,List.map_nil,List.mem_singleton] at hc
     subst hc
     exact⟨zv_ fun b hb=>hw1.lt hb,hw1.size⟩
theorem AppX.block {b off k cap size:Nat} {arr:Array Value} {E:TypeId} {fz:Nat×Nat} {new:List Value} (hr:zm_ w0 L b=some (.cells arr E fz)) (hn:off+k*size≤arr.size) (hc: (arr.extract off (off+k*size)).toList=new)
  (h1:new.all Value.oneCell'=true) {w:World} (hw:Hp w0 L w):AppX P w size (vsl b off k cap) k new:=by
 refine⟨rfl, ?_,h1, ?_⟩
 ·simp only[vsl,Builtin.firstCells]
  rw[z1_ (hw.read hr) off (k*size) hn,←hc]
 ·rw[←hc];simp;omega
theorem AppX.nil (P:Program) (w:World) (size:Nat):AppX P w size (.slice none 0 0) 0 []:=⟨rfl,rfl,rfl,by simp⟩
theorem xx_ {b:Nat} {E:TypeId} {fz:Nat×Nat} {arr:Array Value} {w:World} (hb:w.heap[b]? =some (.cells arr E fz)): ∀ (l:List UInt8) (off:Nat) (acc:ByteArray),(∀j,j<l.length→arr[off+j]? =some (v8 (l.getD j 0)))→
  (loadBytes ⟨b,off,none⟩ acc l.length).run P w= .ok (acc++ ⟨l.toArray⟩) w
 | [],off,acc,_=>by
  show Result.ok acc w=_
  congr 1
  apply ByteArray.ext
  simp
 |x::l,off,acc,h=>by
  have h0:=h 0 (by simp)
  simp only[Nat.add_zero,List.getD_cons_zero] at h0
  have hc:w.cell? ⟨b,off,none⟩=some (v8 x):=by rw[cell_of_row w b _ arr E fz hb];exact h0
  have hld: (load ⟨b,off,none⟩).run P w= .ok (v8 x) w:=by
   simp only[load,Sem.run,hc]
  rw[List.length_cons,loadBytes,Sem.run_bind,hld,Result.andThen_ok]
  simp only[v8,z3_]
  have e: ((x.toNat:Int).toNat.toUInt8)=x:=by
   rw[Int.toNat_natCast]
   exact UInt8.ofNat_toNat
  rw[e,xx_ hb l (off+1) _ (fun j hj=>by
   have:=h (j+1) (by simpa using hj)
   rw[List.getD_cons_succ] at this
   rw[←this];congr 1;omega)]
  congr 1
  apply ByteArray.ext
  simp
theorem Vx_ {p:Program} {e:TypeId} {c n:Nat} (hd:1<p.depth) (hs:p.cellsOf e=1) (hn:n≤c):liesAt p p.depth e (c / p.cellsOf e) 0 e n=true:=by
 obtain⟨d,hd'⟩: ∃d,p.depth=d+2:=⟨p.depth - 2,by omega⟩
 have hsl:sameLayout p p.depth e e=true:=by
  rw[hd'];unfold sameLayout;simp
 rw[hd'] at hsl ⊢
 unfold liesAt
 rw[hd']
 unfold rowAt
 simp[hs,hn,hsl]
theorem kb_ {w:World} {pt it ty e:TypeId} {b:Nat} {l:List UInt8} {rest:List Value} (hw:Hp w0 L w) (hl:look L b=some (.cells (l.map v8++rest).toArray e (0,0))) (h0:0<l.length) (hmax: (l.length:Int)≤9223372036854775807)
  (hpt:P.underlying pt=some (.pointer e)) (hs:P.cellsOf e=1) (hd:1<P.depth):
  ∃w',(Builtin.unsafeString_ #[pt,it] ty #[vp b 0,vi l.length]).run P w= .ok (vs l) w'∧Hp w0 (setB L b (.cells (l.map v8++rest).toArray e (0,l.length))) w':=by
 have hb:=hw.has _ _ (zi_ hl)
 have e1: ∀ {α β:Type} (a:α) (f:α→World→Result β),(Sem.run P (pure a) w).andThen f=f a w:=fun _ _=>rfl
 have hlb:=xx_ (P:=P) hb l 0 .empty (by
  intro j hj
  rw[Nat.zero_add,List.getElem?_toArray,List.getElem?_append_left (by simpa using hj),List.getElem?_map,List.getD_eq_getElem?_getD,List.getElem?_eq_getElem hj]
  rfl)
 have hva: (variablesAt ⟨b,0,none⟩ e l.length).run P w= .ok true w:=by
  have hsh:w.shape? b=some (e,(l.map v8++rest).toArray.size):=by
   simp only[World.shape?,hb]
  have hp:liesAt P P.depth e ((l.map v8++rest).toArray.size / P.cellsOf e) 0 e l.length=true:=Vx_ hd hs (by simp)
  simp only[variablesAt,program,shape,Sem.run_bind]
  show Result.andThen (Result.ok P w) _=_
  simp only[Result.andThen_ok]
  show Result.andThen (Result.ok (w.shape? b) w) _=_
  rw[hsh]
  simp only[Result.andThen_ok]
  rw[hp]
  rfl
 have hel: (elemOf pt).run P w= .ok e w:=by
  simp only[elemOf,Sem.run_bind,run_underlying hpt w,Result.andThen_ok]
  rfl
 refine⟨w.freeze ⟨b,0,none⟩ l.length, ?_, ?_⟩
 ·have hn0: ¬ ((l.length:Int)<0):=by omega
  have hnm: ¬ ((l.length:Int)>IntKind.i64.max):=by
   show¬ ((l.length:Int)>9223372036854775807);omega
  have hnz: ¬ ((l.length:Int)=0):=by omega
  have hai: (asInt (vi l.length)).run P w= .ok (l.length:Int) w:=rfl
  rw[show vp b 0= .pointer (some ⟨b,0,none⟩) from rfl]
  show Sem.run P (asInt (vi l.length)>>=_) w=_
  simp only[Sem.run_bind,hai,Result.andThen_ok,List.getElem?_toArray,List.getElem?_cons_zero,hn0,hnm,hnz, ↓reduceIte,hel,Int.toNat_natCast,hva,hlb]
  show Result.ok (Value.string (ByteArray.empty++ ⟨l.toArray⟩)) _=_
  congr 2
 ·have hne: ¬l.length=0:=by omega
  have hlt:=(Array.getElem?_eq_some_iff.1 hb).1
  refine hw.set (zb_ hl) ?_ ?_ ?_ ?_<;>simp only[World.freeze,hne, ↓reduceIte]
  apply Array.ext_getElem?
  intro i
  rw[Array.getElem?_modify]
  by_cases hi:b=i
  ·subst hi
   rw[if_pos rfl,hb]
   simp[hlt]
  ·rw[if_neg hi,Array.getElem?_setIfInBounds_ne hi]
end
section
variable {P:Program} {w0:World} {f:Fr} {L:za_} {N:Fr→za_→Prop} {ops:Array Oper} {rest:List Oper} {md:Md}
 {d:Option Tmp} {ty:TypeId} {ps:String} {af:Array Edge} {g:Option (Nat×Bool)}
theorem Ow.append {ts tx e:TypeId} {m:Bool×Nat} {z:Value} {s x:Operand} {n k:Nat} {cs new:List Value} {dx:TypeDesc} {md':Md} (sv:Value) (hsv:ev f s=sv) (he:md.turn=some md')
  (hs:zg_ ops f ⟨d, .call ⟨.builtin .append, #[s,x], #[ts,tx]⟩,ty,ps,af,g⟩=false)
  (hu:P.underlying ts=some (.slice e)) (hm:qk_ P e=some m) (hi:jF_ P e=true) (hz:qg_ P e=some z) (hzs:z.cells.size=m.2) (hux:P.underlying tx=some dx) (hnx: ∀k,dx≠ .int k)
  (hB:Buf L e m.2 sv n cs) (hX: ∀w,Hp w0 L w→AppX P w m.2 (ev f x) k new) (hbig:2* (n+k)+768≤2^38)
  (hn: ∀v' L',Buf L' e m.2 v' (n+k) (cs++new)→Grew w0 sv L L'→(slB v'=slB sv∨ ∃c,slB v'=some c∧qo_ L c)→Ow P w0 ops md' rest (zR_ f d v') L' N):
  Ow P w0 ops md (⟨d, .call ⟨.builtin .append, #[s,x], #[ts,tx]⟩,ty,ps,af,g⟩::rest) f L N:=by
 subst hsv
 refine Ow.step he rfl hs fun w hw=> ?_
 obtain⟨v',w',L',hr,hp,hb,hg,hsl⟩:=KB_ (ty:=ty) hw hu hm hi hz hzs hux hnx hB hX hbig
 refine .inl ⟨v',w',L', ?_,hp,hn v' L' hb hg hsl⟩
 simp only[execOp,resolve,Sem.run_bind,Sem.run_pure,Result.andThen_ok,invoke,builtin,List.map_toArray,List.map_cons,List.map_nil]
 rw[hr]
 rfl
theorem Ow.unsafeString {pt it e:TypeId} {x y:Operand} {b:Nat} {l:List UInt8} {rs:List Value} {md':Md} (he:md.turn=some md')
  (hs:zg_ ops f ⟨d, .call ⟨.builtin .unsafeString, #[x,y], #[pt,it]⟩,ty,ps,af,g⟩=false)
  (hx:ev f x=vp b 0) (hy:ev f y=vi l.length) (hl:look L b=some (.cells (l.map v8++rs).toArray e (0,0))) (h0:0<l.length) (hmax: (l.length:Int)≤9223372036854775807)
  (hpt:P.underlying pt=some (.pointer e)) (hc:P.cellsOf e=1) (hd:1<P.depth)
  (hn:Ow P w0 ops md' rest (zR_ f d (vs l)) (setB L b (.cells (l.map v8++rs).toArray e (0,l.length))) N):
  Ow P w0 ops md (⟨d, .call ⟨.builtin .unsafeString, #[x,y], #[pt,it]⟩,ty,ps,af,g⟩::rest) f L N:=by
 refine Ow.step he rfl hs fun w hw=> ?_
 obtain⟨w',hr,hp⟩:=kb_ (it:=it) (ty:=ty) hw hl h0 hmax hpt hc hd
 refine .inl ⟨vs l,w',_, ?_,hp,hn⟩
 simp only[execOp,resolve,Sem.run_bind,Sem.run_pure,Result.andThen_ok,invoke,builtin,List.map_toArray,List.map_cons,List.map_nil,hx,hy]
 rw[hr]
 rfl
end
end Go.Sx
end
namespace Go.Sx
open Go
section
variable {P:Program} {w0:World} {f:Fr} {L:za_} {N:Fr→za_→Prop} {K:q4_} {l:List Oper} {listed:List Bool} {n:Nat} {R ts:List Nat} {a d:Nat} {z:Obj}
theorem Md.next_sofnil (R ts:List Nat): (Md.sof R [] ts).next= .sof R [] ts:=(rfl)
theorem Zr_ {Q:Exit→Act→World→Prop} {o:Oper} {x:Act} {d:Option Tmp} {v:Value} {K:Act→World→Prop} (hd: ∀t,d=some t→o.dst≠some t)
  (hQ: ∀c a w,Q (.panic c) a w→Q (.panic c) (a.put d v) w) (r:Result Next) (h:o.upon P x (fun a' w'=>K (a'.put d v) w') Q r):
  o.upon P (x.put d v) K Q r:=by
 have comm: ∀u,(x.put o.dst u).put d v=(x.put d v).put o.dst u:=fun u=>(Act.put_comm x v u hd).symm
 match r,h with
 | .ok (.value u) _,h=>show K _ _;rw[←comm];exact h
 | .ok .skip _,h=>show K _ _;rw[←comm];exact h
 | .ok (.defer e) w',h=>
  have h':K ((({x with defers:=e::x.defers}:Act).put o.dst undef).put d v) w':=h
  rw[←Act.put_comm _ v undef hd,←Act.put_defers] at h'
  exact h'
 | .ok (.enter f args) _,h=>
  refine Calls.mono h fun e w'' he=> ?_
  match e,he with
  | .returned u,he=>show K _ _;rw[←comm];exact he
  | .panicked c,he=>exact hQ _ _ _ he
  | .outgrown,he=>exact he
 | .ok (.row row args) _,h=>exact Rows.mono h fun u w'' he=>by rw[←comm];exact he
 | .halt (.panic u) _,h=>exact hQ _ _ _ h
theorem Zt_ {ops:Array Oper} {Q:Exit→Act→World→Prop} {j:Nat} {oj:Oper} {d:Option Tmp} {v:Value} (hj:ops[j]? =some oj) (h1: ∀t,d=some t→t∉oj.looksAt ops) (h2: ∀t,d=some t→oj.dst≠some t) (hsj: ∀cs b,oj.op≠ .select cs b)
  (hQ: ∀c a w,Q (.panic c) a w→Q (.panic c) (a.put d v) w) {K:Act→World→Prop} {x:Act} {w:World}
  (h:wpOp P ops Q j (fun a' w'=>K (a'.put d v) w') x w):wpOp P ops Q j K (x.put d v) w:=by
 unfold wpOp at h ⊢
 simp only[hj] at h ⊢
 rw[wanted_put oj x d v h1]
 cases hw:Region.wanted oj (yielded ops x.tmps) with
 |true=>
  rw[hw] at h
  simp only[if_true] at h ⊢
  rcases h with h| ⟨hasks,hl⟩
  ·left
   unfold Oper.wp at h ⊢
   rw[execOp_put oj hsj x d v h1]
   exact Zr_ h2 hQ _ h
  ·right
   exact⟨by unfold Oper.asks at*;rwa [execOp_put oj hsj x d v h1],hl⟩
 |false=>
  rw[hw] at h
  simp only[Bool.false_eq_true,if_false] at h ⊢
  rw[Act.put_comm x v undef h2]
  exact h
structure Drift (P:Program) (l:List Oper) (ts:List Nat) (a d:Nat) (z:Obj):Prop where
 here: ∃oa t zv,l.toArray[a]? =some oa∧oa.op= .alloc t∧oa.dst=some d∧oa.guard=none∧qg_ P t=some zv∧z= .cells zv.cells t
 ts:a∉ts
 sel:Region.noSelect l.toArray=true
def OwD (P:Program) (w0:World) (l:List Oper) (R ts:List Nat) (a d:Nat) (z:Obj) (n:Nat) (listed:List Bool) (f:Fr) (L:za_) (N:Fr→za_→Prop):Prop:=
 (∀w,Hp w0 L w→qR_ P l.toArray (qa_ w0 N) ts (SR w0 R L) (n+1) listed.toArray (act f) w)∧
 (∀b w,w0.heap.size≤b→b∉keys L→Hp w0 (L++ [(b,z)]) w→qR_ P l.toArray (qa_ w0 N) ts (SR w0 R L) n (listed.set a true).toArray (act (ZP_ f d (vp b 0))) w)
theorem SR.ofE {w:World} {b:Nat} (hb:w0.heap.size≤b) (h:Hp w0 (L++ [(b,z)]) w):SR w0 R L w:=by
 intro r _ o ho
 unfold zm_ at ho
 split at ho
 ·rename_i o' hl
  cases ho
  exact h.has _ _ (List.mem_append_left _ (zi_ hl))
 ·rename_i hl
  have hlt:=(Array.getElem?_eq_some_iff.1 ho).1
  rw[h.old r hlt ?_];exact ho
  intro hm
  simp only[keys,List.map_append,List.map_cons,List.map_nil,List.mem_append,List.mem_singleton] at hm
  rcases hm with hm|hm
  ·exact ve_ hl hm
  ·omega
theorem V2_ {c:List PanicEntry} {x x':Act} {w:World} (h:qa_ w0 N (.panic c) x w):qa_ w0 N (.panic c) x' w:=zo_ h
theorem Hp.perm {w:World} {M:za_} (h:Hp w0 L w) (hp:M.Perm L):Hp w0 M w:=
 h.same (fun _=>hp.mem_iff) ((List.Perm.nodup_iff (hp.map Prod.fst)).2 h.nodup)
def Vm_ (P:Program) (l:List Oper) (ts:List Nat) (a:Nat):List Nat→List Bool→Option (List Bool)
 | [],listed=>some listed
 |k::is,listed=>
  match jt_ l k,jt_ l a with
  |some o,some oa=>if k !=a&& !ts.contains k&& (ts.all fun t=> !listed.toArray.getD t true&& !(listed.set a true).toArray.getD t true)&& (Region.ready .any l.toArray listed.toArray).contains k&&Region.free .any l.toArray listed.toArray k&&
    (Region.ready .any l.toArray (listed.set a true).toArray).contains k&&Region.free .any l.toArray (listed.set a true).toArray k&&o.apart l.toArray oa&&
    (qE_ P o.op|| (k3_ o.op&&ky_ l.toArray ts listed.toArray k&&ky_ l.toArray ts (listed.set a true).toArray k)) then Vm_ P l ts a is (listed.set k true) else none
  |_,_=>none
theorem OwD.step {k:Nat} {o:Oper} {v:Value} (hD:Drift P l ts a d z) (hk:jt_ l k=some o) {rest:List Bool} (hc:Vm_ P l ts a [k] listed=some rest)
  (hY:YieldsC P l.toArray (SR w0 R L) (qE_ P o.op=true) o v (act f)) (h:OwD P w0 l R ts a d z n rest (zR_ f o.dst v) L N):OwD P w0 l R ts a d z (n+1) listed f L N:=by
 obtain⟨⟨oa,t,zv,ha,hop,hdst,hg,hz,rfl⟩,hats,hns⟩:=hD
 have hoi:l.toArray[k]? =some o:=by rw[qy_] at hk;simpa using hk
 have ha':jt_ l a=some oa:=by rw[qy_];simpa using ha
 unfold Vm_ at hc
 rw[hk,ha'] at hc
 simp only at hc
 split at hc
 ·rename_i hcc
  simp only[Vm_,Option.some.injEq] at hc
  subst hc
  simp only[Bool.and_eq_true,Bool.or_eq_true,Bool.not_eq_true',List.all_eq_true,List.contains_eq_mem,decide_eq_true_eq,decide_eq_false_iff_not,bne_iff_ne,ne_eq] at hcc
  obtain⟨⟨⟨⟨⟨⟨⟨⟨c1,c2⟩,c3⟩,c4⟩,c5⟩,c6⟩,c7⟩,c8⟩,c9⟩:=hcc
  obtain⟨q1,q2,q3⟩:=Oper.apart_spec c8
  have hsel:=Region.noSelect_spec hns
  have hset: (listed.set k true).set a true=(listed.set a true).set k true:=List.set_comm _ _ c1
  refine⟨fun w hw=> ?_,fun b w hb hbL hw=> ?_⟩
  ·refine ju_ hoi c2 hsel (fun c a w h=>zo_ h) _ _ _ _ (qB_ (P:=P) hoi c4 c5 (c9.imp id fun h=>⟨h.1.1,h.1.2,fun t ht=>(c3 t ht).1⟩)) (.inr fun t ht=>(c3 t ht).1) hY ?_
   rw[zr_,zz_]
   exact h.1 w hw
  ·have hY2:YieldsC P l.toArray (SR w0 R L) (qE_ P o.op=true) o v (act (ZP_ f d (vp b 0))):=by
    refine hY.left (hsel k o · · hoi) (oj:=oa) q3 ⟨vp b 0,[], ?_⟩
    rw[hdst]
    exact(zr_ f (some d) (vp b 0)).symm
   refine ju_ hoi c2 hsel (fun c a w h=>zo_ h) _ _ _ _ (qB_ (P:=P) hoi c6 c7 (c9.imp id fun h=>⟨h.1.1,h.2,fun t ht=>(c3 t ht).2⟩)) (.inr fun t ht=>(c3 t ht).2) hY2 ?_
   have e: (act (ZP_ f d (vp b 0))).put o.dst v=act (ZP_ (zR_ f o.dst v) d (vp b 0)):=by
    have e1:act (ZP_ f d (vp b 0))=(act f).put (some d) (vp b 0):=(zr_ f (some d) (vp b 0)).symm
    rw[e1,Act.put_comm (act f) (x:=some d) (y:=o.dst) (vp b 0) v (fun t ht hod=>by cases ht;exact q2 _ hod hdst),zr_,zr_];rfl
   rw[e,zz_,←hset]
   exact h.2 b w hb hbL hw
 ·cases hc
theorem WG_ {k:Nat} {is:List Nat} {listed listed':List Bool} (h:Vm_ P l ts a (k::is) listed=some listed'):Vm_ P l ts a [k] listed=some (listed.set k true)∧Vm_ P l ts a is (listed.set k true)=some listed':=by
 rw[Vm_] at h
 cases ho:jt_ l k with
 |none=>rw[ho] at h;cases h
 |some o=>
  cases hoa:jt_ l a with
  |none=>rw[ho,hoa] at h;cases h
  |some oa=>
   rw[ho,hoa] at h
   simp only at h
   split at h
   ·rename_i hcc
    refine⟨?_,h⟩
    rw[Vm_,ho,hoa]
    simp only
    rw[if_pos hcc];rfl
   ·cases h
theorem OwD.runs {k:Md→List Oper→Fr→za_→Prop} (hD:Drift P l ts a d z): ∀ (is:List Nat) {listed listed':List Bool} {f:Fr} {L:za_},Vm_ P l ts a is listed=some listed'→
  (∀md r f' L',k md r f' L'→r= []∧OwD P w0 l R ts a d z n listed' f' L' N)→vcL P w0 l.toArray false (.sof R [] []) (jo_ l is) f L k→OwD P w0 l R ts a d z (is.length+n) listed f L N
 | [],listed,listed',f,L,hc,hk,h=>by
  cases hc
  rw[List.length_nil,Nat.zero_add]
  exact(hk _ _ _ _ h).2
 |i::is,listed,listed',f,L,hc,hk,h=>by
  obtain⟨hc1,hc2⟩:=WG_ hc
  rw[jY_] at h
  cases ho:jt_ l i with
  |none=>unfold Vm_ at hc1;rw[ho] at hc1;cases hc1
  |some o=>
   rw[ho,j0_] at h
   unfold vcL at h
   rw[List.length_cons,show is.length+1+n=(is.length+n)+1 by omega]
   cases hs:zg_ l.toArray f o with
   |true=>
    rw[hs] at h
    have hw0:Region.wanted o (yielded l.toArray (act f).tmps)=false:=by rw[zu_,hs];rfl
    exact OwD.step hD ho hc1 (v:=undef) (.inr ⟨hw0,rfl⟩) (OwD.runs hD is hc2 hk h)
   |false=>
    rw[hs] at h
    have hw0:Region.wanted o (yielded l.toArray (act f).tmps)=true:=by rw[zu_,hs];rfl
    simp only[ib,vcB] at h
    split at h
    ·cases hrd:w5_ (.sof R [] []) f o.op with
     |false=>rw[hrd] at h;exact absurd (hk _ _ _ _ h).1 (by simp)
     |true=>
      rw[hrd] at h
      simp only at h
      cases hv:jz_ P w0 L f o.op with
      |none=>rw[hv] at h;exact absurd (hk _ _ _ _ h).1 (by simp)
      |some v=>
       rw[hv] at h
       refine OwD.step hD ho hc1 (v:=v) (.inl ⟨hw0,fun w hw=> ?_⟩) (OwD.runs hD is hc2 hk h)
       rw[z7_]
       rcases hw with hp|hw
       ·exact zS_ (Hp.refl w) (qI_ hp hv w)
       ·exact zS_ (Hp.refl w) (xd_ hrd hv hw)
    ·exact absurd (hk _ _ _ _ h).1 (by simp)
    ·exact absurd (hk _ _ _ _ h).1 (by simp)
theorem OwD.run (is:List Nat) (listed':List Bool) (n:Nat) {m:Nat} (hm:m=is.length+n) (hD:Drift P l ts a d z) (hc:Vm_ P l ts a is listed=some listed')
  (h: ∀k:Md→List Oper→Fr→za_→Prop,(∀md f L,OwD P w0 l R ts a d z n listed' f L N→k md [] f L)→nl (jo_ l is) fun l'=>vcL P w0 l.toArray false (.sof R [] []) l' f L k):OwD P w0 l R ts a d z m listed f L N:=by
 subst hm
 refine OwD.runs (k:=fun _ r f' L'=>r= []∧OwD P w0 l R ts a d z n listed' f' L' N) hD is hc (fun _ _ _ _ h=>h) ?_
 exact h _ fun _ _ _ h=>⟨rfl,h⟩
theorem Vf_ {t:TypeId} {zv:Value} {oa:Oper} {Q:Exit→Act→World→Prop} {X:Act→World→Prop} {w:World} (ha:l.toArray[a]? =some oa) (hop:oa.op= .alloc t) (hdst:oa.dst=some d) (hg:oa.guard=none) (hz:qg_ P t=some zv)
  (h:X (act (ZP_ f d (vp w.heap.size 0))) (w.alloc (.cells zv.cells t))):wpOp P l.toArray Q a X (act f) w:=by
 obtain⟨dst,op,ty,pos,after,guard⟩:=oa
 simp only at hop hdst hg
 subst hop;subst hdst;subst hg
 unfold wpOp
 simp only[ha]
 have hw:Region.wanted ⟨some d, .alloc t,ty,pos,after,none⟩ (yielded l.toArray (act f).tmps)=true:=by rw[zu_];rfl
 rw[hw]
 simp only[↓reduceIte]
 left
 unfold Oper.wp
 have hr: (execOp (act f).eval ⟨some d, .alloc t,ty,pos,after,none⟩).run P w= .ok (.value (vp w.heap.size 0)) (w.alloc (.cells zv.cells t)):=by
  simp only[execOp,Instr.alloc,Sem.run_bind,qv_ hz w,Result.andThen_ok]
  rfl
 rw[hr]
 show X ((act f).put (some d) (vp w.heap.size 0)) _
 rw[zr_]
 exact h
theorem xB_ {L':za_} (hS: ∀b,b∈R→zm_ w0 L' b=zm_ w0 L b):SR w0 R L=SR w0 R L':=by
 funext v
 unfold SR
 apply propext
 constructor
 ·intro hh b hb o ho;exact hh b hb o (by rw[←hS b hb];exact ho)
 ·intro hh b hb o ho;exact hh b hb o (by rw[hS b hb];exact ho)
def XP_ (l:List Oper) (ts:List Nat) (a:Nat) (ks:List Nat) (listed:List Bool):Bool:=
 ((Region.ready .any l.toArray listed.toArray).all fun i=>i==a||ks.contains i)&& (Region.ready .any l.toArray listed.toArray != [])&& ((Region.ready .any l.toArray (listed.set a true).toArray).all fun i=>ks.contains i)&& (Region.ready .any l.toArray (listed.set a true).toArray != [])&&ks.all fun k=>
  match jt_ l k,jt_ l a with
  |some o,some oa=>k !=a&& !ts.contains k&&o.apart l.toArray oa
  |_,_=>false
theorem OwD.softs (ks:List Nat) (hD:Drift P l ts a d z) (hs:XP_ l ts a ks listed=true)
  (h: ∀k,k∈ks→ ∀o,jt_ l k=some o→ ∀E,(E= []∨ ∃b,E= [(b,z)]∧w0.heap.size≤b∧b∉keys L)→Ow P w0 l.toArray .seq [o] f (L++E) (fun f' L''=> ∃L',(L'++E).Perm L''∧(∀r,r∈R→zm_ w0 L' r=zm_ w0 L r)∧OwD P w0 l R ts a d z n (listed.set k true) f' L' N)):
  OwD P w0 l R ts a d z (n+1) listed f L N:=by
 obtain⟨⟨oa,t,zv,ha,hop,hdst,hg,hz,rfl⟩,hats,hns⟩:=hD
 have ha':jt_ l a=some oa:=by rw[qy_];simpa using ha
 unfold XP_ at hs
 simp only[Bool.and_eq_true,List.all_eq_true,Bool.or_eq_true,beq_iff_eq,bne_iff_ne,ne_eq,List.contains_eq_mem,decide_eq_true_eq] at hs
 obtain⟨⟨⟨⟨c3,c4⟩,c5⟩,c5'⟩,c6⟩:=hs
 have hsel:=Region.noSelect_spec hns
 have hkk: ∀k,k∈ks→ ∃o,jt_ l k=some o∧k≠a∧k∉ts∧o.apart l.toArray oa=true:=by
  intro k hk
  have:=c6 k hk
  rw[ha'] at this
  cases ho:jt_ l k with
  |none=>rw[ho] at this;cases this
  |some o=>
   rw[ho] at this
   simp only[Bool.and_eq_true,Bool.not_eq_true',bne_iff_ne,ne_eq,decide_eq_false_iff_not] at this
   exact⟨o,rfl,this.1.1,this.1.2,this.2⟩
 have t2: ∀b w,w0.heap.size≤b→b∉keys L→Hp w0 (L++ [(b, .cells zv.cells t)]) w→qR_ P l.toArray (qa_ w0 N) ts (SR w0 R L) (n+1) (listed.set a true).toArray (act (ZP_ f d (vp b 0))) w:=by
  intro b w hb hbL hw
  refine⟨fun _=>SR.ofE hb hw,(fun h=>absurd h c5'), ?_⟩
  intro k hi
  have hkm:=c5 k hi
  obtain⟨o,hk,c1,c2,c7⟩:=hkk k hkm
  have hoi:l.toArray[k]? =some o:=by rw[qy_] at hk;simpa using hk
  obtain⟨q1,q2,q3⟩:=Oper.apart_spec c7
  have hset: (listed.set k true).set a true=(listed.set a true).set k true:=List.set_comm _ _ c1
  have e1:act (ZP_ f d (vp b 0))=(act f).put (some d) (vp b 0):=(zr_ f (some d) (vp b 0)).symm
  rw[e1]
  refine Zt_ hoi (fun t ht=>by cases ht;exact q3 d hdst) (fun t ht=>by cases ht;exact fun hod=>q2 d hod hdst) (hsel _ o · · hoi) (fun c a w h=>V2_ h) ?_
  refine xe_ hoi (X:=fun a' w'=>qR_ P l.toArray (qa_ w0 N) ts (SR w0 R L) n ((listed.set a true).toArray.setIfInBounds k true) (a'.put (some d) (vp b 0)) w') ?_ hw
  intro w' hw'
  refine qX_ ?_ (h k hkm o hk [(b, .cells zv.cells t)] (.inr ⟨b,rfl,hb,hbL⟩) w' hw')
  rintro f' L'' ⟨L',hpm,hR,hO⟩ w'' hw''
  have hw3:=hw''.perm hpm
  rw[zr_,zz_,←hset,xB_ hR]
  refine hO.2 b w'' hb (fun hm=> ?_) hw3
  have hnd:=hw3.nodup
  rw[zk_,List.nodup_append] at hnd
  exact hnd.2.2 b hm b (by simp[keys]) rfl
 refine⟨fun w hw=>⟨fun _=>SR.of hw,fun h=>absurd h c4,fun k hi=> ?_⟩,t2⟩
 rcases c3 k hi with rfl|hkm
 ·refine Vf_ ha hop hdst hg hz ?_
  rw[zz_]
  refine t2 _ _ hw.size (fun hm=>Nat.lt_irrefl _ (hw.lt hm)) (hw.alloc _)
 ·obtain⟨o,hk,c1,c2,c7⟩:=hkk k hkm
  have hoi:l.toArray[k]? =some o:=by rw[qy_] at hk;simpa using hk
  refine xe_ hoi (X:=qR_ P l.toArray (qa_ w0 N) ts (SR w0 R L) (n+1) (listed.toArray.setIfInBounds k true)) ?_ hw
  intro w' hw'
  have h1:=h k hkm o hk [] (.inl rfl)
  rw[List.append_nil] at h1
  refine qX_ ?_ (h1 w' hw')
  rintro f' L'' ⟨L',hpm,hR,hO⟩ w'' hw''
  rw[List.append_nil] at hpm
  rw[zz_,xB_ hR]
  exact hO.1 w'' (hw''.perm hpm)
theorem OwD.soft (k:Nat) (o:Oper) (hD:Drift P l ts a d z) (hk:jt_ l k=some o) (hs:XP_ l ts a [k] listed=true)
  (h: ∀E,(E= []∨ ∃b,E= [(b,z)]∧w0.heap.size≤b∧b∉keys L)→Ow P w0 l.toArray .seq [o] f (L++E) (fun f' L''=> ∃L',(L'++E).Perm L''∧(∀r,r∈R→zm_ w0 L' r=zm_ w0 L r)∧OwD P w0 l R ts a d z n (listed.set k true) f' L' N)):
  OwD P w0 l R ts a d z (n+1) listed f L N:=OwD.softs [k] hD hs fun k' hk' o' ho'=>by
 rw[List.mem_singleton] at hk'
 subst hk'
 rw[hk] at ho'
 cases ho'
 exact h
theorem OwD.two (k k2:Nat) (o o2:Oper) (hD:Drift P l ts a d z) (hk:jt_ l k=some o) (hk2:jt_ l k2=some o2) (hs:XP_ l ts a [k,k2] listed=true)
  (h: ∀E,(E= []∨ ∃b,E= [(b,z)]∧w0.heap.size≤b∧b∉keys L)→Ow P w0 l.toArray .seq [o] f (L++E) (fun f' L''=> ∃L',(L'++E).Perm L''∧(∀r,r∈R→zm_ w0 L' r=zm_ w0 L r)∧OwD P w0 l R ts a d z n (listed.set k true) f' L' N))
  (h2: ∀E,(E= []∨ ∃b,E= [(b,z)]∧w0.heap.size≤b∧b∉keys L)→Ow P w0 l.toArray .seq [o2] f (L++E) (fun f' L''=> ∃L',(L'++E).Perm L''∧(∀r,r∈R→zm_ w0 L' r=zm_ w0 L r)∧OwD P w0 l R ts a d z n (listed.set k2 true) f' L' N)):
  OwD P w0 l R ts a d z (n+1) listed f L N:=OwD.softs [k,k2] hD hs fun k' hk' o' ho'=>by
 simp only[List.mem_cons,List.not_mem_nil,or_false] at hk'
 rcases hk' with rfl|rfl
 ·rw[hk] at ho';cases ho';exact h
 ·rw[hk2] at ho';cases ho';exact h2
end
end Go.Sx
