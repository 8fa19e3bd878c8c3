/-
  Part 0 of the walk: contracts of the functions that the law reaches, and the calculus they stand on.
  No conditions.
-/
import Derived.WalkKit
import Derived.Deep.LoopGhost
import Derived.ScopeJumps
import Derived.Shelf.SlSortCmp.NoneTotal
set_option linter.unusedVariables false
namespace Go.Sx
open Go
abbrev zb_:=List (Nat×Obj)
def keys (L:zb_):List Nat:=L.map Prod.fst
def look:zb_→Nat→Option Obj
 | [],_=>none
 | (b,o)::r,k=>if b=k then some o else look r k
def setB:zb_→Nat→Obj→zb_
 | [],_,_=> []
 | (b,o)::r,k,x=>if b=k then(b,x)::r else(b,o)::setB r k x
theorem zw_ {L:zb_} {k:Nat} {o:Obj} (h:look L k=some o): (k,o)∈L:=by
 induction L with
 |nil=>cases h
 |cons p r ih=>
  obtain⟨b,x⟩:=p
  unfold look at h
  split at h
  ·rename_i e
   cases h;subst e;exact List.mem_cons_self
  ·exact List.mem_cons_of_mem _ (ih h)
theorem w1_ {L:zb_} {k:Nat} (h:look L k=none):k∉keys L:=by
 induction L with
 |nil=>intro h;cases h
 |cons p r ih=>
  obtain⟨b,x⟩:=p
  unfold look at h
  split at h
  ·cases h
  ·rename_i e
   intro hm
   rcases List.mem_cons.1 hm with h'|h'
   ·exact e h'.symm
   ·exact ih h h'
theorem xH_ (L:zb_) (k:Nat) (x:Obj):keys (setB L k x)=keys L:=by
 induction L with
 |nil=>rfl
 |cons p r ih=>
  obtain⟨b,o⟩:=p
  unfold setB
  split
  ·rfl
  ·simp only[keys,List.map_cons] at ih ⊢
   rw[ih]
theorem adY_ {L:zb_} (hn: (keys L).Nodup) {k b:Nat} {x o:Obj} (h: (b,o)∈setB L k x): (b=k∧o=x)∨(b≠k∧(b,o)∈L):=by
 induction L with
 |nil=>cases h
 |cons p r ih=>
  obtain⟨c,y⟩:=p
  simp only[keys,List.map_cons,List.nodup_cons] at hn
  unfold setB at h
  split at h
  ·rename_i e
   rcases List.mem_cons.1 h with h'|h'
   ·simp only[Prod.mk.injEq] at h'
    exact .inl ⟨h'.1.trans e,h'.2⟩
   ·refine .inr ⟨?_,List.mem_cons_of_mem _ h'⟩
    intro e2
    exact hn.1 (by rw[e,←e2];exact List.mem_map.2 ⟨_,h',rfl⟩)
  ·rename_i e
   rcases List.mem_cons.1 h with h'|h'
   ·simp only[Prod.mk.injEq] at h'
    refine .inr ⟨by rw[h'.1];exact e, ?_⟩
    rw[h'.1,h'.2];exact List.mem_cons_self
   ·rcases ih hn.2 h' with h2|h2
    ·exact .inl h2
    ·exact .inr ⟨h2.1,List.mem_cons_of_mem _ h2.2⟩
structure Hp (w0:World) (L:zb_) (w:World):Prop where
 has: ∀b o,(b,o)∈L→w.heap[b]? =some o
 nodup: (keys L).Nodup
 old: ∀b,b<w0.heap.size→b∉keys L→w.heap[b]? =w0.heap[b]?
 size:w0.heap.size≤w.heap.size
 tape:w.tape=w0.tape
 os:w.os=w0.os
 output:w.output=w0.output
theorem Hp.refl (w:World):Hp w [] w:=
 ⟨fun _ _ h=>(by cases h),List.nodup_nil,fun _ _ _=>rfl,Nat.le_refl _,rfl,rfl,rfl⟩
theorem Hp.lt {w0 w:World} {L:zb_} (h:Hp w0 L w) {b:Nat} (hb:b∈keys L):b<w.heap.size:=by
 obtain⟨p,hp,rfl⟩:=List.mem_map.1 hb
 have:=h.has p.1 p.2 hp
 exact(Array.getElem?_eq_some_iff.1 this).1
theorem Hp.of_heap {w0 w w':World} {L:zb_} (h:Hp w0 L w) (hh:w'.heap=w.heap) (ht:w'.tape=w.tape) (ho:w'.os=w.os) (hu:w'.output=w.output):Hp w0 L w':=
 ⟨by rw[hh];exact h.has,h.nodup,by rw[hh];exact h.old,by rw[hh];exact h.size,ht.trans h.tape,ho.trans h.os,hu.trans h.output⟩
theorem Hp.drew {w0 w:World} {L:zb_} (h:Hp w0 L w):Hp w0 L w.drew:=h.of_heap rfl rfl rfl rfl
theorem Hp.alloc {w0 w:World} {L:zb_} (h:Hp w0 L w) (o:Obj):Hp w0 (L++ [(w.heap.size,o)]) (w.alloc o):=by
 have hk: ∀b,b∈keys (L++ [(w.heap.size,o)])→b∈keys L∨b=w.heap.size:=by
  intro b hb
  simp only[keys,List.map_append,List.map_cons,List.map_nil,List.mem_append,List.mem_singleton] at hb
  exact hb
 refine⟨?_, ?_, ?_, ?_,h.tape,h.os,h.output⟩
 ·intro b x hm
  rcases List.mem_append.1 hm with hm|hm
  ·have hlt:b<w.heap.size:=h.lt (List.mem_map.2 ⟨_,hm,rfl⟩)
   rw[RowKit.Below.heap_alloc w o b hlt];exact h.has b x hm
  ·simp only[List.mem_singleton,Prod.mk.injEq] at hm
   rw[hm.1,hm.2];exact(by show(w.heap.push o)[w.heap.size]? =some o;simp)
 ·simp only[keys,List.map_append,List.map_cons,List.map_nil]
  refine List.nodup_append.2 ⟨h.nodup,List.pairwise_singleton _ _, ?_⟩
  intro a ha b hb
  simp only[List.mem_singleton] at hb
  have:=h.lt ha
  omega
 ·intro b hb hn
  rw[RowKit.Below.heap_alloc w o b (Nat.lt_of_lt_of_le hb h.size)]
  refine h.old b hb (fun hm=>hn ?_)
  simp only[keys,List.map_append,List.mem_append]
  exact .inl hm
 ·rw[World.size_alloc];have:=h.size;omega
theorem Hp.set {w0 w w':World} {L:zb_} (h:Hp w0 L w) {b:Nat} {x:Obj} (hb:b∈keys L) (hh:w'.heap=w.heap.setIfInBounds b x)
  (ht:w'.tape=w.tape) (ho:w'.os=w.os) (hu:w'.output=w.output):Hp w0 (setB L b x) w':=by
 have hlt:=h.lt hb
 refine⟨?_,by rw[xH_];exact h.nodup, ?_, ?_,ht.trans h.tape,ho.trans h.os,hu.trans h.output⟩
 ·intro c o hm
  rw[hh]
  rcases adY_ h.nodup hm with⟨rfl,rfl⟩ | ⟨hne,hm'⟩
  ·simp[hlt]
  ·rw[Array.getElem?_setIfInBounds_ne (Ne.symm hne)];exact h.has c o hm'
 ·intro c hc hn
  rw[xH_] at hn
  have hne:b≠c:=fun e=>hn (e▸hb)
  rw[hh,Array.getElem?_setIfInBounds_ne hne]
  exact h.old c hc hn
 ·rw[hh];simpa using h.size
theorem Hp.own {w0 w:World} {L:zb_} (h:Hp w0 L w) {b:Nat} {o:Obj} (hb:w0.heap[b]? =some o) (hn:b∉keys L):Hp w0 (L++ [(b,o)]) w:=by
 have hlt:b<w0.heap.size:=(Array.getElem?_eq_some_iff.1 hb).1
 refine⟨?_, ?_, ?_,h.size,h.tape,h.os,h.output⟩
 ·intro c x hm
  rcases List.mem_append.1 hm with hm|hm
  ·exact h.has c x hm
  ·simp only[List.mem_singleton,Prod.mk.injEq] at hm
   rw[hm.1,hm.2,h.old b hlt hn];exact hb
 ·simp only[keys,List.map_append,List.map_cons,List.map_nil]
  refine List.nodup_append.2 ⟨h.nodup,List.pairwise_singleton _ _, ?_⟩
  intro a ha c hc
  simp only[List.mem_singleton] at hc
  subst hc
  exact fun e=>hn (e▸ha)
 ·intro c hc hm
  exact h.old c hc (fun hm'=>hm (by simp only[keys,List.map_append,List.mem_append];exact .inl hm'))
theorem Hp.drop {w0 w:World} {L M:zb_} (h:Hp w0 L w) (hM: ∀p∈M,p∈L) (hn: (keys M).Nodup) (hold: ∀p∈L,p.1<w0.heap.size→p.1∉keys M→w0.heap[p.1]? =some p.2):Hp w0 M w:=by
 refine⟨fun b o hm=>h.has b o (hM _ hm),hn, ?_,h.size,h.tape,h.os,h.output⟩
 intro b hb hm
 by_cases hk:b∈keys L
 ·obtain⟨p,hp,rfl⟩:=List.mem_map.1 hk
  rw[h.has _ _ hp,hold p hp hb hm]
 ·exact h.old b hb hk
theorem Hp.trans {w0 w w':World} {L D:zb_} (h:Hp w0 L w) (k:Hp w D w'):Hp w0 (L.filter (fun p=> !(keys D).contains p.1)++D) w':=by
 have hf: ∀b,b∈keys (L.filter (fun p=> !(keys D).contains p.1))↔b∈keys L∧b∉keys D:=by
  intro b
  constructor
  ·intro hb
   obtain⟨p,hp,rfl⟩:=List.mem_map.1 hb
   have:=List.mem_filter.1 hp
   refine⟨List.mem_map.2 ⟨p,this.1,rfl⟩, ?_⟩
   simpa using this.2
  ·rintro⟨hb,hn⟩
   obtain⟨p,hp,rfl⟩:=List.mem_map.1 hb
   exact List.mem_map.2 ⟨p,List.mem_filter.2 ⟨hp,by simpa using hn⟩,rfl⟩
 refine⟨?_, ?_, ?_,Nat.le_trans h.size k.size,k.tape.trans h.tape,k.os.trans h.os,k.output.trans h.output⟩
 ·intro b o hm
  rcases List.mem_append.1 hm with hm|hm
  ·have hb:b∈keys (L.filter (fun p=> !(keys D).contains p.1)):=List.mem_map.2 ⟨_,hm,rfl⟩
   have hb':=(hf b).1 hb
   rw[k.old b (h.lt hb'.1) hb'.2]
   exact h.has b o (List.mem_filter.1 hm).1
  ·exact k.has b o hm
 ·simp only[keys,List.map_append]
  refine List.nodup_append.2 ⟨?_,k.nodup, ?_⟩
  ·exact List.Nodup.sublist (List.Sublist.map _ List.filter_sublist) h.nodup
  ·intro a ha b hb e
   exact((hf a).1 ha).2 (e▸hb)
 ·intro b hb hn
  have hn':b∉keys L∧b∉keys D:=by
   simp only[keys,List.map_append,List.mem_append,not_or] at hn
   have hD:b∉keys D:=hn.2
   exact⟨fun hm=>hn.1 ((hf b).2 ⟨hm,hD⟩),hD⟩
  rw[k.old b (Nat.lt_of_lt_of_le hb h.size) hn'.2]
  exact h.old b hb hn'.1
theorem Hp.trans_nil {w0 w w':World} {L:zb_} (h:Hp w0 L w) (k:Hp w [] w'):Hp w0 L w':=by
 have:=h.trans k
 rwa [show L.filter (fun p=> !(keys ([]:zb_)).contains p.1)++ []=L from by simp[keys]] at this
def zk_ (w0:World) (L:zb_) (b:Nat):Option Obj:=
 match look L b with
 |some o=>some o
 |none=>w0.heap[b]?
theorem Hp.read {w0 w:World} {L:zb_} (h:Hp w0 L w) {b:Nat} {o:Obj} (hr:zk_ w0 L b=some o):w.heap[b]? =some o:=by
 unfold zk_ at hr
 split at hr
 ·rename_i o' hl
  cases hr
  exact h.has _ _ (zw_ hl)
 ·rename_i hl
  rw[h.old b (Array.getElem?_eq_some_iff.1 hr).1 (w1_ hl)]
  exact hr
abbrev Fr:=List Value
def vW_:Fr→Nat→Value
 | [],_=>undef
 |v::_,0=>v
 |_::r,n+1=>vW_ r n
def K6_:Fr→Nat→Value→Fr
 | [],_,_=> []
 |_::r,0,x=>x::r
 |v::r,n+1,x=>v::K6_ r n x
def qd_ (f:Fr):Option Tmp→Value→Fr
 |some d,v=>K6_ f d v
 |none,_=>f
def ev (f:Fr):Operand→Value
 | .tmp t=>vW_ f t
 | .const v=>v
 | .global g=> .pointer (some ⟨g,0,none⟩)
 | .func k=> .func (.func k) #[] #[]
theorem Vn_ (f:Fr) (t:Nat):f.toArray.getD t undef=vW_ f t:=by
 rw[Array.getD_eq_getD_getElem?,List.getElem?_toArray]
 induction f generalizing t with
 |nil=>rfl
 |cons v r ih=>cases t<;>simp[vW_,ih]
theorem ajY_ (f:Fr) (d:Nat) (v:Value):f.toArray.setIfInBounds d v=(K6_ f d v).toArray:=by
 rw[List.setIfInBounds_toArray]
 congr 1
 induction f generalizing d with
 |nil=>rfl
 |cons x r ih=>cases d<;>simp[K6_,ih]
def act (f:Fr):Act:=⟨f.toArray,[]⟩
theorem ael_ (f:Fr) (x:Operand): (act f).eval x=ev f x:=by
 cases x with
 |tmp t=>exact Vn_ f t
 |_=>rfl
theorem q0_ (f:Fr): (act f).eval=ev f:=funext (ael_ f)
theorem z1_ (f:Fr) (d:Option Tmp) (v:Value): (act f).put d v=act (qd_ f d v):=by
 cases d with
 |none=>rfl
 |some d=>simp only[act,Act.put,qd_,ajY_]
theorem QL_ {a:Act} (h:a.defers= []):a=act a.tmps.toList:=by
 cases a with
 |mk t d=>simp only at h;subst h;simp[act]
abbrev xp_:=Exit→Fr→zb_→Prop
def post (w0:World) (K:xp_) (e:Exit) (a:Act) (w:World):Prop:=a.defers= []∧ ∃L,Hp w0 L w∧K e a.tmps.toList L
def Cw (P:Program) (w0:World) (c:Code) (f:Fr) (L:zb_) (K:xp_):Prop:=
 ∀w,Hp w0 L w→c.wp P (post w0 K) (act f) w
def k2_ (N:Fr→zb_→Prop) (K:xp_):xp_
 | .normal=>N
 | .exit i=>K (.exit i)
 | .goto i=>K (.goto i)
 | .ret=>K .ret
 | .panic c=>K (.panic c)
 | .outgrown=>K .outgrown
def xX_ (id:Nat) (K:xp_):xp_
 | .normal=>K .normal
 | .exit i=>if i=id then K .normal else K (.exit i)
 | .goto i=>K (.goto i)
 | .ret=>K .ret
 | .panic c=>K (.panic c)
 | .outgrown=>K .outgrown
section
variable {P:Program} {w0:World} {f:Fr} {L:zb_} {K:xp_}
theorem Cw.mono {c:Code} {K':xp_} (h:Cw P w0 c f L K) (hk: ∀e f L,K e f L→K' e f L):Cw P w0 c f L K':=
 fun w hw=>wp_mono (h w hw) fun _ _ _ ⟨hd,L',hp,k⟩=>⟨hd,L',hp,hk _ _ _ k⟩
theorem Cw.seq {x y:Code} (h:Cw P w0 x f L (k2_ (fun f L=>Cw P w0 y f L K) K)):Cw P w0 (.seq x y) f L K:=by
 intro w hw
 refine wp_seq (wp_mono (h w hw) ?_)
 rintro e a w' ⟨hd,L',hp,k⟩
 cases e with
 |normal=>
  have:=k w' hp
  rw[←QL_ hd] at this
  exact this
 |_=>exact⟨hd,L',hp,k⟩
theorem Cw.skip (h:K .normal f L):Cw P w0 .skip f L K:=fun w hw=>wp_skip ⟨rfl,L,hw,by simpa [act] using h⟩
theorem Cw.label {l:Nat} (h:K .normal f L):Cw P w0 (.label l) f L K:=fun w hw=>wp_label ⟨rfl,L,hw,by simpa [act] using h⟩
theorem Cw.exit {i:Nat} (h:K (.exit i) f L):Cw P w0 (.exit i) f L K:=fun w hw=>wp_exit ⟨rfl,L,hw,by simpa [act] using h⟩
theorem Cw.goto {i:Nat} (h:K (.goto i) f L):Cw P w0 (.goto i) f L K:=fun w hw=>wp_goto ⟨rfl,L,hw,by simpa [act] using h⟩
theorem Cw.ret (h:K .ret f L):Cw P w0 .ret f L K:=fun w hw=>wp_ret ⟨rfl,L,hw,by simpa [act] using h⟩
theorem Cw.cond {c:Operand} {x y:Code} {b:Bool} (hc:ev f c= .bool b) (ht:b=true→Cw P w0 x f L K) (he:b=false→Cw P w0 y f L K):Cw P w0 (.cond c x y) f L K:=by
 intro w hw
 have hc': (act f).eval c= .bool b:=(ael_ f c).trans hc
 cases b with
 |true=>exact wp_cond_true hc' (ht rfl w hw)
 |false=>exact wp_cond_false hc' (he rfl w hw)
theorem Cw.block {id:Nat} {c:Code} (h:Cw P w0 c f L (xX_ id K)):Cw P w0 (.block id c) f L K:=by
 intro w hw
 refine wp_block (wp_mono (h w hw) ?_)
 rintro e a w' ⟨hd,L',hp,k⟩
 cases e with
 |exit i=>
  simp only[Exit.inBlock]
  simp only[xX_] at k
  split
  ·rename_i e;rw[if_pos e] at k;exact⟨hd,L',hp,k⟩
  ·rename_i e;rw[if_neg e] at k;exact⟨hd,L',hp,k⟩
 |_=>exact⟨hd,L',hp,k⟩
theorem Cw.loop {c:Code} (I:Nat→Fr→zb_→Prop) (n0:Nat) (h0:I n0 f L)
  (round: ∀n f L,I n f L→Cw P w0 c f L (k2_ (fun f' L'=> ∃n',n'<n∧I n' f' L') K)):Cw P w0 (.loop c) f L K:=by
 intro w hw
 refine wp_loop_ghost (fun n a w=>a.defers= []∧ ∃L,Hp w0 L w∧I n a.tmps.toList L) n0 ⟨rfl,L,hw,by simpa [act] using h0⟩ ?_
 rintro n a w ⟨hd,L,hp,hI⟩
 have:=round n _ _ hI w hp
 rw[←QL_ hd] at this
 refine wp_mono this ?_
 rintro e a' w' ⟨hd',L',hp',k⟩
 cases e with
 |normal=>
  obtain⟨n',hlt,hI'⟩:=k
  exact⟨n',hlt,hd',L',hp',hI'⟩
 |_=>exact⟨hd',L',hp',k⟩
end
def over (j:Nat→Value) (M:List Nat) (f:Fr):Fr:=f.zipIdx.map fun p=>if M.contains p.2 then j p.2 else p.1
def pin (f:Fr):List (Nat×Value)→Fr
 | []=>f
 | (t,v)::r=>pin (K6_ f t v) r
def qE_ (j:Nat→Value) (M:List Nat):Nat→Fr→Fr
 |_,[]=> []
 |n,v::r=>(if M.contains n then j n else v)::qE_ j M (n+1) r
def Again {G:Type} (M:List Nat) (S:G→List (Nat×Value)) (H:G→zb_) (J:G→Prop) (μ:G→Nat) (f:Fr) (g:G) (f':Fr) (L':zb_):Prop:=
 ∃g',μ g'<μ g∧J g'∧L'=H g'∧f'=pin (qE_ (vW_ f') M 0 f) (S g')
theorem Again.mk {G:Type} {M:List Nat} {S:G→List (Nat×Value)} {H:G→zb_} {J:G→Prop} {μ:G→Nat} {f:Fr} {g:G} {f':Fr} {L':zb_} (g':G)
  (hμ:μ g'<μ g) (hJ:J g') (hL:L'=H g') (hf:f'=pin (qE_ (vW_ f') M 0 f) (S g')):Again M S H J μ f g f' L':=⟨g',hμ,hJ,hL,hf⟩
section
variable {P:Program} {w0:World} {f:Fr} {L:zb_} {K:xp_}
theorem Cw.loopG {c:Code} {G:Type} (M:List Nat) (S:G→List (Nat×Value)) (H:G→zb_) (J:G→Prop) (μ:G→Nat) (g0:G)
  (hf:f=pin (qE_ (vW_ f) M 0 f) (S g0)) (hL:L=H g0) (hJ:J g0)
  (round: ∀ (g:G) (j:Nat→Value),J g→Cw P w0 c (pin (qE_ j M 0 f) (S g)) (H g)
   (k2_ (Again M S H J μ f g) K)):Cw P w0 (.loop c) f L K:=by
 refine Cw.loop (fun n f' L'=> ∃g j,n=μ g∧J g∧L'=H g∧f'=pin (qE_ j M 0 f) (S g)) (μ g0) ⟨g0,vW_ f,rfl,hJ,hL,hf⟩ ?_
 rintro n f' L' ⟨g,j,rfl,hg,rfl,rfl⟩
 refine(round g j hg).mono ?_
 intro e f'' L'' k
 cases e with
 |normal=>
  obtain⟨g',h1,h2,h3,h4⟩:=k
  exact⟨_,h1,g',vW_ f'',rfl,h2,h3,h4⟩
 |_=>exact k
end
end Go.Sx
section
namespace Go.Sx
set_option linter.unusedSimpArgs false
open Go
def Z1_ (op:BinOp) (k:IntKind) (a b:BitVec k.bits):Option (BitVec k.bits):=
 match op with
 | .and=>some (a&&&b)
 | .or=>some (a|||b)
 | .xor=>some (a^^^b)
 | .andNot=>some (a&&& ~~~b)
 |_=>none
def wW_ (op:BinOp) (a b:Int):Option Value:=
 match op with
 | .eql=>some (.bool (a==b))
 | .neq=>some (.bool (a !=b))
 | .lss=>some (.bool (decide (a<b)))
 | .leq=>some (.bool (decide (a≤b)))
 | .gtr=>some (.bool (decide (a>b)))
 | .geq=>some (.bool (decide (a≥b)))
 |_=>none
def jn_ (op:BinOp) (k:IntKind) (a b:Int):Option Value:=
 match op with
 | .add=>some (.int k (k.wrap (a+b)))
 | .sub=>some (.int k (k.wrap (a - b)))
 | .mul=>some (.int k (k.wrap (a*b)))
 | .quo=>if b=0 then none else some (.int k (k.wrap (a.tdiv b)))
 | .rem=>if b=0 then none else some (.int k (a.tmod b))
 | .and=>(Z1_ .and k (BitVec.ofInt k.bits a) (BitVec.ofInt k.bits b)).map fun r=> .int k (k.wrap (r.toNat:Int))
 | .or=>(Z1_ .or k (BitVec.ofInt k.bits a) (BitVec.ofInt k.bits b)).map fun r=> .int k (k.wrap (r.toNat:Int))
 | .xor=>(Z1_ .xor k (BitVec.ofInt k.bits a) (BitVec.ofInt k.bits b)).map fun r=> .int k (k.wrap (r.toNat:Int))
 | .andNot=>(Z1_ .andNot k (BitVec.ofInt k.bits a) (BitVec.ofInt k.bits b)).map fun r=> .int k (k.wrap (r.toNat:Int))
 |op=>wW_ op a b
def xV_ (op:BinOp) (k:IntKind) (a b:Int):Option Value:=
 if b<0 then none else
  match op with
  | .shl=>some (.int k (k.wrap (a*2^ (min b.toNat k.bits))))
  | .shr=>some (.int k (a.fdiv (2^ (min b.toNat k.bits))))
  |_=>none
def strV (op:BinOp) (a b:ByteArray):Option Value:=
 let eq:=a.toList==b.toList
 let lt:=Op.bytesLess a.toList b.toList
 match op with
 | .add=>if a.size+b.size≤9223372036854775807 then some (.string (a++b)) else none
 | .eql=>some (.bool eq)
 | .neq=>some (.bool !eq)
 | .lss=>some (.bool lt)
 | .leq=>some (.bool (lt||eq))
 | .gtr=>some (.bool !(lt||eq))
 | .geq=>some (.bool !lt)
 |_=>none
def zj_ (op:BinOp) (x y:Value):Option Value:=
 match x,y with
 | .int k a, .int k' b=>
  match op with
  | .shl=>xV_ .shl k a b
  | .shr=>xV_ .shr k a b
  |op=>if k=k' then jn_ op k a b else none
 | .string a, .string b=>strV op a b
 |_,_=>none
def unV (op:UnOp) (x:Value):Option Value:=
 match op,x with
 | .neg, .int k n=>some (.int k (k.wrap (0 - n)))
 | .xor, .int k n=>(Z1_ .xor k (BitVec.ofInt k.bits (if k.signed then -1 else k.max)) (BitVec.ofInt k.bits n)).map fun r=> .int k (k.wrap (r.toNat:Int))
 | .not, .bool b=>some (.bool !b)
 |_,_=>none
def z4_ (k:IntKind) (x:Value):Option Value:=
 match x with
 | .int _ n=>some (.int k (k.wrap n))
 |_=>none
theorem adU_ {P:Program} {op:BinOp} {t:TypeId} {x y v:Value} (w:World) (h:zj_ op x y=some v): (binOp op t x y).run P w= .ok v w:=by
 unfold zj_ at h
 split at h
 ·rename_i k a k' b
  split at h
  ·unfold xV_ at h
   split at h
   ·cases h
   ·rename_i hb
    simp only[Option.some.injEq] at h;subst h
    simp only[binOp,Op.shift,hb, ↓reduceIte];rfl
  ·unfold xV_ at h
   split at h
   ·cases h
   ·rename_i hb
    simp only[Option.some.injEq] at h;subst h
    simp only[binOp,Op.shift,hb, ↓reduceIte];rfl
  ·rename_i h1 h2
   split at h
   ·rename_i hk
    subst hk
    cases op<;>simp only[jn_,Z1_,wW_,Option.map_some,Option.some.injEq,reduceCtorEq] at h<;>first
     | (subst h;simp only[binOp,Op.intArith,Op.intBits,Op.intCmp,ne_eq,not_true_eq_false, ↓reduceIte];rfl)
     | (
       split at h
       ·cases h
       ·rename_i hb
        simp only[Option.some.injEq] at h;subst h
        simp only[binOp,Op.intDiv,ne_eq,not_true_eq_false, ↓reduceIte,hb];rfl)
     | (exact(h1 rfl).elim)
     | (exact(h2 rfl).elim)
   ·cases h
 ·rename_i a b
  have hm: (9223372036854775807:Int)=IntKind.i64.max:=by decide
  cases op<;>simp only[strV,reduceCtorEq,Option.some.injEq] at h<;>first
   | (subst h;simp only[binOp,Op.stringOp];rfl)
   | (
     split at h
     ·rename_i hs
      simp only[Option.some.injEq] at h;subst h
      have h0: ¬ (((a.size+b.size:Nat):Int)>IntKind.i64.max):=by rw[←hm];omega
      simp only[binOp,Op.stringOp,h0, ↓reduceIte];rfl
     ·cases h)
 ·cases h
theorem anj_ {P:Program} {op:UnOp} {x v:Value} (w:World) (h:unV op x=some v): (Op.unary op x).run P w= .ok v w:=by
 unfold unV at h
 split at h
 ·simp only[Option.some.injEq] at h;subst h;rfl
 ·simp only[Z1_,Option.map_some,Option.some.injEq] at h;subst h;rfl
 ·simp only[Option.some.injEq] at h;subst h;rfl
 ·cases h
theorem jB_ (n:Int) (h: -9223372036854775808≤n∧n≤9223372036854775807):IntKind.wrap .i64 n=n:=by
 simp only[IntKind.wrap,IntKind.bits,IntKind.signed,Bool.true_and]
 split<;>rename_i h'<;>simp only[ge_iff_le,decide_eq_true_eq,Int.not_le] at h'<;>omega
theorem VB_ (n:Int):IntKind.wrap .u8 n=((UInt8.ofInt n).toNat:Int):=by
 simp only[IntKind.wrap,IntKind.bits,IntKind.signed,Bool.false_and,Bool.false_eq_true, ↓reduceIte]
 rw[show UInt8.ofInt n=UInt8.ofNat (n%2^8).toNat from rfl,UInt8.toNat_ofNat']
 omega
theorem Xr_ (n:Int):IntKind.wrap .u16 n=((UInt16.ofInt n).toNat:Int):=by
 simp only[IntKind.wrap,IntKind.bits,IntKind.signed,Bool.false_and,Bool.false_eq_true, ↓reduceIte]
 rw[show UInt16.ofInt n=UInt16.ofNat (n%2^16).toNat from rfl,UInt16.toNat_ofNat']
 omega
theorem Xk_ (n:Int):IntKind.wrap .u32 n=((UInt32.ofInt n).toNat:Int):=by
 simp only[IntKind.wrap,IntKind.bits,IntKind.signed,Bool.false_and,Bool.false_eq_true, ↓reduceIte]
 rw[show UInt32.ofInt n=UInt32.ofNat (n%2^32).toNat from rfl,UInt32.toNat_ofNat']
 omega
theorem Xf_ (n:Int):IntKind.wrap .u64 n=((UInt64.ofInt n).toNat:Int):=by
 simp only[IntKind.wrap,IntKind.bits,IntKind.signed,Bool.false_and,Bool.false_eq_true, ↓reduceIte]
 rw[show UInt64.ofInt n=UInt64.ofNat (n%2^64).toNat from rfl,UInt64.toNat_ofNat']
 omega
def vi (n:Int):Value:= .int .i64 n
theorem aoG_ (n:Int):Value.int .i64 n=vi n:=(rfl)
theorem ahf_ (a b:Int) (h: -9223372036854775808≤a+b∧a+b≤9223372036854775807):zj_ .add (vi a) (vi b)=some (vi (a+b)):=by
 simp only[zj_,vi,jn_, ↓reduceIte,jB_ _ h]
theorem aik_ (a b:Int) (h: -9223372036854775808≤a - b∧a - b≤9223372036854775807):zj_ .sub (vi a) (vi b)=some (vi (a - b)):=by
 simp only[zj_,vi,jn_, ↓reduceIte,jB_ _ h]
theorem WC_ (a b:Int) (h: -9223372036854775808≤a*b∧a*b≤9223372036854775807):zj_ .mul (vi a) (vi b)=some (vi (a*b)):=by
 simp only[zj_,vi,jn_, ↓reduceIte,jB_ _ h]
theorem ahP_ (a b:Int) (h:0≤a∧0<b∧a≤9223372036854775807):zj_ .quo (vi a) (vi b)=some (vi (a / b)):=by
 have h0: (b=0)=False:=by simp only[eq_iff_iff,iff_false];omega
 have e:a.tdiv b=a / b:=Int.tdiv_eq_ediv_of_nonneg h.1
 have h1:0≤a / b:=Int.ediv_nonneg h.1 (by omega)
 have h2:a / b≤a:=Int.ediv_le_self b h.1
 simp only[zj_,vi,jn_, ↓reduceIte,h0,e,jB_ (a / b) ⟨by omega,by omega⟩]
theorem ajS_ (a b:Int) (h:0≤a∧0<b):zj_ .rem (vi a) (vi b)=some (vi (a%b)):=by
 have h0: (b=0)=False:=by simp only[eq_iff_iff,iff_false];omega
 have e:a.tmod b=a%b:=Int.tmod_eq_emod_of_nonneg h.1
 simp only[zj_,vi,jn_, ↓reduceIte,h0,e]
theorem aji_ (a b:Int):zj_ .eql (vi a) (vi b)=some (.bool (a==b)):=(rfl)
theorem ajB_ (a b:Int):zj_ .neq (vi a) (vi b)=some (.bool (a !=b)):=(rfl)
theorem aic_ (a b:Int):zj_ .lss (vi a) (vi b)=some (.bool (decide (a<b))):=(rfl)
theorem ahC_ (a b:Int):zj_ .leq (vi a) (vi b)=some (.bool (decide (a≤b))):=(rfl)
theorem aiG_ (a b:Int):zj_ .gtr (vi a) (vi b)=some (.bool (decide (b<a))):=(rfl)
theorem ah8_ (a b:Int):zj_ .geq (vi a) (vi b)=some (.bool (decide (b≤a))):=(rfl)
theorem alr_ (a:Int) (h: -9223372036854775807≤a∧a≤9223372036854775807):unV .neg (vi a)=some (vi (-a)):=by
 simp only[unV,vi,Int.zero_sub,jB_ (-a) ⟨by omega,by omega⟩]
theorem apo_ (b:Bool):unV .not (.bool b)=some (.bool !b):=(rfl)
theorem aax_ (n:Int) (h: -9223372036854775808≤n∧n≤9223372036854775807):z4_ .i64 (vi n)=some (vi n):=by
 simp only[z4_,vi,jB_ _ h]
theorem ahx_ (a:Int) (kk:IntKind) (c:Nat) (h:c<63∧0≤a∧a*2^c≤9223372036854775807):zj_ .shl (vi a) (.int kk (c:Int))=some (vi (a*2^c)):=by
 have h0: ((c:Int)<0)=False:=by simp only[eq_iff_iff,iff_false];omega
 have hm:min c 64=c:=by omega
 have hp: (0:Int)≤a*2^c:=Int.mul_nonneg h.2.1 (Int.pow_nonneg (by omega))
 simp only[zj_,vi,xV_,h0, ↓reduceIte,Int.toNat_natCast,IntKind.bits,hm,jB_ (a*2^c) ⟨by omega,h.2.2⟩]
theorem an6_ (a:Int) (kk:IntKind) (c:Nat) (h:c<64∧0≤a):zj_ .shr (vi a) (.int kk (c:Int))=some (vi (a / 2^c)):=by
 have h0: ((c:Int)<0)=False:=by simp only[eq_iff_iff,iff_false];omega
 have hm:min c 64=c:=by omega
 have hp: (0:Int)≤2^c:=Int.pow_nonneg (by omega)
 simp only[zj_,vi,xV_,h0, ↓reduceIte,Int.toNat_natCast,IntKind.bits,hm,Int.fdiv_eq_ediv_of_nonneg _ hp]
def v8 (x:UInt8):Value:= .int .u8 (x.toNat:Int)
theorem VM_ (n:Nat) (h:n<256):IntKind.wrap .u8 (n:Int)=(n:Int):=by
 simp only[IntKind.wrap,IntKind.bits,IntKind.signed,Bool.false_and,Bool.false_eq_true, ↓reduceIte]
 omega
theorem jh_ (n:Nat):IntKind.wrap .u8 (n:Int)=((n%256:Nat):Int):=by
 simp only[IntKind.wrap,IntKind.bits,IntKind.signed,Bool.false_and,Bool.false_eq_true, ↓reduceIte]
 omega
theorem amv_ (x:UInt8):BitVec.ofInt (IntKind.bits .u8) (x.toNat:Int)=x.toBitVec:=by
 apply BitVec.eq_of_toNat_eq
 simp only[IntKind.bits,BitVec.ofInt_natCast,BitVec.toNat_ofNat,UInt8.toNat_toBitVec]
 exact Nat.mod_eq_of_lt x.toNat_lt
theorem aqj_ (n:Nat) (h:n<256):Value.int .u8 (no_index (@OfNat.ofNat Int n _))=v8 (@OfNat.ofNat UInt8 n _):=by
 have: ((@OfNat.ofNat UInt8 n _).toNat:Int)=(@OfNat.ofNat Int n _):=by
  have e: (@OfNat.ofNat UInt8 n _).toNat=n:=by rw[UInt8.toNat_ofNat];exact Nat.mod_eq_of_lt h
  rw[e];rfl
 rw[v8,this]
theorem ae7_ (x y:UInt8):zj_ .add (v8 x) (v8 y)=some (v8 (x+y)):=by
 simp only[zj_,v8,jn_, ↓reduceIte,UInt8.toNat_add]
 rw[←Int.natCast_add,jh_]
theorem afU_ (x y:UInt8):zj_ .mul (v8 x) (v8 y)=some (v8 (x*y)):=by
 simp only[zj_,v8,jn_, ↓reduceIte,UInt8.toNat_mul]
 rw[←Int.natCast_mul,jh_]
theorem agA_ (x y:UInt8):zj_ .sub (v8 x) (v8 y)=some (v8 (x - y)):=by
 have hx:=x.toNat_lt;have hy:=y.toNat_lt
 have e:IntKind.wrap .u8 ((x.toNat:Int) - (y.toNat:Int))=((x - y).toNat:Int):=by
  rw[UInt8.toNat_sub]
  simp only[IntKind.wrap,IntKind.bits,IntKind.signed,Bool.false_and,Bool.false_eq_true, ↓reduceIte]
  omega
 simp only[zj_,v8,jn_, ↓reduceIte,e]
theorem KC_ (x y:UInt8):zj_ .and (v8 x) (v8 y)=some (v8 (x&&&y)):=by
 simp only[zj_,v8,jn_, ↓reduceIte,Z1_,amv_,Option.map_some]
 show some (Value.int .u8 (IntKind.wrap .u8 ((x&&&y).toNat:Int)))=_
 rw[VM_ _ (x&&&y).toNat_lt]
theorem ahQ_ (x y:UInt8):zj_ .or (v8 x) (v8 y)=some (v8 (x|||y)):=by
 simp only[zj_,v8,jn_, ↓reduceIte,Z1_,amv_,Option.map_some]
 show some (Value.int .u8 (IntKind.wrap .u8 ((x|||y).toNat:Int)))=_
 rw[VM_ _ (x|||y).toNat_lt]
theorem agv_ (x y:UInt8):zj_ .xor (v8 x) (v8 y)=some (v8 (x^^^y)):=by
 simp only[zj_,v8,jn_, ↓reduceIte,Z1_,amv_,Option.map_some]
 show some (Value.int .u8 (IntKind.wrap .u8 ((x^^^y).toNat:Int)))=_
 rw[VM_ _ (x^^^y).toNat_lt]
theorem ajg_ (x:UInt8):unV .xor (v8 x)=some (v8 (~~~ x)):=by
 have hx:=x.toNat_lt
 have e: (BitVec.ofInt (IntKind.bits .u8) (IntKind.max .u8))=BitVec.allOnes 8:=rfl
 have e2: (BitVec.allOnes 8^^^x.toBitVec)=(~~~ x).toBitVec:=by rw[UInt8.toBitVec_not];exact BitVec.allOnes_xor
 simp only[unV,v8,Z1_,amv_,IntKind.signed,Bool.false_eq_true, ↓reduceIte,e,Option.map_some]
 show some (Value.int .u8 (IntKind.wrap .u8 ((BitVec.allOnes 8^^^x.toBitVec).toNat:Int)))=_
 rw[e2]
 show some (Value.int .u8 (IntKind.wrap .u8 ((~~~ x).toNat:Int)))=_
 rw[VM_ _ (~~~ x).toNat_lt]
def kP_ (x:UInt8) (n:Nat):UInt8:=UInt8.ofNat (x.toNat / 2^n)
def w0_ (x:UInt8) (n:Nat):UInt8:=UInt8.ofNat (x.toNat*2^n)
theorem afP_ (x y:UInt8):zj_ .lss (v8 x) (v8 y)=some (.bool (decide (x<y))):=by
 simp only[zj_,v8,jn_, ↓reduceIte,wW_,UInt8.lt_iff_toNat_lt,Int.ofNat_lt,Int.ofNat_le]
theorem afQ_ (x y:UInt8):zj_ .leq (v8 x) (v8 y)=some (.bool (decide (x≤y))):=by
 simp only[zj_,v8,jn_, ↓reduceIte,wW_,UInt8.le_iff_toNat_le,Int.ofNat_lt,Int.ofNat_le]
theorem agJ_ (x y:UInt8):zj_ .gtr (v8 x) (v8 y)=some (.bool (decide (y<x))):=by
 simp only[zj_,v8,jn_, ↓reduceIte,wW_,UInt8.lt_iff_toNat_lt,Int.ofNat_lt,Int.ofNat_le,gt_iff_lt,ge_iff_le]
theorem afV_ (x y:UInt8):zj_ .geq (v8 x) (v8 y)=some (.bool (decide (y≤x))):=by
 simp only[zj_,v8,jn_, ↓reduceIte,wW_,UInt8.le_iff_toNat_le,Int.ofNat_lt,Int.ofNat_le,gt_iff_lt,ge_iff_le]
theorem amH_ (x y:UInt8): ((x.toNat:Int)==(y.toNat:Int))=(x==y):=by
 rw[Bool.eq_iff_iff,beq_iff_eq,beq_iff_eq,Int.ofNat_inj,UInt8.toNat_inj]
theorem agw_ (x y:UInt8):zj_ .eql (v8 x) (v8 y)=some (.bool (x==y)):=by
 simp only[zj_,v8,jn_, ↓reduceIte,wW_,amH_]
theorem afc_ (x y:UInt8):zj_ .neq (v8 x) (v8 y)=some (.bool (x !=y)):=by
 simp only[zj_,v8,jn_, ↓reduceIte,wW_,bne,amH_]
theorem agh_ (x y:UInt8) (h:0<y.toNat):zj_ .quo (v8 x) (v8 y)=some (v8 (x / y)):=by
 have hx:=x.toNat_lt
 have e:IntKind.wrap .u8 ((x.toNat:Int).tdiv (y.toNat:Int))=((x / y).toNat:Int):=by
  rw[UInt8.toNat_div,Int.tdiv_eq_ediv_of_nonneg (by omega),←Int.natCast_ediv,jh_]
  congr 1
  exact Nat.mod_eq_of_lt (Nat.lt_of_le_of_lt (Nat.div_le_self _ _) hx)
 have h0: ((y.toNat:Int)=0)=False:=by simp only[eq_iff_iff,iff_false];omega
 simp only[zj_,v8,jn_, ↓reduceIte,h0,e]
theorem Kz_ (x y:UInt8) (h:0<y.toNat):zj_ .rem (v8 x) (v8 y)=some (v8 (x%y)):=by
 have e: ((x.toNat:Int).tmod (y.toNat:Int))=((x%y).toNat:Int):=by
  rw[UInt8.toNat_mod,Int.tmod_eq_emod_of_nonneg (by omega),Int.natCast_emod]
 have h0: ((y.toNat:Int)=0)=False:=by simp only[eq_iff_iff,iff_false];omega
 simp only[zj_,v8,jn_, ↓reduceIte,h0,e]
theorem vw_ (x:UInt8) (kk:IntKind) (c:Nat):zj_ .shr (v8 x) (.int kk (c:Int))=some (v8 (kP_ x c)):=by
 have hx:=x.toNat_lt
 have h0: ((c:Int)<0)=False:=by simp only[eq_iff_iff,iff_false];omega
 have e: ((x.toNat:Int).fdiv (2^ (min c 8)))=((kP_ x c).toNat:Int):=by
  have hp: (2:Int)^ (min c 8)=((2^ (min c 8):Nat):Int):=by rw[Int.natCast_pow];rfl
  rw[hp,Int.fdiv_eq_ediv_of_nonneg _ (Int.natCast_nonneg _),←Int.natCast_ediv,kP_,UInt8.toNat_ofNat']
  congr 1
  rw[Nat.mod_eq_of_lt (Nat.lt_of_le_of_lt (Nat.div_le_self _ _) hx)]
  by_cases hc:c≤8
  ·rw[Nat.min_eq_left hc]
  ·rw[Nat.min_eq_right (by omega),Nat.div_eq_of_lt (by simpa using hx),Nat.div_eq_of_lt]
   exact Nat.lt_of_lt_of_le (by simpa using hx) (Nat.pow_le_pow_right (by omega) (by omega:8≤c))
 simp only[zj_,v8,xV_,h0, ↓reduceIte,Int.toNat_natCast,IntKind.bits,e]
theorem ww_ (x:UInt8) (kk:IntKind) (c:Nat):zj_ .shl (v8 x) (.int kk (c:Int))=some (v8 (w0_ x c)):=by
 have h0: ((c:Int)<0)=False:=by simp only[eq_iff_iff,iff_false];omega
 have e:IntKind.wrap .u8 ((x.toNat:Int)* (2^ (min c 8)))=((w0_ x c).toNat:Int):=by
  have hp: (2:Int)^ (min c 8)=((2^ (min c 8):Nat):Int):=by rw[Int.natCast_pow];rfl
  rw[hp,←Int.natCast_mul,jh_,w0_,UInt8.toNat_ofNat']
  congr 1
  by_cases hc:c≤8
  ·rw[Nat.min_eq_left hc]
  ·rw[Nat.min_eq_right (by omega)]
   have:2^c=2^8*2^ (c - 8):=by rw[←Nat.pow_add];congr 1;omega
   rw[this,←Nat.mul_assoc,Nat.mul_right_comm]
   simp[Nat.mul_mod_left]
 simp only[zj_,v8,xV_,h0, ↓reduceIte,Int.toNat_natCast,IntKind.bits,e]
def v16 (x:UInt16):Value:= .int .u16 (x.toNat:Int)
theorem Qg_ (n:Nat) (h:n<65536):IntKind.wrap .u16 (n:Int)=(n:Int):=by
 simp only[IntKind.wrap,IntKind.bits,IntKind.signed,Bool.false_and,Bool.false_eq_true, ↓reduceIte]
 omega
theorem qS_ (n:Nat):IntKind.wrap .u16 (n:Int)=((n%65536:Nat):Int):=by
 simp only[IntKind.wrap,IntKind.bits,IntKind.signed,Bool.false_and,Bool.false_eq_true, ↓reduceIte]
 omega
theorem aeE_ (x:UInt16):BitVec.ofInt (IntKind.bits .u16) (x.toNat:Int)=x.toBitVec:=by
 apply BitVec.eq_of_toNat_eq
 simp only[IntKind.bits,BitVec.ofInt_natCast,BitVec.toNat_ofNat,UInt16.toNat_toBitVec]
 exact Nat.mod_eq_of_lt x.toNat_lt
theorem anJ_ (n:Nat) (h:n<65536):Value.int .u16 (no_index (@OfNat.ofNat Int n _))=v16 (@OfNat.ofNat UInt16 n _):=by
 have: ((@OfNat.ofNat UInt16 n _).toNat:Int)=(@OfNat.ofNat Int n _):=by
  have e: (@OfNat.ofNat UInt16 n _).toNat=n:=by rw[UInt16.toNat_ofNat];exact Nat.mod_eq_of_lt h
  rw[e];rfl
 rw[v16,this]
theorem ab0_ (x y:UInt16):zj_ .add (v16 x) (v16 y)=some (v16 (x+y)):=by
 simp only[zj_,v16,jn_, ↓reduceIte,UInt16.toNat_add]
 rw[←Int.natCast_add,qS_]
theorem adw_ (x y:UInt16):zj_ .mul (v16 x) (v16 y)=some (v16 (x*y)):=by
 simp only[zj_,v16,jn_, ↓reduceIte,UInt16.toNat_mul]
 rw[←Int.natCast_mul,qS_]
theorem acg_ (x y:UInt16):zj_ .sub (v16 x) (v16 y)=some (v16 (x - y)):=by
 have hx:=x.toNat_lt;have hy:=y.toNat_lt
 have e:IntKind.wrap .u16 ((x.toNat:Int) - (y.toNat:Int))=((x - y).toNat:Int):=by
  rw[UInt16.toNat_sub]
  simp only[IntKind.wrap,IntKind.bits,IntKind.signed,Bool.false_and,Bool.false_eq_true, ↓reduceIte]
  omega
 simp only[zj_,v16,jn_, ↓reduceIte,e]
theorem abG_ (x y:UInt16):zj_ .and (v16 x) (v16 y)=some (v16 (x&&&y)):=by
 simp only[zj_,v16,jn_, ↓reduceIte,Z1_,aeE_,Option.map_some]
 show some (Value.int .u16 (IntKind.wrap .u16 ((x&&&y).toNat:Int)))=_
 rw[Qg_ _ (x&&&y).toNat_lt]
theorem agK_ (x y:UInt16):zj_ .or (v16 x) (v16 y)=some (v16 (x|||y)):=by
 simp only[zj_,v16,jn_, ↓reduceIte,Z1_,aeE_,Option.map_some]
 show some (Value.int .u16 (IntKind.wrap .u16 ((x|||y).toNat:Int)))=_
 rw[Qg_ _ (x|||y).toNat_lt]
theorem acE_ (x y:UInt16):zj_ .xor (v16 x) (v16 y)=some (v16 (x^^^y)):=by
 simp only[zj_,v16,jn_, ↓reduceIte,Z1_,aeE_,Option.map_some]
 show some (Value.int .u16 (IntKind.wrap .u16 ((x^^^y).toNat:Int)))=_
 rw[Qg_ _ (x^^^y).toNat_lt]
theorem agr_ (x:UInt16):unV .xor (v16 x)=some (v16 (~~~ x)):=by
 have hx:=x.toNat_lt
 have e: (BitVec.ofInt (IntKind.bits .u16) (IntKind.max .u16))=BitVec.allOnes 16:=rfl
 have e2: (BitVec.allOnes 16^^^x.toBitVec)=(~~~ x).toBitVec:=by rw[UInt16.toBitVec_not];exact BitVec.allOnes_xor
 simp only[unV,v16,Z1_,aeE_,IntKind.signed,Bool.false_eq_true, ↓reduceIte,e,Option.map_some]
 show some (Value.int .u16 (IntKind.wrap .u16 ((BitVec.allOnes 16^^^x.toBitVec).toNat:Int)))=_
 rw[e2]
 show some (Value.int .u16 (IntKind.wrap .u16 ((~~~ x).toNat:Int)))=_
 rw[Qg_ _ (~~~ x).toNat_lt]
def kG_ (x:UInt16) (n:Nat):UInt16:=UInt16.ofNat (x.toNat / 2^n)
def kt_ (x:UInt16) (n:Nat):UInt16:=UInt16.ofNat (x.toNat*2^n)
theorem abk_ (x y:UInt16):zj_ .lss (v16 x) (v16 y)=some (.bool (decide (x<y))):=by
 simp only[zj_,v16,jn_, ↓reduceIte,wW_,UInt16.lt_iff_toNat_lt,Int.ofNat_lt,Int.ofNat_le]
theorem acb_ (x y:UInt16):zj_ .leq (v16 x) (v16 y)=some (.bool (decide (x≤y))):=by
 simp only[zj_,v16,jn_, ↓reduceIte,wW_,UInt16.le_iff_toNat_le,Int.ofNat_lt,Int.ofNat_le]
theorem aca_ (x y:UInt16):zj_ .gtr (v16 x) (v16 y)=some (.bool (decide (y<x))):=by
 simp only[zj_,v16,jn_, ↓reduceIte,wW_,UInt16.lt_iff_toNat_lt,Int.ofNat_lt,Int.ofNat_le,gt_iff_lt,ge_iff_le]
theorem adK_ (x y:UInt16):zj_ .geq (v16 x) (v16 y)=some (.bool (decide (y≤x))):=by
 simp only[zj_,v16,jn_, ↓reduceIte,wW_,UInt16.le_iff_toNat_le,Int.ofNat_lt,Int.ofNat_le,gt_iff_lt,ge_iff_le]
theorem ajL_ (x y:UInt16): ((x.toNat:Int)==(y.toNat:Int))=(x==y):=by
 rw[Bool.eq_iff_iff,beq_iff_eq,beq_iff_eq,Int.ofNat_inj,UInt16.toNat_inj]
theorem abl_ (x y:UInt16):zj_ .eql (v16 x) (v16 y)=some (.bool (x==y)):=by
 simp only[zj_,v16,jn_, ↓reduceIte,wW_,ajL_]
theorem adg_ (x y:UInt16):zj_ .neq (v16 x) (v16 y)=some (.bool (x !=y)):=by
 simp only[zj_,v16,jn_, ↓reduceIte,wW_,bne,ajL_]
theorem ace_ (x y:UInt16) (h:0<y.toNat):zj_ .quo (v16 x) (v16 y)=some (v16 (x / y)):=by
 have hx:=x.toNat_lt
 have e:IntKind.wrap .u16 ((x.toNat:Int).tdiv (y.toNat:Int))=((x / y).toNat:Int):=by
  rw[UInt16.toNat_div,Int.tdiv_eq_ediv_of_nonneg (by omega),←Int.natCast_ediv,qS_]
  congr 1
  exact Nat.mod_eq_of_lt (Nat.lt_of_le_of_lt (Nat.div_le_self _ _) hx)
 have h0: ((y.toNat:Int)=0)=False:=by simp only[eq_iff_iff,iff_false];omega
 simp only[zj_,v16,jn_, ↓reduceIte,h0,e]
theorem adH_ (x y:UInt16) (h:0<y.toNat):zj_ .rem (v16 x) (v16 y)=some (v16 (x%y)):=by
 have e: ((x.toNat:Int).tmod (y.toNat:Int))=((x%y).toNat:Int):=by
  rw[UInt16.toNat_mod,Int.tmod_eq_emod_of_nonneg (by omega),Int.natCast_emod]
 have h0: ((y.toNat:Int)=0)=False:=by simp only[eq_iff_iff,iff_false];omega
 simp only[zj_,v16,jn_, ↓reduceIte,h0,e]
theorem vk_ (x:UInt16) (kk:IntKind) (c:Nat):zj_ .shr (v16 x) (.int kk (c:Int))=some (v16 (kG_ x c)):=by
 have hx:=x.toNat_lt
 have h0: ((c:Int)<0)=False:=by simp only[eq_iff_iff,iff_false];omega
 have e: ((x.toNat:Int).fdiv (2^ (min c 16)))=((kG_ x c).toNat:Int):=by
  have hp: (2:Int)^ (min c 16)=((2^ (min c 16):Nat):Int):=by rw[Int.natCast_pow];rfl
  rw[hp,Int.fdiv_eq_ediv_of_nonneg _ (Int.natCast_nonneg _),←Int.natCast_ediv,kG_,UInt16.toNat_ofNat']
  congr 1
  rw[Nat.mod_eq_of_lt (Nat.lt_of_le_of_lt (Nat.div_le_self _ _) hx)]
  by_cases hc:c≤16
  ·rw[Nat.min_eq_left hc]
  ·rw[Nat.min_eq_right (by omega),Nat.div_eq_of_lt (by simpa using hx),Nat.div_eq_of_lt]
   exact Nat.lt_of_lt_of_le (by simpa using hx) (Nat.pow_le_pow_right (by omega) (by omega:16≤c))
 simp only[zj_,v16,xV_,h0, ↓reduceIte,Int.toNat_natCast,IntKind.bits,e]
theorem vr_ (x:UInt16) (kk:IntKind) (c:Nat):zj_ .shl (v16 x) (.int kk (c:Int))=some (v16 (kt_ x c)):=by
 have h0: ((c:Int)<0)=False:=by simp only[eq_iff_iff,iff_false];omega
 have e:IntKind.wrap .u16 ((x.toNat:Int)* (2^ (min c 16)))=((kt_ x c).toNat:Int):=by
  have hp: (2:Int)^ (min c 16)=((2^ (min c 16):Nat):Int):=by rw[Int.natCast_pow];rfl
  rw[hp,←Int.natCast_mul,qS_,kt_,UInt16.toNat_ofNat']
  congr 1
  by_cases hc:c≤16
  ·rw[Nat.min_eq_left hc]
  ·rw[Nat.min_eq_right (by omega)]
   have:2^c=2^16*2^ (c - 16):=by rw[←Nat.pow_add];congr 1;omega
   rw[this,←Nat.mul_assoc,Nat.mul_right_comm]
   simp[Nat.mul_mod_left]
 simp only[zj_,v16,xV_,h0, ↓reduceIte,Int.toNat_natCast,IntKind.bits,e]
def v32 (x:UInt32):Value:= .int .u32 (x.toNat:Int)
theorem Qi_ (n:Nat) (h:n<4294967296):IntKind.wrap .u32 (n:Int)=(n:Int):=by
 simp only[IntKind.wrap,IntKind.bits,IntKind.signed,Bool.false_and,Bool.false_eq_true, ↓reduceIte]
 omega
theorem qM_ (n:Nat):IntKind.wrap .u32 (n:Int)=((n%4294967296:Nat):Int):=by
 simp only[IntKind.wrap,IntKind.bits,IntKind.signed,Bool.false_and,Bool.false_eq_true, ↓reduceIte]
 omega
theorem aeU_ (x:UInt32):BitVec.ofInt (IntKind.bits .u32) (x.toNat:Int)=x.toBitVec:=by
 apply BitVec.eq_of_toNat_eq
 simp only[IntKind.bits,BitVec.ofInt_natCast,BitVec.toNat_ofNat,UInt32.toNat_toBitVec]
 exact Nat.mod_eq_of_lt x.toNat_lt
theorem aow_ (n:Nat) (h:n<4294967296):Value.int .u32 (no_index (@OfNat.ofNat Int n _))=v32 (@OfNat.ofNat UInt32 n _):=by
 have: ((@OfNat.ofNat UInt32 n _).toNat:Int)=(@OfNat.ofNat Int n _):=by
  have e: (@OfNat.ofNat UInt32 n _).toNat=n:=by rw[UInt32.toNat_ofNat];exact Nat.mod_eq_of_lt h
  rw[e];rfl
 rw[v32,this]
theorem abI_ (x y:UInt32):zj_ .add (v32 x) (v32 y)=some (v32 (x+y)):=by
 simp only[zj_,v32,jn_, ↓reduceIte,UInt32.toNat_add]
 rw[←Int.natCast_add,qM_]
theorem abs_ (x y:UInt32):zj_ .mul (v32 x) (v32 y)=some (v32 (x*y)):=by
 simp only[zj_,v32,jn_, ↓reduceIte,UInt32.toNat_mul]
 rw[←Int.natCast_mul,qM_]
theorem ade_ (x y:UInt32):zj_ .sub (v32 x) (v32 y)=some (v32 (x - y)):=by
 have hx:=x.toNat_lt;have hy:=y.toNat_lt
 have e:IntKind.wrap .u32 ((x.toNat:Int) - (y.toNat:Int))=((x - y).toNat:Int):=by
  rw[UInt32.toNat_sub]
  simp only[IntKind.wrap,IntKind.bits,IntKind.signed,Bool.false_and,Bool.false_eq_true, ↓reduceIte]
  omega
 simp only[zj_,v32,jn_, ↓reduceIte,e]
theorem adN_ (x y:UInt32):zj_ .and (v32 x) (v32 y)=some (v32 (x&&&y)):=by
 simp only[zj_,v32,jn_, ↓reduceIte,Z1_,aeU_,Option.map_some]
 show some (Value.int .u32 (IntKind.wrap .u32 ((x&&&y).toNat:Int)))=_
 rw[Qi_ _ (x&&&y).toNat_lt]
theorem agu_ (x y:UInt32):zj_ .or (v32 x) (v32 y)=some (v32 (x|||y)):=by
 simp only[zj_,v32,jn_, ↓reduceIte,Z1_,aeU_,Option.map_some]
 show some (Value.int .u32 (IntKind.wrap .u32 ((x|||y).toNat:Int)))=_
 rw[Qi_ _ (x|||y).toNat_lt]
theorem ac8_ (x y:UInt32):zj_ .xor (v32 x) (v32 y)=some (v32 (x^^^y)):=by
 simp only[zj_,v32,jn_, ↓reduceIte,Z1_,aeU_,Option.map_some]
 show some (Value.int .u32 (IntKind.wrap .u32 ((x^^^y).toNat:Int)))=_
 rw[Qi_ _ (x^^^y).toNat_lt]
theorem afR_ (x:UInt32):unV .xor (v32 x)=some (v32 (~~~ x)):=by
 have hx:=x.toNat_lt
 have e: (BitVec.ofInt (IntKind.bits .u32) (IntKind.max .u32))=BitVec.allOnes 32:=rfl
 have e2: (BitVec.allOnes 32^^^x.toBitVec)=(~~~ x).toBitVec:=by rw[UInt32.toBitVec_not];exact BitVec.allOnes_xor
 simp only[unV,v32,Z1_,aeU_,IntKind.signed,Bool.false_eq_true, ↓reduceIte,e,Option.map_some]
 show some (Value.int .u32 (IntKind.wrap .u32 ((BitVec.allOnes 32^^^x.toBitVec).toNat:Int)))=_
 rw[e2]
 show some (Value.int .u32 (IntKind.wrap .u32 ((~~~ x).toNat:Int)))=_
 rw[Qi_ _ (~~~ x).toNat_lt]
def qo_ (x:UInt32) (n:Nat):UInt32:=UInt32.ofNat (x.toNat / 2^n)
def jS_ (x:UInt32) (n:Nat):UInt32:=UInt32.ofNat (x.toNat*2^n)
theorem acD_ (x y:UInt32):zj_ .lss (v32 x) (v32 y)=some (.bool (decide (x<y))):=by
 simp only[zj_,v32,jn_, ↓reduceIte,wW_,UInt32.lt_iff_toNat_lt,Int.ofNat_lt,Int.ofNat_le]
theorem abT_ (x y:UInt32):zj_ .leq (v32 x) (v32 y)=some (.bool (decide (x≤y))):=by
 simp only[zj_,v32,jn_, ↓reduceIte,wW_,UInt32.le_iff_toNat_le,Int.ofNat_lt,Int.ofNat_le]
theorem abw_ (x y:UInt32):zj_ .gtr (v32 x) (v32 y)=some (.bool (decide (y<x))):=by
 simp only[zj_,v32,jn_, ↓reduceIte,wW_,UInt32.lt_iff_toNat_lt,Int.ofNat_lt,Int.ofNat_le,gt_iff_lt,ge_iff_le]
theorem aby_ (x y:UInt32):zj_ .geq (v32 x) (v32 y)=some (.bool (decide (y≤x))):=by
 simp only[zj_,v32,jn_, ↓reduceIte,wW_,UInt32.le_iff_toNat_le,Int.ofNat_lt,Int.ofNat_le,gt_iff_lt,ge_iff_le]
theorem ag3_ (x y:UInt32): ((x.toNat:Int)==(y.toNat:Int))=(x==y):=by
 rw[Bool.eq_iff_iff,beq_iff_eq,beq_iff_eq,Int.ofNat_inj,UInt32.toNat_inj]
theorem abv_ (x y:UInt32):zj_ .eql (v32 x) (v32 y)=some (.bool (x==y)):=by
 simp only[zj_,v32,jn_, ↓reduceIte,wW_,ag3_]
theorem adO_ (x y:UInt32):zj_ .neq (v32 x) (v32 y)=some (.bool (x !=y)):=by
 simp only[zj_,v32,jn_, ↓reduceIte,wW_,bne,ag3_]
theorem ac7_ (x y:UInt32) (h:0<y.toNat):zj_ .quo (v32 x) (v32 y)=some (v32 (x / y)):=by
 have hx:=x.toNat_lt
 have e:IntKind.wrap .u32 ((x.toNat:Int).tdiv (y.toNat:Int))=((x / y).toNat:Int):=by
  rw[UInt32.toNat_div,Int.tdiv_eq_ediv_of_nonneg (by omega),←Int.natCast_ediv,qM_]
  congr 1
  exact Nat.mod_eq_of_lt (Nat.lt_of_le_of_lt (Nat.div_le_self _ _) hx)
 have h0: ((y.toNat:Int)=0)=False:=by simp only[eq_iff_iff,iff_false];omega
 simp only[zj_,v32,jn_, ↓reduceIte,h0,e]
theorem ach_ (x y:UInt32) (h:0<y.toNat):zj_ .rem (v32 x) (v32 y)=some (v32 (x%y)):=by
 have e: ((x.toNat:Int).tmod (y.toNat:Int))=((x%y).toNat:Int):=by
  rw[UInt32.toNat_mod,Int.tmod_eq_emod_of_nonneg (by omega),Int.natCast_emod]
 have h0: ((y.toNat:Int)=0)=False:=by simp only[eq_iff_iff,iff_false];omega
 simp only[zj_,v32,jn_, ↓reduceIte,h0,e]
theorem k4_ (x:UInt32) (kk:IntKind) (c:Nat):zj_ .shr (v32 x) (.int kk (c:Int))=some (v32 (qo_ x c)):=by
 have hx:=x.toNat_lt
 have h0: ((c:Int)<0)=False:=by simp only[eq_iff_iff,iff_false];omega
 have e: ((x.toNat:Int).fdiv (2^ (min c 32)))=((qo_ x c).toNat:Int):=by
  have hp: (2:Int)^ (min c 32)=((2^ (min c 32):Nat):Int):=by rw[Int.natCast_pow];rfl
  rw[hp,Int.fdiv_eq_ediv_of_nonneg _ (Int.natCast_nonneg _),←Int.natCast_ediv,qo_,UInt32.toNat_ofNat']
  congr 1
  rw[Nat.mod_eq_of_lt (Nat.lt_of_le_of_lt (Nat.div_le_self _ _) hx)]
  by_cases hc:c≤32
  ·rw[Nat.min_eq_left hc]
  ·rw[Nat.min_eq_right (by omega),Nat.div_eq_of_lt (by simpa using hx),Nat.div_eq_of_lt]
   exact Nat.lt_of_lt_of_le (by simpa using hx) (Nat.pow_le_pow_right (by omega) (by omega:32≤c))
 simp only[zj_,v32,xV_,h0, ↓reduceIte,Int.toNat_natCast,IntKind.bits,e]
theorem vq_ (x:UInt32) (kk:IntKind) (c:Nat):zj_ .shl (v32 x) (.int kk (c:Int))=some (v32 (jS_ x c)):=by
 have h0: ((c:Int)<0)=False:=by simp only[eq_iff_iff,iff_false];omega
 have e:IntKind.wrap .u32 ((x.toNat:Int)* (2^ (min c 32)))=((jS_ x c).toNat:Int):=by
  have hp: (2:Int)^ (min c 32)=((2^ (min c 32):Nat):Int):=by rw[Int.natCast_pow];rfl
  rw[hp,←Int.natCast_mul,qM_,jS_,UInt32.toNat_ofNat']
  congr 1
  by_cases hc:c≤32
  ·rw[Nat.min_eq_left hc]
  ·rw[Nat.min_eq_right (by omega)]
   have:2^c=2^32*2^ (c - 32):=by rw[←Nat.pow_add];congr 1;omega
   rw[this,←Nat.mul_assoc,Nat.mul_right_comm]
   simp[Nat.mul_mod_left]
 simp only[zj_,v32,xV_,h0, ↓reduceIte,Int.toNat_natCast,IntKind.bits,e]
def v64 (x:UInt64):Value:= .int .u64 (x.toNat:Int)
theorem Qh_ (n:Nat) (h:n<18446744073709551616):IntKind.wrap .u64 (n:Int)=(n:Int):=by
 simp only[IntKind.wrap,IntKind.bits,IntKind.signed,Bool.false_and,Bool.false_eq_true, ↓reduceIte]
 omega
theorem qO_ (n:Nat):IntKind.wrap .u64 (n:Int)=((n%18446744073709551616:Nat):Int):=by
 simp only[IntKind.wrap,IntKind.bits,IntKind.signed,Bool.false_and,Bool.false_eq_true, ↓reduceIte]
 omega
theorem aeO_ (x:UInt64):BitVec.ofInt (IntKind.bits .u64) (x.toNat:Int)=x.toBitVec:=by
 apply BitVec.eq_of_toNat_eq
 simp only[IntKind.bits,BitVec.ofInt_natCast,BitVec.toNat_ofNat,UInt64.toNat_toBitVec]
 exact Nat.mod_eq_of_lt x.toNat_lt
theorem and_ (n:Nat) (h:n<18446744073709551616):Value.int .u64 (no_index (@OfNat.ofNat Int n _))=v64 (@OfNat.ofNat UInt64 n _):=by
 have: ((@OfNat.ofNat UInt64 n _).toNat:Int)=(@OfNat.ofNat Int n _):=by
  have e: (@OfNat.ofNat UInt64 n _).toNat=n:=by rw[UInt64.toNat_ofNat];exact Nat.mod_eq_of_lt h
  rw[e];rfl
 rw[v64,this]
theorem aci_ (x y:UInt64):zj_ .add (v64 x) (v64 y)=some (v64 (x+y)):=by
 simp only[zj_,v64,jn_, ↓reduceIte,UInt64.toNat_add]
 rw[←Int.natCast_add,qO_]
theorem ac0_ (x y:UInt64):zj_ .mul (v64 x) (v64 y)=some (v64 (x*y)):=by
 simp only[zj_,v64,jn_, ↓reduceIte,UInt64.toNat_mul]
 rw[←Int.natCast_mul,qO_]
theorem abu_ (x y:UInt64):zj_ .sub (v64 x) (v64 y)=some (v64 (x - y)):=by
 have hx:=x.toNat_lt;have hy:=y.toNat_lt
 have e:IntKind.wrap .u64 ((x.toNat:Int) - (y.toNat:Int))=((x - y).toNat:Int):=by
  rw[UInt64.toNat_sub]
  simp only[IntKind.wrap,IntKind.bits,IntKind.signed,Bool.false_and,Bool.false_eq_true, ↓reduceIte]
  omega
 simp only[zj_,v64,jn_, ↓reduceIte,e]
theorem acn_ (x y:UInt64):zj_ .and (v64 x) (v64 y)=some (v64 (x&&&y)):=by
 simp only[zj_,v64,jn_, ↓reduceIte,Z1_,aeO_,Option.map_some]
 show some (Value.int .u64 (IntKind.wrap .u64 ((x&&&y).toNat:Int)))=_
 rw[Qh_ _ (x&&&y).toNat_lt]
theorem agg_ (x y:UInt64):zj_ .or (v64 x) (v64 y)=some (v64 (x|||y)):=by
 simp only[zj_,v64,jn_, ↓reduceIte,Z1_,aeO_,Option.map_some]
 show some (Value.int .u64 (IntKind.wrap .u64 ((x|||y).toNat:Int)))=_
 rw[Qh_ _ (x|||y).toNat_lt]
theorem ac5_ (x y:UInt64):zj_ .xor (v64 x) (v64 y)=some (v64 (x^^^y)):=by
 simp only[zj_,v64,jn_, ↓reduceIte,Z1_,aeO_,Option.map_some]
 show some (Value.int .u64 (IntKind.wrap .u64 ((x^^^y).toNat:Int)))=_
 rw[Qh_ _ (x^^^y).toNat_lt]
theorem afk_ (x:UInt64):unV .xor (v64 x)=some (v64 (~~~ x)):=by
 have hx:=x.toNat_lt
 have e: (BitVec.ofInt (IntKind.bits .u64) (IntKind.max .u64))=BitVec.allOnes 64:=rfl
 have e2: (BitVec.allOnes 64^^^x.toBitVec)=(~~~ x).toBitVec:=by rw[UInt64.toBitVec_not];exact BitVec.allOnes_xor
 simp only[unV,v64,Z1_,aeO_,IntKind.signed,Bool.false_eq_true, ↓reduceIte,e,Option.map_some]
 show some (Value.int .u64 (IntKind.wrap .u64 ((BitVec.allOnes 64^^^x.toBitVec).toNat:Int)))=_
 rw[e2]
 show some (Value.int .u64 (IntKind.wrap .u64 ((~~~ x).toNat:Int)))=_
 rw[Qh_ _ (~~~ x).toNat_lt]
def xg_ (x:UInt64) (n:Nat):UInt64:=UInt64.ofNat (x.toNat / 2^n)
def kM_ (x:UInt64) (n:Nat):UInt64:=UInt64.ofNat (x.toNat*2^n)
theorem acC_ (x y:UInt64):zj_ .lss (v64 x) (v64 y)=some (.bool (decide (x<y))):=by
 simp only[zj_,v64,jn_, ↓reduceIte,wW_,UInt64.lt_iff_toNat_lt,Int.ofNat_lt,Int.ofNat_le]
theorem acr_ (x y:UInt64):zj_ .leq (v64 x) (v64 y)=some (.bool (decide (x≤y))):=by
 simp only[zj_,v64,jn_, ↓reduceIte,wW_,UInt64.le_iff_toNat_le,Int.ofNat_lt,Int.ofNat_le]
theorem acO_ (x y:UInt64):zj_ .gtr (v64 x) (v64 y)=some (.bool (decide (y<x))):=by
 simp only[zj_,v64,jn_, ↓reduceIte,wW_,UInt64.lt_iff_toNat_lt,Int.ofNat_lt,Int.ofNat_le,gt_iff_lt,ge_iff_le]
theorem act_ (x y:UInt64):zj_ .geq (v64 x) (v64 y)=some (.bool (decide (y≤x))):=by
 simp only[zj_,v64,jn_, ↓reduceIte,wW_,UInt64.le_iff_toNat_le,Int.ofNat_lt,Int.ofNat_le,gt_iff_lt,ge_iff_le]
theorem ahB_ (x y:UInt64): ((x.toNat:Int)==(y.toNat:Int))=(x==y):=by
 rw[Bool.eq_iff_iff,beq_iff_eq,beq_iff_eq,Int.ofNat_inj,UInt64.toNat_inj]
theorem acX_ (x y:UInt64):zj_ .eql (v64 x) (v64 y)=some (.bool (x==y)):=by
 simp only[zj_,v64,jn_, ↓reduceIte,wW_,ahB_]
theorem adr_ (x y:UInt64):zj_ .neq (v64 x) (v64 y)=some (.bool (x !=y)):=by
 simp only[zj_,v64,jn_, ↓reduceIte,wW_,bne,ahB_]
theorem adi_ (x y:UInt64) (h:0<y.toNat):zj_ .quo (v64 x) (v64 y)=some (v64 (x / y)):=by
 have hx:=x.toNat_lt
 have e:IntKind.wrap .u64 ((x.toNat:Int).tdiv (y.toNat:Int))=((x / y).toNat:Int):=by
  rw[UInt64.toNat_div,Int.tdiv_eq_ediv_of_nonneg (by omega),←Int.natCast_ediv,qO_]
  congr 1
  exact Nat.mod_eq_of_lt (Nat.lt_of_le_of_lt (Nat.div_le_self _ _) hx)
 have h0: ((y.toNat:Int)=0)=False:=by simp only[eq_iff_iff,iff_false];omega
 simp only[zj_,v64,jn_, ↓reduceIte,h0,e]
theorem ack_ (x y:UInt64) (h:0<y.toNat):zj_ .rem (v64 x) (v64 y)=some (v64 (x%y)):=by
 have e: ((x.toNat:Int).tmod (y.toNat:Int))=((x%y).toNat:Int):=by
  rw[UInt64.toNat_mod,Int.tmod_eq_emod_of_nonneg (by omega),Int.natCast_emod]
 have h0: ((y.toNat:Int)=0)=False:=by simp only[eq_iff_iff,iff_false];omega
 simp only[zj_,v64,jn_, ↓reduceIte,h0,e]
theorem vv_ (x:UInt64) (kk:IntKind) (c:Nat):zj_ .shr (v64 x) (.int kk (c:Int))=some (v64 (xg_ x c)):=by
 have hx:=x.toNat_lt
 have h0: ((c:Int)<0)=False:=by simp only[eq_iff_iff,iff_false];omega
 have e: ((x.toNat:Int).fdiv (2^ (min c 64)))=((xg_ x c).toNat:Int):=by
  have hp: (2:Int)^ (min c 64)=((2^ (min c 64):Nat):Int):=by rw[Int.natCast_pow];rfl
  rw[hp,Int.fdiv_eq_ediv_of_nonneg _ (Int.natCast_nonneg _),←Int.natCast_ediv,xg_,UInt64.toNat_ofNat']
  congr 1
  rw[Nat.mod_eq_of_lt (Nat.lt_of_le_of_lt (Nat.div_le_self _ _) hx)]
  by_cases hc:c≤64
  ·rw[Nat.min_eq_left hc]
  ·rw[Nat.min_eq_right (by omega),Nat.div_eq_of_lt (by simpa using hx),Nat.div_eq_of_lt]
   exact Nat.lt_of_lt_of_le (by simpa using hx) (Nat.pow_le_pow_right (by omega) (by omega:64≤c))
 simp only[zj_,v64,xV_,h0, ↓reduceIte,Int.toNat_natCast,IntKind.bits,e]
theorem vt_ (x:UInt64) (kk:IntKind) (c:Nat):zj_ .shl (v64 x) (.int kk (c:Int))=some (v64 (kM_ x c)):=by
 have h0: ((c:Int)<0)=False:=by simp only[eq_iff_iff,iff_false];omega
 have e:IntKind.wrap .u64 ((x.toNat:Int)* (2^ (min c 64)))=((kM_ x c).toNat:Int):=by
  have hp: (2:Int)^ (min c 64)=((2^ (min c 64):Nat):Int):=by rw[Int.natCast_pow];rfl
  rw[hp,←Int.natCast_mul,qO_,kM_,UInt64.toNat_ofNat']
  congr 1
  by_cases hc:c≤64
  ·rw[Nat.min_eq_left hc]
  ·rw[Nat.min_eq_right (by omega)]
   have:2^c=2^64*2^ (c - 64):=by rw[←Nat.pow_add];congr 1;omega
   rw[this,←Nat.mul_assoc,Nat.mul_right_comm]
   simp[Nat.mul_mod_left]
 simp only[zj_,v64,xV_,h0, ↓reduceIte,Int.toNat_natCast,IntKind.bits,e]
theorem VE_ (x:UInt8) (c:UInt8):zj_ .shr (v8 x) (v8 c)=some (v8 (kP_ x c.toNat)):=vw_ x _ _
theorem VL_ (x:UInt8) (c:UInt8):zj_ .shl (v8 x) (v8 c)=some (v8 (w0_ x c.toNat)):=ww_ x _ _
theorem afW_ (x:UInt8):z4_ .u8 (v8 x)=some (v8 (UInt8.ofNat x.toNat)):=by
 simp only[z4_,v8,v8,jh_,UInt8.toNat_ofNat']
theorem XC_ (x:UInt8) (c:UInt16):zj_ .shr (v8 x) (v16 c)=some (v8 (kP_ x c.toNat)):=vw_ x _ _
theorem XJ_ (x:UInt8) (c:UInt16):zj_ .shl (v8 x) (v16 c)=some (v8 (w0_ x c.toNat)):=ww_ x _ _
theorem abr_ (x:UInt8):z4_ .u16 (v8 x)=some (v16 (UInt16.ofNat x.toNat)):=by
 simp only[z4_,v8,v16,qS_,UInt16.toNat_ofNat']
theorem Xy_ (x:UInt8) (c:UInt32):zj_ .shr (v8 x) (v32 c)=some (v8 (kP_ x c.toNat)):=vw_ x _ _
theorem Xi_ (x:UInt8) (c:UInt32):zj_ .shl (v8 x) (v32 c)=some (v8 (w0_ x c.toNat)):=ww_ x _ _
theorem acU_ (x:UInt8):z4_ .u32 (v8 x)=some (v32 (UInt32.ofNat x.toNat)):=by
 simp only[z4_,v8,v32,qM_,UInt32.toNat_ofNat']
theorem Xd_ (x:UInt8) (c:UInt64):zj_ .shr (v8 x) (v64 c)=some (v8 (kP_ x c.toNat)):=vw_ x _ _
theorem Xn_ (x:UInt8) (c:UInt64):zj_ .shl (v8 x) (v64 c)=some (v8 (w0_ x c.toNat)):=ww_ x _ _
theorem acA_ (x:UInt8):z4_ .u64 (v8 x)=some (v64 (UInt64.ofNat x.toNat)):=by
 simp only[z4_,v8,v64,qO_,UInt64.toNat_ofNat']
theorem ZI_ (x:UInt8) (kk:IntKind) (c:Int) (h:0≤c):zj_ .shr (v8 x) (.int kk c)=some (v8 (kP_ x c.toNat)):=by
 obtain⟨n,rfl⟩:=Int.eq_ofNat_of_zero_le h;exact vw_ x _ _
theorem ZH_ (x:UInt8) (kk:IntKind) (c:Int) (h:0≤c):zj_ .shl (v8 x) (.int kk c)=some (v8 (w0_ x c.toNat)):=by
 obtain⟨n,rfl⟩:=Int.eq_ofNat_of_zero_le h;exact ww_ x _ _
theorem abx_ (x:UInt8):z4_ .i64 (v8 x)=some (.int .i64 ((x.toNat:Int))):=by
 have hx:=x.toNat_lt
 simp only[z4_,v8]
 rw[jB_ _ (by omega)]
theorem QV_ (kk:IntKind) (n:Int):z4_ .u8 (.int kk n)=some (v8 (UInt8.ofInt n)):=by
 simp only[z4_,v8,VB_]
theorem Xb_ (x:UInt16) (c:UInt8):zj_ .shr (v16 x) (v8 c)=some (v16 (kG_ x c.toNat)):=vk_ x _ _
theorem XK_ (x:UInt16) (c:UInt8):zj_ .shl (v16 x) (v8 c)=some (v16 (kt_ x c.toNat)):=vr_ x _ _
theorem acN_ (x:UInt16):z4_ .u8 (v16 x)=some (v8 (UInt8.ofNat x.toNat)):=by
 simp only[z4_,v16,v8,jh_,UInt8.toNat_ofNat']
theorem Q8_ (x:UInt16) (c:UInt16):zj_ .shr (v16 x) (v16 c)=some (v16 (kG_ x c.toNat)):=vk_ x _ _
theorem JE_ (x:UInt16) (c:UInt16):zj_ .shl (v16 x) (v16 c)=some (v16 (kt_ x c.toNat)):=vr_ x _ _
theorem aa2_ (x:UInt16):z4_ .u16 (v16 x)=some (v16 (UInt16.ofNat x.toNat)):=by
 simp only[z4_,v16,v16,qS_,UInt16.toNat_ofNat']
theorem Qq_ (x:UInt16) (c:UInt32):zj_ .shr (v16 x) (v32 c)=some (v16 (kG_ x c.toNat)):=vk_ x _ _
theorem QQ_ (x:UInt16) (c:UInt32):zj_ .shl (v16 x) (v32 c)=some (v16 (kt_ x c.toNat)):=vr_ x _ _
theorem WG_ (x:UInt16):z4_ .u32 (v16 x)=some (v32 (UInt32.ofNat x.toNat)):=by
 simp only[z4_,v16,v32,qM_,UInt32.toNat_ofNat']
theorem Q6_ (x:UInt16) (c:UInt64):zj_ .shr (v16 x) (v64 c)=some (v16 (kG_ x c.toNat)):=vk_ x _ _
theorem QY_ (x:UInt16) (c:UInt64):zj_ .shl (v16 x) (v64 c)=some (v16 (kt_ x c.toNat)):=vr_ x _ _
theorem W2_ (x:UInt16):z4_ .u64 (v16 x)=some (v64 (UInt64.ofNat x.toNat)):=by
 simp only[z4_,v16,v64,qO_,UInt64.toNat_ofNat']
theorem wu_ (x:UInt16) (kk:IntKind) (c:Int) (h:0≤c):zj_ .shr (v16 x) (.int kk c)=some (v16 (kG_ x c.toNat)):=by
 obtain⟨n,rfl⟩:=Int.eq_ofNat_of_zero_le h;exact vk_ x _ _
theorem wx_ (x:UInt16) (kk:IntKind) (c:Int) (h:0≤c):zj_ .shl (v16 x) (.int kk c)=some (v16 (kt_ x c.toNat)):=by
 obtain⟨n,rfl⟩:=Int.eq_ofNat_of_zero_le h;exact vr_ x _ _
theorem WU_ (x:UInt16):z4_ .i64 (v16 x)=some (.int .i64 ((x.toNat:Int))):=by
 have hx:=x.toNat_lt
 simp only[z4_,v16]
 rw[jB_ _ (by omega)]
theorem ZL_ (kk:IntKind) (n:Int):z4_ .u16 (.int kk n)=some (v16 (UInt16.ofInt n)):=by
 simp only[z4_,v16,Xr_]
theorem XL_ (x:UInt32) (c:UInt8):zj_ .shr (v32 x) (v8 c)=some (v32 (qo_ x c.toNat)):=k4_ x _ _
theorem XF_ (x:UInt32) (c:UInt8):zj_ .shl (v32 x) (v8 c)=some (v32 (jS_ x c.toNat)):=vq_ x _ _
theorem adD_ (x:UInt32):z4_ .u8 (v32 x)=some (v8 (UInt8.ofNat x.toNat)):=by
 simp only[z4_,v32,v8,jh_,UInt8.toNat_ofNat']
theorem QB_ (x:UInt32) (c:UInt16):zj_ .shr (v32 x) (v16 c)=some (v32 (qo_ x c.toNat)):=k4_ x _ _
theorem Jc_ (x:UInt32) (c:UInt16):zj_ .shl (v32 x) (v16 c)=some (v32 (jS_ x c.toNat)):=vq_ x _ _
theorem Wv_ (x:UInt32):z4_ .u16 (v32 x)=some (v16 (UInt16.ofNat x.toNat)):=by
 simp only[z4_,v32,v16,qS_,UInt16.toNat_ofNat']
theorem JN_ (x:UInt32) (c:UInt32):zj_ .shr (v32 x) (v32 c)=some (v32 (qo_ x c.toNat)):=k4_ x _ _
theorem JO_ (x:UInt32) (c:UInt32):zj_ .shl (v32 x) (v32 c)=some (v32 (jS_ x c.toNat)):=vq_ x _ _
theorem Wh_ (x:UInt32):z4_ .u32 (v32 x)=some (v32 (UInt32.ofNat x.toNat)):=by
 simp only[z4_,v32,v32,qM_,UInt32.toNat_ofNat']
theorem JT_ (x:UInt32) (c:UInt64):zj_ .shr (v32 x) (v64 c)=some (v32 (qo_ x c.toNat)):=k4_ x _ _
theorem Jv_ (x:UInt32) (c:UInt64):zj_ .shl (v32 x) (v64 c)=some (v32 (jS_ x c.toNat)):=vq_ x _ _
theorem Wo_ (x:UInt32):z4_ .u64 (v32 x)=some (v64 (UInt64.ofNat x.toNat)):=by
 simp only[z4_,v32,v64,qO_,UInt64.toNat_ofNat']
theorem wv_ (x:UInt32) (kk:IntKind) (c:Int) (h:0≤c):zj_ .shr (v32 x) (.int kk c)=some (v32 (qo_ x c.toNat)):=by
 obtain⟨n,rfl⟩:=Int.eq_ofNat_of_zero_le h;exact k4_ x _ _
theorem wH_ (x:UInt32) (kk:IntKind) (c:Int) (h:0≤c):zj_ .shl (v32 x) (.int kk c)=some (v32 (jS_ x c.toNat)):=by
 obtain⟨n,rfl⟩:=Int.eq_ofNat_of_zero_le h;exact vq_ x _ _
theorem Wb_ (x:UInt32):z4_ .i64 (v32 x)=some (.int .i64 ((x.toNat:Int))):=by
 have hx:=x.toNat_lt
 simp only[z4_,v32]
 rw[jB_ _ (by omega)]
theorem ZR_ (kk:IntKind) (n:Int):z4_ .u32 (.int kk n)=some (v32 (UInt32.ofInt n)):=by
 simp only[z4_,v32,Xk_]
theorem XA_ (x:UInt64) (c:UInt8):zj_ .shr (v64 x) (v8 c)=some (v64 (xg_ x c.toNat)):=vv_ x _ _
theorem Xa_ (x:UInt64) (c:UInt8):zj_ .shl (v64 x) (v8 c)=some (v64 (kM_ x c.toNat)):=vt_ x _ _
theorem adh_ (x:UInt64):z4_ .u8 (v64 x)=some (v8 (UInt8.ofNat x.toNat)):=by
 simp only[z4_,v64,v8,jh_,UInt8.toNat_ofNat']
theorem Jh_ (x:UInt64) (c:UInt16):zj_ .shr (v64 x) (v16 c)=some (v64 (xg_ x c.toNat)):=vv_ x _ _
theorem Jj_ (x:UInt64) (c:UInt16):zj_ .shl (v64 x) (v16 c)=some (v64 (kM_ x c.toNat)):=vt_ x _ _
theorem WA_ (x:UInt64):z4_ .u16 (v64 x)=some (v16 (UInt16.ofNat x.toNat)):=by
 simp only[z4_,v64,v16,qS_,UInt16.toNat_ofNat']
theorem J2_ (x:UInt64) (c:UInt32):zj_ .shr (v64 x) (v32 c)=some (v64 (xg_ x c.toNat)):=vv_ x _ _
theorem QZ_ (x:UInt64) (c:UInt32):zj_ .shl (v64 x) (v32 c)=some (v64 (kM_ x c.toNat)):=vt_ x _ _
theorem aak_ (x:UInt64):z4_ .u32 (v64 x)=some (v32 (UInt32.ofNat x.toNat)):=by
 simp only[z4_,v64,v32,qM_,UInt32.toNat_ofNat']
theorem JZ_ (x:UInt64) (c:UInt64):zj_ .shr (v64 x) (v64 c)=some (v64 (xg_ x c.toNat)):=vv_ x _ _
theorem QG_ (x:UInt64) (c:UInt64):zj_ .shl (v64 x) (v64 c)=some (v64 (kM_ x c.toNat)):=vt_ x _ _
theorem Wx_ (x:UInt64):z4_ .u64 (v64 x)=some (v64 (UInt64.ofNat x.toNat)):=by
 simp only[z4_,v64,v64,qO_,UInt64.toNat_ofNat']
theorem wD_ (x:UInt64) (kk:IntKind) (c:Int) (h:0≤c):zj_ .shr (v64 x) (.int kk c)=some (v64 (xg_ x c.toNat)):=by
 obtain⟨n,rfl⟩:=Int.eq_ofNat_of_zero_le h;exact vv_ x _ _
theorem wU_ (x:UInt64) (kk:IntKind) (c:Int) (h:0≤c):zj_ .shl (v64 x) (.int kk c)=some (v64 (kM_ x c.toNat)):=by
 obtain⟨n,rfl⟩:=Int.eq_ofNat_of_zero_le h;exact vt_ x _ _
theorem aaf_ (x:UInt64):z4_ .i64 (v64 x)=some (.int .i64 (IntKind.wrap .i64 (x.toNat:Int))):=by
 have hx:=x.toNat_lt
 simp only[z4_,v64]
theorem ZF_ (kk:IntKind) (n:Int):z4_ .u64 (.int kk n)=some (v64 (UInt64.ofInt n)):=by
 simp only[z4_,v64,Xf_]
theorem agd_ (n:Int):z4_ .u8 (vi n)=some (v8 (UInt8.ofInt n)):=QV_ _ n
theorem add_ (n:Int):z4_ .u16 (vi n)=some (v16 (UInt16.ofInt n)):=ZL_ _ n
theorem adP_ (n:Int):z4_ .u32 (vi n)=some (v32 (UInt32.ofInt n)):=ZR_ _ n
theorem adL_ (n:Int):z4_ .u64 (vi n)=some (v64 (UInt64.ofInt n)):=ZF_ _ n
theorem VH_ (x:UInt8) (c:Int) (h:0≤c):zj_ .shr (v8 x) (vi c)=some (v8 (kP_ x c.toNat)):=ZI_ x _ c h
theorem VK_ (x:UInt8) (c:Int) (h:0≤c):zj_ .shl (v8 x) (vi c)=some (v8 (w0_ x c.toNat)):=ZH_ x _ c h
theorem Xc_ (x:UInt16) (c:Int) (h:0≤c):zj_ .shr (v16 x) (vi c)=some (v16 (kG_ x c.toNat)):=wu_ x _ c h
theorem J8_ (x:UInt16) (c:Int) (h:0≤c):zj_ .shl (v16 x) (vi c)=some (v16 (kt_ x c.toNat)):=wx_ x _ c h
theorem Xu_ (x:UInt32) (c:Int) (h:0≤c):zj_ .shr (v32 x) (vi c)=some (v32 (qo_ x c.toNat)):=wv_ x _ c h
theorem Xw_ (x:UInt32) (c:Int) (h:0≤c):zj_ .shl (v32 x) (vi c)=some (v32 (jS_ x c.toNat)):=wH_ x _ c h
theorem Xj_ (x:UInt64) (c:Int) (h:0≤c):zj_ .shr (v64 x) (vi c)=some (v64 (xg_ x c.toNat)):=wD_ x _ c h
theorem Xt_ (x:UInt64) (c:Int) (h:0≤c):zj_ .shl (v64 x) (vi c)=some (v64 (kM_ x c.toNat)):=wU_ x _ c h
end Go.Sx
end
section
namespace Go.Sx
open Go
set_option linter.unusedSimpArgs false
def am4_:TypeDesc→Bool
 | .struct _=>true
 | .array _ _=>true
 |_=>false
def qc_ (P:Program) (t:TypeId):Option (Bool×Nat):=
 match P.underlying t,P.info? t with
 |some d,some i=>some (am4_ d,i.size)
 |_,_=>none
inductive Ix where
 |arr (n:Nat) (m:Bool×Nat)
 |sl (m:Bool×Nat)
 |str
 |no
def ixT (P:Program) (t:TypeId):Ix:=
 match P.underlying t with
 |some (.array n e)=>match qc_ P e with|some m=> .arr n m|none=> .no
 |some (.slice e)=>match qc_ P e with|some m=> .sl m|none=> .no
 |some .string=> .str
 |_=> .no
def xv_ (P:Program) (t:TypeId) (i:Nat):Option (Nat× (Bool×Nat)):=
 match P.underlying t with
 |some (.struct fs)=>match fs[i]? with
  |some fd=>match qc_ P fd.type with
   |some m=>some (fd.offset,m)
   |none=>none
  |none=>none
 |_=>none
inductive Cv where
 |int (k:IntKind)
 |str
 |bytesStr
 |strBytes (e:TypeId)
 |no
def cvT (P:Program) (s d:TypeId):Cv:=
 match P.underlying s,P.underlying d with
 |some (.int _),some (.int k)=> .int k
 |some .string,some .string=> .str
 |some (.slice e),some .string=>match P.underlying e with|some (.int .u8)=> .bytesStr|_=> .no
 |some .string,some (.slice e)=>match P.underlying e with|some (.int .u8)=> .strBytes e|_=> .no
 |_,_=> .no
section
variable {P:Program}
theorem Jo_ {t:TypeId} {m:Bool×Nat} (h:qc_ P t=some m): ∃d i,P.underlying t=some d∧P.info? t=some i∧am4_ d=m.1∧i.size=m.2:=by
 unfold qc_ at h
 split at h
 ·rename_i d i hd hi
  cases h
  exact⟨d,i,hd,hi,rfl,rfl⟩
 ·cases h
theorem Jp_ {t:TypeId} {m:Bool×Nat} (h:qc_ P t=some m) (w:World): (isAgg t).run P w= .ok m.1 w:=by
 obtain⟨d,i,hd,hi,h1,_⟩:=Jo_ h
 unfold isAgg
 rw[Sem.run_bind,run_underlying hd w,←h1]
 cases d<;>rfl
theorem zv_ {t:TypeId} {m:Bool×Nat} (h:qc_ P t=some m) (w:World): (sizeOf t).run P w= .ok m.2 w:=by
 obtain⟨d,i,hd,hi,_,h2⟩:=Jo_ h
 simp[sizeOf,typeInfo,hi,h2]
def partV (m:Bool×Nat) (cs:Array Value) (off:Nat):Option Value:=
 if m.1 then some (.agg (cs.extract off (off+m.2))) else cs[off]?
theorem qU_ {t:TypeId} {m:Bool×Nat} (h:qc_ P t=some m) {cs:Array Value} {off:Nat} {v:Value} (hv:partV m cs off=some v) (w:World): (part t cs off).run P w= .ok v w:=by
 unfold part
 rw[Sem.run_bind,Jp_ h w]
 simp only[Result.andThen_ok]
 unfold partV at hv
 cases hm:m.1 with
 |true=>
  rw[hm] at hv
  simp only[↓reduceIte,Option.some.injEq] at hv
  simp only[↓reduceIte]
  rw[Sem.run_bind,zv_ h w]
  simp only[Result.andThen_ok,Sem.run_pure,hv]
 |false=>
  rw[hm] at hv
  simp only[Bool.false_eq_true, ↓reduceIte] at hv
  simp only[Bool.false_eq_true, ↓reduceIte,hv,Sem.run_pure]
end
def vp (b off:Nat):Value:= .pointer (some ⟨b,off,none⟩)
def vsl (b off n c:Nat):Value:= .slice (some ⟨b,off,none⟩) n c
def vs (l:List UInt8):Value:= .string ⟨l.toArray⟩
theorem qB_ (b o n:Nat): (Addr.mk b o none).add n=⟨b,o+n,none⟩:=by
 unfold Addr.add;split<;>simp_all
def ixI:Value→Option Int
 | .int _ n=>some n
 |_=>none
def v3_ (x:Ix) (v:Value) (i:Option Int):Option Value:=
 match x,v,i with
 | .arr n m, .agg cs,some k=>if 0≤k∧k<n then partV m cs (k.toNat*m.2) else none
 | .str, .string s,some k=>if 0≤k then(s[k.toNat]?).map fun b=> .int .u8 (b.toNat:Int) else none
 |_,_,_=>none
def z3_ (x:Ix) (v:Value) (i:Option Int):Option Value:=
 match x,v,i with
 | .arr n m, .pointer (some a),some k=>if 0≤k∧k<n then some (.pointer (some (a.add (k.toNat*m.2)))) else none
 | .sl m, .slice (some a) n _,some k=>if 0≤k∧k<n then some (.pointer (some (a.add (k.toNat*m.2)))) else none
 |_,_,_=>none
def xw_ (x:Option (Nat× (Bool×Nat))) (v:Value):Option Value:=
 match x,v with
 |some (off,m), .pointer (some a)=>if m.2=0 then none else some (.pointer (some (a.add off)))
 |_,_=>none
def aeY_ (x:Option (Nat× (Bool×Nat))) (v:Value):Option Value:=
 match x,v with
 |some (off,m), .agg cs=>partV m cs off
 |_,_=>none
def nilV (v:Value):Option Value:=
 match v with
 | .pointer (some a)=>some (.pointer (some a))
 | .func (.func k) a b=>some (.func (.func k) a b)
 |_=>none
def Z6_ (v:Value) (i:Nat):Option Value:=
 match v with
 | .tuple vs=>vs[i]?
 |_=>none
def wt_ (x:Ix) (v:Value):Option Value:=
 match x,v with
 | .str, .string s=>some (.int .i64 s.size)
 | .arr n _,_=>some (.int .i64 n)
 | .sl _, .slice _ n _=>some (.int .i64 n)
 |_,_=>none
def capV (x:Ix) (v:Value):Option Value:=
 match x,v with
 | .arr n _,_=>some (.int .i64 n)
 | .sl _, .slice _ _ c=>some (.int .i64 c)
 |_,_=>none
def aia_ (c a b:Value):Option Value:=
 match c with
 | .bool true=>some a
 | .bool false=>some b
 |_=>none
def bndV (n c:Nat) (lo hi:Option (Option Int)):Option (Nat×Nat):=
 match lo,hi with
 |none,none=>some (0,n)
 |some (some l),none=>if 0≤l∧l≤n then some (l.toNat,n) else none
 |none,some (some h)=>if 0≤h∧h≤c then some (0,h.toNat) else none
 |some (some l),some (some h)=>if 0≤l∧l≤h∧h≤c then some (l.toNat,h.toNat) else none
 |_,_=>none
def qs_ (x:Ix) (v:Value) (lo hi:Option (Option Int)):Option Value:=
 match x,v with
 | .str, .string s=>match bndV s.size s.size lo hi with
  |some (l,h)=>some (.string (s.extract l h))
  |none=>none
 | .sl m, .slice a n c=>match bndV n c lo hi with
  |some (l,h)=>some (.slice (if c=l then a else a.map (·.add (l*m.2))) (h - l) (c - l))
  |none=>none
 | .arr n m, .pointer (some a)=>match bndV n n lo hi with
  |some (l,h)=>some (.slice (some (if n=l then a else a.add (l*m.2))) (h - l) (n - l))
  |none=>none
 |_,_=>none
def zl_ (m:Option (Bool×Nat)) (o:Option Obj) (off:Nat):Option Value:=
 match m,o with
 |some (true,n),some (.cells cs _ _)=>if off+n≤cs.size then some (.agg (cs.extract off (off+n))) else none
 |some (false,_),some (.cells cs _ _)=>cs[off]?
 |_,_=>none
def kU_ (m:Option (Bool×Nat)) (w0:World) (L:zb_) (v:Value):Option Value:=
 match v with
 | .pointer (some ⟨b,off,none⟩)=>zl_ m (zk_ w0 L b) off
 |_=>none
def bytesOf:List Value→Option (List UInt8)
 | []=>some []
 | .int .u8 n::r=>match bytesOf r with
  |some l=>some (UInt8.ofNat n.toNat::l)
  |none=>none
 |_=>none
def jD_ (o:Option Obj) (off n:Nat):Option Value:=
 match o with
 |some (.cells cs _ _)=>if off+n≤cs.size then(bytesOf (cs.extract off (off+n)).toList).map fun l=> .string ⟨l.toArray⟩ else none
 |_=>none
def adl_ (w0:World) (L:zb_) (v:Value):Option Value:=
 match v with
 | .slice none _ _=>some (.string .empty)
 | .slice (some ⟨b,off,none⟩) n _=>jD_ (zk_ w0 L b) off n
 |_=>none
def Xm_ (w0:World) (L:zb_) (c:Cv) (v:Value):Option Value:=
 match c with
 | .int k=>z4_ k v
 | .str=>match v with| .string s=>some (.string s) |_=>none
 | .bytesStr=>adl_ w0 L v
 |_=>none
def qF_ (d:Option TypeDesc) (x y:Value):Option Bool:=
 match d,x,y with
 |some (.pointer _), .pointer none, .pointer b=>some b.isNone
 |some (.pointer _), .pointer (some _), .pointer none=>some false
 |some (.slice _), .slice none _ _, .slice b _ _=>some b.isNone
 |some (.slice _), .slice (some _) _ _, .slice none _ _=>some false
 |some (.map _ _), .map none, .map b=>some b.isNone
 |some (.map _ _), .map (some _), .map none=>some false
 |some (.func _ _ _), .nilFunc, .nilFunc=>some true
 |some (.func _ _ _), .nilFunc, .func _ _ _=>some false
 |some (.func _ _ _), .func _ _ _, .nilFunc=>some false
 |some .bool, .bool a, .bool b=>some (a==b)
 |_,_,_=>none
def qZ_:Value→Bool
 | .int _ _=>true
 | .string _=>true
 |_=>false
def wK_ (f:Nat→Option Bool):List Nat→Option Bool
 | []=>some true
 |i::r=>match f i with
  |some true=>wK_ f r
  |some false=>some false
  |none=>none
def vb_ (f:Field→Option Bool):List Field→Option Bool
 | []=>some true
 |x::r=>if x.name≠ "_" then(match f x with
  |some true=>vb_ f r
  |some false=>some false
  |none=>none) else vb_ f r
def k8_ (m:Option (Bool×Nat)) (f:Value→Value→Option Bool) (xs ys:Array Value) (off:Nat):Option Bool:=
 match m with
 |some m=>match partV m xs off,partV m ys off with
  |some a,some b=>f a b
  |_,_=>none
 |none=>none
def eqD (P:Program):Nat→TypeId→Value→Value→Option Bool
 |0,_,_,_=>none
 |d+1,t,x,y=>match P.underlying t,x,y with
  |some (.int _), .int k a, .int k' b=>if k=k' then some (a==b) else none
  |some .string, .string a, .string b=>some (a==b)
  |some (.array n e), .agg xs, .agg ys=>match qc_ P e with
   |some m=>wK_ (fun i=>k8_ (some m) (eqD P d e) xs ys (i*m.2)) (List.range n)
   |none=>none
  |some (.struct fs), .agg xs, .agg ys=>if P.stoodInHeld t then none else
   vb_ (fun f=>k8_ (qc_ P f.type) (eqD P d f.type) xs ys f.offset) fs.toList
  |D,x,y=>qF_ D x y
def eqX (P:Program) (t:TypeId) (x y:Value):Option Bool:=
 match x,y with
 | .agg xs, .agg ys=>if P.eqGuardType P.depth t then none else eqD P 8 t (.agg xs) (.agg ys)
 |x,y=>qF_ (P.underlying t) x y
def qL_ (P:Program) (op:BinOp) (t:TypeId) (x y:Value):Option Value:=
 if qZ_ x&&qZ_ y then zj_ op x y
 else match op with
  | .eql=>(eqX P t x y).map fun b=> .bool b
  | .neq=>(eqX P t x y).map fun b=> .bool (!b)
  |_=>none
def jg_ (P:Program) (w0:World) (L:zb_) (f:Fr):Op→Option Value
 | .move x=>some (ev f x)
 | .assign x=>some (ev f x)
 | .pick c a b=>aia_ (ev f c) (ev f a) (ev f b)
 | .binOp op t x y _=>qL_ P op t (ev f x) (ev f y)
 | .unOp op _ x=>unV op (ev f x)
 | .convert s d x=>Xm_ w0 L (cvT P s d) (ev f x)
 | .nilCheck x=>nilV (ev f x)
 | .fieldAddr s x i=>xw_ (xv_ P s i) (ev f x)
 | .field s x i=>aeY_ (xv_ P s i) (ev f x)
 | .indexAddr t x i=>z3_ (ixT P t) (ev f x) (ixI (ev f i))
 | .index t x i=>v3_ (ixT P t) (ev f x) (ixI (ev f i))
 | .load t x=>kU_ (qc_ P t) w0 L (ev f x)
 | .extract x i=>Z6_ (ev f x) i
 | .slice t x lo hi none=>qs_ (ixT P t) (ev f x) (lo.map fun o=>ixI (ev f o)) (hi.map fun o=>ixI (ev f o))
 | .makeFunc fn a b=>some (.func fn (a.map (ev f)) (b.map (ev f)))
 | .call ⟨.builtin .len,args,ts⟩=>match args[0]?,ts[0]? with
  |some x,some t=>wt_ (ixT P t) (ev f x)
  |_,_=>none
 | .call ⟨.builtin .cap,args,ts⟩=>match args[0]?,ts[0]? with
  |some x,some t=>capV (ixT P t) (ev f x)
  |_,_=>none
 |_=>none
theorem abo_ {w0 w:World} {L:zb_} (h:Hp w0 L w) {b:Nat} {cs:Array Value} {E:TypeId} {fz:Nat×Nat} (hr:zk_ w0 L b=some (.cells cs E fz)) (off:Nat):w.cell? ⟨b,off,none⟩=cs[off]? :=
 cell_of_row w b off cs E fz (h.read hr)
section
variable {P:Program} {w0 w:World} {L:zb_}
theorem jl_ {b:Nat} {cs:Array Value} {E:TypeId} {fz:Nat×Nat} (hb:w.heap[b]? =some (.cells cs E fz)) (off n:Nat) (hn:off+n≤cs.size):
  (loadCells ⟨b,off,none⟩ n).run P w= .ok (cs.extract off (off+n)) w:=by
 have h:=run_loadCells_list (P:=P) w ⟨b,off,none⟩ (cs.extract off (off+n)).toList (by
  intro j v hv
  rw[qB_,cell_of_row w b _ cs E fz hb]
  simp only[Array.getElem?_toList,Array.getElem?_extract] at hv
  split at hv
  ·exact hv
  ·cases hv)
 have e: (cs.extract off (off+n)).toList.length=n:=by simp;omega
 rw[e,Array.toArray_toList] at h
 exact h
theorem JC_ {t:TypeId} {b off:Nat} {v:Value} (hw:Hp w0 L w) (h:zl_ (qc_ P t) (zk_ w0 L b) off=some v): (loadVar t ⟨b,off,none⟩).run P w= .ok v w:=by
 unfold zl_ at h
 split at h
 ·rename_i n cs E fz hm ho
  split at h
  ·rename_i hn
   simp only[Option.some.injEq] at h;subst h
   unfold loadVar
   rw[Sem.run_bind,Jp_ hm w]
   simp only[Result.andThen_ok, ↓reduceIte,Sem.run_bind,zv_ hm w,jl_ (hw.read ho) off n hn,Sem.run_pure]
  ·cases h
 ·rename_i n cs E fz hm ho
  unfold loadVar
  rw[Sem.run_bind,Jp_ hm w]
  simp only[Result.andThen_ok,Bool.false_eq_true, ↓reduceIte,run_load,abo_ hw ho,h]
 ·cases h
theorem Q5_ (f:Value→ByteArray→Sem (ForInStep ByteArray)) (hf: ∀ (n:Int) s,f (.int .u8 n) s=pure (.yield (s.push (UInt8.ofNat n.toNat)))):
  ∀ (l:List Value) (bs:List UInt8) (s:ByteArray) (w:World),bytesOf l=some bs→(forIn l s f).run P w= .ok ⟨s.data++bs.toArray⟩ w
 | [],bs,s,w,h=>by
  simp only[bytesOf,Option.some.injEq] at h;subst h
  simp
 |v::r,bs,s,w,h=>by
  unfold bytesOf at h
  split at h
  ·cases ‹v::r= []›
  ·rename_i n r' e
   cases e
   split at h
   ·rename_i l hl
    simp only[Option.some.injEq] at h;subst h
    have ih:=Q5_ f hf r l (s.push (UInt8.ofNat n.toNat)) w hl
    rw[List.forIn_cons,hf]
    simp only[pure_bind]
    rw[ih]
    congr 1
    apply congrArg
    apply Array.ext'
    simp[ByteArray.push]
   ·cases h
  ·cases h
theorem Zb_ {b off n c:Nat} {v:Value} (hw:Hp w0 L w) (h:jD_ (zk_ w0 L b) off n=some v): (Conv.bytesToString (.slice (some ⟨b,off,none⟩) n c)).run P w= .ok v w:=by
 unfold jD_ at h
 split at h
 ·rename_i cs E fz ho
  split at h
  ·rename_i hn
   cases hl:bytesOf (cs.extract off (off+n)).toList with
   |none=>rw[hl] at h;cases h
   |some l=>
    rw[hl] at h
    simp only[Option.map_some,Option.some.injEq] at h;subst h
    unfold Conv.bytesToString
    simp only[Sem.run_bind,jl_ (hw.read ho) off n hn,Result.andThen_ok]
    rw[←Array.forIn_toList,Q5_ _ (fun n s=>rfl) _ _ _ w hl]
    simp[ByteArray.empty,ByteArray.emptyWithCapacity]
    rfl
  ·cases h
 ·cases h
end
end Go.Sx
end
section
namespace Go.Sx
open Go
set_option linter.unusedSimpArgs false
section
variable {P:Program} {w0 w:World} {L:zb_}
theorem xC_ {v:Value} {i:Int} (h:ixI v=some i): ∃k,v= .int k i:=by
 cases v<;>simp only[ixI,reduceCtorEq,Option.some.injEq] at h
 subst h;exact⟨_,rfl⟩
theorem afg_ {t:TypeId} {x i v:Value} (h:v3_ (ixT P t) x (ixI i)=some v) (w:World): (Instr.index t x i).run P w= .ok v w:=by
 unfold v3_ at h
 split at h
 ·rename_i n m cs k hx hi
  split at h
  ·rename_i hk
   obtain⟨kk,rfl⟩:=xC_ hi
   unfold ixT at hx
   split at hx
   ·rename_i n' e hu
    split at hx
    ·rename_i m' hm
     cases hx
     simp only[Instr.index,asIntOf,Sem.run_bind,Sem.run_pure,Result.andThen_ok,run_underlying hu w,hk,and_self, ↓reduceIte,zv_ hm w]
     exact qU_ hm h w
    ·cases hx
   ·split at hx<;>cases hx
   ·cases hx
   ·cases hx
  ·cases h
 ·rename_i s k hx hi
  split at h
  ·rename_i hk
   obtain⟨kk,rfl⟩:=xC_ hi
   unfold ixT at hx
   split at hx
   ·split at hx<;>cases hx
   ·split at hx<;>cases hx
   ·rename_i hu
    cases hs:s[k.toNat]? with
    |none=>rw[hs] at h;cases h
    |some b=>
     rw[hs] at h
     simp only[Option.map_some,Option.some.injEq] at h;subst h
     simp only[Instr.index,asIntOf,Sem.run_bind,Sem.run_pure,Result.andThen_ok,run_underlying hu w,hk, ↓reduceIte,hs]
   ·cases hx
  ·cases h
 ·cases h
theorem Xg_ {t:TypeId} {x i v:Value} (h:z3_ (ixT P t) x (ixI i)=some v) (w:World): (Instr.indexAt t x i).run P w= .ok v w:=by
 unfold z3_ at h
 split at h
 ·rename_i n m a k hx hi
  split at h
  ·rename_i hk
   obtain⟨kk,rfl⟩:=xC_ hi
   unfold ixT at hx
   split at hx
   ·rename_i n' e hu
    split at hx
    ·rename_i m' hm
     cases hx
     cases h
     simp only[Instr.indexAt,asIntOf,Sem.run_bind,Sem.run_pure,Result.andThen_ok,run_underlying hu w,Instr.sureAddr,hk,and_self, ↓reduceIte,zv_ hm w]
    ·cases hx
   ·split at hx<;>cases hx
   ·cases hx
   ·cases hx
  ·cases h
 ·rename_i m a n c k hx hi
  split at h
  ·rename_i hk
   obtain⟨kk,rfl⟩:=xC_ hi
   unfold ixT at hx
   split at hx
   ·split at hx<;>cases hx
   ·rename_i e hu
    split at hx
    ·rename_i m' hm
     cases hx
     cases h
     simp only[Instr.indexAt,asIntOf,Sem.run_bind,Sem.run_pure,Result.andThen_ok,run_underlying hu w,hk,and_self, ↓reduceIte,zv_ hm w]
    ·cases hx
   ·cases hx
   ·cases hx
  ·cases h
 ·cases h
theorem Xh_ {t:TypeId} {x v:Value} {i:Nat} (h:xw_ (xv_ P t i) x=some v) (w:World): (Instr.fieldAt t x i).run P w= .ok v w:=by
 unfold xw_ at h
 split at h
 ·rename_i off m a hx
  split at h
  ·cases h
  ·rename_i hm0
   unfold xv_ at hx
   split at hx
   ·rename_i fs hu
    split at hx
    ·rename_i fd hf
     split at hx
     ·rename_i m' hm
      cases hx
      cases h
      simp only[Instr.fieldAt,Sem.run_bind,Sem.run_pure,Result.andThen_ok,run_underlying hu w,hf,Instr.sureAddr,fieldPlace,zv_ hm w,hm0, ↓reduceIte]
     ·cases hx
    ·cases hx
   ·cases hx
 ·cases h
theorem agj_ {t:TypeId} {x v:Value} {i:Nat} (h:aeY_ (xv_ P t i) x=some v) (w:World): (Instr.field t x i).run P w= .ok v w:=by
 unfold aeY_ at h
 split at h
 ·rename_i off m cs hx
  unfold xv_ at hx
  split at hx
  ·rename_i fs hu
   split at hx
   ·rename_i fd hf
    split at hx
    ·rename_i m' hm
     cases hx
     simp only[Instr.field,Sem.run_bind,Result.andThen_ok,run_underlying hu w,hf,asAgg,Sem.run_pure]
     exact qU_ hm h w
    ·cases hx
   ·cases hx
  ·cases hx
 ·cases h
theorem abY_ {t:TypeId} {n:Nat} {m:Bool×Nat} (h:ixT P t= .arr n m): ∃e,P.underlying t=some (.array n e)∧qc_ P e=some m:=by
 unfold ixT at h
 split at h
 ·rename_i n' e hu
  split at h
  ·rename_i m' hm;cases h;exact⟨e,hu,hm⟩
  ·cases h
 ·split at h<;>cases h
 ·cases h
 ·cases h
theorem ae3_ {t:TypeId} {m:Bool×Nat} (h:ixT P t= .sl m): ∃e,P.underlying t=some (.slice e)∧qc_ P e=some m:=by
 unfold ixT at h
 split at h
 ·split at h<;>cases h
 ·rename_i e hu
  split at h
  ·rename_i m' hm;cases h;exact⟨e,hu,hm⟩
  ·cases h
 ·cases h
 ·cases h
theorem ahF_ {t:TypeId} (h:ixT P t= .str):P.underlying t=some .string:=by
 unfold ixT at h
 split at h
 ·split at h<;>cases h
 ·split at h<;>cases h
 ·assumption
 ·cases h
theorem aku_ {t:TypeId} {x v:Value} (h:wt_ (ixT P t) x=some v) (y:TypeId) (ts:Array TypeId) (vs:Array Value) (h1:vs[0]? =some x) (h2:ts[0]? =some t) (w:World):
  (Builtin.len_ ts y vs).run P w= .ok v w:=by
 unfold wt_ at h
 split at h
 ·rename_i s hx
  cases h
  simp only[Builtin.len_,h1,h2,Sem.run_bind,run_underlying (ahF_ hx) w,Result.andThen_ok];rfl
 ·rename_i n m hx
  cases h
  obtain⟨e,hu,_⟩:=abY_ hx
  simp only[Builtin.len_,h1,h2,Sem.run_bind,run_underlying hu w,Result.andThen_ok];rfl
 ·rename_i m a n c hx
  cases h
  obtain⟨e,hu,_⟩:=ae3_ hx
  simp only[Builtin.len_,h1,h2,Sem.run_bind,run_underlying hu w,Result.andThen_ok];rfl
 ·cases h
theorem amj_ {t:TypeId} {x v:Value} (h:capV (ixT P t) x=some v) (y:TypeId) (ts:Array TypeId) (vs:Array Value) (h1:vs[0]? =some x) (h2:ts[0]? =some t) (w:World):
  (Builtin.cap_ ts y vs).run P w= .ok v w:=by
 unfold capV at h
 split at h
 ·rename_i n m hx
  cases h
  obtain⟨e,hu,_⟩:=abY_ hx
  simp only[Builtin.cap_,h1,h2,Sem.run_bind,run_underlying hu w,Result.andThen_ok];rfl
 ·rename_i m a n c hx
  cases h
  obtain⟨e,hu,_⟩:=ae3_ hx
  simp only[Builtin.cap_,h1,h2,Sem.run_bind,run_underlying hu w,Result.andThen_ok];rfl
 ·cases h
theorem ka_ {x:Value} {i:Int} (h:ixI x=some i) {y:Nat} (hi:0≤i∧i≤y) (code:BoundsCode) (w:World): (Instr.sliceBound x y code).run P w= .ok i.toNat w:=by
 obtain⟨k,rfl⟩:=xC_ h
 simp only[Instr.sliceBound,asIntOf,Sem.run_bind,Sem.run_pure,Result.andThen_ok,hi,and_self, ↓reduceIte]
theorem Zj_ {b:Bool} {n c l h:Nat} {lo hi:Option Value} (hh:bndV n c (lo.map ixI) (hi.map ixI)=some (l,h)) (w:World):
  (Instr.sliceBounds b n c lo hi none).run P w= .ok (l,h,c) w:=by
 unfold bndV at hh
 cases lo with
 |none=>
  cases hi with
  |none=>
   simp only[Option.map_none,Option.some.injEq,Prod.mk.injEq] at hh
   obtain⟨rfl,rfl⟩:=hh
   simp[Instr.sliceBounds]
  |some hv=>
   simp only[Option.map_none,Option.map_some] at hh
   split at hh
   ·cases ‹some (ixI hv)=none›
   ·cases ‹_=none›
   ·rename_i h' e1 e2
    split at hh
    ·rename_i hb
     cases hh
     simp only[Option.some.injEq] at e2
     simp[Instr.sliceBounds,ka_ e2 hb]
    ·cases hh
   ·cases ‹none=some (some _)›
   ·cases hh
 |some lv=>
  cases hi with
  |none=>
   simp only[Option.map_none,Option.map_some] at hh
   split at hh
   ·cases ‹some (ixI lv)=none›
   ·rename_i l' e1 e2
    split at hh
    ·rename_i hb
     cases hh
     simp only[Option.some.injEq] at e1
     simp[Instr.sliceBounds,ka_ e1 hb]
    ·cases hh
   ·cases ‹some (ixI lv)=none›
   ·cases ‹none=some (some _)›
   ·cases hh
  |some hv=>
   simp only[Option.map_some] at hh
   split at hh
   ·cases ‹some (ixI lv)=none›
   ·cases ‹some (ixI hv)=none›
   ·cases ‹some (ixI lv)=none›
   ·rename_i l' h' e1 e2
    split at hh
    ·rename_i hb
     cases hh
     simp only[Option.some.injEq] at e1 e2
     simp[Instr.sliceBounds,ka_ e2 (⟨by omega,hb.2.2⟩:0≤h'∧h'≤ (c:Int)),ka_ e1 (y:=h'.toNat) ⟨hb.1,by omega⟩]
    ·cases hh
   ·cases hh
theorem agG_ {t:TypeId} {x v:Value} {lo hi:Option Value} (h:qs_ (ixT P t) x (lo.map ixI) (hi.map ixI)=some v) (w:World): (Instr.sliceAt t x lo hi none).run P w= .ok v w:=by
 unfold qs_ at h
 split at h
 ·rename_i s hx
  split at h
  ·rename_i l hi' hb
   cases h
   have hu:=ahF_ hx
   simp only[Instr.sliceAt,Instr.slice,Sem.run_bind,run_underlying hu w,Result.andThen_ok,Option.isSome_none,Bool.false_eq_true, ↓reduceIte,Zj_ hb w,Sem.run_pure]
  ·cases h
 ·rename_i m a n c hx
  split at h
  ·rename_i l hi' hb
   cases h
   obtain⟨e,hu,hm⟩:=ae3_ hx
   simp only[Instr.sliceAt,Instr.slice,Sem.run_bind,run_underlying hu w,Result.andThen_ok,Zj_ hb w,zv_ hm w,Sem.run_pure]
  ·cases h
 ·rename_i n m a hx
  split at h
  ·rename_i l hi' hb
   cases h
   obtain⟨e,hu,hm⟩:=abY_ hx
   simp only[Instr.sliceAt,Instr.sureAddr,Sem.run_bind,run_underlying hu w,Result.andThen_ok,Zj_ hb w,zv_ hm w,Sem.run_pure]
  ·cases h
 ·cases h
theorem Kc_ {t:TypeId} {x y:Value} {b:Bool} (d:Nat) (h:qF_ (P.underlying t) x y=some b) (w:World): (Op.equalIn (d+1) t x y).run P w= .ok b w:=by
 unfold qF_ at h
 split at h<;>first
  | (
    rename_i hu
    simp only[Option.some.injEq] at h
    subst h
    simp only[Op.equalIn,Sem.run_bind,run_underlying hu w,Result.andThen_ok]
    rfl)
  |cases h
theorem adj_ (P:Program): ∀ (d k:Nat) (t:TypeId) (x y:Value) (b:Bool),eqD P d t x y=some b→ ∀w,(Op.equalIn (d+k) t x y).run P w= .ok b w:=by
 intro d
 induction d with
 |zero=>intro k t x y b h;cases h
 |succ d ih=>
  intro k t x y b h w
  have e:d+1+k=(d+k)+1:=by omega
  rw[e]
  unfold eqD at h
  split at h
  ·rename_i k0 k1 a k2 c hu
   split at h
   ·rename_i hk
    cases h
    subst hk
    simp[Op.equalIn,run_underlying hu w]
   ·cases h
  ·rename_i a c hu
   cases h
   simp[Op.equalIn,run_underlying hu w]
  ·rename_i n el xs ys hu
   split at h
   ·rename_i m hm
    simp only[Op.equalIn,Sem.run_bind,run_underlying hu w,Result.andThen_ok,zv_ hm w]
    simp only[Std.Legacy.Range.forIn_eq_forIn_range',Std.Legacy.Range.size,Nat.sub_zero,Nat.add_one_sub_one,Nat.div_one]
    rw[List.range_eq_range'] at h
    generalize List.range' 0 n=is at h ⊢
    induction is with
    |nil=>cases h;simp
    |cons j is ihl=>
     unfold wK_ at h
     simp only[List.forIn_cons,Sem.run_bind]
     split at h
     ·rename_i h1
      unfold k8_ at h1
      split at h1
      ·rename_i m' he
       cases he
       split at h1
       ·rename_i a c ha hc
        simp only[qU_ hm ha w,qU_ hm hc w,Result.andThen_ok,ih k el a c true h1 w,Bool.not_true,Bool.false_eq_true,if_false,Sem.run_pure]
        exact ihl h
       ·cases h1
      ·cases h1
     ·rename_i h1
      cases h
      unfold k8_ at h1
      split at h1
      ·rename_i m' he
       cases he
       split at h1
       ·rename_i a c ha hc
        simp only[qU_ hm ha w,qU_ hm hc w,Result.andThen_ok,ih k el a c false h1 w,Bool.not_false,if_true,Sem.run_pure]
       ·cases h1
      ·cases h1
     ·cases h
   ·cases h
  ·rename_i fs xs ys hu
   split at h
   ·cases h
   ·rename_i hst
    have hst':P.stoodInHeld t=false:=by simpa using hst
    simp only[Op.equalIn,Sem.run_bind,run_underlying hu w,Result.andThen_ok,run_program,hst',Bool.false_eq_true,if_false]
    rw[←Array.forIn_toList]
    generalize fs.toList=l at h ⊢
    clear hu
    induction l with
    |nil=>cases h;simp
    |cons f l ihl=>
     unfold vb_ at h
     simp only[List.forIn_cons,Sem.run_bind,Sem.run_ite]
     split at h
     ·rename_i hne
      rw[if_pos hne]
      split at h
      ·rename_i h1
       unfold k8_ at h1
       split at h1
       ·rename_i m' hm
        split at h1
        ·rename_i a c ha hc
         simp only[qU_ hm ha w,qU_ hm hc w,Result.andThen_ok,ih k f.type a c true h1 w,Bool.not_true,Bool.false_eq_true,if_false,Sem.run_pure]
         exact ihl h
        ·cases h1
       ·cases h1
      ·rename_i h1
       cases h
       unfold k8_ at h1
       split at h1
       ·rename_i m' hm
        split at h1
        ·rename_i a c ha hc
         simp only[qU_ hm ha w,qU_ hm hc w,Result.andThen_ok,ih k f.type a c false h1 w,Bool.not_false,if_true,Sem.run_pure]
        ·cases h1
       ·cases h1
      ·cases h
     ·rename_i hne
      rw[if_neg hne]
      simp only[Sem.run_pure,Result.andThen_ok]
      exact ihl h
  ·exact Kc_ (d+k) h w
theorem ah5_ {op:BinOp} {t:TypeId} {x y:Operand} {a b:Value} {r:Bool} (hp: (qZ_ a&&qZ_ b)≠true) (hr:eqX P t a b=some r) (w:World):
  (eqGuard op t x y a b).run P w= .ok () w∧(Op.equal t a b).run P w= .ok r w∧binOp .eql t a b=(do pure (.bool (←Op.equal t a b)):Sem Value)∧binOp .neq t a b=(do pure (.bool (!(←Op.equal t a b))):Sem Value):=by
 unfold eqX at hr
 split at hr
 ·rename_i xs ys
  split at hr
  ·cases hr
  ·rename_i hg
   have hg':P.eqGuardType P.depth t=false:=by simpa using hg
   refine⟨?_,adj_ P 8 9992 t _ _ r hr w,rfl,rfl⟩
   unfold eqGuard
   cases op<;>first
    |rfl
    |simp[Sem.run_bind,run_program,hg']
 ·refine⟨?_,Kc_ 9999 hr w, ?_, ?_⟩
  ·unfold qF_ at hr
   split at hr<;>first| (unfold eqGuard;cases op<;>rfl) |cases hr
  ·unfold qF_ at hr
   split at hr<;>first|rfl|cases hr
  ·unfold qF_ at hr
   split at hr<;>first|rfl|cases hr
theorem akC_ {op:BinOp} {t:TypeId} {x y:Operand} {a b v:Value} (h:qL_ P op t a b=some v) (w:World):
  (do eqGuard op t x y a b;binOp op t a b:Sem Value).run P w= .ok v w:=by
 unfold qL_ at h
 split at h
 ·rename_i hp
  have hg: (eqGuard op t x y a b).run P w= .ok () w:=by
   unfold eqGuard
   cases a<;>simp only[qZ_,Bool.false_and,Bool.false_eq_true] at hp<;>
    (split<;>rfl)
  rw[Sem.run_bind,hg]
  exact adU_ w h
 ·rename_i hp
  split at h
  ·cases hr:eqX P t a b with
   |none=>rw[hr] at h;cases h
   |some r=>
    rw[hr] at h
    simp only[Option.map_some,Option.some.injEq] at h;subst h
    obtain⟨h1,h2,e,-⟩:=ah5_ (op:= .eql) (x:=x) (y:=y) hp hr w
    rw[Sem.run_bind,h1]
    simp only[Result.andThen_ok]
    rw[e,Sem.run_bind,h2];rfl
  ·cases hr:eqX P t a b with
   |none=>rw[hr] at h;cases h
   |some r=>
    rw[hr] at h
    simp only[Option.map_some,Option.some.injEq] at h;subst h
    obtain⟨h1,h2,-,e⟩:=ah5_ (op:= .neq) (x:=x) (y:=y) hp hr w
    rw[Sem.run_bind,h1]
    simp only[Result.andThen_ok]
    rw[e,Sem.run_bind,h2];rfl
  ·cases h
theorem anE_ {s d:TypeId} {k:IntKind} (h:cvT P s d= .int k): ∃k',P.underlying s=some (.int k')∧P.underlying d=some (.int k):=by
 unfold cvT at h
 split at h
 ·rename_i a b;cases h;exact⟨_,a,b⟩
 ·cases h
 ·split at h<;>cases h
 ·split at h<;>cases h
 ·cases h
theorem ahO_ {s d:TypeId} {x v:Value} (hw:Hp w0 L w) (h:Xm_ w0 L (cvT P s d) x=some v): (convert s d x).run P w= .ok v w:=by
 unfold Xm_ at h
 split at h
 ·rename_i k hc
  obtain⟨k',h1,h2⟩:=anE_ hc
  unfold z4_ at h
  split at h
  ·cases h
   simp only[convert,Sem.run_bind,run_underlying h1 w,run_underlying h2 w,Result.andThen_ok,Conv.intToInt,Sem.run_pure]
  ·cases h
 ·rename_i hc
  unfold cvT at hc
  split at hc
  ·cases hc
  ·rename_i h1 h2
   split at h
   ·cases h
    simp only[convert,Sem.run_bind,run_underlying h1 w,run_underlying h2 w,Result.andThen_ok,Sem.run_pure]
   ·cases h
  ·split at hc<;>cases hc
  ·split at hc<;>cases hc
  ·cases hc
 ·rename_i hc
  unfold cvT at hc
  split at hc
  ·cases hc
  ·cases hc
  ·rename_i e h1 h2
   split at hc
   ·rename_i h3
    unfold adl_ at h
    split at h
    ·cases h
     simp only[convert,Sem.run_bind,run_underlying h1 w,run_underlying h2 w,run_underlying h3 w,Result.andThen_ok];rfl
    ·simp only[convert,Sem.run_bind,run_underlying h1 w,run_underlying h2 w,run_underlying h3 w,Result.andThen_ok]
     exact Zb_ hw h
    ·cases h
   ·cases hc
  ·split at hc<;>cases hc
  ·cases hc
 ·cases h
theorem qI_ {f:Fr} {o:Oper} {v:Value} (hw:Hp w0 L w) (h:jg_ P w0 L f o.op=some v): (execOp (ev f) o).run P w= .ok (.value v) w:=by
 obtain⟨dst,op,ty,pos,after,guard⟩:=o
 simp only at h
 unfold jg_ at h
 split at h<;>simp only[execOp]
 ·cases h;rfl
 ·cases h;rfl
 ·rename_i c a b
  cases hc:ev f c<;>rw[hc] at h<;>simp only[aia_,reduceCtorEq] at h
  rename_i t
  cases t<;>simp only[Option.some.injEq] at h<;>subst h<;>rfl
 ·rw[Sem.run_bind,akC_ h w];rfl
 ·rw[Sem.run_bind,anj_ w h];rfl
 ·rw[Sem.run_bind,ahO_ hw h];rfl
 ·rename_i x
  unfold nilV at h
  split at h
  ·rename_i a hx;cases h;simp only[hx];rfl
  ·rename_i k a b hx;cases h;simp only[hx];rfl
  ·cases h
 ·rw[Sem.run_bind,Xh_ h w];rfl
 ·rw[Sem.run_bind,agj_ h w];rfl
 ·rw[Sem.run_bind,Xg_ h w];rfl
 ·rw[Sem.run_bind,afg_ h w];rfl
 ·rename_i t x
  unfold kU_ at h
  split at h
  ·rename_i b off hx
   simp only[Instr.loadAt,hx,Instr.sureAddr,Sem.run_bind,Sem.run_pure,Result.andThen_ok,JC_ hw h]
  ·cases h
 ·rename_i x i
  unfold Z6_ at h
  split at h
  ·rename_i vs hx
   simp only[Instr.extract,hx,h];rfl
  ·cases h
 ·rename_i t x lo hi
  have h':qs_ (ixT P t) (ev f x) ((lo.map (ev f)).map ixI) ((hi.map (ev f)).map ixI)=some v:=by
   rw[Option.map_map,Option.map_map];exact h
  rw[Sem.run_bind]
  simp only[Option.map_none]
  rw[agG_ h' w];rfl
 ·cases h;rfl
 ·rename_i args ts
  split at h
  ·rename_i x t hx ht
   have h1: (args.map (ev f))[0]? =some (ev f x):=by simp[hx]
   simp only[resolve,Sem.run_bind,Sem.run_pure,Result.andThen_ok,invoke,builtin]
   rw[aku_ h _ _ _ h1 ht w];rfl
  ·cases h
 ·rename_i args ts
  split at h
  ·rename_i x t hx ht
   have h1: (args.map (ev f))[0]? =some (ev f x):=by simp[hx]
   simp only[resolve,Sem.run_bind,Sem.run_pure,Result.andThen_ok,invoke,builtin]
   rw[amj_ h _ _ _ h1 ht w];rfl
  ·cases h
 ·cases h
end
end Go.Sx
end
namespace Go.Sx
open Go
section
variable {P:Program} {ops:Array Oper} {Q:Exit→Act→World→Prop}
def Left (o:Oper) (a a':Act):Prop:= ∃u ds,a'=({a with defers:=ds}:Act).put o.dst u
theorem afv_ {o:Oper} {a:Act} {d:Option Tmp} {v:Value} {K:Act→World→Prop} (hd: ∀t,d=some t→o.dst≠some t)
  (hQ: ∀c a w,Q (.panic c) (a.put d v) w→Q (.panic c) a w) (r:Result Next) (h:o.upon P (a.put d v) K Q r):
  o.upon P a (fun a' w'=>Left o a a'∧K (a'.put d v) w') Q r:=by
 have comm: ∀u,(a.put o.dst u).put d v=(a.put d v).put o.dst u:=fun u=>(Act.put_comm a v u hd).symm
 have hl: ∀u,Left o a (a.put o.dst u):=fun u=>⟨u,a.defers,rfl⟩
 match r,h with
 | .ok (.value u) _,h=>exact⟨hl u,by rw[comm];exact h⟩
 | .ok .skip _,h=>exact⟨hl undef,by rw[comm];exact h⟩
 | .ok (.defer e) _,h=>
  refine⟨⟨undef,e::a.defers,rfl⟩, ?_⟩
  rw[←Act.put_comm _ v undef hd,←Act.put_defers]
  exact h
 | .ok (.enter f args) _,h=>
  refine Calls.mono h fun e w'' he=> ?_
  match e,he with
  | .returned u,he=>exact⟨hl u,by rw[comm];exact he⟩
  | .panicked c,he=>exact hQ _ _ _ he
  | .outgrown,he=>exact he
 | .ok (.row row args) _,h=>exact Rows.mono h fun u w'' he=>⟨hl u,by rw[comm];exact he⟩
 | .halt (.panic u) _,h=>exact hQ _ _ _ h
theorem af4_ {j:Nat} {oi oj:Oper} {v:Value} (hj:ops[j]? =some oj) (hap:oi.apart ops oj=true) (hsj: ∀cs b,oj.op≠ .select cs b)
  (hQ: ∀c a w,Q (.panic c) (a.put oi.dst v) w→Q (.panic c) a w) {K:Act→World→Prop} {a:Act} {w:World}
  (h:wpOp P ops Q j K (a.put oi.dst v) w):wpOp P ops Q j (fun a' w'=>Left oj a a'∧K (a'.put oi.dst v) w') a w:=by
 obtain⟨h1,h2,h3⟩:=Oper.apart_spec hap
 unfold wpOp at h ⊢
 simp only[hj] at h ⊢
 rw[wanted_put oj a oi.dst v h1] at h
 cases hw:Region.wanted oj (yielded ops a.tmps) with
 |true=>
  rw[hw] at h
  simp only[if_true] at h ⊢
  rcases h with h| ⟨hasks,hl⟩
  ·left
   unfold Oper.wp at h ⊢
   rw[execOp_put oj hsj a oi.dst v h1] at h
   exact afv_ h2 hQ _ h
  ·right
   exact⟨by unfold Oper.asks at*;rwa [execOp_put oj hsj a oi.dst v h1] at hasks,hl⟩
 |false=>
  rw[hw] at h
  simp only[Bool.false_eq_true,if_false] at h ⊢
  exact⟨⟨undef,a.defers,rfl⟩,by rw[←Act.put_comm a v undef h2];exact h⟩
def xk_ (P:Program) (ops:Array Oper) (Q:Exit→Act→World→Prop) (ts:List Nat) (C:World→Prop):Nat→Array Bool→Act→World→Prop
 |0,listed,a,w=>((∀t,t∈ts→listed.getD t true=false)→C w)∧Region.ready .any ops listed= []∧Q .normal a w
 |n+1,listed,a,w=>
  ((∀t,t∈ts→listed.getD t true=false)→C w)∧(Region.ready .any ops listed= []→Q .normal a w)∧
  ∀i∈Region.ready .any ops listed,wpOp P ops Q i (xk_ P ops Q ts C n (listed.setIfInBounds i true)) a w
variable {ts:List Nat} {C:World→Prop}
theorem vd_ {listed:Array Bool} {i t:Nat} (h:listed.getD t true=true): (listed.setIfInBounds i true).getD t true=true:=by
 by_cases he:i=t
 ·subst he
  rw[Array.getD_eq_getD_getElem?,Array.getElem?_setIfInBounds_self]
  split<;>rfl
 ·rw[getD_set_ne true he];exact h
theorem kh_: ∀ (n:Nat) (listed:Array Bool) (a:Act) (w:World),xk_ P ops Q ts C n listed a w→wpAny P .any ops Q n listed a w
 |0,_,_,_,h=>h.2
 |n+1,_,_,_,h=>⟨h.2.1,fun i hi=>wpOp_mono (fun a w k=>kh_ n _ a w k) (h.2.2 i hi)⟩
theorem kz_: ∀ (n:Nat) (listed:Array Bool) (a:Act) (w:World),(∃t∈ts,listed.getD t true=true)→wpAny P .any ops Q n listed a w→xk_ P ops Q ts C n listed a w
 |0,_,_,_,⟨t,ht,hl⟩,h=>⟨fun hn=>(by rw[hn t ht] at hl;cases hl),h.1,h.2⟩
 |n+1,_,_,_,⟨t,ht,hl⟩,h=>
  ⟨fun hn=>(by rw[hn t ht] at hl;cases hl),h.1,fun i hi=>wpOp_mono (fun a w k=>kz_ n _ a w ⟨t,ht,vd_ hl⟩ k) (h.2 i hi)⟩
structure First (ops:Array Oper) (ts:List Nat) (i:Nat) (oi:Oper) (pure:Prop) (listed:Array Bool):Prop where
 ready:i∈Region.ready .any ops listed
 free: ∀j oj,ops[j]? =some oj→j≠i→listed.getD j true=false→(∀e∈oj.after,Region.binds .any e=true→e.on≠i)→oi.apart ops oj=true
 waits:pure∨ ∃cs:List Nat,(∀t,t∈ts→listed.getD t true=false→t∈cs)∧
  ∀c,c∈cs→c≠i∧listed.getD c true=false∧ ∃oc,ops[c]? =some oc∧ ∃e∈oc.after,Region.binds .any e=true∧(e.on=i∨e.on∈cs)
def YieldsC (P:Program) (ops:Array Oper) (C:World→Prop) (pure:Prop) (o:Oper) (v:Value) (a:Act):Prop:=
 (Region.wanted o (yielded ops a.tmps)=true∧ ∀w,(pure∨C w)→(execOp a.eval o).run P w= .ok (.value v) w)∨
 (Region.wanted o (yielded ops a.tmps)=false∧v=undef)
theorem YieldsC.wpOp {pure:Prop} {i:Nat} {o:Oper} {v:Value} {a:Act} (hi:ops[i]? =some o) (hy:YieldsC P ops C pure o v a)
  {K:Act→World→Prop} {w:World} (hw:pure∨C w) (h:K (a.put o.dst v) w):Go.wpOp P ops Q i K a w:=by
 unfold Go.wpOp
 simp only[hi]
 rcases hy with⟨h1,hv⟩ | ⟨h1,rfl⟩
 ·simp only[h1,if_true,Oper.wp,hv w hw,Oper.upon];exact .inl h
 ·simp only[h1,Bool.false_eq_true,if_false];exact h
theorem YieldsC.left {pure:Prop} {oi oj:Oper} {v:Value} {a a':Act} (hy:YieldsC P ops C pure oi v a) (hsi: ∀cs b,oi.op≠ .select cs b)
  (h3: ∀d,oj.dst=some d→d∉oi.looksAt ops) (hl:Left oj a a'):YieldsC P ops C pure oi v a':=by
 obtain⟨u,ds,rfl⟩:=hl
 have e1:execOp (({a with defers:=ds}:Act).put oj.dst u).eval oi=execOp a.eval oi:=execOp_put oi hsi ({a with defers:=ds}:Act) oj.dst u h3
 have e2:Region.wanted oi (yielded ops (({a with defers:=ds}:Act).put oj.dst u).tmps)=Region.wanted oi (yielded ops a.tmps):=wanted_put oi ({a with defers:=ds}:Act) oj.dst u h3
 unfold YieldsC
 rw[e1,e2]
 exact hy
theorem kI_ {pure:Prop} {i:Nat} {oi:Oper} {v:Value} (hi:ops[i]? =some oi) (hit:i∉ts) (hsel: ∀ (j:Nat) (o:Oper) cs b,ops[j]? =some o→o.op≠ .select cs b)
  (hQ: ∀c a w,Q (.panic c) (a.put oi.dst v) w→Q (.panic c) a w):
  ∀ (fuel:Nat) (listed:Array Bool) (a:Act) (w:World),First ops ts i oi pure listed→(pure∨ ∀t,t∈ts→listed.getD t true=false)→YieldsC P ops C pure oi v a→
   xk_ P ops Q ts C fuel (listed.setIfInBounds i true) (a.put oi.dst v) w→xk_ P ops Q ts C (fuel+1) listed a w:=by
 intro fuel
 induction fuel with
 |zero=>
  intro listed a w hF hn hy H
  have hset: ∀t,t∈ts→(listed.setIfInBounds i true).getD t true=listed.getD t true:=fun t ht=>getD_set_ne true (fun e=>hit (e▸ht))
  have hC: (∀t,t∈ts→listed.getD t true=false)→C w:=fun h=>H.1 fun t ht=>(hset t ht).trans (h t ht)
  refine⟨hC,fun h=>(by have:=hF.ready;rw[h] at this;cases this),fun j hj=> ?_⟩
  by_cases hji:j=i
  ·subst hji;exact hy.wpOp hi (hn.imp id hC) H
  ·have:=ready_mono hj hji
   rw[H.2.1] at this
   cases this
 |succ fuel ih=>
  intro listed a w hF hn hy H
  have hset: ∀t,t∈ts→(listed.setIfInBounds i true).getD t true=listed.getD t true:=fun t ht=>getD_set_ne true (fun e=>hit (e▸ht))
  have hC: (∀t,t∈ts→listed.getD t true=false)→C w:=fun h=>H.1 fun t ht=>(hset t ht).trans (h t ht)
  refine⟨hC,fun h=>(by have:=hF.ready;rw[h] at this;cases this),fun j hj=> ?_⟩
  by_cases hji:j=i
  ·subst hji;exact hy.wpOp hi (hn.imp id hC) H
  ·have h1:=H.2.2 j (ready_mono hj hji)
   obtain⟨hjun,oj,hoj,hall⟩:=mem_ready.1 hj
   have hnot: ∀e∈oj.after,Region.binds .any e=true→e.on≠i:=fun e he hb heq=>by
    have h2:=hall e he hb
    have h0:=(mem_ready.1 hF.ready).1
    rw[heq] at h2
    rcases Nat.lt_or_ge i listed.size with h'|h'
    ·simp[h'] at h0 h2;rw[h0] at h2;cases h2
    ·simp[Array.getElem?_eq_none h'] at h2
   have hap:=hF.free j oj hoj hji hjun hnot
   have h2:=af4_ hoj hap (fun cs b=>hsel j oj cs b hoj) hQ h1
   have old: ∀k,(listed.setIfInBounds j true).getD k true=false→listed.getD k true=false:=fun k hk=>by
    by_cases hjk:j=k
    ·subst hjk;exact hjun
    ·rwa [getD_set_ne true hjk] at hk
   have hun: ∀k,listed.getD k true=false→k≠j→(listed.setIfInBounds j true).getD k true=false:=fun k hk hkj=>by
    rw[getD_set_ne true (Ne.symm hkj)];exact hk
   have hi0:=(mem_ready.1 hF.ready).1
   have hw': ∀cs:List Nat,(∀c,c∈cs→c≠i∧listed.getD c true=false∧ ∃oc,ops[c]? =some oc∧ ∃e∈oc.after,Region.binds .any e=true∧(e.on=i∨e.on∈cs))→j∉cs:=by
    intro cs hcs hjc
    obtain⟨-,-,oc,hoc,e,he,hb,heq⟩:=hcs j hjc
    rw[hoj] at hoc
    cases hoc
    have h2:=hall e he hb
    rcases heq with heq|heq
    ·exact hnot e he hb heq
    ·have h3:=(hcs _ heq).2.1
     rcases Nat.lt_or_ge e.on listed.size with h'|h'
     ·simp[h'] at h2 h3;rw[h3] at h2;cases h2
     ·simp[Array.getElem?_eq_none h'] at h2
   have hF':First ops ts i oi pure (listed.setIfInBounds j true):=
    ⟨ready_mono hF.ready (Ne.symm hji),fun k ok hk hki hun hno=>hF.free k ok hk hki (old k hun) hno,hF.waits.imp id fun⟨cs,hc1,hc2⟩=>
     ⟨cs,fun t ht hu=>hc1 t ht (old t hu),fun c hc=>by
      obtain⟨h1,h2,h3⟩:=hc2 c hc
      exact⟨h1,hun c h2 (fun e=>hw' cs hc2 (e▸hc)),h3⟩⟩⟩
   have hn':pure∨ ∀t,t∈ts→(listed.setIfInBounds j true).getD t true=false:=by
    rcases hF.waits with h| ⟨cs,hc1,hc2⟩
    ·exact .inl h
    ·rcases hn with h|hn
     ·exact .inl h
     ·refine .inr fun t ht=> ?_
      have hjc:=hw' cs hc2
      exact hun t (hn t ht) (fun e=>hjc (e▸hc1 t ht (hn t ht)))
   refine wpOp_mono (fun a' w' h3=>ih (listed.setIfInBounds j true) a' w' hF' hn' (hy.left (fun cs b=>hsel i oi cs b hi) (Oper.apart_spec hap).2.2 h3.1) ?_) h2
   rw[Array.setIfInBounds_comm _ _ hji]
   exact h3.2
end
end Go.Sx
section
namespace Go.Sx
open Go
set_option linter.unusedSimpArgs false
def vV_ (cs:Array Value) (off:Nat):List Value→Array Value
 | []=>cs
 |v::r=>vV_ (cs.setIfInBounds off v) (off+1) r
def zn_ (m:Option (Bool×Nat)) (o:Option Obj) (off:Nat) (v:Value):Option Obj:=
 match m,o with
 |some (_,n),some (.cells cs E fz)=>if v.cells.size=n∧off+n≤cs.size∧(fz.2≤fz.1∨off+n≤fz.1)∧v.cells.toList.all Value.oneCell'=true then some (.cells (vV_ cs off v.cells.toList) E fz) else none
 |_,_=>none
def j9_ (m:Option (Bool×Nat)) (L:zb_) (a v:Value):Option zb_:=
 match a with
 | .pointer (some ⟨b,off,none⟩)=>match zn_ m (look L b) off v with
  |some o=>some (setB L b o)
  |none=>none
 |_=>none
section
variable {P:Program} {w0 w:World} {L:zb_}
theorem abz_ {b off:Nat} {v:Value} {cs:Array Value} {E:TypeId} {fz:Nat×Nat} (hb:w.heap[b]? =some (.cells cs E fz)):
  w.setCell ⟨b,off,none⟩ v={w with heap:=w.heap.setIfInBounds b (.cells (cs.setIfInBounds off v) E fz)}:=by
 have hlt:=(Array.getElem?_eq_some_iff.1 hb).1
 unfold World.setCell
 congr 1
 apply Array.ext_getElem?
 intro i
 rw[Array.getElem?_modify]
 by_cases hi:b=i
 ·subst hi
  rw[if_pos rfl,hb]
  simp[hlt]
 ·rw[if_neg hi,Array.getElem?_setIfInBounds_ne hi]
theorem jw_ {b off:Nat} {E:TypeId} {fz:Nat×Nat}: ∀ (vs:List Value) (i:Nat) (cs:Array Value) (w:World),w.heap[b]? =some (.cells cs E fz)→
  off+i+vs.length≤cs.size→(fz.2≤fz.1∨off+i+vs.length≤fz.1)→vs.all Value.oneCell'=true→
  (storeCells ⟨b,off,none⟩ vs i).run P w= .ok () {w with heap:=w.heap.setIfInBounds b (.cells (vV_ cs (off+i) vs) E fz)}
 | [],i,cs,w,hb,_,_,_=>by
  have hlt:=(Array.getElem?_eq_some_iff.1 hb)
  have:w.heap.setIfInBounds b (.cells cs E fz)=w.heap:=by
   apply Array.ext_getElem?
   intro j
   by_cases hj:b=j
   ·subst hj;rw[hb];simp[hlt.1]
   ·rw[Array.getElem?_setIfInBounds_ne hj]
  simp only[storeCells,vV_,this];rfl
 |v::r,i,cs,w,hb,hs,hf,ho=>by
  simp only[List.all_cons,Bool.and_eq_true] at ho
  simp only[List.length_cons] at hs hf
  have hc:w.cell? ⟨b,off+i,none⟩=some (cs[off+i]'(by omega)):=by
   rw[cell_of_row w b _ cs E fz hb,Array.getElem?_eq_getElem (by omega)]
  have hfz:w.frozen? ⟨b,off+i,none⟩=false:=by
   simp only[World.frozen?,hb,Bool.and_eq_false_iff,decide_eq_false_iff_not]
   omega
  have hlt:=(Array.getElem?_eq_some_iff.1 hb).1
  simp only[storeCells,qB_,Sem.run_bind,run_store P w _ v .plain ho.1,hc,hfz,Bool.false_eq_true, ↓reduceIte,Result.andThen_ok,abz_ hb]
  have hb': ({w with heap:=w.heap.setIfInBounds b (.cells (cs.setIfInBounds (off+i) v) E fz)}:World).heap[b]? =some (.cells (cs.setIfInBounds (off+i) v) E fz):=by
   simp[hlt]
  rw[jw_ r (i+1) _ _ hb' (by simp;omega) (by omega) ho.2]
  simp[vV_,Nat.add_assoc]
theorem aaT_ {t:TypeId} {a v:Value} {L':zb_} (hw:Hp w0 L w) (h:j9_ (qc_ P t) L a v=some L'): ∃w',(Instr.storeAt t a v).run P w= .ok () w'∧Hp w0 L' w':=by
 unfold j9_ at h
 split at h
 ·rename_i b off
  split at h
  ·rename_i o hs
   cases h
   unfold zn_ at hs
   split at hs
   ·rename_i m n cs E fz hm hl
    split at hs
    ·rename_i hc
     obtain⟨h1,h2,h3,h4⟩:=hc
     cases hs
     have hb:=hw.has _ _ (zw_ hl)
     have hlen:v.cells.toList.length=n:=by simpa using h1
     refine⟨{w with heap:=w.heap.setIfInBounds b (.cells (vV_ cs off v.cells.toList) E fz)}, ?_,hw.set (List.mem_map.2 ⟨_,zw_ hl,rfl⟩) rfl rfl rfl rfl⟩
     simp only[Instr.storeAt,Instr.sureAddr,Sem.run_bind,Sem.run_pure,Result.andThen_ok,storeVar,zv_ hm w,h1,ne_eq,not_true_eq_false, ↓reduceIte]
     rw[jw_ v.cells.toList 0 cs w hb (by omega) (by omega) h4]
     rfl
    ·cases hs
   ·cases hs
  ·cases h
 ·cases h
end
def Jk_ (ops:Array Oper) (f:Fr) (j:Nat):Option Bool:=
 match(ops[j]?).bind (·.dst) with
 |some d=>match vW_ f d with
  | .bool b=>some b
  |_=>none
 |none=>none
theorem af3_ (ops:Array Oper) (f:Fr) (j:Nat):yielded ops f.toArray j=Jk_ ops f j:=by
 unfold yielded Jk_
 cases(ops[j]?).bind (·.dst) with
 |none=>rfl
 |some d=>
  simp only[Option.bind_some]
  have:=Vn_ f d
  rw[Array.getD_eq_getD_getElem?] at this
  cases h:f.toArray[d]? with
  |none=>
   rw[h] at this
   simp only[Option.getD_none] at this
   rw[←this];rfl
  |some v=>
   rw[h] at this
   simp only[Option.getD_some] at this
   rw[←this]
   cases v<;>rfl
inductive Md where
 |seq
 |qui (is ts:List Nat)
 |any (is ts:List Nat)
 |sof (R is ts:List Nat)
def jO_ (P:Program):Op→Bool
 | .move _=>true
 | .assign _=>true
 | .pick .. =>true
 | .binOp .. =>true
 | .unOp .. =>true
 | .convert s d _=>match cvT P s d with| .int _=>true| .str=>true|_=>false
 | .nilCheck _=>true
 | .fieldAddr .. =>true
 | .field .. =>true
 | .indexAddr .. =>true
 | .index .. =>true
 | .extract .. =>true
 | .slice .. =>true
 | .makeFunc .. =>true
 | .call ⟨.builtin .len,_,_⟩=>true
 | .call ⟨.builtin .cap,_,_⟩=>true
 | .build .. =>true
 |_=>false
def Jm_:Op→Bool
 | .load .. =>true
 | .convert .. =>true
 |_=>false
def KW_ (ops:Array Oper) (listed:Array Bool) (i:Nat):Nat→List Nat→List Nat
 |0,cs=>cs
 |n+1,cs=>KW_ ops listed i n ((List.range ops.size).filter fun j=>j !=i&& !listed.getD j true&&match ops[j]? with
  |some oj=>oj.after.any fun e=>Region.binds .any e&& (e.on==i||cs.contains e.on)
  |none=>false)
def ai7_ (ops:Array Oper) (ts:List Nat) (listed:Array Bool) (i:Nat) (cs:List Nat):Bool:=
 (ts.all fun t=>listed.getD t true||cs.contains t)&&cs.all fun c=>c !=i&& !listed.getD c true&&match ops[c]? with
  |some oc=>oc.after.any fun e=>Region.binds .any e&& (e.on==i||cs.contains e.on)
  |none=>false
def Qu_ (ops:Array Oper) (ts:List Nat) (listed:Array Bool) (i:Nat):Bool:=
 ai7_ ops ts listed i (KW_ ops listed i 6 [])
def ZM_ (P:Program) (ops:Array Oper) (ts:List Nat):List Nat→Array Bool→Bool
 | [],listed=>(Region.ready .any ops listed).isEmpty
 |k::is,listed=>
  (match ops[k]? with
   |some o=>
    ((Region.ready .any ops listed== [k])&& !(ts.contains k&& (jO_ P o.op||Jm_ o.op))) ||
    (!ts.contains k&& (Region.ready .any ops listed).contains k&&Region.free .any ops listed k&&
     (jO_ P o.op|| (Jm_ o.op&&Qu_ ops ts listed k&&ts.all fun t=> !listed.getD t true)))
   |none=>false)&&ZM_ P ops ts is (listed.setIfInBounds k true)
def jz_ (w0:World) (N:Fr→zb_→Prop) (e:Exit) (a:Act) (w:World):Prop:=e= .normal∧a.defers= []∧ ∃L,Hp w0 L w∧N a.tmps.toList L
structure Fits (P:Program) (ops:Array Oper) (ts is:List Nat) (l:List Oper) (listed:Array Bool):Prop where
 len:is.length=l.length
 at_: ∀j:Nat,l[j]? =(is[j]?).bind fun i:Nat=>ops[i]?
 sel:Region.noSelect ops=true
 order:ZM_ P ops ts is listed=true
def SR (w0:World) (R:List Nat) (L:zb_) (w:World):Prop:= ∀b,b∈R→ ∀o,zk_ w0 L b=some o→w.heap[b]? =some o
theorem SR.of {w0 w:World} {R:List Nat} {L:zb_} (h:Hp w0 L w):SR w0 R L w:=fun _ _ _ ho=>h.read ho
def Ow (P:Program) (w0:World) (ops:Array Oper) (md:Md) (l:List Oper) (f:Fr) (L:zb_) (N:Fr→zb_→Prop):Prop:=
 match md with
 | .seq=> ∀w,Hp w0 L w→wpList P ops (jz_ w0 N) l (act f) w
 | .qui is ts=> ∀listed,Fits P ops ts is l listed→(∀t,t∈ts→listed.getD t true=false)→ ∀w,Hp w0 L w→xk_ P ops (jz_ w0 N) ts (Hp w0 L) l.length listed (act f) w
 | .any is ts=> ∀listed,Fits P ops ts is l listed→(∃t∈ts,listed.getD t true=true)→ ∀w,Hp w0 L w→wpAny P .any ops (jz_ w0 N) l.length listed (act f) w
 | .sof R is ts=> ∀listed,Fits P ops ts is l listed→(∀t,t∈ts→listed.getD t true=false)→ ∀w,Hp w0 L w→xk_ P ops (jz_ w0 N) ts (SR w0 R L) l.length listed (act f) w
def Md.next:Md→Md
 | .seq=> .seq
 | .qui is ts=>match is with
  |k::is=>if ts.contains k then .any is ts else .qui is ts
  | []=> .qui [] ts
 | .any is ts=> .any is.tail ts
 | .sof R is ts=>match is with
  |k::is=>if ts.contains k then .any is ts else .sof R is ts
  | []=> .sof R [] ts
def Md.turn:Md→Option Md
 | .seq=>some .seq
 | .qui is ts=>match is with
  |k::is=>if ts.contains k then some (.any is ts) else none
  | []=>none
 | .any is ts=>some (.any is.tail ts)
 | .sof _ is ts=>match is with
  |k::is=>if ts.contains k then some (.any is ts) else none
  | []=>none
def zg_ (ops:Array Oper) (f:Fr) (o:Oper):Bool:=
 match o.guard with
 |none=>false
 |some (j,want)=> !(Jk_ ops f j==some want)
theorem qg_ (ops:Array Oper) (f:Fr) (o:Oper):Region.wanted o (yielded ops (act f).tmps)= !zg_ ops f o:=by
 unfold Region.wanted zg_
 cases o.guard with
 |none=>rfl
 |some p=>simp only[act,af3_,Bool.not_not]
section
variable {P:Program} {w0:World} {f:Fr} {L:zb_} {K:xp_} {N:Fr→zb_→Prop} {ops:Array Oper} {o:Oper} {rest:List Oper} {md:Md} {ts is:List Nat} {listed:Array Bool}
theorem Fits.nil (h:Fits P ops ts is [] listed):is= []∧Region.ready .any ops listed= []:=by
 have:=h.len
 have hi:is= []:=by cases is with|nil=>rfl|cons _ _=>cases this
 subst hi
 exact⟨rfl,by simpa [ZM_] using h.order⟩
theorem Fits.cons (h:Fits P ops ts is (o::rest) listed): ∃k is',is=k::is'∧ops[k]? =some o∧Fits P ops ts is' rest (listed.setIfInBounds k true)∧
  ((jO_ P o.op=true∨Jm_ o.op=true)→k∉ts)∧(Region.ready .any ops listed= [k]∨(k∉ts∧k∈Region.ready .any ops listed∧Region.free .any ops listed k=true∧
   (jO_ P o.op=true∨(Jm_ o.op=true∧Qu_ ops ts listed k=true∧ ∀t,t∈ts→listed.getD t true=false)))):=by
 cases is with
 |nil=>have:=h.len;cases this
 |cons k is'=>
  have hk:ops[k]? =some o:=by have:=h.at_ 0;simpa using this.symm
  have ho:=h.order
  simp only[ZM_,hk,Bool.and_eq_true,Bool.or_eq_true,beq_iff_eq,Bool.not_eq_true',List.contains_eq_mem,decide_eq_true_eq,decide_eq_false_iff_not,List.all_eq_true,Bool.and_eq_false_iff,Bool.or_eq_false_iff] at ho
  refine⟨k,is',rfl,hk,⟨by have:=h.len;simpa using this,fun j=>by have:=h.at_ (j+1);simpa using this,h.sel,ho.2⟩, ?_⟩
  rcases ho.1 with⟨h1,h2⟩ | ⟨⟨⟨h1,h2⟩,h3⟩,h4⟩
  ·refine⟨fun hx=> ?_, .inl h1⟩
   rcases h2 with h2| ⟨h2,h3⟩
   ·exact h2
   ·rcases hx with hx|hx
    ·rw[hx] at h2;cases h2
    ·rw[hx] at h3;cases h3
  ·refine⟨fun _=>h1, .inr ⟨h1,h2,h3, ?_⟩⟩
   rcases h4 with h4| ⟨⟨h4,h5⟩,h6⟩
   ·exact .inl h4
   ·exact .inr ⟨h4,h5,h6⟩
theorem Ow.nil (h:N f L):Ow P w0 ops md [] f L N:=by
 cases md with
 |seq=>exact fun w hw=>wpList_nil ⟨rfl,rfl,L,hw,by simpa [act] using h⟩
 |qui is ts=>
  intro listed hF ht w hw
  exact⟨fun _=>hw,hF.nil.2,rfl,rfl,L,hw,by simpa [act] using h⟩
 |any is ts=>
  intro listed hF ht w hw
  exact wpAny_done hF.nil.2 ⟨rfl,rfl,L,hw,by simpa [act] using h⟩ 0
 |sof R is ts=>
  intro listed hF ht w hw
  exact⟨fun _=>SR.of hw,hF.nil.2,rfl,rfl,L,hw,by simpa [act] using h⟩
theorem j8_ {w0:World} {K:xp_} {e:Exit} {a:Act} {w:World} (h:jz_ w0 (K .normal) e a w):post w0 K e a w:=by
 obtain⟨rfl,hd,L,hp,hk⟩:=h
 exact⟨hd,L,hp,hk⟩
theorem zU_ {w0:World} {N:Fr→zb_→Prop} {c:List PanicEntry} {a a':Act} {w:World} (h:jz_ w0 N (.panic c) a w):jz_ w0 N (.panic c) a' w:=by
 obtain⟨h,_⟩:=h;cases h
theorem Cw.region {id:Nat} {l:List Oper} (h:Ow P w0 l.toArray .seq l f L (K .normal)):Cw P w0 (.region id l.toArray false) f L K:=
 fun w hw=>wp_mono (wp_region_lit (h w hw)) fun _ _ _ h=>j8_ h
def Vu_ (P:Program) (l:List Oper) (is ts:List Nat):Bool:=
 Region.noSelect l.toArray&&is.length==l.length&& (ts.all fun t=>decide (t<l.length))&&ZM_ P l.toArray ts is (Array.replicate l.length false)
def ki_:List Oper→Nat→Option Oper
 | [],_=>none
 |o::_,0=>some o
 |_::r,n+1=>ki_ r n
def an3_:Option Oper→List Oper→List Oper
 |some o,l=>o::l
 |none,l=>l
def xf_ (l:List Oper):List Nat→List Oper
 | []=> []
 |i::is=>an3_ (ki_ l i) (xf_ l is)
def nl (l:List Oper) (k:List Oper→Prop):Prop:=k l
@[congr] theorem aql_ {x y:List Oper} {k:List Oper→Prop} (h:x=y):nl x k=nl y k:=by rw[h]
theorem anT_ (o:Oper) (r:List Oper) (k:List Oper→Prop):nl (o::r) k=k (o::r):=(rfl)
theorem amQ_ (o:Oper) (r:List Oper):ki_ (o::r) 0=some o:=(rfl)
theorem amM_ (o:Oper) (r:List Oper) (n:Nat):ki_ (o::r) (n+1)=ki_ r n:=(rfl)
theorem vF_ (o:Oper) (l:List Oper):an3_ (some o) l=o::l:=(rfl)
theorem ahk_ (l:List Oper):xf_ l []= []:=(rfl)
theorem vD_ (l:List Oper) (i:Nat) (is:List Nat):xf_ l (i::is)=an3_ (ki_ l i) (xf_ l is):=(rfl)
theorem Cw.regionO {id:Nat} {l:List Oper} (is ts:List Nat) (hm:P.follows .mixedOrders=true) (hB:Vu_ P l is ts=true) (hl:is.map (fun i:Nat=>l[i]?)=(xf_ l is).map some)
  (h:nl (xf_ l is) fun l'=>Ow P w0 l.toArray (.qui is ts) l' f L (K .normal)):Cw P w0 (.region id l.toArray true) f L K:=by
 revert hl h
 generalize xf_ l is=l'
 intro hl h w hw
 simp only[Vu_,Bool.and_eq_true,beq_iff_eq,List.all_eq_true,decide_eq_true_eq] at hB
 obtain⟨⟨⟨h1,h2⟩,h3⟩,h4⟩:=hB
 have hlen:is.length=l'.length:=by have:=congrArg List.length hl;simpa using this
 refine wp_mono (wp_region_any hm ?_) fun _ _ _ h=>j8_ h
 have hF:Fits P l.toArray ts is l' (Array.replicate l.length false):=⟨hlen,fun j=>by
  have:=congrArg (·[j]?) hl
  simp only[List.getElem?_map] at this
  cases hj:is[j]? with
  |none=>
   rw[hj] at this
   simp only[Option.map_none] at this
   cases hj':l'[j]? with
   |none=>rfl
   |some x=>rw[hj'] at this;cases this
  |some i=>
   rw[hj] at this
   simp only[Option.map_some] at this
   cases hj':l'[j]? with
   |none=>rw[hj'] at this;cases this
   |some x=>
    rw[hj'] at this
    simp only[Option.map_some,Option.some.injEq] at this
    simp[this],h1,h4⟩
 have:=(h:Ow P w0 l.toArray (.qui is ts) l' f L (K .normal)) (Array.replicate l.length false) hF (fun t ht=>by have:=h3 t ht;simp[this]) _ hw.drew
 rw[←hlen,h2] at this
 have:=kh_ _ _ _ _ this
 simpa using this
def OpS (P:Program) (w0:World) (f:Fr) (L:zb_) (o:Oper) (M:Value→zb_→Prop):Prop:=
 ∀w,Hp w0 L w→
  (∃v w' L',(execOp (ev f) o).run P w= .ok (.value v) w'∧Hp w0 L' w'∧M v L')∨
  (∃w' L',(execOp (ev f) o).run P w= .ok .skip w'∧Hp w0 L' w'∧M undef L')∨
  (∃k args w1,(execOp (ev f) o).run P w= .ok (.enter k args) w1∧Calls P k args w1 fun e w'=> ∃v L',e= .returned v∧Hp w0 L' w'∧M v L')
theorem OpS.wp {M:Value→zb_→Prop} {next:Act→World→Prop} {Q:Exit→Act→World→Prop} (h:OpS P w0 f L o M)
  (hn: ∀v L' w',Hp w0 L' w'→M v L'→next (act (qd_ f o.dst v)) w') {w:World} (hw:Hp w0 L w):o.wp P (act f) w next Q:=by
 unfold Oper.wp
 rw[q0_]
 rcases h w hw with⟨v,w',L',hr,hp,hm⟩ | ⟨w',L',hr,hp,hm⟩ | ⟨k,args,w1,hr,hc⟩
 ·rw[hr,Oper.upon_value,z1_];exact hn _ _ _ hp hm
 ·rw[hr,Oper.upon_skip,z1_];exact hn _ _ _ hp hm
 ·rw[hr,Oper.upon_enter]
  refine hc.mono ?_
  rintro e w' ⟨v,L',rfl,hp,hm⟩
  show next ((act f).put o.dst v) w'
  rw[z1_];exact hn _ _ _ hp hm
theorem OpS.mono {M M':Value→zb_→Prop} (h:OpS P w0 f L o M) (hm: ∀v L,M v L→M' v L):OpS P w0 f L o M':=fun w hw=>by
 rcases h w hw with⟨v,w',L',hr,hp,h1⟩ | ⟨w',L',hr,hp,h1⟩ | ⟨k,args,w1,hr,hc⟩
 ·exact .inl ⟨v,w',L',hr,hp,hm _ _ h1⟩
 ·exact .inr (.inl ⟨w',L',hr,hp,hm _ _ h1⟩)
 ·exact .inr (.inr ⟨k,args,w1,hr,hc.mono fun e w' ⟨v,L',he,hp,h1⟩=>⟨v,L',he,hp,hm _ _ h1⟩⟩)
theorem vJ_ {i:Nat} (h:listed.getD i true=false): (listed.setIfInBounds i true).getD i true=true:=by
 have hlt:i<listed.size:=by
  rcases Nat.lt_or_ge i listed.size with h'|h'
  ·exact h'
  ·simp[Array.getElem?_eq_none h'] at h
 simp[hlt]
theorem jX_ {i:Nat} (hit:i∉ts) (ht: ∀t,t∈ts→listed.getD t true=false): ∀t,t∈ts→(listed.setIfInBounds i true).getD t true=false:=
 fun t ht'=>by rw[getD_set_ne true (fun(e:i=t)=>hit (by rw[e];exact ht'))];exact ht t ht'
theorem ady_ {k:Nat} (hk:ops[k]? =some o) (hr:Region.ready .any ops listed= [k]) (hs:zg_ ops f o=false) {n:Nat} {M:Value→zb_→Prop} (h:OpS P w0 f L o M)
  (hn: ∀v L' w',Hp w0 L' w'→M v L'→wpAny P .any ops (jz_ w0 N) n (listed.setIfInBounds k true) (act (qd_ f o.dst v)) w') {w:World} (hw:Hp w0 L w):wpAny P .any ops (jz_ w0 N) (n+1) listed (act f) w:=by
 refine wpAny_all hr (by simp) ?_
 intro i hi
 simp only[List.mem_singleton] at hi
 subst hi
 unfold wpOp
 simp only[hk,qg_,hs,Bool.not_false, ↓reduceIte]
 exact .inl (h.wp hn hw)
theorem Ow.step {md':Md} (he:md.turn=some md') (hp:jO_ P o.op=false) (hs:zg_ ops f o=false) (h:OpS P w0 f L o (fun v L'=>Ow P w0 ops md' rest (qd_ f o.dst v) L' N)):Ow P w0 ops md (o::rest) f L N:=by
 cases md with
 |seq=>
  cases he
  intro w hw
  unfold wpList
  rw[qg_,hs]
  simp only[Bool.not_false, ↓reduceIte]
  exact .inl (h.wp (fun v L' w' hp hm=>hm w' hp) hw)
 |any is ts=>
  cases he
  intro listed hF ht w hw
  obtain⟨k,is',rfl,hk,hF',hpt,hc⟩:=hF.cons
  obtain⟨t,ht1,ht2⟩:=ht
  have hr:Region.ready .any ops listed= [k]:=by
   rcases hc with hc| ⟨_,_,_,hc| ⟨_,_,hc⟩⟩
   ·exact hc
   ·rw[hp] at hc;cases hc
   ·rw[hc t ht1] at ht2;cases ht2
  exact ady_ hk hr hs h (fun v L' w' hp hm=>hm _ hF' ⟨t,ht1,vd_ ht2⟩ w' hp) hw
 |qui is ts=>
  intro listed hF ht w hw
  obtain⟨k,is',rfl,hk,hF',hpt,hc⟩:=hF.cons
  simp only[Md.turn] at he
  split at he
  ·rename_i hkt
   cases he
   have hkt':k∈ts:=by simpa using hkt
   have hr:Region.ready .any ops listed= [k]:=by
    rcases hc with hc| ⟨hc,_⟩
    ·exact hc
    ·exact absurd hkt' hc
   have hset:=vJ_ (ht k hkt')
   refine⟨fun _=>hw,(fun h=>by rw[hr] at h;cases h), ?_⟩
   intro i hi
   rw[hr,List.mem_singleton] at hi
   subst hi
   unfold wpOp
   simp only[hk,qg_,hs,Bool.not_false, ↓reduceIte]
   exact .inl (h.wp (fun v L' w' hp hm=>kz_ _ _ _ _ ⟨i,hkt',hset⟩ (hm _ hF' ⟨i,hkt',hset⟩ w' hp)) hw)
  ·cases he
 |sof R is ts=>
  intro listed hF ht w hw
  obtain⟨k,is',rfl,hk,hF',hpt,hc⟩:=hF.cons
  simp only[Md.turn] at he
  split at he
  ·rename_i hkt
   cases he
   have hkt':k∈ts:=by simpa using hkt
   have hr:Region.ready .any ops listed= [k]:=by
    rcases hc with hc| ⟨hc,_⟩
    ·exact hc
    ·exact absurd hkt' hc
   have hset:=vJ_ (ht k hkt')
   refine⟨fun _=>SR.of hw,(fun h=>by rw[hr] at h;cases h), ?_⟩
   intro i hi
   rw[hr,List.mem_singleton] at hi
   subst hi
   unfold wpOp
   simp only[hk,qg_,hs,Bool.not_false, ↓reduceIte]
   exact .inl (h.wp (fun v L' w' hp hm=>kz_ _ _ _ _ ⟨i,hkt',hset⟩ (hm _ hF' ⟨i,hkt',hset⟩ w' hp)) hw)
  ·cases he
theorem Ow.calm {v:Value} (hp:jO_ P o.op=false) (hr0:Jm_ o.op=false) (hs:zg_ ops f o=false) (h:OpS P w0 f L o (fun v' L'=>v'=v∧L'=L))
  (hn:Ow P w0 ops md.next rest (qd_ f o.dst v) L N):Ow P w0 ops md (o::rest) f L N:=by
 cases md with
 |seq=>exact Ow.step rfl hp hs (h.mono fun v' L' ⟨h1,h2⟩=>by rw[h1,h2];exact hn)
 |any is ts=>exact Ow.step rfl hp hs (h.mono fun v' L' ⟨h1,h2⟩=>by rw[h1,h2];exact hn)
 |qui is ts=>
  intro listed hF ht w hw
  obtain⟨k,is',rfl,hk,hF',hpt,hc⟩:=hF.cons
  have hr:Region.ready .any ops listed= [k]:=by
   rcases hc with hc| ⟨_,_,_,hc| ⟨hc,_⟩⟩
   ·exact hc
   ·rw[hp] at hc;cases hc
   ·rw[hr0] at hc;cases hc
  refine⟨fun _=>hw,(fun h=>by rw[hr] at h;cases h), ?_⟩
  intro i hi
  rw[hr,List.mem_singleton] at hi
  subst hi
  unfold wpOp
  simp only[hk,qg_,hs,Bool.not_false, ↓reduceIte]
  refine .inl (h.wp (fun v' L' w' hp hm=> ?_) hw)
  obtain⟨rfl,rfl⟩:=hm
  simp only[Md.next] at hn
  split at hn
  ·rename_i hkt
   have hit:i∈ts:=by simpa using hkt
   have hset:=vJ_ (ht i hit)
   exact kz_ _ _ _ _ ⟨i,hit,hset⟩ (hn _ hF' ⟨i,hit,hset⟩ w' hp)
  ·rename_i hkt
   have hit:i∉ts:=by simpa using hkt
   exact hn _ hF' (jX_ hit ht) w' hp
 |sof R is ts=>
  intro listed hF ht w hw
  obtain⟨k,is',rfl,hk,hF',hpt,hc⟩:=hF.cons
  have hr:Region.ready .any ops listed= [k]:=by
   rcases hc with hc| ⟨_,_,_,hc| ⟨hc,_⟩⟩
   ·exact hc
   ·rw[hp] at hc;cases hc
   ·rw[hr0] at hc;cases hc
  refine⟨fun _=>SR.of hw,(fun h=>by rw[hr] at h;cases h), ?_⟩
  intro i hi
  rw[hr,List.mem_singleton] at hi
  subst hi
  unfold wpOp
  simp only[hk,qg_,hs,Bool.not_false, ↓reduceIte]
  refine .inl (h.wp (fun v' L' w' hp hm=> ?_) hw)
  obtain⟨rfl,rfl⟩:=hm
  simp only[Md.next] at hn
  split at hn
  ·rename_i hkt
   have hit:i∈ts:=by simpa using hkt
   have hset:=vJ_ (ht i hit)
   exact kz_ _ _ _ _ ⟨i,hit,hset⟩ (hn _ hF' ⟨i,hit,hset⟩ w' hp)
  ·rename_i hkt
   have hit:i∉ts:=by simpa using hkt
   exact hn _ hF' (jX_ hit ht) w' hp
theorem xm_ {k:Nat} (hk:ops[k]? =some o) (h1:k∈Region.ready .any ops listed) (h2:Region.free .any ops listed k=true)
  (h3:jO_ P o.op=true∨(Jm_ o.op=true∧Qu_ ops ts listed k=true∧ ∀t,t∈ts→listed.getD t true=false)):First ops ts k o (jO_ P o.op=true) listed:=by
 refine⟨h1,Region.free_spec hk h2,h3.imp id fun⟨_,hw,_⟩=> ?_⟩
 unfold Qu_ ai7_ at hw
 generalize KW_ ops listed k 6 []=cs at hw
 simp only[Bool.and_eq_true,List.all_eq_true,Bool.or_eq_true,List.contains_eq_mem,decide_eq_true_eq,bne_iff_ne,ne_eq,Bool.not_eq_true'] at hw
 obtain⟨hw1,hw2⟩:=hw
 refine⟨cs,fun t ht hu=> ?_,fun c hc=> ?_⟩
 ·rcases hw1 t ht with h|h
  ·rw[hu] at h;cases h
  ·exact h
 ·obtain⟨⟨h1,h2⟩,h3⟩:=hw2 c hc
  refine⟨h1,h2, ?_⟩
  cases ho:ops[c]? with
  |none=>rw[ho] at h3;cases h3
  |some oc=>
   rw[ho] at h3
   obtain⟨e,he,hb⟩:=Array.any_eq_true'.1 h3
   simp only[Bool.and_eq_true,Bool.or_eq_true,beq_iff_eq,List.contains_eq_mem,decide_eq_true_eq] at hb
   exact⟨oc,rfl,e,he,hb.1,hb.2⟩
theorem Ow.skip (hs:zg_ ops f o=true) (h:Ow P w0 ops md.next rest (qd_ f o.dst undef) L N):Ow P w0 ops md (o::rest) f L N:=by
 have hw0:Region.wanted o (yielded ops (act f).tmps)=false:=by rw[qg_,hs];rfl
 cases md with
 |seq=>
  intro w hw
  unfold wpList
  rw[hw0]
  simp only[Bool.false_eq_true, ↓reduceIte]
  rw[z1_]
  exact h w hw
 |any is ts=>
  intro listed hF ht w hw
  obtain⟨k,is',rfl,hk,hF',hpt,hc⟩:=hF.cons
  obtain⟨t,ht1,ht2⟩:=ht
  have hgo:=h _ hF' ⟨t,ht1,vd_ ht2⟩ w hw
  rcases hc with hc| ⟨hc1,hc2,hc3,hc4⟩
  ·refine wpAny_all hc (by simp) ?_
   intro i hi
   simp only[List.mem_singleton] at hi
   subst hi
   unfold wpOp
   simp only[hk,hw0,Bool.false_eq_true, ↓reduceIte]
   rw[z1_];exact hgo
  ·refine wpAny_take (v:=undef) hk hF.sel hc3 (by simpa using hc2) (fun c a w h=>zU_ h) (.inr ⟨hw0,rfl⟩) ?_
   rw[z1_];exact hgo
 |qui is ts=>
  intro listed hF ht w hw
  obtain⟨k,is',rfl,hk,hF',hpt,hc⟩:=hF.cons
  simp only[Md.next] at h
  rcases hc with hc| ⟨hc1,hc2,hc3,hc4⟩
  ·refine⟨fun _=>hw,fun h=>(by rw[hc] at h;cases h), ?_⟩
   intro i hi
   rw[hc,List.mem_singleton] at hi
   subst hi
   unfold wpOp
   simp only[hk,hw0,Bool.false_eq_true, ↓reduceIte]
   rw[z1_]
   split at h
   ·rename_i hkt
    have hit:i∈ts:=by simpa using hkt
    have hset:=vJ_ (ht i hit)
    exact kz_ _ _ _ _ ⟨i,hit,hset⟩ (h _ hF' ⟨i,hit,hset⟩ w hw)
   ·rename_i hkt
    exact h _ hF' (jX_ (by simpa using hkt) ht) w hw
  ·rw[if_neg (by simpa using hc1)] at h
   refine kI_ hk hc1 (Region.noSelect_spec hF.sel) (fun c a w h=>zU_ h) _ _ _ _ (xm_ (P:=P) hk hc2 hc3 hc4) (.inr ht) (.inr ⟨hw0,rfl⟩) ?_
   rw[z1_];exact h _ hF' (jX_ hc1 ht) w hw
 |sof R is ts=>
  intro listed hF ht w hw
  obtain⟨k,is',rfl,hk,hF',hpt,hc⟩:=hF.cons
  simp only[Md.next] at h
  rcases hc with hc| ⟨hc1,hc2,hc3,hc4⟩
  ·refine⟨fun _=>SR.of hw,fun h=>(by rw[hc] at h;cases h), ?_⟩
   intro i hi
   rw[hc,List.mem_singleton] at hi
   subst hi
   unfold wpOp
   simp only[hk,hw0,Bool.false_eq_true, ↓reduceIte]
   rw[z1_]
   split at h
   ·rename_i hkt
    have hit:i∈ts:=by simpa using hkt
    have hset:=vJ_ (ht i hit)
    exact kz_ _ _ _ _ ⟨i,hit,hset⟩ (h _ hF' ⟨i,hit,hset⟩ w hw)
   ·rename_i hkt
    exact h _ hF' (jX_ (by simpa using hkt) ht) w hw
  ·rw[if_neg (by simpa using hc1)] at h
   refine kI_ hk hc1 (Region.noSelect_spec hF.sel) (fun c a w h=>zU_ h) _ _ _ _ (xm_ (P:=P) hk hc2 hc3 hc4) (.inr ht) (.inr ⟨hw0,rfl⟩) ?_
   rw[z1_];exact h _ hF' (jX_ hc1 ht) w hw
theorem xx_ {op:Op} {v:Value} (hp:jO_ P op=true) (h:jg_ P w0 L f op=some v) (w:World):jg_ P w [] f op=some v:=by
 cases op<;>simp only[jO_,Bool.false_eq_true] at hp<;>first
  |exact h
  |skip
 ·rename_i s d x
  simp only[jg_] at h ⊢
  cases hc:cvT P s d<;>rw[hc] at h hp<;>first
   |exact h
   |cases hp
 ·rename_i t x lo hi mx
  cases mx<;>exact h
 ·rename_i c
  obtain⟨cl,args,ts⟩:=c
  cases cl with
  |builtin b=>cases b<;>first|exact h|cases hp
  |value x=>cases hp
  |invoke x m=>cases hp
theorem X7_ {op:Op} {v:Value} (h:jg_ P w0 L f op=some v):jO_ P op=true∨Jm_ op=true:=by
 unfold jg_ at h
 split at h<;>first
  |exact .inl rfl
  |exact .inr rfl
  |cases h
def rdIn (R:List Nat):Value→Bool
 | .pointer (some a)=>R.contains a.block
 | .slice (some a) _ _=>R.contains a.block
 |_=>true
def Vy_ (md:Md) (f:Fr) (op:Op):Bool:=
 match op with
 | .load _ x=>(match md with| .sof R _ _=>rdIn R (ev f x) |_=>true)
 | .convert _ _ x=>(match md with| .sof R _ _=>rdIn R (ev f x) |_=>true)
 |_=>true
theorem w9_ (w:World) (b:Nat):zk_ w [] b=w.heap[b]? :=(rfl)
theorem wf_ {R is ts:List Nat} {op:Op} {v:Value} {w:World} (hrd:Vy_ (.sof R is ts) f op=true) (h:jg_ P w0 L f op=some v) (hS:SR w0 R L w):jg_ P w [] f op=some v:=by
 cases op<;>first
  |exact h
  |skip
 case load t x=>
  simp only[jg_,kU_] at h ⊢
  simp only[Vy_] at hrd
  split at h
  ·rename_i b off hx
   rw[hx] at hrd
   simp only[rdIn,List.contains_eq_mem,decide_eq_true_eq] at hrd
   simp only[w9_]
   cases hr:zk_ w0 L b with
   |none=>rw[hr] at h;unfold zl_ at h;split at h<;>simp_all
   |some o=>rw[hS b hrd o hr];rw[hr] at h;exact h
  ·cases h
 case convert s d x=>
  simp only[jg_,Xm_] at h ⊢
  simp only[Vy_] at hrd
  cases hc:cvT P s d<;>rw[hc] at h<;>simp only at h ⊢ <;>first
   |exact h
   |skip
  unfold adl_ at h ⊢
  split at h
  ·exact h
  ·rename_i b off n c hx
   rw[hx] at hrd
   simp only[rdIn,List.contains_eq_mem,decide_eq_true_eq] at hrd
   simp only[w9_]
   cases hr:zk_ w0 L b with
   |none=>rw[hr] at h;unfold jD_ at h;cases h
   |some o=>rw[hS b hrd o hr];rw[hr] at h;exact h
  ·cases h
 case slice t x lo hi mx=>cases mx<;>exact h
 case call c=>
  obtain⟨cl,args,ts'⟩:=c
  cases cl with
  |builtin b=>cases b<;>exact h
  |value x=>exact h
  |invoke x m=>exact h
theorem Ow.value {v:Value} (hs:zg_ ops f o=false) (hrd:Vy_ md f o.op=true) (hv:jg_ P w0 L f o.op=some v) (h:Ow P w0 ops md.next rest (qd_ f o.dst v) L N):Ow P w0 ops md (o::rest) f L N:=by
 have hw0:Region.wanted o (yielded ops (act f).tmps)=true:=by rw[qg_,hs];rfl
 have hS:OpS P w0 f L o (fun v' L'=>v'=v∧L'=L):=fun w hw=> .inl ⟨v,w,L,qI_ hw hv,hw,rfl,rfl⟩
 have hY:YieldsC P ops (Hp w0 L) (jO_ P o.op=true) o v (act f):=by
  refine .inl ⟨hw0,fun w hw=> ?_⟩
  rw[q0_]
  rcases hw with hp|hw
  ·exact qI_ (Hp.refl w) (xx_ hp hv w)
  ·exact qI_ hw hv
 cases md with
 |seq=>
  intro w hw
  unfold wpList
  rw[hw0]
  simp only[↓reduceIte]
  exact .inl (hS.wp (fun v' L' w' hp hm=>by obtain⟨rfl,rfl⟩:=hm;exact h w' hp) hw)
 |any is ts=>
  intro listed hF ht w hw
  obtain⟨k,is',rfl,hk,hF',hpt,hc⟩:=hF.cons
  obtain⟨t,ht1,ht2⟩:=ht
  have hgo:=fun w hw=>h _ hF' ⟨t,ht1,vd_ ht2⟩ w hw
  rcases hc with hc| ⟨hc1,hc2,hc3,hc4| ⟨_,_,hc4⟩⟩
  ·exact ady_ hk hc hs hS (fun v' L' w' hp hm=>by obtain⟨rfl,rfl⟩:=hm;exact hgo w' hp) hw
  ·refine wpAny_take (v:=v) hk hF.sel hc3 (by simpa using hc2) (fun c a w h=>zU_ h) (.inl ⟨hw0,fun w=> ?_⟩) ?_
   ·rw[q0_];exact qI_ (Hp.refl w) (xx_ hc4 hv w)
   ·rw[z1_];exact hgo w hw
  ·rw[hc4 t ht1] at ht2;cases ht2
 |qui is ts=>
  intro listed hF ht w hw
  obtain⟨k,is',rfl,hk,hF',hpt,hc⟩:=hF.cons
  have hit:k∉ts:=hpt (X7_ hv)
  simp only[Md.next] at h
  rw[if_neg (by simpa using hit)] at h
  have hgo:=fun w hw=>h _ hF' (jX_ hit ht) w hw
  rcases hc with hc| ⟨hc1,hc2,hc3,hc4⟩
  ·refine⟨fun _=>hw,fun h=>(by rw[hc] at h;cases h), ?_⟩
   intro i hi
   rw[hc,List.mem_singleton] at hi
   subst hi
   unfold wpOp
   simp only[hk,hw0, ↓reduceIte]
   exact .inl (hS.wp (fun v' L' w' hp hm=>by obtain⟨rfl,rfl⟩:=hm;exact hgo w' hp) hw)
  ·refine kI_ hk hc1 (Region.noSelect_spec hF.sel) (fun c a w h=>zU_ h) _ _ _ _ (xm_ (P:=P) hk hc2 hc3 hc4) (.inr ht) hY ?_
   rw[z1_];exact hgo w hw
 |sof R is ts=>
  intro listed hF ht w hw
  have hYs:YieldsC P ops (SR w0 R L) (jO_ P o.op=true) o v (act f):=by
   refine .inl ⟨hw0,fun w hw=> ?_⟩
   rw[q0_]
   rcases hw with hp|hw
   ·exact qI_ (Hp.refl w) (xx_ hp hv w)
   ·exact qI_ (Hp.refl w) (wf_ hrd hv hw)
  obtain⟨k,is',rfl,hk,hF',hpt,hc⟩:=hF.cons
  have hit:k∉ts:=hpt (X7_ hv)
  simp only[Md.next] at h
  rw[if_neg (by simpa using hit)] at h
  have hgo:=fun w hw=>h _ hF' (jX_ hit ht) w hw
  rcases hc with hc| ⟨hc1,hc2,hc3,hc4⟩
  ·refine⟨fun _=>SR.of hw,fun h=>(by rw[hc] at h;cases h), ?_⟩
   intro i hi
   rw[hc,List.mem_singleton] at hi
   subst hi
   unfold wpOp
   simp only[hk,hw0, ↓reduceIte]
   exact .inl (hS.wp (fun v' L' w' hp hm=>by obtain⟨rfl,rfl⟩:=hm;exact hgo w' hp) hw)
  ·refine kI_ hk hc1 (Region.noSelect_spec hF.sel) (fun c a w h=>zU_ h) _ _ _ _ (xm_ (P:=P) hk hc2 hc3 hc4) (.inr ht) hYs ?_
   rw[z1_];exact hgo w hw
theorem Ow.pureV {v:Value} (hp:jO_ P o.op=true) (hs:zg_ ops f o=false) (hv: ∀w,(execOp (ev f) o).run P w= .ok (.value v) w) (h:Ow P w0 ops md.next rest (qd_ f o.dst v) L N):Ow P w0 ops md (o::rest) f L N:=by
 have hw0:Region.wanted o (yielded ops (act f).tmps)=true:=by rw[qg_,hs];rfl
 have hS:OpS P w0 f L o (fun v' L'=>v'=v∧L'=L):=fun w hw=> .inl ⟨v,w,L,hv w,hw,rfl,rfl⟩
 have hY: ∀C,YieldsC P ops C (jO_ P o.op=true) o v (act f):=fun C=> .inl ⟨hw0,fun w _=>by rw[q0_];exact hv w⟩
 cases md with
 |seq=>
  intro w hw
  unfold wpList
  rw[hw0]
  simp only[↓reduceIte]
  exact .inl (hS.wp (fun v' L' w' hp hm=>by obtain⟨rfl,rfl⟩:=hm;exact h w' hp) hw)
 |any is ts=>
  intro listed hF ht w hw
  obtain⟨k,is',rfl,hk,hF',hpt,hc⟩:=hF.cons
  obtain⟨t,ht1,ht2⟩:=ht
  have hgo:=fun w hw=>h _ hF' ⟨t,ht1,vd_ ht2⟩ w hw
  rcases hc with hc| ⟨hc1,hc2,hc3,hc4⟩
  ·exact ady_ hk hc hs hS (fun v' L' w' hp hm=>by obtain⟨rfl,rfl⟩:=hm;exact hgo w' hp) hw
  ·refine wpAny_take (v:=v) hk hF.sel hc3 (by simpa using hc2) (fun c a w h=>zU_ h) (.inl ⟨hw0,fun w=> ?_⟩) ?_
   ·rw[q0_];exact hv w
   ·rw[z1_];exact hgo w hw
 |qui is ts=>
  intro listed hF ht w hw
  obtain⟨k,is',rfl,hk,hF',hpt,hc⟩:=hF.cons
  have hit:k∉ts:=hpt (.inl hp)
  simp only[Md.next] at h
  rw[if_neg (by simpa using hit)] at h
  have hgo:=fun w hw=>h _ hF' (jX_ hit ht) w hw
  rcases hc with hc| ⟨hc1,hc2,hc3,hc4⟩
  ·refine⟨fun _=>hw,fun h=>(by rw[hc] at h;cases h), ?_⟩
   intro i hi
   rw[hc,List.mem_singleton] at hi
   subst hi
   unfold wpOp
   simp only[hk,hw0, ↓reduceIte]
   exact .inl (hS.wp (fun v' L' w' hp hm=>by obtain⟨rfl,rfl⟩:=hm;exact hgo w' hp) hw)
  ·refine kI_ hk hc1 (Region.noSelect_spec hF.sel) (fun c a w h=>zU_ h) _ _ _ _ (xm_ (P:=P) hk hc2 hc3 hc4) (.inr ht) (hY _) ?_
   rw[z1_];exact hgo w hw
 |sof R is ts=>
  intro listed hF ht w hw
  obtain⟨k,is',rfl,hk,hF',hpt,hc⟩:=hF.cons
  have hit:k∉ts:=hpt (.inl hp)
  simp only[Md.next] at h
  rw[if_neg (by simpa using hit)] at h
  have hgo:=fun w hw=>h _ hF' (jX_ hit ht) w hw
  rcases hc with hc| ⟨hc1,hc2,hc3,hc4⟩
  ·refine⟨fun _=>SR.of hw,fun h=>(by rw[hc] at h;cases h), ?_⟩
   intro i hi
   rw[hc,List.mem_singleton] at hi
   subst hi
   unfold wpOp
   simp only[hk,hw0, ↓reduceIte]
   exact .inl (hS.wp (fun v' L' w' hp hm=>by obtain⟨rfl,rfl⟩:=hm;exact hgo w' hp) hw)
  ·refine kI_ hk hc1 (Region.noSelect_spec hF.sel) (fun c a w h=>zU_ h) _ _ _ _ (xm_ (P:=P) hk hc2 hc3 hc4) (.inr ht) (hY _) ?_
   rw[z1_];exact hgo w hw
theorem Ow.store {t:TypeId} {a x:Operand} {L':zb_} {md':Md} (he:md.turn=some md') (hs:zg_ ops f o=false) (ho:o.op= .store t a x) (hv:j9_ (qc_ P t) L (ev f a) (ev f x)=some L') (h:Ow P w0 ops md' rest (qd_ f o.dst undef) L' N):Ow P w0 ops md (o::rest) f L N:=
 Ow.step he (by rw[ho];rfl) hs fun w hw=>by
  obtain⟨w',hr,hp⟩:=aaT_ hw hv
  refine .inr (.inl ⟨w',L', ?_,hp,h⟩)
  simp only[execOp,ho,Sem.run_bind,hr];rfl
end
inductive Kind where
 |value|store (t:TypeId) (a x:Operand) |other
def ajG_:Op→Kind
 | .move _=> .value
 | .assign _=> .value
 | .pick .. => .value
 | .binOp .. => .value
 | .unOp .. => .value
 | .convert .. => .value
 | .nilCheck _=> .value
 | .fieldAddr .. => .value
 | .field .. => .value
 | .indexAddr .. => .value
 | .index .. => .value
 | .load .. => .value
 | .extract .. => .value
 | .slice .. => .value
 | .makeFunc .. => .value
 | .call ⟨.builtin .len,_,_⟩=> .value
 | .call ⟨.builtin .cap,_,_⟩=> .value
 | .store t a x=> .store t a x
 |_=> .other
abbrev Dep {α:Type} (_:α):Type:=Prop
def ov (x:Option Value) (k:Value→Prop):Dep k:=match x with|some v=>k v|none=>False
def ovs (x:Option Value) (k:Value→Prop) (s:Prop):Dep (k,s):=match x with|some v=>k v|none=>s
def oh (x:Option zb_) (k:zb_→Prop):Dep k:=match x with|some v=>k v|none=>False
def nf (f:Fr) (k:Fr→Prop):Dep k:=k f
def nh (L:zb_) (k:zb_→Prop):Dep k:=k L
@[congr] theorem aqr_ {x y:Option Value} {k:Value→Prop} (h:x=y):ov x k=ov y k:=by rw[h]
@[congr] theorem apg_ {x y:Option Value} {k:Value→Prop} {s:Prop} (h:x=y):ovs x k s=ovs y k s:=by rw[h]
@[congr] theorem aqu_ {x y:Option zb_} {k:zb_→Prop} (h:x=y):oh x k=oh y k:=by rw[h]
@[congr] theorem aqm_ {x y:Fr} {k:Fr→Prop} (h:x=y):nf x k=nf y k:=by rw[h]
@[congr] theorem aqx_ {x y:zb_} {k:zb_→Prop} (h:x=y):nh x k=nh y k:=by rw[h]
theorem alf_ (v:Value) (k:Value→Prop) (s:Prop):ovs (some v) k s=k v:=(rfl)
theorem aln_ (k:Value→Prop) (s:Prop):ovs none k s=s:=(rfl)
theorem aoO_ (v:zb_) (k:zb_→Prop):oh (some v) k=k v:=(rfl)
theorem aoA_ (v:Value) (r:Fr) (k:Fr→Prop):nf (v::r) k=k (v::r):=(rfl)
theorem apS_ (k:Fr→Prop):nf [] k=k []:=(rfl)
theorem ano_ (v:Nat×Obj) (r:zb_) (k:zb_→Prop):nh (v::r) k=k (v::r):=(rfl)
theorem apU_ (k:zb_→Prop):nh [] k=k []:=(rfl)
def ib (b:Bool) (x y:Prop):Dep (x,y):=match b with|true=>x|false=>y
@[congr] theorem aqv_ {a b:Bool} {x y:Prop} (h:a=b):ib a x y=ib b x y:=by rw[h]
theorem aoq_ (x y:Prop):ib true x y=x:=(rfl)
theorem alh_ (x y:Prop):ib false x y=y:=(rfl)
def vcB (P:Program) (w0:World) (st:Bool) (md:Md) (o:Oper) (f:Fr) (L:zb_) (go:Fr→zb_→Prop) (stop:Prop):Prop:=
 match ajG_ o.op with
 | .value=>ib (Vy_ md f o.op) (ovs (jg_ P w0 L f o.op) (fun v=>nf (qd_ f o.dst v) fun f'=>go f' L) stop) stop
 | .store t a x=>ib st (oh (j9_ (qc_ P t) L (ev f a) (ev f x)) fun L'=>nh L' fun L'=>nf (qd_ f o.dst undef) fun f'=>go f' L') stop
 | .other=>stop
def vcL (P:Program) (w0:World) (ops:Array Oper) (st:Bool) (md:Md):List Oper→Fr→zb_→(Md→List Oper→Fr→zb_→Prop)→Prop
 | [],f,L,k=>k md [] f L
 |o::rest,f,L,k=>
  ib (zg_ ops f o) (nf (qd_ f o.dst undef) fun f'=>vcL P w0 ops st md.next rest f' L k)
   (vcB P w0 st md o f L (fun f' L'=>vcL P w0 ops st md.next rest f' L' k) (k md (o::rest) f L))
def Md.eff:Md→Bool
 | .seq=>true
 | .qui _ _=>false
 | .any _ _=>true
 | .sof _ _ _=>false
theorem Md.turn_eff {md:Md} (h:md.eff=true):md.turn=some md.next:=by
 cases md<;>first|rfl|cases h
theorem Md.next_eff {md:Md} (h:md.eff=true):md.next.eff=true:=by
 cases md<;>first|rfl|cases h
theorem Ws_ {op:Op} {t:TypeId} {a x:Operand} (h:ajG_ op= .store t a x):op= .store t a x:=by
 unfold ajG_ at h
 split at h<;>first| (cases h;done) | (cases h;rfl)
theorem x8_ {P:Program} {w0:World} {ops:Array Oper} {N:Fr→zb_→Prop} (k:Md→List Oper→Fr→zb_→Prop) (hk: ∀md l f L,k md l f L→Ow P w0 ops md l f L N) (st:Bool):
  ∀ (l:List Oper) (md:Md) (f:Fr) (L:zb_),(st=true→md.eff=true)→vcL P w0 ops st md l f L k→Ow P w0 ops md l f L N
 | [],md,f,L,_,h=>hk _ _ _ _ h
 |o::rest,md,f,L,hst,h=>by
  unfold vcL at h
  have hst':st=true→md.next.eff=true:=fun e=>Md.next_eff (hst e)
  cases hs:zg_ ops f o with
  |true=>
   rw[hs] at h
   exact Ow.skip hs (x8_ k hk st rest _ _ L hst' h)
  |false=>
   rw[hs] at h
   simp only[ib,vcB] at h
   split at h
   ·cases hrd:Vy_ md f o.op with
    |false=>rw[hrd] at h;exact hk _ _ _ _ h
    |true=>
     rw[hrd] at h
     cases hv:jg_ P w0 L f o.op with
     |none=>rw[hv] at h;exact hk _ _ _ _ h
     |some v=>rw[hv] at h;exact Ow.value hs hrd hv (x8_ k hk st rest _ _ L hst' h)
   ·rename_i t a x hkd
    cases st with
    |true=>
     simp only at h
     cases hv:j9_ (qc_ P t) L (ev f a) (ev f x) with
     |none=>rw[hv] at h;exact h.elim
     |some L'=>
      rw[hv] at h
      exact Ow.store (Md.turn_eff (hst rfl)) hs (Ws_ hkd) hv (x8_ k hk true rest _ _ L' hst' h)
    |false=>exact hk _ _ _ _ h
   ·exact hk _ _ _ _ h
theorem Ow.run {P:Program} {w0:World} {ops:Array Oper} {md:Md} {N:Fr→zb_→Prop} {l:List Oper} {f:Fr} {L:zb_} (he:md.eff=true)
  (h: ∀k:Md→List Oper→Fr→zb_→Prop,(∀md l f L,Ow P w0 ops md l f L N→k md l f L)→vcL P w0 ops true md l f L k):Ow P w0 ops md l f L N:=
 x8_ (fun md l f L=>Ow P w0 ops md l f L N) (fun _ _ _ _ h=>h) true l md f L (fun _=>he) (h _ fun _ _ _ _ h=>h)
theorem abL_ (f:Fr) (t:TypeId) (x:Operand):Vy_ .seq f (.load t x)=true:=(rfl)
theorem ab5_ (f:Fr) (is ts:List Nat) (t:TypeId) (x:Operand):Vy_ (.any is ts) f (.load t x)=true:=(rfl)
theorem abD_ (f:Fr) (is ts:List Nat) (t:TypeId) (x:Operand):Vy_ (.qui is ts) f (.load t x)=true:=(rfl)
theorem adq_ (f:Fr) (R is ts:List Nat) (t:TypeId) (x:Operand):Vy_ (.sof R is ts) f (.load t x)=rdIn R (ev f x):=(rfl)
theorem XD_ (f:Fr) (s t:TypeId) (x:Operand):Vy_ .seq f (.convert s t x)=true:=(rfl)
theorem Xq_ (f:Fr) (is ts:List Nat) (s t:TypeId) (x:Operand):Vy_ (.any is ts) f (.convert s t x)=true:=(rfl)
theorem XH_ (f:Fr) (is ts:List Nat) (s t:TypeId) (x:Operand):Vy_ (.qui is ts) f (.convert s t x)=true:=(rfl)
theorem Xo_ (f:Fr) (R is ts:List Nat) (s t:TypeId) (x:Operand):Vy_ (.sof R is ts) f (.convert s t x)=rdIn R (ev f x):=(rfl)
theorem apv_ (R:List Nat) (b o:Nat):rdIn R (vp b o)=R.contains b:=(rfl)
theorem anU_ (R:List Nat) (b o n c:Nat):rdIn R (vsl b o n c)=R.contains b:=(rfl)
theorem amq_ (R:List Nat) (n c:Nat):rdIn R (.slice none n c)=true:=(rfl)
theorem akt_ (R:List Nat) (k:IntKind) (n:Int):rdIn R (.int k n)=true:=(rfl)
theorem akV_ (R:List Nat) (l:List UInt8):rdIn R (vs l)=true:=(rfl)
theorem Md.next_sof (k:Nat) (R is ts:List Nat): (Md.sof R (k::is) ts).next=if ts.contains k then .any is ts else .sof R is ts:=(rfl)
theorem Md.next_seq:Md.seq.next= .seq:=(rfl)
theorem Md.next_any (k:Nat) (is ts:List Nat): (Md.any (k::is) ts).next= .any is ts:=(rfl)
theorem Md.next_qui (k:Nat) (is ts:List Nat): (Md.qui (k::is) ts).next=if ts.contains k then .any is ts else .qui is ts:=(rfl)
def aea_:Value→Option Bool
 | .bool b=>some b
 |_=>none
def aja_ (o:Option Oper) (f:Fr):Option Bool:=
 match o with
 |some o=>match o.dst with
  |some d=>aea_ (vW_ f d)
  |none=>none
 |none=>none
theorem j3_ (l:List Oper) (j:Nat):ki_ l j=l[j]? :=by
 induction l generalizing j with
 |nil=>rfl
 |cons o r ih=>cases j<;>simp[ki_,ih]
theorem afX_ (l:List Oper) (f:Fr) (j:Nat):Jk_ l.toArray f j=aja_ (ki_ l j) f:=by
 unfold Jk_ aja_
 rw[j3_,List.getElem?_toArray]
 cases l[j]? with
 |none=>rfl
 |some o=>
  simp only[Option.bind_some]
  cases o.dst with
  |none=>rfl
  |some d=>
   simp only
   cases vW_ f d<;>rfl
theorem acz_ (d:Tmp) (op:Op) (ty:TypeId) (ps:String) (af:Array Edge) (g:Option (Nat×Bool)) (f:Fr):aja_ (some ⟨some d,op,ty,ps,af,g⟩) f=aea_ (vW_ f d):=(rfl)
theorem alU_ (b:Bool):aea_ (.bool b)=some b:=(rfl)
theorem aag_:aea_ undef=none:=(rfl)
theorem amw_ (a b:Bool): ((some a:Option Bool)==some b)=(a==b):=(rfl)
theorem alw_ (b:Bool): ((none:Option Bool)==some b)=false:=(rfl)
section
variable (P:Program) (w0:World) (ops:Array Oper) (rest:List Oper) (f:Fr) (L:zb_) (k:Md→List Oper→Fr→zb_→Prop)
 (st:Bool) (md:Md) (d:Option Tmp) (ty:TypeId) (ps:String) (af:Array Edge)
theorem anx_:vcL P w0 ops st md [] f L k=k md [] f L:=(rfl)
theorem alq_ (op:Op):vcL P w0 ops st md (⟨d,op,ty,ps,af,none⟩::rest) f L k=
  vcB P w0 st md ⟨d,op,ty,ps,af,none⟩ f L (fun f' L'=>vcL P w0 ops st md.next rest f' L' k) (k md (⟨d,op,ty,ps,af,none⟩::rest) f L):=(rfl)
theorem amh_ (op:Op) (j:Nat) (b:Bool):vcL P w0 ops st md (⟨d,op,ty,ps,af,some (j,b)⟩::rest) f L k=
  ib (Jk_ ops f j==some b) (vcB P w0 st md ⟨d,op,ty,ps,af,some (j,b)⟩ f L (fun f' L'=>vcL P w0 ops st md.next rest f' L' k) (k md (⟨d,op,ty,ps,af,some (j,b)⟩::rest) f L)) (nf (qd_ f d undef) fun f'=>vcL P w0 ops st md.next rest f' L k):=by
 simp only[vcL,zg_]
 cases(Jk_ ops f j==some b)<;>rfl
end
@[congr] theorem ap0_ {P:Program} {w0:World} {st:Bool} {md:Md} {o:Oper} {f:Fr} {L:zb_} {go:Fr→zb_→Prop} {stop:Prop}:vcB P w0 st md o f L go stop=vcB P w0 st md o f L go stop:=(rfl)
section
variable (P:Program) (w0:World) (f:Fr) (L:zb_) (st:Bool) (md:Md) (d:Option Tmp) (ty:TypeId) (ps:String) (af:Array Edge) (g:Option (Nat×Bool)) (go:Fr→zb_→Prop) (stop:Prop)
theorem alB_ (x:Operand):vcB P w0 st md ⟨d, .move x,ty,ps,af,g⟩ f L go stop=ovs (some (ev f x)) (fun v=>nf (qd_ f d v) fun f'=>go f' L) stop:=(rfl)
theorem agH_ (x:Operand):vcB P w0 st md ⟨d, .assign x,ty,ps,af,g⟩ f L go stop=ovs (some (ev f x)) (fun v=>nf (qd_ f d v) fun f'=>go f' L) stop:=(rfl)
theorem alj_ (c a b:Operand):vcB P w0 st md ⟨d, .pick c a b,ty,ps,af,g⟩ f L go stop=ovs (aia_ (ev f c) (ev f a) (ev f b)) (fun v=>nf (qd_ f d v) fun f'=>go f' L) stop:=(rfl)
theorem ajJ_ (op:BinOp) (t t':TypeId) (x y:Operand):vcB P w0 st md ⟨d, .binOp op t x y t',ty,ps,af,g⟩ f L go stop=ovs (qL_ P op t (ev f x) (ev f y)) (fun v=>nf (qd_ f d v) fun f'=>go f' L) stop:=(rfl)
theorem ak6_ (op:UnOp) (t:TypeId) (x:Operand):vcB P w0 st md ⟨d, .unOp op t x,ty,ps,af,g⟩ f L go stop=ovs (unV op (ev f x)) (fun v=>nf (qd_ f d v) fun f'=>go f' L) stop:=(rfl)
theorem adv_ (s t:TypeId) (x:Operand):vcB P w0 st md ⟨d, .convert s t x,ty,ps,af,g⟩ f L go stop=ib (Vy_ md f (.convert s t x)) (ovs (Xm_ w0 L (cvT P s t) (ev f x)) (fun v=>nf (qd_ f d v) fun f'=>go f' L) stop) stop:=(rfl)
theorem Wn_ (x:Operand):vcB P w0 st md ⟨d, .nilCheck x,ty,ps,af,g⟩ f L go stop=ovs (nilV (ev f x)) (fun v=>nf (qd_ f d v) fun f'=>go f' L) stop:=(rfl)
theorem VV_ (s:TypeId) (x:Operand) (i:Nat):vcB P w0 st md ⟨d, .fieldAddr s x i,ty,ps,af,g⟩ f L go stop=ovs (xw_ (xv_ P s i) (ev f x)) (fun v=>nf (qd_ f d v) fun f'=>go f' L) stop:=(rfl)
theorem aj3_ (s:TypeId) (x:Operand) (i:Nat):vcB P w0 st md ⟨d, .field s x i,ty,ps,af,g⟩ f L go stop=ovs (aeY_ (xv_ P s i) (ev f x)) (fun v=>nf (qd_ f d v) fun f'=>go f' L) stop:=(rfl)
theorem Vz_ (t:TypeId) (x i:Operand):vcB P w0 st md ⟨d, .indexAddr t x i,ty,ps,af,g⟩ f L go stop=ovs (z3_ (ixT P t) (ev f x) (ixI (ev f i))) (fun v=>nf (qd_ f d v) fun f'=>go f' L) stop:=(rfl)
theorem ahc_ (t:TypeId) (x i:Operand):vcB P w0 st md ⟨d, .index t x i,ty,ps,af,g⟩ f L go stop=ovs (v3_ (ixT P t) (ev f x) (ixI (ev f i))) (fun v=>nf (qd_ f d v) fun f'=>go f' L) stop:=(rfl)
theorem al5_ (t:TypeId) (x:Operand):vcB P w0 st md ⟨d, .load t x,ty,ps,af,g⟩ f L go stop=ib (Vy_ md f (.load t x)) (ovs (kU_ (qc_ P t) w0 L (ev f x)) (fun v=>nf (qd_ f d v) fun f'=>go f' L) stop) stop:=(rfl)
theorem adB_ (x:Operand) (i:Nat):vcB P w0 st md ⟨d, .extract x i,ty,ps,af,g⟩ f L go stop=ovs (Z6_ (ev f x) i) (fun v=>nf (qd_ f d v) fun f'=>go f' L) stop:=(rfl)
theorem ajH_ (t:TypeId) (x:Operand) (lo hi:Option Operand):vcB P w0 st md ⟨d, .slice t x lo hi none,ty,ps,af,g⟩ f L go stop=ovs (qs_ (ixT P t) (ev f x) (lo.map fun o=>ixI (ev f o)) (hi.map fun o=>ixI (ev f o))) (fun v=>nf (qd_ f d v) fun f'=>go f' L) stop:=(rfl)
theorem Wu_ (fn:Fn) (a b:Array Operand):vcB P w0 st md ⟨d, .makeFunc fn a b,ty,ps,af,g⟩ f L go stop=ovs (some (.func fn (a.map (ev f)) (b.map (ev f)))) (fun v=>nf (qd_ f d v) fun f'=>go f' L) stop:=(rfl)
theorem ang_ (x:Operand) (t:TypeId):vcB P w0 st md ⟨d, .call ⟨.builtin .len, #[x], #[t]⟩,ty,ps,af,g⟩ f L go stop=ovs (wt_ (ixT P t) (ev f x)) (fun v=>nf (qd_ f d v) fun f'=>go f' L) stop:=(rfl)
theorem aoI_ (x:Operand) (t:TypeId):vcB P w0 st md ⟨d, .call ⟨.builtin .cap, #[x], #[t]⟩,ty,ps,af,g⟩ f L go stop=ovs (capV (ixT P t) (ev f x)) (fun v=>nf (qd_ f d v) fun f'=>go f' L) stop:=(rfl)
theorem ahs_ (t:TypeId) (a x:Operand):vcB P w0 true md ⟨none, .store t a x,ty,ps,af,g⟩ f L go stop=oh (j9_ (qc_ P t) L (ev f a) (ev f x)) fun L'=>nh L' fun L'=>go f L':=(rfl)
theorem acw_ (t:TypeId) (a x:Operand):vcB P w0 false md ⟨d, .store t a x,ty,ps,af,g⟩ f L go stop=stop:=(rfl)
theorem agV_ (t:TypeId):vcB P w0 st md ⟨d, .alloc t,ty,ps,af,g⟩ f L go stop=stop:=(rfl)
theorem aog_ (t:TypeId) (x:Operand):vcB P w0 st md ⟨d, .box t x,ty,ps,af,g⟩ f L go stop=stop:=(rfl)
theorem aii_ (t:TypeId) (x:Array (Nat×Operand)):vcB P w0 st md ⟨d, .build t x,ty,ps,af,g⟩ f L go stop=stop:=(rfl)
theorem Xp_ (t:TypeId) (n:Nat) (x:Array (Nat×Operand)):vcB P w0 st md ⟨d, .buildSlice t n x,ty,ps,af,g⟩ f L go stop=stop:=(rfl)
theorem VA_ (t:TypeId) (x y:Operand):vcB P w0 st md ⟨d, .makeSlice t x y,ty,ps,af,g⟩ f L go stop=stop:=(rfl)
theorem akv_ (x:Operand) (a:Array Operand) (t:Array TypeId):vcB P w0 st md ⟨d, .call ⟨.value x,a,t⟩,ty,ps,af,g⟩ f L go stop=stop:=(rfl)
theorem agz_ (a:Array Operand) (t:Array TypeId):vcB P w0 st md ⟨d, .call ⟨.builtin .append,a,t⟩,ty,ps,af,g⟩ f L go stop=stop:=(rfl)
theorem Z0_ (a:Array Operand) (t:Array TypeId):vcB P w0 st md ⟨d, .call ⟨.builtin .unsafeString,a,t⟩,ty,ps,af,g⟩ f L go stop=stop:=(rfl)
theorem wa_ (a:Array Operand) (t:Array TypeId):vcB P w0 st md ⟨d, .call ⟨.builtin .unsafeSliceData,a,t⟩,ty,ps,af,g⟩ f L go stop=stop:=(rfl)
theorem alm_ (a:Array Operand) (t:Array TypeId):vcB P w0 st md ⟨d, .call ⟨.builtin .copy,a,t⟩,ty,ps,af,g⟩ f L go stop=stop:=(rfl)
theorem afw_ (a:Array Operand) (t:Array TypeId):vcB P w0 st md ⟨d, .call ⟨.builtin .delete,a,t⟩,ty,ps,af,g⟩ f L go stop=stop:=(rfl)
theorem ajX_ (a:Array Operand) (t:Array TypeId):vcB P w0 st md ⟨d, .call ⟨.builtin .clear,a,t⟩,ty,ps,af,g⟩ f L go stop=stop:=(rfl)
theorem anR_ (a:Array Operand) (t:Array TypeId):vcB P w0 st md ⟨d, .call ⟨.builtin .max,a,t⟩,ty,ps,af,g⟩ f L go stop=stop:=(rfl)
theorem aou_ (a:Array Operand) (t:Array TypeId):vcB P w0 st md ⟨d, .call ⟨.builtin .min,a,t⟩,ty,ps,af,g⟩ f L go stop=stop:=(rfl)
theorem abZ_ (t:TypeId) (x:Option Operand):vcB P w0 st md ⟨d, .makeMap t x,ty,ps,af,g⟩ f L go stop=stop:=(rfl)
theorem af0_ (t:TypeId) (x y:Operand) (c:Bool):vcB P w0 st md ⟨d, .lookup t x y c,ty,ps,af,g⟩ f L go stop=stop:=(rfl)
theorem Vg_ (t:TypeId) (m x y:Operand):vcB P w0 st md ⟨d, .mapUpdate t m x y,ty,ps,af,g⟩ f L go stop=stop:=(rfl)
theorem ajD_ (t:TypeId) (x:Operand):vcB P w0 st md ⟨d, .range t x,ty,ps,af,g⟩ f L go stop=stop:=(rfl)
theorem alT_ (x:Operand) (b:Bool):vcB P w0 st md ⟨d, .next x b,ty,ps,af,g⟩ f L go stop=stop:=(rfl)
theorem afq_ (t:TypeId) (m x y:Operand):vcB P w0 st md ⟨d, .insert t m x y,ty,ps,af,g⟩ f L go stop=stop:=(rfl)
theorem Zu_ (t:TypeId) (x:Operand):vcB P w0 st md ⟨d, .makeInterface t x,ty,ps,af,g⟩ f L go stop=stop:=(rfl)
theorem aaX_ (t:TypeId) (m x:Operand):vcB P w0 st md ⟨d, .mapEntry t m x,ty,ps,af,g⟩ f L go stop=stop:=(rfl)
theorem XG_ (t:TypeId) (m x y:Operand):vcB P w0 st md ⟨d, .entryStore t m x y,ty,ps,af,g⟩ f L go stop=stop:=(rfl)
theorem ai5_ (x:Operand):vcB P w0 st md ⟨d, .entry x,ty,ps,af,g⟩ f L go stop=stop:=(rfl)
end
end Go.Sx
end
section
namespace Go.Sx
open Go
set_option linter.unusedSimpArgs false
def resV (P:Program) (w0:World) (L:zb_) (f:Fr):ResultVar→Option Value
 | .tmp t=>some (vW_ f t)
 | .cell a t=>kU_ (qc_ P t) w0 L (vW_ f a)
def alJ_:Option Value→Option (List Value)→Option (List Value)
 |some v,some vs=>some (v::vs)
 |_,_=>none
def wY_ (P:Program) (w0:World) (L:zb_) (f:Fr):List ResultVar→Option (List Value)
 | []=>some []
 |r::rs=>alJ_ (resV P w0 L f r) (wY_ P w0 L f rs)
theorem Wd_ (P:Program) (w0:World) (L:zb_) (f:Fr):wY_ P w0 L f []=some []:=(rfl)
theorem XZ_ (P:Program) (w0:World) (L:zb_) (f:Fr) (r:ResultVar) (rs:List ResultVar):wY_ P w0 L f (r::rs)=alJ_ (resV P w0 L f r) (wY_ P w0 L f rs):=(rfl)
theorem X9_ (v:Value) (vs:List Value):alJ_ (some v) (some vs)=some (v::vs):=(rfl)
theorem aeH_ (P:Program) (w0:World) (L:zb_) (f:Fr) (t:Tmp):resV P w0 L f (.tmp t)=some (vW_ f t):=(rfl)
theorem aiA_ (P:Program) (w0:World) (L:zb_) (f:Fr) (a:Tmp) (t:TypeId):resV P w0 L f (.cell a t)=kU_ (qc_ P t) w0 L (vW_ f a):=(rfl)
def kT_:List Value→Value
 | [v]=>v
 |vs=> .tuple vs.toArray
section
variable {P:Program} {w0 w:World} {L:zb_} {f:Fr}
def resS (f:Fr) (r:ResultVar):Sem Value:=
 match r with
 | .tmp t=>pure ((act f).tmps.getD t undef)
 | .cell a t=>do loadVar t (←asAddr ((act f).tmps.getD a undef))
theorem als_ {r:ResultVar} {v:Value} (hw:Hp w0 L w) (h:resV P w0 L f r=some v): (resS f r).run P w= .ok v w:=by
 cases r with
 |tmp t=>simp only[resV,Option.some.injEq] at h;subst h;simp only[resS,act,Vn_];rfl
 |cell a t=>
  simp only[resV] at h
  unfold kU_ at h
  split at h
  ·rename_i b off hx
   simp only[resS,act,Vn_,hx,asAddr,Sem.run_bind,Sem.run_pure,Result.andThen_ok,JC_ hw h]
  ·cases h
theorem aaS_: ∀ (rs:List ResultVar) (vs:List Value),Hp w0 L w→wY_ P w0 L f rs=some vs→(rs.mapM (resS f)).run P w= .ok vs w
 | [],vs,_,h=>by simp only[wY_,Option.some.injEq] at h;subst h;rfl
 |r::rs,vs,hw,h=>by
  unfold wY_ alJ_ at h
  split at h
  ·rename_i v vs' h1 h2
   simp only[Option.some.injEq] at h;subst h
   rw[List.mapM_cons,Sem.run_bind,als_ hw h1]
   simp only[Result.andThen_ok]
   rw[Sem.run_bind,aaS_ rs vs' hw h2]
   rfl
  ·cases h
theorem Qs_ {fn:Func} {rs:List ResultVar} {vs:List Value} (hr:fn.results=rs.toArray) (hw:Hp w0 L w) (h:wY_ P w0 L f rs=some vs): (results fn (act f).tmps).run P w= .ok (kT_ vs) w:=by
 unfold results
 rw[hr]
 have e: (Array.mapM (m:=Sem) (resS f) rs.toArray).run P w= .ok vs.toArray w:=by
  rw[List.mapM_toArray,Sem.run_map,aaS_ rs vs hw h];rfl
 rw[Sem.run_bind]
 show Result.andThen ((Array.mapM (m:=Sem) (resS f) rs.toArray).run P w) (fun a w'=>(pure (if h:a.size=1 then a[0] else Value.tuple a):Sem Value).run P w')=_
 rw[e]
 cases vs with
 |nil=>rfl
 |cons v r=>cases r<;>rfl
end
def Rets (P:Program) (k:FuncId) (args:Array Value) (w:World) (S:Value→zb_→Prop):Prop:=
 Calls P k args w fun e w'=> ∃v D,e= .returned v∧Hp w D w'∧S v D
theorem Rets.mono {P:Program} {k:FuncId} {args:Array Value} {w:World} {S S':Value→zb_→Prop} (h:Rets P k args w S) (hs: ∀v D,S v D→S' v D):Rets P k args w S':=
 Calls.mono h fun _ _ ⟨v,D,he,hp,hS⟩=>⟨v,D,he,hp,hs _ _ hS⟩
theorem Cw.own {P:Program} {w0:World} {c:Code} {f:Fr} {L:zb_} {K:xp_} {b:Nat} {o:Obj} (hb:w0.heap[b]? =some o) (hn:b∉keys L) (h:Cw P w0 c f (L++ [(b,o)]) K):Cw P w0 c f L K:=
 fun w hw=>h w (hw.own hb hn)
def retK (P:Program) (w0:World) (rs:List ResultVar) (S:Value→zb_→Prop):xp_
 | .normal,f,L=> ∃vs,wY_ P w0 L f rs=some vs∧S (kT_ vs) L
 | .ret,f,L=> ∃vs,wY_ P w0 L f rs=some vs∧S (kT_ vs) L
 |_,_,_=>False
theorem Rets.enter {P:Program} {k:FuncId} {fn:Func} {c:Code} {rs:List ResultVar} {args:Array Value} {w:World} {S:Value→zb_→Prop} {n:Nat}
  (hf:P.funcs[k]? =some fn) (hb:fn.body=some c) (hr:fn.results=rs.toArray) (hn:fn.ntmps=n)
  (h:Cw P w c (args.toList++List.replicate (n - args.size) undef) [] (retK P w rs S)):Rets P k args w S:=by
 refine calls_of_wp hf hb ?_
 have e: ({tmps:=args++Array.replicate (fn.ntmps - args.size) undef,defers:= []}:Act)=act (args.toList++List.replicate (n - args.size) undef):=by
  rw[hn];simp only[act];congr 1;apply Array.ext';simp
 rw[e]
 refine wp_mono (h w (Hp.refl w)) ?_
 rintro e a w' ⟨hd,L,hp,hk⟩
 have ha:=QL_ hd
 cases e with
 |normal=>
  obtain⟨vs,h1,h2⟩:=hk
  exact⟨hd,kT_ vs,by rw[ha];exact Qs_ hr hp h1,kT_ vs,L,rfl,hp,h2⟩
 |ret=>
  obtain⟨vs,h1,h2⟩:=hk
  exact⟨hd,kT_ vs,by rw[ha];exact Qs_ hr hp h1,kT_ vs,L,rfl,hp,h2⟩
 |exit i=>exact hk.elim
 |goto i=>exact hk.elim
 |panic c=>exact hk.elim
 |outgrown=>exact hk.elim
def New (n:Nat):zb_→Prop
 | []=>True
 | (b,_)::r=>n≤b∧New n r
theorem New.le {n:Nat} {L:zb_} (h:New n L): ∀b,b∈keys L→n≤b:=by
 induction L with
 |nil=>intro b hb;cases hb
 |cons p r ih=>
  obtain⟨c,o⟩:=p
  intro b hb
  rcases List.mem_cons.1 hb with hb|hb
  ·rw[hb];exact h.1
  ·exact ih h.2 b hb
theorem Hp.garbage {w w':World} {D:zb_} (h:Hp w D w') (hn:New w.heap.size D):Hp w [] w':=
 h.drop (fun _ hp=>by cases hp) List.nodup_nil (fun p hp hlt _=>by
  have:=hn.le p.1 (List.mem_map.2 ⟨p,hp,rfl⟩);omega)
def retV (P:Program) (w0:World) (rs:List ResultVar) (S:Value→Prop):xp_
 | .normal,f,L=> ∃vs,wY_ P w0 L f rs=some vs∧New w0.heap.size L∧S (kT_ vs)
 | .ret,f,L=> ∃vs,wY_ P w0 L f rs=some vs∧New w0.heap.size L∧S (kT_ vs)
 |_,_,_=>False
theorem Rets.enterV {P:Program} {k:FuncId} {fn:Func} {c:Code} {rs:List ResultVar} {args:Array Value} {w:World} {S:Value→Prop} {n:Nat}
  (hf:P.funcs[k]? =some fn) (hb:fn.body=some c) (hr:fn.results=rs.toArray) (hn:fn.ntmps=n)
  (h:Cw P w c (args.toList++List.replicate (n - args.size) undef) [] (retV P w rs S)):Rets P k args w (fun v D=>S v∧D= []):=by
 have:=Rets.enter (S:=fun v D=>New w.heap.size D∧S v) hf hb hr hn (h.mono (by
  intro e f L hk
  cases e<;>first
   |exact hk
   |exact hk.elim))
 refine Calls.mono this ?_
 rintro e w' ⟨v,D,he,hp,hn,hS⟩
 exact⟨v,[],he,hp.garbage hn,hS,rfl⟩
def retM (P:Program) (w0:World) (rs:List ResultVar) (b:Nat) (S:Value→Obj→Prop):xp_
 | .normal,f,L=> ∃vs o N,wY_ P w0 L f rs=some vs∧L=(b,o)::N∧New w0.heap.size N∧S (kT_ vs) o
 | .ret,f,L=> ∃vs o N,wY_ P w0 L f rs=some vs∧L=(b,o)::N∧New w0.heap.size N∧S (kT_ vs) o
 |_,_,_=>False
theorem Rets.enterM {P:Program} {k:FuncId} {fn:Func} {c:Code} {rs:List ResultVar} {args:Array Value} {w:World} {S:Value→Obj→Prop} {n b:Nat} {o:Obj}
  (hf:P.funcs[k]? =some fn) (hb:fn.body=some c) (hr:fn.results=rs.toArray) (hn:fn.ntmps=n) (ho:w.heap[b]? =some o)
  (h:Cw P w c (args.toList++List.replicate (n - args.size) undef) [(b,o)] (retM P w rs b S)):Rets P k args w (fun v D=> ∃o,D= [(b,o)]∧S v o):=by
 have:=Rets.enter (S:=fun v D=> ∃o N,D=(b,o)::N∧New w.heap.size N∧S v o) hf hb hr hn
  (Cw.own ho (by simp[keys]) (h.mono (by
   intro e f L hk
   cases e with
   |normal=>obtain⟨vs,o,N,h1,h2,h3,h4⟩:=hk;exact⟨vs,h1,o,N,h2,h3,h4⟩
   |ret=>obtain⟨vs,o,N,h1,h2,h3,h4⟩:=hk;exact⟨vs,h1,o,N,h2,h3,h4⟩
   |_=>exact hk.elim)))
 refine Calls.mono this ?_
 rintro e w' ⟨v,D,he,hp,o',N,rfl,hN,hS⟩
 have hbl:=(Array.getElem?_eq_some_iff.1 ho).1
 refine⟨v,[(b,o')],he,hp.drop (fun p hp=> ?_) (by simp[keys]) (fun p hp hlt hnk=> ?_),o',rfl,hS⟩
 ·simp only[List.mem_singleton] at hp;subst hp;exact List.mem_cons_self
 ·rcases List.mem_cons.1 hp with h|h
  ·exfalso;apply hnk;rw[h];simp[keys]
  ·have:=hN.le p.1 (List.mem_map.2 ⟨p,h,rfl⟩);omega
def jM_:zb_→Nat→Prop
 | [],_=>True
 | (b,_)::r,n=>b<n∧jM_ r n
theorem z2_ {L:zb_} {n:Nat} (h: ∀b,b∈keys L→b<n):jM_ L n:=by
 induction L with
 |nil=>trivial
 |cons p r ih=>
  obtain⟨b,o⟩:=p
  exact⟨h b List.mem_cons_self,ih fun c hc=>h c (List.mem_cons_of_mem _ hc)⟩
def Mrg (w0:World) (L:zb_) (B:Nat) (D L':zb_):Prop:= ∀w w',w.heap.size=B→Hp w0 L w→Hp w D w'→Hp w0 L' w'
theorem Mrg.nil {w0:World} {L:zb_} {B:Nat}:Mrg w0 L B [] L:=fun _ _ _ h k=>h.trans_nil k
theorem Hp.same {w0 w:World} {L M:zb_} (h:Hp w0 L w) (hs: ∀p,p∈M↔p∈L) (hn: (keys M).Nodup):Hp w0 M w:=by
 have hk: ∀b,b∈keys M↔b∈keys L:=fun b=>by
  constructor<;>intro hb<;>obtain⟨p,hp,rfl⟩:=List.mem_map.1 hb
  ·exact List.mem_map.2 ⟨p,(hs p).1 hp,rfl⟩
  ·exact List.mem_map.2 ⟨p,(hs p).2 hp,rfl⟩
 exact⟨fun b o hm=>h.has b o ((hs _).1 hm),hn,fun b hb hm=>h.old b hb (fun hm'=>hm ((hk b).2 hm')),h.size,h.tape,h.os,h.output⟩
theorem je_ {L D:zb_} (h: ∀b,b∈keys L→b∉keys D):L.filter (fun p=> !(keys D).contains p.1)=L:=by
 apply List.filter_eq_self.2
 intro p hp
 have:=h p.1 (List.mem_map.2 ⟨p,hp,rfl⟩)
 simpa using this
theorem Mrg.fresh {w0:World} {L D:zb_} {B:Nat} (hD: ∀b,b∈keys D→B≤b):Mrg w0 L B D (L++D):=by
 intro w w' hB h k
 have:=h.trans k
 rwa [je_ (fun b hb hm=>by have:=h.lt hb;have:=hD b hm;omega)] at this
theorem Mrg.set {w0:World} {L:zb_} {B b:Nat} {o:Obj} (hb:b∈keys L):Mrg w0 L B [(b,o)] (setB L b o):=by
 intro w w' hB h k
 have ht:=h.trans k
 refine ht.same (fun p=> ?_) (by rw[xH_];exact h.nodup)
 obtain⟨c,x⟩:=p
 simp only[List.mem_append,List.mem_filter,keys,List.map_cons,List.map_nil,List.contains_eq_mem,List.mem_singleton,Prod.mk.injEq,Bool.not_eq_true',decide_eq_false_iff_not]
 constructor
 ·intro hm
  rcases adY_ h.nodup hm with⟨h1,h2⟩ | ⟨h1,h2⟩
  ·exact .inr ⟨h1,h2⟩
  ·exact .inl ⟨h2,h1⟩
 ·rintro(⟨h1,h2⟩ | ⟨rfl,rfl⟩)
  ·have: ∀ (L:zb_),(c,x)∈L→c≠b→(c,x)∈setB L b o:=by
    intro L
    induction L with
    |nil=>intro hm _;cases hm
    |cons q r ih=>
     obtain⟨e,y⟩:=q
     intro hm hne
     unfold setB
     split
     ·rename_i he
      rcases List.mem_cons.1 hm with hm|hm
      ·simp only[Prod.mk.injEq] at hm;exact absurd (hm.1.trans he) hne
      ·exact List.mem_cons_of_mem _ hm
     ·rcases List.mem_cons.1 hm with hm|hm
      ·rw[hm];exact List.mem_cons_self
      ·exact List.mem_cons_of_mem _ (ih hm hne)
   exact this L h1 h2
  ·have: ∀ (L:zb_),c∈keys L→(c,x)∈setB L c x:=by
    intro L
    induction L with
    |nil=>intro hm;cases hm
    |cons q r ih=>
     obtain⟨e,y⟩:=q
     intro hm
     unfold setB
     split
     ·rename_i he;subst he;exact List.mem_cons_self
     ·rename_i he
      rcases List.mem_cons.1 hm with hm|hm
      ·exact absurd hm.symm he
      ·exact List.mem_cons_of_mem _ (ih hm)
   exact this L hb
section
variable {P:Program} {w0:World} {f:Fr} {L:zb_} {N:Fr→zb_→Prop} {ops:Array Oper} {rest:List Oper} {md:Md}
 {d:Option Tmp} {ty:TypeId} {ps:String} {af:Array Edge} {g:Option (Nat×Bool)}
theorem Vw_ {x:Operand} {args:Array Operand} {ts:Array TypeId} {k:FuncId} {fst cap:Array Value} (hx:ev f x= .func (.func k) fst cap)
  (hk: ∀a w,(callFunc k a).run P w= .ok (.enter k a) w) (w:World):
  (execOp (ev f) ⟨d, .call ⟨.value x,args,ts⟩,ty,ps,af,g⟩).run P w= .ok (.enter k (fst++args.map (ev f)++cap)) w:=by
 simp only[execOp,resolve,hx,Deferred.ofValue,Sem.run_bind,Sem.run_pure,Result.andThen_ok,invoke,hk]
theorem Ow.call {x:Operand} {args:Array Operand} {ts:Array TypeId} {k:FuncId} {fst cap:Array Value} {S:Nat→Value→zb_→Prop} {md':Md} (he:md.turn=some md')
  (hs:zg_ ops f ⟨d, .call ⟨.value x,args,ts⟩,ty,ps,af,g⟩=false) (hx:ev f x= .func (.func k) fst cap)
  (hk: ∀a w,(callFunc k a).run P w= .ok (.enter k a) w) (hc: ∀w,Hp w0 L w→Rets P k (fst++args.map (ev f)++cap) w (S w.heap.size))
  (hn: ∀B v D,jM_ L B→w0.heap.size≤B→S B v D→ ∃L',Mrg w0 L B D L'∧Ow P w0 ops md' rest (qd_ f d v) L' N):
  Ow P w0 ops md (⟨d, .call ⟨.value x,args,ts⟩,ty,ps,af,g⟩::rest) f L N:=by
 refine Ow.step he rfl hs fun w hw=> .inr (.inr ⟨k,_,w,Vw_ hx hk w, ?_⟩)
 refine Calls.mono (hc w hw) ?_
 rintro e w' ⟨v,D,rfl,hp,hS⟩
 obtain⟨L',hm,hO⟩:=hn w.heap.size v D (z2_ fun b hb=>hw.lt hb) hw.size hS
 exact⟨v,L',rfl,hm w w' rfl hw hp,hO⟩
theorem Ow.callV {x:Operand} {args:Array Operand} {ts:Array TypeId} {k:FuncId} {fst cap:Array Value} {v:Value}
  (hs:zg_ ops f ⟨d, .call ⟨.value x,args,ts⟩,ty,ps,af,g⟩=false) (hx:ev f x= .func (.func k) fst cap)
  (hk: ∀a w,(callFunc k a).run P w= .ok (.enter k a) w) (hc: ∀w,Hp w0 L w→Rets P k (fst++args.map (ev f)++cap) w (fun v' D=>v'=v∧D= []))
  (hn:Ow P w0 ops md.next rest (qd_ f d v) L N):
  Ow P w0 ops md (⟨d, .call ⟨.value x,args,ts⟩,ty,ps,af,g⟩::rest) f L N:=by
 refine Ow.calm rfl rfl hs (fun w hw=> .inr (.inr ⟨k,_,w,Vw_ hx hk w, ?_⟩)) hn
 refine Calls.mono (hc w hw) ?_
 rintro e w' ⟨v',D,rfl,hp,rfl,rfl⟩
 exact⟨_,_,rfl,hw.trans_nil hp,rfl,rfl⟩
theorem Ow.callF {l:List Operand} {ts:Array TypeId} {k:FuncId} {S:Nat→Value→zb_→Prop} {md':Md} (he:md.turn=some md')
  (hs:zg_ ops f ⟨d, .call ⟨.value (.func k),l.toArray,ts⟩,ty,ps,af,g⟩=false)
  (hk: ∀a w,(callFunc k a).run P w= .ok (.enter k a) w) (hc: ∀w,Hp w0 L w→Rets P k (l.map (ev f)).toArray w (S w.heap.size))
  (hn: ∀B v D,jM_ L B→w0.heap.size≤B→S B v D→ ∃L',Mrg w0 L B D L'∧Ow P w0 ops md' rest (qd_ f d v) L' N):
  Ow P w0 ops md (⟨d, .call ⟨.value (.func k),l.toArray,ts⟩,ty,ps,af,g⟩::rest) f L N:=
 Ow.call he hs rfl hk (fun w hw=>by simpa using hc w hw) hn
theorem Ow.callFV {l:List Operand} {ts:Array TypeId} {k:FuncId} {v:Value}
  (hs:zg_ ops f ⟨d, .call ⟨.value (.func k),l.toArray,ts⟩,ty,ps,af,g⟩=false)
  (hk: ∀a w,(callFunc k a).run P w= .ok (.enter k a) w) (hc: ∀w,Hp w0 L w→Rets P k (l.map (ev f)).toArray w (fun v' D=>v'=v∧D= []))
  (hn:Ow P w0 ops md.next rest (qd_ f d v) L N):
  Ow P w0 ops md (⟨d, .call ⟨.value (.func k),l.toArray,ts⟩,ty,ps,af,g⟩::rest) f L N:=
 Ow.callV hs rfl hk (fun w hw=>by simpa using hc w hw) hn
def zI_ (P:Program) (t:TypeId):Option Value:=(P.info? t).bind (·.zero)
theorem jf_ {t:TypeId} {z:Value} (h:zI_ P t=some z) (w:World): (zeroValue t).run P w= .ok z w:=by
 unfold zI_ at h
 cases hi:P.info? t with
 |none=>rw[hi] at h;cases h
 |some i=>
  rw[hi] at h
  simp only[Option.bind_some] at h
  simp only[zeroValue,Sem.run_bind,typeInfo,run_program,Result.andThen_ok,hi,Sem.run_pure,h]
theorem Ow.alloc {t:TypeId} {z:Value} {md':Md} (he:md.turn=some md') (hs:zg_ ops f ⟨d, .alloc t,ty,ps,af,g⟩=false) (hz:zI_ P t=some z)
  (hn: ∀b,jM_ L b→w0.heap.size≤b→Ow P w0 ops md' rest (qd_ f d (vp b 0)) (L++ [(b, .cells z.cells t)]) N):
  Ow P w0 ops md (⟨d, .alloc t,ty,ps,af,g⟩::rest) f L N:=by
 refine Ow.step he rfl hs fun w hw=> .inl ⟨vp w.heap.size 0,w.alloc (.cells z.cells t),_, ?_,hw.alloc _,hn _ (z2_ fun b hb=>hw.lt hb) hw.size⟩
 simp only[execOp,Instr.alloc,Sem.run_bind,jf_ hz w,Result.andThen_ok]
 rfl
theorem Ow.box {t:TypeId} {x:Operand} {md':Md} (he:md.turn=some md') (hs:zg_ ops f ⟨d, .box t x,ty,ps,af,g⟩=false)
  (hn: ∀b,jM_ L b→w0.heap.size≤b→Ow P w0 ops md' rest (qd_ f d (vp b 0)) (L++ [(b, .cells (ev f x).cells t)]) N):
  Ow P w0 ops md (⟨d, .box t x,ty,ps,af,g⟩::rest) f L N:=by
 refine Ow.step he rfl hs fun w hw=> .inl ⟨vp w.heap.size 0,w.alloc (.cells (ev f x).cells t),_, ?_,hw.alloc _,hn _ (z2_ fun b hb=>hw.lt hb) hw.size⟩
 simp only[execOp,Instr.box,Sem.run_bind,Result.andThen_ok]
 rfl
def x7_ (P:Program) (t:TypeId):Option (List (Nat×Nat)):=
 match P.underlying t with
 |some (.struct fs)=>fs.toList.mapM fun f=>(qc_ P f.type).map fun m=>(f.offset,m.2)
 |some (.array n e)=>(qc_ P e).map fun m=>(List.range n).map fun i=>(i*m.2,m.2)
 |_=>none
def fillV (pl:List (Nat×Nat)):Array Value→List (Nat×Value)→Option (Array Value)
 |cs,[]=>some cs
 |cs,(i,v)::r=>match pl[i]? with
  |some (off,n)=>if v.cells.size=n∧off+n≤cs.size then fillV pl (vV_ cs off v.cells.toList) r else none
  |none=>none
def qR_ (pl:Option (List (Nat×Nat))) (z:Option Value) (parts:List (Nat×Value)):Option Value:=
 match pl,z with
 |some pl,some (.agg cs)=>(fillV pl cs parts).map .agg
 |_,_=>none
theorem Zv_: ∀ (vs:List Value) (off j:Nat) (cs:Array Value),(vs.zipIdx j).foldl (fun cs (p:Value×Nat)=>cs.setIfInBounds (off+p.2) p.1) cs=vV_ cs (off+j) vs
 | [],_,_,_=>rfl
 |v::r,off,j,cs=>by
  simp only[List.zipIdx_cons,List.foldl_cons,vV_]
  rw[Zv_ r off (j+1)]
  rfl
theorem adF_ {place:Nat→Option (Nat×Nat)} {pl:List (Nat×Nat)} (hp: ∀i p,pl[i]? =some p→place i=some p): ∀ (parts:List (Nat×Value)) (cs cs':Array Value),fillV pl cs parts=some cs'→Instr.fill place cs parts=some cs'
 | [],_,_,h=>h
 | (i,v)::r,cs,cs',h=>by
  unfold fillV at h
  split at h
  ·rename_i off n hi
   split at h
   ·rename_i hc
    unfold Instr.fill
    rw[hp i _ hi]
    simp only
    have h1: (decide (v.cells.size≠n) ||decide (off+v.cells.size>cs.size))=false:=by
     simp only[Bool.or_eq_false_iff,decide_eq_false_iff_not];omega
    have h1': ¬ ((decide (v.cells.size≠n) ||decide (off+v.cells.size>cs.size))=true):=by rw[h1];simp
    rw[if_neg h1']
    have e: (v.cells.zipIdx.foldl (fun cs (x:Value×Nat)=>match x with| (c,j)=>cs.setIfInBounds (off+j) c) cs)=vV_ cs off v.cells.toList:=by
     have:=Zv_ v.cells.toList off 0 cs
     rw[←Array.foldl_toList,Array.toList_zipIdx]
     simpa using this
    rw[e]
    exact adF_ hp r _ _ h
   ·cases h
  ·cases h
theorem acV_ {fs:List Field} {pl:List (Nat×Nat)} (h:fs.mapM (fun f=>(qc_ P f.type).map fun m=>(f.offset,m.2))=some pl) (w:World):
  (fs.mapM (fun f=>do pure (f.offset,←sizeOf f.type):Field→Sem (Nat×Nat))).run P w= .ok pl w:=by
 induction fs generalizing pl with
 |nil=>cases h;rfl
 |cons f r ih=>
  simp only[List.mapM_cons,Option.bind_eq_bind,Option.bind_eq_some_iff,Option.map_eq_some_iff] at h
  obtain⟨p,⟨m,hm,rfl⟩,ps,hps,h⟩:=h
  cases h
  rw[List.mapM_cons,Sem.run_bind]
  simp only[Sem.run_bind,zv_ hm,Result.andThen_ok,Sem.run_pure,ih hps]
theorem afj_ {t:TypeId} {parts:Array (Nat×Value)} {v:Value} (h:qR_ (x7_ P t) (zI_ P t) parts.toList=some v) (w:World): (Instr.build t parts).run P w= .ok v w:=by
 unfold qR_ at h
 split at h
 ·rename_i pl cs hpl hz
  cases hf:fillV pl cs parts.toList with
  |none=>rw[hf] at h;cases h
  |some cs'=>
   rw[hf] at h
   cases h
   unfold x7_ at hpl
   split at hpl
   ·rename_i fs hu
    have hpl':fs.toList.mapM (fun f=>(qc_ P f.type).map fun m=>(f.offset,m.2))=some pl:=hpl
    have hm:=acV_ hpl' w
    have hm': (fs.mapM (fun f=>do pure (f.offset,←sizeOf f.type):Field→Sem (Nat×Nat))).run P w= .ok pl.toArray w:=by
     rw[←Array.toArray_toList (xs:=fs),List.mapM_toArray,Sem.run_map,hm];rfl
    have hfill:=adF_ (place:=(pl.toArray[·]?)) (fun i p hi=>by simpa using hi) _ _ _ hf
    simp only[Instr.build,Sem.run_bind,jf_ hz w,Result.andThen_ok,run_underlying hu w,Value.cells]
    rw[hm']
    simp only[Result.andThen_ok,hfill,Sem.run_pure]
   ·rename_i n e hu
    cases hm:qc_ P e with
    |none=>rw[hm] at hpl;cases hpl
    |some m=>
     rw[hm] at hpl
     simp only[Option.map_some,Option.some.injEq] at hpl
     have hfill:=adF_ (place:=fun i=>some (i*m.2,m.2)) (fun i p hi=>by
      rw[←hpl] at hi
      simp only[List.getElem?_map,Option.map_eq_some_iff] at hi
      obtain⟨j,hj,rfl⟩:=hi
      have:j=i:=by
       have:=List.getElem?_eq_some_iff.1 hj
       obtain⟨h1,h2⟩:=this
       simpa using h2.symm
      rw[this]) _ _ _ hf
     simp only[Instr.build,Sem.run_bind,jf_ hz w,Result.andThen_ok,run_underlying hu w,Value.cells,zv_ hm w]
     simp only[hfill,Sem.run_pure]
   ·cases hpl
 ·cases h
theorem Ow.build {t:TypeId} {parts:Array (Nat×Operand)} (v:Value) (hs:zg_ ops f ⟨d, .build t parts,ty,ps,af,g⟩=false)
  (hv:qR_ (x7_ P t) (zI_ P t) (parts.toList.map fun p=>(p.1,ev f p.2))=some v)
  (hn:Ow P w0 ops md.next rest (qd_ f d v) L N):Ow P w0 ops md (⟨d, .build t parts,ty,ps,af,g⟩::rest) f L N:=by
 refine Ow.pureV rfl hs (fun w=> ?_) hn
 have h':qR_ (x7_ P t) (zI_ P t) (parts.map fun(i,x)=>(i,ev f x)).toList=some v:=by
  rw[Array.toList_map];exact hv
 simp only[execOp,Sem.run_bind,afj_ h' w,Result.andThen_ok]
 rfl
theorem Ow.val {o:Oper} {v:Value} {md':Md} (he:md.turn=some md') (hp:jO_ P o.op=false) (hs:zg_ ops f o=false) (hv: ∀w,Hp w0 L w→(execOp (ev f) o).run P w= .ok (.value v) w)
  (hn:Ow P w0 ops md' rest (qd_ f o.dst v) L N):Ow P w0 ops md (o::rest) f L N:=
 Ow.step he hp hs fun w hw=> .inl ⟨v,w,L,hv w hw,hw,hn⟩
end
def a8 (l:List UInt8):Array Value:=(l.map fun x=>Value.int .u8 (x.toNat:Int)).toArray
def a32 (l:List UInt32):Array Value:=(l.map fun x=>Value.int .u32 (x.toNat:Int)).toArray
end Go.Sx
end
section
namespace Go.Sx
open Go
set_option linter.unusedSimpArgs false
section
variable {P:Program} {w0:World} {f:Fr} {L:zb_} {K:xp_} {N:Fr→zb_→Prop}
theorem qr_ (h:N f L):k2_ N K .normal f L:=h
end
def CwC (P:Program) (w0:World) (v:Value) (x y:Code) (f:Fr) (L:zb_) (K:xp_):Prop:= ∃b,v= .bool b∧(b=true→Cw P w0 x f L K)∧(b=false→Cw P w0 y f L K)
section
variable {P:Program} {w0:World} {f:Fr} {L:zb_} {K:xp_} {v:Value} {x y:Code}
theorem CwC.split {b:Bool} (hv:v= .bool b) (ht:b=true→Cw P w0 x f L K) (he:b=false→Cw P w0 y f L K):CwC P w0 v x y f L K:=⟨b,hv,ht,he⟩
theorem CwC.splitp {p:Prop} [Decidable p] (hv:v= .bool (decide p)) (ht:p→Cw P w0 x f L K) (he: ¬p→Cw P w0 y f L K):CwC P w0 v x y f L K:=
 ⟨_,hv,(fun h=>ht (of_decide_eq_true h)),(fun h=>he (of_decide_eq_false h))⟩
theorem CwC.tt (hv:v= .bool true) (ht:Cw P w0 x f L K):CwC P w0 v x y f L K:=⟨_,hv,(fun _=>ht),(fun h=>by cases h)⟩
theorem CwC.ff (hv:v= .bool false) (he:Cw P w0 y f L K):CwC P w0 v x y f L K:=⟨_,hv,(fun h=>by cases h),(fun _=>he)⟩
theorem CwC.bt {b:Bool} (hv:v= .bool b) (hb:b=true) (ht:Cw P w0 x f L K):CwC P w0 v x y f L K:=CwC.tt (by rw[hv,hb]) ht
theorem CwC.bf {b:Bool} (hv:v= .bool b) (hb:b=false) (he:Cw P w0 y f L K):CwC P w0 v x y f L K:=CwC.ff (by rw[hv,hb]) he
theorem CwC.pt {p:Prop} [Decidable p] (hv:v= .bool (decide p)) (hp:p) (ht:Cw P w0 x f L K):CwC P w0 v x y f L K:=CwC.bt hv (decide_eq_true hp) ht
theorem CwC.it {a b:Int} (hv:v= .bool (a==b)) (hp:a=b) (ht:Cw P w0 x f L K):CwC P w0 v x y f L K:=CwC.bt hv (beq_iff_eq.2 hp) ht
theorem CwC.if {a b:Int} (hv:v= .bool (a==b)) (hp: ¬a=b) (he:Cw P w0 y f L K):CwC P w0 v x y f L K:=CwC.bf hv (beq_eq_false_iff_ne.2 hp) he
theorem CwC.nt {a b:Int} (hv:v= .bool (a !=b)) (hp: ¬a=b) (ht:Cw P w0 x f L K):CwC P w0 v x y f L K:=CwC.bt hv (bne_iff_ne.2 hp) ht
theorem CwC.nf {a b:Int} (hv:v= .bool (a !=b)) (hp:a=b) (he:Cw P w0 y f L K):CwC P w0 v x y f L K:=CwC.bf hv (by rw[hp];simp) he
end
theorem zD_ (f:Fr) (t:Tmp):ev f (.tmp t)=vW_ f t:=(rfl)
theorem Vj_ (f:Fr) (v:Value):ev f (.const v)=v:=(rfl)
theorem ahq_ (f:Fr) (g:Nat):ev f (.global g)=vp g 0:=(rfl)
theorem aoj_ (f:Fr) (k:FuncId):ev f (.func k)= .func (.func k) #[] #[]:=(rfl)
theorem zH_ (v:Value) (r:Fr):vW_ (v::r) 0=v:=(rfl)
theorem zG_ (v:Value) (r:Fr) (n:Nat):vW_ (v::r) (n+1)=vW_ r n:=(rfl)
theorem ji_ (v x:Value) (r:Fr):K6_ (v::r) 0 x=x::r:=(rfl)
theorem jk_ (v x:Value) (r:Fr) (n:Nat):K6_ (v::r) (n+1) x=v::K6_ r n x:=(rfl)
theorem zW_ (f:Fr) (d:Tmp) (v:Value):qd_ f (some d) v=K6_ f d v:=(rfl)
theorem ai8_ (f:Fr) (v:Value):qd_ f none v=f:=(rfl)
theorem aoB_ (l:List UInt8):Value.string (ByteArray.mk (List.toArray l))=vs l:=(rfl)
theorem anW_ (P:Program) (op:BinOp) (t:TypeId) (a b:List UInt8):qL_ P op t (vs a) (vs b)=zj_ op (vs a) (vs b):=(rfl)
theorem k1_ (l:List UInt8): (ByteArray.mk l.toArray).size=l.length:=by simp[ByteArray.size]
theorem kd_ (l:List UInt8): (ByteArray.mk l.toArray).toList=l:=by rw[ByteArray.toList_eq]
theorem ajW_ (a b:List UInt8) (h:a.length+b.length≤9223372036854775807):zj_ .add (vs a) (vs b)=some (vs (a++b)):=by
 simp only[zj_,vs,strV,k1_,h, ↓reduceIte]
 congr 2
theorem aiT_ (a b:List UInt8):zj_ .eql (vs a) (vs b)=some (.bool (a==b)):=by simp only[zj_,vs,strV,kd_]
theorem aiS_ (a b:List UInt8):zj_ .neq (vs a) (vs b)=some (.bool (a !=b)):=by simp only[zj_,vs,strV,kd_];rfl
theorem ahy_ (a b:List UInt8):zj_ .lss (vs a) (vs b)=some (.bool (Op.bytesLess a b)):=by simp only[zj_,vs,strV,kd_]
theorem akl_ (a b:List UInt8):zj_ .leq (vs a) (vs b)=some (.bool (Op.bytesLess a b||a==b)):=by simp only[zj_,vs,strV,kd_]
theorem aj4_ (a b:List UInt8):zj_ .gtr (vs a) (vs b)=some (.bool (!(Op.bytesLess a b||a==b))):=by simp only[zj_,vs,strV,kd_]
theorem aiZ_ (a b:List UInt8):zj_ .geq (vs a) (vs b)=some (.bool (!Op.bytesLess a b)):=by simp only[zj_,vs,strV,kd_]
theorem akb_ (l:List UInt8) (k:Int) (h:0≤k∧k<l.length):v3_ .str (vs l) (some k)=some (v8 (l.getD k.toNat 0)):=by
 have hlt:k.toNat<l.length:=by omega
 simp only[v3_,vs,h.1, ↓reduceIte]
 have: (ByteArray.mk l.toArray)[k.toNat]? =some l[k.toNat]:=by
  have hs:k.toNat< (ByteArray.mk l.toArray).size:=by rw[k1_];exact hlt
  rw[ByteArray.getElem?_lt' _ _ hs];rfl
 rw[this]
 simp[v8,List.getD_eq_getElem?_getD,hlt]
theorem aoy_ (l:List UInt8):wt_ .str (vs l)=some (vi l.length):=by simp only[wt_,vs,k1_];rfl
theorem JH_ (l:List UInt8) (lo hi:Option (Option Int)) (a b:Nat) (h:bndV l.length l.length lo hi=some (a,b)):qs_ .str (vs l) lo hi=some (vs ((l.take b).drop a)):=by
 simp only[qs_,vs,k1_,h]
 rw[ByteArray.extract_mk]
 congr 3
 rw[List.drop_take]
theorem ali_ (n c:Nat):bndV n c none none=some (0,n):=(rfl)
theorem aeR_ (n c:Nat) (l:Int) (h:0≤l∧l≤n):bndV n c (some (some l)) none=some (l.toNat,n):=by simp only[bndV,h,and_self, ↓reduceIte]
theorem ahY_ (n c:Nat) (l:Int) (h:0≤l∧l≤c):bndV n c none (some (some l))=some (0,l.toNat):=by simp only[bndV,h,and_self, ↓reduceIte]
theorem KV_ (n c:Nat) (l k:Int) (h:0≤l∧l≤k∧k≤c):bndV n c (some (some l)) (some (some k))=some (l.toNat,k.toNat):=by simp only[bndV,h,and_self, ↓reduceIte]
theorem abb_ (l:List UInt8) (k:Int) (h:0≤k∧k≤l.length):qs_ .str (vs l) (some (some k)) none=some (vs (l.drop k.toNat)):=by
 rw[JH_ l _ _ _ _ (aeR_ _ _ k h),List.take_length]
theorem V6_ (l:List UInt8) (k:Int) (h:0≤k∧k≤l.length):qs_ .str (vs l) none (some (some k))=some (vs (l.take k.toNat)):=by
 rw[JH_ l _ _ _ _ (ahY_ _ _ k h),List.drop_zero]
theorem v1_ (l:List UInt8) (j k:Int) (h:0≤j∧j≤k∧k≤l.length):qs_ .str (vs l) (some (some j)) (some (some k))=some (vs ((l.take k.toNat).drop j.toNat)):=by
 rw[JH_ l _ _ _ _ (KV_ _ _ j k h)]
theorem aml_ (w0:World) (L:zb_) (k:IntKind) (v:Value):Xm_ w0 L (.int k) v=z4_ k v:=(rfl)
theorem alc_ (w0:World) (L:zb_) (l:List UInt8):Xm_ w0 L .str (vs l)=some (vs l):=(rfl)
theorem Vo_ (w0:World) (L:zb_) (b off n c:Nat):Xm_ w0 L .bytesStr (vsl b off n c)=jD_ (zk_ w0 L b) off n:=(rfl)
theorem afZ_ (l:List UInt8):bytesOf (l.map fun x=>Value.int .u8 (x.toNat:Int))=some l:=by
 induction l with
 |nil=>rfl
 |cons x r ih=>
  simp only[List.map_cons,bytesOf,ih,Int.toNat_natCast]
  simp
theorem ans_ (l:List UInt8) (E:TypeId) (fz:Nat×Nat) (off n:Nat) (h:off+n≤l.length):jD_ (some (.cells (a8 l) E fz)) off n=some (vs ((l.drop off).take n)):=by
 have hs:off+n≤ (a8 l).size:=by simpa [a8] using h
 simp only[jD_,hs, ↓reduceIte]
 have e: ((a8 l).extract off (off+n)).toList=((l.drop off).take n).map fun x=>Value.int .u8 (x.toNat:Int):=by
  simp[a8,List.map_drop,List.map_take,List.take_drop,List.extract_eq_take_drop]
 rw[e,afZ_];rfl
theorem adm_ (off n b o:Nat) (a:Bool) (h:0<n):xw_ (some (off,(a,n))) (vp b o)=some (vp b (o+off)):=by
 have: ¬n=0:=by omega
 simp only[xw_,vp,this, ↓reduceIte,qB_]
theorem KZ_ (n:Nat) (m:Bool×Nat) (b o:Nat) (k:Int) (h:0≤k∧k<n):z3_ (.arr n m) (vp b o) (some k)=some (vp b (o+k.toNat*m.2)):=by
 simp only[z3_,vp,h,and_self, ↓reduceIte,qB_]
theorem qz_ (m:Bool×Nat) (b o n c:Nat) (k:Int) (h:0≤k∧k<n):z3_ (.sl m) (vsl b o n c) (some k)=some (vp b (o+k.toNat*m.2)):=by
 simp only[z3_,vp,vsl,h,and_self, ↓reduceIte,qB_]
theorem aqY_ (b o:Nat):nilV (vp b o)=some (vp b o):=(rfl)
theorem aoa_ (n:Nat) (m:Bool×Nat) (v:Value):wt_ (.arr n m) v=some (vi n):=(rfl)
theorem apu_ (m:Bool×Nat) (b o n c:Nat):wt_ (.sl m) (vsl b o n c)=some (vi n):=(rfl)
theorem apw_ (m:Bool×Nat) (b o n c:Nat):capV (.sl m) (vsl b o n c)=some (vi c):=(rfl)
theorem KT_ (n:Nat) (m:Bool×Nat) (b o:Nat) (h:0<n):qs_ (.arr n m) (vp b o) none none=some (vsl b o n n):=by
 have: ¬n=0:=by omega
 simp only[qs_,vp,ali_,this, ↓reduceIte,vsl,qB_,Nat.zero_mul,Nat.add_zero,Nat.sub_zero]
theorem XE_ (n:Nat) (m:Bool×Nat) (b o:Nat) (j k:Int) (h:0≤j∧j≤k∧k≤n∧j<n):qs_ (.arr n m) (vp b o) (some (some j)) (some (some k))=some (vsl b (o+j.toNat*m.2) (k.toNat - j.toNat) (n - j.toNat)):=by
 have: ¬n=j.toNat:=by omega
 simp only[qs_,vp,KV_ n n j k ⟨h.1,h.2.1,h.2.2.1⟩,this, ↓reduceIte,vsl,qB_]
theorem zP_ (L:zb_) (b:Nat) (o:Obj):look ((b,o)::L) b=some o:=by simp[look]
theorem qx_ (L:zb_) (b c:Nat) (o:Obj) (h:b≠c):look ((b,o)::L) c=look L c:=by simp[look,h]
theorem jc_ (L:zb_) (b:Nat) (o x:Obj):setB ((b,o)::L) b x=(b,x)::L:=by simp[setB]
theorem q2_ (L:zb_) (b c:Nat) (o x:Obj) (h:b≠c):setB ((b,o)::L) c x=(b,o)::setB L c x:=by simp[setB,h]
theorem zr_ (w0:World) (L:zb_) (b:Nat) (o:Obj):zk_ w0 ((b,o)::L) b=some o:=by simp[zk_,look]
theorem zm_ (w0:World) (L:zb_) (b c:Nat) (o:Obj) (h:b≠c):zk_ w0 ((b,o)::L) c=zk_ w0 L c:=by simp[zk_,look,h]
theorem zY_ (w0:World) (b:Nat):zk_ w0 [] b=w0.heap[b]? :=(rfl)
theorem ja_ (m:Option (Bool×Nat)) (w0:World) (L:zb_) (b o:Nat):kU_ m w0 L (vp b o)=zl_ m (zk_ w0 L b) o:=(rfl)
theorem xn_ (cs:Array Value) (E:TypeId) (fz:Nat×Nat) (n:Nat) (h:cs.size=n):zl_ (some (true,n)) (some (.cells cs E fz)) 0=some (.agg cs):=by
 subst h
 simp[zl_]
theorem x5_ (l:List UInt8): (a8 l).size=l.length:=by simp[a8]
theorem wQ_ (l:List UInt32): (a32 l).size=l.length:=by simp[a32]
theorem agW_ (l:List UInt8) (E:TypeId) (fz:Nat×Nat) (n i:Nat) (h:i<l.length):zl_ (some (false,n)) (some (.cells (a8 l) E fz)) i=some (v8 (l.getD i 0)):=by
 simp[zl_,a8,v8,h]
theorem ale_ (l:List UInt32) (E:TypeId) (fz:Nat×Nat) (n i:Nat) (h:i<l.length):zl_ (some (false,n)) (some (.cells (a32 l) E fz)) i=some (v32 (l.getD i 0)):=by
 simp[zl_,a32,v32,h]
theorem w8_ (l:List UInt8) (E:TypeId) (fz:Nat×Nat) (n:Nat) (h:l.length=n):zl_ (some (true,n)) (some (.cells (a8 l) E fz)) 0=some (.agg (a8 l)):=xn_ _ E fz n (by rw[x5_,h])
theorem afx_ (l:List UInt32) (E:TypeId) (fz:Nat×Nat) (n:Nat) (h:l.length=n):zl_ (some (true,n)) (some (.cells (a32 l) E fz)) 0=some (.agg (a32 l)):=xn_ _ E fz n (by rw[wQ_,h])
theorem za_ (cs:Array Value): (Value.agg cs).cells=cs:=(rfl)
theorem apM_ (l:List UInt8): (a8 l).toList.all Value.oneCell'=true:=by simp[a8,Value.oneCell']
theorem ahV_ (l:List UInt32): (a32 l).toList.all Value.oneCell'=true:=by simp[a32,Value.oneCell']
theorem QC_ (vs:List Value): ∀ (pre mid suf:List Value),mid.length=vs.length→vV_ (pre++mid++suf).toArray pre.length vs=(pre++vs++suf).toArray:=by
 induction vs with
 |nil=>
  intro pre mid suf h
  cases mid with
  |nil=>rfl
  |cons _ _=>cases h
 |cons v r ih=>
  intro pre mid suf h
  cases mid with
  |nil=>cases h
  |cons m ms=>
   simp only[List.length_cons,Nat.add_right_cancel_iff] at h
   have:=ih (pre++ [v]) ms suf h
   simp only[vV_]
   have e: ((pre++m::ms++suf).toArray.setIfInBounds pre.length v)=(pre++ [v]++ms++suf).toArray:=by
    simp
   rw[e]
   simpa using this
theorem aeu_ (cs:Array Value) (vs:List Value) (h:vs.length=cs.size):vV_ cs 0 vs=vs.toArray:=by
 have:=QC_ vs [] cs.toList [] (by simpa using h.symm)
 simpa using this
theorem wB_ (n:Nat) (a:Bool) (cs old:Array Value) (E:TypeId) (h:cs.size=n∧old.size=n) (ho:cs.toList.all Value.oneCell'=true):
  zn_ (some (a,n)) (some (.cells old E (0,0))) 0 (.agg cs)=some (.cells cs E (0,0)):=by
 obtain⟨h1,h2⟩:=h
 have hp:vV_ old 0 cs.toList=cs:=by
  rw[aeu_ _ _ (by rw[Array.length_toList,h1,h2])]
 have hz: (0:Nat)+n≤old.size:=by omega
 simp only[zn_,za_,h1,hz,Nat.le_refl,true_or,ho,and_self, ↓reduceIte,hp]
theorem agD_ (n:Nat) (a:Bool) (l:List UInt8) (old:Array Value) (E:TypeId) (h:l.length=n∧old.size=n):
  zn_ (some (a,n)) (some (.cells old E (0,0))) 0 (.agg (a8 l))=some (.cells (a8 l) E (0,0)):=wB_ n a _ _ E (by rw[x5_];exact h) (apM_ l)
theorem acl_ (n:Nat) (a:Bool) (l:List UInt32) (old:Array Value) (E:TypeId) (h:l.length=n∧old.size=n):
  zn_ (some (a,n)) (some (.cells old E (0,0))) 0 (.agg (a32 l))=some (.cells (a32 l) E (0,0)):=wB_ n a _ _ E (by rw[wQ_];exact h) (ahV_ l)
theorem xI_ (a:Bool) (v:Value) (cs:Array Value) (E:TypeId) (i:Nat) (h:i<cs.size) (hv:v.cells= #[v]) (ho:v.oneCell'=true):
  zn_ (some (a,1)) (some (.cells cs E (0,0))) i v=some (.cells (cs.setIfInBounds i v) E (0,0)):=by
 have h1:i+1≤cs.size:=h
 simp only[zn_,hv,List.size_toArray,List.length_cons,List.length_nil,h1,Nat.le_refl,true_or,List.all_cons,ho,List.all_nil,Bool.and_self,and_self, ↓reduceIte,vV_,Nat.zero_add]
theorem apJ_ (l:List UInt8) (i:Nat) (x:UInt8): (a8 l).setIfInBounds i (v8 x)=a8 (l.set i x):=by
 simp[a8,v8,List.map_set]
theorem anC_ (l:List UInt32) (i:Nat) (x:UInt32): (a32 l).setIfInBounds i (v32 x)=a32 (l.set i x):=by
 simp[a32,v32,List.map_set]
theorem akG_ (a:Bool) (l:List UInt8) (E:TypeId) (i:Nat) (x:UInt8) (h:i<l.length):zn_ (some (a,1)) (some (.cells (a8 l) E (0,0))) i (v8 x)=some (.cells (a8 (l.set i x)) E (0,0)):=by
 rw[xI_ a _ _ E i (by rw[x5_];exact h) rfl rfl,apJ_]
theorem ahN_ (a:Bool) (l:List UInt32) (E:TypeId) (i:Nat) (x:UInt32) (h:i<l.length):zn_ (some (a,1)) (some (.cells (a32 l) E (0,0))) i (v32 x)=some (.cells (a32 (l.set i x)) E (0,0)):=by
 rw[xI_ a _ _ E i (by rw[wQ_];exact h) rfl rfl,anC_]
def upd (L:zb_) (b:Nat) (o:Option Obj):Option zb_:=match o with|some o=>some (setB L b o) |none=>none
theorem w3_ (L:zb_) (b:Nat) (o:Obj):upd L b (some o)=some (setB L b o):=(rfl)
theorem vn_ (m:Option (Bool×Nat)) (L:zb_) (b o:Nat) (v:Value):j9_ m L (vp b o) v=upd L b (zn_ m (look L b) o v):=(rfl)
theorem akL_ (n:Nat) (l:List UInt8) (i:Int) (h:0≤i∧i<n) (hl:l.length=n):v3_ (.arr n (false,1)) (.agg (a8 l)) (some i)=some (v8 (l.getD i.toNat 0)):=by
 have:i.toNat<l.length:=by omega
 simp[v3_,h,partV,a8,v8,this]
theorem ajT_ (n:Nat) (l:List UInt32) (i:Int) (h:0≤i∧i<n) (hl:l.length=n):v3_ (.arr n (false,1)) (.agg (a32 l)) (some i)=some (v32 (l.getD i.toNat 0)):=by
 have:i.toNat<l.length:=by omega
 simp[v3_,h,partV,a32,v32,this]
theorem ai3_ (vs:Array Value) (i:Nat):Z6_ (.tuple vs) i=vs[i]? :=(rfl)
theorem ape_ (a b:Value):aia_ (.bool true) a b=some a:=(rfl)
theorem apf_ (a b:Value):aia_ (.bool false) a b=some b:=(rfl)
theorem K9_ (g n:Nat): ((g:Int)+no_index (@OfNat.ofNat Int n _)).toNat=g+ @OfNat.ofNat Nat n _:=by
 show((g:Int)+ (n:Int)).toNat=g+n
 omega
theorem KO_ (g n:Nat): (no_index (@OfNat.ofNat Int n _)* (g:Int)).toNat= @OfNat.ofNat Nat n _*g:=by
 show((n:Int)* (g:Int)).toNat=n*g
 rw[←Int.natCast_mul,Int.toNat_natCast]
theorem Zi_ (g n m:Nat): (no_index (@OfNat.ofNat Int n _)* (g:Int)+no_index (@OfNat.ofNat Int m _)).toNat= @OfNat.ofNat Nat n _*g+ @OfNat.ofNat Nat m _:=by
 show((n:Int)* (g:Int)+ (m:Int)).toNat=n*g+m
 rw[←Int.natCast_mul,←Int.natCast_add,Int.toNat_natCast]
theorem ae6_ (g n:Nat): ((g:Int) - no_index (@OfNat.ofNat Int n _)).toNat=g - @OfNat.ofNat Nat n _:=by
 show((g:Int) - (n:Int)).toNat=g - n
 omega
theorem Vs_ (g n:Nat): (no_index (@OfNat.ofNat Int n _) - (g:Int)).toNat= @OfNat.ofNat Nat n _ - g:=by
 show((n:Int) - (g:Int)).toNat=n - g
 omega
theorem VT_ (g n:Nat): ((g:Int) / no_index (@OfNat.ofNat Int n _)).toNat=g / @OfNat.ofNat Nat n _:=by
 show((g:Int) / (n:Int)).toNat=g / n
 rw[←Int.natCast_ediv,Int.toNat_natCast]
theorem KQ_ (g n:Nat): ((g:Int)%no_index (@OfNat.ofNat Int n _)).toNat=g% @OfNat.ofNat Nat n _:=by
 show((g:Int)% (n:Int)).toNat=g%n
 rw[←Int.natCast_emod,Int.toNat_natCast]
theorem Xl_ (g n:Nat): ((g:Int)+ (n:Int)).toNat=g+n:=by omega
theorem KM_ (g n m:Nat): ((g:Int) / no_index (@OfNat.ofNat Int n _)+no_index (@OfNat.ofNat Int m _)).toNat=g / @OfNat.ofNat Nat n _+ @OfNat.ofNat Nat m _:=by
 show((g:Int) / (n:Int)+ (m:Int)).toNat=g / n+m
 rw[←Int.natCast_ediv,←Int.natCast_add,Int.toNat_natCast]
theorem Vt_ (g n m:Nat): ((g:Int)%no_index (@OfNat.ofNat Int n _)+no_index (@OfNat.ofNat Int m _)).toNat=g% @OfNat.ofNat Nat n _+ @OfNat.ofNat Nat m _:=by
 show((g:Int)% (n:Int)+ (m:Int)).toNat=g%n+m
 rw[←Int.natCast_emod,←Int.natCast_add,Int.toNat_natCast]
theorem alY_ (a:Int) (c:UInt64) (h:c.toNat<63∧0≤a∧a*2^c.toNat≤9223372036854775807):zj_ .shl (vi a) (v64 c)=some (vi (a*2^c.toNat)):=ahx_ a _ _ h
theorem alO_ (a:Int) (c:UInt64) (h:c.toNat<64∧0≤a):zj_ .shr (vi a) (v64 c)=some (vi (a / 2^c.toNat)):=an6_ a _ _ h
theorem or_i (a b:Int) (h:0≤a∧0≤b∧a≤9223372036854775807∧b≤9223372036854775807):zj_ .or (vi a) (vi b)=some (vi ((a.toNat|||b.toNat:Nat):Int)):=by
 obtain⟨h1,h2,h3,h4⟩:=h
 obtain⟨n,rfl⟩:=Int.eq_ofNat_of_zero_le h1
 obtain⟨m,rfl⟩:=Int.eq_ofNat_of_zero_le h2
 have hn:n<2^63:=by omega
 have hm:m<2^63:=by omega
 have hlt:=Nat.or_lt_two_pow hn hm
 simp only[zj_,vi,jn_,Z1_, ↓reduceIte,Option.map_some,Int.toNat_natCast]
 have e: (BitVec.ofInt (IntKind.bits .i64) (n:Int) |||BitVec.ofInt (IntKind.bits .i64) (m:Int)).toNat=n|||m:=by
  show(BitVec.ofInt 64 (n:Int) |||BitVec.ofInt 64 (m:Int)).toNat=_
  rw[BitVec.toNat_or,BitVec.ofInt_natCast,BitVec.ofInt_natCast,BitVec.toNat_ofNat,BitVec.toNat_ofNat,Nat.mod_eq_of_lt (by omega),Nat.mod_eq_of_lt (by omega)]
 rw[e,jB_ _ ⟨by omega,by omega⟩]
theorem ari_ (a b:Int) (h:0≤a∧0≤b∧a≤9223372036854775807∧b≤9223372036854775807):zj_ .and (vi a) (vi b)=some (vi ((a.toNat&&&b.toNat:Nat):Int)):=by
 obtain⟨h1,h2,h3,h4⟩:=h
 obtain⟨n,rfl⟩:=Int.eq_ofNat_of_zero_le h1
 obtain⟨m,rfl⟩:=Int.eq_ofNat_of_zero_le h2
 have hlt:n&&&m≤n:=Nat.and_le_left
 simp only[zj_,vi,jn_,Z1_, ↓reduceIte,Option.map_some,Int.toNat_natCast]
 have e: (BitVec.ofInt (IntKind.bits .i64) (n:Int)&&&BitVec.ofInt (IntKind.bits .i64) (m:Int)).toNat=n&&&m:=by
  show(BitVec.ofInt 64 (n:Int)&&&BitVec.ofInt 64 (m:Int)).toNat=_
  rw[BitVec.toNat_and,BitVec.ofInt_natCast,BitVec.ofInt_natCast,BitVec.toNat_ofNat,BitVec.toNat_ofNat,Nat.mod_eq_of_lt (by omega),Nat.mod_eq_of_lt (by omega)]
 rw[e,jB_ _ ⟨by omega,by omega⟩]
theorem afI_ (P:Program) (op:BinOp) (t:TypeId) (x:UInt8) (y:UInt8):qL_ P op t (v8 x) (v8 y)=zj_ op (v8 x) (v8 y):=(rfl)
theorem acJ_ (P:Program) (op:BinOp) (t:TypeId) (x:UInt8) (y:UInt16):qL_ P op t (v8 x) (v16 y)=zj_ op (v8 x) (v16 y):=(rfl)
theorem ab1_ (P:Program) (op:BinOp) (t:TypeId) (x:UInt8) (y:UInt32):qL_ P op t (v8 x) (v32 y)=zj_ op (v8 x) (v32 y):=(rfl)
theorem adJ_ (P:Program) (op:BinOp) (t:TypeId) (x:UInt8) (y:UInt64):qL_ P op t (v8 x) (v64 y)=zj_ op (v8 x) (v64 y):=(rfl)
theorem agk_ (P:Program) (op:BinOp) (t:TypeId) (x:UInt8) (y:Int):qL_ P op t (v8 x) (vi y)=zj_ op (v8 x) (vi y):=(rfl)
theorem abq_ (P:Program) (op:BinOp) (t:TypeId) (x:UInt16) (y:UInt8):qL_ P op t (v16 x) (v8 y)=zj_ op (v16 x) (v8 y):=(rfl)
theorem aaq_ (P:Program) (op:BinOp) (t:TypeId) (x:UInt16) (y:UInt16):qL_ P op t (v16 x) (v16 y)=zj_ op (v16 x) (v16 y):=(rfl)
theorem aav_ (P:Program) (op:BinOp) (t:TypeId) (x:UInt16) (y:UInt32):qL_ P op t (v16 x) (v32 y)=zj_ op (v16 x) (v32 y):=(rfl)
theorem aai_ (P:Program) (op:BinOp) (t:TypeId) (x:UInt16) (y:UInt64):qL_ P op t (v16 x) (v64 y)=zj_ op (v16 x) (v64 y):=(rfl)
theorem adM_ (P:Program) (op:BinOp) (t:TypeId) (x:UInt16) (y:Int):qL_ P op t (v16 x) (vi y)=zj_ op (v16 x) (vi y):=(rfl)
theorem acR_ (P:Program) (op:BinOp) (t:TypeId) (x:UInt32) (y:UInt8):qL_ P op t (v32 x) (v8 y)=zj_ op (v32 x) (v8 y):=(rfl)
theorem WQ_ (P:Program) (op:BinOp) (t:TypeId) (x:UInt32) (y:UInt16):qL_ P op t (v32 x) (v16 y)=zj_ op (v32 x) (v16 y):=(rfl)
theorem aac_ (P:Program) (op:BinOp) (t:TypeId) (x:UInt32) (y:UInt32):qL_ P op t (v32 x) (v32 y)=zj_ op (v32 x) (v32 y):=(rfl)
theorem WH_ (P:Program) (op:BinOp) (t:TypeId) (x:UInt32) (y:UInt64):qL_ P op t (v32 x) (v64 y)=zj_ op (v32 x) (v64 y):=(rfl)
theorem adA_ (P:Program) (op:BinOp) (t:TypeId) (x:UInt32) (y:Int):qL_ P op t (v32 x) (vi y)=zj_ op (v32 x) (vi y):=(rfl)
theorem abj_ (P:Program) (op:BinOp) (t:TypeId) (x:UInt64) (y:UInt8):qL_ P op t (v64 x) (v8 y)=zj_ op (v64 x) (v8 y):=(rfl)
theorem aaa_ (P:Program) (op:BinOp) (t:TypeId) (x:UInt64) (y:UInt16):qL_ P op t (v64 x) (v16 y)=zj_ op (v64 x) (v16 y):=(rfl)
theorem W6_ (P:Program) (op:BinOp) (t:TypeId) (x:UInt64) (y:UInt32):qL_ P op t (v64 x) (v32 y)=zj_ op (v64 x) (v32 y):=(rfl)
theorem WV_ (P:Program) (op:BinOp) (t:TypeId) (x:UInt64) (y:UInt64):qL_ P op t (v64 x) (v64 y)=zj_ op (v64 x) (v64 y):=(rfl)
theorem ac6_ (P:Program) (op:BinOp) (t:TypeId) (x:UInt64) (y:Int):qL_ P op t (v64 x) (vi y)=zj_ op (v64 x) (vi y):=(rfl)
theorem afL_ (P:Program) (op:BinOp) (t:TypeId) (x:Int) (y:UInt8):qL_ P op t (vi x) (v8 y)=zj_ op (vi x) (v8 y):=(rfl)
theorem abO_ (P:Program) (op:BinOp) (t:TypeId) (x:Int) (y:UInt16):qL_ P op t (vi x) (v16 y)=zj_ op (vi x) (v16 y):=(rfl)
theorem acj_ (P:Program) (op:BinOp) (t:TypeId) (x:Int) (y:UInt32):qL_ P op t (vi x) (v32 y)=zj_ op (vi x) (v32 y):=(rfl)
theorem acI_ (P:Program) (op:BinOp) (t:TypeId) (x:Int) (y:UInt64):qL_ P op t (vi x) (v64 y)=zj_ op (vi x) (v64 y):=(rfl)
theorem afB_ (P:Program) (op:BinOp) (t:TypeId) (x:Int) (y:Int):qL_ P op t (vi x) (vi y)=zj_ op (vi x) (vi y):=(rfl)
theorem apr_ (x:UInt8):ixI (v8 x)=some (x.toNat:Int):=(rfl)
theorem apG_ (x:UInt8):Value.oneCell' (v8 x)=true:=(rfl)
theorem alD_ (x:UInt8): (v8 x).cells= #[v8 x]:=(rfl)
theorem aom_ (x:UInt16):ixI (v16 x)=some (x.toNat:Int):=(rfl)
theorem aov_ (x:UInt16):Value.oneCell' (v16 x)=true:=(rfl)
theorem aki_ (x:UInt16): (v16 x).cells= #[v16 x]:=(rfl)
theorem aop_ (x:UInt32):ixI (v32 x)=some (x.toNat:Int):=(rfl)
theorem aoD_ (x:UInt32):Value.oneCell' (v32 x)=true:=(rfl)
theorem aj2_ (x:UInt32): (v32 x).cells= #[v32 x]:=(rfl)
theorem anz_ (x:UInt64):ixI (v64 x)=some (x.toNat:Int):=(rfl)
theorem aoF_ (x:UInt64):Value.oneCell' (v64 x)=true:=(rfl)
theorem ajF_ (x:UInt64): (v64 x).cells= #[v64 x]:=(rfl)
theorem apn_ (x:Int):ixI (vi x)=some x:=(rfl)
theorem apO_ (x:Int):Value.oneCell' (vi x)=true:=(rfl)
theorem ak5_ (x:Int): (vi x).cells= #[vi x]:=(rfl)
end Go.Sx
end
namespace Go.Sx
open Go
section
variable {P:Program} {w0:World} {f:Fr} {L:zb_} {N:Fr→zb_→Prop} {ops:Array Oper} {rest:List Oper} {md:Md}
 {d:Option Tmp} {ty:TypeId} {ps:String} {af:Array Edge} {g:Option (Nat×Bool)}
theorem Ow.callM {l:List Operand} {ts:Array TypeId} {k:FuncId} {b:Nat} {v:Value} {o:Obj} {md':Md} (he:md.turn=some md')
  (hs:zg_ ops f ⟨d, .call ⟨.value (.func k),l.toArray,ts⟩,ty,ps,af,g⟩=false)
  (hk: ∀a w,(callFunc k a).run P w= .ok (.enter k a) w) (hb:b∈keys L)
  (hc: ∀w,Hp w0 L w→Rets P k (l.map (ev f)).toArray w (fun v' D=> ∃o',D= [(b,o')]∧v'=v∧o'=o))
  (hn:Ow P w0 ops md' rest (qd_ f d v) (setB L b o) N):
  Ow P w0 ops md (⟨d, .call ⟨.value (.func k),l.toArray,ts⟩,ty,ps,af,g⟩::rest) f L N:=
 Ow.callF (S:=fun _ v' D=> ∃o',D= [(b,o')]∧v'=v∧o'=o) he hs hk hc (by
  rintro _ _ _ - - ⟨_,rfl,rfl,rfl⟩
  exact⟨_,Mrg.set hb,hn⟩)
end
def xh_ (P:Program) (t:TypeId) (len:Nat) (parts:List (Nat×Value)):Option (TypeId×Array Value):=
 match P.underlying t with
 |some (.slice e)=>match qc_ P e with
  |some m=>if len*m.2>2^24 then none else
   match(if len*m.2=0 then some #[] else(zI_ P e).map Value.cells) with
   |some zero=>(Instr.fill (fun i=>some (i*m.2,m.2)) ((Array.range (len*m.2)).map (zero[· %zero.size]!)) parts).map fun c=>(e,c)
   |none=>none
  |none=>none
 |_=>none
theorem J9_ {P:Program} {t e:TypeId} {len:Nat} {parts:Array (Nat×Value)} {cells:Array Value} (h:xh_ P t len parts.toList=some (e,cells)) (w:World):
  (Instr.buildSlice t len parts).run P w= .ok (vsl w.heap.size 0 len len) (w.alloc (.cells cells e)):=by
 unfold xh_ at h
 split at h
 ·rename_i el hu
  split at h
  ·rename_i m hm
   split at h
   ·cases h
   ·rename_i hbig
    split at h
    ·rename_i zero hz
     cases hf:Instr.fill (fun i=>some (i*m.2,m.2)) ((Array.range (len*m.2)).map (zero[· %zero.size]!)) parts.toList with
     |none=>rw[hf] at h;cases h
     |some c=>
      rw[hf] at h
      cases h
      simp only[Instr.buildSlice,Sem.run_bind,run_underlying hu w,Result.andThen_ok,zv_ hm w,hbig,if_false]
      split at hz
      ·rename_i h0
       cases hz
       have e1: ∀ (k:Array Value→World→Result Value),(Sem.run P (pure (#[]:Array Value)) w).andThen k=k #[] w:=fun _=>rfl
       simp only[h0,if_true] at hf ⊢
       rw[Sem.run_bind,e1]
       simp only[hf,Sem.run_bind]
       rfl
      ·rename_i h0
       cases hzv:zI_ P e with
       |none=>rw[hzv] at hz;cases hz
       |some z=>
        rw[hzv] at hz
        cases hz
        simp only[h0,if_false,Sem.run_bind,jf_ hzv w,Result.andThen_ok,Sem.run_pure,hf]
        rfl
    ·cases h
  ·cases h
 ·cases h
section
variable {P:Program} {w0:World} {f:Fr} {L:zb_} {N:Fr→zb_→Prop} {ops:Array Oper} {rest:List Oper} {md:Md}
 {d:Option Tmp} {ty:TypeId} {ps:String} {af:Array Edge} {g:Option (Nat×Bool)}
theorem Ow.buildSlice {t e:TypeId} {len:Nat} {parts:Array (Nat×Operand)} (cells:Array Value) {md':Md} (he:md.turn=some md') (hs:zg_ ops f ⟨d, .buildSlice t len parts,ty,ps,af,g⟩=false)
  (hv:xh_ P t len (parts.toList.map fun p=>(p.1,ev f p.2))=some (e,cells))
  (hn: ∀b,jM_ L b→w0.heap.size≤b→Ow P w0 ops md' rest (qd_ f d (vsl b 0 len len)) (L++ [(b, .cells cells e)]) N):
  Ow P w0 ops md (⟨d, .buildSlice t len parts,ty,ps,af,g⟩::rest) f L N:=by
 refine Ow.step he rfl hs fun w hw=> .inl ⟨vsl w.heap.size 0 len len,w.alloc (.cells cells e),_, ?_,hw.alloc _,hn _ (z2_ fun b hb=>hw.lt hb) hw.size⟩
 have h':xh_ P t len (parts.map fun(i,x)=>(i,ev f x)).toList=some (e,cells):=by
  rw[Array.toList_map];exact hv
 simp only[execOp,Sem.run_bind,J9_ h' w,Result.andThen_ok]
 rfl
end
theorem acL_ {f:Nat→Option Bool} {g:Nat→Bool} (is:List Nat) (h: ∀i,i∈is→f i=some (g i)):wK_ f is=some (is.all g):=by
 induction is with
 |nil=>rfl
 |cons i r ih=>
  unfold wK_
  rw[h i List.mem_cons_self,List.all_cons]
  cases g i
  ·rfl
  ·simpa using ih fun j hj=>h j (List.mem_cons_of_mem _ hj)
theorem abH_ (l l':List UInt8) (n:Nat) (h:l.length=n) (h':l'.length=n): ((List.range n).all fun i=>l.getD i 0==l'.getD i 0)=(l==l'):=by
 rw[Bool.eq_iff_iff,List.all_eq_true,beq_iff_eq]
 constructor
 ·intro ha
  apply List.ext_getElem (by omega)
  intro i h1 h2
  have:=ha i (List.mem_range.2 (by omega))
  rw[beq_iff_eq,List.getD_eq_getElem?_getD,List.getD_eq_getElem?_getD,List.getElem?_eq_getElem h1,List.getElem?_eq_getElem h2] at this
  exact this
 ·rintro rfl i _
  simp
theorem ah1_ {P:Program} {t e:TypeId} {n d:Nat} (hu:P.underlying t=some (.array n e)) (he:P.underlying e=some (.int .u8)) (hm:qc_ P e=some (false,1)) (l l':List UInt8) (hl:l.length=n) (hl':l'.length=n):
  eqD P (d+2) t (.agg (a8 l)) (.agg (a8 l'))=some (l==l'):=by
 rw[←abH_ l l' n hl hl']
 unfold eqD
 rw[hu]
 simp only[hm]
 apply acL_
 intro i hi
 have hi:=List.mem_range.1 hi
 have p: ∀ (x:List UInt8),x.length=n→partV (false,1) (a8 x) (i*1)=some (v8 (x.getD i 0)):=by
  intro x hx
  simp[partV,a8,v8,hx,hi]
 simp only[k8_,p l hl,p l' hl']
 unfold eqD
 rw[he]
 simp only[v8, ↓reduceIte,Option.some.injEq]
 rw[Bool.eq_iff_iff,beq_iff_eq,beq_iff_eq,←UInt8.toNat_inj]
 omega
theorem anH_ {P:Program} {t e:TypeId} {n:Nat} (hu:P.underlying t=some (.array n e)) (he:P.underlying e=some (.int .u8)) (hm:qc_ P e=some (false,1)) (hg:P.eqGuardType P.depth t=false) (l l':List UInt8) (hl:l.length=n∧l'.length=n):
  qL_ P .eql t (.agg (a8 l)) (.agg (a8 l'))=some (.bool (l==l')):=by
 unfold qL_ eqX
 rw[hg]
 simp[qZ_,ah1_ (d:=6) hu he hm l l' hl.1 hl.2]
theorem akx_ {P:Program} {t e:TypeId} {n:Nat} (hu:P.underlying t=some (.array n e)) (he:P.underlying e=some (.int .u8)) (hm:qc_ P e=some (false,1)) (hg:P.eqGuardType P.depth t=false) (l l':List UInt8) (hl:l.length=n∧l'.length=n):
  qL_ P .neq t (.agg (a8 l)) (.agg (a8 l'))=some (.bool (!(l==l'))):=by
 unfold qL_ eqX
 rw[hg]
 simp[qZ_,ah1_ (d:=6) hu he hm l l' hl.1 hl.2]
theorem tup2_0 (a b:Value): (#[a,b]:Array Value)[0]? =some a:=(rfl)
theorem tup2_1 (a b:Value): (#[a,b]:Array Value)[1]? =some b:=(rfl)
theorem tup3_0 (a b c:Value): (#[a,b,c]:Array Value)[0]? =some a:=(rfl)
theorem tup3_1 (a b c:Value): (#[a,b,c]:Array Value)[1]? =some b:=(rfl)
theorem tup3_2 (a b c:Value): (#[a,b,c]:Array Value)[2]? =some c:=(rfl)
structure StrS (w:World) (v:Value) (l:List (List UInt8)) (b off:Nat) (arr:Array Value) (E:TypeId) (fz:Nat×Nat):Prop where
 len: ∀m,wt_ (.sl m) v=some (vi l.length)
 idx: ∀m (k:Nat),k<l.length→z3_ (.sl m) v (some (k:Int))=some (vp b (off+k*m.2))
 has:0<l.length→w.heap[b]? =some (.cells arr E fz)
 get: ∀k,k<l.length→arr[off+k]? =some (vs (l.getD k []))
theorem StrS.sl {w:World} {l:List (List UInt8)} {b off n c:Nat} {arr:Array Value} {E:TypeId} {fz:Nat×Nat} (hn:n=l.length)
  (has:w.heap[b]? =some (.cells arr E fz)) (get: ∀k,k<l.length→arr[off+k]? =some (vs (l.getD k []))):StrS w (vsl b off n c) l b off arr E fz:=by
 subst hn
 exact⟨fun _=>rfl,fun m k h=>by rw[qz_ _ _ _ _ _ _ (by omega)];simp,fun _=>has,get⟩
theorem StrS.none (w:World) (n c:Nat) (hn:n=0):StrS w (.slice none n c) [] 0 0 #[] 0 (0,0):=by
 subst hn
 exact⟨fun _=>rfl,fun _ _ h=>absurd h (Nat.not_lt_zero _),fun h=>absurd h (Nat.not_lt_zero _),fun _ h=>absurd h (Nat.not_lt_zero _)⟩
theorem StrS.old {w w':World} {v:Value} {l:List (List UInt8)} {b off:Nat} {arr:Array Value} {E:TypeId} {fz:Nat×Nat} {L:zb_} (h:StrS w v l b off arr E fz) (hw:Hp w L w') (hb:0<l.length→b∉keys L):StrS w' v l b off arr E fz:=by
 refine⟨h.len,h.idx,fun h0=> ?_,h.get⟩
 rw[hw.old b (Array.getElem?_eq_some_iff.1 (h.has h0)).1 (hb h0)]
 exact h.has h0
theorem loadV_one (cs:Array Value) (E:TypeId) (fz:Nat×Nat) (n i:Nat):zl_ (some (false,n)) (some (.cells cs E fz)) i=cs[i]? :=(rfl)
end Go.Sx
namespace Go.Sx
open Go
def OwK (P:Program) (w0:World) (ops:Array Oper) (n:Nat) (listed:List Bool) (f:Fr) (L:zb_) (N:Fr→zb_→Prop):Prop:=
 ∀w,Hp w0 L w→wpAny P .any ops (jz_ w0 N) n listed.toArray (act f) w
section
variable {P:Program} {w0:World} {f:Fr} {L:zb_} {N:Fr→zb_→Prop} {K:xp_} {l:List Oper} {n:Nat} {listed:List Bool}
theorem Cw.regionK {id:Nat} (m:Nat) (hl:l.length=m) (hm:P.follows .mixedOrders=true) (h:OwK P w0 l.toArray m (List.replicate m false) f L (K .normal)):Cw P w0 (.region id l.toArray true) f L K:=fun w hw=>by
 subst hl
 refine wp_mono (wp_region_any hm ?_) fun _ _ _ h=>j8_ h
 have:=h _ hw.drew
 simpa using this
theorem OwK.done {ops:Array Oper} (hr:Region.ready .any ops listed.toArray= []) (h:N f L):OwK P w0 ops n listed f L N:=
 fun w hw=>wpAny_done hr ⟨rfl,rfl,L,hw,by simpa [act] using h⟩ n
theorem vf_ {o:Oper} {a:Act} {next next':Act→World→Prop} {Q Q':Exit→Act→World→Prop} (hn: ∀a w,next a w→next' a w) (hQ: ∀e a w,e≠ .normal→Q e a w→False) {r:Result Next}
  (h:o.upon P a next Q r):o.upon P a next' Q' r:=by
 cases r with
 |ok x w'=>
  cases x<;>simp only[Oper.upon] at h ⊢ <;>
   first
    |exact hn _ _ h
    |exact Calls.mono h (fun e w'' he=>by
      cases e<;>first|exact hn _ _ he|exact(hQ _ _ _ (by simp) he).elim| (obtain⟨a,w,h⟩:=he;exact(hQ _ _ _ (by simp) h).elim))
    |exact Rows.mono h (fun _ _ he=>hn _ _ he)
    |exact h.elim
 |halt x w'=>
  cases x<;>simp only[Oper.upon] at h ⊢ <;>first|exact(hQ _ _ _ (by simp) h).elim|exact h.elim
theorem Z7_ {N:Fr→zb_→Prop} {e:Exit} {a:Act} {w:World} (he:e≠ .normal) (h:jz_ w0 N e a w):False:=he h.1
theorem wi_ {ops:Array Oper} {k:Nat} {o:Oper} (hk:ops[k]? =some o) {X:Act→World→Prop}
  (h:Ow P w0 ops .seq [o] f L (fun f' L'=> ∀w,Hp w0 L' w→X (act f') w)) {w:World} (hw:Hp w0 L w):wpOp P ops (jz_ w0 N) k X (act f) w:=by
 have h1:=h w hw
 unfold wpList at h1
 unfold wpOp
 simp only[hk]
 have hX: ∀a w,wpList P ops (jz_ w0 fun f' L'=> ∀w,Hp w0 L' w→X (act f') w) [] a w→X a w:=by
  intro a w' hx
  obtain⟨-,hd,L',hp,hh⟩:=(show jz_ w0 _ _ a w' from hx)
  have:=hh w' hp
  obtain⟨t,d⟩:=a
  simp only at hd
  subst hd
  simpa [act] using this
 cases hwn:Region.wanted o (yielded ops (act f).tmps) with
 |true=>
  rw[hwn] at h1
  simp only[↓reduceIte] at h1 ⊢
  rcases h1 with h1| ⟨-,a,w',h1⟩
  ·exact .inl (vf_ hX (fun e a w he h=>Z7_ he h) h1)
  ·exact(Z7_ (by simp) h1).elim
 |false=>
  rw[hwn] at h1
  simp only[Bool.false_eq_true, ↓reduceIte] at h1 ⊢
  exact hX _ _ h1
theorem xT_ {ops:Array Oper} {o:Oper} {N N':Fr→zb_→Prop} (hN: ∀f L,N f L→N' f L) {w:World} {a:Act} (h:wpList P ops (jz_ w0 N) [o] a w):wpList P ops (jz_ w0 N') [o] a w:=by
 have hm: ∀a w,jz_ w0 N .normal a w→jz_ w0 N' .normal a w:=fun a w ⟨h1,h2,L',h3,h4⟩=>⟨h1,h2,L',h3,hN _ _ h4⟩
 unfold wpList at h ⊢
 cases hwn:Region.wanted o (yielded ops a.tmps) with
 |true=>
  rw[hwn] at h
  simp only[↓reduceIte] at h ⊢
  rcases h with h| ⟨-,a,w',h1⟩
  ·exact .inl (vf_ (fun a w h=>hm a w h) (fun e a w he h=>Z7_ he h) h)
  ·exact(Z7_ (by simp) h1).elim
 |false=>
  rw[hwn] at h
  simp only[Bool.false_eq_true, ↓reduceIte] at h ⊢
  exact hm _ _ h
theorem qm_ (l:List Bool) (i:Nat):l.toArray.setIfInBounds i true=(l.set i true).toArray:=by simp
theorem OwK.one (k:Nat) (o:Oper) (hr:Region.ready .any l.toArray listed.toArray= [k]) (hk:ki_ l k=some o)
  (h:Ow P w0 l.toArray .seq [o] f L (fun f' L'=>OwK P w0 l.toArray n (listed.set k true) f' L' N)):OwK P w0 l.toArray (n+1) listed f L N:=by
 intro w hw
 refine wpAny_all hr (by simp) ?_
 intro i hi
 simp only[List.mem_singleton] at hi
 subst hi
 rw[qm_]
 exact wi_ (by rw[j3_] at hk;simpa using hk) h hw
theorem OwK.two (i j:Nat) (oi oj:Oper) (hr:Region.ready .any l.toArray listed.toArray= [i,j]) (hi:ki_ l i=some oi) (hj:ki_ l j=some oj)
  (h1:Ow P w0 l.toArray .seq [oi] f L (fun f' L'=>OwK P w0 l.toArray n (listed.set i true) f' L' N))
  (h2:Ow P w0 l.toArray .seq [oj] f L (fun f' L'=>OwK P w0 l.toArray n (listed.set j true) f' L' N)):OwK P w0 l.toArray (n+1) listed f L N:=by
 intro w hw
 refine wpAny_all hr (by simp) ?_
 intro k hk
 rw[qm_]
 simp only[List.mem_cons,List.not_mem_nil,or_false] at hk
 rcases hk with rfl|rfl
 ·exact wi_ (by rw[j3_] at hi;simpa using hi) h1 hw
 ·exact wi_ (by rw[j3_] at hj;simpa using hj) h2 hw
def chkK (P:Program) (l:List Oper):List Nat→List Bool→Option (List Bool)
 | [],listed=>some listed
 |k::is,listed=>
  match ki_ l k with
  |some o=>if(Region.ready .any l.toArray listed.toArray).contains k&&Region.free .any l.toArray listed.toArray k&&jO_ P o.op then chkK P l is (listed.set k true) else none
  |none=>none
theorem OwK.runs {k:Md→List Oper→Fr→zb_→Prop} (hns:Region.noSelect l.toArray=true): ∀ (is:List Nat) {listed listed':List Bool} {f:Fr} {L:zb_},chkK P l is listed=some listed'→
  (∀md r f' L',k md r f' L'→r= []∧OwK P w0 l.toArray n listed' f' L' N)→vcL P w0 l.toArray false .seq (xf_ l is) f L k→OwK P w0 l.toArray (is.length+n) listed f L N
 | [],listed,listed',f,L,hc,hk,h=>by
  cases hc
  rw[List.length_nil,Nat.zero_add]
  exact(hk _ _ _ _ h).2
 |i::is,listed,listed',f,L,hc,hk,h=>by
  unfold chkK at hc
  rw[vD_] at h
  cases ho:ki_ l i with
  |none=>rw[ho] at hc;cases hc
  |some o=>
   rw[ho] at hc h
   simp only at hc
   split at hc
   ·rename_i hcc
    simp only[Bool.and_eq_true] at hcc
    obtain⟨⟨hc1,hc2⟩,hc3⟩:=hcc
    rw[vF_] at h
    have hoi:l.toArray[i]? =some o:=by rw[j3_] at ho;simpa using ho
    unfold vcL at h
    rw[List.length_cons,show is.length+1+n=(is.length+n)+1 by omega]
    cases hs:zg_ l.toArray f o with
    |true=>
     rw[hs] at h
     have hw0:Region.wanted o (yielded l.toArray (act f).tmps)=false:=by rw[qg_,hs];rfl
     intro w hw
     refine wpAny_take (v:=undef) hoi hns hc2 hc1 (fun c a w h=>zU_ h) (.inr ⟨hw0,rfl⟩) ?_
     rw[z1_,qm_]
     exact OwK.runs hns is hc hk h w hw
    |false=>
     rw[hs] at h
     have hw0:Region.wanted o (yielded l.toArray (act f).tmps)=true:=by rw[qg_,hs];rfl
     simp only[ib,vcB] at h
     split at h
     ·have hrd:Vy_ .seq f o.op=true:=by
       cases o.op<;>rfl
      rw[hrd] at h
      simp only at h
      cases hv:jg_ P w0 L f o.op with
      |none=>rw[hv] at h;exact absurd (hk _ _ _ _ h).1 (by simp)
      |some v=>
       rw[hv] at h
       intro w hw
       refine wpAny_take (v:=v) hoi hns hc2 hc1 (fun c a w h=>zU_ h) (.inl ⟨hw0,fun w=> ?_⟩) ?_
       ·rw[q0_];exact qI_ (Hp.refl w) (xx_ hc3 hv w)
       ·rw[z1_,qm_]
        exact OwK.runs hns is hc hk h w hw
     ·exact absurd (hk _ _ _ _ h).1 (by simp)
     ·exact absurd (hk _ _ _ _ h).1 (by simp)
   ·cases hc
theorem OwK.run (is:List Nat) (listed':List Bool) (n:Nat) {m:Nat} (hm:m=is.length+n) (hns:Region.noSelect l.toArray=true) (hc:chkK P l is listed=some listed')
  (h: ∀k:Md→List Oper→Fr→zb_→Prop,(∀md f L,OwK P w0 l.toArray n listed' f L N→k md [] f L)→nl (xf_ l is) fun l'=>vcL P w0 l.toArray false .seq l' f L k):OwK P w0 l.toArray m listed f L N:=by
 subst hm
 refine OwK.runs (k:=fun _ r f' L'=>r= []∧OwK P w0 l.toArray n listed' f' L' N) hns is hc (fun _ _ _ _ h=>h) ?_
 exact h _ fun _ _ _ h=>⟨rfl,h⟩
theorem Ow.soft {ops:Array Oper} {R is ts:List Nat} {k:Nat} {o:Oper} {rest:List Oper} (hp:jO_ P o.op=false) (hr0:Jm_ o.op=false) (hkt:ts.contains k=false)
  (h:Ow P w0 ops .seq [o] f L (fun f' L'=>(∀b,b∈R→zk_ w0 L' b=zk_ w0 L b)∧Ow P w0 ops (.sof R is ts) rest f' L' N)):Ow P w0 ops (.sof R (k::is) ts) (o::rest) f L N:=by
 intro listed hF ht w hw
 obtain⟨k',is',hki,hk,hF',hpt,hc⟩:=hF.cons
 cases hki
 have hit:k∉ts:=by simpa using hkt
 have hr:Region.ready .any ops listed= [k]:=by
  rcases hc with hc| ⟨_,_,_,hc| ⟨hc,_⟩⟩
  ·exact hc
  ·rw[hp] at hc;cases hc
  ·rw[hr0] at hc;cases hc
 refine⟨fun _=>SR.of hw,(fun h=>by rw[hr] at h;cases h), ?_⟩
 intro i hi
 rw[hr,List.mem_singleton] at hi
 subst hi
 refine wi_ hk (X:=xk_ P ops (jz_ w0 N) ts (SR w0 R L) rest.length (listed.setIfInBounds i true)) ?_ hw
 intro w' hw'
 have h1:=h w' hw'
 refine xT_ ?_ h1
 rintro f' L' ⟨hS,hO⟩ w'' hw''
 have e:SR w0 R L=SR w0 R L':=by
  funext v
  unfold SR
  apply propext
  constructor
  ·intro hh b hb o ho;exact hh b hb o (by rw[←hS b hb];exact ho)
  ·intro hh b hb o ho;exact hh b hb o (by rw[hS b hb];exact ho)
 rw[e]
 exact hO _ hF' (jX_ hit ht) w'' hw''
theorem Ow.softA {ops:Array Oper} {R is ts:List Nat} {k:Nat} {o:Oper} {rest:List Oper}
  (h:Ow P w0 ops .seq [o] f L (fun f' L'=>(∀b,b∈R→zk_ w0 L' b=zk_ w0 L b)∧Ow P w0 ops (.sof R is ts) rest f' L' N)) (hp:jO_ P o.op=false:=by exact rfl) (hr0:Jm_ o.op=false:=by exact rfl) (hkt:ts.contains k=false:=by exact rfl):Ow P w0 ops (.sof R (k::is) ts) (o::rest) f L N:=Ow.soft hp hr0 hkt h
theorem Ow.nilD {ops:Array Oper} {md:Md} {R:List Nat} {M:Fr→zb_→Prop} (h:M f L):Ow P w0 ops md [] f L (fun f' L'=>(∀b,b∈R→zk_ w0 L' b=zk_ w0 L b)∧M f' L'):=Ow.nil ⟨fun _ _=>rfl,h⟩
theorem Cw.regionS {id:Nat} (R is ts:List Nat) (hm:P.follows .mixedOrders=true) (hB:Vu_ P l is ts=true) (hl:is.map (fun i:Nat=>l[i]?)=(xf_ l is).map some)
  (h:nl (xf_ l is) fun l'=>Ow P w0 l.toArray (.sof R is ts) l' f L (K .normal)):Cw P w0 (.region id l.toArray true) f L K:=by
 revert hl h
 generalize xf_ l is=l'
 intro hl h w hw
 simp only[Vu_,Bool.and_eq_true,beq_iff_eq,List.all_eq_true,decide_eq_true_eq] at hB
 obtain⟨⟨⟨h1,h2⟩,h3⟩,h4⟩:=hB
 have hlen:is.length=l'.length:=by have:=congrArg List.length hl;simpa using this
 refine wp_mono (wp_region_any hm ?_) fun _ _ _ h=>j8_ h
 have hF:Fits P l.toArray ts is l' (Array.replicate l.length false):=⟨hlen,fun j=>by
  have:=congrArg (·[j]?) hl
  simp only[List.getElem?_map] at this
  cases hj:is[j]? with
  |none=>
   rw[hj] at this
   simp only[Option.map_none] at this
   cases hj':l'[j]? with
   |none=>rfl
   |some x=>rw[hj'] at this;cases this
  |some i=>
   rw[hj] at this
   simp only[Option.map_some] at this
   cases hj':l'[j]? with
   |none=>rw[hj'] at this;cases this
   |some x=>
    rw[hj'] at this
    simp only[Option.map_some,Option.some.injEq] at this
    simp[this],h1,h4⟩
 have:=(h:Ow P w0 l.toArray (.sof R is ts) l' f L (K .normal)) (Array.replicate l.length false) hF (fun t ht=>by have:=h3 t ht;simp[this]) _ hw.drew
 rw[←hlen,h2] at this
 have:=kh_ _ _ _ _ this
 simpa using this
def amV_ (P:Program) (l:List Oper) (is ts:List Nat) (listed:List Bool):Bool:=
 Region.noSelect l.toArray&&ZM_ P l.toArray ts is listed.toArray&&ts.any fun t=>listed.toArray.getD t true
theorem OwK.rest (is ts:List Nat) {m:Nat} (hm:m=is.length) (hB:amV_ P l is ts listed=true) (hl:is.map (fun i:Nat=>l[i]?)=(xf_ l is).map some)
  (h:nl (xf_ l is) fun l'=>Ow P w0 l.toArray (.any is ts) l' f L N):OwK P w0 l.toArray m listed f L N:=by
 subst hm
 revert hl h
 generalize xf_ l is=l'
 intro hl h w hw
 simp only[amV_,Bool.and_eq_true] at hB
 obtain⟨⟨h1,h4⟩,h5⟩:=hB
 have hlen:is.length=l'.length:=by have:=congrArg List.length hl;simpa using this
 have hF:Fits P l.toArray ts is l' listed.toArray:=⟨hlen,fun j=>by
  have:=congrArg (·[j]?) hl
  simp only[List.getElem?_map] at this
  cases hj:is[j]? with
  |none=>
   rw[hj] at this
   simp only[Option.map_none] at this
   cases hj':l'[j]? with
   |none=>rfl
   |some x=>rw[hj'] at this;cases this
  |some i=>
   rw[hj] at this
   simp only[Option.map_some] at this
   cases hj':l'[j]? with
   |none=>rw[hj'] at this;cases this
   |some x=>
    rw[hj'] at this
    simp only[Option.map_some,Option.some.injEq] at this
    simp[this],h1,h4⟩
 obtain⟨t,ht,ht2⟩:=List.any_eq_true.1 h5
 rw[hlen]
 exact(h:Ow P w0 l.toArray (.any is ts) l' f L N) listed.toArray hF ⟨t,ht,ht2⟩ w hw
end
theorem StrS.lit {w:World} {b n c:Nat} {E:TypeId} {fz:Nat×Nat} {arr:Array Value} (l:List (List UInt8)) (hn:n=l.length) (ha:arr=(l.map vs).toArray) (has:w.heap[b]? =some (.cells arr E fz)):StrS w (vsl b 0 n c) l b 0 arr E fz:=
 StrS.sl hn has (by intro k hk;rw[ha,Nat.zero_add,List.getElem?_toArray,List.getElem?_map,List.getD_eq_getElem?_getD,List.getElem?_eq_getElem hk];rfl)
end Go.Sx
namespace Go.Sx
open Go
def ap7_ (J:Nat→Act→World→Prop) (Q:Exit→Act→World→Prop):Exit→Act→World→Prop
 | .goto l,a,w=>J l a w
 |e,a,w=>Q e a w
theorem aaQ_ {P:Program} {a:Act} {w:World} {Q:Exit→Act→World→Prop} {c:Code} (J:Nat→Nat→Act→World→Prop)
  (first:c.wp P (ap7_ (fun l a w=> ∃n,J n l a w) Q) a w)
  (pass: ∀n l a w,J n l a w→ ∃rest,findLabel c l=some rest∧rest.wp P (ap7_ (fun l' a' w'=> ∃n',n'<n∧J n' l' a' w') Q) a w): (Code.scope c).wp P Q a w:=by
 intro b k cs
 have hg: ∀ {l rest},findLabel c l=some rest→gotoIn l (.inScope c::k)=some (.code rest:: .inScope c::k):=by intro l rest hf;simp[gotoIn,hf]
 have key: ∀n l a w,J n l a w→ ∃rest,findLabel c l=some rest∧ ∃e a' w',Q e a' w'∧Arrives P (lone (b.at a (.code rest:: .inScope c::k)) cs w) b k cs e a' w':=by
  intro n
  induction n using Nat.strongRecOn with
  |_ n ih=>
   intro l a w hJ
   obtain⟨rest,hf,hp⟩:=pass n l a w hJ
   refine⟨rest,hf, ?_⟩
   obtain⟨e,a₁,w₁,hq,harr⟩:=hp b (.inScope c::k) cs
   cases e with
   |normal=>exact⟨.normal,a₁,w₁,hq,Steps.trans harr (.one step_inScope)⟩
   |exit id=>exact⟨.exit id,a₁,w₁,hq,fun k' hk=>harr k' (by simp[exitTo,hk])⟩
   |goto l'=>
    obtain⟨n',hlt,hJ'⟩:=hq
    obtain⟨rest',hf',e₂,a₂,w₂,hq₂,harr₂⟩:=ih n' hlt l' a₁ w₁ hJ'
    exact⟨e₂,a₂,w₂,hq₂, .of_steps (harr _ (hg hf')) harr₂⟩
   |ret=>exact⟨_,a₁,w₁,hq,harr⟩
   |panic ch=>exact⟨_,a₁,w₁,hq,harr⟩
   |outgrown=>exact⟨_,a₁,w₁,hq,harr⟩
 obtain⟨e,a₁,w₁,hq,harr⟩:=first b (.inScope c::k) cs
 cases e with
 |normal=>exact⟨.normal,a₁,w₁,hq, .head step_scope (Steps.trans harr (.one step_inScope))⟩
 |exit id=>exact⟨.exit id,a₁,w₁,hq,fun k' hk=> .head step_scope (harr k' (by simp[exitTo,hk]))⟩
 |goto l'=>
  obtain⟨n,hJ'⟩:=hq
  obtain⟨rest',hf',e₂,a₂,w₂,hq₂,harr₂⟩:=key n l' a₁ w₁ hJ'
  exact⟨e₂,a₂,w₂,hq₂, .of_steps (.head step_scope (harr _ (hg hf'))) harr₂⟩
 |ret=>exact⟨_,a₁,w₁,hq, .of_steps (.one step_scope) harr⟩
 |panic ch=>exact⟨_,a₁,w₁,hq, .of_steps (.one step_scope) harr⟩
 |outgrown=>exact⟨_,a₁,w₁,hq, .of_steps (.one step_scope) harr⟩
def kN_ (A:Nat→Fr→zb_→Prop) (K:xp_):xp_
 | .normal=>K .normal
 | .exit i=>K (.exit i)
 | .goto i=>A i
 | .ret=>K .ret
 | .panic c=>K (.panic c)
 | .outgrown=>K .outgrown
def Jump {G:Type} (lab:G→Nat) (M:List Nat) (S:G→List (Nat×Value)) (H:G→zb_) (J B:G→Prop) (f:Fr) (i:Nat) (f':Fr) (L':zb_):Prop:=
 ∃g',lab g'=i∧B g'∧J g'∧L'=H g'∧f'=pin (qE_ (vW_ f') M 0 f) (S g')
theorem Jump.mk {G:Type} {lab:G→Nat} {M:List Nat} {S:G→List (Nat×Value)} {H:G→zb_} {J B:G→Prop} {f:Fr} {i:Nat} {f':Fr} {L':zb_} (g':G) (hl:lab g'=i)
  (hB:B g') (hJ:J g') (hL:L'=H g') (hf:f'=pin (qE_ (vW_ f') M 0 f) (S g')):Jump lab M S H J B f i f' L':=⟨g',hl,hB,hJ,hL,hf⟩
section
variable {P:Program} {w0:World} {f:Fr} {L:zb_} {K:xp_} {A:Nat→Fr→zb_→Prop}
theorem Cw.scopeG {c:Code} {G:Type} (lab:G→Nat) (M:List Nat) (S:G→List (Nat×Value)) (H:G→zb_) (J:G→Prop) (μ:G→Nat)
  (first:Cw P w0 c f L (kN_ (Jump lab M S H J (fun _=>True) f) K))
  (pass: ∀ (g:G) (j:Nat→Value),J g→ ∃rest,findLabel c (lab g)=some rest∧Cw P w0 rest (pin (qE_ j M 0 f) (S g)) (H g) (kN_ (Jump lab M S H J (fun g'=>μ g'<μ g) f) K)):Cw P w0 (.scope c) f L K:=by
 intro w hw
 refine aaQ_ (fun n l a w=> ∃g j,lab g=l∧μ g=n∧J g∧a=act (pin (qE_ j M 0 f) (S g))∧Hp w0 (H g) w) ?_ ?_
 ·refine wp_mono (first w hw) ?_
  rintro e a w' ⟨hd,L',hp,k⟩
  cases e with
  |goto i=>
   obtain⟨g',h1,-,h2,h3,h4⟩:=k
   subst h3
   refine⟨μ g',g',vW_ a.tmps.toList,h1,rfl,h2, ?_,hp⟩
   rw[←h4]
   exact QL_ hd
  |_=>exact⟨hd,L',hp,k⟩
 ·rintro n l a w' ⟨g,j,h1,h2,h3,rfl,hp⟩
  obtain⟨rest,hf,hc⟩:=pass g j h3
  subst h1
  refine⟨rest,hf, ?_⟩
  refine wp_mono (hc w' hp) ?_
  rintro e a w' ⟨hd,L',hp,k⟩
  cases e with
  |goto i=>
   obtain⟨g',h1,h0,h2',h3,h4⟩:=k
   subst h3
   refine⟨μ g',by omega,g',vW_ a.tmps.toList,h1,rfl,h2', ?_,hp⟩
   rw[←h4]
   exact QL_ hd
  |_=>exact⟨hd,L',hp,k⟩
def ZS_:Code→Nat→Bool
 | .seq a b,l=>ZS_ a l||ZS_ b l
 | .label l',l=>l'==l
 |_,_=>false
def xD_ (P:Program) (w0:World):Code→Nat→xp_→Fr→zb_→Prop
 | .seq a b,l,K=>if ZS_ a l=true then xD_ P w0 a l (k2_ (fun f L=>Cw P w0 b f L K) K) else xD_ P w0 b l K
 | .label _,_,K=>K .normal
 |_,_,_=>fun _ _=>False
theorem QT_: ∀ (c:Code) (l:Nat),ZS_ c l=false→findLabel c l=none
 | .seq a b,l,h=>by
  simp only[ZS_,Bool.or_eq_false_iff] at h
  simp only[findLabel,QT_ a l h.1,QT_ b l h.2]
 | .label l',l,h=>by
  simp only[ZS_] at h
  simp[findLabel,h]
 | .skip,_,_=>rfl| .region ..,_,_=>rfl| .cond ..,_,_=>rfl| .block ..,_,_=>rfl| .loop _,_,_=>rfl| .rangeFunc ..,_,_=>rfl
 | .exit _,_,_=>rfl| .scope _,_,_=>rfl| .goto _,_,_=>rfl| .ret,_,_=>rfl| .refuse _,_,_=>rfl
theorem Zc_: ∀ (c:Code) (l:Nat) (K:xp_),ZS_ c l=true→xD_ P w0 c l K f L→ ∃rest,findLabel c l=some rest∧Cw P w0 rest f L K
 | .seq a b,l,K,hh,h=>by
  unfold xD_ at h
  split at h
  ·rename_i ha
   obtain⟨rest,h1,h2⟩:=Zc_ a l _ ha h
   exact⟨.seq rest b,by simp[findLabel,h1],Cw.seq h2⟩
  ·rename_i ha
   have ha':ZS_ a l=false:=by simpa using ha
   have hb:ZS_ b l=true:=by simpa [ZS_,ha'] using hh
   obtain⟨rest,h1,h2⟩:=Zc_ b l K hb h
   exact⟨rest,by simp[findLabel,QT_ a l ha',h1],h2⟩
 | .label l',l,K,hh,h=>by
  simp only[ZS_] at hh
  exact⟨.skip,by simp[findLabel,hh],Cw.skip h⟩
 | .skip,_,_,h,_=>by cases h
 | .region ..,_,_,h,_=>by cases h
 | .cond ..,_,_,h,_=>by cases h
 | .block ..,_,_,h,_=>by cases h
 | .loop _,_,_,h,_=>by cases h
 | .rangeFunc ..,_,_,h,_=>by cases h
 | .exit _,_,_,h,_=>by cases h
 | .scope _,_,_,h,_=>by cases h
 | .goto _,_,_,h,_=>by cases h
 | .ret,_,_,h,_=>by cases h
 | .refuse _,_,_,h,_=>by cases h
theorem ZC_: ∀ (c:Code) (l:Nat) (K K':xp_),(∀e f L,K e f L→K' e f L)→ ∀f L,xD_ P w0 c l K f L→xD_ P w0 c l K' f L
 | .seq a b,l,K,K',hK,f,L,h=>by
  unfold xD_ at h ⊢
  split at h
  ·rename_i ha
   rw[if_pos ha]
   refine ZC_ a l _ _ ?_ f L h
   intro e f L hh
   cases e with
   |normal=>exact Cw.mono hh hK
   |_=>exact hK _ _ _ hh
  ·rename_i ha
   rw[if_neg ha]
   exact ZC_ b l K K' hK f L h
 | .label l',l,K,K',hK,f,L,h=>hK _ _ _ h
 | .skip,_,_,_,_,_,_,h=>h.elim
 | .region ..,_,_,_,_,_,_,h=>h.elim
 | .cond ..,_,_,_,_,_,_,h=>h.elim
 | .block ..,_,_,_,_,_,_,h=>h.elim
 | .loop _,_,_,_,_,_,_,h=>h.elim
 | .rangeFunc ..,_,_,_,_,_,_,h=>h.elim
 | .exit _,_,_,_,_,_,_,h=>h.elim
 | .scope _,_,_,_,_,_,_,h=>h.elim
 | .goto _,_,_,_,_,_,_,h=>h.elim
 | .ret,_,_,_,_,_,_,h=>h.elim
 | .refuse _,_,_,_,_,_,_,h=>h.elim
theorem Cw.scopeL {c:Code} {G:Type} (lab:G→Nat) (M:List Nat) (S:G→List (Nat×Value)) (H:G→zb_) (J:G→Prop) (μ:G→Nat) (hl: ∀g,ZS_ c (lab g)=true)
  (pass: ∀ (g:G) (j:Nat→Value),J g→xD_ P w0 c (lab g) (kN_ (Jump lab M S H J (fun g'=>μ g'<μ g) f) K) (pin (qE_ j M 0 f) (S g)) (H g))
  (first: (∀ (g:G) (f':Fr),J g→f'=pin (qE_ (vW_ f') M 0 f) (S g)→xD_ P w0 c (lab g) (kN_ (Jump lab M S H J (fun _=>True) f) K) f' (H g))→
   Cw P w0 c f L (kN_ (Jump lab M S H J (fun _=>True) f) K)):Cw P w0 (.scope c) f L K:=by
 refine Cw.scopeG lab M S H J μ (first fun g f' hg hf=> ?_) fun g j hg=>Zc_ c _ _ (hl g) (pass g j hg)
 have:=pass g (vW_ f') hg
 rw[←hf] at this
 refine ZC_ c _ _ _ ?_ _ _ this
 intro e f L hh
 cases e with
 |goto i=>obtain⟨g',h1,-,h3⟩:=hh;exact⟨g',h1,trivial,h3⟩
 |_=>exact hh
theorem Cw.scopeS {c:Code} (h:Cw P w0 c f L (kN_ (fun _ _ _=>False) K)):Cw P w0 (.scope c) f L K:=by
 intro w hw
 refine wp_scope_straight (wp_mono (h w hw) ?_)
 rintro e a w' ⟨hd,L',hp,k⟩
 cases e with
 |goto i=>exact k.elim
 |_=>exact⟨hd,L',hp,k⟩
end
end Go.Sx
section
namespace Go.Sx
open Go
set_option linter.unusedSimpArgs false
theorem qD_ {L M:zb_} {b:Nat} {o:Obj} (h:look L b=some o):look (L++M) b=some o:=by
 induction L with
 |nil=>cases h
 |cons p r ih=>
  obtain⟨c,x⟩:=p
  simp only[List.cons_append,look] at h ⊢
  split
  ·rename_i e;rw[if_pos e] at h;exact h
  ·rename_i e;rw[if_neg e] at h;exact ih h
theorem z9_ {L M:zb_} {b:Nat} (h:b∉keys L):look (L++M) b=look M b:=by
 induction L with
 |nil=>rfl
 |cons p r ih=>
  obtain⟨c,x⟩:=p
  simp only[keys,List.map_cons,List.mem_cons,not_or] at h
  simp only[List.cons_append,look]
  rw[if_neg (fun e=>h.1 e.symm)]
  exact ih h.2
theorem xG_ {L:zb_} {b:Nat} {x o:Obj} (h:look L b=some o):look (setB L b x) b=some x:=by
 induction L with
 |nil=>cases h
 |cons p r ih=>
  obtain⟨c,y⟩:=p
  simp only[look] at h
  simp only[setB]
  split
  ·simp[look, *]
  ·rename_i e
   rw[if_neg e] at h
   simp only[look]
   rw[if_neg e]
   exact ih h
theorem xP_ {L:zb_} {b c:Nat} {x:Obj} (h:b≠c):look (setB L b x) c=look L c:=by
 induction L with
 |nil=>rfl
 |cons p r ih=>
  obtain⟨d,y⟩:=p
  simp only[setB]
  split
  ·rename_i e
   subst e
   simp[look,h]
  ·simp only[look]
   split
   ·rfl
   ·exact ih
theorem zo_ {L:zb_} {b:Nat} {o:Obj} (h:look L b=some o):b∈keys L:=List.mem_map.2 ⟨_,zw_ h,rfl⟩
theorem VF_ {L:zb_} {b:Nat} (h:b∈keys L): ∃o,look L b=some o:=by
 cases hl:look L b with
 |some o=>exact⟨o,rfl⟩
 |none=>exact absurd h (w1_ hl)
theorem zt_ {w0:World} {L:zb_} {b:Nat} {o:Obj} (h:look L b=some o):zk_ w0 L b=some o:=by
 unfold zk_;rw[h]
theorem ze_ (L M:zb_):keys (L++M)=keys L++keys M:=List.map_append
theorem zh_ {L:zb_} {n b:Nat} (h:jM_ L n) (hb:b∈keys L):b<n:=by
 induction L with
 |nil=>cases hb
 |cons p r ih=>
  obtain⟨c,y⟩:=p
  simp only[keys,List.map_cons,List.mem_cons] at hb
  rcases hb with rfl|hb
  ·exact h.1
  ·exact ih h.2 hb
theorem VU_ (vs:List Value): ∀ (A B:List Value),vs.length≤B.length→vV_ (A++B).toArray A.length vs=(A++vs++B.drop vs.length).toArray:=by
 induction vs with
 |nil=>intro A B _;simp[vV_]
 |cons v r ih=>
  intro A B h
  cases B with
  |nil=>simp at h
  |cons x B=>
   have e: (A++x::B).toArray.setIfInBounds A.length v=((A++ [v])++B).toArray:=by
    rw[List.setIfInBounds_toArray]
    simp
   have h':=ih (A++ [v]) B (by simpa using h)
   simp only[List.length_append,List.length_cons,List.length_nil,Nat.zero_add] at h'
   rw[vV_,e,h']
   simp
theorem Ww_ (N:Nat): ∀r c,c≤2*N+768→Builtin.growBy N r c≤2*N+768
 |0,c,h=>h
 |r+1,c,h=>by
  unfold Builtin.growBy
  split
  ·exact h
  ·exact Ww_ N r _ (by omega)
theorem xB_ {N c:Nat} (h:c<N):Builtin.nextslicecap N c≤2*N+768:=by
 unfold Builtin.nextslicecap
 split
 ·omega
 ·split
  ·omega
  ·exact Ww_ N 4 c (by omega)
structure AppX (P:Program) (w:World) (size:Nat) (x:Value) (k:Nat) (new:List Value):Prop where
 len: (Builtin.lenOf x).run P w= .ok k w
 cells: (Builtin.firstCells size k x).run P w= .ok new.toArray w
 one:new.all Value.oneCell'=true
 size:new.length=k*size
theorem AppX.text (P:Program) (w:World) (l:List UInt8):AppX P w 1 (vs l) l.length (l.map v8):=by
 refine⟨?_, ?_, ?_,by simp⟩
 ·simp only[vs,Builtin.lenOf,k1_];rfl
 ·simp only[vs,Builtin.firstCells]
  show Result.ok _ w=_
  congr 1
  have: ((ByteArray.mk l.toArray).extract 0 l.length).data=l.toArray:=by
   rw[ByteArray.data_extract]
   simp
  rw[this]
  simp[v8]
 ·rw[List.all_map,List.all_eq_true];intro x _;rfl
def xe_ (P:Program) (e:TypeId):Bool:=match P.info? e with
 |some i=>i.bytes !=0&&decide (i.bytes≤1024)
 |none=>false
theorem xU_ {P:Program} {e:TypeId} {j:Nat} (h:xe_ P e=true) (hj:j≤2^38): ∃i,P.info? e=some i∧i.bytes≠0∧j*i.bytes≤2^48:=by
 unfold xe_ at h
 cases hi:P.info? e with
 |none=>rw[hi] at h;cases h
 |some i=>
  rw[hi] at h
  simp only[Bool.and_eq_true,bne_iff_ne,ne_eq,decide_eq_true_eq] at h
  refine⟨i,rfl,h.1, ?_⟩
  calc j*i.bytes≤2^38*1024:=Nat.mul_le_mul hj h.2
   _=2^48:=by decide
theorem akm_ (L:zb_) (k:zb_→Prop):nh L k=k L:=(rfl)
inductive Buf (L:zb_) (E:TypeId) (size:Nat):Value→Nat→List Value→Prop
 |nl:Buf L E size (.slice none 0 0) 0 []
 |at_ {b n c:Nat} {cs rest:List Value} (hl:look L b=some (.cells (cs++rest).toArray E (0,0))) (h1:cs.length=n*size) (h2:rest.length=(c - n)*size) (h3:n≤c) (h4:0<c):
  Buf L E size (vsl b 0 n c) n cs
def slB:Value→Option Nat
 | .slice (some a) _ _=>some a.block
 |_=>none
theorem Buf.keep {L L':zb_} {E:TypeId} {size n:Nat} {v:Value} {cs:List Value} (h:Buf L E size v n cs) (hk: ∀b o,slB v=some b→look L b=some o→look L' b=some o):Buf L' E size v n cs:=by
 cases h with
 |nl=>exact .nl
 |at_ hl h1 h2 h3 h4=>exact .at_ (hk _ _ rfl hl) h1 h2 h3 h4
theorem Buf.setO {L:zb_} {E:TypeId} {size n b:Nat} {v:Value} {cs:List Value} {x:Obj} (h:Buf L E size v n cs) (hb:slB v≠some b):Buf (setB L b x) E size v n cs:=
 h.keep fun c o hc ho=>by rw[xP_ (fun e:b=c=>hb (by rw[e];exact hc))];exact ho
theorem Buf.app {L M:zb_} {E:TypeId} {size n:Nat} {v:Value} {cs:List Value} (h:Buf L E size v n cs):Buf (L++M) E size v n cs:=h.keep fun _ _ _ ho=>qD_ ho
theorem Buf.cell {L:zb_} {E:TypeId} {size n:Nat} {v:Value} {cs:List Value} (h:Buf L E size v n cs):Value.oneCell' v=true∧v.cells= #[v]:=by
 cases h<;>exact⟨rfl,rfl⟩
theorem Buf.len {L:zb_} {E:TypeId} {size n:Nat} {v:Value} {cs:List Value} (h:Buf L E size v n cs) (x:Bool×Nat):wt_ (.sl x) v=some (vi n):=by
 cases h<;>rfl
theorem Buf.inv {L:zb_} {E:TypeId} {size n:Nat} {v:Value} {cs:List Value} (h:Buf L E size v n cs): (v= .slice none 0 0∧n=0∧cs= [])∨
  ∃b c rest,v=vsl b 0 n c∧look L b=some (.cells (cs++rest).toArray E (0,0))∧cs.length=n*size∧n≤c∧0<c∧rest.length=(c - n)*size:=by
 cases h with
 |nl=>exact .inl ⟨rfl,rfl,rfl⟩
 |at_ hl h1 h2 h3 h4=>exact .inr ⟨_,_,_,rfl,hl,h1,h3,h4,h2⟩
theorem adV_ {L:zb_} {b:Nat} {o:Obj} (h:jM_ L b):look (L++ [(b,o)]) b=some o:=by
 rw[z9_ (fun hm=>Nat.lt_irrefl _ (zh_ h hm))];simp[look]
structure Grew (w0:World) (v:Value) (L L':zb_):Prop where
 keys: ∀c,c∈keys L→c∈keys L'
 new: ∀c,c∈Sx.keys L'→c∈Sx.keys L∨(jM_ L c∧w0.heap.size≤c)
 look: ∀c o,slB v≠some c→Sx.look L c=some o→Sx.look L' c=some o
theorem Grew.refl (w0:World) (v:Value) (L:zb_):Grew w0 v L L:=⟨fun _ h=>h,fun _ h=> .inl h,fun _ _ _ h=>h⟩
section
variable {P:Program} {w0:World} {L:zb_}
theorem Zm_ {w:World} {ts tx ty e:TypeId} {m:Bool×Nat} {z s x:Value} {n k:Nat} {cs new:List Value} (hw:Hp w0 L w)
  (hu:P.underlying ts=some (.slice e)) (hm:qc_ P e=some m) (hi:xe_ P e=true) (hz:zI_ P e=some z) (hzs:z.cells.size=m.2) {d:TypeDesc} (hux:P.underlying tx=some d) (hnx: ∀k,d≠ .int k)
  (hB:Buf L e m.2 s n cs) (hXa: ∀w,Hp w0 L w→AppX P w m.2 x k new) (hbig:2* (n+k)+768≤2^38):
  ∃v' w' L',(Builtin.append_ #[ts,tx] ty #[s,x]).run P w= .ok v' w'∧Hp w0 L' w'∧Buf L' e m.2 v' (n+k) (cs++new)∧Grew w0 s L L'∧(slB v'=slB s∨ ∃c,slB v'=some c∧jM_ L c):=by
 obtain⟨i,hi,hb0,hbig⟩:=xU_ hi hbig
 have hti: ∀w,(typeInfo e).run P w= .ok i w:=by
  intro w
  simp only[typeInfo,program,Sem.run_bind]
  show Result.andThen (Result.ok P w) _=_
  simp only[Result.andThen_ok,hi]
  rfl
 have hmd: (match d with| .int _=>true|_=>false)=false:=by
  cases d<;>first|rfl|exact absurd rfl (hnx _)
 have e1: ∀ {α β:Type} (a:α) (f:α→World→Result β),(Sem.run P (pure a) w).andThen f=f a w:=fun _ _=>rfl
 have hX:=hXa w hw
 have hxl:=hX.len
 have hxc:=hX.cells
 have hzv:=jf_ (P:=P) hz
 have room: ∀ (b:Nat) (w:World),(askRoom b).run P w= .ok () w:=by
  intro b w
  unfold askRoom
  split<;>rfl
 have zc: ∀j,(Builtin.zeroCells z.cells j).toList.length=j*m.2:=by
  intro j;simp[Builtin.zeroCells,hzs]
 have hbg: ∀c,c<n+k→ ¬ (Builtin.nextslicecap (n+k) c*i.bytes>2^48):=by
  intro c hc
  have:=xB_ hc
  have h2:=Nat.mul_le_mul_right i.bytes this
  omega
 cases hB with
 |nl=>
  by_cases hk:k=0
  ·subst hk
   have hnew:new= []:=List.eq_nil_of_length_eq_zero (by have:=hX.size;omega)
   subst hnew
   refine⟨.slice none 0 0,w,L, ?_,hw, .nl,Grew.refl _ _ _, .inl rfl⟩
   simp only[Builtin.append_,List.getElem?_toArray,List.getElem?_cons_zero,List.getElem?_cons_succ,Sem.run_bind,run_underlying hu w,Result.andThen_ok,zv_ hm w,run_underlying hux w,hmd,e1,Bool.false_eq_true, ↓reduceIte,hxl,Bool.not_false,Nat.add_zero,Nat.le_refl,hxc]
   rfl
  ·have hpos: ¬0+k≤0:=by omega
   have hbg':=hbg 0 (by omega)
   simp only[Builtin.append_,List.getElem?_toArray,List.getElem?_cons_zero,List.getElem?_cons_succ,Sem.run_bind,run_underlying hu w,Result.andThen_ok,zv_ hm w,run_underlying hux w,hmd,e1,Bool.false_eq_true, ↓reduceIte,hxl,Bool.not_false,hpos,hti,hb0,or_false,and_false,hbg']
   have hch: (choose (Question.appendCap (0+k) 0 e)).run P w= .ok ((0+k)+w.tape w.drawn (.appendCap (0+k) 0 e)% (2^63 - (0+k))) w.drew:=rfl
   rw[hch]
   generalize hcc: (0+k)+w.tape w.drawn (.appendCap (0+k) 0 e)% (2^63 - (0+k))=c
   have hw1:=hw.drew
   have hX1:=hXa _ hw1
   have hold: (Builtin.firstCells m.2 0 (Value.slice none 0 0)).run P w.drew= .ok #[] w.drew:=rfl
   simp only[Result.andThen_ok,room,hold,hX1.cells,hzv]
   refine⟨_,_,L++ [(w.drew.heap.size, .cells ([]++new++ (Builtin.zeroCells z.cells (c - (0+k))).toList).toArray e (0,0))],rfl, ?_, .at_ (b:=w.drew.heap.size) (rest:=(Builtin.zeroCells z.cells (c - (0+k))).toList) ?_ ?_ ?_ (by omega) (by omega), ?_, .inr ⟨_,rfl,z2_ fun b hb=>hw1.lt hb⟩⟩
   ·have ea: ([]++new++ (Builtin.zeroCells z.cells (c - (0+k))).toList).toArray= #[]++new.toArray++Builtin.zeroCells z.cells (c - (0+k)):=by apply Array.ext';simp
    rw[ea]
    exact hw1.alloc _
   ·rw[z9_ (fun hm=>Nat.lt_irrefl _ (hw1.lt hm))]
    simp[look]
   ·rw[List.nil_append,hX.size,Nat.zero_add]
   ·exact zc _
   ·refine⟨fun c hc=>by rw[ze_];exact List.mem_append_left _ hc,fun c hc=> ?_,fun c o hne ho=>qD_ ho⟩
    rw[ze_] at hc
    rcases List.mem_append.1 hc with hc|hc
    ·exact .inl hc
    ·right
     simp only[keys,List.map_cons,List.map_nil,List.mem_singleton] at hc
     subst hc
     exact⟨z2_ fun b hb=>hw1.lt hb,hw1.size⟩
 | @at_ b n c cs rest hl h1 h2 h3 h4=>
  have hhb:=hw.has _ _ (zw_ hl)
  by_cases hin:n+k≤c
  ·have hlt:=(Array.getElem?_eq_some_iff.1 hhb).1
   have hsz:=hX.size
   have hst:=jw_ (P:=P) (b:=b) (off:=n*m.2) (E:=e) (fz:=(0,0)) new 0 (cs++rest).toArray w hhb (by
    simp only[List.size_toArray,List.length_append,h1,h2,hsz,Nat.add_zero]
    rw[←Nat.add_mul,←Nat.add_mul]
    exact Nat.mul_le_mul_right _ (by omega)) (.inl (Nat.le_refl 0)) hX.one
   simp only[Builtin.append_,List.getElem?_toArray,List.getElem?_cons_zero,List.getElem?_cons_succ,Sem.run_bind,run_underlying hu w,Result.andThen_ok,zv_ hm w,run_underlying hux w,hmd,e1,Bool.false_eq_true, ↓reduceIte,hxl,Bool.not_false,hin,hxc,qB_,Nat.zero_add,hst,vsl]
   rw[Nat.add_zero,←h1,VU_ new cs rest (by rw[h2,hsz];exact Nat.mul_le_mul_right _ (by omega))]
   refine⟨vsl b 0 (n+k) c,_,setB L b (.cells (cs++new++rest.drop new.length).toArray e (0,0)),rfl,hw.set (zo_ hl) rfl rfl rfl rfl, .at_ (xG_ hl) ?_ ?_ hin h4, ?_, .inl rfl⟩
   ·rw[List.length_append,h1,hsz,Nat.add_mul]
   ·rw[List.length_drop,h2,hsz,←Nat.sub_mul]
    congr 1
    omega
   ·refine⟨fun c hc=>by rw[xH_];exact hc,fun c hc=>by rw[xH_] at hc;exact .inl hc,fun c o hne ho=> ?_⟩
    rw[xP_ (fun e=>hne (by rw[←e];rfl))]
    exact ho
  ·have hbg':=hbg c (by omega)
   simp only[Builtin.append_,List.getElem?_toArray,List.getElem?_cons_zero,List.getElem?_cons_succ,Sem.run_bind,run_underlying hu w,Result.andThen_ok,zv_ hm w,run_underlying hux w,hmd,e1,Bool.false_eq_true, ↓reduceIte,hxl,Bool.not_false,hin,hti,hb0,or_false,and_false,hbg',vsl]
   have hch: (choose (Question.appendCap (n+k) c e)).run P w= .ok ((n+k)+w.tape w.drawn (.appendCap (n+k) c e)% (2^63 - (n+k))) w.drew:=rfl
   rw[hch]
   generalize hcc: (n+k)+w.tape w.drawn (.appendCap (n+k) c e)% (2^63 - (n+k))=c2
   have hw1:=hw.drew
   have hX1:=hXa _ hw1
   have hold: (Builtin.firstCells m.2 n (Value.slice (some ⟨b,0,none⟩) n c)).run P w.drew= .ok cs.toArray w.drew:=by
    simp only[Builtin.firstCells]
    rw[jl_ (hw1.has _ _ (zw_ hl)) 0 (n*m.2) (by simp only[List.size_toArray,List.length_append,h1];omega)]
    congr 1
    simp only[Nat.zero_add,List.extract_toArray,←h1]
    simp
   simp only[Result.andThen_ok,room,hold,hX1.cells,hzv]
   refine⟨_,_,L++ [(w.drew.heap.size, .cells (cs++new++ (Builtin.zeroCells z.cells (c2 - (n+k))).toList).toArray e (0,0))],rfl, ?_, .at_ (b:=w.drew.heap.size) (rest:=(Builtin.zeroCells z.cells (c2 - (n+k))).toList) ?_ ?_ ?_ (by omega) (by omega), ?_, .inr ⟨_,rfl,z2_ fun b hb=>hw1.lt hb⟩⟩
   ·have ea: (cs++new++ (Builtin.zeroCells z.cells (c2 - (n+k))).toList).toArray=cs.toArray++new.toArray++Builtin.zeroCells z.cells (c2 - (n+k)):=by apply Array.ext';simp
    rw[ea]
    exact hw1.alloc _
   ·rw[z9_ (fun hm=>Nat.lt_irrefl _ (hw1.lt hm))]
    simp[look]
   ·rw[List.length_append,h1,hX.size,Nat.add_mul]
   ·exact zc _
   ·refine⟨fun c hc=>by rw[ze_];exact List.mem_append_left _ hc,fun c hc=> ?_,fun c o hne ho=>qD_ ho⟩
    rw[ze_] at hc
    rcases List.mem_append.1 hc with hc|hc
    ·exact .inl hc
    ·right
     simp only[keys,List.map_cons,List.map_nil,List.mem_singleton] at hc
     subst hc
     exact⟨z2_ fun b hb=>hw1.lt hb,hw1.size⟩
theorem AppX.block {b off k cap size:Nat} {arr:Array Value} {E:TypeId} {fz:Nat×Nat} {new:List Value} (hr:zk_ w0 L b=some (.cells arr E fz)) (hn:off+k*size≤arr.size) (hc: (arr.extract off (off+k*size)).toList=new)
  (h1:new.all Value.oneCell'=true) {w:World} (hw:Hp w0 L w):AppX P w size (vsl b off k cap) k new:=by
 refine⟨rfl, ?_,h1, ?_⟩
 ·simp only[vsl,Builtin.firstCells]
  rw[jl_ (hw.read hr) off (k*size) hn,←hc]
 ·rw[←hc];simp;omega
theorem AppX.nil (P:Program) (w:World) (size:Nat):AppX P w size (.slice none 0 0) 0 []:=⟨rfl,rfl,rfl,by simp⟩
theorem wV_ {b:Nat} {E:TypeId} {fz:Nat×Nat} {arr:Array Value} {w:World} (hb:w.heap[b]? =some (.cells arr E fz)): ∀ (l:List UInt8) (off:Nat) (acc:ByteArray),(∀j,j<l.length→arr[off+j]? =some (v8 (l.getD j 0)))→
  (loadBytes ⟨b,off,none⟩ acc l.length).run P w= .ok (acc++ ⟨l.toArray⟩) w
 | [],off,acc,_=>by
  show Result.ok acc w=_
  congr 1
  apply ByteArray.ext
  simp
 |x::l,off,acc,h=>by
  have h0:=h 0 (by simp)
  simp only[Nat.add_zero,List.getD_cons_zero] at h0
  have hc:w.cell? ⟨b,off,none⟩=some (v8 x):=by rw[cell_of_row w b _ arr E fz hb];exact h0
  have hld: (load ⟨b,off,none⟩).run P w= .ok (v8 x) w:=by
   simp only[load,Sem.run,hc]
  rw[List.length_cons,loadBytes,Sem.run_bind,hld,Result.andThen_ok]
  simp only[v8,qB_]
  have e: ((x.toNat:Int).toNat.toUInt8)=x:=by
   rw[Int.toNat_natCast]
   exact UInt8.ofNat_toNat
  rw[e,wV_ hb l (off+1) _ (fun j hj=>by
   have:=h (j+1) (by simpa using hj)
   rw[List.getD_cons_succ] at this
   rw[←this];congr 1;omega)]
  congr 1
  apply ByteArray.ext
  simp
theorem ag9_ {p:Program} {e:TypeId} {c n:Nat} (hd:1<p.depth) (hs:p.cellsOf e=1) (hn:n≤c):liesAt p p.depth e (c / p.cellsOf e) 0 e n=true:=by
 obtain⟨d,hd'⟩: ∃d,p.depth=d+2:=⟨p.depth - 2,by omega⟩
 have hsl:sameLayout p p.depth e e=true:=by
  rw[hd'];unfold sameLayout;simp
 rw[hd'] at hsl ⊢
 unfold liesAt
 rw[hd']
 unfold rowAt
 simp[hs,hn,hsl]
theorem ZY_ {w:World} {pt it ty e:TypeId} {b:Nat} {l:List UInt8} {rest:List Value} (hw:Hp w0 L w) (hl:look L b=some (.cells (l.map v8++rest).toArray e (0,0))) (h0:0<l.length) (hmax: (l.length:Int)≤9223372036854775807)
  (hpt:P.underlying pt=some (.pointer e)) (hs:P.cellsOf e=1) (hd:1<P.depth):
  ∃w',(Builtin.unsafeString_ #[pt,it] ty #[vp b 0,vi l.length]).run P w= .ok (vs l) w'∧Hp w0 (setB L b (.cells (l.map v8++rest).toArray e (0,l.length))) w':=by
 have hb:=hw.has _ _ (zw_ hl)
 have e1: ∀ {α β:Type} (a:α) (f:α→World→Result β),(Sem.run P (pure a) w).andThen f=f a w:=fun _ _=>rfl
 have hlb:=wV_ (P:=P) hb l 0 .empty (by
  intro j hj
  rw[Nat.zero_add,List.getElem?_toArray,List.getElem?_append_left (by simpa using hj),List.getElem?_map,List.getD_eq_getElem?_getD,List.getElem?_eq_getElem hj]
  rfl)
 have hva: (variablesAt ⟨b,0,none⟩ e l.length).run P w= .ok true w:=by
  have hsh:w.shape? b=some (e,(l.map v8++rest).toArray.size):=by
   simp only[World.shape?,hb]
  have hp:liesAt P P.depth e ((l.map v8++rest).toArray.size / P.cellsOf e) 0 e l.length=true:=ag9_ hd hs (by simp)
  simp only[variablesAt,program,shape,Sem.run_bind]
  show Result.andThen (Result.ok P w) _=_
  simp only[Result.andThen_ok]
  show Result.andThen (Result.ok (w.shape? b) w) _=_
  rw[hsh]
  simp only[Result.andThen_ok]
  rw[hp]
  rfl
 have hel: (elemOf pt).run P w= .ok e w:=by
  simp only[elemOf,Sem.run_bind,run_underlying hpt w,Result.andThen_ok]
  rfl
 refine⟨w.freeze ⟨b,0,none⟩ l.length, ?_, ?_⟩
 ·have hn0: ¬ ((l.length:Int)<0):=by omega
  have hnm: ¬ ((l.length:Int)>IntKind.i64.max):=by
   show¬ ((l.length:Int)>9223372036854775807);omega
  have hnz: ¬ ((l.length:Int)=0):=by omega
  have hai: (asInt (vi l.length)).run P w= .ok (l.length:Int) w:=rfl
  rw[show vp b 0= .pointer (some ⟨b,0,none⟩) from rfl]
  show Sem.run P (asInt (vi l.length)>>=_) w=_
  simp only[Sem.run_bind,hai,Result.andThen_ok,List.getElem?_toArray,List.getElem?_cons_zero,hn0,hnm,hnz, ↓reduceIte,hel,Int.toNat_natCast,hva,hlb]
  show Result.ok (Value.string (ByteArray.empty++ ⟨l.toArray⟩)) _=_
  congr 2
 ·have hne: ¬l.length=0:=by omega
  have hlt:=(Array.getElem?_eq_some_iff.1 hb).1
  refine hw.set (zo_ hl) ?_ ?_ ?_ ?_<;>simp only[World.freeze,hne, ↓reduceIte]
  apply Array.ext_getElem?
  intro i
  rw[Array.getElem?_modify]
  by_cases hi:b=i
  ·subst hi
   rw[if_pos rfl,hb]
   simp[hlt]
  ·rw[if_neg hi,Array.getElem?_setIfInBounds_ne hi]
end
section
variable {P:Program} {w0:World} {f:Fr} {L:zb_} {N:Fr→zb_→Prop} {ops:Array Oper} {rest:List Oper} {md:Md}
 {d:Option Tmp} {ty:TypeId} {ps:String} {af:Array Edge} {g:Option (Nat×Bool)}
theorem Ow.append {ts tx e:TypeId} {m:Bool×Nat} {z:Value} {s x:Operand} {n k:Nat} {cs new:List Value} {dx:TypeDesc} {md':Md} (sv:Value) (hsv:ev f s=sv) (he:md.turn=some md')
  (hs:zg_ ops f ⟨d, .call ⟨.builtin .append, #[s,x], #[ts,tx]⟩,ty,ps,af,g⟩=false)
  (hu:P.underlying ts=some (.slice e)) (hm:qc_ P e=some m) (hi:xe_ P e=true) (hz:zI_ P e=some z) (hzs:z.cells.size=m.2) (hux:P.underlying tx=some dx) (hnx: ∀k,dx≠ .int k)
  (hB:Buf L e m.2 sv n cs) (hX: ∀w,Hp w0 L w→AppX P w m.2 (ev f x) k new) (hbig:2* (n+k)+768≤2^38)
  (hn: ∀v' L',Buf L' e m.2 v' (n+k) (cs++new)→Grew w0 sv L L'→(slB v'=slB sv∨ ∃c,slB v'=some c∧jM_ L c)→Ow P w0 ops md' rest (qd_ f d v') L' N):
  Ow P w0 ops md (⟨d, .call ⟨.builtin .append, #[s,x], #[ts,tx]⟩,ty,ps,af,g⟩::rest) f L N:=by
 subst hsv
 refine Ow.step he rfl hs fun w hw=> ?_
 obtain⟨v',w',L',hr,hp,hb,hg,hsl⟩:=Zm_ (ty:=ty) hw hu hm hi hz hzs hux hnx hB hX hbig
 refine .inl ⟨v',w',L', ?_,hp,hn v' L' hb hg hsl⟩
 simp only[execOp,resolve,Sem.run_bind,Sem.run_pure,Result.andThen_ok,invoke,builtin,List.map_toArray,List.map_cons,List.map_nil]
 rw[hr]
 rfl
theorem Ow.unsafeString {pt it e:TypeId} {x y:Operand} {b:Nat} {l:List UInt8} {rs:List Value} {md':Md} (he:md.turn=some md')
  (hs:zg_ ops f ⟨d, .call ⟨.builtin .unsafeString, #[x,y], #[pt,it]⟩,ty,ps,af,g⟩=false)
  (hx:ev f x=vp b 0) (hy:ev f y=vi l.length) (hl:look L b=some (.cells (l.map v8++rs).toArray e (0,0))) (h0:0<l.length) (hmax: (l.length:Int)≤9223372036854775807)
  (hpt:P.underlying pt=some (.pointer e)) (hc:P.cellsOf e=1) (hd:1<P.depth)
  (hn:Ow P w0 ops md' rest (qd_ f d (vs l)) (setB L b (.cells (l.map v8++rs).toArray e (0,l.length))) N):
  Ow P w0 ops md (⟨d, .call ⟨.builtin .unsafeString, #[x,y], #[pt,it]⟩,ty,ps,af,g⟩::rest) f L N:=by
 refine Ow.step he rfl hs fun w hw=> ?_
 obtain⟨w',hr,hp⟩:=ZY_ (it:=it) (ty:=ty) hw hl h0 hmax hpt hc hd
 refine .inl ⟨vs l,w',_, ?_,hp,hn⟩
 simp only[execOp,resolve,Sem.run_bind,Sem.run_pure,Result.andThen_ok,invoke,builtin,List.map_toArray,List.map_cons,List.map_nil,hx,hy]
 rw[hr]
 rfl
theorem Ow.unsafeStringNil {pt it:TypeId} {x y:Operand} {md':Md} (he:md.turn=some md')
  (hs:zg_ ops f ⟨d, .call ⟨.builtin .unsafeString, #[x,y], #[pt,it]⟩,ty,ps,af,g⟩=false)
  {p:Option Addr} (hx:ev f x= .pointer p) (hy:ev f y=vi 0)
  (hn:Ow P w0 ops md' rest (qd_ f d (vs [])) L N):
  Ow P w0 ops md (⟨d, .call ⟨.builtin .unsafeString, #[x,y], #[pt,it]⟩,ty,ps,af,g⟩::rest) f L N:=by
 refine Ow.step he rfl hs fun w hw=> ?_
 refine .inl ⟨vs [],w,L, ?_,hw,hn⟩
 simp only[execOp,resolve,Sem.run_bind,Sem.run_pure,Result.andThen_ok,invoke,builtin,List.map_toArray,List.map_cons,List.map_nil,hx,hy]
 cases p<;>rfl
theorem Ow.sliceData {t:TypeId} {x:Operand} {v:Value} {md':Md} (he:md.turn=some md')
  (hs:zg_ ops f ⟨d, .call ⟨.builtin .unsafeSliceData, #[x], #[t]⟩,ty,ps,af,g⟩=false)
  (hx: (∃n c,ev f x= .slice none n c∧v= .pointer none)∨ ∃b n c,ev f x=vsl b 0 n c∧c≠0∧v=vp b 0)
  (hn:Ow P w0 ops md' rest (qd_ f d v) L N):
  Ow P w0 ops md (⟨d, .call ⟨.builtin .unsafeSliceData, #[x], #[t]⟩,ty,ps,af,g⟩::rest) f L N:=by
 refine Ow.step he rfl hs fun w hw=> ?_
 refine .inl ⟨v,w,L, ?_,hw,hn⟩
 simp only[execOp,resolve,Sem.run_bind,Sem.run_pure,Result.andThen_ok,invoke,builtin,List.map_toArray,List.map_cons,List.map_nil]
 rcases hx with⟨n,c,hx,rfl⟩ | ⟨b,n,c,hx,hc,rfl⟩
 ·rw[hx];rfl
 ·rw[hx]
  have e:Builtin.unsafeSliceData_ #[t] ty #[vsl b 0 n c]=(if c≠0 then pure (.pointer (some ⟨b,0,none⟩)) else do
    if(←viewAt b).isSome then pure (.pointer (some ⟨b,0,none⟩)) else pure (.pointer (some ⟨←newObj (.view ⟨b,0,none⟩ (←elemOf ty)),0,none⟩))):=rfl
  rw[e,if_pos hc]
  rfl
end
end Go.Sx
end
namespace Go.Sx
open Go
section
variable {P:Program} {w0:World} {f:Fr} {L:zb_} {N:Fr→zb_→Prop} {ops:Array Oper} {rest:List Oper} {md:Md}
 {d:Option Tmp} {ty:TypeId} {ps:String} {af:Array Edge} {g:Option (Nat×Bool)}
theorem WF_ {w:World} {s dt t:TypeId} {b off:Nat} {m:Bool×Nat} {cs:Array Value} {E:TypeId} {fz:Nat×Nat} (hb:w.heap[b]? =some (.cells cs E fz)) (ho:off<cs.size) (hm:qc_ P t=some m) (hm0:m.2≠0)
  (hs:P.underlying s=some (.pointer t)) (hd:P.underlying dt=some .unsafePointer): (convert s dt (vp b off)).run P w= .ok (vp b off) w:=by
 have hsh:w.shape? b=some (E,cs.size):=by simp only[World.shape?,hb]
 have e1: ∀ {α β:Type} (a:α) (f:α→World→Result β),(Sem.run P (pure a) w).andThen f=f a w:=fun _ _=>rfl
 have e2: (shape b).run P w= .ok (some (E,cs.size)) w:=by show Result.ok (w.shape? b) w=_;rw[hsh]
 have hv: (Conv.seenAt ⟨b,off,none⟩).run P w= .ok ⟨b,off,none⟩ w:=by
  simp only[Conv.seenAt,viewAt,Sem.run_bind,e2,Result.andThen_ok,Option.isSome_some, ↓reduceIte]
  rfl
 have hci: (cellsIn b).run P w= .ok (some cs.size) w:=by
  simp only[cellsIn,Sem.run_bind,e2,Result.andThen_ok]
  rfl
 have hno: (decide (m.2=0) ||decide (off≥cs.size)&& (none:Option Nat).isNone)=false:=by
  have: ¬ (off≥cs.size):=by omega
  simp[hm0,this]
 have hu: (Conv.unsafePointer s dt (vp b off)).run P w= .ok (vp b off) w:=by
  simp only[Conv.unsafePointer,vp,Sem.run_bind,run_underlying hs w,run_underlying hd w,Result.andThen_ok,hv,hci,zv_ hm w]
  rw[if_neg (by rw[hno];simp)]
  rfl
 unfold convert
 simp only[vp,Sem.run_bind,run_underlying hs w,run_underlying hd w,Result.andThen_ok]
 exact hu
theorem Wf_ {w:World} {s dt t:TypeId} {b off:Nat} {m:Bool×Nat} {cs:Array Value} {E:TypeId} {fz:Nat×Nat} (hb:w.heap[b]? =some (.cells cs E fz)) (hm:qc_ P t=some m) (hla:liesAt P P.depth E (cs.size / P.cellsOf E) off t 1=true)
  (hs:P.underlying s=some .unsafePointer) (hd:P.underlying dt=some (.pointer t)): (convert s dt (vp b off)).run P w= .ok (vp b off) w:=by
 have hsh:w.shape? b=some (E,cs.size):=by simp only[World.shape?,hb]
 have e2: (shape b).run P w= .ok (some (E,cs.size)) w:=by show Result.ok (w.shape? b) w=_;rw[hsh]
 have hv: (Conv.seenAt ⟨b,off,none⟩).run P w= .ok ⟨b,off,none⟩ w:=by
  simp only[Conv.seenAt,viewAt,Sem.run_bind,e2,Result.andThen_ok,Option.isSome_some, ↓reduceIte]
  rfl
 have hva: (variablesAt ⟨b,off,none⟩ t 1).run P w= .ok true w:=by
  simp only[variablesAt,program,Sem.run_bind]
  show Result.andThen (Result.ok P w) _=_
  simp only[Result.andThen_ok,e2]
  rw[hla]
  rfl
 have hu: (Conv.unsafePointer s dt (vp b off)).run P w= .ok (vp b off) w:=by
  simp only[Conv.unsafePointer,vp,Sem.run_bind,run_underlying hs w,run_underlying hd w,Result.andThen_ok,hv,zv_ hm w,hva]
  by_cases h0:m.2=0
  ·simp[h0]
  ·simp[h0]
 unfold convert
 simp only[vp,Sem.run_bind,run_underlying hs w,run_underlying hd w,Result.andThen_ok]
 exact hu
theorem Ow.toUnsafe {s dt t:TypeId} {x:Operand} {b off:Nat} {m:Bool×Nat} {cs:Array Value} {E:TypeId} {fz:Nat×Nat} {md':Md} (he:md.turn=some md') (hsk:zg_ ops f ⟨d, .convert s dt x,ty,ps,af,g⟩=false)
  (hcv:cvT P s dt= .no) (hx:ev f x=vp b off) (hb:zk_ w0 L b=some (.cells cs E fz)) (ho:off<cs.size) (hm:qc_ P t=some m) (hm0:m.2≠0) (hs:P.underlying s=some (.pointer t)) (hd:P.underlying dt=some .unsafePointer)
  (hn:Ow P w0 ops md' rest (qd_ f d (vp b off)) L N):Ow P w0 ops md (⟨d, .convert s dt x,ty,ps,af,g⟩::rest) f L N:=by
 refine Ow.step he (by simp[jO_,hcv]) hsk fun w hw=> .inl ⟨vp b off,w,L, ?_,hw,hn⟩
 simp only[execOp,Sem.run_bind,hx,WF_ (hw.read hb) ho hm hm0 hs hd]
 rfl
theorem Ow.ofUnsafe {s dt t:TypeId} {x:Operand} {b off:Nat} {m:Bool×Nat} {cs:Array Value} {E:TypeId} {fz:Nat×Nat} {md':Md} (he:md.turn=some md') (hsk:zg_ ops f ⟨d, .convert s dt x,ty,ps,af,g⟩=false)
  (hcv:cvT P s dt= .no) (hx:ev f x=vp b off) (hb:zk_ w0 L b=some (.cells cs E fz)) (hm:qc_ P t=some m) (hla:liesAt P P.depth E (cs.size / P.cellsOf E) off t 1=true) (hs:P.underlying s=some .unsafePointer) (hd:P.underlying dt=some (.pointer t))
  (hn:Ow P w0 ops md' rest (qd_ f d (vp b off)) L N):Ow P w0 ops md (⟨d, .convert s dt x,ty,ps,af,g⟩::rest) f L N:=by
 refine Ow.step he (by simp[jO_,hcv]) hsk fun w hw=> .inl ⟨vp b off,w,L, ?_,hw,hn⟩
 simp only[execOp,Sem.run_bind,hx,Wf_ (hw.read hb) hm hla hs hd]
 rfl
theorem Ow.neqSame {t t' e:TypeId} {x y:Operand} {b off:Nat} {m:Bool×Nat} (hs:zg_ ops f ⟨d, .binOp .neq t x y t',ty,ps,af,g⟩=false) (hu:P.underlying t=some (.pointer e)) (hm:qc_ P e=some m) (hx:ev f x=vp b off) (hy:ev f y=vp b off)
  (hn:Ow P w0 ops md.next rest (qd_ f d (.bool false)) L N):Ow P w0 ops md (⟨d, .binOp .neq t x y t',ty,ps,af,g⟩::rest) f L N:=by
 refine Ow.pureV rfl hs (fun w=> ?_) hn
 have he: (Op.equal t (vp b off) (vp b off)).run P w= .ok true w:=by
  show(Op.equalIn 10000 t (vp b off) (vp b off)).run P w=_
  unfold Op.equalIn
  simp only[vp,Sem.run_bind,run_underlying hu w,Result.andThen_ok,zv_ hm w]
  by_cases h0:m.2=0
  ·simp[h0]
  ·simp only[h0,ne_eq,not_false_eq_true, ↓reduceIte,sameAddr,beq_self_eq_true]
   rfl
 simp only[execOp,Sem.run_bind,hx,hy]
 have hg: (eqGuard .neq t x y (vp b off) (vp b off)).run P w= .ok () w:=rfl
 have hb:binOp .neq t (vp b off) (vp b off)=(do pure (.bool (!(←Op.equal t (vp b off) (vp b off)))):Sem Value):=rfl
 rw[hg,Result.andThen_ok,hb,Sem.run_bind,he]
 rfl
theorem kZ_ {w0:World} {L:zb_} {b c:Nat} {x:Obj} (h:b≠c):zk_ w0 (setB L b x) c=zk_ w0 L c:=by
 unfold zk_;rw[xP_ h]
theorem Ow.callExt {l:List Operand} {ts:Array TypeId} {k:FuncId} {v:Value} {md':Md} (he:md.turn=some md')
  (hs:zg_ ops f ⟨d, .call ⟨.value (.func k),l.toArray,ts⟩,ty,ps,af,g⟩=false)
  (hv: ∀w,(callFunc k (l.map (ev f)).toArray).run P w= .ok (.value v) w)
  (hn:Ow P w0 ops md' rest (qd_ f d v) L N):
  Ow P w0 ops md (⟨d, .call ⟨.value (.func k),l.toArray,ts⟩,ty,ps,af,g⟩::rest) f L N:=by
 refine Ow.step he rfl hs fun w hw=> .inl ⟨v,w,L, ?_,hw,hn⟩
 have:=hv w
 simp only[execOp,resolve,Deferred.ofValue,ev,Sem.run_bind,Sem.run_pure,Result.andThen_ok,invoke]
 simpa using this
theorem Ow.minI {x y:Operand} {ts:Array TypeId} {a b:Int} (hs:zg_ ops f ⟨d, .call ⟨.builtin .min, #[x,y],ts⟩,ty,ps,af,g⟩=false) (hx:ev f x=vi a) (hy:ev f y=vi b)
  (hn:Ow P w0 ops md.next rest (qd_ f d (vi (if b<a then b else a))) L N):Ow P w0 ops md (⟨d, .call ⟨.builtin .min, #[x,y],ts⟩,ty,ps,af,g⟩::rest) f L N:=by
 refine Ow.calm rfl rfl hs (fun w hw=> .inl ⟨vi (if b<a then b else a),w,L, ?_,hw,rfl,rfl⟩) hn
 simp only[execOp,resolve,Sem.run_bind,Sem.run_pure,Result.andThen_ok,invoke,builtin,List.map_toArray,List.map_cons,List.map_nil,hx,hy]
 rfl
theorem Ow.maxI {x y:Operand} {ts:Array TypeId} {a b:Int} (hs:zg_ ops f ⟨d, .call ⟨.builtin .max, #[x,y],ts⟩,ty,ps,af,g⟩=false) (hx:ev f x=vi a) (hy:ev f y=vi b)
  (hn:Ow P w0 ops md.next rest (qd_ f d (vi (if b>a then b else a))) L N):Ow P w0 ops md (⟨d, .call ⟨.builtin .max, #[x,y],ts⟩,ty,ps,af,g⟩::rest) f L N:=by
 refine Ow.calm rfl rfl hs (fun w hw=> .inl ⟨vi (if b>a then b else a),w,L, ?_,hw,rfl,rfl⟩) hn
 simp only[execOp,resolve,Sem.run_bind,Sem.run_pure,Result.andThen_ok,invoke,builtin,List.map_toArray,List.map_cons,List.map_nil,hx,hy]
 rfl
end
structure Ext (w:World) (X D:zb_):Prop where
 new: ∀c,c∈keys D→c∈keys X∨w.heap.size≤c
 all: ∀c,c∈keys X→c∈keys D
theorem Ext.refl (w:World) (X:zb_):Ext w X X:=⟨fun _ h=> .inl h,fun _ h=>h⟩
theorem Ext.setB {w:World} {X D:zb_} {b:Nat} {o:Obj} (h:Ext w X D):Ext w X (setB D b o):=⟨fun c hc=>h.new c (by rwa [xH_] at hc),fun c hc=>by rw[xH_];exact h.all c hc⟩
theorem Ext.app {w:World} {X D:zb_} {b:Nat} {o:Obj} (h:Ext w X D) (hb:w.heap.size≤b):Ext w X (D++ [(b,o)]):=
 ⟨fun c hc=>by
  rw[ze_] at hc
  rcases List.mem_append.1 hc with hc|hc
  ·exact h.new c hc
  ·simp only[keys,List.map_cons,List.map_nil,List.mem_singleton] at hc
   exact .inr (hc▸hb),fun c hc=>by rw[ze_];exact List.mem_append_left _ (h.all c hc)⟩
theorem Ext.grew {w:World} {X D D':zb_} {v:Value} (h:Ext w X D) (hg:Grew w v D D'):Ext w X D':=
 ⟨fun c hc=>by
  rcases hg.new c hc with hc| ⟨-,hc⟩
  ·exact h.new c hc
  ·exact .inr hc,fun c hc=>hg.keys c (h.all c hc)⟩
theorem Ext.keys {w:World} {X D D':zb_} (h:Ext w X D) (hk:Sx.keys D'=Sx.keys D):Ext w X D':=⟨fun c hc=>h.new c (hk▸hc),fun c hc=>hk▸h.all c hc⟩
theorem zX_ {w0:World} {L:zb_} {b:Nat} (h:b∉Sx.keys L):zk_ w0 L b=w0.heap[b]? :=by
 unfold zk_
 cases hl:look L b with
 |none=>rfl
 |some o=>exact absurd (zo_ hl) h
theorem Ext.not {w:World} {X D:zb_} (h:Ext w X D) {b:Nat} (hb:b<w.heap.size) (hn:b∉Sx.keys X):b∉Sx.keys D:=fun hm=>by
 rcases h.new b hm with h|h
 ·exact hn h
 ·omega
theorem Ext.old {w:World} {X D:zb_} (h:Ext w X D) {b:Nat} {o:Obj} (hb:w.heap[b]? =some o) (hn:b∉Sx.keys X):zk_ w D b=some o:=by
 rw[zX_ (h.not (Array.getElem?_eq_some_iff.1 hb).1 hn)];exact hb
def XS (w:World) (X:zb_) (S:Value→zb_→Prop) (v:Value) (D:zb_):Prop:=Ext w X D∧S v D
structure Came (w0:World) (L X D:zb_):Prop where
 new: ∀c,c∈Sx.keys D→c∈Sx.keys X∨(jM_ L c∧w0.heap.size≤c)
 all: ∀c,c∈Sx.keys X→c∈Sx.keys D
theorem Ext.came {w:World} {X D D' Y L:zb_} (h:Ext w X (D++Y)) (hc:Came w L D D'):Ext w X (D'++Y):=by
 refine⟨fun c hm=> ?_,fun c hm=> ?_⟩
 ·rw[ze_] at hm
  rcases List.mem_append.1 hm with hm|hm
  ·rcases hc.new c hm with hm| ⟨-,hm⟩
   ·exact h.new c (by rw[ze_];exact List.mem_append_left _ hm)
   ·exact .inr hm
  ·exact h.new c (by rw[ze_];exact List.mem_append_right _ hm)
 ·have:=h.all c hm
  rw[ze_] at this ⊢
  rcases List.mem_append.1 this with hm|hm
  ·exact List.mem_append_left _ (hc.all c hm)
  ·exact List.mem_append_right _ hm
theorem Ext.came0 {w:World} {X D D' L:zb_} (h:Ext w X D) (hc:Came w L D D'):Ext w X D':=by
 have:=Ext.came (Y:= []) (by simpa using h) hc
 simpa using this
theorem Hp.ownX {w0 w:World} {X:zb_} (h:Hp w0 [] w) (hX: ∀p,p∈X→w0.heap[p.1]? =some p.2) (hn: (keys X).Nodup):Hp w0 X w:=by
 refine⟨fun b o hm=> ?_,hn,fun b hb _=>h.old b hb (by simp[keys]),h.size,h.tape,h.os,h.output⟩
 have:=hX (b,o) hm
 simp only at this
 rw[h.old b (Array.getElem?_eq_some_iff.1 this).1 (by simp[keys])]
 exact this
theorem Rets.enterX {P:Program} {k:FuncId} {fn:Func} {c:Code} {rs:List ResultVar} {args:Array Value} {w:World} {S:Value→zb_→Prop} {n:Nat} {X:zb_}
  (hf:P.funcs[k]? =some fn) (hb:fn.body=some c) (hr:fn.results=rs.toArray) (hn:fn.ntmps=n) (hX: ∀p,p∈X→w.heap[p.1]? =some p.2) (hnd: (keys X).Nodup)
  (h:Cw P w c (args.toList++List.replicate (n - args.size) undef) X (retK P w rs (XS w X S))):Rets P k args w (XS w X S):=
 Rets.enter hf hb hr hn fun w' hw'=>h w' (hw'.ownX hX hnd)
section
variable {P:Program} {w0:World} {f:Fr} {L:zb_} {N:Fr→zb_→Prop} {ops:Array Oper} {rest:List Oper} {md:Md}
 {d:Option Tmp} {ty:TypeId} {ps:String} {af:Array Edge} {g:Option (Nat×Bool)}
theorem Ow.callX {l:List Operand} {ts:Array TypeId} {k:FuncId} {X Y:zb_} {S:Value→zb_→Prop} {md':Md} (hL:L=X++Y) (he:md.turn=some md')
  (hs:zg_ ops f ⟨d, .call ⟨.value (.func k),l.toArray,ts⟩,ty,ps,af,g⟩=false)
  (hk: ∀a w,(callFunc k a).run P w= .ok (.enter k a) w)
  (hc: ∀w,Hp w0 L w→(∀p,p∈X→w.heap[p.1]? =some p.2)→(keys X).Nodup→Rets P k (l.map (ev f)).toArray w (XS w X S))
  (hn: ∀v D,Came w0 L X D→S v D→Ow P w0 ops md' rest (qd_ f d v) (D++Y) N):
  Ow P w0 ops md (⟨d, .call ⟨.value (.func k),l.toArray,ts⟩,ty,ps,af,g⟩::rest) f L N:=by
 subst hL
 have hnd: ∀w,Hp w0 (X++Y) w→(keys X).Nodup∧ ∀c,c∈keys Y→c∉keys X:=by
  intro w hw
  have:=hw.nodup
  rw[ze_,List.nodup_append] at this
  exact⟨this.1,fun c hc hx=>this.2.2 c hx c hc rfl⟩
 refine Ow.callF (S:=fun B v D=>((∀c,c∈keys D→c∈keys X∨B≤c)∧(∀c,c∈keys X→c∈keys D)∧S v D)∧ ∃w,Hp w0 (X++Y) w∧w.heap.size=B) he hs hk (fun w hw=> ?_) ?_
 ·refine Calls.mono (hc w hw (fun p hp=>hw.has _ _ (List.mem_append_left _ hp)) (hnd w hw).1) ?_
  rintro e w' ⟨v,D,he,hp,hS⟩
  exact⟨v,D,he,hp,⟨hS.1.new,hS.1.all,hS.2⟩,w,hw,rfl⟩
 ·rintro B v D hab hB ⟨⟨h1,h2,h3⟩,w1,hw1,hwB⟩
  refine⟨D++Y, ?_,hn v D ⟨fun c hc=>(h1 c hc).imp id fun h=>⟨z2_ fun b hb=>by have:=hw1.lt hb;omega,by have:=hw1.size;omega⟩,h2⟩ h3⟩
  intro w w' hwb h k
  have ht:=h.trans k
  have hY: ∀c,c∈keys Y→c∉keys D:=by
   intro c hc hd
   rcases h1 c hd with hx|hx
   ·exact(hnd w h).2 c hc hx
   ·have:=h.lt (b:=c) (by rw[ze_];exact List.mem_append_right _ hc)
    omega
  have e1:X.filter (fun p=> !(keys D).contains p.1)= []:=by
   rw[List.filter_eq_nil_iff]
   intro p hp
   have:=h2 p.1 (List.mem_map.2 ⟨p,hp,rfl⟩)
   simpa using this
  have e2:Y.filter (fun p=> !(keys D).contains p.1)=Y:=je_ hY
  rw[List.filter_append,e1,e2,List.nil_append] at ht
  refine ht.same (fun p=>by simp[or_comm]) ?_
  have:=ht.nodup
  rw[ze_] at this ⊢
  exact(List.perm_append_comm.nodup_iff).1 this
end
structure OneS {α:Type} (enc:α→Value) (z:α) (w:World) (v:Value) (l:List α) (b off:Nat) (arr:Array Value) (E:TypeId) (fz:Nat×Nat):Prop where
 len: ∀m,wt_ (.sl m) v=some (vi l.length)
 idx: ∀m (k:Nat),k<l.length→z3_ (.sl m) v (some (k:Int))=some (vp b (off+k*m.2))
 has:0<l.length→w.heap[b]? =some (.cells arr E fz)
 get: ∀k,k<l.length→arr[off+k]? =some (enc (l.getD k z))
theorem OneS.sl {α:Type} {enc:α→Value} {z:α} {w:World} {l:List α} {b off n c:Nat} {arr:Array Value} {E:TypeId} {fz:Nat×Nat} (hn:n=l.length)
  (has:w.heap[b]? =some (.cells arr E fz)) (get: ∀k,k<l.length→arr[off+k]? =some (enc (l.getD k z))):OneS enc z w (vsl b off n c) l b off arr E fz:=by
 subst hn
 exact⟨fun _=>rfl,fun m k h=>by rw[qz_ _ _ _ _ _ _ (by omega)];simp,fun _=>has,get⟩
theorem OneS.lit {α:Type} {enc:α→Value} {z:α} {w:World} {b n c:Nat} {E:TypeId} {fz:Nat×Nat} {arr:Array Value} (l:List α) (hn:n=l.length) (ha:arr=(l.map enc).toArray) (has:w.heap[b]? =some (.cells arr E fz)):OneS enc z w (vsl b 0 n c) l b 0 arr E fz:=
 OneS.sl hn has (by intro k hk;rw[ha,Nat.zero_add,List.getElem?_toArray,List.getElem?_map,List.getD_eq_getElem?_getD,List.getElem?_eq_getElem hk];rfl)
structure RowS {α:Type} (m:Nat) (enc:α→List Value) (z:α) (w:World) (v:Value) (l:List α) (b off:Nat) (arr:Array Value) (E:TypeId) (fz:Nat×Nat):Prop where
 len: ∀x,wt_ (.sl x) v=some (vi l.length)
 idx: ∀a (k:Nat),k<l.length→z3_ (.sl (a,m)) v (some (k:Int))=some (vp b (off+k*m))
 has:0<l.length→w.heap[b]? =some (.cells arr E fz)
 get: ∀k,k<l.length→ ∀j,j<m→arr[off+k*m+j]? =(enc (l.getD k z))[j]?
theorem RowS.sl {α:Type} {m:Nat} {enc:α→List Value} {z:α} {w:World} {l:List α} {b off n c:Nat} {arr:Array Value} {E:TypeId} {fz:Nat×Nat} (hn:n=l.length)
  (has:w.heap[b]? =some (.cells arr E fz)) (get: ∀k,k<l.length→ ∀j,j<m→arr[off+k*m+j]? =(enc (l.getD k z))[j]?):RowS m enc z w (vsl b off n c) l b off arr E fz:=by
 subst hn
 exact⟨fun _=>rfl,fun a k h=>by rw[qz_ _ _ _ _ _ _ (by omega)];simp,fun _=>has,get⟩
theorem RowS.nil {α:Type} {m:Nat} {enc:α→List Value} {z:α} (w:World) (n c:Nat) (hn:n=0):RowS m enc z w (.slice none n c) [] 0 0 #[] 0 (0,0):=by
 subst hn
 exact⟨fun _=>rfl,fun _ _ h=>absurd h (Nat.not_lt_zero _),fun h=>absurd h (Nat.not_lt_zero _),fun _ h=>absurd h (Nat.not_lt_zero _)⟩
theorem RowS.load {α:Type} {m:Nat} {enc:α→List Value} {z:α} {w:World} {v:Value} {l:List α} {b off:Nat} {arr:Array Value} {E:TypeId} {fz:Nat×Nat} (h:RowS m enc z w v l b off arr E fz) (hm: ∀x,(enc x).length=m) (h0:0<m) {k:Nat} (hk:k<l.length):
  zl_ (some (true,m)) (some (.cells arr E fz)) (off+k*m)=some (.agg (enc (l.getD k z)).toArray):=by
 have hg:=h.get k hk
 have hsz:off+k*m+m≤arr.size:=by
  have h1:=hg (m - 1) (by omega)
  rw[List.getElem?_eq_getElem (by rw[hm];omega)] at h1
  have:=(Array.getElem?_eq_some_iff.1 h1).1
  omega
 simp only[zl_,hsz, ↓reduceIte]
 congr 2
 apply Array.ext_getElem?
 intro j
 rw[Array.getElem?_extract]
 by_cases hj:j<m
 ·rw[if_pos (by omega),hg j hj,List.getElem?_toArray]
 ·rw[if_neg (by omega),List.getElem?_toArray,List.getElem?_eq_none (by rw[hm];omega)]
theorem RowS.cell {α:Type} {m:Nat} {enc:α→List Value} {z:α} {w:World} {v:Value} {l:List α} {b off:Nat} {arr:Array Value} {E:TypeId} {fz:Nat×Nat} (h:RowS m enc z w v l b off arr E fz) {k j n:Nat} (hk:k<l.length) (hj:j<m):
  zl_ (some (false,n)) (some (.cells arr E fz)) (off+k*m+j)=(enc (l.getD k z))[j]? :=h.get k hk j hj
end Go.Sx
namespace Go.Sx
open Go
theorem ahG_ (A B C:List Value) {o n:Nat} (hA:A.length=o) (hB:B.length=n): (A++ (B++C)).toArray.extract o (o+n)=B.toArray:=by
 subst hA;subst hB
 rw[List.extract_toArray,List.extract_eq_take_drop,List.drop_left,Nat.add_sub_cancel_left,List.take_left]
theorem aoK_ (A C:List Value) (v:Value) {o:Nat} (hA:A.length=o): (A++ ([v]++C)).toArray[o]? =some v:=by
 subst hA;simp
theorem aem_ (A C:List Value) (v:Value) {o:Nat} (hA:A.length=o): (A++ ([v]++C))[o]? =some v:=by
 subst hA;simp
theorem kL_ (A B C:List Value) {o n:Nat} (E:TypeId) (fz:Nat×Nat) (hA:A.length=o) (hB:B.length=n):zl_ (some (true,n)) (some (.cells (A++ (B++C)).toArray E fz)) o=some (.agg B.toArray):=by
 have hs:o+n≤ (A++ (B++C)).toArray.size:=by
  simp only[List.size_toArray,List.length_append];omega
 unfold zl_
 simp only[hs, ↓reduceIte]
 rw[ahG_ A B C hA hB]
theorem kE_ (A C:List Value) (v:Value) {o:Nat} (n:Nat) (E:TypeId) (fz:Nat×Nat) (hA:A.length=o):zl_ (some (false,n)) (some (.cells (A++ ([v]++C)).toArray E fz)) o=some v:=by
 rw[loadV_one];exact aoK_ A C v hA
theorem qt_ (A B B' C:List Value) {o n:Nat} (a:Bool) (x:Value) (E:TypeId) (hA:A.length=o) (hB:B.length=n) (hx:x.cells=B'.toArray) (hB':B'.length=n) (ho:B'.all Value.oneCell'=true):
  zn_ (some (a,n)) (some (.cells (A++ (B++C)).toArray E (0,0))) o x=some (.cells (A++ (B'++C)).toArray E (0,0)):=by
 subst hA
 have hp:=QC_ B' A B C (by rw[hB,hB'])
 rw[List.append_assoc,List.append_assoc] at hp
 unfold zn_
 simp only[hx]
 rw[if_pos ⟨by rw[List.size_toArray,hB'],by simp only[List.size_toArray,List.length_append];omega, .inl (Nat.le_refl 0),ho⟩,hp]
theorem j2_ (cs:List Value) {n:Nat} (a:Bool) (old:Array Value) (E:TypeId) (hn:cs.length=n) (ho:cs.all Value.oneCell'=true) (h:old.size=n):
  zn_ (some (a,n)) (some (.cells old E (0,0))) 0 (.agg cs.toArray)=some (.cells cs.toArray E (0,0)):=
 wB_ n a cs.toArray old E ⟨by rw[List.size_toArray,hn],h⟩ ho
theorem XP_ (l:List UInt8): (l.map v8).all Value.oneCell'=true:=by
 rw[List.all_map]
 exact List.all_eq_true.2 fun x _=>rfl
theorem RowS.part {α:Type} {m:Nat} {enc:α→List Value} {z:α} {w:World} {v:Value} {l:List α} {b off:Nat} {arr:Array Value} {E:TypeId} {fz:Nat×Nat} (h:RowS m enc z w v l b off arr E fz) (hm: ∀x,(enc x).length=m) {k o n:Nat} (hk:k<l.length) (ho:o+n≤m) (hn:0<n):
  zl_ (some (true,n)) (some (.cells arr E fz)) (off+k*m+o)=some (.agg ((enc (l.getD k z)).toArray.extract o (o+n))):=by
 have hg: ∀i,i<n→arr[off+k*m+ (o+i)]? =(enc (l.getD k z))[o+i]? :=fun i hi=>h.get k hk (o+i) (by omega)
 have hlen:=hm (l.getD k z)
 have hsz:off+k*m+o+n≤arr.size:=by
  have h1:=hg (n - 1) (by omega)
  rw[List.getElem?_eq_getElem (by omega)] at h1
  have:=(Array.getElem?_eq_some_iff.1 h1).1
  omega
 unfold zl_
 simp only[hsz, ↓reduceIte]
 congr 2
 apply Array.ext_getElem?
 intro i
 by_cases hi:i<n
 ·rw[Array.getElem?_extract,Array.getElem?_extract,if_pos (by omega),if_pos (by rw[List.size_toArray];omega)]
  have hh:=hg i hi
  rw[show off+k*m+ (o+i)=off+k*m+o+i by omega] at hh
  rw[hh]
  exact(List.getElem?_toArray ..).symm
 ·rw[Array.getElem?_eq_none (by rw[Array.size_extract];omega),Array.getElem?_eq_none (by rw[Array.size_extract];omega)]
end Go.Sx
namespace Go.Sx
open Go
theorem Cw.forget {P:Program} {w0:World} {c:Code} {f:Fr} {L:zb_} {K:xp_} (M:zb_) (hM: ∀p,p∈M→p∈L) (hn: (keys M).Nodup) (hnew: ∀p,p∈L→p.1∉keys M→w0.heap.size≤p.1)
  (h:Cw P w0 c f M K):Cw P w0 c f L K:=fun w hw=>h w (hw.drop hM hn fun p hp hlt hk=>by have:=hnew p hp hk;omega)
end Go.Sx
namespace Go.Sx
open Go
def SlV {α:Type} (m:Nat) (enc:α→List Value) (z:α) (w:World) (v:Value) (l:List α):Prop:=
 ∃b off c arr E fz,RowS m enc z w v l b off arr E fz∧l.length≤c∧((v= .slice none 0 0∧l= []∧c=0)∨(v=vsl b off l.length c∧w.heap[b]? =some (.cells arr E fz)∧off+l.length*m≤arr.size))
section
variable {α:Type} {m:Nat} {enc:α→List Value} {z:α} {w:World} {v:Value} {l:List α}
theorem RowS.sl' {b off n c:Nat} {arr:Array Value} {E:TypeId} {fz:Nat×Nat} (hn:n=l.length)
  (has:0<l.length→w.heap[b]? =some (.cells arr E fz)) (get: ∀k,k<l.length→ ∀j,j<m→arr[off+k*m+j]? =(enc (l.getD k z))[j]?):RowS m enc z w (vsl b off n c) l b off arr E fz:=by
 subst hn
 exact⟨fun x=>rfl,fun a k hk=>qz_ _ _ _ _ _ _ ⟨by omega,by omega⟩,has,get⟩
theorem SlV.nil (w:World):SlV m enc z w (.slice none 0 0) []:=⟨0,0,0, #[],0,(0,0),RowS.nil w 0 0 rfl,Nat.le_refl _, .inl ⟨rfl,rfl,rfl⟩⟩
theorem SlV.row (h:SlV m enc z w v l): ∃b off arr E fz,RowS m enc z w v l b off arr E fz:=by
 obtain⟨b,off,c,arr,E,fz,hr,-⟩:=h;exact⟨b,off,arr,E,fz,hr⟩
theorem SlV.sl {b off c:Nat} {arr:Array Value} {E:TypeId} {fz:Nat×Nat} (has:w.heap[b]? =some (.cells arr E fz)) (get: ∀k,k<l.length→ ∀j,j<m→arr[off+k*m+j]? =(enc (l.getD k z))[j]?) (hc:l.length≤c) (hs:off+l.length*m≤arr.size):SlV m enc z w (vsl b off l.length c) l:=
 ⟨b,off,c,arr,E,fz,RowS.sl rfl has get,hc, .inr ⟨rfl,has,hs⟩⟩
theorem RowS.old {w':World} {b off:Nat} {arr:Array Value} {E:TypeId} {fz:Nat×Nat} {L:zb_} (h:RowS m enc z w v l b off arr E fz) (hw:Hp w L w') (hb:0<l.length→b∉keys L):RowS m enc z w' v l b off arr E fz:=
 ⟨h.len,h.idx,fun hl=>by have hh:=h.has hl;rw[hw.old b (Array.getElem?_eq_some_iff.1 hh).1 (hb hl)];exact hh,h.get⟩
theorem RowS.lt {b off:Nat} {arr:Array Value} {E:TypeId} {fz:Nat×Nat} (h:RowS m enc z w v l b off arr E fz) (hl:0<l.length):b<w.heap.size:=(Array.getElem?_eq_some_iff.1 (h.has hl)).1
theorem SlV.old {w':World} {L:zb_} (h:SlV m enc z w v l) (hw:Hp w L w') (hb: ∀b,slB v=some b→b<w.heap.size→b∉keys L):SlV m enc z w' v l:=by
 obtain⟨b,off,c,arr,E,fz,hr,hc,hv⟩:=h
 rcases hv with⟨rfl,rfl,rfl⟩ | ⟨rfl,hhas,hsz⟩
 ·exact SlV.nil w'
 ·have hnb:=hb b rfl (Array.getElem?_eq_some_iff.1 hhas).1
  refine⟨b,off,c,arr,E,fz,hr.old hw (fun _=>hnb),hc, .inr ⟨rfl, ?_,hsz⟩⟩
  rw[hw.old b (Array.getElem?_eq_some_iff.1 hhas).1 hnb];exact hhas
theorem New.not {L:zb_} {n b:Nat} (h:New n L) (hb:b<n):b∉keys L:=fun hm=>by have:=h.le b hm;omega
theorem SlV.oldN {w':World} {L:zb_} (h:SlV m enc z w v l) (hw:Hp w L w') (hn:New w.heap.size L):SlV m enc z w' v l:=h.old hw fun _ _ hb=>hn.not hb
theorem SlV.len (h:SlV m enc z w v l) (x:Bool×Nat):wt_ (.sl x) v=some (vi l.length):=by
 obtain⟨b,off,arr,E,fz,hr⟩:=h.row
 exact hr.len x
theorem SlV.take (h:SlV m enc z w v l) {k:Nat} (hk:k≤l.length) (a:Bool): ∃v',qs_ (.sl (a,m)) v none (some (some (k:Int)))=some v'∧SlV m enc z w v' (l.take k)∧(∀b,slB v'=some b→slB v=some b):=by
 obtain⟨b,off,c,arr,E,fz,hr,hc,hv⟩:=h
 have hl: (l.take k).length=k:=by simp;omega
 rcases hv with⟨rfl,rfl,rfl⟩ | ⟨rfl,hhas,hsz⟩
 ·obtain rfl:k=0:=by simpa using hk
  refine⟨.slice none 0 0,rfl,SlV.nil w,fun b hb=>hb⟩
 ·refine⟨vsl b off k c, ?_, ?_,fun b hb=>hb⟩
  ·unfold qs_ vsl
   simp only[ahY_ _ _ _ (⟨by omega,by omega⟩: (0:Int)≤ (k:Int)∧(k:Int)≤ (c:Int)),Int.toNat_natCast,Nat.zero_mul,Nat.sub_zero,Option.map_some,qB_,Nat.add_zero]
   split<;>rfl
  ·refine⟨b,off,c,arr,E,fz,RowS.sl' hl.symm (fun h0=>hr.has (by omega)) ?_,by omega, .inr ⟨by rw[hl],hhas,by rw[hl];have:k*m≤l.length*m:=Nat.mul_le_mul_right _ hk;omega⟩⟩
   ·intro i hi j hj
    rw[hl] at hi
    rw[hr.get i (by omega) j hj]
    congr 2
    rw[List.getD_eq_getElem?_getD,List.getD_eq_getElem?_getD,List.getElem?_take_of_lt hi]
theorem Buf.slM {L:zb_} {E:TypeId} {n:Nat} {cs:List Value} (h:Buf L E m v n cs) (hw: ∀b o,(b,o)∈L→w.heap[b]? =some o) (hl:l.length=n) (hcs:cs=(l.map enc).flatten) (hm: ∀x,(enc x).length=m):SlV m enc z w v l:=by
 rcases h.inv with⟨rfl,rfl,rfl⟩ | ⟨b,c,rest,rfl,hlk,hlen,hnc,h0,hrest⟩
 ·have:l= []:=by simpa using hl
  subst this;exact SlV.nil w
 ·subst hl
  refine SlV.sl (hw _ _ (zw_ hlk)) ?_ hnc (by rw[List.size_toArray,List.length_append,hlen];omega)
  intro k hk j hj
  rw[Nat.zero_add,List.getElem?_toArray,List.getElem?_append_left (by rw[hlen];have: (k+1)*m≤l.length*m:=Nat.mul_le_mul_right _ hk;rw[Nat.add_mul,Nat.one_mul] at this;omega),hcs]
  clear hlen hrest hlk hcs hnc h
  induction l generalizing k with
  |nil=>simp at hk
  |cons x r ih=>
   rw[List.map_cons,List.flatten_cons]
   cases k with
   |zero=>
    rw[Nat.zero_mul,Nat.zero_add,List.getElem?_append_left (by rw[hm];exact hj),List.getD_cons_zero]
   |succ k=>
    rw[List.getElem?_append_right (by rw[hm,Nat.add_mul,Nat.one_mul];omega),hm,List.getD_cons_succ]
    have:=ih (k:=k) (by simpa using hk)
    rw[←this]
    congr 1
    rw[Nat.add_mul,Nat.one_mul];omega
theorem Buf.slV {L:zb_} {E:TypeId} {n:Nat} {cs:List Value} {w0:World} (h:Buf L E m v n cs) (hw:Hp w0 L w) (hl:l.length=n) (hcs:cs=(l.map enc).flatten) (hm: ∀x,(enc x).length=m):SlV m enc z w v l:=h.slM hw.has hl hcs hm
end
end Go.Sx
namespace Go.Sx
open Go Go.Proofs Go.Shelf Go.Sort
section
variable {α:Type} [Inhabited α] {enc:α→List Value} {k:Nat}
theorem VJ_ (hk: ∀x,(enc x).length=k): ∀ (l:List α) (t:Nat),t<l.length*k→(l.map enc).flatten[t]? =some ((enc l[t / k]!)[t%k]!)
 | [],t,h=>by simp at h
 |x::r,t,h=>by
  have k0:0<k:=by
   rcases Nat.eq_zero_or_pos k with h0|h0
   ·subst h0;simp at h
   ·exact h0
  rw[List.map_cons,List.flatten_cons]
  by_cases ht:t<k
  ·rw[List.getElem?_append_left (by rw[hk];exact ht),Nat.div_eq_of_lt ht,Nat.mod_eq_of_lt ht]
   simp only[List.getElem!_cons_zero]
   rw[getElem!_pos (enc x) t (by rw[hk];exact ht),List.getElem?_eq_getElem]
  ·obtain⟨u,rfl⟩: ∃u,t=k+u:=⟨t - k,by omega⟩
   have hl: (x::r).length*k=r.length*k+k:=by rw[List.length_cons,Nat.add_mul,Nat.one_mul]
   rw[List.getElem?_append_right (by rw[hk];omega),hk,Nat.add_sub_cancel_left,VJ_ hk r u (by omega)]
   rw[Nat.add_div_left u k0,Nat.add_mod_left]
   simp
theorem adT_ (hk: ∀x,(enc x).length=k) (l:List α):flatK enc k l.toArray=(l.map enc).flatten.toArray:=by
 have hl: (l.map enc).flatten.length=l.length*k:=by
  induction l with
  |nil=>simp
  |cons x r ih=>rw[List.map_cons,List.flatten_cons,List.length_append,ih,hk,List.length_cons,Nat.add_mul,Nat.one_mul];omega
 apply Array.ext
 ·rw[size_flatK,List.size_toArray,List.size_toArray,hl]
 ·intro t h1 h2
  rw[size_flatK,List.size_toArray] at h1
  have h:=VJ_ hk l t h1
  have h3:=get_flatK enc k l.toArray t (by rw[List.size_toArray];exact h1)
  rw[getElem!_pos _ t (by rw[size_flatK,List.size_toArray];exact h1)] at h3
  rw[h3]
  have h4: (l.map enc).flatten.toArray[t]? =some ((enc l[t / k]!)[t%k]!):=by rw[List.getElem?_toArray];exact h
  rw[Array.getElem?_eq_getElem h2] at h4
  have:=Option.some.inj h4
  rw[this]
  simp
theorem aa5_ {F F' rest:List Value} (h:F.length=F'.length):putCells id 0 F'.toArray (F++rest).toArray=(F'++rest).toArray:=by
 unfold putCells
 apply Array.ext
 ·simp[h]
 ·intro t h1 h2
  simp only[Array.getElem_mapIdx,List.getElem_toArray,List.size_toArray,Nat.zero_le,true_and,Nat.zero_add,Nat.sub_zero,id]
  split
  ·rename_i ht
   rw[getElem!_pos _ t (by simpa using ht),List.getElem_toArray,List.getElem_append_left ht]
  ·rename_i ht
   rw[List.getElem_append_right (by omega),List.getElem_append_right (by omega)]
   simp only[h]
theorem aaK_ {P:Program} {ρ:Ren} (L:SlLaysF0.n6 P ρ) (p:Option Addr) (c:Nat) (fv:Value) (w:World):Rets P (ρ.f 6) #[.slice p 0 c,fv] w (fun v D=>v= .tuple #[]∧D= []):=
 Calls.mono (AnyF.slices_SortFunc_none L p c fv w) fun _ _ ⟨he,hw⟩=>⟨_,[],he,by rw[hw];exact Hp.refl w,rfl,rfl⟩
end
end Go.Sx
