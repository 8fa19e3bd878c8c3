/-
  Part 0 of the walk: contracts of the functions that the law reaches, and the calculus they stand on.
  No conditions.
-/
import Derived.WalkKit
import Derived.Deep.LoopGhost
import Derived.ScopeJumps
namespace Go.Sx
open Go
abbrev aA:=List (Nat×Obj)
def keys (L:aA):List Nat:=L.map Prod.fst
def look:aA→Nat→Option Obj
 | [],_=>none
 | (b,o)::r,k=>if b=k then some o else look r k
def setB:aA→Nat→Obj→aA
 | [],_,_=> []
 | (b,o)::r,k,x=>if b=k then(b,x)::r else(b,o)::setB r k x
theorem cO {L:aA} {k:Nat} {o:Obj} (h:look L k=some o): (k,o)∈L:=by
 induction L with
 |nil=>cases h
 |cons p r ih=>
  obtain⟨b,x⟩:=p
  unfold look at h
  split at h
  ·rename_i e
   cases h;subst e;exact List.mem_cons_self
  ·exact List.mem_cons_of_mem _ (ih h)
theorem Ej {L:aA} {k:Nat} (h:look L k=none):k∉keys L:=by
 induction L with
 |nil=>intro h;cases h
 |cons p r ih=>
  obtain⟨b,x⟩:=p
  unfold look at h
  split at h
  ·cases h
  ·rename_i e
   intro hm
   rcases List.mem_cons.1 hm with h'|h'
   ·exact e h'.symm
   ·exact ih h h'
theorem pg (L:aA) (k:Nat) (x:Obj):keys (setB L k x)=keys L:=by
 induction L with
 |nil=>rfl
 |cons p r ih=>
  obtain⟨b,o⟩:=p
  unfold setB
  split
  ·rfl
  ·simp only[keys,List.map_cons] at ih ⊢
   rw[ih]
theorem AP {L:aA} (hn: (keys L).Nodup) {k b:Nat} {x o:Obj} (h: (b,o)∈setB L k x): (b=k∧o=x)∨(b≠k∧(b,o)∈L):=by
 induction L with
 |nil=>cases h
 |cons p r ih=>
  obtain⟨c,y⟩:=p
  simp only[keys,List.map_cons,List.nodup_cons] at hn
  unfold setB at h
  split at h
  ·rename_i e
   rcases List.mem_cons.1 h with h'|h'
   ·simp only[Prod.mk.injEq] at h'
    exact .inl ⟨h'.1.trans e,h'.2⟩
   ·refine .inr ⟨?_,List.mem_cons_of_mem _ h'⟩
    intro e2
    exact hn.1 (by rw[e,←e2];exact List.mem_map.2 ⟨_,h',rfl⟩)
  ·rename_i e
   rcases List.mem_cons.1 h with h'|h'
   ·simp only[Prod.mk.injEq] at h'
    refine .inr ⟨by rw[h'.1];exact e, ?_⟩
    rw[h'.1,h'.2];exact List.mem_cons_self
   ·rcases ih hn.2 h' with h2|h2
    ·exact .inl h2
    ·exact .inr ⟨h2.1,List.mem_cons_of_mem _ h2.2⟩
structure Hp (w0:World) (L:aA) (w:World):Prop where
 has: ∀b o,(b,o)∈L→w.heap[b]? =some o
 nodup: (keys L).Nodup
 old: ∀b,b<w0.heap.size→b∉keys L→w.heap[b]? =w0.heap[b]?
 size:w0.heap.size≤w.heap.size
 tape:w.tape=w0.tape
 os:w.os=w0.os
 output:w.output=w0.output
theorem Hp.refl (w:World):Hp w [] w:=
 ⟨fun _ _ h=>(by cases h),List.nodup_nil,fun _ _ _=>rfl,Nat.le_refl _,rfl,rfl,rfl⟩
theorem Hp.lt {w0 w:World} {L:aA} (h:Hp w0 L w) {b:Nat} (hb:b∈keys L):b<w.heap.size:=by
 obtain⟨p,hp,rfl⟩:=List.mem_map.1 hb
 have:=h.has p.1 p.2 hp
 exact(Array.getElem?_eq_some_iff.1 this).1
theorem Hp.of_heap {w0 w w':World} {L:aA} (h:Hp w0 L w) (hh:w'.heap=w.heap) (ht:w'.tape=w.tape) (ho:w'.os=w.os) (hu:w'.output=w.output):Hp w0 L w':=
 ⟨by rw[hh];exact h.has,h.nodup,by rw[hh];exact h.old,by rw[hh];exact h.size,ht.trans h.tape,ho.trans h.os,hu.trans h.output⟩
theorem Hp.drew {w0 w:World} {L:aA} (h:Hp w0 L w):Hp w0 L w.drew:=h.of_heap rfl rfl rfl rfl
theorem Hp.alloc {w0 w:World} {L:aA} (h:Hp w0 L w) (o:Obj):Hp w0 (L++ [(w.heap.size,o)]) (w.alloc o):=by
 have hk: ∀b,b∈keys (L++ [(w.heap.size,o)])→b∈keys L∨b=w.heap.size:=by
  intro b hb
  simp only[keys,List.map_append,List.map_cons,List.map_nil,List.mem_append,List.mem_singleton] at hb
  exact hb
 refine⟨?_, ?_, ?_, ?_,h.tape,h.os,h.output⟩
 ·intro b x hm
  rcases List.mem_append.1 hm with hm|hm
  ·have aD:b<w.heap.size:=h.lt (List.mem_map.2 ⟨_,hm,rfl⟩)
   rw[RowKit.Below.heap_alloc w o b aD];exact h.has b x hm
  ·simp only[List.mem_singleton,Prod.mk.injEq] at hm
   rw[hm.1,hm.2];exact(by show(w.heap.push o)[w.heap.size]? =some o;simp)
 ·simp only[keys,List.map_append,List.map_cons,List.map_nil]
  refine List.nodup_append.2 ⟨h.nodup,List.pairwise_singleton _ _, ?_⟩
  intro a ha b hb
  simp only[List.mem_singleton] at hb
  have:=h.lt ha
  omega
 ·intro b hb hn
  rw[RowKit.Below.heap_alloc w o b (Nat.lt_of_lt_of_le hb h.size)]
  refine h.old b hb (fun hm=>hn ?_)
  simp only[keys,List.map_append,List.mem_append]
  exact .inl hm
 ·rw[World.size_alloc];have:=h.size;omega
theorem Hp.set {w0 w w':World} {L:aA} (h:Hp w0 L w) {b:Nat} {x:Obj} (hb:b∈keys L) (hh:w'.heap=w.heap.setIfInBounds b x)
  (ht:w'.tape=w.tape) (ho:w'.os=w.os) (hu:w'.output=w.output):Hp w0 (setB L b x) w':=by
 have aD:=h.lt hb
 refine⟨?_,by rw[pg];exact h.nodup, ?_, ?_,ht.trans h.tape,ho.trans h.os,hu.trans h.output⟩
 ·intro c o hm
  rw[hh]
  rcases AP h.nodup hm with⟨rfl,rfl⟩ | ⟨aO,iA⟩
  ·simp[aD]
  ·rw[Array.getElem?_setIfInBounds_ne (Ne.symm aO)];exact h.has c o iA
 ·intro c hc hn
  rw[pg] at hn
  have aO:b≠c:=fun e=>hn (e▸hb)
  rw[hh,Array.getElem?_setIfInBounds_ne aO]
  exact h.old c hc hn
 ·rw[hh];simpa using h.size
theorem Hp.own {w0 w:World} {L:aA} (h:Hp w0 L w) {b:Nat} {o:Obj} (hb:w0.heap[b]? =some o) (hn:b∉keys L):Hp w0 (L++ [(b,o)]) w:=by
 have aD:b<w0.heap.size:=(Array.getElem?_eq_some_iff.1 hb).1
 refine⟨?_, ?_, ?_,h.size,h.tape,h.os,h.output⟩
 ·intro c x hm
  rcases List.mem_append.1 hm with hm|hm
  ·exact h.has c x hm
  ·simp only[List.mem_singleton,Prod.mk.injEq] at hm
   rw[hm.1,hm.2,h.old b aD hn];exact hb
 ·simp only[keys,List.map_append,List.map_cons,List.map_nil]
  refine List.nodup_append.2 ⟨h.nodup,List.pairwise_singleton _ _, ?_⟩
  intro a ha c hc
  simp only[List.mem_singleton] at hc
  subst hc
  exact fun e=>hn (e▸ha)
 ·intro c hc hm
  exact h.old c hc (fun iA=>hm (by simp only[keys,List.map_append,List.mem_append];exact .inl iA))
theorem Hp.drop {w0 w:World} {L M:aA} (h:Hp w0 L w) (hM: ∀p∈M,p∈L) (hn: (keys M).Nodup) (fy: ∀p∈L,p.1<w0.heap.size→p.1∉keys M→w0.heap[p.1]? =some p.2):Hp w0 M w:=by
 refine⟨fun b o hm=>h.has b o (hM _ hm),hn, ?_,h.size,h.tape,h.os,h.output⟩
 intro b hb hm
 by_cases hk:b∈keys L
 ·obtain⟨p,hp,rfl⟩:=List.mem_map.1 hk
  rw[h.has _ _ hp,fy p hp hb hm]
 ·exact h.old b hb hk
theorem Hp.trans {w0 w w':World} {L D:aA} (h:Hp w0 L w) (k:Hp w D w'):Hp w0 (L.filter (fun p=> !(keys D).contains p.1)++D) w':=by
 have hf: ∀b,b∈keys (L.filter (fun p=> !(keys D).contains p.1))↔b∈keys L∧b∉keys D:=by
  intro b
  constructor
  ·intro hb
   obtain⟨p,hp,rfl⟩:=List.mem_map.1 hb
   have:=List.mem_filter.1 hp
   refine⟨List.mem_map.2 ⟨p,this.1,rfl⟩, ?_⟩
   simpa using this.2
  ·rintro⟨hb,hn⟩
   obtain⟨p,hp,rfl⟩:=List.mem_map.1 hb
   exact List.mem_map.2 ⟨p,List.mem_filter.2 ⟨hp,by simpa using hn⟩,rfl⟩
 refine⟨?_, ?_, ?_,Nat.le_trans h.size k.size,k.tape.trans h.tape,k.os.trans h.os,k.output.trans h.output⟩
 ·intro b o hm
  rcases List.mem_append.1 hm with hm|hm
  ·have hb:b∈keys (L.filter (fun p=> !(keys D).contains p.1)):=List.mem_map.2 ⟨_,hm,rfl⟩
   have dK:=(hf b).1 hb
   rw[k.old b (h.lt dK.1) dK.2]
   exact h.has b o (List.mem_filter.1 hm).1
  ·exact k.has b o hm
 ·simp only[keys,List.map_append]
  refine List.nodup_append.2 ⟨?_,k.nodup, ?_⟩
  ·exact List.Nodup.sublist (List.Sublist.map _ List.filter_sublist) h.nodup
  ·intro a ha b hb e
   exact((hf a).1 ha).2 (e▸hb)
 ·intro b hb hn
  have aw:b∉keys L∧b∉keys D:=by
   simp only[keys,List.map_append,List.mem_append,not_or] at hn
   have hD:b∉keys D:=hn.2
   exact⟨fun hm=>hn.1 ((hf b).2 ⟨hm,hD⟩),hD⟩
  rw[k.old b (Nat.lt_of_lt_of_le hb h.size) aw.2]
  exact h.old b hb aw.1
theorem Hp.trans_nil {w0 w w':World} {L:aA} (h:Hp w0 L w) (k:Hp w [] w'):Hp w0 L w':=by
 have:=h.trans k
 rwa [show L.filter (fun p=> !(keys ([]:aA)).contains p.1)++ []=L from by simp[keys]] at this
def aP (w0:World) (L:aA) (b:Nat):Option Obj:=
 match look L b with
 |some o=>some o
 |none=>w0.heap[b]?
theorem Hp.read {w0 w:World} {L:aA} (h:Hp w0 L w) {b:Nat} {o:Obj} (hr:aP w0 L b=some o):w.heap[b]? =some o:=by
 unfold aP at hr
 split at hr
 ·rename_i o' hl
  cases hr
  exact h.has _ _ (cO hl)
 ·rename_i hl
  rw[h.old b (Array.getElem?_eq_some_iff.1 hr).1 (Ej hl)]
  exact hr
abbrev Fr:=List Value
def eC:Fr→Nat→Value
 | [],_=>undef
 |v::_,0=>v
 |_::r,n+1=>eC r n
def setF:Fr→Nat→Value→Fr
 | [],_,_=> []
 |_::r,0,x=>x::r
 |v::r,n+1,x=>v::setF r n x
def aS (f:Fr):Option Tmp→Value→Fr
 |some d,v=>setF f d v
 |none,_=>f
def ev (f:Fr):Operand→Value
 | .tmp t=>eC f t
 | .const v=>v
 | .global g=> .pointer (some ⟨g,0,none⟩)
 | .func k=> .func (.func k) #[] #[]
theorem qR (f:Fr) (t:Nat):f.toArray.getD t undef=eC f t:=by
 rw[Array.getD_eq_getD_getElem?,List.getElem?_toArray]
 induction f generalizing t with
 |nil=>rfl
 |cons v r ih=>cases t<;>simp[eC,ih]
theorem Bp (f:Fr) (d:Nat) (v:Value):f.toArray.setIfInBounds d v=(setF f d v).toArray:=by
 rw[List.setIfInBounds_toArray]
 congr 1
 induction f generalizing d with
 |nil=>rfl
 |cons x r ih=>cases d<;>simp[setF,ih]
def act (f:Fr):Act:=⟨f.toArray,[]⟩
theorem Ac (f:Fr) (x:Operand): (act f).eval x=ev f x:=by
 cases x with
 |tmp t=>exact qR f t
 |_=>rfl
theorem pj (f:Fr): (act f).eval=ev f:=funext (Ac f)
theorem fN (f:Fr) (d:Option Tmp) (v:Value): (act f).put d v=act (aS f d v):=by
 cases d with
 |none=>rfl
 |some d=>simp only[act,Act.put,aS,Bp]
theorem tC {a:Act} (h:a.defers= []):a=act a.tmps.toList:=by
 cases a with
 |mk t d=>simp only at h;subst h;simp[act]
abbrev cM:=Exit→Fr→aA→Prop
def post (w0:World) (K:cM) (e:Exit) (a:Act) (w:World):Prop:=a.defers= []∧ ∃L,Hp w0 L w∧K e a.tmps.toList L
def Cw (P:Program) (w0:World) (c:Code) (f:Fr) (L:aA) (K:cM):Prop:=
 ∀w,Hp w0 L w→c.wp P (post w0 K) (act f) w
def k4 (N:Fr→aA→Prop) (K:cM):cM
 | .normal=>N
 | .exit i=>K (.exit i)
 | .goto i=>K (.goto i)
 | .ret=>K .ret
 | .panic c=>K (.panic c)
 | .outgrown=>K .outgrown
def mA (id:Nat) (K:cM):cM
 | .normal=>K .normal
 | .exit i=>if i=id then K .normal else K (.exit i)
 | .goto i=>K (.goto i)
 | .ret=>K .ret
 | .panic c=>K (.panic c)
 | .outgrown=>K .outgrown
section
variable {P:Program} {w0:World} {f:Fr} {L:aA} {K:cM}
theorem Cw.mono {c:Code} {K':cM} (h:Cw P w0 c f L K) (hk: ∀e f L,K e f L→K' e f L):Cw P w0 c f L K':=
 fun w hw=>wp_mono (h w hw) fun _ _ _ ⟨hd,L',hp,k⟩=>⟨hd,L',hp,hk _ _ _ k⟩
theorem Cw.seq {x y:Code} (h:Cw P w0 x f L (k4 (fun f L=>Cw P w0 y f L K) K)):Cw P w0 (.seq x y) f L K:=by
 intro w hw
 refine wp_seq (wp_mono (h w hw) ?_)
 rintro e a w' ⟨hd,L',hp,k⟩
 cases e with
 |normal=>
  have:=k w' hp
  rw[←tC hd] at this
  exact this
 |_=>exact⟨hd,L',hp,k⟩
theorem Cw.skip (h:K .normal f L):Cw P w0 .skip f L K:=fun w hw=>wp_skip ⟨rfl,L,hw,by simpa [act] using h⟩
theorem Cw.label {l:Nat} (h:K .normal f L):Cw P w0 (.label l) f L K:=fun w hw=>wp_label ⟨rfl,L,hw,by simpa [act] using h⟩
theorem Cw.exit {i:Nat} (h:K (.exit i) f L):Cw P w0 (.exit i) f L K:=fun w hw=>wp_exit ⟨rfl,L,hw,by simpa [act] using h⟩
theorem Cw.goto {i:Nat} (h:K (.goto i) f L):Cw P w0 (.goto i) f L K:=fun w hw=>wp_goto ⟨rfl,L,hw,by simpa [act] using h⟩
theorem Cw.ret (h:K .ret f L):Cw P w0 .ret f L K:=fun w hw=>wp_ret ⟨rfl,L,hw,by simpa [act] using h⟩
theorem Cw.cond {c:Operand} {x y:Code} {b:Bool} (hc:ev f c= .bool b) (ht:b=true→Cw P w0 x f L K) (he:b=false→Cw P w0 y f L K):Cw P w0 (.cond c x y) f L K:=by
 intro w hw
 have gn: (act f).eval c= .bool b:=(Ac f c).trans hc
 cases b with
 |true=>exact wp_cond_true gn (ht rfl w hw)
 |false=>exact wp_cond_false gn (he rfl w hw)
theorem Cw.block {id:Nat} {c:Code} (h:Cw P w0 c f L (mA id K)):Cw P w0 (.block id c) f L K:=by
 intro w hw
 refine wp_block (wp_mono (h w hw) ?_)
 rintro e a w' ⟨hd,L',hp,k⟩
 cases e with
 |exit i=>
  simp only[Exit.inBlock]
  simp only[mA] at k
  split
  ·rename_i e;rw[if_pos e] at k;exact⟨hd,L',hp,k⟩
  ·rename_i e;rw[if_neg e] at k;exact⟨hd,L',hp,k⟩
 |_=>exact⟨hd,L',hp,k⟩
theorem Cw.loop {c:Code} (I:Nat→Fr→aA→Prop) (n0:Nat) (h0:I n0 f L)
  (round: ∀n f L,I n f L→Cw P w0 c f L (k4 (fun f' L'=> ∃n',n'<n∧I n' f' L') K)):Cw P w0 (.loop c) f L K:=by
 intro w hw
 refine wp_loop_ghost (fun n a w=>a.defers= []∧ ∃L,Hp w0 L w∧I n a.tmps.toList L) n0 ⟨rfl,L,hw,by simpa [act] using h0⟩ ?_
 rintro n a w ⟨hd,L,hp,hI⟩
 have:=round n _ _ hI w hp
 rw[←tC hd] at this
 refine wp_mono this ?_
 rintro e a' w' ⟨iz,L',rL,k⟩
 cases e with
 |normal=>
  obtain⟨n',aD,l6⟩:=k
  exact⟨n',aD,iz,L',rL,l6⟩
 |_=>exact⟨iz,L',rL,k⟩
end
def over (j:Nat→Value) (M:List Nat) (f:Fr):Fr:=f.zipIdx.map fun p=>if M.contains p.2 then j p.2 else p.1
def pin (f:Fr):List (Nat×Value)→Fr
 | []=>f
 | (t,v)::r=>pin (setF f t v) r
def kV (j:Nat→Value) (M:List Nat):Nat→Fr→Fr
 |_,[]=> []
 |n,v::r=>(if M.contains n then j n else v)::kV j M (n+1) r
def Again {G:Type} (M:List Nat) (S:G→List (Nat×Value)) (H:G→aA) (J:G→Prop) (μ:G→Nat) (f:Fr) (g:G) (f':Fr) (L':aA):Prop:=
 ∃g',μ g'<μ g∧J g'∧L'=H g'∧f'=pin (kV (eC f') M 0 f) (S g')
theorem Again.mk {G:Type} {M:List Nat} {S:G→List (Nat×Value)} {H:G→aA} {J:G→Prop} {μ:G→Nat} {f:Fr} {g:G} {f':Fr} {L':aA} (g':G)
  (hμ:μ g'<μ g) (hJ:J g') (hL:L'=H g') (hf:f'=pin (kV (eC f') M 0 f) (S g')):Again M S H J μ f g f' L':=⟨g',hμ,hJ,hL,hf⟩
section
variable {P:Program} {w0:World} {f:Fr} {L:aA} {K:cM}
theorem Cw.loopG {c:Code} {G:Type} (M:List Nat) (S:G→List (Nat×Value)) (H:G→aA) (J:G→Prop) (μ:G→Nat) (g0:G)
  (hf:f=pin (kV (eC f) M 0 f) (S g0)) (hL:L=H g0) (hJ:J g0)
  (round: ∀ (g:G) (j:Nat→Value),J g→Cw P w0 c (pin (kV j M 0 f) (S g)) (H g)
   (k4 (Again M S H J μ f g) K)):Cw P w0 (.loop c) f L K:=by
 refine Cw.loop (fun n f' L'=> ∃g j,n=μ g∧J g∧L'=H g∧f'=pin (kV j M 0 f) (S g)) (μ g0) ⟨g0,eC f,rfl,hJ,hL,hf⟩ ?_
 rintro n f' L' ⟨g,j,rfl,hg,rfl,rfl⟩
 refine(round g j hg).mono ?_
 intro e f'' L'' k
 cases e with
 |normal=>
  obtain⟨g',h1,h2,h3,h4⟩:=k
  exact⟨_,h1,g',eC f'',rfl,h2,h3,h4⟩
 |_=>exact k
end
end Go.Sx
section
namespace Go.Sx
set_option linter.unusedSimpArgs false
open Go
def fq (op:BinOp) (k:IntKind) (a b:BitVec k.bits):Option (BitVec k.bits):=
 match op with
 | .and=>some (a&&&b)
 | .or=>some (a|||b)
 | .xor=>some (a^^^b)
 | .andNot=>some (a&&& ~~~b)
 |_=>none
def f5 (op:BinOp) (a b:Int):Option Value:=
 match op with
 | .eql=>some (.bool (a==b))
 | .neq=>some (.bool (a !=b))
 | .lss=>some (.bool (decide (a<b)))
 | .leq=>some (.bool (decide (a≤b)))
 | .gtr=>some (.bool (decide (a>b)))
 | .geq=>some (.bool (decide (a≥b)))
 |_=>none
def bC (op:BinOp) (k:IntKind) (a b:Int):Option Value:=
 match op with
 | .add=>some (.int k (k.wrap (a+b)))
 | .sub=>some (.int k (k.wrap (a - b)))
 | .mul=>some (.int k (k.wrap (a*b)))
 | .quo=>if b=0 then none else some (.int k (k.wrap (a.tdiv b)))
 | .rem=>if b=0 then none else some (.int k (a.tmod b))
 | .and=>(fq .and k (BitVec.ofInt k.bits a) (BitVec.ofInt k.bits b)).map fun r=> .int k (k.wrap (r.toNat:Int))
 | .or=>(fq .or k (BitVec.ofInt k.bits a) (BitVec.ofInt k.bits b)).map fun r=> .int k (k.wrap (r.toNat:Int))
 | .xor=>(fq .xor k (BitVec.ofInt k.bits a) (BitVec.ofInt k.bits b)).map fun r=> .int k (k.wrap (r.toNat:Int))
 | .andNot=>(fq .andNot k (BitVec.ofInt k.bits a) (BitVec.ofInt k.bits b)).map fun r=> .int k (k.wrap (r.toNat:Int))
 |op=>f5 op a b
def m9 (op:BinOp) (k:IntKind) (a b:Int):Option Value:=
 if b<0 then none else
  match op with
  | .shl=>some (.int k (k.wrap (a*2^ (min b.toNat k.bits))))
  | .shr=>some (.int k (a.fdiv (2^ (min b.toNat k.bits))))
  |_=>none
def strV (op:BinOp) (a b:ByteArray):Option Value:=
 let eq:=a.toList==b.toList
 let lt:=Op.bytesLess a.toList b.toList
 match op with
 | .add=>if a.size+b.size≤9223372036854775807 then some (.string (a++b)) else none
 | .eql=>some (.bool eq)
 | .neq=>some (.bool !eq)
 | .lss=>some (.bool lt)
 | .leq=>some (.bool (lt||eq))
 | .gtr=>some (.bool !(lt||eq))
 | .geq=>some (.bool !lt)
 |_=>none
def aC (op:BinOp) (x y:Value):Option Value:=
 match x,y with
 | .int k a, .int k' b=>
  match op with
  | .shl=>m9 .shl k a b
  | .shr=>m9 .shr k a b
  |op=>if k=k' then bC op k a b else none
 | .string a, .string b=>strV op a b
 |_,_=>none
def unV (op:UnOp) (x:Value):Option Value:=
 match op,x with
 | .neg, .int k n=>some (.int k (k.wrap (0 - n)))
 | .xor, .int k n=>(fq .xor k (BitVec.ofInt k.bits (if k.signed then -1 else k.max)) (BitVec.ofInt k.bits n)).map fun r=> .int k (k.wrap (r.toNat:Int))
 | .not, .bool b=>some (.bool !b)
 |_,_=>none
def bV (k:IntKind) (x:Value):Option Value:=
 match x with
 | .int _ n=>some (.int k (k.wrap n))
 |_=>none
theorem R0 {P:Program} {op:BinOp} {t:TypeId} {x y v:Value} (w:World) (h:aC op x y=some v): (binOp op t x y).run P w= .ok v w:=by
 unfold aC at h
 split at h
 ·rename_i k a k' b
  split at h
  ·unfold m9 at h
   split at h
   ·cases h
   ·rename_i hb
    simp only[Option.some.injEq] at h;subst h
    simp only[binOp,Op.shift,hb, ↓reduceIte];rfl
  ·unfold m9 at h
   split at h
   ·cases h
   ·rename_i hb
    simp only[Option.some.injEq] at h;subst h
    simp only[binOp,Op.shift,hb, ↓reduceIte];rfl
  ·rename_i h1 h2
   split at h
   ·rename_i hk
    subst hk
    cases op<;>simp only[bC,fq,f5,Option.map_some,Option.some.injEq,reduceCtorEq] at h<;>first
     | (subst h;simp only[binOp,Op.intArith,Op.intBits,Op.intCmp,ne_eq,not_true_eq_false, ↓reduceIte];rfl)
     | (
       split at h
       ·cases h
       ·rename_i hb
        simp only[Option.some.injEq] at h;subst h
        simp only[binOp,Op.intDiv,ne_eq,not_true_eq_false, ↓reduceIte,hb];rfl)
     | (exact(h1 rfl).elim)
     | (exact(h2 rfl).elim)
   ·cases h
 ·rename_i a b
  have hm: (9223372036854775807:Int)=IntKind.i64.max:=by decide
  cases op<;>simp only[strV,reduceCtorEq,Option.some.injEq] at h<;>first
   | (subst h;simp only[binOp,Op.stringOp];rfl)
   | (
     split at h
     ·rename_i hs
      simp only[Option.some.injEq] at h;subst h
      have h0: ¬ (((a.size+b.size:Nat):Int)>IntKind.i64.max):=by rw[←hm];omega
      simp only[binOp,Op.stringOp,h0, ↓reduceIte];rfl
     ·cases h)
 ·cases h
theorem TI {P:Program} {op:UnOp} {x v:Value} (w:World) (h:unV op x=some v): (Op.unary op x).run P w= .ok v w:=by
 unfold unV at h
 split at h
 ·simp only[Option.some.injEq] at h;subst h;rfl
 ·simp only[fq,Option.map_some,Option.some.injEq] at h;subst h;rfl
 ·simp only[Option.some.injEq] at h;subst h;rfl
 ·cases h
theorem nP (n:Int) (h: -9223372036854775808≤n∧n≤9223372036854775807):IntKind.wrap .i64 n=n:=by
 simp only[IntKind.wrap,IntKind.bits,IntKind.signed,Bool.true_and]
 split<;>rename_i h'<;>simp only[ge_iff_le,decide_eq_true_eq,Int.not_le] at h'<;>omega
theorem IG (n:Int):IntKind.wrap .u8 n=((UInt8.ofInt n).toNat:Int):=by
 simp only[IntKind.wrap,IntKind.bits,IntKind.signed,Bool.false_and,Bool.false_eq_true, ↓reduceIte]
 rw[show UInt8.ofInt n=UInt8.ofNat (n%2^8).toNat from rfl,UInt8.toNat_ofNat']
 omega
theorem Wn_ (n:Int):IntKind.wrap .u16 n=((UInt16.ofInt n).toNat:Int):=by
 simp only[IntKind.wrap,IntKind.bits,IntKind.signed,Bool.false_and,Bool.false_eq_true, ↓reduceIte]
 rw[show UInt16.ofInt n=UInt16.ofNat (n%2^16).toNat from rfl,UInt16.toNat_ofNat']
 omega
theorem We_ (n:Int):IntKind.wrap .u32 n=((UInt32.ofInt n).toNat:Int):=by
 simp only[IntKind.wrap,IntKind.bits,IntKind.signed,Bool.false_and,Bool.false_eq_true, ↓reduceIte]
 rw[show UInt32.ofInt n=UInt32.ofNat (n%2^32).toNat from rfl,UInt32.toNat_ofNat']
 omega
theorem V8_ (n:Int):IntKind.wrap .u64 n=((UInt64.ofInt n).toNat:Int):=by
 simp only[IntKind.wrap,IntKind.bits,IntKind.signed,Bool.false_and,Bool.false_eq_true, ↓reduceIte]
 rw[show UInt64.ofInt n=UInt64.ofNat (n%2^64).toNat from rfl,UInt64.toNat_ofNat']
 omega
def vi (n:Int):Value:= .int .i64 n
theorem Tu (n:Int):Value.int .i64 n=vi n:=(rfl)
theorem NT (a b:Int) (h: -9223372036854775808≤a+b∧a+b≤9223372036854775807):aC .add (vi a) (vi b)=some (vi (a+b)):=by
 simp only[aC,vi,bC, ↓reduceIte,nP _ h]
theorem OH (a b:Int) (h: -9223372036854775808≤a - b∧a - b≤9223372036854775807):aC .sub (vi a) (vi b)=some (vi (a - b)):=by
 simp only[aC,vi,bC, ↓reduceIte,nP _ h]
theorem yq (a b:Int) (h: -9223372036854775808≤a*b∧a*b≤9223372036854775807):aC .mul (vi a) (vi b)=some (vi (a*b)):=by
 simp only[aC,vi,bC, ↓reduceIte,nP _ h]
theorem ON (a b:Int) (h:0≤a∧0<b∧a≤9223372036854775807):aC .quo (vi a) (vi b)=some (vi (a / b)):=by
 have h0: (b=0)=False:=by simp only[eq_iff_iff,iff_false];omega
 have e:a.tdiv b=a / b:=Int.tdiv_eq_ediv_of_nonneg h.1
 have h1:0≤a / b:=Int.ediv_nonneg h.1 (by omega)
 have h2:a / b≤a:=Int.ediv_le_self b h.1
 simp only[aC,vi,bC, ↓reduceIte,h0,e,nP (a / b) ⟨by omega,by omega⟩]
theorem Pn (a b:Int) (h:0≤a∧0<b):aC .rem (vi a) (vi b)=some (vi (a%b)):=by
 have h0: (b=0)=False:=by simp only[eq_iff_iff,iff_false];omega
 have e:a.tmod b=a%b:=Int.tmod_eq_emod_of_nonneg h.1
 simp only[aC,vi,bC, ↓reduceIte,h0,e]
theorem P2 (a b:Int):aC .eql (vi a) (vi b)=some (.bool (a==b)):=(rfl)
theorem Q7 (a b:Int):aC .neq (vi a) (vi b)=some (.bool (a !=b)):=(rfl)
theorem OY (a b:Int):aC .lss (vi a) (vi b)=some (.bool (decide (a<b))):=(rfl)
theorem Oo (a b:Int):aC .leq (vi a) (vi b)=some (.bool (decide (a≤b))):=(rfl)
theorem PZ (a b:Int):aC .gtr (vi a) (vi b)=some (.bool (decide (b<a))):=(rfl)
theorem OW (a b:Int):aC .geq (vi a) (vi b)=some (.bool (decide (b≤a))):=(rfl)
theorem Ro (a:Int) (h: -9223372036854775807≤a∧a≤9223372036854775807):unV .neg (vi a)=some (vi (-a)):=by
 simp only[unV,vi,Int.zero_sub,nP (-a) ⟨by omega,by omega⟩]
theorem V7 (b:Bool):unV .not (.bool b)=some (.bool !b):=(rfl)
theorem J8 (n:Int) (h: -9223372036854775808≤n∧n≤9223372036854775807):bV .i64 (vi n)=some (vi n):=by
 simp only[bV,vi,nP _ h]
theorem BY (a:Int) (kk:IntKind) (c:Nat) (h:c<63∧0≤a∧a*2^c≤9223372036854775807):aC .shl (vi a) (.int kk (c:Int))=some (vi (a*2^c)):=by
 have h0: ((c:Int)<0)=False:=by simp only[eq_iff_iff,iff_false];omega
 have hm:min c 64=c:=by omega
 have hp: (0:Int)≤a*2^c:=Int.mul_nonneg h.2.1 (Int.pow_nonneg (by omega))
 simp only[aC,vi,m9,h0, ↓reduceIte,Int.toNat_natCast,IntKind.bits,hm,nP (a*2^c) ⟨by omega,h.2.2⟩]
theorem Sl (a:Int) (kk:IntKind) (c:Nat) (h:c<64∧0≤a):aC .shr (vi a) (.int kk (c:Int))=some (vi (a / 2^c)):=by
 have h0: ((c:Int)<0)=False:=by simp only[eq_iff_iff,iff_false];omega
 have hm:min c 64=c:=by omega
 have hp: (0:Int)≤2^c:=Int.pow_nonneg (by omega)
 simp only[aC,vi,m9,h0, ↓reduceIte,Int.toNat_natCast,IntKind.bits,hm,Int.fdiv_eq_ediv_of_nonneg _ hp]
def v8 (x:UInt8):Value:= .int .u8 (x.toNat:Int)
theorem qL (n:Nat) (h:n<256):IntKind.wrap .u8 (n:Int)=(n:Int):=by
 simp only[IntKind.wrap,IntKind.bits,IntKind.signed,Bool.false_and,Bool.false_eq_true, ↓reduceIte]
 omega
theorem sc (n:Nat):IntKind.wrap .u8 (n:Int)=((n%256:Nat):Int):=by
 simp only[IntKind.wrap,IntKind.bits,IntKind.signed,Bool.false_and,Bool.false_eq_true, ↓reduceIte]
 omega
theorem qs (x:UInt8):BitVec.ofInt (IntKind.bits .u8) (x.toNat:Int)=x.toBitVec:=by
 apply BitVec.eq_of_toNat_eq
 simp only[IntKind.bits,BitVec.ofInt_natCast,BitVec.toNat_ofNat,UInt8.toNat_toBitVec]
 exact Nat.mod_eq_of_lt x.toNat_lt
theorem Vc (n:Nat) (h:n<256):Value.int .u8 (no_index (@OfNat.ofNat Int n _))=v8 (@OfNat.ofNat UInt8 n _):=by
 have: ((@OfNat.ofNat UInt8 n _).toNat:Int)=(@OfNat.ofNat Int n _):=by
  have e: (@OfNat.ofNat UInt8 n _).toNat=n:=by rw[UInt8.toNat_ofNat];exact Nat.mod_eq_of_lt h
  rw[e];rfl
 rw[v8,this]
theorem MJ (x y:UInt8):aC .add (v8 x) (v8 y)=some (v8 (x+y)):=by
 simp only[aC,v8,bC, ↓reduceIte,UInt8.toNat_add]
 rw[←Int.natCast_add,sc]
theorem Mj (x y:UInt8):aC .mul (v8 x) (v8 y)=some (v8 (x*y)):=by
 simp only[aC,v8,bC, ↓reduceIte,UInt8.toNat_mul]
 rw[←Int.natCast_mul,sc]
theorem O4 (x y:UInt8):aC .sub (v8 x) (v8 y)=some (v8 (x - y)):=by
 have hx:=x.toNat_lt;have hy:=y.toNat_lt
 have e:IntKind.wrap .u8 ((x.toNat:Int) - (y.toNat:Int))=((x - y).toNat:Int):=by
  rw[UInt8.toNat_sub]
  simp only[IntKind.wrap,IntKind.bits,IntKind.signed,Bool.false_and,Bool.false_eq_true, ↓reduceIte]
  omega
 simp only[aC,v8,bC, ↓reduceIte,e]
theorem OB (x y:UInt8):aC .and (v8 x) (v8 y)=some (v8 (x&&&y)):=by
 simp only[aC,v8,bC, ↓reduceIte,fq,qs,Option.map_some]
 show some (Value.int .u8 (IntKind.wrap .u8 ((x&&&y).toNat:Int)))=_
 rw[qL _ (x&&&y).toNat_lt]
theorem OO (x y:UInt8):aC .or (v8 x) (v8 y)=some (v8 (x|||y)):=by
 simp only[aC,v8,bC, ↓reduceIte,fq,qs,Option.map_some]
 show some (Value.int .u8 (IntKind.wrap .u8 ((x|||y).toNat:Int)))=_
 rw[qL _ (x|||y).toNat_lt]
theorem Nx (x y:UInt8):aC .xor (v8 x) (v8 y)=some (v8 (x^^^y)):=by
 simp only[aC,v8,bC, ↓reduceIte,fq,qs,Option.map_some]
 show some (Value.int .u8 (IntKind.wrap .u8 ((x^^^y).toNat:Int)))=_
 rw[qL _ (x^^^y).toNat_lt]
theorem Oz (x:UInt8):unV .xor (v8 x)=some (v8 (~~~ x)):=by
 have hx:=x.toNat_lt
 have e: (BitVec.ofInt (IntKind.bits .u8) (IntKind.max .u8))=BitVec.allOnes 8:=rfl
 have e2: (BitVec.allOnes 8^^^x.toBitVec)=(~~~ x).toBitVec:=by rw[UInt8.toBitVec_not];exact BitVec.allOnes_xor
 simp only[unV,v8,fq,qs,IntKind.signed,Bool.false_eq_true, ↓reduceIte,e,Option.map_some]
 show some (Value.int .u8 (IntKind.wrap .u8 ((BitVec.allOnes 8^^^x.toBitVec).toNat:Int)))=_
 rw[e2]
 show some (Value.int .u8 (IntKind.wrap .u8 ((~~~ x).toNat:Int)))=_
 rw[qL _ (~~~ x).toNat_lt]
def mm (x:UInt8) (n:Nat):UInt8:=UInt8.ofNat (x.toNat / 2^n)
def qA (x:UInt8) (n:Nat):UInt8:=UInt8.ofNat (x.toNat*2^n)
theorem NO (x y:UInt8):aC .lss (v8 x) (v8 y)=some (.bool (decide (x<y))):=by
 simp only[aC,v8,bC, ↓reduceIte,f5,UInt8.lt_iff_toNat_lt,Int.ofNat_lt,Int.ofNat_le]
theorem NP (x y:UInt8):aC .leq (v8 x) (v8 y)=some (.bool (decide (x≤y))):=by
 simp only[aC,v8,bC, ↓reduceIte,f5,UInt8.le_iff_toNat_le,Int.ofNat_lt,Int.ofNat_le]
theorem NX (x y:UInt8):aC .gtr (v8 x) (v8 y)=some (.bool (decide (y<x))):=by
 simp only[aC,v8,bC, ↓reduceIte,f5,UInt8.lt_iff_toNat_lt,Int.ofNat_lt,Int.ofNat_le,gt_iff_lt,ge_iff_le]
theorem Mk (x y:UInt8):aC .geq (v8 x) (v8 y)=some (.bool (decide (y≤x))):=by
 simp only[aC,v8,bC, ↓reduceIte,f5,UInt8.le_iff_toNat_le,Int.ofNat_lt,Int.ofNat_le,gt_iff_lt,ge_iff_le]
theorem CO (x y:UInt8): ((x.toNat:Int)==(y.toNat:Int))=(x==y):=by
 rw[Bool.eq_iff_iff,beq_iff_eq,beq_iff_eq,Int.ofNat_inj,UInt8.toNat_inj]
theorem Nz (x y:UInt8):aC .eql (v8 x) (v8 y)=some (.bool (x==y)):=by
 simp only[aC,v8,bC, ↓reduceIte,f5,CO]
theorem MP (x y:UInt8):aC .neq (v8 x) (v8 y)=some (.bool (x !=y)):=by
 simp only[aC,v8,bC, ↓reduceIte,f5,bne,CO]
theorem MZ (x y:UInt8) (h:0<y.toNat):aC .quo (v8 x) (v8 y)=some (v8 (x / y)):=by
 have hx:=x.toNat_lt
 have e:IntKind.wrap .u8 ((x.toNat:Int).tdiv (y.toNat:Int))=((x / y).toNat:Int):=by
  rw[UInt8.toNat_div,Int.tdiv_eq_ediv_of_nonneg (by omega),←Int.natCast_ediv,sc]
  congr 1
  exact Nat.mod_eq_of_lt (Nat.lt_of_le_of_lt (Nat.div_le_self _ _) hx)
 have h0: ((y.toNat:Int)=0)=False:=by simp only[eq_iff_iff,iff_false];omega
 simp only[aC,v8,bC, ↓reduceIte,h0,e]
theorem FM (x y:UInt8) (h:0<y.toNat):aC .rem (v8 x) (v8 y)=some (v8 (x%y)):=by
 have e: ((x.toNat:Int).tmod (y.toNat:Int))=((x%y).toNat:Int):=by
  rw[UInt8.toNat_mod,Int.tmod_eq_emod_of_nonneg (by omega),Int.natCast_emod]
 have h0: ((y.toNat:Int)=0)=False:=by simp only[eq_iff_iff,iff_false];omega
 simp only[aC,v8,bC, ↓reduceIte,h0,e]
theorem yA (x:UInt8) (kk:IntKind) (c:Nat):aC .shr (v8 x) (.int kk (c:Int))=some (v8 (mm x c)):=by
 have hx:=x.toNat_lt
 have h0: ((c:Int)<0)=False:=by simp only[eq_iff_iff,iff_false];omega
 have e: ((x.toNat:Int).fdiv (2^ (min c 8)))=((mm x c).toNat:Int):=by
  have hp: (2:Int)^ (min c 8)=((2^ (min c 8):Nat):Int):=by rw[Int.natCast_pow];rfl
  rw[hp,Int.fdiv_eq_ediv_of_nonneg _ (Int.natCast_nonneg _),←Int.natCast_ediv,mm,UInt8.toNat_ofNat']
  congr 1
  rw[Nat.mod_eq_of_lt (Nat.lt_of_le_of_lt (Nat.div_le_self _ _) hx)]
  by_cases hc:c≤8
  ·rw[Nat.min_eq_left hc]
  ·rw[Nat.min_eq_right (by omega),Nat.div_eq_of_lt (by simpa using hx),Nat.div_eq_of_lt]
   exact Nat.lt_of_lt_of_le (by simpa using hx) (Nat.pow_le_pow_right (by omega) (by omega:8≤c))
 simp only[aC,v8,m9,h0, ↓reduceIte,Int.toNat_natCast,IntKind.bits,e]
theorem y6 (x:UInt8) (kk:IntKind) (c:Nat):aC .shl (v8 x) (.int kk (c:Int))=some (v8 (qA x c)):=by
 have h0: ((c:Int)<0)=False:=by simp only[eq_iff_iff,iff_false];omega
 have e:IntKind.wrap .u8 ((x.toNat:Int)* (2^ (min c 8)))=((qA x c).toNat:Int):=by
  have hp: (2:Int)^ (min c 8)=((2^ (min c 8):Nat):Int):=by rw[Int.natCast_pow];rfl
  rw[hp,←Int.natCast_mul,sc,qA,UInt8.toNat_ofNat']
  congr 1
  by_cases hc:c≤8
  ·rw[Nat.min_eq_left hc]
  ·rw[Nat.min_eq_right (by omega)]
   have:2^c=2^8*2^ (c - 8):=by rw[←Nat.pow_add];congr 1;omega
   rw[this,←Nat.mul_assoc,Nat.mul_right_comm]
   simp[Nat.mul_mod_left]
 simp only[aC,v8,m9,h0, ↓reduceIte,Int.toNat_natCast,IntKind.bits,e]
def v16 (x:UInt16):Value:= .int .u16 (x.toNat:Int)
theorem F3 (n:Nat) (h:n<65536):IntKind.wrap .u16 (n:Int)=(n:Int):=by
 simp only[IntKind.wrap,IntKind.bits,IntKind.signed,Bool.false_and,Bool.false_eq_true, ↓reduceIte]
 omega
theorem sd (n:Nat):IntKind.wrap .u16 (n:Int)=((n%65536:Nat):Int):=by
 simp only[IntKind.wrap,IntKind.bits,IntKind.signed,Bool.false_and,Bool.false_eq_true, ↓reduceIte]
 omega
theorem qa (x:UInt16):BitVec.ofInt (IntKind.bits .u16) (x.toNat:Int)=x.toBitVec:=by
 apply BitVec.eq_of_toNat_eq
 simp only[IntKind.bits,BitVec.ofInt_natCast,BitVec.toNat_ofNat,UInt16.toNat_toBitVec]
 exact Nat.mod_eq_of_lt x.toNat_lt
theorem Sw (n:Nat) (h:n<65536):Value.int .u16 (no_index (@OfNat.ofNat Int n _))=v16 (@OfNat.ofNat UInt16 n _):=by
 have: ((@OfNat.ofNat UInt16 n _).toNat:Int)=(@OfNat.ofNat Int n _):=by
  have e: (@OfNat.ofNat UInt16 n _).toNat=n:=by rw[UInt16.toNat_ofNat];exact Nat.mod_eq_of_lt h
  rw[e];rfl
 rw[v16,this]
theorem Km (x y:UInt16):aC .add (v16 x) (v16 y)=some (v16 (x+y)):=by
 simp only[aC,v16,bC, ↓reduceIte,UInt16.toNat_add]
 rw[←Int.natCast_add,sd]
theorem Kz (x y:UInt16):aC .mul (v16 x) (v16 y)=some (v16 (x*y)):=by
 simp only[aC,v16,bC, ↓reduceIte,UInt16.toNat_mul]
 rw[←Int.natCast_mul,sd]
theorem KL (x y:UInt16):aC .sub (v16 x) (v16 y)=some (v16 (x - y)):=by
 have hx:=x.toNat_lt;have hy:=y.toNat_lt
 have e:IntKind.wrap .u16 ((x.toNat:Int) - (y.toNat:Int))=((x - y).toNat:Int):=by
  rw[UInt16.toNat_sub]
  simp only[IntKind.wrap,IntKind.bits,IntKind.signed,Bool.false_and,Bool.false_eq_true, ↓reduceIte]
  omega
 simp only[aC,v16,bC, ↓reduceIte,e]
theorem Jh (x y:UInt16):aC .and (v16 x) (v16 y)=some (v16 (x&&&y)):=by
 simp only[aC,v16,bC, ↓reduceIte,fq,qa,Option.map_some]
 show some (Value.int .u16 (IntKind.wrap .u16 ((x&&&y).toNat:Int)))=_
 rw[F3 _ (x&&&y).toNat_lt]
theorem Na (x y:UInt16):aC .or (v16 x) (v16 y)=some (v16 (x|||y)):=by
 simp only[aC,v16,bC, ↓reduceIte,fq,qa,Option.map_some]
 show some (Value.int .u16 (IntKind.wrap .u16 ((x|||y).toNat:Int)))=_
 rw[F3 _ (x|||y).toNat_lt]
theorem LW (x y:UInt16):aC .xor (v16 x) (v16 y)=some (v16 (x^^^y)):=by
 simp only[aC,v16,bC, ↓reduceIte,fq,qa,Option.map_some]
 show some (Value.int .u16 (IntKind.wrap .u16 ((x^^^y).toNat:Int)))=_
 rw[F3 _ (x^^^y).toNat_lt]
theorem Nr (x:UInt16):unV .xor (v16 x)=some (v16 (~~~ x)):=by
 have hx:=x.toNat_lt
 have e: (BitVec.ofInt (IntKind.bits .u16) (IntKind.max .u16))=BitVec.allOnes 16:=rfl
 have e2: (BitVec.allOnes 16^^^x.toBitVec)=(~~~ x).toBitVec:=by rw[UInt16.toBitVec_not];exact BitVec.allOnes_xor
 simp only[unV,v16,fq,qa,IntKind.signed,Bool.false_eq_true, ↓reduceIte,e,Option.map_some]
 show some (Value.int .u16 (IntKind.wrap .u16 ((BitVec.allOnes 16^^^x.toBitVec).toNat:Int)))=_
 rw[e2]
 show some (Value.int .u16 (IntKind.wrap .u16 ((~~~ x).toNat:Int)))=_
 rw[F3 _ (~~~ x).toNat_lt]
def rg (x:UInt16) (n:Nat):UInt16:=UInt16.ofNat (x.toNat / 2^n)
def rf (x:UInt16) (n:Nat):UInt16:=UInt16.ofNat (x.toNat*2^n)
theorem Jn (x y:UInt16):aC .lss (v16 x) (v16 y)=some (.bool (decide (x<y))):=by
 simp only[aC,v16,bC, ↓reduceIte,f5,UInt16.lt_iff_toNat_lt,Int.ofNat_lt,Int.ofNat_le]
theorem KG (x y:UInt16):aC .leq (v16 x) (v16 y)=some (.bool (decide (x≤y))):=by
 simp only[aC,v16,bC, ↓reduceIte,f5,UInt16.le_iff_toNat_le,Int.ofNat_lt,Int.ofNat_le]
theorem KE (x y:UInt16):aC .gtr (v16 x) (v16 y)=some (.bool (decide (y<x))):=by
 simp only[aC,v16,bC, ↓reduceIte,f5,UInt16.lt_iff_toNat_lt,Int.ofNat_lt,Int.ofNat_le,gt_iff_lt,ge_iff_le]
theorem M0 (x y:UInt16):aC .geq (v16 x) (v16 y)=some (.bool (decide (y≤x))):=by
 simp only[aC,v16,bC, ↓reduceIte,f5,UInt16.le_iff_toNat_le,Int.ofNat_lt,Int.ofNat_le,gt_iff_lt,ge_iff_le]
theorem Bz (x y:UInt16): ((x.toNat:Int)==(y.toNat:Int))=(x==y):=by
 rw[Bool.eq_iff_iff,beq_iff_eq,beq_iff_eq,Int.ofNat_inj,UInt16.toNat_inj]
theorem Jo (x y:UInt16):aC .eql (v16 x) (v16 y)=some (.bool (x==y)):=by
 simp only[aC,v16,bC, ↓reduceIte,f5,Bz]
theorem LN (x y:UInt16):aC .neq (v16 x) (v16 y)=some (.bool (x !=y)):=by
 simp only[aC,v16,bC, ↓reduceIte,f5,bne,Bz]
theorem KJ (x y:UInt16) (h:0<y.toNat):aC .quo (v16 x) (v16 y)=some (v16 (x / y)):=by
 have hx:=x.toNat_lt
 have e:IntKind.wrap .u16 ((x.toNat:Int).tdiv (y.toNat:Int))=((x / y).toNat:Int):=by
  rw[UInt16.toNat_div,Int.tdiv_eq_ediv_of_nonneg (by omega),←Int.natCast_ediv,sd]
  congr 1
  exact Nat.mod_eq_of_lt (Nat.lt_of_le_of_lt (Nat.div_le_self _ _) hx)
 have h0: ((y.toNat:Int)=0)=False:=by simp only[eq_iff_iff,iff_false];omega
 simp only[aC,v16,bC, ↓reduceIte,h0,e]
theorem Lx (x y:UInt16) (h:0<y.toNat):aC .rem (v16 x) (v16 y)=some (v16 (x%y)):=by
 have e: ((x.toNat:Int).tmod (y.toNat:Int))=((x%y).toNat:Int):=by
  rw[UInt16.toNat_mod,Int.tmod_eq_emod_of_nonneg (by omega),Int.natCast_emod]
 have h0: ((y.toNat:Int)=0)=False:=by simp only[eq_iff_iff,iff_false];omega
 simp only[aC,v16,bC, ↓reduceIte,h0,e]
theorem EU (x:UInt16) (kk:IntKind) (c:Nat):aC .shr (v16 x) (.int kk (c:Int))=some (v16 (rg x c)):=by
 have hx:=x.toNat_lt
 have h0: ((c:Int)<0)=False:=by simp only[eq_iff_iff,iff_false];omega
 have e: ((x.toNat:Int).fdiv (2^ (min c 16)))=((rg x c).toNat:Int):=by
  have hp: (2:Int)^ (min c 16)=((2^ (min c 16):Nat):Int):=by rw[Int.natCast_pow];rfl
  rw[hp,Int.fdiv_eq_ediv_of_nonneg _ (Int.natCast_nonneg _),←Int.natCast_ediv,rg,UInt16.toNat_ofNat']
  congr 1
  rw[Nat.mod_eq_of_lt (Nat.lt_of_le_of_lt (Nat.div_le_self _ _) hx)]
  by_cases hc:c≤16
  ·rw[Nat.min_eq_left hc]
  ·rw[Nat.min_eq_right (by omega),Nat.div_eq_of_lt (by simpa using hx),Nat.div_eq_of_lt]
   exact Nat.lt_of_lt_of_le (by simpa using hx) (Nat.pow_le_pow_right (by omega) (by omega:16≤c))
 simp only[aC,v16,m9,h0, ↓reduceIte,Int.toNat_natCast,IntKind.bits,e]
theorem yG (x:UInt16) (kk:IntKind) (c:Nat):aC .shl (v16 x) (.int kk (c:Int))=some (v16 (rf x c)):=by
 have h0: ((c:Int)<0)=False:=by simp only[eq_iff_iff,iff_false];omega
 have e:IntKind.wrap .u16 ((x.toNat:Int)* (2^ (min c 16)))=((rf x c).toNat:Int):=by
  have hp: (2:Int)^ (min c 16)=((2^ (min c 16):Nat):Int):=by rw[Int.natCast_pow];rfl
  rw[hp,←Int.natCast_mul,sd,rf,UInt16.toNat_ofNat']
  congr 1
  by_cases hc:c≤16
  ·rw[Nat.min_eq_left hc]
  ·rw[Nat.min_eq_right (by omega)]
   have:2^c=2^16*2^ (c - 16):=by rw[←Nat.pow_add];congr 1;omega
   rw[this,←Nat.mul_assoc,Nat.mul_right_comm]
   simp[Nat.mul_mod_left]
 simp only[aC,v16,m9,h0, ↓reduceIte,Int.toNat_natCast,IntKind.bits,e]
def v32 (x:UInt32):Value:= .int .u32 (x.toNat:Int)
theorem F5 (n:Nat) (h:n<4294967296):IntKind.wrap .u32 (n:Int)=(n:Int):=by
 simp only[IntKind.wrap,IntKind.bits,IntKind.signed,Bool.false_and,Bool.false_eq_true, ↓reduceIte]
 omega
theorem sf (n:Nat):IntKind.wrap .u32 (n:Int)=((n%4294967296:Nat):Int):=by
 simp only[IntKind.wrap,IntKind.bits,IntKind.signed,Bool.false_and,Bool.false_eq_true, ↓reduceIte]
 omega
theorem qf (x:UInt32):BitVec.ofInt (IntKind.bits .u32) (x.toNat:Int)=x.toBitVec:=by
 apply BitVec.eq_of_toNat_eq
 simp only[IntKind.bits,BitVec.ofInt_natCast,BitVec.toNat_ofNat,UInt32.toNat_toBitVec]
 exact Nat.mod_eq_of_lt x.toNat_lt
theorem UR (n:Nat) (h:n<4294967296):Value.int .u32 (no_index (@OfNat.ofNat Int n _))=v32 (@OfNat.ofNat UInt32 n _):=by
 have: ((@OfNat.ofNat UInt32 n _).toNat:Int)=(@OfNat.ofNat Int n _):=by
  have e: (@OfNat.ofNat UInt32 n _).toNat=n:=by rw[UInt32.toNat_ofNat];exact Nat.mod_eq_of_lt h
  rw[e];rfl
 rw[v32,this]
theorem Kd (x y:UInt32):aC .add (v32 x) (v32 y)=some (v32 (x+y)):=by
 simp only[aC,v32,bC, ↓reduceIte,UInt32.toNat_add]
 rw[←Int.natCast_add,sf]
theorem Jt (x y:UInt32):aC .mul (v32 x) (v32 y)=some (v32 (x*y)):=by
 simp only[aC,v32,bC, ↓reduceIte,UInt32.toNat_mul]
 rw[←Int.natCast_mul,sf]
theorem LM (x y:UInt32):aC .sub (v32 x) (v32 y)=some (v32 (x - y)):=by
 have hx:=x.toNat_lt;have hy:=y.toNat_lt
 have e:IntKind.wrap .u32 ((x.toNat:Int) - (y.toNat:Int))=((x - y).toNat:Int):=by
  rw[UInt32.toNat_sub]
  simp only[IntKind.wrap,IntKind.bits,IntKind.signed,Bool.false_and,Bool.false_eq_true, ↓reduceIte]
  omega
 simp only[aC,v32,bC, ↓reduceIte,e]
theorem M4 (x y:UInt32):aC .and (v32 x) (v32 y)=some (v32 (x&&&y)):=by
 simp only[aC,v32,bC, ↓reduceIte,fq,qf,Option.map_some]
 show some (Value.int .u32 (IntKind.wrap .u32 ((x&&&y).toNat:Int)))=_
 rw[F5 _ (x&&&y).toNat_lt]
theorem Nv (x y:UInt32):aC .or (v32 x) (v32 y)=some (v32 (x|||y)):=by
 simp only[aC,v32,bC, ↓reduceIte,fq,qf,Option.map_some]
 show some (Value.int .u32 (IntKind.wrap .u32 ((x|||y).toNat:Int)))=_
 rw[F5 _ (x|||y).toNat_lt]
theorem LG (x y:UInt32):aC .xor (v32 x) (v32 y)=some (v32 (x^^^y)):=by
 simp only[aC,v32,bC, ↓reduceIte,fq,qf,Option.map_some]
 show some (Value.int .u32 (IntKind.wrap .u32 ((x^^^y).toNat:Int)))=_
 rw[F5 _ (x^^^y).toNat_lt]
theorem Mg (x:UInt32):unV .xor (v32 x)=some (v32 (~~~ x)):=by
 have hx:=x.toNat_lt
 have e: (BitVec.ofInt (IntKind.bits .u32) (IntKind.max .u32))=BitVec.allOnes 32:=rfl
 have e2: (BitVec.allOnes 32^^^x.toBitVec)=(~~~ x).toBitVec:=by rw[UInt32.toBitVec_not];exact BitVec.allOnes_xor
 simp only[unV,v32,fq,qf,IntKind.signed,Bool.false_eq_true, ↓reduceIte,e,Option.map_some]
 show some (Value.int .u32 (IntKind.wrap .u32 ((BitVec.allOnes 32^^^x.toBitVec).toNat:Int)))=_
 rw[e2]
 show some (Value.int .u32 (IntKind.wrap .u32 ((~~~ x).toNat:Int)))=_
 rw[F5 _ (~~~ x).toNat_lt]
def eN (x:UInt32) (n:Nat):UInt32:=UInt32.ofNat (x.toNat / 2^n)
def mB (x:UInt32) (n:Nat):UInt32:=UInt32.ofNat (x.toNat*2^n)
theorem KB (x y:UInt32):aC .lss (v32 x) (v32 y)=some (.bool (decide (x<y))):=by
 simp only[aC,v32,bC, ↓reduceIte,f5,UInt32.lt_iff_toNat_lt,Int.ofNat_lt,Int.ofNat_le]
theorem Ki (x y:UInt32):aC .leq (v32 x) (v32 y)=some (.bool (decide (x≤y))):=by
 simp only[aC,v32,bC, ↓reduceIte,f5,UInt32.le_iff_toNat_le,Int.ofNat_lt,Int.ofNat_le]
theorem JY (x y:UInt32):aC .gtr (v32 x) (v32 y)=some (.bool (decide (y<x))):=by
 simp only[aC,v32,bC, ↓reduceIte,f5,UInt32.lt_iff_toNat_lt,Int.ofNat_lt,Int.ofNat_le,gt_iff_lt,ge_iff_le]
theorem Ja (x y:UInt32):aC .geq (v32 x) (v32 y)=some (.bool (decide (y≤x))):=by
 simp only[aC,v32,bC, ↓reduceIte,f5,UInt32.le_iff_toNat_le,Int.ofNat_lt,Int.ofNat_le,gt_iff_lt,ge_iff_le]
theorem BM (x y:UInt32): ((x.toNat:Int)==(y.toNat:Int))=(x==y):=by
 rw[Bool.eq_iff_iff,beq_iff_eq,beq_iff_eq,Int.ofNat_inj,UInt32.toNat_inj]
theorem Jw (x y:UInt32):aC .eql (v32 x) (v32 y)=some (.bool (x==y)):=by
 simp only[aC,v32,bC, ↓reduceIte,f5,BM]
theorem M5 (x y:UInt32):aC .neq (v32 x) (v32 y)=some (.bool (x !=y)):=by
 simp only[aC,v32,bC, ↓reduceIte,f5,bne,BM]
theorem EL (x y:UInt32) (h:0<y.toNat):aC .quo (v32 x) (v32 y)=some (v32 (x / y)):=by
 have hx:=x.toNat_lt
 have e:IntKind.wrap .u32 ((x.toNat:Int).tdiv (y.toNat:Int))=((x / y).toNat:Int):=by
  rw[UInt32.toNat_div,Int.tdiv_eq_ediv_of_nonneg (by omega),←Int.natCast_ediv,sf]
  congr 1
  exact Nat.mod_eq_of_lt (Nat.lt_of_le_of_lt (Nat.div_le_self _ _) hx)
 have h0: ((y.toNat:Int)=0)=False:=by simp only[eq_iff_iff,iff_false];omega
 simp only[aC,v32,bC, ↓reduceIte,h0,e]
theorem EI (x y:UInt32) (h:0<y.toNat):aC .rem (v32 x) (v32 y)=some (v32 (x%y)):=by
 have e: ((x.toNat:Int).tmod (y.toNat:Int))=((x%y).toNat:Int):=by
  rw[UInt32.toNat_mod,Int.tmod_eq_emod_of_nonneg (by omega),Int.natCast_emod]
 have h0: ((y.toNat:Int)=0)=False:=by simp only[eq_iff_iff,iff_false];omega
 simp only[aC,v32,bC, ↓reduceIte,h0,e]
theorem EX (x:UInt32) (kk:IntKind) (c:Nat):aC .shr (v32 x) (.int kk (c:Int))=some (v32 (eN x c)):=by
 have hx:=x.toNat_lt
 have h0: ((c:Int)<0)=False:=by simp only[eq_iff_iff,iff_false];omega
 have e: ((x.toNat:Int).fdiv (2^ (min c 32)))=((eN x c).toNat:Int):=by
  have hp: (2:Int)^ (min c 32)=((2^ (min c 32):Nat):Int):=by rw[Int.natCast_pow];rfl
  rw[hp,Int.fdiv_eq_ediv_of_nonneg _ (Int.natCast_nonneg _),←Int.natCast_ediv,eN,UInt32.toNat_ofNat']
  congr 1
  rw[Nat.mod_eq_of_lt (Nat.lt_of_le_of_lt (Nat.div_le_self _ _) hx)]
  by_cases hc:c≤32
  ·rw[Nat.min_eq_left hc]
  ·rw[Nat.min_eq_right (by omega),Nat.div_eq_of_lt (by simpa using hx),Nat.div_eq_of_lt]
   exact Nat.lt_of_lt_of_le (by simpa using hx) (Nat.pow_le_pow_right (by omega) (by omega:32≤c))
 simp only[aC,v32,m9,h0, ↓reduceIte,Int.toNat_natCast,IntKind.bits,e]
theorem yF (x:UInt32) (kk:IntKind) (c:Nat):aC .shl (v32 x) (.int kk (c:Int))=some (v32 (mB x c)):=by
 have h0: ((c:Int)<0)=False:=by simp only[eq_iff_iff,iff_false];omega
 have e:IntKind.wrap .u32 ((x.toNat:Int)* (2^ (min c 32)))=((mB x c).toNat:Int):=by
  have hp: (2:Int)^ (min c 32)=((2^ (min c 32):Nat):Int):=by rw[Int.natCast_pow];rfl
  rw[hp,←Int.natCast_mul,sf,mB,UInt32.toNat_ofNat']
  congr 1
  by_cases hc:c≤32
  ·rw[Nat.min_eq_left hc]
  ·rw[Nat.min_eq_right (by omega)]
   have:2^c=2^32*2^ (c - 32):=by rw[←Nat.pow_add];congr 1;omega
   rw[this,←Nat.mul_assoc,Nat.mul_right_comm]
   simp[Nat.mul_mod_left]
 simp only[aC,v32,m9,h0, ↓reduceIte,Int.toNat_natCast,IntKind.bits,e]
def v64 (x:UInt64):Value:= .int .u64 (x.toNat:Int)
theorem F4 (n:Nat) (h:n<18446744073709551616):IntKind.wrap .u64 (n:Int)=(n:Int):=by
 simp only[IntKind.wrap,IntKind.bits,IntKind.signed,Bool.false_and,Bool.false_eq_true, ↓reduceIte]
 omega
theorem sg (n:Nat):IntKind.wrap .u64 (n:Int)=((n%18446744073709551616:Nat):Int):=by
 simp only[IntKind.wrap,IntKind.bits,IntKind.signed,Bool.false_and,Bool.false_eq_true, ↓reduceIte]
 omega
theorem qb (x:UInt64):BitVec.ofInt (IntKind.bits .u64) (x.toNat:Int)=x.toBitVec:=by
 apply BitVec.eq_of_toNat_eq
 simp only[IntKind.bits,BitVec.ofInt_natCast,BitVec.toNat_ofNat,UInt64.toNat_toBitVec]
 exact Nat.mod_eq_of_lt x.toNat_lt
theorem SF (n:Nat) (h:n<18446744073709551616):Value.int .u64 (no_index (@OfNat.ofNat Int n _))=v64 (@OfNat.ofNat UInt64 n _):=by
 have: ((@OfNat.ofNat UInt64 n _).toNat:Int)=(@OfNat.ofNat Int n _):=by
  have e: (@OfNat.ofNat UInt64 n _).toNat=n:=by rw[UInt64.toNat_ofNat];exact Nat.mod_eq_of_lt h
  rw[e];rfl
 rw[v64,this]
theorem KO (x y:UInt64):aC .add (v64 x) (v64 y)=some (v64 (x+y)):=by
 simp only[aC,v64,bC, ↓reduceIte,UInt64.toNat_add]
 rw[←Int.natCast_add,sg]
theorem LB (x y:UInt64):aC .mul (v64 x) (v64 y)=some (v64 (x*y)):=by
 simp only[aC,v64,bC, ↓reduceIte,UInt64.toNat_mul]
 rw[←Int.natCast_mul,sg]
theorem Jv (x y:UInt64):aC .sub (v64 x) (v64 y)=some (v64 (x - y)):=by
 have hx:=x.toNat_lt;have hy:=y.toNat_lt
 have e:IntKind.wrap .u64 ((x.toNat:Int) - (y.toNat:Int))=((x - y).toNat:Int):=by
  rw[UInt64.toNat_sub]
  simp only[IntKind.wrap,IntKind.bits,IntKind.signed,Bool.false_and,Bool.false_eq_true, ↓reduceIte]
  omega
 simp only[aC,v64,bC, ↓reduceIte,e]
theorem KS (x y:UInt64):aC .and (v64 x) (v64 y)=some (v64 (x&&&y)):=by
 simp only[aC,v64,bC, ↓reduceIte,fq,qb,Option.map_some]
 show some (Value.int .u64 (IntKind.wrap .u64 ((x&&&y).toNat:Int)))=_
 rw[F4 _ (x&&&y).toNat_lt]
theorem MY (x y:UInt64):aC .or (v64 x) (v64 y)=some (v64 (x|||y)):=by
 simp only[aC,v64,bC, ↓reduceIte,fq,qb,Option.map_some]
 show some (Value.int .u64 (IntKind.wrap .u64 ((x|||y).toNat:Int)))=_
 rw[F4 _ (x|||y).toNat_lt]
theorem LE (x y:UInt64):aC .xor (v64 x) (v64 y)=some (v64 (x^^^y)):=by
 simp only[aC,v64,bC, ↓reduceIte,fq,qb,Option.map_some]
 show some (Value.int .u64 (IntKind.wrap .u64 ((x^^^y).toNat:Int)))=_
 rw[F4 _ (x^^^y).toNat_lt]
theorem MA (x:UInt64):unV .xor (v64 x)=some (v64 (~~~ x)):=by
 have hx:=x.toNat_lt
 have e: (BitVec.ofInt (IntKind.bits .u64) (IntKind.max .u64))=BitVec.allOnes 64:=rfl
 have e2: (BitVec.allOnes 64^^^x.toBitVec)=(~~~ x).toBitVec:=by rw[UInt64.toBitVec_not];exact BitVec.allOnes_xor
 simp only[unV,v64,fq,qb,IntKind.signed,Bool.false_eq_true, ↓reduceIte,e,Option.map_some]
 show some (Value.int .u64 (IntKind.wrap .u64 ((BitVec.allOnes 64^^^x.toBitVec).toNat:Int)))=_
 rw[e2]
 show some (Value.int .u64 (IntKind.wrap .u64 ((~~~ x).toNat:Int)))=_
 rw[F4 _ (~~~ x).toNat_lt]
def nU (x:UInt64) (n:Nat):UInt64:=UInt64.ofNat (x.toNat / 2^n)
def rl (x:UInt64) (n:Nat):UInt64:=UInt64.ofNat (x.toNat*2^n)
theorem KA (x y:UInt64):aC .lss (v64 x) (v64 y)=some (.bool (decide (x<y))):=by
 simp only[aC,v64,bC, ↓reduceIte,f5,UInt64.lt_iff_toNat_lt,Int.ofNat_lt,Int.ofNat_le]
theorem KU (x y:UInt64):aC .leq (v64 x) (v64 y)=some (.bool (decide (x≤y))):=by
 simp only[aC,v64,bC, ↓reduceIte,f5,UInt64.le_iff_toNat_le,Int.ofNat_lt,Int.ofNat_le]
theorem Lf (x y:UInt64):aC .gtr (v64 x) (v64 y)=some (.bool (decide (y<x))):=by
 simp only[aC,v64,bC, ↓reduceIte,f5,UInt64.lt_iff_toNat_lt,Int.ofNat_lt,Int.ofNat_le,gt_iff_lt,ge_iff_le]
theorem KY (x y:UInt64):aC .geq (v64 x) (v64 y)=some (.bool (decide (y≤x))):=by
 simp only[aC,v64,bC, ↓reduceIte,f5,UInt64.le_iff_toNat_le,Int.ofNat_lt,Int.ofNat_le,gt_iff_lt,ge_iff_le]
theorem Ba (x y:UInt64): ((x.toNat:Int)==(y.toNat:Int))=(x==y):=by
 rw[Bool.eq_iff_iff,beq_iff_eq,beq_iff_eq,Int.ofNat_inj,UInt64.toNat_inj]
theorem Lp (x y:UInt64):aC .eql (v64 x) (v64 y)=some (.bool (x==y)):=by
 simp only[aC,v64,bC, ↓reduceIte,f5,Ba]
theorem Ks (x y:UInt64):aC .neq (v64 x) (v64 y)=some (.bool (x !=y)):=by
 simp only[aC,v64,bC, ↓reduceIte,f5,bne,Ba]
theorem LP (x y:UInt64) (h:0<y.toNat):aC .quo (v64 x) (v64 y)=some (v64 (x / y)):=by
 have hx:=x.toNat_lt
 have e:IntKind.wrap .u64 ((x.toNat:Int).tdiv (y.toNat:Int))=((x / y).toNat:Int):=by
  rw[UInt64.toNat_div,Int.tdiv_eq_ediv_of_nonneg (by omega),←Int.natCast_ediv,sg]
  congr 1
  exact Nat.mod_eq_of_lt (Nat.lt_of_le_of_lt (Nat.div_le_self _ _) hx)
 have h0: ((y.toNat:Int)=0)=False:=by simp only[eq_iff_iff,iff_false];omega
 simp only[aC,v64,bC, ↓reduceIte,h0,e]
theorem KQ (x y:UInt64) (h:0<y.toNat):aC .rem (v64 x) (v64 y)=some (v64 (x%y)):=by
 have e: ((x.toNat:Int).tmod (y.toNat:Int))=((x%y).toNat:Int):=by
  rw[UInt64.toNat_mod,Int.tmod_eq_emod_of_nonneg (by omega),Int.natCast_emod]
 have h0: ((y.toNat:Int)=0)=False:=by simp only[eq_iff_iff,iff_false];omega
 simp only[aC,v64,bC, ↓reduceIte,h0,e]
theorem yI (x:UInt64) (kk:IntKind) (c:Nat):aC .shr (v64 x) (.int kk (c:Int))=some (v64 (nU x c)):=by
 have hx:=x.toNat_lt
 have h0: ((c:Int)<0)=False:=by simp only[eq_iff_iff,iff_false];omega
 have e: ((x.toNat:Int).fdiv (2^ (min c 64)))=((nU x c).toNat:Int):=by
  have hp: (2:Int)^ (min c 64)=((2^ (min c 64):Nat):Int):=by rw[Int.natCast_pow];rfl
  rw[hp,Int.fdiv_eq_ediv_of_nonneg _ (Int.natCast_nonneg _),←Int.natCast_ediv,nU,UInt64.toNat_ofNat']
  congr 1
  rw[Nat.mod_eq_of_lt (Nat.lt_of_le_of_lt (Nat.div_le_self _ _) hx)]
  by_cases hc:c≤64
  ·rw[Nat.min_eq_left hc]
  ·rw[Nat.min_eq_right (by omega),Nat.div_eq_of_lt (by simpa using hx),Nat.div_eq_of_lt]
   exact Nat.lt_of_lt_of_le (by simpa using hx) (Nat.pow_le_pow_right (by omega) (by omega:64≤c))
 simp only[aC,v64,m9,h0, ↓reduceIte,Int.toNat_natCast,IntKind.bits,e]
theorem yH (x:UInt64) (kk:IntKind) (c:Nat):aC .shl (v64 x) (.int kk (c:Int))=some (v64 (rl x c)):=by
 have h0: ((c:Int)<0)=False:=by simp only[eq_iff_iff,iff_false];omega
 have e:IntKind.wrap .u64 ((x.toNat:Int)* (2^ (min c 64)))=((rl x c).toNat:Int):=by
  have hp: (2:Int)^ (min c 64)=((2^ (min c 64):Nat):Int):=by rw[Int.natCast_pow];rfl
  rw[hp,←Int.natCast_mul,sg,rl,UInt64.toNat_ofNat']
  congr 1
  by_cases hc:c≤64
  ·rw[Nat.min_eq_left hc]
  ·rw[Nat.min_eq_right (by omega)]
   have:2^c=2^64*2^ (c - 64):=by rw[←Nat.pow_add];congr 1;omega
   rw[this,←Nat.mul_assoc,Nat.mul_right_comm]
   simp[Nat.mul_mod_left]
 simp only[aC,v64,m9,h0, ↓reduceIte,Int.toNat_natCast,IntKind.bits,e]
theorem IH (x:UInt8) (c:UInt8):aC .shr (v8 x) (v8 c)=some (v8 (mm x c.toNat)):=yA x _ _
theorem IM (x:UInt8) (c:UInt8):aC .shl (v8 x) (v8 c)=some (v8 (qA x c.toNat)):=y6 x _ _
theorem Ml (x:UInt8):bV .u8 (v8 x)=some (v8 (UInt8.ofNat x.toNat)):=by
 simp only[bV,v8,v8,sc,UInt8.toNat_ofNat']
theorem WB_ (x:UInt8) (c:UInt16):aC .shr (v8 x) (v16 c)=some (v8 (mm x c.toNat)):=yA x _ _
theorem WJ_ (x:UInt8) (c:UInt16):aC .shl (v8 x) (v16 c)=some (v8 (qA x c.toNat)):=y6 x _ _
theorem Js (x:UInt8):bV .u16 (v8 x)=some (v16 (UInt16.ofNat x.toNat)):=by
 simp only[bV,v8,v16,sd,UInt16.toNat_ofNat']
theorem Wx_ (x:UInt8) (c:UInt32):aC .shr (v8 x) (v32 c)=some (v8 (mm x c.toNat)):=yA x _ _
theorem Wc_ (x:UInt8) (c:UInt32):aC .shl (v8 x) (v32 c)=some (v8 (qA x c.toNat)):=y6 x _ _
theorem Lk (x:UInt8):bV .u32 (v8 x)=some (v32 (UInt32.ofNat x.toNat)):=by
 simp only[bV,v8,v32,sf,UInt32.toNat_ofNat']
theorem V6_ (x:UInt8) (c:UInt64):aC .shr (v8 x) (v64 c)=some (v8 (mm x c.toNat)):=yA x _ _
theorem Wh_ (x:UInt8) (c:UInt64):aC .shl (v8 x) (v64 c)=some (v8 (qA x c.toNat)):=y6 x _ _
theorem K8 (x:UInt8):bV .u64 (v8 x)=some (v64 (UInt64.ofNat x.toNat)):=by
 simp only[bV,v8,v64,sg,UInt64.toNat_ofNat']
theorem Z9 (x:UInt8) (kk:IntKind) (c:Int) (h:0≤c):aC .shr (v8 x) (.int kk c)=some (v8 (mm x c.toNat)):=by
 obtain⟨n,rfl⟩:=Int.eq_ofNat_of_zero_le h;exact yA x _ _
theorem Z8 (x:UInt8) (kk:IntKind) (c:Int) (h:0≤c):aC .shl (v8 x) (.int kk c)=some (v8 (qA x c.toNat)):=by
 obtain⟨n,rfl⟩:=Int.eq_ofNat_of_zero_le h;exact y6 x _ _
theorem JZ (x:UInt8):bV .i64 (v8 x)=some (.int .i64 ((x.toNat:Int))):=by
 have hx:=x.toNat_lt
 simp only[bV,v8]
 rw[nP _ (by omega)]
theorem Y5 (kk:IntKind) (n:Int):bV .u8 (.int kk n)=some (v8 (UInt8.ofInt n)):=by
 simp only[bV,v8,IG]
theorem V4_ (x:UInt16) (c:UInt8):aC .shr (v16 x) (v8 c)=some (v16 (rg x c.toNat)):=EU x _ _
theorem WK_ (x:UInt16) (c:UInt8):aC .shl (v16 x) (v8 c)=some (v16 (rf x c.toNat)):=yG x _ _
theorem Le (x:UInt16):bV .u8 (v16 x)=some (v8 (UInt8.ofNat x.toNat)):=by
 simp only[bV,v16,v8,sc,UInt8.toNat_ofNat']
theorem KW_ (x:UInt16) (c:UInt16):aC .shr (v16 x) (v16 c)=some (v16 (rg x c.toNat)):=EU x _ _
theorem VE_ (x:UInt16) (c:UInt16):aC .shl (v16 x) (v16 c)=some (v16 (rf x c.toNat)):=yG x _ _
theorem K3 (x:UInt16):bV .u16 (v16 x)=some (v16 (UInt16.ofNat x.toNat)):=by
 simp only[bV,v16,v16,sd,UInt16.toNat_ofNat']
theorem Ka_ (x:UInt16) (c:UInt32):aC .shr (v16 x) (v32 c)=some (v16 (rg x c.toNat)):=EU x _ _
theorem KA_ (x:UInt16) (c:UInt32):aC .shl (v16 x) (v32 c)=some (v16 (rf x c.toNat)):=yG x _ _
theorem Id (x:UInt16):bV .u32 (v16 x)=some (v32 (UInt32.ofNat x.toNat)):=by
 simp only[bV,v16,v32,sf,UInt32.toNat_ofNat']
theorem KV_ (x:UInt16) (c:UInt64):aC .shr (v16 x) (v64 c)=some (v16 (rg x c.toNat)):=EU x _ _
theorem KF_ (x:UInt16) (c:UInt64):aC .shl (v16 x) (v64 c)=some (v16 (rf x c.toNat)):=yG x _ _
theorem JV (x:UInt16):bV .u64 (v16 x)=some (v64 (UInt64.ofNat x.toNat)):=by
 simp only[bV,v16,v64,sg,UInt64.toNat_ofNat']
theorem YM (x:UInt16) (kk:IntKind) (c:Int) (h:0≤c):aC .shr (v16 x) (.int kk c)=some (v16 (rg x c.toNat)):=by
 obtain⟨n,rfl⟩:=Int.eq_ofNat_of_zero_le h;exact EU x _ _
theorem YP (x:UInt16) (kk:IntKind) (c:Int) (h:0≤c):aC .shl (v16 x) (.int kk c)=some (v16 (rf x c.toNat)):=by
 obtain⟨n,rfl⟩:=Int.eq_ofNat_of_zero_le h;exact yG x _ _
theorem JQ (x:UInt16):bV .i64 (v16 x)=some (.int .i64 ((x.toNat:Int))):=by
 have hx:=x.toNat_lt
 simp only[bV,v16]
 rw[nP _ (by omega)]
theorem ZD (kk:IntKind) (n:Int):bV .u16 (.int kk n)=some (v16 (UInt16.ofInt n)):=by
 simp only[bV,v16,Wn_]
theorem WL_ (x:UInt32) (c:UInt8):aC .shr (v32 x) (v8 c)=some (v32 (eN x c.toNat)):=EX x _ _
theorem WF_ (x:UInt32) (c:UInt8):aC .shl (v32 x) (v8 c)=some (v32 (mB x c.toNat)):=yF x _ _
theorem Lu (x:UInt32):bV .u8 (v32 x)=some (v8 (UInt8.ofNat x.toNat)):=by
 simp only[bV,v32,v8,sc,UInt8.toNat_ofNat']
theorem Ki_ (x:UInt32) (c:UInt16):aC .shr (v32 x) (v16 c)=some (v32 (eN x c.toNat)):=EX x _ _
theorem K4_ (x:UInt32) (c:UInt16):aC .shl (v32 x) (v16 c)=some (v32 (mB x c.toNat)):=yF x _ _
theorem Im (x:UInt32):bV .u16 (v32 x)=some (v16 (UInt16.ofNat x.toNat)):=by
 simp only[bV,v32,v16,sd,UInt16.toNat_ofNat']
theorem VK_ (x:UInt32) (c:UInt32):aC .shr (v32 x) (v32 c)=some (v32 (eN x c.toNat)):=EX x _ _
theorem VL_ (x:UInt32) (c:UInt32):aC .shl (v32 x) (v32 c)=some (v32 (mB x c.toNat)):=yF x _ _
theorem J6 (x:UInt32):bV .u32 (v32 x)=some (v32 (UInt32.ofNat x.toNat)):=by
 simp only[bV,v32,v32,sf,UInt32.toNat_ofNat']
theorem VP_ (x:UInt32) (c:UInt64):aC .shr (v32 x) (v64 c)=some (v32 (eN x c.toNat)):=EX x _ _
theorem Vs_ (x:UInt32) (c:UInt64):aC .shl (v32 x) (v64 c)=some (v32 (mB x c.toNat)):=yF x _ _
theorem Ij (x:UInt32):bV .u64 (v32 x)=some (v64 (UInt64.ofNat x.toNat)):=by
 simp only[bV,v32,v64,sg,UInt64.toNat_ofNat']
theorem YN (x:UInt32) (kk:IntKind) (c:Int) (h:0≤c):aC .shr (v32 x) (.int kk c)=some (v32 (eN x c.toNat)):=by
 obtain⟨n,rfl⟩:=Int.eq_ofNat_of_zero_le h;exact EX x _ _
theorem YU (x:UInt32) (kk:IntKind) (c:Int) (h:0≤c):aC .shl (v32 x) (.int kk c)=some (v32 (mB x c.toNat)):=by
 obtain⟨n,rfl⟩:=Int.eq_ofNat_of_zero_le h;exact yF x _ _
theorem J0 (x:UInt32):bV .i64 (v32 x)=some (.int .i64 ((x.toNat:Int))):=by
 have hx:=x.toNat_lt
 simp only[bV,v32]
 rw[nP _ (by omega)]
theorem ZI (kk:IntKind) (n:Int):bV .u32 (.int kk n)=some (v32 (UInt32.ofInt n)):=by
 simp only[bV,v32,We_]
theorem Wz_ (x:UInt64) (c:UInt8):aC .shr (v64 x) (v8 c)=some (v64 (nU x c.toNat)):=yI x _ _
theorem V2_ (x:UInt64) (c:UInt8):aC .shl (v64 x) (v8 c)=some (v64 (rl x c.toNat)):=yH x _ _
theorem LO (x:UInt64):bV .u8 (v64 x)=some (v8 (UInt8.ofNat x.toNat)):=by
 simp only[bV,v64,v8,sc,UInt8.toNat_ofNat']
theorem Va_ (x:UInt64) (c:UInt16):aC .shr (v64 x) (v16 c)=some (v64 (nU x c.toNat)):=yI x _ _
theorem Vc_ (x:UInt64) (c:UInt16):aC .shl (v64 x) (v16 c)=some (v64 (rl x c.toNat)):=yH x _ _
theorem Ip (x:UInt64):bV .u16 (v64 x)=some (v16 (UInt16.ofNat x.toNat)):=by
 simp only[bV,v64,v16,sd,UInt16.toNat_ofNat']
theorem VW_ (x:UInt64) (c:UInt32):aC .shr (v64 x) (v32 c)=some (v64 (nU x c.toNat)):=yI x _ _
theorem KG_ (x:UInt64) (c:UInt32):aC .shl (v64 x) (v32 c)=some (v64 (rl x c.toNat)):=yH x _ _
theorem JL (x:UInt64):bV .u32 (v64 x)=some (v32 (UInt32.ofNat x.toNat)):=by
 simp only[bV,v64,v32,sf,UInt32.toNat_ofNat']
theorem VV_ (x:UInt64) (c:UInt64):aC .shr (v64 x) (v64 c)=some (v64 (nU x c.toNat)):=yI x _ _
theorem Kq_ (x:UInt64) (c:UInt64):aC .shl (v64 x) (v64 c)=some (v64 (rl x c.toNat)):=yH x _ _
theorem In (x:UInt64):bV .u64 (v64 x)=some (v64 (UInt64.ofNat x.toNat)):=by
 simp only[bV,v64,v64,sg,UInt64.toNat_ofNat']
theorem YT (x:UInt64) (kk:IntKind) (c:Int) (h:0≤c):aC .shr (v64 x) (.int kk c)=some (v64 (nU x c.toNat)):=by
 obtain⟨n,rfl⟩:=Int.eq_ofNat_of_zero_le h;exact yI x _ _
theorem YK (x:UInt64) (kk:IntKind) (c:Int) (h:0≤c):aC .shl (v64 x) (.int kk c)=some (v64 (rl x c.toNat)):=by
 obtain⟨n,rfl⟩:=Int.eq_ofNat_of_zero_le h;exact yH x _ _
theorem JG (x:UInt64):bV .i64 (v64 x)=some (.int .i64 (IntKind.wrap .i64 (x.toNat:Int))):=by
 have hx:=x.toNat_lt
 simp only[bV,v64]
theorem Z6 (kk:IntKind) (n:Int):bV .u64 (.int kk n)=some (v64 (UInt64.ofInt n)):=by
 simp only[bV,v64,V8_]
theorem N1 (n:Int):bV .u8 (vi n)=some (v8 (UInt8.ofInt n)):=Y5 _ n
theorem LL (n:Int):bV .u16 (vi n)=some (v16 (UInt16.ofInt n)):=ZD _ n
theorem M6 (n:Int):bV .u32 (vi n)=some (v32 (UInt32.ofInt n)):=ZI _ n
theorem M2 (n:Int):bV .u64 (vi n)=some (v64 (UInt64.ofInt n)):=Z6 _ n
theorem IK (x:UInt8) (c:Int) (h:0≤c):aC .shr (v8 x) (vi c)=some (v8 (mm x c.toNat)):=Z9 x _ c h
theorem IL (x:UInt8) (c:Int) (h:0≤c):aC .shl (v8 x) (vi c)=some (v8 (qA x c.toNat)):=Z8 x _ c h
theorem V5_ (x:UInt16) (c:Int) (h:0≤c):aC .shr (v16 x) (vi c)=some (v16 (rg x c.toNat)):=YM x _ c h
theorem VZ_ (x:UInt16) (c:Int) (h:0≤c):aC .shl (v16 x) (vi c)=some (v16 (rf x c.toNat)):=YP x _ c h
theorem Wr_ (x:UInt32) (c:Int) (h:0≤c):aC .shr (v32 x) (vi c)=some (v32 (eN x c.toNat)):=YN x _ c h
theorem Wu_ (x:UInt32) (c:Int) (h:0≤c):aC .shl (v32 x) (vi c)=some (v32 (mB x c.toNat)):=YU x _ c h
theorem Wd_ (x:UInt64) (c:Int) (h:0≤c):aC .shr (v64 x) (vi c)=some (v64 (nU x c.toNat)):=YT x _ c h
theorem Wp_ (x:UInt64) (c:Int) (h:0≤c):aC .shl (v64 x) (vi c)=some (v64 (rl x c.toNat)):=YK x _ c h
end Go.Sx
end
section
namespace Go.Sx
open Go
set_option linter.unusedSimpArgs false
def CK:TypeDesc→Bool
 | .struct _=>true
 | .array _ _=>true
 |_=>false
def aM (P:Program) (t:TypeId):Option (Bool×Nat):=
 match P.underlying t,P.info? t with
 |some d,some i=>some (CK d,i.size)
 |_,_=>none
inductive Ix where
 |arr (n:Nat) (m:Bool×Nat)
 |sl (m:Bool×Nat)
 |str
 |no
def ixT (P:Program) (t:TypeId):Ix:=
 match P.underlying t with
 |some (.array n e)=>match aM P e with|some m=> .arr n m|none=> .no
 |some (.slice e)=>match aM P e with|some m=> .sl m|none=> .no
 |some .string=> .str
 |_=> .no
def aX (P:Program) (t:TypeId) (i:Nat):Option (Nat× (Bool×Nat)):=
 match P.underlying t with
 |some (.struct fs)=>match fs[i]? with
  |some fd=>match aM P fd.type with
   |some m=>some (fd.offset,m)
   |none=>none
  |none=>none
 |_=>none
inductive Cv where
 |int (k:IntKind)
 |str
 |bytesStr
 |strBytes (e:TypeId)
 |no
def cvT (P:Program) (s d:TypeId):Cv:=
 match P.underlying s,P.underlying d with
 |some (.int _),some (.int k)=> .int k
 |some .string,some .string=> .str
 |some (.slice e),some .string=>match P.underlying e with|some (.int .u8)=> .bytesStr|_=> .no
 |some .string,some (.slice e)=>match P.underlying e with|some (.int .u8)=> .strBytes e|_=> .no
 |_,_=> .no
section
variable {P:Program}
theorem zV {t:TypeId} {m:Bool×Nat} (h:aM P t=some m): ∃d i,P.underlying t=some d∧P.info? t=some i∧CK d=m.1∧i.size=m.2:=by
 unfold aM at h
 split at h
 ·rename_i d i hd hi
  cases h
  exact⟨d,i,hd,hi,rfl,rfl⟩
 ·cases h
theorem Hl {t:TypeId} {m:Bool×Nat} (h:aM P t=some m) (w:World): (isAgg t).run P w= .ok m.1 w:=by
 obtain⟨d,i,hd,hi,h1,_⟩:=zV h
 unfold isAgg
 rw[Sem.run_bind,run_underlying hd w,←h1]
 cases d<;>rfl
theorem gO {t:TypeId} {m:Bool×Nat} (h:aM P t=some m) (w:World): (sizeOf t).run P w= .ok m.2 w:=by
 obtain⟨d,i,hd,hi,_,h2⟩:=zV h
 simp[sizeOf,typeInfo,hi,h2]
def partV (m:Bool×Nat) (cs:Array Value) (off:Nat):Option Value:=
 if m.1 then some (.agg (cs.extract off (off+m.2))) else cs[off]?
theorem p9 {t:TypeId} {m:Bool×Nat} (h:aM P t=some m) {cs:Array Value} {off:Nat} {v:Value} (hv:partV m cs off=some v) (w:World): (part t cs off).run P w= .ok v w:=by
 unfold part
 rw[Sem.run_bind,Hl h w]
 simp only[Result.andThen_ok]
 unfold partV at hv
 cases hm:m.1 with
 |true=>
  rw[hm] at hv
  simp only[↓reduceIte,Option.some.injEq] at hv
  simp only[↓reduceIte]
  rw[Sem.run_bind,gO h w]
  simp only[Result.andThen_ok,Sem.run_pure,hv]
 |false=>
  rw[hm] at hv
  simp only[Bool.false_eq_true, ↓reduceIte] at hv
  simp only[Bool.false_eq_true, ↓reduceIte,hv,Sem.run_pure]
end
def vp (b off:Nat):Value:= .pointer (some ⟨b,off,none⟩)
def vsl (b off n c:Nat):Value:= .slice (some ⟨b,off,none⟩) n c
def vs (l:List UInt8):Value:= .string ⟨l.toArray⟩
theorem ml (b o n:Nat): (Addr.mk b o none).add n=⟨b,o+n,none⟩:=by
 unfold Addr.add;split<;>simp_all
def ixI:Value→Option Int
 | .int _ n=>some n
 |_=>none
def p7 (x:Ix) (v:Value) (i:Option Int):Option Value:=
 match x,v,i with
 | .arr n m, .agg cs,some k=>if 0≤k∧k<n then partV m cs (k.toNat*m.2) else none
 | .str, .string s,some k=>if 0≤k then(s[k.toNat]?).map fun b=> .int .u8 (b.toNat:Int) else none
 |_,_,_=>none
def lZ (x:Ix) (v:Value) (i:Option Int):Option Value:=
 match x,v,i with
 | .arr n m, .pointer (some a),some k=>if 0≤k∧k<n then some (.pointer (some (a.add (k.toNat*m.2)))) else none
 | .sl m, .slice (some a) n _,some k=>if 0≤k∧k<n then some (.pointer (some (a.add (k.toNat*m.2)))) else none
 |_,_,_=>none
def xQ (x:Option (Nat× (Bool×Nat))) (v:Value):Option Value:=
 match x,v with
 |some (off,m), .pointer (some a)=>if m.2=0 then none else some (.pointer (some (a.add off)))
 |_,_=>none
def qX (x:Option (Nat× (Bool×Nat))) (v:Value):Option Value:=
 match x,v with
 |some (off,m), .agg cs=>partV m cs off
 |_,_=>none
def nilV (v:Value):Option Value:=
 match v with
 | .pointer (some a)=>some (.pointer (some a))
 | .func (.func k) a b=>some (.func (.func k) a b)
 |_=>none
def FC (v:Value) (i:Nat):Option Value:=
 match v with
 | .tuple vs=>vs[i]?
 |_=>none
def gP (x:Ix) (v:Value):Option Value:=
 match x,v with
 | .str, .string s=>some (.int .i64 s.size)
 | .arr n _,_=>some (.int .i64 n)
 | .sl _, .slice _ n _=>some (.int .i64 n)
 |_,_=>none
def capV (x:Ix) (v:Value):Option Value:=
 match x,v with
 | .arr n _,_=>some (.int .i64 n)
 | .sl _, .slice _ _ c=>some (.int .i64 c)
 |_,_=>none
def iW (c a b:Value):Option Value:=
 match c with
 | .bool true=>some a
 | .bool false=>some b
 |_=>none
def bndV (n c:Nat) (lo hi:Option (Option Int)):Option (Nat×Nat):=
 match lo,hi with
 |none,none=>some (0,n)
 |some (some l),none=>if 0≤l∧l≤n then some (l.toNat,n) else none
 |none,some (some h)=>if 0≤h∧h≤c then some (0,h.toNat) else none
 |some (some l),some (some h)=>if 0≤l∧l≤h∧h≤c then some (l.toNat,h.toNat) else none
 |_,_=>none
def gZ (x:Ix) (v:Value) (lo hi:Option (Option Int)):Option Value:=
 match x,v with
 | .str, .string s=>match bndV s.size s.size lo hi with
  |some (l,h)=>some (.string (s.extract l h))
  |none=>none
 | .sl m, .slice a n c=>match bndV n c lo hi with
  |some (l,h)=>some (.slice (if c=l then a else a.map (·.add (l*m.2))) (h - l) (c - l))
  |none=>none
 | .arr n m, .pointer (some a)=>match bndV n n lo hi with
  |some (l,h)=>some (.slice (some (if n=l then a else a.add (l*m.2))) (h - l) (n - l))
  |none=>none
 |_,_=>none
def aI (m:Option (Bool×Nat)) (o:Option Obj) (off:Nat):Option Value:=
 match m,o with
 |some (true,n),some (.cells cs _ _)=>if off+n≤cs.size then some (.agg (cs.extract off (off+n))) else none
 |some (false,_),some (.cells cs _ _)=>cs[off]?
 |_,_=>none
def sk (m:Option (Bool×Nat)) (w0:World) (L:aA) (v:Value):Option Value:=
 match v with
 | .pointer (some ⟨b,off,none⟩)=>aI m (aP w0 L b) off
 |_=>none
def sj:List Value→Option (List UInt8)
 | []=>some []
 | .int .u8 n::r=>match sj r with
  |some l=>some (UInt8.ofNat n.toNat::l)
  |none=>none
 |_=>none
def ga (o:Option Obj) (off n:Nat):Option Value:=
 match o with
 |some (.cells cs _ _)=>if off+n≤cs.size then(sj (cs.extract off (off+n)).toList).map fun l=> .string ⟨l.toArray⟩ else none
 |_=>none
def uF (w0:World) (L:aA) (v:Value):Option Value:=
 match v with
 | .slice none _ _=>some (.string .empty)
 | .slice (some ⟨b,off,none⟩) n _=>ga (aP w0 L b) off n
 |_=>none
def pE (w0:World) (L:aA) (c:Cv) (v:Value):Option Value:=
 match c with
 | .int k=>bV k v
 | .str=>match v with| .string s=>some (.string s) |_=>none
 | .bytesStr=>uF w0 L v
 |_=>none
def eA (d:Option TypeDesc) (x y:Value):Option Bool:=
 match d,x,y with
 |some (.pointer _), .pointer none, .pointer b=>some b.isNone
 |some (.pointer _), .pointer (some _), .pointer none=>some false
 |some (.slice _), .slice none _ _, .slice b _ _=>some b.isNone
 |some (.slice _), .slice (some _) _ _, .slice none _ _=>some false
 |some (.map _ _), .map none, .map b=>some b.isNone
 |some (.map _ _), .map (some _), .map none=>some false
 |some (.func _ _ _), .nilFunc, .nilFunc=>some true
 |some (.func _ _ _), .nilFunc, .func _ _ _=>some false
 |some (.func _ _ _), .func _ _ _, .nilFunc=>some false
 |some .bool, .bool a, .bool b=>some (a==b)
 |_,_,_=>none
def eM:Value→Bool
 | .int _ _=>true
 | .string _=>true
 |_=>false
def y9 (f:Nat→Option Bool):List Nat→Option Bool
 | []=>some true
 |i::r=>match f i with
  |some true=>y9 f r
  |some false=>some false
  |none=>none
def Ec (f:Field→Option Bool):List Field→Option Bool
 | []=>some true
 |x::r=>if x.name≠ "_" then(match f x with
  |some true=>Ec f r
  |some false=>some false
  |none=>none) else Ec f r
def so (m:Option (Bool×Nat)) (f:Value→Value→Option Bool) (xs ys:Array Value) (off:Nat):Option Bool:=
 match m with
 |some m=>match partV m xs off,partV m ys off with
  |some a,some b=>f a b
  |_,_=>none
 |none=>none
def eqD (P:Program):Nat→TypeId→Value→Value→Option Bool
 |0,_,_,_=>none
 |d+1,t,x,y=>match P.underlying t,x,y with
  |some (.int _), .int k a, .int k' b=>if k=k' then some (a==b) else none
  |some .string, .string a, .string b=>some (a==b)
  |some (.array n e), .agg xs, .agg ys=>match aM P e with
   |some m=>y9 (fun i=>so (some m) (eqD P d e) xs ys (i*m.2)) (List.range n)
   |none=>none
  |some (.struct fs), .agg xs, .agg ys=>if P.stoodInHeld t then none else
   Ec (fun f=>so (aM P f.type) (eqD P d f.type) xs ys f.offset) fs.toList
  |D,x,y=>eA D x y
def eqX (P:Program) (t:TypeId) (x y:Value):Option Bool:=
 match x,y with
 | .agg xs, .agg ys=>if P.eqGuardType P.depth t then none else eqD P 8 t (.agg xs) (.agg ys)
 |x,y=>eA (P.underlying t) x y
def aT (P:Program) (op:BinOp) (t:TypeId) (x y:Value):Option Value:=
 if eM x&&eM y then aC op x y
 else match op with
  | .eql=>(eqX P t x y).map fun b=> .bool b
  | .neq=>(eqX P t x y).map fun b=> .bool (!b)
  |_=>none
def iF (P:Program) (w0:World) (L:aA) (f:Fr):Op→Option Value
 | .move x=>some (ev f x)
 | .assign x=>some (ev f x)
 | .pick c a b=>iW (ev f c) (ev f a) (ev f b)
 | .binOp op t x y _=>aT P op t (ev f x) (ev f y)
 | .unOp op _ x=>unV op (ev f x)
 | .convert s d x=>pE w0 L (cvT P s d) (ev f x)
 | .nilCheck x=>nilV (ev f x)
 | .fieldAddr s x i=>xQ (aX P s i) (ev f x)
 | .field s x i=>qX (aX P s i) (ev f x)
 | .indexAddr t x i=>lZ (ixT P t) (ev f x) (ixI (ev f i))
 | .index t x i=>p7 (ixT P t) (ev f x) (ixI (ev f i))
 | .load t x=>sk (aM P t) w0 L (ev f x)
 | .extract x i=>FC (ev f x) i
 | .slice t x lo hi none=>gZ (ixT P t) (ev f x) (lo.map fun o=>ixI (ev f o)) (hi.map fun o=>ixI (ev f o))
 | .makeFunc fn a b=>some (.func fn (a.map (ev f)) (b.map (ev f)))
 | .call ⟨.builtin .len,args,ts⟩=>match args[0]?,ts[0]? with
  |some x,some t=>gP (ixT P t) (ev f x)
  |_,_=>none
 | .call ⟨.builtin .cap,args,ts⟩=>match args[0]?,ts[0]? with
  |some x,some t=>capV (ixT P t) (ev f x)
  |_,_=>none
 |_=>none
theorem Jq {w0 w:World} {L:aA} (h:Hp w0 L w) {b:Nat} {cs:Array Value} {E:TypeId} {fz:Nat×Nat} (hr:aP w0 L b=some (.cells cs E fz)) (off:Nat):w.cell? ⟨b,off,none⟩=cs[off]? :=
 cell_of_row w b off cs E fz (h.read hr)
section
variable {P:Program} {w0 w:World} {L:aA}
theorem GJ {b:Nat} {cs:Array Value} {E:TypeId} {fz:Nat×Nat} (hb:w.heap[b]? =some (.cells cs E fz)) (off n:Nat) (hn:off+n≤cs.size):
  (loadCells ⟨b,off,none⟩ n).run P w= .ok (cs.extract off (off+n)) w:=by
 have h:=run_loadCells_list (P:=P) w ⟨b,off,none⟩ (cs.extract off (off+n)).toList (by
  intro j v hv
  rw[ml,cell_of_row w b _ cs E fz hb]
  simp only[Array.getElem?_toList,Array.getElem?_extract] at hv
  split at hv
  ·exact hv
  ·cases hv)
 have e: (cs.extract off (off+n)).toList.length=n:=by simp;omega
 rw[e,Array.toArray_toList] at h
 exact h
theorem YX {t:TypeId} {b off:Nat} {v:Value} (hw:Hp w0 L w) (h:aI (aM P t) (aP w0 L b) off=some v): (loadVar t ⟨b,off,none⟩).run P w= .ok v w:=by
 unfold aI at h
 split at h
 ·rename_i n cs E fz hm ho
  split at h
  ·rename_i hn
   simp only[Option.some.injEq] at h;subst h
   unfold loadVar
   rw[Sem.run_bind,Hl hm w]
   simp only[Result.andThen_ok, ↓reduceIte,Sem.run_bind,gO hm w,GJ (hw.read ho) off n hn,Sem.run_pure]
  ·cases h
 ·rename_i n cs E fz hm ho
  unfold loadVar
  rw[Sem.run_bind,Hl hm w]
  simp only[Result.andThen_ok,Bool.false_eq_true, ↓reduceIte,run_load,Jq hw ho,h]
 ·cases h
theorem Y8 (f:Value→ByteArray→Sem (ForInStep ByteArray)) (hf: ∀ (n:Int) s,f (.int .u8 n) s=pure (.yield (s.push (UInt8.ofNat n.toNat)))):
  ∀ (l:List Value) (bs:List UInt8) (s:ByteArray) (w:World),sj l=some bs→(forIn l s f).run P w= .ok ⟨s.data++bs.toArray⟩ w
 | [],bs,s,w,h=>by
  simp only[sj,Option.some.injEq] at h;subst h
  simp
 |v::r,bs,s,w,h=>by
  unfold sj at h
  split at h
  ·cases ‹v::r= []›
  ·rename_i n r' e
   cases e
   split at h
   ·rename_i l hl
    simp only[Option.some.injEq] at h;subst h
    have ih:=Y8 f hf r l (s.push (UInt8.ofNat n.toNat)) w hl
    rw[List.forIn_cons,hf]
    simp only[pure_bind]
    rw[ih]
    congr 1
    apply congrArg
    apply Array.ext'
    simp[ByteArray.push]
   ·cases h
  ·cases h
theorem JA_ {b off n c:Nat} {v:Value} (hw:Hp w0 L w) (h:ga (aP w0 L b) off n=some v): (Conv.bytesToString (.slice (some ⟨b,off,none⟩) n c)).run P w= .ok v w:=by
 unfold ga at h
 split at h
 ·rename_i cs E fz ho
  split at h
  ·rename_i hn
   cases hl:sj (cs.extract off (off+n)).toList with
   |none=>rw[hl] at h;cases h
   |some l=>
    rw[hl] at h
    simp only[Option.map_some,Option.some.injEq] at h;subst h
    unfold Conv.bytesToString
    simp only[Sem.run_bind,GJ (hw.read ho) off n hn,Result.andThen_ok]
    rw[←Array.forIn_toList,Y8 _ (fun n s=>rfl) _ _ _ w hl]
    simp[ByteArray.empty,ByteArray.emptyWithCapacity]
    rfl
  ·cases h
 ·cases h
end
end Go.Sx
end
section
namespace Go.Sx
open Go
set_option linter.unusedSimpArgs false
section
variable {P:Program} {w0 w:World} {L:aA}
theorem EH {v:Value} {i:Int} (h:ixI v=some i): ∃k,v= .int k i:=by
 cases v<;>simp only[ixI,reduceCtorEq,Option.some.injEq] at h
 subst h;exact⟨_,rfl⟩
theorem MU {t:TypeId} {x i v:Value} (h:p7 (ixT P t) x (ixI i)=some v) (w:World): (Instr.index t x i).run P w= .ok v w:=by
 unfold p7 at h
 split at h
 ·rename_i n m cs k hx hi
  split at h
  ·rename_i hk
   obtain⟨kk,rfl⟩:=EH hi
   unfold ixT at hx
   split at hx
   ·rename_i n' e hu
    split at hx
    ·rename_i m' hm
     cases hx
     simp only[Instr.index,asIntOf,Sem.run_bind,Sem.run_pure,Result.andThen_ok,run_underlying hu w,hk,and_self, ↓reduceIte,gO hm w]
     exact p9 hm h w
    ·cases hx
   ·split at hx<;>cases hx
   ·cases hx
   ·cases hx
  ·cases h
 ·rename_i s k hx hi
  split at h
  ·rename_i hk
   obtain⟨kk,rfl⟩:=EH hi
   unfold ixT at hx
   split at hx
   ·split at hx<;>cases hx
   ·split at hx<;>cases hx
   ·rename_i hu
    cases hs:s[k.toNat]? with
    |none=>rw[hs] at h;cases h
    |some b=>
     rw[hs] at h
     simp only[Option.map_some,Option.some.injEq] at h;subst h
     simp only[Instr.index,asIntOf,Sem.run_bind,Sem.run_pure,Result.andThen_ok,run_underlying hu w,hk, ↓reduceIte,hs]
   ·cases hx
  ·cases h
 ·cases h
theorem Wa_ {t:TypeId} {x i v:Value} (h:lZ (ixT P t) x (ixI i)=some v) (w:World): (Instr.indexAt t x i).run P w= .ok v w:=by
 unfold lZ at h
 split at h
 ·rename_i n m a k hx hi
  split at h
  ·rename_i hk
   obtain⟨kk,rfl⟩:=EH hi
   unfold ixT at hx
   split at hx
   ·rename_i n' e hu
    split at hx
    ·rename_i m' hm
     cases hx
     cases h
     simp only[Instr.indexAt,asIntOf,Sem.run_bind,Sem.run_pure,Result.andThen_ok,run_underlying hu w,Instr.sureAddr,hk,and_self, ↓reduceIte,gO hm w]
    ·cases hx
   ·split at hx<;>cases hx
   ·cases hx
   ·cases hx
  ·cases h
 ·rename_i m a n c k hx hi
  split at h
  ·rename_i hk
   obtain⟨kk,rfl⟩:=EH hi
   unfold ixT at hx
   split at hx
   ·split at hx<;>cases hx
   ·rename_i e hu
    split at hx
    ·rename_i m' hm
     cases hx
     cases h
     simp only[Instr.indexAt,asIntOf,Sem.run_bind,Sem.run_pure,Result.andThen_ok,run_underlying hu w,hk,and_self, ↓reduceIte,gO hm w]
    ·cases hx
   ·cases hx
   ·cases hx
  ·cases h
 ·cases h
theorem Wb_ {t:TypeId} {x v:Value} {i:Nat} (h:xQ (aX P t i) x=some v) (w:World): (Instr.fieldAt t x i).run P w= .ok v w:=by
 unfold xQ at h
 split at h
 ·rename_i off m a hx
  split at h
  ·cases h
  ·rename_i sS
   unfold aX at hx
   split at hx
   ·rename_i fs hu
    split at hx
    ·rename_i fd hf
     split at hx
     ·rename_i m' hm
      cases hx
      cases h
      simp only[Instr.fieldAt,Sem.run_bind,Sem.run_pure,Result.andThen_ok,run_underlying hu w,hf,Instr.sureAddr,fieldPlace,gO hm w,sS, ↓reduceIte]
     ·cases hx
    ·cases hx
   ·cases hx
 ·cases h
theorem Mb {t:TypeId} {x v:Value} {i:Nat} (h:qX (aX P t i) x=some v) (w:World): (Instr.field t x i).run P w= .ok v w:=by
 unfold qX at h
 split at h
 ·rename_i off m cs hx
  unfold aX at hx
  split at hx
  ·rename_i fs hu
   split at hx
   ·rename_i fd hf
    split at hx
    ·rename_i m' hm
     cases hx
     simp only[Instr.field,Sem.run_bind,Result.andThen_ok,run_underlying hu w,hf,asAgg,Sem.run_pure]
     exact p9 hm h w
    ·cases hx
   ·cases hx
  ·cases hx
 ·cases h
theorem uC {t:TypeId} {n:Nat} {m:Bool×Nat} (h:ixT P t= .arr n m): ∃e,P.underlying t=some (.array n e)∧aM P e=some m:=by
 unfold ixT at h
 split at h
 ·rename_i n' e hu
  split at h
  ·rename_i m' hm;cases h;exact⟨e,hu,hm⟩
  ·cases h
 ·split at h<;>cases h
 ·cases h
 ·cases h
theorem uZ {t:TypeId} {m:Bool×Nat} (h:ixT P t= .sl m): ∃e,P.underlying t=some (.slice e)∧aM P e=some m:=by
 unfold ixT at h
 split at h
 ·split at h<;>cases h
 ·rename_i e hu
  split at h
  ·rename_i m' hm;cases h;exact⟨e,hu,hm⟩
  ·cases h
 ·cases h
 ·cases h
theorem Bb {t:TypeId} (h:ixT P t= .str):P.underlying t=some .string:=by
 unfold ixT at h
 split at h
 ·split at h<;>cases h
 ·split at h<;>cases h
 ·assumption
 ·cases h
theorem Qy {t:TypeId} {x v:Value} (h:gP (ixT P t) x=some v) (y:TypeId) (ts:Array TypeId) (vs:Array Value) (h1:vs[0]? =some x) (h2:ts[0]? =some t) (w:World):
  (Builtin.len_ ts y vs).run P w= .ok v w:=by
 unfold gP at h
 split at h
 ·rename_i s hx
  cases h
  simp only[Builtin.len_,h1,h2,Sem.run_bind,run_underlying (Bb hx) w,Result.andThen_ok];rfl
 ·rename_i n m hx
  cases h
  obtain⟨e,hu,_⟩:=uC hx
  simp only[Builtin.len_,h1,h2,Sem.run_bind,run_underlying hu w,Result.andThen_ok];rfl
 ·rename_i m a n c hx
  cases h
  obtain⟨e,hu,_⟩:=uZ hx
  simp only[Builtin.len_,h1,h2,Sem.run_bind,run_underlying hu w,Result.andThen_ok];rfl
 ·cases h
theorem SP {t:TypeId} {x v:Value} (h:capV (ixT P t) x=some v) (y:TypeId) (ts:Array TypeId) (vs:Array Value) (h1:vs[0]? =some x) (h2:ts[0]? =some t) (w:World):
  (Builtin.cap_ ts y vs).run P w= .ok v w:=by
 unfold capV at h
 split at h
 ·rename_i n m hx
  cases h
  obtain⟨e,hu,_⟩:=uC hx
  simp only[Builtin.cap_,h1,h2,Sem.run_bind,run_underlying hu w,Result.andThen_ok];rfl
 ·rename_i m a n c hx
  cases h
  obtain⟨e,hu,_⟩:=uZ hx
  simp only[Builtin.cap_,h1,h2,Sem.run_bind,run_underlying hu w,Result.andThen_ok];rfl
 ·cases h
theorem Eu {x:Value} {i:Int} (h:ixI x=some i) {y:Nat} (hi:0≤i∧i≤y) (code:BoundsCode) (w:World): (Instr.sliceBound x y code).run P w= .ok i.toNat w:=by
 obtain⟨k,rfl⟩:=EH h
 simp only[Instr.sliceBound,asIntOf,Sem.run_bind,Sem.run_pure,Result.andThen_ok,hi,and_self, ↓reduceIte]
theorem H2 {b:Bool} {n c l h:Nat} {lo hi:Option Value} (hh:bndV n c (lo.map ixI) (hi.map ixI)=some (l,h)) (w:World):
  (Instr.sliceBounds b n c lo hi none).run P w= .ok (l,h,c) w:=by
 unfold bndV at hh
 cases lo with
 |none=>
  cases hi with
  |none=>
   simp only[Option.map_none,Option.some.injEq,Prod.mk.injEq] at hh
   obtain⟨rfl,rfl⟩:=hh
   simp[Instr.sliceBounds]
  |some hv=>
   simp only[Option.map_none,Option.map_some] at hh
   split at hh
   ·cases ‹some (ixI hv)=none›
   ·cases ‹_=none›
   ·rename_i h' e1 e2
    split at hh
    ·rename_i hb
     cases hh
     simp only[Option.some.injEq] at e2
     simp[Instr.sliceBounds,Eu e2 hb]
    ·cases hh
   ·cases ‹none=some (some _)›
   ·cases hh
 |some lv=>
  cases hi with
  |none=>
   simp only[Option.map_none,Option.map_some] at hh
   split at hh
   ·cases ‹some (ixI lv)=none›
   ·rename_i l' e1 e2
    split at hh
    ·rename_i hb
     cases hh
     simp only[Option.some.injEq] at e1
     simp[Instr.sliceBounds,Eu e1 hb]
    ·cases hh
   ·cases ‹some (ixI lv)=none›
   ·cases ‹none=some (some _)›
   ·cases hh
  |some hv=>
   simp only[Option.map_some] at hh
   split at hh
   ·cases ‹some (ixI lv)=none›
   ·cases ‹some (ixI hv)=none›
   ·cases ‹some (ixI lv)=none›
   ·rename_i l' h' e1 e2
    split at hh
    ·rename_i hb
     cases hh
     simp only[Option.some.injEq] at e1 e2
     simp[Instr.sliceBounds,Eu e2 (⟨by omega,hb.2.2⟩:0≤h'∧h'≤ (c:Int)),Eu e1 (y:=h'.toNat) ⟨hb.1,by omega⟩]
    ·cases hh
   ·cases hh
theorem OC {t:TypeId} {x v:Value} {lo hi:Option Value} (h:gZ (ixT P t) x (lo.map ixI) (hi.map ixI)=some v) (w:World): (Instr.sliceAt t x lo hi none).run P w= .ok v w:=by
 unfold gZ at h
 split at h
 ·rename_i s hx
  split at h
  ·rename_i l Fv hb
   cases h
   have hu:=Bb hx
   simp only[Instr.sliceAt,Instr.slice,Sem.run_bind,run_underlying hu w,Result.andThen_ok,Option.isSome_none,Bool.false_eq_true, ↓reduceIte,H2 hb w,Sem.run_pure]
  ·cases h
 ·rename_i m a n c hx
  split at h
  ·rename_i l Fv hb
   cases h
   obtain⟨e,hu,hm⟩:=uZ hx
   simp only[Instr.sliceAt,Instr.slice,Sem.run_bind,run_underlying hu w,Result.andThen_ok,H2 hb w,gO hm w,Sem.run_pure]
  ·cases h
 ·rename_i n m a hx
  split at h
  ·rename_i l Fv hb
   cases h
   obtain⟨e,hu,hm⟩:=uC hx
   simp only[Instr.sliceAt,Instr.sureAddr,Sem.run_bind,run_underlying hu w,Result.andThen_ok,H2 hb w,gO hm w,Sem.run_pure]
  ·cases h
 ·cases h
theorem yX {t:TypeId} {x y:Value} {b:Bool} (d:Nat) (h:eA (P.underlying t) x y=some b) (w:World): (Op.equalIn (d+1) t x y).run P w= .ok b w:=by
 unfold eA at h
 split at h<;>first
  | (
    rename_i hu
    simp only[Option.some.injEq] at h
    subst h
    simp only[Op.equalIn,Sem.run_bind,run_underlying hu w,Result.andThen_ok]
    rfl)
  |cases h
theorem By (P:Program): ∀ (d k:Nat) (t:TypeId) (x y:Value) (b:Bool),eqD P d t x y=some b→ ∀w,(Op.equalIn (d+k) t x y).run P w= .ok b w:=by
 intro d
 induction d with
 |zero=>intro k t x y b h;cases h
 |succ d ih=>
  intro k t x y b h w
  have e:d+1+k=(d+k)+1:=by omega
  rw[e]
  unfold eqD at h
  split at h
  ·rename_i k0 k1 a k2 c hu
   split at h
   ·rename_i hk
    cases h
    subst hk
    simp[Op.equalIn,run_underlying hu w]
   ·cases h
  ·rename_i a c hu
   cases h
   simp[Op.equalIn,run_underlying hu w]
  ·rename_i n el xs ys hu
   split at h
   ·rename_i m hm
    simp only[Op.equalIn,Sem.run_bind,run_underlying hu w,Result.andThen_ok,gO hm w]
    simp only[Std.Legacy.Range.forIn_eq_forIn_range',Std.Legacy.Range.size,Nat.sub_zero,Nat.add_one_sub_one,Nat.div_one]
    rw[List.range_eq_range'] at h
    generalize List.range' 0 n=is at h ⊢
    induction is with
    |nil=>cases h;simp
    |cons j is ihl=>
     unfold y9 at h
     simp only[List.forIn_cons,Sem.run_bind]
     split at h
     ·rename_i h1
      unfold so at h1
      split at h1
      ·rename_i m' he
       cases he
       split at h1
       ·rename_i a c ha hc
        simp only[p9 hm ha w,p9 hm hc w,Result.andThen_ok,ih k el a c true h1 w,Bool.not_true,Bool.false_eq_true,if_false,Sem.run_pure]
        exact ihl h
       ·cases h1
      ·cases h1
     ·rename_i h1
      cases h
      unfold so at h1
      split at h1
      ·rename_i m' he
       cases he
       split at h1
       ·rename_i a c ha hc
        simp only[p9 hm ha w,p9 hm hc w,Result.andThen_ok,ih k el a c false h1 w,Bool.not_false,if_true,Sem.run_pure]
       ·cases h1
      ·cases h1
     ·cases h
   ·cases h
  ·rename_i fs xs ys hu
   split at h
   ·cases h
   ·rename_i bF
    have oe:P.stoodInHeld t=false:=by simpa using bF
    simp only[Op.equalIn,Sem.run_bind,run_underlying hu w,Result.andThen_ok,run_program,oe,Bool.false_eq_true,if_false]
    rw[←Array.forIn_toList]
    generalize fs.toList=l at h ⊢
    clear hu
    induction l with
    |nil=>cases h;simp
    |cons f l ihl=>
     unfold Ec at h
     simp only[List.forIn_cons,Sem.run_bind,Sem.run_ite]
     split at h
     ·rename_i aO
      rw[if_pos aO]
      split at h
      ·rename_i h1
       unfold so at h1
       split at h1
       ·rename_i m' hm
        split at h1
        ·rename_i a c ha hc
         simp only[p9 hm ha w,p9 hm hc w,Result.andThen_ok,ih k f.type a c true h1 w,Bool.not_true,Bool.false_eq_true,if_false,Sem.run_pure]
         exact ihl h
        ·cases h1
       ·cases h1
      ·rename_i h1
       cases h
       unfold so at h1
       split at h1
       ·rename_i m' hm
        split at h1
        ·rename_i a c ha hc
         simp only[p9 hm ha w,p9 hm hc w,Result.andThen_ok,ih k f.type a c false h1 w,Bool.not_false,if_true,Sem.run_pure]
        ·cases h1
       ·cases h1
      ·cases h
     ·rename_i aO
      rw[if_neg aO]
      simp only[Sem.run_pure,Result.andThen_ok]
      exact ihl h
  ·exact yX (d+k) h w
theorem BV {op:BinOp} {t:TypeId} {x y:Operand} {a b:Value} {r:Bool} (hp: (eM a&&eM b)≠true) (hr:eqX P t a b=some r) (w:World):
  (eqGuard op t x y a b).run P w= .ok () w∧(Op.equal t a b).run P w= .ok r w∧binOp .eql t a b=(do pure (.bool (←Op.equal t a b)):Sem Value)∧binOp .neq t a b=(do pure (.bool (!(←Op.equal t a b))):Sem Value):=by
 unfold eqX at hr
 split at hr
 ·rename_i xs ys
  split at hr
  ·cases hr
  ·rename_i hg
   have DV:P.eqGuardType P.depth t=false:=by simpa using hg
   refine⟨?_,By P 8 9992 t _ _ r hr w,rfl,rfl⟩
   unfold eqGuard
   cases op<;>first
    |rfl
    |simp[Sem.run_bind,run_program,DV]
 ·refine⟨?_,yX 9999 hr w, ?_, ?_⟩
  ·unfold eA at hr
   split at hr<;>first| (unfold eqGuard;cases op<;>rfl) |cases hr
  ·unfold eA at hr
   split at hr<;>first|rfl|cases hr
  ·unfold eA at hr
   split at hr<;>first|rfl|cases hr
theorem R6 {op:BinOp} {t:TypeId} {x y:Operand} {a b v:Value} (h:aT P op t a b=some v) (w:World):
  (do eqGuard op t x y a b;binOp op t a b:Sem Value).run P w= .ok v w:=by
 unfold aT at h
 split at h
 ·rename_i hp
  have hg: (eqGuard op t x y a b).run P w= .ok () w:=by
   unfold eqGuard
   cases a<;>simp only[eM,Bool.false_and,Bool.false_eq_true] at hp<;>
    (split<;>rfl)
  rw[Sem.run_bind,hg]
  exact R0 w h
 ·rename_i hp
  split at h
  ·cases hr:eqX P t a b with
   |none=>rw[hr] at h;cases h
   |some r=>
    rw[hr] at h
    simp only[Option.map_some,Option.some.injEq] at h;subst h
    obtain⟨h1,h2,e,-⟩:=BV (op:= .eql) (x:=x) (y:=y) hp hr w
    rw[Sem.run_bind,h1]
    simp only[Result.andThen_ok]
    rw[e,Sem.run_bind,h2];rfl
  ·cases hr:eqX P t a b with
   |none=>rw[hr] at h;cases h
   |some r=>
    rw[hr] at h
    simp only[Option.map_some,Option.some.injEq] at h;subst h
    obtain⟨h1,h2,-,e⟩:=BV (op:= .neq) (x:=x) (y:=y) hp hr w
    rw[Sem.run_bind,h1]
    simp only[Result.andThen_ok]
    rw[e,Sem.run_bind,h2];rfl
  ·cases h
theorem So {s d:TypeId} {k:IntKind} (h:cvT P s d= .int k): ∃k',P.underlying s=some (.int k')∧P.underlying d=some (.int k):=by
 unfold cvT at h
 split at h
 ·rename_i a b;cases h;exact⟨_,a,b⟩
 ·cases h
 ·split at h<;>cases h
 ·split at h<;>cases h
 ·cases h
theorem OL {s d:TypeId} {x v:Value} (hw:Hp w0 L w) (h:pE w0 L (cvT P s d) x=some v): (convert s d x).run P w= .ok v w:=by
 unfold pE at h
 split at h
 ·rename_i k hc
  obtain⟨k',h1,h2⟩:=So hc
  unfold bV at h
  split at h
  ·cases h
   simp only[convert,Sem.run_bind,run_underlying h1 w,run_underlying h2 w,Result.andThen_ok,Conv.intToInt,Sem.run_pure]
  ·cases h
 ·rename_i hc
  unfold cvT at hc
  split at hc
  ·cases hc
  ·rename_i h1 h2
   split at h
   ·cases h
    simp only[convert,Sem.run_bind,run_underlying h1 w,run_underlying h2 w,Result.andThen_ok,Sem.run_pure]
   ·cases h
  ·split at hc<;>cases hc
  ·split at hc<;>cases hc
  ·cases hc
 ·rename_i hc
  unfold cvT at hc
  split at hc
  ·cases hc
  ·cases hc
  ·rename_i e h1 h2
   split at hc
   ·rename_i h3
    unfold uF at h
    split at h
    ·cases h
     simp only[convert,Sem.run_bind,run_underlying h1 w,run_underlying h2 w,run_underlying h3 w,Result.andThen_ok];rfl
    ·simp only[convert,Sem.run_bind,run_underlying h1 w,run_underlying h2 w,run_underlying h3 w,Result.andThen_ok]
     exact JA_ hw h
    ·cases h
   ·cases hc
  ·split at hc<;>cases hc
  ·cases hc
 ·cases h
theorem nT {f:Fr} {o:Oper} {v:Value} (hw:Hp w0 L w) (h:iF P w0 L f o.op=some v): (execOp (ev f) o).run P w= .ok (.value v) w:=by
 obtain⟨dst,op,ty,pos,after,guard⟩:=o
 simp only at h
 unfold iF at h
 split at h<;>simp only[execOp]
 ·cases h;rfl
 ·cases h;rfl
 ·rename_i c a b
  cases hc:ev f c<;>rw[hc] at h<;>simp only[iW,reduceCtorEq] at h
  rename_i t
  cases t<;>simp only[Option.some.injEq] at h<;>subst h<;>rfl
 ·rw[Sem.run_bind,R6 h w];rfl
 ·rw[Sem.run_bind,TI w h];rfl
 ·rw[Sem.run_bind,OL hw h];rfl
 ·rename_i x
  unfold nilV at h
  split at h
  ·rename_i a hx;cases h;simp only[hx];rfl
  ·rename_i k a b hx;cases h;simp only[hx];rfl
  ·cases h
 ·rw[Sem.run_bind,Wb_ h w];rfl
 ·rw[Sem.run_bind,Mb h w];rfl
 ·rw[Sem.run_bind,Wa_ h w];rfl
 ·rw[Sem.run_bind,MU h w];rfl
 ·rename_i t x
  unfold sk at h
  split at h
  ·rename_i b off hx
   simp only[Instr.loadAt,hx,Instr.sureAddr,Sem.run_bind,Sem.run_pure,Result.andThen_ok,YX hw h]
  ·cases h
 ·rename_i x i
  unfold FC at h
  split at h
  ·rename_i vs hx
   simp only[Instr.extract,hx,h];rfl
  ·cases h
 ·rename_i t x lo hi
  have h':gZ (ixT P t) (ev f x) ((lo.map (ev f)).map ixI) ((hi.map (ev f)).map ixI)=some v:=by
   rw[Option.map_map,Option.map_map];exact h
  rw[Sem.run_bind]
  simp only[Option.map_none]
  rw[OC h' w];rfl
 ·cases h;rfl
 ·rename_i args ts
  split at h
  ·rename_i x t hx ht
   have h1: (args.map (ev f))[0]? =some (ev f x):=by simp[hx]
   simp only[resolve,Sem.run_bind,Sem.run_pure,Result.andThen_ok,invoke,builtin]
   rw[Qy h _ _ _ h1 ht w];rfl
  ·cases h
 ·rename_i args ts
  split at h
  ·rename_i x t hx ht
   have h1: (args.map (ev f))[0]? =some (ev f x):=by simp[hx]
   simp only[resolve,Sem.run_bind,Sem.run_pure,Result.andThen_ok,invoke,builtin]
   rw[SP h _ _ _ h1 ht w];rfl
  ·cases h
 ·cases h
end
end Go.Sx
end
namespace Go.Sx
open Go
section
variable {P:Program} {ops:Array Oper} {Q:Exit→Act→World→Prop}
def Left (o:Oper) (a a':Act):Prop:= ∃u ds,a'=({a with defers:=ds}:Act).put o.dst u
theorem N4 {o:Oper} {a:Act} {d:Option Tmp} {v:Value} {K:Act→World→Prop} (hd: ∀t,d=some t→o.dst≠some t)
  (hQ: ∀c a w,Q (.panic c) (a.put d v) w→Q (.panic c) a w) (r:Result Next) (h:o.upon P (a.put d v) K Q r):
  o.upon P a (fun a' w'=>Left o a a'∧K (a'.put d v) w') Q r:=by
 have comm: ∀u,(a.put o.dst u).put d v=(a.put d v).put o.dst u:=fun u=>(Act.put_comm a v u hd).symm
 have hl: ∀u,Left o a (a.put o.dst u):=fun u=>⟨u,a.defers,rfl⟩
 match r,h with
 | .ok (.value u) _,h=>exact⟨hl u,by rw[comm];exact h⟩
 | .ok .skip _,h=>exact⟨hl undef,by rw[comm];exact h⟩
 | .ok (.defer e) _,h=>
  refine⟨⟨undef,e::a.defers,rfl⟩, ?_⟩
  rw[←Act.put_comm _ v undef hd,←Act.put_defers]
  exact h
 | .ok (.enter f args) _,h=>
  refine Calls.mono h fun e w'' he=> ?_
  match e,he with
  | .returned u,he=>exact⟨hl u,by rw[comm];exact he⟩
  | .panicked c,he=>exact hQ _ _ _ he
  | .outgrown,he=>exact he
 | .ok (.row row args) _,h=>exact Rows.mono h fun u w'' he=>⟨hl u,by rw[comm];exact he⟩
 | .halt (.panic u) _,h=>exact hQ _ _ _ h
theorem Mt {j:Nat} {oi oj:Oper} {v:Value} (hj:ops[j]? =some oj) (pR:oi.apart ops oj=true) (E3: ∀cs b,oj.op≠ .select cs b)
  (hQ: ∀c a w,Q (.panic c) (a.put oi.dst v) w→Q (.panic c) a w) {K:Act→World→Prop} {a:Act} {w:World}
  (h:wpOp P ops Q j K (a.put oi.dst v) w):wpOp P ops Q j (fun a' w'=>Left oj a a'∧K (a'.put oi.dst v) w') a w:=by
 obtain⟨h1,h2,h3⟩:=Oper.apart_spec pR
 unfold wpOp at h ⊢
 simp only[hj] at h ⊢
 rw[wanted_put oj a oi.dst v h1] at h
 cases hw:Region.wanted oj (yielded ops a.tmps) with
 |true=>
  rw[hw] at h
  simp only[if_true] at h ⊢
  rcases h with h| ⟨sE,hl⟩
  ·left
   unfold Oper.wp at h ⊢
   rw[execOp_put oj E3 a oi.dst v h1] at h
   exact N4 h2 hQ _ h
  ·right
   exact⟨by unfold Oper.asks at*;rwa [execOp_put oj E3 a oi.dst v h1] at sE,hl⟩
 |false=>
  rw[hw] at h
  simp only[Bool.false_eq_true,if_false] at h ⊢
  exact⟨⟨undef,a.defers,rfl⟩,by rw[←Act.put_comm a v undef h2];exact h⟩
def kU (P:Program) (ops:Array Oper) (Q:Exit→Act→World→Prop) (ts:List Nat) (C:World→Prop):Nat→Array Bool→Act→World→Prop
 |0,listed,a,w=>((∀t,t∈ts→listed.getD t true=false)→C w)∧Region.ready .any ops listed= []∧Q .normal a w
 |n+1,listed,a,w=>
  ((∀t,t∈ts→listed.getD t true=false)→C w)∧(Region.ready .any ops listed= []→Q .normal a w)∧
  ∀i∈Region.ready .any ops listed,wpOp P ops Q i (kU P ops Q ts C n (listed.setIfInBounds i true)) a w
variable {ts:List Nat} {C:World→Prop}
theorem Ed {listed:Array Bool} {i t:Nat} (h:listed.getD t true=true): (listed.setIfInBounds i true).getD t true=true:=by
 by_cases he:i=t
 ·subst he
  rw[Array.getD_eq_getD_getElem?,Array.getElem?_setIfInBounds_self]
  split<;>rfl
 ·rw[getD_set_ne true he];exact h
theorem EO: ∀ (n:Nat) (listed:Array Bool) (a:Act) (w:World),kU P ops Q ts C n listed a w→wpAny P .any ops Q n listed a w
 |0,_,_,_,h=>h.2
 |n+1,_,_,_,h=>⟨h.2.1,fun i hi=>wpOp_mono (fun a w k=>EO n _ a w k) (h.2.2 i hi)⟩
theorem wN: ∀ (n:Nat) (listed:Array Bool) (a:Act) (w:World),(∃t∈ts,listed.getD t true=true)→wpAny P .any ops Q n listed a w→kU P ops Q ts C n listed a w
 |0,_,_,_,⟨t,ht,hl⟩,h=>⟨fun hn=>(by rw[hn t ht] at hl;cases hl),h.1,h.2⟩
 |n+1,_,_,_,⟨t,ht,hl⟩,h=>
  ⟨fun hn=>(by rw[hn t ht] at hl;cases hl),h.1,fun i hi=>wpOp_mono (fun a w k=>wN n _ a w ⟨t,ht,Ed hl⟩ k) (h.2 i hi)⟩
structure First (ops:Array Oper) (ts:List Nat) (i:Nat) (oi:Oper) (pure:Prop) (listed:Array Bool):Prop where
 ready:i∈Region.ready .any ops listed
 free: ∀j oj,ops[j]? =some oj→j≠i→listed.getD j true=false→(∀e∈oj.after,Region.binds .any e=true→e.on≠i)→oi.apart ops oj=true
 waits:pure∨ ∃cs:List Nat,(∀t,t∈ts→listed.getD t true=false→t∈cs)∧
  ∀c,c∈cs→c≠i∧listed.getD c true=false∧ ∃oc,ops[c]? =some oc∧ ∃e∈oc.after,Region.binds .any e=true∧(e.on=i∨e.on∈cs)
def YieldsC (P:Program) (ops:Array Oper) (C:World→Prop) (pure:Prop) (o:Oper) (v:Value) (a:Act):Prop:=
 (Region.wanted o (yielded ops a.tmps)=true∧ ∀w,(pure∨C w)→(execOp a.eval o).run P w= .ok (.value v) w)∨
 (Region.wanted o (yielded ops a.tmps)=false∧v=undef)
theorem YieldsC.wpOp {pure:Prop} {i:Nat} {o:Oper} {v:Value} {a:Act} (hi:ops[i]? =some o) (hy:YieldsC P ops C pure o v a)
  {K:Act→World→Prop} {w:World} (hw:pure∨C w) (h:K (a.put o.dst v) w):Go.wpOp P ops Q i K a w:=by
 unfold Go.wpOp
 simp only[hi]
 rcases hy with⟨h1,hv⟩ | ⟨h1,rfl⟩
 ·simp only[h1,if_true,Oper.wp,hv w hw,Oper.upon];exact .inl h
 ·simp only[h1,Bool.false_eq_true,if_false];exact h
theorem YieldsC.left {pure:Prop} {oi oj:Oper} {v:Value} {a a':Act} (hy:YieldsC P ops C pure oi v a) (Xg: ∀cs b,oi.op≠ .select cs b)
  (h3: ∀d,oj.dst=some d→d∉oi.looksAt ops) (hl:Left oj a a'):YieldsC P ops C pure oi v a':=by
 obtain⟨u,ds,rfl⟩:=hl
 have e1:execOp (({a with defers:=ds}:Act).put oj.dst u).eval oi=execOp a.eval oi:=execOp_put oi Xg ({a with defers:=ds}:Act) oj.dst u h3
 have e2:Region.wanted oi (yielded ops (({a with defers:=ds}:Act).put oj.dst u).tmps)=Region.wanted oi (yielded ops a.tmps):=wanted_put oi ({a with defers:=ds}:Act) oj.dst u h3
 unfold YieldsC
 rw[e1,e2]
 exact hy
theorem ri {pure:Prop} {i:Nat} {oi:Oper} {v:Value} (hi:ops[i]? =some oi) (dC:i∉ts) (iC: ∀ (j:Nat) (o:Oper) cs b,ops[j]? =some o→o.op≠ .select cs b)
  (hQ: ∀c a w,Q (.panic c) (a.put oi.dst v) w→Q (.panic c) a w):
  ∀ (fuel:Nat) (listed:Array Bool) (a:Act) (w:World),First ops ts i oi pure listed→(pure∨ ∀t,t∈ts→listed.getD t true=false)→YieldsC P ops C pure oi v a→
   kU P ops Q ts C fuel (listed.setIfInBounds i true) (a.put oi.dst v) w→kU P ops Q ts C (fuel+1) listed a w:=by
 intro fuel
 induction fuel with
 |zero=>
  intro listed a w hF hn hy H
  have bO: ∀t,t∈ts→(listed.setIfInBounds i true).getD t true=listed.getD t true:=fun t ht=>getD_set_ne true (fun e=>dC (e▸ht))
  have hC: (∀t,t∈ts→listed.getD t true=false)→C w:=fun h=>H.1 fun t ht=>(bO t ht).trans (h t ht)
  refine⟨hC,fun h=>(by have:=hF.ready;rw[h] at this;cases this),fun j hj=> ?_⟩
  by_cases nG:j=i
  ·subst nG;exact hy.wpOp hi (hn.imp id hC) H
  ·have:=ready_mono hj nG
   rw[H.2.1] at this
   cases this
 |succ fuel ih=>
  intro listed a w hF hn hy H
  have bO: ∀t,t∈ts→(listed.setIfInBounds i true).getD t true=listed.getD t true:=fun t ht=>getD_set_ne true (fun e=>dC (e▸ht))
  have hC: (∀t,t∈ts→listed.getD t true=false)→C w:=fun h=>H.1 fun t ht=>(bO t ht).trans (h t ht)
  refine⟨hC,fun h=>(by have:=hF.ready;rw[h] at this;cases this),fun j hj=> ?_⟩
  by_cases nG:j=i
  ·subst nG;exact hy.wpOp hi (hn.imp id hC) H
  ·have h1:=H.2.2 j (ready_mono hj nG)
   obtain⟨DZ,oj,G4,fr⟩:=mem_ready.1 hj
   have Dk: ∀e∈oj.after,Region.binds .any e=true→e.on≠i:=fun e he hb heq=>by
    have h2:=fr e he hb
    have h0:=(mem_ready.1 hF.ready).1
    rw[heq] at h2
    rcases Nat.lt_or_ge i listed.size with h'|h'
    ·simp[h'] at h0 h2;rw[h0] at h2;cases h2
    ·simp[Array.getElem?_eq_none h'] at h2
   have pR:=hF.free j oj G4 nG DZ Dk
   have h2:=Mt G4 pR (fun cs b=>iC j oj cs b G4) hQ h1
   have old: ∀k,(listed.setIfInBounds j true).getD k true=false→listed.getD k true=false:=fun k hk=>by
    by_cases nH:j=k
    ·subst nH;exact DZ
    ·rwa [getD_set_ne true nH] at hk
   have xI: ∀k,listed.getD k true=false→k≠j→(listed.setIfInBounds j true).getD k true=false:=fun k hk Wi=>by
    rw[getD_set_ne true (Ne.symm Wi)];exact hk
   have r6:=(mem_ready.1 hF.ready).1
   have aB: ∀cs:List Nat,(∀c,c∈cs→c≠i∧listed.getD c true=false∧ ∃oc,ops[c]? =some oc∧ ∃e∈oc.after,Region.binds .any e=true∧(e.on=i∨e.on∈cs))→j∉cs:=by
    intro cs dZ Wa
    obtain⟨-,-,oc,hoc,e,he,hb,heq⟩:=dZ j Wa
    rw[G4] at hoc
    cases hoc
    have h2:=fr e he hb
    rcases heq with heq|heq
    ·exact Dk e he hb heq
    ·have h3:=(dZ _ heq).2.1
     rcases Nat.lt_or_ge e.on listed.size with h'|h'
     ·simp[h'] at h2 h3;rw[h3] at h2;cases h2
     ·simp[Array.getElem?_eq_none h'] at h2
   have dY:First ops ts i oi pure (listed.setIfInBounds j true):=
    ⟨ready_mono hF.ready (Ne.symm nG),fun k ok hk Wh xI j4=>hF.free k ok hk Wh (old k xI) j4,hF.waits.imp id fun⟨cs,dA,dL⟩=>
     ⟨cs,fun t ht hu=>dA t ht (old t hu),fun c hc=>by
      obtain⟨h1,h2,h3⟩:=dL c hc
      exact⟨h1,xI c h2 (fun e=>aB cs dL (e▸hc)),h3⟩⟩⟩
   have aw:pure∨ ∀t,t∈ts→(listed.setIfInBounds j true).getD t true=false:=by
    rcases hF.waits with h| ⟨cs,dA,dL⟩
    ·exact .inl h
    ·rcases hn with h|hn
     ·exact .inl h
     ·refine .inr fun t ht=> ?_
      have Wa:=aB cs dL
      exact xI t (hn t ht) (fun e=>Wa (e▸dA t ht (hn t ht)))
   refine wpOp_mono (fun a' w' h3=>ih (listed.setIfInBounds j true) a' w' dY aw (hy.left (fun cs b=>iC i oi cs b hi) (Oper.apart_spec pR).2.2 h3.1) ?_) h2
   rw[Array.setIfInBounds_comm _ _ nG]
   exact h3.2
end
end Go.Sx
section
namespace Go.Sx
open Go
set_option linter.unusedSimpArgs false
def fJ (cs:Array Value) (off:Nat):List Value→Array Value
 | []=>cs
 |v::r=>fJ (cs.setIfInBounds off v) (off+1) r
def ab (m:Option (Bool×Nat)) (o:Option Obj) (off:Nat) (v:Value):Option Obj:=
 match m,o with
 |some (_,n),some (.cells cs E fz)=>if v.cells.size=n∧off+n≤cs.size∧(fz.2≤fz.1∨off+n≤fz.1)∧v.cells.toList.all Value.oneCell'=true then some (.cells (fJ cs off v.cells.toList) E fz) else none
 |_,_=>none
def pz (m:Option (Bool×Nat)) (L:aA) (a v:Value):Option aA:=
 match a with
 | .pointer (some ⟨b,off,none⟩)=>match ab m (look L b) off v with
  |some o=>some (setB L b o)
  |none=>none
 |_=>none
section
variable {P:Program} {w0 w:World} {L:aA}
theorem Jb {b off:Nat} {v:Value} {cs:Array Value} {E:TypeId} {fz:Nat×Nat} (hb:w.heap[b]? =some (.cells cs E fz)):
  w.setCell ⟨b,off,none⟩ v={w with heap:=w.heap.setIfInBounds b (.cells (cs.setIfInBounds off v) E fz)}:=by
 have aD:=(Array.getElem?_eq_some_iff.1 hb).1
 unfold World.setCell
 congr 1
 apply Array.ext_getElem?
 intro i
 rw[Array.getElem?_modify]
 by_cases hi:b=i
 ·subst hi
  rw[if_pos rfl,hb]
  simp[aD]
 ·rw[if_neg hi,Array.getElem?_setIfInBounds_ne hi]
theorem Ge {b off:Nat} {E:TypeId} {fz:Nat×Nat}: ∀ (vs:List Value) (i:Nat) (cs:Array Value) (w:World),w.heap[b]? =some (.cells cs E fz)→
  off+i+vs.length≤cs.size→(fz.2≤fz.1∨off+i+vs.length≤fz.1)→vs.all Value.oneCell'=true→
  (storeCells ⟨b,off,none⟩ vs i).run P w= .ok () {w with heap:=w.heap.setIfInBounds b (.cells (fJ cs (off+i) vs) E fz)}
 | [],i,cs,w,hb,_,_,_=>by
  have aD:=(Array.getElem?_eq_some_iff.1 hb)
  have:w.heap.setIfInBounds b (.cells cs E fz)=w.heap:=by
   apply Array.ext_getElem?
   intro j
   by_cases hj:b=j
   ·subst hj;rw[hb];simp[aD.1]
   ·rw[Array.getElem?_setIfInBounds_ne hj]
  simp only[storeCells,fJ,this];rfl
 |v::r,i,cs,w,hb,hs,hf,ho=>by
  simp only[List.all_cons,Bool.and_eq_true] at ho
  simp only[List.length_cons] at hs hf
  have hc:w.cell? ⟨b,off+i,none⟩=some (cs[off+i]'(by omega)):=by
   rw[cell_of_row w b _ cs E fz hb,Array.getElem?_eq_getElem (by omega)]
  have x5:w.frozen? ⟨b,off+i,none⟩=false:=by
   simp only[World.frozen?,hb,Bool.and_eq_false_iff,decide_eq_false_iff_not]
   omega
  have aD:=(Array.getElem?_eq_some_iff.1 hb).1
  simp only[storeCells,ml,Sem.run_bind,run_store P w _ v .plain ho.1,hc,x5,Bool.false_eq_true, ↓reduceIte,Result.andThen_ok,Jb hb]
  have dK: ({w with heap:=w.heap.setIfInBounds b (.cells (cs.setIfInBounds (off+i) v) E fz)}:World).heap[b]? =some (.cells (cs.setIfInBounds (off+i) v) E fz):=by
   simp[aD]
  rw[Ge r (i+1) _ _ dK (by simp;omega) (by omega) ho.2]
  simp[fJ,Nat.add_assoc]
theorem Jy {t:TypeId} {a v:Value} {L':aA} (hw:Hp w0 L w) (h:pz (aM P t) L a v=some L'): ∃w',(Instr.storeAt t a v).run P w= .ok () w'∧Hp w0 L' w':=by
 unfold pz at h
 split at h
 ·rename_i b off
  split at h
  ·rename_i o hs
   cases h
   unfold ab at hs
   split at hs
   ·rename_i m n cs E fz hm hl
    split at hs
    ·rename_i hc
     obtain⟨h1,h2,h3,h4⟩:=hc
     cases hs
     have hb:=hw.has _ _ (cO hl)
     have aL:v.cells.toList.length=n:=by simpa using h1
     refine⟨{w with heap:=w.heap.setIfInBounds b (.cells (fJ cs off v.cells.toList) E fz)}, ?_,hw.set (List.mem_map.2 ⟨_,cO hl,rfl⟩) rfl rfl rfl rfl⟩
     simp only[Instr.storeAt,Instr.sureAddr,Sem.run_bind,Sem.run_pure,Result.andThen_ok,storeVar,gO hm w,h1,ne_eq,not_true_eq_false, ↓reduceIte]
     rw[Ge v.cells.toList 0 cs w hb (by omega) (by omega) h4]
     rfl
    ·cases hs
   ·cases hs
  ·cases h
 ·cases h
end
def tJ (ops:Array Oper) (f:Fr) (j:Nat):Option Bool:=
 match(ops[j]?).bind (·.dst) with
 |some d=>match eC f d with
  | .bool b=>some b
  |_=>none
 |none=>none
theorem Ms (ops:Array Oper) (f:Fr) (j:Nat):yielded ops f.toArray j=tJ ops f j:=by
 unfold yielded tJ
 cases(ops[j]?).bind (·.dst) with
 |none=>rfl
 |some d=>
  simp only[Option.bind_some]
  have:=qR f d
  rw[Array.getD_eq_getD_getElem?] at this
  cases h:f.toArray[d]? with
  |none=>
   rw[h] at this
   simp only[Option.getD_none] at this
   rw[←this];rfl
  |some v=>
   rw[h] at this
   simp only[Option.getD_some] at this
   rw[←this]
   cases v<;>rfl
inductive Md where
 |seq
 |qui (is ts:List Nat)
 |any (is ts:List Nat)
 |sof (R is ts:List Nat)
def fY (P:Program):Op→Bool
 | .move _=>true
 | .assign _=>true
 | .pick .. =>true
 | .binOp .. =>true
 | .unOp .. =>true
 | .convert s d _=>match cvT P s d with| .int _=>true| .str=>true|_=>false
 | .nilCheck _=>true
 | .fieldAddr .. =>true
 | .field .. =>true
 | .indexAddr .. =>true
 | .index .. =>true
 | .extract .. =>true
 | .slice .. =>true
 | .makeFunc .. =>true
 | .call ⟨.builtin .len,_,_⟩=>true
 | .call ⟨.builtin .cap,_,_⟩=>true
 | .build .. =>true
 |_=>false
def pF:Op→Bool
 | .load .. =>true
 | .convert .. =>true
 |_=>false
def tU (ops:Array Oper) (listed:Array Bool) (i:Nat):Nat→List Nat→List Nat
 |0,cs=>cs
 |n+1,cs=>tU ops listed i n ((List.range ops.size).filter fun j=>j !=i&& !listed.getD j true&&match ops[j]? with
  |some oj=>oj.after.any fun e=>Region.binds .any e&& (e.on==i||cs.contains e.on)
  |none=>false)
def Bg (ops:Array Oper) (ts:List Nat) (listed:Array Bool) (i:Nat) (cs:List Nat):Bool:=
 (ts.all fun t=>listed.getD t true||cs.contains t)&&cs.all fun c=>c !=i&& !listed.getD c true&&match ops[c]? with
  |some oc=>oc.after.any fun e=>Region.binds .any e&& (e.on==i||cs.contains e.on)
  |none=>false
def tB (ops:Array Oper) (ts:List Nat) (listed:Array Bool) (i:Nat):Bool:=
 Bg ops ts listed i (tU ops listed i 6 [])
def rx (P:Program) (ops:Array Oper) (ts:List Nat):List Nat→Array Bool→Bool
 | [],listed=>(Region.ready .any ops listed).isEmpty
 |k::is,listed=>
  (match ops[k]? with
   |some o=>
    ((Region.ready .any ops listed== [k])&& !(ts.contains k&& (fY P o.op||pF o.op))) ||
    (!ts.contains k&& (Region.ready .any ops listed).contains k&&Region.free .any ops listed k&&
     (fY P o.op|| (pF o.op&&tB ops ts listed k&&ts.all fun t=> !listed.getD t true)))
   |none=>false)&&rx P ops ts is (listed.setIfInBounds k true)
def eU (w0:World) (N:Fr→aA→Prop) (e:Exit) (a:Act) (w:World):Prop:=e= .normal∧a.defers= []∧ ∃L,Hp w0 L w∧N a.tmps.toList L
structure Fits (P:Program) (ops:Array Oper) (ts is:List Nat) (l:List Oper) (listed:Array Bool):Prop where
 len:is.length=l.length
 at_: ∀j:Nat,l[j]? =(is[j]?).bind fun i:Nat=>ops[i]?
 sel:Region.noSelect ops=true
 order:rx P ops ts is listed=true
def SR (w0:World) (R:List Nat) (L:aA) (w:World):Prop:= ∀b,b∈R→ ∀o,aP w0 L b=some o→w.heap[b]? =some o
theorem SR.of {w0 w:World} {R:List Nat} {L:aA} (h:Hp w0 L w):SR w0 R L w:=fun _ _ _ ho=>h.read ho
def Ow (P:Program) (w0:World) (ops:Array Oper) (md:Md) (l:List Oper) (f:Fr) (L:aA) (N:Fr→aA→Prop):Prop:=
 match md with
 | .seq=> ∀w,Hp w0 L w→wpList P ops (eU w0 N) l (act f) w
 | .qui is ts=> ∀listed,Fits P ops ts is l listed→(∀t,t∈ts→listed.getD t true=false)→ ∀w,Hp w0 L w→kU P ops (eU w0 N) ts (Hp w0 L) l.length listed (act f) w
 | .any is ts=> ∀listed,Fits P ops ts is l listed→(∃t∈ts,listed.getD t true=true)→ ∀w,Hp w0 L w→wpAny P .any ops (eU w0 N) l.length listed (act f) w
 | .sof R is ts=> ∀listed,Fits P ops ts is l listed→(∀t,t∈ts→listed.getD t true=false)→ ∀w,Hp w0 L w→kU P ops (eU w0 N) ts (SR w0 R L) l.length listed (act f) w
def Md.next:Md→Md
 | .seq=> .seq
 | .qui is ts=>match is with
  |k::is=>if ts.contains k then .any is ts else .qui is ts
  | []=> .qui [] ts
 | .any is ts=> .any is.tail ts
 | .sof R is ts=>match is with
  |k::is=>if ts.contains k then .any is ts else .sof R is ts
  | []=> .sof R [] ts
def Md.turn:Md→Option Md
 | .seq=>some .seq
 | .qui is ts=>match is with
  |k::is=>if ts.contains k then some (.any is ts) else none
  | []=>none
 | .any is ts=>some (.any is.tail ts)
 | .sof _ is ts=>match is with
  |k::is=>if ts.contains k then some (.any is ts) else none
  | []=>none
def bA (ops:Array Oper) (f:Fr) (o:Oper):Bool:=
 match o.guard with
 |none=>false
 |some (j,want)=> !(tJ ops f j==some want)
theorem kW (ops:Array Oper) (f:Fr) (o:Oper):Region.wanted o (yielded ops (act f).tmps)= !bA ops f o:=by
 unfold Region.wanted bA
 cases o.guard with
 |none=>rfl
 |some p=>simp only[act,Ms,Bool.not_not]
section
variable {P:Program} {w0:World} {f:Fr} {L:aA} {K:cM} {N:Fr→aA→Prop} {ops:Array Oper} {o:Oper} {rest:List Oper} {md:Md} {ts is:List Nat} {listed:Array Bool}
theorem Fits.nil (h:Fits P ops ts is [] listed):is= []∧Region.ready .any ops listed= []:=by
 have:=h.len
 have hi:is= []:=by cases is with|nil=>rfl|cons _ _=>cases this
 subst hi
 exact⟨rfl,by simpa [rx] using h.order⟩
theorem Fits.cons (h:Fits P ops ts is (o::rest) listed): ∃k is',is=k::is'∧ops[k]? =some o∧Fits P ops ts is' rest (listed.setIfInBounds k true)∧
  ((fY P o.op=true∨pF o.op=true)→k∉ts)∧(Region.ready .any ops listed= [k]∨(k∉ts∧k∈Region.ready .any ops listed∧Region.free .any ops listed k=true∧
   (fY P o.op=true∨(pF o.op=true∧tB ops ts listed k=true∧ ∀t,t∈ts→listed.getD t true=false)))):=by
 cases is with
 |nil=>have:=h.len;cases this
 |cons k is'=>
  have hk:ops[k]? =some o:=by have:=h.at_ 0;simpa using this.symm
  have ho:=h.order
  simp only[rx,hk,Bool.and_eq_true,Bool.or_eq_true,beq_iff_eq,Bool.not_eq_true',List.contains_eq_mem,decide_eq_true_eq,decide_eq_false_iff_not,List.all_eq_true,Bool.and_eq_false_iff,Bool.or_eq_false_iff] at ho
  refine⟨k,is',rfl,hk,⟨by have:=h.len;simpa using this,fun j=>by have:=h.at_ (j+1);simpa using this,h.sel,ho.2⟩, ?_⟩
  rcases ho.1 with⟨h1,h2⟩ | ⟨⟨⟨h1,h2⟩,h3⟩,h4⟩
  ·refine⟨fun hx=> ?_, .inl h1⟩
   rcases h2 with h2| ⟨h2,h3⟩
   ·exact h2
   ·rcases hx with hx|hx
    ·rw[hx] at h2;cases h2
    ·rw[hx] at h3;cases h3
  ·refine⟨fun _=>h1, .inr ⟨h1,h2,h3, ?_⟩⟩
   rcases h4 with h4| ⟨⟨h4,h5⟩,h6⟩
   ·exact .inl h4
   ·exact .inr ⟨h4,h5,h6⟩
theorem Ow.nil (h:N f L):Ow P w0 ops md [] f L N:=by
 cases md with
 |seq=>exact fun w hw=>wpList_nil ⟨rfl,rfl,L,hw,by simpa [act] using h⟩
 |qui is ts=>
  intro listed hF ht w hw
  exact⟨fun _=>hw,hF.nil.2,rfl,rfl,L,hw,by simpa [act] using h⟩
 |any is ts=>
  intro listed hF ht w hw
  exact wpAny_done hF.nil.2 ⟨rfl,rfl,L,hw,by simpa [act] using h⟩ 0
 |sof R is ts=>
  intro listed hF ht w hw
  exact⟨fun _=>SR.of hw,hF.nil.2,rfl,rfl,L,hw,by simpa [act] using h⟩
theorem wX {w0:World} {K:cM} {e:Exit} {a:Act} {w:World} (h:eU w0 (K .normal) e a w):post w0 K e a w:=by
 obtain⟨rfl,hd,L,hp,hk⟩:=h
 exact⟨hd,L,hp,hk⟩
theorem lb {w0:World} {N:Fr→aA→Prop} {c:List PanicEntry} {a a':Act} {w:World} (h:eU w0 N (.panic c) a w):eU w0 N (.panic c) a' w:=by
 obtain⟨h,_⟩:=h;cases h
theorem Cw.region {id:Nat} {l:List Oper} (h:Ow P w0 l.toArray .seq l f L (K .normal)):Cw P w0 (.region id l.toArray false) f L K:=
 fun w hw=>wp_mono (wp_region_lit (h w hw)) fun _ _ _ h=>wX h
def qS (P:Program) (l:List Oper) (is ts:List Nat):Bool:=
 Region.noSelect l.toArray&&is.length==l.length&& (ts.all fun t=>decide (t<l.length))&&rx P l.toArray ts is (Array.replicate l.length false)
def dG:List Oper→Nat→Option Oper
 | [],_=>none
 |o::_,0=>some o
 |_::r,n+1=>dG r n
def ui:Option Oper→List Oper→List Oper
 |some o,l=>o::l
 |none,l=>l
def gA (l:List Oper):List Nat→List Oper
 | []=> []
 |i::is=>ui (dG l i) (gA l is)
def nl (l:List Oper) (k:List Oper→Prop):Prop:=k l
@[congr] theorem auz_ {x y:List Oper} {k:List Oper→Prop} (h:x=y):nl x k=nl y k:=by rw[h]
theorem ap (o:Oper) (r:List Oper) (k:List Oper→Prop):nl (o::r) k=k (o::r):=(rfl)
theorem aj (o:Oper) (r:List Oper):dG (o::r) 0=some o:=(rfl)
theorem ai (o:Oper) (r:List Oper) (n:Nat):dG (o::r) (n+1)=dG r n:=(rfl)
theorem ad (o:Oper) (l:List Oper):ui (some o) l=o::l:=(rfl)
theorem ao (l:List Oper):gA l []= []:=(rfl)
theorem ac (l:List Oper) (i:Nat) (is:List Nat):gA l (i::is)=ui (dG l i) (gA l is):=(rfl)
theorem Cw.regionO {id:Nat} {l:List Oper} (is ts:List Nat) (hm:P.follows .mixedOrders=true) (hB:qS P l is ts=true) (hl:is.map (fun i:Nat=>l[i]?)=(gA l is).map some)
  (h:nl (gA l is) fun l'=>Ow P w0 l.toArray (.qui is ts) l' f L (K .normal)):Cw P w0 (.region id l.toArray true) f L K:=by
 revert hl h
 generalize gA l is=l'
 intro hl h w hw
 simp only[qS,Bool.and_eq_true,beq_iff_eq,List.all_eq_true,decide_eq_true_eq] at hB
 obtain⟨⟨⟨h1,h2⟩,h3⟩,h4⟩:=hB
 have aL:is.length=l'.length:=by have:=congrArg List.length hl;simpa using this
 refine wp_mono (wp_region_any hm ?_) fun _ _ _ h=>wX h
 have hF:Fits P l.toArray ts is l' (Array.replicate l.length false):=⟨aL,fun j=>by
  have:=congrArg (·[j]?) hl
  simp only[List.getElem?_map] at this
  cases hj:is[j]? with
  |none=>
   rw[hj] at this
   simp only[Option.map_none] at this
   cases fe:l'[j]? with
   |none=>rfl
   |some x=>rw[fe] at this;cases this
  |some i=>
   rw[hj] at this
   simp only[Option.map_some] at this
   cases fe:l'[j]? with
   |none=>rw[fe] at this;cases this
   |some x=>
    rw[fe] at this
    simp only[Option.map_some,Option.some.injEq] at this
    simp[this],h1,h4⟩
 have:=(h:Ow P w0 l.toArray (.qui is ts) l' f L (K .normal)) (Array.replicate l.length false) hF (fun t ht=>by have:=h3 t ht;simp[this]) _ hw.drew
 rw[←aL,h2] at this
 have:=EO _ _ _ _ this
 simpa using this
def OpS (P:Program) (w0:World) (f:Fr) (L:aA) (o:Oper) (M:Value→aA→Prop):Prop:=
 ∀w,Hp w0 L w→
  (∃v w' L',(execOp (ev f) o).run P w= .ok (.value v) w'∧Hp w0 L' w'∧M v L')∨
  (∃w' L',(execOp (ev f) o).run P w= .ok .skip w'∧Hp w0 L' w'∧M undef L')∨
  (∃k args w1,(execOp (ev f) o).run P w= .ok (.enter k args) w1∧Calls P k args w1 fun e w'=> ∃v L',e= .returned v∧Hp w0 L' w'∧M v L')
theorem OpS.wp {M:Value→aA→Prop} {next:Act→World→Prop} {Q:Exit→Act→World→Prop} (h:OpS P w0 f L o M)
  (hn: ∀v L' w',Hp w0 L' w'→M v L'→next (act (aS f o.dst v)) w') {w:World} (hw:Hp w0 L w):o.wp P (act f) w next Q:=by
 unfold Oper.wp
 rw[pj]
 rcases h w hw with⟨v,w',L',hr,hp,hm⟩ | ⟨w',L',hr,hp,hm⟩ | ⟨k,args,w1,hr,hc⟩
 ·rw[hr,Oper.upon_value,fN];exact hn _ _ _ hp hm
 ·rw[hr,Oper.upon_skip,fN];exact hn _ _ _ hp hm
 ·rw[hr,Oper.upon_enter]
  refine hc.mono ?_
  rintro e w' ⟨v,L',rfl,hp,hm⟩
  show next ((act f).put o.dst v) w'
  rw[fN];exact hn _ _ _ hp hm
theorem OpS.mono {M M':Value→aA→Prop} (h:OpS P w0 f L o M) (hm: ∀v L,M v L→M' v L):OpS P w0 f L o M':=fun w hw=>by
 rcases h w hw with⟨v,w',L',hr,hp,h1⟩ | ⟨w',L',hr,hp,h1⟩ | ⟨k,args,w1,hr,hc⟩
 ·exact .inl ⟨v,w',L',hr,hp,hm _ _ h1⟩
 ·exact .inr (.inl ⟨w',L',hr,hp,hm _ _ h1⟩)
 ·exact .inr (.inr ⟨k,args,w1,hr,hc.mono fun e w' ⟨v,L',he,hp,h1⟩=>⟨v,L',he,hp,hm _ _ h1⟩⟩)
theorem wq {i:Nat} (h:listed.getD i true=false): (listed.setIfInBounds i true).getD i true=true:=by
 have aD:i<listed.size:=by
  rcases Nat.lt_or_ge i listed.size with h'|h'
  ·exact h'
  ·simp[Array.getElem?_eq_none h'] at h
 simp[aD]
theorem pA {i:Nat} (dC:i∉ts) (ht: ∀t,t∈ts→listed.getD t true=false): ∀t,t∈ts→(listed.setIfInBounds i true).getD t true=false:=
 fun t xG=>by rw[getD_set_ne true (fun(e:i=t)=>dC (by rw[e];exact xG))];exact ht t xG
theorem uN {k:Nat} (hk:ops[k]? =some o) (hr:Region.ready .any ops listed= [k]) (hs:bA ops f o=false) {n:Nat} {M:Value→aA→Prop} (h:OpS P w0 f L o M)
  (hn: ∀v L' w',Hp w0 L' w'→M v L'→wpAny P .any ops (eU w0 N) n (listed.setIfInBounds k true) (act (aS f o.dst v)) w') {w:World} (hw:Hp w0 L w):wpAny P .any ops (eU w0 N) (n+1) listed (act f) w:=by
 refine wpAny_all hr (by simp) ?_
 intro i hi
 simp only[List.mem_singleton] at hi
 subst hi
 unfold wpOp
 simp only[hk,kW,hs,Bool.not_false, ↓reduceIte]
 exact .inl (h.wp hn hw)
theorem Ow.step {md':Md} (he:md.turn=some md') (hp:fY P o.op=false) (hs:bA ops f o=false) (h:OpS P w0 f L o (fun v L'=>Ow P w0 ops md' rest (aS f o.dst v) L' N)):Ow P w0 ops md (o::rest) f L N:=by
 cases md with
 |seq=>
  cases he
  intro w hw
  unfold wpList
  rw[kW,hs]
  simp only[Bool.not_false, ↓reduceIte]
  exact .inl (h.wp (fun v L' w' hp hm=>hm w' hp) hw)
 |any is ts=>
  cases he
  intro listed hF ht w hw
  obtain⟨k,is',rfl,hk,dY,ee,hc⟩:=hF.cons
  obtain⟨t,rO,mc⟩:=ht
  have hr:Region.ready .any ops listed= [k]:=by
   rcases hc with hc| ⟨_,_,_,hc| ⟨_,_,hc⟩⟩
   ·exact hc
   ·rw[hp] at hc;cases hc
   ·rw[hc t rO] at mc;cases mc
  exact uN hk hr hs h (fun v L' w' hp hm=>hm _ dY ⟨t,rO,Ed mc⟩ w' hp) hw
 |qui is ts=>
  intro listed hF ht w hw
  obtain⟨k,is',rfl,hk,dY,ee,hc⟩:=hF.cons
  simp only[Md.turn] at he
  split at he
  ·rename_i fw
   cases he
   have j1:k∈ts:=by simpa using fw
   have hr:Region.ready .any ops listed= [k]:=by
    rcases hc with hc| ⟨hc,_⟩
    ·exact hc
    ·exact absurd j1 hc
   have bO:=wq (ht k j1)
   refine⟨fun _=>hw,(fun h=>by rw[hr] at h;cases h), ?_⟩
   intro i hi
   rw[hr,List.mem_singleton] at hi
   subst hi
   unfold wpOp
   simp only[hk,kW,hs,Bool.not_false, ↓reduceIte]
   exact .inl (h.wp (fun v L' w' hp hm=>wN _ _ _ _ ⟨i,j1,bO⟩ (hm _ dY ⟨i,j1,bO⟩ w' hp)) hw)
  ·cases he
 |sof R is ts=>
  intro listed hF ht w hw
  obtain⟨k,is',rfl,hk,dY,ee,hc⟩:=hF.cons
  simp only[Md.turn] at he
  split at he
  ·rename_i fw
   cases he
   have j1:k∈ts:=by simpa using fw
   have hr:Region.ready .any ops listed= [k]:=by
    rcases hc with hc| ⟨hc,_⟩
    ·exact hc
    ·exact absurd j1 hc
   have bO:=wq (ht k j1)
   refine⟨fun _=>SR.of hw,(fun h=>by rw[hr] at h;cases h), ?_⟩
   intro i hi
   rw[hr,List.mem_singleton] at hi
   subst hi
   unfold wpOp
   simp only[hk,kW,hs,Bool.not_false, ↓reduceIte]
   exact .inl (h.wp (fun v L' w' hp hm=>wN _ _ _ _ ⟨i,j1,bO⟩ (hm _ dY ⟨i,j1,bO⟩ w' hp)) hw)
  ·cases he
theorem Ow.calm {v:Value} (hp:fY P o.op=false) (oV:pF o.op=false) (hs:bA ops f o=false) (h:OpS P w0 f L o (fun v' L'=>v'=v∧L'=L))
  (hn:Ow P w0 ops md.next rest (aS f o.dst v) L N):Ow P w0 ops md (o::rest) f L N:=by
 cases md with
 |seq=>exact Ow.step rfl hp hs (h.mono fun v' L' ⟨h1,h2⟩=>by rw[h1,h2];exact hn)
 |any is ts=>exact Ow.step rfl hp hs (h.mono fun v' L' ⟨h1,h2⟩=>by rw[h1,h2];exact hn)
 |qui is ts=>
  intro listed hF ht w hw
  obtain⟨k,is',rfl,hk,dY,ee,hc⟩:=hF.cons
  have hr:Region.ready .any ops listed= [k]:=by
   rcases hc with hc| ⟨_,_,_,hc| ⟨hc,_⟩⟩
   ·exact hc
   ·rw[hp] at hc;cases hc
   ·rw[oV] at hc;cases hc
  refine⟨fun _=>hw,(fun h=>by rw[hr] at h;cases h), ?_⟩
  intro i hi
  rw[hr,List.mem_singleton] at hi
  subst hi
  unfold wpOp
  simp only[hk,kW,hs,Bool.not_false, ↓reduceIte]
  refine .inl (h.wp (fun v' L' w' hp hm=> ?_) hw)
  obtain⟨rfl,rfl⟩:=hm
  simp only[Md.next] at hn
  split at hn
  ·rename_i fw
   have dC:i∈ts:=by simpa using fw
   have bO:=wq (ht i dC)
   exact wN _ _ _ _ ⟨i,dC,bO⟩ (hn _ dY ⟨i,dC,bO⟩ w' hp)
  ·rename_i fw
   have dC:i∉ts:=by simpa using fw
   exact hn _ dY (pA dC ht) w' hp
 |sof R is ts=>
  intro listed hF ht w hw
  obtain⟨k,is',rfl,hk,dY,ee,hc⟩:=hF.cons
  have hr:Region.ready .any ops listed= [k]:=by
   rcases hc with hc| ⟨_,_,_,hc| ⟨hc,_⟩⟩
   ·exact hc
   ·rw[hp] at hc;cases hc
   ·rw[oV] at hc;cases hc
  refine⟨fun _=>SR.of hw,(fun h=>by rw[hr] at h;cases h), ?_⟩
  intro i hi
  rw[hr,List.mem_singleton] at hi
  subst hi
  unfold wpOp
  simp only[hk,kW,hs,Bool.not_false, ↓reduceIte]
  refine .inl (h.wp (fun v' L' w' hp hm=> ?_) hw)
  obtain⟨rfl,rfl⟩:=hm
  simp only[Md.next] at hn
  split at hn
  ·rename_i fw
   have dC:i∈ts:=by simpa using fw
   have bO:=wq (ht i dC)
   exact wN _ _ _ _ ⟨i,dC,bO⟩ (hn _ dY ⟨i,dC,bO⟩ w' hp)
  ·rename_i fw
   have dC:i∉ts:=by simpa using fw
   exact hn _ dY (pA dC ht) w' hp
theorem rU {k:Nat} (hk:ops[k]? =some o) (h1:k∈Region.ready .any ops listed) (h2:Region.free .any ops listed k=true)
  (h3:fY P o.op=true∨(pF o.op=true∧tB ops ts listed k=true∧ ∀t,t∈ts→listed.getD t true=false)):First ops ts k o (fY P o.op=true) listed:=by
 refine⟨h1,Region.free_spec hk h2,h3.imp id fun⟨_,hw,_⟩=> ?_⟩
 unfold tB Bg at hw
 generalize tU ops listed k 6 []=cs at hw
 simp only[Bool.and_eq_true,List.all_eq_true,Bool.or_eq_true,List.contains_eq_mem,decide_eq_true_eq,bne_iff_ne,ne_eq,Bool.not_eq_true'] at hw
 obtain⟨aF,bH⟩:=hw
 refine⟨cs,fun t ht hu=> ?_,fun c hc=> ?_⟩
 ·rcases aF t ht with h|h
  ·rw[hu] at h;cases h
  ·exact h
 ·obtain⟨⟨h1,h2⟩,h3⟩:=bH c hc
  refine⟨h1,h2, ?_⟩
  cases ho:ops[c]? with
  |none=>rw[ho] at h3;cases h3
  |some oc=>
   rw[ho] at h3
   obtain⟨e,he,hb⟩:=Array.any_eq_true'.1 h3
   simp only[Bool.and_eq_true,Bool.or_eq_true,beq_iff_eq,List.contains_eq_mem,decide_eq_true_eq] at hb
   exact⟨oc,rfl,e,he,hb.1,hb.2⟩
theorem Ow.skip (hs:bA ops f o=true) (h:Ow P w0 ops md.next rest (aS f o.dst undef) L N):Ow P w0 ops md (o::rest) f L N:=by
 have eR:Region.wanted o (yielded ops (act f).tmps)=false:=by rw[kW,hs];rfl
 cases md with
 |seq=>
  intro w hw
  unfold wpList
  rw[eR]
  simp only[Bool.false_eq_true, ↓reduceIte]
  rw[fN]
  exact h w hw
 |any is ts=>
  intro listed hF ht w hw
  obtain⟨k,is',rfl,hk,dY,ee,hc⟩:=hF.cons
  obtain⟨t,rO,mc⟩:=ht
  have cX:=h _ dY ⟨t,rO,Ed mc⟩ w hw
  rcases hc with hc| ⟨dA,dL,i8,iy⟩
  ·refine wpAny_all hc (by simp) ?_
   intro i hi
   simp only[List.mem_singleton] at hi
   subst hi
   unfold wpOp
   simp only[hk,eR,Bool.false_eq_true, ↓reduceIte]
   rw[fN];exact cX
  ·refine wpAny_take (v:=undef) hk hF.sel i8 (by simpa using dL) (fun c a w h=>lb h) (.inr ⟨eR,rfl⟩) ?_
   rw[fN];exact cX
 |qui is ts=>
  intro listed hF ht w hw
  obtain⟨k,is',rfl,hk,dY,ee,hc⟩:=hF.cons
  simp only[Md.next] at h
  rcases hc with hc| ⟨dA,dL,i8,iy⟩
  ·refine⟨fun _=>hw,fun h=>(by rw[hc] at h;cases h), ?_⟩
   intro i hi
   rw[hc,List.mem_singleton] at hi
   subst hi
   unfold wpOp
   simp only[hk,eR,Bool.false_eq_true, ↓reduceIte]
   rw[fN]
   split at h
   ·rename_i fw
    have dC:i∈ts:=by simpa using fw
    have bO:=wq (ht i dC)
    exact wN _ _ _ _ ⟨i,dC,bO⟩ (h _ dY ⟨i,dC,bO⟩ w hw)
   ·rename_i fw
    exact h _ dY (pA (by simpa using fw) ht) w hw
  ·rw[if_neg (by simpa using dA)] at h
   refine ri hk dA (Region.noSelect_spec hF.sel) (fun c a w h=>lb h) _ _ _ _ (rU (P:=P) hk dL i8 iy) (.inr ht) (.inr ⟨eR,rfl⟩) ?_
   rw[fN];exact h _ dY (pA dA ht) w hw
 |sof R is ts=>
  intro listed hF ht w hw
  obtain⟨k,is',rfl,hk,dY,ee,hc⟩:=hF.cons
  simp only[Md.next] at h
  rcases hc with hc| ⟨dA,dL,i8,iy⟩
  ·refine⟨fun _=>SR.of hw,fun h=>(by rw[hc] at h;cases h), ?_⟩
   intro i hi
   rw[hc,List.mem_singleton] at hi
   subst hi
   unfold wpOp
   simp only[hk,eR,Bool.false_eq_true, ↓reduceIte]
   rw[fN]
   split at h
   ·rename_i fw
    have dC:i∈ts:=by simpa using fw
    have bO:=wq (ht i dC)
    exact wN _ _ _ _ ⟨i,dC,bO⟩ (h _ dY ⟨i,dC,bO⟩ w hw)
   ·rename_i fw
    exact h _ dY (pA (by simpa using fw) ht) w hw
  ·rw[if_neg (by simpa using dA)] at h
   refine ri hk dA (Region.noSelect_spec hF.sel) (fun c a w h=>lb h) _ _ _ _ (rU (P:=P) hk dL i8 iy) (.inr ht) (.inr ⟨eR,rfl⟩) ?_
   rw[fN];exact h _ dY (pA dA ht) w hw
theorem xT {op:Op} {v:Value} (hp:fY P op=true) (h:iF P w0 L f op=some v) (w:World):iF P w [] f op=some v:=by
 cases op<;>simp only[fY,Bool.false_eq_true] at hp<;>first
  |exact h
  |skip
 ·rename_i s d x
  simp only[iF] at h ⊢
  cases hc:cvT P s d<;>rw[hc] at h hp<;>first
   |exact h
   |cases hp
 ·rename_i t x lo hi mx
  cases mx<;>exact h
 ·rename_i c
  obtain⟨cl,args,ts⟩:=c
  cases cl with
  |builtin b=>cases b<;>first|exact h|cases hp
  |value x=>cases hp
  |invoke x m=>cases hp
theorem Yo {op:Op} {v:Value} (h:iF P w0 L f op=some v):fY P op=true∨pF op=true:=by
 unfold iF at h
 split at h<;>first
  |exact .inl rfl
  |exact .inr rfl
  |cases h
def rdIn (R:List Nat):Value→Bool
 | .pointer (some a)=>R.contains a.block
 | .slice (some a) _ _=>R.contains a.block
 |_=>true
def rdOk (md:Md) (f:Fr) (op:Op):Bool:=
 match op with
 | .load _ x=>(match md with| .sof R _ _=>rdIn R (ev f x) |_=>true)
 | .convert _ _ x=>(match md with| .sof R _ _=>rdIn R (ev f x) |_=>true)
 |_=>true
theorem Eo (w:World) (b:Nat):aP w [] b=w.heap[b]? :=(rfl)
theorem HX {R is ts:List Nat} {op:Op} {v:Value} {w:World} (bY:rdOk (.sof R is ts) f op=true) (h:iF P w0 L f op=some v) (hS:SR w0 R L w):iF P w [] f op=some v:=by
 cases op<;>first
  |exact h
  |skip
 case load t x=>
  simp only[iF,sk] at h ⊢
  simp only[rdOk] at bY
  split at h
  ·rename_i b off hx
   rw[hx] at bY
   simp only[rdIn,List.contains_eq_mem,decide_eq_true_eq] at bY
   simp only[Eo]
   cases hr:aP w0 L b with
   |none=>rw[hr] at h;unfold aI at h;split at h<;>simp_all
   |some o=>rw[hS b bY o hr];rw[hr] at h;exact h
  ·cases h
 case convert s d x=>
  simp only[iF,pE] at h ⊢
  simp only[rdOk] at bY
  cases hc:cvT P s d<;>rw[hc] at h<;>simp only at h ⊢ <;>first
   |exact h
   |skip
  unfold uF at h ⊢
  split at h
  ·exact h
  ·rename_i b off n c hx
   rw[hx] at bY
   simp only[rdIn,List.contains_eq_mem,decide_eq_true_eq] at bY
   simp only[Eo]
   cases hr:aP w0 L b with
   |none=>rw[hr] at h;unfold ga at h;cases h
   |some o=>rw[hS b bY o hr];rw[hr] at h;exact h
  ·cases h
 case slice t x lo hi mx=>cases mx<;>exact h
 case call c=>
  obtain⟨cl,args,ts'⟩:=c
  cases cl with
  |builtin b=>cases b<;>exact h
  |value x=>exact h
  |invoke x m=>exact h
theorem Ow.value {v:Value} (hs:bA ops f o=false) (bY:rdOk md f o.op=true) (hv:iF P w0 L f o.op=some v) (h:Ow P w0 ops md.next rest (aS f o.dst v) L N):Ow P w0 ops md (o::rest) f L N:=by
 have eR:Region.wanted o (yielded ops (act f).tmps)=true:=by rw[kW,hs];rfl
 have hS:OpS P w0 f L o (fun v' L'=>v'=v∧L'=L):=fun w hw=> .inl ⟨v,w,L,nT hw hv,hw,rfl,rfl⟩
 have hY:YieldsC P ops (Hp w0 L) (fY P o.op=true) o v (act f):=by
  refine .inl ⟨eR,fun w hw=> ?_⟩
  rw[pj]
  rcases hw with hp|hw
  ·exact nT (Hp.refl w) (xT hp hv w)
  ·exact nT hw hv
 cases md with
 |seq=>
  intro w hw
  unfold wpList
  rw[eR]
  simp only[↓reduceIte]
  exact .inl (hS.wp (fun v' L' w' hp hm=>by obtain⟨rfl,rfl⟩:=hm;exact h w' hp) hw)
 |any is ts=>
  intro listed hF ht w hw
  obtain⟨k,is',rfl,hk,dY,ee,hc⟩:=hF.cons
  obtain⟨t,rO,mc⟩:=ht
  have cX:=fun w hw=>h _ dY ⟨t,rO,Ed mc⟩ w hw
  rcases hc with hc| ⟨dA,dL,i8,iy| ⟨_,_,iy⟩⟩
  ·exact uN hk hc hs hS (fun v' L' w' hp hm=>by obtain⟨rfl,rfl⟩:=hm;exact cX w' hp) hw
  ·refine wpAny_take (v:=v) hk hF.sel i8 (by simpa using dL) (fun c a w h=>lb h) (.inl ⟨eR,fun w=> ?_⟩) ?_
   ·rw[pj];exact nT (Hp.refl w) (xT iy hv w)
   ·rw[fN];exact cX w hw
  ·rw[iy t rO] at mc;cases mc
 |qui is ts=>
  intro listed hF ht w hw
  obtain⟨k,is',rfl,hk,dY,ee,hc⟩:=hF.cons
  have dC:k∉ts:=ee (Yo hv)
  simp only[Md.next] at h
  rw[if_neg (by simpa using dC)] at h
  have cX:=fun w hw=>h _ dY (pA dC ht) w hw
  rcases hc with hc| ⟨dA,dL,i8,iy⟩
  ·refine⟨fun _=>hw,fun h=>(by rw[hc] at h;cases h), ?_⟩
   intro i hi
   rw[hc,List.mem_singleton] at hi
   subst hi
   unfold wpOp
   simp only[hk,eR, ↓reduceIte]
   exact .inl (hS.wp (fun v' L' w' hp hm=>by obtain⟨rfl,rfl⟩:=hm;exact cX w' hp) hw)
  ·refine ri hk dA (Region.noSelect_spec hF.sel) (fun c a w h=>lb h) _ _ _ _ (rU (P:=P) hk dL i8 iy) (.inr ht) hY ?_
   rw[fN];exact cX w hw
 |sof R is ts=>
  intro listed hF ht w hw
  have hYs:YieldsC P ops (SR w0 R L) (fY P o.op=true) o v (act f):=by
   refine .inl ⟨eR,fun w hw=> ?_⟩
   rw[pj]
   rcases hw with hp|hw
   ·exact nT (Hp.refl w) (xT hp hv w)
   ·exact nT (Hp.refl w) (HX bY hv hw)
  obtain⟨k,is',rfl,hk,dY,ee,hc⟩:=hF.cons
  have dC:k∉ts:=ee (Yo hv)
  simp only[Md.next] at h
  rw[if_neg (by simpa using dC)] at h
  have cX:=fun w hw=>h _ dY (pA dC ht) w hw
  rcases hc with hc| ⟨dA,dL,i8,iy⟩
  ·refine⟨fun _=>SR.of hw,fun h=>(by rw[hc] at h;cases h), ?_⟩
   intro i hi
   rw[hc,List.mem_singleton] at hi
   subst hi
   unfold wpOp
   simp only[hk,eR, ↓reduceIte]
   exact .inl (hS.wp (fun v' L' w' hp hm=>by obtain⟨rfl,rfl⟩:=hm;exact cX w' hp) hw)
  ·refine ri hk dA (Region.noSelect_spec hF.sel) (fun c a w h=>lb h) _ _ _ _ (rU (P:=P) hk dL i8 iy) (.inr ht) hYs ?_
   rw[fN];exact cX w hw
theorem Ow.pureV {v:Value} (hp:fY P o.op=true) (hs:bA ops f o=false) (hv: ∀w,(execOp (ev f) o).run P w= .ok (.value v) w) (h:Ow P w0 ops md.next rest (aS f o.dst v) L N):Ow P w0 ops md (o::rest) f L N:=by
 have eR:Region.wanted o (yielded ops (act f).tmps)=true:=by rw[kW,hs];rfl
 have hS:OpS P w0 f L o (fun v' L'=>v'=v∧L'=L):=fun w hw=> .inl ⟨v,w,L,hv w,hw,rfl,rfl⟩
 have hY: ∀C,YieldsC P ops C (fY P o.op=true) o v (act f):=fun C=> .inl ⟨eR,fun w _=>by rw[pj];exact hv w⟩
 cases md with
 |seq=>
  intro w hw
  unfold wpList
  rw[eR]
  simp only[↓reduceIte]
  exact .inl (hS.wp (fun v' L' w' hp hm=>by obtain⟨rfl,rfl⟩:=hm;exact h w' hp) hw)
 |any is ts=>
  intro listed hF ht w hw
  obtain⟨k,is',rfl,hk,dY,ee,hc⟩:=hF.cons
  obtain⟨t,rO,mc⟩:=ht
  have cX:=fun w hw=>h _ dY ⟨t,rO,Ed mc⟩ w hw
  rcases hc with hc| ⟨dA,dL,i8,iy⟩
  ·exact uN hk hc hs hS (fun v' L' w' hp hm=>by obtain⟨rfl,rfl⟩:=hm;exact cX w' hp) hw
  ·refine wpAny_take (v:=v) hk hF.sel i8 (by simpa using dL) (fun c a w h=>lb h) (.inl ⟨eR,fun w=> ?_⟩) ?_
   ·rw[pj];exact hv w
   ·rw[fN];exact cX w hw
 |qui is ts=>
  intro listed hF ht w hw
  obtain⟨k,is',rfl,hk,dY,ee,hc⟩:=hF.cons
  have dC:k∉ts:=ee (.inl hp)
  simp only[Md.next] at h
  rw[if_neg (by simpa using dC)] at h
  have cX:=fun w hw=>h _ dY (pA dC ht) w hw
  rcases hc with hc| ⟨dA,dL,i8,iy⟩
  ·refine⟨fun _=>hw,fun h=>(by rw[hc] at h;cases h), ?_⟩
   intro i hi
   rw[hc,List.mem_singleton] at hi
   subst hi
   unfold wpOp
   simp only[hk,eR, ↓reduceIte]
   exact .inl (hS.wp (fun v' L' w' hp hm=>by obtain⟨rfl,rfl⟩:=hm;exact cX w' hp) hw)
  ·refine ri hk dA (Region.noSelect_spec hF.sel) (fun c a w h=>lb h) _ _ _ _ (rU (P:=P) hk dL i8 iy) (.inr ht) (hY _) ?_
   rw[fN];exact cX w hw
 |sof R is ts=>
  intro listed hF ht w hw
  obtain⟨k,is',rfl,hk,dY,ee,hc⟩:=hF.cons
  have dC:k∉ts:=ee (.inl hp)
  simp only[Md.next] at h
  rw[if_neg (by simpa using dC)] at h
  have cX:=fun w hw=>h _ dY (pA dC ht) w hw
  rcases hc with hc| ⟨dA,dL,i8,iy⟩
  ·refine⟨fun _=>SR.of hw,fun h=>(by rw[hc] at h;cases h), ?_⟩
   intro i hi
   rw[hc,List.mem_singleton] at hi
   subst hi
   unfold wpOp
   simp only[hk,eR, ↓reduceIte]
   exact .inl (hS.wp (fun v' L' w' hp hm=>by obtain⟨rfl,rfl⟩:=hm;exact cX w' hp) hw)
  ·refine ri hk dA (Region.noSelect_spec hF.sel) (fun c a w h=>lb h) _ _ _ _ (rU (P:=P) hk dL i8 iy) (.inr ht) (hY _) ?_
   rw[fN];exact cX w hw
theorem Ow.store {t:TypeId} {a x:Operand} {L':aA} {md':Md} (he:md.turn=some md') (hs:bA ops f o=false) (ho:o.op= .store t a x) (hv:pz (aM P t) L (ev f a) (ev f x)=some L') (h:Ow P w0 ops md' rest (aS f o.dst undef) L' N):Ow P w0 ops md (o::rest) f L N:=
 Ow.step he (by rw[ho];rfl) hs fun w hw=>by
  obtain⟨w',hr,hp⟩:=Jy hw hv
  refine .inr (.inl ⟨w',L', ?_,hp,h⟩)
  simp only[execOp,ho,Sem.run_bind,hr];rfl
end
inductive Kind where
 |value|store (t:TypeId) (a x:Operand) |other
def ud:Op→Kind
 | .move _=> .value
 | .assign _=> .value
 | .pick .. => .value
 | .binOp .. => .value
 | .unOp .. => .value
 | .convert .. => .value
 | .nilCheck _=> .value
 | .fieldAddr .. => .value
 | .field .. => .value
 | .indexAddr .. => .value
 | .index .. => .value
 | .load .. => .value
 | .extract .. => .value
 | .slice .. => .value
 | .makeFunc .. => .value
 | .call ⟨.builtin .len,_,_⟩=> .value
 | .call ⟨.builtin .cap,_,_⟩=> .value
 | .store t a x=> .store t a x
 |_=> .other
abbrev Dep {α:Type} (_:α):Type:=Prop
def ov (x:Option Value) (k:Value→Prop):Dep k:=match x with|some v=>k v|none=>False
def ovs (x:Option Value) (k:Value→Prop) (s:Prop):Dep (k,s):=match x with|some v=>k v|none=>s
def oh (x:Option aA) (k:aA→Prop):Dep k:=match x with|some v=>k v|none=>False
def nf (f:Fr) (k:Fr→Prop):Dep k:=k f
def nh (L:aA) (k:aA→Prop):Dep k:=k L
@[congr] theorem auE_ {x y:Option Value} {k:Value→Prop} (h:x=y):ov x k=ov y k:=by rw[h]
@[congr] theorem atm_ {x y:Option Value} {k:Value→Prop} {s:Prop} (h:x=y):ovs x k s=ovs y k s:=by rw[h]
@[congr] theorem auI_ {x y:Option aA} {k:aA→Prop} (h:x=y):oh x k=oh y k:=by rw[h]
@[congr] theorem auA_ {x y:Fr} {k:Fr→Prop} (h:x=y):nf x k=nf y k:=by rw[h]
@[congr] theorem auL_ {x y:aA} {k:aA→Prop} (h:x=y):nh x k=nh y k:=by rw[h]
theorem QK (v:Value) (k:Value→Prop) (s:Prop):ovs (some v) k s=k v:=(rfl)
theorem Rj (k:Value→Prop) (s:Prop):ovs none k s=s:=(rfl)
theorem U3 (v:aA) (k:aA→Prop):oh (some v) k=k v:=(rfl)
theorem Tn (v:Value) (r:Fr) (k:Fr→Prop):nf (v::r) k=k (v::r):=(rfl)
theorem UZ (k:Fr→Prop):nf [] k=k []:=(rfl)
theorem TL (v:Nat×Obj) (r:aA) (k:aA→Prop):nh (v::r) k=k (v::r):=(rfl)
theorem VQ (k:aA→Prop):nh [] k=k []:=(rfl)
def ib (b:Bool) (x y:Prop):Dep (x,y):=match b with|true=>x|false=>y
@[congr] theorem auJ_ {a b:Bool} {x y:Prop} (h:a=b):ib a x y=ib b x y:=by rw[h]
theorem UL (x y:Prop):ib true x y=x:=(rfl)
theorem QO (x y:Prop):ib false x y=y:=(rfl)
def vcB (P:Program) (w0:World) (st:Bool) (md:Md) (o:Oper) (f:Fr) (L:aA) (go:Fr→aA→Prop) (stop:Prop):Prop:=
 match ud o.op with
 | .value=>ib (rdOk md f o.op) (ovs (iF P w0 L f o.op) (fun v=>nf (aS f o.dst v) fun f'=>go f' L) stop) stop
 | .store t a x=>ib st (oh (pz (aM P t) L (ev f a) (ev f x)) fun L'=>nh L' fun L'=>nf (aS f o.dst undef) fun f'=>go f' L') stop
 | .other=>stop
def vcL (P:Program) (w0:World) (ops:Array Oper) (st:Bool) (md:Md):List Oper→Fr→aA→(Md→List Oper→Fr→aA→Prop)→Prop
 | [],f,L,k=>k md [] f L
 |o::rest,f,L,k=>
  ib (bA ops f o) (nf (aS f o.dst undef) fun f'=>vcL P w0 ops st md.next rest f' L k)
   (vcB P w0 st md o f L (fun f' L'=>vcL P w0 ops st md.next rest f' L' k) (k md (o::rest) f L))
def Md.eff:Md→Bool
 | .seq=>true
 | .qui _ _=>false
 | .any _ _=>true
 | .sof _ _ _=>false
theorem Md.turn_eff {md:Md} (h:md.eff=true):md.turn=some md.next:=by
 cases md<;>first|rfl|cases h
theorem Md.next_eff {md:Md} (h:md.eff=true):md.next.eff=true:=by
 cases md<;>first|rfl|cases h
theorem Ik {op:Op} {t:TypeId} {a x:Operand} (h:ud op= .store t a x):op= .store t a x:=by
 unfold ud at h
 split at h<;>first| (cases h;done) | (cases h;rfl)
theorem xf {P:Program} {w0:World} {ops:Array Oper} {N:Fr→aA→Prop} (k:Md→List Oper→Fr→aA→Prop) (hk: ∀md l f L,k md l f L→Ow P w0 ops md l f L N) (st:Bool):
  ∀ (l:List Oper) (md:Md) (f:Fr) (L:aA),(st=true→md.eff=true)→vcL P w0 ops st md l f L k→Ow P w0 ops md l f L N
 | [],md,f,L,_,h=>hk _ _ _ _ h
 |o::rest,md,f,L,bF,h=>by
  unfold vcL at h
  have oe:st=true→md.next.eff=true:=fun e=>Md.next_eff (bF e)
  cases hs:bA ops f o with
  |true=>
   rw[hs] at h
   exact Ow.skip hs (xf k hk st rest _ _ L oe h)
  |false=>
   rw[hs] at h
   simp only[ib,vcB] at h
   split at h
   ·cases bY:rdOk md f o.op with
    |false=>rw[bY] at h;exact hk _ _ _ _ h
    |true=>
     rw[bY] at h
     cases hv:iF P w0 L f o.op with
     |none=>rw[hv] at h;exact hk _ _ _ _ h
     |some v=>rw[hv] at h;exact Ow.value hs bY hv (xf k hk st rest _ _ L oe h)
   ·rename_i t a x Wg
    cases st with
    |true=>
     simp only at h
     cases hv:pz (aM P t) L (ev f a) (ev f x) with
     |none=>rw[hv] at h;exact h.elim
     |some L'=>
      rw[hv] at h
      exact Ow.store (Md.turn_eff (bF rfl)) hs (Ik Wg) hv (xf k hk true rest _ _ L' oe h)
    |false=>exact hk _ _ _ _ h
   ·exact hk _ _ _ _ h
theorem Ow.run {P:Program} {w0:World} {ops:Array Oper} {md:Md} {N:Fr→aA→Prop} {l:List Oper} {f:Fr} {L:aA} (he:md.eff=true)
  (h: ∀k:Md→List Oper→Fr→aA→Prop,(∀md l f L,Ow P w0 ops md l f L N→k md l f L)→vcL P w0 ops true md l f L k):Ow P w0 ops md l f L N:=
 xf (fun md l f L=>Ow P w0 ops md l f L N) (fun _ _ _ _ h=>h) true l md f L (fun _=>he) (h _ fun _ _ _ _ h=>h)
theorem Ke (f:Fr) (t:TypeId) (x:Operand):rdOk .seq f (.load t x)=true:=(rfl)
theorem Kq (f:Fr) (is ts:List Nat) (t:TypeId) (x:Operand):rdOk (.any is ts) f (.load t x)=true:=(rfl)
theorem Je (f:Fr) (is ts:List Nat) (t:TypeId) (x:Operand):rdOk (.qui is ts) f (.load t x)=true:=(rfl)
theorem LT (f:Fr) (R is ts:List Nat) (t:TypeId) (x:Operand):rdOk (.sof R is ts) f (.load t x)=rdIn R (ev f x):=(rfl)
theorem WD_ (f:Fr) (s t:TypeId) (x:Operand):rdOk .seq f (.convert s t x)=true:=(rfl)
theorem Wl_ (f:Fr) (is ts:List Nat) (s t:TypeId) (x:Operand):rdOk (.any is ts) f (.convert s t x)=true:=(rfl)
theorem WH_ (f:Fr) (is ts:List Nat) (s t:TypeId) (x:Operand):rdOk (.qui is ts) f (.convert s t x)=true:=(rfl)
theorem Wi_ (f:Fr) (R is ts:List Nat) (s t:TypeId) (x:Operand):rdOk (.sof R is ts) f (.convert s t x)=rdIn R (ev f x):=(rfl)
theorem Ug (R:List Nat) (b o:Nat):rdIn R (vp b o)=R.contains b:=(rfl)
theorem TA (R:List Nat) (b o n c:Nat):rdIn R (vsl b o n c)=R.contains b:=(rfl)
theorem SV (R:List Nat) (n c:Nat):rdIn R (.slice none n c)=true:=(rfl)
theorem Qx (R:List Nat) (k:IntKind) (n:Int):rdIn R (.int k n)=true:=(rfl)
theorem Qh (R:List Nat) (l:List UInt8):rdIn R (vs l)=true:=(rfl)
theorem Md.next_sof (k:Nat) (R is ts:List Nat): (Md.sof R (k::is) ts).next=if ts.contains k then .any is ts else .sof R is ts:=(rfl)
theorem Md.next_seq:Md.seq.next= .seq:=(rfl)
theorem Md.next_any (k:Nat) (is ts:List Nat): (Md.any (k::is) ts).next= .any is ts:=(rfl)
theorem Md.next_qui (k:Nat) (is ts:List Nat): (Md.qui (k::is) ts).next=if ts.contains k then .any is ts else .qui is ts:=(rfl)
def qU:Value→Option Bool
 | .bool b=>some b
 |_=>none
def uW (o:Option Oper) (f:Fr):Option Bool:=
 match o with
 |some o=>match o.dst with
  |some d=>qU (eC f d)
  |none=>none
 |none=>none
theorem mq (l:List Oper) (j:Nat):dG l j=l[j]? :=by
 induction l generalizing j with
 |nil=>rfl
 |cons o r ih=>cases j<;>simp[dG,ih]
theorem Mm (l:List Oper) (f:Fr) (j:Nat):tJ l.toArray f j=uW (dG l j) f:=by
 unfold tJ uW
 rw[mq,List.getElem?_toArray]
 cases l[j]? with
 |none=>rfl
 |some o=>
  simp only[Option.bind_some]
  cases o.dst with
  |none=>rfl
  |some d=>
   simp only
   cases eC f d<;>rfl
theorem K7 (d:Tmp) (op:Op) (ty:TypeId) (ps:String) (af:Array Edge) (g:Option (Nat×Bool)) (f:Fr):uW (some ⟨some d,op,ty,ps,af,g⟩) f=qU (eC f d):=(rfl)
theorem RV (b:Bool):qU (.bool b)=some b:=(rfl)
theorem JH:qU undef=none:=(rfl)
theorem SY (a b:Bool): ((some a:Option Bool)==some b)=(a==b):=(rfl)
theorem Rt (b:Bool): ((none:Option Bool)==some b)=false:=(rfl)
section
variable (P:Program) (w0:World) (ops:Array Oper) (rest:List Oper) (f:Fr) (L:aA) (k:Md→List Oper→Fr→aA→Prop)
 (st:Bool) (md:Md) (d:Option Tmp) (ty:TypeId) (ps:String) (af:Array Edge)
theorem TW:vcL P w0 ops st md [] f L k=k md [] f L:=(rfl)
theorem Rk (op:Op):vcL P w0 ops st md (⟨d,op,ty,ps,af,none⟩::rest) f L k=
  vcB P w0 st md ⟨d,op,ty,ps,af,none⟩ f L (fun f' L'=>vcL P w0 ops st md.next rest f' L' k) (k md (⟨d,op,ty,ps,af,none⟩::rest) f L):=(rfl)
theorem SO (op:Op) (j:Nat) (b:Bool):vcL P w0 ops st md (⟨d,op,ty,ps,af,some (j,b)⟩::rest) f L k=
  ib (tJ ops f j==some b) (vcB P w0 st md ⟨d,op,ty,ps,af,some (j,b)⟩ f L (fun f' L'=>vcL P w0 ops st md.next rest f' L' k) (k md (⟨d,op,ty,ps,af,some (j,b)⟩::rest) f L)) (nf (aS f d undef) fun f'=>vcL P w0 ops st md.next rest f' L k):=by
 simp only[vcL,bA]
 cases(tJ ops f j==some b)<;>rfl
end
@[congr] theorem auk_ {P:Program} {w0:World} {st:Bool} {md:Md} {o:Oper} {f:Fr} {L:aA} {go:Fr→aA→Prop} {stop:Prop}:vcB P w0 st md o f L go stop=vcB P w0 st md o f L go stop:=(rfl)
section
variable (P:Program) (w0:World) (f:Fr) (L:aA) (st:Bool) (md:Md) (d:Option Tmp) (ty:TypeId) (ps:String) (af:Array Edge) (g:Option (Nat×Bool)) (go:Fr→aA→Prop) (stop:Prop)
theorem Rx (x:Operand):vcB P w0 st md ⟨d, .move x,ty,ps,af,g⟩ f L go stop=ovs (some (ev f x)) (fun v=>nf (aS f d v) fun f'=>go f' L) stop:=(rfl)
theorem OE (x:Operand):vcB P w0 st md ⟨d, .assign x,ty,ps,af,g⟩ f L go stop=ovs (some (ev f x)) (fun v=>nf (aS f d v) fun f'=>go f' L) stop:=(rfl)
theorem Rf (c a b:Operand):vcB P w0 st md ⟨d, .pick c a b,ty,ps,af,g⟩ f L go stop=ovs (iW (ev f c) (ev f a) (ev f b)) (fun v=>nf (aS f d v) fun f'=>go f' L) stop:=(rfl)
theorem QC (op:BinOp) (t t':TypeId) (x y:Operand):vcB P w0 st md ⟨d, .binOp op t x y t',ty,ps,af,g⟩ f L go stop=ovs (aT P op t (ev f x) (ev f y)) (fun v=>nf (aS f d v) fun f'=>go f' L) stop:=(rfl)
theorem Qk (op:UnOp) (t:TypeId) (x:Operand):vcB P w0 st md ⟨d, .unOp op t x,ty,ps,af,g⟩ f L go stop=ovs (unV op (ev f x)) (fun v=>nf (aS f d v) fun f'=>go f' L) stop:=(rfl)
theorem Ky (s t:TypeId) (x:Operand):vcB P w0 st md ⟨d, .convert s t x,ty,ps,af,g⟩ f L go stop=ib (rdOk md f (.convert s t x)) (ovs (pE w0 L (cvT P s t) (ev f x)) (fun v=>nf (aS f d v) fun f'=>go f' L) stop) stop:=(rfl)
theorem Ii (x:Operand):vcB P w0 st md ⟨d, .nilCheck x,ty,ps,af,g⟩ f L go stop=ovs (nilV (ev f x)) (fun v=>nf (aS f d v) fun f'=>go f' L) stop:=(rfl)
theorem IB (s:TypeId) (x:Operand) (i:Nat):vcB P w0 st md ⟨d, .fieldAddr s x i,ty,ps,af,g⟩ f L go stop=ovs (xQ (aX P s i) (ev f x)) (fun v=>nf (aS f d v) fun f'=>go f' L) stop:=(rfl)
theorem Pu (s:TypeId) (x:Operand) (i:Nat):vcB P w0 st md ⟨d, .field s x i,ty,ps,af,g⟩ f L go stop=ovs (qX (aX P s i) (ev f x)) (fun v=>nf (aS f d v) fun f'=>go f' L) stop:=(rfl)
theorem ID (t:TypeId) (x i:Operand):vcB P w0 st md ⟨d, .indexAddr t x i,ty,ps,af,g⟩ f L go stop=ovs (lZ (ixT P t) (ev f x) (ixI (ev f i))) (fun v=>nf (aS f d v) fun f'=>go f' L) stop:=(rfl)
theorem NR (t:TypeId) (x i:Operand):vcB P w0 st md ⟨d, .index t x i,ty,ps,af,g⟩ f L go stop=ovs (p7 (ixT P t) (ev f x) (ixI (ev f i))) (fun v=>nf (aS f d v) fun f'=>go f' L) stop:=(rfl)
theorem RC (t:TypeId) (x:Operand):vcB P w0 st md ⟨d, .load t x,ty,ps,af,g⟩ f L go stop=ib (rdOk md f (.load t x)) (ovs (sk (aM P t) w0 L (ev f x)) (fun v=>nf (aS f d v) fun f'=>go f' L) stop) stop:=(rfl)
theorem Ls (x:Operand) (i:Nat):vcB P w0 st md ⟨d, .extract x i,ty,ps,af,g⟩ f L go stop=ovs (FC (ev f x) i) (fun v=>nf (aS f d v) fun f'=>go f' L) stop:=(rfl)
theorem QA (t:TypeId) (x:Operand) (lo hi:Option Operand):vcB P w0 st md ⟨d, .slice t x lo hi none,ty,ps,af,g⟩ f L go stop=ovs (gZ (ixT P t) (ev f x) (lo.map fun o=>ixI (ev f o)) (hi.map fun o=>ixI (ev f o))) (fun v=>nf (aS f d v) fun f'=>go f' L) stop:=(rfl)
theorem Il (fn:Fn) (a b:Array Operand):vcB P w0 st md ⟨d, .makeFunc fn a b,ty,ps,af,g⟩ f L go stop=ovs (some (.func fn (a.map (ev f)) (b.map (ev f)))) (fun v=>nf (aS f d v) fun f'=>go f' L) stop:=(rfl)
theorem TG (x:Operand) (t:TypeId):vcB P w0 st md ⟨d, .call ⟨.builtin .len, #[x], #[t]⟩,ty,ps,af,g⟩ f L go stop=ovs (gP (ixT P t) (ev f x)) (fun v=>nf (aS f d v) fun f'=>go f' L) stop:=(rfl)
theorem Tx (x:Operand) (t:TypeId):vcB P w0 st md ⟨d, .call ⟨.builtin .cap, #[x], #[t]⟩,ty,ps,af,g⟩ f L go stop=ovs (capV (ixT P t) (ev f x)) (fun v=>nf (aS f d v) fun f'=>go f' L) stop:=(rfl)
theorem Of (t:TypeId) (a x:Operand):vcB P w0 true md ⟨none, .store t a x,ty,ps,af,g⟩ f L go stop=oh (pz (aM P t) L (ev f a) (ev f x)) fun L'=>nh L' fun L'=>go f L':=(rfl)
theorem K5 (t:TypeId) (a x:Operand):vcB P w0 false md ⟨d, .store t a x,ty,ps,af,g⟩ f L go stop=stop:=(rfl)
theorem Nf (t:TypeId):vcB P w0 st md ⟨d, .alloc t,ty,ps,af,g⟩ f L go stop=stop:=(rfl)
theorem UB (t:TypeId) (x:Operand):vcB P w0 st md ⟨d, .box t x,ty,ps,af,g⟩ f L go stop=stop:=(rfl)
theorem OG (t:TypeId) (x:Array (Nat×Operand)):vcB P w0 st md ⟨d, .build t x,ty,ps,af,g⟩ f L go stop=stop:=(rfl)
theorem Wj_ (t:TypeId) (n:Nat) (x:Array (Nat×Operand)):vcB P w0 st md ⟨d, .buildSlice t n x,ty,ps,af,g⟩ f L go stop=stop:=(rfl)
theorem IF (t:TypeId) (x y:Operand):vcB P w0 st md ⟨d, .makeSlice t x y,ty,ps,af,g⟩ f L go stop=stop:=(rfl)
theorem Qz (x:Operand) (a:Array Operand) (t:Array TypeId):vcB P w0 st md ⟨d, .call ⟨.value x,a,t⟩,ty,ps,af,g⟩ f L go stop=stop:=(rfl)
theorem O2 (a:Array Operand) (t:Array TypeId):vcB P w0 st md ⟨d, .call ⟨.builtin .append,a,t⟩,ty,ps,af,g⟩ f L go stop=stop:=(rfl)
theorem XJ_ (a:Array Operand) (t:Array TypeId):vcB P w0 st md ⟨d, .call ⟨.builtin .unsafeString,a,t⟩,ty,ps,af,g⟩ f L go stop=stop:=(rfl)
theorem Z2_ (a:Array Operand) (t:Array TypeId):vcB P w0 st md ⟨d, .call ⟨.builtin .unsafeSliceData,a,t⟩,ty,ps,af,g⟩ f L go stop=stop:=(rfl)
theorem Ri (a:Array Operand) (t:Array TypeId):vcB P w0 st md ⟨d, .call ⟨.builtin .copy,a,t⟩,ty,ps,af,g⟩ f L go stop=stop:=(rfl)
theorem N5 (a:Array Operand) (t:Array TypeId):vcB P w0 st md ⟨d, .call ⟨.builtin .delete,a,t⟩,ty,ps,af,g⟩ f L go stop=stop:=(rfl)
theorem Pq (a:Array Operand) (t:Array TypeId):vcB P w0 st md ⟨d, .call ⟨.builtin .clear,a,t⟩,ty,ps,af,g⟩ f L go stop=stop:=(rfl)
theorem T8 (a:Array Operand) (t:Array TypeId):vcB P w0 st md ⟨d, .call ⟨.builtin .max,a,t⟩,ty,ps,af,g⟩ f L go stop=stop:=(rfl)
theorem UN (a:Array Operand) (t:Array TypeId):vcB P w0 st md ⟨d, .call ⟨.builtin .min,a,t⟩,ty,ps,af,g⟩ f L go stop=stop:=(rfl)
theorem Kl (t:TypeId) (x:Option Operand):vcB P w0 st md ⟨d, .makeMap t x,ty,ps,af,g⟩ f L go stop=stop:=(rfl)
theorem Mq (t:TypeId) (x y:Operand) (c:Bool):vcB P w0 st md ⟨d, .lookup t x y c,ty,ps,af,g⟩ f L go stop=stop:=(rfl)
theorem IV (t:TypeId) (m x y:Operand):vcB P w0 st md ⟨d, .mapUpdate t m x y,ty,ps,af,g⟩ f L go stop=stop:=(rfl)
theorem Q8 (t:TypeId) (x:Operand):vcB P w0 st md ⟨d, .range t x,ty,ps,af,g⟩ f L go stop=stop:=(rfl)
theorem RT (x:Operand) (b:Bool):vcB P w0 st md ⟨d, .next x b,ty,ps,af,g⟩ f L go stop=stop:=(rfl)
theorem MG (t:TypeId) (m x y:Operand):vcB P w0 st md ⟨d, .insert t m x y,ty,ps,af,g⟩ f L go stop=stop:=(rfl)
theorem JZ_ (t:TypeId) (x:Operand):vcB P w0 st md ⟨d, .makeInterface t x,ty,ps,af,g⟩ f L go stop=stop:=(rfl)
theorem K2 (t:TypeId) (m x:Operand):vcB P w0 st md ⟨d, .mapEntry t m x,ty,ps,af,g⟩ f L go stop=stop:=(rfl)
theorem WG_ (t:TypeId) (m x y:Operand):vcB P w0 st md ⟨d, .entryStore t m x y,ty,ps,af,g⟩ f L go stop=stop:=(rfl)
theorem PI (x:Operand):vcB P w0 st md ⟨d, .entry x,ty,ps,af,g⟩ f L go stop=stop:=(rfl)
end
end Go.Sx
end
section
namespace Go.Sx
open Go
set_option linter.unusedSimpArgs false
def resV (P:Program) (w0:World) (L:aA) (f:Fr):ResultVar→Option Value
 | .tmp t=>some (eC f t)
 | .cell a t=>sk (aM P t) w0 L (eC f a)
def qo:Option Value→Option (List Value)→Option (List Value)
 |some v,some vs=>some (v::vs)
 |_,_=>none
def lc (P:Program) (w0:World) (L:aA) (f:Fr):List ResultVar→Option (List Value)
 | []=>some []
 |r::rs=>qo (resV P w0 L f r) (lc P w0 L f rs)
theorem zJ (P:Program) (w0:World) (L:aA) (f:Fr):lc P w0 L f []=some []:=(rfl)
theorem Yi (P:Program) (w0:World) (L:aA) (f:Fr) (r:ResultVar) (rs:List ResultVar):lc P w0 L f (r::rs)=qo (resV P w0 L f r) (lc P w0 L f rs):=(rfl)
theorem yU (v:Value) (vs:List Value):qo (some v) (some vs)=some (v::vs):=(rfl)
theorem At (P:Program) (w0:World) (L:aA) (f:Fr) (t:Tmp):resV P w0 L f (.tmp t)=some (eC f t):=(rfl)
theorem PT (P:Program) (w0:World) (L:aA) (f:Fr) (a:Tmp) (t:TypeId):resV P w0 L f (.cell a t)=sk (aM P t) w0 L (eC f a):=(rfl)
def bu:List Value→Value
 | [v]=>v
 |vs=> .tuple vs.toArray
section
variable {P:Program} {w0 w:World} {L:aA} {f:Fr}
def resS (f:Fr) (r:ResultVar):Sem Value:=
 match r with
 | .tmp t=>pure ((act f).tmps.getD t undef)
 | .cell a t=>do loadVar t (←asAddr ((act f).tmps.getD a undef))
theorem Rq {r:ResultVar} {v:Value} (hw:Hp w0 L w) (h:resV P w0 L f r=some v): (resS f r).run P w= .ok v w:=by
 cases r with
 |tmp t=>simp only[resV,Option.some.injEq] at h;subst h;simp only[resS,act,qR];rfl
 |cell a t=>
  simp only[resV] at h
  unfold sk at h
  split at h
  ·rename_i b off hx
   simp only[resS,act,qR,hx,asAddr,Sem.run_bind,Sem.run_pure,Result.andThen_ok,YX hw h]
  ·cases h
theorem A2: ∀ (rs:List ResultVar) (vs:List Value),Hp w0 L w→lc P w0 L f rs=some vs→(rs.mapM (resS f)).run P w= .ok vs w
 | [],vs,_,h=>by simp only[lc,Option.some.injEq] at h;subst h;rfl
 |r::rs,vs,hw,h=>by
  unfold lc qo at h
  split at h
  ·rename_i v vs' h1 h2
   simp only[Option.some.injEq] at h;subst h
   rw[List.mapM_cons,Sem.run_bind,Rq hw h1]
   simp only[Result.andThen_ok]
   rw[Sem.run_bind,A2 rs vs' hw h2]
   rfl
  ·cases h
theorem YB {fn:Func} {rs:List ResultVar} {vs:List Value} (hr:fn.results=rs.toArray) (hw:Hp w0 L w) (h:lc P w0 L f rs=some vs): (results fn (act f).tmps).run P w= .ok (bu vs) w:=by
 unfold results
 rw[hr]
 have e: (Array.mapM (m:=Sem) (resS f) rs.toArray).run P w= .ok vs.toArray w:=by
  rw[List.mapM_toArray,Sem.run_map,A2 rs vs hw h];rfl
 rw[Sem.run_bind]
 show Result.andThen ((Array.mapM (m:=Sem) (resS f) rs.toArray).run P w) (fun a w'=>(pure (if h:a.size=1 then a[0] else Value.tuple a):Sem Value).run P w')=_
 rw[e]
 cases vs with
 |nil=>rfl
 |cons v r=>cases r<;>rfl
end
def Rets (P:Program) (k:FuncId) (args:Array Value) (w:World) (S:Value→aA→Prop):Prop:=
 Calls P k args w fun e w'=> ∃v D,e= .returned v∧Hp w D w'∧S v D
theorem Rets.mono {P:Program} {k:FuncId} {args:Array Value} {w:World} {S S':Value→aA→Prop} (h:Rets P k args w S) (hs: ∀v D,S v D→S' v D):Rets P k args w S':=
 Calls.mono h fun _ _ ⟨v,D,he,hp,hS⟩=>⟨v,D,he,hp,hs _ _ hS⟩
theorem Cw.own {P:Program} {w0:World} {c:Code} {f:Fr} {L:aA} {K:cM} {b:Nat} {o:Obj} (hb:w0.heap[b]? =some o) (hn:b∉keys L) (h:Cw P w0 c f (L++ [(b,o)]) K):Cw P w0 c f L K:=
 fun w hw=>h w (hw.own hb hn)
def retK (P:Program) (w0:World) (rs:List ResultVar) (S:Value→aA→Prop):cM
 | .normal,f,L=> ∃vs,lc P w0 L f rs=some vs∧S (bu vs) L
 | .ret,f,L=> ∃vs,lc P w0 L f rs=some vs∧S (bu vs) L
 |_,_,_=>False
theorem Rets.enter {P:Program} {k:FuncId} {fn:Func} {c:Code} {rs:List ResultVar} {args:Array Value} {w:World} {S:Value→aA→Prop} {n:Nat}
  (hf:P.funcs[k]? =some fn) (hb:fn.body=some c) (hr:fn.results=rs.toArray) (hn:fn.ntmps=n)
  (h:Cw P w c (args.toList++List.replicate (n - args.size) undef) [] (retK P w rs S)):Rets P k args w S:=by
 refine calls_of_wp hf hb ?_
 have e: ({tmps:=args++Array.replicate (fn.ntmps - args.size) undef,defers:= []}:Act)=act (args.toList++List.replicate (n - args.size) undef):=by
  rw[hn];simp only[act];congr 1;apply Array.ext';simp
 rw[e]
 refine wp_mono (h w (Hp.refl w)) ?_
 rintro e a w' ⟨hd,L,hp,hk⟩
 have ha:=tC hd
 cases e with
 |normal=>
  obtain⟨vs,h1,h2⟩:=hk
  exact⟨hd,bu vs,by rw[ha];exact YB hr hp h1,bu vs,L,rfl,hp,h2⟩
 |ret=>
  obtain⟨vs,h1,h2⟩:=hk
  exact⟨hd,bu vs,by rw[ha];exact YB hr hp h1,bu vs,L,rfl,hp,h2⟩
 |exit i=>exact hk.elim
 |goto i=>exact hk.elim
 |panic c=>exact hk.elim
 |outgrown=>exact hk.elim
def New (n:Nat):aA→Prop
 | []=>True
 | (b,_)::r=>n≤b∧New n r
theorem New.le {n:Nat} {L:aA} (h:New n L): ∀b,b∈keys L→n≤b:=by
 induction L with
 |nil=>intro b hb;cases hb
 |cons p r ih=>
  obtain⟨c,o⟩:=p
  intro b hb
  rcases List.mem_cons.1 hb with hb|hb
  ·rw[hb];exact h.1
  ·exact ih h.2 b hb
theorem Hp.garbage {w w':World} {D:aA} (h:Hp w D w') (hn:New w.heap.size D):Hp w [] w':=
 h.drop (fun _ hp=>by cases hp) List.nodup_nil (fun p hp aD _=>by
  have:=hn.le p.1 (List.mem_map.2 ⟨p,hp,rfl⟩);omega)
def retV (P:Program) (w0:World) (rs:List ResultVar) (S:Value→Prop):cM
 | .normal,f,L=> ∃vs,lc P w0 L f rs=some vs∧New w0.heap.size L∧S (bu vs)
 | .ret,f,L=> ∃vs,lc P w0 L f rs=some vs∧New w0.heap.size L∧S (bu vs)
 |_,_,_=>False
theorem Rets.enterV {P:Program} {k:FuncId} {fn:Func} {c:Code} {rs:List ResultVar} {args:Array Value} {w:World} {S:Value→Prop} {n:Nat}
  (hf:P.funcs[k]? =some fn) (hb:fn.body=some c) (hr:fn.results=rs.toArray) (hn:fn.ntmps=n)
  (h:Cw P w c (args.toList++List.replicate (n - args.size) undef) [] (retV P w rs S)):Rets P k args w (fun v D=>S v∧D= []):=by
 have:=Rets.enter (S:=fun v D=>New w.heap.size D∧S v) hf hb hr hn (h.mono (by
  intro e f L hk
  cases e<;>first
   |exact hk
   |exact hk.elim))
 refine Calls.mono this ?_
 rintro e w' ⟨v,D,he,hp,hn,hS⟩
 exact⟨v,[],he,hp.garbage hn,hS,rfl⟩
def retM (P:Program) (w0:World) (rs:List ResultVar) (b:Nat) (S:Value→Obj→Prop):cM
 | .normal,f,L=> ∃vs o N,lc P w0 L f rs=some vs∧L=(b,o)::N∧New w0.heap.size N∧S (bu vs) o
 | .ret,f,L=> ∃vs o N,lc P w0 L f rs=some vs∧L=(b,o)::N∧New w0.heap.size N∧S (bu vs) o
 |_,_,_=>False
theorem Rets.enterM {P:Program} {k:FuncId} {fn:Func} {c:Code} {rs:List ResultVar} {args:Array Value} {w:World} {S:Value→Obj→Prop} {n b:Nat} {o:Obj}
  (hf:P.funcs[k]? =some fn) (hb:fn.body=some c) (hr:fn.results=rs.toArray) (hn:fn.ntmps=n) (ho:w.heap[b]? =some o)
  (h:Cw P w c (args.toList++List.replicate (n - args.size) undef) [(b,o)] (retM P w rs b S)):Rets P k args w (fun v D=> ∃o,D= [(b,o)]∧S v o):=by
 have:=Rets.enter (S:=fun v D=> ∃o N,D=(b,o)::N∧New w.heap.size N∧S v o) hf hb hr hn
  (Cw.own ho (by simp[keys]) (h.mono (by
   intro e f L hk
   cases e with
   |normal=>obtain⟨vs,o,N,h1,h2,h3,h4⟩:=hk;exact⟨vs,h1,o,N,h2,h3,h4⟩
   |ret=>obtain⟨vs,o,N,h1,h2,h3,h4⟩:=hk;exact⟨vs,h1,o,N,h2,h3,h4⟩
   |_=>exact hk.elim)))
 refine Calls.mono this ?_
 rintro e w' ⟨v,D,he,hp,o',N,rfl,hN,hS⟩
 have jO:=(Array.getElem?_eq_some_iff.1 ho).1
 refine⟨v,[(b,o')],he,hp.drop (fun p hp=> ?_) (by simp[keys]) (fun p hp aD hnk=> ?_),o',rfl,hS⟩
 ·simp only[List.mem_singleton] at hp;subst hp;exact List.mem_cons_self
 ·rcases List.mem_cons.1 hp with h|h
  ·exfalso;apply hnk;rw[h];simp[keys]
  ·have:=hN.le p.1 (List.mem_map.2 ⟨p,h,rfl⟩);omega
def eS:aA→Nat→Prop
 | [],_=>True
 | (b,_)::r,n=>b<n∧eS r n
theorem gh {L:aA} {n:Nat} (h: ∀b,b∈keys L→b<n):eS L n:=by
 induction L with
 |nil=>trivial
 |cons p r ih=>
  obtain⟨b,o⟩:=p
  exact⟨h b List.mem_cons_self,ih fun c hc=>h c (List.mem_cons_of_mem _ hc)⟩
def Mrg (w0:World) (L:aA) (B:Nat) (D L':aA):Prop:= ∀w w',w.heap.size=B→Hp w0 L w→Hp w D w'→Hp w0 L' w'
theorem Mrg.nil {w0:World} {L:aA} {B:Nat}:Mrg w0 L B [] L:=fun _ _ _ h k=>h.trans_nil k
theorem Hp.same {w0 w:World} {L M:aA} (h:Hp w0 L w) (hs: ∀p,p∈M↔p∈L) (hn: (keys M).Nodup):Hp w0 M w:=by
 have hk: ∀b,b∈keys M↔b∈keys L:=fun b=>by
  constructor<;>intro hb<;>obtain⟨p,hp,rfl⟩:=List.mem_map.1 hb
  ·exact List.mem_map.2 ⟨p,(hs p).1 hp,rfl⟩
  ·exact List.mem_map.2 ⟨p,(hs p).2 hp,rfl⟩
 exact⟨fun b o hm=>h.has b o ((hs _).1 hm),hn,fun b hb hm=>h.old b hb (fun iA=>hm ((hk b).2 iA)),h.size,h.tape,h.os,h.output⟩
theorem xV {L D:aA} (h: ∀b,b∈keys L→b∉keys D):L.filter (fun p=> !(keys D).contains p.1)=L:=by
 apply List.filter_eq_self.2
 intro p hp
 have:=h p.1 (List.mem_map.2 ⟨p,hp,rfl⟩)
 simpa using this
theorem Mrg.fresh {w0:World} {L D:aA} {B:Nat} (hD: ∀b,b∈keys D→B≤b):Mrg w0 L B D (L++D):=by
 intro w w' hB h k
 have:=h.trans k
 rwa [xV (fun b hb hm=>by have:=h.lt hb;have:=hD b hm;omega)] at this
theorem Mrg.set {w0:World} {L:aA} {B b:Nat} {o:Obj} (hb:b∈keys L):Mrg w0 L B [(b,o)] (setB L b o):=by
 intro w w' hB h k
 have ht:=h.trans k
 refine ht.same (fun p=> ?_) (by rw[pg];exact h.nodup)
 obtain⟨c,x⟩:=p
 simp only[List.mem_append,List.mem_filter,keys,List.map_cons,List.map_nil,List.contains_eq_mem,List.mem_singleton,Prod.mk.injEq,Bool.not_eq_true',decide_eq_false_iff_not]
 constructor
 ·intro hm
  rcases AP h.nodup hm with⟨h1,h2⟩ | ⟨h1,h2⟩
  ·exact .inr ⟨h1,h2⟩
  ·exact .inl ⟨h2,h1⟩
 ·rintro(⟨h1,h2⟩ | ⟨rfl,rfl⟩)
  ·have: ∀ (L:aA),(c,x)∈L→c≠b→(c,x)∈setB L b o:=by
    intro L
    induction L with
    |nil=>intro hm _;cases hm
    |cons q r ih=>
     obtain⟨e,y⟩:=q
     intro hm aO
     unfold setB
     split
     ·rename_i he
      rcases List.mem_cons.1 hm with hm|hm
      ·simp only[Prod.mk.injEq] at hm;exact absurd (hm.1.trans he) aO
      ·exact List.mem_cons_of_mem _ hm
     ·rcases List.mem_cons.1 hm with hm|hm
      ·rw[hm];exact List.mem_cons_self
      ·exact List.mem_cons_of_mem _ (ih hm aO)
   exact this L h1 h2
  ·have: ∀ (L:aA),c∈keys L→(c,x)∈setB L c x:=by
    intro L
    induction L with
    |nil=>intro hm;cases hm
    |cons q r ih=>
     obtain⟨e,y⟩:=q
     intro hm
     unfold setB
     split
     ·rename_i he;subst he;exact List.mem_cons_self
     ·rename_i he
      rcases List.mem_cons.1 hm with hm|hm
      ·exact absurd hm.symm he
      ·exact List.mem_cons_of_mem _ (ih hm)
   exact this L hb
section
variable {P:Program} {w0:World} {f:Fr} {L:aA} {N:Fr→aA→Prop} {ops:Array Oper} {rest:List Oper} {md:Md}
 {d:Option Tmp} {ty:TypeId} {ps:String} {af:Array Edge} {g:Option (Nat×Bool)}
theorem Ar {x:Operand} {args:Array Operand} {ts:Array TypeId} {k:FuncId} {fst cap:Array Value} (hx:ev f x= .func (.func k) fst cap)
  (hk: ∀a w,(callFunc k a).run P w= .ok (.enter k a) w) (w:World):
  (execOp (ev f) ⟨d, .call ⟨.value x,args,ts⟩,ty,ps,af,g⟩).run P w= .ok (.enter k (fst++args.map (ev f)++cap)) w:=by
 simp only[execOp,resolve,hx,Deferred.ofValue,Sem.run_bind,Sem.run_pure,Result.andThen_ok,invoke,hk]
theorem Ow.call {x:Operand} {args:Array Operand} {ts:Array TypeId} {k:FuncId} {fst cap:Array Value} {S:Nat→Value→aA→Prop} {md':Md} (he:md.turn=some md')
  (hs:bA ops f ⟨d, .call ⟨.value x,args,ts⟩,ty,ps,af,g⟩=false) (hx:ev f x= .func (.func k) fst cap)
  (hk: ∀a w,(callFunc k a).run P w= .ok (.enter k a) w) (hc: ∀w,Hp w0 L w→Rets P k (fst++args.map (ev f)++cap) w (S w.heap.size))
  (hn: ∀B v D,eS L B→w0.heap.size≤B→S B v D→ ∃L',Mrg w0 L B D L'∧Ow P w0 ops md' rest (aS f d v) L' N):
  Ow P w0 ops md (⟨d, .call ⟨.value x,args,ts⟩,ty,ps,af,g⟩::rest) f L N:=by
 refine Ow.step he rfl hs fun w hw=> .inr (.inr ⟨k,_,w,Ar hx hk w, ?_⟩)
 refine Calls.mono (hc w hw) ?_
 rintro e w' ⟨v,D,rfl,hp,hS⟩
 obtain⟨L',hm,hO⟩:=hn w.heap.size v D (gh fun b hb=>hw.lt hb) hw.size hS
 exact⟨v,L',rfl,hm w w' rfl hw hp,hO⟩
theorem Ow.callV {x:Operand} {args:Array Operand} {ts:Array TypeId} {k:FuncId} {fst cap:Array Value} {v:Value}
  (hs:bA ops f ⟨d, .call ⟨.value x,args,ts⟩,ty,ps,af,g⟩=false) (hx:ev f x= .func (.func k) fst cap)
  (hk: ∀a w,(callFunc k a).run P w= .ok (.enter k a) w) (hc: ∀w,Hp w0 L w→Rets P k (fst++args.map (ev f)++cap) w (fun v' D=>v'=v∧D= []))
  (hn:Ow P w0 ops md.next rest (aS f d v) L N):
  Ow P w0 ops md (⟨d, .call ⟨.value x,args,ts⟩,ty,ps,af,g⟩::rest) f L N:=by
 refine Ow.calm rfl rfl hs (fun w hw=> .inr (.inr ⟨k,_,w,Ar hx hk w, ?_⟩)) hn
 refine Calls.mono (hc w hw) ?_
 rintro e w' ⟨v',D,rfl,hp,rfl,rfl⟩
 exact⟨_,_,rfl,hw.trans_nil hp,rfl,rfl⟩
theorem Ow.callF {l:List Operand} {ts:Array TypeId} {k:FuncId} {S:Nat→Value→aA→Prop} {md':Md} (he:md.turn=some md')
  (hs:bA ops f ⟨d, .call ⟨.value (.func k),l.toArray,ts⟩,ty,ps,af,g⟩=false)
  (hk: ∀a w,(callFunc k a).run P w= .ok (.enter k a) w) (hc: ∀w,Hp w0 L w→Rets P k (l.map (ev f)).toArray w (S w.heap.size))
  (hn: ∀B v D,eS L B→w0.heap.size≤B→S B v D→ ∃L',Mrg w0 L B D L'∧Ow P w0 ops md' rest (aS f d v) L' N):
  Ow P w0 ops md (⟨d, .call ⟨.value (.func k),l.toArray,ts⟩,ty,ps,af,g⟩::rest) f L N:=
 Ow.call he hs rfl hk (fun w hw=>by simpa using hc w hw) hn
theorem Ow.callFV {l:List Operand} {ts:Array TypeId} {k:FuncId} {v:Value}
  (hs:bA ops f ⟨d, .call ⟨.value (.func k),l.toArray,ts⟩,ty,ps,af,g⟩=false)
  (hk: ∀a w,(callFunc k a).run P w= .ok (.enter k a) w) (hc: ∀w,Hp w0 L w→Rets P k (l.map (ev f)).toArray w (fun v' D=>v'=v∧D= []))
  (hn:Ow P w0 ops md.next rest (aS f d v) L N):
  Ow P w0 ops md (⟨d, .call ⟨.value (.func k),l.toArray,ts⟩,ty,ps,af,g⟩::rest) f L N:=
 Ow.callV hs rfl hk (fun w hw=>by simpa using hc w hw) hn
def am (P:Program) (t:TypeId):Option Value:=(P.info? t).bind (·.zero)
theorem sr {t:TypeId} {z:Value} (h:am P t=some z) (w:World): (zeroValue t).run P w= .ok z w:=by
 unfold am at h
 cases hi:P.info? t with
 |none=>rw[hi] at h;cases h
 |some i=>
  rw[hi] at h
  simp only[Option.bind_some] at h
  simp only[zeroValue,Sem.run_bind,typeInfo,run_program,Result.andThen_ok,hi,Sem.run_pure,h]
theorem Ow.alloc {t:TypeId} {z:Value} {md':Md} (he:md.turn=some md') (hs:bA ops f ⟨d, .alloc t,ty,ps,af,g⟩=false) (hz:am P t=some z)
  (hn: ∀b,eS L b→w0.heap.size≤b→Ow P w0 ops md' rest (aS f d (vp b 0)) (L++ [(b, .cells z.cells t)]) N):
  Ow P w0 ops md (⟨d, .alloc t,ty,ps,af,g⟩::rest) f L N:=by
 refine Ow.step he rfl hs fun w hw=> .inl ⟨vp w.heap.size 0,w.alloc (.cells z.cells t),_, ?_,hw.alloc _,hn _ (gh fun b hb=>hw.lt hb) hw.size⟩
 simp only[execOp,Instr.alloc,Sem.run_bind,sr hz w,Result.andThen_ok]
 rfl
theorem Ow.box {t:TypeId} {x:Operand} {md':Md} (he:md.turn=some md') (hs:bA ops f ⟨d, .box t x,ty,ps,af,g⟩=false)
  (hn: ∀b,eS L b→w0.heap.size≤b→Ow P w0 ops md' rest (aS f d (vp b 0)) (L++ [(b, .cells (ev f x).cells t)]) N):
  Ow P w0 ops md (⟨d, .box t x,ty,ps,af,g⟩::rest) f L N:=by
 refine Ow.step he rfl hs fun w hw=> .inl ⟨vp w.heap.size 0,w.alloc (.cells (ev f x).cells t),_, ?_,hw.alloc _,hn _ (gh fun b hb=>hw.lt hb) hw.size⟩
 simp only[execOp,Instr.box,Sem.run_bind,Result.andThen_ok]
 rfl
def cg (P:Program) (t:TypeId):Option (List (Nat×Nat)):=
 match P.underlying t with
 |some (.struct fs)=>fs.toList.mapM fun f=>(aM P f.type).map fun m=>(f.offset,m.2)
 |some (.array n e)=>(aM P e).map fun m=>(List.range n).map fun i=>(i*m.2,m.2)
 |_=>none
def kw (pl:List (Nat×Nat)):Array Value→List (Nat×Value)→Option (Array Value)
 |cs,[]=>some cs
 |cs,(i,v)::r=>match pl[i]? with
  |some (off,n)=>if v.cells.size=n∧off+n≤cs.size then kw pl (fJ cs off v.cells.toList) r else none
  |none=>none
def fW (pl:Option (List (Nat×Nat))) (z:Option Value) (parts:List (Nat×Value)):Option Value:=
 match pl,z with
 |some pl,some (.agg cs)=>(kw pl cs parts).map .agg
 |_,_=>none
theorem Gg: ∀ (vs:List Value) (off j:Nat) (cs:Array Value),(vs.zipIdx j).foldl (fun cs (p:Value×Nat)=>cs.setIfInBounds (off+p.2) p.1) cs=fJ cs (off+j) vs
 | [],_,_,_=>rfl
 |v::r,off,j,cs=>by
  simp only[List.zipIdx_cons,List.foldl_cons,fJ]
  rw[Gg r off (j+1)]
  rfl
theorem uP {place:Nat→Option (Nat×Nat)} {pl:List (Nat×Nat)} (hp: ∀i p,pl[i]? =some p→place i=some p): ∀ (parts:List (Nat×Value)) (cs cs':Array Value),kw pl cs parts=some cs'→Instr.fill place cs parts=some cs'
 | [],_,_,h=>h
 | (i,v)::r,cs,cs',h=>by
  unfold kw at h
  split at h
  ·rename_i off n hi
   split at h
   ·rename_i hc
    unfold Instr.fill
    rw[hp i _ hi]
    simp only
    have h1: (decide (v.cells.size≠n) ||decide (off+v.cells.size>cs.size))=false:=by
     simp only[Bool.or_eq_false_iff,decide_eq_false_iff_not];omega
    have wu: ¬ ((decide (v.cells.size≠n) ||decide (off+v.cells.size>cs.size))=true):=by rw[h1];simp
    rw[if_neg wu]
    have e: (v.cells.zipIdx.foldl (fun cs (x:Value×Nat)=>match x with| (c,j)=>cs.setIfInBounds (off+j) c) cs)=fJ cs off v.cells.toList:=by
     have:=Gg v.cells.toList off 0 cs
     rw[←Array.foldl_toList,Array.toList_zipIdx]
     simpa using this
    rw[e]
    exact uP hp r _ _ h
   ·cases h
  ·cases h
theorem Lm {fs:List Field} {pl:List (Nat×Nat)} (h:fs.mapM (fun f=>(aM P f.type).map fun m=>(f.offset,m.2))=some pl) (w:World):
  (fs.mapM (fun f=>do pure (f.offset,←sizeOf f.type):Field→Sem (Nat×Nat))).run P w= .ok pl w:=by
 induction fs generalizing pl with
 |nil=>cases h;rfl
 |cons f r ih=>
  simp only[List.mapM_cons,Option.bind_eq_bind,Option.bind_eq_some_iff,Option.map_eq_some_iff] at h
  obtain⟨p,⟨m,hm,rfl⟩,ps,XV,h⟩:=h
  cases h
  rw[List.mapM_cons,Sem.run_bind]
  simp only[Sem.run_bind,gO hm,Result.andThen_ok,Sem.run_pure,ih XV]
theorem M9 {t:TypeId} {parts:Array (Nat×Value)} {v:Value} (h:fW (cg P t) (am P t) parts.toList=some v) (w:World): (Instr.build t parts).run P w= .ok v w:=by
 unfold fW at h
 split at h
 ·rename_i pl cs gG hz
  cases hf:kw pl cs parts.toList with
  |none=>rw[hf] at h;cases h
  |some cs'=>
   rw[hf] at h
   cases h
   unfold cg at gG
   split at gG
   ·rename_i fs hu
    have XT:fs.toList.mapM (fun f=>(aM P f.type).map fun m=>(f.offset,m.2))=some pl:=gG
    have hm:=Lm XT w
    have iA: (fs.mapM (fun f=>do pure (f.offset,←sizeOf f.type):Field→Sem (Nat×Nat))).run P w= .ok pl.toArray w:=by
     rw[←Array.toArray_toList (xs:=fs),List.mapM_toArray,Sem.run_map,hm];rfl
    have oE:=uP (place:=(pl.toArray[·]?)) (fun i p hi=>by simpa using hi) _ _ _ hf
    simp only[Instr.build,Sem.run_bind,sr hz w,Result.andThen_ok,run_underlying hu w,Value.cells]
    rw[iA]
    simp only[Result.andThen_ok,oE,Sem.run_pure]
   ·rename_i n e hu
    cases hm:aM P e with
    |none=>rw[hm] at gG;cases gG
    |some m=>
     rw[hm] at gG
     simp only[Option.map_some,Option.some.injEq] at gG
     have oE:=uP (place:=fun i=>some (i*m.2,m.2)) (fun i p hi=>by
      rw[←gG] at hi
      simp only[List.getElem?_map,Option.map_eq_some_iff] at hi
      obtain⟨j,hj,rfl⟩:=hi
      have:j=i:=by
       have:=List.getElem?_eq_some_iff.1 hj
       obtain⟨h1,h2⟩:=this
       simpa using h2.symm
      rw[this]) _ _ _ hf
     simp only[Instr.build,Sem.run_bind,sr hz w,Result.andThen_ok,run_underlying hu w,Value.cells,gO hm w]
     simp only[oE,Sem.run_pure]
   ·cases gG
 ·cases h
theorem Ow.build {t:TypeId} {parts:Array (Nat×Operand)} (v:Value) (hs:bA ops f ⟨d, .build t parts,ty,ps,af,g⟩=false)
  (hv:fW (cg P t) (am P t) (parts.toList.map fun p=>(p.1,ev f p.2))=some v)
  (hn:Ow P w0 ops md.next rest (aS f d v) L N):Ow P w0 ops md (⟨d, .build t parts,ty,ps,af,g⟩::rest) f L N:=by
 refine Ow.pureV rfl hs (fun w=> ?_) hn
 have h':fW (cg P t) (am P t) (parts.map fun(i,x)=>(i,ev f x)).toList=some v:=by
  rw[Array.toList_map];exact hv
 simp only[execOp,Sem.run_bind,M9 h' w,Result.andThen_ok]
 rfl
theorem Ow.val {o:Oper} {v:Value} {md':Md} (he:md.turn=some md') (hp:fY P o.op=false) (hs:bA ops f o=false) (hv: ∀w,Hp w0 L w→(execOp (ev f) o).run P w= .ok (.value v) w)
  (hn:Ow P w0 ops md' rest (aS f o.dst v) L N):Ow P w0 ops md (o::rest) f L N:=
 Ow.step he hp hs fun w hw=> .inl ⟨v,w,L,hv w hw,hw,hn⟩
end
def a8 (l:List UInt8):Array Value:=(l.map fun x=>Value.int .u8 (x.toNat:Int)).toArray
def a32 (l:List UInt32):Array Value:=(l.map fun x=>Value.int .u32 (x.toNat:Int)).toArray
end Go.Sx
end
section
namespace Go.Sx
open Go
set_option linter.unusedSimpArgs false
section
variable {P:Program} {w0:World} {f:Fr} {L:aA} {K:cM} {N:Fr→aA→Prop}
theorem GL (h:N f L):k4 N K .normal f L:=h
end
def CwC (P:Program) (w0:World) (v:Value) (x y:Code) (f:Fr) (L:aA) (K:cM):Prop:= ∃b,v= .bool b∧(b=true→Cw P w0 x f L K)∧(b=false→Cw P w0 y f L K)
section
variable {P:Program} {w0:World} {f:Fr} {L:aA} {K:cM} {v:Value} {x y:Code}
theorem CwC.split {b:Bool} (hv:v= .bool b) (ht:b=true→Cw P w0 x f L K) (he:b=false→Cw P w0 y f L K):CwC P w0 v x y f L K:=⟨b,hv,ht,he⟩
theorem CwC.splitp {p:Prop} [Decidable p] (hv:v= .bool (decide p)) (ht:p→Cw P w0 x f L K) (he: ¬p→Cw P w0 y f L K):CwC P w0 v x y f L K:=
 ⟨_,hv,(fun h=>ht (of_decide_eq_true h)),(fun h=>he (of_decide_eq_false h))⟩
theorem CwC.tt (hv:v= .bool true) (ht:Cw P w0 x f L K):CwC P w0 v x y f L K:=⟨_,hv,(fun _=>ht),(fun h=>by cases h)⟩
theorem CwC.ff (hv:v= .bool false) (he:Cw P w0 y f L K):CwC P w0 v x y f L K:=⟨_,hv,(fun h=>by cases h),(fun _=>he)⟩
theorem CwC.bt {b:Bool} (hv:v= .bool b) (hb:b=true) (ht:Cw P w0 x f L K):CwC P w0 v x y f L K:=CwC.tt (by rw[hv,hb]) ht
theorem CwC.bf {b:Bool} (hv:v= .bool b) (hb:b=false) (he:Cw P w0 y f L K):CwC P w0 v x y f L K:=CwC.ff (by rw[hv,hb]) he
theorem CwC.pt {p:Prop} [Decidable p] (hv:v= .bool (decide p)) (hp:p) (ht:Cw P w0 x f L K):CwC P w0 v x y f L K:=CwC.bt hv (decide_eq_true hp) ht
theorem CwC.it {a b:Int} (hv:v= .bool (a==b)) (hp:a=b) (ht:Cw P w0 x f L K):CwC P w0 v x y f L K:=CwC.bt hv (beq_iff_eq.2 hp) ht
theorem CwC.if {a b:Int} (hv:v= .bool (a==b)) (hp: ¬a=b) (he:Cw P w0 y f L K):CwC P w0 v x y f L K:=CwC.bf hv (beq_eq_false_iff_ne.2 hp) he
theorem CwC.nf {a b:Int} (hv:v= .bool (a !=b)) (hp:a=b) (he:Cw P w0 y f L K):CwC P w0 v x y f L K:=CwC.bf hv (by rw[hp];simp) he
end
theorem d9 (f:Fr) (t:Tmp):ev f (.tmp t)=eC f t:=(rfl)
theorem Rh (f:Fr) (v:Value):ev f (.const v)=v:=(rfl)
theorem Od (f:Fr) (g:Nat):ev f (.global g)=vp g 0:=(rfl)
theorem Bh (f:Fr) (k:FuncId):ev f (.func k)= .func (.func k) #[] #[]:=(rfl)
theorem cu (v:Value) (r:Fr):eC (v::r) 0=v:=(rfl)
theorem d8 (v:Value) (r:Fr) (n:Nat):eC (v::r) (n+1)=eC r n:=(rfl)
theorem ry (v x:Value) (r:Fr):setF (v::r) 0 x=x::r:=(rfl)
theorem s8 (v x:Value) (r:Fr) (n:Nat):setF (v::r) (n+1) x=v::setF r n x:=(rfl)
theorem EY (f:Fr) (d:Tmp) (v:Value):aS f (some d) v=setF f d v:=(rfl)
theorem PJ (f:Fr) (v:Value):aS f none v=f:=(rfl)
theorem To (l:List UInt8):Value.string (ByteArray.mk (List.toArray l))=vs l:=(rfl)
theorem TD (P:Program) (op:BinOp) (t:TypeId) (a b:List UInt8):aT P op t (vs a) (vs b)=aC op (vs a) (vs b):=(rfl)
theorem sm (l:List UInt8): (ByteArray.mk l.toArray).size=l.length:=by simp[ByteArray.size]
theorem xg (l:List UInt8): (ByteArray.mk l.toArray).toList=l:=by rw[ByteArray.toList_eq]
theorem Pp (a b:List UInt8) (h:a.length+b.length≤9223372036854775807):aC .add (vs a) (vs b)=some (vs (a++b)):=by
 simp only[aC,vs,strV,sm,h, ↓reduceIte]
 congr 2
theorem P7 (a b:List UInt8):aC .eql (vs a) (vs b)=some (.bool (a==b)):=by simp only[aC,vs,strV,xg]
theorem P4 (a b:List UInt8):aC .neq (vs a) (vs b)=some (.bool (a !=b)):=by simp only[aC,vs,strV,xg];rfl
theorem Oj (a b:List UInt8):aC .lss (vs a) (vs b)=some (.bool (Op.bytesLess a b)):=by simp only[aC,vs,strV,xg]
theorem Qq (a b:List UInt8):aC .leq (vs a) (vs b)=some (.bool (Op.bytesLess a b||a==b)):=by simp only[aC,vs,strV,xg]
theorem Pv (a b:List UInt8):aC .gtr (vs a) (vs b)=some (.bool (!(Op.bytesLess a b||a==b))):=by simp only[aC,vs,strV,xg]
theorem PD (a b:List UInt8):aC .geq (vs a) (vs b)=some (.bool (!Op.bytesLess a b)):=by simp only[aC,vs,strV,xg]
theorem Pj (l:List UInt8) (k:Int) (h:0≤k∧k<l.length):p7 .str (vs l) (some k)=some (v8 (l.getD k.toNat 0)):=by
 have aD:k.toNat<l.length:=by omega
 simp only[p7,vs,h.1, ↓reduceIte]
 have: (ByteArray.mk l.toArray)[k.toNat]? =some l[k.toNat]:=by
  have hs:k.toNat< (ByteArray.mk l.toArray).size:=by rw[sm];exact aD
  rw[ByteArray.getElem?_lt' _ _ hs];rfl
 rw[this]
 simp[v8,List.getD_eq_getElem?_getD,aD]
theorem Tl (l:List UInt8):gP .str (vs l)=some (vi l.length):=by simp only[gP,vs,sm];rfl
theorem Hd (l:List UInt8) (lo hi:Option (Option Int)) (a b:Nat) (h:bndV l.length l.length lo hi=some (a,b)):gZ .str (vs l) lo hi=some (vs ((l.take b).drop a)):=by
 simp only[gZ,vs,sm,h]
 rw[ByteArray.extract_mk]
 congr 3
 rw[List.drop_take]
theorem Re (n c:Nat):bndV n c none none=some (0,n):=(rfl)
theorem CC (n c:Nat) (l:Int) (h:0≤l∧l≤n):bndV n c (some (some l)) none=some (l.toNat,n):=by simp only[bndV,h,and_self, ↓reduceIte]
theorem C2 (n c:Nat) (l:Int) (h:0≤l∧l≤c):bndV n c none (some (some l))=some (0,l.toNat):=by simp only[bndV,h,and_self, ↓reduceIte]
theorem AU (n c:Nat) (l k:Int) (h:0≤l∧l≤k∧k≤c):bndV n c (some (some l)) (some (some k))=some (l.toNat,k.toNat):=by simp only[bndV,h,and_self, ↓reduceIte]
theorem Ji (l:List UInt8) (k:Int) (h:0≤k∧k≤l.length):gZ .str (vs l) (some (some k)) none=some (vs (l.drop k.toNat)):=by
 rw[Hd l _ _ _ _ (CC _ _ k h),List.take_length]
theorem It (l:List UInt8) (k:Int) (h:0≤k∧k≤l.length):gZ .str (vs l) none (some (some k))=some (vs (l.take k.toNat)):=by
 rw[Hd l _ _ _ _ (C2 _ _ k h),List.drop_zero]
theorem ZN (l:List UInt8) (j k:Int) (h:0≤j∧j≤k∧k≤l.length):gZ .str (vs l) (some (some j)) (some (some k))=some (vs ((l.take k.toNat).drop j.toNat)):=by
 rw[Hd l _ _ _ _ (AU _ _ j k h)]
theorem SQ (w0:World) (L:aA) (k:IntKind) (v:Value):pE w0 L (.int k) v=bV k v:=(rfl)
theorem QG (w0:World) (L:aA) (l:List UInt8):pE w0 L .str (vs l)=some (vs l):=(rfl)
theorem IW (w0:World) (L:aA) (b off n c:Nat):pE w0 L .bytesStr (vsl b off n c)=ga (aP w0 L b) off n:=(rfl)
theorem Mp (l:List UInt8):sj (l.map fun x=>Value.int .u8 (x.toNat:Int))=some l:=by
 induction l with
 |nil=>rfl
 |cons x r ih=>
  simp only[List.map_cons,sj,ih,Int.toNat_natCast]
  simp
theorem TP (l:List UInt8) (E:TypeId) (fz:Nat×Nat) (off n:Nat) (h:off+n≤l.length):ga (some (.cells (a8 l) E fz)) off n=some (vs ((l.drop off).take n)):=by
 have hs:off+n≤ (a8 l).size:=by simpa [a8] using h
 simp only[ga,hs, ↓reduceIte]
 have e: ((a8 l).extract off (off+n)).toList=((l.drop off).take n).map fun x=>Value.int .u8 (x.toNat:Int):=by
  simp[a8,List.map_drop,List.map_take,List.take_drop,List.extract_eq_take_drop]
 rw[e,Mp];rfl
theorem LR (off n b o:Nat) (a:Bool) (h:0<n):xQ (some (off,(a,n))) (vp b o)=some (vp b (o+off)):=by
 have: ¬n=0:=by omega
 simp only[xQ,vp,this, ↓reduceIte,ml]
theorem YR (n:Nat) (m:Bool×Nat) (b o:Nat) (k:Int) (h:0≤k∧k<n):lZ (.arr n m) (vp b o) (some k)=some (vp b (o+k.toNat*m.2)):=by
 simp only[lZ,vp,h,and_self, ↓reduceIte,ml]
theorem Ef (m:Bool×Nat) (b o n c:Nat) (k:Int) (h:0≤k∧k<n):lZ (.sl m) (vsl b o n c) (some k)=some (vp b (o+k.toNat*m.2)):=by
 simp only[lZ,vp,vsl,h,and_self, ↓reduceIte,ml]
theorem VD (b o:Nat):nilV (vp b o)=some (vp b o):=(rfl)
theorem Sn (n:Nat) (m:Bool×Nat) (v:Value):gP (.arr n m) v=some (vi n):=(rfl)
theorem Uf (m:Bool×Nat) (b o n c:Nat):gP (.sl m) (vsl b o n c)=some (vi n):=(rfl)
theorem Uh (m:Bool×Nat) (b o n c:Nat):capV (.sl m) (vsl b o n c)=some (vi c):=(rfl)
theorem I8 (n:Nat) (m:Bool×Nat) (b o:Nat) (h:0<n):gZ (.arr n m) (vp b o) none none=some (vsl b o n n):=by
 have: ¬n=0:=by omega
 simp only[gZ,vp,Re,this, ↓reduceIte,vsl,ml,Nat.zero_mul,Nat.add_zero,Nat.sub_zero]
theorem WE_ (n:Nat) (m:Bool×Nat) (b o:Nat) (j k:Int) (h:0≤j∧j≤k∧k≤n∧j<n):gZ (.arr n m) (vp b o) (some (some j)) (some (some k))=some (vsl b (o+j.toNat*m.2) (k.toNat - j.toNat) (n - j.toNat)):=by
 have: ¬n=j.toNat:=by omega
 simp only[gZ,vp,AU n n j k ⟨h.1,h.2.1,h.2.2.1⟩,this, ↓reduceIte,vsl,ml]
theorem ii (L:aA) (b:Nat) (o:Obj):look ((b,o)::L) b=some o:=by simp[look]
theorem p4 (L:aA) (b c:Nat) (o:Obj) (h:b≠c):look ((b,o)::L) c=look L c:=by simp[look,h]
theorem rn (L:aA) (b:Nat) (o x:Obj):setB ((b,o)::L) b x=(b,x)::L:=by simp[setB]
theorem wU (L:aA) (b c:Nat) (o x:Obj) (h:b≠c):setB ((b,o)::L) c x=(b,o)::setB L c x:=by simp[setB,h]
theorem pq (w0:World) (L:aA) (b:Nat) (o:Obj):aP w0 ((b,o)::L) b=some o:=by simp[aP,look]
theorem H1 (w0:World) (L:aA) (b c:Nat) (o:Obj) (h:b≠c):aP w0 ((b,o)::L) c=aP w0 L c:=by simp[aP,look,h]
theorem QJ (w0:World) (b:Nat):aP w0 [] b=w0.heap[b]? :=(rfl)
theorem R9 (m:Option (Bool×Nat)) (w0:World) (L:aA) (b o:Nat):sk m w0 L (vp b o)=aI m (aP w0 L b) o:=(rfl)
theorem rV (cs:Array Value) (E:TypeId) (fz:Nat×Nat) (n:Nat) (h:cs.size=n):aI (some (true,n)) (some (.cells cs E fz)) 0=some (.agg cs):=by
 subst h
 simp[aI]
theorem rj (l:List UInt8): (a8 l).size=l.length:=by simp[a8]
theorem y4 (l:List UInt32): (a32 l).size=l.length:=by simp[a32]
theorem BK (l:List UInt8) (E:TypeId) (fz:Nat×Nat) (n i:Nat) (h:i<l.length):aI (some (false,n)) (some (.cells (a8 l) E fz)) i=some (v8 (l.getD i 0)):=by
 simp[aI,a8,v8,h]
theorem QI (l:List UInt32) (E:TypeId) (fz:Nat×Nat) (n i:Nat) (h:i<l.length):aI (some (false,n)) (some (.cells (a32 l) E fz)) i=some (v32 (l.getD i 0)):=by
 simp[aI,a32,v32,h]
theorem Hh (l:List UInt8) (E:TypeId) (fz:Nat×Nat) (n:Nat) (h:l.length=n):aI (some (true,n)) (some (.cells (a8 l) E fz)) 0=some (.agg (a8 l)):=rV _ E fz n (by rw[rj,h])
theorem N6 (l:List UInt32) (E:TypeId) (fz:Nat×Nat) (n:Nat) (h:l.length=n):aI (some (true,n)) (some (.cells (a32 l) E fz)) 0=some (.agg (a32 l)):=rV _ E fz n (by rw[y4,h])
theorem aV (cs:Array Value): (Value.agg cs).cells=cs:=(rfl)
theorem Us (l:List UInt8): (a8 l).toList.all Value.oneCell'=true:=by simp[a8,Value.oneCell']
theorem BT (l:List UInt32): (a32 l).toList.all Value.oneCell'=true:=by simp[a32,Value.oneCell']
theorem uB (vs:List Value): ∀ (pre mid suf:List Value),mid.length=vs.length→fJ (pre++mid++suf).toArray pre.length vs=(pre++vs++suf).toArray:=by
 induction vs with
 |nil=>
  intro pre mid suf h
  cases mid with
  |nil=>rfl
  |cons _ _=>cases h
 |cons v r ih=>
  intro pre mid suf h
  cases mid with
  |nil=>cases h
  |cons m ms=>
   simp only[List.length_cons,Nat.add_right_cancel_iff] at h
   have:=ih (pre++ [v]) ms suf h
   simp only[fJ]
   have e: ((pre++m::ms++suf).toArray.setIfInBounds pre.length v)=(pre++ [v]++ms++suf).toArray:=by
    simp
   rw[e]
   simpa using this
theorem AF (cs:Array Value) (vs:List Value) (h:vs.length=cs.size):fJ cs 0 vs=vs.toArray:=by
 have:=uB vs [] cs.toList [] (by simpa using h.symm)
 simpa using this
theorem F0 (n:Nat) (a:Bool) (cs old:Array Value) (E:TypeId) (h:cs.size=n∧old.size=n) (ho:cs.toList.all Value.oneCell'=true):
  ab (some (a,n)) (some (.cells old E (0,0))) 0 (.agg cs)=some (.cells cs E (0,0)):=by
 obtain⟨h1,h2⟩:=h
 have hp:fJ old 0 cs.toList=cs:=by
  rw[AF _ _ (by rw[Array.length_toList,h1,h2])]
 have hz: (0:Nat)+n≤old.size:=by omega
 simp only[ab,aV,h1,hz,Nat.le_refl,true_or,ho,and_self, ↓reduceIte,hp]
theorem O5 (n:Nat) (a:Bool) (l:List UInt8) (old:Array Value) (E:TypeId) (h:l.length=n∧old.size=n):
  ab (some (a,n)) (some (.cells old E (0,0))) 0 (.agg (a8 l))=some (.cells (a8 l) E (0,0)):=F0 n a _ _ E (by rw[rj];exact h) (Us l)
theorem KR (n:Nat) (a:Bool) (l:List UInt32) (old:Array Value) (E:TypeId) (h:l.length=n∧old.size=n):
  ab (some (a,n)) (some (.cells old E (0,0))) 0 (.agg (a32 l))=some (.cells (a32 l) E (0,0)):=F0 n a _ _ E (by rw[y4];exact h) (BT l)
theorem wE (a:Bool) (v:Value) (cs:Array Value) (E:TypeId) (i:Nat) (h:i<cs.size) (hv:v.cells= #[v]) (ho:v.oneCell'=true):
  ab (some (a,1)) (some (.cells cs E (0,0))) i v=some (.cells (cs.setIfInBounds i v) E (0,0)):=by
 have h1:i+1≤cs.size:=h
 simp only[ab,hv,List.size_toArray,List.length_cons,List.length_nil,h1,Nat.le_refl,true_or,List.all_cons,ho,List.all_nil,Bool.and_self,and_self, ↓reduceIte,fJ,Nat.zero_add]
theorem Up (l:List UInt8) (i:Nat) (x:UInt8): (a8 l).setIfInBounds i (v8 x)=a8 (l.set i x):=by
 simp[a8,v8,List.map_set]
theorem Tc (l:List UInt32) (i:Nat) (x:UInt32): (a32 l).setIfInBounds i (v32 x)=a32 (l.set i x):=by
 simp[a32,v32,List.map_set]
theorem QP (a:Bool) (l:List UInt8) (E:TypeId) (i:Nat) (x:UInt8) (h:i<l.length):ab (some (a,1)) (some (.cells (a8 l) E (0,0))) i (v8 x)=some (.cells (a8 (l.set i x)) E (0,0)):=by
 rw[wE a _ _ E i (by rw[rj];exact h) rfl rfl,Up]
theorem OK (a:Bool) (l:List UInt32) (E:TypeId) (i:Nat) (x:UInt32) (h:i<l.length):ab (some (a,1)) (some (.cells (a32 l) E (0,0))) i (v32 x)=some (.cells (a32 (l.set i x)) E (0,0)):=by
 rw[wE a _ _ E i (by rw[y4];exact h) rfl rfl,Tc]
def upd (L:aA) (b:Nat) (o:Option Obj):Option aA:=match o with|some o=>some (setB L b o) |none=>none
theorem xn (L:aA) (b:Nat) (o:Obj):upd L b (some o)=some (setB L b o):=(rfl)
theorem EV (m:Option (Bool×Nat)) (L:aA) (b o:Nat) (v:Value):pz m L (vp b o) v=upd L b (ab m (look L b) o v):=(rfl)
theorem QU (n:Nat) (l:List UInt8) (i:Int) (h:0≤i∧i<n) (hl:l.length=n):p7 (.arr n (false,1)) (.agg (a8 l)) (some i)=some (v8 (l.getD i.toNat 0)):=by
 have:i.toNat<l.length:=by omega
 simp[p7,h,partV,a8,v8,this]
theorem Po (n:Nat) (l:List UInt32) (i:Int) (h:0≤i∧i<n) (hl:l.length=n):p7 (.arr n (false,1)) (.agg (a32 l)) (some i)=some (v32 (l.getD i.toNat 0)):=by
 have:i.toNat<l.length:=by omega
 simp[p7,h,partV,a32,v32,this]
theorem PG (vs:Array Value) (i:Nat):FC (.tuple vs) i=vs[i]? :=(rfl)
theorem Uv (a b:Value):iW (.bool true) a b=some a:=(rfl)
theorem Uw (a b:Value):iW (.bool false) a b=some b:=(rfl)
theorem IS (g n:Nat): ((g:Int)+no_index (@OfNat.ofNat Int n _)).toNat=g+ @OfNat.ofNat Nat n _:=by
 show((g:Int)+ (n:Int)).toNat=g+n
 omega
theorem I6 (g n:Nat): (no_index (@OfNat.ofNat Int n _)* (g:Int)).toNat= @OfNat.ofNat Nat n _*g:=by
 show((n:Int)* (g:Int)).toNat=n*g
 rw[←Int.natCast_mul,Int.toNat_natCast]
theorem JK_ (g n m:Nat): (no_index (@OfNat.ofNat Int n _)* (g:Int)+no_index (@OfNat.ofNat Int m _)).toNat= @OfNat.ofNat Nat n _*g+ @OfNat.ofNat Nat m _:=by
 show((n:Int)* (g:Int)+ (m:Int)).toNat=n*g+m
 rw[←Int.natCast_mul,←Int.natCast_add,Int.toNat_natCast]
theorem MI (g n:Nat): ((g:Int) - no_index (@OfNat.ofNat Int n _)).toNat=g - @OfNat.ofNat Nat n _:=by
 show((g:Int) - (n:Int)).toNat=g - n
 omega
theorem IY (g n:Nat): (no_index (@OfNat.ofNat Int n _) - (g:Int)).toNat= @OfNat.ofNat Nat n _ - g:=by
 show((n:Int) - (g:Int)).toNat=n - g
 omega
theorem IA (g n:Nat): ((g:Int) / no_index (@OfNat.ofNat Int n _)).toNat=g / @OfNat.ofNat Nat n _:=by
 show((g:Int) / (n:Int)).toNat=g / n
 rw[←Int.natCast_ediv,Int.toNat_natCast]
theorem I7 (g n:Nat): ((g:Int)%no_index (@OfNat.ofNat Int n _)).toNat=g% @OfNat.ofNat Nat n _:=by
 show((g:Int)% (n:Int)).toNat=g%n
 rw[←Int.natCast_emod,Int.toNat_natCast]
theorem Wf_ (g n:Nat): ((g:Int)+ (n:Int)).toNat=g+n:=by omega
theorem I5 (g n m:Nat): ((g:Int) / no_index (@OfNat.ofNat Int n _)+no_index (@OfNat.ofNat Int m _)).toNat=g / @OfNat.ofNat Nat n _+ @OfNat.ofNat Nat m _:=by
 show((g:Int) / (n:Int)+ (m:Int)).toNat=g / n+m
 rw[←Int.natCast_ediv,←Int.natCast_add,Int.toNat_natCast]
theorem IZ (g n m:Nat): ((g:Int)%no_index (@OfNat.ofNat Int n _)+no_index (@OfNat.ofNat Int m _)).toNat=g% @OfNat.ofNat Nat n _+ @OfNat.ofNat Nat m _:=by
 show((g:Int)% (n:Int)+ (m:Int)).toNat=g%n+m
 rw[←Int.natCast_emod,←Int.natCast_add,Int.toNat_natCast]
theorem RZ (a:Int) (c:UInt64) (h:c.toNat<63∧0≤a∧a*2^c.toNat≤9223372036854775807):aC .shl (vi a) (v64 c)=some (vi (a*2^c.toNat)):=BY a _ _ h
theorem RP (a:Int) (c:UInt64) (h:c.toNat<64∧0≤a):aC .shr (vi a) (v64 c)=some (vi (a / 2^c.toNat)):=Sl a _ _ h
theorem or_i (a b:Int) (h:0≤a∧0≤b∧a≤9223372036854775807∧b≤9223372036854775807):aC .or (vi a) (vi b)=some (vi ((a.toNat|||b.toNat:Nat):Int)):=by
 obtain⟨h1,h2,h3,h4⟩:=h
 obtain⟨n,rfl⟩:=Int.eq_ofNat_of_zero_le h1
 obtain⟨m,rfl⟩:=Int.eq_ofNat_of_zero_le h2
 have hn:n<2^63:=by omega
 have hm:m<2^63:=by omega
 have aD:=Nat.or_lt_two_pow hn hm
 simp only[aC,vi,bC,fq, ↓reduceIte,Option.map_some,Int.toNat_natCast]
 have e: (BitVec.ofInt (IntKind.bits .i64) (n:Int) |||BitVec.ofInt (IntKind.bits .i64) (m:Int)).toNat=n|||m:=by
  show(BitVec.ofInt 64 (n:Int) |||BitVec.ofInt 64 (m:Int)).toNat=_
  rw[BitVec.toNat_or,BitVec.ofInt_natCast,BitVec.ofInt_natCast,BitVec.toNat_ofNat,BitVec.toNat_ofNat,Nat.mod_eq_of_lt (by omega),Nat.mod_eq_of_lt (by omega)]
 rw[e,nP _ ⟨by omega,by omega⟩]
theorem Vl (a b:Int) (h:0≤a∧0≤b∧a≤9223372036854775807∧b≤9223372036854775807):aC .and (vi a) (vi b)=some (vi ((a.toNat&&&b.toNat:Nat):Int)):=by
 obtain⟨h1,h2,h3,h4⟩:=h
 obtain⟨n,rfl⟩:=Int.eq_ofNat_of_zero_le h1
 obtain⟨m,rfl⟩:=Int.eq_ofNat_of_zero_le h2
 have aD:n&&&m≤n:=Nat.and_le_left
 simp only[aC,vi,bC,fq, ↓reduceIte,Option.map_some,Int.toNat_natCast]
 have e: (BitVec.ofInt (IntKind.bits .i64) (n:Int)&&&BitVec.ofInt (IntKind.bits .i64) (m:Int)).toNat=n&&&m:=by
  show(BitVec.ofInt 64 (n:Int)&&&BitVec.ofInt 64 (m:Int)).toNat=_
  rw[BitVec.toNat_and,BitVec.ofInt_natCast,BitVec.ofInt_natCast,BitVec.toNat_ofNat,BitVec.toNat_ofNat,Nat.mod_eq_of_lt (by omega),Nat.mod_eq_of_lt (by omega)]
 rw[e,nP _ ⟨by omega,by omega⟩]
theorem NJ (P:Program) (op:BinOp) (t:TypeId) (x:UInt8) (y:UInt8):aT P op t (v8 x) (v8 y)=aC op (v8 x) (v8 y):=(rfl)
theorem Lb (P:Program) (op:BinOp) (t:TypeId) (x:UInt8) (y:UInt16):aT P op t (v8 x) (v16 y)=aC op (v8 x) (v16 y):=(rfl)
theorem Kn (P:Program) (op:BinOp) (t:TypeId) (x:UInt8) (y:UInt32):aT P op t (v8 x) (v32 y)=aC op (v8 x) (v32 y):=(rfl)
theorem Lz (P:Program) (op:BinOp) (t:TypeId) (x:UInt8) (y:UInt64):aT P op t (v8 x) (v64 y)=aC op (v8 x) (v64 y):=(rfl)
theorem Mc (P:Program) (op:BinOp) (t:TypeId) (x:UInt8) (y:Int):aT P op t (v8 x) (vi y)=aC op (v8 x) (vi y):=(rfl)
theorem Jr (P:Program) (op:BinOp) (t:TypeId) (x:UInt16) (y:UInt8):aT P op t (v16 x) (v8 y)=aC op (v16 x) (v8 y):=(rfl)
theorem JM (P:Program) (op:BinOp) (t:TypeId) (x:UInt16) (y:UInt16):aT P op t (v16 x) (v16 y)=aC op (v16 x) (v16 y):=(rfl)
theorem J7 (P:Program) (op:BinOp) (t:TypeId) (x:UInt16) (y:UInt32):aT P op t (v16 x) (v32 y)=aC op (v16 x) (v32 y):=(rfl)
theorem JJ (P:Program) (op:BinOp) (t:TypeId) (x:UInt16) (y:UInt64):aT P op t (v16 x) (v64 y)=aC op (v16 x) (v64 y):=(rfl)
theorem M3 (P:Program) (op:BinOp) (t:TypeId) (x:UInt16) (y:Int):aT P op t (v16 x) (vi y)=aC op (v16 x) (vi y):=(rfl)
theorem Li (P:Program) (op:BinOp) (t:TypeId) (x:UInt32) (y:UInt8):aT P op t (v32 x) (v8 y)=aC op (v32 x) (v8 y):=(rfl)
theorem JO (P:Program) (op:BinOp) (t:TypeId) (x:UInt32) (y:UInt16):aT P op t (v32 x) (v16 y)=aC op (v32 x) (v16 y):=(rfl)
theorem JE (P:Program) (op:BinOp) (t:TypeId) (x:UInt32) (y:UInt32):aT P op t (v32 x) (v32 y)=aC op (v32 x) (v32 y):=(rfl)
theorem Ie (P:Program) (op:BinOp) (t:TypeId) (x:UInt32) (y:UInt64):aT P op t (v32 x) (v64 y)=aC op (v32 x) (v64 y):=(rfl)
theorem Lr (P:Program) (op:BinOp) (t:TypeId) (x:UInt32) (y:Int):aT P op t (v32 x) (vi y)=aC op (v32 x) (vi y):=(rfl)
theorem Jm (P:Program) (op:BinOp) (t:TypeId) (x:UInt64) (y:UInt8):aT P op t (v64 x) (v8 y)=aC op (v64 x) (v8 y):=(rfl)
theorem JD (P:Program) (op:BinOp) (t:TypeId) (x:UInt64) (y:UInt16):aT P op t (v64 x) (v16 y)=aC op (v64 x) (v16 y):=(rfl)
theorem JW (P:Program) (op:BinOp) (t:TypeId) (x:UInt64) (y:UInt32):aT P op t (v64 x) (v32 y)=aC op (v64 x) (v32 y):=(rfl)
theorem JS (P:Program) (op:BinOp) (t:TypeId) (x:UInt64) (y:UInt64):aT P op t (v64 x) (v64 y)=aC op (v64 x) (v64 y):=(rfl)
theorem LF (P:Program) (op:BinOp) (t:TypeId) (x:UInt64) (y:Int):aT P op t (v64 x) (vi y)=aC op (v64 x) (vi y):=(rfl)
theorem NL (P:Program) (op:BinOp) (t:TypeId) (x:Int) (y:UInt8):aT P op t (vi x) (v8 y)=aC op (vi x) (v8 y):=(rfl)
theorem Kh (P:Program) (op:BinOp) (t:TypeId) (x:Int) (y:UInt16):aT P op t (vi x) (v16 y)=aC op (vi x) (v16 y):=(rfl)
theorem KP (P:Program) (op:BinOp) (t:TypeId) (x:Int) (y:UInt32):aT P op t (vi x) (v32 y)=aC op (vi x) (v32 y):=(rfl)
theorem La (P:Program) (op:BinOp) (t:TypeId) (x:Int) (y:UInt64):aT P op t (vi x) (v64 y)=aC op (vi x) (v64 y):=(rfl)
theorem N9 (P:Program) (op:BinOp) (t:TypeId) (x:Int) (y:Int):aT P op t (vi x) (vi y)=aC op (vi x) (vi y):=(rfl)
theorem Ud (x:UInt8):ixI (v8 x)=some (x.toNat:Int):=(rfl)
theorem Un (x:UInt8):Value.oneCell' (v8 x)=true:=(rfl)
theorem S4 (x:UInt8): (v8 x).cells= #[v8 x]:=(rfl)
theorem UF (x:UInt16):ixI (v16 x)=some (x.toNat:Int):=(rfl)
theorem UO (x:UInt16):Value.oneCell' (v16 x)=true:=(rfl)
theorem Qp (x:UInt16): (v16 x).cells= #[v16 x]:=(rfl)
theorem UK (x:UInt32):ixI (v32 x)=some (x.toNat:Int):=(rfl)
theorem Tq (x:UInt32):Value.oneCell' (v32 x)=true:=(rfl)
theorem Pt (x:UInt32): (v32 x).cells= #[v32 x]:=(rfl)
theorem TZ (x:UInt64):ixI (v64 x)=some (x.toNat:Int):=(rfl)
theorem Ts (x:UInt64):Value.oneCell' (v64 x)=true:=(rfl)
theorem Q9 (x:UInt64): (v64 x).cells= #[v64 x]:=(rfl)
theorem V5 (x:Int):ixI (vi x)=some x:=(rfl)
theorem UU (x:Int):Value.oneCell' (vi x)=true:=(rfl)
theorem Qj (x:Int): (vi x).cells= #[vi x]:=(rfl)
end Go.Sx
end
namespace Go.Sx
open Go
section
variable {P:Program} {w0:World} {f:Fr} {L:aA} {N:Fr→aA→Prop} {ops:Array Oper} {rest:List Oper} {md:Md}
 {d:Option Tmp} {ty:TypeId} {ps:String} {af:Array Edge} {g:Option (Nat×Bool)}
theorem Ow.callM {l:List Operand} {ts:Array TypeId} {k:FuncId} {b:Nat} {v:Value} {o:Obj} {md':Md} (he:md.turn=some md')
  (hs:bA ops f ⟨d, .call ⟨.value (.func k),l.toArray,ts⟩,ty,ps,af,g⟩=false)
  (hk: ∀a w,(callFunc k a).run P w= .ok (.enter k a) w) (hb:b∈keys L)
  (hc: ∀w,Hp w0 L w→Rets P k (l.map (ev f)).toArray w (fun v' D=> ∃o',D= [(b,o')]∧v'=v∧o'=o))
  (hn:Ow P w0 ops md' rest (aS f d v) (setB L b o) N):
  Ow P w0 ops md (⟨d, .call ⟨.value (.func k),l.toArray,ts⟩,ty,ps,af,g⟩::rest) f L N:=
 Ow.callF (S:=fun _ v' D=> ∃o',D= [(b,o')]∧v'=v∧o'=o) he hs hk hc (by
  rintro _ _ _ - - ⟨_,rfl,rfl,rfl⟩
  exact⟨_,Mrg.set hb,hn⟩)
end
def t7 (P:Program) (t:TypeId) (len:Nat) (parts:List (Nat×Value)):Option (TypeId×Array Value):=
 match P.underlying t with
 |some (.slice e)=>match aM P e with
  |some m=>if len*m.2>2^24 then none else
   match(if len*m.2=0 then some #[] else(am P e).map Value.cells) with
   |some zero=>(Instr.fill (fun i=>some (i*m.2,m.2)) ((Array.range (len*m.2)).map (zero[· %zero.size]!)) parts).map fun c=>(e,c)
   |none=>none
  |none=>none
 |_=>none
theorem V1_ {P:Program} {t e:TypeId} {len:Nat} {parts:Array (Nat×Value)} {cells:Array Value} (h:t7 P t len parts.toList=some (e,cells)) (w:World):
  (Instr.buildSlice t len parts).run P w= .ok (vsl w.heap.size 0 len len) (w.alloc (.cells cells e)):=by
 unfold t7 at h
 split at h
 ·rename_i el hu
  split at h
  ·rename_i m hm
   split at h
   ·cases h
   ·rename_i cb
    split at h
    ·rename_i zero hz
     cases hf:Instr.fill (fun i=>some (i*m.2,m.2)) ((Array.range (len*m.2)).map (zero[· %zero.size]!)) parts.toList with
     |none=>rw[hf] at h;cases h
     |some c=>
      rw[hf] at h
      cases h
      simp only[Instr.buildSlice,Sem.run_bind,run_underlying hu w,Result.andThen_ok,gO hm w,cb,if_false]
      split at hz
      ·rename_i h0
       cases hz
       have e1: ∀ (k:Array Value→World→Result Value),(Sem.run P (pure (#[]:Array Value)) w).andThen k=k #[] w:=fun _=>rfl
       simp only[h0,if_true] at hf ⊢
       rw[Sem.run_bind,e1]
       simp only[hf,Sem.run_bind]
       rfl
      ·rename_i h0
       cases sb:am P e with
       |none=>rw[sb] at hz;cases hz
       |some z=>
        rw[sb] at hz
        cases hz
        simp only[h0,if_false,Sem.run_bind,sr sb w,Result.andThen_ok,Sem.run_pure,hf]
        rfl
    ·cases h
  ·cases h
 ·cases h
section
variable {P:Program} {w0:World} {f:Fr} {L:aA} {N:Fr→aA→Prop} {ops:Array Oper} {rest:List Oper} {md:Md}
 {d:Option Tmp} {ty:TypeId} {ps:String} {af:Array Edge} {g:Option (Nat×Bool)}
theorem Ow.buildSlice {t e:TypeId} {len:Nat} {parts:Array (Nat×Operand)} (cells:Array Value) {md':Md} (he:md.turn=some md') (hs:bA ops f ⟨d, .buildSlice t len parts,ty,ps,af,g⟩=false)
  (hv:t7 P t len (parts.toList.map fun p=>(p.1,ev f p.2))=some (e,cells))
  (hn: ∀b,eS L b→w0.heap.size≤b→Ow P w0 ops md' rest (aS f d (vsl b 0 len len)) (L++ [(b, .cells cells e)]) N):
  Ow P w0 ops md (⟨d, .buildSlice t len parts,ty,ps,af,g⟩::rest) f L N:=by
 refine Ow.step he rfl hs fun w hw=> .inl ⟨vsl w.heap.size 0 len len,w.alloc (.cells cells e),_, ?_,hw.alloc _,hn _ (gh fun b hb=>hw.lt hb) hw.size⟩
 have h':t7 P t len (parts.map fun(i,x)=>(i,ev f x)).toList=some (e,cells):=by
  rw[Array.toList_map];exact hv
 simp only[execOp,Sem.run_bind,V1_ h' w,Result.andThen_ok]
 rfl
end
theorem Ld {f:Nat→Option Bool} {g:Nat→Bool} (is:List Nat) (h: ∀i,i∈is→f i=some (g i)):y9 f is=some (is.all g):=by
 induction is with
 |nil=>rfl
 |cons i r ih=>
  unfold y9
  rw[h i List.mem_cons_self,List.all_cons]
  cases g i
  ·rfl
  ·simpa using ih fun j hj=>h j (List.mem_cons_of_mem _ hj)
theorem Kc (l l':List UInt8) (n:Nat) (h:l.length=n) (h':l'.length=n): ((List.range n).all fun i=>l.getD i 0==l'.getD i 0)=(l==l'):=by
 rw[Bool.eq_iff_iff,List.all_eq_true,beq_iff_eq]
 constructor
 ·intro ha
  apply List.ext_getElem (by omega)
  intro i h1 h2
  have:=ha i (List.mem_range.2 (by omega))
  rw[beq_iff_eq,List.getD_eq_getElem?_getD,List.getD_eq_getElem?_getD,List.getElem?_eq_getElem h1,List.getElem?_eq_getElem h2] at this
  exact this
 ·rintro rfl i _
  simp
theorem uS {P:Program} {t e:TypeId} {n d:Nat} (hu:P.underlying t=some (.array n e)) (he:P.underlying e=some (.int .u8)) (hm:aM P e=some (false,1)) (l l':List UInt8) (hl:l.length=n) (lG:l'.length=n):
  eqD P (d+2) t (.agg (a8 l)) (.agg (a8 l'))=some (l==l'):=by
 rw[←Kc l l' n hl lG]
 unfold eqD
 rw[hu]
 simp only[hm]
 apply Ld
 intro i hi
 have hi:=List.mem_range.1 hi
 have p: ∀ (x:List UInt8),x.length=n→partV (false,1) (a8 x) (i*1)=some (v8 (x.getD i 0)):=by
  intro x hx
  simp[partV,a8,v8,hx,hi]
 simp only[so,p l hl,p l' lG]
 unfold eqD
 rw[he]
 simp only[v8, ↓reduceIte,Option.some.injEq]
 rw[Bool.eq_iff_iff,beq_iff_eq,beq_iff_eq,←UInt8.toNat_inj]
 omega
theorem Ss {P:Program} {t e:TypeId} {n:Nat} (hu:P.underlying t=some (.array n e)) (he:P.underlying e=some (.int .u8)) (hm:aM P e=some (false,1)) (hg:P.eqGuardType P.depth t=false) (l l':List UInt8) (hl:l.length=n∧l'.length=n):
  aT P .eql t (.agg (a8 l)) (.agg (a8 l'))=some (.bool (l==l')):=by
 unfold aT eqX
 rw[hg]
 simp[eM,uS (d:=6) hu he hm l l' hl.1 hl.2]
theorem R1 {P:Program} {t e:TypeId} {n:Nat} (hu:P.underlying t=some (.array n e)) (he:P.underlying e=some (.int .u8)) (hm:aM P e=some (false,1)) (hg:P.eqGuardType P.depth t=false) (l l':List UInt8) (hl:l.length=n∧l'.length=n):
  aT P .neq t (.agg (a8 l)) (.agg (a8 l'))=some (.bool (!(l==l'))):=by
 unfold aT eqX
 rw[hg]
 simp[eM,uS (d:=6) hu he hm l l' hl.1 hl.2]
theorem tup2_0 (a b:Value): (#[a,b]:Array Value)[0]? =some a:=(rfl)
theorem tup2_1 (a b:Value): (#[a,b]:Array Value)[1]? =some b:=(rfl)
theorem tup3_0 (a b c:Value): (#[a,b,c]:Array Value)[0]? =some a:=(rfl)
theorem tup3_1 (a b c:Value): (#[a,b,c]:Array Value)[1]? =some b:=(rfl)
theorem tup3_2 (a b c:Value): (#[a,b,c]:Array Value)[2]? =some c:=(rfl)
structure StrS (w:World) (v:Value) (l:List (List UInt8)) (b off:Nat) (arr:Array Value) (E:TypeId) (fz:Nat×Nat):Prop where
 len: ∀m,gP (.sl m) v=some (vi l.length)
 idx: ∀m (k:Nat),k<l.length→lZ (.sl m) v (some (k:Int))=some (vp b (off+k*m.2))
 has:0<l.length→w.heap[b]? =some (.cells arr E fz)
 get: ∀k,k<l.length→arr[off+k]? =some (vs (l.getD k []))
theorem StrS.sl {w:World} {l:List (List UInt8)} {b off n c:Nat} {arr:Array Value} {E:TypeId} {fz:Nat×Nat} (hn:n=l.length)
  (has:w.heap[b]? =some (.cells arr E fz)) (get: ∀k,k<l.length→arr[off+k]? =some (vs (l.getD k []))):StrS w (vsl b off n c) l b off arr E fz:=by
 subst hn
 exact⟨fun _=>rfl,fun m k h=>by rw[Ef _ _ _ _ _ _ (by omega)];simp,fun _=>has,get⟩
theorem StrS.none (w:World) (n c:Nat) (hn:n=0):StrS w (.slice none n c) [] 0 0 #[] 0 (0,0):=by
 subst hn
 exact⟨fun _=>rfl,fun _ _ h=>absurd h (Nat.not_lt_zero _),fun h=>absurd h (Nat.not_lt_zero _),fun _ h=>absurd h (Nat.not_lt_zero _)⟩
theorem StrS.old {w w':World} {v:Value} {l:List (List UInt8)} {b off:Nat} {arr:Array Value} {E:TypeId} {fz:Nat×Nat} {L:aA} (h:StrS w v l b off arr E fz) (hw:Hp w L w') (hb:0<l.length→b∉keys L):StrS w' v l b off arr E fz:=by
 refine⟨h.len,h.idx,fun h0=> ?_,h.get⟩
 rw[hw.old b (Array.getElem?_eq_some_iff.1 (h.has h0)).1 (hb h0)]
 exact h.has h0
theorem loadV_one (cs:Array Value) (E:TypeId) (fz:Nat×Nat) (n i:Nat):aI (some (false,n)) (some (.cells cs E fz)) i=cs[i]? :=(rfl)
end Go.Sx
namespace Go.Sx
open Go
def OwK (P:Program) (w0:World) (ops:Array Oper) (n:Nat) (listed:List Bool) (f:Fr) (L:aA) (N:Fr→aA→Prop):Prop:=
 ∀w,Hp w0 L w→wpAny P .any ops (eU w0 N) n listed.toArray (act f) w
section
variable {P:Program} {w0:World} {f:Fr} {L:aA} {N:Fr→aA→Prop} {K:cM} {l:List Oper} {n:Nat} {listed:List Bool}
theorem Cw.regionK {id:Nat} (m:Nat) (hl:l.length=m) (hm:P.follows .mixedOrders=true) (h:OwK P w0 l.toArray m (List.replicate m false) f L (K .normal)):Cw P w0 (.region id l.toArray true) f L K:=fun w hw=>by
 subst hl
 refine wp_mono (wp_region_any hm ?_) fun _ _ _ h=>wX h
 have:=h _ hw.drew
 simpa using this
theorem OwK.done {ops:Array Oper} (hr:Region.ready .any ops listed.toArray= []) (h:N f L):OwK P w0 ops n listed f L N:=
 fun w hw=>wpAny_done hr ⟨rfl,rfl,L,hw,by simpa [act] using h⟩ n
theorem ES {o:Oper} {a:Act} {next next':Act→World→Prop} {Q Q':Exit→Act→World→Prop} (hn: ∀a w,next a w→next' a w) (hQ: ∀e a w,e≠ .normal→Q e a w→False) {r:Result Next}
  (h:o.upon P a next Q r):o.upon P a next' Q' r:=by
 cases r with
 |ok x w'=>
  cases x<;>simp only[Oper.upon] at h ⊢ <;>
   first
    |exact hn _ _ h
    |exact Calls.mono h (fun e w'' he=>by
      cases e<;>first|exact hn _ _ he|exact(hQ _ _ _ (by simp) he).elim| (obtain⟨a,w,h⟩:=he;exact(hQ _ _ _ (by simp) h).elim))
    |exact Rows.mono h (fun _ _ he=>hn _ _ he)
    |exact h.elim
 |halt x w'=>
  cases x<;>simp only[Oper.upon] at h ⊢ <;>first|exact(hQ _ _ _ (by simp) h).elim|exact h.elim
theorem FD {N:Fr→aA→Prop} {e:Exit} {a:Act} {w:World} (he:e≠ .normal) (h:eU w0 N e a w):False:=he h.1
theorem tE {ops:Array Oper} {k:Nat} {o:Oper} (hk:ops[k]? =some o) {X:Act→World→Prop}
  (h:Ow P w0 ops .seq [o] f L (fun f' L'=> ∀w,Hp w0 L' w→X (act f') w)) {w:World} (hw:Hp w0 L w):wpOp P ops (eU w0 N) k X (act f) w:=by
 have h1:=h w hw
 unfold wpList at h1
 unfold wpOp
 simp only[hk]
 have hX: ∀a w,wpList P ops (eU w0 fun f' L'=> ∀w,Hp w0 L' w→X (act f') w) [] a w→X a w:=by
  intro a w' hx
  obtain⟨-,hd,L',hp,hh⟩:=(show eU w0 _ _ a w' from hx)
  have:=hh w' hp
  obtain⟨t,d⟩:=a
  simp only at hd
  subst hd
  simpa [act] using this
 cases ow:Region.wanted o (yielded ops (act f).tmps) with
 |true=>
  rw[ow] at h1
  simp only[↓reduceIte] at h1 ⊢
  rcases h1 with h1| ⟨-,a,w',h1⟩
  ·exact .inl (ES hX (fun e a w he h=>FD he h) h1)
  ·exact(FD (by simp) h1).elim
 |false=>
  rw[ow] at h1
  simp only[Bool.false_eq_true, ↓reduceIte] at h1 ⊢
  exact hX _ _ h1
theorem GT {ops:Array Oper} {o:Oper} {N N':Fr→aA→Prop} (hN: ∀f L,N f L→N' f L) {w:World} {a:Act} (h:wpList P ops (eU w0 N) [o] a w):wpList P ops (eU w0 N') [o] a w:=by
 have hm: ∀a w,eU w0 N .normal a w→eU w0 N' .normal a w:=fun a w ⟨h1,h2,L',h3,h4⟩=>⟨h1,h2,L',h3,hN _ _ h4⟩
 unfold wpList at h ⊢
 cases ow:Region.wanted o (yielded ops a.tmps) with
 |true=>
  rw[ow] at h
  simp only[↓reduceIte] at h ⊢
  rcases h with h| ⟨-,a,w',h1⟩
  ·exact .inl (ES (fun a w h=>hm a w h) (fun e a w he h=>FD he h) h)
  ·exact(FD (by simp) h1).elim
 |false=>
  rw[ow] at h
  simp only[Bool.false_eq_true, ↓reduceIte] at h ⊢
  exact hm _ _ h
theorem nV (l:List Bool) (i:Nat):l.toArray.setIfInBounds i true=(l.set i true).toArray:=by simp
theorem OwK.one (k:Nat) (o:Oper) (hr:Region.ready .any l.toArray listed.toArray= [k]) (hk:dG l k=some o)
  (h:Ow P w0 l.toArray .seq [o] f L (fun f' L'=>OwK P w0 l.toArray n (listed.set k true) f' L' N)):OwK P w0 l.toArray (n+1) listed f L N:=by
 intro w hw
 refine wpAny_all hr (by simp) ?_
 intro i hi
 simp only[List.mem_singleton] at hi
 subst hi
 rw[nV]
 exact tE (by rw[mq] at hk;simpa using hk) h hw
theorem OwK.two (i j:Nat) (oi oj:Oper) (hr:Region.ready .any l.toArray listed.toArray= [i,j]) (hi:dG l i=some oi) (hj:dG l j=some oj)
  (h1:Ow P w0 l.toArray .seq [oi] f L (fun f' L'=>OwK P w0 l.toArray n (listed.set i true) f' L' N))
  (h2:Ow P w0 l.toArray .seq [oj] f L (fun f' L'=>OwK P w0 l.toArray n (listed.set j true) f' L' N)):OwK P w0 l.toArray (n+1) listed f L N:=by
 intro w hw
 refine wpAny_all hr (by simp) ?_
 intro k hk
 rw[nV]
 simp only[List.mem_cons,List.not_mem_nil,or_false] at hk
 rcases hk with rfl|rfl
 ·exact tE (by rw[mq] at hi;simpa using hi) h1 hw
 ·exact tE (by rw[mq] at hj;simpa using hj) h2 hw
def chkK (P:Program) (l:List Oper):List Nat→List Bool→Option (List Bool)
 | [],listed=>some listed
 |k::is,listed=>
  match dG l k with
  |some o=>if(Region.ready .any l.toArray listed.toArray).contains k&&Region.free .any l.toArray listed.toArray k&&fY P o.op then chkK P l is (listed.set k true) else none
  |none=>none
theorem OwK.runs {k:Md→List Oper→Fr→aA→Prop} (du:Region.noSelect l.toArray=true): ∀ (is:List Nat) {listed listed':List Bool} {f:Fr} {L:aA},chkK P l is listed=some listed'→
  (∀md r f' L',k md r f' L'→r= []∧OwK P w0 l.toArray n listed' f' L' N)→vcL P w0 l.toArray false .seq (gA l is) f L k→OwK P w0 l.toArray (is.length+n) listed f L N
 | [],listed,listed',f,L,hc,hk,h=>by
  cases hc
  rw[List.length_nil,Nat.zero_add]
  exact(hk _ _ _ _ h).2
 |i::is,listed,listed',f,L,hc,hk,h=>by
  unfold chkK at hc
  rw[ac] at h
  cases ho:dG l i with
  |none=>rw[ho] at hc;cases hc
  |some o=>
   rw[ho] at hc h
   simp only at hc
   split at hc
   ·rename_i lB
    simp only[Bool.and_eq_true] at lB
    obtain⟨⟨dA,dL⟩,i8⟩:=lB
    rw[ad] at h
    have iR:l.toArray[i]? =some o:=by rw[mq] at ho;simpa using ho
    unfold vcL at h
    rw[List.length_cons,show is.length+1+n=(is.length+n)+1 by omega]
    cases hs:bA l.toArray f o with
    |true=>
     rw[hs] at h
     have eR:Region.wanted o (yielded l.toArray (act f).tmps)=false:=by rw[kW,hs];rfl
     intro w hw
     refine wpAny_take (v:=undef) iR du dL dA (fun c a w h=>lb h) (.inr ⟨eR,rfl⟩) ?_
     rw[fN,nV]
     exact OwK.runs du is hc hk h w hw
    |false=>
     rw[hs] at h
     have eR:Region.wanted o (yielded l.toArray (act f).tmps)=true:=by rw[kW,hs];rfl
     simp only[ib,vcB] at h
     split at h
     ·have bY:rdOk .seq f o.op=true:=by
       cases o.op<;>rfl
      rw[bY] at h
      simp only at h
      cases hv:iF P w0 L f o.op with
      |none=>rw[hv] at h;exact absurd (hk _ _ _ _ h).1 (by simp)
      |some v=>
       rw[hv] at h
       intro w hw
       refine wpAny_take (v:=v) iR du dL dA (fun c a w h=>lb h) (.inl ⟨eR,fun w=> ?_⟩) ?_
       ·rw[pj];exact nT (Hp.refl w) (xT i8 hv w)
       ·rw[fN,nV]
        exact OwK.runs du is hc hk h w hw
     ·exact absurd (hk _ _ _ _ h).1 (by simp)
     ·exact absurd (hk _ _ _ _ h).1 (by simp)
   ·cases hc
theorem OwK.run (is:List Nat) (listed':List Bool) (n:Nat) {m:Nat} (hm:m=is.length+n) (du:Region.noSelect l.toArray=true) (hc:chkK P l is listed=some listed')
  (h: ∀k:Md→List Oper→Fr→aA→Prop,(∀md f L,OwK P w0 l.toArray n listed' f L N→k md [] f L)→nl (gA l is) fun l'=>vcL P w0 l.toArray false .seq l' f L k):OwK P w0 l.toArray m listed f L N:=by
 subst hm
 refine OwK.runs (k:=fun _ r f' L'=>r= []∧OwK P w0 l.toArray n listed' f' L' N) du is hc (fun _ _ _ _ h=>h) ?_
 exact h _ fun _ _ _ h=>⟨rfl,h⟩
theorem Ow.soft {ops:Array Oper} {R is ts:List Nat} {k:Nat} {o:Oper} {rest:List Oper} (hp:fY P o.op=false) (oV:pF o.op=false) (fw:ts.contains k=false)
  (h:Ow P w0 ops .seq [o] f L (fun f' L'=>(∀b,b∈R→aP w0 L' b=aP w0 L b)∧Ow P w0 ops (.sof R is ts) rest f' L' N)):Ow P w0 ops (.sof R (k::is) ts) (o::rest) f L N:=by
 intro listed hF ht w hw
 obtain⟨k',is',Wh,hk,dY,ee,hc⟩:=hF.cons
 cases Wh
 have dC:k∉ts:=by simpa using fw
 have hr:Region.ready .any ops listed= [k]:=by
  rcases hc with hc| ⟨_,_,_,hc| ⟨hc,_⟩⟩
  ·exact hc
  ·rw[hp] at hc;cases hc
  ·rw[oV] at hc;cases hc
 refine⟨fun _=>SR.of hw,(fun h=>by rw[hr] at h;cases h), ?_⟩
 intro i hi
 rw[hr,List.mem_singleton] at hi
 subst hi
 refine tE hk (X:=kU P ops (eU w0 N) ts (SR w0 R L) rest.length (listed.setIfInBounds i true)) ?_ hw
 intro w' aB
 have h1:=h w' aB
 refine GT ?_ h1
 rintro f' L' ⟨hS,hO⟩ w'' lR
 have e:SR w0 R L=SR w0 R L':=by
  funext v
  unfold SR
  apply propext
  constructor
  ·intro hh b hb o ho;exact hh b hb o (by rw[←hS b hb];exact ho)
  ·intro hh b hb o ho;exact hh b hb o (by rw[hS b hb];exact ho)
 rw[e]
 exact hO _ dY (pA dC ht) w'' lR
theorem Cw.regionS {id:Nat} (R is ts:List Nat) (hm:P.follows .mixedOrders=true) (hB:qS P l is ts=true) (hl:is.map (fun i:Nat=>l[i]?)=(gA l is).map some)
  (h:nl (gA l is) fun l'=>Ow P w0 l.toArray (.sof R is ts) l' f L (K .normal)):Cw P w0 (.region id l.toArray true) f L K:=by
 revert hl h
 generalize gA l is=l'
 intro hl h w hw
 simp only[qS,Bool.and_eq_true,beq_iff_eq,List.all_eq_true,decide_eq_true_eq] at hB
 obtain⟨⟨⟨h1,h2⟩,h3⟩,h4⟩:=hB
 have aL:is.length=l'.length:=by have:=congrArg List.length hl;simpa using this
 refine wp_mono (wp_region_any hm ?_) fun _ _ _ h=>wX h
 have hF:Fits P l.toArray ts is l' (Array.replicate l.length false):=⟨aL,fun j=>by
  have:=congrArg (·[j]?) hl
  simp only[List.getElem?_map] at this
  cases hj:is[j]? with
  |none=>
   rw[hj] at this
   simp only[Option.map_none] at this
   cases fe:l'[j]? with
   |none=>rfl
   |some x=>rw[fe] at this;cases this
  |some i=>
   rw[hj] at this
   simp only[Option.map_some] at this
   cases fe:l'[j]? with
   |none=>rw[fe] at this;cases this
   |some x=>
    rw[fe] at this
    simp only[Option.map_some,Option.some.injEq] at this
    simp[this],h1,h4⟩
 have:=(h:Ow P w0 l.toArray (.sof R is ts) l' f L (K .normal)) (Array.replicate l.length false) hF (fun t ht=>by have:=h3 t ht;simp[this]) _ hw.drew
 rw[←aL,h2] at this
 have:=EO _ _ _ _ this
 simpa using this
def C8 (P:Program) (l:List Oper) (is ts:List Nat) (listed:List Bool):Bool:=
 Region.noSelect l.toArray&&rx P l.toArray ts is listed.toArray&&ts.any fun t=>listed.toArray.getD t true
theorem OwK.rest (is ts:List Nat) {m:Nat} (hm:m=is.length) (hB:C8 P l is ts listed=true) (hl:is.map (fun i:Nat=>l[i]?)=(gA l is).map some)
  (h:nl (gA l is) fun l'=>Ow P w0 l.toArray (.any is ts) l' f L N):OwK P w0 l.toArray m listed f L N:=by
 subst hm
 revert hl h
 generalize gA l is=l'
 intro hl h w hw
 simp only[C8,Bool.and_eq_true] at hB
 obtain⟨⟨h1,h4⟩,h5⟩:=hB
 have aL:is.length=l'.length:=by have:=congrArg List.length hl;simpa using this
 have hF:Fits P l.toArray ts is l' listed.toArray:=⟨aL,fun j=>by
  have:=congrArg (·[j]?) hl
  simp only[List.getElem?_map] at this
  cases hj:is[j]? with
  |none=>
   rw[hj] at this
   simp only[Option.map_none] at this
   cases fe:l'[j]? with
   |none=>rfl
   |some x=>rw[fe] at this;cases this
  |some i=>
   rw[hj] at this
   simp only[Option.map_some] at this
   cases fe:l'[j]? with
   |none=>rw[fe] at this;cases this
   |some x=>
    rw[fe] at this
    simp only[Option.map_some,Option.some.injEq] at this
    simp[this],h1,h4⟩
 obtain⟨t,ht,mc⟩:=List.any_eq_true.1 h5
 rw[aL]
 exact(h:Ow P w0 l.toArray (.any is ts) l' f L N) listed.toArray hF ⟨t,ht,mc⟩ w hw
end
theorem StrS.lit {w:World} {b n c:Nat} {E:TypeId} {fz:Nat×Nat} {arr:Array Value} (l:List (List UInt8)) (hn:n=l.length) (ha:arr=(l.map vs).toArray) (has:w.heap[b]? =some (.cells arr E fz)):StrS w (vsl b 0 n c) l b 0 arr E fz:=
 StrS.sl hn has (by intro k hk;rw[ha,Nat.zero_add,List.getElem?_toArray,List.getElem?_map,List.getD_eq_getElem?_getD,List.getElem?_eq_getElem hk];rfl)
end Go.Sx
namespace Go.Sx
open Go
def Cf (J:Nat→Act→World→Prop) (Q:Exit→Act→World→Prop):Exit→Act→World→Prop
 | .goto l,a,w=>J l a w
 |e,a,w=>Q e a w
theorem Jx {P:Program} {a:Act} {w:World} {Q:Exit→Act→World→Prop} {c:Code} (J:Nat→Nat→Act→World→Prop)
  (first:c.wp P (Cf (fun l a w=> ∃n,J n l a w) Q) a w)
  (pass: ∀n l a w,J n l a w→ ∃rest,findLabel c l=some rest∧rest.wp P (Cf (fun l' a' w'=> ∃n',n'<n∧J n' l' a' w') Q) a w): (Code.scope c).wp P Q a w:=by
 intro b k cs
 have hg: ∀ {l rest},findLabel c l=some rest→gotoIn l (.inScope c::k)=some (.code rest:: .inScope c::k):=by intro l rest hf;simp[gotoIn,hf]
 have key: ∀n l a w,J n l a w→ ∃rest,findLabel c l=some rest∧ ∃e a' w',Q e a' w'∧Arrives P (lone (b.at a (.code rest:: .inScope c::k)) cs w) b k cs e a' w':=by
  intro n
  induction n using Nat.strongRecOn with
  |_ n ih=>
   intro l a w hJ
   obtain⟨rest,hf,hp⟩:=pass n l a w hJ
   refine⟨rest,hf, ?_⟩
   obtain⟨e,a₁,w₁,hq,dm⟩:=hp b (.inScope c::k) cs
   cases e with
   |normal=>exact⟨.normal,a₁,w₁,hq,Steps.trans dm (.one step_inScope)⟩
   |exit id=>exact⟨.exit id,a₁,w₁,hq,fun k' hk=>dm k' (by simp[exitTo,hk])⟩
   |goto l'=>
    obtain⟨n',aD,l7⟩:=hq
    obtain⟨rest',lD,e₂,a₂,w₂,hq₂,harr₂⟩:=ih n' aD l' a₁ w₁ l7
    exact⟨e₂,a₂,w₂,hq₂, .of_steps (dm _ (hg lD)) harr₂⟩
   |ret=>exact⟨_,a₁,w₁,hq,dm⟩
   |panic ch=>exact⟨_,a₁,w₁,hq,dm⟩
   |outgrown=>exact⟨_,a₁,w₁,hq,dm⟩
 obtain⟨e,a₁,w₁,hq,dm⟩:=first b (.inScope c::k) cs
 cases e with
 |normal=>exact⟨.normal,a₁,w₁,hq, .head step_scope (Steps.trans dm (.one step_inScope))⟩
 |exit id=>exact⟨.exit id,a₁,w₁,hq,fun k' hk=> .head step_scope (dm k' (by simp[exitTo,hk]))⟩
 |goto l'=>
  obtain⟨n,l7⟩:=hq
  obtain⟨rest',lD,e₂,a₂,w₂,hq₂,harr₂⟩:=key n l' a₁ w₁ l7
  exact⟨e₂,a₂,w₂,hq₂, .of_steps (.head step_scope (dm _ (hg lD))) harr₂⟩
 |ret=>exact⟨_,a₁,w₁,hq, .of_steps (.one step_scope) dm⟩
 |panic ch=>exact⟨_,a₁,w₁,hq, .of_steps (.one step_scope) dm⟩
 |outgrown=>exact⟨_,a₁,w₁,hq, .of_steps (.one step_scope) dm⟩
def nW (A:Nat→Fr→aA→Prop) (K:cM):cM
 | .normal=>K .normal
 | .exit i=>K (.exit i)
 | .goto i=>A i
 | .ret=>K .ret
 | .panic c=>K (.panic c)
 | .outgrown=>K .outgrown
def Jump {G:Type} (lab:G→Nat) (M:List Nat) (S:G→List (Nat×Value)) (H:G→aA) (J B:G→Prop) (f:Fr) (i:Nat) (f':Fr) (L':aA):Prop:=
 ∃g',lab g'=i∧B g'∧J g'∧L'=H g'∧f'=pin (kV (eC f') M 0 f) (S g')
theorem Jump.mk {G:Type} {lab:G→Nat} {M:List Nat} {S:G→List (Nat×Value)} {H:G→aA} {J B:G→Prop} {f:Fr} {i:Nat} {f':Fr} {L':aA} (g':G) (hl:lab g'=i)
  (hB:B g') (hJ:J g') (hL:L'=H g') (hf:f'=pin (kV (eC f') M 0 f) (S g')):Jump lab M S H J B f i f' L':=⟨g',hl,hB,hJ,hL,hf⟩
section
variable {P:Program} {w0:World} {f:Fr} {L:aA} {K:cM} {A:Nat→Fr→aA→Prop}
theorem Cw.scopeG {c:Code} {G:Type} (lab:G→Nat) (M:List Nat) (S:G→List (Nat×Value)) (H:G→aA) (J:G→Prop) (μ:G→Nat)
  (first:Cw P w0 c f L (nW (Jump lab M S H J (fun _=>True) f) K))
  (pass: ∀ (g:G) (j:Nat→Value),J g→ ∃rest,findLabel c (lab g)=some rest∧Cw P w0 rest (pin (kV j M 0 f) (S g)) (H g) (nW (Jump lab M S H J (fun g'=>μ g'<μ g) f) K)):Cw P w0 (.scope c) f L K:=by
 intro w hw
 refine Jx (fun n l a w=> ∃g j,lab g=l∧μ g=n∧J g∧a=act (pin (kV j M 0 f) (S g))∧Hp w0 (H g) w) ?_ ?_
 ·refine wp_mono (first w hw) ?_
  rintro e a w' ⟨hd,L',hp,k⟩
  cases e with
  |goto i=>
   obtain⟨g',h1,-,h2,h3,h4⟩:=k
   subst h3
   refine⟨μ g',g',eC a.tmps.toList,h1,rfl,h2, ?_,hp⟩
   rw[←h4]
   exact tC hd
  |_=>exact⟨hd,L',hp,k⟩
 ·rintro n l a w' ⟨g,j,h1,h2,h3,rfl,hp⟩
  obtain⟨rest,hf,hc⟩:=pass g j h3
  subst h1
  refine⟨rest,hf, ?_⟩
  refine wp_mono (hc w' hp) ?_
  rintro e a w' ⟨hd,L',hp,k⟩
  cases e with
  |goto i=>
   obtain⟨g',h1,h0,Vs,h3,h4⟩:=k
   subst h3
   refine⟨μ g',by omega,g',eC a.tmps.toList,h1,rfl,Vs, ?_,hp⟩
   rw[←h4]
   exact tC hd
  |_=>exact⟨hd,L',hp,k⟩
def hasL:Code→Nat→Bool
 | .seq a b,l=>hasL a l||hasL b l
 | .label l',l=>l'==l
 |_,_=>false
def kA (P:Program) (w0:World):Code→Nat→cM→Fr→aA→Prop
 | .seq a b,l,K=>if hasL a l=true then kA P w0 a l (k4 (fun f L=>Cw P w0 b f L K) K) else kA P w0 b l K
 | .label _,_,K=>K .normal
 |_,_,_=>fun _ _=>False
theorem HF: ∀ (c:Code) (l:Nat),hasL c l=false→findLabel c l=none
 | .seq a b,l,h=>by
  simp only[hasL,Bool.or_eq_false_iff] at h
  simp only[findLabel,HF a l h.1,HF b l h.2]
 | .label l',l,h=>by
  simp only[hasL] at h
  simp[findLabel,h]
 | .skip,_,_=>rfl| .region ..,_,_=>rfl| .cond ..,_,_=>rfl| .block ..,_,_=>rfl| .loop _,_,_=>rfl| .rangeFunc ..,_,_=>rfl
 | .exit _,_,_=>rfl| .scope _,_,_=>rfl| .goto _,_,_=>rfl| .ret,_,_=>rfl| .refuse _,_,_=>rfl
theorem Gp: ∀ (c:Code) (l:Nat) (K:cM),hasL c l=true→kA P w0 c l K f L→ ∃rest,findLabel c l=some rest∧Cw P w0 rest f L K
 | .seq a b,l,K,hh,h=>by
  unfold kA at h
  split at h
  ·rename_i ha
   obtain⟨rest,h1,h2⟩:=Gp a l _ ha h
   exact⟨.seq rest b,by simp[findLabel,h1],Cw.seq h2⟩
  ·rename_i ha
   have sD:hasL a l=false:=by simpa using ha
   have hb:hasL b l=true:=by simpa [hasL,sD] using hh
   obtain⟨rest,h1,h2⟩:=Gp b l K hb h
   exact⟨rest,by simp[findLabel,HF a l sD,h1],h2⟩
 | .label l',l,K,hh,h=>by
  simp only[hasL] at hh
  exact⟨.skip,by simp[findLabel,hh],Cw.skip h⟩
 | .skip,_,_,h,_=>by cases h
 | .region ..,_,_,h,_=>by cases h
 | .cond ..,_,_,h,_=>by cases h
 | .block ..,_,_,h,_=>by cases h
 | .loop _,_,_,h,_=>by cases h
 | .rangeFunc ..,_,_,h,_=>by cases h
 | .exit _,_,_,h,_=>by cases h
 | .scope _,_,_,h,_=>by cases h
 | .goto _,_,_,h,_=>by cases h
 | .ret,_,_,h,_=>by cases h
 | .refuse _,_,_,h,_=>by cases h
theorem Gk: ∀ (c:Code) (l:Nat) (K K':cM),(∀e f L,K e f L→K' e f L)→ ∀f L,kA P w0 c l K f L→kA P w0 c l K' f L
 | .seq a b,l,K,K',hK,f,L,h=>by
  unfold kA at h ⊢
  split at h
  ·rename_i ha
   rw[if_pos ha]
   refine Gk a l _ _ ?_ f L h
   intro e f L hh
   cases e with
   |normal=>exact Cw.mono hh hK
   |_=>exact hK _ _ _ hh
  ·rename_i ha
   rw[if_neg ha]
   exact Gk b l K K' hK f L h
 | .label l',l,K,K',hK,f,L,h=>hK _ _ _ h
 | .skip,_,_,_,_,_,_,h=>h.elim
 | .region ..,_,_,_,_,_,_,h=>h.elim
 | .cond ..,_,_,_,_,_,_,h=>h.elim
 | .block ..,_,_,_,_,_,_,h=>h.elim
 | .loop _,_,_,_,_,_,_,h=>h.elim
 | .rangeFunc ..,_,_,_,_,_,_,h=>h.elim
 | .exit _,_,_,_,_,_,_,h=>h.elim
 | .scope _,_,_,_,_,_,_,h=>h.elim
 | .goto _,_,_,_,_,_,_,h=>h.elim
 | .ret,_,_,_,_,_,_,h=>h.elim
 | .refuse _,_,_,_,_,_,_,h=>h.elim
theorem Cw.scopeL {c:Code} {G:Type} (lab:G→Nat) (M:List Nat) (S:G→List (Nat×Value)) (H:G→aA) (J:G→Prop) (μ:G→Nat) (hl: ∀g,hasL c (lab g)=true)
  (pass: ∀ (g:G) (j:Nat→Value),J g→kA P w0 c (lab g) (nW (Jump lab M S H J (fun g'=>μ g'<μ g) f) K) (pin (kV j M 0 f) (S g)) (H g))
  (first: (∀ (g:G) (f':Fr),J g→f'=pin (kV (eC f') M 0 f) (S g)→kA P w0 c (lab g) (nW (Jump lab M S H J (fun _=>True) f) K) f' (H g))→
   Cw P w0 c f L (nW (Jump lab M S H J (fun _=>True) f) K)):Cw P w0 (.scope c) f L K:=by
 refine Cw.scopeG lab M S H J μ (first fun g f' hg hf=> ?_) fun g j hg=>Gp c _ _ (hl g) (pass g j hg)
 have:=pass g (eC f') hg
 rw[←hf] at this
 refine Gk c _ _ _ ?_ _ _ this
 intro e f L hh
 cases e with
 |goto i=>obtain⟨g',h1,-,h3⟩:=hh;exact⟨g',h1,trivial,h3⟩
 |_=>exact hh
theorem Cw.scopeS {c:Code} (h:Cw P w0 c f L (nW (fun _ _ _=>False) K)):Cw P w0 (.scope c) f L K:=by
 intro w hw
 refine wp_scope_straight (wp_mono (h w hw) ?_)
 rintro e a w' ⟨hd,L',hp,k⟩
 cases e with
 |goto i=>exact k.elim
 |_=>exact⟨hd,L',hp,k⟩
end
end Go.Sx
section
namespace Go.Sx
open Go
set_option linter.unusedSimpArgs false
theorem bL {L M:aA} {b:Nat} {o:Obj} (h:look L b=some o):look (L++M) b=some o:=by
 induction L with
 |nil=>cases h
 |cons p r ih=>
  obtain⟨c,x⟩:=p
  simp only[List.cons_append,look] at h ⊢
  split
  ·rename_i e;rw[if_pos e] at h;exact h
  ·rename_i e;rw[if_neg e] at h;exact ih h
theorem gi {L M:aA} {b:Nat} (h:b∉keys L):look (L++M) b=look M b:=by
 induction L with
 |nil=>rfl
 |cons p r ih=>
  obtain⟨c,x⟩:=p
  simp only[keys,List.map_cons,List.mem_cons,not_or] at h
  simp only[List.cons_append,look]
  rw[if_neg (fun e=>h.1 e.symm)]
  exact ih h.2
theorem jK {L:aA} {b:Nat} {x o:Obj} (h:look L b=some o):look (setB L b x) b=some x:=by
 induction L with
 |nil=>cases h
 |cons p r ih=>
  obtain⟨c,y⟩:=p
  simp only[look] at h
  simp only[setB]
  split
  ·simp[look, *]
  ·rename_i e
   rw[if_neg e] at h
   simp only[look]
   rw[if_neg e]
   exact ih h
theorem eO {L:aA} {b c:Nat} {x:Obj} (h:b≠c):look (setB L b x) c=look L c:=by
 induction L with
 |nil=>rfl
 |cons p r ih=>
  obtain⟨d,y⟩:=p
  simp only[setB]
  split
  ·rename_i e
   subst e
   simp[look,h]
  ·simp only[look]
   split
   ·rfl
   ·exact ih
theorem cJ {L:aA} {b:Nat} {o:Obj} (h:look L b=some o):b∈keys L:=List.mem_map.2 ⟨_,cO h,rfl⟩
theorem F6 {L:aA} {b:Nat} (h:b∈keys L): ∃o,look L b=some o:=by
 cases hl:look L b with
 |some o=>exact⟨o,rfl⟩
 |none=>exact absurd h (Ej hl)
theorem aY {w0:World} {L:aA} {b:Nat} {o:Obj} (h:look L b=some o):aP w0 L b=some o:=by
 unfold aP;rw[h]
theorem bM (L M:aA):keys (L++M)=keys L++keys M:=List.map_append
theorem ae {L:aA} {n b:Nat} (h:eS L n) (hb:b∈keys L):b<n:=by
 induction L with
 |nil=>cases hb
 |cons p r ih=>
  obtain⟨c,y⟩:=p
  simp only[keys,List.map_cons,List.mem_cons] at hb
  rcases hb with rfl|hb
  ·exact h.1
  ·exact ih h.2 hb
theorem Aj (vs:List Value): ∀ (A B:List Value),vs.length≤B.length→fJ (A++B).toArray A.length vs=(A++vs++B.drop vs.length).toArray:=by
 induction vs with
 |nil=>intro A B _;simp[fJ]
 |cons v r ih=>
  intro A B h
  cases B with
  |nil=>simp at h
  |cons x B=>
   have e: (A++x::B).toArray.setIfInBounds A.length v=((A++ [v])++B).toArray:=by
    rw[List.setIfInBounds_toArray]
    simp
   have h':=ih (A++ [v]) B (by simpa using h)
   simp only[List.length_append,List.length_cons,List.length_nil,Nat.zero_add] at h'
   rw[fJ,e,h']
   simp
theorem zB (N:Nat): ∀r c,c≤2*N+768→Builtin.growBy N r c≤2*N+768
 |0,c,h=>h
 |r+1,c,h=>by
  unfold Builtin.growBy
  split
  ·exact h
  ·exact zB N r _ (by omega)
theorem wH_ {N c:Nat} (h:c<N):Builtin.nextslicecap N c≤2*N+768:=by
 unfold Builtin.nextslicecap
 split
 ·omega
 ·split
  ·omega
  ·exact zB N 4 c (by omega)
structure AppX (P:Program) (w:World) (size:Nat) (x:Value) (k:Nat) (new:List Value):Prop where
 len: (Builtin.lenOf x).run P w= .ok k w
 cells: (Builtin.firstCells size k x).run P w= .ok new.toArray w
 one:new.all Value.oneCell'=true
 size:new.length=k*size
theorem AppX.text (P:Program) (w:World) (l:List UInt8):AppX P w 1 (vs l) l.length (l.map v8):=by
 refine⟨?_, ?_, ?_,by simp⟩
 ·simp only[vs,Builtin.lenOf,sm];rfl
 ·simp only[vs,Builtin.firstCells]
  show Result.ok _ w=_
  congr 1
  have: ((ByteArray.mk l.toArray).extract 0 l.length).data=l.toArray:=by
   rw[ByteArray.data_extract]
   simp
  rw[this]
  simp[v8]
 ·rw[List.all_map,List.all_eq_true];intro x _;rfl
def px (P:Program) (e:TypeId):Bool:=match P.info? e with
 |some i=>i.bytes !=0&&decide (i.bytes≤1024)
 |none=>false
theorem I0 {P:Program} {e:TypeId} {j:Nat} (h:px P e=true) (hj:j≤2^38): ∃i,P.info? e=some i∧i.bytes≠0∧j*i.bytes≤2^48:=by
 unfold px at h
 cases hi:P.info? e with
 |none=>rw[hi] at h;cases h
 |some i=>
  rw[hi] at h
  simp only[Bool.and_eq_true,bne_iff_ne,ne_eq,decide_eq_true_eq] at h
  refine⟨i,rfl,h.1, ?_⟩
  calc j*i.bytes≤2^38*1024:=Nat.mul_le_mul hj h.2
   _=2^48:=by decide
theorem qB (L:aA) (k:aA→Prop):nh L k=k L:=(rfl)
inductive Buf (L:aA) (E:TypeId) (size:Nat):Value→Nat→List Value→Prop
 |nl:Buf L E size (.slice none 0 0) 0 []
 |at_ {b n c:Nat} {cs rest:List Value} (hl:look L b=some (.cells (cs++rest).toArray E (0,0))) (h1:cs.length=n*size) (h2:rest.length=(c - n)*size) (h3:n≤c) (h4:0<c):
  Buf L E size (vsl b 0 n c) n cs
def slB:Value→Option Nat
 | .slice (some a) _ _=>some a.block
 |_=>none
theorem Buf.keep {L L':aA} {E:TypeId} {size n:Nat} {v:Value} {cs:List Value} (h:Buf L E size v n cs) (hk: ∀b o,slB v=some b→look L b=some o→look L' b=some o):Buf L' E size v n cs:=by
 cases h with
 |nl=>exact .nl
 |at_ hl h1 h2 h3 h4=>exact .at_ (hk _ _ rfl hl) h1 h2 h3 h4
theorem Buf.setO {L:aA} {E:TypeId} {size n b:Nat} {v:Value} {cs:List Value} {x:Obj} (h:Buf L E size v n cs) (hb:slB v≠some b):Buf (setB L b x) E size v n cs:=
 h.keep fun c o hc ho=>by rw[eO (fun e:b=c=>hb (by rw[e];exact hc))];exact ho
theorem Buf.app {L M:aA} {E:TypeId} {size n:Nat} {v:Value} {cs:List Value} (h:Buf L E size v n cs):Buf (L++M) E size v n cs:=h.keep fun _ _ _ ho=>bL ho
theorem Buf.cell {L:aA} {E:TypeId} {size n:Nat} {v:Value} {cs:List Value} (h:Buf L E size v n cs):Value.oneCell' v=true∧v.cells= #[v]:=by
 cases h<;>exact⟨rfl,rfl⟩
theorem Buf.len {L:aA} {E:TypeId} {size n:Nat} {v:Value} {cs:List Value} (h:Buf L E size v n cs) (x:Bool×Nat):gP (.sl x) v=some (vi n):=by
 cases h<;>rfl
theorem Buf.inv {L:aA} {E:TypeId} {size n:Nat} {v:Value} {cs:List Value} (h:Buf L E size v n cs): (v= .slice none 0 0∧n=0∧cs= [])∨
  ∃b c rest,v=vsl b 0 n c∧look L b=some (.cells (cs++rest).toArray E (0,0))∧cs.length=n*size∧n≤c∧0<c∧rest.length=(c - n)*size:=by
 cases h with
 |nl=>exact .inl ⟨rfl,rfl,rfl⟩
 |at_ hl h1 h2 h3 h4=>exact .inr ⟨_,_,_,rfl,hl,h1,h3,h4,h2⟩
theorem pB {L:aA} {b:Nat} {o:Obj} (h:eS L b):look (L++ [(b,o)]) b=some o:=by
 rw[gi (fun hm=>Nat.lt_irrefl _ (ae h hm))];simp[look]
structure Grew (w0:World) (v:Value) (L L':aA):Prop where
 keys: ∀c,c∈keys L→c∈keys L'
 new: ∀c,c∈Sx.keys L'→c∈Sx.keys L∨(eS L c∧w0.heap.size≤c)
 look: ∀c o,slB v≠some c→Sx.look L c=some o→Sx.look L' c=some o
theorem Grew.refl (w0:World) (v:Value) (L:aA):Grew w0 v L L:=⟨fun _ h=>h,fun _ h=> .inl h,fun _ _ _ h=>h⟩
section
variable {P:Program} {w0:World} {L:aA}
theorem H4 {w:World} {ts tx ty e:TypeId} {m:Bool×Nat} {z s x:Value} {n k:Nat} {cs new:List Value} (hw:Hp w0 L w)
  (hu:P.underlying ts=some (.slice e)) (hm:aM P e=some m) (hi:px P e=true) (hz:am P e=some z) (kN:z.cells.size=m.2) {d:TypeDesc} (iS:P.underlying tx=some d) (dO: ∀k,d≠ .int k)
  (hB:Buf L e m.2 s n cs) (wy: ∀w,Hp w0 L w→AppX P w m.2 x k new) (cb:2* (n+k)+768≤2^38):
  ∃v' w' L',(Builtin.append_ #[ts,tx] ty #[s,x]).run P w= .ok v' w'∧Hp w0 L' w'∧Buf L' e m.2 v' (n+k) (cs++new)∧Grew w0 s L L'∧(slB v'=slB s∨ ∃c,slB v'=some c∧eS L c):=by
 obtain⟨i,hi,fT,cb⟩:=I0 hi cb
 have GB: ∀w,(typeInfo e).run P w= .ok i w:=by
  intro w
  simp only[typeInfo,program,Sem.run_bind]
  show Result.andThen (Result.ok P w) _=_
  simp only[Result.andThen_ok,hi]
  rfl
 have oM: (match d with| .int _=>true|_=>false)=false:=by
  cases d<;>first|rfl|exact absurd rfl (dO _)
 have e1: ∀ {α β:Type} (a:α) (f:α→World→Result β),(Sem.run P (pure a) w).andThen f=f a w:=fun _ _=>rfl
 have hX:=wy w hw
 have gp:=hX.len
 have GG:=hX.cells
 have sb:=sr (P:=P) hz
 have room: ∀ (b:Nat) (w:World),(askRoom b).run P w= .ok () w:=by
  intro b w
  unfold askRoom
  split<;>rfl
 have zc: ∀j,(Builtin.zeroCells z.cells j).toList.length=j*m.2:=by
  intro j;simp[Builtin.zeroCells,kN]
 have Fj: ∀c,c<n+k→ ¬ (Builtin.nextslicecap (n+k) c*i.bytes>2^48):=by
  intro c hc
  have:=wH_ hc
  have h2:=Nat.mul_le_mul_right i.bytes this
  omega
 cases hB with
 |nl=>
  by_cases hk:k=0
  ·subst hk
   have j3:new= []:=List.eq_nil_of_length_eq_zero (by have:=hX.size;omega)
   subst j3
   refine⟨.slice none 0 0,w,L, ?_,hw, .nl,Grew.refl _ _ _, .inl rfl⟩
   simp only[Builtin.append_,List.getElem?_toArray,List.getElem?_cons_zero,List.getElem?_cons_succ,Sem.run_bind,run_underlying hu w,Result.andThen_ok,gO hm w,run_underlying iS w,oM,e1,Bool.false_eq_true, ↓reduceIte,gp,Bool.not_false,Nat.add_zero,Nat.le_refl,GG]
   rfl
  ·have w4: ¬0+k≤0:=by omega
   have oB:=Fj 0 (by omega)
   simp only[Builtin.append_,List.getElem?_toArray,List.getElem?_cons_zero,List.getElem?_cons_succ,Sem.run_bind,run_underlying hu w,Result.andThen_ok,gO hm w,run_underlying iS w,oM,e1,Bool.false_eq_true, ↓reduceIte,gp,Bool.not_false,w4,GB,fT,or_false,and_false,oB]
   have DO: (choose (Question.appendCap (0+k) 0 e)).run P w= .ok ((0+k)+w.tape w.drawn (.appendCap (0+k) 0 e)% (2^63 - (0+k))) w.drew:=rfl
   rw[DO]
   generalize lB: (0+k)+w.tape w.drawn (.appendCap (0+k) 0 e)% (2^63 - (0+k))=c
   have aF:=hw.drew
   have Cy:=wy _ aF
   have fy: (Builtin.firstCells m.2 0 (Value.slice none 0 0)).run P w.drew= .ok #[] w.drew:=rfl
   simp only[Result.andThen_ok,room,fy,Cy.cells,sb]
   refine⟨_,_,L++ [(w.drew.heap.size, .cells ([]++new++ (Builtin.zeroCells z.cells (c - (0+k))).toList).toArray e (0,0))],rfl, ?_, .at_ (b:=w.drew.heap.size) (rest:=(Builtin.zeroCells z.cells (c - (0+k))).toList) ?_ ?_ ?_ (by omega) (by omega), ?_, .inr ⟨_,rfl,gh fun b hb=>aF.lt hb⟩⟩
   ·have ea: ([]++new++ (Builtin.zeroCells z.cells (c - (0+k))).toList).toArray= #[]++new.toArray++Builtin.zeroCells z.cells (c - (0+k)):=by apply Array.ext';simp
    rw[ea]
    exact aF.alloc _
   ·rw[gi (fun hm=>Nat.lt_irrefl _ (aF.lt hm))]
    simp[look]
   ·rw[List.nil_append,hX.size,Nat.zero_add]
   ·exact zc _
   ·refine⟨fun c hc=>by rw[bM];exact List.mem_append_left _ hc,fun c hc=> ?_,fun c o aO ho=>bL ho⟩
    rw[bM] at hc
    rcases List.mem_append.1 hc with hc|hc
    ·exact .inl hc
    ·right
     simp only[keys,List.map_cons,List.map_nil,List.mem_singleton] at hc
     subst hc
     exact⟨gh fun b hb=>aF.lt hb,aF.size⟩
 | @at_ b n c cs rest hl h1 h2 h3 h4=>
  have Zt:=hw.has _ _ (cO hl)
  by_cases mX:n+k≤c
  ·have aD:=(Array.getElem?_eq_some_iff.1 Zt).1
   have g5:=hX.size
   have bF:=Ge (P:=P) (b:=b) (off:=n*m.2) (E:=e) (fz:=(0,0)) new 0 (cs++rest).toArray w Zt (by
    simp only[List.size_toArray,List.length_append,h1,h2,g5,Nat.add_zero]
    rw[←Nat.add_mul,←Nat.add_mul]
    exact Nat.mul_le_mul_right _ (by omega)) (.inl (Nat.le_refl 0)) hX.one
   simp only[Builtin.append_,List.getElem?_toArray,List.getElem?_cons_zero,List.getElem?_cons_succ,Sem.run_bind,run_underlying hu w,Result.andThen_ok,gO hm w,run_underlying iS w,oM,e1,Bool.false_eq_true, ↓reduceIte,gp,Bool.not_false,mX,GG,ml,Nat.zero_add,bF,vsl]
   rw[Nat.add_zero,←h1,Aj new cs rest (by rw[h2,g5];exact Nat.mul_le_mul_right _ (by omega))]
   refine⟨vsl b 0 (n+k) c,_,setB L b (.cells (cs++new++rest.drop new.length).toArray e (0,0)),rfl,hw.set (cJ hl) rfl rfl rfl rfl, .at_ (jK hl) ?_ ?_ mX h4, ?_, .inl rfl⟩
   ·rw[List.length_append,h1,g5,Nat.add_mul]
   ·rw[List.length_drop,h2,g5,←Nat.sub_mul]
    congr 1
    omega
   ·refine⟨fun c hc=>by rw[pg];exact hc,fun c hc=>by rw[pg] at hc;exact .inl hc,fun c o aO ho=> ?_⟩
    rw[eO (fun e=>aO (by rw[←e];rfl))]
    exact ho
  ·have oB:=Fj c (by omega)
   simp only[Builtin.append_,List.getElem?_toArray,List.getElem?_cons_zero,List.getElem?_cons_succ,Sem.run_bind,run_underlying hu w,Result.andThen_ok,gO hm w,run_underlying iS w,oM,e1,Bool.false_eq_true, ↓reduceIte,gp,Bool.not_false,mX,GB,fT,or_false,and_false,oB,vsl]
   have DO: (choose (Question.appendCap (n+k) c e)).run P w= .ok ((n+k)+w.tape w.drawn (.appendCap (n+k) c e)% (2^63 - (n+k))) w.drew:=rfl
   rw[DO]
   generalize lB: (n+k)+w.tape w.drawn (.appendCap (n+k) c e)% (2^63 - (n+k))=c2
   have aF:=hw.drew
   have Cy:=wy _ aF
   have fy: (Builtin.firstCells m.2 n (Value.slice (some ⟨b,0,none⟩) n c)).run P w.drew= .ok cs.toArray w.drew:=by
    simp only[Builtin.firstCells]
    rw[GJ (aF.has _ _ (cO hl)) 0 (n*m.2) (by simp only[List.size_toArray,List.length_append,h1];omega)]
    congr 1
    simp only[Nat.zero_add,List.extract_toArray,←h1]
    simp
   simp only[Result.andThen_ok,room,fy,Cy.cells,sb]
   refine⟨_,_,L++ [(w.drew.heap.size, .cells (cs++new++ (Builtin.zeroCells z.cells (c2 - (n+k))).toList).toArray e (0,0))],rfl, ?_, .at_ (b:=w.drew.heap.size) (rest:=(Builtin.zeroCells z.cells (c2 - (n+k))).toList) ?_ ?_ ?_ (by omega) (by omega), ?_, .inr ⟨_,rfl,gh fun b hb=>aF.lt hb⟩⟩
   ·have ea: (cs++new++ (Builtin.zeroCells z.cells (c2 - (n+k))).toList).toArray=cs.toArray++new.toArray++Builtin.zeroCells z.cells (c2 - (n+k)):=by apply Array.ext';simp
    rw[ea]
    exact aF.alloc _
   ·rw[gi (fun hm=>Nat.lt_irrefl _ (aF.lt hm))]
    simp[look]
   ·rw[List.length_append,h1,hX.size,Nat.add_mul]
   ·exact zc _
   ·refine⟨fun c hc=>by rw[bM];exact List.mem_append_left _ hc,fun c hc=> ?_,fun c o aO ho=>bL ho⟩
    rw[bM] at hc
    rcases List.mem_append.1 hc with hc|hc
    ·exact .inl hc
    ·right
     simp only[keys,List.map_cons,List.map_nil,List.mem_singleton] at hc
     subst hc
     exact⟨gh fun b hb=>aF.lt hb,aF.size⟩
theorem AppX.block {b off k cap size:Nat} {arr:Array Value} {E:TypeId} {fz:Nat×Nat} {new:List Value} (hr:aP w0 L b=some (.cells arr E fz)) (hn:off+k*size≤arr.size) (hc: (arr.extract off (off+k*size)).toList=new)
  (h1:new.all Value.oneCell'=true) {w:World} (hw:Hp w0 L w):AppX P w size (vsl b off k cap) k new:=by
 refine⟨rfl, ?_,h1, ?_⟩
 ·simp only[vsl,Builtin.firstCells]
  rw[GJ (hw.read hr) off (k*size) hn,←hc]
 ·rw[←hc];simp;omega
theorem AppX.nil (P:Program) (w:World) (size:Nat):AppX P w size (.slice none 0 0) 0 []:=⟨rfl,rfl,rfl,by simp⟩
theorem YL {b:Nat} {E:TypeId} {fz:Nat×Nat} {arr:Array Value} {w:World} (hb:w.heap[b]? =some (.cells arr E fz)): ∀ (l:List UInt8) (off:Nat) (acc:ByteArray),(∀j,j<l.length→arr[off+j]? =some (v8 (l.getD j 0)))→
  (loadBytes ⟨b,off,none⟩ acc l.length).run P w= .ok (acc++ ⟨l.toArray⟩) w
 | [],off,acc,_=>by
  show Result.ok acc w=_
  congr 1
  apply ByteArray.ext
  simp
 |x::l,off,acc,h=>by
  have h0:=h 0 (by simp)
  simp only[Nat.add_zero,List.getD_cons_zero] at h0
  have hc:w.cell? ⟨b,off,none⟩=some (v8 x):=by rw[cell_of_row w b _ arr E fz hb];exact h0
  have rA: (load ⟨b,off,none⟩).run P w= .ok (v8 x) w:=by
   simp only[load,Sem.run,hc]
  rw[List.length_cons,loadBytes,Sem.run_bind,rA,Result.andThen_ok]
  simp only[v8,ml]
  have e: ((x.toNat:Int).toNat.toUInt8)=x:=by
   rw[Int.toNat_natCast]
   exact UInt8.ofNat_toNat
  rw[e,YL hb l (off+1) _ (fun j hj=>by
   have:=h (j+1) (by simpa using hj)
   rw[List.getD_cons_succ] at this
   rw[←this];congr 1;omega)]
  congr 1
  apply ByteArray.ext
  simp
theorem Np {p:Program} {e:TypeId} {c n:Nat} (hd:1<p.depth) (hs:p.cellsOf e=1) (hn:n≤c):liesAt p p.depth e (c / p.cellsOf e) 0 e n=true:=by
 obtain⟨d,iz⟩: ∃d,p.depth=d+2:=⟨p.depth - 2,by omega⟩
 have cN:sameLayout p p.depth e e=true:=by
  rw[iz];unfold sameLayout;simp
 rw[iz] at cN ⊢
 unfold liesAt
 rw[iz]
 unfold rowAt
 simp[hs,hn,cN]
theorem XH_ {w:World} {pt it ty e:TypeId} {b:Nat} {l:List UInt8} {rest:List Value} (hw:Hp w0 L w) (hl:look L b=some (.cells (l.map v8++rest).toArray e (0,0))) (h0:0<l.length) (Dg: (l.length:Int)≤9223372036854775807)
  (ee:P.underlying pt=some (.pointer e)) (hs:P.cellsOf e=1) (hd:1<P.depth):
  ∃w',(Builtin.unsafeString_ #[pt,it] ty #[vp b 0,vi l.length]).run P w= .ok (vs l) w'∧Hp w0 (setB L b (.cells (l.map v8++rest).toArray e (0,l.length))) w':=by
 have hb:=hw.has _ _ (cO hl)
 have e1: ∀ {α β:Type} (a:α) (f:α→World→Result β),(Sem.run P (pure a) w).andThen f=f a w:=fun _ _=>rfl
 have r9:=YL (P:=P) hb l 0 .empty (by
  intro j hj
  rw[Nat.zero_add,List.getElem?_toArray,List.getElem?_append_left (by simpa using hj),List.getElem?_map,List.getD_eq_getElem?_getD,List.getElem?_eq_getElem hj]
  rfl)
 have Xo: (variablesAt ⟨b,0,none⟩ e l.length).run P w= .ok true w:=by
  have g4:w.shape? b=some (e,(l.map v8++rest).toArray.size):=by
   simp only[World.shape?,hb]
  have hp:liesAt P P.depth e ((l.map v8++rest).toArray.size / P.cellsOf e) 0 e l.length=true:=Np hd hs (by simp)
  simp only[variablesAt,program,shape,Sem.run_bind]
  show Result.andThen (Result.ok P w) _=_
  simp only[Result.andThen_ok]
  show Result.andThen (Result.ok (w.shape? b) w) _=_
  rw[g4]
  simp only[Result.andThen_ok]
  rw[hp]
  rfl
 have jo: (elemOf pt).run P w= .ok e w:=by
  simp only[elemOf,Sem.run_bind,run_underlying ee w,Result.andThen_ok]
  rfl
 refine⟨w.freeze ⟨b,0,none⟩ l.length, ?_, ?_⟩
 ·have X9: ¬ ((l.length:Int)<0):=by omega
  have kG: ¬ ((l.length:Int)>IntKind.i64.max):=by
   show¬ ((l.length:Int)>9223372036854775807);omega
  have hnz: ¬ ((l.length:Int)=0):=by omega
  have hai: (asInt (vi l.length)).run P w= .ok (l.length:Int) w:=rfl
  rw[show vp b 0= .pointer (some ⟨b,0,none⟩) from rfl]
  show Sem.run P (asInt (vi l.length)>>=_) w=_
  simp only[Sem.run_bind,hai,Result.andThen_ok,List.getElem?_toArray,List.getElem?_cons_zero,X9,kG,hnz, ↓reduceIte,jo,Int.toNat_natCast,Xo,r9]
  show Result.ok (Value.string (ByteArray.empty++ ⟨l.toArray⟩)) _=_
  congr 2
 ·have aO: ¬l.length=0:=by omega
  have aD:=(Array.getElem?_eq_some_iff.1 hb).1
  refine hw.set (cJ hl) ?_ ?_ ?_ ?_<;>simp only[World.freeze,aO, ↓reduceIte]
  apply Array.ext_getElem?
  intro i
  rw[Array.getElem?_modify]
  by_cases hi:b=i
  ·subst hi
   rw[if_pos rfl,hb]
   simp[aD]
  ·rw[if_neg hi,Array.getElem?_setIfInBounds_ne hi]
end
section
variable {P:Program} {w0:World} {f:Fr} {L:aA} {N:Fr→aA→Prop} {ops:Array Oper} {rest:List Oper} {md:Md}
 {d:Option Tmp} {ty:TypeId} {ps:String} {af:Array Edge} {g:Option (Nat×Bool)}
theorem Ow.append {ts tx e:TypeId} {m:Bool×Nat} {z:Value} {s x:Operand} {n k:Nat} {cs new:List Value} {dx:TypeDesc} {md':Md} (sv:Value) (gH:ev f s=sv) (he:md.turn=some md')
  (hs:bA ops f ⟨d, .call ⟨.builtin .append, #[s,x], #[ts,tx]⟩,ty,ps,af,g⟩=false)
  (hu:P.underlying ts=some (.slice e)) (hm:aM P e=some m) (hi:px P e=true) (hz:am P e=some z) (kN:z.cells.size=m.2) (iS:P.underlying tx=some dx) (dO: ∀k,dx≠ .int k)
  (hB:Buf L e m.2 sv n cs) (hX: ∀w,Hp w0 L w→AppX P w m.2 (ev f x) k new) (cb:2* (n+k)+768≤2^38)
  (hn: ∀v' L',Buf L' e m.2 v' (n+k) (cs++new)→Grew w0 sv L L'→(slB v'=slB sv∨ ∃c,slB v'=some c∧eS L c)→Ow P w0 ops md' rest (aS f d v') L' N):
  Ow P w0 ops md (⟨d, .call ⟨.builtin .append, #[s,x], #[ts,tx]⟩,ty,ps,af,g⟩::rest) f L N:=by
 subst gH
 refine Ow.step he rfl hs fun w hw=> ?_
 obtain⟨v',w',L',hr,hp,hb,hg,cN⟩:=H4 (ty:=ty) hw hu hm hi hz kN iS dO hB hX cb
 refine .inl ⟨v',w',L', ?_,hp,hn v' L' hb hg cN⟩
 simp only[execOp,resolve,Sem.run_bind,Sem.run_pure,Result.andThen_ok,invoke,builtin,List.map_toArray,List.map_cons,List.map_nil]
 rw[hr]
 rfl
theorem Ow.unsafeString {pt it e:TypeId} {x y:Operand} {b:Nat} {l:List UInt8} {rs:List Value} {md':Md} (he:md.turn=some md')
  (hs:bA ops f ⟨d, .call ⟨.builtin .unsafeString, #[x,y], #[pt,it]⟩,ty,ps,af,g⟩=false)
  (hx:ev f x=vp b 0) (hy:ev f y=vi l.length) (hl:look L b=some (.cells (l.map v8++rs).toArray e (0,0))) (h0:0<l.length) (Dg: (l.length:Int)≤9223372036854775807)
  (ee:P.underlying pt=some (.pointer e)) (hc:P.cellsOf e=1) (hd:1<P.depth)
  (hn:Ow P w0 ops md' rest (aS f d (vs l)) (setB L b (.cells (l.map v8++rs).toArray e (0,l.length))) N):
  Ow P w0 ops md (⟨d, .call ⟨.builtin .unsafeString, #[x,y], #[pt,it]⟩,ty,ps,af,g⟩::rest) f L N:=by
 refine Ow.step he rfl hs fun w hw=> ?_
 obtain⟨w',hr,hp⟩:=XH_ (it:=it) (ty:=ty) hw hl h0 Dg ee hc hd
 refine .inl ⟨vs l,w',_, ?_,hp,hn⟩
 simp only[execOp,resolve,Sem.run_bind,Sem.run_pure,Result.andThen_ok,invoke,builtin,List.map_toArray,List.map_cons,List.map_nil,hx,hy]
 rw[hr]
 rfl
theorem Ow.unsafeStringNil {pt it:TypeId} {x y:Operand} {md':Md} (he:md.turn=some md')
  (hs:bA ops f ⟨d, .call ⟨.builtin .unsafeString, #[x,y], #[pt,it]⟩,ty,ps,af,g⟩=false)
  {p:Option Addr} (hx:ev f x= .pointer p) (hy:ev f y=vi 0)
  (hn:Ow P w0 ops md' rest (aS f d (vs [])) L N):
  Ow P w0 ops md (⟨d, .call ⟨.builtin .unsafeString, #[x,y], #[pt,it]⟩,ty,ps,af,g⟩::rest) f L N:=by
 refine Ow.step he rfl hs fun w hw=> ?_
 refine .inl ⟨vs [],w,L, ?_,hw,hn⟩
 simp only[execOp,resolve,Sem.run_bind,Sem.run_pure,Result.andThen_ok,invoke,builtin,List.map_toArray,List.map_cons,List.map_nil,hx,hy]
 cases p<;>rfl
theorem Ow.sliceData {t:TypeId} {x:Operand} {v:Value} {md':Md} (he:md.turn=some md')
  (hs:bA ops f ⟨d, .call ⟨.builtin .unsafeSliceData, #[x], #[t]⟩,ty,ps,af,g⟩=false)
  (hx: (∃n c,ev f x= .slice none n c∧v= .pointer none)∨ ∃b n c,ev f x=vsl b 0 n c∧c≠0∧v=vp b 0)
  (hn:Ow P w0 ops md' rest (aS f d v) L N):
  Ow P w0 ops md (⟨d, .call ⟨.builtin .unsafeSliceData, #[x], #[t]⟩,ty,ps,af,g⟩::rest) f L N:=by
 refine Ow.step he rfl hs fun w hw=> ?_
 refine .inl ⟨v,w,L, ?_,hw,hn⟩
 simp only[execOp,resolve,Sem.run_bind,Sem.run_pure,Result.andThen_ok,invoke,builtin,List.map_toArray,List.map_cons,List.map_nil]
 rcases hx with⟨n,c,hx,rfl⟩ | ⟨b,n,c,hx,hc,rfl⟩
 ·rw[hx];rfl
 ·rw[hx]
  have e:Builtin.unsafeSliceData_ #[t] ty #[vsl b 0 n c]=(if c≠0 then pure (.pointer (some ⟨b,0,none⟩)) else do
    if(←viewAt b).isSome then pure (.pointer (some ⟨b,0,none⟩)) else pure (.pointer (some ⟨←newObj (.view ⟨b,0,none⟩ (←elemOf ty)),0,none⟩))):=rfl
  rw[e,if_pos hc]
  rfl
end
end Go.Sx
end
namespace Go.Sx
open Go
section
variable {P:Program} {w0:World} {f:Fr} {L:aA} {N:Fr→aA→Prop} {K:cM} {l:List Oper} {listed:List Bool} {n:Nat} {R ts:List Nat} {a d:Nat} {z:Obj}
theorem Md.next_sofnil (R ts:List Nat): (Md.sof R [] ts).next= .sof R [] ts:=(rfl)
theorem Is {Q:Exit→Act→World→Prop} {o:Oper} {x:Act} {d:Option Tmp} {v:Value} {K:Act→World→Prop} (hd: ∀t,d=some t→o.dst≠some t)
  (hQ: ∀c a w,Q (.panic c) a w→Q (.panic c) (a.put d v) w) (r:Result Next) (h:o.upon P x (fun a' w'=>K (a'.put d v) w') Q r):
  o.upon P (x.put d v) K Q r:=by
 have comm: ∀u,(x.put o.dst u).put d v=(x.put d v).put o.dst u:=fun u=>(Act.put_comm x v u hd).symm
 match r,h with
 | .ok (.value u) _,h=>show K _ _;rw[←comm];exact h
 | .ok .skip _,h=>show K _ _;rw[←comm];exact h
 | .ok (.defer e) w',h=>
  have h':K ((({x with defers:=e::x.defers}:Act).put o.dst undef).put d v) w':=h
  rw[←Act.put_comm _ v undef hd,←Act.put_defers] at h'
  exact h'
 | .ok (.enter f args) _,h=>
  refine Calls.mono h fun e w'' he=> ?_
  match e,he with
  | .returned u,he=>show K _ _;rw[←comm];exact he
  | .panicked c,he=>exact hQ _ _ _ he
  | .outgrown,he=>exact he
 | .ok (.row row args) _,h=>exact Rows.mono h fun u w'' he=>by rw[←comm];exact he
 | .halt (.panic u) _,h=>exact hQ _ _ _ h
theorem Iu {ops:Array Oper} {Q:Exit→Act→World→Prop} {j:Nat} {oj:Oper} {d:Option Tmp} {v:Value} (hj:ops[j]? =some oj) (h1: ∀t,d=some t→t∉oj.looksAt ops) (h2: ∀t,d=some t→oj.dst≠some t) (E3: ∀cs b,oj.op≠ .select cs b)
  (hQ: ∀c a w,Q (.panic c) a w→Q (.panic c) (a.put d v) w) {K:Act→World→Prop} {x:Act} {w:World}
  (h:wpOp P ops Q j (fun a' w'=>K (a'.put d v) w') x w):wpOp P ops Q j K (x.put d v) w:=by
 unfold wpOp at h ⊢
 simp only[hj] at h ⊢
 rw[wanted_put oj x d v h1]
 cases hw:Region.wanted oj (yielded ops x.tmps) with
 |true=>
  rw[hw] at h
  simp only[if_true] at h ⊢
  rcases h with h| ⟨sE,hl⟩
  ·left
   unfold Oper.wp at h ⊢
   rw[execOp_put oj E3 x d v h1]
   exact Is h2 hQ _ h
  ·right
   exact⟨by unfold Oper.asks at*;rwa [execOp_put oj E3 x d v h1],hl⟩
 |false=>
  rw[hw] at h
  simp only[Bool.false_eq_true,if_false] at h ⊢
  rw[Act.put_comm x v undef h2]
  exact h
structure Drift (P:Program) (l:List Oper) (ts:List Nat) (a d:Nat) (z:Obj):Prop where
 here: ∃oa t zv,l.toArray[a]? =some oa∧oa.op= .alloc t∧oa.dst=some d∧oa.guard=none∧am P t=some zv∧z= .cells zv.cells t
 ts:a∉ts
 sel:Region.noSelect l.toArray=true
def OwD (P:Program) (w0:World) (l:List Oper) (R ts:List Nat) (a d:Nat) (z:Obj) (n:Nat) (listed:List Bool) (f:Fr) (L:aA) (N:Fr→aA→Prop):Prop:=
 (∀w,Hp w0 L w→kU P l.toArray (eU w0 N) ts (SR w0 R L) (n+1) listed.toArray (act f) w)∧
 (∀b w,w0.heap.size≤b→b∉keys L→Hp w0 (L++ [(b,z)]) w→kU P l.toArray (eU w0 N) ts (SR w0 R L) n (listed.set a true).toArray (act (setF f d (vp b 0))) w)
theorem SR.ofE {w:World} {b:Nat} (hb:w0.heap.size≤b) (h:Hp w0 (L++ [(b,z)]) w):SR w0 R L w:=by
 intro r _ o ho
 unfold aP at ho
 split at ho
 ·rename_i o' hl
  cases ho
  exact h.has _ _ (List.mem_append_left _ (cO hl))
 ·rename_i hl
  have aD:=(Array.getElem?_eq_some_iff.1 ho).1
  rw[h.old r aD ?_];exact ho
  intro hm
  simp only[keys,List.map_append,List.map_cons,List.map_nil,List.mem_append,List.mem_singleton] at hm
  rcases hm with hm|hm
  ·exact Ej hl hm
  ·omega
theorem OQ {c:List PanicEntry} {x x':Act} {w:World} (h:eU w0 N (.panic c) x w):eU w0 N (.panic c) x' w:=lb h
theorem Hp.perm {w:World} {M:aA} (h:Hp w0 L w) (hp:M.Perm L):Hp w0 M w:=
 h.same (fun _=>hp.mem_iff) ((List.Perm.nodup_iff (hp.map Prod.fst)).2 h.nodup)
def chkD (P:Program) (l:List Oper) (ts:List Nat) (a:Nat):List Nat→List Bool→Option (List Bool)
 | [],listed=>some listed
 |k::is,listed=>
  match dG l k,dG l a with
  |some o,some oa=>if k !=a&& !ts.contains k&& (ts.all fun t=> !listed.toArray.getD t true&& !(listed.set a true).toArray.getD t true)&& (Region.ready .any l.toArray listed.toArray).contains k&&Region.free .any l.toArray listed.toArray k&&
    (Region.ready .any l.toArray (listed.set a true).toArray).contains k&&Region.free .any l.toArray (listed.set a true).toArray k&&o.apart l.toArray oa&&
    (fY P o.op|| (pF o.op&&tB l.toArray ts listed.toArray k&&tB l.toArray ts (listed.set a true).toArray k)) then chkD P l ts a is (listed.set k true) else none
  |_,_=>none
theorem OwD.step {k:Nat} {o:Oper} {v:Value} (hD:Drift P l ts a d z) (hk:dG l k=some o) {rest:List Bool} (hc:chkD P l ts a [k] listed=some rest)
  (hY:YieldsC P l.toArray (SR w0 R L) (fY P o.op=true) o v (act f)) (h:OwD P w0 l R ts a d z n rest (aS f o.dst v) L N):OwD P w0 l R ts a d z (n+1) listed f L N:=by
 obtain⟨⟨oa,t,zv,ha,lM,gV,hg,hz,rfl⟩,DB,du⟩:=hD
 have iR:l.toArray[k]? =some o:=by rw[mq] at hk;simpa using hk
 have sD:dG l a=some oa:=by rw[mq];simpa using ha
 unfold chkD at hc
 rw[hk,sD] at hc
 simp only at hc
 split at hc
 ·rename_i lB
  simp only[chkD,Option.some.injEq] at hc
  subst hc
  simp only[Bool.and_eq_true,Bool.or_eq_true,Bool.not_eq_true',List.all_eq_true,List.contains_eq_mem,decide_eq_true_eq,decide_eq_false_iff_not,bne_iff_ne,ne_eq] at lB
  obtain⟨⟨⟨⟨⟨⟨⟨⟨c1,c2⟩,c3⟩,c4⟩,c5⟩,c6⟩,c7⟩,c8⟩,c9⟩:=lB
  obtain⟨q1,q2,q3⟩:=Oper.apart_spec c8
  have iC:=Region.noSelect_spec du
  have bO: (listed.set k true).set a true=(listed.set a true).set k true:=List.set_comm _ _ c1
  refine⟨fun w hw=> ?_,fun b w hb lA hw=> ?_⟩
  ·refine ri iR c2 iC (fun c a w h=>lb h) _ _ _ _ (rU (P:=P) iR c4 c5 (c9.imp id fun h=>⟨h.1.1,h.1.2,fun t ht=>(c3 t ht).1⟩)) (.inr fun t ht=>(c3 t ht).1) hY ?_
   rw[fN,nV]
   exact h.1 w hw
  ·have hY2:YieldsC P l.toArray (SR w0 R L) (fY P o.op=true) o v (act (setF f d (vp b 0))):=by
    refine hY.left (iC k o · · iR) (oj:=oa) q3 ⟨vp b 0,[], ?_⟩
    rw[gV]
    exact(fN f (some d) (vp b 0)).symm
   refine ri iR c2 iC (fun c a w h=>lb h) _ _ _ _ (rU (P:=P) iR c6 c7 (c9.imp id fun h=>⟨h.1.1,h.2,fun t ht=>(c3 t ht).2⟩)) (.inr fun t ht=>(c3 t ht).2) hY2 ?_
   have e: (act (setF f d (vp b 0))).put o.dst v=act (setF (aS f o.dst v) d (vp b 0)):=by
    have e1:act (setF f d (vp b 0))=(act f).put (some d) (vp b 0):=(fN f (some d) (vp b 0)).symm
    rw[e1,Act.put_comm (act f) (x:=some d) (y:=o.dst) (vp b 0) v (fun t ht XK=>by cases ht;exact q2 _ XK gV),fN,fN];rfl
   rw[e,nV,←bO]
   exact h.2 b w hb lA hw
 ·cases hc
theorem Ox {k:Nat} {is:List Nat} {listed listed':List Bool} (h:chkD P l ts a (k::is) listed=some listed'):chkD P l ts a [k] listed=some (listed.set k true)∧chkD P l ts a is (listed.set k true)=some listed':=by
 rw[chkD] at h
 cases ho:dG l k with
 |none=>rw[ho] at h;cases h
 |some o=>
  cases XI:dG l a with
  |none=>rw[ho,XI] at h;cases h
  |some oa=>
   rw[ho,XI] at h
   simp only at h
   split at h
   ·rename_i lB
    refine⟨?_,h⟩
    rw[chkD,ho,XI]
    simp only
    rw[if_pos lB];rfl
   ·cases h
theorem OwD.runs {k:Md→List Oper→Fr→aA→Prop} (hD:Drift P l ts a d z): ∀ (is:List Nat) {listed listed':List Bool} {f:Fr} {L:aA},chkD P l ts a is listed=some listed'→
  (∀md r f' L',k md r f' L'→r= []∧OwD P w0 l R ts a d z n listed' f' L' N)→vcL P w0 l.toArray false (.sof R [] []) (gA l is) f L k→OwD P w0 l R ts a d z (is.length+n) listed f L N
 | [],listed,listed',f,L,hc,hk,h=>by
  cases hc
  rw[List.length_nil,Nat.zero_add]
  exact(hk _ _ _ _ h).2
 |i::is,listed,listed',f,L,hc,hk,h=>by
  obtain⟨dA,dL⟩:=Ox hc
  rw[ac] at h
  cases ho:dG l i with
  |none=>unfold chkD at dA;rw[ho] at dA;cases dA
  |some o=>
   rw[ho,ad] at h
   unfold vcL at h
   rw[List.length_cons,show is.length+1+n=(is.length+n)+1 by omega]
   cases hs:bA l.toArray f o with
   |true=>
    rw[hs] at h
    have eR:Region.wanted o (yielded l.toArray (act f).tmps)=false:=by rw[kW,hs];rfl
    exact OwD.step hD ho dA (v:=undef) (.inr ⟨eR,rfl⟩) (OwD.runs hD is dL hk h)
   |false=>
    rw[hs] at h
    have eR:Region.wanted o (yielded l.toArray (act f).tmps)=true:=by rw[kW,hs];rfl
    simp only[ib,vcB] at h
    split at h
    ·cases bY:rdOk (.sof R [] []) f o.op with
     |false=>rw[bY] at h;exact absurd (hk _ _ _ _ h).1 (by simp)
     |true=>
      rw[bY] at h
      simp only at h
      cases hv:iF P w0 L f o.op with
      |none=>rw[hv] at h;exact absurd (hk _ _ _ _ h).1 (by simp)
      |some v=>
       rw[hv] at h
       refine OwD.step hD ho dA (v:=v) (.inl ⟨eR,fun w hw=> ?_⟩) (OwD.runs hD is dL hk h)
       rw[pj]
       rcases hw with hp|hw
       ·exact nT (Hp.refl w) (xT hp hv w)
       ·exact nT (Hp.refl w) (HX bY hv hw)
    ·exact absurd (hk _ _ _ _ h).1 (by simp)
    ·exact absurd (hk _ _ _ _ h).1 (by simp)
theorem OwD.run (is:List Nat) (listed':List Bool) (n:Nat) {m:Nat} (hm:m=is.length+n) (hD:Drift P l ts a d z) (hc:chkD P l ts a is listed=some listed')
  (h: ∀k:Md→List Oper→Fr→aA→Prop,(∀md f L,OwD P w0 l R ts a d z n listed' f L N→k md [] f L)→nl (gA l is) fun l'=>vcL P w0 l.toArray false (.sof R [] []) l' f L k):OwD P w0 l R ts a d z m listed f L N:=by
 subst hm
 refine OwD.runs (k:=fun _ r f' L'=>r= []∧OwD P w0 l R ts a d z n listed' f' L' N) hD is hc (fun _ _ _ _ h=>h) ?_
 exact h _ fun _ _ _ h=>⟨rfl,h⟩
theorem yT {t:TypeId} {zv:Value} {oa:Oper} {Q:Exit→Act→World→Prop} {X:Act→World→Prop} {w:World} (ha:l.toArray[a]? =some oa) (lM:oa.op= .alloc t) (gV:oa.dst=some d) (hg:oa.guard=none) (hz:am P t=some zv)
  (h:X (act (setF f d (vp w.heap.size 0))) (w.alloc (.cells zv.cells t))):wpOp P l.toArray Q a X (act f) w:=by
 obtain⟨dst,op,ty,pos,after,guard⟩:=oa
 simp only at lM gV hg
 subst lM;subst gV;subst hg
 unfold wpOp
 simp only[ha]
 have hw:Region.wanted ⟨some d, .alloc t,ty,pos,after,none⟩ (yielded l.toArray (act f).tmps)=true:=by rw[kW];rfl
 rw[hw]
 simp only[↓reduceIte]
 left
 unfold Oper.wp
 have hr: (execOp (act f).eval ⟨some d, .alloc t,ty,pos,after,none⟩).run P w= .ok (.value (vp w.heap.size 0)) (w.alloc (.cells zv.cells t)):=by
  simp only[execOp,Instr.alloc,Sem.run_bind,sr hz w,Result.andThen_ok]
  rfl
 rw[hr]
 show X ((act f).put (some d) (vp w.heap.size 0)) _
 rw[fN]
 exact h
theorem wk {L':aA} (hS: ∀b,b∈R→aP w0 L' b=aP w0 L b):SR w0 R L=SR w0 R L':=by
 funext v
 unfold SR
 apply propext
 constructor
 ·intro hh b hb o ho;exact hh b hb o (by rw[←hS b hb];exact ho)
 ·intro hh b hb o ho;exact hh b hb o (by rw[hS b hb];exact ho)
def qc (l:List Oper) (ts:List Nat) (a:Nat) (ks:List Nat) (listed:List Bool):Bool:=
 ((Region.ready .any l.toArray listed.toArray).all fun i=>i==a||ks.contains i)&& (Region.ready .any l.toArray listed.toArray != [])&& ((Region.ready .any l.toArray (listed.set a true).toArray).all fun i=>ks.contains i)&& (Region.ready .any l.toArray (listed.set a true).toArray != [])&&ks.all fun k=>
  match dG l k,dG l a with
  |some o,some oa=>k !=a&& !ts.contains k&&o.apart l.toArray oa
  |_,_=>false
theorem OwD.softs (ks:List Nat) (hD:Drift P l ts a d z) (hs:qc l ts a ks listed=true)
  (h: ∀k,k∈ks→ ∀o,dG l k=some o→ ∀E,(E= []∨ ∃b,E= [(b,z)]∧w0.heap.size≤b∧b∉keys L)→Ow P w0 l.toArray .seq [o] f (L++E) (fun f' L''=> ∃L',(L'++E).Perm L''∧(∀r,r∈R→aP w0 L' r=aP w0 L r)∧OwD P w0 l R ts a d z n (listed.set k true) f' L' N)):
  OwD P w0 l R ts a d z (n+1) listed f L N:=by
 obtain⟨⟨oa,t,zv,ha,lM,gV,hg,hz,rfl⟩,DB,du⟩:=hD
 have sD:dG l a=some oa:=by rw[mq];simpa using ha
 unfold qc at hs
 simp only[Bool.and_eq_true,List.all_eq_true,Bool.or_eq_true,beq_iff_eq,bne_iff_ne,ne_eq,List.contains_eq_mem,decide_eq_true_eq] at hs
 obtain⟨⟨⟨⟨c3,c4⟩,c5⟩,c5'⟩,c6⟩:=hs
 have iC:=Region.noSelect_spec du
 have lq: ∀k,k∈ks→ ∃o,dG l k=some o∧k≠a∧k∉ts∧o.apart l.toArray oa=true:=by
  intro k hk
  have:=c6 k hk
  rw[sD] at this
  cases ho:dG l k with
  |none=>rw[ho] at this;cases this
  |some o=>
   rw[ho] at this
   simp only[Bool.and_eq_true,Bool.not_eq_true',bne_iff_ne,ne_eq,decide_eq_false_iff_not] at this
   exact⟨o,rfl,this.1.1,this.1.2,this.2⟩
 have t2: ∀b w,w0.heap.size≤b→b∉keys L→Hp w0 (L++ [(b, .cells zv.cells t)]) w→kU P l.toArray (eU w0 N) ts (SR w0 R L) (n+1) (listed.set a true).toArray (act (setF f d (vp b 0))) w:=by
  intro b w hb lA hw
  refine⟨fun _=>SR.ofE hb hw,(fun h=>absurd h c5'), ?_⟩
  intro k hi
  have x9:=c5 k hi
  obtain⟨o,hk,c1,c2,c7⟩:=lq k x9
  have iR:l.toArray[k]? =some o:=by rw[mq] at hk;simpa using hk
  obtain⟨q1,q2,q3⟩:=Oper.apart_spec c7
  have bO: (listed.set k true).set a true=(listed.set a true).set k true:=List.set_comm _ _ c1
  have e1:act (setF f d (vp b 0))=(act f).put (some d) (vp b 0):=(fN f (some d) (vp b 0)).symm
  rw[e1]
  refine Iu iR (fun t ht=>by cases ht;exact q3 d gV) (fun t ht=>by cases ht;exact fun XK=>q2 d XK gV) (iC _ o · · iR) (fun c a w h=>OQ h) ?_
  refine tE iR (X:=fun a' w'=>kU P l.toArray (eU w0 N) ts (SR w0 R L) n ((listed.set a true).toArray.setIfInBounds k true) (a'.put (some d) (vp b 0)) w') ?_ hw
  intro w' aB
  refine GT ?_ (h k x9 o hk [(b, .cells zv.cells t)] (.inr ⟨b,rfl,hb,lA⟩) w' aB)
  rintro f' L'' ⟨L',sU,hR,hO⟩ w'' lR
  have gI:=lR.perm sU
  rw[fN,nV,←bO,wk hR]
  refine hO.2 b w'' hb (fun hm=> ?_) gI
  have bE:=gI.nodup
  rw[bM,List.nodup_append] at bE
  exact bE.2.2 b hm b (by simp[keys]) rfl
 refine⟨fun w hw=>⟨fun _=>SR.of hw,fun h=>absurd h c4,fun k hi=> ?_⟩,t2⟩
 rcases c3 k hi with rfl|x9
 ·refine yT ha lM gV hg hz ?_
  rw[nV]
  refine t2 _ _ hw.size (fun hm=>Nat.lt_irrefl _ (hw.lt hm)) (hw.alloc _)
 ·obtain⟨o,hk,c1,c2,c7⟩:=lq k x9
  have iR:l.toArray[k]? =some o:=by rw[mq] at hk;simpa using hk
  refine tE iR (X:=kU P l.toArray (eU w0 N) ts (SR w0 R L) (n+1) (listed.toArray.setIfInBounds k true)) ?_ hw
  intro w' aB
  have h1:=h k x9 o hk [] (.inl rfl)
  rw[List.append_nil] at h1
  refine GT ?_ (h1 w' aB)
  rintro f' L'' ⟨L',sU,hR,hO⟩ w'' lR
  rw[List.append_nil] at sU
  rw[nV,wk hR]
  exact hO.1 w'' (lR.perm sU)
theorem OwD.soft (k:Nat) (o:Oper) (hD:Drift P l ts a d z) (hk:dG l k=some o) (hs:qc l ts a [k] listed=true)
  (h: ∀E,(E= []∨ ∃b,E= [(b,z)]∧w0.heap.size≤b∧b∉keys L)→Ow P w0 l.toArray .seq [o] f (L++E) (fun f' L''=> ∃L',(L'++E).Perm L''∧(∀r,r∈R→aP w0 L' r=aP w0 L r)∧OwD P w0 l R ts a d z n (listed.set k true) f' L' N)):
  OwD P w0 l R ts a d z (n+1) listed f L N:=OwD.softs [k] hD hs fun k' ce o' lK=>by
 rw[List.mem_singleton] at ce
 subst ce
 rw[hk] at lK
 cases lK
 exact h
theorem OwD.two (k k2:Nat) (o o2:Oper) (hD:Drift P l ts a d z) (hk:dG l k=some o) (eK:dG l k2=some o2) (hs:qc l ts a [k,k2] listed=true)
  (h: ∀E,(E= []∨ ∃b,E= [(b,z)]∧w0.heap.size≤b∧b∉keys L)→Ow P w0 l.toArray .seq [o] f (L++E) (fun f' L''=> ∃L',(L'++E).Perm L''∧(∀r,r∈R→aP w0 L' r=aP w0 L r)∧OwD P w0 l R ts a d z n (listed.set k true) f' L' N))
  (h2: ∀E,(E= []∨ ∃b,E= [(b,z)]∧w0.heap.size≤b∧b∉keys L)→Ow P w0 l.toArray .seq [o2] f (L++E) (fun f' L''=> ∃L',(L'++E).Perm L''∧(∀r,r∈R→aP w0 L' r=aP w0 L r)∧OwD P w0 l R ts a d z n (listed.set k2 true) f' L' N)):
  OwD P w0 l R ts a d z (n+1) listed f L N:=OwD.softs [k,k2] hD hs fun k' ce o' lK=>by
 simp only[List.mem_cons,List.not_mem_nil,or_false] at ce
 rcases ce with rfl|rfl
 ·rw[hk] at lK;cases lK;exact h
 ·rw[eK] at lK;cases lK;exact h2
theorem OwD.real (is:List Nat) {m:Nat} (hm:m=is.length) (hD:Drift P l ts a d z) (hr:Region.ready .any l.toArray listed.toArray= [a]) (hB:rx P l.toArray ts is (listed.set a true).toArray=true) (mf: (ts.all fun t=> !(listed.set a true).toArray.getD t true)=true)
  (hl:is.map (fun i:Nat=>l[i]?)=(gA l is).map some) (hR: ∀r,r∈R→r∈keys L∨r<w0.heap.size)
  (h:nl (gA l is) fun l'=> ∀b,w0.heap.size≤b→b∉keys L→Ow P w0 l.toArray (.sof R is ts) l' (setF f d (vp b 0)) (L++ [(b,z)]) N):OwD P w0 l R ts a d z m listed f L N:=by
 subst hm
 obtain⟨⟨oa,t,zv,ha,lM,gV,hg,hz,rfl⟩,DB,du⟩:=hD
 simp only[List.all_eq_true,Bool.not_eq_true'] at mf
 revert hl h
 generalize gA l is=l'
 intro hl h
 have aL:is.length=l'.length:=by have:=congrArg List.length hl;simpa using this
 have hF:Fits P l.toArray ts is l' (listed.set a true).toArray:=⟨aL,fun j=>by
  have:=congrArg (·[j]?) hl
  simp only[List.getElem?_map] at this
  cases hj:is[j]? with
  |none=>
   rw[hj] at this
   simp only[Option.map_none] at this
   cases fe:l'[j]? with
   |none=>rfl
   |some x=>rw[fe] at this;cases this
  |some i=>
   rw[hj] at this
   simp only[Option.map_some] at this
   cases fe:l'[j]? with
   |none=>rw[fe] at this;cases this
   |some x=>
    rw[fe] at this
    simp only[Option.map_some,Option.some.injEq] at this
    simp[this],du,hB⟩
 have hRb: ∀b,w0.heap.size≤b→b∉keys L→ ∀r,r∈R→aP w0 (L++ [(b,Obj.cells zv.cells t)]) r=aP w0 L r:=by
  intro b hb lA r hr
  unfold aP
  cases bl:look L r with
  |some o=>rw[bL bl]
  |none=>
   have xF:r∉keys L:=Ej bl
   have aO:b≠r:=by
    rcases hR r hr with h|h
    ·exact absurd h xF
    ·omega
   rw[gi xF]
   unfold look
   rw[if_neg aO];rfl
 have t2: ∀b w,w0.heap.size≤b→b∉keys L→Hp w0 (L++ [(b, .cells zv.cells t)]) w→kU P l.toArray (eU w0 N) ts (SR w0 R L) is.length (listed.set a true).toArray (act (setF f d (vp b 0))) w:=by
  intro b w hb lA hw
  rw[aL,wk (hRb b hb lA)]
  exact h b hb lA _ hF (fun t ht=>mf t ht) w hw
 refine⟨fun w hw=>⟨fun _=>SR.of hw,(fun h=>by rw[hr] at h;cases h),fun i hi=> ?_⟩,t2⟩
 rw[hr,List.mem_singleton] at hi
 subst hi
 refine yT ha lM gV hg hz ?_
 rw[nV]
 exact t2 _ _ hw.size (fun hm=>Nat.lt_irrefl _ (hw.lt hm)) (hw.alloc _)
theorem Cw.regionD {id:Nat} (R ts:List Nat) (a d t m:Nat) (zv:Value) (hl:l.length=m+1) (hm:P.follows .mixedOrders=true) (lM: ((dG l a).map fun o=>(o.op,o.dst,o.guard))=some (.alloc t,some d,none)) (mf:ts.contains a=false) (du:Region.noSelect l.toArray=true) (hz:am P t=some zv)
  (h:Drift P l ts a d (.cells zv.cells t)→OwD P w0 l R ts a d (.cells zv.cells t) m (List.replicate (m+1) false) f L (K .normal)):Cw P w0 (.region id l.toArray true) f L K:=by
 intro w hw
 refine wp_mono (wp_region_any hm ?_) fun _ _ _ h=>wX h
 have hD:Drift P l ts a d (.cells zv.cells t):=by
  cases hn:dG l a with
  |none=>rw[hn] at lM;cases lM
  |some oa=>
   rw[hn] at lM
   simp only[Option.map_some,Option.some.injEq,Prod.mk.injEq] at lM
   exact⟨⟨oa,t,zv,by rw[mq] at hn;simpa using hn,lM.1,lM.2.1,lM.2.2,hz,rfl⟩,by simpa using mf,du⟩
 have h1:=(h hD).1 w.drew hw.drew
 have:=EO _ _ _ _ h1
 simpa [hl] using this
end
end Go.Sx
namespace Go.Sx
open Go
theorem cT {α:Type}: (∀ (a:α) (l:List α),(a::l).length=l.length+1)∧([]:List α).length=0∧(∀ (l:List α) (i:Nat) (a:α),(l.set i a).length=l.length)∧(∀ (l m:List α),(l++m).length=l.length+m.length)∧
  (∀ (n:Nat) (a:α),(List.replicate n a).length=n)∧(∀ (n:Nat) (l:List α),(l.take n).length=min n l.length)∧(∀ (n:Nat) (l:List α),(l.drop n).length=l.length - n)∧ ∀ {β:Type} (f:α→β) (l:List α),(l.map f).length=l.length:=
 ⟨fun _ _=>List.length_cons,List.length_nil,fun _ _ _=>List.length_set,fun _ _=>List.length_append,fun _ _=>List.length_replicate,fun _ _=>List.length_take,fun _ _=>List.length_drop,fun _ _=>List.length_map ..⟩
theorem cS: (∀n:Nat,((n:Int)).toNat=n)∧(∀l:List UInt8,(a8 l).size=l.length)∧(∀l:List UInt32,(a32 l).size=l.length)∧(∀p:Prop,(p∧p)=p)∧(∀p:Prop,(p∧True)=p)∧ ∀p:Prop,(True∧p)=p:=
 ⟨Int.toNat_natCast,rj,y4,fun _=>and_self _,fun _=>and_true _,fun _=>true_and _⟩
inductive Tag {α:Type} (x:α):Type
 |mk:Tag x
def seqN (F:Fr→aA→cM→Prop) (K:cM) (f:Fr) (L:aA):Prop:=F f L K
def cdC (v:Value) (A B S:Prop) (_:Tag (A,B,S)):Prop:=
 match v with
 | .bool true=>A
 | .bool false=>B
 |_=>S
abbrev CwS (P:Program) (w0:World) (c:Code) (f:Fr) (L:aA) (K:cM) (_:Tag (c,K)):Prop:=Cw P w0 c f L K
abbrev OwS (P:Program) (w0:World) (ops:Array Oper) (md:Md) (l:List Oper) (f:Fr) (L:aA) (N:Fr→aA→Prop) (_:Tag (ops,l,N)):Prop:=Ow P w0 ops md l f L N
def bsK (K:cM) (e:Exit) (f:Fr) (L:aA):Dep K:=K e f L
def bsN (N:Fr→aA→Prop) (f:Fr) (L:aA):Dep N:=N f L
abbrev bsR (K:cM) (e:Exit) (f:Fr) (L:aA) (_:Tag K):Prop:=K e f L
abbrev bsM (N:Fr→aA→Prop) (f:Fr) (L:aA) (_:Tag N):Prop:=N f L
def owk (P:Program) (w0:World) (ops:Array Oper) (N:Fr→aA→Prop) (md:Md) (l:List Oper) (f:Fr) (L:aA):Dep (ops,N):=
 match l with
 | []=>N f L
 |o::r=>Ow P w0 ops md (o::r) f L N
def fid:Code→Nat
 | .seq a _=>fid a
 | .region i _ _=>i
 | .block _ c=>fid c
 | .loop c=>fid c
 | .scope c=>fid c
 |_=>500000
def ku (z:List Nat) (c:Code):Bool:=match z with
 | []=>false
 |k::r=>(k==1000000+fid c) ||ku r c
def vcC (P:Program) (w0:World) (z:List Nat):Code→Fr→aA→cM→Prop
 | .seq x y,f,L,K=>ib (ku z (.seq x y)) (CwS P w0 (.seq x y) f L K .mk) (vcC P w0 z x f L (k4 (seqN (fun f L K=>ib (z.contains 999999) (CwS P w0 y f L K .mk) (vcC P w0 z y f L K)) K) K))
 | .skip,f,L,K=>K .normal f L
 | .exit i,f,L,K=>K (.exit i) f L
 | .goto i,f,L,K=>K (.goto i) f L
 | .ret,f,L,K=>K .ret f L
 | .label l,f,L,K=>ib (z.contains 999999) (Cw P w0 (.label l) f L K) (K .normal f L)
 | .block id c,f,L,K=>vcC P w0 z c f L (mA id K)
 | .cond c x y,f,L,K=> ∃b,ev f c= .bool b∧(b=true→vcC P w0 z x f L K)∧(b=false→vcC P w0 z y f L K)
 | .region id ops false,f,L,K=>ib (z.contains id) (Cw P w0 (.region id ops false) f L K) (vcL P w0 ops true .seq ops.toList f L (owk P w0 ops (K .normal)))
 |c,f,L,K=>Cw P w0 c f L K
section
variable {P:Program} {w0:World} {f:Fr} {L:aA} {K:cM} {N:Fr→aA→Prop} {ops:Array Oper} {md:Md} {l:List Oper}
theorem C0 (h:owk P w0 ops N md l f L):Ow P w0 ops md l f L N:=by
 cases l with
 |nil=>exact Ow.nil h
 |cons o r=>exact h
theorem Ow.go (he:md.eff=true) (h:vcL P w0 ops true md l f L (owk P w0 ops (bsN N))):Ow P w0 ops md l f L N:=
 xf _ (fun _ _ _ _ h=>C0 h) true l md f L (fun _=>he) h
theorem Ow.goQ (h:vcL P w0 ops false md l f L (owk P w0 ops (bsN N))):Ow P w0 ops md l f L N:=
 xf _ (fun _ _ _ _ h=>C0 h) false l md f L (fun e=>by cases e) h
theorem xb {z:List Nat}: ∀ (c:Code) {f:Fr} {L:aA} {K:cM},vcC P w0 z c f L K→Cw P w0 c f L K
 | .seq x y,f,L,K,h=>by
   unfold vcC at h
   cases hs:ku z (.seq x y) with
   |true=>rw[hs] at h;exact h
   |false=>
    rw[hs] at h
    refine Cw.seq ((xb x h).mono fun e f L k=> ?_)
    cases e with
    |normal=>
     have k':ib (z.contains 999999) (CwS P w0 y f L K .mk) (vcC P w0 z y f L K):=k
     cases hz:z.contains 999999 with
     |true=>rw[hz] at k';exact k'
     |false=>rw[hz] at k';exact xb y k'
    |_=>exact k
 | .skip,_,_,_,h=>Cw.skip h
 | .exit _,_,_,_,h=>Cw.exit h
 | .goto _,_,_,_,h=>Cw.goto h
 | .ret,_,_,_,h=>Cw.ret h
 | .label l,_,_,_,h=>by
   unfold vcC at h
   cases hz:z.contains 999999 with
   |true=>rw[hz] at h;exact h
   |false=>rw[hz] at h;exact Cw.label h
 | .block id c,_,_,_,h=>Cw.block (xb c h)
 | .cond c x y,_,_,_,⟨b,hb,h1,h2⟩=>Cw.cond hb (fun e=>xb x (h1 e)) (fun e=>xb y (h2 e))
 | .region id ops false,f,L,K,h=>by
   obtain⟨l⟩:=ops
   unfold vcC at h
   cases hz:z.contains id with
   |true=>rw[hz] at h;exact h
   |false=>rw[hz] at h;exact Cw.region (Ow.go rfl h)
 | .region _ _ true,_,_,_,h=>h
 | .loop _,_,_,_,h=>h
 | .rangeFunc _ _ _ _,_,_,_,h=>h
 | .scope _,_,_,_,h=>h
 | .refuse _,_,_,_,h=>h
end
class Steps (c:Code):Prop
instance {x y:Code}:Steps (.seq x y):=⟨⟩
instance:Steps .skip:=⟨⟩
instance {i:Nat}:Steps (.exit i):=⟨⟩
instance {i:Nat}:Steps (.goto i):=⟨⟩
instance:Steps .ret:=⟨⟩
instance {i:Nat} {c:Code}:Steps (.block i c):=⟨⟩
instance {c:Operand} {x y:Code}:Steps (.cond c x y):=⟨⟩
instance {i:Nat} {ops:Array Oper}:Steps (.region i ops false):=⟨⟩
theorem Cw.go {P:Program} {w0:World} {c:Code} {f:Fr} {L:aA} {K:cM} (z:List Nat) [Steps c] (h:vcC P w0 z c f L (bsK K)):Cw P w0 c f L K:=xb c h
@[congr] theorem aup_ {v v':Value} {A B S:Prop} {t:Tag (A,B,S)} (h:v=v'):cdC v A B S t=cdC v' A B S t:=by rw[h]
section
variable (P:Program) (w0:World) (z:List Nat) (f:Fr) (L:aA) (K:cM) (N:Fr→aA→Prop) (ops:Array Oper) (md:Md)
theorem RS (x y:Code):vcC P w0 [] (.seq x y) f L K=vcC P w0 [] x f L (k4 (seqN (fun f L K=>vcC P w0 [] y f L K) K) K):=(rfl)
theorem RR (k:Nat) (z:List Nat) (x y:Code):vcC P w0 (k::z) (.seq x y) f L K=ib (ku (k::z) (.seq x y)) (CwS P w0 (.seq x y) f L K .mk) (vcC P w0 (k::z) x f L (k4 (seqN (fun f L K=>ib ((k::z).contains 999999) (CwS P w0 y f L K .mk) (vcC P w0 (k::z) y f L K)) K) K)):=(rfl)
theorem QZ:vcC P w0 z .skip f L K=K .normal f L:=(rfl)
theorem Ql (i:Nat):vcC P w0 z (.exit i) f L K=K (.exit i) f L:=(rfl)
theorem R5 (i:Nat):vcC P w0 z (.goto i) f L K=K (.goto i) f L:=(rfl)
theorem Tr:vcC P w0 z .ret f L K=K .ret f L:=(rfl)
theorem PB (i:Nat):vcC P w0 z (.label i) f L K=ib (z.contains 999999) (CwS P w0 (.label i) f L K .mk) (K .normal f L):=(rfl)
theorem Qn (i:Nat) (c:Code):vcC P w0 z (.block i c) f L K=vcC P w0 z c f L (mA i K):=(rfl)
theorem QF (c:Operand) (x y:Code):vcC P w0 z (.cond c x y) f L K=cdC (ev f c) (vcC P w0 z x f L K) (vcC P w0 z y f L K) (vcC P w0 z (.cond c x y) f L K) .mk:=by
 unfold cdC
 split
 ·rename_i h;simp[vcC,h]
 ·rename_i h;simp[vcC,h]
 ·rfl
theorem N0 (i:Nat) (l:List Oper):vcC P w0 z (.region i l.toArray false) f L K=ib (z.contains i) (CwS P w0 (.region i l.toArray false) f L K .mk) (vcL P w0 l.toArray true .seq l f L (owk P w0 l.toArray (K .normal))):=(rfl)
theorem PU (i:Nat) (ops:Array Oper):vcC P w0 z (.region i ops true) f L K=CwS P w0 (.region i ops true) f L K .mk:=(rfl)
theorem Rb (c:Code):vcC P w0 z (.loop c) f L K=CwS P w0 (.loop c) f L K .mk:=(rfl)
theorem Ov (c:Code):vcC P w0 z (.scope c) f L K=CwS P w0 (.scope c) f L K .mk:=(rfl)
theorem Nl (x:Operand) (p:Array Tmp) (a c:Code):vcC P w0 z (.rangeFunc x p a c) f L K=CwS P w0 (.rangeFunc x p a c) f L K .mk:=(rfl)
theorem T2 (F:Fr→aA→cM→Prop):bsN (seqN F K) f L=F f L K:=(rfl)
theorem Vq (e:Exit):bsN (K e) f L=bsK K e f L:=(rfl)
theorem VY (c:Code):bsN (fun f L=>Cw P w0 c f L K) f L=CwS P w0 c f L K .mk:=(rfl)
theorem Ta:k4 N K .normal f L=bsN N f L:=(rfl)
theorem U6 (i:Nat):k4 N K (.exit i) f L=K (.exit i) f L:=(rfl)
theorem T9 (i:Nat):k4 N K (.goto i) f L=K (.goto i) f L:=(rfl)
theorem UA:k4 N K .ret f L=K .ret f L:=(rfl)
theorem Sc (i:Nat):mA i K .normal f L=K .normal f L:=(rfl)
theorem Ru (i j:Nat):mA i K (.goto j) f L=K (.goto j) f L:=(rfl)
theorem RE (i:Nat):mA i K .ret f L=K .ret f L:=(rfl)
theorem QQ (i j:Nat):mA i K (.exit j) f L=ib (j==i) (K .normal f L) (K (.exit j) f L):=by
 by_cases h:j=i
 ·have e: (j==i)=true:=beq_iff_eq.2 h
  rw[e]
  simp[mA,ib,h]
 ·have e: (j==i)=false:=beq_eq_false_iff_ne.2 h
  rw[e]
  simp[mA,ib,h]
theorem R3 (A:Nat→Fr→aA→Prop):nW A K .normal f L=K .normal f L:=(rfl)
theorem Sd (A:Nat→Fr→aA→Prop) (i:Nat):nW A K (.exit i) f L=K (.exit i) f L:=(rfl)
theorem QS (A:Nat→Fr→aA→Prop) (i:Nat):nW A K (.goto i) f L=bsN (A i) f L:=(rfl)
theorem Qs (A:Nat→Fr→aA→Prop):nW A K .ret f L=K .ret f L:=(rfl)
theorem Td:owk P w0 ops N md [] f L=bsN N f L:=(rfl)
theorem Se (e:Exit):bsK K e f L=bsR K e f L .mk:=(rfl)
theorem Sj:bsN N f L=bsM N f L .mk:=(rfl)
theorem UV:bsN (bsN N) f L=bsN N f L:=(rfl)
theorem Uy (e:Exit):bsK (bsK K) e f L=bsK K e f L:=(rfl)
theorem RG (e:Exit):bsK (k4 N K) e f L=k4 N (bsK K) e f L:=by cases e<;>rfl
theorem Nd (i:Nat) (e:Exit):bsK (mA i K) e f L=mA i (bsK K) e f L:=by cases e<;>rfl
theorem Ng (A:Nat→Fr→aA→Prop) (e:Exit):bsK (nW A K) e f L=nW A (bsK K) e f L:=by cases e<;>rfl
theorem R2 (o:Oper) (r:List Oper):owk P w0 ops N md (o::r) f L=OwS P w0 ops md (o::r) f L N .mk:=(rfl)
end
section
variable (A B S:Prop) (t:Tag (A,B,S))
theorem VB:cdC (.bool true) A B S t=A:=(rfl)
theorem VP:cdC (.bool false) A B S t=B:=(rfl)
theorem qq (b:Bool) (h:b=true):cdC (.bool b) A B S t=A:=by rw[h];rfl
theorem qr (b:Bool) (h:b=false):cdC (.bool b) A B S t=B:=by rw[h];rfl
theorem CX (p:Prop) [Decidable p] (h:p):cdC (.bool (decide p)) A B S t=A:=qq A B S t _ (decide_eq_true h)
theorem Ch (p:Prop) [Decidable p] (h: ¬p):cdC (.bool (decide p)) A B S t=B:=qr A B S t _ (decide_eq_false h)
theorem Cb (a b:Int) (h:a=b):cdC (.bool (a==b)) A B S t=A:=qq A B S t _ (beq_iff_eq.2 h)
theorem CU (a b:Int) (h: ¬a=b):cdC (.bool (a==b)) A B S t=B:=qr A B S t _ (beq_eq_false_iff_ne.2 h)
theorem VF (a b:Int) (h: ¬a=b):cdC (.bool (a !=b)) A B S t=A:=qq A B S t _ (bne_iff_ne.2 h)
theorem VN (a b:Int) (h:a=b):cdC (.bool (a !=b)) A B S t=B:=qr A B S t _ (by rw[h];simp)
end
theorem TT (w0:World) (L:aA) (v:Value):pE w0 L .no v=none:=(rfl)
theorem Tf (w0:World) (L:aA) (e:TypeId) (v:Value):pE w0 L (.strBytes e) v=none:=(rfl)
theorem V1 (v:Value):gP .no v=none:=by unfold gP;split<;>first|rfl| (rename_i h;cases h)
theorem PO (c:Code):ku [] c=false:=(rfl)
theorem MS (k:Nat) (r:List Nat) (c:Code):ku (k::r) c=((k==1000000+fid c) ||ku r c):=(rfl)
theorem S6 (a b:Code):fid (.seq a b)=fid a:=(rfl)
theorem O0 (i:Nat) (o:Array Oper) (d:Bool):fid (.region i o d)=i:=(rfl)
theorem Pl (i:Nat) (c:Code):fid (.block i c)=fid c:=(rfl)
theorem SU (c:Operand) (x y:Code):fid (.cond c x y)=500000:=(rfl)
theorem Qr (c:Code):fid (.loop c)=fid c:=(rfl)
theorem OI (c:Code):fid (.scope c)=fid c:=(rfl)
theorem PM (i:Nat):fid (.label i)=500000:=(rfl)
theorem RA (i:Nat):fid (.goto i)=500000:=(rfl)
theorem SN (i:Nat):fid (.exit i)=500000:=(rfl)
theorem RF:fid .skip=500000:=(rfl)
theorem Ti:fid .ret=500000:=(rfl)
theorem OZ (x:Operand) (p:Array Tmp) (a c:Code):fid (.rangeFunc x p a c)=500000:=(rfl)
def allF (j:Nat→Value):Nat→Nat→Fr
 |_,0=> []
 |k,n+1=>j k::allF j (k+1) n
theorem Uo (j:Nat→Value) (k:Nat):allF j k 0= []:=(rfl)
theorem UX (j:Nat→Value) (k n:Nat):allF j k (n+1)=j k::allF j (k+1) n:=(rfl)
def CutM {G:Type} (n:Nat) (S:G→List (Nat×Value)) (H:G→aA) (J:G→Prop) (f':Fr) (L':aA):Prop:=
 ∃g,J g∧L'=H g∧f'=pin (allF (eC f') 0 n) (S g)
theorem CutM.mk {G:Type} {n:Nat} {S:G→List (Nat×Value)} {H:G→aA} {J:G→Prop} {f':Fr} {L':aA} (g:G) (hJ:J g) (hL:L'=H g) (hf:f'=pin (allF (eC f') 0 n) (S g)):CutM n S H J f' L':=⟨g,hJ,hL,hf⟩
theorem Cw.cut {P:Program} {w0:World} {x y:Code} {f:Fr} {L:aA} {K:cM} {G:Type} (n:Nat) (S:G→List (Nat×Value)) (H:G→aA) (J:G→Prop) (h1:Cw P w0 x f L (k4 (CutM n S H J) K))
  (h2: ∀ (g:G) (j:Nat→Value),J g→Cw P w0 y (pin (allF j 0 n) (S g)) (H g) K):Cw P w0 (.seq x y) f L K:=by
 refine Cw.seq (h1.mono fun e f L k=> ?_)
 cases e with
 |normal=>
  obtain⟨g,hJ,rfl,hf⟩:=k
  have:=h2 g (eC f) hJ
  rw[←hf] at this
  exact this
 |_=>exact k
theorem cdC.splitp {p:Prop} [Decidable p] {A B S:Prop} {t:Tag (A,B,S)} (ht:p→A) (he: ¬p→B):cdC (.bool (decide p)) A B S t:=by
 by_cases h:p
 ·rw[CX A B S t p h];exact ht h
 ·rw[Ch A B S t p h];exact he h
theorem cdC.split {b:Bool} {A B S:Prop} {t:Tag (A,B,S)} (ht:b=true→A) (he:b=false→B):cdC (.bool b) A B S t:=by
 cases b with
 |true=>exact ht rfl
 |false=>exact he rfl
end Go.Sx
