/-
  Part 0 of the walk: contracts of the functions that the law reaches, and the calculus they stand on.
  No conditions.
-/
import Derived.WalkKit
import Derived.Deep.LoopGhost
import Derived.ScopeJumps
set_option linter.defProp false
def aW:=@decide_eq_true
def aa:=@List.mem_cons_self
def ah:=@decide_eq_false
def ap:=@Nat.le_refl
def aq:=@Nat.zero_le
def av:=@List.mem_cons_of_mem
def bl:=@List.mem_append_left
def db:=@List.mem_append_right
set_option linter.defProp false
set_option linter.unusedSimpArgs false
def aN {a b:Prop} (x:a) (y:b):a∧b:=⟨x,y⟩
open Classical in
def pM {α:Type} {l m:List α} (h:∀ a:α,l.count a=m.count a:=by intro a;simp only[List.count_append,List.count_cons,List.count_nil]<;>omega):l.Perm m:=List.perm_iff_count.2 h
def oM {p:Prop} (h:p:=by omega):p:=h
def kR {p:Prop} (h:p:=by kernel_rfl):p:=h
namespace Go.Sx
open Go
abbrev aB:=List (Nat×Obj)
def keys (L:aB):List Nat:=L.map Prod.fst
def look:aB→Nat→Option Obj
 | [],_=>none
 | (b,o)::r,k=>if b=k then some o else look r k
def setB:aB→Nat→Obj→aB
 | [],_,_=> []
 | (b,o)::r,k,x=>if b=k then(b,x)::r else(b,o)::setB r k x
def cu {L:aB} {k:Nat} {o:Obj} (h:look L k=some o): (k,o)∈L:=by
 induction L with
 |nil=>cases h
 |cons p r ih=>
  obtain⟨b,x⟩:=p
  unfold look at h
  split at h
  ·rename_i e
   cases h;subst e;exact aa
  exact av _ (ih h)
def Ic {L:aB} {k:Nat} (h:look L k=none):k∉keys L:=by
 induction L with
 |nil=>intro h;cases h
 |cons p r ih=>
  obtain⟨b,x⟩:=p
  unfold look at h
  split at h
  ·cases h
  rename_i e
  intro hm
  rcases List.mem_cons.1 hm with h'|h'
  ·exact e h'.symm
  exact ih h h'
def rB (L:aB) (k:Nat) (x:Obj):keys (setB L k x)=keys L:=by
 induction L with
 |nil=>rfl
 |cons p r ih=>
  obtain⟨b,o⟩:=p
  unfold setB
  split
  ·rfl
  simp only[keys,List.map_cons] at ih ⊢
  rw[ih]
def Dn {L:aB} (hn: (keys L).Nodup) {k b:Nat} {x o:Obj} (h: (b,o)∈setB L k x): (b=k∧o=x)∨(b≠k∧(b,o)∈L):=by
 induction L with
 |nil=>cases h
 |cons p r ih=>
  obtain⟨c,y⟩:=p
  simp only[keys,List.map_cons,List.nodup_cons] at hn
  unfold setB at h
  split at h
  ·rename_i e
   rcases List.mem_cons.1 h with h'|h'
   ·simp only[Prod.mk.injEq] at h'
    exact .inl ⟨h'.1.trans e,h'.2⟩
   refine .inr ⟨?_,av _ h'⟩
   intro e2
   exact hn.1 (by rw[e,←e2];exact List.mem_map.2 ⟨_,h',rfl⟩)
  rename_i e
  rcases List.mem_cons.1 h with h'|h'
  ·simp only[Prod.mk.injEq] at h'
   refine .inr ⟨by rw[h'.1];exact e, ?_⟩
   rw[h'.1,h'.2];exact aa
  rcases ih hn.2 h' with h2|h2
  ·exact .inl h2
  exact .inr ⟨h2.1,av _ h2.2⟩
structure Hp (w0:World) (L:aB) (w:World):Prop where
 has: ∀b o,(b,o)∈L→w.heap[b]? =some o
 nodup: (keys L).Nodup
 old: ∀b,b<w0.heap.size→b∉keys L→w.heap[b]? =w0.heap[b]?
 size:w0.heap.size≤w.heap.size
 tape:w.tape=w0.tape
 os:w.os=w0.os
 output:w.output=w0.output
def Hp.refl (w:World):Hp w [] w:=
 ⟨fun _ _ h=>(by cases h),List.nodup_nil,fun _ _ _=>rfl,ap _,rfl,rfl,rfl⟩
def Hp.lt {w0 w:World} {L:aB} (h:Hp w0 L w) {b:Nat} (hb:b∈keys L):b<w.heap.size:=by
 obtain⟨p,hp,rfl⟩:=List.mem_map.1 hb
 have:=h.has p.1 p.2 hp
 exact(Array.getElem?_eq_some_iff.1 this).1
def Hp.of_heap {w0 w w':World} {L:aB} (h:Hp w0 L w) (hh:w'.heap=w.heap) (ht:w'.tape=w.tape) (ho:w'.os=w.os) (hu:w'.output=w.output):Hp w0 L w':=
 ⟨by rw[hh];exact h.has,h.nodup,by rw[hh];exact h.old,by rw[hh];exact h.size,ht.trans h.tape,ho.trans h.os,hu.trans h.output⟩
theorem Hp.drew {w0 w:World} {L:aB} (h:Hp w0 L w):Hp w0 L w.drew:=h.of_heap rfl rfl rfl rfl
theorem Hp.alloc {w0 w:World} {L:aB} (h:Hp w0 L w) (o:Obj):Hp w0 (L++ [(w.heap.size,o)]) (w.alloc o):=by
 have hk: ∀b,b∈keys (L++ [(w.heap.size,o)])→b∈keys L∨b=w.heap.size:=by
  intro b hb
  simp only[keys,List.map_append,List.map_cons,List.map_nil,List.mem_append,List.mem_singleton] at hb
  exact hb
 refine⟨?_, ?_, ?_, ?_,h.tape,h.os,h.output⟩
 ·intro b x hm
  rcases List.mem_append.1 hm with hm|hm
  ·have aC:b<w.heap.size:=h.lt (List.mem_map.2 ⟨_,hm,rfl⟩)
   rw[RowKit.Below.heap_alloc w o b aC];exact h.has b x hm
  simp only[List.mem_singleton,Prod.mk.injEq] at hm
  rw[hm.1,hm.2];exact(by show(w.heap.push o)[w.heap.size]? =some o;simp)
 ·simp only[keys,List.map_append,List.map_cons,List.map_nil]
  refine List.nodup_append.2 ⟨h.nodup,List.pairwise_singleton _ _, ?_⟩
  intro a ha b hb
  simp only[List.mem_singleton] at hb
  have:=h.lt ha
  omega
 ·intro b hb hn
  rw[RowKit.Below.heap_alloc w o b (Nat.lt_of_lt_of_le hb h.size)]
  refine h.old b hb (fun hm=>hn ?_)
  simp only[keys,List.map_append,List.mem_append]
  exact .inl hm
 rw[World.size_alloc];have:=h.size;omega
def Hp.set {w0 w w':World} {L:aB} (h:Hp w0 L w) {b:Nat} {x:Obj} (hb:b∈keys L) (hh:w'.heap=w.heap.setIfInBounds b x)
  (ht:w'.tape=w.tape) (ho:w'.os=w.os) (hu:w'.output=w.output):Hp w0 (setB L b x) w':=by
 have aC:=h.lt hb
 refine⟨?_,by rw[rB];exact h.nodup, ?_, ?_,ht.trans h.tape,ho.trans h.os,hu.trans h.output⟩
 ·intro c o hm
  rw[hh]
  rcases Dn h.nodup hm with⟨rfl,rfl⟩ | ⟨aU,fG⟩
  ·simp[aC]
  rw[Array.getElem?_setIfInBounds_ne (Ne.symm aU)];exact h.has c o fG
 ·intro c hc hn
  rw[rB] at hn
  have aU:b≠c:=fun e=>hn (e▸hb)
  rw[hh,Array.getElem?_setIfInBounds_ne aU]
  exact h.old c hc hn
 rw[hh];simpa using h.size
def Hp.own {w0 w:World} {L:aB} (h:Hp w0 L w) {b:Nat} {o:Obj} (hb:w0.heap[b]? =some o) (hn:b∉keys L):Hp w0 (L++ [(b,o)]) w:=by
 have aC:b<w0.heap.size:=(Array.getElem?_eq_some_iff.1 hb).1
 refine⟨?_, ?_, ?_,h.size,h.tape,h.os,h.output⟩
 ·intro c x hm
  rcases List.mem_append.1 hm with hm|hm
  ·exact h.has c x hm
  simp only[List.mem_singleton,Prod.mk.injEq] at hm
  rw[hm.1,hm.2,h.old b aC hn];exact hb
 ·simp only[keys,List.map_append,List.map_cons,List.map_nil]
  refine List.nodup_append.2 ⟨h.nodup,List.pairwise_singleton _ _, ?_⟩
  intro a ha c hc
  simp only[List.mem_singleton] at hc
  subst hc
  exact fun e=>hn (e▸ha)
 intro c hc hm
 exact h.old c hc (fun fG=>hm (by simp only[keys,List.map_append,List.mem_append];exact .inl fG))
def Hp.drop {w0 w:World} {L M:aB} (h:Hp w0 L w) (hM: ∀p∈M,p∈L) (hn: (keys M).Nodup) (iA: ∀p∈L,p.1<w0.heap.size→p.1∉keys M→w0.heap[p.1]? =some p.2):Hp w0 M w:=by
 refine⟨fun b o hm=>h.has b o (hM _ hm),hn, ?_,h.size,h.tape,h.os,h.output⟩
 intro b hb hm
 by_cases hk:b∈keys L
 ·obtain⟨p,hp,rfl⟩:=List.mem_map.1 hk
  rw[h.has _ _ hp,iA p hp hb hm]
 exact h.old b hb hk
theorem Hp.trans {w0 w w':World} {L D:aB} (h:Hp w0 L w) (k:Hp w D w'):Hp w0 (L.filter (fun p=> !(keys D).contains p.1)++D) w':=by
 have hf: ∀b,b∈keys (L.filter (fun p=> !(keys D).contains p.1))↔b∈keys L∧b∉keys D:=by
  intro b
  constructor
  ·intro hb
   obtain⟨p,hp,rfl⟩:=List.mem_map.1 hb
   have:=List.mem_filter.1 hp
   refine⟨List.mem_map.2 ⟨p,this.1,rfl⟩, ?_⟩
   simpa using this.2
  rintro⟨hb,hn⟩
  obtain⟨p,hp,rfl⟩:=List.mem_map.1 hb
  exact List.mem_map.2 ⟨p,List.mem_filter.2 ⟨hp,by simpa using hn⟩,rfl⟩
 refine⟨?_, ?_, ?_,Nat.le_trans h.size k.size,k.tape.trans h.tape,k.os.trans h.os,k.output.trans h.output⟩
 ·intro b o hm
  rcases List.mem_append.1 hm with hm|hm
  ·have hb:b∈keys (L.filter (fun p=> !(keys D).contains p.1)):=List.mem_map.2 ⟨_,hm,rfl⟩
   have eG:=(hf b).1 hb
   rw[k.old b (h.lt eG.1) eG.2]
   exact h.has b o (List.mem_filter.1 hm).1
  exact k.has b o hm
 ·simp only[keys,List.map_append]
  refine List.nodup_append.2 ⟨?_,k.nodup, ?_⟩
  ·exact List.Nodup.sublist (List.Sublist.map _ List.filter_sublist) h.nodup
  intro a ha b hb e
  exact((hf a).1 ha).2 (e▸hb)
 intro b hb hn
 have ad:b∉keys L∧b∉keys D:=by
  simp only[keys,List.map_append,List.mem_append,not_or] at hn
  have hD:b∉keys D:=hn.2
  exact⟨fun hm=>hn.1 ((hf b).2 ⟨hm,hD⟩),hD⟩
 rw[k.old b (Nat.lt_of_lt_of_le hb h.size) ad.2]
 exact h.old b hb ad.1
def Hp.trans_nil {w0 w w':World} {L:aB} (h:Hp w0 L w) (k:Hp w [] w'):Hp w0 L w':=by
 have:=h.trans k
 rwa [show L.filter (fun p=> !(keys ([]:aB)).contains p.1)++ []=L from by simp[keys]] at this
def aT (w0:World) (L:aB) (b:Nat):Option Obj:=
 match look L b with
 |some o=>some o
 |none=>w0.heap[b]?
def Hp.read {w0 w:World} {L:aB} (h:Hp w0 L w) {b:Nat} {o:Obj} (hr:aT w0 L b=some o):w.heap[b]? =some o:=by
 unfold aT at hr
 split at hr
 ·rename_i o' hl
  cases hr
  exact h.has _ _ (cu hl)
 rename_i hl
 rw[h.old b (Array.getElem?_eq_some_iff.1 hr).1 (Ic hl)]
 exact hr
abbrev Fr:=List Value
def eT:Fr→Nat→Value
 | [],_=>undef
 |v::_,0=>v
 |_::r,n+1=>eT r n
def setF:Fr→Nat→Value→Fr
 | [],_,_=> []
 |_::r,0,x=>x::r
 |v::r,n+1,x=>v::setF r n x
def aX (f:Fr):Option Tmp→Value→Fr
 |some d,v=>setF f d v
 |none,_=>f
def ev (f:Fr):Operand→Value
 | .tmp t=>eT f t
 | .const v=>v
 | .global g=> .pointer (some ⟨g,0,none⟩)
 | .func k=> .func (.func k) #[] #[]
def sC (f:Fr) (t:Nat):f.toArray.getD t undef=eT f t:=by
 rw[Array.getD_eq_getD_getElem?,List.getElem?_toArray]
 induction f generalizing t with
 |nil=>rfl
 |cons v r ih=>cases t<;>simp[eT,ih]
def FP (f:Fr) (d:Nat) (v:Value):f.toArray.setIfInBounds d v=(setF f d v).toArray:=by
 rw[List.setIfInBounds_toArray]
 congr 1
 induction f generalizing d with
 |nil=>rfl
 |cons x r ih=>cases d<;>simp[setF,ih]
def act (f:Fr):Act:=⟨f.toArray,[]⟩
def EJ (f:Fr) (x:Operand): (act f).eval x=ev f x:=by
 cases x with
 |tmp t=>exact sC f t
 |_=>rfl
def rl (f:Fr): (act f).eval=ev f:=funext (EJ f)
def fi (f:Fr) (d:Option Tmp) (v:Value): (act f).put d v=act (aX f d v):=by
 cases d with
 |none=>rfl
 |some d=>simp only[act,Act.put,aX,FP]
def vo {a:Act} (h:a.defers= []):a=act a.tmps.toList:=by
 cases a with
 |mk t d=>simp only at h;subst h;simp[act]
abbrev cK:=Exit→Fr→aB→Prop
def post (w0:World) (K:cK) (e:Exit) (a:Act) (w:World):Prop:=a.defers= []∧ ∃L,Hp w0 L w∧K e a.tmps.toList L
def Cw (P:Program) (w0:World) (c:Code) (f:Fr) (L:aB) (K:cK):Prop:=
 ∀w,Hp w0 L w→c.wp P (post w0 K) (act f) w
def kh (N:Fr→aB→Prop) (K:cK):cK
 | .normal=>N
 | .exit i=>K (.exit i)
 | .goto i=>K (.goto i)
 | .ret=>K .ret
 | .panic c=>K (.panic c)
 | .outgrown=>K .outgrown
def nI (id:Nat) (K:cK):cK
 | .normal=>K .normal
 | .exit i=>if i=id then K .normal else K (.exit i)
 | .goto i=>K (.goto i)
 | .ret=>K .ret
 | .panic c=>K (.panic c)
 | .outgrown=>K .outgrown
section
variable {P:Program} {w0:World} {f:Fr} {L:aB} {K:cK}
def Cw.mono {c:Code} {K':cK} (h:Cw P w0 c f L K) (hk: ∀e f L,K e f L→K' e f L):Cw P w0 c f L K':=
 fun w hw=>wp_mono (h w hw) fun _ _ _ ⟨hd,L',hp,k⟩=>⟨hd,L',hp,hk _ _ _ k⟩
theorem Cw.seq {x y:Code} (h:Cw P w0 x f L (kh (fun f L=>Cw P w0 y f L K) K)):Cw P w0 (.seq x y) f L K:=by
 intro w hw
 refine wp_seq (wp_mono (h w hw) ?_)
 rintro e a w' ⟨hd,L',hp,k⟩
 cases e with
 |normal=>
  have:=k w' hp
  rw[←vo hd] at this
  exact this
 |_=>exact⟨hd,L',hp,k⟩
theorem Cw.skip (h:K .normal f L):Cw P w0 .skip f L K:=fun w hw=>wp_skip ⟨rfl,L,hw,by simpa [act] using h⟩
theorem Cw.label {l:Nat} (h:K .normal f L):Cw P w0 (.label l) f L K:=fun w hw=>wp_label ⟨rfl,L,hw,by simpa [act] using h⟩
theorem Cw.exit {i:Nat} (h:K (.exit i) f L):Cw P w0 (.exit i) f L K:=fun w hw=>wp_exit ⟨rfl,L,hw,by simpa [act] using h⟩
theorem Cw.goto {i:Nat} (h:K (.goto i) f L):Cw P w0 (.goto i) f L K:=fun w hw=>wp_goto ⟨rfl,L,hw,by simpa [act] using h⟩
theorem Cw.ret (h:K .ret f L):Cw P w0 .ret f L K:=fun w hw=>wp_ret ⟨rfl,L,hw,by simpa [act] using h⟩
theorem Cw.cond {c:Operand} {x y:Code} {b:Bool} (hc:ev f c= .bool b) (ht:b=true→Cw P w0 x f L K) (he:b=false→Cw P w0 y f L K):Cw P w0 (.cond c x y) f L K:=by
 intro w hw
 have fF: (act f).eval c= .bool b:=(EJ f c).trans hc
 cases b with
 |true=>exact wp_cond_true fF (ht rfl w hw)
 |false=>exact wp_cond_false fF (he rfl w hw)
theorem Cw.block {id:Nat} {c:Code} (h:Cw P w0 c f L (nI id K)):Cw P w0 (.block id c) f L K:=by
 intro w hw
 refine wp_block (wp_mono (h w hw) ?_)
 rintro e a w' ⟨hd,L',hp,k⟩
 cases e with
 |exit i=>
  simp only[Exit.inBlock]
  simp only[nI] at k
  split
  ·rename_i e;rw[if_pos e] at k;exact⟨hd,L',hp,k⟩
  rename_i e;rw[if_neg e] at k;exact⟨hd,L',hp,k⟩
 |_=>exact⟨hd,L',hp,k⟩
theorem Cw.loop {c:Code} (I:Nat→Fr→aB→Prop) (n0:Nat) (h0:I n0 f L)
  (round: ∀n f L,I n f L→Cw P w0 c f L (kh (fun f' L'=> ∃n',n'<n∧I n' f' L') K)):Cw P w0 (.loop c) f L K:=by
 intro w hw
 refine wp_loop_ghost (fun n a w=>a.defers= []∧ ∃L,Hp w0 L w∧I n a.tmps.toList L) n0 ⟨rfl,L,hw,by simpa [act] using h0⟩ ?_
 rintro n a w ⟨hd,L,hp,hI⟩
 have:=round n _ _ hI w hp
 rw[←vo hd] at this
 refine wp_mono this ?_
 rintro e a' w' ⟨ju,L',qj,k⟩
 cases e with
 |normal=>
  obtain⟨n',aC,iS⟩:=k
  exact⟨n',aC,ju,L',qj,iS⟩
 |_=>exact⟨ju,L',qj,k⟩
end
def over (j:Nat→Value) (M:List Nat) (f:Fr):Fr:=f.zipIdx.map fun p=>if M.contains p.2 then j p.2 else p.1
def pin (f:Fr):List (Nat×Value)→Fr
 | []=>f
 | (t,v)::r=>pin (setF f t v) r
def lY (j:Nat→Value) (M:List Nat):Nat→Fr→Fr
 |_,[]=> []
 |n,v::r=>(if M.contains n then j n else v)::lY j M (n+1) r
def Again {G:Type} (M:List Nat) (S:G→List (Nat×Value)) (H:G→aB) (J:G→Prop) (μ:G→Nat) (f:Fr) (g:G) (f':Fr) (L':aB):Prop:=
 ∃g',μ g'<μ g∧J g'∧L'=H g'∧f'=pin (lY (eT f') M 0 f) (S g')
def Again.mk {G:Type} {M:List Nat} {S:G→List (Nat×Value)} {H:G→aB} {J:G→Prop} {μ:G→Nat} {f:Fr} {g:G} {f':Fr} {L':aB} (g':G)
  (hμ:μ g'<μ g) (hJ:J g') (hL:L'=H g') (hf:f'=pin (lY (eT f') M 0 f) (S g')):Again M S H J μ f g f' L':=⟨g',hμ,hJ,hL,hf⟩
section
variable {P:Program} {w0:World} {f:Fr} {L:aB} {K:cK}
def Cw.loopG {c:Code} {G:Type} (M:List Nat) (S:G→List (Nat×Value)) (H:G→aB) (J:G→Prop) (μ:G→Nat) (g0:G)
  (hf:f=pin (lY (eT f) M 0 f) (S g0)) (hL:L=H g0) (hJ:J g0)
  (round: ∀ (g:G) (j:Nat→Value),J g→Cw P w0 c (pin (lY j M 0 f) (S g)) (H g)
   (kh (Again M S H J μ f g) K)):Cw P w0 (.loop c) f L K:=by
 refine Cw.loop (fun n f' L'=> ∃g j,n=μ g∧J g∧L'=H g∧f'=pin (lY j M 0 f) (S g)) (μ g0) ⟨g0,eT f,rfl,hJ,hL,hf⟩ ?_
 rintro n f' L' ⟨g,j,rfl,hg,rfl,rfl⟩
 refine(round g j hg).mono ?_
 intro e f'' L'' k
 cases e with
 |normal=>
  obtain⟨g',h1,h2,h3,h4⟩:=k
  exact⟨_,h1,g',eT f'',rfl,h2,h3,h4⟩
 |_=>exact k
end
end Go.Sx
section
namespace Go.Sx
open Go
def gJ (op:BinOp) (k:IntKind) (a b:BitVec k.bits):Option (BitVec k.bits):=
 match op with
 | .and=>some (a&&&b)
 | .or=>some (a|||b)
 | .xor=>some (a^^^b)
 | .andNot=>some (a&&& ~~~b)
 |_=>none
def fO (op:BinOp) (a b:Int):Option Value:=
 match op with
 | .eql=>some (.bool (a==b))
 | .neq=>some (.bool (a !=b))
 | .lss=>some (.bool (decide (a<b)))
 | .leq=>some (.bool (decide (a≤b)))
 | .gtr=>some (.bool (decide (a>b)))
 | .geq=>some (.bool (decide (a≥b)))
 |_=>none
def bJ (op:BinOp) (k:IntKind) (a b:Int):Option Value:=
 match op with
 | .add=>some (.int k (k.wrap (a+b)))
 | .sub=>some (.int k (k.wrap (a - b)))
 | .mul=>some (.int k (k.wrap (a*b)))
 | .quo=>if b=0 then none else some (.int k (k.wrap (a.tdiv b)))
 | .rem=>if b=0 then none else some (.int k (a.tmod b))
 | .and=>(gJ .and k (BitVec.ofInt k.bits a) (BitVec.ofInt k.bits b)).map fun r=> .int k (k.wrap (r.toNat:Int))
 | .or=>(gJ .or k (BitVec.ofInt k.bits a) (BitVec.ofInt k.bits b)).map fun r=> .int k (k.wrap (r.toNat:Int))
 | .xor=>(gJ .xor k (BitVec.ofInt k.bits a) (BitVec.ofInt k.bits b)).map fun r=> .int k (k.wrap (r.toNat:Int))
 | .andNot=>(gJ .andNot k (BitVec.ofInt k.bits a) (BitVec.ofInt k.bits b)).map fun r=> .int k (k.wrap (r.toNat:Int))
 |op=>fO op a b
def nF (op:BinOp) (k:IntKind) (a b:Int):Option Value:=
 if b<0 then none else
  match op with
  | .shl=>some (.int k (k.wrap (a*2^ (min b.toNat k.bits))))
  | .shr=>some (.int k (a.fdiv (2^ (min b.toNat k.bits))))
  |_=>none
def strV (op:BinOp) (a b:ByteArray):Option Value:=
 let eq:=a.toList==b.toList
 let lt:=Op.bytesLess a.toList b.toList
 match op with
 | .add=>if a.size+b.size≤9223372036854775807 then some (.string (a++b)) else none
 | .eql=>some (.bool eq)
 | .neq=>some (.bool !eq)
 | .lss=>some (.bool lt)
 | .leq=>some (.bool (lt||eq))
 | .gtr=>some (.bool !(lt||eq))
 | .geq=>some (.bool !lt)
 |_=>none
def aD (op:BinOp) (x y:Value):Option Value:=
 match x,y with
 | .int k a, .int k' b=>
  match op with
  | .shl=>nF .shl k a b
  | .shr=>nF .shr k a b
  |op=>if k=k' then bJ op k a b else none
 | .string a, .string b=>strV op a b
 |_,_=>none
def unV (op:UnOp) (x:Value):Option Value:=
 match op,x with
 | .neg, .int k n=>some (.int k (k.wrap (0 - n)))
 | .xor, .int k n=>(gJ .xor k (BitVec.ofInt k.bits (if k.signed then -1 else k.max)) (BitVec.ofInt k.bits n)).map fun r=> .int k (k.wrap (r.toNat:Int))
 | .not, .bool b=>some (.bool !b)
 |_,_=>none
def bh (k:IntKind) (x:Value):Option Value:=
 match x with
 | .int _ n=>some (.int k (k.wrap n))
 |_=>none
def Dk {P:Program} {op:BinOp} {t:TypeId} {x y v:Value} (w:World) (h:aD op x y=some v): (binOp op t x y).run P w= .ok v w:=by
 unfold aD at h
 split at h
 ·rename_i k a k' b
  split at h
  ·unfold nF at h
   split at h
   ·cases h
   rename_i hb
   simp only[Option.some.injEq] at h;subst h
   simp only[binOp,Op.shift,hb, ↓reduceIte];rfl
  ·unfold nF at h
   split at h
   ·cases h
   rename_i hb
   simp only[Option.some.injEq] at h;subst h
   simp only[binOp,Op.shift,hb, ↓reduceIte];rfl
  rename_i h1 h2
  split at h
  ·rename_i hk
   subst hk
   cases op<;>simp only[bJ,gJ,fO,Option.map_some,Option.some.injEq,reduceCtorEq] at h<;>first
    | (subst h;simp only[binOp,Op.intArith,Op.intBits,Op.intCmp,ne_eq,not_true_eq_false, ↓reduceIte];rfl)
    | (
      split at h
      ·cases h
      rename_i hb
      simp only[Option.some.injEq] at h;subst h
      simp only[binOp,Op.intDiv,ne_eq,not_true_eq_false, ↓reduceIte,hb];rfl)
    | (exact(h1 rfl).elim)
    | (exact(h2 rfl).elim)
  cases h
 ·rename_i a b
  have hm: (9223372036854775807:Int)=IntKind.i64.max:=by decide
  cases op<;>simp only[strV,reduceCtorEq,Option.some.injEq] at h<;>first
   | (subst h;simp only[binOp,Op.stringOp];rfl)
   | (
     split at h
     ·rename_i hs
      simp only[Option.some.injEq] at h;subst h
      have h0: ¬ (((a.size+b.size:Nat):Int)>IntKind.i64.max):=by rw[←hm];omega
      simp only[binOp,Op.stringOp,h0, ↓reduceIte];rfl
     cases h)
 cases h
def XO {P:Program} {op:UnOp} {x v:Value} (w:World) (h:unV op x=some v): (Op.unary op x).run P w= .ok v w:=by
 unfold unV at h
 split at h
 ·simp only[Option.some.injEq] at h;subst h;rfl
 ·simp only[gJ,Option.map_some,Option.some.injEq] at h;subst h;rfl
 ·simp only[Option.some.injEq] at h;subst h;rfl
 cases h
def pS (n:Int) (h: -9223372036854775808≤n∧n≤9223372036854775807):IntKind.wrap .i64 n=n:=by
 simp only[IntKind.wrap,IntKind.bits,IntKind.signed,Bool.true_and]
 split<;>rename_i h'<;>simp only[ge_iff_le,decide_eq_true_eq,Int.not_le] at h'<;>omega
def Mw (n:Int):IntKind.wrap .u8 n=((UInt8.ofInt n).toNat:Int):=by
 simp only[IntKind.wrap,IntKind.bits,IntKind.signed,Bool.false_and,Bool.false_eq_true, ↓reduceIte]
 rw[show UInt8.ofInt n=UInt8.ofNat (n%2^8).toNat from rfl,UInt8.toNat_ofNat']
 omega
def Mf (n:Int):IntKind.wrap .u16 n=((UInt16.ofInt n).toNat:Int):=by
 simp only[IntKind.wrap,IntKind.bits,IntKind.signed,Bool.false_and,Bool.false_eq_true, ↓reduceIte]
 rw[show UInt16.ofInt n=UInt16.ofNat (n%2^16).toNat from rfl,UInt16.toNat_ofNat']
 omega
def MV (n:Int):IntKind.wrap .u32 n=((UInt32.ofInt n).toNat:Int):=by
 simp only[IntKind.wrap,IntKind.bits,IntKind.signed,Bool.false_and,Bool.false_eq_true, ↓reduceIte]
 rw[show UInt32.ofInt n=UInt32.ofNat (n%2^32).toNat from rfl,UInt32.toNat_ofNat']
 omega
def MP (n:Int):IntKind.wrap .u64 n=((UInt64.ofInt n).toNat:Int):=by
 simp only[IntKind.wrap,IntKind.bits,IntKind.signed,Bool.false_and,Bool.false_eq_true, ↓reduceIte]
 rw[show UInt64.ofInt n=UInt64.ofNat (n%2^64).toNat from rfl,UInt64.toNat_ofNat']
 omega
def vi (n:Int):Value:= .int .i64 n
def Y2 (n:Int):Value.int .i64 n=vi n:=(rfl)
def Sl (a b:Int) (h: -9223372036854775808≤a+b∧a+b≤9223372036854775807):aD .add (vi a) (vi b)=some (vi (a+b)):=by
 simp only[aD,vi,bJ, ↓reduceIte,pS _ h]
def TR (a b:Int) (h: -9223372036854775808≤a - b∧a - b≤9223372036854775807):aD .sub (vi a) (vi b)=some (vi (a - b)):=by
 simp only[aD,vi,bJ, ↓reduceIte,pS _ h]
def Cf (a b:Int) (h: -9223372036854775808≤a*b∧a*b≤9223372036854775807):aD .mul (vi a) (vi b)=some (vi (a*b)):=by
 simp only[aD,vi,bJ, ↓reduceIte,pS _ h]
def Tg (a b:Int) (h:0≤a∧0<b∧a≤9223372036854775807):aD .quo (vi a) (vi b)=some (vi (a / b)):=by
 have h0: (b=0)=False:=by simp only[eq_iff_iff,iff_false];omega
 have e:a.tdiv b=a / b:=Int.tdiv_eq_ediv_of_nonneg h.1
 have h1:0≤a / b:=Int.ediv_nonneg h.1 oM
 have h2:a / b≤a:=Int.ediv_le_self b h.1
 simp only[aD,vi,bJ, ↓reduceIte,h0,e,pS (a / b) ⟨by omega,by omega⟩]
def Uz (a b:Int) (h:0≤a∧0<b):aD .rem (vi a) (vi b)=some (vi (a%b)):=by
 have h0: (b=0)=False:=by simp only[eq_iff_iff,iff_false];omega
 have e:a.tmod b=a%b:=Int.tmod_eq_emod_of_nonneg h.1
 simp only[aD,vi,bJ, ↓reduceIte,h0,e]
def U4 (a b:Int):aD .eql (vi a) (vi b)=some (.bool (a==b)):=(rfl)
def Tr (a b:Int):aD .neq (vi a) (vi b)=some (.bool (a !=b)):=(rfl)
def TM (a b:Int):aD .lss (vi a) (vi b)=some (.bool (decide (a<b))):=(rfl)
def TW (a b:Int):aD .leq (vi a) (vi b)=some (.bool (decide (a≤b))):=(rfl)
def UD (a b:Int):aD .gtr (vi a) (vi b)=some (.bool (decide (b<a))):=(rfl)
def TJ (a b:Int):aD .geq (vi a) (vi b)=some (.bool (decide (b≤a))):=(rfl)
def Wf (a:Int) (h: -9223372036854775807≤a∧a≤9223372036854775807):unV .neg (vi a)=some (vi (-a)):=by
 simp only[unV,vi,Int.zero_sub,pS (-a) ⟨by omega,by omega⟩]
def ZD (b:Bool):unV .not (.bool b)=some (.bool !b):=(rfl)
def OD (n:Int) (h: -9223372036854775808≤n∧n≤9223372036854775807):bh .i64 (vi n)=some (vi n):=by
 simp only[bh,vi,pS _ h]
def Ei (a:Int) (kk:IntKind) (c:Nat) (h:c<63∧0≤a∧a*2^c≤9223372036854775807):aD .shl (vi a) (.int kk (c:Int))=some (vi (a*2^c)):=by
 have h0: ((c:Int)<0)=False:=by simp only[eq_iff_iff,iff_false];omega
 have hm:min c 64=c:=by omega
 have hp: (0:Int)≤a*2^c:=Int.mul_nonneg h.2.1 (Int.pow_nonneg oM)
 simp only[aD,vi,nF,h0, ↓reduceIte,Int.toNat_natCast,IntKind.bits,hm,pS (a*2^c) ⟨by omega,h.2.2⟩]
def Yj (a:Int) (kk:IntKind) (c:Nat) (h:c<64∧0≤a):aD .shr (vi a) (.int kk (c:Int))=some (vi (a / 2^c)):=by
 have h0: ((c:Int)<0)=False:=by simp only[eq_iff_iff,iff_false];omega
 have hm:min c 64=c:=by omega
 have hp: (0:Int)≤2^c:=Int.pow_nonneg oM
 simp only[aD,vi,nF,h0, ↓reduceIte,Int.toNat_natCast,IntKind.bits,hm,Int.fdiv_eq_ediv_of_nonneg _ hp]
def v8 (x:UInt8):Value:= .int .u8 (x.toNat:Int)
def sH (n:Nat) (h:n<256):IntKind.wrap .u8 (n:Int)=(n:Int):=by
 simp only[IntKind.wrap,IntKind.bits,IntKind.signed,Bool.false_and,Bool.false_eq_true, ↓reduceIte]
 omega
def vX (n:Nat):IntKind.wrap .u8 (n:Int)=((n%256:Nat):Int):=by
 simp only[IntKind.wrap,IntKind.bits,IntKind.signed,Bool.false_and,Bool.false_eq_true, ↓reduceIte]
 omega
def sx (x:UInt8):BitVec.ofInt (IntKind.bits .u8) (x.toNat:Int)=x.toBitVec:=by
 apply BitVec.eq_of_toNat_eq
 simp only[IntKind.bits,BitVec.ofInt_natCast,BitVec.toNat_ofNat,UInt8.toNat_toBitVec]
 exact Nat.mod_eq_of_lt x.toNat_lt
def Zo (n:Nat) (h:n<256):Value.int .u8 (no_index (@OfNat.ofNat Int n _))=v8 (@OfNat.ofNat UInt8 n _):=by
 have: ((@OfNat.ofNat UInt8 n _).toNat:Int)=(@OfNat.ofNat Int n _):=by
  have e: (@OfNat.ofNat UInt8 n _).toNat=n:=by rw[UInt8.toNat_ofNat];exact Nat.mod_eq_of_lt h
  rw[e];rfl
 rw[v8,this]
def Qw (x y:UInt8):aD .add (v8 x) (v8 y)=some (v8 (x+y)):=by
 simp only[aD,v8,bJ, ↓reduceIte,UInt8.toNat_add]
 rw[←Int.natCast_add,vX]
def Rx (x y:UInt8):aD .mul (v8 x) (v8 y)=some (v8 (x*y)):=by
 simp only[aD,v8,bJ, ↓reduceIte,UInt8.toNat_mul]
 rw[←Int.natCast_mul,vX]
def RM (x y:UInt8):aD .sub (v8 x) (v8 y)=some (v8 (x - y)):=by
 have hx:=x.toNat_lt;have hy:=y.toNat_lt
 have e:IntKind.wrap .u8 ((x.toNat:Int) - (y.toNat:Int))=((x - y).toNat:Int):=by
  rw[UInt8.toNat_sub]
  simp only[IntKind.wrap,IntKind.bits,IntKind.signed,Bool.false_and,Bool.false_eq_true, ↓reduceIte]
  omega
 simp only[aD,v8,bJ, ↓reduceIte,e]
def Ss (x y:UInt8):aD .and (v8 x) (v8 y)=some (v8 (x&&&y)):=by
 simp only[aD,v8,bJ, ↓reduceIte,gJ,sx,Option.map_some]
 show some (Value.int .u8 (IntKind.wrap .u8 ((x&&&y).toNat:Int)))=_
 rw[sH _ (x&&&y).toNat_lt]
def Th (x y:UInt8):aD .or (v8 x) (v8 y)=some (v8 (x|||y)):=by
 simp only[aD,v8,bJ, ↓reduceIte,gJ,sx,Option.map_some]
 show some (Value.int .u8 (IntKind.wrap .u8 ((x|||y).toNat:Int)))=_
 rw[sH _ (x|||y).toNat_lt]
def RB (x y:UInt8):aD .xor (v8 x) (v8 y)=some (v8 (x^^^y)):=by
 simp only[aD,v8,bJ, ↓reduceIte,gJ,sx,Option.map_some]
 show some (Value.int .u8 (IntKind.wrap .u8 ((x^^^y).toNat:Int)))=_
 rw[sH _ (x^^^y).toNat_lt]
def U2 (x:UInt8):unV .xor (v8 x)=some (v8 (~~~ x)):=by
 have hx:=x.toNat_lt
 have e: (BitVec.ofInt (IntKind.bits .u8) (IntKind.max .u8))=BitVec.allOnes 8:=rfl
 have e2: (BitVec.allOnes 8^^^x.toBitVec)=(~~~ x).toBitVec:=by rw[UInt8.toBitVec_not];exact BitVec.allOnes_xor
 simp only[unV,v8,gJ,sx,IntKind.signed,Bool.false_eq_true, ↓reduceIte,e,Option.map_some]
 show some (Value.int .u8 (IntKind.wrap .u8 ((BitVec.allOnes 8^^^x.toBitVec).toNat:Int)))=_
 rw[e2]
 show some (Value.int .u8 (IntKind.wrap .u8 ((~~~ x).toNat:Int)))=_
 rw[sH _ (~~~ x).toNat_lt]
def rn (x:UInt8) (n:Nat):UInt8:=UInt8.ofNat (x.toNat / 2^n)
def ru (x:UInt8) (n:Nat):UInt8:=UInt8.ofNat (x.toNat*2^n)
def Ru (x y:UInt8):aD .lss (v8 x) (v8 y)=some (.bool (decide (x<y))):=by
 simp only[aD,v8,bJ, ↓reduceIte,fO,UInt8.lt_iff_toNat_lt,Int.ofNat_lt,Int.ofNat_le]
def Rv (x y:UInt8):aD .leq (v8 x) (v8 y)=some (.bool (decide (x≤y))):=by
 simp only[aD,v8,bJ, ↓reduceIte,fO,UInt8.le_iff_toNat_le,Int.ofNat_lt,Int.ofNat_le]
def S_ (x y:UInt8):aD .gtr (v8 x) (v8 y)=some (.bool (decide (y<x))):=by
 simp only[aD,v8,bJ, ↓reduceIte,fO,UInt8.lt_iff_toNat_lt,Int.ofNat_lt,Int.ofNat_le,gt_iff_lt,ge_iff_le]
def Ry (x y:UInt8):aD .geq (v8 x) (v8 y)=some (.bool (decide (y≤x))):=by
 simp only[aD,v8,bJ, ↓reduceIte,fO,UInt8.le_iff_toNat_le,Int.ofNat_lt,Int.ofNat_le,gt_iff_lt,ge_iff_le]
def FY (x y:UInt8): ((x.toNat:Int)==(y.toNat:Int))=(x==y):=by
 rw[Bool.eq_iff_iff,beq_iff_eq,beq_iff_eq,Int.ofNat_inj,UInt8.toNat_inj]
def RE (x y:UInt8):aD .eql (v8 x) (v8 y)=some (.bool (x==y)):=by
 simp only[aD,v8,bJ, ↓reduceIte,fO,FY]
def R2 (x y:UInt8):aD .neq (v8 x) (v8 y)=some (.bool (x !=y)):=by
 simp only[aD,v8,bJ, ↓reduceIte,fO,bne,FY]
def RY (x y:UInt8) (h:0<y.toNat):aD .quo (v8 x) (v8 y)=some (v8 (x / y)):=by
 have hx:=x.toNat_lt
 have e:IntKind.wrap .u8 ((x.toNat:Int).tdiv (y.toNat:Int))=((x / y).toNat:Int):=by
  rw[UInt8.toNat_div,Int.tdiv_eq_ediv_of_nonneg oM,←Int.natCast_ediv,vX]
  congr 1
  exact Nat.mod_eq_of_lt (Nat.lt_of_le_of_lt (Nat.div_le_self _ _) hx)
 have h0: ((y.toNat:Int)=0)=False:=by simp only[eq_iff_iff,iff_false];omega
 simp only[aD,v8,bJ, ↓reduceIte,h0,e]
def La (x y:UInt8) (h:0<y.toNat):aD .rem (v8 x) (v8 y)=some (v8 (x%y)):=by
 have e: ((x.toNat:Int).tmod (y.toNat:Int))=((x%y).toNat:Int):=by
  rw[UInt8.toNat_mod,Int.tmod_eq_emod_of_nonneg oM,Int.natCast_emod]
 have h0: ((y.toNat:Int)=0)=False:=by simp only[eq_iff_iff,iff_false];omega
 simp only[aD,v8,bJ, ↓reduceIte,h0,e]
def AZ (x:UInt8) (kk:IntKind) (c:Nat):aD .shr (v8 x) (.int kk (c:Int))=some (v8 (rn x c)):=by
 have hx:=x.toNat_lt
 have h0: ((c:Int)<0)=False:=by simp only[eq_iff_iff,iff_false];omega
 have e: ((x.toNat:Int).fdiv (2^ (min c 8)))=((rn x c).toNat:Int):=by
  have hp: (2:Int)^ (min c 8)=((2^ (min c 8):Nat):Int):=by rw[Int.natCast_pow];rfl
  rw[hp,Int.fdiv_eq_ediv_of_nonneg _ (Int.natCast_nonneg _),←Int.natCast_ediv,rn,UInt8.toNat_ofNat']
  congr 1
  rw[Nat.mod_eq_of_lt (Nat.lt_of_le_of_lt (Nat.div_le_self _ _) hx)]
  by_cases hc:c≤8
  ·rw[Nat.min_eq_left hc]
  rw[Nat.min_eq_right oM,Nat.div_eq_of_lt (by simpa using hx),Nat.div_eq_of_lt]
  exact Nat.lt_of_lt_of_le (by simpa using hx) (Nat.pow_le_pow_right oM (by omega:8≤c))
 simp only[aD,v8,nF,h0, ↓reduceIte,Int.toNat_natCast,IntKind.bits,e]
def Ab (x:UInt8) (kk:IntKind) (c:Nat):aD .shl (v8 x) (.int kk (c:Int))=some (v8 (ru x c)):=by
 have h0: ((c:Int)<0)=False:=by simp only[eq_iff_iff,iff_false];omega
 have e:IntKind.wrap .u8 ((x.toNat:Int)* (2^ (min c 8)))=((ru x c).toNat:Int):=by
  have hp: (2:Int)^ (min c 8)=((2^ (min c 8):Nat):Int):=by rw[Int.natCast_pow];rfl
  rw[hp,←Int.natCast_mul,vX,ru,UInt8.toNat_ofNat']
  congr 1
  by_cases hc:c≤8
  ·rw[Nat.min_eq_left hc]
  rw[Nat.min_eq_right oM]
  have:2^c=2^8*2^ (c - 8):=by rw[←Nat.pow_add];congr 1;omega
  rw[this,←Nat.mul_assoc,Nat.mul_right_comm]
  simp[Nat.mul_mod_left]
 simp only[aD,v8,nF,h0, ↓reduceIte,Int.toNat_natCast,IntKind.bits,e]
def v16 (x:UInt16):Value:= .int .u16 (x.toNat:Int)
def Im (n:Nat) (h:n<65536):IntKind.wrap .u16 (n:Int)=(n:Int):=by
 simp only[IntKind.wrap,IntKind.bits,IntKind.signed,Bool.false_and,Bool.false_eq_true, ↓reduceIte]
 omega
def vO (n:Nat):IntKind.wrap .u16 (n:Int)=((n%65536:Nat):Int):=by
 simp only[IntKind.wrap,IntKind.bits,IntKind.signed,Bool.false_and,Bool.false_eq_true, ↓reduceIte]
 omega
def sS (x:UInt16):BitVec.ofInt (IntKind.bits .u16) (x.toNat:Int)=x.toBitVec:=by
 apply BitVec.eq_of_toNat_eq
 simp only[IntKind.bits,BitVec.ofInt_natCast,BitVec.toNat_ofNat,UInt16.toNat_toBitVec]
 exact Nat.mod_eq_of_lt x.toNat_lt
def XG (n:Nat) (h:n<65536):Value.int .u16 (no_index (@OfNat.ofNat Int n _))=v16 (@OfNat.ofNat UInt16 n _):=by
 have: ((@OfNat.ofNat UInt16 n _).toNat:Int)=(@OfNat.ofNat Int n _):=by
  have e: (@OfNat.ofNat UInt16 n _).toNat=n:=by rw[UInt16.toNat_ofNat];exact Nat.mod_eq_of_lt h
  rw[e];rfl
 rw[v16,this]
def OW (x y:UInt16):aD .add (v16 x) (v16 y)=some (v16 (x+y)):=by
 simp only[aD,v16,bJ, ↓reduceIte,UInt16.toNat_add]
 rw[←Int.natCast_add,vO]
def QM (x y:UInt16):aD .mul (v16 x) (v16 y)=some (v16 (x*y)):=by
 simp only[aD,v16,bJ, ↓reduceIte,UInt16.toNat_mul]
 rw[←Int.natCast_mul,vO]
def OI (x y:UInt16):aD .sub (v16 x) (v16 y)=some (v16 (x - y)):=by
 have hx:=x.toNat_lt;have hy:=y.toNat_lt
 have e:IntKind.wrap .u16 ((x.toNat:Int) - (y.toNat:Int))=((x - y).toNat:Int):=by
  rw[UInt16.toNat_sub]
  simp only[IntKind.wrap,IntKind.bits,IntKind.signed,Bool.false_and,Bool.false_eq_true, ↓reduceIte]
  omega
 simp only[aD,v16,bJ, ↓reduceIte,e]
def P2 (x y:UInt16):aD .and (v16 x) (v16 y)=some (v16 (x&&&y)):=by
 simp only[aD,v16,bJ, ↓reduceIte,gJ,sS,Option.map_some]
 show some (Value.int .u16 (IntKind.wrap .u16 ((x&&&y).toNat:Int)))=_
 rw[Im _ (x&&&y).toNat_lt]
def T2 (x y:UInt16):aD .or (v16 x) (v16 y)=some (v16 (x|||y)):=by
 simp only[aD,v16,bJ, ↓reduceIte,gJ,sS,Option.map_some]
 show some (Value.int .u16 (IntKind.wrap .u16 ((x|||y).toNat:Int)))=_
 rw[Im _ (x|||y).toNat_lt]
def Ps (x y:UInt16):aD .xor (v16 x) (v16 y)=some (v16 (x^^^y)):=by
 simp only[aD,v16,bJ, ↓reduceIte,gJ,sS,Option.map_some]
 show some (Value.int .u16 (IntKind.wrap .u16 ((x^^^y).toNat:Int)))=_
 rw[Im _ (x^^^y).toNat_lt]
def Rj (x:UInt16):unV .xor (v16 x)=some (v16 (~~~ x)):=by
 have hx:=x.toNat_lt
 have e: (BitVec.ofInt (IntKind.bits .u16) (IntKind.max .u16))=BitVec.allOnes 16:=rfl
 have e2: (BitVec.allOnes 16^^^x.toBitVec)=(~~~ x).toBitVec:=by rw[UInt16.toBitVec_not];exact BitVec.allOnes_xor
 simp only[unV,v16,gJ,sS,IntKind.signed,Bool.false_eq_true, ↓reduceIte,e,Option.map_some]
 show some (Value.int .u16 (IntKind.wrap .u16 ((BitVec.allOnes 16^^^x.toBitVec).toNat:Int)))=_
 rw[e2]
 show some (Value.int .u16 (IntKind.wrap .u16 ((~~~ x).toNat:Int)))=_
 rw[Im _ (~~~ x).toNat_lt]
def uB (x:UInt16) (n:Nat):UInt16:=UInt16.ofNat (x.toNat / 2^n)
def u9 (x:UInt16) (n:Nat):UInt16:=UInt16.ofNat (x.toNat*2^n)
def Oh (x y:UInt16):aD .lss (v16 x) (v16 y)=some (.bool (decide (x<y))):=by
 simp only[aD,v16,bJ, ↓reduceIte,fO,UInt16.lt_iff_toNat_lt,Int.ofNat_lt,Int.ofNat_le]
def Of (x y:UInt16):aD .leq (v16 x) (v16 y)=some (.bool (decide (x≤y))):=by
 simp only[aD,v16,bJ, ↓reduceIte,fO,UInt16.le_iff_toNat_le,Int.ofNat_lt,Int.ofNat_le]
def Oe (x y:UInt16):aD .gtr (v16 x) (v16 y)=some (.bool (decide (y<x))):=by
 simp only[aD,v16,bJ, ↓reduceIte,fO,UInt16.lt_iff_toNat_lt,Int.ofNat_lt,Int.ofNat_le,gt_iff_lt,ge_iff_le]
def Px (x y:UInt16):aD .geq (v16 x) (v16 y)=some (.bool (decide (y≤x))):=by
 simp only[aD,v16,bJ, ↓reduceIte,fO,UInt16.le_iff_toNat_le,Int.ofNat_lt,Int.ofNat_le,gt_iff_lt,ge_iff_le]
def FN (x y:UInt16): ((x.toNat:Int)==(y.toNat:Int))=(x==y):=by
 rw[Bool.eq_iff_iff,beq_iff_eq,beq_iff_eq,Int.ofNat_inj,UInt16.toNat_inj]
def Oi (x y:UInt16):aD .eql (v16 x) (v16 y)=some (.bool (x==y)):=by
 simp only[aD,v16,bJ, ↓reduceIte,fO,FN]
def Q5 (x y:UInt16):aD .neq (v16 x) (v16 y)=some (.bool (x !=y)):=by
 simp only[aD,v16,bJ, ↓reduceIte,fO,bne,FN]
def OH (x y:UInt16) (h:0<y.toNat):aD .quo (v16 x) (v16 y)=some (v16 (x / y)):=by
 have hx:=x.toNat_lt
 have e:IntKind.wrap .u16 ((x.toNat:Int).tdiv (y.toNat:Int))=((x / y).toNat:Int):=by
  rw[UInt16.toNat_div,Int.tdiv_eq_ediv_of_nonneg oM,←Int.natCast_ediv,vO]
  congr 1
  exact Nat.mod_eq_of_lt (Nat.lt_of_le_of_lt (Nat.div_le_self _ _) hx)
 have h0: ((y.toNat:Int)=0)=False:=by simp only[eq_iff_iff,iff_false];omega
 simp only[aD,v16,bJ, ↓reduceIte,h0,e]
def Pu (x y:UInt16) (h:0<y.toNat):aD .rem (v16 x) (v16 y)=some (v16 (x%y)):=by
 have e: ((x.toNat:Int).tmod (y.toNat:Int))=((x%y).toNat:Int):=by
  rw[UInt16.toNat_mod,Int.tmod_eq_emod_of_nonneg oM,Int.natCast_emod]
 have h0: ((y.toNat:Int)=0)=False:=by simp only[eq_iff_iff,iff_false];omega
 simp only[aD,v16,bJ, ↓reduceIte,h0,e]
def Aq (x:UInt16) (kk:IntKind) (c:Nat):aD .shr (v16 x) (.int kk (c:Int))=some (v16 (uB x c)):=by
 have hx:=x.toNat_lt
 have h0: ((c:Int)<0)=False:=by simp only[eq_iff_iff,iff_false];omega
 have e: ((x.toNat:Int).fdiv (2^ (min c 16)))=((uB x c).toNat:Int):=by
  have hp: (2:Int)^ (min c 16)=((2^ (min c 16):Nat):Int):=by rw[Int.natCast_pow];rfl
  rw[hp,Int.fdiv_eq_ediv_of_nonneg _ (Int.natCast_nonneg _),←Int.natCast_ediv,uB,UInt16.toNat_ofNat']
  congr 1
  rw[Nat.mod_eq_of_lt (Nat.lt_of_le_of_lt (Nat.div_le_self _ _) hx)]
  by_cases hc:c≤16
  ·rw[Nat.min_eq_left hc]
  rw[Nat.min_eq_right oM,Nat.div_eq_of_lt (by simpa using hx),Nat.div_eq_of_lt]
  exact Nat.lt_of_lt_of_le (by simpa using hx) (Nat.pow_le_pow_right oM (by omega:16≤c))
 simp only[aD,v16,nF,h0, ↓reduceIte,Int.toNat_natCast,IntKind.bits,e]
def Ay (x:UInt16) (kk:IntKind) (c:Nat):aD .shl (v16 x) (.int kk (c:Int))=some (v16 (u9 x c)):=by
 have h0: ((c:Int)<0)=False:=by simp only[eq_iff_iff,iff_false];omega
 have e:IntKind.wrap .u16 ((x.toNat:Int)* (2^ (min c 16)))=((u9 x c).toNat:Int):=by
  have hp: (2:Int)^ (min c 16)=((2^ (min c 16):Nat):Int):=by rw[Int.natCast_pow];rfl
  rw[hp,←Int.natCast_mul,vO,u9,UInt16.toNat_ofNat']
  congr 1
  by_cases hc:c≤16
  ·rw[Nat.min_eq_left hc]
  rw[Nat.min_eq_right oM]
  have:2^c=2^16*2^ (c - 16):=by rw[←Nat.pow_add];congr 1;omega
  rw[this,←Nat.mul_assoc,Nat.mul_right_comm]
  simp[Nat.mul_mod_left]
 simp only[aD,v16,nF,h0, ↓reduceIte,Int.toNat_natCast,IntKind.bits,e]
def v32 (x:UInt32):Value:= .int .u32 (x.toNat:Int)
def Ip (n:Nat) (h:n<4294967296):IntKind.wrap .u32 (n:Int)=(n:Int):=by
 simp only[IntKind.wrap,IntKind.bits,IntKind.signed,Bool.false_and,Bool.false_eq_true, ↓reduceIte]
 omega
def vM (n:Nat):IntKind.wrap .u32 (n:Int)=((n%4294967296:Nat):Int):=by
 simp only[IntKind.wrap,IntKind.bits,IntKind.signed,Bool.false_and,Bool.false_eq_true, ↓reduceIte]
 omega
def sW (x:UInt32):BitVec.ofInt (IntKind.bits .u32) (x.toNat:Int)=x.toBitVec:=by
 apply BitVec.eq_of_toNat_eq
 simp only[IntKind.bits,BitVec.ofInt_natCast,BitVec.toNat_ofNat,UInt32.toNat_toBitVec]
 exact Nat.mod_eq_of_lt x.toNat_lt
def YN (n:Nat) (h:n<4294967296):Value.int .u32 (no_index (@OfNat.ofNat Int n _))=v32 (@OfNat.ofNat UInt32 n _):=by
 have: ((@OfNat.ofNat UInt32 n _).toNat:Int)=(@OfNat.ofNat Int n _):=by
  have e: (@OfNat.ofNat UInt32 n _).toNat=n:=by rw[UInt32.toNat_ofNat];exact Nat.mod_eq_of_lt h
  rw[e];rfl
 rw[v32,this]
def P4 (x y:UInt32):aD .add (v32 x) (v32 y)=some (v32 (x+y)):=by
 simp only[aD,v32,bJ, ↓reduceIte,UInt32.toNat_add]
 rw[←Int.natCast_add,vM]
def On (x y:UInt32):aD .mul (v32 x) (v32 y)=some (v32 (x*y)):=by
 simp only[aD,v32,bJ, ↓reduceIte,UInt32.toNat_mul]
 rw[←Int.natCast_mul,vM]
def PE (x y:UInt32):aD .sub (v32 x) (v32 y)=some (v32 (x - y)):=by
 have hx:=x.toNat_lt;have hy:=y.toNat_lt
 have e:IntKind.wrap .u32 ((x.toNat:Int) - (y.toNat:Int))=((x - y).toNat:Int):=by
  rw[UInt32.toNat_sub]
  simp only[IntKind.wrap,IntKind.bits,IntKind.signed,Bool.false_and,Bool.false_eq_true, ↓reduceIte]
  omega
 simp only[aD,v32,bJ, ↓reduceIte,e]
def Q0 (x y:UInt32):aD .and (v32 x) (v32 y)=some (v32 (x&&&y)):=by
 simp only[aD,v32,bJ, ↓reduceIte,gJ,sW,Option.map_some]
 show some (Value.int .u32 (IntKind.wrap .u32 ((x&&&y).toNat:Int)))=_
 rw[Ip _ (x&&&y).toNat_lt]
def Rm (x y:UInt32):aD .or (v32 x) (v32 y)=some (v32 (x|||y)):=by
 simp only[aD,v32,bJ, ↓reduceIte,gJ,sW,Option.map_some]
 show some (Value.int .u32 (IntKind.wrap .u32 ((x|||y).toNat:Int)))=_
 rw[Ip _ (x|||y).toNat_lt]
def PA (x y:UInt32):aD .xor (v32 x) (v32 y)=some (v32 (x^^^y)):=by
 simp only[aD,v32,bJ, ↓reduceIte,gJ,sW,Option.map_some]
 show some (Value.int .u32 (IntKind.wrap .u32 ((x^^^y).toNat:Int)))=_
 rw[Ip _ (x^^^y).toNat_lt]
def Rw (x:UInt32):unV .xor (v32 x)=some (v32 (~~~ x)):=by
 have hx:=x.toNat_lt
 have e: (BitVec.ofInt (IntKind.bits .u32) (IntKind.max .u32))=BitVec.allOnes 32:=rfl
 have e2: (BitVec.allOnes 32^^^x.toBitVec)=(~~~ x).toBitVec:=by rw[UInt32.toBitVec_not];exact BitVec.allOnes_xor
 simp only[unV,v32,gJ,sW,IntKind.signed,Bool.false_eq_true, ↓reduceIte,e,Option.map_some]
 show some (Value.int .u32 (IntKind.wrap .u32 ((BitVec.allOnes 32^^^x.toBitVec).toNat:Int)))=_
 rw[e2]
 show some (Value.int .u32 (IntKind.wrap .u32 ((~~~ x).toNat:Int)))=_
 rw[Ip _ (~~~ x).toNat_lt]
def gb (x:UInt32) (n:Nat):UInt32:=UInt32.ofNat (x.toNat / 2^n)
def r8 (x:UInt32) (n:Nat):UInt32:=UInt32.ofNat (x.toNat*2^n)
def Pq (x y:UInt32):aD .lss (v32 x) (v32 y)=some (.bool (decide (x<y))):=by
 simp only[aD,v32,bJ, ↓reduceIte,fO,UInt32.lt_iff_toNat_lt,Int.ofNat_lt,Int.ofNat_le]
def OQ (x y:UInt32):aD .leq (v32 x) (v32 y)=some (.bool (decide (x≤y))):=by
 simp only[aD,v32,bJ, ↓reduceIte,fO,UInt32.le_iff_toNat_le,Int.ofNat_lt,Int.ofNat_le]
def Ou (x y:UInt32):aD .gtr (v32 x) (v32 y)=some (.bool (decide (y<x))):=by
 simp only[aD,v32,bJ, ↓reduceIte,fO,UInt32.lt_iff_toNat_lt,Int.ofNat_lt,Int.ofNat_le,gt_iff_lt,ge_iff_le]
def Ox (x y:UInt32):aD .geq (v32 x) (v32 y)=some (.bool (decide (y≤x))):=by
 simp only[aD,v32,bJ, ↓reduceIte,fO,UInt32.le_iff_toNat_le,Int.ofNat_lt,Int.ofNat_le,gt_iff_lt,ge_iff_le]
def Em (x y:UInt32): ((x.toNat:Int)==(y.toNat:Int))=(x==y):=by
 rw[Bool.eq_iff_iff,beq_iff_eq,beq_iff_eq,Int.ofNat_inj,UInt32.toNat_inj]
def Ot (x y:UInt32):aD .eql (v32 x) (v32 y)=some (.bool (x==y)):=by
 simp only[aD,v32,bJ, ↓reduceIte,fO,Em]
def Q1 (x y:UInt32):aD .neq (v32 x) (v32 y)=some (.bool (x !=y)):=by
 simp only[aD,v32,bJ, ↓reduceIte,fO,bne,Em]
def IE (x y:UInt32) (h:0<y.toNat):aD .quo (v32 x) (v32 y)=some (v32 (x / y)):=by
 have hx:=x.toNat_lt
 have e:IntKind.wrap .u32 ((x.toNat:Int).tdiv (y.toNat:Int))=((x / y).toNat:Int):=by
  rw[UInt32.toNat_div,Int.tdiv_eq_ediv_of_nonneg oM,←Int.natCast_ediv,vM]
  congr 1
  exact Nat.mod_eq_of_lt (Nat.lt_of_le_of_lt (Nat.div_le_self _ _) hx)
 have h0: ((y.toNat:Int)=0)=False:=by simp only[eq_iff_iff,iff_false];omega
 simp only[aD,v32,bJ, ↓reduceIte,h0,e]
def IC (x y:UInt32) (h:0<y.toNat):aD .rem (v32 x) (v32 y)=some (v32 (x%y)):=by
 have e: ((x.toNat:Int).tmod (y.toNat:Int))=((x%y).toNat:Int):=by
  rw[UInt32.toNat_mod,Int.tmod_eq_emod_of_nonneg oM,Int.natCast_emod]
 have h0: ((y.toNat:Int)=0)=False:=by simp only[eq_iff_iff,iff_false];omega
 simp only[aD,v32,bJ, ↓reduceIte,h0,e]
def B6 (x:UInt32) (kk:IntKind) (c:Nat):aD .shr (v32 x) (.int kk (c:Int))=some (v32 (gb x c)):=by
 have hx:=x.toNat_lt
 have h0: ((c:Int)<0)=False:=by simp only[eq_iff_iff,iff_false];omega
 have e: ((x.toNat:Int).fdiv (2^ (min c 32)))=((gb x c).toNat:Int):=by
  have hp: (2:Int)^ (min c 32)=((2^ (min c 32):Nat):Int):=by rw[Int.natCast_pow];rfl
  rw[hp,Int.fdiv_eq_ediv_of_nonneg _ (Int.natCast_nonneg _),←Int.natCast_ediv,gb,UInt32.toNat_ofNat']
  congr 1
  rw[Nat.mod_eq_of_lt (Nat.lt_of_le_of_lt (Nat.div_le_self _ _) hx)]
  by_cases hc:c≤32
  ·rw[Nat.min_eq_left hc]
  rw[Nat.min_eq_right oM,Nat.div_eq_of_lt (by simpa using hx),Nat.div_eq_of_lt]
  exact Nat.lt_of_lt_of_le (by simpa using hx) (Nat.pow_le_pow_right oM (by omega:32≤c))
 simp only[aD,v32,nF,h0, ↓reduceIte,Int.toNat_natCast,IntKind.bits,e]
def Aw (x:UInt32) (kk:IntKind) (c:Nat):aD .shl (v32 x) (.int kk (c:Int))=some (v32 (r8 x c)):=by
 have h0: ((c:Int)<0)=False:=by simp only[eq_iff_iff,iff_false];omega
 have e:IntKind.wrap .u32 ((x.toNat:Int)* (2^ (min c 32)))=((r8 x c).toNat:Int):=by
  have hp: (2:Int)^ (min c 32)=((2^ (min c 32):Nat):Int):=by rw[Int.natCast_pow];rfl
  rw[hp,←Int.natCast_mul,vM,r8,UInt32.toNat_ofNat']
  congr 1
  by_cases hc:c≤32
  ·rw[Nat.min_eq_left hc]
  rw[Nat.min_eq_right oM]
  have:2^c=2^32*2^ (c - 32):=by rw[←Nat.pow_add];congr 1;omega
  rw[this,←Nat.mul_assoc,Nat.mul_right_comm]
  simp[Nat.mul_mod_left]
 simp only[aD,v32,nF,h0, ↓reduceIte,Int.toNat_natCast,IntKind.bits,e]
def v64 (x:UInt64):Value:= .int .u64 (x.toNat:Int)
def Io (n:Nat) (h:n<18446744073709551616):IntKind.wrap .u64 (n:Int)=(n:Int):=by
 simp only[IntKind.wrap,IntKind.bits,IntKind.signed,Bool.false_and,Bool.false_eq_true, ↓reduceIte]
 omega
def vN (n:Nat):IntKind.wrap .u64 (n:Int)=((n%18446744073709551616:Nat):Int):=by
 simp only[IntKind.wrap,IntKind.bits,IntKind.signed,Bool.false_and,Bool.false_eq_true, ↓reduceIte]
 omega
def sT (x:UInt64):BitVec.ofInt (IntKind.bits .u64) (x.toNat:Int)=x.toBitVec:=by
 apply BitVec.eq_of_toNat_eq
 simp only[IntKind.bits,BitVec.ofInt_natCast,BitVec.toNat_ofNat,UInt64.toNat_toBitVec]
 exact Nat.mod_eq_of_lt x.toNat_lt
def Xx (n:Nat) (h:n<18446744073709551616):Value.int .u64 (no_index (@OfNat.ofNat Int n _))=v64 (@OfNat.ofNat UInt64 n _):=by
 have: ((@OfNat.ofNat UInt64 n _).toNat:Int)=(@OfNat.ofNat Int n _):=by
  have e: (@OfNat.ofNat UInt64 n _).toNat=n:=by rw[UInt64.toNat_ofNat];exact Nat.mod_eq_of_lt h
  rw[e];rfl
 rw[v64,this]
def OJ (x y:UInt64):aD .add (v64 x) (v64 y)=some (v64 (x+y)):=by
 simp only[aD,v64,bJ, ↓reduceIte,UInt64.toNat_add]
 rw[←Int.natCast_add,vN]
def PX (x y:UInt64):aD .mul (v64 x) (v64 y)=some (v64 (x*y)):=by
 simp only[aD,v64,bJ, ↓reduceIte,UInt64.toNat_mul]
 rw[←Int.natCast_mul,vN]
def Oq (x y:UInt64):aD .sub (v64 x) (v64 y)=some (v64 (x - y)):=by
 have hx:=x.toNat_lt;have hy:=y.toNat_lt
 have e:IntKind.wrap .u64 ((x.toNat:Int) - (y.toNat:Int))=((x - y).toNat:Int):=by
  rw[UInt64.toNat_sub]
  simp only[IntKind.wrap,IntKind.bits,IntKind.signed,Bool.false_and,Bool.false_eq_true, ↓reduceIte]
  omega
 simp only[aD,v64,bJ, ↓reduceIte,e]
def Pb (x y:UInt64):aD .and (v64 x) (v64 y)=some (v64 (x&&&y)):=by
 simp only[aD,v64,bJ, ↓reduceIte,gJ,sT,Option.map_some]
 show some (Value.int .u64 (IntKind.wrap .u64 ((x&&&y).toNat:Int)))=_
 rw[Io _ (x&&&y).toNat_lt]
def RX (x y:UInt64):aD .or (v64 x) (v64 y)=some (v64 (x|||y)):=by
 simp only[aD,v64,bJ, ↓reduceIte,gJ,sT,Option.map_some]
 show some (Value.int .u64 (IntKind.wrap .u64 ((x|||y).toNat:Int)))=_
 rw[Io _ (x|||y).toNat_lt]
def P8 (x y:UInt64):aD .xor (v64 x) (v64 y)=some (v64 (x^^^y)):=by
 simp only[aD,v64,bJ, ↓reduceIte,gJ,sT,Option.map_some]
 show some (Value.int .u64 (IntKind.wrap .u64 ((x^^^y).toNat:Int)))=_
 rw[Io _ (x^^^y).toNat_lt]
def QZ (x:UInt64):unV .xor (v64 x)=some (v64 (~~~ x)):=by
 have hx:=x.toNat_lt
 have e: (BitVec.ofInt (IntKind.bits .u64) (IntKind.max .u64))=BitVec.allOnes 64:=rfl
 have e2: (BitVec.allOnes 64^^^x.toBitVec)=(~~~ x).toBitVec:=by rw[UInt64.toBitVec_not];exact BitVec.allOnes_xor
 simp only[unV,v64,gJ,sT,IntKind.signed,Bool.false_eq_true, ↓reduceIte,e,Option.map_some]
 show some (Value.int .u64 (IntKind.wrap .u64 ((BitVec.allOnes 64^^^x.toBitVec).toNat:Int)))=_
 rw[e2]
 show some (Value.int .u64 (IntKind.wrap .u64 ((~~~ x).toNat:Int)))=_
 rw[Io _ (~~~ x).toNat_lt]
def pL (x:UInt64) (n:Nat):UInt64:=UInt64.ofNat (x.toNat / 2^n)
def u7 (x:UInt64) (n:Nat):UInt64:=UInt64.ofNat (x.toNat*2^n)
def Po (x y:UInt64):aD .lss (v64 x) (v64 y)=some (.bool (decide (x<y))):=by
 simp only[aD,v64,bJ, ↓reduceIte,fO,UInt64.lt_iff_toNat_lt,Int.ofNat_lt,Int.ofNat_le]
def Pc (x y:UInt64):aD .leq (v64 x) (v64 y)=some (.bool (decide (x≤y))):=by
 simp only[aD,v64,bJ, ↓reduceIte,fO,UInt64.le_iff_toNat_le,Int.ofNat_lt,Int.ofNat_le]
def PO (x y:UInt64):aD .gtr (v64 x) (v64 y)=some (.bool (decide (y<x))):=by
 simp only[aD,v64,bJ, ↓reduceIte,fO,UInt64.lt_iff_toNat_lt,Int.ofNat_lt,Int.ofNat_le,gt_iff_lt,ge_iff_le]
def Pg (x y:UInt64):aD .geq (v64 x) (v64 y)=some (.bool (decide (y≤x))):=by
 simp only[aD,v64,bJ, ↓reduceIte,fO,UInt64.le_iff_toNat_le,Int.ofNat_lt,Int.ofNat_le,gt_iff_lt,ge_iff_le]
def Ej (x y:UInt64): ((x.toNat:Int)==(y.toNat:Int))=(x==y):=by
 rw[Bool.eq_iff_iff,beq_iff_eq,beq_iff_eq,Int.ofNat_inj,UInt64.toNat_inj]
def PV (x y:UInt64):aD .eql (v64 x) (v64 y)=some (.bool (x==y)):=by
 simp only[aD,v64,bJ, ↓reduceIte,fO,Ej]
def QF (x y:UInt64):aD .neq (v64 x) (v64 y)=some (.bool (x !=y)):=by
 simp only[aD,v64,bJ, ↓reduceIte,fO,bne,Ej]
def Q7 (x y:UInt64) (h:0<y.toNat):aD .quo (v64 x) (v64 y)=some (v64 (x / y)):=by
 have hx:=x.toNat_lt
 have e:IntKind.wrap .u64 ((x.toNat:Int).tdiv (y.toNat:Int))=((x / y).toNat:Int):=by
  rw[UInt64.toNat_div,Int.tdiv_eq_ediv_of_nonneg oM,←Int.natCast_ediv,vN]
  congr 1
  exact Nat.mod_eq_of_lt (Nat.lt_of_le_of_lt (Nat.div_le_self _ _) hx)
 have h0: ((y.toNat:Int)=0)=False:=by simp only[eq_iff_iff,iff_false];omega
 simp only[aD,v64,bJ, ↓reduceIte,h0,e]
def ON (x y:UInt64) (h:0<y.toNat):aD .rem (v64 x) (v64 y)=some (v64 (x%y)):=by
 have e: ((x.toNat:Int).tmod (y.toNat:Int))=((x%y).toNat:Int):=by
  rw[UInt64.toNat_mod,Int.tmod_eq_emod_of_nonneg oM,Int.natCast_emod]
 have h0: ((y.toNat:Int)=0)=False:=by simp only[eq_iff_iff,iff_false];omega
 simp only[aD,v64,bJ, ↓reduceIte,h0,e]
def An (x:UInt64) (kk:IntKind) (c:Nat):aD .shr (v64 x) (.int kk (c:Int))=some (v64 (pL x c)):=by
 have hx:=x.toNat_lt
 have h0: ((c:Int)<0)=False:=by simp only[eq_iff_iff,iff_false];omega
 have e: ((x.toNat:Int).fdiv (2^ (min c 64)))=((pL x c).toNat:Int):=by
  have hp: (2:Int)^ (min c 64)=((2^ (min c 64):Nat):Int):=by rw[Int.natCast_pow];rfl
  rw[hp,Int.fdiv_eq_ediv_of_nonneg _ (Int.natCast_nonneg _),←Int.natCast_ediv,pL,UInt64.toNat_ofNat']
  congr 1
  rw[Nat.mod_eq_of_lt (Nat.lt_of_le_of_lt (Nat.div_le_self _ _) hx)]
  by_cases hc:c≤64
  ·rw[Nat.min_eq_left hc]
  rw[Nat.min_eq_right oM,Nat.div_eq_of_lt (by simpa using hx),Nat.div_eq_of_lt]
  exact Nat.lt_of_lt_of_le (by simpa using hx) (Nat.pow_le_pow_right oM (by omega:64≤c))
 simp only[aD,v64,nF,h0, ↓reduceIte,Int.toNat_natCast,IntKind.bits,e]
def Am (x:UInt64) (kk:IntKind) (c:Nat):aD .shl (v64 x) (.int kk (c:Int))=some (v64 (u7 x c)):=by
 have h0: ((c:Int)<0)=False:=by simp only[eq_iff_iff,iff_false];omega
 have e:IntKind.wrap .u64 ((x.toNat:Int)* (2^ (min c 64)))=((u7 x c).toNat:Int):=by
  have hp: (2:Int)^ (min c 64)=((2^ (min c 64):Nat):Int):=by rw[Int.natCast_pow];rfl
  rw[hp,←Int.natCast_mul,vN,u7,UInt64.toNat_ofNat']
  congr 1
  by_cases hc:c≤64
  ·rw[Nat.min_eq_left hc]
  rw[Nat.min_eq_right oM]
  have:2^c=2^64*2^ (c - 64):=by rw[←Nat.pow_add];congr 1;omega
  rw[this,←Nat.mul_assoc,Nat.mul_right_comm]
  simp[Nat.mul_mod_left]
 simp only[aD,v64,nF,h0, ↓reduceIte,Int.toNat_natCast,IntKind.bits,e]
def Ml (x:UInt8) (c:UInt8):aD .shr (v8 x) (v8 c)=some (v8 (rn x c.toNat)):=AZ x _ _
def NN (x:UInt8) (c:UInt8):aD .shl (v8 x) (v8 c)=some (v8 (ru x c.toNat)):=Ab x _ _
def R_ (x:UInt8):bh .u8 (v8 x)=some (v8 (UInt8.ofNat x.toNat)):=by
 simp only[bh,v8,v8,vX,UInt8.toNat_ofNat']
def M8 (x:UInt8) (c:UInt16):aD .shr (v8 x) (v16 c)=some (v8 (rn x c.toNat)):=AZ x _ _
def MG (x:UInt8) (c:UInt16):aD .shl (v8 x) (v16 c)=some (v8 (ru x c.toNat)):=Ab x _ _
def Om (x:UInt8):bh .u16 (v8 x)=some (v16 (UInt16.ofNat x.toNat)):=by
 simp only[bh,v8,v16,vO,UInt16.toNat_ofNat']
def M4 (x:UInt8) (c:UInt32):aD .shr (v8 x) (v32 c)=some (v8 (rn x c.toNat)):=AZ x _ _
def MS (x:UInt8) (c:UInt32):aD .shl (v8 x) (v32 c)=some (v8 (ru x c.toNat)):=Ab x _ _
def PS (x:UInt8):bh .u32 (v8 x)=some (v32 (UInt32.ofNat x.toNat)):=by
 simp only[bh,v8,v32,vM,UInt32.toNat_ofNat']
def MN (x:UInt8) (c:UInt64):aD .shr (v8 x) (v64 c)=some (v8 (rn x c.toNat)):=AZ x _ _
def MX (x:UInt8) (c:UInt64):aD .shl (v8 x) (v64 c)=some (v8 (ru x c.toNat)):=Ab x _ _
def Pm (x:UInt8):bh .u64 (v8 x)=some (v64 (UInt64.ofNat x.toNat)):=by
 simp only[bh,v8,v64,vN,UInt64.toNat_ofNat']
def X2_ (x:UInt8) (kk:IntKind) (c:Int) (h:0≤c):aD .shr (v8 x) (.int kk c)=some (v8 (rn x c.toNat)):=by
 obtain⟨n,rfl⟩:=Int.eq_ofNat_of_zero_le h;exact AZ x _ _
def X1_ (x:UInt8) (kk:IntKind) (c:Int) (h:0≤c):aD .shl (v8 x) (.int kk c)=some (v8 (ru x c.toNat)):=by
 obtain⟨n,rfl⟩:=Int.eq_ofNat_of_zero_le h;exact Ab x _ _
def Ov (x:UInt8):bh .i64 (v8 x)=some (.int .i64 ((x.toNat:Int))):=by
 have hx:=x.toNat_lt
 simp only[bh,v8]
 rw[pS _ oM]
def VS_ (kk:IntKind) (n:Int):bh .u8 (.int kk n)=some (v8 (UInt8.ofInt n)):=by
 simp only[bh,v8,Mw]
def ML (x:UInt16) (c:UInt8):aD .shr (v16 x) (v8 c)=some (v16 (uB x c.toNat)):=Aq x _ _
def MH (x:UInt16) (c:UInt8):aD .shl (v16 x) (v8 c)=some (v16 (u9 x c.toNat)):=Ay x _ _
def PN (x:UInt16):bh .u8 (v16 x)=some (v8 (UInt8.ofNat x.toNat)):=by
 simp only[bh,v16,v8,vX,UInt8.toNat_ofNat']
def V7_ (x:UInt16) (c:UInt16):aD .shr (v16 x) (v16 c)=some (v16 (uB x c.toNat)):=Aq x _ _
def WO_ (x:UInt16) (c:UInt16):aD .shl (v16 x) (v16 c)=some (v16 (u9 x c.toNat)):=Ay x _ _
def O5 (x:UInt16):bh .u16 (v16 x)=some (v16 (UInt16.ofNat x.toNat)):=by
 simp only[bh,v16,v16,vO,UInt16.toNat_ofNat']
def Vf_ (x:UInt16) (c:UInt32):aD .shr (v16 x) (v32 c)=some (v16 (uB x c.toNat)):=Aq x _ _
def VO_ (x:UInt16) (c:UInt32):aD .shl (v16 x) (v32 c)=some (v16 (u9 x c.toNat)):=Ay x _ _
def Nt (x:UInt16):bh .u32 (v16 x)=some (v32 (UInt32.ofNat x.toNat)):=by
 simp only[bh,v16,v32,vM,UInt32.toNat_ofNat']
def V5_ (x:UInt16) (c:UInt64):aD .shr (v16 x) (v64 c)=some (v16 (uB x c.toNat)):=Aq x _ _
def VT_ (x:UInt16) (c:UInt64):aD .shl (v16 x) (v64 c)=some (v16 (u9 x c.toNat)):=Ay x _ _
def Nf (x:UInt16):bh .u64 (v16 x)=some (v64 (UInt64.ofNat x.toNat)):=by
 simp only[bh,v16,v64,vN,UInt64.toNat_ofNat']
def Jl_ (x:UInt16) (kk:IntKind) (c:Int) (h:0≤c):aD .shr (v16 x) (.int kk c)=some (v16 (uB x c.toNat)):=by
 obtain⟨n,rfl⟩:=Int.eq_ofNat_of_zero_le h;exact Aq x _ _
def Jr_ (x:UInt16) (kk:IntKind) (c:Int) (h:0≤c):aD .shl (v16 x) (.int kk c)=some (v16 (u9 x c.toNat)):=by
 obtain⟨n,rfl⟩:=Int.eq_ofNat_of_zero_le h;exact Ay x _ _
def Ny (x:UInt16):bh .i64 (v16 x)=some (.int .i64 ((x.toNat:Int))):=by
 have hx:=x.toNat_lt
 simp only[bh,v16]
 rw[pS _ oM]
def X8_ (kk:IntKind) (n:Int):bh .u16 (.int kk n)=some (v16 (UInt16.ofInt n)):=by
 simp only[bh,v16,Mf]
def MI (x:UInt32) (c:UInt8):aD .shr (v32 x) (v8 c)=some (v32 (gb x c.toNat)):=B6 x _ _
def MB (x:UInt32) (c:UInt8):aD .shl (v32 x) (v8 c)=some (v32 (r8 x c.toNat)):=Aw x _ _
def Pt (x:UInt32):bh .u8 (v32 x)=some (v8 (UInt8.ofNat x.toNat)):=by
 simp only[bh,v32,v8,vX,UInt8.toNat_ofNat']
def Vu_ (x:UInt32) (c:UInt16):aD .shr (v32 x) (v16 c)=some (v32 (gb x c.toNat)):=B6 x _ _
def Wa_ (x:UInt32) (c:UInt16):aD .shl (v32 x) (v16 c)=some (v32 (r8 x c.toNat)):=Aw x _ _
def Nn (x:UInt32):bh .u16 (v32 x)=some (v16 (UInt16.ofNat x.toNat)):=by
 simp only[bh,v32,v16,vO,UInt16.toNat_ofNat']
def WT_ (x:UInt32) (c:UInt32):aD .shr (v32 x) (v32 c)=some (v32 (gb x c.toNat)):=B6 x _ _
def WU_ (x:UInt32) (c:UInt32):aD .shl (v32 x) (v32 c)=some (v32 (r8 x c.toNat)):=Aw x _ _
def NK (x:UInt32):bh .u32 (v32 x)=some (v32 (UInt32.ofNat x.toNat)):=by
 simp only[bh,v32,v32,vM,UInt32.toNat_ofNat']
def WZ_ (x:UInt32) (c:UInt64):aD .shr (v32 x) (v64 c)=some (v32 (gb x c.toNat)):=B6 x _ _
def WB_ (x:UInt32) (c:UInt64):aD .shl (v32 x) (v64 c)=some (v32 (r8 x c.toNat)):=Aw x _ _
def N7 (x:UInt32):bh .u64 (v32 x)=some (v64 (UInt64.ofNat x.toNat)):=by
 simp only[bh,v32,v64,vN,UInt64.toNat_ofNat']
def Jn_ (x:UInt32) (kk:IntKind) (c:Int) (h:0≤c):aD .shr (v32 x) (.int kk c)=some (v32 (gb x c.toNat)):=by
 obtain⟨n,rfl⟩:=Int.eq_ofNat_of_zero_le h;exact B6 x _ _
def JA_ (x:UInt32) (kk:IntKind) (c:Int) (h:0≤c):aD .shl (v32 x) (.int kk c)=some (v32 (r8 x c.toNat)):=by
 obtain⟨n,rfl⟩:=Int.eq_ofNat_of_zero_le h;exact Aw x _ _
def NF (x:UInt32):bh .i64 (v32 x)=some (.int .i64 ((x.toNat:Int))):=by
 have hx:=x.toNat_lt
 simp only[bh,v32]
 rw[pS _ oM]
def Km_ (kk:IntKind) (n:Int):bh .u32 (.int kk n)=some (v32 (UInt32.ofInt n)):=by
 simp only[bh,v32,MV]
def M6 (x:UInt64) (c:UInt8):aD .shr (v64 x) (v8 c)=some (v64 (pL x c.toNat)):=An x _ _
def W9_ (x:UInt64) (c:UInt8):aD .shl (v64 x) (v8 c)=some (v64 (u7 x c.toNat)):=Am x _ _
def Q6 (x:UInt64):bh .u8 (v64 x)=some (v8 (UInt8.ofNat x.toNat)):=by
 simp only[bh,v64,v8,vX,UInt8.toNat_ofNat']
def Wf_ (x:UInt64) (c:UInt16):aD .shr (v64 x) (v16 c)=some (v64 (pL x c.toNat)):=An x _ _
def Wh_ (x:UInt64) (c:UInt16):aD .shl (v64 x) (v16 c)=some (v64 (u7 x c.toNat)):=Am x _ _
def Nq (x:UInt64):bh .u16 (v64 x)=some (v16 (UInt16.ofNat x.toNat)):=by
 simp only[bh,v64,v16,vO,UInt16.toNat_ofNat']
def W4_ (x:UInt64) (c:UInt32):aD .shr (v64 x) (v32 c)=some (v64 (pL x c.toNat)):=An x _ _
def VU_ (x:UInt64) (c:UInt32):aD .shl (v64 x) (v32 c)=some (v64 (u7 x c.toNat)):=Am x _ _
def OA (x:UInt64):bh .u32 (v64 x)=some (v32 (UInt32.ofNat x.toNat)):=by
 simp only[bh,v64,v32,vM,UInt32.toNat_ofNat']
def W3_ (x:UInt64) (c:UInt64):aD .shr (v64 x) (v64 c)=some (v64 (pL x c.toNat)):=An x _ _
def VA_ (x:UInt64) (c:UInt64):aD .shl (v64 x) (v64 c)=some (v64 (u7 x c.toNat)):=Am x _ _
def Np (x:UInt64):bh .u64 (v64 x)=some (v64 (UInt64.ofNat x.toNat)):=by
 simp only[bh,v64,v64,vN,UInt64.toNat_ofNat']
def Jy_ (x:UInt64) (kk:IntKind) (c:Int) (h:0≤c):aD .shr (v64 x) (.int kk c)=some (v64 (pL x c.toNat)):=by
 obtain⟨n,rfl⟩:=Int.eq_ofNat_of_zero_le h;exact An x _ _
def JP_ (x:UInt64) (kk:IntKind) (c:Int) (h:0≤c):aD .shl (v64 x) (.int kk c)=some (v64 (u7 x c.toNat)):=by
 obtain⟨n,rfl⟩:=Int.eq_ofNat_of_zero_le h;exact Am x _ _
def NX (x:UInt64):bh .i64 (v64 x)=some (.int .i64 (IntKind.wrap .i64 (x.toNat:Int))):=by
 have hx:=x.toNat_lt
 simp only[bh,v64]
def XX_ (kk:IntKind) (n:Int):bh .u64 (.int kk n)=some (v64 (UInt64.ofInt n)):=by
 simp only[bh,v64,MP]
def RU (n:Int):bh .u8 (vi n)=some (v8 (UInt8.ofInt n)):=VS_ _ n
def PD (n:Int):bh .u16 (vi n)=some (v16 (UInt16.ofInt n)):=X8_ _ n
def Q2 (n:Int):bh .u32 (vi n)=some (v32 (UInt32.ofInt n)):=Km_ _ n
def P_ (n:Int):bh .u64 (vi n)=some (v64 (UInt64.ofInt n)):=XX_ _ n
def Mo (x:UInt8) (c:Int) (h:0≤c):aD .shr (v8 x) (vi c)=some (v8 (rn x c.toNat)):=X2_ x _ c h
def NM (x:UInt8) (c:Int) (h:0≤c):aD .shl (v8 x) (vi c)=some (v8 (ru x c.toNat)):=X1_ x _ c h
def MM (x:UInt16) (c:Int) (h:0≤c):aD .shr (v16 x) (vi c)=some (v16 (uB x c.toNat)):=Jl_ x _ c h
def W6_ (x:UInt16) (c:Int) (h:0≤c):aD .shl (v16 x) (vi c)=some (v16 (u9 x c.toNat)):=Jr_ x _ c h
def L_ (x:UInt32) (c:Int) (h:0≤c):aD .shr (v32 x) (vi c)=some (v32 (gb x c.toNat)):=Jn_ x _ c h
def M3 (x:UInt32) (c:Int) (h:0≤c):aD .shl (v32 x) (vi c)=some (v32 (r8 x c.toNat)):=JA_ x _ c h
def MU (x:UInt64) (c:Int) (h:0≤c):aD .shr (v64 x) (vi c)=some (v64 (pL x c.toNat)):=Jy_ x _ c h
def Mg (x:UInt64) (c:Int) (h:0≤c):aD .shl (v64 x) (vi c)=some (v64 (u7 x c.toNat)):=JP_ x _ c h
end Go.Sx
end
section
namespace Go.Sx
open Go
def Fx:TypeDesc→Bool
 | .struct _=>true
 | .array _ _=>true
 |_=>false
def aK (P:Program) (t:TypeId):Option (Bool×Nat):=
 match P.underlying t,P.info? t with
 |some d,some i=>some (Fx d,i.size)
 |_,_=>none
inductive Ix where
 |arr (n:Nat) (m:Bool×Nat)
 |sl (m:Bool×Nat)
 |str
 |no
def ixT (P:Program) (t:TypeId):Ix:=
 match P.underlying t with
 |some (.array n e)=>match aK P e with|some m=> .arr n m|none=> .no
 |some (.slice e)=>match aK P e with|some m=> .sl m|none=> .no
 |some .string=> .str
 |_=> .no
def aV (P:Program) (t:TypeId) (i:Nat):Option (Nat× (Bool×Nat)):=
 match P.underlying t with
 |some (.struct fs)=>match fs[i]? with
  |some fd=>match aK P fd.type with
   |some m=>some (fd.offset,m)
   |none=>none
  |none=>none
 |_=>none
inductive Cv where
 |int (k:IntKind)
 |str
 |bytesStr
 |strBytes (e:TypeId)
 |no
def cvT (P:Program) (s d:TypeId):Cv:=
 match P.underlying s,P.underlying d with
 |some (.int _),some (.int k)=> .int k
 |some .string,some .string=> .str
 |some (.slice e),some .string=>match P.underlying e with|some (.int .u8)=> .bytesStr|_=> .no
 |some .string,some (.slice e)=>match P.underlying e with|some (.int .u8)=> .strBytes e|_=> .no
 |_,_=> .no
section
variable {P:Program}
def DC {t:TypeId} {m:Bool×Nat} (h:aK P t=some m): ∃d i,P.underlying t=some d∧P.info? t=some i∧Fx d=m.1∧i.size=m.2:=by
 unfold aK at h
 split at h
 ·rename_i d i hd hi
  cases h
  exact⟨d,i,hd,hi,rfl,rfl⟩
 cases h
def LM {t:TypeId} {m:Bool×Nat} (h:aK P t=some m) (w:World): (isAgg t).run P w= .ok m.1 w:=by
 obtain⟨d,i,hd,hi,h1,_⟩:=DC h
 unfold isAgg
 rw[Sem.run_bind,run_underlying hd w,←h1]
 cases d<;>rfl
def gq {t:TypeId} {m:Bool×Nat} (h:aK P t=some m) (w:World): (sizeOf t).run P w= .ok m.2 w:=by
 obtain⟨d,i,hd,hi,_,h2⟩:=DC h
 simp[sizeOf,typeInfo,hi,h2]
def partV (m:Bool×Nat) (cs:Array Value) (off:Nat):Option Value:=
 if m.1 then some (.agg (cs.extract off (off+m.2))) else cs[off]?
def qx {t:TypeId} {m:Bool×Nat} (h:aK P t=some m) {cs:Array Value} {off:Nat} {v:Value} (hv:partV m cs off=some v) (w:World): (part t cs off).run P w= .ok v w:=by
 unfold part
 rw[Sem.run_bind,LM h w]
 simp only[Result.andThen_ok]
 unfold partV at hv
 cases hm:m.1 with
 |true=>
  rw[hm] at hv
  simp only[↓reduceIte,Option.some.injEq] at hv
  simp only[↓reduceIte]
  rw[Sem.run_bind,gq h w]
  simp only[Result.andThen_ok,Sem.run_pure,hv]
 |false=>
  rw[hm] at hv
  simp only[Bool.false_eq_true, ↓reduceIte] at hv
  simp only[Bool.false_eq_true, ↓reduceIte,hv,Sem.run_pure]
end
def vp (b off:Nat):Value:= .pointer (some ⟨b,off,none⟩)
def vsl (b off n c:Nat):Value:= .slice (some ⟨b,off,none⟩) n c
def vs (l:List UInt8):Value:= .string ⟨l.toArray⟩
def oV (b o n:Nat): (Addr.mk b o none).add n=⟨b,o+n,none⟩:=by
 unfold Addr.add;split<;>simp_all
def ixI:Value→Option Int
 | .int _ n=>some n
 |_=>none
def pd (x:Ix) (v:Value) (i:Option Int):Option Value:=
 match x,v,i with
 | .arr n m, .agg cs,some k=>if 0≤k∧k<n then partV m cs (k.toNat*m.2) else none
 | .str, .string s,some k=>if 0≤k then(s[k.toNat]?).map fun b=> .int .u8 (b.toNat:Int) else none
 |_,_,_=>none
def nC (x:Ix) (v:Value) (i:Option Int):Option Value:=
 match x,v,i with
 | .arr n m, .pointer (some a),some k=>if 0≤k∧k<n then some (.pointer (some (a.add (k.toNat*m.2)))) else none
 | .sl m, .slice (some a) n _,some k=>if 0≤k∧k<n then some (.pointer (some (a.add (k.toNat*m.2)))) else none
 |_,_,_=>none
def A7 (x:Option (Nat× (Bool×Nat))) (v:Value):Option Value:=
 match x,v with
 |some (off,m), .pointer (some a)=>if m.2=0 then none else some (.pointer (some (a.add off)))
 |_,_=>none
def sQ (x:Option (Nat× (Bool×Nat))) (v:Value):Option Value:=
 match x,v with
 |some (off,m), .agg cs=>partV m cs off
 |_,_=>none
def nilV (v:Value):Option Value:=
 match v with
 | .pointer (some a)=>some (.pointer (some a))
 | .func (.func k) a b=>some (.func (.func k) a b)
 |_=>none
def Iy (v:Value) (i:Nat):Option Value:=
 match v with
 | .tuple vs=>vs[i]?
 |_=>none
def eb (x:Ix) (v:Value):Option Value:=
 match x,v with
 | .str, .string s=>some (.int .i64 s.size)
 | .arr n _,_=>some (.int .i64 n)
 | .sl _, .slice _ n _=>some (.int .i64 n)
 |_,_=>none
def capV (x:Ix) (v:Value):Option Value:=
 match x,v with
 | .arr n _,_=>some (.int .i64 n)
 | .sl _, .slice _ _ c=>some (.int .i64 c)
 |_,_=>none
def jW (c a b:Value):Option Value:=
 match c with
 | .bool true=>some a
 | .bool false=>some b
 |_=>none
def bndV (n c:Nat) (lo hi:Option (Option Int)):Option (Nat×Nat):=
 match lo,hi with
 |none,none=>some (0,n)
 |some (some l),none=>if 0≤l∧l≤n then some (l.toNat,n) else none
 |none,some (some h)=>if 0≤h∧h≤c then some (0,h.toNat) else none
 |some (some l),some (some h)=>if 0≤l∧l≤h∧h≤c then some (l.toNat,h.toNat) else none
 |_,_=>none
def ii (x:Ix) (v:Value) (lo hi:Option (Option Int)):Option Value:=
 match x,v with
 | .str, .string s=>match bndV s.size s.size lo hi with
  |some (l,h)=>some (.string (s.extract l h))
  |none=>none
 | .sl m, .slice a n c=>match bndV n c lo hi with
  |some (l,h)=>some (.slice (if c=l then a else a.map (·.add (l*m.2))) (h - l) (c - l))
  |none=>none
 | .arr n m, .pointer (some a)=>match bndV n n lo hi with
  |some (l,h)=>some (.slice (some (if n=l then a else a.add (l*m.2))) (h - l) (n - l))
  |none=>none
 |_,_=>none
def aQ (m:Option (Bool×Nat)) (o:Option Obj) (off:Nat):Option Value:=
 match m,o with
 |some (true,n),some (.cells cs _ _)=>if off+n≤cs.size then some (.agg (cs.extract off (off+n))) else none
 |some (false,_),some (.cells cs _ _)=>cs[off]?
 |_,_=>none
def uT (m:Option (Bool×Nat)) (w0:World) (L:aB) (v:Value):Option Value:=
 match v with
 | .pointer (some ⟨b,off,none⟩)=>aQ m (aT w0 L b) off
 |_=>none
def uQ:List Value→Option (List UInt8)
 | []=>some []
 | .int .u8 n::r=>match uQ r with
  |some l=>some (UInt8.ofNat n.toNat::l)
  |none=>none
 |_=>none
def iI (o:Option Obj) (off n:Nat):Option Value:=
 match o with
 |some (.cells cs _ _)=>if off+n≤cs.size then(uQ (cs.extract off (off+n)).toList).map fun l=> .string ⟨l.toArray⟩ else none
 |_=>none
def x4 (w0:World) (L:aB) (v:Value):Option Value:=
 match v with
 | .slice none _ _=>some (.string .empty)
 | .slice (some ⟨b,off,none⟩) n _=>iI (aT w0 L b) off n
 |_=>none
def io (w0:World) (L:aB) (c:Cv) (v:Value):Option Value:=
 match c with
 | .int k=>bh k v
 | .str=>match v with| .string s=>some (.string s) |_=>none
 | .bytesStr=>x4 w0 L v
 |_=>none
def eA (d:Option TypeDesc) (x y:Value):Option Bool:=
 match d,x,y with
 |some (.pointer _), .pointer none, .pointer b=>some b.isNone
 |some (.pointer _), .pointer (some _), .pointer none=>some false
 |some (.slice _), .slice none _ _, .slice b _ _=>some b.isNone
 |some (.slice _), .slice (some _) _ _, .slice none _ _=>some false
 |some (.map _ _), .map none, .map b=>some b.isNone
 |some (.map _ _), .map (some _), .map none=>some false
 |some (.func _ _ _), .nilFunc, .nilFunc=>some true
 |some (.func _ _ _), .nilFunc, .func _ _ _=>some false
 |some (.func _ _ _), .func _ _ _, .nilFunc=>some false
 |some .bool, .bool a, .bool b=>some (a==b)
 |_,_,_=>none
def eN:Value→Bool
 | .int _ _=>true
 | .string _=>true
 |_=>false
def AT (f:Nat→Option Bool):List Nat→Option Bool
 | []=>some true
 |i::r=>match f i with
  |some true=>AT f r
  |some false=>some false
  |none=>none
def yk (f:Field→Option Bool):List Field→Option Bool
 | []=>some true
 |x::r=>if x.name≠ "_" then(match f x with
  |some true=>yk f r
  |some false=>some false
  |none=>none) else yk f r
def rg (m:Option (Bool×Nat)) (f:Value→Value→Option Bool) (xs ys:Array Value) (off:Nat):Option Bool:=
 match m with
 |some m=>match partV m xs off,partV m ys off with
  |some a,some b=>f a b
  |_,_=>none
 |none=>none
def eqD (P:Program):Nat→TypeId→Value→Value→Option Bool
 |0,_,_,_=>none
 |d+1,t,x,y=>match P.underlying t,x,y with
  |some (.int _), .int k a, .int k' b=>if k=k' then some (a==b) else none
  |some .string, .string a, .string b=>some (a==b)
  |some (.array n e), .agg xs, .agg ys=>match aK P e with
   |some m=>AT (fun i=>rg (some m) (eqD P d e) xs ys (i*m.2)) (List.range n)
   |none=>none
  |some (.struct fs), .agg xs, .agg ys=>if P.stoodInHeld t then none else
   yk (fun f=>rg (aK P f.type) (eqD P d f.type) xs ys f.offset) fs.toList
  |D,x,y=>eA D x y
def eqX (P:Program) (t:TypeId) (x y:Value):Option Bool:=
 match x,y with
 | .agg xs, .agg ys=>if P.eqGuardType P.depth t then none else eqD P 8 t (.agg xs) (.agg ys)
 |x,y=>eA (P.underlying t) x y
def ab (P:Program) (op:BinOp) (t:TypeId) (x y:Value):Option Value:=
 if eN x&&eN y then aD op x y
 else match op with
  | .eql=>(eqX P t x y).map fun b=> .bool b
  | .neq=>(eqX P t x y).map fun b=> .bool (!b)
  |_=>none
def j3 (P:Program) (w0:World) (L:aB) (f:Fr):Op→Option Value
 | .move x=>some (ev f x)
 | .assign x=>some (ev f x)
 | .pick c a b=>jW (ev f c) (ev f a) (ev f b)
 | .binOp op t x y _=>ab P op t (ev f x) (ev f y)
 | .unOp op _ x=>unV op (ev f x)
 | .convert s d x=>io w0 L (cvT P s d) (ev f x)
 | .nilCheck x=>nilV (ev f x)
 | .fieldAddr s x i=>A7 (aV P s i) (ev f x)
 | .field s x i=>sQ (aV P s i) (ev f x)
 | .indexAddr t x i=>nC (ixT P t) (ev f x) (ixI (ev f i))
 | .index t x i=>pd (ixT P t) (ev f x) (ixI (ev f i))
 | .load t x=>uT (aK P t) w0 L (ev f x)
 | .extract x i=>Iy (ev f x) i
 | .slice t x lo hi none=>ii (ixT P t) (ev f x) (lo.map fun o=>ixI (ev f o)) (hi.map fun o=>ixI (ev f o))
 | .makeFunc fn a b=>some (.func fn (a.map (ev f)) (b.map (ev f)))
 | .call ⟨.builtin .len,args,ts⟩=>match args[0]?,ts[0]? with
  |some x,some t=>eb (ixT P t) (ev f x)
  |_,_=>none
 | .call ⟨.builtin .cap,args,ts⟩=>match args[0]?,ts[0]? with
  |some x,some t=>capV (ixT P t) (ev f x)
  |_,_=>none
 |_=>none
def Oj {w0 w:World} {L:aB} (h:Hp w0 L w) {b:Nat} {cs:Array Value} {E:TypeId} {fz:Nat×Nat} (hr:aT w0 L b=some (.cells cs E fz)) (off:Nat):w.cell? ⟨b,off,none⟩=cs[off]? :=
 cell_of_row w b off cs E fz (h.read hr)
section
variable {P:Program} {w0 w:World} {L:aB}
def KE {b:Nat} {cs:Array Value} {E:TypeId} {fz:Nat×Nat} (hb:w.heap[b]? =some (.cells cs E fz)) (off n:Nat) (hn:off+n≤cs.size):
  (loadCells ⟨b,off,none⟩ n).run P w= .ok (cs.extract off (off+n)) w:=by
 have h:=run_loadCells_list (P:=P) w ⟨b,off,none⟩ (cs.extract off (off+n)).toList (by
  intro j v hv
  rw[oV,cell_of_row w b _ cs E fz hb]
  simp only[Array.getElem?_toList,Array.getElem?_extract] at hv
  split at hv
  ·exact hv
  cases hv)
 have e: (cs.extract off (off+n)).toList.length=n:=by simp;omega
 rw[e,Array.toArray_toList] at h
 exact h
def WJ_ {t:TypeId} {b off:Nat} {v:Value} (hw:Hp w0 L w) (h:aQ (aK P t) (aT w0 L b) off=some v): (loadVar t ⟨b,off,none⟩).run P w= .ok v w:=by
 unfold aQ at h
 split at h
 ·rename_i n cs E fz hm ho
  split at h
  ·rename_i hn
   simp only[Option.some.injEq] at h;subst h
   unfold loadVar
   rw[Sem.run_bind,LM hm w]
   simp only[Result.andThen_ok, ↓reduceIte,Sem.run_bind,gq hm w,KE (hw.read ho) off n hn,Sem.run_pure]
  cases h
 ·rename_i n cs E fz hm ho
  unfold loadVar
  rw[Sem.run_bind,LM hm w]
  simp only[Result.andThen_ok,Bool.false_eq_true, ↓reduceIte,run_load,Oj hw ho,h]
 cases h
theorem V3_ (f:Value→ByteArray→Sem (ForInStep ByteArray)) (hf: ∀ (n:Int) s,f (.int .u8 n) s=pure (.yield (s.push (UInt8.ofNat n.toNat)))):
  ∀ (l:List Value) (bs:List UInt8) (s:ByteArray) (w:World),uQ l=some bs→(forIn l s f).run P w= .ok ⟨s.data++bs.toArray⟩ w
 | [],bs,s,w,h=>by
  simp only[uQ,Option.some.injEq] at h;subst h
  simp
 |v::r,bs,s,w,h=>by
  unfold uQ at h
  split at h
  ·cases ‹v::r= []›
  ·rename_i n r' e
   cases e
   split at h
   ·rename_i l hl
    simp only[Option.some.injEq] at h;subst h
    have ih:=V3_ f hf r l (s.push (UInt8.ofNat n.toNat)) w hl
    rw[List.forIn_cons,hf]
    simp only[pure_bind]
    rw[ih]
    congr 1
    apply congrArg
    apply Array.ext'
    simp[ByteArray.push]
   cases h
  cases h
def Xk_ {b off n c:Nat} {v:Value} (hw:Hp w0 L w) (h:iI (aT w0 L b) off n=some v): (Conv.bytesToString (.slice (some ⟨b,off,none⟩) n c)).run P w= .ok v w:=by
 unfold iI at h
 split at h
 ·rename_i cs E fz ho
  split at h
  ·rename_i hn
   cases hl:uQ (cs.extract off (off+n)).toList with
   |none=>rw[hl] at h;cases h
   |some l=>
    rw[hl] at h
    simp only[Option.map_some,Option.some.injEq] at h;subst h
    unfold Conv.bytesToString
    simp only[Sem.run_bind,KE (hw.read ho) off n hn,Result.andThen_ok]
    rw[←Array.forIn_toList,V3_ _ (fun n s=>rfl) _ _ _ w hl]
    simp[ByteArray.empty,ByteArray.emptyWithCapacity]
    rfl
  cases h
 cases h
end
end Go.Sx
end
section
namespace Go.Sx
open Go
section
variable {P:Program} {w0 w:World} {L:aB}
def IB {v:Value} {i:Int} (h:ixI v=some i): ∃k,v= .int k i:=by
 cases v<;>simp only[ixI,reduceCtorEq,Option.some.injEq] at h
 subst h;exact⟨_,rfl⟩
def R9 {t:TypeId} {x i v:Value} (h:pd (ixT P t) x (ixI i)=some v) (w:World): (Instr.index t x i).run P w= .ok v w:=by
 unfold pd at h
 split at h
 ·rename_i n m cs k hx hi
  split at h
  ·rename_i hk
   obtain⟨kk,rfl⟩:=IB hi
   unfold ixT at hx
   split at hx
   ·rename_i n' e hu
    split at hx
    ·rename_i m' hm
     cases hx
     simp only[Instr.index,asIntOf,Sem.run_bind,Sem.run_pure,Result.andThen_ok,run_underlying hu w,hk,and_self, ↓reduceIte,gq hm w]
     exact qx hm h w
    cases hx
   ·split at hx<;>cases hx
   ·cases hx
   cases hx
  cases h
 ·rename_i s k hx hi
  split at h
  ·rename_i hk
   obtain⟨kk,rfl⟩:=IB hi
   unfold ixT at hx
   split at hx
   ·split at hx<;>cases hx
   ·split at hx<;>cases hx
   ·rename_i hu
    cases hs:s[k.toNat]? with
    |none=>rw[hs] at h;cases h
    |some b=>
     rw[hs] at h
     simp only[Option.map_some,Option.some.injEq] at h;subst h
     simp only[Instr.index,asIntOf,Sem.run_bind,Sem.run_pure,Result.andThen_ok,run_underlying hu w,hk, ↓reduceIte,hs]
   cases hx
  cases h
 cases h
def MQ {t:TypeId} {x i v:Value} (h:nC (ixT P t) x (ixI i)=some v) (w:World): (Instr.indexAt t x i).run P w= .ok v w:=by
 unfold nC at h
 split at h
 ·rename_i n m a k hx hi
  split at h
  ·rename_i hk
   obtain⟨kk,rfl⟩:=IB hi
   unfold ixT at hx
   split at hx
   ·rename_i n' e hu
    split at hx
    ·rename_i m' hm
     cases hx
     cases h
     simp only[Instr.indexAt,asIntOf,Sem.run_bind,Sem.run_pure,Result.andThen_ok,run_underlying hu w,Instr.sureAddr,hk,and_self, ↓reduceIte,gq hm w]
    cases hx
   ·split at hx<;>cases hx
   ·cases hx
   cases hx
  cases h
 ·rename_i m a n c k hx hi
  split at h
  ·rename_i hk
   obtain⟨kk,rfl⟩:=IB hi
   unfold ixT at hx
   split at hx
   ·split at hx<;>cases hx
   ·rename_i e hu
    split at hx
    ·rename_i m' hm
     cases hx
     cases h
     simp only[Instr.indexAt,asIntOf,Sem.run_bind,Sem.run_pure,Result.andThen_ok,run_underlying hu w,hk,and_self, ↓reduceIte,gq hm w]
    cases hx
   ·cases hx
   cases hx
  cases h
 cases h
def MR {t:TypeId} {x v:Value} {i:Nat} (h:A7 (aV P t i) x=some v) (w:World): (Instr.fieldAt t x i).run P w= .ok v w:=by
 unfold A7 at h
 split at h
 ·rename_i off m a hx
  split at h
  ·cases h
  rename_i rS
  unfold aV at hx
  split at hx
  ·rename_i fs hu
   split at hx
   ·rename_i fd hf
    split at hx
    ·rename_i m' hm
     cases hx
     cases h
     simp only[Instr.fieldAt,Sem.run_bind,Sem.run_pure,Result.andThen_ok,run_underlying hu w,hf,Instr.sureAddr,fieldPlace,gq hm w,rS, ↓reduceIte]
    cases hx
   cases hx
  cases hx
 cases h
def Rc {t:TypeId} {x v:Value} {i:Nat} (h:sQ (aV P t i) x=some v) (w:World): (Instr.field t x i).run P w= .ok v w:=by
 unfold sQ at h
 split at h
 ·rename_i off m cs hx
  unfold aV at hx
  split at hx
  ·rename_i fs hu
   split at hx
   ·rename_i fd hf
    split at hx
    ·rename_i m' hm
     cases hx
     simp only[Instr.field,Sem.run_bind,Result.andThen_ok,run_underlying hu w,hf,asAgg,Sem.run_pure]
     exact qx hm h w
    cases hx
   cases hx
  cases hx
 cases h
def wh {t:TypeId} {n:Nat} {m:Bool×Nat} (h:ixT P t= .arr n m): ∃e,P.underlying t=some (.array n e)∧aK P e=some m:=by
 unfold ixT at h
 split at h
 ·rename_i n' e hu
  split at h
  ·rename_i m' hm;cases h;exact⟨e,hu,hm⟩
  cases h
 ·split at h<;>cases h
 ·cases h
 cases h
def xJ {t:TypeId} {m:Bool×Nat} (h:ixT P t= .sl m): ∃e,P.underlying t=some (.slice e)∧aK P e=some m:=by
 unfold ixT at h
 split at h
 ·split at h<;>cases h
 ·rename_i e hu
  split at h
  ·rename_i m' hm;cases h;exact⟨e,hu,hm⟩
  cases h
 ·cases h
 cases h
def E' {t:TypeId} (h:ixT P t= .str):P.underlying t=some .string:=by
 unfold ixT at h
 split at h
 ·split at h<;>cases h
 ·split at h<;>cases h
 ·assumption
 cases h
def Vf {t:TypeId} {x v:Value} (h:eb (ixT P t) x=some v) (y:TypeId) (ts:Array TypeId) (vs:Array Value) (h1:vs[0]? =some x) (h2:ts[0]? =some t) (w:World):
  (Builtin.len_ ts y vs).run P w= .ok v w:=by
 unfold eb at h
 split at h
 ·rename_i s hx
  cases h
  simp only[Builtin.len_,h1,h2,Sem.run_bind,run_underlying (E' hx) w,Result.andThen_ok];rfl
 ·rename_i n m hx
  cases h
  obtain⟨e,hu,_⟩:=wh hx
  simp only[Builtin.len_,h1,h2,Sem.run_bind,run_underlying hu w,Result.andThen_ok];rfl
 ·rename_i m a n c hx
  cases h
  obtain⟨e,hu,_⟩:=xJ hx
  simp only[Builtin.len_,h1,h2,Sem.run_bind,run_underlying hu w,Result.andThen_ok];rfl
 cases h
def X5 {t:TypeId} {x v:Value} (h:capV (ixT P t) x=some v) (y:TypeId) (ts:Array TypeId) (vs:Array Value) (h1:vs[0]? =some x) (h2:ts[0]? =some t) (w:World):
  (Builtin.cap_ ts y vs).run P w= .ok v w:=by
 unfold capV at h
 split at h
 ·rename_i n m hx
  cases h
  obtain⟨e,hu,_⟩:=wh hx
  simp only[Builtin.cap_,h1,h2,Sem.run_bind,run_underlying hu w,Result.andThen_ok];rfl
 ·rename_i m a n c hx
  cases h
  obtain⟨e,hu,_⟩:=xJ hx
  simp only[Builtin.cap_,h1,h2,Sem.run_bind,run_underlying hu w,Result.andThen_ok];rfl
 cases h
def If {x:Value} {i:Int} (h:ixI x=some i) {y:Nat} (hi:0≤i∧i≤y) (code:BoundsCode) (w:World): (Instr.sliceBound x y code).run P w= .ok i.toNat w:=by
 obtain⟨k,rfl⟩:=IB h
 simp only[Instr.sliceBound,asIntOf,Sem.run_bind,Sem.run_pure,Result.andThen_ok,hi,and_self, ↓reduceIte]
def LR {b:Bool} {n c l h:Nat} {lo hi:Option Value} (hh:bndV n c (lo.map ixI) (hi.map ixI)=some (l,h)) (w:World):
  (Instr.sliceBounds b n c lo hi none).run P w= .ok (l,h,c) w:=by
 unfold bndV at hh
 cases lo with
 |none=>
  cases hi with
  |none=>
   simp only[Option.map_none,Option.some.injEq,Prod.mk.injEq] at hh
   obtain⟨rfl,rfl⟩:=hh
   simp[Instr.sliceBounds]
  |some hv=>
   simp only[Option.map_none,Option.map_some] at hh
   split at hh
   ·cases ‹some (ixI hv)=none›
   ·cases ‹_=none›
   ·rename_i h' e1 e2
    split at hh
    ·rename_i hb
     cases hh
     simp only[Option.some.injEq] at e2
     simp[Instr.sliceBounds,If e2 hb]
    cases hh
   ·cases ‹none=some (some _)›
   cases hh
 |some lv=>
  cases hi with
  |none=>
   simp only[Option.map_none,Option.map_some] at hh
   split at hh
   ·cases ‹some (ixI lv)=none›
   ·rename_i l' e1 e2
    split at hh
    ·rename_i hb
     cases hh
     simp only[Option.some.injEq] at e1
     simp[Instr.sliceBounds,If e1 hb]
    cases hh
   ·cases ‹some (ixI lv)=none›
   ·cases ‹none=some (some _)›
   cases hh
  |some hv=>
   simp only[Option.map_some] at hh
   split at hh
   ·cases ‹some (ixI lv)=none›
   ·cases ‹some (ixI hv)=none›
   ·cases ‹some (ixI lv)=none›
   ·rename_i l' h' e1 e2
    split at hh
    ·rename_i hb
     cases hh
     simp only[Option.some.injEq] at e1 e2
     simp[Instr.sliceBounds,If e2 (⟨by omega,hb.2.2⟩:0≤h'∧h'≤ (c:Int)),If e1 (y:=h'.toNat) ⟨hb.1,by omega⟩]
    cases hh
   cases hh
def Su {t:TypeId} {x v:Value} {lo hi:Option Value} (h:ii (ixT P t) x (lo.map ixI) (hi.map ixI)=some v) (w:World): (Instr.sliceAt t x lo hi none).run P w= .ok v w:=by
 unfold ii at h
 split at h
 ·rename_i s hx
  split at h
  ·rename_i l xz hb
   cases h
   have hu:=E' hx
   simp only[Instr.sliceAt,Instr.slice,Sem.run_bind,run_underlying hu w,Result.andThen_ok,Option.isSome_none,Bool.false_eq_true, ↓reduceIte,LR hb w,Sem.run_pure]
  cases h
 ·rename_i m a n c hx
  split at h
  ·rename_i l xz hb
   cases h
   obtain⟨e,hu,hm⟩:=xJ hx
   simp only[Instr.sliceAt,Instr.slice,Sem.run_bind,run_underlying hu w,Result.andThen_ok,LR hb w,gq hm w,Sem.run_pure]
  cases h
 ·rename_i n m a hx
  split at h
  ·rename_i l xz hb
   cases h
   obtain⟨e,hu,hm⟩:=wh hx
   simp only[Instr.sliceAt,Instr.sureAddr,Sem.run_bind,run_underlying hu w,Result.andThen_ok,LR hb w,gq hm w,Sem.run_pure]
  cases h
 cases h
def Bw {t:TypeId} {x y:Value} {b:Bool} (d:Nat) (h:eA (P.underlying t) x y=some b) (w:World): (Op.equalIn (d+1) t x y).run P w= .ok b w:=by
 unfold eA at h
 split at h<;>first
  | (
    rename_i hu
    simp only[Option.some.injEq] at h
    subst h
    simp only[Op.equalIn,Sem.run_bind,run_underlying hu w,Result.andThen_ok]
    rfl)
  |cases h
def FM (P:Program): ∀ (d k:Nat) (t:TypeId) (x y:Value) (b:Bool),eqD P d t x y=some b→ ∀w,(Op.equalIn (d+k) t x y).run P w= .ok b w:=by
 intro d
 induction d with
 |zero=>intro k t x y b h;cases h
 |succ d ih=>
  intro k t x y b h w
  have e:d+1+k=(d+k)+1:=by omega
  rw[e]
  unfold eqD at h
  split at h
  ·rename_i k0 k1 a k2 c hu
   split at h
   ·rename_i hk
    cases h
    subst hk
    simp[Op.equalIn,run_underlying hu w]
   cases h
  ·rename_i a c hu
   cases h
   simp[Op.equalIn,run_underlying hu w]
  ·rename_i n el xs ys hu
   split at h
   ·rename_i m hm
    simp only[Op.equalIn,Sem.run_bind,run_underlying hu w,Result.andThen_ok,gq hm w]
    simp only[Std.Legacy.Range.forIn_eq_forIn_range',Std.Legacy.Range.size,Nat.sub_zero,Nat.add_one_sub_one,Nat.div_one]
    rw[List.range_eq_range'] at h
    generalize List.range' 0 n=is at h ⊢
    induction is with
    |nil=>cases h;simp
    |cons j is ihl=>
     unfold AT at h
     simp only[List.forIn_cons,Sem.run_bind]
     split at h
     ·rename_i h1
      unfold rg at h1
      split at h1
      ·rename_i m' he
       cases he
       split at h1
       ·rename_i a c ha hc
        simp only[qx hm ha w,qx hm hc w,Result.andThen_ok,ih k el a c true h1 w,Bool.not_true,Bool.false_eq_true,if_false,Sem.run_pure]
        exact ihl h
       cases h1
      cases h1
     ·rename_i h1
      cases h
      unfold rg at h1
      split at h1
      ·rename_i m' he
       cases he
       split at h1
       ·rename_i a c ha hc
        simp only[qx hm ha w,qx hm hc w,Result.andThen_ok,ih k el a c false h1 w,Bool.not_false,if_true,Sem.run_pure]
       cases h1
      cases h1
     cases h
   cases h
  ·rename_i fs xs ys hu
   split at h
   ·cases h
   rename_i bL
   have qq:P.stoodInHeld t=false:=by simpa using bL
   simp only[Op.equalIn,Sem.run_bind,run_underlying hu w,Result.andThen_ok,run_program,qq,Bool.false_eq_true,if_false]
   rw[←Array.forIn_toList]
   generalize fs.toList=l at h ⊢
   clear hu
   induction l with
   |nil=>cases h;simp
   |cons f l ihl=>
    unfold yk at h
    simp only[List.forIn_cons,Sem.run_bind,Sem.run_ite]
    split at h
    ·rename_i aU
     rw[if_pos aU]
     split at h
     ·rename_i h1
      unfold rg at h1
      split at h1
      ·rename_i m' hm
       split at h1
       ·rename_i a c ha hc
        simp only[qx hm ha w,qx hm hc w,Result.andThen_ok,ih k f.type a c true h1 w,Bool.not_true,Bool.false_eq_true,if_false,Sem.run_pure]
        exact ihl h
       cases h1
      cases h1
     ·rename_i h1
      cases h
      unfold rg at h1
      split at h1
      ·rename_i m' hm
       split at h1
       ·rename_i a c ha hc
        simp only[qx hm ha w,qx hm hc w,Result.andThen_ok,ih k f.type a c false h1 w,Bool.not_false,if_true,Sem.run_pure]
       cases h1
      cases h1
     cases h
    rename_i aU
    rw[if_neg aU]
    simp only[Sem.run_pure,Result.andThen_ok]
    exact ihl h
  exact Bw (d+k) h w
def Ex {op:BinOp} {t:TypeId} {x y:Operand} {a b:Value} {r:Bool} (hp: (eN a&&eN b)≠true) (hr:eqX P t a b=some r) (w:World):
  (eqGuard op t x y a b).run P w= .ok () w∧(Op.equal t a b).run P w= .ok r w∧binOp .eql t a b=(do pure (.bool (←Op.equal t a b)):Sem Value)∧binOp .neq t a b=(do pure (.bool (!(←Op.equal t a b))):Sem Value):=by
 unfold eqX at hr
 split at hr
 ·rename_i xs ys
  split at hr
  ·cases hr
  rename_i hg
  have xx:P.eqGuardType P.depth t=false:=by simpa using hg
  refine⟨?_,FM P 8 9992 t _ _ r hr w,rfl,rfl⟩
  unfold eqGuard
  cases op<;>first
   |rfl
   |simp[Sem.run_bind,run_program,xx]
 refine⟨?_,Bw 9999 hr w, ?_, ?_⟩
 ·unfold eA at hr
  split at hr<;>first| (unfold eqGuard;cases op<;>rfl) |cases hr
 ·unfold eA at hr
  split at hr<;>first|rfl|cases hr
 unfold eA at hr
 split at hr<;>first|rfl|cases hr
def VD {op:BinOp} {t:TypeId} {x y:Operand} {a b v:Value} (h:ab P op t a b=some v) (w:World):
  (do eqGuard op t x y a b;binOp op t a b:Sem Value).run P w= .ok v w:=by
 unfold ab at h
 split at h
 ·rename_i hp
  have hg: (eqGuard op t x y a b).run P w= .ok () w:=by
   unfold eqGuard
   cases a<;>simp only[eN,Bool.false_and,Bool.false_eq_true] at hp<;>
    (split<;>rfl)
  rw[Sem.run_bind,hg]
  exact Dk w h
 rename_i hp
 split at h
 ·cases hr:eqX P t a b with
  |none=>rw[hr] at h;cases h
  |some r=>
   rw[hr] at h
   simp only[Option.map_some,Option.some.injEq] at h;subst h
   obtain⟨h1,h2,e,-⟩:=Ex (op:= .eql) (x:=x) (y:=y) hp hr w
   rw[Sem.run_bind,h1]
   simp only[Result.andThen_ok]
   rw[e,Sem.run_bind,h2];rfl
 ·cases hr:eqX P t a b with
  |none=>rw[hr] at h;cases h
  |some r=>
   rw[hr] at h
   simp only[Option.map_some,Option.some.injEq] at h;subst h
   obtain⟨h1,h2,-,e⟩:=Ex (op:= .neq) (x:=x) (y:=y) hp hr w
   rw[Sem.run_bind,h1]
   simp only[Result.andThen_ok]
   rw[e,Sem.run_bind,h2];rfl
 cases h
def Xk {s d:TypeId} {k:IntKind} (h:cvT P s d= .int k): ∃k',P.underlying s=some (.int k')∧P.underlying d=some (.int k):=by
 unfold cvT at h
 split at h
 ·rename_i a b;cases h;exact⟨_,a,b⟩
 ·cases h
 ·split at h<;>cases h
 ·split at h<;>cases h
 cases h
def Te {s d:TypeId} {x v:Value} (hw:Hp w0 L w) (h:io w0 L (cvT P s d) x=some v): (convert s d x).run P w= .ok v w:=by
 unfold io at h
 split at h
 ·rename_i k hc
  obtain⟨k',h1,h2⟩:=Xk hc
  unfold bh at h
  split at h
  ·cases h
   simp only[convert,Sem.run_bind,run_underlying h1 w,run_underlying h2 w,Result.andThen_ok,Conv.intToInt,Sem.run_pure]
  cases h
 ·rename_i hc
  unfold cvT at hc
  split at hc
  ·cases hc
  ·rename_i h1 h2
   split at h
   ·cases h
    simp only[convert,Sem.run_bind,run_underlying h1 w,run_underlying h2 w,Result.andThen_ok,Sem.run_pure]
   cases h
  ·split at hc<;>cases hc
  ·split at hc<;>cases hc
  cases hc
 ·rename_i hc
  unfold cvT at hc
  split at hc
  ·cases hc
  ·cases hc
  ·rename_i e h1 h2
   split at hc
   ·rename_i h3
    unfold x4 at h
    split at h
    ·cases h
     simp only[convert,Sem.run_bind,run_underlying h1 w,run_underlying h2 w,run_underlying h3 w,Result.andThen_ok];rfl
    ·simp only[convert,Sem.run_bind,run_underlying h1 w,run_underlying h2 w,run_underlying h3 w,Result.andThen_ok]
     exact Xk_ hw h
    cases h
   cases hc
  ·split at hc<;>cases hc
  cases hc
 cases h
def pG {f:Fr} {o:Oper} {v:Value} (hw:Hp w0 L w) (h:j3 P w0 L f o.op=some v): (execOp (ev f) o).run P w= .ok (.value v) w:=by
 obtain⟨dst,op,ty,pos,after,guard⟩:=o
 simp only at h
 unfold j3 at h
 split at h<;>simp only[execOp]
 ·cases h;rfl
 ·cases h;rfl
 ·rename_i c a b
  cases hc:ev f c<;>rw[hc] at h<;>simp only[jW,reduceCtorEq] at h
  rename_i t
  cases t<;>simp only[Option.some.injEq] at h<;>subst h<;>rfl
 ·rw[Sem.run_bind,VD h w];rfl
 ·rw[Sem.run_bind,XO w h];rfl
 ·rw[Sem.run_bind,Te hw h];rfl
 ·rename_i x
  unfold nilV at h
  split at h
  ·rename_i a hx;cases h;simp only[hx];rfl
  ·rename_i k a b hx;cases h;simp only[hx];rfl
  cases h
 ·rw[Sem.run_bind,MR h w];rfl
 ·rw[Sem.run_bind,Rc h w];rfl
 ·rw[Sem.run_bind,MQ h w];rfl
 ·rw[Sem.run_bind,R9 h w];rfl
 ·rename_i t x
  unfold uT at h
  split at h
  ·rename_i b off hx
   simp only[Instr.loadAt,hx,Instr.sureAddr,Sem.run_bind,Sem.run_pure,Result.andThen_ok,WJ_ hw h]
  cases h
 ·rename_i x i
  unfold Iy at h
  split at h
  ·rename_i vs hx
   simp only[Instr.extract,hx,h];rfl
  cases h
 ·rename_i t x lo hi
  have h':ii (ixT P t) (ev f x) ((lo.map (ev f)).map ixI) ((hi.map (ev f)).map ixI)=some v:=by
   rw[Option.map_map,Option.map_map];exact h
  rw[Sem.run_bind]
  simp only[Option.map_none]
  rw[Su h' w];rfl
 ·cases h;rfl
 ·rename_i args ts
  split at h
  ·rename_i x t hx ht
   have h1: (args.map (ev f))[0]? =some (ev f x):=by simp[hx]
   simp only[resolve,Sem.run_bind,Sem.run_pure,Result.andThen_ok,invoke,builtin]
   rw[Vf h _ _ _ h1 ht w];rfl
  cases h
 ·rename_i args ts
  split at h
  ·rename_i x t hx ht
   have h1: (args.map (ev f))[0]? =some (ev f x):=by simp[hx]
   simp only[resolve,Sem.run_bind,Sem.run_pure,Result.andThen_ok,invoke,builtin]
   rw[X5 h _ _ _ h1 ht w];rfl
  cases h
 cases h
end
end Go.Sx
end
namespace Go.Sx
open Go
section
variable {P:Program} {ops:Array Oper} {Q:Exit→Act→World→Prop}
def Left (o:Oper) (a a':Act):Prop:= ∃u ds,a'=({a with defers:=ds}:Act).put o.dst u
def Qh {o:Oper} {a:Act} {d:Option Tmp} {v:Value} {K:Act→World→Prop} (hd: ∀t,d=some t→o.dst≠some t)
  (hQ: ∀c a w,Q (.panic c) (a.put d v) w→Q (.panic c) a w) (r:Result Next) (h:o.upon P (a.put d v) K Q r):
  o.upon P a (fun a' w'=>Left o a a'∧K (a'.put d v) w') Q r:=by
 have comm: ∀u,(a.put o.dst u).put d v=(a.put d v).put o.dst u:=fun u=>(Act.put_comm a v u hd).symm
 have hl: ∀u,Left o a (a.put o.dst u):=fun u=>⟨u,a.defers,rfl⟩
 match r,h with
 | .ok (.value u) _,h=>exact⟨hl u,by rw[comm];exact h⟩
 | .ok .skip _,h=>exact⟨hl undef,by rw[comm];exact h⟩
 | .ok (.defer e) _,h=>
  refine⟨⟨undef,e::a.defers,rfl⟩, ?_⟩
  rw[←Act.put_comm _ v undef hd,←Act.put_defers]
  exact h
 | .ok (.enter f args) _,h=>
  refine Calls.mono h fun e w'' he=> ?_
  match e,he with
  | .returned u,he=>exact⟨hl u,by rw[comm];exact he⟩
  | .panicked c,he=>exact hQ _ _ _ he
  | .outgrown,he=>exact he
 | .ok (.row row args) _,h=>exact Rows.mono h fun u w'' he=>⟨hl u,by rw[comm];exact he⟩
 | .halt (.panic u) _,h=>exact hQ _ _ _ h
def SM {j:Nat} {oi oj:Oper} {v:Value} (hj:ops[j]? =some oj) (p9:oi.apart ops oj=true) (H': ∀cs b,oj.op≠ .select cs b)
  (hQ: ∀c a w,Q (.panic c) (a.put oi.dst v) w→Q (.panic c) a w) {K:Act→World→Prop} {a:Act} {w:World}
  (h:wpOp P ops Q j K (a.put oi.dst v) w):wpOp P ops Q j (fun a' w'=>Left oj a a'∧K (a'.put oi.dst v) w') a w:=by
 obtain⟨h1,h2,h3⟩:=Oper.apart_spec p9
 unfold wpOp at h ⊢
 simp only[hj] at h ⊢
 rw[wanted_put oj a oi.dst v h1] at h
 cases hw:Region.wanted oj (yielded ops a.tmps) with
 |true=>
  rw[hw] at h
  simp only[if_true] at h ⊢
  rcases h with h| ⟨uf,hl⟩
  ·left
   unfold Oper.wp at h ⊢
   rw[execOp_put oj H' a oi.dst v h1] at h
   exact Qh h2 hQ _ h
  right
  exact⟨by unfold Oper.asks at*;rwa [execOp_put oj H' a oi.dst v h1] at uf,hl⟩
 |false=>
  rw[hw] at h
  simp only[Bool.false_eq_true,if_false] at h ⊢
  exact⟨⟨undef,a.defers,rfl⟩,by rw[←Act.put_comm a v undef h2];exact h⟩
def lg (P:Program) (ops:Array Oper) (Q:Exit→Act→World→Prop) (ts:List Nat) (C:World→Prop):Nat→Array Bool→Act→World→Prop
 |0,listed,a,w=>((∀t,t∈ts→listed.getD t true=false)→C w)∧Region.ready .any ops listed= []∧Q .normal a w
 |n+1,listed,a,w=>
  ((∀t,t∈ts→listed.getD t true=false)→C w)∧(Region.ready .any ops listed= []→Q .normal a w)∧
  ∀i∈Region.ready .any ops listed,wpOp P ops Q i (lg P ops Q ts C n (listed.setIfInBounds i true)) a w
variable {ts:List Nat} {C:World→Prop}
def Ao {listed:Array Bool} {i t:Nat} (h:listed.getD t true=true): (listed.setIfInBounds i true).getD t true=true:=by
 by_cases he:i=t
 ·subst he
  rw[Array.getD_eq_getD_getElem?,Array.getElem?_setIfInBounds_self]
  split<;>rfl
 rw[getD_set_ne true he];exact h
theorem IG: ∀ (n:Nat) (listed:Array Bool) (a:Act) (w:World),lg P ops Q ts C n listed a w→wpAny P .any ops Q n listed a w
 |0,_,_,_,h=>h.2
 |n+1,_,_,_,h=>⟨h.2.1,fun i hi=>wpOp_mono (fun a w k=>IG n _ a w k) (h.2.2 i hi)⟩
theorem yz: ∀ (n:Nat) (listed:Array Bool) (a:Act) (w:World),(∃t∈ts,listed.getD t true=true)→wpAny P .any ops Q n listed a w→lg P ops Q ts C n listed a w
 |0,_,_,_,⟨t,ht,hl⟩,h=>⟨fun hn=>(by rw[hn t ht] at hl;cases hl),h.1,h.2⟩
 |n+1,_,_,_,⟨t,ht,hl⟩,h=>
  ⟨fun hn=>(by rw[hn t ht] at hl;cases hl),h.1,fun i hi=>wpOp_mono (fun a w k=>yz n _ a w ⟨t,ht,Ao hl⟩ k) (h.2 i hi)⟩
structure First (ops:Array Oper) (ts:List Nat) (i:Nat) (oi:Oper) (pure:Prop) (listed:Array Bool):Prop where
 ready:i∈Region.ready .any ops listed
 free: ∀j oj,ops[j]? =some oj→j≠i→listed.getD j true=false→(∀e∈oj.after,Region.binds .any e=true→e.on≠i)→oi.apart ops oj=true
 waits:pure∨ ∃cs:List Nat,(∀t,t∈ts→listed.getD t true=false→t∈cs)∧
  ∀c,c∈cs→c≠i∧listed.getD c true=false∧ ∃oc,ops[c]? =some oc∧ ∃e∈oc.after,Region.binds .any e=true∧(e.on=i∨e.on∈cs)
def YieldsC (P:Program) (ops:Array Oper) (C:World→Prop) (pure:Prop) (o:Oper) (v:Value) (a:Act):Prop:=
 (Region.wanted o (yielded ops a.tmps)=true∧ ∀w,(pure∨C w)→(execOp a.eval o).run P w= .ok (.value v) w)∨
 (Region.wanted o (yielded ops a.tmps)=false∧v=undef)
theorem YieldsC.wpOp {pure:Prop} {i:Nat} {o:Oper} {v:Value} {a:Act} (hi:ops[i]? =some o) (hy:YieldsC P ops C pure o v a)
  {K:Act→World→Prop} {w:World} (hw:pure∨C w) (h:K (a.put o.dst v) w):Go.wpOp P ops Q i K a w:=by
 unfold Go.wpOp
 simp only[hi]
 rcases hy with⟨h1,hv⟩ | ⟨h1,rfl⟩
 ·simp only[h1,if_true,Oper.wp,hv w hw,Oper.upon];exact .inl h
 simp only[h1,Bool.false_eq_true,if_false];exact h
def YieldsC.left {pure:Prop} {oi oj:Oper} {v:Value} {a a':Act} (hy:YieldsC P ops C pure oi v a) (hsi: ∀cs b,oi.op≠ .select cs b)
  (h3: ∀d,oj.dst=some d→d∉oi.looksAt ops) (hl:Left oj a a'):YieldsC P ops C pure oi v a':=by
 obtain⟨u,ds,rfl⟩:=hl
 have e1:execOp (({a with defers:=ds}:Act).put oj.dst u).eval oi=execOp a.eval oi:=execOp_put oi hsi ({a with defers:=ds}:Act) oj.dst u h3
 have e2:Region.wanted oi (yielded ops (({a with defers:=ds}:Act).put oj.dst u).tmps)=Region.wanted oi (yielded ops a.tmps):=wanted_put oi ({a with defers:=ds}:Act) oj.dst u h3
 unfold YieldsC
 rw[e1,e2]
 exact hy
def u6 {pure:Prop} {i:Nat} {oi:Oper} {v:Value} (hi:ops[i]? =some oi) (dN:i∉ts) (iz: ∀ (j:Nat) (o:Oper) cs b,ops[j]? =some o→o.op≠ .select cs b)
  (hQ: ∀c a w,Q (.panic c) (a.put oi.dst v) w→Q (.panic c) a w):
  ∀ (fuel:Nat) (listed:Array Bool) (a:Act) (w:World),First ops ts i oi pure listed→(pure∨ ∀t,t∈ts→listed.getD t true=false)→YieldsC P ops C pure oi v a→
   lg P ops Q ts C fuel (listed.setIfInBounds i true) (a.put oi.dst v) w→lg P ops Q ts C (fuel+1) listed a w:=by
 intro fuel
 induction fuel with
 |zero=>
  intro listed a w hF hn hy H
  have cH: ∀t,t∈ts→(listed.setIfInBounds i true).getD t true=listed.getD t true:=fun t ht=>getD_set_ne true (fun e=>dN (e▸ht))
  have hC: (∀t,t∈ts→listed.getD t true=false)→C w:=fun h=>H.1 fun t ht=>(cH t ht).trans (h t ht)
  refine⟨hC,fun h=>(by have:=hF.ready;rw[h] at this;cases this),fun j hj=> ?_⟩
  by_cases uu:j=i
  ·subst uu;exact hy.wpOp hi (hn.imp id hC) H
  have:=ready_mono hj uu
  rw[H.2.1] at this
  cases this
 |succ fuel ih=>
  intro listed a w hF hn hy H
  have cH: ∀t,t∈ts→(listed.setIfInBounds i true).getD t true=listed.getD t true:=fun t ht=>getD_set_ne true (fun e=>dN (e▸ht))
  have hC: (∀t,t∈ts→listed.getD t true=false)→C w:=fun h=>H.1 fun t ht=>(cH t ht).trans (h t ht)
  refine⟨hC,fun h=>(by have:=hF.ready;rw[h] at this;cases this),fun j hj=> ?_⟩
  by_cases uu:j=i
  ·subst uu;exact hy.wpOp hi (hn.imp id hC) H
  have h1:=H.2.2 j (ready_mono hj uu)
  obtain⟨HP,oj,Jm,dr⟩:=mem_ready.1 hj
  have Hi: ∀e∈oj.after,Region.binds .any e=true→e.on≠i:=fun e he hb heq=>by
   have h2:=dr e he hb
   have h0:=(mem_ready.1 hF.ready).1
   rw[heq] at h2
   rcases Nat.lt_or_ge i listed.size with h'|h'
   ·simp[h'] at h0 h2;rw[h0] at h2;cases h2
   simp[Array.getElem?_eq_none h'] at h2
  have p9:=hF.free j oj Jm uu HP Hi
  have h2:=SM Jm p9 (fun cs b=>iz j oj cs b Jm) hQ h1
  have old: ∀k,(listed.setIfInBounds j true).getD k true=false→listed.getD k true=false:=fun k hk=>by
   by_cases zj:j=k
   ·subst zj;exact HP
   rwa [getD_set_ne true zj] at hk
  have zu: ∀k,listed.getD k true=false→k≠j→(listed.setIfInBounds j true).getD k true=false:=fun k hk hkj=>by
   rw[getD_set_ne true (Ne.symm hkj)];exact hk
  have hi0:=(mem_ready.1 hF.ready).1
  have aA: ∀cs:List Nat,(∀c,c∈cs→c≠i∧listed.getD c true=false∧ ∃oc,ops[c]? =some oc∧ ∃e∈oc.after,Region.binds .any e=true∧(e.on=i∨e.on∈cs))→j∉cs:=by
   intro cs df hjc
   obtain⟨-,-,oc,hoc,e,he,hb,heq⟩:=df j hjc
   rw[Jm] at hoc
   cases hoc
   have h2:=dr e he hb
   rcases heq with heq|heq
   ·exact Hi e he hb heq
   have h3:=(df _ heq).2.1
   rcases Nat.lt_or_ge e.on listed.size with h'|h'
   ·simp[h'] at h2 h3;rw[h3] at h2;cases h2
   simp[Array.getElem?_eq_none h'] at h2
  have dp:First ops ts i oi pure (listed.setIfInBounds j true):=
   ⟨ready_mono hF.ready (Ne.symm uu),fun k ok hk hki zu kQ=>hF.free k ok hk hki (old k zu) kQ,hF.waits.imp id fun⟨cs,dI,dy⟩=>
    ⟨cs,fun t ht hu=>dI t ht (old t hu),fun c hc=>by
     obtain⟨h1,h2,h3⟩:=dy c hc
     exact⟨h1,zu c h2 (fun e=>aA cs dy (e▸hc)),h3⟩⟩⟩
  have ad:pure∨ ∀t,t∈ts→(listed.setIfInBounds j true).getD t true=false:=by
   rcases hF.waits with h| ⟨cs,dI,dy⟩
   ·exact .inl h
   rcases hn with h|hn
   ·exact .inl h
   refine .inr fun t ht=> ?_
   have hjc:=aA cs dy
   exact zu t (hn t ht) (fun e=>hjc (e▸dI t ht (hn t ht)))
  refine wpOp_mono (fun a' w' h3=>ih (listed.setIfInBounds j true) a' w' dp ad (hy.left (fun cs b=>iz i oi cs b hi) (Oper.apart_spec p9).2.2 h3.1) ?_) h2
  rw[Array.setIfInBounds_comm _ _ uu]
  exact h3.2
end
end Go.Sx
section
namespace Go.Sx
open Go
def dZ (cs:Array Value) (off:Nat):List Value→Array Value
 | []=>cs
 |v::r=>dZ (cs.setIfInBounds off v) (off+1) r
def aw (m:Option (Bool×Nat)) (o:Option Obj) (off:Nat) (v:Value):Option Obj:=
 match m,o with
 |some (_,n),some (.cells cs E fz)=>if v.cells.size=n∧off+n≤cs.size∧(fz.2≤fz.1∨off+n≤fz.1)∧v.cells.toList.all Value.oneCell'=true then some (.cells (dZ cs off v.cells.toList) E fz) else none
 |_,_=>none
def rY (m:Option (Bool×Nat)) (L:aB) (a v:Value):Option aB:=
 match a with
 | .pointer (some ⟨b,off,none⟩)=>match aw m (look L b) off v with
  |some o=>some (setB L b o)
  |none=>none
 |_=>none
section
variable {P:Program} {w0 w:World} {L:aB}
def Oz {b off:Nat} {v:Value} {cs:Array Value} {E:TypeId} {fz:Nat×Nat} (hb:w.heap[b]? =some (.cells cs E fz)):
  w.setCell ⟨b,off,none⟩ v={w with heap:=w.heap.setIfInBounds b (.cells (cs.setIfInBounds off v) E fz)}:=by
 have aC:=(Array.getElem?_eq_some_iff.1 hb).1
 unfold World.setCell
 congr 1
 apply Array.ext_getElem?
 intro i
 rw[Array.getElem?_modify]
 by_cases hi:b=i
 ·subst hi
  rw[if_pos rfl,hb]
  simp[aC]
 rw[if_neg hi,Array.getElem?_setIfInBounds_ne hi]
theorem K5 {b off:Nat} {E:TypeId} {fz:Nat×Nat}: ∀ (vs:List Value) (i:Nat) (cs:Array Value) (w:World),w.heap[b]? =some (.cells cs E fz)→
  off+i+vs.length≤cs.size→(fz.2≤fz.1∨off+i+vs.length≤fz.1)→vs.all Value.oneCell'=true→
  (storeCells ⟨b,off,none⟩ vs i).run P w= .ok () {w with heap:=w.heap.setIfInBounds b (.cells (dZ cs (off+i) vs) E fz)}
 | [],i,cs,w,hb,_,_,_=>by
  have aC:=(Array.getElem?_eq_some_iff.1 hb)
  have:w.heap.setIfInBounds b (.cells cs E fz)=w.heap:=by
   apply Array.ext_getElem?
   intro j
   by_cases hj:b=j
   ·subst hj;rw[hb];simp[aC.1]
   rw[Array.getElem?_setIfInBounds_ne hj]
  simp only[storeCells,dZ,this];rfl
 |v::r,i,cs,w,hb,hs,hf,ho=>by
  simp only[List.all_cons,Bool.and_eq_true] at ho
  simp only[List.length_cons] at hs hf
  have hc:w.cell? ⟨b,off+i,none⟩=some (cs[off+i]'oM):=by
   rw[cell_of_row w b _ cs E fz hb,Array.getElem?_eq_getElem oM]
  have hfz:w.frozen? ⟨b,off+i,none⟩=false:=by
   simp only[World.frozen?,hb,Bool.and_eq_false_iff,decide_eq_false_iff_not]
   omega
  have aC:=(Array.getElem?_eq_some_iff.1 hb).1
  simp only[storeCells,oV,Sem.run_bind,run_store P w _ v .plain ho.1,hc,hfz,Bool.false_eq_true, ↓reduceIte,Result.andThen_ok,Oz hb]
  have eG: ({w with heap:=w.heap.setIfInBounds b (.cells (cs.setIfInBounds (off+i) v) E fz)}:World).heap[b]? =some (.cells (cs.setIfInBounds (off+i) v) E fz):=by
   simp[aC]
  rw[K5 r (i+1) _ _ eG (by simp;omega) oM ho.2]
  simp[dZ,Nat.add_assoc]
def O0 {t:TypeId} {a v:Value} {L':aB} (hw:Hp w0 L w) (h:rY (aK P t) L a v=some L'): ∃w',(Instr.storeAt t a v).run P w= .ok () w'∧Hp w0 L' w':=by
 unfold rY at h
 split at h
 ·rename_i b off
  split at h
  ·rename_i o hs
   cases h
   unfold aw at hs
   split at hs
   ·rename_i m n cs E fz hm hl
    split at hs
    ·rename_i hc
     obtain⟨h1,h2,h3,h4⟩:=hc
     cases hs
     have hb:=hw.has _ _ (cu hl)
     have aS:v.cells.toList.length=n:=by simpa using h1
     refine⟨{w with heap:=w.heap.setIfInBounds b (.cells (dZ cs off v.cells.toList) E fz)}, ?_,hw.set (List.mem_map.2 ⟨_,cu hl,rfl⟩) rfl rfl rfl rfl⟩
     simp only[Instr.storeAt,Instr.sureAddr,Sem.run_bind,Sem.run_pure,Result.andThen_ok,storeVar,gq hm w,h1,ne_eq,not_true_eq_false, ↓reduceIte]
     rw[K5 v.cells.toList 0 cs w hb oM oM h4]
     rfl
    cases hs
   cases hs
  cases h
 cases h
end
def vz (ops:Array Oper) (f:Fr) (j:Nat):Option Bool:=
 match(ops[j]?).bind (·.dst) with
 |some d=>match eT f d with
  | .bool b=>some b
  |_=>none
 |none=>none
def SK (ops:Array Oper) (f:Fr) (j:Nat):yielded ops f.toArray j=vz ops f j:=by
 unfold yielded vz
 cases(ops[j]?).bind (·.dst) with
 |none=>rfl
 |some d=>
  simp only[Option.bind_some]
  have:=sC f d
  rw[Array.getD_eq_getD_getElem?] at this
  cases h:f.toArray[d]? with
  |none=>
   rw[h] at this
   simp only[Option.getD_none] at this
   rw[←this];rfl
  |some v=>
   rw[h] at this
   simp only[Option.getD_some] at this
   rw[←this]
   cases v<;>rfl
inductive Md where
 |seq
 |qui (is ts:List Nat)
 |any (is ts:List Nat)
 |sof (R is ts:List Nat)
def g7 (P:Program):Op→Bool
 | .move _=>true
 | .assign _=>true
 | .pick .. =>true
 | .binOp .. =>true
 | .unOp .. =>true
 | .convert s d _=>match cvT P s d with| .int _=>true| .str=>true|_=>false
 | .nilCheck _=>true
 | .fieldAddr .. =>true
 | .field .. =>true
 | .indexAddr .. =>true
 | .index .. =>true
 | .extract .. =>true
 | .slice .. =>true
 | .makeFunc .. =>true
 | .call ⟨.builtin .len,_,_⟩=>true
 | .call ⟨.builtin .cap,_,_⟩=>true
 | .build .. =>true
 |_=>false
def iq:Op→Bool
 | .load .. =>true
 | .convert .. =>true
 |_=>false
def wM (ops:Array Oper) (listed:Array Bool) (i:Nat):Nat→List Nat→List Nat
 |0,cs=>cs
 |n+1,cs=>wM ops listed i n ((List.range ops.size).filter fun j=>j !=i&& !listed.getD j true&&match ops[j]? with
  |some oj=>oj.after.any fun e=>Region.binds .any e&& (e.on==i||cs.contains e.on)
  |none=>false)
def F8 (ops:Array Oper) (ts:List Nat) (listed:Array Bool) (i:Nat) (cs:List Nat):Bool:=
 (ts.all fun t=>listed.getD t true||cs.contains t)&&cs.all fun c=>c !=i&& !listed.getD c true&&match ops[c]? with
  |some oc=>oc.after.any fun e=>Region.binds .any e&& (e.on==i||cs.contains e.on)
  |none=>false
def vu (ops:Array Oper) (ts:List Nat) (listed:Array Bool) (i:Nat):Bool:=
 F8 ops ts listed i (wM ops listed i 6 [])
def uI (P:Program) (ops:Array Oper) (ts:List Nat):List Nat→Array Bool→Bool
 | [],listed=>(Region.ready .any ops listed).isEmpty
 |k::is,listed=>
  (match ops[k]? with
   |some o=>
    ((Region.ready .any ops listed== [k])&& !(ts.contains k&& (g7 P o.op||iq o.op))) ||
    (!ts.contains k&& (Region.ready .any ops listed).contains k&&Region.free .any ops listed k&&
     (g7 P o.op|| (iq o.op&&vu ops ts listed k&&ts.all fun t=> !listed.getD t true)))
   |none=>false)&&uI P ops ts is (listed.setIfInBounds k true)
def eu (w0:World) (N:Fr→aB→Prop) (e:Exit) (a:Act) (w:World):Prop:=e= .normal∧a.defers= []∧ ∃L,Hp w0 L w∧N a.tmps.toList L
structure Fits (P:Program) (ops:Array Oper) (ts is:List Nat) (l:List Oper) (listed:Array Bool):Prop where
 len:is.length=l.length
 at_: ∀j:Nat,l[j]? =(is[j]?).bind fun i:Nat=>ops[i]?
 sel:Region.noSelect ops=true
 order:uI P ops ts is listed=true
def SR (w0:World) (R:List Nat) (L:aB) (w:World):Prop:= ∀b,b∈R→ ∀o,aT w0 L b=some o→w.heap[b]? =some o
def SR.of {w0 w:World} {R:List Nat} {L:aB} (h:Hp w0 L w):SR w0 R L w:=fun _ _ _ ho=>h.read ho
def Ow (P:Program) (w0:World) (ops:Array Oper) (md:Md) (l:List Oper) (f:Fr) (L:aB) (N:Fr→aB→Prop):Prop:=
 match md with
 | .seq=> ∀w,Hp w0 L w→wpList P ops (eu w0 N) l (act f) w
 | .qui is ts=> ∀listed,Fits P ops ts is l listed→(∀t,t∈ts→listed.getD t true=false)→ ∀w,Hp w0 L w→lg P ops (eu w0 N) ts (Hp w0 L) l.length listed (act f) w
 | .any is ts=> ∀listed,Fits P ops ts is l listed→(∃t∈ts,listed.getD t true=true)→ ∀w,Hp w0 L w→wpAny P .any ops (eu w0 N) l.length listed (act f) w
 | .sof R is ts=> ∀listed,Fits P ops ts is l listed→(∀t,t∈ts→listed.getD t true=false)→ ∀w,Hp w0 L w→lg P ops (eu w0 N) ts (SR w0 R L) l.length listed (act f) w
def Md.next:Md→Md
 | .seq=> .seq
 | .qui is ts=>match is with
  |k::is=>if ts.contains k then .any is ts else .qui is ts
  | []=> .qui [] ts
 | .any is ts=> .any is.tail ts
 | .sof R is ts=>match is with
  |k::is=>if ts.contains k then .any is ts else .sof R is ts
  | []=> .sof R [] ts
def Md.turn:Md→Option Md
 | .seq=>some .seq
 | .qui is ts=>match is with
  |k::is=>if ts.contains k then some (.any is ts) else none
  | []=>none
 | .any is ts=>some (.any is.tail ts)
 | .sof _ is ts=>match is with
  |k::is=>if ts.contains k then some (.any is ts) else none
  | []=>none
def a_ (ops:Array Oper) (f:Fr) (o:Oper):Bool:=
 match o.guard with
 |none=>false
 |some (j,want)=> !(vz ops f j==some want)
def lH (ops:Array Oper) (f:Fr) (o:Oper):Region.wanted o (yielded ops (act f).tmps)= !a_ ops f o:=by
 unfold Region.wanted a_
 cases o.guard with
 |none=>rfl
 |some p=>simp only[act,SK,Bool.not_not]
section
variable {P:Program} {w0:World} {f:Fr} {L:aB} {K:cK} {N:Fr→aB→Prop} {ops:Array Oper} {o:Oper} {rest:List Oper} {md:Md} {ts is:List Nat} {listed:Array Bool}
theorem Fits.nil (h:Fits P ops ts is [] listed):is= []∧Region.ready .any ops listed= []:=by
 have:=h.len
 have hi:is= []:=by cases is with|nil=>rfl|cons _ _=>cases this
 subst hi
 exact⟨rfl,by simpa [uI] using h.order⟩
theorem Fits.cons (h:Fits P ops ts is (o::rest) listed): ∃k is',is=k::is'∧ops[k]? =some o∧Fits P ops ts is' rest (listed.setIfInBounds k true)∧
  ((g7 P o.op=true∨iq o.op=true)→k∉ts)∧(Region.ready .any ops listed= [k]∨(k∉ts∧k∈Region.ready .any ops listed∧Region.free .any ops listed k=true∧
   (g7 P o.op=true∨(iq o.op=true∧vu ops ts listed k=true∧ ∀t,t∈ts→listed.getD t true=false)))):=by
 cases is with
 |nil=>have:=h.len;cases this
 |cons k is'=>
  have hk:ops[k]? =some o:=by have:=h.at_ 0;simpa using this.symm
  have ho:=h.order
  simp only[uI,hk,Bool.and_eq_true,Bool.or_eq_true,beq_iff_eq,Bool.not_eq_true',List.contains_eq_mem,decide_eq_true_eq,decide_eq_false_iff_not,List.all_eq_true,Bool.and_eq_false_iff,Bool.or_eq_false_iff] at ho
  refine⟨k,is',rfl,hk,⟨by have:=h.len;simpa using this,fun j=>by have:=h.at_ (j+1);simpa using this,h.sel,ho.2⟩, ?_⟩
  rcases ho.1 with⟨h1,h2⟩ | ⟨⟨⟨h1,h2⟩,h3⟩,h4⟩
  ·refine⟨fun hx=> ?_, .inl h1⟩
   rcases h2 with h2| ⟨h2,h3⟩
   ·exact h2
   rcases hx with hx|hx
   ·rw[hx] at h2;cases h2
   rw[hx] at h3;cases h3
  refine⟨fun _=>h1, .inr ⟨h1,h2,h3, ?_⟩⟩
  rcases h4 with h4| ⟨⟨h4,h5⟩,h6⟩
  ·exact .inl h4
  exact .inr ⟨h4,h5,h6⟩
theorem Ow.nil (h:N f L):Ow P w0 ops md [] f L N:=by
 cases md with
 |seq=>exact fun w hw=>wpList_nil ⟨rfl,rfl,L,hw,by simpa [act] using h⟩
 |qui is ts=>
  intro listed hF ht w hw
  exact⟨fun _=>hw,hF.nil.2,rfl,rfl,L,hw,by simpa [act] using h⟩
 |any is ts=>
  intro listed hF ht w hw
  exact wpAny_done hF.nil.2 ⟨rfl,rfl,L,hw,by simpa [act] using h⟩ 0
 |sof R is ts=>
  intro listed hF ht w hw
  exact⟨fun _=>SR.of hw,hF.nil.2,rfl,rfl,L,hw,by simpa [act] using h⟩
def ye {w0:World} {K:cK} {e:Exit} {a:Act} {w:World} (h:eu w0 (K .normal) e a w):post w0 K e a w:=by
 obtain⟨rfl,hd,L,hp,hk⟩:=h
 exact⟨hd,L,hp,hk⟩
def mb {w0:World} {N:Fr→aB→Prop} {c:List PanicEntry} {a a':Act} {w:World} (h:eu w0 N (.panic c) a w):eu w0 N (.panic c) a' w:=by
 obtain⟨h,_⟩:=h;cases h
theorem Cw.region {id:Nat} {l:List Oper} (h:Ow P w0 l.toArray .seq l f L (K .normal)):Cw P w0 (.region id l.toArray false) f L K:=
 fun w hw=>wp_mono (wp_region_lit (h w hw)) fun _ _ _ h=>ye h
def sD (P:Program) (l:List Oper) (is ts:List Nat):Bool:=
 Region.noSelect l.toArray&&is.length==l.length&& (ts.all fun t=>decide (t<l.length))&&uI P l.toArray ts is (Array.replicate l.length false)
def dR:List Oper→Nat→Option Oper
 | [],_=>none
 |o::_,0=>some o
 |_::r,n+1=>dR r n
def xR:Option Oper→List Oper→List Oper
 |some o,l=>o::l
 |none,l=>l
def ga (l:List Oper):List Nat→List Oper
 | []=> []
 |i::is=>xR (dR l i) (ga l is)
def nl (l:List Oper) (k:List Oper→Prop):Prop:=k l
@[congr] theorem aw0_ {x y:List Oper} {k:List Oper→Prop} (h:x=y):nl x k=nl y k:=by rw[h]
def bF (o:Oper) (r:List Oper) (k:List Oper→Prop):nl (o::r) k=k (o::r):=(rfl)
def bD (o:Oper) (r:List Oper):dR (o::r) 0=some o:=(rfl)
def bC (o:Oper) (r:List Oper) (n:Nat):dR (o::r) (n+1)=dR r n:=(rfl)
def az (o:Oper) (l:List Oper):xR (some o) l=o::l:=(rfl)
def bE (l:List Oper):ga l []= []:=(rfl)
def ay (l:List Oper) (i:Nat) (is:List Nat):ga l (i::is)=xR (dR l i) (ga l is):=(rfl)
def Cw.regionO {id:Nat} {l:List Oper} (is ts:List Nat) (hm:P.follows .mixedOrders=true) (hB:sD P l is ts=true) (hl:is.map (fun i:Nat=>l[i]?)=(ga l is).map some)
  (h:nl (ga l is) fun l'=>Ow P w0 l.toArray (.qui is ts) l' f L (K .normal)):Cw P w0 (.region id l.toArray true) f L K:=by
 revert hl h
 generalize ga l is=l'
 intro hl h w hw
 simp only[sD,Bool.and_eq_true,beq_iff_eq,List.all_eq_true,decide_eq_true_eq] at hB
 obtain⟨⟨⟨h1,h2⟩,h3⟩,h4⟩:=hB
 have aS:is.length=l'.length:=by have:=congrArg List.length hl;simpa using this
 refine wp_mono (wp_region_any hm ?_) fun _ _ _ h=>ye h
 have hF:Fits P l.toArray ts is l' (Array.replicate l.length false):=⟨aS,fun j=>by
  have:=congrArg (·[j]?) hl
  simp only[List.getElem?_map] at this
  cases hj:is[j]? with
  |none=>
   rw[hj] at this
   simp only[Option.map_none] at this
   cases gD:l'[j]? with
   |none=>rfl
   |some x=>rw[gD] at this;cases this
  |some i=>
   rw[hj] at this
   simp only[Option.map_some] at this
   cases gD:l'[j]? with
   |none=>rw[gD] at this;cases this
   |some x=>
    rw[gD] at this
    simp only[Option.map_some,Option.some.injEq] at this
    simp[this],h1,h4⟩
 have:=(h:Ow P w0 l.toArray (.qui is ts) l' f L (K .normal)) (Array.replicate l.length false) hF (fun t ht=>by have:=h3 t ht;simp[this]) _ hw.drew
 rw[←aS,h2] at this
 have:=IG _ _ _ _ this
 simpa using this
def OpS (P:Program) (w0:World) (f:Fr) (L:aB) (o:Oper) (M:Value→aB→Prop):Prop:=
 ∀w,Hp w0 L w→
  (∃v w' L',(execOp (ev f) o).run P w= .ok (.value v) w'∧Hp w0 L' w'∧M v L')∨
  (∃w' L',(execOp (ev f) o).run P w= .ok .skip w'∧Hp w0 L' w'∧M undef L')∨
  (∃k args w1,(execOp (ev f) o).run P w= .ok (.enter k args) w1∧Calls P k args w1 fun e w'=> ∃v L',e= .returned v∧Hp w0 L' w'∧M v L')
theorem OpS.wp {M:Value→aB→Prop} {next:Act→World→Prop} {Q:Exit→Act→World→Prop} (h:OpS P w0 f L o M)
  (hn: ∀v L' w',Hp w0 L' w'→M v L'→next (act (aX f o.dst v)) w') {w:World} (hw:Hp w0 L w):o.wp P (act f) w next Q:=by
 unfold Oper.wp
 rw[rl]
 rcases h w hw with⟨v,w',L',hr,hp,hm⟩ | ⟨w',L',hr,hp,hm⟩ | ⟨k,args,w1,hr,hc⟩
 ·rw[hr,Oper.upon_value,fi];exact hn _ _ _ hp hm
 ·rw[hr,Oper.upon_skip,fi];exact hn _ _ _ hp hm
 rw[hr,Oper.upon_enter]
 refine hc.mono ?_
 rintro e w' ⟨v,L',rfl,hp,hm⟩
 show next ((act f).put o.dst v) w'
 rw[fi];exact hn _ _ _ hp hm
theorem OpS.mono {M M':Value→aB→Prop} (h:OpS P w0 f L o M) (hm: ∀v L,M v L→M' v L):OpS P w0 f L o M':=fun w hw=>by
 rcases h w hw with⟨v,w',L',hr,hp,h1⟩ | ⟨w',L',hr,hp,h1⟩ | ⟨k,args,w1,hr,hc⟩
 ·exact .inl ⟨v,w',L',hr,hp,hm _ _ h1⟩
 ·exact .inr (.inl ⟨w',L',hr,hp,hm _ _ h1⟩)
 exact .inr (.inr ⟨k,args,w1,hr,hc.mono fun e w' ⟨v,L',he,hp,h1⟩=>⟨v,L',he,hp,hm _ _ h1⟩⟩)
def z7 {i:Nat} (h:listed.getD i true=false): (listed.setIfInBounds i true).getD i true=true:=by
 have aC:i<listed.size:=by
  rcases Nat.lt_or_ge i listed.size with h'|h'
  ·exact h'
  simp[Array.getElem?_eq_none h'] at h
 simp[aC]
def qy {i:Nat} (dN:i∉ts) (ht: ∀t,t∈ts→listed.getD t true=false): ∀t,t∈ts→(listed.setIfInBounds i true).getD t true=false:=
 fun t zt=>by rw[getD_set_ne true (fun(e:i=t)=>dN (by rw[e];exact zt))];exact ht t zt
def x6 {k:Nat} (hk:ops[k]? =some o) (hr:Region.ready .any ops listed= [k]) (hs:a_ ops f o=false) {n:Nat} {M:Value→aB→Prop} (h:OpS P w0 f L o M)
  (hn: ∀v L' w',Hp w0 L' w'→M v L'→wpAny P .any ops (eu w0 N) n (listed.setIfInBounds k true) (act (aX f o.dst v)) w') {w:World} (hw:Hp w0 L w):wpAny P .any ops (eu w0 N) (n+1) listed (act f) w:=by
 refine wpAny_all hr (by simp) ?_
 intro i hi
 simp only[List.mem_singleton] at hi
 subst hi
 unfold wpOp
 simp only[hk,lH,hs,Bool.not_false, ↓reduceIte]
 exact .inl (h.wp hn hw)
def Ow.step {md':Md} (he:md.turn=some md') (hp:g7 P o.op=false) (hs:a_ ops f o=false) (h:OpS P w0 f L o (fun v L'=>Ow P w0 ops md' rest (aX f o.dst v) L' N)):Ow P w0 ops md (o::rest) f L N:=by
 cases md with
 |seq=>
  cases he
  intro w hw
  unfold wpList
  rw[lH,hs]
  simp only[Bool.not_false, ↓reduceIte]
  exact .inl (h.wp (fun v L' w' hp hm=>hm w' hp) hw)
 |any is ts=>
  cases he
  intro listed hF ht w hw
  obtain⟨k,is',rfl,hk,dp,dT,hc⟩:=hF.cons
  obtain⟨t,tf,mU⟩:=ht
  have hr:Region.ready .any ops listed= [k]:=by
   rcases hc with hc| ⟨_,_,_,hc| ⟨_,_,hc⟩⟩
   ·exact hc
   ·rw[hp] at hc;cases hc
   rw[hc t tf] at mU;cases mU
  exact x6 hk hr hs h (fun v L' w' hp hm=>hm _ dp ⟨t,tf,Ao mU⟩ w' hp) hw
 |qui is ts=>
  intro listed hF ht w hw
  obtain⟨k,is',rfl,hk,dp,dT,hc⟩:=hF.cons
  simp only[Md.turn] at he
  split at he
  ·rename_i gQ
   cases he
   have jy:k∈ts:=by simpa using gQ
   have hr:Region.ready .any ops listed= [k]:=by
    rcases hc with hc| ⟨hc,_⟩
    ·exact hc
    exact absurd jy hc
   have cH:=z7 (ht k jy)
   refine⟨fun _=>hw,(fun h=>by rw[hr] at h;cases h), ?_⟩
   intro i hi
   rw[hr,List.mem_singleton] at hi
   subst hi
   unfold wpOp
   simp only[hk,lH,hs,Bool.not_false, ↓reduceIte]
   exact .inl (h.wp (fun v L' w' hp hm=>yz _ _ _ _ ⟨i,jy,cH⟩ (hm _ dp ⟨i,jy,cH⟩ w' hp)) hw)
  cases he
 |sof R is ts=>
  intro listed hF ht w hw
  obtain⟨k,is',rfl,hk,dp,dT,hc⟩:=hF.cons
  simp only[Md.turn] at he
  split at he
  ·rename_i gQ
   cases he
   have jy:k∈ts:=by simpa using gQ
   have hr:Region.ready .any ops listed= [k]:=by
    rcases hc with hc| ⟨hc,_⟩
    ·exact hc
    exact absurd jy hc
   have cH:=z7 (ht k jy)
   refine⟨fun _=>SR.of hw,(fun h=>by rw[hr] at h;cases h), ?_⟩
   intro i hi
   rw[hr,List.mem_singleton] at hi
   subst hi
   unfold wpOp
   simp only[hk,lH,hs,Bool.not_false, ↓reduceIte]
   exact .inl (h.wp (fun v L' w' hp hm=>yz _ _ _ _ ⟨i,jy,cH⟩ (hm _ dp ⟨i,jy,cH⟩ w' hp)) hw)
  cases he
def Ow.calm {v:Value} (hp:g7 P o.op=false) (my:iq o.op=false) (hs:a_ ops f o=false) (h:OpS P w0 f L o (fun v' L'=>v'=v∧L'=L))
  (hn:Ow P w0 ops md.next rest (aX f o.dst v) L N):Ow P w0 ops md (o::rest) f L N:=by
 cases md with
 |seq=>exact Ow.step rfl hp hs (h.mono fun v' L' ⟨h1,h2⟩=>by rw[h1,h2];exact hn)
 |any is ts=>exact Ow.step rfl hp hs (h.mono fun v' L' ⟨h1,h2⟩=>by rw[h1,h2];exact hn)
 |qui is ts=>
  intro listed hF ht w hw
  obtain⟨k,is',rfl,hk,dp,dT,hc⟩:=hF.cons
  have hr:Region.ready .any ops listed= [k]:=by
   rcases hc with hc| ⟨_,_,_,hc| ⟨hc,_⟩⟩
   ·exact hc
   ·rw[hp] at hc;cases hc
   rw[my] at hc;cases hc
  refine⟨fun _=>hw,(fun h=>by rw[hr] at h;cases h), ?_⟩
  intro i hi
  rw[hr,List.mem_singleton] at hi
  subst hi
  unfold wpOp
  simp only[hk,lH,hs,Bool.not_false, ↓reduceIte]
  refine .inl (h.wp (fun v' L' w' hp hm=> ?_) hw)
  obtain⟨rfl,rfl⟩:=hm
  simp only[Md.next] at hn
  split at hn
  ·rename_i gQ
   have dN:i∈ts:=by simpa using gQ
   have cH:=z7 (ht i dN)
   exact yz _ _ _ _ ⟨i,dN,cH⟩ (hn _ dp ⟨i,dN,cH⟩ w' hp)
  rename_i gQ
  have dN:i∉ts:=by simpa using gQ
  exact hn _ dp (qy dN ht) w' hp
 |sof R is ts=>
  intro listed hF ht w hw
  obtain⟨k,is',rfl,hk,dp,dT,hc⟩:=hF.cons
  have hr:Region.ready .any ops listed= [k]:=by
   rcases hc with hc| ⟨_,_,_,hc| ⟨hc,_⟩⟩
   ·exact hc
   ·rw[hp] at hc;cases hc
   rw[my] at hc;cases hc
  refine⟨fun _=>SR.of hw,(fun h=>by rw[hr] at h;cases h), ?_⟩
  intro i hi
  rw[hr,List.mem_singleton] at hi
  subst hi
  unfold wpOp
  simp only[hk,lH,hs,Bool.not_false, ↓reduceIte]
  refine .inl (h.wp (fun v' L' w' hp hm=> ?_) hw)
  obtain⟨rfl,rfl⟩:=hm
  simp only[Md.next] at hn
  split at hn
  ·rename_i gQ
   have dN:i∈ts:=by simpa using gQ
   have cH:=z7 (ht i dN)
   exact yz _ _ _ _ ⟨i,dN,cH⟩ (hn _ dp ⟨i,dN,cH⟩ w' hp)
  rename_i gQ
  have dN:i∉ts:=by simpa using gQ
  exact hn _ dp (qy dN ht) w' hp
def t_ {k:Nat} (hk:ops[k]? =some o) (h1:k∈Region.ready .any ops listed) (h2:Region.free .any ops listed k=true)
  (h3:g7 P o.op=true∨(iq o.op=true∧vu ops ts listed k=true∧ ∀t,t∈ts→listed.getD t true=false)):First ops ts k o (g7 P o.op=true) listed:=by
 refine⟨h1,Region.free_spec hk h2,h3.imp id fun⟨_,hw,_⟩=> ?_⟩
 unfold vu F8 at hw
 generalize wM ops listed k 6 []=cs at hw
 simp only[Bool.and_eq_true,List.all_eq_true,Bool.or_eq_true,List.contains_eq_mem,decide_eq_true_eq,bne_iff_ne,ne_eq,Bool.not_eq_true'] at hw
 obtain⟨aP,bR⟩:=hw
 refine⟨cs,fun t ht hu=> ?_,fun c hc=> ?_⟩
 ·rcases aP t ht with h|h
  ·rw[hu] at h;cases h
  exact h
 obtain⟨⟨h1,h2⟩,h3⟩:=bR c hc
 refine⟨h1,h2, ?_⟩
 cases ho:ops[c]? with
 |none=>rw[ho] at h3;cases h3
 |some oc=>
  rw[ho] at h3
  obtain⟨e,he,hb⟩:=Array.any_eq_true'.1 h3
  simp only[Bool.and_eq_true,Bool.or_eq_true,beq_iff_eq,List.contains_eq_mem,decide_eq_true_eq] at hb
  exact⟨oc,rfl,e,he,hb.1,hb.2⟩
def Ow.skip (hs:a_ ops f o=true) (h:Ow P w0 ops md.next rest (aX f o.dst undef) L N):Ow P w0 ops md (o::rest) f L N:=by
 have eU:Region.wanted o (yielded ops (act f).tmps)=false:=by rw[lH,hs];rfl
 cases md with
 |seq=>
  intro w hw
  unfold wpList
  rw[eU]
  simp only[Bool.false_eq_true, ↓reduceIte]
  rw[fi]
  exact h w hw
 |any is ts=>
  intro listed hF ht w hw
  obtain⟨k,is',rfl,hk,dp,dT,hc⟩:=hF.cons
  obtain⟨t,tf,mU⟩:=ht
  have cF:=h _ dp ⟨t,tf,Ao mU⟩ w hw
  rcases hc with hc| ⟨dI,dy,jr,js⟩
  ·refine wpAny_all hc (by simp) ?_
   intro i hi
   simp only[List.mem_singleton] at hi
   subst hi
   unfold wpOp
   simp only[hk,eU,Bool.false_eq_true, ↓reduceIte]
   rw[fi];exact cF
  refine wpAny_take (v:=undef) hk hF.sel jr (by simpa using dy) (fun c a w h=>mb h) (.inr ⟨eU,rfl⟩) ?_
  rw[fi];exact cF
 |qui is ts=>
  intro listed hF ht w hw
  obtain⟨k,is',rfl,hk,dp,dT,hc⟩:=hF.cons
  simp only[Md.next] at h
  rcases hc with hc| ⟨dI,dy,jr,js⟩
  ·refine⟨fun _=>hw,fun h=>(by rw[hc] at h;cases h), ?_⟩
   intro i hi
   rw[hc,List.mem_singleton] at hi
   subst hi
   unfold wpOp
   simp only[hk,eU,Bool.false_eq_true, ↓reduceIte]
   rw[fi]
   split at h
   ·rename_i gQ
    have dN:i∈ts:=by simpa using gQ
    have cH:=z7 (ht i dN)
    exact yz _ _ _ _ ⟨i,dN,cH⟩ (h _ dp ⟨i,dN,cH⟩ w hw)
   rename_i gQ
   exact h _ dp (qy (by simpa using gQ) ht) w hw
  rw[if_neg (by simpa using dI)] at h
  refine u6 hk dI (Region.noSelect_spec hF.sel) (fun c a w h=>mb h) _ _ _ _ (t_ (P:=P) hk dy jr js) (.inr ht) (.inr ⟨eU,rfl⟩) ?_
  rw[fi];exact h _ dp (qy dI ht) w hw
 |sof R is ts=>
  intro listed hF ht w hw
  obtain⟨k,is',rfl,hk,dp,dT,hc⟩:=hF.cons
  simp only[Md.next] at h
  rcases hc with hc| ⟨dI,dy,jr,js⟩
  ·refine⟨fun _=>SR.of hw,fun h=>(by rw[hc] at h;cases h), ?_⟩
   intro i hi
   rw[hc,List.mem_singleton] at hi
   subst hi
   unfold wpOp
   simp only[hk,eU,Bool.false_eq_true, ↓reduceIte]
   rw[fi]
   split at h
   ·rename_i gQ
    have dN:i∈ts:=by simpa using gQ
    have cH:=z7 (ht i dN)
    exact yz _ _ _ _ ⟨i,dN,cH⟩ (h _ dp ⟨i,dN,cH⟩ w hw)
   rename_i gQ
   exact h _ dp (qy (by simpa using gQ) ht) w hw
  rw[if_neg (by simpa using dI)] at h
  refine u6 hk dI (Region.noSelect_spec hF.sel) (fun c a w h=>mb h) _ _ _ _ (t_ (P:=P) hk dy jr js) (.inr ht) (.inr ⟨eU,rfl⟩) ?_
  rw[fi];exact h _ dp (qy dI ht) w hw
def A9 {op:Op} {v:Value} (hp:g7 P op=true) (h:j3 P w0 L f op=some v) (w:World):j3 P w [] f op=some v:=by
 cases op<;>simp only[g7,Bool.false_eq_true] at hp<;>first
  |exact h
  |skip
 ·rename_i s d x
  simp only[j3] at h ⊢
  cases hc:cvT P s d<;>rw[hc] at h hp<;>first
   |exact h
   |cases hp
 ·rename_i t x lo hi mx
  cases mx<;>exact h
 rename_i c
 obtain⟨cl,args,ts⟩:=c
 cases cl with
 |builtin b=>cases b<;>first|exact h|cases hp
 |value x=>cases hp
 |invoke x m=>cases hp
def Bs {op:Op} {v:Value} (h:j3 P w0 L f op=some v):g7 P op=true∨iq op=true:=by
 unfold j3 at h
 split at h<;>first
  |exact .inl rfl
  |exact .inr rfl
  |cases h
def rdIn (R:List Nat):Value→Bool
 | .pointer (some a)=>R.contains a.block
 | .slice (some a) _ _=>R.contains a.block
 |_=>true
def rdOk (md:Md) (f:Fr) (op:Op):Bool:=
 match op with
 | .load _ x=>(match md with| .sof R _ _=>rdIn R (ev f x) |_=>true)
 | .convert _ _ x=>(match md with| .sof R _ _=>rdIn R (ev f x) |_=>true)
 |_=>true
def JL (w:World) (b:Nat):aT w [] b=w.heap[b]? :=(rfl)
def KO {R is ts:List Nat} {op:Op} {v:Value} {w:World} (cW:rdOk (.sof R is ts) f op=true) (h:j3 P w0 L f op=some v) (hS:SR w0 R L w):j3 P w [] f op=some v:=by
 cases op<;>first
  |exact h
  |skip
 case load t x=>
  simp only[j3,uT] at h ⊢
  simp only[rdOk] at cW
  split at h
  ·rename_i b off hx
   rw[hx] at cW
   simp only[rdIn,List.contains_eq_mem,decide_eq_true_eq] at cW
   simp only[JL]
   cases hr:aT w0 L b with
   |none=>rw[hr] at h;unfold aQ at h;split at h<;>simp_all
   |some o=>rw[hS b cW o hr];rw[hr] at h;exact h
  cases h
 case convert s d x=>
  simp only[j3,io] at h ⊢
  simp only[rdOk] at cW
  cases hc:cvT P s d<;>rw[hc] at h<;>simp only at h ⊢ <;>first
   |exact h
   |skip
  unfold x4 at h ⊢
  split at h
  ·exact h
  ·rename_i b off n c hx
   rw[hx] at cW
   simp only[rdIn,List.contains_eq_mem,decide_eq_true_eq] at cW
   simp only[JL]
   cases hr:aT w0 L b with
   |none=>rw[hr] at h;unfold iI at h;cases h
   |some o=>rw[hS b cW o hr];rw[hr] at h;exact h
  cases h
 case slice t x lo hi mx=>cases mx<;>exact h
 case call c=>
  obtain⟨cl,args,ts'⟩:=c
  cases cl with
  |builtin b=>cases b<;>exact h
  |value x=>exact h
  |invoke x m=>exact h
def Ow.value {v:Value} (hs:a_ ops f o=false) (cW:rdOk md f o.op=true) (hv:j3 P w0 L f o.op=some v) (h:Ow P w0 ops md.next rest (aX f o.dst v) L N):Ow P w0 ops md (o::rest) f L N:=by
 have eU:Region.wanted o (yielded ops (act f).tmps)=true:=by rw[lH,hs];rfl
 have hS:OpS P w0 f L o (fun v' L'=>v'=v∧L'=L):=fun w hw=> .inl ⟨v,w,L,pG hw hv,hw,rfl,rfl⟩
 have hY:YieldsC P ops (Hp w0 L) (g7 P o.op=true) o v (act f):=by
  refine .inl ⟨eU,fun w hw=> ?_⟩
  rw[rl]
  rcases hw with hp|hw
  ·exact pG (Hp.refl w) (A9 hp hv w)
  exact pG hw hv
 cases md with
 |seq=>
  intro w hw
  unfold wpList
  rw[eU]
  simp only[↓reduceIte]
  exact .inl (hS.wp (fun v' L' w' hp hm=>by obtain⟨rfl,rfl⟩:=hm;exact h w' hp) hw)
 |any is ts=>
  intro listed hF ht w hw
  obtain⟨k,is',rfl,hk,dp,dT,hc⟩:=hF.cons
  obtain⟨t,tf,mU⟩:=ht
  have cF:=fun w hw=>h _ dp ⟨t,tf,Ao mU⟩ w hw
  rcases hc with hc| ⟨dI,dy,jr,js| ⟨_,_,js⟩⟩
  ·exact x6 hk hc hs hS (fun v' L' w' hp hm=>by obtain⟨rfl,rfl⟩:=hm;exact cF w' hp) hw
  ·refine wpAny_take (v:=v) hk hF.sel jr (by simpa using dy) (fun c a w h=>mb h) (.inl ⟨eU,fun w=> ?_⟩) ?_
   ·rw[rl];exact pG (Hp.refl w) (A9 js hv w)
   rw[fi];exact cF w hw
  rw[js t tf] at mU;cases mU
 |qui is ts=>
  intro listed hF ht w hw
  obtain⟨k,is',rfl,hk,dp,dT,hc⟩:=hF.cons
  have dN:k∉ts:=dT (Bs hv)
  simp only[Md.next] at h
  rw[if_neg (by simpa using dN)] at h
  have cF:=fun w hw=>h _ dp (qy dN ht) w hw
  rcases hc with hc| ⟨dI,dy,jr,js⟩
  ·refine⟨fun _=>hw,fun h=>(by rw[hc] at h;cases h), ?_⟩
   intro i hi
   rw[hc,List.mem_singleton] at hi
   subst hi
   unfold wpOp
   simp only[hk,eU, ↓reduceIte]
   exact .inl (hS.wp (fun v' L' w' hp hm=>by obtain⟨rfl,rfl⟩:=hm;exact cF w' hp) hw)
  refine u6 hk dI (Region.noSelect_spec hF.sel) (fun c a w h=>mb h) _ _ _ _ (t_ (P:=P) hk dy jr js) (.inr ht) hY ?_
  rw[fi];exact cF w hw
 |sof R is ts=>
  intro listed hF ht w hw
  have hYs:YieldsC P ops (SR w0 R L) (g7 P o.op=true) o v (act f):=by
   refine .inl ⟨eU,fun w hw=> ?_⟩
   rw[rl]
   rcases hw with hp|hw
   ·exact pG (Hp.refl w) (A9 hp hv w)
   exact pG (Hp.refl w) (KO cW hv hw)
  obtain⟨k,is',rfl,hk,dp,dT,hc⟩:=hF.cons
  have dN:k∉ts:=dT (Bs hv)
  simp only[Md.next] at h
  rw[if_neg (by simpa using dN)] at h
  have cF:=fun w hw=>h _ dp (qy dN ht) w hw
  rcases hc with hc| ⟨dI,dy,jr,js⟩
  ·refine⟨fun _=>SR.of hw,fun h=>(by rw[hc] at h;cases h), ?_⟩
   intro i hi
   rw[hc,List.mem_singleton] at hi
   subst hi
   unfold wpOp
   simp only[hk,eU, ↓reduceIte]
   exact .inl (hS.wp (fun v' L' w' hp hm=>by obtain⟨rfl,rfl⟩:=hm;exact cF w' hp) hw)
  refine u6 hk dI (Region.noSelect_spec hF.sel) (fun c a w h=>mb h) _ _ _ _ (t_ (P:=P) hk dy jr js) (.inr ht) hYs ?_
  rw[fi];exact cF w hw
def Ow.pureV {v:Value} (hp:g7 P o.op=true) (hs:a_ ops f o=false) (hv: ∀w,(execOp (ev f) o).run P w= .ok (.value v) w) (h:Ow P w0 ops md.next rest (aX f o.dst v) L N):Ow P w0 ops md (o::rest) f L N:=by
 have eU:Region.wanted o (yielded ops (act f).tmps)=true:=by rw[lH,hs];rfl
 have hS:OpS P w0 f L o (fun v' L'=>v'=v∧L'=L):=fun w hw=> .inl ⟨v,w,L,hv w,hw,rfl,rfl⟩
 have hY: ∀C,YieldsC P ops C (g7 P o.op=true) o v (act f):=fun C=> .inl ⟨eU,fun w _=>by rw[rl];exact hv w⟩
 cases md with
 |seq=>
  intro w hw
  unfold wpList
  rw[eU]
  simp only[↓reduceIte]
  exact .inl (hS.wp (fun v' L' w' hp hm=>by obtain⟨rfl,rfl⟩:=hm;exact h w' hp) hw)
 |any is ts=>
  intro listed hF ht w hw
  obtain⟨k,is',rfl,hk,dp,dT,hc⟩:=hF.cons
  obtain⟨t,tf,mU⟩:=ht
  have cF:=fun w hw=>h _ dp ⟨t,tf,Ao mU⟩ w hw
  rcases hc with hc| ⟨dI,dy,jr,js⟩
  ·exact x6 hk hc hs hS (fun v' L' w' hp hm=>by obtain⟨rfl,rfl⟩:=hm;exact cF w' hp) hw
  refine wpAny_take (v:=v) hk hF.sel jr (by simpa using dy) (fun c a w h=>mb h) (.inl ⟨eU,fun w=> ?_⟩) ?_
  ·rw[rl];exact hv w
  rw[fi];exact cF w hw
 |qui is ts=>
  intro listed hF ht w hw
  obtain⟨k,is',rfl,hk,dp,dT,hc⟩:=hF.cons
  have dN:k∉ts:=dT (.inl hp)
  simp only[Md.next] at h
  rw[if_neg (by simpa using dN)] at h
  have cF:=fun w hw=>h _ dp (qy dN ht) w hw
  rcases hc with hc| ⟨dI,dy,jr,js⟩
  ·refine⟨fun _=>hw,fun h=>(by rw[hc] at h;cases h), ?_⟩
   intro i hi
   rw[hc,List.mem_singleton] at hi
   subst hi
   unfold wpOp
   simp only[hk,eU, ↓reduceIte]
   exact .inl (hS.wp (fun v' L' w' hp hm=>by obtain⟨rfl,rfl⟩:=hm;exact cF w' hp) hw)
  refine u6 hk dI (Region.noSelect_spec hF.sel) (fun c a w h=>mb h) _ _ _ _ (t_ (P:=P) hk dy jr js) (.inr ht) (hY _) ?_
  rw[fi];exact cF w hw
 |sof R is ts=>
  intro listed hF ht w hw
  obtain⟨k,is',rfl,hk,dp,dT,hc⟩:=hF.cons
  have dN:k∉ts:=dT (.inl hp)
  simp only[Md.next] at h
  rw[if_neg (by simpa using dN)] at h
  have cF:=fun w hw=>h _ dp (qy dN ht) w hw
  rcases hc with hc| ⟨dI,dy,jr,js⟩
  ·refine⟨fun _=>SR.of hw,fun h=>(by rw[hc] at h;cases h), ?_⟩
   intro i hi
   rw[hc,List.mem_singleton] at hi
   subst hi
   unfold wpOp
   simp only[hk,eU, ↓reduceIte]
   exact .inl (hS.wp (fun v' L' w' hp hm=>by obtain⟨rfl,rfl⟩:=hm;exact cF w' hp) hw)
  refine u6 hk dI (Region.noSelect_spec hF.sel) (fun c a w h=>mb h) _ _ _ _ (t_ (P:=P) hk dy jr js) (.inr ht) (hY _) ?_
  rw[fi];exact cF w hw
theorem Ow.store {t:TypeId} {a x:Operand} {L':aB} {md':Md} (he:md.turn=some md') (hs:a_ ops f o=false) (ho:o.op= .store t a x) (hv:rY (aK P t) L (ev f a) (ev f x)=some L') (h:Ow P w0 ops md' rest (aX f o.dst undef) L' N):Ow P w0 ops md (o::rest) f L N:=
 Ow.step he (by rw[ho];rfl) hs fun w hw=>by
  obtain⟨w',hr,hp⟩:=O0 hw hv
  refine .inr (.inl ⟨w',L', ?_,hp,h⟩)
  simp only[execOp,ho,Sem.run_bind,hr];rfl
end
inductive Kind where
 |value|store (t:TypeId) (a x:Operand) |other
def xL:Op→Kind
 | .move _=> .value
 | .assign _=> .value
 | .pick .. => .value
 | .binOp .. => .value
 | .unOp .. => .value
 | .convert .. => .value
 | .nilCheck _=> .value
 | .fieldAddr .. => .value
 | .field .. => .value
 | .indexAddr .. => .value
 | .index .. => .value
 | .load .. => .value
 | .extract .. => .value
 | .slice .. => .value
 | .makeFunc .. => .value
 | .call ⟨.builtin .len,_,_⟩=> .value
 | .call ⟨.builtin .cap,_,_⟩=> .value
 | .store t a x=> .store t a x
 |_=> .other
abbrev Dep {α:Type} (_:α):Type:=Prop
def ov (x:Option Value) (k:Value→Prop):Dep k:=match x with|some v=>k v|none=>False
def ovs (x:Option Value) (k:Value→Prop) (s:Prop):Dep (k,s):=match x with|some v=>k v|none=>s
def oh (x:Option aB) (k:aB→Prop):Dep k:=match x with|some v=>k v|none=>False
def nf (f:Fr) (k:Fr→Prop):Dep k:=k f
def nh (L:aB) (k:aB→Prop):Dep k:=k L
@[congr] theorem aw4_ {x y:Option Value} {k:Value→Prop} (h:x=y):ov x k=ov y k:=by rw[h]
@[congr] theorem avB_ {x y:Option Value} {k:Value→Prop} {s:Prop} (h:x=y):ovs x k s=ovs y k s:=by rw[h]
@[congr] theorem aw7_ {x y:Option aB} {k:aB→Prop} (h:x=y):oh x k=oh y k:=by rw[h]
@[congr] theorem aw1_ {x y:Fr} {k:Fr→Prop} (h:x=y):nf x k=nf y k:=by rw[h]
@[congr] theorem axb_ {x y:aB} {k:aB→Prop} (h:x=y):nh x k=nh y k:=by rw[h]
def WR (v:Value) (k:Value→Prop) (s:Prop):ovs (some v) k s=k v:=(rfl)
def WY (k:Value→Prop) (s:Prop):ovs none k s=s:=(rfl)
def ZJ (v:aB) (k:aB→Prop):oh (some v) k=k v:=(rfl)
def YR (v:Value) (r:Fr) (k:Fr→Prop):nf (v::r) k=k (v::r):=(rfl)
def awv_ (k:Fr→Prop):nf [] k=k []:=(rfl)
def XR (v:Nat×Obj) (r:aB) (k:aB→Prop):nh (v::r) k=k (v::r):=(rfl)
def awz_ (k:aB→Prop):nh [] k=k []:=(rfl)
def ib (b:Bool) (x y:Prop):Dep (x,y):=match b with|true=>x|false=>y
@[congr] theorem aw8_ {a b:Bool} {x y:Prop} (h:a=b):ib a x y=ib b x y:=by rw[h]
def YH (x y:Prop):ib true x y=x:=(rfl)
def WS (x y:Prop):ib false x y=y:=(rfl)
def vcB (P:Program) (w0:World) (st:Bool) (md:Md) (o:Oper) (f:Fr) (L:aB) (go:Fr→aB→Prop) (stop:Prop):Prop:=
 match xL o.op with
 | .value=>ib (rdOk md f o.op) (ovs (j3 P w0 L f o.op) (fun v=>nf (aX f o.dst v) fun f'=>go f' L) stop) stop
 | .store t a x=>ib st (oh (rY (aK P t) L (ev f a) (ev f x)) fun L'=>nh L' fun L'=>nf (aX f o.dst undef) fun f'=>go f' L') stop
 | .other=>stop
def vcL (P:Program) (w0:World) (ops:Array Oper) (st:Bool) (md:Md):List Oper→Fr→aB→(Md→List Oper→Fr→aB→Prop)→Prop
 | [],f,L,k=>k md [] f L
 |o::rest,f,L,k=>
  ib (a_ ops f o) (nf (aX f o.dst undef) fun f'=>vcL P w0 ops st md.next rest f' L k)
   (vcB P w0 st md o f L (fun f' L'=>vcL P w0 ops st md.next rest f' L' k) (k md (o::rest) f L))
def Md.eff:Md→Bool
 | .seq=>true
 | .qui _ _=>false
 | .any _ _=>true
 | .sof _ _ _=>false
def Md.turn_eff {md:Md} (h:md.eff=true):md.turn=some md.next:=by
 cases md<;>first|rfl|cases h
def Md.next_eff {md:Md} (h:md.eff=true):md.next.eff=true:=by
 cases md<;>first|rfl|cases h
def Nl {op:Op} {t:TypeId} {a x:Operand} (h:xL op= .store t a x):op= .store t a x:=by
 unfold xL at h
 split at h<;>first| (cases h;done) | (cases h;rfl)
theorem AI {P:Program} {w0:World} {ops:Array Oper} {N:Fr→aB→Prop} (k:Md→List Oper→Fr→aB→Prop) (hk: ∀md l f L,k md l f L→Ow P w0 ops md l f L N) (st:Bool):
  ∀ (l:List Oper) (md:Md) (f:Fr) (L:aB),(st=true→md.eff=true)→vcL P w0 ops st md l f L k→Ow P w0 ops md l f L N
 | [],md,f,L,_,h=>hk _ _ _ _ h
 |o::rest,md,f,L,bL,h=>by
  unfold vcL at h
  have qq:st=true→md.next.eff=true:=fun e=>Md.next_eff (bL e)
  cases hs:a_ ops f o with
  |true=>
   rw[hs] at h
   exact Ow.skip hs (AI k hk st rest _ _ L qq h)
  |false=>
   rw[hs] at h
   simp only[ib,vcB] at h
   split at h
   ·cases cW:rdOk md f o.op with
    |false=>rw[cW] at h;exact hk _ _ _ _ h
    |true=>
     rw[cW] at h
     cases hv:j3 P w0 L f o.op with
     |none=>rw[hv] at h;exact hk _ _ _ _ h
     |some v=>rw[hv] at h;exact Ow.value hs cW hv (AI k hk st rest _ _ L qq h)
   ·rename_i t a x hkd
    cases st with
    |true=>
     simp only at h
     cases hv:rY (aK P t) L (ev f a) (ev f x) with
     |none=>rw[hv] at h;exact h.elim
     |some L'=>
      rw[hv] at h
      exact Ow.store (Md.turn_eff (bL rfl)) hs (Nl hkd) hv (AI k hk true rest _ _ L' qq h)
    |false=>exact hk _ _ _ _ h
   exact hk _ _ _ _ h
def Ow.run {P:Program} {w0:World} {ops:Array Oper} {md:Md} {N:Fr→aB→Prop} {l:List Oper} {f:Fr} {L:aB} (he:md.eff=true)
  (h: ∀k:Md→List Oper→Fr→aB→Prop,(∀md l f L,Ow P w0 ops md l f L N→k md l f L)→vcL P w0 ops true md l f L k):Ow P w0 ops md l f L N:=
 AI (fun md l f L=>Ow P w0 ops md l f L N) (fun _ _ _ _ h=>h) true l md f L (fun _=>he) (h _ fun _ _ _ _ h=>h)
def P5 (f:Fr) (t:TypeId) (x:Operand):rdOk .seq f (.load t x)=true:=(rfl)
def Oa (f:Fr) (is ts:List Nat) (t:TypeId) (x:Operand):rdOk (.any is ts) f (.load t x)=true:=(rfl)
def O' (f:Fr) (is ts:List Nat) (t:TypeId) (x:Operand):rdOk (.qui is ts) f (.load t x)=true:=(rfl)
def QB (f:Fr) (R is ts:List Nat) (t:TypeId) (x:Operand):rdOk (.sof R is ts) f (.load t x)=rdIn R (ev f x):=(rfl)
def M9 (f:Fr) (s t:TypeId) (x:Operand):rdOk .seq f (.convert s t x)=true:=(rfl)
def Mc (f:Fr) (is ts:List Nat) (s t:TypeId) (x:Operand):rdOk (.any is ts) f (.convert s t x)=true:=(rfl)
def MD (f:Fr) (is ts:List Nat) (s t:TypeId) (x:Operand):rdOk (.qui is ts) f (.convert s t x)=true:=(rfl)
def MY (f:Fr) (R is ts:List Nat) (s t:TypeId) (x:Operand):rdOk (.sof R is ts) f (.convert s t x)=rdIn R (ev f x):=(rfl)
def Yu (R:List Nat) (b o:Nat):rdIn R (vp b o)=R.contains b:=(rfl)
def YZ (R:List Nat) (b o n c:Nat):rdIn R (vsl b o n c)=R.contains b:=(rfl)
def XD (R:List Nat) (n c:Nat):rdIn R (.slice none n c)=true:=(rfl)
def Ve (R:List Nat) (k:IntKind) (n:Int):rdIn R (.int k n)=true:=(rfl)
def V4 (R:List Nat) (l:List UInt8):rdIn R (vs l)=true:=(rfl)
def Md.next_sof (k:Nat) (R is ts:List Nat): (Md.sof R (k::is) ts).next=if ts.contains k then .any is ts else .sof R is ts:=(rfl)
def Md.next_seq:Md.seq.next= .seq:=(rfl)
def Md.next_any (k:Nat) (is ts:List Nat): (Md.any (k::is) ts).next= .any is ts:=(rfl)
def Md.next_qui (k:Nat) (is ts:List Nat): (Md.qui (k::is) ts).next=if ts.contains k then .any is ts else .qui is ts:=(rfl)
def sN:Value→Option Bool
 | .bool b=>some b
 |_=>none
def xD (o:Option Oper) (f:Fr):Option Bool:=
 match o with
 |some o=>match o.dst with
  |some d=>sN (eT f d)
  |none=>none
 |none=>none
def oL (l:List Oper) (j:Nat):dR l j=l[j]? :=by
 induction l generalizing j with
 |nil=>rfl
 |cons o r ih=>cases j<;>simp[dR,ih]
def R' (l:List Oper) (f:Fr) (j:Nat):vz l.toArray f j=xD (dR l j) f:=by
 unfold vz xD
 rw[oL,List.getElem?_toArray]
 cases l[j]? with
 |none=>rfl
 |some o=>
  simp only[Option.bind_some]
  cases o.dst with
  |none=>rfl
  |some d=>
   simp only
   cases eT f d<;>rfl
def Pl (d:Tmp) (op:Op) (ty:TypeId) (ps:String) (af:Array Edge) (g:Option (Nat×Bool)) (f:Fr):xD (some ⟨some d,op,ty,ps,af,g⟩) f=sN (eT f d):=(rfl)
def Vu (b:Bool):sN (.bool b)=some b:=(rfl)
def NY:sN undef=none:=(rfl)
def Wl (a b:Bool): ((some a:Option Bool)==some b)=(a==b):=(rfl)
def W0 (b:Bool): ((none:Option Bool)==some b)=false:=(rfl)
section
variable (P:Program) (w0:World) (ops:Array Oper) (rest:List Oper) (f:Fr) (L:aB) (k:Md→List Oper→Fr→aB→Prop)
 (st:Bool) (md:Md) (d:Option Tmp) (ty:TypeId) (ps:String) (af:Array Edge)
def Xd:vcL P w0 ops st md [] f L k=k md [] f L:=(rfl)
def Wb (op:Op):vcL P w0 ops st md (⟨d,op,ty,ps,af,none⟩::rest) f L k=
  vcB P w0 st md ⟨d,op,ty,ps,af,none⟩ f L (fun f' L'=>vcL P w0 ops st md.next rest f' L' k) (k md (⟨d,op,ty,ps,af,none⟩::rest) f L):=(rfl)
def X4 (op:Op) (j:Nat) (b:Bool):vcL P w0 ops st md (⟨d,op,ty,ps,af,some (j,b)⟩::rest) f L k=
  ib (vz ops f j==some b) (vcB P w0 st md ⟨d,op,ty,ps,af,some (j,b)⟩ f L (fun f' L'=>vcL P w0 ops st md.next rest f' L' k) (k md (⟨d,op,ty,ps,af,some (j,b)⟩::rest) f L)) (nf (aX f d undef) fun f'=>vcL P w0 ops st md.next rest f' L k):=by
 simp only[vcL,a_]
 cases(vz ops f j==some b)<;>rfl
end
@[congr] theorem awJ_ {P:Program} {w0:World} {st:Bool} {md:Md} {o:Oper} {f:Fr} {L:aB} {go:Fr→aB→Prop} {stop:Prop}:vcB P w0 st md o f L go stop=vcB P w0 st md o f L go stop:=(rfl)
section
variable (P:Program) (w0:World) (f:Fr) (L:aB) (st:Bool) (md:Md) (d:Option Tmp) (ty:TypeId) (ps:String) (af:Array Edge) (g:Option (Nat×Bool)) (go:Fr→aB→Prop) (stop:Prop)
def W4 (x:Operand):vcB P w0 st md ⟨d, .move x,ty,ps,af,g⟩ f L go stop=ovs (some (ev f x)) (fun v=>nf (aX f d v) fun f'=>go f' L) stop:=(rfl)
def Sy (x:Operand):vcB P w0 st md ⟨d, .assign x,ty,ps,af,g⟩ f L go stop=ovs (some (ev f x)) (fun v=>nf (aX f d v) fun f'=>go f' L) stop:=(rfl)
def WU (c a b:Operand):vcB P w0 st md ⟨d, .pick c a b,ty,ps,af,g⟩ f L go stop=ovs (jW (ev f c) (ev f a) (ev f b)) (fun v=>nf (aX f d v) fun f'=>go f' L) stop:=(rfl)
def Uu (op:BinOp) (t t':TypeId) (x y:Operand):vcB P w0 st md ⟨d, .binOp op t x y t',ty,ps,af,g⟩ f L go stop=ovs (ab P op t (ev f x) (ev f y)) (fun v=>nf (aX f d v) fun f'=>go f' L) stop:=(rfl)
def VB (op:UnOp) (t:TypeId) (x:Operand):vcB P w0 st md ⟨d, .unOp op t x,ty,ps,af,g⟩ f L go stop=ovs (unV op (ev f x)) (fun v=>nf (aX f d v) fun f'=>go f' L) stop:=(rfl)
def QL (s t:TypeId) (x:Operand):vcB P w0 st md ⟨d, .convert s t x,ty,ps,af,g⟩ f L go stop=ib (rdOk md f (.convert s t x)) (ovs (io w0 L (cvT P s t) (ev f x)) (fun v=>nf (aX f d v) fun f'=>go f' L) stop) stop:=(rfl)
def N6 (x:Operand):vcB P w0 st md ⟨d, .nilCheck x,ty,ps,af,g⟩ f L go stop=ovs (nilV (ev f x)) (fun v=>nf (aX f d v) fun f'=>go f' L) stop:=(rfl)
def NR (s:TypeId) (x:Operand) (i:Nat):vcB P w0 st md ⟨d, .fieldAddr s x i,ty,ps,af,g⟩ f L go stop=ovs (A7 (aV P s i) (ev f x)) (fun v=>nf (aX f d v) fun f'=>go f' L) stop:=(rfl)
def UX (s:TypeId) (x:Operand) (i:Nat):vcB P w0 st md ⟨d, .field s x i,ty,ps,af,g⟩ f L go stop=ovs (sQ (aV P s i) (ev f x)) (fun v=>nf (aX f d v) fun f'=>go f' L) stop:=(rfl)
def Mu (t:TypeId) (x i:Operand):vcB P w0 st md ⟨d, .indexAddr t x i,ty,ps,af,g⟩ f L go stop=ovs (nC (ixT P t) (ev f x) (ixI (ev f i))) (fun v=>nf (aX f d v) fun f'=>go f' L) stop:=(rfl)
def Si (t:TypeId) (x i:Operand):vcB P w0 st md ⟨d, .index t x i,ty,ps,af,g⟩ f L go stop=ovs (pd (ixT P t) (ev f x) (ixI (ev f i))) (fun v=>nf (aX f d v) fun f'=>go f' L) stop:=(rfl)
def Wx (t:TypeId) (x:Operand):vcB P w0 st md ⟨d, .load t x,ty,ps,af,g⟩ f L go stop=ib (rdOk md f (.load t x)) (ovs (uT (aK P t) w0 L (ev f x)) (fun v=>nf (aX f d v) fun f'=>go f' L) stop) stop:=(rfl)
def QO (x:Operand) (i:Nat):vcB P w0 st md ⟨d, .extract x i,ty,ps,af,g⟩ f L go stop=ovs (Iy (ev f x) i) (fun v=>nf (aX f d v) fun f'=>go f' L) stop:=(rfl)
def Us (t:TypeId) (x:Operand) (lo hi:Option Operand):vcB P w0 st md ⟨d, .slice t x lo hi none,ty,ps,af,g⟩ f L go stop=ovs (ii (ixT P t) (ev f x) (lo.map fun o=>ixI (ev f o)) (hi.map fun o=>ixI (ev f o))) (fun v=>nf (aX f d v) fun f'=>go f' L) stop:=(rfl)
def Nm (fn:Fn) (a b:Array Operand):vcB P w0 st md ⟨d, .makeFunc fn a b,ty,ps,af,g⟩ f L go stop=ovs (some (.func fn (a.map (ev f)) (b.map (ev f)))) (fun v=>nf (aX f d v) fun f'=>go f' L) stop:=(rfl)
def X_ (x:Operand) (t:TypeId):vcB P w0 st md ⟨d, .call ⟨.builtin .len, #[x], #[t]⟩,ty,ps,af,g⟩ f L go stop=ovs (eb (ixT P t) (ev f x)) (fun v=>nf (aX f d v) fun f'=>go f' L) stop:=(rfl)
def Y4 (x:Operand) (t:TypeId):vcB P w0 st md ⟨d, .call ⟨.builtin .cap, #[x], #[t]⟩,ty,ps,af,g⟩ f L go stop=ovs (capV (ixT P t) (ev f x)) (fun v=>nf (aX f d v) fun f'=>go f' L) stop:=(rfl)
def SQ (t:TypeId) (a x:Operand):vcB P w0 true md ⟨none, .store t a x,ty,ps,af,g⟩ f L go stop=oh (rY (aK P t) L (ev f a) (ev f x)) fun L'=>nh L' fun L'=>go f L':=(rfl)
def Pk (t:TypeId) (a x:Operand):vcB P w0 false md ⟨d, .store t a x,ty,ps,af,g⟩ f L go stop=stop:=(rfl)
def SX (t:TypeId):vcB P w0 st md ⟨d, .alloc t,ty,ps,af,g⟩ f L go stop=stop:=(rfl)
def Yr (t:TypeId) (x:Operand):vcB P w0 st md ⟨d, .box t x,ty,ps,af,g⟩ f L go stop=stop:=(rfl)
def TQ (t:TypeId) (x:Array (Nat×Operand)):vcB P w0 st md ⟨d, .build t x,ty,ps,af,g⟩ f L go stop=stop:=(rfl)
def MZ (t:TypeId) (n:Nat) (x:Array (Nat×Operand)):vcB P w0 st md ⟨d, .buildSlice t n x,ty,ps,af,g⟩ f L go stop=stop:=(rfl)
def Mv (t:TypeId) (x y:Operand):vcB P w0 st md ⟨d, .makeSlice t x y,ty,ps,af,g⟩ f L go stop=stop:=(rfl)
def Vh (x:Operand) (a:Array Operand) (t:Array TypeId):vcB P w0 st md ⟨d, .call ⟨.value x,a,t⟩,ty,ps,af,g⟩ f L go stop=stop:=(rfl)
def RI (a:Array Operand) (t:Array TypeId):vcB P w0 st md ⟨d, .call ⟨.builtin .append,a,t⟩,ty,ps,af,g⟩ f L go stop=stop:=(rfl)
def KC_ (a:Array Operand) (t:Array TypeId):vcB P w0 st md ⟨d, .call ⟨.builtin .unsafeString,a,t⟩,ty,ps,af,g⟩ f L go stop=stop:=(rfl)
def QI_ (a:Array Operand) (t:Array TypeId):vcB P w0 st md ⟨d, .call ⟨.builtin .unsafeSliceData,a,t⟩,ty,ps,af,g⟩ f L go stop=stop:=(rfl)
def WX (a:Array Operand) (t:Array TypeId):vcB P w0 st md ⟨d, .call ⟨.builtin .copy,a,t⟩,ty,ps,af,g⟩ f L go stop=stop:=(rfl)
def Qk (a:Array Operand) (t:Array TypeId):vcB P w0 st md ⟨d, .call ⟨.builtin .delete,a,t⟩,ty,ps,af,g⟩ f L go stop=stop:=(rfl)
def V1 (a:Array Operand) (t:Array TypeId):vcB P w0 st md ⟨d, .call ⟨.builtin .clear,a,t⟩,ty,ps,af,g⟩ f L go stop=stop:=(rfl)
def YX (a:Array Operand) (t:Array TypeId):vcB P w0 st md ⟨d, .call ⟨.builtin .max,a,t⟩,ty,ps,af,g⟩ f L go stop=stop:=(rfl)
def YL (a:Array Operand) (t:Array TypeId):vcB P w0 st md ⟨d, .call ⟨.builtin .min,a,t⟩,ty,ps,af,g⟩ f L go stop=stop:=(rfl)
def OV (t:TypeId) (x:Option Operand):vcB P w0 st md ⟨d, .makeMap t x,ty,ps,af,g⟩ f L go stop=stop:=(rfl)
def SE (t:TypeId) (x y:Operand) (c:Bool):vcB P w0 st md ⟨d, .lookup t x y c,ty,ps,af,g⟩ f L go stop=stop:=(rfl)
def Mp (t:TypeId) (m x y:Operand):vcB P w0 st md ⟨d, .mapUpdate t m x y,ty,ps,af,g⟩ f L go stop=stop:=(rfl)
def Up (t:TypeId) (x:Operand):vcB P w0 st md ⟨d, .range t x,ty,ps,af,g⟩ f L go stop=stop:=(rfl)
def Vs (x:Operand) (b:Bool):vcB P w0 st md ⟨d, .next x b,ty,ps,af,g⟩ f L go stop=stop:=(rfl)
def Qe (t:TypeId) (m x y:Operand):vcB P w0 st md ⟨d, .insert t m x y,ty,ps,af,g⟩ f L go stop=stop:=(rfl)
def XK_ (t:TypeId) (x:Operand):vcB P w0 st md ⟨d, .makeInterface t x,ty,ps,af,g⟩ f L go stop=stop:=(rfl)
def O4 (t:TypeId) (m x:Operand):vcB P w0 st md ⟨d, .mapEntry t m x,ty,ps,af,g⟩ f L go stop=stop:=(rfl)
def MC (t:TypeId) (m x y:Operand):vcB P w0 st md ⟨d, .entryStore t m x y,ty,ps,af,g⟩ f L go stop=stop:=(rfl)
def Tx (x:Operand):vcB P w0 st md ⟨d, .entry x,ty,ps,af,g⟩ f L go stop=stop:=(rfl)
end
end Go.Sx
end
section
namespace Go.Sx
open Go
def resV (P:Program) (w0:World) (L:aB) (f:Fr):ResultVar→Option Value
 | .tmp t=>some (eT f t)
 | .cell a t=>uT (aK P t) w0 L (eT f a)
def sq:Option Value→Option (List Value)→Option (List Value)
 |some v,some vs=>some (v::vs)
 |_,_=>none
def mg (P:Program) (w0:World) (L:aB) (f:Fr):List ResultVar→Option (List Value)
 | []=>some []
 |r::rs=>sq (resV P w0 L f r) (mg P w0 L f rs)
def Ih (P:Program) (w0:World) (L:aB) (f:Fr):mg P w0 L f []=some []:=(rfl)
def JO (P:Program) (w0:World) (L:aB) (f:Fr) (r:ResultVar) (rs:List ResultVar):mg P w0 L f (r::rs)=sq (resV P w0 L f r) (mg P w0 L f rs):=(rfl)
def JA (v:Value) (vs:List Value):sq (some v) (some vs)=some (v::vs):=(rfl)
def Il (P:Program) (w0:World) (L:aB) (f:Fr) (t:Tmp):resV P w0 L f (.tmp t)=some (eT f t):=(rfl)
def U8 (P:Program) (w0:World) (L:aB) (f:Fr) (a:Tmp) (t:TypeId):resV P w0 L f (.cell a t)=uT (aK P t) w0 L (eT f a):=(rfl)
def bv:List Value→Value
 | [v]=>v
 |vs=> .tuple vs.toArray
section
variable {P:Program} {w0 w:World} {L:aB} {f:Fr}
def resS (f:Fr) (r:ResultVar):Sem Value:=
 match r with
 | .tmp t=>pure ((act f).tmps.getD t undef)
 | .cell a t=>do loadVar t (←asAddr ((act f).tmps.getD a undef))
def V_ {r:ResultVar} {v:Value} (hw:Hp w0 L w) (h:resV P w0 L f r=some v): (resS f r).run P w= .ok v w:=by
 cases r with
 |tmp t=>simp only[resV,Option.some.injEq] at h;subst h;simp only[resS,act,sC];rfl
 |cell a t=>
  simp only[resV] at h
  unfold uT at h
  split at h
  ·rename_i b off hx
   simp only[resS,act,sC,hx,asAddr,Sem.run_bind,Sem.run_pure,Result.andThen_ok,WJ_ hw h]
  cases h
theorem Cp: ∀ (rs:List ResultVar) (vs:List Value),Hp w0 L w→mg P w0 L f rs=some vs→(rs.mapM (resS f)).run P w= .ok vs w
 | [],vs,_,h=>by simp only[mg,Option.some.injEq] at h;subst h;rfl
 |r::rs,vs,hw,h=>by
  unfold mg sq at h
  split at h
  ·rename_i v vs' h1 h2
   simp only[Option.some.injEq] at h;subst h
   rw[List.mapM_cons,Sem.run_bind,V_ hw h1]
   simp only[Result.andThen_ok]
   rw[Sem.run_bind,Cp rs vs' hw h2]
   rfl
  cases h
def Vj_ {fn:Func} {rs:List ResultVar} {vs:List Value} (hr:fn.results=rs.toArray) (hw:Hp w0 L w) (h:mg P w0 L f rs=some vs): (results fn (act f).tmps).run P w= .ok (bv vs) w:=by
 unfold results
 rw[hr]
 have e: (Array.mapM (m:=Sem) (resS f) rs.toArray).run P w= .ok vs.toArray w:=by
  rw[List.mapM_toArray,Sem.run_map,Cp rs vs hw h];rfl
 rw[Sem.run_bind]
 show Result.andThen ((Array.mapM (m:=Sem) (resS f) rs.toArray).run P w) (fun a w'=>(pure (if h:a.size=1 then a[0] else Value.tuple a):Sem Value).run P w')=_
 rw[e]
 cases vs with
 |nil=>rfl
 |cons v r=>cases r<;>rfl
end
def Rets (P:Program) (k:FuncId) (args:Array Value) (w:World) (S:Value→aB→Prop):Prop:=
 Calls P k args w fun e w'=> ∃v D,e= .returned v∧Hp w D w'∧S v D
theorem Rets.mono {P:Program} {k:FuncId} {args:Array Value} {w:World} {S S':Value→aB→Prop} (h:Rets P k args w S) (hs: ∀v D,S v D→S' v D):Rets P k args w S':=
 Calls.mono h fun _ _ ⟨v,D,he,hp,hS⟩=>⟨v,D,he,hp,hs _ _ hS⟩
theorem Cw.own {P:Program} {w0:World} {c:Code} {f:Fr} {L:aB} {K:cK} {b:Nat} {o:Obj} (hb:w0.heap[b]? =some o) (hn:b∉keys L) (h:Cw P w0 c f (L++ [(b,o)]) K):Cw P w0 c f L K:=
 fun w hw=>h w (hw.own hb hn)
def retK (P:Program) (w0:World) (rs:List ResultVar) (S:Value→aB→Prop):cK
 | .normal,f,L=> ∃vs,mg P w0 L f rs=some vs∧S (bv vs) L
 | .ret,f,L=> ∃vs,mg P w0 L f rs=some vs∧S (bv vs) L
 |_,_,_=>False
def Rets.enter {P:Program} {k:FuncId} {fn:Func} {c:Code} {rs:List ResultVar} {args:Array Value} {w:World} {S:Value→aB→Prop} {n:Nat}
  (hf:P.funcs[k]? =some fn) (hb:fn.body=some c) (hr:fn.results=rs.toArray) (hn:fn.ntmps=n)
  (h:Cw P w c (args.toList++List.replicate (n - args.size) undef) [] (retK P w rs S)):Rets P k args w S:=by
 refine calls_of_wp hf hb ?_
 have e: ({tmps:=args++Array.replicate (fn.ntmps - args.size) undef,defers:= []}:Act)=act (args.toList++List.replicate (n - args.size) undef):=by
  rw[hn];simp only[act];congr 1;apply Array.ext';simp
 rw[e]
 refine wp_mono (h w (Hp.refl w)) ?_
 rintro e a w' ⟨hd,L,hp,hk⟩
 have ha:=vo hd
 cases e with
 |normal=>
  obtain⟨vs,h1,h2⟩:=hk
  exact⟨hd,bv vs,by rw[ha];exact Vj_ hr hp h1,bv vs,L,rfl,hp,h2⟩
 |ret=>
  obtain⟨vs,h1,h2⟩:=hk
  exact⟨hd,bv vs,by rw[ha];exact Vj_ hr hp h1,bv vs,L,rfl,hp,h2⟩
 |exit i=>exact hk.elim
 |goto i=>exact hk.elim
 |panic c=>exact hk.elim
 |outgrown=>exact hk.elim
def New (n:Nat):aB→Prop
 | []=>True
 | (b,_)::r=>n≤b∧New n r
def New.le {n:Nat} {L:aB} (h:New n L): ∀b,b∈keys L→n≤b:=by
 induction L with
 |nil=>intro b hb;cases hb
 |cons p r ih=>
  obtain⟨c,o⟩:=p
  intro b hb
  rcases List.mem_cons.1 hb with hb|hb
  ·rw[hb];exact h.1
  exact ih h.2 b hb
def Hp.garbage {w w':World} {D:aB} (h:Hp w D w') (hn:New w.heap.size D):Hp w [] w':=
 h.drop (fun _ hp=>by cases hp) List.nodup_nil (fun p hp aC _=>by
  have:=hn.le p.1 (List.mem_map.2 ⟨p,hp,rfl⟩);omega)
def retV (P:Program) (w0:World) (rs:List ResultVar) (S:Value→Prop):cK
 | .normal,f,L=> ∃vs,mg P w0 L f rs=some vs∧New w0.heap.size L∧S (bv vs)
 | .ret,f,L=> ∃vs,mg P w0 L f rs=some vs∧New w0.heap.size L∧S (bv vs)
 |_,_,_=>False
def Rets.enterV {P:Program} {k:FuncId} {fn:Func} {c:Code} {rs:List ResultVar} {args:Array Value} {w:World} {S:Value→Prop} {n:Nat}
  (hf:P.funcs[k]? =some fn) (hb:fn.body=some c) (hr:fn.results=rs.toArray) (hn:fn.ntmps=n)
  (h:Cw P w c (args.toList++List.replicate (n - args.size) undef) [] (retV P w rs S)):Rets P k args w (fun v D=>S v∧D= []):=by
 have:=Rets.enter (S:=fun v D=>New w.heap.size D∧S v) hf hb hr hn (h.mono (by
  intro e f L hk
  cases e<;>first
   |exact hk
   |exact hk.elim))
 refine Calls.mono this ?_
 rintro e w' ⟨v,D,he,hp,hn,hS⟩
 exact⟨v,[],he,hp.garbage hn,hS,rfl⟩
def retM (P:Program) (w0:World) (rs:List ResultVar) (b:Nat) (S:Value→Obj→Prop):cK
 | .normal,f,L=> ∃vs o N,mg P w0 L f rs=some vs∧L=(b,o)::N∧New w0.heap.size N∧S (bv vs) o
 | .ret,f,L=> ∃vs o N,mg P w0 L f rs=some vs∧L=(b,o)::N∧New w0.heap.size N∧S (bv vs) o
 |_,_,_=>False
def Rets.enterM {P:Program} {k:FuncId} {fn:Func} {c:Code} {rs:List ResultVar} {args:Array Value} {w:World} {S:Value→Obj→Prop} {n b:Nat} {o:Obj}
  (hf:P.funcs[k]? =some fn) (hb:fn.body=some c) (hr:fn.results=rs.toArray) (hn:fn.ntmps=n) (ho:w.heap[b]? =some o)
  (h:Cw P w c (args.toList++List.replicate (n - args.size) undef) [(b,o)] (retM P w rs b S)):Rets P k args w (fun v D=> ∃o,D= [(b,o)]∧S v o):=by
 have:=Rets.enter (S:=fun v D=> ∃o N,D=(b,o)::N∧New w.heap.size N∧S v o) hf hb hr hn
  (Cw.own ho (by simp[keys]) (h.mono (by
   intro e f L hk
   cases e with
   |normal=>obtain⟨vs,o,N,h1,h2,h3,h4⟩:=hk;exact⟨vs,h1,o,N,h2,h3,h4⟩
   |ret=>obtain⟨vs,o,N,h1,h2,h3,h4⟩:=hk;exact⟨vs,h1,o,N,h2,h3,h4⟩
   |_=>exact hk.elim)))
 refine Calls.mono this ?_
 rintro e w' ⟨v,D,he,hp,o',N,rfl,hN,hS⟩
 have fE:=(Array.getElem?_eq_some_iff.1 ho).1
 refine⟨v,[(b,o')],he,hp.drop (fun p hp=> ?_) (by simp[keys]) (fun p hp aC hnk=> ?_),o',rfl,hS⟩
 ·simp only[List.mem_singleton] at hp;subst hp;exact aa
 rcases List.mem_cons.1 hp with h|h
 ·exfalso;apply hnk;rw[h];simp[keys]
 have:=hN.le p.1 (List.mem_map.2 ⟨p,h,rfl⟩);omega
def eP:aB→Nat→Prop
 | [],_=>True
 | (b,_)::r,n=>b<n∧eP r n
def iF {L:aB} {n:Nat} (h: ∀b,b∈keys L→b<n):eP L n:=by
 induction L with
 |nil=>trivial
 |cons p r ih=>
  obtain⟨b,o⟩:=p
  exact⟨h b aa,ih fun c hc=>h c (av _ hc)⟩
def Mrg (w0:World) (L:aB) (B:Nat) (D L':aB):Prop:= ∀w w',w.heap.size=B→Hp w0 L w→Hp w D w'→Hp w0 L' w'
def Mrg.nil {w0:World} {L:aB} {B:Nat}:Mrg w0 L B [] L:=fun _ _ _ h k=>h.trans_nil k
def Hp.same {w0 w:World} {L M:aB} (h:Hp w0 L w) (hs: ∀p,p∈M↔p∈L) (hn: (keys M).Nodup):Hp w0 M w:=by
 have hk: ∀b,b∈keys M↔b∈keys L:=fun b=>by
  constructor<;>intro hb<;>obtain⟨p,hp,rfl⟩:=List.mem_map.1 hb
  ·exact List.mem_map.2 ⟨p,(hs p).1 hp,rfl⟩
  exact List.mem_map.2 ⟨p,(hs p).2 hp,rfl⟩
 exact⟨fun b o hm=>h.has b o ((hs _).1 hm),hn,fun b hb hm=>h.old b hb (fun fG=>hm ((hk b).2 fG)),h.size,h.tape,h.os,h.output⟩
def IN {L D:aB} (h: ∀b,b∈keys L→b∉keys D):L.filter (fun p=> !(keys D).contains p.1)=L:=by
 apply List.filter_eq_self.2
 intro p hp
 have:=h p.1 (List.mem_map.2 ⟨p,hp,rfl⟩)
 simpa using this
def Mrg.fresh {w0:World} {L D:aB} {B:Nat} (hD: ∀b,b∈keys D→B≤b):Mrg w0 L B D (L++D):=by
 intro w w' hB h k
 have:=h.trans k
 rwa [IN (fun b hb hm=>by have:=h.lt hb;have:=hD b hm;omega)] at this
def Mrg.set {w0:World} {L:aB} {B b:Nat} {o:Obj} (hb:b∈keys L):Mrg w0 L B [(b,o)] (setB L b o):=by
 intro w w' hB h k
 have ht:=h.trans k
 refine ht.same (fun p=> ?_) (by rw[rB];exact h.nodup)
 obtain⟨c,x⟩:=p
 simp only[List.mem_append,List.mem_filter,keys,List.map_cons,List.map_nil,List.contains_eq_mem,List.mem_singleton,Prod.mk.injEq,Bool.not_eq_true',decide_eq_false_iff_not]
 constructor
 ·intro hm
  rcases Dn h.nodup hm with⟨h1,h2⟩ | ⟨h1,h2⟩
  ·exact .inr ⟨h1,h2⟩
  exact .inl ⟨h2,h1⟩
 rintro(⟨h1,h2⟩ | ⟨rfl,rfl⟩)
 ·have: ∀ (L:aB),(c,x)∈L→c≠b→(c,x)∈setB L b o:=by
   intro L
   induction L with
   |nil=>intro hm _;cases hm
   |cons q r ih=>
    obtain⟨e,y⟩:=q
    intro hm aU
    unfold setB
    split
    ·rename_i he
     rcases List.mem_cons.1 hm with hm|hm
     ·simp only[Prod.mk.injEq] at hm;exact absurd (hm.1.trans he) aU
     exact av _ hm
    rcases List.mem_cons.1 hm with hm|hm
    ·rw[hm];exact aa
    exact av _ (ih hm aU)
  exact this L h1 h2
 have: ∀ (L:aB),c∈keys L→(c,x)∈setB L c x:=by
  intro L
  induction L with
  |nil=>intro hm;cases hm
  |cons q r ih=>
   obtain⟨e,y⟩:=q
   intro hm
   unfold setB
   split
   ·rename_i he;subst he;exact aa
   rename_i he
   rcases List.mem_cons.1 hm with hm|hm
   ·exact absurd hm.symm he
   exact av _ (ih hm)
 exact this L hb
section
variable {P:Program} {w0:World} {f:Fr} {L:aB} {N:Fr→aB→Prop} {ops:Array Oper} {rest:List Oper} {md:Md}
 {d:Option Tmp} {ty:TypeId} {ps:String} {af:Array Edge} {g:Option (Nat×Bool)}
def D_ {x:Operand} {args:Array Operand} {ts:Array TypeId} {k:FuncId} {fst cap:Array Value} (hx:ev f x= .func (.func k) fst cap)
  (hk: ∀a w,(callFunc k a).run P w= .ok (.enter k a) w) (w:World):
  (execOp (ev f) ⟨d, .call ⟨.value x,args,ts⟩,ty,ps,af,g⟩).run P w= .ok (.enter k (fst++args.map (ev f)++cap)) w:=by
 simp only[execOp,resolve,hx,Deferred.ofValue,Sem.run_bind,Sem.run_pure,Result.andThen_ok,invoke,hk]
theorem Ow.call {x:Operand} {args:Array Operand} {ts:Array TypeId} {k:FuncId} {fst cap:Array Value} {S:Nat→Value→aB→Prop} {md':Md} (he:md.turn=some md')
  (hs:a_ ops f ⟨d, .call ⟨.value x,args,ts⟩,ty,ps,af,g⟩=false) (hx:ev f x= .func (.func k) fst cap)
  (hk: ∀a w,(callFunc k a).run P w= .ok (.enter k a) w) (hc: ∀w,Hp w0 L w→Rets P k (fst++args.map (ev f)++cap) w (S w.heap.size))
  (hn: ∀B v D,eP L B→w0.heap.size≤B→S B v D→ ∃L',Mrg w0 L B D L'∧Ow P w0 ops md' rest (aX f d v) L' N):
  Ow P w0 ops md (⟨d, .call ⟨.value x,args,ts⟩,ty,ps,af,g⟩::rest) f L N:=by
 refine Ow.step he rfl hs fun w hw=> .inr (.inr ⟨k,_,w,D_ hx hk w, ?_⟩)
 refine Calls.mono (hc w hw) ?_
 rintro e w' ⟨v,D,rfl,hp,hS⟩
 obtain⟨L',hm,hO⟩:=hn w.heap.size v D (iF fun b hb=>hw.lt hb) hw.size hS
 exact⟨v,L',rfl,hm w w' rfl hw hp,hO⟩
def Ow.callV {x:Operand} {args:Array Operand} {ts:Array TypeId} {k:FuncId} {fst cap:Array Value} {v:Value}
  (hs:a_ ops f ⟨d, .call ⟨.value x,args,ts⟩,ty,ps,af,g⟩=false) (hx:ev f x= .func (.func k) fst cap)
  (hk: ∀a w,(callFunc k a).run P w= .ok (.enter k a) w) (hc: ∀w,Hp w0 L w→Rets P k (fst++args.map (ev f)++cap) w (fun v' D=>v'=v∧D= []))
  (hn:Ow P w0 ops md.next rest (aX f d v) L N):
  Ow P w0 ops md (⟨d, .call ⟨.value x,args,ts⟩,ty,ps,af,g⟩::rest) f L N:=by
 refine Ow.calm rfl rfl hs (fun w hw=> .inr (.inr ⟨k,_,w,D_ hx hk w, ?_⟩)) hn
 refine Calls.mono (hc w hw) ?_
 rintro e w' ⟨v',D,rfl,hp,rfl,rfl⟩
 exact⟨_,_,rfl,hw.trans_nil hp,rfl,rfl⟩
def Ow.callF {l:List Operand} {ts:Array TypeId} {k:FuncId} {S:Nat→Value→aB→Prop} {md':Md} (he:md.turn=some md')
  (hs:a_ ops f ⟨d, .call ⟨.value (.func k),l.toArray,ts⟩,ty,ps,af,g⟩=false)
  (hk: ∀a w,(callFunc k a).run P w= .ok (.enter k a) w) (hc: ∀w,Hp w0 L w→Rets P k (l.map (ev f)).toArray w (S w.heap.size))
  (hn: ∀B v D,eP L B→w0.heap.size≤B→S B v D→ ∃L',Mrg w0 L B D L'∧Ow P w0 ops md' rest (aX f d v) L' N):
  Ow P w0 ops md (⟨d, .call ⟨.value (.func k),l.toArray,ts⟩,ty,ps,af,g⟩::rest) f L N:=
 Ow.call he hs rfl hk (fun w hw=>by simpa using hc w hw) hn
def Ow.callFV {l:List Operand} {ts:Array TypeId} {k:FuncId} {v:Value}
  (hs:a_ ops f ⟨d, .call ⟨.value (.func k),l.toArray,ts⟩,ty,ps,af,g⟩=false)
  (hk: ∀a w,(callFunc k a).run P w= .ok (.enter k a) w) (hc: ∀w,Hp w0 L w→Rets P k (l.map (ev f)).toArray w (fun v' D=>v'=v∧D= []))
  (hn:Ow P w0 ops md.next rest (aX f d v) L N):
  Ow P w0 ops md (⟨d, .call ⟨.value (.func k),l.toArray,ts⟩,ty,ps,af,g⟩::rest) f L N:=
 Ow.callV hs rfl hk (fun w hw=>by simpa using hc w hw) hn
def au (P:Program) (t:TypeId):Option Value:=(P.info? t).bind (·.zero)
def uD {t:TypeId} {z:Value} (h:au P t=some z) (w:World): (zeroValue t).run P w= .ok z w:=by
 unfold au at h
 cases hi:P.info? t with
 |none=>rw[hi] at h;cases h
 |some i=>
  rw[hi] at h
  simp only[Option.bind_some] at h
  simp only[zeroValue,Sem.run_bind,typeInfo,run_program,Result.andThen_ok,hi,Sem.run_pure,h]
theorem Ow.alloc {t:TypeId} {z:Value} {md':Md} (he:md.turn=some md') (hs:a_ ops f ⟨d, .alloc t,ty,ps,af,g⟩=false) (hz:au P t=some z)
  (hn: ∀b,eP L b→w0.heap.size≤b→Ow P w0 ops md' rest (aX f d (vp b 0)) (L++ [(b, .cells z.cells t)]) N):
  Ow P w0 ops md (⟨d, .alloc t,ty,ps,af,g⟩::rest) f L N:=by
 refine Ow.step he rfl hs fun w hw=> .inl ⟨vp w.heap.size 0,w.alloc (.cells z.cells t),_, ?_,hw.alloc _,hn _ (iF fun b hb=>hw.lt hb) hw.size⟩
 simp only[execOp,Instr.alloc,Sem.run_bind,uD hz w,Result.andThen_ok]
 rfl
theorem Ow.box {t:TypeId} {x:Operand} {md':Md} (he:md.turn=some md') (hs:a_ ops f ⟨d, .box t x,ty,ps,af,g⟩=false)
  (hn: ∀b,eP L b→w0.heap.size≤b→Ow P w0 ops md' rest (aX f d (vp b 0)) (L++ [(b, .cells (ev f x).cells t)]) N):
  Ow P w0 ops md (⟨d, .box t x,ty,ps,af,g⟩::rest) f L N:=by
 refine Ow.step he rfl hs fun w hw=> .inl ⟨vp w.heap.size 0,w.alloc (.cells (ev f x).cells t),_, ?_,hw.alloc _,hn _ (iF fun b hb=>hw.lt hb) hw.size⟩
 simp only[execOp,Instr.box,Sem.run_bind,Result.andThen_ok]
 rfl
def d8 (P:Program) (t:TypeId):Option (List (Nat×Nat)):=
 match P.underlying t with
 |some (.struct fs)=>fs.toList.mapM fun f=>(aK P f.type).map fun m=>(f.offset,m.2)
 |some (.array n e)=>(aK P e).map fun m=>(List.range n).map fun i=>(i*m.2,m.2)
 |_=>none
def fillV (pl:List (Nat×Nat)):Array Value→List (Nat×Value)→Option (Array Value)
 |cs,[]=>some cs
 |cs,(i,v)::r=>match pl[i]? with
  |some (off,n)=>if v.cells.size=n∧off+n≤cs.size then fillV pl (dZ cs off v.cells.toList) r else none
  |none=>none
def fI (pl:Option (List (Nat×Nat))) (z:Option Value) (parts:List (Nat×Value)):Option Value:=
 match pl,z with
 |some pl,some (.agg cs)=>(fillV pl cs parts).map .agg
 |_,_=>none
theorem JF: ∀ (vs:List Value) (off j:Nat) (cs:Array Value),(vs.zipIdx j).foldl (fun cs (p:Value×Nat)=>cs.setIfInBounds (off+p.2) p.1) cs=dZ cs (off+j) vs
 | [],_,_,_=>rfl
 |v::r,off,j,cs=>by
  simp only[List.zipIdx_cons,List.foldl_cons,dZ]
  rw[JF r off (j+1)]
  rfl
theorem w_ {place:Nat→Option (Nat×Nat)} {pl:List (Nat×Nat)} (hp: ∀i p,pl[i]? =some p→place i=some p): ∀ (parts:List (Nat×Value)) (cs cs':Array Value),fillV pl cs parts=some cs'→Instr.fill place cs parts=some cs'
 | [],_,_,h=>h
 | (i,v)::r,cs,cs',h=>by
  unfold fillV at h
  split at h
  ·rename_i off n hi
   split at h
   ·rename_i hc
    unfold Instr.fill
    rw[hp i _ hi]
    simp only
    have h1: (decide (v.cells.size≠n) ||decide (off+v.cells.size>cs.size))=false:=by
     simp only[Bool.or_eq_false_iff,decide_eq_false_iff_not];omega
    have uV: ¬ ((decide (v.cells.size≠n) ||decide (off+v.cells.size>cs.size))=true):=by rw[h1];simp
    rw[if_neg uV]
    have e: (v.cells.zipIdx.foldl (fun cs (x:Value×Nat)=>match x with| (c,j)=>cs.setIfInBounds (off+j) c) cs)=dZ cs off v.cells.toList:=by
     have:=JF v.cells.toList off 0 cs
     rw[←Array.foldl_toList,Array.toList_zipIdx]
     simpa using this
    rw[e]
    exact w_ hp r _ _ h
   cases h
  cases h
def PT {fs:List Field} {pl:List (Nat×Nat)} (h:fs.mapM (fun f=>(aK P f.type).map fun m=>(f.offset,m.2))=some pl) (w:World):
  (fs.mapM (fun f=>do pure (f.offset,←sizeOf f.type):Field→Sem (Nat×Nat))).run P w= .ok pl w:=by
 induction fs generalizing pl with
 |nil=>cases h;rfl
 |cons f r ih=>
  simp only[List.mapM_cons,Option.bind_eq_bind,Option.bind_eq_some_iff,Option.map_eq_some_iff] at h
  obtain⟨p,⟨m,hm,rfl⟩,ps,hps,h⟩:=h
  cases h
  rw[List.mapM_cons,Sem.run_bind]
  simp only[Sem.run_bind,gq hm,Result.andThen_ok,Sem.run_pure,ih hps]
def QY {t:TypeId} {parts:Array (Nat×Value)} {v:Value} (h:fI (d8 P t) (au P t) parts.toList=some v) (w:World): (Instr.build t parts).run P w= .ok v w:=by
 unfold fI at h
 split at h
 ·rename_i pl cs fy hz
  cases hf:fillV pl cs parts.toList with
  |none=>rw[hf] at h;cases h
  |some cs'=>
   rw[hf] at h
   cases h
   unfold d8 at fy
   split at fy
   ·rename_i fs hu
    have hpl':fs.toList.mapM (fun f=>(aK P f.type).map fun m=>(f.offset,m.2))=some pl:=fy
    have hm:=PT hpl' w
    have fG: (fs.mapM (fun f=>do pure (f.offset,←sizeOf f.type):Field→Sem (Nat×Nat))).run P w= .ok pl.toArray w:=by
     rw[←Array.toArray_toList (xs:=fs),List.mapM_toArray,Sem.run_map,hm];rfl
    have qR:=w_ (place:=(pl.toArray[·]?)) (fun i p hi=>by simpa using hi) _ _ _ hf
    simp only[Instr.build,Sem.run_bind,uD hz w,Result.andThen_ok,run_underlying hu w,Value.cells]
    rw[fG]
    simp only[Result.andThen_ok,qR,Sem.run_pure]
   ·rename_i n e hu
    cases hm:aK P e with
    |none=>rw[hm] at fy;cases fy
    |some m=>
     rw[hm] at fy
     simp only[Option.map_some,Option.some.injEq] at fy
     have qR:=w_ (place:=fun i=>some (i*m.2,m.2)) (fun i p hi=>by
      rw[←fy] at hi
      simp only[List.getElem?_map,Option.map_eq_some_iff] at hi
      obtain⟨j,hj,rfl⟩:=hi
      have:j=i:=by
       have:=List.getElem?_eq_some_iff.1 hj
       obtain⟨h1,h2⟩:=this
       simpa using h2.symm
      rw[this]) _ _ _ hf
     simp only[Instr.build,Sem.run_bind,uD hz w,Result.andThen_ok,run_underlying hu w,Value.cells,gq hm w]
     simp only[qR,Sem.run_pure]
   cases fy
 cases h
theorem Ow.build {t:TypeId} {parts:Array (Nat×Operand)} (v:Value) (hs:a_ ops f ⟨d, .build t parts,ty,ps,af,g⟩=false)
  (hv:fI (d8 P t) (au P t) (parts.toList.map fun p=>(p.1,ev f p.2))=some v)
  (hn:Ow P w0 ops md.next rest (aX f d v) L N):Ow P w0 ops md (⟨d, .build t parts,ty,ps,af,g⟩::rest) f L N:=by
 refine Ow.pureV rfl hs (fun w=> ?_) hn
 have h':fI (d8 P t) (au P t) (parts.map fun(i,x)=>(i,ev f x)).toList=some v:=by
  rw[Array.toList_map];exact hv
 simp only[execOp,Sem.run_bind,QY h' w,Result.andThen_ok]
 rfl
def Ow.val {o:Oper} {v:Value} {md':Md} (he:md.turn=some md') (hp:g7 P o.op=false) (hs:a_ ops f o=false) (hv: ∀w,Hp w0 L w→(execOp (ev f) o).run P w= .ok (.value v) w)
  (hn:Ow P w0 ops md' rest (aX f o.dst v) L N):Ow P w0 ops md (o::rest) f L N:=
 Ow.step he hp hs fun w hw=> .inl ⟨v,w,L,hv w hw,hw,hn⟩
end
def a8 (l:List UInt8):Array Value:=(l.map fun x=>Value.int .u8 (x.toNat:Int)).toArray
def a32 (l:List UInt32):Array Value:=(l.map fun x=>Value.int .u32 (x.toNat:Int)).toArray
end Go.Sx
end
section
namespace Go.Sx
open Go
section
variable {P:Program} {w0:World} {f:Fr} {L:aB} {K:cK} {N:Fr→aB→Prop}
def z6 (h:N f L):kh N K .normal f L:=h
end
def CwC (P:Program) (w0:World) (v:Value) (x y:Code) (f:Fr) (L:aB) (K:cK):Prop:= ∃b,v= .bool b∧(b=true→Cw P w0 x f L K)∧(b=false→Cw P w0 y f L K)
section
variable {P:Program} {w0:World} {f:Fr} {L:aB} {K:cK} {v:Value} {x y:Code}
def CwC.split {b:Bool} (hv:v= .bool b) (ht:b=true→Cw P w0 x f L K) (he:b=false→Cw P w0 y f L K):CwC P w0 v x y f L K:=⟨b,hv,ht,he⟩
def CwC.splitp {p:Prop} [Decidable p] (hv:v= .bool (decide p)) (ht:p→Cw P w0 x f L K) (he: ¬p→Cw P w0 y f L K):CwC P w0 v x y f L K:=
 ⟨_,hv,(fun h=>ht (of_decide_eq_true h)),(fun h=>he (of_decide_eq_false h))⟩
def CwC.tt (hv:v= .bool true) (ht:Cw P w0 x f L K):CwC P w0 v x y f L K:=⟨_,hv,(fun _=>ht),(fun h=>by cases h)⟩
def CwC.ff (hv:v= .bool false) (he:Cw P w0 y f L K):CwC P w0 v x y f L K:=⟨_,hv,(fun h=>by cases h),(fun _=>he)⟩
def CwC.bt {b:Bool} (hv:v= .bool b) (hb:b=true) (ht:Cw P w0 x f L K):CwC P w0 v x y f L K:=CwC.tt (by rw[hv,hb]) ht
def CwC.bf {b:Bool} (hv:v= .bool b) (hb:b=false) (he:Cw P w0 y f L K):CwC P w0 v x y f L K:=CwC.ff (by rw[hv,hb]) he
def CwC.pt {p:Prop} [Decidable p] (hv:v= .bool (decide p)) (hp:p) (ht:Cw P w0 x f L K):CwC P w0 v x y f L K:=CwC.bt hv (aW hp) ht
def CwC.it {a b:Int} (hv:v= .bool (a==b)) (hp:a=b) (ht:Cw P w0 x f L K):CwC P w0 v x y f L K:=CwC.bt hv (beq_iff_eq.2 hp) ht
def CwC.if {a b:Int} (hv:v= .bool (a==b)) (hp: ¬a=b) (he:Cw P w0 y f L K):CwC P w0 v x y f L K:=CwC.bf hv (beq_eq_false_iff_ne.2 hp) he
def CwC.nf {a b:Int} (hv:v= .bool (a !=b)) (hp:a=b) (he:Cw P w0 y f L K):CwC P w0 v x y f L K:=CwC.bf hv (by rw[hp];simp) he
end
def ck (f:Fr) (t:Tmp):ev f (.tmp t)=eT f t:=(rfl)
def WW (f:Fr) (v:Value):ev f (.const v)=v:=(rfl)
def SP (f:Fr) (g:Nat):ev f (.global g)=vp g 0:=(rfl)
def F9 (f:Fr) (k:FuncId):ev f (.func k)= .func (.func k) #[] #[]:=(rfl)
def cV (v:Value) (r:Fr):eT (v::r) 0=v:=(rfl)
def ce (v:Value) (r:Fr) (n:Nat):eT (v::r) (n+1)=eT r n:=(rfl)
def iP (v x:Value) (r:Fr):setF (v::r) 0 x=x::r:=(rfl)
def iQ (v x:Value) (r:Fr) (n:Nat):setF (v::r) (n+1) x=v::setF r n x:=(rfl)
def k7 (f:Fr) (d:Tmp) (v:Value):aX f (some d) v=setF f d v:=(rfl)
def CM (f:Fr) (v:Value):aX f none v=f:=(rfl)
def YS (l:List UInt8):Value.string (ByteArray.mk (List.toArray l))=vs l:=(rfl)
def Yb (P:Program) (op:BinOp) (t:TypeId) (a b:List UInt8):ab P op t (vs a) (vs b)=aD op (vs a) (vs b):=(rfl)
def uU (l:List UInt8): (ByteArray.mk l.toArray).size=l.length:=by simp[ByteArray.size]
def AK (l:List UInt8): (ByteArray.mk l.toArray).toList=l:=by rw[ByteArray.toList_eq]
def V0 (a b:List UInt8) (h:a.length+b.length≤9223372036854775807):aD .add (vs a) (vs b)=some (vs (a++b)):=by
 simp only[aD,vs,strV,uU,h, ↓reduceIte]
 congr 2
def UJ (a b:List UInt8):aD .eql (vs a) (vs b)=some (.bool (a==b)):=by simp only[aD,vs,strV,AK]
def UH (a b:List UInt8):aD .neq (vs a) (vs b)=some (.bool (a !=b)):=by simp only[aD,vs,strV,AK];rfl
def SV (a b:List UInt8):aD .lss (vs a) (vs b)=some (.bool (Op.bytesLess a b)):=by simp only[aD,vs,strV,AK]
def UU (a b:List UInt8):aD .leq (vs a) (vs b)=some (.bool (Op.bytesLess a b||a==b)):=by simp only[aD,vs,strV,AK]
def Ct (a b:List UInt8):aD .gtr (vs a) (vs b)=some (.bool (!(Op.bytesLess a b||a==b))):=by simp only[aD,vs,strV,AK]
def Tt (a b:List UInt8):aD .geq (vs a) (vs b)=some (.bool (!Op.bytesLess a b)):=by simp only[aD,vs,strV,AK]
def Um (l:List UInt8) (k:Int) (h:0≤k∧k<l.length):pd .str (vs l) (some k)=some (v8 (l.getD k.toNat 0)):=by
 have aC:k.toNat<l.length:=by omega
 simp only[pd,vs,h.1, ↓reduceIte]
 have: (ByteArray.mk l.toArray)[k.toNat]? =some l[k.toNat]:=by
  have hs:k.toNat< (ByteArray.mk l.toArray).size:=by rw[uU];exact aC
  rw[ByteArray.getElem?_lt' _ _ hs];rfl
 rw[this]
 simp[v8,List.getD_eq_getElem?_getD,aC]
def YP (l:List UInt8):eb .str (vs l)=some (vi l.length):=by simp only[eb,vs,uU];rfl
def LB (l:List UInt8) (lo hi:Option (Option Int)) (a b:Nat) (h:bndV l.length l.length lo hi=some (a,b)):ii .str (vs l) lo hi=some (vs ((l.take b).drop a)):=by
 simp only[ii,vs,uU,h]
 rw[ByteArray.extract_mk]
 congr 3
 rw[List.drop_take]
def WT (n c:Nat):bndV n c none none=some (0,n):=(rfl)
def FV (n c:Nat) (l:Int) (h:0≤l∧l≤n):bndV n c (some (some l)) none=some (l.toNat,n):=by simp only[bndV,h,and_self, ↓reduceIte]
def Ff (n c:Nat) (l:Int) (h:0≤l∧l≤c):bndV n c none (some (some l))=some (0,l.toNat):=by simp only[bndV,h,and_self, ↓reduceIte]
def DW (n c:Nat) (l k:Int) (h:0≤l∧l≤k∧k≤c):bndV n c (some (some l)) (some (some k))=some (l.toNat,k.toNat):=by simp only[bndV,h,and_self, ↓reduceIte]
def O8 (l:List UInt8) (k:Int) (h:0≤k∧k≤l.length):ii .str (vs l) (some (some k)) none=some (vs (l.drop k.toNat)):=by
 rw[LB l _ _ _ _ (FV _ _ k h),List.take_length]
def NA (l:List UInt8) (k:Int) (h:0≤k∧k≤l.length):ii .str (vs l) none (some (some k))=some (vs (l.take k.toNat)):=by
 rw[LB l _ _ _ _ (Ff _ _ k h),List.drop_zero]
def Ma (l:List UInt8) (j k:Int) (h:0≤j∧j≤k∧k≤l.length):ii .str (vs l) (some (some j)) (some (some k))=some (vs ((l.take k.toNat).drop j.toNat)):=by
 rw[LB l _ _ _ _ (DW _ _ j k h)]
def X6 (w0:World) (L:aB) (k:IntKind) (v:Value):io w0 L (.int k) v=bh k v:=(rfl)
def WM (w0:World) (L:aB) (l:List UInt8):io w0 L .str (vs l)=some (vs l):=(rfl)
def Mq (w0:World) (L:aB) (b off n c:Nat):io w0 L .bytesStr (vsl b off n c)=iI (aT w0 L b) off n:=(rfl)
def SD (l:List UInt8):uQ (l.map fun x=>Value.int .u8 (x.toNat:Int))=some l:=by
 induction l with
 |nil=>rfl
 |cons x r ih=>
  simp only[List.map_cons,uQ,ih,Int.toNat_natCast]
  simp
def XW (l:List UInt8) (E:TypeId) (fz:Nat×Nat) (off n:Nat) (h:off+n≤l.length):iI (some (.cells (a8 l) E fz)) off n=some (vs ((l.drop off).take n)):=by
 have hs:off+n≤ (a8 l).size:=by simpa [a8] using h
 simp only[iI,hs, ↓reduceIte]
 have e: ((a8 l).extract off (off+n)).toList=((l.drop off).take n).map fun x=>Value.int .u8 (x.toNat:Int):=by
  simp[a8,List.map_drop,List.map_take,List.take_drop,List.extract_eq_take_drop]
 rw[e,SD];rfl
def Q9 (off n b o:Nat) (a:Bool) (h:0<n):A7 (some (off,(a,n))) (vp b o)=some (vp b (o+off)):=by
 have: ¬n=0:=by omega
 simp only[A7,vp,this, ↓reduceIte,oV]
def Jw_ (n:Nat) (m:Bool×Nat) (b o:Nat) (k:Int) (h:0≤k∧k<n):nC (.arr n m) (vp b o) (some k)=some (vp b (o+k.toNat*m.2)):=by
 simp only[nC,vp,h,and_self, ↓reduceIte,oV]
def I9 (m:Bool×Nat) (b o n c:Nat) (k:Int) (h:0≤k∧k<n):nC (.sl m) (vsl b o n c) (some k)=some (vp b (o+k.toNat*m.2)):=by
 simp only[nC,vp,vsl,h,and_self, ↓reduceIte,oV]
def axt_ (b o:Nat):nilV (vp b o)=some (vp b o):=(rfl)
def Yl (n:Nat) (m:Bool×Nat) (v:Value):eb (.arr n m) v=some (vi n):=(rfl)
def ZI (m:Bool×Nat) (b o n c:Nat):eb (.sl m) (vsl b o n c)=some (vi n):=(rfl)
def Yv (m:Bool×Nat) (b o n c:Nat):capV (.sl m) (vsl b o n c)=some (vi c):=(rfl)
def Mx (n:Nat) (m:Bool×Nat) (b o:Nat) (h:0<n):ii (.arr n m) (vp b o) none none=some (vsl b o n n):=by
 have: ¬n=0:=by omega
 simp only[ii,vp,WT,this, ↓reduceIte,vsl,oV,Nat.zero_mul,Nat.add_zero,Nat.sub_zero]
def MA (n:Nat) (m:Bool×Nat) (b o:Nat) (j k:Int) (h:0≤j∧j≤k∧k≤n∧j<n):ii (.arr n m) (vp b o) (some (some j)) (some (some k))=some (vsl b (o+j.toNat*m.2) (k.toNat - j.toNat) (n - j.toNat)):=by
 have: ¬n=j.toNat:=by omega
 simp only[ii,vp,DW n n j k ⟨h.1,h.2.1,h.2.2.1⟩,this, ↓reduceIte,vsl,oV]
def fN (L:aB) (b:Nat) (o:Obj):look ((b,o)::L) b=some o:=by simp[look]
def pI (L:aB) (b c:Nat) (o:Obj) (h:b≠c):look ((b,o)::L) c=look L c:=by simp[look,h]
def n5 (L:aB) (b:Nat) (o x:Obj):setB ((b,o)::L) b x=(b,x)::L:=by simp[setB]
def vV (L:aB) (b c:Nat) (o x:Obj) (h:b≠c):setB ((b,o)::L) c x=(b,o)::setB L c x:=by simp[setB,h]
def oH (w0:World) (L:aB) (b:Nat) (o:Obj):aT w0 ((b,o)::L) b=some o:=by simp[aT,look]
def IM (w0:World) (L:aB) (b c:Nat) (o:Obj) (h:b≠c):aT w0 ((b,o)::L) c=aT w0 L c:=by simp[aT,look,h]
def WQ (w0:World) (b:Nat):aT w0 [] b=w0.heap[b]? :=(rfl)
def Wu (m:Option (Bool×Nat)) (w0:World) (L:aB) (b o:Nat):uT m w0 L (vp b o)=aQ m (aT w0 L b) o:=(rfl)
def rZ (cs:Array Value) (E:TypeId) (fz:Nat×Nat) (n:Nat) (h:cs.size=n):aQ (some (true,n)) (some (.cells cs E fz)) 0=some (.agg cs):=by
 subst h
 simp[aQ]
def vZ (l:List UInt8): (a8 l).size=l.length:=by simp[a8]
def J7 (l:List UInt32): (a32 l).size=l.length:=by simp[a32]
def Ek (l:List UInt8) (E:TypeId) (fz:Nat×Nat) (n i:Nat) (h:i<l.length):aQ (some (false,n)) (some (.cells (a8 l) E fz)) i=some (v8 (l.getD i 0)):=by
 simp[aQ,a8,v8,h]
def WP (l:List UInt32) (E:TypeId) (fz:Nat×Nat) (n i:Nat) (h:i<l.length):aQ (some (false,n)) (some (.cells (a32 l) E fz)) i=some (v32 (l.getD i 0)):=by
 simp[aQ,a32,v32,h]
def JK (l:List UInt8) (E:TypeId) (fz:Nat×Nat) (n:Nat) (h:l.length=n):aQ (some (true,n)) (some (.cells (a8 l) E fz)) 0=some (.agg (a8 l)):=rZ _ E fz n (by rw[vZ,h])
def Ql (l:List UInt32) (E:TypeId) (fz:Nat×Nat) (n:Nat) (h:l.length=n):aQ (some (true,n)) (some (.cells (a32 l) E fz)) 0=some (.agg (a32 l)):=rZ _ E fz n (by rw[J7,h])
def ag (cs:Array Value): (Value.agg cs).cells=cs:=(rfl)
def Zv (l:List UInt8): (a8 l).toList.all Value.oneCell'=true:=by simp[a8,Value.oneCell']
def Xl (l:List UInt32): (a32 l).toList.all Value.oneCell'=true:=by simp[a32,Value.oneCell']
def wg (vs:List Value): ∀ (pre mid suf:List Value),mid.length=vs.length→dZ (pre++mid++suf).toArray pre.length vs=(pre++vs++suf).toArray:=by
 induction vs with
 |nil=>
  intro pre mid suf h
  cases mid with
  |nil=>rfl
  |cons _ _=>cases h
 |cons v r ih=>
  intro pre mid suf h
  cases mid with
  |nil=>cases h
  |cons m ms=>
   simp only[List.length_cons,Nat.add_right_cancel_iff] at h
   have:=ih (pre++ [v]) ms suf h
   simp only[dZ]
   have e: ((pre++m::ms++suf).toArray.setIfInBounds pre.length v)=(pre++ [v]++ms++suf).toArray:=by
    simp
   rw[e]
   simpa using this
def EV (cs:Array Value) (vs:List Value) (h:vs.length=cs.size):dZ cs 0 vs=vs.toArray:=by
 have:=wg vs [] cs.toList [] (by simpa using h.symm)
 simpa using this
def Ij (n:Nat) (a:Bool) (cs old:Array Value) (E:TypeId) (h:cs.size=n∧old.size=n) (ho:cs.toList.all Value.oneCell'=true):
  aw (some (a,n)) (some (.cells old E (0,0))) 0 (.agg cs)=some (.cells cs E (0,0)):=by
 obtain⟨h1,h2⟩:=h
 have hp:dZ old 0 cs.toList=cs:=by
  rw[EV _ _ (by rw[Array.length_toList,h1,h2])]
 have hz: (0:Nat)+n≤old.size:=by omega
 simp only[aw,ag,h1,hz,ap,true_or,ho,and_self, ↓reduceIte,hp]
def Be (n:Nat) (a:Bool) (l:List UInt8) (old:Array Value) (E:TypeId) (h:l.length=n∧old.size=n):
  aw (some (a,n)) (some (.cells old E (0,0))) 0 (.agg (a8 l))=some (.cells (a8 l) E (0,0)):=Ij n a _ _ E (by rw[vZ];exact h) (Zv l)
def OO (n:Nat) (a:Bool) (l:List UInt32) (old:Array Value) (E:TypeId) (h:l.length=n∧old.size=n):
  aw (some (a,n)) (some (.cells old E (0,0))) 0 (.agg (a32 l))=some (.cells (a32 l) E (0,0)):=Ij n a _ _ E (by rw[J7];exact h) (Xl l)
def CL (a:Bool) (v:Value) (cs:Array Value) (E:TypeId) (i:Nat) (h:i<cs.size) (hv:v.cells= #[v]) (ho:v.oneCell'=true):
  aw (some (a,1)) (some (.cells cs E (0,0))) i v=some (.cells (cs.setIfInBounds i v) E (0,0)):=by
 have h1:i+1≤cs.size:=h
 simp only[aw,hv,List.size_toArray,List.length_cons,List.length_nil,h1,ap,true_or,List.all_cons,ho,List.all_nil,Bool.and_self,and_self, ↓reduceIte,dZ,Nat.zero_add]
def Zs (l:List UInt8) (i:Nat) (x:UInt8): (a8 l).setIfInBounds i (v8 x)=a8 (l.set i x):=by
 simp[a8,v8,List.map_set]
def Xi (l:List UInt32) (i:Nat) (x:UInt32): (a32 l).setIfInBounds i (v32 x)=a32 (l.set i x):=by
 simp[a32,v32,List.map_set]
def VF (a:Bool) (l:List UInt8) (E:TypeId) (i:Nat) (x:UInt8) (h:i<l.length):aw (some (a,1)) (some (.cells (a8 l) E (0,0))) i (v8 x)=some (.cells (a8 (l.set i x)) E (0,0)):=by
 rw[CL a _ _ E i (by rw[vZ];exact h) rfl rfl,Zs]
def Td (a:Bool) (l:List UInt32) (E:TypeId) (i:Nat) (x:UInt32) (h:i<l.length):aw (some (a,1)) (some (.cells (a32 l) E (0,0))) i (v32 x)=some (.cells (a32 (l.set i x)) E (0,0)):=by
 rw[CL a _ _ E i (by rw[J7];exact h) rfl rfl,Xi]
def upd (L:aB) (b:Nat) (o:Option Obj):Option aB:=match o with|some o=>some (setB L b o) |none=>none
def zH (L:aB) (b:Nat) (o:Obj):upd L b (some o)=some (setB L b o):=(rfl)
def AD (m:Option (Bool×Nat)) (L:aB) (b o:Nat) (v:Value):rY m L (vp b o) v=upd L b (aw m (look L b) o v):=(rfl)
def VI (n:Nat) (l:List UInt8) (i:Int) (h:0≤i∧i<n) (hl:l.length=n):pd (.arr n (false,1)) (.agg (a8 l)) (some i)=some (v8 (l.getD i.toNat 0)):=by
 have:i.toNat<l.length:=by omega
 simp[pd,h,partV,a8,v8,this]
def U_ (n:Nat) (l:List UInt32) (i:Int) (h:0≤i∧i<n) (hl:l.length=n):pd (.arr n (false,1)) (.agg (a32 l)) (some i)=some (v32 (l.getD i.toNat 0)):=by
 have:i.toNat<l.length:=by omega
 simp[pd,h,partV,a32,v32,this]
def Tv (vs:Array Value) (i:Nat):Iy (.tuple vs) i=vs[i]? :=(rfl)
def ZW (a b:Value):jW (.bool true) a b=some a:=(rfl)
def Yz (a b:Value):jW (.bool false) a b=some b:=(rfl)
def N4 (g n:Nat): ((g:Int)+no_index (@OfNat.ofNat Int n _)).toNat=g+ @OfNat.ofNat Nat n _:=by
 show((g:Int)+ (n:Int)).toNat=g+n
 omega
def Mj (g n:Nat): (no_index (@OfNat.ofNat Int n _)* (g:Int)).toNat= @OfNat.ofNat Nat n _*g:=by
 show((n:Int)* (g:Int)).toNat=n*g
 rw[←Int.natCast_mul,Int.toNat_natCast]
def Xu_ (g n m:Nat): (no_index (@OfNat.ofNat Int n _)* (g:Int)+no_index (@OfNat.ofNat Int m _)).toNat= @OfNat.ofNat Nat n _*g+ @OfNat.ofNat Nat m _:=by
 show((n:Int)* (g:Int)+ (m:Int)).toNat=n*g+m
 rw[←Int.natCast_mul,←Int.natCast_add,Int.toNat_natCast]
def Qu (g n:Nat): ((g:Int) - no_index (@OfNat.ofNat Int n _)).toNat=g - @OfNat.ofNat Nat n _:=by
 show((g:Int) - (n:Int)).toNat=g - n
 omega
def Ms (g n:Nat): (no_index (@OfNat.ofNat Int n _) - (g:Int)).toNat= @OfNat.ofNat Nat n _ - g:=by
 show((n:Int) - (g:Int)).toNat=n - g
 omega
def NQ (g n:Nat): ((g:Int) / no_index (@OfNat.ofNat Int n _)).toNat=g / @OfNat.ofNat Nat n _:=by
 show((g:Int) / (n:Int)).toNat=g / n
 rw[←Int.natCast_ediv,Int.toNat_natCast]
def Mk (g n:Nat): ((g:Int)%no_index (@OfNat.ofNat Int n _)).toNat=g% @OfNat.ofNat Nat n _:=by
 show((g:Int)% (n:Int)).toNat=g%n
 rw[←Int.natCast_emod,Int.toNat_natCast]
def MW (g n:Nat): ((g:Int)+ (n:Int)).toNat=g+n:=by omega
def Mi (g n m:Nat): ((g:Int) / no_index (@OfNat.ofNat Int n _)+no_index (@OfNat.ofNat Int m _)).toNat=g / @OfNat.ofNat Nat n _+ @OfNat.ofNat Nat m _:=by
 show((g:Int) / (n:Int)+ (m:Int)).toNat=g / n+m
 rw[←Int.natCast_ediv,←Int.natCast_add,Int.toNat_natCast]
def Mt (g n m:Nat): ((g:Int)%no_index (@OfNat.ofNat Int n _)+no_index (@OfNat.ofNat Int m _)).toNat=g% @OfNat.ofNat Nat n _+ @OfNat.ofNat Nat m _:=by
 show((g:Int)% (n:Int)+ (m:Int)).toNat=g%n+m
 rw[←Int.natCast_emod,←Int.natCast_add,Int.toNat_natCast]
def Wp (a:Int) (c:UInt64) (h:c.toNat<63∧0≤a∧a*2^c.toNat≤9223372036854775807):aD .shl (vi a) (v64 c)=some (vi (a*2^c.toNat)):=Ei a _ _ h
def WI (a:Int) (c:UInt64) (h:c.toNat<64∧0≤a):aD .shr (vi a) (v64 c)=some (vi (a / 2^c.toNat)):=Yj a _ _ h
def or_i (a b:Int) (h:0≤a∧0≤b∧a≤9223372036854775807∧b≤9223372036854775807):aD .or (vi a) (vi b)=some (vi ((a.toNat|||b.toNat:Nat):Int)):=by
 obtain⟨h1,h2,h3,h4⟩:=h
 obtain⟨n,rfl⟩:=Int.eq_ofNat_of_zero_le h1
 obtain⟨m,rfl⟩:=Int.eq_ofNat_of_zero_le h2
 have hn:n<2^63:=by omega
 have hm:m<2^63:=by omega
 have aC:=Nat.or_lt_two_pow hn hm
 simp only[aD,vi,bJ,gJ, ↓reduceIte,Option.map_some,Int.toNat_natCast]
 have e: (BitVec.ofInt (IntKind.bits .i64) (n:Int) |||BitVec.ofInt (IntKind.bits .i64) (m:Int)).toNat=n|||m:=by
  show(BitVec.ofInt 64 (n:Int) |||BitVec.ofInt 64 (m:Int)).toNat=_
  rw[BitVec.toNat_or,BitVec.ofInt_natCast,BitVec.ofInt_natCast,BitVec.toNat_ofNat,BitVec.toNat_ofNat,Nat.mod_eq_of_lt oM,Nat.mod_eq_of_lt oM]
 rw[e,pS _ ⟨by omega,by omega⟩]
def axQ_ (a b:Int) (h:0≤a∧0≤b∧a≤9223372036854775807∧b≤9223372036854775807):aD .and (vi a) (vi b)=some (vi ((a.toNat&&&b.toNat:Nat):Int)):=by
 obtain⟨h1,h2,h3,h4⟩:=h
 obtain⟨n,rfl⟩:=Int.eq_ofNat_of_zero_le h1
 obtain⟨m,rfl⟩:=Int.eq_ofNat_of_zero_le h2
 have aC:n&&&m≤n:=Nat.and_le_left
 simp only[aD,vi,bJ,gJ, ↓reduceIte,Option.map_some,Int.toNat_natCast]
 have e: (BitVec.ofInt (IntKind.bits .i64) (n:Int)&&&BitVec.ofInt (IntKind.bits .i64) (m:Int)).toNat=n&&&m:=by
  show(BitVec.ofInt 64 (n:Int)&&&BitVec.ofInt 64 (m:Int)).toNat=_
  rw[BitVec.toNat_and,BitVec.ofInt_natCast,BitVec.ofInt_natCast,BitVec.toNat_ofNat,BitVec.toNat_ofNat,Nat.mod_eq_of_lt oM,Nat.mod_eq_of_lt oM]
 rw[e,pS _ ⟨by omega,by omega⟩]
def QX (P:Program) (op:BinOp) (t:TypeId) (x:UInt8) (y:UInt8):ab P op t (v8 x) (v8 y)=aD op (v8 x) (v8 y):=(rfl)
def PI (P:Program) (op:BinOp) (t:TypeId) (x:UInt8) (y:UInt16):ab P op t (v8 x) (v16 y)=aD op (v8 x) (v16 y):=(rfl)
def OX (P:Program) (op:BinOp) (t:TypeId) (x:UInt8) (y:UInt32):ab P op t (v8 x) (v32 y)=aD op (v8 x) (v32 y):=(rfl)
def Pw (P:Program) (op:BinOp) (t:TypeId) (x:UInt8) (y:UInt64):ab P op t (v8 x) (v64 y)=aD op (v8 x) (v64 y):=(rfl)
def Rd (P:Program) (op:BinOp) (t:TypeId) (x:UInt8) (y:Int):ab P op t (v8 x) (vi y)=aD op (v8 x) (vi y):=(rfl)
def Ol (P:Program) (op:BinOp) (t:TypeId) (x:UInt16) (y:UInt8):ab P op t (v16 x) (v8 y)=aD op (v16 x) (v8 y):=(rfl)
def OB (P:Program) (op:BinOp) (t:TypeId) (x:UInt16) (y:UInt16):ab P op t (v16 x) (v16 y)=aD op (v16 x) (v16 y):=(rfl)
def OC (P:Program) (op:BinOp) (t:TypeId) (x:UInt16) (y:UInt32):ab P op t (v16 x) (v32 y)=aD op (v16 x) (v32 y):=(rfl)
def NZ (P:Program) (op:BinOp) (t:TypeId) (x:UInt16) (y:UInt64):ab P op t (v16 x) (v64 y)=aD op (v16 x) (v64 y):=(rfl)
def P' (P:Program) (op:BinOp) (t:TypeId) (x:UInt16) (y:Int):ab P op t (v16 x) (vi y)=aD op (v16 x) (vi y):=(rfl)
def PR (P:Program) (op:BinOp) (t:TypeId) (x:UInt32) (y:UInt8):ab P op t (v32 x) (v8 y)=aD op (v32 x) (v8 y):=(rfl)
def Nw (P:Program) (op:BinOp) (t:TypeId) (x:UInt32) (y:UInt16):ab P op t (v32 x) (v16 y)=aD op (v32 x) (v16 y):=(rfl)
def NV (P:Program) (op:BinOp) (t:TypeId) (x:UInt32) (y:UInt32):ab P op t (v32 x) (v32 y)=aD op (v32 x) (v32 y):=(rfl)
def Nu (P:Program) (op:BinOp) (t:TypeId) (x:UInt32) (y:UInt64):ab P op t (v32 x) (v64 y)=aD op (v32 x) (v64 y):=(rfl)
def QN (P:Program) (op:BinOp) (t:TypeId) (x:UInt32) (y:Int):ab P op t (v32 x) (vi y)=aD op (v32 x) (vi y):=(rfl)
def Nz (P:Program) (op:BinOp) (t:TypeId) (x:UInt64) (y:UInt8):ab P op t (v64 x) (v8 y)=aD op (v64 x) (v8 y):=(rfl)
def Nk (P:Program) (op:BinOp) (t:TypeId) (x:UInt64) (y:UInt16):ab P op t (v64 x) (v16 y)=aD op (v64 x) (v16 y):=(rfl)
def Ng (P:Program) (op:BinOp) (t:TypeId) (x:UInt64) (y:UInt32):ab P op t (v64 x) (v32 y)=aD op (v64 x) (v32 y):=(rfl)
def Nb (P:Program) (op:BinOp) (t:TypeId) (x:UInt64) (y:UInt64):ab P op t (v64 x) (v64 y)=aD op (v64 x) (v64 y):=(rfl)
def P9 (P:Program) (op:BinOp) (t:TypeId) (x:UInt64) (y:Int):ab P op t (v64 x) (vi y)=aD op (v64 x) (vi y):=(rfl)
def Rq (P:Program) (op:BinOp) (t:TypeId) (x:Int) (y:UInt8):ab P op t (vi x) (v8 y)=aD op (vi x) (v8 y):=(rfl)
def OP (P:Program) (op:BinOp) (t:TypeId) (x:Int) (y:UInt16):ab P op t (vi x) (v16 y)=aD op (vi x) (v16 y):=(rfl)
def OL (P:Program) (op:BinOp) (t:TypeId) (x:Int) (y:UInt32):ab P op t (vi x) (v32 y)=aD op (vi x) (v32 y):=(rfl)
def PH (P:Program) (op:BinOp) (t:TypeId) (x:Int) (y:UInt64):ab P op t (vi x) (v64 y)=aD op (vi x) (v64 y):=(rfl)
def Qo (P:Program) (op:BinOp) (t:TypeId) (x:Int) (y:Int):ab P op t (vi x) (vi y)=aD op (vi x) (vi y):=(rfl)
def ZG (x:UInt8):ixI (v8 x)=some (x.toNat:Int):=(rfl)
def Zq (x:UInt8):Value.oneCell' (v8 x)=true:=(rfl)
def W7 (x:UInt8): (v8 x).cells= #[v8 x]:=(rfl)
def YC (x:UInt16):ixI (v16 x)=some (x.toNat:Int):=(rfl)
def YM (x:UInt16):Value.oneCell' (v16 x)=true:=(rfl)
def UR (x:UInt16): (v16 x).cells= #[v16 x]:=(rfl)
def YG (x:UInt32):ixI (v32 x)=some (x.toNat:Int):=(rfl)
def YU (x:UInt32):Value.oneCell' (v32 x)=true:=(rfl)
def UW (x:UInt32): (v32 x).cells= #[v32 x]:=(rfl)
def Xg (x:UInt64):ixI (v64 x)=some (x.toNat:Int):=(rfl)
def Y1 (x:UInt64):Value.oneCell' (v64 x)=true:=(rfl)
def Uq (x:UInt64): (v64 x).cells= #[v64 x]:=(rfl)
def Z9 (x:Int):ixI (vi x)=some x:=(rfl)
def Zx (x:Int):Value.oneCell' (vi x)=true:=(rfl)
def VA (x:Int): (vi x).cells= #[vi x]:=(rfl)
end Go.Sx
end
namespace Go.Sx
open Go
section
variable {P:Program} {w0:World} {f:Fr} {L:aB} {N:Fr→aB→Prop} {ops:Array Oper} {rest:List Oper} {md:Md}
 {d:Option Tmp} {ty:TypeId} {ps:String} {af:Array Edge} {g:Option (Nat×Bool)}
def Ow.callM {l:List Operand} {ts:Array TypeId} {k:FuncId} {b:Nat} {v:Value} {o:Obj} {md':Md} (he:md.turn=some md')
  (hs:a_ ops f ⟨d, .call ⟨.value (.func k),l.toArray,ts⟩,ty,ps,af,g⟩=false)
  (hk: ∀a w,(callFunc k a).run P w= .ok (.enter k a) w) (hb:b∈keys L)
  (hc: ∀w,Hp w0 L w→Rets P k (l.map (ev f)).toArray w (fun v' D=> ∃o',D= [(b,o')]∧v'=v∧o'=o))
  (hn:Ow P w0 ops md' rest (aX f d v) (setB L b o) N):
  Ow P w0 ops md (⟨d, .call ⟨.value (.func k),l.toArray,ts⟩,ty,ps,af,g⟩::rest) f L N:=
 Ow.callF (S:=fun _ v' D=> ∃o',D= [(b,o')]∧v'=v∧o'=o) he hs hk hc (by
  rintro _ _ _ - - ⟨_,rfl,rfl,rfl⟩
  exact⟨_,Mrg.set hb,hn⟩)
end
def rF (P:Program) (t:TypeId) (len:Nat) (parts:List (Nat×Value)):Option (TypeId×Array Value):=
 match P.underlying t with
 |some (.slice e)=>match aK P e with
  |some m=>if len*m.2>2^24 then none else
   match(if len*m.2=0 then some #[] else(au P e).map Value.cells) with
   |some zero=>(Instr.fill (fun i=>some (i*m.2,m.2)) ((Array.range (len*m.2)).map (zero[· %zero.size]!)) parts).map fun c=>(e,c)
   |none=>none
  |none=>none
 |_=>none
def W8_ {P:Program} {t e:TypeId} {len:Nat} {parts:Array (Nat×Value)} {cells:Array Value} (h:rF P t len parts.toList=some (e,cells)) (w:World):
  (Instr.buildSlice t len parts).run P w= .ok (vsl w.heap.size 0 len len) (w.alloc (.cells cells e)):=by
 unfold rF at h
 split at h
 ·rename_i el hu
  split at h
  ·rename_i m hm
   split at h
   ·cases h
   rename_i co
   split at h
   ·rename_i zero hz
    cases hf:Instr.fill (fun i=>some (i*m.2,m.2)) ((Array.range (len*m.2)).map (zero[· %zero.size]!)) parts.toList with
    |none=>rw[hf] at h;cases h
    |some c=>
     rw[hf] at h
     cases h
     simp only[Instr.buildSlice,Sem.run_bind,run_underlying hu w,Result.andThen_ok,gq hm w,co,if_false]
     split at hz
     ·rename_i h0
      cases hz
      have e1: ∀ (k:Array Value→World→Result Value),(Sem.run P (pure (#[]:Array Value)) w).andThen k=k #[] w:=fun _=>rfl
      simp only[h0,if_true] at hf ⊢
      rw[Sem.run_bind,e1]
      simp only[hf,Sem.run_bind]
      rfl
     rename_i h0
     cases vL:au P e with
     |none=>rw[vL] at hz;cases hz
     |some z=>
      rw[vL] at hz
      cases hz
      simp only[h0,if_false,Sem.run_bind,uD vL w,Result.andThen_ok,Sem.run_pure,hf]
      rfl
   cases h
  cases h
 cases h
section
variable {P:Program} {w0:World} {f:Fr} {L:aB} {N:Fr→aB→Prop} {ops:Array Oper} {rest:List Oper} {md:Md}
 {d:Option Tmp} {ty:TypeId} {ps:String} {af:Array Edge} {g:Option (Nat×Bool)}
theorem Ow.buildSlice {t e:TypeId} {len:Nat} {parts:Array (Nat×Operand)} (cells:Array Value) {md':Md} (he:md.turn=some md') (hs:a_ ops f ⟨d, .buildSlice t len parts,ty,ps,af,g⟩=false)
  (hv:rF P t len (parts.toList.map fun p=>(p.1,ev f p.2))=some (e,cells))
  (hn: ∀b,eP L b→w0.heap.size≤b→Ow P w0 ops md' rest (aX f d (vsl b 0 len len)) (L++ [(b, .cells cells e)]) N):
  Ow P w0 ops md (⟨d, .buildSlice t len parts,ty,ps,af,g⟩::rest) f L N:=by
 refine Ow.step he rfl hs fun w hw=> .inl ⟨vsl w.heap.size 0 len len,w.alloc (.cells cells e),_, ?_,hw.alloc _,hn _ (iF fun b hb=>hw.lt hb) hw.size⟩
 have h':rF P t len (parts.map fun(i,x)=>(i,ev f x)).toList=some (e,cells):=by
  rw[Array.toList_map];exact hv
 simp only[execOp,Sem.run_bind,W8_ h' w,Result.andThen_ok]
 rfl
end
def PM {f:Nat→Option Bool} {g:Nat→Bool} (is:List Nat) (h: ∀i,i∈is→f i=some (g i)):AT f is=some (is.all g):=by
 induction is with
 |nil=>rfl
 |cons i r ih=>
  unfold AT
  rw[h i aa,List.all_cons]
  cases g i
  ·rfl
  simpa using ih fun j hj=>h j (av _ hj)
def P3 (l l':List UInt8) (n:Nat) (h:l.length=n) (h':l'.length=n): ((List.range n).all fun i=>l.getD i 0==l'.getD i 0)=(l==l'):=by
 rw[Bool.eq_iff_iff,List.all_eq_true,beq_iff_eq]
 constructor
 ·intro ha
  apply List.ext_getElem oM
  intro i h1 h2
  have:=ha i (List.mem_range.2 oM)
  rw[beq_iff_eq,List.getD_eq_getElem?_getD,List.getD_eq_getElem?_getD,List.getElem?_eq_getElem h1,List.getElem?_eq_getElem h2] at this
  exact this
 rintro rfl i _
 simp
def sY {P:Program} {t e:TypeId} {n d:Nat} (hu:P.underlying t=some (.array n e)) (he:P.underlying e=some (.int .u8)) (hm:aK P e=some (false,1)) (l l':List UInt8) (hl:l.length=n) (lS:l'.length=n):
  eqD P (d+2) t (.agg (a8 l)) (.agg (a8 l'))=some (l==l'):=by
 rw[←P3 l l' n hl lS]
 unfold eqD
 rw[hu]
 simp only[hm]
 apply PM
 intro i hi
 have hi:=List.mem_range.1 hi
 have p: ∀ (x:List UInt8),x.length=n→partV (false,1) (a8 x) (i*1)=some (v8 (x.getD i 0)):=by
  intro x hx
  simp[partV,a8,v8,hx,hi]
 simp only[rg,p l hl,p l' lS]
 unfold eqD
 rw[he]
 simp only[v8, ↓reduceIte,Option.some.injEq]
 rw[Bool.eq_iff_iff,beq_iff_eq,beq_iff_eq,←UInt8.toNat_inj]
 omega
def Ew {P:Program} {t e:TypeId} {n:Nat} (hu:P.underlying t=some (.array n e)) (he:P.underlying e=some (.int .u8)) (hm:aK P e=some (false,1)) (hg:P.eqGuardType P.depth t=false) (l l':List UInt8) (hl:l.length=n∧l'.length=n):
  ab P .eql t (.agg (a8 l)) (.agg (a8 l'))=some (.bool (l==l')):=by
 unfold ab eqX
 rw[hg]
 simp[eN,sY (d:=6) hu he hm l l' hl.1 hl.2]
def Dl {P:Program} {t e:TypeId} {n:Nat} (hu:P.underlying t=some (.array n e)) (he:P.underlying e=some (.int .u8)) (hm:aK P e=some (false,1)) (hg:P.eqGuardType P.depth t=false) (l l':List UInt8) (hl:l.length=n∧l'.length=n):
  ab P .neq t (.agg (a8 l)) (.agg (a8 l'))=some (.bool (!(l==l'))):=by
 unfold ab eqX
 rw[hg]
 simp[eN,sY (d:=6) hu he hm l l' hl.1 hl.2]
def tup2_0 (a b:Value): (#[a,b]:Array Value)[0]? =some a:=(rfl)
def tup2_1 (a b:Value): (#[a,b]:Array Value)[1]? =some b:=(rfl)
def tup3_0 (a b c:Value): (#[a,b,c]:Array Value)[0]? =some a:=(rfl)
def tup3_1 (a b c:Value): (#[a,b,c]:Array Value)[1]? =some b:=(rfl)
def tup3_2 (a b c:Value): (#[a,b,c]:Array Value)[2]? =some c:=(rfl)
structure StrS (w:World) (v:Value) (l:List (List UInt8)) (b off:Nat) (arr:Array Value) (E:TypeId) (fz:Nat×Nat):Prop where
 len: ∀m,eb (.sl m) v=some (vi l.length)
 idx: ∀m (k:Nat),k<l.length→nC (.sl m) v (some (k:Int))=some (vp b (off+k*m.2))
 has:0<l.length→w.heap[b]? =some (.cells arr E fz)
 get: ∀k,k<l.length→arr[off+k]? =some (vs (l.getD k []))
def StrS.sl {w:World} {l:List (List UInt8)} {b off n c:Nat} {arr:Array Value} {E:TypeId} {fz:Nat×Nat} (hn:n=l.length)
  (has:w.heap[b]? =some (.cells arr E fz)) (get: ∀k,k<l.length→arr[off+k]? =some (vs (l.getD k []))):StrS w (vsl b off n c) l b off arr E fz:=by
 subst hn
 exact⟨fun _=>rfl,fun m k h=>by rw[I9 _ _ _ _ _ _ oM];simp,fun _=>has,get⟩
theorem StrS.none (w:World) (n c:Nat) (hn:n=0):StrS w (.slice none n c) [] 0 0 #[] 0 (0,0):=by
 subst hn
 exact⟨fun _=>rfl,fun _ _ h=>absurd h (Nat.not_lt_zero _),fun h=>absurd h (Nat.not_lt_zero _),fun _ h=>absurd h (Nat.not_lt_zero _)⟩
theorem StrS.old {w w':World} {v:Value} {l:List (List UInt8)} {b off:Nat} {arr:Array Value} {E:TypeId} {fz:Nat×Nat} {L:aB} (h:StrS w v l b off arr E fz) (hw:Hp w L w') (hb:0<l.length→b∉keys L):StrS w' v l b off arr E fz:=by
 refine⟨h.len,h.idx,fun h0=> ?_,h.get⟩
 rw[hw.old b (Array.getElem?_eq_some_iff.1 (h.has h0)).1 (hb h0)]
 exact h.has h0
def loadV_one (cs:Array Value) (E:TypeId) (fz:Nat×Nat) (n i:Nat):aQ (some (false,n)) (some (.cells cs E fz)) i=cs[i]? :=(rfl)
end Go.Sx
namespace Go.Sx
open Go
def OwK (P:Program) (w0:World) (ops:Array Oper) (n:Nat) (listed:List Bool) (f:Fr) (L:aB) (N:Fr→aB→Prop):Prop:=
 ∀w,Hp w0 L w→wpAny P .any ops (eu w0 N) n listed.toArray (act f) w
section
variable {P:Program} {w0:World} {f:Fr} {L:aB} {N:Fr→aB→Prop} {K:cK} {l:List Oper} {n:Nat} {listed:List Bool}
def Cw.regionK {id:Nat} (m:Nat) (hl:l.length=m) (hm:P.follows .mixedOrders=true) (h:OwK P w0 l.toArray m (List.replicate m false) f L (K .normal)):Cw P w0 (.region id l.toArray true) f L K:=fun w hw=>by
 subst hl
 refine wp_mono (wp_region_any hm ?_) fun _ _ _ h=>ye h
 have:=h _ hw.drew
 simpa using this
def OwK.done {ops:Array Oper} (hr:Region.ready .any ops listed.toArray= []) (h:N f L):OwK P w0 ops n listed f L N:=
 fun w hw=>wpAny_done hr ⟨rfl,rfl,L,hw,by simpa [act] using h⟩ n
def Ap {o:Oper} {a:Act} {next next':Act→World→Prop} {Q Q':Exit→Act→World→Prop} (hn: ∀a w,next a w→next' a w) (hQ: ∀e a w,e≠ .normal→Q e a w→False) {r:Result Next}
  (h:o.upon P a next Q r):o.upon P a next' Q' r:=by
 cases r with
 |ok x w'=>
  cases x<;>simp only[Oper.upon] at h ⊢ <;>
   first
    |exact hn _ _ h
    |exact Calls.mono h (fun e w'' he=>by
      cases e<;>first|exact hn _ _ he|exact(hQ _ _ _ (by simp) he).elim| (obtain⟨a,w,h⟩:=he;exact(hQ _ _ _ (by simp) h).elim))
    |exact Rows.mono h (fun _ _ he=>hn _ _ he)
    |exact h.elim
 |halt x w'=>
  cases x<;>simp only[Oper.upon] at h ⊢ <;>first|exact(hQ _ _ _ (by simp) h).elim|exact h.elim
def Iz {N:Fr→aB→Prop} {e:Exit} {a:Act} {w:World} (he:e≠ .normal) (h:eu w0 N e a w):False:=he h.1
def vf {ops:Array Oper} {k:Nat} {o:Oper} (hk:ops[k]? =some o) {X:Act→World→Prop}
  (h:Ow P w0 ops .seq [o] f L (fun f' L'=> ∀w,Hp w0 L' w→X (act f') w)) {w:World} (hw:Hp w0 L w):wpOp P ops (eu w0 N) k X (act f) w:=by
 have h1:=h w hw
 unfold wpList at h1
 unfold wpOp
 simp only[hk]
 have hX: ∀a w,wpList P ops (eu w0 fun f' L'=> ∀w,Hp w0 L' w→X (act f') w) [] a w→X a w:=by
  intro a w' hx
  obtain⟨-,hd,L',hp,hh⟩:=(show eu w0 _ _ a w' from hx)
  have:=hh w' hp
  obtain⟨t,d⟩:=a
  simp only at hd
  subst hd
  simpa [act] using this
 cases qt:Region.wanted o (yielded ops (act f).tmps) with
 |true=>
  rw[qt] at h1
  simp only[↓reduceIte] at h1 ⊢
  rcases h1 with h1| ⟨-,a,w',h1⟩
  ·exact .inl (Ap hX (fun e a w he h=>Iz he h) h1)
  exact(Iz (by simp) h1).elim
 |false=>
  rw[qt] at h1
  simp only[Bool.false_eq_true, ↓reduceIte] at h1 ⊢
  exact hX _ _ h1
def K7 {ops:Array Oper} {o:Oper} {N N':Fr→aB→Prop} (hN: ∀f L,N f L→N' f L) {w:World} {a:Act} (h:wpList P ops (eu w0 N) [o] a w):wpList P ops (eu w0 N') [o] a w:=by
 have hm: ∀a w,eu w0 N .normal a w→eu w0 N' .normal a w:=fun a w ⟨h1,h2,L',h3,h4⟩=>⟨h1,h2,L',h3,hN _ _ h4⟩
 unfold wpList at h ⊢
 cases qt:Region.wanted o (yielded ops a.tmps) with
 |true=>
  rw[qt] at h
  simp only[↓reduceIte] at h ⊢
  rcases h with h| ⟨-,a,w',h1⟩
  ·exact .inl (Ap (fun a w h=>hm a w h) (fun e a w he h=>Iz he h) h)
  exact(Iz (by simp) h1).elim
 |false=>
  rw[qt] at h
  simp only[Bool.false_eq_true, ↓reduceIte] at h ⊢
  exact hm _ _ h
def pO (l:List Bool) (i:Nat):l.toArray.setIfInBounds i true=(l.set i true).toArray:=by simp
def OwK.one (k:Nat) (o:Oper) (hr:Region.ready .any l.toArray listed.toArray= [k]) (hk:dR l k=some o)
  (h:Ow P w0 l.toArray .seq [o] f L (fun f' L'=>OwK P w0 l.toArray n (listed.set k true) f' L' N)):OwK P w0 l.toArray (n+1) listed f L N:=by
 intro w hw
 refine wpAny_all hr (by simp) ?_
 intro i hi
 simp only[List.mem_singleton] at hi
 subst hi
 rw[pO]
 exact vf (by rw[oL] at hk;simpa using hk) h hw
def OwK.two (i j:Nat) (oi oj:Oper) (hr:Region.ready .any l.toArray listed.toArray= [i,j]) (hi:dR l i=some oi) (hj:dR l j=some oj)
  (h1:Ow P w0 l.toArray .seq [oi] f L (fun f' L'=>OwK P w0 l.toArray n (listed.set i true) f' L' N))
  (h2:Ow P w0 l.toArray .seq [oj] f L (fun f' L'=>OwK P w0 l.toArray n (listed.set j true) f' L' N)):OwK P w0 l.toArray (n+1) listed f L N:=by
 intro w hw
 refine wpAny_all hr (by simp) ?_
 intro k hk
 rw[pO]
 simp only[List.mem_cons,List.not_mem_nil,or_false] at hk
 rcases hk with rfl|rfl
 ·exact vf (by rw[oL] at hi;simpa using hi) h1 hw
 exact vf (by rw[oL] at hj;simpa using hj) h2 hw
def chkK (P:Program) (l:List Oper):List Nat→List Bool→Option (List Bool)
 | [],listed=>some listed
 |k::is,listed=>
  match dR l k with
  |some o=>if(Region.ready .any l.toArray listed.toArray).contains k&&Region.free .any l.toArray listed.toArray k&&g7 P o.op then chkK P l is (listed.set k true) else none
  |none=>none
theorem OwK.runs {k:Md→List Oper→Fr→aB→Prop} (dJ:Region.noSelect l.toArray=true): ∀ (is:List Nat) {listed listed':List Bool} {f:Fr} {L:aB},chkK P l is listed=some listed'→
  (∀md r f' L',k md r f' L'→r= []∧OwK P w0 l.toArray n listed' f' L' N)→vcL P w0 l.toArray false .seq (ga l is) f L k→OwK P w0 l.toArray (is.length+n) listed f L N
 | [],listed,listed',f,L,hc,hk,h=>by
  cases hc
  rw[List.length_nil,Nat.zero_add]
  exact(hk _ _ _ _ h).2
 |i::is,listed,listed',f,L,hc,hk,h=>by
  unfold chkK at hc
  rw[ay] at h
  cases ho:dR l i with
  |none=>rw[ho] at hc;cases hc
  |some o=>
   rw[ho] at hc h
   simp only at hc
   split at hc
   ·rename_i mG
    simp only[Bool.and_eq_true] at mG
    obtain⟨⟨dI,dy⟩,jr⟩:=mG
    rw[az] at h
    have jI:l.toArray[i]? =some o:=by rw[oL] at ho;simpa using ho
    unfold vcL at h
    rw[List.length_cons,show is.length+1+n=(is.length+n)+1 by omega]
    cases hs:a_ l.toArray f o with
    |true=>
     rw[hs] at h
     have eU:Region.wanted o (yielded l.toArray (act f).tmps)=false:=by rw[lH,hs];rfl
     intro w hw
     refine wpAny_take (v:=undef) jI dJ dy dI (fun c a w h=>mb h) (.inr ⟨eU,rfl⟩) ?_
     rw[fi,pO]
     exact OwK.runs dJ is hc hk h w hw
    |false=>
     rw[hs] at h
     have eU:Region.wanted o (yielded l.toArray (act f).tmps)=true:=by rw[lH,hs];rfl
     simp only[ib,vcB] at h
     split at h
     ·have cW:rdOk .seq f o.op=true:=by
       cases o.op<;>rfl
      rw[cW] at h
      simp only at h
      cases hv:j3 P w0 L f o.op with
      |none=>rw[hv] at h;exact absurd (hk _ _ _ _ h).1 (by simp)
      |some v=>
       rw[hv] at h
       intro w hw
       refine wpAny_take (v:=v) jI dJ dy dI (fun c a w h=>mb h) (.inl ⟨eU,fun w=> ?_⟩) ?_
       ·rw[rl];exact pG (Hp.refl w) (A9 jr hv w)
       rw[fi,pO]
       exact OwK.runs dJ is hc hk h w hw
     ·exact absurd (hk _ _ _ _ h).1 (by simp)
     exact absurd (hk _ _ _ _ h).1 (by simp)
   cases hc
def OwK.run (is:List Nat) (listed':List Bool) (n:Nat) {m:Nat} (hm:m=is.length+n) (dJ:Region.noSelect l.toArray=true) (hc:chkK P l is listed=some listed')
  (h: ∀k:Md→List Oper→Fr→aB→Prop,(∀md f L,OwK P w0 l.toArray n listed' f L N→k md [] f L)→nl (ga l is) fun l'=>vcL P w0 l.toArray false .seq l' f L k):OwK P w0 l.toArray m listed f L N:=by
 subst hm
 refine OwK.runs (k:=fun _ r f' L'=>r= []∧OwK P w0 l.toArray n listed' f' L' N) dJ is hc (fun _ _ _ _ h=>h) ?_
 exact h _ fun _ _ _ h=>⟨rfl,h⟩
def Ow.soft {ops:Array Oper} {R is ts:List Nat} {k:Nat} {o:Oper} {rest:List Oper} (hp:g7 P o.op=false) (my:iq o.op=false) (gQ:ts.contains k=false)
  (h:Ow P w0 ops .seq [o] f L (fun f' L'=>(∀b,b∈R→aT w0 L' b=aT w0 L b)∧Ow P w0 ops (.sof R is ts) rest f' L' N)):Ow P w0 ops (.sof R (k::is) ts) (o::rest) f L N:=by
 intro listed hF ht w hw
 obtain⟨k',is',hki,hk,dp,dT,hc⟩:=hF.cons
 cases hki
 have dN:k∉ts:=by simpa using gQ
 have hr:Region.ready .any ops listed= [k]:=by
  rcases hc with hc| ⟨_,_,_,hc| ⟨hc,_⟩⟩
  ·exact hc
  ·rw[hp] at hc;cases hc
  rw[my] at hc;cases hc
 refine⟨fun _=>SR.of hw,(fun h=>by rw[hr] at h;cases h), ?_⟩
 intro i hi
 rw[hr,List.mem_singleton] at hi
 subst hi
 refine vf hk (X:=lg P ops (eu w0 N) ts (SR w0 R L) rest.length (listed.setIfInBounds i true)) ?_ hw
 intro w' aA
 have h1:=h w' aA
 refine K7 ?_ h1
 rintro f' L' ⟨hS,hO⟩ w'' mV
 have e:SR w0 R L=SR w0 R L':=by
  funext v
  unfold SR
  apply propext
  constructor
  ·intro hh b hb o ho;exact hh b hb o (by rw[←hS b hb];exact ho)
  intro hh b hb o ho;exact hh b hb o (by rw[hS b hb];exact ho)
 rw[e]
 exact hO _ dp (qy dN ht) w'' mV
def Cw.regionS {id:Nat} (R is ts:List Nat) (hm:P.follows .mixedOrders=true) (hB:sD P l is ts=true) (hl:is.map (fun i:Nat=>l[i]?)=(ga l is).map some)
  (h:nl (ga l is) fun l'=>Ow P w0 l.toArray (.sof R is ts) l' f L (K .normal)):Cw P w0 (.region id l.toArray true) f L K:=by
 revert hl h
 generalize ga l is=l'
 intro hl h w hw
 simp only[sD,Bool.and_eq_true,beq_iff_eq,List.all_eq_true,decide_eq_true_eq] at hB
 obtain⟨⟨⟨h1,h2⟩,h3⟩,h4⟩:=hB
 have aS:is.length=l'.length:=by have:=congrArg List.length hl;simpa using this
 refine wp_mono (wp_region_any hm ?_) fun _ _ _ h=>ye h
 have hF:Fits P l.toArray ts is l' (Array.replicate l.length false):=⟨aS,fun j=>by
  have:=congrArg (·[j]?) hl
  simp only[List.getElem?_map] at this
  cases hj:is[j]? with
  |none=>
   rw[hj] at this
   simp only[Option.map_none] at this
   cases gD:l'[j]? with
   |none=>rfl
   |some x=>rw[gD] at this;cases this
  |some i=>
   rw[hj] at this
   simp only[Option.map_some] at this
   cases gD:l'[j]? with
   |none=>rw[gD] at this;cases this
   |some x=>
    rw[gD] at this
    simp only[Option.map_some,Option.some.injEq] at this
    simp[this],h1,h4⟩
 have:=(h:Ow P w0 l.toArray (.sof R is ts) l' f L (K .normal)) (Array.replicate l.length false) hF (fun t ht=>by have:=h3 t ht;simp[this]) _ hw.drew
 rw[←aS,h2] at this
 have:=IG _ _ _ _ this
 simpa using this
def FS (P:Program) (l:List Oper) (is ts:List Nat) (listed:List Bool):Bool:=
 Region.noSelect l.toArray&&uI P l.toArray ts is listed.toArray&&ts.any fun t=>listed.toArray.getD t true
def OwK.rest (is ts:List Nat) {m:Nat} (hm:m=is.length) (hB:FS P l is ts listed=true) (hl:is.map (fun i:Nat=>l[i]?)=(ga l is).map some)
  (h:nl (ga l is) fun l'=>Ow P w0 l.toArray (.any is ts) l' f L N):OwK P w0 l.toArray m listed f L N:=by
 subst hm
 revert hl h
 generalize ga l is=l'
 intro hl h w hw
 simp only[FS,Bool.and_eq_true] at hB
 obtain⟨⟨h1,h4⟩,h5⟩:=hB
 have aS:is.length=l'.length:=by have:=congrArg List.length hl;simpa using this
 have hF:Fits P l.toArray ts is l' listed.toArray:=⟨aS,fun j=>by
  have:=congrArg (·[j]?) hl
  simp only[List.getElem?_map] at this
  cases hj:is[j]? with
  |none=>
   rw[hj] at this
   simp only[Option.map_none] at this
   cases gD:l'[j]? with
   |none=>rfl
   |some x=>rw[gD] at this;cases this
  |some i=>
   rw[hj] at this
   simp only[Option.map_some] at this
   cases gD:l'[j]? with
   |none=>rw[gD] at this;cases this
   |some x=>
    rw[gD] at this
    simp only[Option.map_some,Option.some.injEq] at this
    simp[this],h1,h4⟩
 obtain⟨t,ht,mU⟩:=List.any_eq_true.1 h5
 rw[aS]
 exact(h:Ow P w0 l.toArray (.any is ts) l' f L N) listed.toArray hF ⟨t,ht,mU⟩ w hw
end
def StrS.lit {w:World} {b n c:Nat} {E:TypeId} {fz:Nat×Nat} {arr:Array Value} (l:List (List UInt8)) (hn:n=l.length) (ha:arr=(l.map vs).toArray) (has:w.heap[b]? =some (.cells arr E fz)):StrS w (vsl b 0 n c) l b 0 arr E fz:=
 StrS.sl hn has (by intro k hk;rw[ha,Nat.zero_add,List.getElem?_toArray,List.getElem?_map,List.getD_eq_getElem?_getD,List.getElem?_eq_getElem hk];rfl)
end Go.Sx
namespace Go.Sx
open Go
def GB (J:Nat→Act→World→Prop) (Q:Exit→Act→World→Prop):Exit→Act→World→Prop
 | .goto l,a,w=>J l a w
 |e,a,w=>Q e a w
def N_ {P:Program} {a:Act} {w:World} {Q:Exit→Act→World→Prop} {c:Code} (J:Nat→Nat→Act→World→Prop)
  (first:c.wp P (GB (fun l a w=> ∃n,J n l a w) Q) a w)
  (pass: ∀n l a w,J n l a w→ ∃rest,findLabel c l=some rest∧rest.wp P (GB (fun l' a' w'=> ∃n',n'<n∧J n' l' a' w') Q) a w): (Code.scope c).wp P Q a w:=by
 intro b k cs
 have hg: ∀ {l rest},findLabel c l=some rest→gotoIn l (.inScope c::k)=some (.code rest:: .inScope c::k):=by intro l rest hf;simp[gotoIn,hf]
 have key: ∀n l a w,J n l a w→ ∃rest,findLabel c l=some rest∧ ∃e a' w',Q e a' w'∧Arrives P (lone (b.at a (.code rest:: .inScope c::k)) cs w) b k cs e a' w':=by
  intro n
  induction n using Nat.strongRecOn with
  |_ n ih=>
   intro l a w hJ
   obtain⟨rest,hf,hp⟩:=pass n l a w hJ
   refine⟨rest,hf, ?_⟩
   obtain⟨e,a₁,w₁,hq,fr⟩:=hp b (.inScope c::k) cs
   cases e with
   |normal=>exact⟨.normal,a₁,w₁,hq,Steps.trans fr (.one step_inScope)⟩
   |exit id=>exact⟨.exit id,a₁,w₁,hq,fun k' hk=>fr k' (by simp[exitTo,hk])⟩
   |goto l'=>
    obtain⟨n',aC,oz⟩:=hq
    obtain⟨rest',mI,e₂,a₂,w₂,hq₂,harr₂⟩:=ih n' aC l' a₁ w₁ oz
    exact⟨e₂,a₂,w₂,hq₂, .of_steps (fr _ (hg mI)) harr₂⟩
   |ret=>exact⟨_,a₁,w₁,hq,fr⟩
   |panic ch=>exact⟨_,a₁,w₁,hq,fr⟩
   |outgrown=>exact⟨_,a₁,w₁,hq,fr⟩
 obtain⟨e,a₁,w₁,hq,fr⟩:=first b (.inScope c::k) cs
 cases e with
 |normal=>exact⟨.normal,a₁,w₁,hq, .head step_scope (Steps.trans fr (.one step_inScope))⟩
 |exit id=>exact⟨.exit id,a₁,w₁,hq,fun k' hk=> .head step_scope (fr k' (by simp[exitTo,hk]))⟩
 |goto l'=>
  obtain⟨n,oz⟩:=hq
  obtain⟨rest',mI,e₂,a₂,w₂,hq₂,harr₂⟩:=key n l' a₁ w₁ oz
  exact⟨e₂,a₂,w₂,hq₂, .of_steps (.head step_scope (fr _ (hg mI))) harr₂⟩
 |ret=>exact⟨_,a₁,w₁,hq, .of_steps (.one step_scope) fr⟩
 |panic ch=>exact⟨_,a₁,w₁,hq, .of_steps (.one step_scope) fr⟩
 |outgrown=>exact⟨_,a₁,w₁,hq, .of_steps (.one step_scope) fr⟩
def og (A:Nat→Fr→aB→Prop) (K:cK):cK
 | .normal=>K .normal
 | .exit i=>K (.exit i)
 | .goto i=>A i
 | .ret=>K .ret
 | .panic c=>K (.panic c)
 | .outgrown=>K .outgrown
def Jump {G:Type} (lab:G→Nat) (M:List Nat) (S:G→List (Nat×Value)) (H:G→aB) (J B:G→Prop) (f:Fr) (i:Nat) (f':Fr) (L':aB):Prop:=
 ∃g',lab g'=i∧B g'∧J g'∧L'=H g'∧f'=pin (lY (eT f') M 0 f) (S g')
def Jump.mk {G:Type} {lab:G→Nat} {M:List Nat} {S:G→List (Nat×Value)} {H:G→aB} {J B:G→Prop} {f:Fr} {i:Nat} {f':Fr} {L':aB} (g':G) (hl:lab g'=i)
  (hB:B g') (hJ:J g') (hL:L'=H g') (hf:f'=pin (lY (eT f') M 0 f) (S g')):Jump lab M S H J B f i f' L':=⟨g',hl,hB,hJ,hL,hf⟩
section
variable {P:Program} {w0:World} {f:Fr} {L:aB} {K:cK} {A:Nat→Fr→aB→Prop}
def Cw.scopeG {c:Code} {G:Type} (lab:G→Nat) (M:List Nat) (S:G→List (Nat×Value)) (H:G→aB) (J:G→Prop) (μ:G→Nat)
  (first:Cw P w0 c f L (og (Jump lab M S H J (fun _=>True) f) K))
  (pass: ∀ (g:G) (j:Nat→Value),J g→ ∃rest,findLabel c (lab g)=some rest∧Cw P w0 rest (pin (lY j M 0 f) (S g)) (H g) (og (Jump lab M S H J (fun g'=>μ g'<μ g) f) K)):Cw P w0 (.scope c) f L K:=by
 intro w hw
 refine N_ (fun n l a w=> ∃g j,lab g=l∧μ g=n∧J g∧a=act (pin (lY j M 0 f) (S g))∧Hp w0 (H g) w) ?_ ?_
 ·refine wp_mono (first w hw) ?_
  rintro e a w' ⟨hd,L',hp,k⟩
  cases e with
  |goto i=>
   obtain⟨g',h1,-,h2,h3,h4⟩:=k
   subst h3
   refine⟨μ g',g',eT a.tmps.toList,h1,rfl,h2, ?_,hp⟩
   rw[←h4]
   exact vo hd
  |_=>exact⟨hd,L',hp,k⟩
 rintro n l a w' ⟨g,j,h1,h2,h3,rfl,hp⟩
 obtain⟨rest,hf,hc⟩:=pass g j h3
 subst h1
 refine⟨rest,hf, ?_⟩
 refine wp_mono (hc w' hp) ?_
 rintro e a w' ⟨hd,L',hp,k⟩
 cases e with
 |goto i=>
  obtain⟨g',h1,h0,uX,h3,h4⟩:=k
  subst h3
  refine⟨μ g',by omega,g',eT a.tmps.toList,h1,rfl,uX, ?_,hp⟩
  rw[←h4]
  exact vo hd
 |_=>exact⟨hd,L',hp,k⟩
def gv:Code→Nat→Bool
 | .seq a b,l=>gv a l||gv b l
 | .label l',l=>l'==l
 |_,_=>false
def jU (P:Program) (w0:World):Code→Nat→cK→Fr→aB→Prop
 | .seq a b,l,K=>if gv a l=true then jU P w0 a l (kh (fun f L=>Cw P w0 b f L K) K) else jU P w0 b l K
 | .label _,_,K=>K .normal
 |_,_,_=>fun _ _=>False
theorem Km: ∀ (c:Code) (l:Nat),gv c l=false→findLabel c l=none
 | .seq a b,l,h=>by
  simp only[gv,Bool.or_eq_false_iff] at h
  simp only[findLabel,Km a l h.1,Km b l h.2]
 | .label l',l,h=>by
  simp only[gv] at h
  simp[findLabel,h]
 | .skip,_,_=>rfl| .region ..,_,_=>rfl| .cond ..,_,_=>rfl| .block ..,_,_=>rfl| .loop _,_,_=>rfl| .rangeFunc ..,_,_=>rfl
 | .exit _,_,_=>rfl| .scope _,_,_=>rfl| .goto _,_,_=>rfl| .ret,_,_=>rfl| .refuse _,_,_=>rfl
theorem Li: ∀ (c:Code) (l:Nat) (K:cK),gv c l=true→jU P w0 c l K f L→ ∃rest,findLabel c l=some rest∧Cw P w0 rest f L K
 | .seq a b,l,K,hh,h=>by
  unfold jU at h
  split at h
  ·rename_i ha
   obtain⟨rest,h1,h2⟩:=Li a l _ ha h
   exact⟨.seq rest b,by simp[findLabel,h1],Cw.seq h2⟩
  rename_i ha
  have za:gv a l=false:=by simpa using ha
  have hb:gv b l=true:=by simpa [gv,za] using hh
  obtain⟨rest,h1,h2⟩:=Li b l K hb h
  exact⟨rest,by simp[findLabel,Km a l za,h1],h2⟩
 | .label l',l,K,hh,h=>by
  simp only[gv] at hh
  exact⟨.skip,by simp[findLabel,hh],Cw.skip h⟩
 | .skip,_,_,h,_=>by cases h
 | .region ..,_,_,h,_=>by cases h
 | .cond ..,_,_,h,_=>by cases h
 | .block ..,_,_,h,_=>by cases h
 | .loop _,_,_,h,_=>by cases h
 | .rangeFunc ..,_,_,h,_=>by cases h
 | .exit _,_,_,h,_=>by cases h
 | .scope _,_,_,h,_=>by cases h
 | .goto _,_,_,h,_=>by cases h
 | .ret,_,_,h,_=>by cases h
 | .refuse _,_,_,h,_=>by cases h
theorem Ld: ∀ (c:Code) (l:Nat) (K K':cK),(∀e f L,K e f L→K' e f L)→ ∀f L,jU P w0 c l K f L→jU P w0 c l K' f L
 | .seq a b,l,K,K',hK,f,L,h=>by
  unfold jU at h ⊢
  split at h
  ·rename_i ha
   rw[if_pos ha]
   refine Ld a l _ _ ?_ f L h
   intro e f L hh
   cases e with
   |normal=>exact Cw.mono hh hK
   |_=>exact hK _ _ _ hh
  rename_i ha
  rw[if_neg ha]
  exact Ld b l K K' hK f L h
 | .label l',l,K,K',hK,f,L,h=>hK _ _ _ h
 | .skip,_,_,_,_,_,_,h=>h.elim
 | .region ..,_,_,_,_,_,_,h=>h.elim
 | .cond ..,_,_,_,_,_,_,h=>h.elim
 | .block ..,_,_,_,_,_,_,h=>h.elim
 | .loop _,_,_,_,_,_,_,h=>h.elim
 | .rangeFunc ..,_,_,_,_,_,_,h=>h.elim
 | .exit _,_,_,_,_,_,_,h=>h.elim
 | .scope _,_,_,_,_,_,_,h=>h.elim
 | .goto _,_,_,_,_,_,_,h=>h.elim
 | .ret,_,_,_,_,_,_,h=>h.elim
 | .refuse _,_,_,_,_,_,_,h=>h.elim
def Cw.scopeL {c:Code} {G:Type} (lab:G→Nat) (M:List Nat) (S:G→List (Nat×Value)) (H:G→aB) (J:G→Prop) (μ:G→Nat) (hl: ∀g,gv c (lab g)=true)
  (pass: ∀ (g:G) (j:Nat→Value),J g→jU P w0 c (lab g) (og (Jump lab M S H J (fun g'=>μ g'<μ g) f) K) (pin (lY j M 0 f) (S g)) (H g))
  (first: (∀ (g:G) (f':Fr),J g→f'=pin (lY (eT f') M 0 f) (S g)→jU P w0 c (lab g) (og (Jump lab M S H J (fun _=>True) f) K) f' (H g))→
   Cw P w0 c f L (og (Jump lab M S H J (fun _=>True) f) K)):Cw P w0 (.scope c) f L K:=by
 refine Cw.scopeG lab M S H J μ (first fun g f' hg hf=> ?_) fun g j hg=>Li c _ _ (hl g) (pass g j hg)
 have:=pass g (eT f') hg
 rw[←hf] at this
 refine Ld c _ _ _ ?_ _ _ this
 intro e f L hh
 cases e with
 |goto i=>obtain⟨g',h1,-,h3⟩:=hh;exact⟨g',h1,trivial,h3⟩
 |_=>exact hh
def Cw.scopeS {c:Code} (h:Cw P w0 c f L (og (fun _ _ _=>False) K)):Cw P w0 (.scope c) f L K:=by
 intro w hw
 refine wp_scope_straight (wp_mono (h w hw) ?_)
 rintro e a w' ⟨hd,L',hp,k⟩
 cases e with
 |goto i=>exact k.elim
 |_=>exact⟨hd,L',hp,k⟩
end
end Go.Sx
section
namespace Go.Sx
open Go
def bZ {L M:aB} {b:Nat} {o:Obj} (h:look L b=some o):look (L++M) b=some o:=by
 induction L with
 |nil=>cases h
 |cons p r ih=>
  obtain⟨c,x⟩:=p
  simp only[List.cons_append,look] at h ⊢
  split
  ·rename_i e;rw[if_pos e] at h;exact h
  rename_i e;rw[if_neg e] at h;exact ih h
def g8 {L M:aB} {b:Nat} (h:b∉keys L):look (L++M) b=look M b:=by
 induction L with
 |nil=>rfl
 |cons p r ih=>
  obtain⟨c,x⟩:=p
  simp only[keys,List.map_cons,List.mem_cons,not_or] at h
  simp only[List.cons_append,look]
  rw[if_neg (fun e=>h.1 e.symm)]
  exact ih h.2
def jR {L:aB} {b:Nat} {x o:Obj} (h:look L b=some o):look (setB L b x) b=some x:=by
 induction L with
 |nil=>cases h
 |cons p r ih=>
  obtain⟨c,y⟩:=p
  simp only[look] at h
  simp only[setB]
  split
  ·simp[look, *]
  rename_i e
  rw[if_neg e] at h
  simp only[look]
  rw[if_neg e]
  exact ih h
def eh {L:aB} {b c:Nat} {x:Obj} (h:b≠c):look (setB L b x) c=look L c:=by
 induction L with
 |nil=>rfl
 |cons p r ih=>
  obtain⟨d,y⟩:=p
  simp only[setB]
  split
  ·rename_i e
   subst e
   simp[look,h]
  simp only[look]
  split
  ·rfl
  exact ih
def cC {L:aB} {b:Nat} {o:Obj} (h:look L b=some o):b∈keys L:=List.mem_map.2 ⟨_,cu h,rfl⟩
def Iq {L:aB} {b:Nat} (h:b∈keys L): ∃o,look L b=some o:=by
 cases hl:look L b with
 |some o=>exact⟨o,rfl⟩
 |none=>exact absurd h (Ic hl)
def ac {w0:World} {L:aB} {b:Nat} {o:Obj} (h:look L b=some o):aT w0 L b=some o:=by
 unfold aT;rw[h]
def ae (L M:aB):keys (L++M)=keys L++keys M:=List.map_append
def ak {L:aB} {n b:Nat} (h:eP L n) (hb:b∈keys L):b<n:=by
 induction L with
 |nil=>cases hb
 |cons p r ih=>
  obtain⟨c,y⟩:=p
  simp only[keys,List.map_cons,List.mem_cons] at hb
  rcases hb with rfl|hb
  ·exact h.1
  exact ih h.2 hb
def AR (vs:List Value): ∀ (A B:List Value),vs.length≤B.length→dZ (A++B).toArray A.length vs=(A++vs++B.drop vs.length).toArray:=by
 induction vs with
 |nil=>intro A B _;simp[dZ]
 |cons v r ih=>
  intro A B h
  cases B with
  |nil=>simp at h
  |cons x B=>
   have e: (A++x::B).toArray.setIfInBounds A.length v=((A++ [v])++B).toArray:=by
    rw[List.setIfInBounds_toArray]
    simp
   have h':=ih (A++ [v]) B (by simpa using h)
   simp only[List.length_append,List.length_cons,List.length_nil,Nat.zero_add] at h'
   rw[dZ,e,h']
   simp
theorem Cb (N:Nat): ∀r c,c≤2*N+768→Builtin.growBy N r c≤2*N+768
 |0,c,h=>h
 |r+1,c,h=>by
  unfold Builtin.growBy
  split
  ·exact h
  exact Cb N r _ oM
def Zn_ {N c:Nat} (h:c<N):Builtin.nextslicecap N c≤2*N+768:=by
 unfold Builtin.nextslicecap
 split
 ·omega
 split
 ·omega
 exact Cb N 4 c oM
structure AppX (P:Program) (w:World) (size:Nat) (x:Value) (k:Nat) (new:List Value):Prop where
 len: (Builtin.lenOf x).run P w= .ok k w
 cells: (Builtin.firstCells size k x).run P w= .ok new.toArray w
 one:new.all Value.oneCell'=true
 size:new.length=k*size
def AppX.text (P:Program) (w:World) (l:List UInt8):AppX P w 1 (vs l) l.length (l.map v8):=by
 refine⟨?_, ?_, ?_,by simp⟩
 ·simp only[vs,Builtin.lenOf,uU];rfl
 ·simp only[vs,Builtin.firstCells]
  show Result.ok _ w=_
  congr 1
  have: ((ByteArray.mk l.toArray).extract 0 l.length).data=l.toArray:=by
   rw[ByteArray.data_extract]
   simp
  rw[this]
  simp[v8]
 rw[List.all_map,List.all_eq_true];intro x _;rfl
def rf (P:Program) (e:TypeId):Bool:=match P.info? e with
 |some i=>i.bytes !=0&&decide (i.bytes≤1024)
 |none=>false
def Lw {P:Program} {e:TypeId} {j:Nat} (h:rf P e=true) (hj:j≤2^38): ∃i,P.info? e=some i∧i.bytes≠0∧j*i.bytes≤2^48:=by
 unfold rf at h
 cases hi:P.info? e with
 |none=>rw[hi] at h;cases h
 |some i=>
  rw[hi] at h
  simp only[Bool.and_eq_true,bne_iff_ne,ne_eq,decide_eq_true_eq] at h
  refine⟨i,rfl,h.1, ?_⟩
  calc j*i.bytes≤2^38*1024:=Nat.mul_le_mul hj h.2
   _=2^48:=by decide
def n8 (L:aB) (k:aB→Prop):nh L k=k L:=(rfl)
inductive Buf (L:aB) (E:TypeId) (size:Nat):Value→Nat→List Value→Prop
 |nl:Buf L E size (.slice none 0 0) 0 []
 |at_ {b n c:Nat} {cs rest:List Value} (hl:look L b=some (.cells (cs++rest).toArray E (0,0))) (h1:cs.length=n*size) (h2:rest.length=(c - n)*size) (h3:n≤c) (h4:0<c):
  Buf L E size (vsl b 0 n c) n cs
def slB:Value→Option Nat
 | .slice (some a) _ _=>some a.block
 |_=>none
def Buf.keep {L L':aB} {E:TypeId} {size n:Nat} {v:Value} {cs:List Value} (h:Buf L E size v n cs) (hk: ∀b o,slB v=some b→look L b=some o→look L' b=some o):Buf L' E size v n cs:=by
 cases h with
 |nl=>exact .nl
 |at_ hl h1 h2 h3 h4=>exact .at_ (hk _ _ rfl hl) h1 h2 h3 h4
def Buf.setO {L:aB} {E:TypeId} {size n b:Nat} {v:Value} {cs:List Value} {x:Obj} (h:Buf L E size v n cs) (hb:slB v≠some b):Buf (setB L b x) E size v n cs:=
 h.keep fun c o hc ho=>by rw[eh (fun e:b=c=>hb (by rw[e];exact hc))];exact ho
def Buf.app {L M:aB} {E:TypeId} {size n:Nat} {v:Value} {cs:List Value} (h:Buf L E size v n cs):Buf (L++M) E size v n cs:=h.keep fun _ _ _ ho=>bZ ho
def Buf.cell {L:aB} {E:TypeId} {size n:Nat} {v:Value} {cs:List Value} (h:Buf L E size v n cs):Value.oneCell' v=true∧v.cells= #[v]:=by
 cases h<;>exact⟨rfl,rfl⟩
def Buf.len {L:aB} {E:TypeId} {size n:Nat} {v:Value} {cs:List Value} (h:Buf L E size v n cs) (x:Bool×Nat):eb (.sl x) v=some (vi n):=by
 cases h<;>rfl
def Buf.inv {L:aB} {E:TypeId} {size n:Nat} {v:Value} {cs:List Value} (h:Buf L E size v n cs): (v= .slice none 0 0∧n=0∧cs= [])∨
  ∃b c rest,v=vsl b 0 n c∧look L b=some (.cells (cs++rest).toArray E (0,0))∧cs.length=n*size∧n≤c∧0<c∧rest.length=(c - n)*size:=by
 cases h with
 |nl=>exact .inl ⟨rfl,rfl,rfl⟩
 |at_ hl h1 h2 h3 h4=>exact .inr ⟨_,_,_,rfl,hl,h1,h3,h4,h2⟩
def jQ {L:aB} {b:Nat} {o:Obj} (h:eP L b):look (L++ [(b,o)]) b=some o:=by
 rw[g8 (fun hm=>Nat.lt_irrefl _ (ak h hm))];simp[look]
structure Grew (w0:World) (v:Value) (L L':aB):Prop where
 keys: ∀c,c∈keys L→c∈keys L'
 new: ∀c,c∈Sx.keys L'→c∈Sx.keys L∨(eP L c∧w0.heap.size≤c)
 look: ∀c o,slB v≠some c→Sx.look L c=some o→Sx.look L' c=some o
def Grew.refl (w0:World) (v:Value) (L:aB):Grew w0 v L L:=⟨fun _ h=>h,fun _ h=> .inl h,fun _ _ _ h=>h⟩
section
variable {P:Program} {w0:World} {L:aB}
def LS {w:World} {ts tx ty e:TypeId} {m:Bool×Nat} {z s x:Value} {n k:Nat} {cs new:List Value} (hw:Hp w0 L w)
  (hu:P.underlying ts=some (.slice e)) (hm:aK P e=some m) (hi:rf P e=true) (hz:au P e=some z) (lX:z.cells.size=m.2) {d:TypeDesc} (jM:P.underlying tx=some d) (dO: ∀k,d≠ .int k)
  (hB:Buf L e m.2 s n cs) (zZ: ∀w,Hp w0 L w→AppX P w m.2 x k new) (co:2* (n+k)+768≤2^38):
  ∃v' w' L',(Builtin.append_ #[ts,tx] ty #[s,x]).run P w= .ok v' w'∧Hp w0 L' w'∧Buf L' e m.2 v' (n+k) (cs++new)∧Grew w0 s L L'∧(slB v'=slB s∨ ∃c,slB v'=some c∧eP L c):=by
 obtain⟨i,hi,kw,co⟩:=Lw hi co
 have Jv: ∀w,(typeInfo e).run P w= .ok i w:=by
  intro w
  simp only[typeInfo,program,Sem.run_bind]
  show Result.andThen (Result.ok P w) _=_
  simp only[Result.andThen_ok,hi]
  rfl
 have qd: (match d with| .int _=>true|_=>false)=false:=by
  cases d<;>first|rfl|exact absurd rfl (dO _)
 have e1: ∀ {α β:Type} (a:α) (f:α→World→Result β),(Sem.run P (pure a) w).andThen f=f a w:=fun _ _=>rfl
 have hX:=zZ w hw
 have jO:=hX.len
 have K1:=hX.cells
 have vL:=uD (P:=P) hz
 have room: ∀ (b:Nat) (w:World),(askRoom b).run P w= .ok () w:=by
  intro b w
  unfold askRoom
  split<;>rfl
 have zc: ∀j,(Builtin.zeroCells z.cells j).toList.length=j*m.2:=by
  intro j;simp[Builtin.zeroCells,lX]
 have kM: ∀c,c<n+k→ ¬ (Builtin.nextslicecap (n+k) c*i.bytes>2^48):=by
  intro c hc
  have:=Zn_ hc
  have h2:=Nat.mul_le_mul_right i.bytes this
  omega
 cases hB with
 |nl=>
  by_cases hk:k=0
  ·subst hk
   have ez:new= []:=List.eq_nil_of_length_eq_zero (by have:=hX.size;omega)
   subst ez
   refine⟨.slice none 0 0,w,L, ?_,hw, .nl,Grew.refl _ _ _, .inl rfl⟩
   simp only[Builtin.append_,List.getElem?_toArray,List.getElem?_cons_zero,List.getElem?_cons_succ,Sem.run_bind,run_underlying hu w,Result.andThen_ok,gq hm w,run_underlying jM w,qd,e1,Bool.false_eq_true, ↓reduceIte,jO,Bool.not_false,Nat.add_zero,ap,K1]
   rfl
  have yO: ¬0+k≤0:=by omega
  have qP:=kM 0 oM
  simp only[Builtin.append_,List.getElem?_toArray,List.getElem?_cons_zero,List.getElem?_cons_succ,Sem.run_bind,run_underlying hu w,Result.andThen_ok,gq hm w,run_underlying jM w,qd,e1,Bool.false_eq_true, ↓reduceIte,jO,Bool.not_false,yO,Jv,kw,or_false,and_false,qP]
  have HA: (choose (Question.appendCap (0+k) 0 e)).run P w= .ok ((0+k)+w.tape w.drawn (.appendCap (0+k) 0 e)% (2^63 - (0+k))) w.drew:=rfl
  rw[HA]
  generalize mG: (0+k)+w.tape w.drawn (.appendCap (0+k) 0 e)% (2^63 - (0+k))=c
  have aP:=hw.drew
  have Gp:=zZ _ aP
  have iA: (Builtin.firstCells m.2 0 (Value.slice none 0 0)).run P w.drew= .ok #[] w.drew:=rfl
  simp only[Result.andThen_ok,room,iA,Gp.cells,vL]
  refine⟨_,_,L++ [(w.drew.heap.size, .cells ([]++new++ (Builtin.zeroCells z.cells (c - (0+k))).toList).toArray e (0,0))],rfl, ?_, .at_ (b:=w.drew.heap.size) (rest:=(Builtin.zeroCells z.cells (c - (0+k))).toList) ?_ ?_ ?_ oM oM, ?_, .inr ⟨_,rfl,iF fun b hb=>aP.lt hb⟩⟩
  ·have ea: ([]++new++ (Builtin.zeroCells z.cells (c - (0+k))).toList).toArray= #[]++new.toArray++Builtin.zeroCells z.cells (c - (0+k)):=by apply Array.ext';simp
   rw[ea]
   exact aP.alloc _
  ·rw[g8 (fun hm=>Nat.lt_irrefl _ (aP.lt hm))]
   simp[look]
  ·rw[List.nil_append,hX.size,Nat.zero_add]
  ·exact zc _
  refine⟨fun c hc=>by rw[ae];exact bl _ hc,fun c hc=> ?_,fun c o aU ho=>bZ ho⟩
  rw[ae] at hc
  rcases List.mem_append.1 hc with hc|hc
  ·exact .inl hc
  right
  simp only[keys,List.map_cons,List.map_nil,List.mem_singleton] at hc
  subst hc
  exact⟨iF fun b hb=>aP.lt hb,aP.size⟩
 | @at_ b n c cs rest hl h1 h2 h3 h4=>
  have hhb:=hw.has _ _ (cu hl)
  by_cases o6:n+k≤c
  ·have aC:=(Array.getElem?_eq_some_iff.1 hhb).1
   have e_:=hX.size
   have bL:=K5 (P:=P) (b:=b) (off:=n*m.2) (E:=e) (fz:=(0,0)) new 0 (cs++rest).toArray w hhb (by
    simp only[List.size_toArray,List.length_append,h1,h2,e_,Nat.add_zero]
    rw[←Nat.add_mul,←Nat.add_mul]
    exact Nat.mul_le_mul_right _ oM) (.inl (ap 0)) hX.one
   simp only[Builtin.append_,List.getElem?_toArray,List.getElem?_cons_zero,List.getElem?_cons_succ,Sem.run_bind,run_underlying hu w,Result.andThen_ok,gq hm w,run_underlying jM w,qd,e1,Bool.false_eq_true, ↓reduceIte,jO,Bool.not_false,o6,K1,oV,Nat.zero_add,bL,vsl]
   rw[Nat.add_zero,←h1,AR new cs rest (by rw[h2,e_];exact Nat.mul_le_mul_right _ oM)]
   refine⟨vsl b 0 (n+k) c,_,setB L b (.cells (cs++new++rest.drop new.length).toArray e (0,0)),rfl,hw.set (cC hl) rfl rfl rfl rfl, .at_ (jR hl) ?_ ?_ o6 h4, ?_, .inl rfl⟩
   ·rw[List.length_append,h1,e_,Nat.add_mul]
   ·rw[List.length_drop,h2,e_,←Nat.sub_mul]
    congr 1
    omega
   refine⟨fun c hc=>by rw[rB];exact hc,fun c hc=>by rw[rB] at hc;exact .inl hc,fun c o aU ho=> ?_⟩
   rw[eh (fun e=>aU (by rw[←e];rfl))]
   exact ho
  have qP:=kM c oM
  simp only[Builtin.append_,List.getElem?_toArray,List.getElem?_cons_zero,List.getElem?_cons_succ,Sem.run_bind,run_underlying hu w,Result.andThen_ok,gq hm w,run_underlying jM w,qd,e1,Bool.false_eq_true, ↓reduceIte,jO,Bool.not_false,o6,Jv,kw,or_false,and_false,qP,vsl]
  have HA: (choose (Question.appendCap (n+k) c e)).run P w= .ok ((n+k)+w.tape w.drawn (.appendCap (n+k) c e)% (2^63 - (n+k))) w.drew:=rfl
  rw[HA]
  generalize mG: (n+k)+w.tape w.drawn (.appendCap (n+k) c e)% (2^63 - (n+k))=c2
  have aP:=hw.drew
  have Gp:=zZ _ aP
  have iA: (Builtin.firstCells m.2 n (Value.slice (some ⟨b,0,none⟩) n c)).run P w.drew= .ok cs.toArray w.drew:=by
   simp only[Builtin.firstCells]
   rw[KE (aP.has _ _ (cu hl)) 0 (n*m.2) (by simp only[List.size_toArray,List.length_append,h1];omega)]
   congr 1
   simp only[Nat.zero_add,List.extract_toArray,←h1]
   simp
  simp only[Result.andThen_ok,room,iA,Gp.cells,vL]
  refine⟨_,_,L++ [(w.drew.heap.size, .cells (cs++new++ (Builtin.zeroCells z.cells (c2 - (n+k))).toList).toArray e (0,0))],rfl, ?_, .at_ (b:=w.drew.heap.size) (rest:=(Builtin.zeroCells z.cells (c2 - (n+k))).toList) ?_ ?_ ?_ oM oM, ?_, .inr ⟨_,rfl,iF fun b hb=>aP.lt hb⟩⟩
  ·have ea: (cs++new++ (Builtin.zeroCells z.cells (c2 - (n+k))).toList).toArray=cs.toArray++new.toArray++Builtin.zeroCells z.cells (c2 - (n+k)):=by apply Array.ext';simp
   rw[ea]
   exact aP.alloc _
  ·rw[g8 (fun hm=>Nat.lt_irrefl _ (aP.lt hm))]
   simp[look]
  ·rw[List.length_append,h1,hX.size,Nat.add_mul]
  ·exact zc _
  refine⟨fun c hc=>by rw[ae];exact bl _ hc,fun c hc=> ?_,fun c o aU ho=>bZ ho⟩
  rw[ae] at hc
  rcases List.mem_append.1 hc with hc|hc
  ·exact .inl hc
  right
  simp only[keys,List.map_cons,List.map_nil,List.mem_singleton] at hc
  subst hc
  exact⟨iF fun b hb=>aP.lt hb,aP.size⟩
def AppX.block {b off k cap size:Nat} {arr:Array Value} {E:TypeId} {fz:Nat×Nat} {new:List Value} (hr:aT w0 L b=some (.cells arr E fz)) (hn:off+k*size≤arr.size) (hc: (arr.extract off (off+k*size)).toList=new)
  (h1:new.all Value.oneCell'=true) {w:World} (hw:Hp w0 L w):AppX P w size (vsl b off k cap) k new:=by
 refine⟨rfl, ?_,h1, ?_⟩
 ·simp only[vsl,Builtin.firstCells]
  rw[KE (hw.read hr) off (k*size) hn,←hc]
 rw[←hc];simp;omega
def AppX.nil (P:Program) (w:World) (size:Nat):AppX P w size (.slice none 0 0) 0 []:=⟨rfl,rfl,rfl,by simp⟩
theorem JT_ {b:Nat} {E:TypeId} {fz:Nat×Nat} {arr:Array Value} {w:World} (hb:w.heap[b]? =some (.cells arr E fz)): ∀ (l:List UInt8) (off:Nat) (acc:ByteArray),(∀j,j<l.length→arr[off+j]? =some (v8 (l.getD j 0)))→
  (loadBytes ⟨b,off,none⟩ acc l.length).run P w= .ok (acc++ ⟨l.toArray⟩) w
 | [],off,acc,_=>by
  show Result.ok acc w=_
  congr 1
  apply ByteArray.ext
  simp
 |x::l,off,acc,h=>by
  have h0:=h 0 (by simp)
  simp only[Nat.add_zero,List.getD_cons_zero] at h0
  have hc:w.cell? ⟨b,off,none⟩=some (v8 x):=by rw[cell_of_row w b _ arr E fz hb];exact h0
  have mK: (load ⟨b,off,none⟩).run P w= .ok (v8 x) w:=by
   simp only[load,Sem.run,hc]
  rw[List.length_cons,loadBytes,Sem.run_bind,mK,Result.andThen_ok]
  simp only[v8,oV]
  have e: ((x.toNat:Int).toNat.toUInt8)=x:=by
   rw[Int.toNat_natCast]
   exact UInt8.ofNat_toNat
  rw[e,JT_ hb l (off+1) _ (fun j hj=>by
   have:=h (j+1) (by simpa using hj)
   rw[List.getD_cons_succ] at this
   rw[←this];congr 1;omega)]
  congr 1
  apply ByteArray.ext
  simp
def Sh {p:Program} {e:TypeId} {c n:Nat} (hd:1<p.depth) (hs:p.cellsOf e=1) (hn:n≤c):liesAt p p.depth e (c / p.cellsOf e) 0 e n=true:=by
 obtain⟨d,ju⟩: ∃d,p.depth=d+2:=⟨p.depth - 2,by omega⟩
 have cb:sameLayout p p.depth e e=true:=by
  rw[ju];unfold sameLayout;simp
 rw[ju] at cb ⊢
 unfold liesAt
 rw[ju]
 unfold rowAt
 simp[hs,hn,cb]
def Kx_ {w:World} {pt it ty e:TypeId} {b:Nat} {l:List UInt8} {rest:List Value} (hw:Hp w0 L w) (hl:look L b=some (.cells (l.map v8++rest).toArray e (0,0))) (h0:0<l.length) (Hb: (l.length:Int)≤9223372036854775807)
  (dT:P.underlying pt=some (.pointer e)) (hs:P.cellsOf e=1) (hd:1<P.depth):
  ∃w',(Builtin.unsafeString_ #[pt,it] ty #[vp b 0,vi l.length]).run P w= .ok (vs l) w'∧Hp w0 (setB L b (.cells (l.map v8++rest).toArray e (0,l.length))) w':=by
 have hb:=hw.has _ _ (cu hl)
 have e1: ∀ {α β:Type} (a:α) (f:α→World→Result β),(Sem.run P (pure a) w).andThen f=f a w:=fun _ _=>rfl
 have zl:=JT_ (P:=P) hb l 0 .empty (by
  intro j hj
  rw[Nat.zero_add,List.getElem?_toArray,List.getElem?_append_left (by simpa using hj),List.getElem?_map,List.getD_eq_getElem?_getD,List.getElem?_eq_getElem hj]
  rfl)
 have I4: (variablesAt ⟨b,0,none⟩ e l.length).run P w= .ok true w:=by
  have iC:w.shape? b=some (e,(l.map v8++rest).toArray.size):=by
   simp only[World.shape?,hb]
  have hp:liesAt P P.depth e ((l.map v8++rest).toArray.size / P.cellsOf e) 0 e l.length=true:=Sh hd hs (by simp)
  simp only[variablesAt,program,shape,Sem.run_bind]
  show Result.andThen (Result.ok P w) _=_
  simp only[Result.andThen_ok]
  show Result.andThen (Result.ok (w.shape? b) w) _=_
  rw[iC]
  simp only[Result.andThen_ok]
  rw[hp]
  rfl
 have gP: (elemOf pt).run P w= .ok e w:=by
  simp only[elemOf,Sem.run_bind,run_underlying dT w,Result.andThen_ok]
  rfl
 refine⟨w.freeze ⟨b,0,none⟩ l.length, ?_, ?_⟩
 ·have hn0: ¬ ((l.length:Int)<0):=by omega
  have ec: ¬ ((l.length:Int)>IntKind.i64.max):=by
   show¬ ((l.length:Int)>9223372036854775807);omega
  have hnz: ¬ ((l.length:Int)=0):=by omega
  have hai: (asInt (vi l.length)).run P w= .ok (l.length:Int) w:=rfl
  rw[show vp b 0= .pointer (some ⟨b,0,none⟩) from rfl]
  show Sem.run P (asInt (vi l.length)>>=_) w=_
  simp only[Sem.run_bind,hai,Result.andThen_ok,List.getElem?_toArray,List.getElem?_cons_zero,hn0,ec,hnz, ↓reduceIte,gP,Int.toNat_natCast,I4,zl]
  show Result.ok (Value.string (ByteArray.empty++ ⟨l.toArray⟩)) _=_
  congr 2
 have aU: ¬l.length=0:=by omega
 have aC:=(Array.getElem?_eq_some_iff.1 hb).1
 refine hw.set (cC hl) ?_ ?_ ?_ ?_<;>simp only[World.freeze,aU, ↓reduceIte]
 apply Array.ext_getElem?
 intro i
 rw[Array.getElem?_modify]
 by_cases hi:b=i
 ·subst hi
  rw[if_pos rfl,hb]
  simp[aC]
 rw[if_neg hi,Array.getElem?_setIfInBounds_ne hi]
end
section
variable {P:Program} {w0:World} {f:Fr} {L:aB} {N:Fr→aB→Prop} {ops:Array Oper} {rest:List Oper} {md:Md}
 {d:Option Tmp} {ty:TypeId} {ps:String} {af:Array Edge} {g:Option (Nat×Bool)}
theorem Ow.append {ts tx e:TypeId} {m:Bool×Nat} {z:Value} {s x:Operand} {n k:Nat} {cs new:List Value} {dx:TypeDesc} {md':Md} (sv:Value) (gk:ev f s=sv) (he:md.turn=some md')
  (hs:a_ ops f ⟨d, .call ⟨.builtin .append, #[s,x], #[ts,tx]⟩,ty,ps,af,g⟩=false)
  (hu:P.underlying ts=some (.slice e)) (hm:aK P e=some m) (hi:rf P e=true) (hz:au P e=some z) (lX:z.cells.size=m.2) (jM:P.underlying tx=some dx) (dO: ∀k,dx≠ .int k)
  (hB:Buf L e m.2 sv n cs) (hX: ∀w,Hp w0 L w→AppX P w m.2 (ev f x) k new) (co:2* (n+k)+768≤2^38)
  (hn: ∀v' L',Buf L' e m.2 v' (n+k) (cs++new)→Grew w0 sv L L'→(slB v'=slB sv∨ ∃c,slB v'=some c∧eP L c)→Ow P w0 ops md' rest (aX f d v') L' N):
  Ow P w0 ops md (⟨d, .call ⟨.builtin .append, #[s,x], #[ts,tx]⟩,ty,ps,af,g⟩::rest) f L N:=by
 subst gk
 refine Ow.step he rfl hs fun w hw=> ?_
 obtain⟨v',w',L',hr,hp,hb,hg,cb⟩:=LS (ty:=ty) hw hu hm hi hz lX jM dO hB hX co
 refine .inl ⟨v',w',L', ?_,hp,hn v' L' hb hg cb⟩
 simp only[execOp,resolve,Sem.run_bind,Sem.run_pure,Result.andThen_ok,invoke,builtin,List.map_toArray,List.map_cons,List.map_nil]
 rw[hr]
 rfl
theorem Ow.unsafeString {pt it e:TypeId} {x y:Operand} {b:Nat} {l:List UInt8} {rs:List Value} {md':Md} (he:md.turn=some md')
  (hs:a_ ops f ⟨d, .call ⟨.builtin .unsafeString, #[x,y], #[pt,it]⟩,ty,ps,af,g⟩=false)
  (hx:ev f x=vp b 0) (hy:ev f y=vi l.length) (hl:look L b=some (.cells (l.map v8++rs).toArray e (0,0))) (h0:0<l.length) (Hb: (l.length:Int)≤9223372036854775807)
  (dT:P.underlying pt=some (.pointer e)) (hc:P.cellsOf e=1) (hd:1<P.depth)
  (hn:Ow P w0 ops md' rest (aX f d (vs l)) (setB L b (.cells (l.map v8++rs).toArray e (0,l.length))) N):
  Ow P w0 ops md (⟨d, .call ⟨.builtin .unsafeString, #[x,y], #[pt,it]⟩,ty,ps,af,g⟩::rest) f L N:=by
 refine Ow.step he rfl hs fun w hw=> ?_
 obtain⟨w',hr,hp⟩:=Kx_ (it:=it) (ty:=ty) hw hl h0 Hb dT hc hd
 refine .inl ⟨vs l,w',_, ?_,hp,hn⟩
 simp only[execOp,resolve,Sem.run_bind,Sem.run_pure,Result.andThen_ok,invoke,builtin,List.map_toArray,List.map_cons,List.map_nil,hx,hy]
 rw[hr]
 rfl
def Ow.unsafeStringNil {pt it:TypeId} {x y:Operand} {md':Md} (he:md.turn=some md')
  (hs:a_ ops f ⟨d, .call ⟨.builtin .unsafeString, #[x,y], #[pt,it]⟩,ty,ps,af,g⟩=false)
  {p:Option Addr} (hx:ev f x= .pointer p) (hy:ev f y=vi 0)
  (hn:Ow P w0 ops md' rest (aX f d (vs [])) L N):
  Ow P w0 ops md (⟨d, .call ⟨.builtin .unsafeString, #[x,y], #[pt,it]⟩,ty,ps,af,g⟩::rest) f L N:=by
 refine Ow.step he rfl hs fun w hw=> ?_
 refine .inl ⟨vs [],w,L, ?_,hw,hn⟩
 simp only[execOp,resolve,Sem.run_bind,Sem.run_pure,Result.andThen_ok,invoke,builtin,List.map_toArray,List.map_cons,List.map_nil,hx,hy]
 cases p<;>rfl
def Ow.sliceData {t:TypeId} {x:Operand} {v:Value} {md':Md} (he:md.turn=some md')
  (hs:a_ ops f ⟨d, .call ⟨.builtin .unsafeSliceData, #[x], #[t]⟩,ty,ps,af,g⟩=false)
  (hx: (∃n c,ev f x= .slice none n c∧v= .pointer none)∨ ∃b n c,ev f x=vsl b 0 n c∧c≠0∧v=vp b 0)
  (hn:Ow P w0 ops md' rest (aX f d v) L N):
  Ow P w0 ops md (⟨d, .call ⟨.builtin .unsafeSliceData, #[x], #[t]⟩,ty,ps,af,g⟩::rest) f L N:=by
 refine Ow.step he rfl hs fun w hw=> ?_
 refine .inl ⟨v,w,L, ?_,hw,hn⟩
 simp only[execOp,resolve,Sem.run_bind,Sem.run_pure,Result.andThen_ok,invoke,builtin,List.map_toArray,List.map_cons,List.map_nil]
 rcases hx with⟨n,c,hx,rfl⟩ | ⟨b,n,c,hx,hc,rfl⟩
 ·rw[hx];rfl
 rw[hx]
 have e:Builtin.unsafeSliceData_ #[t] ty #[vsl b 0 n c]=(if c≠0 then pure (.pointer (some ⟨b,0,none⟩)) else do
   if(←viewAt b).isSome then pure (.pointer (some ⟨b,0,none⟩)) else pure (.pointer (some ⟨←newObj (.view ⟨b,0,none⟩ (←elemOf ty)),0,none⟩))):=rfl
 rw[e,if_pos hc]
 rfl
end
end Go.Sx
end
namespace Go.Sx
open Go
section
variable {P:Program} {w0:World} {f:Fr} {L:aB} {N:Fr→aB→Prop} {ops:Array Oper} {rest:List Oper} {md:Md}
 {d:Option Tmp} {ty:TypeId} {ps:String} {af:Array Edge} {g:Option (Nat×Bool)}
def Ns {w:World} {s dt t:TypeId} {b off:Nat} {m:Bool×Nat} {cs:Array Value} {E:TypeId} {fz:Nat×Nat} (hb:w.heap[b]? =some (.cells cs E fz)) (ho:off<cs.size) (hm:aK P t=some m) (rS:m.2≠0)
  (hs:P.underlying s=some (.pointer t)) (hd:P.underlying dt=some .unsafePointer): (convert s dt (vp b off)).run P w= .ok (vp b off) w:=by
 have iC:w.shape? b=some (E,cs.size):=by simp only[World.shape?,hb]
 have e1: ∀ {α β:Type} (a:α) (f:α→World→Result β),(Sem.run P (pure a) w).andThen f=f a w:=fun _ _=>rfl
 have e2: (shape b).run P w= .ok (some (E,cs.size)) w:=by show Result.ok (w.shape? b) w=_;rw[iC]
 have hv: (Conv.seenAt ⟨b,off,none⟩).run P w= .ok ⟨b,off,none⟩ w:=by
  simp only[Conv.seenAt,viewAt,Sem.run_bind,e2,Result.andThen_ok,Option.isSome_some, ↓reduceIte]
  rfl
 have Jb: (cellsIn b).run P w= .ok (some cs.size) w:=by
  simp only[cellsIn,Sem.run_bind,e2,Result.andThen_ok]
  rfl
 have kQ: (decide (m.2=0) ||decide (off≥cs.size)&& (none:Option Nat).isNone)=false:=by
  have: ¬ (off≥cs.size):=by omega
  simp[rS,this]
 have hu: (Conv.unsafePointer s dt (vp b off)).run P w= .ok (vp b off) w:=by
  simp only[Conv.unsafePointer,vp,Sem.run_bind,run_underlying hs w,run_underlying hd w,Result.andThen_ok,hv,Jb,gq hm w]
  rw[if_neg (by rw[kQ];simp)]
  rfl
 unfold convert
 simp only[vp,Sem.run_bind,run_underlying hs w,run_underlying hd w,Result.andThen_ok]
 exact hu
def NI {w:World} {s dt t:TypeId} {b off:Nat} {m:Bool×Nat} {cs:Array Value} {E:TypeId} {fz:Nat×Nat} (hb:w.heap[b]? =some (.cells cs E fz)) (hm:aK P t=some m) (hla:liesAt P P.depth E (cs.size / P.cellsOf E) off t 1=true)
  (hs:P.underlying s=some .unsafePointer) (hd:P.underlying dt=some (.pointer t)): (convert s dt (vp b off)).run P w= .ok (vp b off) w:=by
 have iC:w.shape? b=some (E,cs.size):=by simp only[World.shape?,hb]
 have e2: (shape b).run P w= .ok (some (E,cs.size)) w:=by show Result.ok (w.shape? b) w=_;rw[iC]
 have hv: (Conv.seenAt ⟨b,off,none⟩).run P w= .ok ⟨b,off,none⟩ w:=by
  simp only[Conv.seenAt,viewAt,Sem.run_bind,e2,Result.andThen_ok,Option.isSome_some, ↓reduceIte]
  rfl
 have I4: (variablesAt ⟨b,off,none⟩ t 1).run P w= .ok true w:=by
  simp only[variablesAt,program,Sem.run_bind]
  show Result.andThen (Result.ok P w) _=_
  simp only[Result.andThen_ok,e2]
  rw[hla]
  rfl
 have hu: (Conv.unsafePointer s dt (vp b off)).run P w= .ok (vp b off) w:=by
  simp only[Conv.unsafePointer,vp,Sem.run_bind,run_underlying hs w,run_underlying hd w,Result.andThen_ok,hv,gq hm w,I4]
  by_cases h0:m.2=0
  ·simp[h0]
  simp[h0]
 unfold convert
 simp only[vp,Sem.run_bind,run_underlying hs w,run_underlying hd w,Result.andThen_ok]
 exact hu
def Ow.toUnsafe {s dt t:TypeId} {x:Operand} {b off:Nat} {m:Bool×Nat} {cs:Array Value} {E:TypeId} {fz:Nat×Nat} {md':Md} (he:md.turn=some md') (pF:a_ ops f ⟨d, .convert s dt x,ty,ps,af,g⟩=false)
  (xq:cvT P s dt= .no) (hx:ev f x=vp b off) (hb:aT w0 L b=some (.cells cs E fz)) (ho:off<cs.size) (hm:aK P t=some m) (rS:m.2≠0) (hs:P.underlying s=some (.pointer t)) (hd:P.underlying dt=some .unsafePointer)
  (hn:Ow P w0 ops md' rest (aX f d (vp b off)) L N):Ow P w0 ops md (⟨d, .convert s dt x,ty,ps,af,g⟩::rest) f L N:=by
 refine Ow.step he (by simp[g7,xq]) pF fun w hw=> .inl ⟨vp b off,w,L, ?_,hw,hn⟩
 simp only[execOp,Sem.run_bind,hx,Ns (hw.read hb) ho hm rS hs hd]
 rfl
def Ow.ofUnsafe {s dt t:TypeId} {x:Operand} {b off:Nat} {m:Bool×Nat} {cs:Array Value} {E:TypeId} {fz:Nat×Nat} {md':Md} (he:md.turn=some md') (pF:a_ ops f ⟨d, .convert s dt x,ty,ps,af,g⟩=false)
  (xq:cvT P s dt= .no) (hx:ev f x=vp b off) (hb:aT w0 L b=some (.cells cs E fz)) (hm:aK P t=some m) (hla:liesAt P P.depth E (cs.size / P.cellsOf E) off t 1=true) (hs:P.underlying s=some .unsafePointer) (hd:P.underlying dt=some (.pointer t))
  (hn:Ow P w0 ops md' rest (aX f d (vp b off)) L N):Ow P w0 ops md (⟨d, .convert s dt x,ty,ps,af,g⟩::rest) f L N:=by
 refine Ow.step he (by simp[g7,xq]) pF fun w hw=> .inl ⟨vp b off,w,L, ?_,hw,hn⟩
 simp only[execOp,Sem.run_bind,hx,NI (hw.read hb) hm hla hs hd]
 rfl
def Ow.neqSame {t t' e:TypeId} {x y:Operand} {b off:Nat} {m:Bool×Nat} (hs:a_ ops f ⟨d, .binOp .neq t x y t',ty,ps,af,g⟩=false) (hu:P.underlying t=some (.pointer e)) (hm:aK P e=some m) (hx:ev f x=vp b off) (hy:ev f y=vp b off)
  (hn:Ow P w0 ops md.next rest (aX f d (.bool false)) L N):Ow P w0 ops md (⟨d, .binOp .neq t x y t',ty,ps,af,g⟩::rest) f L N:=by
 refine Ow.pureV rfl hs (fun w=> ?_) hn
 have he: (Op.equal t (vp b off) (vp b off)).run P w= .ok true w:=by
  show(Op.equalIn 10000 t (vp b off) (vp b off)).run P w=_
  unfold Op.equalIn
  simp only[vp,Sem.run_bind,run_underlying hu w,Result.andThen_ok,gq hm w]
  by_cases h0:m.2=0
  ·simp[h0]
  simp only[h0,ne_eq,not_false_eq_true, ↓reduceIte,sameAddr,beq_self_eq_true]
  rfl
 simp only[execOp,Sem.run_bind,hx,hy]
 have hg: (eqGuard .neq t x y (vp b off) (vp b off)).run P w= .ok () w:=rfl
 have hb:binOp .neq t (vp b off) (vp b off)=(do pure (.bool (!(←Op.equal t (vp b off) (vp b off)))):Sem Value):=rfl
 rw[hg,Result.andThen_ok,hb,Sem.run_bind,he]
 rfl
def AN {w0:World} {L:aB} {b c:Nat} {x:Obj} (h:b≠c):aT w0 (setB L b x) c=aT w0 L c:=by
 unfold aT;rw[eh h]
def Ow.callExt {l:List Operand} {ts:Array TypeId} {k:FuncId} {v:Value} {md':Md} (he:md.turn=some md')
  (hs:a_ ops f ⟨d, .call ⟨.value (.func k),l.toArray,ts⟩,ty,ps,af,g⟩=false)
  (hv: ∀w,(callFunc k (l.map (ev f)).toArray).run P w= .ok (.value v) w)
  (hn:Ow P w0 ops md' rest (aX f d v) L N):
  Ow P w0 ops md (⟨d, .call ⟨.value (.func k),l.toArray,ts⟩,ty,ps,af,g⟩::rest) f L N:=by
 refine Ow.step he rfl hs fun w hw=> .inl ⟨v,w,L, ?_,hw,hn⟩
 have:=hv w
 simp only[execOp,resolve,Deferred.ofValue,ev,Sem.run_bind,Sem.run_pure,Result.andThen_ok,invoke]
 simpa using this
def Ow.minI {x y:Operand} {ts:Array TypeId} {a b:Int} (hs:a_ ops f ⟨d, .call ⟨.builtin .min, #[x,y],ts⟩,ty,ps,af,g⟩=false) (hx:ev f x=vi a) (hy:ev f y=vi b)
  (hn:Ow P w0 ops md.next rest (aX f d (vi (if b<a then b else a))) L N):Ow P w0 ops md (⟨d, .call ⟨.builtin .min, #[x,y],ts⟩,ty,ps,af,g⟩::rest) f L N:=by
 refine Ow.calm rfl rfl hs (fun w hw=> .inl ⟨vi (if b<a then b else a),w,L, ?_,hw,rfl,rfl⟩) hn
 simp only[execOp,resolve,Sem.run_bind,Sem.run_pure,Result.andThen_ok,invoke,builtin,List.map_toArray,List.map_cons,List.map_nil,hx,hy]
 rfl
def Ow.maxI {x y:Operand} {ts:Array TypeId} {a b:Int} (hs:a_ ops f ⟨d, .call ⟨.builtin .max, #[x,y],ts⟩,ty,ps,af,g⟩=false) (hx:ev f x=vi a) (hy:ev f y=vi b)
  (hn:Ow P w0 ops md.next rest (aX f d (vi (if b>a then b else a))) L N):Ow P w0 ops md (⟨d, .call ⟨.builtin .max, #[x,y],ts⟩,ty,ps,af,g⟩::rest) f L N:=by
 refine Ow.calm rfl rfl hs (fun w hw=> .inl ⟨vi (if b>a then b else a),w,L, ?_,hw,rfl,rfl⟩) hn
 simp only[execOp,resolve,Sem.run_bind,Sem.run_pure,Result.andThen_ok,invoke,builtin,List.map_toArray,List.map_cons,List.map_nil,hx,hy]
 rfl
end
structure Ext (w:World) (X D:aB):Prop where
 new: ∀c,c∈keys D→c∈keys X∨w.heap.size≤c
 all: ∀c,c∈keys X→c∈keys D
def Ext.refl (w:World) (X:aB):Ext w X X:=⟨fun _ h=> .inl h,fun _ h=>h⟩
theorem Ext.setB {w:World} {X D:aB} {b:Nat} {o:Obj} (h:Ext w X D):Ext w X (setB D b o):=⟨fun c hc=>h.new c (by rwa [rB] at hc),fun c hc=>by rw[rB];exact h.all c hc⟩
def Ext.app {w:World} {X D:aB} {b:Nat} {o:Obj} (h:Ext w X D) (hb:w.heap.size≤b):Ext w X (D++ [(b,o)]):=
 ⟨fun c hc=>by
  rw[ae] at hc
  rcases List.mem_append.1 hc with hc|hc
  ·exact h.new c hc
  simp only[keys,List.map_cons,List.map_nil,List.mem_singleton] at hc
  exact .inr (hc▸hb),fun c hc=>by rw[ae];exact bl _ (h.all c hc)⟩
def Ext.grew {w:World} {X D D':aB} {v:Value} (h:Ext w X D) (hg:Grew w v D D'):Ext w X D':=
 ⟨fun c hc=>by
  rcases hg.new c hc with hc| ⟨-,hc⟩
  ·exact h.new c hc
  exact .inr hc,fun c hc=>hg.keys c (h.all c hc)⟩
theorem Ext.keys {w:World} {X D D':aB} (h:Ext w X D) (hk:Sx.keys D'=Sx.keys D):Ext w X D':=⟨fun c hc=>h.new c (hk▸hc),fun c hc=>hk▸h.all c hc⟩
def kY {w0:World} {L:aB} {b:Nat} (h:b∉Sx.keys L):aT w0 L b=w0.heap[b]? :=by
 unfold aT
 cases hl:look L b with
 |none=>rfl
 |some o=>exact absurd (cC hl) h
def Ext.not {w:World} {X D:aB} (h:Ext w X D) {b:Nat} (hb:b<w.heap.size) (hn:b∉Sx.keys X):b∉Sx.keys D:=fun hm=>by
 rcases h.new b hm with h|h
 ·exact hn h
 omega
def Ext.old {w:World} {X D:aB} (h:Ext w X D) {b:Nat} {o:Obj} (hb:w.heap[b]? =some o) (hn:b∉Sx.keys X):aT w D b=some o:=by
 rw[kY (h.not (Array.getElem?_eq_some_iff.1 hb).1 hn)];exact hb
def XS (w:World) (X:aB) (S:Value→aB→Prop) (v:Value) (D:aB):Prop:=Ext w X D∧S v D
structure Came (w0:World) (L X D:aB):Prop where
 new: ∀c,c∈Sx.keys D→c∈Sx.keys X∨(eP L c∧w0.heap.size≤c)
 all: ∀c,c∈Sx.keys X→c∈Sx.keys D
def Ext.came {w:World} {X D D' Y L:aB} (h:Ext w X (D++Y)) (hc:Came w L D D'):Ext w X (D'++Y):=by
 refine⟨fun c hm=> ?_,fun c hm=> ?_⟩
 ·rw[ae] at hm
  rcases List.mem_append.1 hm with hm|hm
  ·rcases hc.new c hm with hm| ⟨-,hm⟩
   ·exact h.new c (by rw[ae];exact bl _ hm)
   exact .inr hm
  exact h.new c (by rw[ae];exact db _ hm)
 have:=h.all c hm
 rw[ae] at this ⊢
 rcases List.mem_append.1 this with hm|hm
 ·exact bl _ (hc.all c hm)
 exact db _ hm
def Ext.came0 {w:World} {X D D' L:aB} (h:Ext w X D) (hc:Came w L D D'):Ext w X D':=by
 have:=Ext.came (Y:= []) (by simpa using h) hc
 simpa using this
def Hp.ownX {w0 w:World} {X:aB} (h:Hp w0 [] w) (hX: ∀p,p∈X→w0.heap[p.1]? =some p.2) (hn: (keys X).Nodup):Hp w0 X w:=by
 refine⟨fun b o hm=> ?_,hn,fun b hb _=>h.old b hb (by simp[keys]),h.size,h.tape,h.os,h.output⟩
 have:=hX (b,o) hm
 simp only at this
 rw[h.old b (Array.getElem?_eq_some_iff.1 this).1 (by simp[keys])]
 exact this
def Rets.enterX {P:Program} {k:FuncId} {fn:Func} {c:Code} {rs:List ResultVar} {args:Array Value} {w:World} {S:Value→aB→Prop} {n:Nat} {X:aB}
  (hf:P.funcs[k]? =some fn) (hb:fn.body=some c) (hr:fn.results=rs.toArray) (hn:fn.ntmps=n) (hX: ∀p,p∈X→w.heap[p.1]? =some p.2) (ao: (keys X).Nodup)
  (h:Cw P w c (args.toList++List.replicate (n - args.size) undef) X (retK P w rs (XS w X S))):Rets P k args w (XS w X S):=
 Rets.enter hf hb hr hn fun w' aA=>h w' (aA.ownX hX ao)
section
variable {P:Program} {w0:World} {f:Fr} {L:aB} {N:Fr→aB→Prop} {ops:Array Oper} {rest:List Oper} {md:Md}
 {d:Option Tmp} {ty:TypeId} {ps:String} {af:Array Edge} {g:Option (Nat×Bool)}
def Ow.callX {l:List Operand} {ts:Array TypeId} {k:FuncId} {X Y:aB} {S:Value→aB→Prop} {md':Md} (hL:L=X++Y) (he:md.turn=some md')
  (hs:a_ ops f ⟨d, .call ⟨.value (.func k),l.toArray,ts⟩,ty,ps,af,g⟩=false)
  (hk: ∀a w,(callFunc k a).run P w= .ok (.enter k a) w)
  (hc: ∀w,Hp w0 L w→(∀p,p∈X→w.heap[p.1]? =some p.2)→(keys X).Nodup→Rets P k (l.map (ev f)).toArray w (XS w X S))
  (hn: ∀v D,Came w0 L X D→S v D→Ow P w0 ops md' rest (aX f d v) (D++Y) N):
  Ow P w0 ops md (⟨d, .call ⟨.value (.func k),l.toArray,ts⟩,ty,ps,af,g⟩::rest) f L N:=by
 subst hL
 have ao: ∀w,Hp w0 (X++Y) w→(keys X).Nodup∧ ∀c,c∈keys Y→c∉keys X:=by
  intro w hw
  have:=hw.nodup
  rw[ae,List.nodup_append] at this
  exact⟨this.1,fun c hc hx=>this.2.2 c hx c hc rfl⟩
 refine Ow.callF (S:=fun B v D=>((∀c,c∈keys D→c∈keys X∨B≤c)∧(∀c,c∈keys X→c∈keys D)∧S v D)∧ ∃w,Hp w0 (X++Y) w∧w.heap.size=B) he hs hk (fun w hw=> ?_) ?_
 ·refine Calls.mono (hc w hw (fun p hp=>hw.has _ _ (bl _ hp)) (ao w hw).1) ?_
  rintro e w' ⟨v,D,he,hp,hS⟩
  exact⟨v,D,he,hp,⟨hS.1.new,hS.1.all,hS.2⟩,w,hw,rfl⟩
 rintro B v D jn hB ⟨⟨h1,h2,h3⟩,w1,aP,hwB⟩
 refine⟨D++Y, ?_,hn v D ⟨fun c hc=>(h1 c hc).imp id fun h=>⟨iF fun b hb=>by have:=aP.lt hb;omega,by have:=aP.size;omega⟩,h2⟩ h3⟩
 intro w w' I6 h k
 have ht:=h.trans k
 have hY: ∀c,c∈keys Y→c∉keys D:=by
  intro c hc hd
  rcases h1 c hd with hx|hx
  ·exact(ao w h).2 c hc hx
  have:=h.lt (b:=c) (by rw[ae];exact db _ hc)
  omega
 have e1:X.filter (fun p=> !(keys D).contains p.1)= []:=by
  rw[List.filter_eq_nil_iff]
  intro p hp
  have:=h2 p.1 (List.mem_map.2 ⟨p,hp,rfl⟩)
  simpa using this
 have e2:Y.filter (fun p=> !(keys D).contains p.1)=Y:=IN hY
 rw[List.filter_append,e1,e2,List.nil_append] at ht
 refine ht.same (fun p=>by simp[or_comm]) ?_
 have:=ht.nodup
 rw[ae] at this ⊢
 exact(List.perm_append_comm.nodup_iff).1 this
end
structure OneS {α:Type} (enc:α→Value) (z:α) (w:World) (v:Value) (l:List α) (b off:Nat) (arr:Array Value) (E:TypeId) (fz:Nat×Nat):Prop where
 len: ∀m,eb (.sl m) v=some (vi l.length)
 idx: ∀m (k:Nat),k<l.length→nC (.sl m) v (some (k:Int))=some (vp b (off+k*m.2))
 has:0<l.length→w.heap[b]? =some (.cells arr E fz)
 get: ∀k,k<l.length→arr[off+k]? =some (enc (l.getD k z))
def OneS.sl {α:Type} {enc:α→Value} {z:α} {w:World} {l:List α} {b off n c:Nat} {arr:Array Value} {E:TypeId} {fz:Nat×Nat} (hn:n=l.length)
  (has:w.heap[b]? =some (.cells arr E fz)) (get: ∀k,k<l.length→arr[off+k]? =some (enc (l.getD k z))):OneS enc z w (vsl b off n c) l b off arr E fz:=by
 subst hn
 exact⟨fun _=>rfl,fun m k h=>by rw[I9 _ _ _ _ _ _ oM];simp,fun _=>has,get⟩
def OneS.lit {α:Type} {enc:α→Value} {z:α} {w:World} {b n c:Nat} {E:TypeId} {fz:Nat×Nat} {arr:Array Value} (l:List α) (hn:n=l.length) (ha:arr=(l.map enc).toArray) (has:w.heap[b]? =some (.cells arr E fz)):OneS enc z w (vsl b 0 n c) l b 0 arr E fz:=
 OneS.sl hn has (by intro k hk;rw[ha,Nat.zero_add,List.getElem?_toArray,List.getElem?_map,List.getD_eq_getElem?_getD,List.getElem?_eq_getElem hk];rfl)
def zA {L:aB} {b:Nat} {o x:Obj} (h:eP L b):setB (L++ [(b,o)]) b x=L++ [(b,x)]:=by
 induction L with
 |nil=>simp[setB]
 |cons p r ih=>
  obtain⟨c,y⟩:=p
  simp only[List.cons_append,setB]
  rw[if_neg (fun e=>Nat.lt_irrefl _ (e▸h.1)),ih h.2]
structure RowS {α:Type} (m:Nat) (enc:α→List Value) (z:α) (w:World) (v:Value) (l:List α) (b off:Nat) (arr:Array Value) (E:TypeId) (fz:Nat×Nat):Prop where
 len: ∀x,eb (.sl x) v=some (vi l.length)
 idx: ∀a (k:Nat),k<l.length→nC (.sl (a,m)) v (some (k:Int))=some (vp b (off+k*m))
 has:0<l.length→w.heap[b]? =some (.cells arr E fz)
 get: ∀k,k<l.length→ ∀j,j<m→arr[off+k*m+j]? =(enc (l.getD k z))[j]?
def RowS.sl {α:Type} {m:Nat} {enc:α→List Value} {z:α} {w:World} {l:List α} {b off n c:Nat} {arr:Array Value} {E:TypeId} {fz:Nat×Nat} (hn:n=l.length)
  (has:w.heap[b]? =some (.cells arr E fz)) (get: ∀k,k<l.length→ ∀j,j<m→arr[off+k*m+j]? =(enc (l.getD k z))[j]?):RowS m enc z w (vsl b off n c) l b off arr E fz:=by
 subst hn
 exact⟨fun _=>rfl,fun a k h=>by rw[I9 _ _ _ _ _ _ oM];simp,fun _=>has,get⟩
def RowS.nil {α:Type} {m:Nat} {enc:α→List Value} {z:α} (w:World) (n c:Nat) (hn:n=0):RowS m enc z w (.slice none n c) [] 0 0 #[] 0 (0,0):=by
 subst hn
 exact⟨fun _=>rfl,fun _ _ h=>absurd h (Nat.not_lt_zero _),fun h=>absurd h (Nat.not_lt_zero _),fun _ h=>absurd h (Nat.not_lt_zero _)⟩
def RowS.load {α:Type} {m:Nat} {enc:α→List Value} {z:α} {w:World} {v:Value} {l:List α} {b off:Nat} {arr:Array Value} {E:TypeId} {fz:Nat×Nat} (h:RowS m enc z w v l b off arr E fz) (hm: ∀x,(enc x).length=m) (h0:0<m) {k:Nat} (hk:k<l.length):
  aQ (some (true,m)) (some (.cells arr E fz)) (off+k*m)=some (.agg (enc (l.getD k z)).toArray):=by
 have hg:=h.get k hk
 have e_:off+k*m+m≤arr.size:=by
  have h1:=hg (m - 1) oM
  rw[List.getElem?_eq_getElem (by rw[hm];omega)] at h1
  have:=(Array.getElem?_eq_some_iff.1 h1).1
  omega
 simp only[aQ,e_, ↓reduceIte]
 congr 2
 apply Array.ext_getElem?
 intro j
 rw[Array.getElem?_extract]
 by_cases hj:j<m
 ·rw[if_pos oM,hg j hj,List.getElem?_toArray]
 rw[if_neg oM,List.getElem?_toArray,List.getElem?_eq_none (by rw[hm];omega)]
def RowS.cell {α:Type} {m:Nat} {enc:α→List Value} {z:α} {w:World} {v:Value} {l:List α} {b off:Nat} {arr:Array Value} {E:TypeId} {fz:Nat×Nat} (h:RowS m enc z w v l b off arr E fz) {k j n:Nat} (hk:k<l.length) (hj:j<m):
  aQ (some (false,n)) (some (.cells arr E fz)) (off+k*m+j)=(enc (l.getD k z))[j]? :=h.get k hk j hj
end Go.Sx
namespace Go.Sx
open Go
section
variable {P:Program} {w0:World} {f:Fr} {L:aB} {N:Fr→aB→Prop} {ops:Array Oper} {rest:List Oper} {md:Md}
 {d:Option Tmp} {ty:TypeId} {ps:String} {af:Array Edge} {g:Option (Nat×Bool)}
def Vy_ (l:List UInt8) (k size:Nat) (w:World): (Builtin.firstCells size k (vs l)).run P w= .ok ((l.take k).map v8).toArray w:=by
 simp only[vs,Builtin.firstCells]
 show Result.ok _ w=_
 congr 1
 have: ((ByteArray.mk l.toArray).extract 0 k).data=(l.take k).toArray:=by
  rw[ByteArray.data_extract]
  simp
 rw[this]
 simp
 rfl
def bB (R:List Nat) (x:UInt8):rdIn R (v8 x)=true:=(rfl)
def iH (R:List Nat) (x:UInt16):rdIn R (v16 x)=true:=(rfl)
def iG (R:List Nat) (x:UInt32):rdIn R (v32 x)=true:=(rfl)
def iE (R:List Nat) (x:UInt64):rdIn R (v64 x)=true:=(rfl)
def bA (R:List Nat) (x:Int):rdIn R (vi x)=true:=(rfl)
def Ow.copyText {td tx e:TypeId} {m:Bool×Nat} {x y:Operand} {b off n c:Nat} {l:List UInt8} {cs:Array Value} {E:TypeId} {md':Md} (he:md.turn=some md')
  (hs:a_ ops f ⟨d, .call ⟨.builtin .copy, #[x,y], #[td,tx]⟩,ty,ps,af,g⟩=false) (hu:P.underlying td=some (.slice e)) (hm:aK P e=some m)
  (hx:ev f x=vsl b off n c) (hy:ev f y=vs l) (hl:look L b=some (.cells cs E (0,0))) (hn:off+n≤cs.size)
  (hO:Ow P w0 ops md' rest (aX f d (vi (min l.length n:Nat))) (setB L b (.cells (dZ cs off ((l.take (min l.length n)).map v8)) E (0,0))) N):
  Ow P w0 ops md (⟨d, .call ⟨.builtin .copy, #[x,y], #[td,tx]⟩,ty,ps,af,g⟩::rest) f L N:=by
 refine Ow.step he rfl hs fun w hw=> ?_
 have hb:=hw.has _ _ (cu hl)
 have aC:=(Array.getElem?_eq_some_iff.1 hb).1
 have aS: (Builtin.lenOf (vs l)).run P w= .ok l.length w:=by simp only[vs,Builtin.lenOf,uU];rfl
 have hfc:=Vy_ (P:=P) l (min l.length n) m.2 w
 have bL:=K5 (P:=P) (b:=b) (off:=off) (E:=E) (fz:=(0,0)) ((l.take (min l.length n)).map v8) 0 cs w hb (by
  rw[List.length_map,List.length_take];have:=Nat.min_le_right l.length n;omega) (.inl (ap 0)) (by rw[List.all_map,List.all_eq_true];intro x _;rfl)
 refine .inl ⟨vi (min l.length n:Nat),{w with heap:=w.heap.setIfInBounds b (.cells (dZ cs off ((l.take (min l.length n)).map v8)) E (0,0))},_, ?_,hw.set (cC hl) rfl rfl rfl rfl,hO⟩
 simp only[execOp,resolve,Sem.run_bind,Sem.run_pure,Result.andThen_ok,invoke,builtin,List.map_toArray,List.map_cons,List.map_nil,hx,hy]
 have: (Builtin.copy_ #[td,tx] ty #[vsl b off n c,vs l]).run P w= .ok (vi (min l.length n:Nat)) {w with heap:=w.heap.setIfInBounds b (.cells (dZ cs off ((l.take (min l.length n)).map v8)) E (0,0))}:=by
  simp only[Builtin.copy_,vsl,List.getElem?_toArray,List.getElem?_cons_zero,List.getElem?_cons_succ,Sem.run_bind,run_underlying hu w,Result.andThen_ok,aS,gq hm w]
  rw[show l.length.min n=min l.length n from rfl,hfc]
  simp only[Result.andThen_ok]
  rw[bL]
  rfl
 rw[this]
 rfl
end
end Go.Sx
namespace Go.Sx
open Go
section
variable {P:Program} {w0:World} {f:Fr} {L:aB} {N:Fr→aB→Prop} {ops:Array Oper} {rest:List Oper} {md:Md}
 {d:Option Tmp} {ty:TypeId} {ps:String} {af:Array Edge} {g:Option (Nat×Bool)}
def gh (n:Int):Value:= .int .i32 n
def wC (op:BinOp) (t:TypeId) (a b:Int):ab P op t (gh a) (gh b)=aD op (gh a) (gh b):=(rfl)
def KX (a b:Int):aD .lss (gh a) (gh b)=some (.bool (decide (a<b))):=by simp[aD,gh,bJ,fO]
def KQ (a b:Int):aD .gtr (gh a) (gh b)=some (.bool (decide (b<a))):=by simp[aD,gh,bJ,fO]
def KT (a b:Int):aD .eql (gh a) (gh b)=some (.bool (a==b)):=by simp[aD,gh,bJ,fO]
def ws (n:Int):Value.int .i32 n=gh n:=(rfl)
def Ow.callFn1 {x y:Operand} {ts:Array TypeId} {k:FuncId} {v a:Value} (hs:a_ ops f ⟨d, .call ⟨.value x, #[y],ts⟩,ty,ps,af,g⟩=false) (hx:ev f x= .func (.func k) #[] #[]) (hy:ev f y=a)
  (hk: ∀a w,(callFunc k a).run P w= .ok (.enter k a) w) (hc: ∀w,Hp w0 L w→Rets P k #[a] w (fun v' D=>v'=v∧D= [])) (hn:Ow P w0 ops md.next rest (aX f d v) L N):
  Ow P w0 ops md (⟨d, .call ⟨.value x, #[y],ts⟩,ty,ps,af,g⟩::rest) f L N:=
 Ow.callV hs hx hk (fun w hw=>by simpa [hy] using hc w hw) hn
def Ow.rangeText {t:TypeId} {x:Operand} {l:List UInt8} {md':Md} (he:md.turn=some md') (hs:a_ ops f ⟨d, .range t x,ty,ps,af,g⟩=false) (hu:P.underlying t=some .string) (hx:ev f x=vs l)
  (hn: ∀b,eP L b→w0.heap.size≤b→Ow P w0 ops md' rest (aX f d (vp b 0)) (L++ [(b, .stringIter ⟨l.toArray⟩ 0)]) N):
  Ow P w0 ops md (⟨d, .range t x,ty,ps,af,g⟩::rest) f L N:=by
 refine Ow.step he rfl hs fun w hw=> .inl ⟨vp w.heap.size 0,w.alloc (.stringIter ⟨l.toArray⟩ 0),_, ?_,hw.alloc _,hn _ (iF fun b hb=>hw.lt hb) hw.size⟩
 simp only[execOp,Instr.range,Sem.run_bind,run_underlying hu w,Result.andThen_ok,hx,vs]
 rfl
def Ow.nextText {x:Operand} {b:Nat} {l:List UInt8} {pos:Nat} {md':Md} (he:md.turn=some md') (hs:a_ ops f ⟨d, .next x true,ty,ps,af,g⟩=false) (hx:ev f x=vp b 0) (hl:look L b=some (.stringIter ⟨l.toArray⟩ pos)) (hp:pos<l.length)
  (hn:Ow P w0 ops md' rest (aX f d (.tuple #[.bool true,vi pos,gh (Utf8.decode ⟨l.toArray⟩ pos).1])) (setB L b (.stringIter ⟨l.toArray⟩ (pos+ (Utf8.decode ⟨l.toArray⟩ pos).2))) N):
  Ow P w0 ops md (⟨d, .next x true,ty,ps,af,g⟩::rest) f L N:=by
 refine Ow.step he rfl hs fun w hw=> ?_
 have hb:=hw.has _ _ (cu hl)
 refine .inl ⟨_,{w with heap:=w.heap.setIfInBounds b (.stringIter ⟨l.toArray⟩ (pos+ (Utf8.decode ⟨l.toArray⟩ pos).2))},_, ?_,hw.set (cC hl) rfl rfl rfl rfl,hn⟩
 have hg: (getObj b).run P w= .ok (.stringIter ⟨l.toArray⟩ pos) w:=by
  simp only[getObj,Sem.run,hb]
 have bL: ∀o,(setObj b o).run P w= .ok () {w with heap:=w.heap.setIfInBounds b o}:=by
  intro o;simp only[setObj,Sem.run,hb]
 have e_:pos< (ByteArray.mk l.toArray).size:=by rw[uU];exact hp
 have: (Instr.next (vp b 0) true ty).run P w= .ok (.tuple #[.bool true,vi pos,gh (Utf8.decode ⟨l.toArray⟩ pos).1]) {w with heap:=w.heap.setIfInBounds b (.stringIter ⟨l.toArray⟩ (pos+ (Utf8.decode ⟨l.toArray⟩ pos).2))}:=by
  simp only[Instr.next,vp,Sem.run_bind,hg,Result.andThen_ok,e_, ↓reduceIte,bL]
  rfl
 simp only[execOp,Sem.run_bind,hx]
 rw[this]
 rfl
def Ow.nextOver {x:Operand} {b:Nat} {l:List UInt8} {pos:Nat} {md':Md} (he:md.turn=some md') (hs:a_ ops f ⟨d, .next x true,ty,ps,af,g⟩=false) (hx:ev f x=vp b 0) (hl:look L b=some (.stringIter ⟨l.toArray⟩ pos)) (hp: ¬pos<l.length)
  (hn:Ow P w0 ops md' rest (aX f d (.tuple #[.bool false])) L N):
  Ow P w0 ops md (⟨d, .next x true,ty,ps,af,g⟩::rest) f L N:=by
 refine Ow.step he rfl hs fun w hw=> ?_
 have hb:=hw.has _ _ (cu hl)
 refine .inl ⟨.tuple #[.bool false],w,_, ?_,hw,hn⟩
 have hg: (getObj b).run P w= .ok (.stringIter ⟨l.toArray⟩ pos) w:=by
  simp only[getObj,Sem.run,hb]
 have e_: ¬pos< (ByteArray.mk l.toArray).size:=by rw[uU];exact hp
 have: (Instr.next (vp b 0) true ty).run P w= .ok (.tuple #[.bool false]) w:=by
  simp only[Instr.next,vp,Sem.run_bind,hg,Result.andThen_ok,e_, ↓reduceIte]
  rfl
 simp only[execOp,Sem.run_bind,hx]
 rw[this]
 rfl
end
def Vs_ (l:List UInt8) (i:Nat) (h:i<l.length):0< (Utf8.decode ⟨l.toArray⟩ i).2∧
  ((l.getD i 0).toNat<128→Utf8.decode ⟨l.toArray⟩ i=((l.getD i 0).toNat,1))∧(128≤ (l.getD i 0).toNat→128≤ (Utf8.decode ⟨l.toArray⟩ i).1):=by
 have hb: ((ByteArray.mk l.toArray).get! (i+0))=l.getD i 0:=by
  simp[ByteArray.get!,h]
 unfold Utf8.decode
 simp only[hb]
 generalize (l.getD i 0).toNat=b0
 refine⟨?_,fun h1=> ?_,fun h1=> ?_⟩
 ·(repeat' split)<;>simp
 ·rw[if_pos h1]
 rw[if_neg oM]
 (repeat' split)<;>first
  | (simp only[Utf8.runeError];omega)
  | (rename_i hc;simp only[Bool.and_eq_true,decide_eq_true_eq,ge_iff_le] at hc;omega)
  | (rename_i hc;simp only[ge_iff_le] at hc;omega)
end Go.Sx
namespace Go.Sx
open Go
abbrev aZ:=List (List UInt8×List UInt8)
def fnd (k:List UInt8):aZ→Nat→Option (Nat×List UInt8)
 | [],_=>none
 |p::r,i=>if k==p.1 then some (i,p.2) else fnd k r (i+1)
def updV (k v:List UInt8):aZ→aZ
 | []=> [(k,v)]
 |p::r=>if k==p.1 then(p.1,v)::r else p::updV k v r
def delV (k:List UInt8):aZ→aZ
 | []=> []
 |p::r=>if k==p.1 then r else p::delV k r
def jS (p:List UInt8×List UInt8):Value×Value:=(vs p.1, .agg (a8 p.2))
def MapR (o:Obj) (m:aZ):Prop:= ∃es clock,o= .map es clock∧es.toList.map (fun e=>(e.key,e.val))=m.map jS∧(es.toList.map (·.born)++ [clock]).Pairwise (· < ·)
def Cn {es:List MapEntry} {c:Nat} {e:MapEntry} (h: (es.map (·.born)++ [c]).Pairwise (· < ·)) (he:e.born=c): ((es++ [e]).map (·.born)++ [c+1]).Pairwise (· < ·):=by
 rw[List.map_append,List.map_cons,List.map_nil,he]
 refine List.pairwise_append.2 ⟨h,List.pairwise_singleton _ _, ?_⟩
 intro a ha b hb
 rw[List.mem_singleton] at hb
 subst hb
 rcases List.mem_append.1 ha with hm|hm
 ·have:=(List.pairwise_append.1 h).2.2 a hm c (List.mem_singleton.2 rfl)
  omega
 rw[List.mem_singleton] at hm
 omega
def Vd_ {es:List MapEntry} {j:Nat} {g:MapEntry→MapEntry} (hg: ∀e,(g e).born=e.born): (es.modify j g).map (·.born)=es.map (·.born):=by
 apply List.ext_getElem?
 intro i
 rw[List.getElem?_map,List.getElem?_map,List.getElem?_modify]
 cases es[i]? with
 |none=>rfl
 |some e=>
  by_cases h:j=i
  ·simp[h,hg]
  simp[h]
def BV {es:List MapEntry} {c j:Nat} (h: (es.map (·.born)++ [c]).Pairwise (· < ·)): ((es.eraseIdx j).map (·.born)++ [c]).Pairwise (· < ·):=
 h.sublist (((List.eraseIdx_sublist es j).map _).append_right [c])
def vx (a b:List UInt8): ((ByteArray.mk a.toArray)==(ByteArray.mk b.toArray))=(a==b):=by
 show(a.toArray==b.toArray)=(a==b)
 simp
theorem BL (k:List UInt8): ∀ (es:List MapEntry) (m:aZ) (i:Nat),es.map (fun e=>(e.key,e.val))=m.map jS→
  Instr.findNow .string (vs k) es i=some ((fnd k m i).map fun p=>(p.1, .agg (a8 p.2)))
 | [],[],i,_=>rfl
 | [],_::_,_,h=>by cases h
 |_::_,[],_,h=>by cases h
 |e::es,p::m,i,h=>by
  simp only[List.map_cons,List.cons.injEq,jS,Prod.mk.injEq] at h
  obtain⟨⟨h1,h2⟩,h3⟩:=h
  unfold Instr.findNow
  have hs:Instr.sameNow .string (vs k) e.key=some (k==p.1):=by
   rw[h1]
   simp only[vs,Instr.sameNow,vx]
  rw[hs]
  unfold fnd
  cases hk: (k==p.1)
  ·simp only[Bool.false_eq_true, ↓reduceIte]
   exact BL k es m (i+1) h3
  simp[h2]
theorem Iu (k:List UInt8): ∀ (m:aZ) (i j:Nat) (v:List UInt8),fnd k m i=some (j,v)→i≤j∧ ∃a,m[j - i]? =some (k,a)∧a=v
 | [],_,_,_,h=>by cases h
 |p::r,i,j,v,h=>by
  unfold fnd at h
  split at h
  ·rename_i hk
   cases h
   refine⟨ap _,p.2, ?_,rfl⟩
   rw[Nat.sub_self,List.getElem?_cons_zero,eq_of_beq hk]
  obtain⟨h1,a,h2,h3⟩:=Iu k r (i+1) j v h
  refine⟨by omega,a, ?_,h3⟩
  rw[show j - i=(j - (i+1))+1 by omega,List.getElem?_cons_succ];exact h2
theorem CT (k v:List UInt8): ∀ (es:List MapEntry) (m:aZ) (i j:Nat) (a:List UInt8),es.map (fun e=>(e.key,e.val))=m.map jS→fnd k m i=some (j,a)→
  (es.modify (j - i) fun e=>{e with key:=vs k,val:= .agg (a8 v)}).map (fun e=>(e.key,e.val))=(updV k v m).map jS
 | [],[],_,_,_,_,h=>by cases h
 | [],_::_,_,_,_,h,_=>by cases h
 |_::_,[],_,_,_,h,_=>by cases h
 |e::es,p::m,i,j,a,h,hf=>by
  simp only[List.map_cons,List.cons.injEq,jS,Prod.mk.injEq] at h
  obtain⟨⟨h1,h2⟩,h3⟩:=h
  unfold fnd at hf
  unfold updV
  split at hf
  ·rename_i hk
   cases hf
   rw[if_pos hk,Nat.sub_self]
   simp only[List.modify_zero_cons,List.map_cons,jS,eq_of_beq hk]
   rw[h3]
  rename_i hk
  have dC:=(Iu k m (i+1) j a hf).1
  rw[if_neg hk,show j - i=(j - (i+1))+1 by omega]
  simp only[List.modify_succ_cons,List.map_cons,jS]
  rw[CT k v es m (i+1) j a h3 hf,h1,h2]
theorem DT (k v:List UInt8): ∀ (m:aZ) (i:Nat),fnd k m i=none→updV k v m=m++ [(k,v)]
 | [],_,_=>rfl
 |p::r,i,h=>by
  unfold fnd at h
  split at h
  ·cases h
  rename_i hk
  unfold updV
  rw[if_neg hk,DT k v r (i+1) h];rfl
theorem C7 (k:List UInt8): ∀ (es:List MapEntry) (m:aZ) (i j:Nat) (a:List UInt8),es.map (fun e=>(e.key,e.val))=m.map jS→fnd k m i=some (j,a)→
  (es.eraseIdx (j - i)).map (fun e=>(e.key,e.val))=(delV k m).map jS
 | [],[],_,_,_,_,h=>by cases h
 | [],_::_,_,_,_,h,_=>by cases h
 |_::_,[],_,_,_,h,_=>by cases h
 |e::es,p::m,i,j,a,h,hf=>by
  simp only[List.map_cons,List.cons.injEq] at h
  obtain⟨h1,h3⟩:=h
  unfold fnd at hf
  unfold delV
  split at hf
  ·rename_i hk
   cases hf
   rw[if_pos hk,Nat.sub_self]
   exact h3
  rename_i hk
  have dC:=(Iu k m (i+1) j a hf).1
  rw[if_neg hk,show j - i=(j - (i+1))+1 by omega]
  simp only[List.eraseIdx_cons_succ,List.map_cons]
  rw[C7 k es m (i+1) j a h3 hf,h1]
theorem Cu (k:List UInt8): ∀ (m:aZ) (i:Nat),fnd k m i=none→delV k m=m
 | [],_,_=>rfl
 |p::r,i,h=>by
  unfold fnd at h
  split at h
  ·cases h
  rename_i hk
  unfold delV
  rw[if_neg hk,Cu k r (i+1) h]
section
variable {P:Program} {w0:World} {f:Fr} {L:aB} {N:Fr→aB→Prop} {ops:Array Oper} {rest:List Oper} {md:Md}
 {d:Option Tmp} {ty:TypeId} {ps:String} {af:Array Edge} {g:Option (Nat×Bool)}
def KI {w:World} {t:TypeId} (hu:P.underlying t=some .string) (k:List UInt8) (es:List MapEntry) (m:aZ) (h:es.map (fun e=>(e.key,e.val))=m.map jS):
  (Instr.findKey t (vs k) es).run P w= .ok ((fnd k m 0).map fun p=>(p.1, .agg (a8 p.2))) w:=by
 simp only[Instr.findKey,Sem.run_bind,run_underlying hu w,Result.andThen_ok,BL k es m 0 h]
 rfl
def AM {w:World} {t:TypeId} (hu:P.underlying t=some .string) (e:Bool) (k:List UInt8): (Instr.checkKey e 10000 t (vs k)).run P w= .ok () w:=by
 unfold Instr.checkKey
 simp only[Sem.run_bind,run_underlying hu w,Result.andThen_ok,vs]
 rfl
def lJ {w:World} {b:Nat} {es:Array MapEntry} {c:Nat} (hb:w.heap[b]? =some (.map es c)): (getObj b).run P w= .ok (.map es c) w:=by
 simp only[getObj,Sem.run,hb]
def uE {w:World} {b:Nat} {es:Array MapEntry} {c:Nat} (hb:w.heap[b]? =some (.map es c)) (o:Obj): (setObj b o).run P w= .ok () {w with heap:=w.heap.setIfInBounds b o}:=by
 simp only[setObj,Sem.run,hb]
def vm (b:Nat):Value:= .map (some b)
theorem Ow.makeMap {t:TypeId} {md':Md} (he:md.turn=some md') (hs:a_ ops f ⟨d, .makeMap t none,ty,ps,af,g⟩=false)
  (hn: ∀b o,eP L b→w0.heap.size≤b→MapR o []→Ow P w0 ops md' rest (aX f d (vm b)) (L++ [(b,o)]) N):
  Ow P w0 ops md (⟨d, .makeMap t none,ty,ps,af,g⟩::rest) f L N:=by
 refine Ow.step he rfl hs fun w hw=> .inl ⟨vm w.heap.size,w.alloc (.map #[] 0),_, ?_,hw.alloc _,hn _ _ (iF fun b hb=>hw.lt hb) hw.size ⟨#[],0,rfl,rfl,List.pairwise_singleton _ _⟩⟩
 simp only[execOp,Instr.makeMap,Sem.run_bind,Option.map_none]
 rfl
def Ow.lenMap {t kt vt:TypeId} {x:Operand} {b:Nat} {o:Obj} {m:aZ} (hs:a_ ops f ⟨d, .call ⟨.builtin .len, #[x], #[t]⟩,ty,ps,af,g⟩=false) (hsq:md= .seq) (hu:P.underlying t=some (.map kt vt)) (hx:ev f x=vm b) (hl:aT w0 L b=some o) (hm:MapR o m)
  (hn:Ow P w0 ops md rest (aX f d (vi m.length)) L N):Ow P w0 ops md (⟨d, .call ⟨.builtin .len, #[x], #[t]⟩,ty,ps,af,g⟩::rest) f L N:=by
 subst hsq
 obtain⟨es,c,rfl,he,-⟩:=hm
 have aS:es.size=m.length:=by have:=congrArg List.length he;simpa using this
 intro w hw
 have hb:=hw.read hl
 have hS:OpS P w0 f L ⟨d, .call ⟨.builtin .len, #[x], #[t]⟩,ty,ps,af,g⟩ (fun v L'=>v=vi m.length∧L'=L):=by
  intro w hw
  have hb:=hw.read hl
  refine .inl ⟨_,w,L, ?_,hw,rfl,rfl⟩
  simp only[execOp,resolve,Sem.run_bind,Sem.run_pure,Result.andThen_ok,invoke,builtin,List.map_toArray,List.map_cons,List.map_nil,hx]
  have: (Builtin.len_ #[t] ty #[vm b]).run P w= .ok (vi m.length) w:=by
   simp only[Builtin.len_,vm,List.getElem?_toArray,List.getElem?_cons_zero,Sem.run_bind,run_underlying hu w,Result.andThen_ok,lJ hb,aS]
   rfl
  rw[this];rfl
 unfold wpList
 rw[lH,hs]
 simp only[Bool.not_false, ↓reduceIte]
 exact .inl (hS.wp (fun v L' w' hp ⟨h1,h2⟩=>by subst h1;subst h2;exact hn w' hp) hw)
def Xw {k:List UInt8} {m:aZ} {es:List MapEntry} {j:Nat} {a:List UInt8} (h:es.map (fun e=>(e.key,e.val))=m.map jS) (hf:fnd k m 0=some (j,a)): ∃e,es[j]? =some e∧e.key=vs k:=by
 obtain⟨-,a',h1,rfl⟩:=Iu k m 0 j a hf
 rw[Nat.sub_zero] at h1
 have:=congrArg (·[j]?) h
 simp only[List.getElem?_map,h1,Option.map_some] at this
 cases he:es[j]? with
 |none=>rw[he] at this;cases this
 |some e=>
  rw[he] at this
  simp only[Option.map_some,Option.some.injEq,jS,Prod.mk.injEq] at this
  exact⟨e,rfl,this.1⟩
theorem Ow.mapUpdate {t kt vt:TypeId} {x y z:Operand} {b:Nat} {o:Obj} {m:aZ} {k v:List UInt8} {md':Md} (he:md.turn=some md') (hs:a_ ops f ⟨d, .mapUpdate t x y z,ty,ps,af,g⟩=false) (hu:P.underlying t=some (.map kt vt)) (mz:P.underlying kt=some .string)
  (hx:ev f x=vm b) (hy:ev f y=vs k) (hz:ev f z= .agg (a8 v)) (hl:look L b=some o) (hm:MapR o m)
  (hn: ∀o',MapR o' (updV k v m)→Ow P w0 ops md' rest (aX f d undef) (setB L b o') N):
  Ow P w0 ops md (⟨d, .mapUpdate t x y z,ty,ps,af,g⟩::rest) f L N:=by
 obtain⟨es,c,rfl,gC,fW⟩:=hm
 refine Ow.step he rfl hs fun w hw=> ?_
 have hb:=hw.has _ _ (cu hl)
 have eI:=KI (w:=w) mz k es.toList m gC
 cases hf:fnd k m 0 with
 |none=>
  rw[hf] at eI
  refine .inr (.inl ⟨{w with heap:=w.heap.setIfInBounds b (.map (es.push {key:=vs k,val:= .agg (a8 v),born:=c}) (c+1))},_, ?_,hw.set (cC hl) rfl rfl rfl rfl,hn _ ⟨_,_,rfl, ?_,by rw[Array.toList_push];exact Cn fW rfl⟩⟩)
  ·have: (Instr.mapUpdate t (vm b) (vs k) (.agg (a8 v))).run P w= .ok () {w with heap:=w.heap.setIfInBounds b (.map (es.push {key:=vs k,val:= .agg (a8 v),born:=c}) (c+1))}:=by
    simp only[Instr.mapUpdate,vm,Sem.run_bind,run_underlying hu w,Result.andThen_ok,lJ hb,AM mz,eI,Option.map_none,uE hb]
   simp only[execOp,Sem.run_bind,hx,hy,hz]
   rw[this];rfl
  rw[DT k v m 0 hf,Array.toList_push,List.map_append,gC,List.map_append];rfl
 |some p=>
  obtain⟨j,a⟩:=p
  rw[hf] at eI
  obtain⟨e,hej,hek⟩:=Xw gC hf
  have xw:es[j]? =some e:=by simpa using hej
  have gQ: (Instr.keyThatStays (((es[j]?).map (·.key)).getD (vs k)) (vs k)).run P w= .ok (vs k) w:=by
   rw[xw,Option.map_some,Option.getD_some,hek]
   unfold Instr.keyThatStays
   have:Instr.sameBits 10000 (vs k) (vs k)=true:=by simp[vs,Instr.sameBits,vx]
   rw[if_pos this];rfl
  refine .inr (.inl ⟨{w with heap:=w.heap.setIfInBounds b (.map (es.modify j fun e=>{e with key:=vs k,val:= .agg (a8 v)}) c)},_, ?_,hw.set (cC hl) rfl rfl rfl rfl,hn _ ⟨_,_,rfl, ?_,by rw[Array.toList_modify,Vd_ (g:=fun e=>{e with key:=vs k,val:= .agg (a8 v)}) fun _=>rfl];exact fW⟩⟩)
  ·have: (Instr.mapUpdate t (vm b) (vs k) (.agg (a8 v))).run P w= .ok () {w with heap:=w.heap.setIfInBounds b (.map (es.modify j fun e=>{e with key:=vs k,val:= .agg (a8 v)}) c)}:=by
    simp only[Instr.mapUpdate,vm,Sem.run_bind,run_underlying hu w,Result.andThen_ok,lJ hb,AM mz,eI,Option.map_some,gQ,uE hb]
   simp only[execOp,Sem.run_bind,hx,hy,hz]
   rw[this];rfl
  rw[Array.toList_modify]
  have:=CT k v es.toList m 0 j a gC hf
  rw[Nat.sub_zero] at this
  exact this
def Ow.mapDelete {t kt vt:TypeId} {x y:Operand} {t2:TypeId} {b:Nat} {o:Obj} {m:aZ} {k:List UInt8} {md':Md} (he:md.turn=some md') (hs:a_ ops f ⟨d, .call ⟨.builtin .delete, #[x,y], #[t,t2]⟩,ty,ps,af,g⟩=false) (hu:P.underlying t=some (.map kt vt)) (mz:P.underlying kt=some .string)
  (hx:ev f x=vm b) (hy:ev f y=vs k) (hl:look L b=some o) (hm:MapR o m)
  (hn: ∀o',MapR o' (delV k m)→Ow P w0 ops md' rest (aX f d (.tuple #[])) (setB L b o') N):
  Ow P w0 ops md (⟨d, .call ⟨.builtin .delete, #[x,y], #[t,t2]⟩,ty,ps,af,g⟩::rest) f L N:=by
 obtain⟨es,c,rfl,gC,fW⟩:=hm
 refine Ow.step he rfl hs fun w hw=> ?_
 have hb:=hw.has _ _ (cu hl)
 have eI:=KI (w:=w) mz k es.toList m gC
 cases hf:fnd k m 0 with
 |none=>
  rw[hf] at eI
  refine .inl ⟨.tuple #[],{w with heap:=w.heap.setIfInBounds b (.map es c)},_, ?_,hw.set (cC hl) rfl rfl rfl rfl,hn _ ⟨es,c,rfl,by rw[Cu k m 0 hf];exact gC,fW⟩⟩
  have: (Builtin.delete_ #[t,t2] ty #[vm b,vs k]).run P w= .ok (.tuple #[]) {w with heap:=w.heap.setIfInBounds b (.map es c)}:=by
   simp only[Builtin.delete_,vm,List.getElem?_toArray,List.getElem?_cons_zero,List.getElem?_cons_succ,Sem.run_bind,run_underlying hu w,Result.andThen_ok,lJ hb,AM mz,eI,Option.map_none,uE hb]
   rfl
  simp only[execOp,resolve,Sem.run_bind,Sem.run_pure,Result.andThen_ok,invoke,builtin,List.map_toArray,List.map_cons,List.map_nil,hx,hy]
  rw[this];rfl
 |some p=>
  obtain⟨j,a⟩:=p
  rw[hf] at eI
  refine .inl ⟨.tuple #[],{w with heap:=w.heap.setIfInBounds b (.map (es.eraseIdxIfInBounds j) c)},_, ?_,hw.set (cC hl) rfl rfl rfl rfl,hn _ ⟨_,c,rfl, ?_,by rw[Array.toList_eraseIdxIfInBounds];exact BV fW⟩⟩
  ·have: (Builtin.delete_ #[t,t2] ty #[vm b,vs k]).run P w= .ok (.tuple #[]) {w with heap:=w.heap.setIfInBounds b (.map (es.eraseIdxIfInBounds j) c)}:=by
    simp only[Builtin.delete_,vm,List.getElem?_toArray,List.getElem?_cons_zero,List.getElem?_cons_succ,Sem.run_bind,run_underlying hu w,Result.andThen_ok,lJ hb,AM mz,eI,Option.map_some,uE hb]
    rfl
   simp only[execOp,resolve,Sem.run_bind,Sem.run_pure,Result.andThen_ok,invoke,builtin,List.map_toArray,List.map_cons,List.map_nil,hx,hy]
   rw[this];rfl
  have:=C7 k es.toList m 0 j a gC hf
  rw[Nat.sub_zero] at this
  rw[←this]
  simp
end
end Go.Sx
