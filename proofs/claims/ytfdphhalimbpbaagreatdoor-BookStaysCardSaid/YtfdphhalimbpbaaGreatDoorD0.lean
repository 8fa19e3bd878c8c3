/-
  Part 0 of the walk: contracts of the functions that the law reaches, and the calculus they stand on.
  No conditions.
-/
import Derived.WalkKit
import Derived.Deep.LoopGhost
import Derived.ScopeJumps
set_option linter.defProp false
def ag:=@Nat.le_refl
def ah:=@List.mem_cons_self
def aq:=@List.mem_cons_of_mem
def bQ:=@List.mem_append_left
def cC:=@Nat.zero_le
def dR:=@decide_eq_true
def dS:=@List.mem_append_right
def i1:=@decide_eq_false
set_option linter.defProp false
set_option linter.unusedSimpArgs false
def aN {a b:Prop} (x:a) (y:b):a∧b:=⟨x,y⟩
open Classical in
def pM {α:Type} {l m:List α} (h:∀ a:α,l.count a=m.count a:=by intro a;simp only[List.count_append,List.count_cons,List.count_nil]<;>omega):l.Perm m:=List.perm_iff_count.2 h
def oM {p:Prop} (h:p:=by omega):p:=h
def kR {p:Prop} (h:p:=by kernel_rfl):p:=h
namespace Go.Sx
open Go
abbrev aA:=List (Nat×Obj)
def keys (L:aA):List Nat:=L.map Prod.fst
def look:aA→Nat→Option Obj
 | [],_=>none
 | (b,o)::r,k=>if b=k then some o else look r k
def setB:aA→Nat→Obj→aA
 | [],_,_=> []
 | (b,o)::r,k,x=>if b=k then(b,x)::r else(b,o)::setB r k x
def cQ {L:aA} {k:Nat} {o:Obj} (h:look L k=some o): (k,o)∈L:=by
 induction L with
 |nil=>cases h
 |cons p r ih=>
  obtain⟨b,x⟩:=p
  unfold look at h
  split at h
  ·rename_i e
   cases h;subst e;exact ah
  exact aq _ (ih h)
def CF {L:aA} {k:Nat} (h:look L k=none):k∉keys L:=by
 induction L with
 |nil=>intro h;cases h
 |cons p r ih=>
  obtain⟨b,x⟩:=p
  unfold look at h
  split at h
  ·cases h
  rename_i e
  intro hm
  rcases List.mem_cons.1 hm with h'|h'
  ·exact e h'.symm
  exact ih h h'
def ni (L:aA) (k:Nat) (x:Obj):keys (setB L k x)=keys L:=by
 induction L with
 |nil=>rfl
 |cons p r ih=>
  obtain⟨b,o⟩:=p
  unfold setB
  split
  ·rfl
  simp only[keys,List.map_cons] at ih ⊢
  rw[ih]
def xE {L:aA} (hn: (keys L).Nodup) {k b:Nat} {x o:Obj} (h: (b,o)∈setB L k x): (b=k∧o=x)∨(b≠k∧(b,o)∈L):=by
 induction L with
 |nil=>cases h
 |cons p r ih=>
  obtain⟨c,y⟩:=p
  simp only[keys,List.map_cons,List.nodup_cons] at hn
  unfold setB at h
  split at h
  ·rename_i e
   rcases List.mem_cons.1 h with h'|h'
   ·simp only[Prod.mk.injEq] at h'
    exact .inl ⟨h'.1.trans e,h'.2⟩
   refine .inr ⟨?_,aq _ h'⟩
   intro e2
   exact hn.1 (by rw[e,←e2];exact List.mem_map.2 ⟨_,h',rfl⟩)
  rename_i e
  rcases List.mem_cons.1 h with h'|h'
  ·simp only[Prod.mk.injEq] at h'
   refine .inr ⟨by rw[h'.1];exact e, ?_⟩
   rw[h'.1,h'.2];exact ah
  rcases ih hn.2 h' with h2|h2
  ·exact .inl h2
  exact .inr ⟨h2.1,aq _ h2.2⟩
structure Hp (w0:World) (L:aA) (w:World):Prop where
 has: ∀b o,(b,o)∈L→w.heap[b]? =some o
 nodup: (keys L).Nodup
 old: ∀b,b<w0.heap.size→b∉keys L→w.heap[b]? =w0.heap[b]?
 size:w0.heap.size≤w.heap.size
 tape:w.tape=w0.tape
 os:w.os=w0.os
 output:w.output=w0.output
def Hp.refl (w:World):Hp w [] w:=
 ⟨fun _ _ h=>(by cases h),List.nodup_nil,fun _ _ _=>rfl,ag _,rfl,rfl,rfl⟩
def Hp.lt {w0 w:World} {L:aA} (h:Hp w0 L w) {b:Nat} (hb:b∈keys L):b<w.heap.size:=by
 obtain⟨p,hp,rfl⟩:=List.mem_map.1 hb
 have:=h.has p.1 p.2 hp
 exact(Array.getElem?_eq_some_iff.1 this).1
def Hp.of_heap {w0 w w':World} {L:aA} (h:Hp w0 L w) (hh:w'.heap=w.heap) (ht:w'.tape=w.tape) (ho:w'.os=w.os) (hu:w'.output=w.output):Hp w0 L w':=
 ⟨by rw[hh];exact h.has,h.nodup,by rw[hh];exact h.old,by rw[hh];exact h.size,ht.trans h.tape,ho.trans h.os,hu.trans h.output⟩
theorem Hp.drew {w0 w:World} {L:aA} (h:Hp w0 L w):Hp w0 L w.drew:=h.of_heap rfl rfl rfl rfl
theorem Hp.alloc {w0 w:World} {L:aA} (h:Hp w0 L w) (o:Obj):Hp w0 (L++ [(w.heap.size,o)]) (w.alloc o):=by
 have hk: ∀b,b∈keys (L++ [(w.heap.size,o)])→b∈keys L∨b=w.heap.size:=by
  intro b hb
  simp only[keys,List.map_append,List.map_cons,List.map_nil,List.mem_append,List.mem_singleton] at hb
  exact hb
 refine⟨?_, ?_, ?_, ?_,h.tape,h.os,h.output⟩
 ·intro b x hm
  rcases List.mem_append.1 hm with hm|hm
  ·have aG:b<w.heap.size:=h.lt (List.mem_map.2 ⟨_,hm,rfl⟩)
   rw[RowKit.Below.heap_alloc w o b aG];exact h.has b x hm
  simp only[List.mem_singleton,Prod.mk.injEq] at hm
  rw[hm.1,hm.2];exact(by show(w.heap.push o)[w.heap.size]? =some o;simp)
 ·simp only[keys,List.map_append,List.map_cons,List.map_nil]
  refine List.nodup_append.2 ⟨h.nodup,List.pairwise_singleton _ _, ?_⟩
  intro a ha b hb
  simp only[List.mem_singleton] at hb
  have:=h.lt ha
  omega
 ·intro b hb hn
  rw[RowKit.Below.heap_alloc w o b (Nat.lt_of_lt_of_le hb h.size)]
  refine h.old b hb (fun hm=>hn ?_)
  simp only[keys,List.map_append,List.mem_append]
  exact .inl hm
 rw[World.size_alloc];have:=h.size;omega
def Hp.set {w0 w w':World} {L:aA} (h:Hp w0 L w) {b:Nat} {x:Obj} (hb:b∈keys L) (hh:w'.heap=w.heap.setIfInBounds b x)
  (ht:w'.tape=w.tape) (ho:w'.os=w.os) (hu:w'.output=w.output):Hp w0 (setB L b x) w':=by
 have aG:=h.lt hb
 refine⟨?_,by rw[ni];exact h.nodup, ?_, ?_,ht.trans h.tape,ho.trans h.os,hu.trans h.output⟩
 ·intro c o hm
  rw[hh]
  rcases xE h.nodup hm with⟨rfl,rfl⟩ | ⟨aQ,eJ⟩
  ·simp[aG]
  rw[Array.getElem?_setIfInBounds_ne (Ne.symm aQ)];exact h.has c o eJ
 ·intro c hc hn
  rw[ni] at hn
  have aQ:b≠c:=fun e=>hn (e▸hb)
  rw[hh,Array.getElem?_setIfInBounds_ne aQ]
  exact h.old c hc hn
 rw[hh];simpa using h.size
def Hp.own {w0 w:World} {L:aA} (h:Hp w0 L w) {b:Nat} {o:Obj} (hb:w0.heap[b]? =some o) (hn:b∉keys L):Hp w0 (L++ [(b,o)]) w:=by
 have aG:b<w0.heap.size:=(Array.getElem?_eq_some_iff.1 hb).1
 refine⟨?_, ?_, ?_,h.size,h.tape,h.os,h.output⟩
 ·intro c x hm
  rcases List.mem_append.1 hm with hm|hm
  ·exact h.has c x hm
  simp only[List.mem_singleton,Prod.mk.injEq] at hm
  rw[hm.1,hm.2,h.old b aG hn];exact hb
 ·simp only[keys,List.map_append,List.map_cons,List.map_nil]
  refine List.nodup_append.2 ⟨h.nodup,List.pairwise_singleton _ _, ?_⟩
  intro a ha c hc
  simp only[List.mem_singleton] at hc
  subst hc
  exact fun e=>hn (e▸ha)
 intro c hc hm
 exact h.old c hc (fun eJ=>hm (by simp only[keys,List.map_append,List.mem_append];exact .inl eJ))
def Hp.drop {w0 w:World} {L M:aA} (h:Hp w0 L w) (hM: ∀p∈M,p∈L) (hn: (keys M).Nodup) (fw: ∀p∈L,p.1<w0.heap.size→p.1∉keys M→w0.heap[p.1]? =some p.2):Hp w0 M w:=by
 refine⟨fun b o hm=>h.has b o (hM _ hm),hn, ?_,h.size,h.tape,h.os,h.output⟩
 intro b hb hm
 by_cases hk:b∈keys L
 ·obtain⟨p,hp,rfl⟩:=List.mem_map.1 hk
  rw[h.has _ _ hp,fw p hp hb hm]
 exact h.old b hb hk
theorem Hp.trans {w0 w w':World} {L D:aA} (h:Hp w0 L w) (k:Hp w D w'):Hp w0 (L.filter (fun p=> !(keys D).contains p.1)++D) w':=by
 have hf: ∀b,b∈keys (L.filter (fun p=> !(keys D).contains p.1))↔b∈keys L∧b∉keys D:=by
  intro b
  constructor
  ·intro hb
   obtain⟨p,hp,rfl⟩:=List.mem_map.1 hb
   have:=List.mem_filter.1 hp
   refine⟨List.mem_map.2 ⟨p,this.1,rfl⟩, ?_⟩
   simpa using this.2
  rintro⟨hb,hn⟩
  obtain⟨p,hp,rfl⟩:=List.mem_map.1 hb
  exact List.mem_map.2 ⟨p,List.mem_filter.2 ⟨hp,by simpa using hn⟩,rfl⟩
 refine⟨?_, ?_, ?_,Nat.le_trans h.size k.size,k.tape.trans h.tape,k.os.trans h.os,k.output.trans h.output⟩
 ·intro b o hm
  rcases List.mem_append.1 hm with hm|hm
  ·have hb:b∈keys (L.filter (fun p=> !(keys D).contains p.1)):=List.mem_map.2 ⟨_,hm,rfl⟩
   have dI:=(hf b).1 hb
   rw[k.old b (h.lt dI.1) dI.2]
   exact h.has b o (List.mem_filter.1 hm).1
  exact k.has b o hm
 ·simp only[keys,List.map_append]
  refine List.nodup_append.2 ⟨?_,k.nodup, ?_⟩
  ·exact List.Nodup.sublist (List.Sublist.map _ List.filter_sublist) h.nodup
  intro a ha b hb e
  exact((hf a).1 ha).2 (e▸hb)
 intro b hb hn
 have aX:b∉keys L∧b∉keys D:=by
  simp only[keys,List.map_append,List.mem_append,not_or] at hn
  have hD:b∉keys D:=hn.2
  exact⟨fun hm=>hn.1 ((hf b).2 ⟨hm,hD⟩),hD⟩
 rw[k.old b (Nat.lt_of_lt_of_le hb h.size) aX.2]
 exact h.old b hb aX.1
def Hp.trans_nil {w0 w w':World} {L:aA} (h:Hp w0 L w) (k:Hp w [] w'):Hp w0 L w':=by
 have:=h.trans k
 rwa [show L.filter (fun p=> !(keys ([]:aA)).contains p.1)++ []=L from by simp[keys]] at this
def aS (w0:World) (L:aA) (b:Nat):Option Obj:=
 match look L b with
 |some o=>some o
 |none=>w0.heap[b]?
def Hp.read {w0 w:World} {L:aA} (h:Hp w0 L w) {b:Nat} {o:Obj} (hr:aS w0 L b=some o):w.heap[b]? =some o:=by
 unfold aS at hr
 split at hr
 ·rename_i o' hl
  cases hr
  exact h.has _ _ (cQ hl)
 rename_i hl
 rw[h.old b (Array.getElem?_eq_some_iff.1 hr).1 (CF hl)]
 exact hr
abbrev Fr:=List Value
def dZ:Fr→Nat→Value
 | [],_=>undef
 |v::_,0=>v
 |_::r,n+1=>dZ r n
def setF:Fr→Nat→Value→Fr
 | [],_,_=> []
 |_::r,0,x=>x::r
 |v::r,n+1,x=>v::setF r n x
def aW (f:Fr):Option Tmp→Value→Fr
 |some d,v=>setF f d v
 |none,_=>f
def ev (f:Fr):Operand→Value
 | .tmp t=>dZ f t
 | .const v=>v
 | .global g=> .pointer (some ⟨g,0,none⟩)
 | .func k=> .func (.func k) #[] #[]
def C8 (f:Fr) (t:Nat):f.toArray.getD t undef=dZ f t:=by
 rw[Array.getD_eq_getD_getElem?,List.getElem?_toArray]
 induction f generalizing t with
 |nil=>rfl
 |cons v r ih=>cases t<;>simp[dZ,ih]
def yF (f:Fr) (d:Nat) (v:Value):f.toArray.setIfInBounds d v=(setF f d v).toArray:=by
 rw[List.setIfInBounds_toArray]
 congr 1
 induction f generalizing d with
 |nil=>rfl
 |cons x r ih=>cases d<;>simp[setF,ih]
def act (f:Fr):Act:=⟨f.toArray,[]⟩
def xO (f:Fr) (x:Operand): (act f).eval x=ev f x:=by
 cases x with
 |tmp t=>exact C8 f t
 |_=>rfl
def nj (f:Fr): (act f).eval=ev f:=funext (xO f)
def eh (f:Fr) (d:Option Tmp) (v:Value): (act f).put d v=act (aW f d v):=by
 cases d with
 |none=>rfl
 |some d=>simp only[act,Act.put,aW,yF]
def rL {a:Act} (h:a.defers= []):a=act a.tmps.toList:=by
 cases a with
 |mk t d=>simp only at h;subst h;simp[act]
abbrev bY:=Exit→Fr→aA→Prop
def post (w0:World) (K:bY) (e:Exit) (a:Act) (w:World):Prop:=a.defers= []∧ ∃L,Hp w0 L w∧K e a.tmps.toList L
def Cw (P:Program) (w0:World) (c:Code) (f:Fr) (L:aA) (K:bY):Prop:=
 ∀w,Hp w0 L w→c.wp P (post w0 K) (act f) w
def j6 (N:Fr→aA→Prop) (K:bY):bY
 | .normal=>N
 | .exit i=>K (.exit i)
 | .goto i=>K (.goto i)
 | .ret=>K .ret
 | .panic c=>K (.panic c)
 | .outgrown=>K .outgrown
def kG (id:Nat) (K:bY):bY
 | .normal=>K .normal
 | .exit i=>if i=id then K .normal else K (.exit i)
 | .goto i=>K (.goto i)
 | .ret=>K .ret
 | .panic c=>K (.panic c)
 | .outgrown=>K .outgrown
section
variable {P:Program} {w0:World} {f:Fr} {L:aA} {K:bY}
def Cw.mono {c:Code} {K':bY} (h:Cw P w0 c f L K) (hk: ∀e f L,K e f L→K' e f L):Cw P w0 c f L K':=
 fun w hw=>wp_mono (h w hw) fun _ _ _ ⟨hd,L',hp,k⟩=>⟨hd,L',hp,hk _ _ _ k⟩
theorem Cw.seq {x y:Code} (h:Cw P w0 x f L (j6 (fun f L=>Cw P w0 y f L K) K)):Cw P w0 (.seq x y) f L K:=by
 intro w hw
 refine wp_seq (wp_mono (h w hw) ?_)
 rintro e a w' ⟨hd,L',hp,k⟩
 cases e with
 |normal=>
  have:=k w' hp
  rw[←rL hd] at this
  exact this
 |_=>exact⟨hd,L',hp,k⟩
theorem Cw.skip (h:K .normal f L):Cw P w0 .skip f L K:=fun w hw=>wp_skip ⟨rfl,L,hw,by simpa [act] using h⟩
theorem Cw.label {l:Nat} (h:K .normal f L):Cw P w0 (.label l) f L K:=fun w hw=>wp_label ⟨rfl,L,hw,by simpa [act] using h⟩
theorem Cw.exit {i:Nat} (h:K (.exit i) f L):Cw P w0 (.exit i) f L K:=fun w hw=>wp_exit ⟨rfl,L,hw,by simpa [act] using h⟩
theorem Cw.goto {i:Nat} (h:K (.goto i) f L):Cw P w0 (.goto i) f L K:=fun w hw=>wp_goto ⟨rfl,L,hw,by simpa [act] using h⟩
theorem Cw.ret (h:K .ret f L):Cw P w0 .ret f L K:=fun w hw=>wp_ret ⟨rfl,L,hw,by simpa [act] using h⟩
theorem Cw.cond {c:Operand} {x y:Code} {b:Bool} (hc:ev f c= .bool b) (ht:b=true→Cw P w0 x f L K) (he:b=false→Cw P w0 y f L K):Cw P w0 (.cond c x y) f L K:=by
 intro w hw
 have j_: (act f).eval c= .bool b:=(xO f c).trans hc
 cases b with
 |true=>exact wp_cond_true j_ (ht rfl w hw)
 |false=>exact wp_cond_false j_ (he rfl w hw)
theorem Cw.block {id:Nat} {c:Code} (h:Cw P w0 c f L (kG id K)):Cw P w0 (.block id c) f L K:=by
 intro w hw
 refine wp_block (wp_mono (h w hw) ?_)
 rintro e a w' ⟨hd,L',hp,k⟩
 cases e with
 |exit i=>
  simp only[Exit.inBlock]
  simp only[kG] at k
  split
  ·rename_i e;rw[if_pos e] at k;exact⟨hd,L',hp,k⟩
  rename_i e;rw[if_neg e] at k;exact⟨hd,L',hp,k⟩
 |_=>exact⟨hd,L',hp,k⟩
theorem Cw.loop {c:Code} (I:Nat→Fr→aA→Prop) (n0:Nat) (h0:I n0 f L)
  (round: ∀n f L,I n f L→Cw P w0 c f L (j6 (fun f' L'=> ∃n',n'<n∧I n' f' L') K)):Cw P w0 (.loop c) f L K:=by
 intro w hw
 refine wp_loop_ghost (fun n a w=>a.defers= []∧ ∃L,Hp w0 L w∧I n a.tmps.toList L) n0 ⟨rfl,L,hw,by simpa [act] using h0⟩ ?_
 rintro n a w ⟨hd,L,hp,hI⟩
 have:=round n _ _ hI w hp
 rw[←rL hd] at this
 refine wp_mono this ?_
 rintro e a' w' ⟨iu,L',pJ,k⟩
 cases e with
 |normal=>
  obtain⟨n',aG,iO⟩:=k
  exact⟨n',aG,iu,L',pJ,iO⟩
 |_=>exact⟨iu,L',pJ,k⟩
end
def over (j:Nat→Value) (M:List Nat) (f:Fr):Fr:=f.zipIdx.map fun p=>if M.contains p.2 then j p.2 else p.1
def pin (f:Fr):List (Nat×Value)→Fr
 | []=>f
 | (t,v)::r=>pin (setF f t v) r
def jH (j:Nat→Value) (M:List Nat):Nat→Fr→Fr
 |_,[]=> []
 |n,v::r=>(if M.contains n then j n else v)::jH j M (n+1) r
def Again {G:Type} (M:List Nat) (S:G→List (Nat×Value)) (H:G→aA) (J:G→Prop) (μ:G→Nat) (f:Fr) (g:G) (f':Fr) (L':aA):Prop:=
 ∃g',μ g'<μ g∧J g'∧L'=H g'∧f'=pin (jH (dZ f') M 0 f) (S g')
def Again.mk {G:Type} {M:List Nat} {S:G→List (Nat×Value)} {H:G→aA} {J:G→Prop} {μ:G→Nat} {f:Fr} {g:G} {f':Fr} {L':aA} (g':G)
  (hμ:μ g'<μ g) (hJ:J g') (hL:L'=H g') (hf:f'=pin (jH (dZ f') M 0 f) (S g')):Again M S H J μ f g f' L':=⟨g',hμ,hJ,hL,hf⟩
section
variable {P:Program} {w0:World} {f:Fr} {L:aA} {K:bY}
def Cw.loopG {c:Code} {G:Type} (M:List Nat) (S:G→List (Nat×Value)) (H:G→aA) (J:G→Prop) (μ:G→Nat) (g0:G)
  (hf:f=pin (jH (dZ f) M 0 f) (S g0)) (hL:L=H g0) (hJ:J g0)
  (round: ∀ (g:G) (j:Nat→Value),J g→Cw P w0 c (pin (jH j M 0 f) (S g)) (H g)
   (j6 (Again M S H J μ f g) K)):Cw P w0 (.loop c) f L K:=by
 refine Cw.loop (fun n f' L'=> ∃g j,n=μ g∧J g∧L'=H g∧f'=pin (jH j M 0 f) (S g)) (μ g0) ⟨g0,dZ f,rfl,hJ,hL,hf⟩ ?_
 rintro n f' L' ⟨g,j,rfl,hg,rfl,rfl⟩
 refine(round g j hg).mono ?_
 intro e f'' L'' k
 cases e with
 |normal=>
  obtain⟨g',h1,h2,h3,h4⟩:=k
  exact⟨_,h1,g',dZ f'',rfl,h2,h3,h4⟩
 |_=>exact k
end
end Go.Sx
section
namespace Go.Sx
open Go
def fC (op:BinOp) (k:IntKind) (a b:BitVec k.bits):Option (BitVec k.bits):=
 match op with
 | .and=>some (a&&&b)
 | .or=>some (a|||b)
 | .xor=>some (a^^^b)
 | .andNot=>some (a&&& ~~~b)
 |_=>none
def eQ (op:BinOp) (a b:Int):Option Value:=
 match op with
 | .eql=>some (.bool (a==b))
 | .neq=>some (.bool (a !=b))
 | .lss=>some (.bool (decide (a<b)))
 | .leq=>some (.bool (decide (a≤b)))
 | .gtr=>some (.bool (decide (a>b)))
 | .geq=>some (.bool (decide (a≥b)))
 |_=>none
def ax (op:BinOp) (k:IntKind) (a b:Int):Option Value:=
 match op with
 | .add=>some (.int k (k.wrap (a+b)))
 | .sub=>some (.int k (k.wrap (a - b)))
 | .mul=>some (.int k (k.wrap (a*b)))
 | .quo=>if b=0 then none else some (.int k (k.wrap (a.tdiv b)))
 | .rem=>if b=0 then none else some (.int k (a.tmod b))
 | .and=>(fC .and k (BitVec.ofInt k.bits a) (BitVec.ofInt k.bits b)).map fun r=> .int k (k.wrap (r.toNat:Int))
 | .or=>(fC .or k (BitVec.ofInt k.bits a) (BitVec.ofInt k.bits b)).map fun r=> .int k (k.wrap (r.toNat:Int))
 | .xor=>(fC .xor k (BitVec.ofInt k.bits a) (BitVec.ofInt k.bits b)).map fun r=> .int k (k.wrap (r.toNat:Int))
 | .andNot=>(fC .andNot k (BitVec.ofInt k.bits a) (BitVec.ofInt k.bits b)).map fun r=> .int k (k.wrap (r.toNat:Int))
 |op=>eQ op a b
def kF (op:BinOp) (k:IntKind) (a b:Int):Option Value:=
 if b<0 then none else
  match op with
  | .shl=>some (.int k (k.wrap (a*2^ (min b.toNat k.bits))))
  | .shr=>some (.int k (a.fdiv (2^ (min b.toNat k.bits))))
  |_=>none
def strV (op:BinOp) (a b:ByteArray):Option Value:=
 let eq:=a.toList==b.toList
 let lt:=Op.bytesLess a.toList b.toList
 match op with
 | .add=>if a.size+b.size≤9223372036854775807 then some (.string (a++b)) else none
 | .eql=>some (.bool eq)
 | .neq=>some (.bool !eq)
 | .lss=>some (.bool lt)
 | .leq=>some (.bool (lt||eq))
 | .gtr=>some (.bool !(lt||eq))
 | .geq=>some (.bool !lt)
 |_=>none
def aC (op:BinOp) (x y:Value):Option Value:=
 match x,y with
 | .int k a, .int k' b=>
  match op with
  | .shl=>kF .shl k a b
  | .shr=>kF .shr k a b
  |op=>if k=k' then ax op k a b else none
 | .string a, .string b=>strV op a b
 |_,_=>none
def unV (op:UnOp) (x:Value):Option Value:=
 match op,x with
 | .neg, .int k n=>some (.int k (k.wrap (0 - n)))
 | .xor, .int k n=>(fC .xor k (BitVec.ofInt k.bits (if k.signed then -1 else k.max)) (BitVec.ofInt k.bits n)).map fun r=> .int k (k.wrap (r.toNat:Int))
 | .not, .bool b=>some (.bool !b)
 |_,_=>none
def bK (k:IntKind) (x:Value):Option Value:=
 match x with
 | .int _ n=>some (.int k (k.wrap n))
 |_=>none
def xD {P:Program} {op:BinOp} {t:TypeId} {x y v:Value} (w:World) (h:aC op x y=some v): (binOp op t x y).run P w= .ok v w:=by
 unfold aC at h
 split at h
 ·rename_i k a k' b
  split at h
  ·unfold kF at h
   split at h
   ·cases h
   rename_i hb
   simp only[Option.some.injEq] at h;subst h
   simp only[binOp,Op.shift,hb, ↓reduceIte];rfl
  ·unfold kF at h
   split at h
   ·cases h
   rename_i hb
   simp only[Option.some.injEq] at h;subst h
   simp only[binOp,Op.shift,hb, ↓reduceIte];rfl
  rename_i h1 h2
  split at h
  ·rename_i hk
   subst hk
   cases op<;>simp only[ax,fC,eQ,Option.map_some,Option.some.injEq,reduceCtorEq] at h<;>first
    | (subst h;simp only[binOp,Op.intArith,Op.intBits,Op.intCmp,ne_eq,not_true_eq_false, ↓reduceIte];rfl)
    | (
      split at h
      ·cases h
      rename_i hb
      simp only[Option.some.injEq] at h;subst h
      simp only[binOp,Op.intDiv,ne_eq,not_true_eq_false, ↓reduceIte,hb];rfl)
    | (exact(h1 rfl).elim)
    | (exact(h2 rfl).elim)
  cases h
 ·rename_i a b
  have hm: (9223372036854775807:Int)=IntKind.i64.max:=by decide
  cases op<;>simp only[strV,reduceCtorEq,Option.some.injEq] at h<;>first
   | (subst h;simp only[binOp,Op.stringOp];rfl)
   | (
     split at h
     ·rename_i hs
      simp only[Option.some.injEq] at h;subst h
      have h0: ¬ (((a.size+b.size:Nat):Int)>IntKind.i64.max):=by rw[←hm];omega
      simp only[binOp,Op.stringOp,h0, ↓reduceIte];rfl
     cases h)
 cases h
def OS {P:Program} {op:UnOp} {x v:Value} (w:World) (h:unV op x=some v): (Op.unary op x).run P w= .ok v w:=by
 unfold unV at h
 split at h
 ·simp only[Option.some.injEq] at h;subst h;rfl
 ·simp only[fC,Option.map_some,Option.some.injEq] at h;subst h;rfl
 ·simp only[Option.some.injEq] at h;subst h;rfl
 cases h
def lm (n:Int) (h: -9223372036854775808≤n∧n≤9223372036854775807):IntKind.wrap .i64 n=n:=by
 simp only[IntKind.wrap,IntKind.bits,IntKind.signed,Bool.true_and]
 split<;>rename_i h'<;>simp only[ge_iff_le,decide_eq_true_eq,Int.not_le] at h'<;>omega
def Xm (n:Int):IntKind.wrap .u8 n=((UInt8.ofInt n).toNat:Int):=by
 simp only[IntKind.wrap,IntKind.bits,IntKind.signed,Bool.false_and,Bool.false_eq_true, ↓reduceIte]
 rw[show UInt8.ofInt n=UInt8.ofNat (n%2^8).toNat from rfl,UInt8.toNat_ofNat']
 omega
def X4 (n:Int):IntKind.wrap .u16 n=((UInt16.ofInt n).toNat:Int):=by
 simp only[IntKind.wrap,IntKind.bits,IntKind.signed,Bool.false_and,Bool.false_eq_true, ↓reduceIte]
 rw[show UInt16.ofInt n=UInt16.ofNat (n%2^16).toNat from rfl,UInt16.toNat_ofNat']
 omega
def Ws (n:Int):IntKind.wrap .u32 n=((UInt32.ofInt n).toNat:Int):=by
 simp only[IntKind.wrap,IntKind.bits,IntKind.signed,Bool.false_and,Bool.false_eq_true, ↓reduceIte]
 rw[show UInt32.ofInt n=UInt32.ofNat (n%2^32).toNat from rfl,UInt32.toNat_ofNat']
 omega
def Wn (n:Int):IntKind.wrap .u64 n=((UInt64.ofInt n).toNat:Int):=by
 simp only[IntKind.wrap,IntKind.bits,IntKind.signed,Bool.false_and,Bool.false_eq_true, ↓reduceIte]
 rw[show UInt64.ofInt n=UInt64.ofNat (n%2^64).toNat from rfl,UInt64.toNat_ofNat']
 omega
def vi (n:Int):Value:= .int .i64 n
def Oj (n:Int):Value.int .i64 n=vi n:=(rfl)
def JX (a b:Int) (h: -9223372036854775808≤a+b∧a+b≤9223372036854775807):aC .add (vi a) (vi b)=some (vi (a+b)):=by
 simp only[aC,vi,ax, ↓reduceIte,lm _ h]
def K6 (a b:Int) (h: -9223372036854775808≤a - b∧a - b≤9223372036854775807):aC .sub (vi a) (vi b)=some (vi (a - b)):=by
 simp only[aC,vi,ax, ↓reduceIte,lm _ h]
def KV (a b:Int) (h: -9223372036854775808≤a*b∧a*b≤9223372036854775807):aC .mul (vi a) (vi b)=some (vi (a*b)):=by
 simp only[aC,vi,ax, ↓reduceIte,lm _ h]
def KW (a b:Int) (h:0≤a∧0<b∧a≤9223372036854775807):aC .quo (vi a) (vi b)=some (vi (a / b)):=by
 have h0: (b=0)=False:=by simp only[eq_iff_iff,iff_false];omega
 have e:a.tdiv b=a / b:=Int.tdiv_eq_ediv_of_nonneg h.1
 have h1:0≤a / b:=Int.ediv_nonneg h.1 oM
 have h2:a / b≤a:=Int.ediv_le_self b h.1
 simp only[aC,vi,ax, ↓reduceIte,h0,e,lm (a / b) ⟨by omega,by omega⟩]
def K_ (a b:Int) (h:0≤a∧0<b):aC .rem (vi a) (vi b)=some (vi (a%b)):=by
 have h0: (b=0)=False:=by simp only[eq_iff_iff,iff_false];omega
 have e:a.tmod b=a%b:=Int.tmod_eq_emod_of_nonneg h.1
 simp only[aC,vi,ax, ↓reduceIte,h0,e]
def LW (a b:Int):aC .eql (vi a) (vi b)=some (.bool (a==b)):=(rfl)
def Kr (a b:Int):aC .neq (vi a) (vi b)=some (.bool (a !=b)):=(rfl)
def K2 (a b:Int):aC .lss (vi a) (vi b)=some (.bool (decide (a<b))):=(rfl)
def KN (a b:Int):aC .leq (vi a) (vi b)=some (.bool (decide (a≤b))):=(rfl)
def Jx (a b:Int):aC .gtr (vi a) (vi b)=some (.bool (decide (b<a))):=(rfl)
def K1 (a b:Int):aC .geq (vi a) (vi b)=some (.bool (decide (b≤a))):=(rfl)
def MY (a:Int) (h: -9223372036854775807≤a∧a≤9223372036854775807):unV .neg (vi a)=some (vi (-a)):=by
 simp only[unV,vi,Int.zero_sub,lm (-a) ⟨by omega,by omega⟩]
def Q2 (b:Bool):unV .not (.bool b)=some (.bool !b):=(rfl)
def Fg (n:Int) (h: -9223372036854775808≤n∧n≤9223372036854775807):bK .i64 (vi n)=some (vi n):=by
 simp only[bK,vi,lm _ h]
def xw (a:Int) (kk:IntKind) (c:Nat) (h:c<63∧0≤a∧a*2^c≤9223372036854775807):aC .shl (vi a) (.int kk (c:Int))=some (vi (a*2^c)):=by
 have h0: ((c:Int)<0)=False:=by simp only[eq_iff_iff,iff_false];omega
 have hm:min c 64=c:=by omega
 have hp: (0:Int)≤a*2^c:=Int.mul_nonneg h.2.1 (Int.pow_nonneg oM)
 simp only[aC,vi,kF,h0, ↓reduceIte,Int.toNat_natCast,IntKind.bits,hm,lm (a*2^c) ⟨by omega,h.2.2⟩]
def P2 (a:Int) (kk:IntKind) (c:Nat) (h:c<64∧0≤a):aC .shr (vi a) (.int kk (c:Int))=some (vi (a / 2^c)):=by
 have h0: ((c:Int)<0)=False:=by simp only[eq_iff_iff,iff_false];omega
 have hm:min c 64=c:=by omega
 have hp: (0:Int)≤2^c:=Int.pow_nonneg oM
 simp only[aC,vi,kF,h0, ↓reduceIte,Int.toNat_natCast,IntKind.bits,hm,Int.fdiv_eq_ediv_of_nonneg _ hp]
def v8 (x:UInt8):Value:= .int .u8 (x.toNat:Int)
def C4 (n:Nat) (h:n<256):IntKind.wrap .u8 (n:Int)=(n:Int):=by
 simp only[IntKind.wrap,IntKind.bits,IntKind.signed,Bool.false_and,Bool.false_eq_true, ↓reduceIte]
 omega
def qo (n:Nat):IntKind.wrap .u8 (n:Int)=((n%256:Nat):Int):=by
 simp only[IntKind.wrap,IntKind.bits,IntKind.signed,Bool.false_and,Bool.false_eq_true, ↓reduceIte]
 omega
def oW (x:UInt8):BitVec.ofInt (IntKind.bits .u8) (x.toNat:Int)=x.toBitVec:=by
 apply BitVec.eq_of_toNat_eq
 simp only[IntKind.bits,BitVec.ofInt_natCast,BitVec.toNat_ofNat,UInt8.toNat_toBitVec]
 exact Nat.mod_eq_of_lt x.toNat_lt
def Qd (n:Nat) (h:n<256):Value.int .u8 (no_index (@OfNat.ofNat Int n _))=v8 (@OfNat.ofNat UInt8 n _):=by
 have: ((@OfNat.ofNat UInt8 n _).toNat:Int)=(@OfNat.ofNat Int n _):=by
  have e: (@OfNat.ofNat UInt8 n _).toNat=n:=by rw[UInt8.toNat_ofNat];exact Nat.mod_eq_of_lt h
  rw[e];rfl
 rw[v8,this]
def I4 (x y:UInt8):aC .add (v8 x) (v8 y)=some (v8 (x+y)):=by
 simp only[aC,v8,ax, ↓reduceIte,UInt8.toNat_add]
 rw[←Int.natCast_add,qo]
def IS (x y:UInt8):aC .mul (v8 x) (v8 y)=some (v8 (x*y)):=by
 simp only[aC,v8,ax, ↓reduceIte,UInt8.toNat_mul]
 rw[←Int.natCast_mul,qo]
def Jh (x y:UInt8):aC .sub (v8 x) (v8 y)=some (v8 (x - y)):=by
 have hx:=x.toNat_lt;have hy:=y.toNat_lt
 have e:IntKind.wrap .u8 ((x.toNat:Int) - (y.toNat:Int))=((x - y).toNat:Int):=by
  rw[UInt8.toNat_sub]
  simp only[IntKind.wrap,IntKind.bits,IntKind.signed,Bool.false_and,Bool.false_eq_true, ↓reduceIte]
  omega
 simp only[aC,v8,ax, ↓reduceIte,e]
def Jo (x y:UInt8):aC .and (v8 x) (v8 y)=some (v8 (x&&&y)):=by
 simp only[aC,v8,ax, ↓reduceIte,fC,oW,Option.map_some]
 show some (Value.int .u8 (IntKind.wrap .u8 ((x&&&y).toNat:Int)))=_
 rw[C4 _ (x&&&y).toNat_lt]
def KX (x y:UInt8):aC .or (v8 x) (v8 y)=some (v8 (x|||y)):=by
 simp only[aC,v8,ax, ↓reduceIte,fC,oW,Option.map_some]
 show some (Value.int .u8 (IntKind.wrap .u8 ((x|||y).toNat:Int)))=_
 rw[C4 _ (x|||y).toNat_lt]
def Jc (x y:UInt8):aC .xor (v8 x) (v8 y)=some (v8 (x^^^y)):=by
 simp only[aC,v8,ax, ↓reduceIte,fC,oW,Option.map_some]
 show some (Value.int .u8 (IntKind.wrap .u8 ((x^^^y).toNat:Int)))=_
 rw[C4 _ (x^^^y).toNat_lt]
def LU (x:UInt8):unV .xor (v8 x)=some (v8 (~~~ x)):=by
 have hx:=x.toNat_lt
 have e: (BitVec.ofInt (IntKind.bits .u8) (IntKind.max .u8))=BitVec.allOnes 8:=rfl
 have e2: (BitVec.allOnes 8^^^x.toBitVec)=(~~~ x).toBitVec:=by rw[UInt8.toBitVec_not];exact BitVec.allOnes_xor
 simp only[unV,v8,fC,oW,IntKind.signed,Bool.false_eq_true, ↓reduceIte,e,Option.map_some]
 show some (Value.int .u8 (IntKind.wrap .u8 ((BitVec.allOnes 8^^^x.toBitVec).toNat:Int)))=_
 rw[e2]
 show some (Value.int .u8 (IntKind.wrap .u8 ((~~~ x).toNat:Int)))=_
 rw[C4 _ (~~~ x).toNat_lt]
def nq (x:UInt8) (n:Nat):UInt8:=UInt8.ofNat (x.toNat / 2^n)
def nw (x:UInt8) (n:Nat):UInt8:=UInt8.ofNat (x.toNat*2^n)
def JB (x y:UInt8):aC .lss (v8 x) (v8 y)=some (.bool (decide (x<y))):=by
 simp only[aC,v8,ax, ↓reduceIte,eQ,UInt8.lt_iff_toNat_lt,Int.ofNat_lt,Int.ofNat_le]
def JC (x y:UInt8):aC .leq (v8 x) (v8 y)=some (.bool (decide (x≤y))):=by
 simp only[aC,v8,ax, ↓reduceIte,eQ,UInt8.le_iff_toNat_le,Int.ofNat_lt,Int.ofNat_le]
def Js (x y:UInt8):aC .gtr (v8 x) (v8 y)=some (.bool (decide (y<x))):=by
 simp only[aC,v8,ax, ↓reduceIte,eQ,UInt8.lt_iff_toNat_lt,Int.ofNat_lt,Int.ofNat_le,gt_iff_lt,ge_iff_le]
def IT (x y:UInt8):aC .geq (v8 x) (v8 y)=some (.bool (decide (y≤x))):=by
 simp only[aC,v8,ax, ↓reduceIte,eQ,UInt8.le_iff_toNat_le,Int.ofNat_lt,Int.ofNat_le,gt_iff_lt,ge_iff_le]
def ye (x y:UInt8): ((x.toNat:Int)==(y.toNat:Int))=(x==y):=by
 rw[Bool.eq_iff_iff,beq_iff_eq,beq_iff_eq,Int.ofNat_inj,UInt8.toNat_inj]
def Je (x y:UInt8):aC .eql (v8 x) (v8 y)=some (.bool (x==y)):=by
 simp only[aC,v8,ax, ↓reduceIte,eQ,ye]
def I9 (x y:UInt8):aC .neq (v8 x) (v8 y)=some (.bool (x !=y)):=by
 simp only[aC,v8,ax, ↓reduceIte,eQ,bne,ye]
def Ip (x y:UInt8) (h:0<y.toNat):aC .quo (v8 x) (v8 y)=some (v8 (x / y)):=by
 have hx:=x.toNat_lt
 have e:IntKind.wrap .u8 ((x.toNat:Int).tdiv (y.toNat:Int))=((x / y).toNat:Int):=by
  rw[UInt8.toNat_div,Int.tdiv_eq_ediv_of_nonneg oM,←Int.natCast_ediv,qo]
  congr 1
  exact Nat.mod_eq_of_lt (Nat.lt_of_le_of_lt (Nat.div_le_self _ _) hx)
 have h0: ((y.toNat:Int)=0)=False:=by simp only[eq_iff_iff,iff_false];omega
 simp only[aC,v8,ax, ↓reduceIte,h0,e]
def E0 (x y:UInt8) (h:0<y.toNat):aC .rem (v8 x) (v8 y)=some (v8 (x%y)):=by
 have e: ((x.toNat:Int).tmod (y.toNat:Int))=((x%y).toNat:Int):=by
  rw[UInt8.toNat_mod,Int.tmod_eq_emod_of_nonneg oM,Int.natCast_emod]
 have h0: ((y.toNat:Int)=0)=False:=by simp only[eq_iff_iff,iff_false];omega
 simp only[aC,v8,ax, ↓reduceIte,h0,e]
def vU (x:UInt8) (kk:IntKind) (c:Nat):aC .shr (v8 x) (.int kk (c:Int))=some (v8 (nq x c)):=by
 have hx:=x.toNat_lt
 have h0: ((c:Int)<0)=False:=by simp only[eq_iff_iff,iff_false];omega
 have e: ((x.toNat:Int).fdiv (2^ (min c 8)))=((nq x c).toNat:Int):=by
  have hp: (2:Int)^ (min c 8)=((2^ (min c 8):Nat):Int):=by rw[Int.natCast_pow];rfl
  rw[hp,Int.fdiv_eq_ediv_of_nonneg _ (Int.natCast_nonneg _),←Int.natCast_ediv,nq,UInt8.toNat_ofNat']
  congr 1
  rw[Nat.mod_eq_of_lt (Nat.lt_of_le_of_lt (Nat.div_le_self _ _) hx)]
  by_cases hc:c≤8
  ·rw[Nat.min_eq_left hc]
  rw[Nat.min_eq_right oM,Nat.div_eq_of_lt (by simpa using hx),Nat.div_eq_of_lt]
  exact Nat.lt_of_lt_of_le (by simpa using hx) (Nat.pow_le_pow_right oM (by omega:8≤c))
 simp only[aC,v8,kF,h0, ↓reduceIte,Int.toNat_natCast,IntKind.bits,e]
def vW (x:UInt8) (kk:IntKind) (c:Nat):aC .shl (v8 x) (.int kk (c:Int))=some (v8 (nw x c)):=by
 have h0: ((c:Int)<0)=False:=by simp only[eq_iff_iff,iff_false];omega
 have e:IntKind.wrap .u8 ((x.toNat:Int)* (2^ (min c 8)))=((nw x c).toNat:Int):=by
  have hp: (2:Int)^ (min c 8)=((2^ (min c 8):Nat):Int):=by rw[Int.natCast_pow];rfl
  rw[hp,←Int.natCast_mul,qo,nw,UInt8.toNat_ofNat']
  congr 1
  by_cases hc:c≤8
  ·rw[Nat.min_eq_left hc]
  rw[Nat.min_eq_right oM]
  have:2^c=2^8*2^ (c - 8):=by rw[←Nat.pow_add];congr 1;omega
  rw[this,←Nat.mul_assoc,Nat.mul_right_comm]
  simp[Nat.mul_mod_left]
 simp only[aC,v8,kF,h0, ↓reduceIte,Int.toNat_natCast,IntKind.bits,e]
def v16 (x:UInt16):Value:= .int .u16 (x.toNat:Int)
def Bi (n:Nat) (h:n<65536):IntKind.wrap .u16 (n:Int)=(n:Int):=by
 simp only[IntKind.wrap,IntKind.bits,IntKind.signed,Bool.false_and,Bool.false_eq_true, ↓reduceIte]
 omega
def qt (n:Nat):IntKind.wrap .u16 (n:Int)=((n%65536:Nat):Int):=by
 simp only[IntKind.wrap,IntKind.bits,IntKind.signed,Bool.false_and,Bool.false_eq_true, ↓reduceIte]
 omega
def oE (x:UInt16):BitVec.ofInt (IntKind.bits .u16) (x.toNat:Int)=x.toBitVec:=by
 apply BitVec.eq_of_toNat_eq
 simp only[IntKind.bits,BitVec.ofInt_natCast,BitVec.toNat_ofNat,UInt16.toNat_toBitVec]
 exact Nat.mod_eq_of_lt x.toNat_lt
def OA (n:Nat) (h:n<65536):Value.int .u16 (no_index (@OfNat.ofNat Int n _))=v16 (@OfNat.ofNat UInt16 n _):=by
 have: ((@OfNat.ofNat UInt16 n _).toNat:Int)=(@OfNat.ofNat Int n _):=by
  have e: (@OfNat.ofNat UInt16 n _).toNat=n:=by rw[UInt16.toNat_ofNat];exact Nat.mod_eq_of_lt h
  rw[e];rfl
 rw[v16,this]
def GV (x y:UInt16):aC .add (v16 x) (v16 y)=some (v16 (x+y)):=by
 simp only[aC,v16,ax, ↓reduceIte,UInt16.toNat_add]
 rw[←Int.natCast_add,qt]
def Hh (x y:UInt16):aC .mul (v16 x) (v16 y)=some (v16 (x*y)):=by
 simp only[aC,v16,ax, ↓reduceIte,UInt16.toNat_mul]
 rw[←Int.natCast_mul,qt]
def HE (x y:UInt16):aC .sub (v16 x) (v16 y)=some (v16 (x - y)):=by
 have hx:=x.toNat_lt;have hy:=y.toNat_lt
 have e:IntKind.wrap .u16 ((x.toNat:Int) - (y.toNat:Int))=((x - y).toNat:Int):=by
  rw[UInt16.toNat_sub]
  simp only[IntKind.wrap,IntKind.bits,IntKind.signed,Bool.false_and,Bool.false_eq_true, ↓reduceIte]
  omega
 simp only[aC,v16,ax, ↓reduceIte,e]
def GK (x y:UInt16):aC .and (v16 x) (v16 y)=some (v16 (x&&&y)):=by
 simp only[aC,v16,ax, ↓reduceIte,fC,oE,Option.map_some]
 show some (Value.int .u16 (IntKind.wrap .u16 ((x&&&y).toNat:Int)))=_
 rw[Bi _ (x&&&y).toNat_lt]
def Ju (x y:UInt16):aC .or (v16 x) (v16 y)=some (v16 (x|||y)):=by
 simp only[aC,v16,ax, ↓reduceIte,fC,oE,Option.map_some]
 show some (Value.int .u16 (IntKind.wrap .u16 ((x|||y).toNat:Int)))=_
 rw[Bi _ (x|||y).toNat_lt]
def Gu (x y:UInt16):aC .xor (v16 x) (v16 y)=some (v16 (x^^^y)):=by
 simp only[aC,v16,ax, ↓reduceIte,fC,oE,Option.map_some]
 show some (Value.int .u16 (IntKind.wrap .u16 ((x^^^y).toNat:Int)))=_
 rw[Bi _ (x^^^y).toNat_lt]
def IQ (x:UInt16):unV .xor (v16 x)=some (v16 (~~~ x)):=by
 have hx:=x.toNat_lt
 have e: (BitVec.ofInt (IntKind.bits .u16) (IntKind.max .u16))=BitVec.allOnes 16:=rfl
 have e2: (BitVec.allOnes 16^^^x.toBitVec)=(~~~ x).toBitVec:=by rw[UInt16.toBitVec_not];exact BitVec.allOnes_xor
 simp only[unV,v16,fC,oE,IntKind.signed,Bool.false_eq_true, ↓reduceIte,e,Option.map_some]
 show some (Value.int .u16 (IntKind.wrap .u16 ((BitVec.allOnes 16^^^x.toBitVec).toNat:Int)))=_
 rw[e2]
 show some (Value.int .u16 (IntKind.wrap .u16 ((~~~ x).toNat:Int)))=_
 rw[Bi _ (~~~ x).toNat_lt]
def ph (x:UInt16) (n:Nat):UInt16:=UInt16.ofNat (x.toNat / 2^n)
def pp (x:UInt16) (n:Nat):UInt16:=UInt16.ofNat (x.toNat*2^n)
def Gb (x y:UInt16):aC .lss (v16 x) (v16 y)=some (.bool (decide (x<y))):=by
 simp only[aC,v16,ax, ↓reduceIte,eQ,UInt16.lt_iff_toNat_lt,Int.ofNat_lt,Int.ofNat_le]
def F_ (x y:UInt16):aC .leq (v16 x) (v16 y)=some (.bool (decide (x≤y))):=by
 simp only[aC,v16,ax, ↓reduceIte,eQ,UInt16.le_iff_toNat_le,Int.ofNat_lt,Int.ofNat_le]
def Fz (x y:UInt16):aC .gtr (v16 x) (v16 y)=some (.bool (decide (y<x))):=by
 simp only[aC,v16,ax, ↓reduceIte,eQ,UInt16.lt_iff_toNat_lt,Int.ofNat_lt,Int.ofNat_le,gt_iff_lt,ge_iff_le]
def Hq (x y:UInt16):aC .geq (v16 x) (v16 y)=some (.bool (decide (y≤x))):=by
 simp only[aC,v16,ax, ↓reduceIte,eQ,UInt16.le_iff_toNat_le,Int.ofNat_lt,Int.ofNat_le,gt_iff_lt,ge_iff_le]
def yK (x y:UInt16): ((x.toNat:Int)==(y.toNat:Int))=(x==y):=by
 rw[Bool.eq_iff_iff,beq_iff_eq,beq_iff_eq,Int.ofNat_inj,UInt16.toNat_inj]
def Gc (x y:UInt16):aC .eql (v16 x) (v16 y)=some (.bool (x==y)):=by
 simp only[aC,v16,ax, ↓reduceIte,eQ,yK]
def Gl (x y:UInt16):aC .neq (v16 x) (v16 y)=some (.bool (x !=y)):=by
 simp only[aC,v16,ax, ↓reduceIte,eQ,bne,yK]
def G9 (x y:UInt16) (h:0<y.toNat):aC .quo (v16 x) (v16 y)=some (v16 (x / y)):=by
 have hx:=x.toNat_lt
 have e:IntKind.wrap .u16 ((x.toNat:Int).tdiv (y.toNat:Int))=((x / y).toNat:Int):=by
  rw[UInt16.toNat_div,Int.tdiv_eq_ediv_of_nonneg oM,←Int.natCast_ediv,qt]
  congr 1
  exact Nat.mod_eq_of_lt (Nat.lt_of_le_of_lt (Nat.div_le_self _ _) hx)
 have h0: ((y.toNat:Int)=0)=False:=by simp only[eq_iff_iff,iff_false];omega
 simp only[aC,v16,ax, ↓reduceIte,h0,e]
def Hm (x y:UInt16) (h:0<y.toNat):aC .rem (v16 x) (v16 y)=some (v16 (x%y)):=by
 have e: ((x.toNat:Int).tmod (y.toNat:Int))=((x%y).toNat:Int):=by
  rw[UInt16.toNat_mod,Int.tmod_eq_emod_of_nonneg oM,Int.natCast_emod]
 have h0: ((y.toNat:Int)=0)=False:=by simp only[eq_iff_iff,iff_false];omega
 simp only[aC,v16,ax, ↓reduceIte,h0,e]
def BO (x:UInt16) (kk:IntKind) (c:Nat):aC .shr (v16 x) (.int kk (c:Int))=some (v16 (ph x c)):=by
 have hx:=x.toNat_lt
 have h0: ((c:Int)<0)=False:=by simp only[eq_iff_iff,iff_false];omega
 have e: ((x.toNat:Int).fdiv (2^ (min c 16)))=((ph x c).toNat:Int):=by
  have hp: (2:Int)^ (min c 16)=((2^ (min c 16):Nat):Int):=by rw[Int.natCast_pow];rfl
  rw[hp,Int.fdiv_eq_ediv_of_nonneg _ (Int.natCast_nonneg _),←Int.natCast_ediv,ph,UInt16.toNat_ofNat']
  congr 1
  rw[Nat.mod_eq_of_lt (Nat.lt_of_le_of_lt (Nat.div_le_self _ _) hx)]
  by_cases hc:c≤16
  ·rw[Nat.min_eq_left hc]
  rw[Nat.min_eq_right oM,Nat.div_eq_of_lt (by simpa using hx),Nat.div_eq_of_lt]
  exact Nat.lt_of_lt_of_le (by simpa using hx) (Nat.pow_le_pow_right oM (by omega:16≤c))
 simp only[aC,v16,kF,h0, ↓reduceIte,Int.toNat_natCast,IntKind.bits,e]
def BV (x:UInt16) (kk:IntKind) (c:Nat):aC .shl (v16 x) (.int kk (c:Int))=some (v16 (pp x c)):=by
 have h0: ((c:Int)<0)=False:=by simp only[eq_iff_iff,iff_false];omega
 have e:IntKind.wrap .u16 ((x.toNat:Int)* (2^ (min c 16)))=((pp x c).toNat:Int):=by
  have hp: (2:Int)^ (min c 16)=((2^ (min c 16):Nat):Int):=by rw[Int.natCast_pow];rfl
  rw[hp,←Int.natCast_mul,qt,pp,UInt16.toNat_ofNat']
  congr 1
  by_cases hc:c≤16
  ·rw[Nat.min_eq_left hc]
  rw[Nat.min_eq_right oM]
  have:2^c=2^16*2^ (c - 16):=by rw[←Nat.pow_add];congr 1;omega
  rw[this,←Nat.mul_assoc,Nat.mul_right_comm]
  simp[Nat.mul_mod_left]
 simp only[aC,v16,kF,h0, ↓reduceIte,Int.toNat_natCast,IntKind.bits,e]
def v32 (x:UInt32):Value:= .int .u32 (x.toNat:Int)
def Bn (n:Nat) (h:n<4294967296):IntKind.wrap .u32 (n:Int)=(n:Int):=by
 simp only[IntKind.wrap,IntKind.bits,IntKind.signed,Bool.false_and,Bool.false_eq_true, ↓reduceIte]
 omega
def qp (n:Nat):IntKind.wrap .u32 (n:Int)=((n%4294967296:Nat):Int):=by
 simp only[IntKind.wrap,IntKind.bits,IntKind.signed,Bool.false_and,Bool.false_eq_true, ↓reduceIte]
 omega
def oI (x:UInt32):BitVec.ofInt (IntKind.bits .u32) (x.toNat:Int)=x.toBitVec:=by
 apply BitVec.eq_of_toNat_eq
 simp only[IntKind.bits,BitVec.ofInt_natCast,BitVec.toNat_ofNat,UInt32.toNat_toBitVec]
 exact Nat.mod_eq_of_lt x.toNat_lt
def Oa (n:Nat) (h:n<4294967296):Value.int .u32 (no_index (@OfNat.ofNat Int n _))=v32 (@OfNat.ofNat UInt32 n _):=by
 have: ((@OfNat.ofNat UInt32 n _).toNat:Int)=(@OfNat.ofNat Int n _):=by
  have e: (@OfNat.ofNat UInt32 n _).toNat=n:=by rw[UInt32.toNat_ofNat];exact Nat.mod_eq_of_lt h
  rw[e];rfl
 rw[v32,this]
def GM (x y:UInt32):aC .add (v32 x) (v32 y)=some (v32 (x+y)):=by
 simp only[aC,v32,ax, ↓reduceIte,UInt32.toNat_add]
 rw[←Int.natCast_add,qp]
def Gg (x y:UInt32):aC .mul (v32 x) (v32 y)=some (v32 (x*y)):=by
 simp only[aC,v32,ax, ↓reduceIte,UInt32.toNat_mul]
 rw[←Int.natCast_mul,qp]
def Gk (x y:UInt32):aC .sub (v32 x) (v32 y)=some (v32 (x - y)):=by
 have hx:=x.toNat_lt;have hy:=y.toNat_lt
 have e:IntKind.wrap .u32 ((x.toNat:Int) - (y.toNat:Int))=((x - y).toNat:Int):=by
  rw[UInt32.toNat_sub]
  simp only[IntKind.wrap,IntKind.bits,IntKind.signed,Bool.false_and,Bool.false_eq_true, ↓reduceIte]
  omega
 simp only[aC,v32,ax, ↓reduceIte,e]
def Hv (x y:UInt32):aC .and (v32 x) (v32 y)=some (v32 (x&&&y)):=by
 simp only[aC,v32,ax, ↓reduceIte,fC,oI,Option.map_some]
 show some (Value.int .u32 (IntKind.wrap .u32 ((x&&&y).toNat:Int)))=_
 rw[Bn _ (x&&&y).toNat_lt]
def Ja (x y:UInt32):aC .or (v32 x) (v32 y)=some (v32 (x|||y)):=by
 simp only[aC,v32,ax, ↓reduceIte,fC,oI,Option.map_some]
 show some (Value.int .u32 (IntKind.wrap .u32 ((x|||y).toNat:Int)))=_
 rw[Bn _ (x|||y).toNat_lt]
def Gi (x y:UInt32):aC .xor (v32 x) (v32 y)=some (v32 (x^^^y)):=by
 simp only[aC,v32,ax, ↓reduceIte,fC,oI,Option.map_some]
 show some (Value.int .u32 (IntKind.wrap .u32 ((x^^^y).toNat:Int)))=_
 rw[Bn _ (x^^^y).toNat_lt]
def IR (x:UInt32):unV .xor (v32 x)=some (v32 (~~~ x)):=by
 have hx:=x.toNat_lt
 have e: (BitVec.ofInt (IntKind.bits .u32) (IntKind.max .u32))=BitVec.allOnes 32:=rfl
 have e2: (BitVec.allOnes 32^^^x.toBitVec)=(~~~ x).toBitVec:=by rw[UInt32.toBitVec_not];exact BitVec.allOnes_xor
 simp only[unV,v32,fC,oI,IntKind.signed,Bool.false_eq_true, ↓reduceIte,e,Option.map_some]
 show some (Value.int .u32 (IntKind.wrap .u32 ((BitVec.allOnes 32^^^x.toBitVec).toNat:Int)))=_
 rw[e2]
 show some (Value.int .u32 (IntKind.wrap .u32 ((~~~ x).toNat:Int)))=_
 rw[Bn _ (~~~ x).toNat_lt]
def jM (x:UInt32) (n:Nat):UInt32:=UInt32.ofNat (x.toNat / 2^n)
def mr (x:UInt32) (n:Nat):UInt32:=UInt32.ofNat (x.toNat*2^n)
def Gt (x y:UInt32):aC .lss (v32 x) (v32 y)=some (.bool (decide (x<y))):=by
 simp only[aC,v32,ax, ↓reduceIte,eQ,UInt32.lt_iff_toNat_lt,Int.ofNat_lt,Int.ofNat_le]
def GQ (x y:UInt32):aC .leq (v32 x) (v32 y)=some (.bool (decide (x≤y))):=by
 simp only[aC,v32,ax, ↓reduceIte,eQ,UInt32.le_iff_toNat_le,Int.ofNat_lt,Int.ofNat_le]
def GD (x y:UInt32):aC .gtr (v32 x) (v32 y)=some (.bool (decide (y<x))):=by
 simp only[aC,v32,ax, ↓reduceIte,eQ,UInt32.lt_iff_toNat_lt,Int.ofNat_lt,Int.ofNat_le,gt_iff_lt,ge_iff_le]
def GF (x y:UInt32):aC .geq (v32 x) (v32 y)=some (.bool (decide (y≤x))):=by
 simp only[aC,v32,ax, ↓reduceIte,eQ,UInt32.le_iff_toNat_le,Int.ofNat_lt,Int.ofNat_le,gt_iff_lt,ge_iff_le]
def x_ (x y:UInt32): ((x.toNat:Int)==(y.toNat:Int))=(x==y):=by
 rw[Bool.eq_iff_iff,beq_iff_eq,beq_iff_eq,Int.ofNat_inj,UInt32.toNat_inj]
def GC (x y:UInt32):aC .eql (v32 x) (v32 y)=some (.bool (x==y)):=by
 simp only[aC,v32,ax, ↓reduceIte,eQ,x_]
def Hw (x y:UInt32):aC .neq (v32 x) (v32 y)=some (.bool (x !=y)):=by
 simp only[aC,v32,ax, ↓reduceIte,eQ,bne,x_]
def Gh (x y:UInt32) (h:0<y.toNat):aC .quo (v32 x) (v32 y)=some (v32 (x / y)):=by
 have hx:=x.toNat_lt
 have e:IntKind.wrap .u32 ((x.toNat:Int).tdiv (y.toNat:Int))=((x / y).toNat:Int):=by
  rw[UInt32.toNat_div,Int.tdiv_eq_ediv_of_nonneg oM,←Int.natCast_ediv,qp]
  congr 1
  exact Nat.mod_eq_of_lt (Nat.lt_of_le_of_lt (Nat.div_le_self _ _) hx)
 have h0: ((y.toNat:Int)=0)=False:=by simp only[eq_iff_iff,iff_false];omega
 simp only[aC,v32,ax, ↓reduceIte,h0,e]
def HF (x y:UInt32) (h:0<y.toNat):aC .rem (v32 x) (v32 y)=some (v32 (x%y)):=by
 have e: ((x.toNat:Int).tmod (y.toNat:Int))=((x%y).toNat:Int):=by
  rw[UInt32.toNat_mod,Int.tmod_eq_emod_of_nonneg oM,Int.natCast_emod]
 have h0: ((y.toNat:Int)=0)=False:=by simp only[eq_iff_iff,iff_false];omega
 simp only[aC,v32,ax, ↓reduceIte,h0,e]
def BI (x:UInt32) (kk:IntKind) (c:Nat):aC .shr (v32 x) (.int kk (c:Int))=some (v32 (jM x c)):=by
 have hx:=x.toNat_lt
 have h0: ((c:Int)<0)=False:=by simp only[eq_iff_iff,iff_false];omega
 have e: ((x.toNat:Int).fdiv (2^ (min c 32)))=((jM x c).toNat:Int):=by
  have hp: (2:Int)^ (min c 32)=((2^ (min c 32):Nat):Int):=by rw[Int.natCast_pow];rfl
  rw[hp,Int.fdiv_eq_ediv_of_nonneg _ (Int.natCast_nonneg _),←Int.natCast_ediv,jM,UInt32.toNat_ofNat']
  congr 1
  rw[Nat.mod_eq_of_lt (Nat.lt_of_le_of_lt (Nat.div_le_self _ _) hx)]
  by_cases hc:c≤32
  ·rw[Nat.min_eq_left hc]
  rw[Nat.min_eq_right oM,Nat.div_eq_of_lt (by simpa using hx),Nat.div_eq_of_lt]
  exact Nat.lt_of_lt_of_le (by simpa using hx) (Nat.pow_le_pow_right oM (by omega:32≤c))
 simp only[aC,v32,kF,h0, ↓reduceIte,Int.toNat_natCast,IntKind.bits,e]
def BT (x:UInt32) (kk:IntKind) (c:Nat):aC .shl (v32 x) (.int kk (c:Int))=some (v32 (mr x c)):=by
 have h0: ((c:Int)<0)=False:=by simp only[eq_iff_iff,iff_false];omega
 have e:IntKind.wrap .u32 ((x.toNat:Int)* (2^ (min c 32)))=((mr x c).toNat:Int):=by
  have hp: (2:Int)^ (min c 32)=((2^ (min c 32):Nat):Int):=by rw[Int.natCast_pow];rfl
  rw[hp,←Int.natCast_mul,qp,mr,UInt32.toNat_ofNat']
  congr 1
  by_cases hc:c≤32
  ·rw[Nat.min_eq_left hc]
  rw[Nat.min_eq_right oM]
  have:2^c=2^32*2^ (c - 32):=by rw[←Nat.pow_add];congr 1;omega
  rw[this,←Nat.mul_assoc,Nat.mul_right_comm]
  simp[Nat.mul_mod_left]
 simp only[aC,v32,kF,h0, ↓reduceIte,Int.toNat_natCast,IntKind.bits,e]
def v64 (x:UInt64):Value:= .int .u64 (x.toNat:Int)
def Bj (n:Nat) (h:n<18446744073709551616):IntKind.wrap .u64 (n:Int)=(n:Int):=by
 simp only[IntKind.wrap,IntKind.bits,IntKind.signed,Bool.false_and,Bool.false_eq_true, ↓reduceIte]
 omega
def qq (n:Nat):IntKind.wrap .u64 (n:Int)=((n%18446744073709551616:Nat):Int):=by
 simp only[IntKind.wrap,IntKind.bits,IntKind.signed,Bool.false_and,Bool.false_eq_true, ↓reduceIte]
 omega
def oF (x:UInt64):BitVec.ofInt (IntKind.bits .u64) (x.toNat:Int)=x.toBitVec:=by
 apply BitVec.eq_of_toNat_eq
 simp only[IntKind.bits,BitVec.ofInt_natCast,BitVec.toNat_ofNat,UInt64.toNat_toBitVec]
 exact Nat.mod_eq_of_lt x.toNat_lt
def ON (n:Nat) (h:n<18446744073709551616):Value.int .u64 (no_index (@OfNat.ofNat Int n _))=v64 (@OfNat.ofNat UInt64 n _):=by
 have: ((@OfNat.ofNat UInt64 n _).toNat:Int)=(@OfNat.ofNat Int n _):=by
  have e: (@OfNat.ofNat UInt64 n _).toNat=n:=by rw[UInt64.toNat_ofNat];exact Nat.mod_eq_of_lt h
  rw[e];rfl
 rw[v64,this]
def HH (x y:UInt64):aC .add (v64 x) (v64 y)=some (v64 (x+y)):=by
 simp only[aC,v64,ax, ↓reduceIte,UInt64.toNat_add]
 rw[←Int.natCast_add,qq]
def HA (x y:UInt64):aC .mul (v64 x) (v64 y)=some (v64 (x*y)):=by
 simp only[aC,v64,ax, ↓reduceIte,UInt64.toNat_mul]
 rw[←Int.natCast_mul,qq]
def GB (x y:UInt64):aC .sub (v64 x) (v64 y)=some (v64 (x - y)):=by
 have hx:=x.toNat_lt;have hy:=y.toNat_lt
 have e:IntKind.wrap .u64 ((x.toNat:Int) - (y.toNat:Int))=((x - y).toNat:Int):=by
  rw[UInt64.toNat_sub]
  simp only[IntKind.wrap,IntKind.bits,IntKind.signed,Bool.false_and,Bool.false_eq_true, ↓reduceIte]
  omega
 simp only[aC,v64,ax, ↓reduceIte,e]
def HN (x y:UInt64):aC .and (v64 x) (v64 y)=some (v64 (x&&&y)):=by
 simp only[aC,v64,ax, ↓reduceIte,fC,oF,Option.map_some]
 show some (Value.int .u64 (IntKind.wrap .u64 ((x&&&y).toNat:Int)))=_
 rw[Bj _ (x&&&y).toNat_lt]
def Io (x y:UInt64):aC .or (v64 x) (v64 y)=some (v64 (x|||y)):=by
 simp only[aC,v64,ax, ↓reduceIte,fC,oF,Option.map_some]
 show some (Value.int .u64 (IntKind.wrap .u64 ((x|||y).toNat:Int)))=_
 rw[Bj _ (x|||y).toNat_lt]
def HC (x y:UInt64):aC .xor (v64 x) (v64 y)=some (v64 (x^^^y)):=by
 simp only[aC,v64,ax, ↓reduceIte,fC,oF,Option.map_some]
 show some (Value.int .u64 (IntKind.wrap .u64 ((x^^^y).toNat:Int)))=_
 rw[Bj _ (x^^^y).toNat_lt]
def Hz (x:UInt64):unV .xor (v64 x)=some (v64 (~~~ x)):=by
 have hx:=x.toNat_lt
 have e: (BitVec.ofInt (IntKind.bits .u64) (IntKind.max .u64))=BitVec.allOnes 64:=rfl
 have e2: (BitVec.allOnes 64^^^x.toBitVec)=(~~~ x).toBitVec:=by rw[UInt64.toBitVec_not];exact BitVec.allOnes_xor
 simp only[unV,v64,fC,oF,IntKind.signed,Bool.false_eq_true, ↓reduceIte,e,Option.map_some]
 show some (Value.int .u64 (IntKind.wrap .u64 ((BitVec.allOnes 64^^^x.toBitVec).toNat:Int)))=_
 rw[e2]
 show some (Value.int .u64 (IntKind.wrap .u64 ((~~~ x).toNat:Int)))=_
 rw[Bj _ (~~~ x).toNat_lt]
def nY (x:UInt64) (n:Nat):UInt64:=UInt64.ofNat (x.toNat / 2^n)
def po (x:UInt64) (n:Nat):UInt64:=UInt64.ofNat (x.toNat*2^n)
def HX (x y:UInt64):aC .lss (v64 x) (v64 y)=some (.bool (decide (x<y))):=by
 simp only[aC,v64,ax, ↓reduceIte,eQ,UInt64.lt_iff_toNat_lt,Int.ofNat_lt,Int.ofNat_le]
def HO (x y:UInt64):aC .leq (v64 x) (v64 y)=some (.bool (decide (x≤y))):=by
 simp only[aC,v64,ax, ↓reduceIte,eQ,UInt64.le_iff_toNat_le,Int.ofNat_lt,Int.ofNat_le]
def H2 (x y:UInt64):aC .gtr (v64 x) (v64 y)=some (.bool (decide (y<x))):=by
 simp only[aC,v64,ax, ↓reduceIte,eQ,UInt64.lt_iff_toNat_lt,Int.ofNat_lt,Int.ofNat_le,gt_iff_lt,ge_iff_le]
def HS (x y:UInt64):aC .geq (v64 x) (v64 y)=some (.bool (decide (y≤x))):=by
 simp only[aC,v64,ax, ↓reduceIte,eQ,UInt64.le_iff_toNat_le,Int.ofNat_lt,Int.ofNat_le,gt_iff_lt,ge_iff_le]
def y8 (x y:UInt64): ((x.toNat:Int)==(y.toNat:Int))=(x==y):=by
 rw[Bool.eq_iff_iff,beq_iff_eq,beq_iff_eq,Int.ofNat_inj,UInt64.toNat_inj]
def H7 (x y:UInt64):aC .eql (v64 x) (v64 y)=some (.bool (x==y)):=by
 simp only[aC,v64,ax, ↓reduceIte,eQ,y8]
def Hd (x y:UInt64):aC .neq (v64 x) (v64 y)=some (.bool (x !=y)):=by
 simp only[aC,v64,ax, ↓reduceIte,eQ,bne,y8]
def Gn (x y:UInt64) (h:0<y.toNat):aC .quo (v64 x) (v64 y)=some (v64 (x / y)):=by
 have hx:=x.toNat_lt
 have e:IntKind.wrap .u64 ((x.toNat:Int).tdiv (y.toNat:Int))=((x / y).toNat:Int):=by
  rw[UInt64.toNat_div,Int.tdiv_eq_ediv_of_nonneg oM,←Int.natCast_ediv,qq]
  congr 1
  exact Nat.mod_eq_of_lt (Nat.lt_of_le_of_lt (Nat.div_le_self _ _) hx)
 have h0: ((y.toNat:Int)=0)=False:=by simp only[eq_iff_iff,iff_false];omega
 simp only[aC,v64,ax, ↓reduceIte,h0,e]
def HL (x y:UInt64) (h:0<y.toNat):aC .rem (v64 x) (v64 y)=some (v64 (x%y)):=by
 have e: ((x.toNat:Int).tmod (y.toNat:Int))=((x%y).toNat:Int):=by
  rw[UInt64.toNat_mod,Int.tmod_eq_emod_of_nonneg oM,Int.natCast_emod]
 have h0: ((y.toNat:Int)=0)=False:=by simp only[eq_iff_iff,iff_false];omega
 simp only[aC,v64,ax, ↓reduceIte,h0,e]
def BG (x:UInt64) (kk:IntKind) (c:Nat):aC .shr (v64 x) (.int kk (c:Int))=some (v64 (nY x c)):=by
 have hx:=x.toNat_lt
 have h0: ((c:Int)<0)=False:=by simp only[eq_iff_iff,iff_false];omega
 have e: ((x.toNat:Int).fdiv (2^ (min c 64)))=((nY x c).toNat:Int):=by
  have hp: (2:Int)^ (min c 64)=((2^ (min c 64):Nat):Int):=by rw[Int.natCast_pow];rfl
  rw[hp,Int.fdiv_eq_ediv_of_nonneg _ (Int.natCast_nonneg _),←Int.natCast_ediv,nY,UInt64.toNat_ofNat']
  congr 1
  rw[Nat.mod_eq_of_lt (Nat.lt_of_le_of_lt (Nat.div_le_self _ _) hx)]
  by_cases hc:c≤64
  ·rw[Nat.min_eq_left hc]
  rw[Nat.min_eq_right oM,Nat.div_eq_of_lt (by simpa using hx),Nat.div_eq_of_lt]
  exact Nat.lt_of_lt_of_le (by simpa using hx) (Nat.pow_le_pow_right oM (by omega:64≤c))
 simp only[aC,v64,kF,h0, ↓reduceIte,Int.toNat_natCast,IntKind.bits,e]
def BW (x:UInt64) (kk:IntKind) (c:Nat):aC .shl (v64 x) (.int kk (c:Int))=some (v64 (po x c)):=by
 have h0: ((c:Int)<0)=False:=by simp only[eq_iff_iff,iff_false];omega
 have e:IntKind.wrap .u64 ((x.toNat:Int)* (2^ (min c 64)))=((po x c).toNat:Int):=by
  have hp: (2:Int)^ (min c 64)=((2^ (min c 64):Nat):Int):=by rw[Int.natCast_pow];rfl
  rw[hp,←Int.natCast_mul,qq,po,UInt64.toNat_ofNat']
  congr 1
  by_cases hc:c≤64
  ·rw[Nat.min_eq_left hc]
  rw[Nat.min_eq_right oM]
  have:2^c=2^64*2^ (c - 64):=by rw[←Nat.pow_add];congr 1;omega
  rw[this,←Nat.mul_assoc,Nat.mul_right_comm]
  simp[Nat.mul_mod_left]
 simp only[aC,v64,kF,h0, ↓reduceIte,Int.toNat_natCast,IntKind.bits,e]
def Xn (x:UInt8) (c:UInt8):aC .shr (v8 x) (v8 c)=some (v8 (nq x c.toNat)):=vU x _ _
def Xf (x:UInt8) (c:UInt8):aC .shl (v8 x) (v8 c)=some (v8 (nw x c.toNat)):=vW x _ _
def IV (x:UInt8):bK .u8 (v8 x)=some (v8 (UInt8.ofNat x.toNat)):=by
 simp only[bK,v8,v8,qo,UInt8.toNat_ofNat']
def XP (x:UInt8) (c:UInt16):aC .shr (v8 x) (v16 c)=some (v8 (nq x c.toNat)):=vU x _ _
def XY (x:UInt8) (c:UInt16):aC .shl (v8 x) (v16 c)=some (v8 (nw x c.toNat)):=vW x _ _
def Gf (x:UInt8):bK .u16 (v8 x)=some (v16 (UInt16.ofNat x.toNat)):=by
 simp only[bK,v8,v16,qt,UInt16.toNat_ofNat']
def We (x:UInt8) (c:UInt32):aC .shr (v8 x) (v32 c)=some (v8 (nq x c.toNat)):=vU x _ _
def Wq (x:UInt8) (c:UInt32):aC .shl (v8 x) (v32 c)=some (v8 (nw x c.toNat)):=vW x _ _
def H5 (x:UInt8):bK .u32 (v8 x)=some (v32 (UInt32.ofNat x.toNat)):=by
 simp only[bK,v8,v32,qp,UInt32.toNat_ofNat']
def Wl (x:UInt8) (c:UInt64):aC .shr (v8 x) (v64 c)=some (v8 (nq x c.toNat)):=vU x _ _
def Wu (x:UInt8) (c:UInt64):aC .shl (v8 x) (v64 c)=some (v8 (nw x c.toNat)):=vW x _ _
def HW (x:UInt8):bK .u64 (v8 x)=some (v64 (UInt64.ofNat x.toNat)):=by
 simp only[bK,v8,v64,qq,UInt64.toNat_ofNat']
def T_ (x:UInt8) (kk:IntKind) (c:Int) (h:0≤c):aC .shr (v8 x) (.int kk c)=some (v8 (nq x c.toNat)):=by
 obtain⟨n,rfl⟩:=Int.eq_ofNat_of_zero_le h;exact vU x _ _
def U7 (x:UInt8) (kk:IntKind) (c:Int) (h:0≤c):aC .shl (v8 x) (.int kk c)=some (v8 (nw x c.toNat)):=by
 obtain⟨n,rfl⟩:=Int.eq_ofNat_of_zero_le h;exact vW x _ _
def GE (x:UInt8):bK .i64 (v8 x)=some (.int .i64 ((x.toNat:Int))):=by
 have hx:=x.toNat_lt
 simp only[bK,v8]
 rw[lm _ oM]
def V2 (kk:IntKind) (n:Int):bK .u8 (.int kk n)=some (v8 (UInt8.ofInt n)):=by
 simp only[bK,v8,Xm]
def Wj (x:UInt16) (c:UInt8):aC .shr (v16 x) (v8 c)=some (v16 (ph x c.toNat)):=BO x _ _
def XZ (x:UInt16) (c:UInt8):aC .shl (v16 x) (v8 c)=some (v16 (pp x c.toNat)):=BV x _ _
def H1 (x:UInt16):bK .u8 (v16 x)=some (v8 (UInt8.ofNat x.toNat)):=by
 simp only[bK,v16,v8,qo,UInt8.toNat_ofNat']
def Y0 (x:UInt16) (c:UInt16):aC .shr (v16 x) (v16 c)=some (v16 (ph x c.toNat)):=BO x _ _
def XA (x:UInt16) (c:UInt16):aC .shl (v16 x) (v16 c)=some (v16 (pp x c.toNat)):=BV x _ _
def FZ (x:UInt16):bK .u16 (v16 x)=some (v16 (UInt16.ofNat x.toNat)):=by
 simp only[bK,v16,v16,qt,UInt16.toNat_ofNat']
def WU (x:UInt16) (c:UInt32):aC .shr (v16 x) (v32 c)=some (v16 (ph x c.toNat)):=BO x _ _
def Y7 (x:UInt16) (c:UInt32):aC .shl (v16 x) (v32 c)=some (v16 (pp x c.toNat)):=BV x _ _
def FD (x:UInt16):bK .u32 (v16 x)=some (v32 (UInt32.ofNat x.toNat)):=by
 simp only[bK,v16,v32,qp,UInt32.toNat_ofNat']
def X_ (x:UInt16) (c:UInt64):aC .shr (v16 x) (v64 c)=some (v16 (ph x c.toNat)):=BO x _ _
def Y8 (x:UInt16) (c:UInt64):aC .shl (v16 x) (v64 c)=some (v16 (pp x c.toNat)):=BV x _ _
def Fj (x:UInt16):bK .u64 (v16 x)=some (v64 (UInt64.ofNat x.toNat)):=by
 simp only[bK,v16,v64,qq,UInt64.toNat_ofNat']
def VB (x:UInt16) (kk:IntKind) (c:Int) (h:0≤c):aC .shr (v16 x) (.int kk c)=some (v16 (ph x c.toNat)):=by
 obtain⟨n,rfl⟩:=Int.eq_ofNat_of_zero_le h;exact BO x _ _
def V5 (x:UInt16) (kk:IntKind) (c:Int) (h:0≤c):aC .shl (v16 x) (.int kk c)=some (v16 (pp x c.toNat)):=by
 obtain⟨n,rfl⟩:=Int.eq_ofNat_of_zero_le h;exact BV x _ _
def F1 (x:UInt16):bK .i64 (v16 x)=some (.int .i64 ((x.toNat:Int))):=by
 have hx:=x.toNat_lt
 simp only[bK,v16]
 rw[lm _ oM]
def U2 (kk:IntKind) (n:Int):bK .u16 (.int kk n)=some (v16 (UInt16.ofInt n)):=by
 simp only[bK,v16,X4]
def Xa (x:UInt32) (c:UInt8):aC .shr (v32 x) (v8 c)=some (v32 (jM x c.toNat)):=BI x _ _
def XT (x:UInt32) (c:UInt8):aC .shl (v32 x) (v8 c)=some (v32 (mr x c.toNat)):=BT x _ _
def Hl (x:UInt32):bK .u8 (v32 x)=some (v8 (UInt8.ofNat x.toNat)):=by
 simp only[bK,v32,v8,qo,UInt8.toNat_ofNat']
def WT (x:UInt32) (c:UInt16):aC .shr (v32 x) (v16 c)=some (v32 (jM x c.toNat)):=BI x _ _
def Y1 (x:UInt32) (c:UInt16):aC .shl (v32 x) (v16 c)=some (v32 (mr x c.toNat)):=BT x _ _
def F8 (x:UInt32):bK .u16 (v32 x)=some (v16 (UInt16.ofNat x.toNat)):=by
 simp only[bK,v32,v16,qt,UInt16.toNat_ofNat']
def XC (x:UInt32) (c:UInt32):aC .shr (v32 x) (v32 c)=some (v32 (jM x c.toNat)):=BI x _ _
def XD (x:UInt32) (c:UInt32):aC .shl (v32 x) (v32 c)=some (v32 (mr x c.toNat)):=BT x _ _
def FT (x:UInt32):bK .u32 (v32 x)=some (v32 (UInt32.ofNat x.toNat)):=by
 simp only[bK,v32,v32,qp,UInt32.toNat_ofNat']
def XE (x:UInt32) (c:UInt64):aC .shr (v32 x) (v64 c)=some (v32 (jM x c.toNat)):=BI x _ _
def Xz (x:UInt32) (c:UInt64):aC .shl (v32 x) (v64 c)=some (v32 (mr x c.toNat)):=BT x _ _
def F5 (x:UInt32):bK .u64 (v32 x)=some (v64 (UInt64.ofNat x.toNat)):=by
 simp only[bK,v32,v64,qq,UInt64.toNat_ofNat']
def VC (x:UInt32) (kk:IntKind) (c:Int) (h:0≤c):aC .shr (v32 x) (.int kk c)=some (v32 (jM x c.toNat)):=by
 obtain⟨n,rfl⟩:=Int.eq_ofNat_of_zero_le h;exact BI x _ _
def V9 (x:UInt32) (kk:IntKind) (c:Int) (h:0≤c):aC .shl (v32 x) (.int kk c)=some (v32 (mr x c.toNat)):=by
 obtain⟨n,rfl⟩:=Int.eq_ofNat_of_zero_le h;exact BT x _ _
def FP (x:UInt32):bK .i64 (v32 x)=some (.int .i64 ((x.toNat:Int))):=by
 have hx:=x.toNat_lt
 simp only[bK,v32]
 rw[lm _ oM]
def Tu (kk:IntKind) (n:Int):bK .u32 (.int kk n)=some (v32 (UInt32.ofInt n)):=by
 simp only[bK,v32,Ws]
def Wf (x:UInt64) (c:UInt8):aC .shr (v64 x) (v8 c)=some (v64 (nY x c.toNat)):=BG x _ _
def Wh (x:UInt64) (c:UInt8):aC .shl (v64 x) (v8 c)=some (v64 (po x c.toNat)):=BW x _ _
def Gm (x:UInt64):bK .u8 (v64 x)=some (v8 (UInt8.ofNat x.toNat)):=by
 simp only[bK,v64,v8,qo,UInt8.toNat_ofNat']
def Y2 (x:UInt64) (c:UInt16):aC .shr (v64 x) (v16 c)=some (v64 (nY x c.toNat)):=BG x _ _
def Y3 (x:UInt64) (c:UInt16):aC .shl (v64 x) (v16 c)=some (v64 (po x c.toNat)):=BW x _ _
def FA (x:UInt64):bK .u16 (v64 x)=some (v16 (UInt16.ofNat x.toNat)):=by
 simp only[bK,v64,v16,qt,UInt16.toNat_ofNat']
def XH (x:UInt64) (c:UInt32):aC .shr (v64 x) (v32 c)=some (v64 (nY x c.toNat)):=BG x _ _
def Y9 (x:UInt64) (c:UInt32):aC .shl (v64 x) (v32 c)=some (v64 (po x c.toNat)):=BW x _ _
def Fc (x:UInt64):bK .u32 (v64 x)=some (v32 (UInt32.ofNat x.toNat)):=by
 simp only[bK,v64,v32,qp,UInt32.toNat_ofNat']
def XG (x:UInt64) (c:UInt64):aC .shr (v64 x) (v64 c)=some (v64 (nY x c.toNat)):=BG x _ _
def Y6 (x:UInt64) (c:UInt64):aC .shl (v64 x) (v64 c)=some (v64 (po x c.toNat)):=BW x _ _
def F9 (x:UInt64):bK .u64 (v64 x)=some (v64 (UInt64.ofNat x.toNat)):=by
 simp only[bK,v64,v64,qq,UInt64.toNat_ofNat']
def V8 (x:UInt64) (kk:IntKind) (c:Int) (h:0≤c):aC .shr (v64 x) (.int kk c)=some (v64 (nY x c.toNat)):=by
 obtain⟨n,rfl⟩:=Int.eq_ofNat_of_zero_le h;exact BG x _ _
def VA (x:UInt64) (kk:IntKind) (c:Int) (h:0≤c):aC .shl (v64 x) (.int kk c)=some (v64 (po x c.toNat)):=by
 obtain⟨n,rfl⟩:=Int.eq_ofNat_of_zero_le h;exact BW x _ _
def Fs (x:UInt64):bK .i64 (v64 x)=some (.int .i64 (IntKind.wrap .i64 (x.toNat:Int))):=by
 have hx:=x.toNat_lt
 simp only[bK,v64]
def U6 (kk:IntKind) (n:Int):bK .u64 (.int kk n)=some (v64 (UInt64.ofInt n)):=by
 simp only[bK,v64,Wn]
def Ik (n:Int):bK .u8 (vi n)=some (v8 (UInt8.ofInt n)):=V2 _ n
def Gj (n:Int):bK .u16 (vi n)=some (v16 (UInt16.ofInt n)):=U2 _ n
def HY (n:Int):bK .u32 (vi n)=some (v32 (UInt32.ofInt n)):=Tu _ n
def Ht (n:Int):bK .u64 (vi n)=some (v64 (UInt64.ofInt n)):=U6 _ n
def Xd (x:UInt8) (c:Int) (h:0≤c):aC .shr (v8 x) (vi c)=some (v8 (nq x c.toNat)):=T_ x _ c h
def Xe (x:UInt8) (c:Int) (h:0≤c):aC .shl (v8 x) (vi c)=some (v8 (nw x c.toNat)):=U7 x _ c h
def Wk (x:UInt16) (c:Int) (h:0≤c):aC .shr (v16 x) (vi c)=some (v16 (ph x c.toNat)):=VB x _ c h
def XI (x:UInt16) (c:Int) (h:0≤c):aC .shl (v16 x) (vi c)=some (v16 (pp x c.toNat)):=V5 x _ c h
def Wb (x:UInt32) (c:Int) (h:0≤c):aC .shr (v32 x) (vi c)=some (v32 (jM x c.toNat)):=VC x _ c h
def Wd (x:UInt32) (c:Int) (h:0≤c):aC .shl (v32 x) (vi c)=some (v32 (mr x c.toNat)):=V9 x _ c h
def Wr (x:UInt64) (c:Int) (h:0≤c):aC .shr (v64 x) (vi c)=some (v64 (nY x c.toNat)):=V8 x _ c h
def X5 (x:UInt64) (c:Int) (h:0≤c):aC .shl (v64 x) (vi c)=some (v64 (po x c.toNat)):=VA x _ c h
end Go.Sx
end
section
namespace Go.Sx
open Go
def yx:TypeDesc→Bool
 | .struct _=>true
 | .array _ _=>true
 |_=>false
def aM (P:Program) (t:TypeId):Option (Bool×Nat):=
 match P.underlying t,P.info? t with
 |some d,some i=>some (yx d,i.size)
 |_,_=>none
inductive Ix where
 |arr (n:Nat) (m:Bool×Nat)
 |sl (m:Bool×Nat)
 |str
 |no
def ixT (P:Program) (t:TypeId):Ix:=
 match P.underlying t with
 |some (.array n e)=>match aM P e with|some m=> .arr n m|none=> .no
 |some (.slice e)=>match aM P e with|some m=> .sl m|none=> .no
 |some .string=> .str
 |_=> .no
def aT (P:Program) (t:TypeId) (i:Nat):Option (Nat× (Bool×Nat)):=
 match P.underlying t with
 |some (.struct fs)=>match fs[i]? with
  |some fd=>match aM P fd.type with
   |some m=>some (fd.offset,m)
   |none=>none
  |none=>none
 |_=>none
inductive Cv where
 |int (k:IntKind)
 |str
 |bytesStr
 |strBytes (e:TypeId)
 |no
def cvT (P:Program) (s d:TypeId):Cv:=
 match P.underlying s,P.underlying d with
 |some (.int _),some (.int k)=> .int k
 |some .string,some .string=> .str
 |some (.slice e),some .string=>match P.underlying e with|some (.int .u8)=> .bytesStr|_=> .no
 |some .string,some (.slice e)=>match P.underlying e with|some (.int .u8)=> .strBytes e|_=> .no
 |_,_=> .no
section
variable {P:Program}
def wI {t:TypeId} {m:Bool×Nat} (h:aM P t=some m): ∃d i,P.underlying t=some d∧P.info? t=some i∧yx d=m.1∧i.size=m.2:=by
 unfold aM at h
 split at h
 ·rename_i d i hd hi
  cases h
  exact⟨d,i,hd,hi,rfl,rfl⟩
 cases h
def Ea {t:TypeId} {m:Bool×Nat} (h:aM P t=some m) (w:World): (isAgg t).run P w= .ok m.1 w:=by
 obtain⟨d,i,hd,hi,h1,_⟩:=wI h
 unfold isAgg
 rw[Sem.run_bind,run_underlying hd w,←h1]
 cases d<;>rfl
def fh {t:TypeId} {m:Bool×Nat} (h:aM P t=some m) (w:World): (sizeOf t).run P w= .ok m.2 w:=by
 obtain⟨d,i,hd,hi,_,h2⟩:=wI h
 simp[sizeOf,typeInfo,hi,h2]
def jQ (m:Bool×Nat) (cs:Array Value) (off:Nat):Option Value:=
 if m.1 then some (.agg (cs.extract off (off+m.2))) else cs[off]?
def n4 {t:TypeId} {m:Bool×Nat} (h:aM P t=some m) {cs:Array Value} {off:Nat} {v:Value} (hv:jQ m cs off=some v) (w:World): (part t cs off).run P w= .ok v w:=by
 unfold part
 rw[Sem.run_bind,Ea h w]
 simp only[Result.andThen_ok]
 unfold jQ at hv
 cases hm:m.1 with
 |true=>
  rw[hm] at hv
  simp only[↓reduceIte,Option.some.injEq] at hv
  simp only[↓reduceIte]
  rw[Sem.run_bind,fh h w]
  simp only[Result.andThen_ok,Sem.run_pure,hv]
 |false=>
  rw[hm] at hv
  simp only[Bool.false_eq_true, ↓reduceIte] at hv
  simp only[Bool.false_eq_true, ↓reduceIte,hv,Sem.run_pure]
end
def vp (b off:Nat):Value:= .pointer (some ⟨b,off,none⟩)
def vsl (b off n c:Nat):Value:= .slice (some ⟨b,off,none⟩) n c
def vs (l:List UInt8):Value:= .string ⟨l.toArray⟩
def l6 (b o n:Nat): (Addr.mk b o none).add n=⟨b,o+n,none⟩:=by
 unfold Addr.add;split<;>simp_all
def ixI:Value→Option Int
 | .int _ n=>some n
 |_=>none
def mz (x:Ix) (v:Value) (i:Option Int):Option Value:=
 match x,v,i with
 | .arr n m, .agg cs,some k=>if 0≤k∧k<n then jQ m cs (k.toNat*m.2) else none
 | .str, .string s,some k=>if 0≤k then(s[k.toNat]?).map fun b=> .int .u8 (b.toNat:Int) else none
 |_,_,_=>none
def lD (x:Ix) (v:Value) (i:Option Int):Option Value:=
 match x,v,i with
 | .arr n m, .pointer (some a),some k=>if 0≤k∧k<n then some (.pointer (some (a.add (k.toNat*m.2)))) else none
 | .sl m, .slice (some a) n _,some k=>if 0≤k∧k<n then some (.pointer (some (a.add (k.toNat*m.2)))) else none
 |_,_,_=>none
def uV (x:Option (Nat× (Bool×Nat))) (v:Value):Option Value:=
 match x,v with
 |some (off,m), .pointer (some a)=>if m.2=0 then none else some (.pointer (some (a.add off)))
 |_,_=>none
def oA (x:Option (Nat× (Bool×Nat))) (v:Value):Option Value:=
 match x,v with
 |some (off,m), .agg cs=>jQ m cs off
 |_,_=>none
def nilV (v:Value):Option Value:=
 match v with
 | .pointer (some a)=>some (.pointer (some a))
 | .func (.func k) a b=>some (.func (.func k) a b)
 |_=>none
def Bu (v:Value) (i:Nat):Option Value:=
 match v with
 | .tuple vs=>vs[i]?
 |_=>none
def eF (x:Ix) (v:Value):Option Value:=
 match x,v with
 | .str, .string s=>some (.int .i64 s.size)
 | .arr n _,_=>some (.int .i64 n)
 | .sl _, .slice _ n _=>some (.int .i64 n)
 |_,_=>none
def capV (x:Ix) (v:Value):Option Value:=
 match x,v with
 | .arr n _,_=>some (.int .i64 n)
 | .sl _, .slice _ _ c=>some (.int .i64 c)
 |_,_=>none
def gu (c a b:Value):Option Value:=
 match c with
 | .bool true=>some a
 | .bool false=>some b
 |_=>none
def bndV (n c:Nat) (lo hi:Option (Option Int)):Option (Nat×Nat):=
 match lo,hi with
 |none,none=>some (0,n)
 |some (some l),none=>if 0≤l∧l≤n then some (l.toNat,n) else none
 |none,some (some h)=>if 0≤h∧h≤c then some (0,h.toNat) else none
 |some (some l),some (some h)=>if 0≤l∧l≤h∧h≤c then some (l.toNat,h.toNat) else none
 |_,_=>none
def g7 (x:Ix) (v:Value) (lo hi:Option (Option Int)):Option Value:=
 match x,v with
 | .str, .string s=>match bndV s.size s.size lo hi with
  |some (l,h)=>some (.string (s.extract l h))
  |none=>none
 | .sl m, .slice a n c=>match bndV n c lo hi with
  |some (l,h)=>some (.slice (if c=l then a else a.map (·.add (l*m.2))) (h - l) (c - l))
  |none=>none
 | .arr n m, .pointer (some a)=>match bndV n n lo hi with
  |some (l,h)=>some (.slice (some (if n=l then a else a.add (l*m.2))) (h - l) (n - l))
  |none=>none
 |_,_=>none
def ak (m:Option (Bool×Nat)) (o:Option Obj) (off:Nat):Option Value:=
 match m,o with
 |some (true,n),some (.cells cs _ _)=>if off+n≤cs.size then some (.agg (cs.extract off (off+n))) else none
 |some (false,_),some (.cells cs _ _)=>cs[off]?
 |_,_=>none
def qv (m:Option (Bool×Nat)) (w0:World) (L:aA) (v:Value):Option Value:=
 match v with
 | .pointer (some ⟨b,off,none⟩)=>ak m (aS w0 L b) off
 |_=>none
def qy:List Value→Option (List UInt8)
 | []=>some []
 | .int .u8 n::r=>match qy r with
  |some l=>some (UInt8.ofNat n.toNat::l)
  |none=>none
 |_=>none
def lq (o:Option Obj) (off n:Nat):Option Value:=
 match o with
 |some (.cells cs _ _)=>if off+n≤cs.size then(qy (cs.extract off (off+n)).toList).map fun l=> .string ⟨l.toArray⟩ else none
 |_=>none
def rV (w0:World) (L:aA) (v:Value):Option Value:=
 match v with
 | .slice none _ _=>some (.string .empty)
 | .slice (some ⟨b,off,none⟩) n _=>lq (aS w0 L b) off n
 |_=>none
def nA (w0:World) (L:aA) (c:Cv) (v:Value):Option Value:=
 match c with
 | .int k=>bK k v
 | .str=>match v with| .string s=>some (.string s) |_=>none
 | .bytesStr=>rV w0 L v
 |_=>none
def eX (d:Option TypeDesc) (x y:Value):Option Bool:=
 match d,x,y with
 |some (.pointer _), .pointer none, .pointer b=>some b.isNone
 |some (.pointer _), .pointer (some _), .pointer none=>some false
 |some (.slice _), .slice none _ _, .slice b _ _=>some b.isNone
 |some (.slice _), .slice (some _) _ _, .slice none _ _=>some false
 |some (.map _ _), .map none, .map b=>some b.isNone
 |some (.map _ _), .map (some _), .map none=>some false
 |some (.func _ _ _), .nilFunc, .nilFunc=>some true
 |some (.func _ _ _), .nilFunc, .func _ _ _=>some false
 |some (.func _ _ _), .func _ _ _, .nilFunc=>some false
 |some .bool, .bool a, .bool b=>some (a==b)
 |_,_,_=>none
def eM:Value→Bool
 | .int _ _=>true
 | .string _=>true
 |_=>false
def vO (f:Nat→Option Bool):List Nat→Option Bool
 | []=>some true
 |i::r=>match f i with
  |some true=>vO f r
  |some false=>some false
  |none=>none
def BK (f:Field→Option Bool):List Field→Option Bool
 | []=>some true
 |x::r=>if x.name≠ "_" then(match f x with
  |some true=>BK f r
  |some false=>some false
  |none=>none) else BK f r
def qx (m:Option (Bool×Nat)) (f:Value→Value→Option Bool) (xs ys:Array Value) (off:Nat):Option Bool:=
 match m with
 |some m=>match jQ m xs off,jQ m ys off with
  |some a,some b=>f a b
  |_,_=>none
 |none=>none
def eqD (P:Program):Nat→TypeId→Value→Value→Option Bool
 |0,_,_,_=>none
 |d+1,t,x,y=>match P.underlying t,x,y with
  |some (.int _), .int k a, .int k' b=>if k=k' then some (a==b) else none
  |some .string, .string a, .string b=>some (a==b)
  |some (.array n e), .agg xs, .agg ys=>match aM P e with
   |some m=>vO (fun i=>qx (some m) (eqD P d e) xs ys (i*m.2)) (List.range n)
   |none=>none
  |some (.struct fs), .agg xs, .agg ys=>if P.stoodInHeld t then none else
   BK (fun f=>qx (aM P f.type) (eqD P d f.type) xs ys f.offset) fs.toList
  |D,x,y=>eX D x y
def eqX (P:Program) (t:TypeId) (x y:Value):Option Bool:=
 match x,y with
 | .agg xs, .agg ys=>if P.eqGuardType P.depth t then none else eqD P 8 t (.agg xs) (.agg ys)
 |x,y=>eX (P.underlying t) x y
def ac (P:Program) (op:BinOp) (t:TypeId) (x y:Value):Option Value:=
 if eM x&&eM y then aC op x y
 else match op with
  | .eql=>(eqX P t x y).map fun b=> .bool b
  | .neq=>(eqX P t x y).map fun b=> .bool (!b)
  |_=>none
def gW (P:Program) (w0:World) (L:aA) (f:Fr):Op→Option Value
 | .move x=>some (ev f x)
 | .assign x=>some (ev f x)
 | .pick c a b=>gu (ev f c) (ev f a) (ev f b)
 | .binOp op t x y _=>ac P op t (ev f x) (ev f y)
 | .unOp op _ x=>unV op (ev f x)
 | .convert s d x=>nA w0 L (cvT P s d) (ev f x)
 | .nilCheck x=>nilV (ev f x)
 | .fieldAddr s x i=>uV (aT P s i) (ev f x)
 | .field s x i=>oA (aT P s i) (ev f x)
 | .indexAddr t x i=>lD (ixT P t) (ev f x) (ixI (ev f i))
 | .index t x i=>mz (ixT P t) (ev f x) (ixI (ev f i))
 | .load t x=>qv (aM P t) w0 L (ev f x)
 | .extract x i=>Bu (ev f x) i
 | .slice t x lo hi none=>g7 (ixT P t) (ev f x) (lo.map fun o=>ixI (ev f o)) (hi.map fun o=>ixI (ev f o))
 | .makeFunc fn a b=>some (.func fn (a.map (ev f)) (b.map (ev f)))
 | .call ⟨.builtin .len,args,ts⟩=>match args[0]?,ts[0]? with
  |some x,some t=>eF (ixT P t) (ev f x)
  |_,_=>none
 | .call ⟨.builtin .cap,args,ts⟩=>match args[0]?,ts[0]? with
  |some x,some t=>capV (ixT P t) (ev f x)
  |_,_=>none
 |_=>none
def Gd {w0 w:World} {L:aA} (h:Hp w0 L w) {b:Nat} {cs:Array Value} {E:TypeId} {fz:Nat×Nat} (hr:aS w0 L b=some (.cells cs E fz)) (off:Nat):w.cell? ⟨b,off,none⟩=cs[off]? :=
 cell_of_row w b off cs E fz (h.read hr)
section
variable {P:Program} {w0 w:World} {L:aA}
def DM {b:Nat} {cs:Array Value} {E:TypeId} {fz:Nat×Nat} (hb:w.heap[b]? =some (.cells cs E fz)) (off n:Nat) (hn:off+n≤cs.size):
  (loadCells ⟨b,off,none⟩ n).run P w= .ok (cs.extract off (off+n)) w:=by
 have h:=run_loadCells_list (P:=P) w ⟨b,off,none⟩ (cs.extract off (off+n)).toList (by
  intro j v hv
  rw[l6,cell_of_row w b _ cs E fz hb]
  simp only[Array.getElem?_toList,Array.getElem?_extract] at hv
  split at hv
  ·exact hv
  cases hv)
 have e: (cs.extract off (off+n)).toList.length=n:=by simp;omega
 rw[e,Array.toArray_toList] at h
 exact h
def Ty {t:TypeId} {b off:Nat} {v:Value} (hw:Hp w0 L w) (h:ak (aM P t) (aS w0 L b) off=some v): (loadVar t ⟨b,off,none⟩).run P w= .ok v w:=by
 unfold ak at h
 split at h
 ·rename_i n cs E fz hm ho
  split at h
  ·rename_i hn
   simp only[Option.some.injEq] at h;subst h
   unfold loadVar
   rw[Sem.run_bind,Ea hm w]
   simp only[Result.andThen_ok, ↓reduceIte,Sem.run_bind,fh hm w,DM (hw.read ho) off n hn,Sem.run_pure]
  cases h
 ·rename_i n cs E fz hm ho
  unfold loadVar
  rw[Sem.run_bind,Ea hm w]
  simp only[Result.andThen_ok,Bool.false_eq_true, ↓reduceIte,run_load,Gd hw ho,h]
 cases h
theorem Ut (f:Value→ByteArray→Sem (ForInStep ByteArray)) (hf: ∀ (n:Int) s,f (.int .u8 n) s=pure (.yield (s.push (UInt8.ofNat n.toNat)))):
  ∀ (l:List Value) (bs:List UInt8) (s:ByteArray) (w:World),qy l=some bs→(forIn l s f).run P w= .ok ⟨s.data++bs.toArray⟩ w
 | [],bs,s,w,h=>by
  simp only[qy,Option.some.injEq] at h;subst h
  simp
 |v::r,bs,s,w,h=>by
  unfold qy at h
  split at h
  ·cases ‹v::r= []›
  ·rename_i n r' e
   cases e
   split at h
   ·rename_i l hl
    simp only[Option.some.injEq] at h;subst h
    have ih:=Ut f hf r l (s.push (UInt8.ofNat n.toNat)) w hl
    rw[List.forIn_cons,hf]
    simp only[pure_bind]
    rw[ih]
    congr 1
    apply congrArg
    apply Array.ext'
    simp[ByteArray.push]
   cases h
  cases h
def XM {b off n c:Nat} {v:Value} (hw:Hp w0 L w) (h:lq (aS w0 L b) off n=some v): (Conv.bytesToString (.slice (some ⟨b,off,none⟩) n c)).run P w= .ok v w:=by
 unfold lq at h
 split at h
 ·rename_i cs E fz ho
  split at h
  ·rename_i hn
   cases hl:qy (cs.extract off (off+n)).toList with
   |none=>rw[hl] at h;cases h
   |some l=>
    rw[hl] at h
    simp only[Option.map_some,Option.some.injEq] at h;subst h
    unfold Conv.bytesToString
    simp only[Sem.run_bind,DM (hw.read ho) off n hn,Result.andThen_ok]
    rw[←Array.forIn_toList,Ut _ (fun n s=>rfl) _ _ _ w hl]
    simp[ByteArray.empty,ByteArray.emptyWithCapacity]
    rfl
  cases h
 cases h
end
end Go.Sx
end
section
namespace Go.Sx
open Go
section
variable {P:Program} {w0 w:World} {L:aA}
def Ay {v:Value} {i:Int} (h:ixI v=some i): ∃k,v= .int k i:=by
 cases v<;>simp only[ixI,reduceCtorEq,Option.some.injEq] at h
 subst h;exact⟨_,rfl⟩
def IF {t:TypeId} {x i v:Value} (h:mz (ixT P t) x (ixI i)=some v) (w:World): (Instr.index t x i).run P w= .ok v w:=by
 unfold mz at h
 split at h
 ·rename_i n m cs k hx hi
  split at h
  ·rename_i hk
   obtain⟨kk,rfl⟩:=Ay hi
   unfold ixT at hx
   split at hx
   ·rename_i n' e hu
    split at hx
    ·rename_i m' hm
     cases hx
     simp only[Instr.index,asIntOf,Sem.run_bind,Sem.run_pure,Result.andThen_ok,run_underlying hu w,hk,and_self, ↓reduceIte,fh hm w]
     exact n4 hm h w
    cases hx
   ·split at hx<;>cases hx
   ·cases hx
   cases hx
  cases h
 ·rename_i s k hx hi
  split at h
  ·rename_i hk
   obtain⟨kk,rfl⟩:=Ay hi
   unfold ixT at hx
   split at hx
   ·split at hx<;>cases hx
   ·split at hx<;>cases hx
   ·rename_i hu
    cases hs:s[k.toNat]? with
    |none=>rw[hs] at h;cases h
    |some b=>
     rw[hs] at h
     simp only[Option.map_some,Option.some.injEq] at h;subst h
     simp only[Instr.index,asIntOf,Sem.run_bind,Sem.run_pure,Result.andThen_ok,run_underlying hu w,hk, ↓reduceIte,hs]
   cases hx
  cases h
 cases h
def Wo {t:TypeId} {x i v:Value} (h:lD (ixT P t) x (ixI i)=some v) (w:World): (Instr.indexAt t x i).run P w= .ok v w:=by
 unfold lD at h
 split at h
 ·rename_i n m a k hx hi
  split at h
  ·rename_i hk
   obtain⟨kk,rfl⟩:=Ay hi
   unfold ixT at hx
   split at hx
   ·rename_i n' e hu
    split at hx
    ·rename_i m' hm
     cases hx
     cases h
     simp only[Instr.indexAt,asIntOf,Sem.run_bind,Sem.run_pure,Result.andThen_ok,run_underlying hu w,Instr.sureAddr,hk,and_self, ↓reduceIte,fh hm w]
    cases hx
   ·split at hx<;>cases hx
   ·cases hx
   cases hx
  cases h
 ·rename_i m a n c k hx hi
  split at h
  ·rename_i hk
   obtain⟨kk,rfl⟩:=Ay hi
   unfold ixT at hx
   split at hx
   ·split at hx<;>cases hx
   ·rename_i e hu
    split at hx
    ·rename_i m' hm
     cases hx
     cases h
     simp only[Instr.indexAt,asIntOf,Sem.run_bind,Sem.run_pure,Result.andThen_ok,run_underlying hu w,hk,and_self, ↓reduceIte,fh hm w]
    cases hx
   ·cases hx
   cases hx
  cases h
 cases h
def Wp {t:TypeId} {x v:Value} {i:Nat} (h:uV (aT P t i) x=some v) (w:World): (Instr.fieldAt t x i).run P w= .ok v w:=by
 unfold uV at h
 split at h
 ·rename_i off m a hx
  split at h
  ·cases h
  rename_i nO
  unfold aT at hx
  split at hx
  ·rename_i fs hu
   split at hx
   ·rename_i fd hf
    split at hx
    ·rename_i m' hm
     cases hx
     cases h
     simp only[Instr.fieldAt,Sem.run_bind,Sem.run_pure,Result.andThen_ok,run_underlying hu w,hf,Instr.sureAddr,fieldPlace,fh hm w,nO, ↓reduceIte]
    cases hx
   cases hx
  cases hx
 cases h
def IH {t:TypeId} {x v:Value} {i:Nat} (h:oA (aT P t i) x=some v) (w:World): (Instr.field t x i).run P w= .ok v w:=by
 unfold oA at h
 split at h
 ·rename_i off m cs hx
  unfold aT at hx
  split at hx
  ·rename_i fs hu
   split at hx
   ·rename_i fd hf
    split at hx
    ·rename_i m' hm
     cases hx
     simp only[Instr.field,Sem.run_bind,Result.andThen_ok,run_underlying hu w,hf,asAgg,Sem.run_pure]
     exact n4 hm h w
    cases hx
   cases hx
  cases hx
 cases h
def rT {t:TypeId} {n:Nat} {m:Bool×Nat} (h:ixT P t= .arr n m): ∃e,P.underlying t=some (.array n e)∧aM P e=some m:=by
 unfold ixT at h
 split at h
 ·rename_i n' e hu
  split at h
  ·rename_i m' hm;cases h;exact⟨e,hu,hm⟩
  cases h
 ·split at h<;>cases h
 ·cases h
 cases h
def r_ {t:TypeId} {m:Bool×Nat} (h:ixT P t= .sl m): ∃e,P.underlying t=some (.slice e)∧aM P e=some m:=by
 unfold ixT at h
 split at h
 ·split at h<;>cases h
 ·rename_i e hu
  split at h
  ·rename_i m' hm;cases h;exact⟨e,hu,hm⟩
  cases h
 ·cases h
 cases h
def y9 {t:TypeId} (h:ixT P t= .str):P.underlying t=some .string:=by
 unfold ixT at h
 split at h
 ·split at h<;>cases h
 ·split at h<;>cases h
 ·assumption
 cases h
def Ll {t:TypeId} {x v:Value} (h:eF (ixT P t) x=some v) (y:TypeId) (ts:Array TypeId) (vs:Array Value) (h1:vs[0]? =some x) (h2:ts[0]? =some t) (w:World):
  (Builtin.len_ ts y vs).run P w= .ok v w:=by
 unfold eF at h
 split at h
 ·rename_i s hx
  cases h
  simp only[Builtin.len_,h1,h2,Sem.run_bind,run_underlying (y9 hx) w,Result.andThen_ok];rfl
 ·rename_i n m hx
  cases h
  obtain⟨e,hu,_⟩:=rT hx
  simp only[Builtin.len_,h1,h2,Sem.run_bind,run_underlying hu w,Result.andThen_ok];rfl
 ·rename_i m a n c hx
  cases h
  obtain⟨e,hu,_⟩:=r_ hx
  simp only[Builtin.len_,h1,h2,Sem.run_bind,run_underlying hu w,Result.andThen_ok];rfl
 cases h
def Nf {t:TypeId} {x v:Value} (h:capV (ixT P t) x=some v) (y:TypeId) (ts:Array TypeId) (vs:Array Value) (h1:vs[0]? =some x) (h2:ts[0]? =some t) (w:World):
  (Builtin.cap_ ts y vs).run P w= .ok v w:=by
 unfold capV at h
 split at h
 ·rename_i n m hx
  cases h
  obtain⟨e,hu,_⟩:=rT hx
  simp only[Builtin.cap_,h1,h2,Sem.run_bind,run_underlying hu w,Result.andThen_ok];rfl
 ·rename_i m a n c hx
  cases h
  obtain⟨e,hu,_⟩:=r_ hx
  simp only[Builtin.cap_,h1,h2,Sem.run_bind,run_underlying hu w,Result.andThen_ok];rfl
 cases h
def CU {x:Value} {i:Int} (h:ixI x=some i) {y:Nat} (hi:0≤i∧i≤y) (code:BoundsCode) (w:World): (Instr.sliceBound x y code).run P w= .ok i.toNat w:=by
 obtain⟨k,rfl⟩:=Ay h
 simp only[Instr.sliceBound,asIntOf,Sem.run_bind,Sem.run_pure,Result.andThen_ok,hi,and_self, ↓reduceIte]
def Dt {b:Bool} {n c l h:Nat} {lo hi:Option Value} (hh:bndV n c (lo.map ixI) (hi.map ixI)=some (l,h)) (w:World):
  (Instr.sliceBounds b n c lo hi none).run P w= .ok (l,h,c) w:=by
 unfold bndV at hh
 cases lo with
 |none=>
  cases hi with
  |none=>
   simp only[Option.map_none,Option.some.injEq,Prod.mk.injEq] at hh
   obtain⟨rfl,rfl⟩:=hh
   simp[Instr.sliceBounds]
  |some hv=>
   simp only[Option.map_none,Option.map_some] at hh
   split at hh
   ·cases ‹some (ixI hv)=none›
   ·cases ‹_=none›
   ·rename_i h' e1 e2
    split at hh
    ·rename_i hb
     cases hh
     simp only[Option.some.injEq] at e2
     simp[Instr.sliceBounds,CU e2 hb]
    cases hh
   ·cases ‹none=some (some _)›
   cases hh
 |some lv=>
  cases hi with
  |none=>
   simp only[Option.map_none,Option.map_some] at hh
   split at hh
   ·cases ‹some (ixI lv)=none›
   ·rename_i l' e1 e2
    split at hh
    ·rename_i hb
     cases hh
     simp only[Option.some.injEq] at e1
     simp[Instr.sliceBounds,CU e1 hb]
    cases hh
   ·cases ‹some (ixI lv)=none›
   ·cases ‹none=some (some _)›
   cases hh
  |some hv=>
   simp only[Option.map_some] at hh
   split at hh
   ·cases ‹some (ixI lv)=none›
   ·cases ‹some (ixI hv)=none›
   ·cases ‹some (ixI lv)=none›
   ·rename_i l' h' e1 e2
    split at hh
    ·rename_i hb
     cases hh
     simp only[Option.some.injEq] at e1 e2
     simp[Instr.sliceBounds,CU e2 (⟨by omega,hb.2.2⟩:0≤h'∧h'≤ (c:Int)),CU e1 (y:=h'.toNat) ⟨hb.1,by omega⟩]
    cases hh
   cases hh
def Jp {t:TypeId} {x v:Value} {lo hi:Option Value} (h:g7 (ixT P t) x (lo.map ixI) (hi.map ixI)=some v) (w:World): (Instr.sliceAt t x lo hi none).run P w= .ok v w:=by
 unfold g7 at h
 split at h
 ·rename_i s hx
  split at h
  ·rename_i l sd hb
   cases h
   have hu:=y9 hx
   simp only[Instr.sliceAt,Instr.slice,Sem.run_bind,run_underlying hu w,Result.andThen_ok,Option.isSome_none,Bool.false_eq_true, ↓reduceIte,Dt hb w,Sem.run_pure]
  cases h
 ·rename_i m a n c hx
  split at h
  ·rename_i l sd hb
   cases h
   obtain⟨e,hu,hm⟩:=r_ hx
   simp only[Instr.sliceAt,Instr.slice,Sem.run_bind,run_underlying hu w,Result.andThen_ok,Dt hb w,fh hm w,Sem.run_pure]
  cases h
 ·rename_i n m a hx
  split at h
  ·rename_i l sd hb
   cases h
   obtain⟨e,hu,hm⟩:=rT hx
   simp only[Instr.sliceAt,Instr.sureAddr,Sem.run_bind,run_underlying hu w,Result.andThen_ok,Dt hb w,fh hm w,Sem.run_pure]
  cases h
 cases h
def UL {t:TypeId} {x y:Value} {b:Bool} (d:Nat) (h:eX (P.underlying t) x y=some b) (w:World): (Op.equalIn (d+1) t x y).run P w= .ok b w:=by
 unfold eX at h
 split at h<;>first
  | (
    rename_i hu
    simp only[Option.some.injEq] at h
    subst h
    simp only[Op.equalIn,Sem.run_bind,run_underlying hu w,Result.andThen_ok]
    rfl)
  |cases h
def yJ (P:Program): ∀ (d k:Nat) (t:TypeId) (x y:Value) (b:Bool),eqD P d t x y=some b→ ∀w,(Op.equalIn (d+k) t x y).run P w= .ok b w:=by
 intro d
 induction d with
 |zero=>intro k t x y b h;cases h
 |succ d ih=>
  intro k t x y b h w
  have e:d+1+k=(d+k)+1:=by omega
  rw[e]
  unfold eqD at h
  split at h
  ·rename_i k0 k1 a k2 c hu
   split at h
   ·rename_i hk
    cases h
    subst hk
    simp[Op.equalIn,run_underlying hu w]
   cases h
  ·rename_i a c hu
   cases h
   simp[Op.equalIn,run_underlying hu w]
  ·rename_i n el xs ys hu
   split at h
   ·rename_i m hm
    simp only[Op.equalIn,Sem.run_bind,run_underlying hu w,Result.andThen_ok,fh hm w]
    simp only[Std.Legacy.Range.forIn_eq_forIn_range',Std.Legacy.Range.size,Nat.sub_zero,Nat.add_one_sub_one,Nat.div_one]
    rw[List.range_eq_range'] at h
    generalize List.range' 0 n=is at h ⊢
    induction is with
    |nil=>cases h;simp
    |cons j is ihl=>
     unfold vO at h
     simp only[List.forIn_cons,Sem.run_bind]
     split at h
     ·rename_i h1
      unfold qx at h1
      split at h1
      ·rename_i m' he
       cases he
       split at h1
       ·rename_i a c ha hc
        simp only[n4 hm ha w,n4 hm hc w,Result.andThen_ok,ih k el a c true h1 w,Bool.not_true,Bool.false_eq_true,if_false,Sem.run_pure]
        exact ihl h
       cases h1
      cases h1
     ·rename_i h1
      cases h
      unfold qx at h1
      split at h1
      ·rename_i m' he
       cases he
       split at h1
       ·rename_i a c ha hc
        simp only[n4 hm ha w,n4 hm hc w,Result.andThen_ok,ih k el a c false h1 w,Bool.not_false,if_true,Sem.run_pure]
       cases h1
      cases h1
     cases h
   cases h
  ·rename_i fs xs ys hu
   split at h
   ·cases h
   rename_i bH
   have mc:P.stoodInHeld t=false:=by simpa using bH
   simp only[Op.equalIn,Sem.run_bind,run_underlying hu w,Result.andThen_ok,run_program,mc,Bool.false_eq_true,if_false]
   rw[←Array.forIn_toList]
   generalize fs.toList=l at h ⊢
   clear hu
   induction l with
   |nil=>cases h;simp
   |cons f l ihl=>
    unfold BK at h
    simp only[List.forIn_cons,Sem.run_bind,Sem.run_ite]
    split at h
    ·rename_i aQ
     rw[if_pos aQ]
     split at h
     ·rename_i h1
      unfold qx at h1
      split at h1
      ·rename_i m' hm
       split at h1
       ·rename_i a c ha hc
        simp only[n4 hm ha w,n4 hm hc w,Result.andThen_ok,ih k f.type a c true h1 w,Bool.not_true,Bool.false_eq_true,if_false,Sem.run_pure]
        exact ihl h
       cases h1
      cases h1
     ·rename_i h1
      cases h
      unfold qx at h1
      split at h1
      ·rename_i m' hm
       split at h1
       ·rename_i a c ha hc
        simp only[n4 hm ha w,n4 hm hc w,Result.andThen_ok,ih k f.type a c false h1 w,Bool.not_false,if_true,Sem.run_pure]
       cases h1
      cases h1
     cases h
    rename_i aQ
    rw[if_neg aQ]
    simp only[Sem.run_pure,Result.andThen_ok]
    exact ihl h
  exact UL (d+k) h w
def y6 {op:BinOp} {t:TypeId} {x y:Operand} {a b:Value} {r:Bool} (hp: (eM a&&eM b)≠true) (hr:eqX P t a b=some r) (w:World):
  (eqGuard op t x y a b).run P w= .ok () w∧(Op.equal t a b).run P w= .ok r w∧binOp .eql t a b=(do pure (.bool (←Op.equal t a b)):Sem Value)∧binOp .neq t a b=(do pure (.bool (!(←Op.equal t a b))):Sem Value):=by
 unfold eqX at hr
 split at hr
 ·rename_i xs ys
  split at hr
  ·cases hr
  rename_i hg
  have A4:P.eqGuardType P.depth t=false:=by simpa using hg
  refine⟨?_,yJ P 8 9992 t _ _ r hr w,rfl,rfl⟩
  unfold eqGuard
  cases op<;>first
   |rfl
   |simp[Sem.run_bind,run_program,A4]
 refine⟨?_,UL 9999 hr w, ?_, ?_⟩
 ·unfold eX at hr
  split at hr<;>first| (unfold eqGuard;cases op<;>rfl) |cases hr
 ·unfold eX at hr
  split at hr<;>first|rfl|cases hr
 unfold eX at hr
 split at hr<;>first|rfl|cases hr
def Lx {op:BinOp} {t:TypeId} {x y:Operand} {a b v:Value} (h:ac P op t a b=some v) (w:World):
  (do eqGuard op t x y a b;binOp op t a b:Sem Value).run P w= .ok v w:=by
 unfold ac at h
 split at h
 ·rename_i hp
  have hg: (eqGuard op t x y a b).run P w= .ok () w:=by
   unfold eqGuard
   cases a<;>simp only[eM,Bool.false_and,Bool.false_eq_true] at hp<;>
    (split<;>rfl)
  rw[Sem.run_bind,hg]
  exact xD w h
 rename_i hp
 split at h
 ·cases hr:eqX P t a b with
  |none=>rw[hr] at h;cases h
  |some r=>
   rw[hr] at h
   simp only[Option.map_some,Option.some.injEq] at h;subst h
   obtain⟨h1,h2,e,-⟩:=y6 (op:= .eql) (x:=x) (y:=y) hp hr w
   rw[Sem.run_bind,h1]
   simp only[Result.andThen_ok]
   rw[e,Sem.run_bind,h2];rfl
 ·cases hr:eqX P t a b with
  |none=>rw[hr] at h;cases h
  |some r=>
   rw[hr] at h
   simp only[Option.map_some,Option.some.injEq] at h;subst h
   obtain⟨h1,h2,-,e⟩:=y6 (op:= .neq) (x:=x) (y:=y) hp hr w
   rw[Sem.run_bind,h1]
   simp only[Result.andThen_ok]
   rw[e,Sem.run_bind,h2];rfl
 cases h
def O5 {s d:TypeId} {k:IntKind} (h:cvT P s d= .int k): ∃k',P.underlying s=some (.int k')∧P.underlying d=some (.int k):=by
 unfold cvT at h
 split at h
 ·rename_i a b;cases h;exact⟨_,a,b⟩
 ·cases h
 ·split at h<;>cases h
 ·split at h<;>cases h
 cases h
def KU {s d:TypeId} {x v:Value} (hw:Hp w0 L w) (h:nA w0 L (cvT P s d) x=some v): (convert s d x).run P w= .ok v w:=by
 unfold nA at h
 split at h
 ·rename_i k hc
  obtain⟨k',h1,h2⟩:=O5 hc
  unfold bK at h
  split at h
  ·cases h
   simp only[convert,Sem.run_bind,run_underlying h1 w,run_underlying h2 w,Result.andThen_ok,Conv.intToInt,Sem.run_pure]
  cases h
 ·rename_i hc
  unfold cvT at hc
  split at hc
  ·cases hc
  ·rename_i h1 h2
   split at h
   ·cases h
    simp only[convert,Sem.run_bind,run_underlying h1 w,run_underlying h2 w,Result.andThen_ok,Sem.run_pure]
   cases h
  ·split at hc<;>cases hc
  ·split at hc<;>cases hc
  cases hc
 ·rename_i hc
  unfold cvT at hc
  split at hc
  ·cases hc
  ·cases hc
  ·rename_i e h1 h2
   split at hc
   ·rename_i h3
    unfold rV at h
    split at h
    ·cases h
     simp only[convert,Sem.run_bind,run_underlying h1 w,run_underlying h2 w,run_underlying h3 w,Result.andThen_ok];rfl
    ·simp only[convert,Sem.run_bind,run_underlying h1 w,run_underlying h2 w,run_underlying h3 w,Result.andThen_ok]
     exact XM hw h
    cases h
   cases hc
  ·split at hc<;>cases hc
  cases hc
 cases h
def lY {f:Fr} {o:Oper} {v:Value} (hw:Hp w0 L w) (h:gW P w0 L f o.op=some v): (execOp (ev f) o).run P w= .ok (.value v) w:=by
 obtain⟨dst,op,ty,pos,after,guard⟩:=o
 simp only at h
 unfold gW at h
 split at h<;>simp only[execOp]
 ·cases h;rfl
 ·cases h;rfl
 ·rename_i c a b
  cases hc:ev f c<;>rw[hc] at h<;>simp only[gu,reduceCtorEq] at h
  rename_i t
  cases t<;>simp only[Option.some.injEq] at h<;>subst h<;>rfl
 ·rw[Sem.run_bind,Lx h w];rfl
 ·rw[Sem.run_bind,OS w h];rfl
 ·rw[Sem.run_bind,KU hw h];rfl
 ·rename_i x
  unfold nilV at h
  split at h
  ·rename_i a hx;cases h;simp only[hx];rfl
  ·rename_i k a b hx;cases h;simp only[hx];rfl
  cases h
 ·rw[Sem.run_bind,Wp h w];rfl
 ·rw[Sem.run_bind,IH h w];rfl
 ·rw[Sem.run_bind,Wo h w];rfl
 ·rw[Sem.run_bind,IF h w];rfl
 ·rename_i t x
  unfold qv at h
  split at h
  ·rename_i b off hx
   simp only[Instr.loadAt,hx,Instr.sureAddr,Sem.run_bind,Sem.run_pure,Result.andThen_ok,Ty hw h]
  cases h
 ·rename_i x i
  unfold Bu at h
  split at h
  ·rename_i vs hx
   simp only[Instr.extract,hx,h];rfl
  cases h
 ·rename_i t x lo hi
  have h':g7 (ixT P t) (ev f x) ((lo.map (ev f)).map ixI) ((hi.map (ev f)).map ixI)=some v:=by
   rw[Option.map_map,Option.map_map];exact h
  rw[Sem.run_bind]
  simp only[Option.map_none]
  rw[Jp h' w];rfl
 ·cases h;rfl
 ·rename_i args ts
  split at h
  ·rename_i x t hx ht
   have h1: (args.map (ev f))[0]? =some (ev f x):=by simp[hx]
   simp only[resolve,Sem.run_bind,Sem.run_pure,Result.andThen_ok,invoke,builtin]
   rw[Ll h _ _ _ h1 ht w];rfl
  cases h
 ·rename_i args ts
  split at h
  ·rename_i x t hx ht
   have h1: (args.map (ev f))[0]? =some (ev f x):=by simp[hx]
   simp only[resolve,Sem.run_bind,Sem.run_pure,Result.andThen_ok,invoke,builtin]
   rw[Nf h _ _ _ h1 ht w];rfl
  cases h
 cases h
end
end Go.Sx
end
namespace Go.Sx
open Go
section
variable {P:Program} {ops:Array Oper} {Q:Exit→Act→World→Prop}
def Left (o:Oper) (a a':Act):Prop:= ∃u ds,a'=({a with defers:=ds}:Act).put o.dst u
def I2 {o:Oper} {a:Act} {d:Option Tmp} {v:Value} {K:Act→World→Prop} (hd: ∀t,d=some t→o.dst≠some t)
  (hQ: ∀c a w,Q (.panic c) (a.put d v) w→Q (.panic c) a w) (r:Result Next) (h:o.upon P (a.put d v) K Q r):
  o.upon P a (fun a' w'=>Left o a a'∧K (a'.put d v) w') Q r:=by
 have comm: ∀u,(a.put o.dst u).put d v=(a.put d v).put o.dst u:=fun u=>(Act.put_comm a v u hd).symm
 have hl: ∀u,Left o a (a.put o.dst u):=fun u=>⟨u,a.defers,rfl⟩
 match r,h with
 | .ok (.value u) _,h=>exact⟨hl u,by rw[comm];exact h⟩
 | .ok .skip _,h=>exact⟨hl undef,by rw[comm];exact h⟩
 | .ok (.defer e) _,h=>
  refine⟨⟨undef,e::a.defers,rfl⟩, ?_⟩
  rw[←Act.put_comm _ v undef hd,←Act.put_defers]
  exact h
 | .ok (.enter f args) _,h=>
  refine Calls.mono h fun e w'' he=> ?_
  match e,he with
  | .returned u,he=>exact⟨hl u,by rw[comm];exact he⟩
  | .panicked c,he=>exact hQ _ _ _ he
  | .outgrown,he=>exact he
 | .ok (.row row args) _,h=>exact Rows.mono h fun u w'' he=>⟨hl u,by rw[comm];exact he⟩
 | .halt (.panic u) _,h=>exact hQ _ _ _ h
def Ic {j:Nat} {oi oj:Oper} {v:Value} (hj:ops[j]? =some oj) (Cd:oi.apart ops oj=true) (Am: ∀cs b,oj.op≠ .select cs b)
  (hQ: ∀c a w,Q (.panic c) (a.put oi.dst v) w→Q (.panic c) a w) {K:Act→World→Prop} {a:Act} {w:World}
  (h:wpOp P ops Q j K (a.put oi.dst v) w):wpOp P ops Q j (fun a' w'=>Left oj a a'∧K (a'.put oi.dst v) w') a w:=by
 obtain⟨h1,h2,h3⟩:=Oper.apart_spec Cd
 unfold wpOp at h ⊢
 simp only[hj] at h ⊢
 rw[wanted_put oj a oi.dst v h1] at h
 cases hw:Region.wanted oj (yielded ops a.tmps) with
 |true=>
  rw[hw] at h
  simp only[if_true] at h ⊢
  rcases h with h| ⟨qH,hl⟩
  ·left
   unfold Oper.wp at h ⊢
   rw[execOp_put oj Am a oi.dst v h1] at h
   exact I2 h2 hQ _ h
  right
  exact⟨by unfold Oper.asks at*;rwa [execOp_put oj Am a oi.dst v h1] at qH,hl⟩
 |false=>
  rw[hw] at h
  simp only[Bool.false_eq_true,if_false] at h ⊢
  exact⟨⟨undef,a.defers,rfl⟩,by rw[←Act.put_comm a v undef h2];exact h⟩
def jJ (P:Program) (ops:Array Oper) (Q:Exit→Act→World→Prop) (ts:List Nat) (C:World→Prop):Nat→Array Bool→Act→World→Prop
 |0,listed,a,w=>((∀t,t∈ts→listed.getD t true=false)→C w)∧Region.ready .any ops listed= []∧Q .normal a w
 |n+1,listed,a,w=>
  ((∀t,t∈ts→listed.getD t true=false)→C w)∧(Region.ready .any ops listed= []→Q .normal a w)∧
  ∀i∈Region.ready .any ops listed,wpOp P ops Q i (jJ P ops Q ts C n (listed.setIfInBounds i true)) a w
variable {ts:List Nat} {C:World→Prop}
def BL {listed:Array Bool} {i t:Nat} (h:listed.getD t true=true): (listed.setIfInBounds i true).getD t true=true:=by
 by_cases he:i=t
 ·subst he
  rw[Array.getD_eq_getD_getElem?,Array.getElem?_setIfInBounds_self]
  split<;>rfl
 rw[getD_set_ne true he];exact h
theorem BE: ∀ (n:Nat) (listed:Array Bool) (a:Act) (w:World),jJ P ops Q ts C n listed a w→wpAny P .any ops Q n listed a w
 |0,_,_,_,h=>h.2
 |n+1,_,_,_,h=>⟨h.2.1,fun i hi=>wpOp_mono (fun a w k=>BE n _ a w k) (h.2.2 i hi)⟩
theorem tZ: ∀ (n:Nat) (listed:Array Bool) (a:Act) (w:World),(∃t∈ts,listed.getD t true=true)→wpAny P .any ops Q n listed a w→jJ P ops Q ts C n listed a w
 |0,_,_,_,⟨t,ht,hl⟩,h=>⟨fun hn=>(by rw[hn t ht] at hl;cases hl),h.1,h.2⟩
 |n+1,_,_,_,⟨t,ht,hl⟩,h=>
  ⟨fun hn=>(by rw[hn t ht] at hl;cases hl),h.1,fun i hi=>wpOp_mono (fun a w k=>tZ n _ a w ⟨t,ht,BL hl⟩ k) (h.2 i hi)⟩
structure First (ops:Array Oper) (ts:List Nat) (i:Nat) (oi:Oper) (pure:Prop) (listed:Array Bool):Prop where
 ready:i∈Region.ready .any ops listed
 free: ∀j oj,ops[j]? =some oj→j≠i→listed.getD j true=false→(∀e∈oj.after,Region.binds .any e=true→e.on≠i)→oi.apart ops oj=true
 waits:pure∨ ∃cs:List Nat,(∀t,t∈ts→listed.getD t true=false→t∈cs)∧
  ∀c,c∈cs→c≠i∧listed.getD c true=false∧ ∃oc,ops[c]? =some oc∧ ∃e∈oc.after,Region.binds .any e=true∧(e.on=i∨e.on∈cs)
def YieldsC (P:Program) (ops:Array Oper) (C:World→Prop) (pure:Prop) (o:Oper) (v:Value) (a:Act):Prop:=
 (Region.wanted o (yielded ops a.tmps)=true∧ ∀w,(pure∨C w)→(execOp a.eval o).run P w= .ok (.value v) w)∨
 (Region.wanted o (yielded ops a.tmps)=false∧v=undef)
theorem YieldsC.wpOp {pure:Prop} {i:Nat} {o:Oper} {v:Value} {a:Act} (hi:ops[i]? =some o) (hy:YieldsC P ops C pure o v a)
  {K:Act→World→Prop} {w:World} (hw:pure∨C w) (h:K (a.put o.dst v) w):Go.wpOp P ops Q i K a w:=by
 unfold Go.wpOp
 simp only[hi]
 rcases hy with⟨h1,hv⟩ | ⟨h1,rfl⟩
 ·simp only[h1,if_true,Oper.wp,hv w hw,Oper.upon];exact .inl h
 simp only[h1,Bool.false_eq_true,if_false];exact h
def YieldsC.left {pure:Prop} {oi oj:Oper} {v:Value} {a a':Act} (hy:YieldsC P ops C pure oi v a) (TJ: ∀cs b,oi.op≠ .select cs b)
  (h3: ∀d,oj.dst=some d→d∉oi.looksAt ops) (hl:Left oj a a'):YieldsC P ops C pure oi v a':=by
 obtain⟨u,ds,rfl⟩:=hl
 have e1:execOp (({a with defers:=ds}:Act).put oj.dst u).eval oi=execOp a.eval oi:=execOp_put oi TJ ({a with defers:=ds}:Act) oj.dst u h3
 have e2:Region.wanted oi (yielded ops (({a with defers:=ds}:Act).put oj.dst u).tmps)=Region.wanted oi (yielded ops a.tmps):=wanted_put oi ({a with defers:=ds}:Act) oj.dst u h3
 unfold YieldsC
 rw[e1,e2]
 exact hy
def pj {pure:Prop} {i:Nat} {oi:Oper} {v:Value} (hi:ops[i]? =some oi) (cY:i∉ts) (gU: ∀ (j:Nat) (o:Oper) cs b,ops[j]? =some o→o.op≠ .select cs b)
  (hQ: ∀c a w,Q (.panic c) (a.put oi.dst v) w→Q (.panic c) a w):
  ∀ (fuel:Nat) (listed:Array Bool) (a:Act) (w:World),First ops ts i oi pure listed→(pure∨ ∀t,t∈ts→listed.getD t true=false)→YieldsC P ops C pure oi v a→
   jJ P ops Q ts C fuel (listed.setIfInBounds i true) (a.put oi.dst v) w→jJ P ops Q ts C (fuel+1) listed a w:=by
 intro fuel
 induction fuel with
 |zero=>
  intro listed a w hF hn hy H
  have bV: ∀t,t∈ts→(listed.setIfInBounds i true).getD t true=listed.getD t true:=fun t ht=>getD_set_ne true (fun e=>cY (e▸ht))
  have hC: (∀t,t∈ts→listed.getD t true=false)→C w:=fun h=>H.1 fun t ht=>(bV t ht).trans (h t ht)
  refine⟨hC,fun h=>(by have:=hF.ready;rw[h] at this;cases this),fun j hj=> ?_⟩
  by_cases qQ:j=i
  ·subst qQ;exact hy.wpOp hi (hn.imp id hC) H
  have:=ready_mono hj qQ
  rw[H.2.1] at this
  cases this
 |succ fuel ih=>
  intro listed a w hF hn hy H
  have bV: ∀t,t∈ts→(listed.setIfInBounds i true).getD t true=listed.getD t true:=fun t ht=>getD_set_ne true (fun e=>cY (e▸ht))
  have hC: (∀t,t∈ts→listed.getD t true=false)→C w:=fun h=>H.1 fun t ht=>(bV t ht).trans (h t ht)
  refine⟨hC,fun h=>(by have:=hF.ready;rw[h] at this;cases this),fun j hj=> ?_⟩
  by_cases qQ:j=i
  ·subst qQ;exact hy.wpOp hi (hn.imp id hC) H
  have h1:=H.2.2 j (ready_mono hj qQ)
  obtain⟨AE,oj,Ct,c_⟩:=mem_ready.1 hj
  have AX: ∀e∈oj.after,Region.binds .any e=true→e.on≠i:=fun e he hb heq=>by
   have h2:=c_ e he hb
   have h0:=(mem_ready.1 hF.ready).1
   rw[heq] at h2
   rcases Nat.lt_or_ge i listed.size with h'|h'
   ·simp[h'] at h0 h2;rw[h0] at h2;cases h2
   simp[Array.getElem?_eq_none h'] at h2
  have Cd:=hF.free j oj Ct qQ AE AX
  have h2:=Ic Ct Cd (fun cs b=>gU j oj cs b Ct) hQ h1
  have old: ∀k,(listed.setIfInBounds j true).getD k true=false→listed.getD k true=false:=fun k hk=>by
   by_cases uD:j=k
   ·subst uD;exact AE
   rwa [getD_set_ne true uD] at hk
  have tH: ∀k,listed.getD k true=false→k≠j→(listed.setIfInBounds j true).getD k true=false:=fun k hk Zf=>by
   rw[getD_set_ne true (Ne.symm Zf)];exact hk
  have hi0:=(mem_ready.1 hF.ready).1
  have aB: ∀cs:List Nat,(∀c,c∈cs→c≠i∧listed.getD c true=false∧ ∃oc,ops[c]? =some oc∧ ∃e∈oc.after,Region.binds .any e=true∧(e.on=i∨e.on∈cs))→j∉cs:=by
   intro cs eS SE
   obtain⟨-,-,oc,Vv,e,he,hb,heq⟩:=eS j SE
   rw[Ct] at Vv
   cases Vv
   have h2:=c_ e he hb
   rcases heq with heq|heq
   ·exact AX e he hb heq
   have h3:=(eS _ heq).2.1
   rcases Nat.lt_or_ge e.on listed.size with h'|h'
   ·simp[h'] at h2 h3;rw[h3] at h2;cases h2
   simp[Array.getElem?_eq_none h'] at h2
  have cz:First ops ts i oi pure (listed.setIfInBounds j true):=
   ⟨ready_mono hF.ready (Ne.symm qQ),fun k ok hk SM tH pG=>hF.free k ok hk SM (old k tH) pG,hF.waits.imp id fun⟨cs,cV,d9⟩=>
    ⟨cs,fun t ht hu=>cV t ht (old t hu),fun c hc=>by
     obtain⟨h1,h2,h3⟩:=d9 c hc
     exact⟨h1,tH c h2 (fun e=>aB cs d9 (e▸hc)),h3⟩⟩⟩
  have aX:pure∨ ∀t,t∈ts→(listed.setIfInBounds j true).getD t true=false:=by
   rcases hF.waits with h| ⟨cs,cV,d9⟩
   ·exact .inl h
   rcases hn with h|hn
   ·exact .inl h
   refine .inr fun t ht=> ?_
   have SE:=aB cs d9
   exact tH t (hn t ht) (fun e=>SE (e▸cV t ht (hn t ht)))
  refine wpOp_mono (fun a' w' h3=>ih (listed.setIfInBounds j true) a' w' cz aX (hy.left (fun cs b=>gU i oi cs b hi) (Oper.apart_spec Cd).2.2 h3.1) ?_) h2
  rw[Array.setIfInBounds_comm _ _ qQ]
  exact h3.2
end
end Go.Sx
section
namespace Go.Sx
open Go
def dY (cs:Array Value) (off:Nat):List Value→Array Value
 | []=>cs
 |v::r=>dY (cs.setIfInBounds off v) (off+1) r
def bM (m:Option (Bool×Nat)) (o:Option Obj) (off:Nat) (v:Value):Option Obj:=
 match m,o with
 |some (_,n),some (.cells cs E fz)=>if v.cells.size=n∧off+n≤cs.size∧(fz.2≤fz.1∨off+n≤fz.1)∧v.cells.toList.all Value.oneCell'=true then some (.cells (dY cs off v.cells.toList) E fz) else none
 |_,_=>none
def pY (m:Option (Bool×Nat)) (L:aA) (a v:Value):Option aA:=
 match a with
 | .pointer (some ⟨b,off,none⟩)=>match bM m (look L b) off v with
  |some o=>some (setB L b o)
  |none=>none
 |_=>none
section
variable {P:Program} {w0 w:World} {L:aA}
def GH {b off:Nat} {v:Value} {cs:Array Value} {E:TypeId} {fz:Nat×Nat} (hb:w.heap[b]? =some (.cells cs E fz)):
  w.setCell ⟨b,off,none⟩ v={w with heap:=w.heap.setIfInBounds b (.cells (cs.setIfInBounds off v) E fz)}:=by
 have aG:=(Array.getElem?_eq_some_iff.1 hb).1
 unfold World.setCell
 congr 1
 apply Array.ext_getElem?
 intro i
 rw[Array.getElem?_modify]
 by_cases hi:b=i
 ·subst hi
  rw[if_pos rfl,hb]
  simp[aG]
 rw[if_neg hi,Array.getElem?_setIfInBounds_ne hi]
theorem De {b off:Nat} {E:TypeId} {fz:Nat×Nat}: ∀ (vs:List Value) (i:Nat) (cs:Array Value) (w:World),w.heap[b]? =some (.cells cs E fz)→
  off+i+vs.length≤cs.size→(fz.2≤fz.1∨off+i+vs.length≤fz.1)→vs.all Value.oneCell'=true→
  (storeCells ⟨b,off,none⟩ vs i).run P w= .ok () {w with heap:=w.heap.setIfInBounds b (.cells (dY cs (off+i) vs) E fz)}
 | [],i,cs,w,hb,_,_,_=>by
  have aG:=(Array.getElem?_eq_some_iff.1 hb)
  have:w.heap.setIfInBounds b (.cells cs E fz)=w.heap:=by
   apply Array.ext_getElem?
   intro j
   by_cases hj:b=j
   ·subst hj;rw[hb];simp[aG.1]
   rw[Array.getElem?_setIfInBounds_ne hj]
  simp only[storeCells,dY,this];rfl
 |v::r,i,cs,w,hb,hs,hf,ho=>by
  simp only[List.all_cons,Bool.and_eq_true] at ho
  simp only[List.length_cons] at hs hf
  have hc:w.cell? ⟨b,off+i,none⟩=some (cs[off+i]'oM):=by
   rw[cell_of_row w b _ cs E fz hb,Array.getElem?_eq_getElem oM]
  have kl:w.frozen? ⟨b,off+i,none⟩=false:=by
   simp only[World.frozen?,hb,Bool.and_eq_false_iff,decide_eq_false_iff_not]
   omega
  have aG:=(Array.getElem?_eq_some_iff.1 hb).1
  simp only[storeCells,l6,Sem.run_bind,run_store P w _ v .plain ho.1,hc,kl,Bool.false_eq_true, ↓reduceIte,Result.andThen_ok,GH hb]
  have dI: ({w with heap:=w.heap.setIfInBounds b (.cells (cs.setIfInBounds (off+i) v) E fz)}:World).heap[b]? =some (.cells (cs.setIfInBounds (off+i) v) E fz):=by
   simp[aG]
  rw[De r (i+1) _ _ dI (by simp;omega) oM ho.2]
  simp[dY,Nat.add_assoc]
def FV {t:TypeId} {a v:Value} {L':aA} (hw:Hp w0 L w) (h:pY (aM P t) L a v=some L'): ∃w',(Instr.storeAt t a v).run P w= .ok () w'∧Hp w0 L' w':=by
 unfold pY at h
 split at h
 ·rename_i b off
  split at h
  ·rename_i o hs
   cases h
   unfold bM at hs
   split at hs
   ·rename_i m n cs E fz hm hl
    split at hs
    ·rename_i hc
     obtain⟨h1,h2,h3,h4⟩:=hc
     cases hs
     have hb:=hw.has _ _ (cQ hl)
     have aR:v.cells.toList.length=n:=by simpa using h1
     refine⟨{w with heap:=w.heap.setIfInBounds b (.cells (dY cs off v.cells.toList) E fz)}, ?_,hw.set (List.mem_map.2 ⟨_,cQ hl,rfl⟩) rfl rfl rfl rfl⟩
     simp only[Instr.storeAt,Instr.sureAddr,Sem.run_bind,Sem.run_pure,Result.andThen_ok,storeVar,fh hm w,h1,ne_eq,not_true_eq_false, ↓reduceIte]
     rw[De v.cells.toList 0 cs w hb oM oM h4]
     rfl
    cases hs
   cases hs
  cases h
 cases h
end
def rJ (ops:Array Oper) (f:Fr) (j:Nat):Option Bool:=
 match(ops[j]?).bind (·.dst) with
 |some d=>match dZ f d with
  | .bool b=>some b
  |_=>none
 |none=>none
def Ib (ops:Array Oper) (f:Fr) (j:Nat):yielded ops f.toArray j=rJ ops f j:=by
 unfold yielded rJ
 cases(ops[j]?).bind (·.dst) with
 |none=>rfl
 |some d=>
  simp only[Option.bind_some]
  have:=C8 f d
  rw[Array.getD_eq_getD_getElem?] at this
  cases h:f.toArray[d]? with
  |none=>
   rw[h] at this
   simp only[Option.getD_none] at this
   rw[←this];rfl
  |some v=>
   rw[h] at this
   simp only[Option.getD_some] at this
   rw[←this]
   cases v<;>rfl
inductive Md where
 |seq
 |qui (is ts:List Nat)
 |any (is ts:List Nat)
 |sof (R is ts:List Nat)
def fT (P:Program):Op→Bool
 | .move _=>true
 | .assign _=>true
 | .pick .. =>true
 | .binOp .. =>true
 | .unOp .. =>true
 | .convert s d _=>match cvT P s d with| .int _=>true| .str=>true|_=>false
 | .nilCheck _=>true
 | .fieldAddr .. =>true
 | .field .. =>true
 | .indexAddr .. =>true
 | .index .. =>true
 | .extract .. =>true
 | .slice .. =>true
 | .makeFunc .. =>true
 | .call ⟨.builtin .len,_,_⟩=>true
 | .call ⟨.builtin .cap,_,_⟩=>true
 | .build .. =>true
 |_=>false
def nB:Op→Bool
 | .load .. =>true
 | .convert .. =>true
 |_=>false
def EU (ops:Array Oper) (listed:Array Bool) (i:Nat):Nat→List Nat→List Nat
 |0,cs=>cs
 |n+1,cs=>EU ops listed i n ((List.range ops.size).filter fun j=>j !=i&& !listed.getD j true&&match ops[j]? with
  |some oj=>oj.after.any fun e=>Region.binds .any e&& (e.on==i||cs.contains e.on)
  |none=>false)
def yM (ops:Array Oper) (ts:List Nat) (listed:Array Bool) (i:Nat) (cs:List Nat):Bool:=
 (ts.all fun t=>listed.getD t true||cs.contains t)&&cs.all fun c=>c !=i&& !listed.getD c true&&match ops[c]? with
  |some oc=>oc.after.any fun e=>Region.binds .any e&& (e.on==i||cs.contains e.on)
  |none=>false
def rC (ops:Array Oper) (ts:List Nat) (listed:Array Bool) (i:Nat):Bool:=
 yM ops ts listed i (EU ops listed i 6 [])
def px (P:Program) (ops:Array Oper) (ts:List Nat):List Nat→Array Bool→Bool
 | [],listed=>(Region.ready .any ops listed).isEmpty
 |k::is,listed=>
  (match ops[k]? with
   |some o=>
    ((Region.ready .any ops listed== [k])&& !(ts.contains k&& (fT P o.op||nB o.op))) ||
    (!ts.contains k&& (Region.ready .any ops listed).contains k&&Region.free .any ops listed k&&
     (fT P o.op|| (nB o.op&&rC ops ts listed k&&ts.all fun t=> !listed.getD t true)))
   |none=>false)&&px P ops ts is (listed.setIfInBounds k true)
def dr (w0:World) (N:Fr→aA→Prop) (e:Exit) (a:Act) (w:World):Prop:=e= .normal∧a.defers= []∧ ∃L,Hp w0 L w∧N a.tmps.toList L
structure Fits (P:Program) (ops:Array Oper) (ts is:List Nat) (l:List Oper) (listed:Array Bool):Prop where
 len:is.length=l.length
 at_: ∀j:Nat,l[j]? =(is[j]?).bind fun i:Nat=>ops[i]?
 sel:Region.noSelect ops=true
 order:px P ops ts is listed=true
def SR (w0:World) (R:List Nat) (L:aA) (w:World):Prop:= ∀b,b∈R→ ∀o,aS w0 L b=some o→w.heap[b]? =some o
def SR.of {w0 w:World} {R:List Nat} {L:aA} (h:Hp w0 L w):SR w0 R L w:=fun _ _ _ ho=>h.read ho
def Ow (P:Program) (w0:World) (ops:Array Oper) (md:Md) (l:List Oper) (f:Fr) (L:aA) (N:Fr→aA→Prop):Prop:=
 match md with
 | .seq=> ∀w,Hp w0 L w→wpList P ops (dr w0 N) l (act f) w
 | .qui is ts=> ∀listed,Fits P ops ts is l listed→(∀t,t∈ts→listed.getD t true=false)→ ∀w,Hp w0 L w→jJ P ops (dr w0 N) ts (Hp w0 L) l.length listed (act f) w
 | .any is ts=> ∀listed,Fits P ops ts is l listed→(∃t∈ts,listed.getD t true=true)→ ∀w,Hp w0 L w→wpAny P .any ops (dr w0 N) l.length listed (act f) w
 | .sof R is ts=> ∀listed,Fits P ops ts is l listed→(∀t,t∈ts→listed.getD t true=false)→ ∀w,Hp w0 L w→jJ P ops (dr w0 N) ts (SR w0 R L) l.length listed (act f) w
def Md.next:Md→Md
 | .seq=> .seq
 | .qui is ts=>match is with
  |k::is=>if ts.contains k then .any is ts else .qui is ts
  | []=> .qui [] ts
 | .any is ts=> .any is.tail ts
 | .sof R is ts=>match is with
  |k::is=>if ts.contains k then .any is ts else .sof R is ts
  | []=> .sof R [] ts
def Md.turn:Md→Option Md
 | .seq=>some .seq
 | .qui is ts=>match is with
  |k::is=>if ts.contains k then some (.any is ts) else none
  | []=>none
 | .any is ts=>some (.any is.tail ts)
 | .sof _ is ts=>match is with
  |k::is=>if ts.contains k then some (.any is ts) else none
  | []=>none
def aw (ops:Array Oper) (f:Fr) (o:Oper):Bool:=
 match o.guard with
 |none=>false
 |some (j,want)=> !(rJ ops f j==some want)
def j2 (ops:Array Oper) (f:Fr) (o:Oper):Region.wanted o (yielded ops (act f).tmps)= !aw ops f o:=by
 unfold Region.wanted aw
 cases o.guard with
 |none=>rfl
 |some p=>simp only[act,Ib,Bool.not_not]
section
variable {P:Program} {w0:World} {f:Fr} {L:aA} {K:bY} {N:Fr→aA→Prop} {ops:Array Oper} {o:Oper} {rest:List Oper} {md:Md} {ts is:List Nat} {listed:Array Bool}
theorem Fits.nil (h:Fits P ops ts is [] listed):is= []∧Region.ready .any ops listed= []:=by
 have:=h.len
 have hi:is= []:=by cases is with|nil=>rfl|cons _ _=>cases this
 subst hi
 exact⟨rfl,by simpa [px] using h.order⟩
theorem Fits.cons (h:Fits P ops ts is (o::rest) listed): ∃k is',is=k::is'∧ops[k]? =some o∧Fits P ops ts is' rest (listed.setIfInBounds k true)∧
  ((fT P o.op=true∨nB o.op=true)→k∉ts)∧(Region.ready .any ops listed= [k]∨(k∉ts∧k∈Region.ready .any ops listed∧Region.free .any ops listed k=true∧
   (fT P o.op=true∨(nB o.op=true∧rC ops ts listed k=true∧ ∀t,t∈ts→listed.getD t true=false)))):=by
 cases is with
 |nil=>have:=h.len;cases this
 |cons k is'=>
  have hk:ops[k]? =some o:=by have:=h.at_ 0;simpa using this.symm
  have ho:=h.order
  simp only[px,hk,Bool.and_eq_true,Bool.or_eq_true,beq_iff_eq,Bool.not_eq_true',List.contains_eq_mem,decide_eq_true_eq,decide_eq_false_iff_not,List.all_eq_true,Bool.and_eq_false_iff,Bool.or_eq_false_iff] at ho
  refine⟨k,is',rfl,hk,⟨by have:=h.len;simpa using this,fun j=>by have:=h.at_ (j+1);simpa using this,h.sel,ho.2⟩, ?_⟩
  rcases ho.1 with⟨h1,h2⟩ | ⟨⟨⟨h1,h2⟩,h3⟩,h4⟩
  ·refine⟨fun hx=> ?_, .inl h1⟩
   rcases h2 with h2| ⟨h2,h3⟩
   ·exact h2
   rcases hx with hx|hx
   ·rw[hx] at h2;cases h2
   rw[hx] at h3;cases h3
  refine⟨fun _=>h1, .inr ⟨h1,h2,h3, ?_⟩⟩
  rcases h4 with h4| ⟨⟨h4,h5⟩,h6⟩
  ·exact .inl h4
  exact .inr ⟨h4,h5,h6⟩
theorem Ow.nil (h:N f L):Ow P w0 ops md [] f L N:=by
 cases md with
 |seq=>exact fun w hw=>wpList_nil ⟨rfl,rfl,L,hw,by simpa [act] using h⟩
 |qui is ts=>
  intro listed hF ht w hw
  exact⟨fun _=>hw,hF.nil.2,rfl,rfl,L,hw,by simpa [act] using h⟩
 |any is ts=>
  intro listed hF ht w hw
  exact wpAny_done hF.nil.2 ⟨rfl,rfl,L,hw,by simpa [act] using h⟩ 0
 |sof R is ts=>
  intro listed hF ht w hw
  exact⟨fun _=>SR.of hw,hF.nil.2,rfl,rfl,L,hw,by simpa [act] using h⟩
def uY {w0:World} {K:bY} {e:Exit} {a:Act} {w:World} (h:dr w0 (K .normal) e a w):post w0 K e a w:=by
 obtain⟨rfl,hd,L,hp,hk⟩:=h
 exact⟨hd,L,hp,hk⟩
def jr {w0:World} {N:Fr→aA→Prop} {c:List PanicEntry} {a a':Act} {w:World} (h:dr w0 N (.panic c) a w):dr w0 N (.panic c) a' w:=by
 obtain⟨h,_⟩:=h;cases h
theorem Cw.region {id:Nat} {l:List Oper} (h:Ow P w0 l.toArray .seq l f L (K .normal)):Cw P w0 (.region id l.toArray false) f L K:=
 fun w hw=>wp_mono (wp_region_lit (h w hw)) fun _ _ _ h=>uY h
def C9 (P:Program) (l:List Oper) (is ts:List Nat):Bool:=
 Region.noSelect l.toArray&&is.length==l.length&& (ts.all fun t=>decide (t<l.length))&&px P l.toArray ts is (Array.replicate l.length false)
def cb:List Oper→Nat→Option Oper
 | [],_=>none
 |o::_,0=>some o
 |_::r,n+1=>cb r n
def sC:Option Oper→List Oper→List Oper
 |some o,l=>o::l
 |none,l=>l
def fS (l:List Oper):List Nat→List Oper
 | []=> []
 |i::is=>sC (cb l i) (fS l is)
def nl (l:List Oper) (k:List Oper→Prop):Prop:=k l
@[congr] theorem YF {x y:List Oper} {k:List Oper→Prop} (h:x=y):nl x k=nl y k:=by rw[h]
def cR (o:Oper) (r:List Oper) (k:List Oper→Prop):nl (o::r) k=k (o::r):=(rfl)
def cG (o:Oper) (r:List Oper):cb (o::r) 0=some o:=(rfl)
def cH (o:Oper) (r:List Oper) (n:Nat):cb (o::r) (n+1)=cb r n:=(rfl)
def b_ (o:Oper) (l:List Oper):sC (some o) l=o::l:=(rfl)
def cS (l:List Oper):fS l []= []:=(rfl)
def bz (l:List Oper) (i:Nat) (is:List Nat):fS l (i::is)=sC (cb l i) (fS l is):=(rfl)
def Cw.regionO {id:Nat} {l:List Oper} (is ts:List Nat) (hm:P.follows .mixedOrders=true) (hB:C9 P l is ts=true) (hl:is.map (fun i:Nat=>l[i]?)=(fS l is).map some)
  (h:nl (fS l is) fun l'=>Ow P w0 l.toArray (.qui is ts) l' f L (K .normal)):Cw P w0 (.region id l.toArray true) f L K:=by
 revert hl h
 generalize fS l is=l'
 intro hl h w hw
 simp only[C9,Bool.and_eq_true,beq_iff_eq,List.all_eq_true,decide_eq_true_eq] at hB
 obtain⟨⟨⟨h1,h2⟩,h3⟩,h4⟩:=hB
 have aR:is.length=l'.length:=by have:=congrArg List.length hl;simpa using this
 refine wp_mono (wp_region_any hm ?_) fun _ _ _ h=>uY h
 have hF:Fits P l.toArray ts is l' (Array.replicate l.length false):=⟨aR,fun j=>by
  have:=congrArg (·[j]?) hl
  simp only[List.getElem?_map] at this
  cases hj:is[j]? with
  |none=>
   rw[hj] at this
   simp only[Option.map_none] at this
   cases eT:l'[j]? with
   |none=>rfl
   |some x=>rw[eT] at this;cases this
  |some i=>
   rw[hj] at this
   simp only[Option.map_some] at this
   cases eT:l'[j]? with
   |none=>rw[eT] at this;cases this
   |some x=>
    rw[eT] at this
    simp only[Option.map_some,Option.some.injEq] at this
    simp[this],h1,h4⟩
 have:=(h:Ow P w0 l.toArray (.qui is ts) l' f L (K .normal)) (Array.replicate l.length false) hF (fun t ht=>by have:=h3 t ht;simp[this]) _ hw.drew
 rw[←aR,h2] at this
 have:=BE _ _ _ _ this
 simpa using this
def OpS (P:Program) (w0:World) (f:Fr) (L:aA) (o:Oper) (M:Value→aA→Prop):Prop:=
 ∀w,Hp w0 L w→
  (∃v w' L',(execOp (ev f) o).run P w= .ok (.value v) w'∧Hp w0 L' w'∧M v L')∨
  (∃w' L',(execOp (ev f) o).run P w= .ok .skip w'∧Hp w0 L' w'∧M undef L')∨
  (∃k args w1,(execOp (ev f) o).run P w= .ok (.enter k args) w1∧Calls P k args w1 fun e w'=> ∃v L',e= .returned v∧Hp w0 L' w'∧M v L')
theorem OpS.wp {M:Value→aA→Prop} {next:Act→World→Prop} {Q:Exit→Act→World→Prop} (h:OpS P w0 f L o M)
  (hn: ∀v L' w',Hp w0 L' w'→M v L'→next (act (aW f o.dst v)) w') {w:World} (hw:Hp w0 L w):o.wp P (act f) w next Q:=by
 unfold Oper.wp
 rw[nj]
 rcases h w hw with⟨v,w',L',hr,hp,hm⟩ | ⟨w',L',hr,hp,hm⟩ | ⟨k,args,w1,hr,hc⟩
 ·rw[hr,Oper.upon_value,eh];exact hn _ _ _ hp hm
 ·rw[hr,Oper.upon_skip,eh];exact hn _ _ _ hp hm
 rw[hr,Oper.upon_enter]
 refine hc.mono ?_
 rintro e w' ⟨v,L',rfl,hp,hm⟩
 show next ((act f).put o.dst v) w'
 rw[eh];exact hn _ _ _ hp hm
theorem OpS.mono {M M':Value→aA→Prop} (h:OpS P w0 f L o M) (hm: ∀v L,M v L→M' v L):OpS P w0 f L o M':=fun w hw=>by
 rcases h w hw with⟨v,w',L',hr,hp,h1⟩ | ⟨w',L',hr,hp,h1⟩ | ⟨k,args,w1,hr,hc⟩
 ·exact .inl ⟨v,w',L',hr,hp,hm _ _ h1⟩
 ·exact .inr (.inl ⟨w',L',hr,hp,hm _ _ h1⟩)
 exact .inr (.inr ⟨k,args,w1,hr,hc.mono fun e w' ⟨v,L',he,hp,h1⟩=>⟨v,L',he,hp,hm _ _ h1⟩⟩)
def um {i:Nat} (h:listed.getD i true=false): (listed.setIfInBounds i true).getD i true=true:=by
 have aG:i<listed.size:=by
  rcases Nat.lt_or_ge i listed.size with h'|h'
  ·exact h'
  simp[Array.getElem?_eq_none h'] at h
 simp[aG]
def n5 {i:Nat} (cY:i∉ts) (ht: ∀t,t∈ts→listed.getD t true=false): ∀t,t∈ts→(listed.setIfInBounds i true).getD t true=false:=
 fun t uM=>by rw[getD_set_ne true (fun(e:i=t)=>cY (by rw[e];exact uM))];exact ht t uM
def rl {k:Nat} (hk:ops[k]? =some o) (hr:Region.ready .any ops listed= [k]) (hs:aw ops f o=false) {n:Nat} {M:Value→aA→Prop} (h:OpS P w0 f L o M)
  (hn: ∀v L' w',Hp w0 L' w'→M v L'→wpAny P .any ops (dr w0 N) n (listed.setIfInBounds k true) (act (aW f o.dst v)) w') {w:World} (hw:Hp w0 L w):wpAny P .any ops (dr w0 N) (n+1) listed (act f) w:=by
 refine wpAny_all hr (by simp) ?_
 intro i hi
 simp only[List.mem_singleton] at hi
 subst hi
 unfold wpOp
 simp only[hk,j2,hs,Bool.not_false, ↓reduceIte]
 exact .inl (h.wp hn hw)
def Ow.step {md':Md} (he:md.turn=some md') (hp:fT P o.op=false) (hs:aw ops f o=false) (h:OpS P w0 f L o (fun v L'=>Ow P w0 ops md' rest (aW f o.dst v) L' N)):Ow P w0 ops md (o::rest) f L N:=by
 cases md with
 |seq=>
  cases he
  intro w hw
  unfold wpList
  rw[j2,hs]
  simp only[Bool.not_false, ↓reduceIte]
  exact .inl (h.wp (fun v L' w' hp hm=>hm w' hp) hw)
 |any is ts=>
  cases he
  intro listed hF ht w hw
  obtain⟨k,is',rfl,hk,cz,da,hc⟩:=hF.cons
  obtain⟨t,pR,jf⟩:=ht
  have hr:Region.ready .any ops listed= [k]:=by
   rcases hc with hc| ⟨_,_,_,hc| ⟨_,_,hc⟩⟩
   ·exact hc
   ·rw[hp] at hc;cases hc
   rw[hc t pR] at jf;cases jf
  exact rl hk hr hs h (fun v L' w' hp hm=>hm _ cz ⟨t,pR,BL jf⟩ w' hp) hw
 |qui is ts=>
  intro listed hF ht w hw
  obtain⟨k,is',rfl,hk,cz,da,hc⟩:=hF.cons
  simp only[Md.turn] at he
  split at he
  ·rename_i fF
   cases he
   have iB:k∈ts:=by simpa using fF
   have hr:Region.ready .any ops listed= [k]:=by
    rcases hc with hc| ⟨hc,_⟩
    ·exact hc
    exact absurd iB hc
   have bV:=um (ht k iB)
   refine⟨fun _=>hw,(fun h=>by rw[hr] at h;cases h), ?_⟩
   intro i hi
   rw[hr,List.mem_singleton] at hi
   subst hi
   unfold wpOp
   simp only[hk,j2,hs,Bool.not_false, ↓reduceIte]
   exact .inl (h.wp (fun v L' w' hp hm=>tZ _ _ _ _ ⟨i,iB,bV⟩ (hm _ cz ⟨i,iB,bV⟩ w' hp)) hw)
  cases he
 |sof R is ts=>
  intro listed hF ht w hw
  obtain⟨k,is',rfl,hk,cz,da,hc⟩:=hF.cons
  simp only[Md.turn] at he
  split at he
  ·rename_i fF
   cases he
   have iB:k∈ts:=by simpa using fF
   have hr:Region.ready .any ops listed= [k]:=by
    rcases hc with hc| ⟨hc,_⟩
    ·exact hc
    exact absurd iB hc
   have bV:=um (ht k iB)
   refine⟨fun _=>SR.of hw,(fun h=>by rw[hr] at h;cases h), ?_⟩
   intro i hi
   rw[hr,List.mem_singleton] at hi
   subst hi
   unfold wpOp
   simp only[hk,j2,hs,Bool.not_false, ↓reduceIte]
   exact .inl (h.wp (fun v L' w' hp hm=>tZ _ _ _ _ ⟨i,iB,bV⟩ (hm _ cz ⟨i,iB,bV⟩ w' hp)) hw)
  cases he
def Ow.calm {v:Value} (hp:fT P o.op=false) (k5:nB o.op=false) (hs:aw ops f o=false) (h:OpS P w0 f L o (fun v' L'=>v'=v∧L'=L))
  (hn:Ow P w0 ops md.next rest (aW f o.dst v) L N):Ow P w0 ops md (o::rest) f L N:=by
 cases md with
 |seq=>exact Ow.step rfl hp hs (h.mono fun v' L' ⟨h1,h2⟩=>by rw[h1,h2];exact hn)
 |any is ts=>exact Ow.step rfl hp hs (h.mono fun v' L' ⟨h1,h2⟩=>by rw[h1,h2];exact hn)
 |qui is ts=>
  intro listed hF ht w hw
  obtain⟨k,is',rfl,hk,cz,da,hc⟩:=hF.cons
  have hr:Region.ready .any ops listed= [k]:=by
   rcases hc with hc| ⟨_,_,_,hc| ⟨hc,_⟩⟩
   ·exact hc
   ·rw[hp] at hc;cases hc
   rw[k5] at hc;cases hc
  refine⟨fun _=>hw,(fun h=>by rw[hr] at h;cases h), ?_⟩
  intro i hi
  rw[hr,List.mem_singleton] at hi
  subst hi
  unfold wpOp
  simp only[hk,j2,hs,Bool.not_false, ↓reduceIte]
  refine .inl (h.wp (fun v' L' w' hp hm=> ?_) hw)
  obtain⟨rfl,rfl⟩:=hm
  simp only[Md.next] at hn
  split at hn
  ·rename_i fF
   have cY:i∈ts:=by simpa using fF
   have bV:=um (ht i cY)
   exact tZ _ _ _ _ ⟨i,cY,bV⟩ (hn _ cz ⟨i,cY,bV⟩ w' hp)
  rename_i fF
  have cY:i∉ts:=by simpa using fF
  exact hn _ cz (n5 cY ht) w' hp
 |sof R is ts=>
  intro listed hF ht w hw
  obtain⟨k,is',rfl,hk,cz,da,hc⟩:=hF.cons
  have hr:Region.ready .any ops listed= [k]:=by
   rcases hc with hc| ⟨_,_,_,hc| ⟨hc,_⟩⟩
   ·exact hc
   ·rw[hp] at hc;cases hc
   rw[k5] at hc;cases hc
  refine⟨fun _=>SR.of hw,(fun h=>by rw[hr] at h;cases h), ?_⟩
  intro i hi
  rw[hr,List.mem_singleton] at hi
  subst hi
  unfold wpOp
  simp only[hk,j2,hs,Bool.not_false, ↓reduceIte]
  refine .inl (h.wp (fun v' L' w' hp hm=> ?_) hw)
  obtain⟨rfl,rfl⟩:=hm
  simp only[Md.next] at hn
  split at hn
  ·rename_i fF
   have cY:i∈ts:=by simpa using fF
   have bV:=um (ht i cY)
   exact tZ _ _ _ _ ⟨i,cY,bV⟩ (hn _ cz ⟨i,cY,bV⟩ w' hp)
  rename_i fF
  have cY:i∉ts:=by simpa using fF
  exact hn _ cz (n5 cY ht) w' hp
def pZ {k:Nat} (hk:ops[k]? =some o) (h1:k∈Region.ready .any ops listed) (h2:Region.free .any ops listed k=true)
  (h3:fT P o.op=true∨(nB o.op=true∧rC ops ts listed k=true∧ ∀t,t∈ts→listed.getD t true=false)):First ops ts k o (fT P o.op=true) listed:=by
 refine⟨h1,Region.free_spec hk h2,h3.imp id fun⟨_,hw,_⟩=> ?_⟩
 unfold rC yM at hw
 generalize EU ops listed k 6 []=cs at hw
 simp only[Bool.and_eq_true,List.all_eq_true,Bool.or_eq_true,List.contains_eq_mem,decide_eq_true_eq,bne_iff_ne,ne_eq,Bool.not_eq_true'] at hw
 obtain⟨aY,eW⟩:=hw
 refine⟨cs,fun t ht hu=> ?_,fun c hc=> ?_⟩
 ·rcases aY t ht with h|h
  ·rw[hu] at h;cases h
  exact h
 obtain⟨⟨h1,h2⟩,h3⟩:=eW c hc
 refine⟨h1,h2, ?_⟩
 cases ho:ops[c]? with
 |none=>rw[ho] at h3;cases h3
 |some oc=>
  rw[ho] at h3
  obtain⟨e,he,hb⟩:=Array.any_eq_true'.1 h3
  simp only[Bool.and_eq_true,Bool.or_eq_true,beq_iff_eq,List.contains_eq_mem,decide_eq_true_eq] at hb
  exact⟨oc,rfl,e,he,hb.1,hb.2⟩
def Ow.skip (hs:aw ops f o=true) (h:Ow P w0 ops md.next rest (aW f o.dst undef) L N):Ow P w0 ops md (o::rest) f L N:=by
 have dV:Region.wanted o (yielded ops (act f).tmps)=false:=by rw[j2,hs];rfl
 cases md with
 |seq=>
  intro w hw
  unfold wpList
  rw[dV]
  simp only[Bool.false_eq_true, ↓reduceIte]
  rw[eh]
  exact h w hw
 |any is ts=>
  intro listed hF ht w hw
  obtain⟨k,is',rfl,hk,cz,da,hc⟩:=hF.cons
  obtain⟨t,pR,jf⟩:=ht
  have dA:=h _ cz ⟨t,pR,BL jf⟩ w hw
  rcases hc with hc| ⟨cV,d9,i9,ir⟩
  ·refine wpAny_all hc (by simp) ?_
   intro i hi
   simp only[List.mem_singleton] at hi
   subst hi
   unfold wpOp
   simp only[hk,dV,Bool.false_eq_true, ↓reduceIte]
   rw[eh];exact dA
  refine wpAny_take (v:=undef) hk hF.sel i9 (by simpa using d9) (fun c a w h=>jr h) (.inr ⟨dV,rfl⟩) ?_
  rw[eh];exact dA
 |qui is ts=>
  intro listed hF ht w hw
  obtain⟨k,is',rfl,hk,cz,da,hc⟩:=hF.cons
  simp only[Md.next] at h
  rcases hc with hc| ⟨cV,d9,i9,ir⟩
  ·refine⟨fun _=>hw,fun h=>(by rw[hc] at h;cases h), ?_⟩
   intro i hi
   rw[hc,List.mem_singleton] at hi
   subst hi
   unfold wpOp
   simp only[hk,dV,Bool.false_eq_true, ↓reduceIte]
   rw[eh]
   split at h
   ·rename_i fF
    have cY:i∈ts:=by simpa using fF
    have bV:=um (ht i cY)
    exact tZ _ _ _ _ ⟨i,cY,bV⟩ (h _ cz ⟨i,cY,bV⟩ w hw)
   rename_i fF
   exact h _ cz (n5 (by simpa using fF) ht) w hw
  rw[if_neg (by simpa using cV)] at h
  refine pj hk cV (Region.noSelect_spec hF.sel) (fun c a w h=>jr h) _ _ _ _ (pZ (P:=P) hk d9 i9 ir) (.inr ht) (.inr ⟨dV,rfl⟩) ?_
  rw[eh];exact h _ cz (n5 cV ht) w hw
 |sof R is ts=>
  intro listed hF ht w hw
  obtain⟨k,is',rfl,hk,cz,da,hc⟩:=hF.cons
  simp only[Md.next] at h
  rcases hc with hc| ⟨cV,d9,i9,ir⟩
  ·refine⟨fun _=>SR.of hw,fun h=>(by rw[hc] at h;cases h), ?_⟩
   intro i hi
   rw[hc,List.mem_singleton] at hi
   subst hi
   unfold wpOp
   simp only[hk,dV,Bool.false_eq_true, ↓reduceIte]
   rw[eh]
   split at h
   ·rename_i fF
    have cY:i∈ts:=by simpa using fF
    have bV:=um (ht i cY)
    exact tZ _ _ _ _ ⟨i,cY,bV⟩ (h _ cz ⟨i,cY,bV⟩ w hw)
   rename_i fF
   exact h _ cz (n5 (by simpa using fF) ht) w hw
  rw[if_neg (by simpa using cV)] at h
  refine pj hk cV (Region.noSelect_spec hF.sel) (fun c a w h=>jr h) _ _ _ _ (pZ (P:=P) hk d9 i9 ir) (.inr ht) (.inr ⟨dV,rfl⟩) ?_
  rw[eh];exact h _ cz (n5 cV ht) w hw
def uX {op:Op} {v:Value} (hp:fT P op=true) (h:gW P w0 L f op=some v) (w:World):gW P w [] f op=some v:=by
 cases op<;>simp only[fT,Bool.false_eq_true] at hp<;>first
  |exact h
  |skip
 ·rename_i s d x
  simp only[gW] at h ⊢
  cases hc:cvT P s d<;>rw[hc] at h hp<;>first
   |exact h
   |cases hp
 ·rename_i t x lo hi mx
  cases mx<;>exact h
 rename_i c
 obtain⟨cl,args,ts⟩:=c
 cases cl with
 |builtin b=>cases b<;>first|exact h|cases hp
 |value x=>cases hp
 |invoke x m=>cases hp
def UH {op:Op} {v:Value} (h:gW P w0 L f op=some v):fT P op=true∨nB op=true:=by
 unfold gW at h
 split at h<;>first
  |exact .inl rfl
  |exact .inr rfl
  |cases h
def rdIn (R:List Nat):Value→Bool
 | .pointer (some a)=>R.contains a.block
 | .slice (some a) _ _=>R.contains a.block
 |_=>true
def gy (md:Md) (f:Fr) (op:Op):Bool:=
 match op with
 | .load _ x=>(match md with| .sof R _ _=>rdIn R (ev f x) |_=>true)
 | .convert _ _ x=>(match md with| .sof R _ _=>rdIn R (ev f x) |_=>true)
 |_=>true
def C2 (w:World) (b:Nat):aS w [] b=w.heap[b]? :=(rfl)
def Ev {R is ts:List Nat} {op:Op} {v:Value} {w:World} (bv:gy (.sof R is ts) f op=true) (h:gW P w0 L f op=some v) (hS:SR w0 R L w):gW P w [] f op=some v:=by
 cases op<;>first
  |exact h
  |skip
 case load t x=>
  simp only[gW,qv] at h ⊢
  simp only[gy] at bv
  split at h
  ·rename_i b off hx
   rw[hx] at bv
   simp only[rdIn,List.contains_eq_mem,decide_eq_true_eq] at bv
   simp only[C2]
   cases hr:aS w0 L b with
   |none=>rw[hr] at h;unfold ak at h;split at h<;>simp_all
   |some o=>rw[hS b bv o hr];rw[hr] at h;exact h
  cases h
 case convert s d x=>
  simp only[gW,nA] at h ⊢
  simp only[gy] at bv
  cases hc:cvT P s d<;>rw[hc] at h<;>simp only at h ⊢ <;>first
   |exact h
   |skip
  unfold rV at h ⊢
  split at h
  ·exact h
  ·rename_i b off n c hx
   rw[hx] at bv
   simp only[rdIn,List.contains_eq_mem,decide_eq_true_eq] at bv
   simp only[C2]
   cases hr:aS w0 L b with
   |none=>rw[hr] at h;unfold lq at h;cases h
   |some o=>rw[hS b bv o hr];rw[hr] at h;exact h
  cases h
 case slice t x lo hi mx=>cases mx<;>exact h
 case call c=>
  obtain⟨cl,args,ts'⟩:=c
  cases cl with
  |builtin b=>cases b<;>exact h
  |value x=>exact h
  |invoke x m=>exact h
def Ow.value {v:Value} (hs:aw ops f o=false) (bv:gy md f o.op=true) (hv:gW P w0 L f o.op=some v) (h:Ow P w0 ops md.next rest (aW f o.dst v) L N):Ow P w0 ops md (o::rest) f L N:=by
 have dV:Region.wanted o (yielded ops (act f).tmps)=true:=by rw[j2,hs];rfl
 have hS:OpS P w0 f L o (fun v' L'=>v'=v∧L'=L):=fun w hw=> .inl ⟨v,w,L,lY hw hv,hw,rfl,rfl⟩
 have hY:YieldsC P ops (Hp w0 L) (fT P o.op=true) o v (act f):=by
  refine .inl ⟨dV,fun w hw=> ?_⟩
  rw[nj]
  rcases hw with hp|hw
  ·exact lY (Hp.refl w) (uX hp hv w)
  exact lY hw hv
 cases md with
 |seq=>
  intro w hw
  unfold wpList
  rw[dV]
  simp only[↓reduceIte]
  exact .inl (hS.wp (fun v' L' w' hp hm=>by obtain⟨rfl,rfl⟩:=hm;exact h w' hp) hw)
 |any is ts=>
  intro listed hF ht w hw
  obtain⟨k,is',rfl,hk,cz,da,hc⟩:=hF.cons
  obtain⟨t,pR,jf⟩:=ht
  have dA:=fun w hw=>h _ cz ⟨t,pR,BL jf⟩ w hw
  rcases hc with hc| ⟨cV,d9,i9,ir| ⟨_,_,ir⟩⟩
  ·exact rl hk hc hs hS (fun v' L' w' hp hm=>by obtain⟨rfl,rfl⟩:=hm;exact dA w' hp) hw
  ·refine wpAny_take (v:=v) hk hF.sel i9 (by simpa using d9) (fun c a w h=>jr h) (.inl ⟨dV,fun w=> ?_⟩) ?_
   ·rw[nj];exact lY (Hp.refl w) (uX ir hv w)
   rw[eh];exact dA w hw
  rw[ir t pR] at jf;cases jf
 |qui is ts=>
  intro listed hF ht w hw
  obtain⟨k,is',rfl,hk,cz,da,hc⟩:=hF.cons
  have cY:k∉ts:=da (UH hv)
  simp only[Md.next] at h
  rw[if_neg (by simpa using cY)] at h
  have dA:=fun w hw=>h _ cz (n5 cY ht) w hw
  rcases hc with hc| ⟨cV,d9,i9,ir⟩
  ·refine⟨fun _=>hw,fun h=>(by rw[hc] at h;cases h), ?_⟩
   intro i hi
   rw[hc,List.mem_singleton] at hi
   subst hi
   unfold wpOp
   simp only[hk,dV, ↓reduceIte]
   exact .inl (hS.wp (fun v' L' w' hp hm=>by obtain⟨rfl,rfl⟩:=hm;exact dA w' hp) hw)
  refine pj hk cV (Region.noSelect_spec hF.sel) (fun c a w h=>jr h) _ _ _ _ (pZ (P:=P) hk d9 i9 ir) (.inr ht) hY ?_
  rw[eh];exact dA w hw
 |sof R is ts=>
  intro listed hF ht w hw
  have Z6:YieldsC P ops (SR w0 R L) (fT P o.op=true) o v (act f):=by
   refine .inl ⟨dV,fun w hw=> ?_⟩
   rw[nj]
   rcases hw with hp|hw
   ·exact lY (Hp.refl w) (uX hp hv w)
   exact lY (Hp.refl w) (Ev bv hv hw)
  obtain⟨k,is',rfl,hk,cz,da,hc⟩:=hF.cons
  have cY:k∉ts:=da (UH hv)
  simp only[Md.next] at h
  rw[if_neg (by simpa using cY)] at h
  have dA:=fun w hw=>h _ cz (n5 cY ht) w hw
  rcases hc with hc| ⟨cV,d9,i9,ir⟩
  ·refine⟨fun _=>SR.of hw,fun h=>(by rw[hc] at h;cases h), ?_⟩
   intro i hi
   rw[hc,List.mem_singleton] at hi
   subst hi
   unfold wpOp
   simp only[hk,dV, ↓reduceIte]
   exact .inl (hS.wp (fun v' L' w' hp hm=>by obtain⟨rfl,rfl⟩:=hm;exact dA w' hp) hw)
  refine pj hk cV (Region.noSelect_spec hF.sel) (fun c a w h=>jr h) _ _ _ _ (pZ (P:=P) hk d9 i9 ir) (.inr ht) Z6 ?_
  rw[eh];exact dA w hw
def Ow.pureV {v:Value} (hp:fT P o.op=true) (hs:aw ops f o=false) (hv: ∀w,(execOp (ev f) o).run P w= .ok (.value v) w) (h:Ow P w0 ops md.next rest (aW f o.dst v) L N):Ow P w0 ops md (o::rest) f L N:=by
 have dV:Region.wanted o (yielded ops (act f).tmps)=true:=by rw[j2,hs];rfl
 have hS:OpS P w0 f L o (fun v' L'=>v'=v∧L'=L):=fun w hw=> .inl ⟨v,w,L,hv w,hw,rfl,rfl⟩
 have hY: ∀C,YieldsC P ops C (fT P o.op=true) o v (act f):=fun C=> .inl ⟨dV,fun w _=>by rw[nj];exact hv w⟩
 cases md with
 |seq=>
  intro w hw
  unfold wpList
  rw[dV]
  simp only[↓reduceIte]
  exact .inl (hS.wp (fun v' L' w' hp hm=>by obtain⟨rfl,rfl⟩:=hm;exact h w' hp) hw)
 |any is ts=>
  intro listed hF ht w hw
  obtain⟨k,is',rfl,hk,cz,da,hc⟩:=hF.cons
  obtain⟨t,pR,jf⟩:=ht
  have dA:=fun w hw=>h _ cz ⟨t,pR,BL jf⟩ w hw
  rcases hc with hc| ⟨cV,d9,i9,ir⟩
  ·exact rl hk hc hs hS (fun v' L' w' hp hm=>by obtain⟨rfl,rfl⟩:=hm;exact dA w' hp) hw
  refine wpAny_take (v:=v) hk hF.sel i9 (by simpa using d9) (fun c a w h=>jr h) (.inl ⟨dV,fun w=> ?_⟩) ?_
  ·rw[nj];exact hv w
  rw[eh];exact dA w hw
 |qui is ts=>
  intro listed hF ht w hw
  obtain⟨k,is',rfl,hk,cz,da,hc⟩:=hF.cons
  have cY:k∉ts:=da (.inl hp)
  simp only[Md.next] at h
  rw[if_neg (by simpa using cY)] at h
  have dA:=fun w hw=>h _ cz (n5 cY ht) w hw
  rcases hc with hc| ⟨cV,d9,i9,ir⟩
  ·refine⟨fun _=>hw,fun h=>(by rw[hc] at h;cases h), ?_⟩
   intro i hi
   rw[hc,List.mem_singleton] at hi
   subst hi
   unfold wpOp
   simp only[hk,dV, ↓reduceIte]
   exact .inl (hS.wp (fun v' L' w' hp hm=>by obtain⟨rfl,rfl⟩:=hm;exact dA w' hp) hw)
  refine pj hk cV (Region.noSelect_spec hF.sel) (fun c a w h=>jr h) _ _ _ _ (pZ (P:=P) hk d9 i9 ir) (.inr ht) (hY _) ?_
  rw[eh];exact dA w hw
 |sof R is ts=>
  intro listed hF ht w hw
  obtain⟨k,is',rfl,hk,cz,da,hc⟩:=hF.cons
  have cY:k∉ts:=da (.inl hp)
  simp only[Md.next] at h
  rw[if_neg (by simpa using cY)] at h
  have dA:=fun w hw=>h _ cz (n5 cY ht) w hw
  rcases hc with hc| ⟨cV,d9,i9,ir⟩
  ·refine⟨fun _=>SR.of hw,fun h=>(by rw[hc] at h;cases h), ?_⟩
   intro i hi
   rw[hc,List.mem_singleton] at hi
   subst hi
   unfold wpOp
   simp only[hk,dV, ↓reduceIte]
   exact .inl (hS.wp (fun v' L' w' hp hm=>by obtain⟨rfl,rfl⟩:=hm;exact dA w' hp) hw)
  refine pj hk cV (Region.noSelect_spec hF.sel) (fun c a w h=>jr h) _ _ _ _ (pZ (P:=P) hk d9 i9 ir) (.inr ht) (hY _) ?_
  rw[eh];exact dA w hw
theorem Ow.store {t:TypeId} {a x:Operand} {L':aA} {md':Md} (he:md.turn=some md') (hs:aw ops f o=false) (ho:o.op= .store t a x) (hv:pY (aM P t) L (ev f a) (ev f x)=some L') (h:Ow P w0 ops md' rest (aW f o.dst undef) L' N):Ow P w0 ops md (o::rest) f L N:=
 Ow.step he (by rw[ho];rfl) hs fun w hw=>by
  obtain⟨w',hr,hp⟩:=FV hw hv
  refine .inr (.inl ⟨w',L', ?_,hp,h⟩)
  simp only[execOp,ho,Sem.run_bind,hr];rfl
end
inductive Kind where
 |value|store (t:TypeId) (a x:Operand) |other
def rx:Op→Kind
 | .move _=> .value
 | .assign _=> .value
 | .pick .. => .value
 | .binOp .. => .value
 | .unOp .. => .value
 | .convert .. => .value
 | .nilCheck _=> .value
 | .fieldAddr .. => .value
 | .field .. => .value
 | .indexAddr .. => .value
 | .index .. => .value
 | .load .. => .value
 | .extract .. => .value
 | .slice .. => .value
 | .makeFunc .. => .value
 | .call ⟨.builtin .len,_,_⟩=> .value
 | .call ⟨.builtin .cap,_,_⟩=> .value
 | .store t a x=> .store t a x
 |_=> .other
abbrev Dep {α:Type} (_:α):Type:=Prop
def ov (x:Option Value) (k:Value→Prop):Dep k:=match x with|some v=>k v|none=>False
def ovs (x:Option Value) (k:Value→Prop) (s:Prop):Dep (k,s):=match x with|some v=>k v|none=>s
def oh (x:Option aA) (k:aA→Prop):Dep k:=match x with|some v=>k v|none=>False
def nf (f:Fr) (k:Fr→Prop):Dep k:=k f
def nh (L:aA) (k:aA→Prop):Dep k:=k L
@[congr] theorem YH {x y:Option Value} {k:Value→Prop} (h:x=y):ov x k=ov y k:=by rw[h]
@[congr] theorem YB {x y:Option Value} {k:Value→Prop} {s:Prop} (h:x=y):ovs x k s=ovs y k s:=by rw[h]
@[congr] theorem YI {x y:Option aA} {k:aA→Prop} (h:x=y):oh x k=oh y k:=by rw[h]
@[congr] theorem YG {x y:Fr} {k:Fr→Prop} (h:x=y):nf x k=nf y k:=by rw[h]
@[congr] theorem YC {x y:aA} {k:aA→Prop} (h:x=y):nh x k=nh y k:=by rw[h]
def ML (v:Value) (k:Value→Prop) (s:Prop):ovs (some v) k s=k v:=(rfl)
def MU (k:Value→Prop) (s:Prop):ovs none k s=s:=(rfl)
def Ot (v:aA) (k:aA→Prop):oh (some v) k=k v:=(rfl)
def Oe (v:Value) (r:Fr) (k:Fr→Prop):nf (v::r) k=k (v::r):=(rfl)
def PK (k:Fr→Prop):nf [] k=k []:=(rfl)
def OU (v:Nat×Obj) (r:aA) (k:aA→Prop):nh (v::r) k=k (v::r):=(rfl)
def PM (k:aA→Prop):nh [] k=k []:=(rfl)
def ib (b:Bool) (x y:Prop):Dep (x,y):=match b with|true=>x|false=>y
@[congr] theorem YJ {a b:Bool} {x y:Prop} (h:a=b):ib a x y=ib b x y:=by rw[h]
def PG (x y:Prop):ib true x y=x:=(rfl)
def MM (x y:Prop):ib false x y=y:=(rfl)
def vcB (P:Program) (w0:World) (st:Bool) (md:Md) (o:Oper) (f:Fr) (L:aA) (go:Fr→aA→Prop) (stop:Prop):Prop:=
 match rx o.op with
 | .value=>ib (gy md f o.op) (ovs (gW P w0 L f o.op) (fun v=>nf (aW f o.dst v) fun f'=>go f' L) stop) stop
 | .store t a x=>ib st (oh (pY (aM P t) L (ev f a) (ev f x)) fun L'=>nh L' fun L'=>nf (aW f o.dst undef) fun f'=>go f' L') stop
 | .other=>stop
def vcL (P:Program) (w0:World) (ops:Array Oper) (st:Bool) (md:Md):List Oper→Fr→aA→(Md→List Oper→Fr→aA→Prop)→Prop
 | [],f,L,k=>k md [] f L
 |o::rest,f,L,k=>
  ib (aw ops f o) (nf (aW f o.dst undef) fun f'=>vcL P w0 ops st md.next rest f' L k)
   (vcB P w0 st md o f L (fun f' L'=>vcL P w0 ops st md.next rest f' L' k) (k md (o::rest) f L))
def Md.eff:Md→Bool
 | .seq=>true
 | .qui _ _=>false
 | .any _ _=>true
 | .sof _ _ _=>false
def Md.turn_eff {md:Md} (h:md.eff=true):md.turn=some md.next:=by
 cases md<;>first|rfl|cases h
def Md.next_eff {md:Md} (h:md.eff=true):md.next.eff=true:=by
 cases md<;>first|rfl|cases h
def F6 {op:Op} {t:TypeId} {a x:Operand} (h:rx op= .store t a x):op= .store t a x:=by
 unfold rx at h
 split at h<;>first| (cases h;done) | (cases h;rfl)
theorem uT {P:Program} {w0:World} {ops:Array Oper} {N:Fr→aA→Prop} (k:Md→List Oper→Fr→aA→Prop) (hk: ∀md l f L,k md l f L→Ow P w0 ops md l f L N) (st:Bool):
  ∀ (l:List Oper) (md:Md) (f:Fr) (L:aA),(st=true→md.eff=true)→vcL P w0 ops st md l f L k→Ow P w0 ops md l f L N
 | [],md,f,L,_,h=>hk _ _ _ _ h
 |o::rest,md,f,L,bH,h=>by
  unfold vcL at h
  have mc:st=true→md.next.eff=true:=fun e=>Md.next_eff (bH e)
  cases hs:aw ops f o with
  |true=>
   rw[hs] at h
   exact Ow.skip hs (uT k hk st rest _ _ L mc h)
  |false=>
   rw[hs] at h
   simp only[ib,vcB] at h
   split at h
   ·cases bv:gy md f o.op with
    |false=>rw[bv] at h;exact hk _ _ _ _ h
    |true=>
     rw[bv] at h
     cases hv:gW P w0 L f o.op with
     |none=>rw[hv] at h;exact hk _ _ _ _ h
     |some v=>rw[hv] at h;exact Ow.value hs bv hv (uT k hk st rest _ _ L mc h)
   ·rename_i t a x SK
    cases st with
    |true=>
     simp only at h
     cases hv:pY (aM P t) L (ev f a) (ev f x) with
     |none=>rw[hv] at h;exact h.elim
     |some L'=>
      rw[hv] at h
      exact Ow.store (Md.turn_eff (bH rfl)) hs (F6 SK) hv (uT k hk true rest _ _ L' mc h)
    |false=>exact hk _ _ _ _ h
   exact hk _ _ _ _ h
def Ow.run {P:Program} {w0:World} {ops:Array Oper} {md:Md} {N:Fr→aA→Prop} {l:List Oper} {f:Fr} {L:aA} (he:md.eff=true)
  (h: ∀k:Md→List Oper→Fr→aA→Prop,(∀md l f L,Ow P w0 ops md l f L N→k md l f L)→vcL P w0 ops true md l f L k):Ow P w0 ops md l f L N:=
 uT (fun md l f L=>Ow P w0 ops md l f L N) (fun _ _ _ _ h=>h) true l md f L (fun _=>he) (h _ fun _ _ _ _ h=>h)
def GN (f:Fr) (t:TypeId) (x:Operand):gy .seq f (.load t x)=true:=(rfl)
def Fx (f:Fr) (is ts:List Nat) (t:TypeId) (x:Operand):gy (.any is ts) f (.load t x)=true:=(rfl)
def GJ (f:Fr) (is ts:List Nat) (t:TypeId) (x:Operand):gy (.qui is ts) f (.load t x)=true:=(rfl)
def Ha (f:Fr) (R is ts:List Nat) (t:TypeId) (x:Operand):gy (.sof R is ts) f (.load t x)=rdIn R (ev f x):=(rfl)
def XQ (f:Fr) (s t:TypeId) (x:Operand):gy .seq f (.convert s t x)=true:=(rfl)
def Wz (f:Fr) (is ts:List Nat) (s t:TypeId) (x:Operand):gy (.any is ts) f (.convert s t x)=true:=(rfl)
def XV (f:Fr) (is ts:List Nat) (s t:TypeId) (x:Operand):gy (.qui is ts) f (.convert s t x)=true:=(rfl)
def Wv (f:Fr) (R is ts:List Nat) (s t:TypeId) (x:Operand):gy (.sof R is ts) f (.convert s t x)=rdIn R (ev f x):=(rfl)
def PW (R:List Nat) (b o:Nat):rdIn R (vp b o)=R.contains b:=(rfl)
def Nl (R:List Nat) (b o n c:Nat):rdIn R (vsl b o n c)=R.contains b:=(rfl)
def NB (R:List Nat) (n c:Nat):rdIn R (.slice none n c)=true:=(rfl)
def Lk (R:List Nat) (k:IntKind) (n:Int):rdIn R (.int k n)=true:=(rfl)
def Mt (R:List Nat) (l:List UInt8):rdIn R (vs l)=true:=(rfl)
def Md.next_sof (k:Nat) (R is ts:List Nat): (Md.sof R (k::is) ts).next=if ts.contains k then .any is ts else .sof R is ts:=(rfl)
def Md.next_seq:Md.seq.next= .seq:=(rfl)
def Md.next_any (k:Nat) (is ts:List Nat): (Md.any (k::is) ts).next= .any is ts:=(rfl)
def Md.next_qui (k:Nat) (is ts:List Nat): (Md.qui (k::is) ts).next=if ts.contains k then .any is ts else .qui is ts:=(rfl)
def o6:Value→Option Bool
 | .bool b=>some b
 |_=>none
def ry (o:Option Oper) (f:Fr):Option Bool:=
 match o with
 |some o=>match o.dst with
  |some d=>o6 (dZ f d)
  |none=>none
 |none=>none
def lG (l:List Oper) (j:Nat):cb l j=l[j]? :=by
 induction l generalizing j with
 |nil=>rfl
 |cons o r ih=>cases j<;>simp[cb,ih]
def IW (l:List Oper) (f:Fr) (j:Nat):rJ l.toArray f j=ry (cb l j) f:=by
 unfold rJ ry
 rw[lG,List.getElem?_toArray]
 cases l[j]? with
 |none=>rfl
 |some o=>
  simp only[Option.bind_some]
  cases o.dst with
  |none=>rfl
  |some d=>
   simp only
   cases dZ f d<;>rfl
def HV (d:Tmp) (op:Op) (ty:TypeId) (ps:String) (af:Array Edge) (g:Option (Nat×Bool)) (f:Fr):ry (some ⟨some d,op,ty,ps,af,g⟩) f=o6 (dZ f d):=(rfl)
def NP (b:Bool):o6 (.bool b)=some b:=(rfl)
def Ft:o6 undef=none:=(rfl)
def NE (a b:Bool): ((some a:Option Bool)==some b)=(a==b):=(rfl)
def Mb (b:Bool): ((none:Option Bool)==some b)=false:=(rfl)
section
variable (P:Program) (w0:World) (ops:Array Oper) (rest:List Oper) (f:Fr) (L:aA) (k:Md→List Oper→Fr→aA→Prop)
 (st:Bool) (md:Md) (d:Option Tmp) (ty:TypeId) (ps:String) (af:Array Edge)
def N_:vcL P w0 ops st md [] f L k=k md [] f L:=(rfl)
def MX (op:Op):vcL P w0 ops st md (⟨d,op,ty,ps,af,none⟩::rest) f L k=
  vcB P w0 st md ⟨d,op,ty,ps,af,none⟩ f L (fun f' L'=>vcL P w0 ops st md.next rest f' L' k) (k md (⟨d,op,ty,ps,af,none⟩::rest) f L):=(rfl)
def Nd (op:Op) (j:Nat) (b:Bool):vcL P w0 ops st md (⟨d,op,ty,ps,af,some (j,b)⟩::rest) f L k=
  ib (rJ ops f j==some b) (vcB P w0 st md ⟨d,op,ty,ps,af,some (j,b)⟩ f L (fun f' L'=>vcL P w0 ops st md.next rest f' L' k) (k md (⟨d,op,ty,ps,af,some (j,b)⟩::rest) f L)) (nf (aW f d undef) fun f'=>vcL P w0 ops st md.next rest f' L k):=by
 simp only[vcL,aw]
 cases(rJ ops f j==some b)<;>rfl
end
@[congr] theorem YD {P:Program} {w0:World} {st:Bool} {md:Md} {o:Oper} {f:Fr} {L:aA} {go:Fr→aA→Prop} {stop:Prop}:vcB P w0 st md o f L go stop=vcB P w0 st md o f L go stop:=(rfl)
section
variable (P:Program) (w0:World) (f:Fr) (L:aA) (st:Bool) (md:Md) (d:Option Tmp) (ty:TypeId) (ps:String) (af:Array Edge) (g:Option (Nat×Bool)) (go:Fr→aA→Prop) (stop:Prop)
def Mh (x:Operand):vcB P w0 st md ⟨d, .move x,ty,ps,af,g⟩ f L go stop=ovs (some (ev f x)) (fun v=>nf (aW f d v) fun f'=>go f' L) stop:=(rfl)
def Jr (x:Operand):vcB P w0 st md ⟨d, .assign x,ty,ps,af,g⟩ f L go stop=ovs (some (ev f x)) (fun v=>nf (aW f d v) fun f'=>go f' L) stop:=(rfl)
def MO (c a b:Operand):vcB P w0 st md ⟨d, .pick c a b,ty,ps,af,g⟩ f L go stop=ovs (gu (ev f c) (ev f a) (ev f b)) (fun v=>nf (aW f d v) fun f'=>go f' L) stop:=(rfl)
def Kv (op:BinOp) (t t':TypeId) (x y:Operand):vcB P w0 st md ⟨d, .binOp op t x y t',ty,ps,af,g⟩ f L go stop=ovs (ac P op t (ev f x) (ev f y)) (fun v=>nf (aW f d v) fun f'=>go f' L) stop:=(rfl)
def N1 (op:UnOp) (t:TypeId) (x:Operand):vcB P w0 st md ⟨d, .unOp op t x,ty,ps,af,g⟩ f L go stop=ovs (unV op (ev f x)) (fun v=>nf (aW f d v) fun f'=>go f' L) stop:=(rfl)
def Hg (s t:TypeId) (x:Operand):vcB P w0 st md ⟨d, .convert s t x,ty,ps,af,g⟩ f L go stop=ib (gy md f (.convert s t x)) (ovs (nA w0 L (cvT P s t) (ev f x)) (fun v=>nf (aW f d v) fun f'=>go f' L) stop) stop:=(rfl)
def F4 (x:Operand):vcB P w0 st md ⟨d, .nilCheck x,ty,ps,af,g⟩ f L go stop=ovs (nilV (ev f x)) (fun v=>nf (aW f d v) fun f'=>go f' L) stop:=(rfl)
def FH (s:TypeId) (x:Operand) (i:Nat):vcB P w0 st md ⟨d, .fieldAddr s x i,ty,ps,af,g⟩ f L go stop=ovs (uV (aT P s i) (ev f x)) (fun v=>nf (aW f d v) fun f'=>go f' L) stop:=(rfl)
def Ki (s:TypeId) (x:Operand) (i:Nat):vcB P w0 st md ⟨d, .field s x i,ty,ps,af,g⟩ f L go stop=ovs (oA (aT P s i) (ev f x)) (fun v=>nf (aW f d v) fun f'=>go f' L) stop:=(rfl)
def Xk (t:TypeId) (x i:Operand):vcB P w0 st md ⟨d, .indexAddr t x i,ty,ps,af,g⟩ f L go stop=ovs (lD (ixT P t) (ev f x) (ixI (ev f i))) (fun v=>nf (aW f d v) fun f'=>go f' L) stop:=(rfl)
def JW (t:TypeId) (x i:Operand):vcB P w0 st md ⟨d, .index t x i,ty,ps,af,g⟩ f L go stop=ovs (mz (ixT P t) (ev f x) (ixI (ev f i))) (fun v=>nf (aW f d v) fun f'=>go f' L) stop:=(rfl)
def NX (t:TypeId) (x:Operand):vcB P w0 st md ⟨d, .load t x,ty,ps,af,g⟩ f L go stop=ib (gy md f (.load t x)) (ovs (qv (aM P t) w0 L (ev f x)) (fun v=>nf (aW f d v) fun f'=>go f' L) stop) stop:=(rfl)
def Hj (x:Operand) (i:Nat):vcB P w0 st md ⟨d, .extract x i,ty,ps,af,g⟩ f L go stop=ovs (Bu (ev f x) i) (fun v=>nf (aW f d v) fun f'=>go f' L) stop:=(rfl)
def Ku (t:TypeId) (x:Operand) (lo hi:Option Operand):vcB P w0 st md ⟨d, .slice t x lo hi none,ty,ps,af,g⟩ f L go stop=ovs (g7 (ixT P t) (ev f x) (lo.map fun o=>ixI (ev f o)) (hi.map fun o=>ixI (ev f o))) (fun v=>nf (aW f d v) fun f'=>go f' L) stop:=(rfl)
def F7 (fn:Fn) (a b:Array Operand):vcB P w0 st md ⟨d, .makeFunc fn a b,ty,ps,af,g⟩ f L go stop=ovs (some (.func fn (a.map (ev f)) (b.map (ev f)))) (fun v=>nf (aW f d v) fun f'=>go f' L) stop:=(rfl)
def OP (x:Operand) (t:TypeId):vcB P w0 st md ⟨d, .call ⟨.builtin .len, #[x], #[t]⟩,ty,ps,af,g⟩ f L go stop=ovs (eF (ixT P t) (ev f x)) (fun v=>nf (aW f d v) fun f'=>go f' L) stop:=(rfl)
def Ol (x:Operand) (t:TypeId):vcB P w0 st md ⟨d, .call ⟨.builtin .cap, #[x], #[t]⟩,ty,ps,af,g⟩ f L go stop=ovs (capV (ixT P t) (ev f x)) (fun v=>nf (aW f d v) fun f'=>go f' L) stop:=(rfl)
def JF (t:TypeId) (a x:Operand):vcB P w0 true md ⟨none, .store t a x,ty,ps,af,g⟩ f L go stop=oh (pY (aM P t) L (ev f a) (ev f x)) fun L'=>nh L' fun L'=>go f L':=(rfl)
def HU (t:TypeId) (a x:Operand):vcB P w0 false md ⟨d, .store t a x,ty,ps,af,g⟩ f L go stop=stop:=(rfl)
def JM (t:TypeId):vcB P w0 st md ⟨d, .alloc t,ty,ps,af,g⟩ f L go stop=stop:=(rfl)
def PA (t:TypeId) (x:Operand):vcB P w0 st md ⟨d, .box t x,ty,ps,af,g⟩ f L go stop=stop:=(rfl)
def K5 (t:TypeId) (x:Array (Nat×Operand)):vcB P w0 st md ⟨d, .build t x,ty,ps,af,g⟩ f L go stop=stop:=(rfl)
def Ww (t:TypeId) (n:Nat) (x:Array (Nat×Operand)):vcB P w0 st md ⟨d, .buildSlice t n x,ty,ps,af,g⟩ f L go stop=stop:=(rfl)
def Xl (t:TypeId) (x y:Operand):vcB P w0 st md ⟨d, .makeSlice t x y,ty,ps,af,g⟩ f L go stop=stop:=(rfl)
def Lm (x:Operand) (a:Array Operand) (t:Array TypeId):vcB P w0 st md ⟨d, .call ⟨.value x,a,t⟩,ty,ps,af,g⟩ f L go stop=stop:=(rfl)
def Jg (a:Array Operand) (t:Array TypeId):vcB P w0 st md ⟨d, .call ⟨.builtin .append,a,t⟩,ty,ps,af,g⟩ f L go stop=stop:=(rfl)
def WY (a:Array Operand) (t:Array TypeId):vcB P w0 st md ⟨d, .call ⟨.builtin .unsafeString,a,t⟩,ty,ps,af,g⟩ f L go stop=stop:=(rfl)
def w3_ (a:Array Operand) (t:Array TypeId):vcB P w0 st md ⟨d, .call ⟨.builtin .unsafeSliceData,a,t⟩,ty,ps,af,g⟩ f L go stop=stop:=(rfl)
def MT (a:Array Operand) (t:Array TypeId):vcB P w0 st md ⟨d, .call ⟨.builtin .copy,a,t⟩,ty,ps,af,g⟩ f L go stop=stop:=(rfl)
def Ir (a:Array Operand) (t:Array TypeId):vcB P w0 st md ⟨d, .call ⟨.builtin .delete,a,t⟩,ty,ps,af,g⟩ f L go stop=stop:=(rfl)
def Kf (a:Array Operand) (t:Array TypeId):vcB P w0 st md ⟨d, .call ⟨.builtin .clear,a,t⟩,ty,ps,af,g⟩ f L go stop=stop:=(rfl)
def Nj (a:Array Operand) (t:Array TypeId):vcB P w0 st md ⟨d, .call ⟨.builtin .max,a,t⟩,ty,ps,af,g⟩ f L go stop=stop:=(rfl)
def PJ (a:Array Operand) (t:Array TypeId):vcB P w0 st md ⟨d, .call ⟨.builtin .min,a,t⟩,ty,ps,af,g⟩ f L go stop=stop:=(rfl)
def GU (t:TypeId) (x:Option Operand):vcB P w0 st md ⟨d, .makeMap t x,ty,ps,af,g⟩ f L go stop=stop:=(rfl)
def IZ (t:TypeId) (x y:Operand) (c:Bool):vcB P w0 st md ⟨d, .lookup t x y c,ty,ps,af,g⟩ f L go stop=stop:=(rfl)
def Xg (t:TypeId) (m x y:Operand):vcB P w0 st md ⟨d, .mapUpdate t m x y,ty,ps,af,g⟩ f L go stop=stop:=(rfl)
def Ks (t:TypeId) (x:Operand):vcB P w0 st md ⟨d, .range t x,ty,ps,af,g⟩ f L go stop=stop:=(rfl)
def NN (x:Operand) (b:Bool):vcB P w0 st md ⟨d, .next x b,ty,ps,af,g⟩ f L go stop=stop:=(rfl)
def I1 (t:TypeId) (m x y:Operand):vcB P w0 st md ⟨d, .insert t m x y,ty,ps,af,g⟩ f L go stop=stop:=(rfl)
def XK (t:TypeId) (x:Operand):vcB P w0 st md ⟨d, .makeInterface t x,ty,ps,af,g⟩ f L go stop=stop:=(rfl)
def FX (t:TypeId) (m x:Operand):vcB P w0 st md ⟨d, .mapEntry t m x,ty,ps,af,g⟩ f L go stop=stop:=(rfl)
def XU (t:TypeId) (m x y:Operand):vcB P w0 st md ⟨d, .entryStore t m x y,ty,ps,af,g⟩ f L go stop=stop:=(rfl)
def LM (x:Operand):vcB P w0 st md ⟨d, .entry x,ty,ps,af,g⟩ f L go stop=stop:=(rfl)
end
end Go.Sx
end
section
namespace Go.Sx
open Go
def resV (P:Program) (w0:World) (L:aA) (f:Fr):ResultVar→Option Value
 | .tmp t=>some (dZ f t)
 | .cell a t=>qv (aM P t) w0 L (dZ f a)
def oS:Option Value→Option (List Value)→Option (List Value)
 |some v,some vs=>some (v::vs)
 |_,_=>none
def jy (P:Program) (w0:World) (L:aA) (f:Fr):List ResultVar→Option (List Value)
 | []=>some []
 |r::rs=>oS (resV P w0 L f r) (jy P w0 L f rs)
def CV (P:Program) (w0:World) (L:aA) (f:Fr):jy P w0 L f []=some []:=(rfl)
def DU (P:Program) (w0:World) (L:aA) (f:Fr) (r:ResultVar) (rs:List ResultVar):jy P w0 L f (r::rs)=oS (resV P w0 L f r) (jy P w0 L f rs):=(rfl)
def DV (v:Value) (vs:List Value):oS (some v) (some vs)=some (v::vs):=(rfl)
def Bh (P:Program) (w0:World) (L:aA) (f:Fr) (t:Tmp):resV P w0 L f (.tmp t)=some (dZ f t):=(rfl)
def KJ (P:Program) (w0:World) (L:aA) (f:Fr) (a:Tmp) (t:TypeId):resV P w0 L f (.cell a t)=qv (aM P t) w0 L (dZ f a):=(rfl)
def bw:List Value→Value
 | [v]=>v
 |vs=> .tuple vs.toArray
section
variable {P:Program} {w0 w:World} {L:aA} {f:Fr}
def resS (f:Fr) (r:ResultVar):Sem Value:=
 match r with
 | .tmp t=>pure ((act f).tmps.getD t undef)
 | .cell a t=>do loadVar t (←asAddr ((act f).tmps.getD a undef))
def MZ {r:ResultVar} {v:Value} (hw:Hp w0 L w) (h:resV P w0 L f r=some v): (resS f r).run P w= .ok v w:=by
 cases r with
 |tmp t=>simp only[resV,Option.some.injEq] at h;subst h;simp only[resS,act,C8];rfl
 |cell a t=>
  simp only[resV] at h
  unfold qv at h
  split at h
  ·rename_i b off hx
   simp only[resS,act,C8,hx,asAddr,Sem.run_bind,Sem.run_pure,Result.andThen_ok,Ty hw h]
  cases h
theorem wC: ∀ (rs:List ResultVar) (vs:List Value),Hp w0 L w→jy P w0 L f rs=some vs→(rs.mapM (resS f)).run P w= .ok vs w
 | [],vs,_,h=>by simp only[jy,Option.some.injEq] at h;subst h;rfl
 |r::rs,vs,hw,h=>by
  unfold jy oS at h
  split at h
  ·rename_i v vs' h1 h2
   simp only[Option.some.injEq] at h;subst h
   rw[List.mapM_cons,Sem.run_bind,MZ hw h1]
   simp only[Result.andThen_ok]
   rw[Sem.run_bind,wC rs vs' hw h2]
   rfl
  cases h
def Tl {fn:Func} {rs:List ResultVar} {vs:List Value} (hr:fn.results=rs.toArray) (hw:Hp w0 L w) (h:jy P w0 L f rs=some vs): (results fn (act f).tmps).run P w= .ok (bw vs) w:=by
 unfold results
 rw[hr]
 have e: (Array.mapM (m:=Sem) (resS f) rs.toArray).run P w= .ok vs.toArray w:=by
  rw[List.mapM_toArray,Sem.run_map,wC rs vs hw h];rfl
 rw[Sem.run_bind]
 show Result.andThen ((Array.mapM (m:=Sem) (resS f) rs.toArray).run P w) (fun a w'=>(pure (if h:a.size=1 then a[0] else Value.tuple a):Sem Value).run P w')=_
 rw[e]
 cases vs with
 |nil=>rfl
 |cons v r=>cases r<;>rfl
end
def Rets (P:Program) (k:FuncId) (args:Array Value) (w:World) (S:Value→aA→Prop):Prop:=
 Calls P k args w fun e w'=> ∃v D,e= .returned v∧Hp w D w'∧S v D
theorem Rets.mono {P:Program} {k:FuncId} {args:Array Value} {w:World} {S S':Value→aA→Prop} (h:Rets P k args w S) (hs: ∀v D,S v D→S' v D):Rets P k args w S':=
 Calls.mono h fun _ _ ⟨v,D,he,hp,hS⟩=>⟨v,D,he,hp,hs _ _ hS⟩
theorem Cw.own {P:Program} {w0:World} {c:Code} {f:Fr} {L:aA} {K:bY} {b:Nat} {o:Obj} (hb:w0.heap[b]? =some o) (hn:b∉keys L) (h:Cw P w0 c f (L++ [(b,o)]) K):Cw P w0 c f L K:=
 fun w hw=>h w (hw.own hb hn)
def retK (P:Program) (w0:World) (rs:List ResultVar) (S:Value→aA→Prop):bY
 | .normal,f,L=> ∃vs,jy P w0 L f rs=some vs∧S (bw vs) L
 | .ret,f,L=> ∃vs,jy P w0 L f rs=some vs∧S (bw vs) L
 |_,_,_=>False
def Rets.enter {P:Program} {k:FuncId} {fn:Func} {c:Code} {rs:List ResultVar} {args:Array Value} {w:World} {S:Value→aA→Prop} {n:Nat}
  (hf:P.funcs[k]? =some fn) (hb:fn.body=some c) (hr:fn.results=rs.toArray) (hn:fn.ntmps=n)
  (h:Cw P w c (args.toList++List.replicate (n - args.size) undef) [] (retK P w rs S)):Rets P k args w S:=by
 refine calls_of_wp hf hb ?_
 have e: ({tmps:=args++Array.replicate (fn.ntmps - args.size) undef,defers:= []}:Act)=act (args.toList++List.replicate (n - args.size) undef):=by
  rw[hn];simp only[act];congr 1;apply Array.ext';simp
 rw[e]
 refine wp_mono (h w (Hp.refl w)) ?_
 rintro e a w' ⟨hd,L,hp,hk⟩
 have ha:=rL hd
 cases e with
 |normal=>
  obtain⟨vs,h1,h2⟩:=hk
  exact⟨hd,bw vs,by rw[ha];exact Tl hr hp h1,bw vs,L,rfl,hp,h2⟩
 |ret=>
  obtain⟨vs,h1,h2⟩:=hk
  exact⟨hd,bw vs,by rw[ha];exact Tl hr hp h1,bw vs,L,rfl,hp,h2⟩
 |exit i=>exact hk.elim
 |goto i=>exact hk.elim
 |panic c=>exact hk.elim
 |outgrown=>exact hk.elim
def New (n:Nat):aA→Prop
 | []=>True
 | (b,_)::r=>n≤b∧New n r
def New.le {n:Nat} {L:aA} (h:New n L): ∀b,b∈keys L→n≤b:=by
 induction L with
 |nil=>intro b hb;cases hb
 |cons p r ih=>
  obtain⟨c,o⟩:=p
  intro b hb
  rcases List.mem_cons.1 hb with hb|hb
  ·rw[hb];exact h.1
  exact ih h.2 b hb
def Hp.garbage {w w':World} {D:aA} (h:Hp w D w') (hn:New w.heap.size D):Hp w [] w':=
 h.drop (fun _ hp=>by cases hp) List.nodup_nil (fun p hp aG _=>by
  have:=hn.le p.1 (List.mem_map.2 ⟨p,hp,rfl⟩);omega)
def retV (P:Program) (w0:World) (rs:List ResultVar) (S:Value→Prop):bY
 | .normal,f,L=> ∃vs,jy P w0 L f rs=some vs∧New w0.heap.size L∧S (bw vs)
 | .ret,f,L=> ∃vs,jy P w0 L f rs=some vs∧New w0.heap.size L∧S (bw vs)
 |_,_,_=>False
def Rets.enterV {P:Program} {k:FuncId} {fn:Func} {c:Code} {rs:List ResultVar} {args:Array Value} {w:World} {S:Value→Prop} {n:Nat}
  (hf:P.funcs[k]? =some fn) (hb:fn.body=some c) (hr:fn.results=rs.toArray) (hn:fn.ntmps=n)
  (h:Cw P w c (args.toList++List.replicate (n - args.size) undef) [] (retV P w rs S)):Rets P k args w (fun v D=>S v∧D= []):=by
 have:=Rets.enter (S:=fun v D=>New w.heap.size D∧S v) hf hb hr hn (h.mono (by
  intro e f L hk
  cases e<;>first
   |exact hk
   |exact hk.elim))
 refine Calls.mono this ?_
 rintro e w' ⟨v,D,he,hp,hn,hS⟩
 exact⟨v,[],he,hp.garbage hn,hS,rfl⟩
def retM (P:Program) (w0:World) (rs:List ResultVar) (b:Nat) (S:Value→Obj→Prop):bY
 | .normal,f,L=> ∃vs o N,jy P w0 L f rs=some vs∧L=(b,o)::N∧New w0.heap.size N∧S (bw vs) o
 | .ret,f,L=> ∃vs o N,jy P w0 L f rs=some vs∧L=(b,o)::N∧New w0.heap.size N∧S (bw vs) o
 |_,_,_=>False
def Rets.enterM {P:Program} {k:FuncId} {fn:Func} {c:Code} {rs:List ResultVar} {args:Array Value} {w:World} {S:Value→Obj→Prop} {n b:Nat} {o:Obj}
  (hf:P.funcs[k]? =some fn) (hb:fn.body=some c) (hr:fn.results=rs.toArray) (hn:fn.ntmps=n) (ho:w.heap[b]? =some o)
  (h:Cw P w c (args.toList++List.replicate (n - args.size) undef) [(b,o)] (retM P w rs b S)):Rets P k args w (fun v D=> ∃o,D= [(b,o)]∧S v o):=by
 have:=Rets.enter (S:=fun v D=> ∃o N,D=(b,o)::N∧New w.heap.size N∧S v o) hf hb hr hn
  (Cw.own ho (by simp[keys]) (h.mono (by
   intro e f L hk
   cases e with
   |normal=>obtain⟨vs,o,N,h1,h2,h3,h4⟩:=hk;exact⟨vs,h1,o,N,h2,h3,h4⟩
   |ret=>obtain⟨vs,o,N,h1,h2,h3,h4⟩:=hk;exact⟨vs,h1,o,N,h2,h3,h4⟩
   |_=>exact hk.elim)))
 refine Calls.mono this ?_
 rintro e w' ⟨v,D,he,hp,o',N,rfl,hN,hS⟩
 have fD:=(Array.getElem?_eq_some_iff.1 ho).1
 refine⟨v,[(b,o')],he,hp.drop (fun p hp=> ?_) (by simp[keys]) (fun p hp aG Zp=> ?_),o',rfl,hS⟩
 ·simp only[List.mem_singleton] at hp;subst hp;exact ah
 rcases List.mem_cons.1 hp with h|h
 ·exfalso;apply Zp;rw[h];simp[keys]
 have:=hN.le p.1 (List.mem_map.2 ⟨p,h,rfl⟩);omega
def dq:aA→Nat→Prop
 | [],_=>True
 | (b,_)::r,n=>b<n∧dq r n
def gK {L:aA} {n:Nat} (h: ∀b,b∈keys L→b<n):dq L n:=by
 induction L with
 |nil=>trivial
 |cons p r ih=>
  obtain⟨b,o⟩:=p
  exact⟨h b ah,ih fun c hc=>h c (aq _ hc)⟩
def Mrg (w0:World) (L:aA) (B:Nat) (D L':aA):Prop:= ∀w w',w.heap.size=B→Hp w0 L w→Hp w D w'→Hp w0 L' w'
def Mrg.nil {w0:World} {L:aA} {B:Nat}:Mrg w0 L B [] L:=fun _ _ _ h k=>h.trans_nil k
def Hp.same {w0 w:World} {L M:aA} (h:Hp w0 L w) (hs: ∀p,p∈M↔p∈L) (hn: (keys M).Nodup):Hp w0 M w:=by
 have hk: ∀b,b∈keys M↔b∈keys L:=fun b=>by
  constructor<;>intro hb<;>obtain⟨p,hp,rfl⟩:=List.mem_map.1 hb
  ·exact List.mem_map.2 ⟨p,(hs p).1 hp,rfl⟩
  exact List.mem_map.2 ⟨p,(hs p).2 hp,rfl⟩
 exact⟨fun b o hm=>h.has b o ((hs _).1 hm),hn,fun b hb hm=>h.old b hb (fun eJ=>hm ((hk b).2 eJ)),h.size,h.tape,h.os,h.output⟩
def Aw {L D:aA} (h: ∀b,b∈keys L→b∉keys D):L.filter (fun p=> !(keys D).contains p.1)=L:=by
 apply List.filter_eq_self.2
 intro p hp
 have:=h p.1 (List.mem_map.2 ⟨p,hp,rfl⟩)
 simpa using this
def Mrg.fresh {w0:World} {L D:aA} {B:Nat} (hD: ∀b,b∈keys D→B≤b):Mrg w0 L B D (L++D):=by
 intro w w' hB h k
 have:=h.trans k
 rwa [Aw (fun b hb hm=>by have:=h.lt hb;have:=hD b hm;omega)] at this
def Mrg.set {w0:World} {L:aA} {B b:Nat} {o:Obj} (hb:b∈keys L):Mrg w0 L B [(b,o)] (setB L b o):=by
 intro w w' hB h k
 have ht:=h.trans k
 refine ht.same (fun p=> ?_) (by rw[ni];exact h.nodup)
 obtain⟨c,x⟩:=p
 simp only[List.mem_append,List.mem_filter,keys,List.map_cons,List.map_nil,List.contains_eq_mem,List.mem_singleton,Prod.mk.injEq,Bool.not_eq_true',decide_eq_false_iff_not]
 constructor
 ·intro hm
  rcases xE h.nodup hm with⟨h1,h2⟩ | ⟨h1,h2⟩
  ·exact .inr ⟨h1,h2⟩
  exact .inl ⟨h2,h1⟩
 rintro(⟨h1,h2⟩ | ⟨rfl,rfl⟩)
 ·have: ∀ (L:aA),(c,x)∈L→c≠b→(c,x)∈setB L b o:=by
   intro L
   induction L with
   |nil=>intro hm _;cases hm
   |cons q r ih=>
    obtain⟨e,y⟩:=q
    intro hm aQ
    unfold setB
    split
    ·rename_i he
     rcases List.mem_cons.1 hm with hm|hm
     ·simp only[Prod.mk.injEq] at hm;exact absurd (hm.1.trans he) aQ
     exact aq _ hm
    rcases List.mem_cons.1 hm with hm|hm
    ·rw[hm];exact ah
    exact aq _ (ih hm aQ)
  exact this L h1 h2
 have: ∀ (L:aA),c∈keys L→(c,x)∈setB L c x:=by
  intro L
  induction L with
  |nil=>intro hm;cases hm
  |cons q r ih=>
   obtain⟨e,y⟩:=q
   intro hm
   unfold setB
   split
   ·rename_i he;subst he;exact ah
   rename_i he
   rcases List.mem_cons.1 hm with hm|hm
   ·exact absurd hm.symm he
   exact aq _ (ih hm)
 exact this L hb
section
variable {P:Program} {w0:World} {f:Fr} {L:aA} {N:Fr→aA→Prop} {ops:Array Oper} {rest:List Oper} {md:Md}
 {d:Option Tmp} {ty:TypeId} {ps:String} {af:Array Edge} {g:Option (Nat×Bool)}
def xi {x:Operand} {args:Array Operand} {ts:Array TypeId} {k:FuncId} {fst cap:Array Value} (hx:ev f x= .func (.func k) fst cap)
  (hk: ∀a w,(callFunc k a).run P w= .ok (.enter k a) w) (w:World):
  (execOp (ev f) ⟨d, .call ⟨.value x,args,ts⟩,ty,ps,af,g⟩).run P w= .ok (.enter k (fst++args.map (ev f)++cap)) w:=by
 simp only[execOp,resolve,hx,Deferred.ofValue,Sem.run_bind,Sem.run_pure,Result.andThen_ok,invoke,hk]
theorem Ow.call {x:Operand} {args:Array Operand} {ts:Array TypeId} {k:FuncId} {fst cap:Array Value} {S:Nat→Value→aA→Prop} {md':Md} (he:md.turn=some md')
  (hs:aw ops f ⟨d, .call ⟨.value x,args,ts⟩,ty,ps,af,g⟩=false) (hx:ev f x= .func (.func k) fst cap)
  (hk: ∀a w,(callFunc k a).run P w= .ok (.enter k a) w) (hc: ∀w,Hp w0 L w→Rets P k (fst++args.map (ev f)++cap) w (S w.heap.size))
  (hn: ∀B v D,dq L B→w0.heap.size≤B→S B v D→ ∃L',Mrg w0 L B D L'∧Ow P w0 ops md' rest (aW f d v) L' N):
  Ow P w0 ops md (⟨d, .call ⟨.value x,args,ts⟩,ty,ps,af,g⟩::rest) f L N:=by
 refine Ow.step he rfl hs fun w hw=> .inr (.inr ⟨k,_,w,xi hx hk w, ?_⟩)
 refine Calls.mono (hc w hw) ?_
 rintro e w' ⟨v,D,rfl,hp,hS⟩
 obtain⟨L',hm,hO⟩:=hn w.heap.size v D (gK fun b hb=>hw.lt hb) hw.size hS
 exact⟨v,L',rfl,hm w w' rfl hw hp,hO⟩
def Ow.callV {x:Operand} {args:Array Operand} {ts:Array TypeId} {k:FuncId} {fst cap:Array Value} {v:Value}
  (hs:aw ops f ⟨d, .call ⟨.value x,args,ts⟩,ty,ps,af,g⟩=false) (hx:ev f x= .func (.func k) fst cap)
  (hk: ∀a w,(callFunc k a).run P w= .ok (.enter k a) w) (hc: ∀w,Hp w0 L w→Rets P k (fst++args.map (ev f)++cap) w (fun v' D=>v'=v∧D= []))
  (hn:Ow P w0 ops md.next rest (aW f d v) L N):
  Ow P w0 ops md (⟨d, .call ⟨.value x,args,ts⟩,ty,ps,af,g⟩::rest) f L N:=by
 refine Ow.calm rfl rfl hs (fun w hw=> .inr (.inr ⟨k,_,w,xi hx hk w, ?_⟩)) hn
 refine Calls.mono (hc w hw) ?_
 rintro e w' ⟨v',D,rfl,hp,rfl,rfl⟩
 exact⟨_,_,rfl,hw.trans_nil hp,rfl,rfl⟩
def Ow.callF {l:List Operand} {ts:Array TypeId} {k:FuncId} {S:Nat→Value→aA→Prop} {md':Md} (he:md.turn=some md')
  (hs:aw ops f ⟨d, .call ⟨.value (.func k),l.toArray,ts⟩,ty,ps,af,g⟩=false)
  (hk: ∀a w,(callFunc k a).run P w= .ok (.enter k a) w) (hc: ∀w,Hp w0 L w→Rets P k (l.map (ev f)).toArray w (S w.heap.size))
  (hn: ∀B v D,dq L B→w0.heap.size≤B→S B v D→ ∃L',Mrg w0 L B D L'∧Ow P w0 ops md' rest (aW f d v) L' N):
  Ow P w0 ops md (⟨d, .call ⟨.value (.func k),l.toArray,ts⟩,ty,ps,af,g⟩::rest) f L N:=
 Ow.call he hs rfl hk (fun w hw=>by simpa using hc w hw) hn
def Ow.callFV {l:List Operand} {ts:Array TypeId} {k:FuncId} {v:Value}
  (hs:aw ops f ⟨d, .call ⟨.value (.func k),l.toArray,ts⟩,ty,ps,af,g⟩=false)
  (hk: ∀a w,(callFunc k a).run P w= .ok (.enter k a) w) (hc: ∀w,Hp w0 L w→Rets P k (l.map (ev f)).toArray w (fun v' D=>v'=v∧D= []))
  (hn:Ow P w0 ops md.next rest (aW f d v) L N):
  Ow P w0 ops md (⟨d, .call ⟨.value (.func k),l.toArray,ts⟩,ty,ps,af,g⟩::rest) f L N:=
 Ow.callV hs rfl hk (fun w hw=>by simpa using hc w hw) hn
def bL (P:Program) (t:TypeId):Option Value:=(P.info? t).bind (·.zero)
def pq {t:TypeId} {z:Value} (h:bL P t=some z) (w:World): (zeroValue t).run P w= .ok z w:=by
 unfold bL at h
 cases hi:P.info? t with
 |none=>rw[hi] at h;cases h
 |some i=>
  rw[hi] at h
  simp only[Option.bind_some] at h
  simp only[zeroValue,Sem.run_bind,typeInfo,run_program,Result.andThen_ok,hi,Sem.run_pure,h]
theorem Ow.alloc {t:TypeId} {z:Value} {md':Md} (he:md.turn=some md') (hs:aw ops f ⟨d, .alloc t,ty,ps,af,g⟩=false) (hz:bL P t=some z)
  (hn: ∀b,dq L b→w0.heap.size≤b→Ow P w0 ops md' rest (aW f d (vp b 0)) (L++ [(b, .cells z.cells t)]) N):
  Ow P w0 ops md (⟨d, .alloc t,ty,ps,af,g⟩::rest) f L N:=by
 refine Ow.step he rfl hs fun w hw=> .inl ⟨vp w.heap.size 0,w.alloc (.cells z.cells t),_, ?_,hw.alloc _,hn _ (gK fun b hb=>hw.lt hb) hw.size⟩
 simp only[execOp,Instr.alloc,Sem.run_bind,pq hz w,Result.andThen_ok]
 rfl
theorem Ow.box {t:TypeId} {x:Operand} {md':Md} (he:md.turn=some md') (hs:aw ops f ⟨d, .box t x,ty,ps,af,g⟩=false)
  (hn: ∀b,dq L b→w0.heap.size≤b→Ow P w0 ops md' rest (aW f d (vp b 0)) (L++ [(b, .cells (ev f x).cells t)]) N):
  Ow P w0 ops md (⟨d, .box t x,ty,ps,af,g⟩::rest) f L N:=by
 refine Ow.step he rfl hs fun w hw=> .inl ⟨vp w.heap.size 0,w.alloc (.cells (ev f x).cells t),_, ?_,hw.alloc _,hn _ (gK fun b hb=>hw.lt hb) hw.size⟩
 simp only[execOp,Instr.box,Sem.run_bind,Result.andThen_ok]
 rfl
def fX (P:Program) (t:TypeId):Option (List (Nat×Nat)):=
 match P.underlying t with
 |some (.struct fs)=>fs.toList.mapM fun f=>(aM P f.type).map fun m=>(f.offset,m.2)
 |some (.array n e)=>(aM P e).map fun m=>(List.range n).map fun i=>(i*m.2,m.2)
 |_=>none
def fillV (pl:List (Nat×Nat)):Array Value→List (Nat×Value)→Option (Array Value)
 |cs,[]=>some cs
 |cs,(i,v)::r=>match pl[i]? with
  |some (off,n)=>if v.cells.size=n∧off+n≤cs.size then fillV pl (dY cs off v.cells.toList) r else none
  |none=>none
def iL (pl:Option (List (Nat×Nat))) (z:Option Value) (parts:List (Nat×Value)):Option Value:=
 match pl,z with
 |some pl,some (.agg cs)=>(fillV pl cs parts).map .agg
 |_,_=>none
theorem Da: ∀ (vs:List Value) (off j:Nat) (cs:Array Value),(vs.zipIdx j).foldl (fun cs (p:Value×Nat)=>cs.setIfInBounds (off+p.2) p.1) cs=dY cs (off+j) vs
 | [],_,_,_=>rfl
 |v::r,off,j,cs=>by
  simp only[List.zipIdx_cons,List.foldl_cons,dY]
  rw[Da r off (j+1)]
  rfl
theorem rm {place:Nat→Option (Nat×Nat)} {pl:List (Nat×Nat)} (hp: ∀i p,pl[i]? =some p→place i=some p): ∀ (parts:List (Nat×Value)) (cs cs':Array Value),fillV pl cs parts=some cs'→Instr.fill place cs parts=some cs'
 | [],_,_,h=>h
 | (i,v)::r,cs,cs',h=>by
  unfold fillV at h
  split at h
  ·rename_i off n hi
   split at h
   ·rename_i hc
    unfold Instr.fill
    rw[hp i _ hi]
    simp only
    have h1: (decide (v.cells.size≠n) ||decide (off+v.cells.size>cs.size))=false:=by
     simp only[Bool.or_eq_false_iff,decide_eq_false_iff_not];omega
    have nE: ¬ ((decide (v.cells.size≠n) ||decide (off+v.cells.size>cs.size))=true):=by rw[h1];simp
    rw[if_neg nE]
    have e: (v.cells.zipIdx.foldl (fun cs (x:Value×Nat)=>match x with| (c,j)=>cs.setIfInBounds (off+j) c) cs)=dY cs off v.cells.toList:=by
     have:=Da v.cells.toList off 0 cs
     rw[←Array.foldl_toList,Array.toList_zipIdx]
     simpa using this
    rw[e]
    exact rm hp r _ _ h
   cases h
  cases h
def H6 {fs:List Field} {pl:List (Nat×Nat)} (h:fs.mapM (fun f=>(aM P f.type).map fun m=>(f.offset,m.2))=some pl) (w:World):
  (fs.mapM (fun f=>do pure (f.offset,←sizeOf f.type):Field→Sem (Nat×Nat))).run P w= .ok pl w:=by
 induction fs generalizing pl with
 |nil=>cases h;rfl
 |cons f r ih=>
  simp only[List.mapM_cons,Option.bind_eq_bind,Option.bind_eq_some_iff,Option.map_eq_some_iff] at h
  obtain⟨p,⟨m,hm,rfl⟩,ps,T7,h⟩:=h
  cases h
  rw[List.mapM_cons,Sem.run_bind]
  simp only[Sem.run_bind,fh hm,Result.andThen_ok,Sem.run_pure,ih T7]
def Hy {t:TypeId} {parts:Array (Nat×Value)} {v:Value} (h:iL (fX P t) (bL P t) parts.toList=some v) (w:World): (Instr.build t parts).run P w= .ok v w:=by
 unfold iL at h
 split at h
 ·rename_i pl cs fc hz
  cases hf:fillV pl cs parts.toList with
  |none=>rw[hf] at h;cases h
  |some cs'=>
   rw[hf] at h
   cases h
   unfold fX at fc
   split at fc
   ·rename_i fs hu
    have T5:fs.toList.mapM (fun f=>(aM P f.type).map fun m=>(f.offset,m.2))=some pl:=fc
    have hm:=H6 T5 w
    have eJ: (fs.mapM (fun f=>do pure (f.offset,←sizeOf f.type):Field→Sem (Nat×Nat))).run P w= .ok pl.toArray w:=by
     rw[←Array.toArray_toList (xs:=fs),List.mapM_toArray,Sem.run_map,hm];rfl
    have mO:=rm (place:=(pl.toArray[·]?)) (fun i p hi=>by simpa using hi) _ _ _ hf
    simp only[Instr.build,Sem.run_bind,pq hz w,Result.andThen_ok,run_underlying hu w,Value.cells]
    rw[eJ]
    simp only[Result.andThen_ok,mO,Sem.run_pure]
   ·rename_i n e hu
    cases hm:aM P e with
    |none=>rw[hm] at fc;cases fc
    |some m=>
     rw[hm] at fc
     simp only[Option.map_some,Option.some.injEq] at fc
     have mO:=rm (place:=fun i=>some (i*m.2,m.2)) (fun i p hi=>by
      rw[←fc] at hi
      simp only[List.getElem?_map,Option.map_eq_some_iff] at hi
      obtain⟨j,hj,rfl⟩:=hi
      have:j=i:=by
       have:=List.getElem?_eq_some_iff.1 hj
       obtain⟨h1,h2⟩:=this
       simpa using h2.symm
      rw[this]) _ _ _ hf
     simp only[Instr.build,Sem.run_bind,pq hz w,Result.andThen_ok,run_underlying hu w,Value.cells,fh hm w]
     simp only[mO,Sem.run_pure]
   cases fc
 cases h
theorem Ow.build {t:TypeId} {parts:Array (Nat×Operand)} (v:Value) (hs:aw ops f ⟨d, .build t parts,ty,ps,af,g⟩=false)
  (hv:iL (fX P t) (bL P t) (parts.toList.map fun p=>(p.1,ev f p.2))=some v)
  (hn:Ow P w0 ops md.next rest (aW f d v) L N):Ow P w0 ops md (⟨d, .build t parts,ty,ps,af,g⟩::rest) f L N:=by
 refine Ow.pureV rfl hs (fun w=> ?_) hn
 have h':iL (fX P t) (bL P t) (parts.map fun(i,x)=>(i,ev f x)).toList=some v:=by
  rw[Array.toList_map];exact hv
 simp only[execOp,Sem.run_bind,Hy h' w,Result.andThen_ok]
 rfl
def Ow.val {o:Oper} {v:Value} {md':Md} (he:md.turn=some md') (hp:fT P o.op=false) (hs:aw ops f o=false) (hv: ∀w,Hp w0 L w→(execOp (ev f) o).run P w= .ok (.value v) w)
  (hn:Ow P w0 ops md' rest (aW f o.dst v) L N):Ow P w0 ops md (o::rest) f L N:=
 Ow.step he hp hs fun w hw=> .inl ⟨v,w,L,hv w hw,hw,hn⟩
end
def a8 (l:List UInt8):Array Value:=(l.map fun x=>Value.int .u8 (x.toNat:Int)).toArray
def a32 (l:List UInt32):Array Value:=(l.map fun x=>Value.int .u32 (x.toNat:Int)).toArray
end Go.Sx
end
section
namespace Go.Sx
open Go
section
variable {P:Program} {w0:World} {f:Fr} {L:aA} {K:bY} {N:Fr→aA→Prop}
def tP (h:N f L):j6 N K .normal f L:=h
end
def CwC (P:Program) (w0:World) (v:Value) (x y:Code) (f:Fr) (L:aA) (K:bY):Prop:= ∃b,v= .bool b∧(b=true→Cw P w0 x f L K)∧(b=false→Cw P w0 y f L K)
section
variable {P:Program} {w0:World} {f:Fr} {L:aA} {K:bY} {v:Value} {x y:Code}
def CwC.split {b:Bool} (hv:v= .bool b) (ht:b=true→Cw P w0 x f L K) (he:b=false→Cw P w0 y f L K):CwC P w0 v x y f L K:=⟨b,hv,ht,he⟩
def CwC.splitp {p:Prop} [Decidable p] (hv:v= .bool (decide p)) (ht:p→Cw P w0 x f L K) (he: ¬p→Cw P w0 y f L K):CwC P w0 v x y f L K:=
 ⟨_,hv,(fun h=>ht (of_decide_eq_true h)),(fun h=>he (of_decide_eq_false h))⟩
def CwC.tt (hv:v= .bool true) (ht:Cw P w0 x f L K):CwC P w0 v x y f L K:=⟨_,hv,(fun _=>ht),(fun h=>by cases h)⟩
def CwC.ff (hv:v= .bool false) (he:Cw P w0 y f L K):CwC P w0 v x y f L K:=⟨_,hv,(fun h=>by cases h),(fun _=>he)⟩
def CwC.bt {b:Bool} (hv:v= .bool b) (hb:b=true) (ht:Cw P w0 x f L K):CwC P w0 v x y f L K:=CwC.tt (by rw[hv,hb]) ht
def CwC.bf {b:Bool} (hv:v= .bool b) (hb:b=false) (he:Cw P w0 y f L K):CwC P w0 v x y f L K:=CwC.ff (by rw[hv,hb]) he
def CwC.pt {p:Prop} [Decidable p] (hv:v= .bool (decide p)) (hp:p) (ht:Cw P w0 x f L K):CwC P w0 v x y f L K:=CwC.bt hv (dR hp) ht
def CwC.it {a b:Int} (hv:v= .bool (a==b)) (hp:a=b) (ht:Cw P w0 x f L K):CwC P w0 v x y f L K:=CwC.bt hv (beq_iff_eq.2 hp) ht
def CwC.if {a b:Int} (hv:v= .bool (a==b)) (hp: ¬a=b) (he:Cw P w0 y f L K):CwC P w0 v x y f L K:=CwC.bf hv (beq_eq_false_iff_ne.2 hp) he
def CwC.nf {a b:Int} (hv:v= .bool (a !=b)) (hp:a=b) (he:Cw P w0 y f L K):CwC P w0 v x y f L K:=CwC.bf hv (by rw[hp];simp) he
end
def df (f:Fr) (t:Tmp):ev f (.tmp t)=dZ f t:=(rfl)
def MR (f:Fr) (v:Value):ev f (.const v)=v:=(rfl)
def JE (f:Fr) (g:Nat):ev f (.global g)=vp g 0:=(rfl)
def yN (f:Fr) (k:FuncId):ev f (.func k)= .func (.func k) #[] #[]:=(rfl)
def dC (v:Value) (r:Fr):dZ (v::r) 0=v:=(rfl)
def dW (v:Value) (r:Fr) (n:Nat):dZ (v::r) (n+1)=dZ r n:=(rfl)
def fN (v x:Value) (r:Fr):setF (v::r) 0 x=x::r:=(rfl)
def fO (v x:Value) (r:Fr) (n:Nat):setF (v::r) (n+1) x=v::setF r n x:=(rfl)
def gN (f:Fr) (d:Tmp) (v:Value):aW f (some d) v=setF f d v:=(rfl)
def wH (f:Fr) (v:Value):aW f none v=f:=(rfl)
def Of (l:List UInt8):Value.string (ByteArray.mk (List.toArray l))=vs l:=(rfl)
def Nn (P:Program) (op:BinOp) (t:TypeId) (a b:List UInt8):ac P op t (vs a) (vs b)=aC op (vs a) (vs b):=(rfl)
def qw (l:List UInt8): (ByteArray.mk l.toArray).size=l.length:=by simp[ByteArray.size]
def ub (l:List UInt8): (ByteArray.mk l.toArray).toList=l:=by rw[ByteArray.toList_eq]
def Ke (a b:List UInt8) (h:a.length+b.length≤9223372036854775807):aC .add (vs a) (vs b)=some (vs (a++b)):=by
 simp only[aC,vs,strV,qw,h, ↓reduceIte]
 congr 2
def LC (a b:List UInt8):aC .eql (vs a) (vs b)=some (.bool (a==b)):=by simp only[aC,vs,strV,ub]
def Jz (a b:List UInt8):aC .neq (vs a) (vs b)=some (.bool (a !=b)):=by simp only[aC,vs,strV,ub];rfl
def JI (a b:List UInt8):aC .lss (vs a) (vs b)=some (.bool (Op.bytesLess a b)):=by simp only[aC,vs,strV,ub]
def MC (a b:List UInt8):aC .leq (vs a) (vs b)=some (.bool (Op.bytesLess a b||a==b)):=by simp only[aC,vs,strV,ub]
def wF (a b:List UInt8):aC .gtr (vs a) (vs b)=some (.bool (!(Op.bytesLess a b||a==b))):=by simp only[aC,vs,strV,ub]
def LI (a b:List UInt8):aC .geq (vs a) (vs b)=some (.bool (!Op.bytesLess a b)):=by simp only[aC,vs,strV,ub]
def M5 (l:List UInt8) (k:Int) (h:0≤k∧k<l.length):mz .str (vs l) (some k)=some (v8 (l.getD k.toNat 0)):=by
 have aG:k.toNat<l.length:=by omega
 simp only[mz,vs,h.1, ↓reduceIte]
 have: (ByteArray.mk l.toArray)[k.toNat]? =some l[k.toNat]:=by
  have hs:k.toNat< (ByteArray.mk l.toArray).size:=by rw[qw];exact aG
  rw[ByteArray.getElem?_lt' _ _ hs];rfl
 rw[this]
 simp[v8,List.getD_eq_getElem?_getD,aG]
def Oc (l:List UInt8):eF .str (vs l)=some (vi l.length):=by simp only[eF,vs,qw];rfl
def Do (l:List UInt8) (lo hi:Option (Option Int)) (a b:Nat) (h:bndV l.length l.length lo hi=some (a,b)):g7 .str (vs l) lo hi=some (vs ((l.take b).drop a)):=by
 simp only[g7,vs,qw,h]
 rw[ByteArray.extract_mk]
 congr 3
 rw[List.drop_take]
def MN (n c:Nat):bndV n c none none=some (0,n):=(rfl)
def yd (n c:Nat) (l:Int) (h:0≤l∧l≤n):bndV n c (some (some l)) none=some (l.toNat,n):=by simp only[bndV,h,and_self, ↓reduceIte]
def yj (n c:Nat) (l:Int) (h:0≤l∧l≤c):bndV n c none (some (some l))=some (0,l.toNat):=by simp only[bndV,h,and_self, ↓reduceIte]
def xF (n c:Nat) (l k:Int) (h:0≤l∧l≤k∧k≤c):bndV n c (some (some l)) (some (some k))=some (l.toNat,k.toNat):=by simp only[bndV,h,and_self, ↓reduceIte]
def GY (l:List UInt8) (k:Int) (h:0≤k∧k≤l.length):g7 .str (vs l) (some (some k)) none=some (vs (l.drop k.toNat)):=by
 rw[Do l _ _ _ _ (yd _ _ k h),List.take_length]
def FN (l:List UInt8) (k:Int) (h:0≤k∧k≤l.length):g7 .str (vs l) none (some (some k))=some (vs (l.take k.toNat)):=by
 rw[Do l _ _ _ _ (yj _ _ k h),List.drop_zero]
def Wx (l:List UInt8) (j k:Int) (h:0≤j∧j≤k∧k≤l.length):g7 .str (vs l) (some (some j)) (some (some k))=some (vs ((l.take k.toNat).drop j.toNat)):=by
 rw[Do l _ _ _ _ (xF _ _ j k h)]
def Ng (w0:World) (L:aA) (k:IntKind) (v:Value):nA w0 L (.int k) v=bK k v:=(rfl)
def N4 (w0:World) (L:aA) (l:List UInt8):nA w0 L .str (vs l)=some (vs l):=(rfl)
def Xh (w0:World) (L:aA) (b off n c:Nat):nA w0 L .bytesStr (vsl b off n c)=lq (aS w0 L b) off n:=(rfl)
def IY (l:List UInt8):qy (l.map fun x=>Value.int .u8 (x.toNat:Int))=some l:=by
 induction l with
 |nil=>rfl
 |cons x r ih=>
  simp only[List.map_cons,qy,ih,Int.toNat_natCast]
  simp
def Nu (l:List UInt8) (E:TypeId) (fz:Nat×Nat) (off n:Nat) (h:off+n≤l.length):lq (some (.cells (a8 l) E fz)) off n=some (vs ((l.drop off).take n)):=by
 have hs:off+n≤ (a8 l).size:=by simpa [a8] using h
 simp only[lq,hs, ↓reduceIte]
 have e: ((a8 l).extract off (off+n)).toList=((l.drop off).take n).map fun x=>Value.int .u8 (x.toNat:Int):=by
  simp[a8,List.map_drop,List.map_take,List.take_drop,List.extract_eq_take_drop]
 rw[e,IY];rfl
def Gq (off n b o:Nat) (a:Bool) (h:0<n):uV (some (off,(a,n))) (vp b o)=some (vp b (o+off)):=by
 have: ¬n=0:=by omega
 simp only[uV,vp,this, ↓reduceIte,l6]
def V7 (n:Nat) (m:Bool×Nat) (b o:Nat) (k:Int) (h:0≤k∧k<n):lD (.arr n m) (vp b o) (some k)=some (vp b (o+k.toNat*m.2)):=by
 simp only[lD,vp,h,and_self, ↓reduceIte,l6]
def BY (m:Bool×Nat) (b o n c:Nat) (k:Int) (h:0≤k∧k<n):lD (.sl m) (vsl b o n c) (some k)=some (vp b (o+k.toNat*m.2)):=by
 simp only[lD,vp,vsl,h,and_self, ↓reduceIte,l6]
def Q6 (b o:Nat):nilV (vp b o)=some (vp b o):=(rfl)
def P4 (n:Nat) (m:Bool×Nat) (v:Value):eF (.arr n m) v=some (vi n):=(rfl)
def PU (m:Bool×Nat) (b o n c:Nat):eF (.sl m) (vsl b o n c)=some (vi n):=(rfl)
def PX (m:Bool×Nat) (b o n c:Nat):capV (.sl m) (vsl b o n c)=some (vi c):=(rfl)
def Xr (n:Nat) (m:Bool×Nat) (b o:Nat) (h:0<n):g7 (.arr n m) (vp b o) none none=some (vsl b o n n):=by
 have: ¬n=0:=by omega
 simp only[g7,vp,MN,this, ↓reduceIte,vsl,l6,Nat.zero_mul,Nat.add_zero,Nat.sub_zero]
def XR (n:Nat) (m:Bool×Nat) (b o:Nat) (j k:Int) (h:0≤j∧j≤k∧k≤n∧j<n):g7 (.arr n m) (vp b o) (some (some j)) (some (some k))=some (vsl b (o+j.toNat*m.2) (k.toNat - j.toNat) (n - j.toNat)):=by
 have: ¬n=j.toNat:=by omega
 simp only[g7,vp,xF n n j k ⟨h.1,h.2.1,h.2.2.1⟩,this, ↓reduceIte,vsl,l6]
def er (L:aA) (b:Nat) (o:Obj):look ((b,o)::L) b=some o:=by simp[look]
def r9 (L:aA) (b c:Nat) (o:Obj) (h:b≠c):look ((b,o)::L) c=look L c:=by simp[look,h]
def l7 (L:aA) (b:Nat) (o x:Obj):setB ((b,o)::L) b x=(b,x)::L:=by simp[setB]
def tg (L:aA) (b c:Nat) (o x:Obj) (h:b≠c):setB ((b,o)::L) c x=(b,o)::setB L c x:=by simp[setB,h]
def mo (w0:World) (L:aA) (b:Nat) (o:Obj):aS w0 ((b,o)::L) b=some o:=by simp[aS,look]
def BD (w0:World) (L:aA) (b c:Nat) (o:Obj) (h:b≠c):aS w0 ((b,o)::L) c=aS w0 L c:=by simp[aS,look,h]
def N7 (w0:World) (b:Nat):aS w0 [] b=w0.heap[b]? :=(rfl)
def NU (m:Option (Bool×Nat)) (w0:World) (L:aA) (b o:Nat):qv m w0 L (vp b o)=ak m (aS w0 L b) o:=(rfl)
def uk (cs:Array Value) (E:TypeId) (fz:Nat×Nat) (n:Nat) (h:cs.size=n):ak (some (true,n)) (some (.cells cs E fz)) 0=some (.agg cs):=by
 subst h
 simp[ak]
def vG (l:List UInt8): (a8 l).size=l.length:=by simp[a8]
def Be (l:List UInt32): (a32 l).size=l.length:=by simp[a32]
def xz (l:List UInt8) (E:TypeId) (fz:Nat×Nat) (n i:Nat) (h:i<l.length):ak (some (false,n)) (some (.cells (a8 l) E fz)) i=some (v8 (l.getD i 0)):=by
 simp[ak,a8,v8,h]
def N6 (l:List UInt32) (E:TypeId) (fz:Nat×Nat) (n i:Nat) (h:i<l.length):ak (some (false,n)) (some (.cells (a32 l) E fz)) i=some (v32 (l.getD i 0)):=by
 simp[ak,a32,v32,h]
def C1 (l:List UInt8) (E:TypeId) (fz:Nat×Nat) (n:Nat) (h:l.length=n):ak (some (true,n)) (some (.cells (a8 l) E fz)) 0=some (.agg (a8 l)):=uk _ E fz n (by rw[vG,h])
def Is (l:List UInt32) (E:TypeId) (fz:Nat×Nat) (n:Nat) (h:l.length=n):ak (some (true,n)) (some (.cells (a32 l) E fz)) 0=some (.agg (a32 l)):=uk _ E fz n (by rw[Be,h])
def bI (cs:Array Value): (Value.agg cs).cells=cs:=(rfl)
def Pe (l:List UInt8): (a8 l).toList.all Value.oneCell'=true:=by simp[a8,Value.oneCell']
def O6 (l:List UInt32): (a32 l).toList.all Value.oneCell'=true:=by simp[a32,Value.oneCell']
def xy (vs:List Value): ∀ (pre mid suf:List Value),mid.length=vs.length→dY (pre++mid++suf).toArray pre.length vs=(pre++vs++suf).toArray:=by
 induction vs with
 |nil=>
  intro pre mid suf h
  cases mid with
  |nil=>rfl
  |cons _ _=>cases h
 |cons v r ih=>
  intro pre mid suf h
  cases mid with
  |nil=>cases h
  |cons m ms=>
   simp only[List.length_cons,Nat.add_right_cancel_iff] at h
   have:=ih (pre++ [v]) ms suf h
   simp only[dY]
   have e: ((pre++m::ms++suf).toArray.setIfInBounds pre.length v)=(pre++ [v]++ms++suf).toArray:=by
    simp
   rw[e]
   simpa using this
def x3 (cs:Array Value) (vs:List Value) (h:vs.length=cs.size):dY cs 0 vs=vs.toArray:=by
 have:=xy vs [] cs.toList [] (by simpa using h.symm)
 simpa using this
def CJ (n:Nat) (a:Bool) (cs old:Array Value) (E:TypeId) (h:cs.size=n∧old.size=n) (ho:cs.toList.all Value.oneCell'=true):
  bM (some (a,n)) (some (.cells old E (0,0))) 0 (.agg cs)=some (.cells cs E (0,0)):=by
 obtain⟨h1,h2⟩:=h
 have hp:dY old 0 cs.toList=cs:=by
  rw[x3 _ _ (by rw[Array.length_toList,h1,h2])]
 have hz: (0:Nat)+n≤old.size:=by omega
 simp only[bM,bI,h1,hz,ag,true_or,ho,and_self, ↓reduceIte,hp]
def UC (n:Nat) (a:Bool) (l:List UInt8) (old:Array Value) (E:TypeId) (h:l.length=n∧old.size=n):
  bM (some (a,n)) (some (.cells old E (0,0))) 0 (.agg (a8 l))=some (.cells (a8 l) E (0,0)):=CJ n a _ _ E (by rw[vG];exact h) (Pe l)
def HM (n:Nat) (a:Bool) (l:List UInt32) (old:Array Value) (E:TypeId) (h:l.length=n∧old.size=n):
  bM (some (a,n)) (some (.cells old E (0,0))) 0 (.agg (a32 l))=some (.cells (a32 l) E (0,0)):=CJ n a _ _ E (by rw[Be];exact h) (O6 l)
def wG (a:Bool) (v:Value) (cs:Array Value) (E:TypeId) (i:Nat) (h:i<cs.size) (hv:v.cells= #[v]) (ho:v.oneCell'=true):
  bM (some (a,1)) (some (.cells cs E (0,0))) i v=some (.cells (cs.setIfInBounds i v) E (0,0)):=by
 have h1:i+1≤cs.size:=h
 simp only[bM,hv,List.size_toArray,List.length_cons,List.length_nil,h1,ag,true_or,List.all_cons,ho,List.all_nil,Bool.and_self,and_self, ↓reduceIte,dY,Nat.zero_add]
def Pc (l:List UInt8) (i:Nat) (x:UInt8): (a8 l).setIfInBounds i (v8 x)=a8 (l.set i x):=by
 simp[a8,v8,List.map_set]
def O3 (l:List UInt32) (i:Nat) (x:UInt32): (a32 l).setIfInBounds i (v32 x)=a32 (l.set i x):=by
 simp[a32,v32,List.map_set]
def LZ (a:Bool) (l:List UInt8) (E:TypeId) (i:Nat) (x:UInt8) (h:i<l.length):bM (some (a,1)) (some (.cells (a8 l) E (0,0))) i (v8 x)=some (.cells (a8 (l.set i x)) E (0,0)):=by
 rw[wG a _ _ E i (by rw[vG];exact h) rfl rfl,Pc]
def KS (a:Bool) (l:List UInt32) (E:TypeId) (i:Nat) (x:UInt32) (h:i<l.length):bM (some (a,1)) (some (.cells (a32 l) E (0,0))) i (v32 x)=some (.cells (a32 (l.set i x)) E (0,0)):=by
 rw[wG a _ _ E i (by rw[Be];exact h) rfl rfl,O3]
def upd (L:aA) (b:Nat) (o:Option Obj):Option aA:=match o with|some o=>some (setB L b o) |none=>none
def vA (L:aA) (b:Nat) (o:Obj):upd L b (some o)=some (setB L b o):=(rfl)
def BP (m:Option (Bool×Nat)) (L:aA) (b o:Nat) (v:Value):pY m L (vp b o) v=upd L b (bM m (look L b) o v):=(rfl)
def Lc (n:Nat) (l:List UInt8) (i:Int) (h:0≤i∧i<n) (hl:l.length=n):mz (.arr n (false,1)) (.agg (a8 l)) (some i)=some (v8 (l.getD i.toNat 0)):=by
 have:i.toNat<l.length:=by omega
 simp[mz,h,jQ,a8,v8,this]
def LA (n:Nat) (l:List UInt32) (i:Int) (h:0≤i∧i<n) (hl:l.length=n):mz (.arr n (false,1)) (.agg (a32 l)) (some i)=some (v32 (l.getD i.toNat 0)):=by
 have:i.toNat<l.length:=by omega
 simp[mz,h,jQ,a32,v32,this]
def LK (vs:Array Value) (i:Nat):Bu (.tuple vs) i=vs[i]? :=(rfl)
def Pn (a b:Value):gu (.bool true) a b=some a:=(rfl)
def Po (a b:Value):gu (.bool false) a b=some b:=(rfl)
def Xx (g n:Nat): ((g:Int)+no_index (@OfNat.ofNat Int n _)).toNat=g+ @OfNat.ofNat Nat n _:=by
 show((g:Int)+ (n:Int)).toNat=g+n
 omega
def Xp (g n:Nat): (no_index (@OfNat.ofNat Int n _)* (g:Int)).toNat= @OfNat.ofNat Nat n _*g:=by
 show((n:Int)* (g:Int)).toNat=n*g
 rw[←Int.natCast_mul,Int.toNat_natCast]
def XN (g n m:Nat): (no_index (@OfNat.ofNat Int n _)* (g:Int)+no_index (@OfNat.ofNat Int m _)).toNat= @OfNat.ofNat Nat n _*g+ @OfNat.ofNat Nat m _:=by
 show((n:Int)* (g:Int)+ (m:Int)).toNat=n*g+m
 rw[←Int.natCast_mul,←Int.natCast_add,Int.toNat_natCast]
def I3 (g n:Nat): ((g:Int) - no_index (@OfNat.ofNat Int n _)).toNat=g - @OfNat.ofNat Nat n _:=by
 show((g:Int) - (n:Int)).toNat=g - n
 omega
def Xi (g n:Nat): (no_index (@OfNat.ofNat Int n _) - (g:Int)).toNat= @OfNat.ofNat Nat n _ - g:=by
 show((n:Int) - (g:Int)).toNat=n - g
 omega
def FG (g n:Nat): ((g:Int) / no_index (@OfNat.ofNat Int n _)).toNat=g / @OfNat.ofNat Nat n _:=by
 show((g:Int) / (n:Int)).toNat=g / n
 rw[←Int.natCast_ediv,Int.toNat_natCast]
def Xq (g n:Nat): ((g:Int)%no_index (@OfNat.ofNat Int n _)).toNat=g% @OfNat.ofNat Nat n _:=by
 show((g:Int)% (n:Int)).toNat=g%n
 rw[←Int.natCast_emod,Int.toNat_natCast]
def Wt (g n:Nat): ((g:Int)+ (n:Int)).toNat=g+n:=by omega
def Xo (g n m:Nat): ((g:Int) / no_index (@OfNat.ofNat Int n _)+no_index (@OfNat.ofNat Int m _)).toNat=g / @OfNat.ofNat Nat n _+ @OfNat.ofNat Nat m _:=by
 show((g:Int) / (n:Int)+ (m:Int)).toNat=g / n+m
 rw[←Int.natCast_ediv,←Int.natCast_add,Int.toNat_natCast]
def Xj (g n m:Nat): ((g:Int)%no_index (@OfNat.ofNat Int n _)+no_index (@OfNat.ofNat Int m _)).toNat=g% @OfNat.ofNat Nat n _+ @OfNat.ofNat Nat m _:=by
 show((g:Int)% (n:Int)+ (m:Int)).toNat=g%n+m
 rw[←Int.natCast_emod,←Int.natCast_add,Int.toNat_natCast]
def NR (a:Int) (c:UInt64) (h:c.toNat<63∧0≤a∧a*2^c.toNat≤9223372036854775807):aC .shl (vi a) (v64 c)=some (vi (a*2^c.toNat)):=xw a _ _ h
def NK (a:Int) (c:UInt64) (h:c.toNat<64∧0≤a):aC .shr (vi a) (v64 c)=some (vi (a / 2^c.toNat)):=P2 a _ _ h
def or_i (a b:Int) (h:0≤a∧0≤b∧a≤9223372036854775807∧b≤9223372036854775807):aC .or (vi a) (vi b)=some (vi ((a.toNat|||b.toNat:Nat):Int)):=by
 obtain⟨h1,h2,h3,h4⟩:=h
 obtain⟨n,rfl⟩:=Int.eq_ofNat_of_zero_le h1
 obtain⟨m,rfl⟩:=Int.eq_ofNat_of_zero_le h2
 have hn:n<2^63:=by omega
 have hm:m<2^63:=by omega
 have aG:=Nat.or_lt_two_pow hn hm
 simp only[aC,vi,ax,fC, ↓reduceIte,Option.map_some,Int.toNat_natCast]
 have e: (BitVec.ofInt (IntKind.bits .i64) (n:Int) |||BitVec.ofInt (IntKind.bits .i64) (m:Int)).toNat=n|||m:=by
  show(BitVec.ofInt 64 (n:Int) |||BitVec.ofInt 64 (m:Int)).toNat=_
  rw[BitVec.toNat_or,BitVec.ofInt_natCast,BitVec.ofInt_natCast,BitVec.toNat_ofNat,BitVec.toNat_ofNat,Nat.mod_eq_of_lt oM,Nat.mod_eq_of_lt oM]
 rw[e,lm _ ⟨by omega,by omega⟩]
def Q_ (a b:Int) (h:0≤a∧0≤b∧a≤9223372036854775807∧b≤9223372036854775807):aC .and (vi a) (vi b)=some (vi ((a.toNat&&&b.toNat:Nat):Int)):=by
 obtain⟨h1,h2,h3,h4⟩:=h
 obtain⟨n,rfl⟩:=Int.eq_ofNat_of_zero_le h1
 obtain⟨m,rfl⟩:=Int.eq_ofNat_of_zero_le h2
 have aG:n&&&m≤n:=Nat.and_le_left
 simp only[aC,vi,ax,fC, ↓reduceIte,Option.map_some,Int.toNat_natCast]
 have e: (BitVec.ofInt (IntKind.bits .i64) (n:Int)&&&BitVec.ofInt (IntKind.bits .i64) (m:Int)).toNat=n&&&m:=by
  show(BitVec.ofInt 64 (n:Int)&&&BitVec.ofInt 64 (m:Int)).toNat=_
  rw[BitVec.toNat_and,BitVec.ofInt_natCast,BitVec.ofInt_natCast,BitVec.toNat_ofNat,BitVec.toNat_ofNat,Nat.mod_eq_of_lt oM,Nat.mod_eq_of_lt oM]
 rw[e,lm _ ⟨by omega,by omega⟩]
def J6 (P:Program) (op:BinOp) (t:TypeId) (x:UInt8) (y:UInt8):ac P op t (v8 x) (v8 y)=aC op (v8 x) (v8 y):=(rfl)
def Gx (P:Program) (op:BinOp) (t:TypeId) (x:UInt8) (y:UInt16):ac P op t (v8 x) (v16 y)=aC op (v8 x) (v16 y):=(rfl)
def Fu (P:Program) (op:BinOp) (t:TypeId) (x:UInt8) (y:UInt32):ac P op t (v8 x) (v32 y)=aC op (v8 x) (v32 y):=(rfl)
def Hn (P:Program) (op:BinOp) (t:TypeId) (x:UInt8) (y:UInt64):ac P op t (v8 x) (v64 y)=aC op (v8 x) (v64 y):=(rfl)
def II (P:Program) (op:BinOp) (t:TypeId) (x:UInt8) (y:Int):ac P op t (v8 x) (vi y)=aC op (v8 x) (vi y):=(rfl)
def Ge (P:Program) (op:BinOp) (t:TypeId) (x:UInt16) (y:UInt8):ac P op t (v16 x) (v8 y)=aC op (v16 x) (v8 y):=(rfl)
def Fe (P:Program) (op:BinOp) (t:TypeId) (x:UInt16) (y:UInt16):ac P op t (v16 x) (v16 y)=aC op (v16 x) (v16 y):=(rfl)
def Ff (P:Program) (op:BinOp) (t:TypeId) (x:UInt16) (y:UInt32):ac P op t (v16 x) (v32 y)=aC op (v16 x) (v32 y):=(rfl)
def Fa (P:Program) (op:BinOp) (t:TypeId) (x:UInt16) (y:UInt64):ac P op t (v16 x) (v64 y)=aC op (v16 x) (v64 y):=(rfl)
def Hu (P:Program) (op:BinOp) (t:TypeId) (x:UInt16) (y:Int):ac P op t (v16 x) (vi y)=aC op (v16 x) (vi y):=(rfl)
def H3 (P:Program) (op:BinOp) (t:TypeId) (x:UInt32) (y:UInt8):ac P op t (v32 x) (v8 y)=aC op (v32 x) (v8 y):=(rfl)
def E' (P:Program) (op:BinOp) (t:TypeId) (x:UInt32) (y:UInt16):ac P op t (v32 x) (v16 y)=aC op (v32 x) (v16 y):=(rfl)
def Fp (P:Program) (op:BinOp) (t:TypeId) (x:UInt32) (y:UInt32):ac P op t (v32 x) (v32 y)=aC op (v32 x) (v32 y):=(rfl)
def FE (P:Program) (op:BinOp) (t:TypeId) (x:UInt32) (y:UInt64):ac P op t (v32 x) (v64 y)=aC op (v32 x) (v64 y):=(rfl)
def Hi (P:Program) (op:BinOp) (t:TypeId) (x:UInt32) (y:Int):ac P op t (v32 x) (vi y)=aC op (v32 x) (vi y):=(rfl)
def Ga (P:Program) (op:BinOp) (t:TypeId) (x:UInt64) (y:UInt8):ac P op t (v64 x) (v8 y)=aC op (v64 x) (v8 y):=(rfl)
def Fo (P:Program) (op:BinOp) (t:TypeId) (x:UInt64) (y:UInt16):ac P op t (v64 x) (v16 y)=aC op (v64 x) (v16 y):=(rfl)
def Fk (P:Program) (op:BinOp) (t:TypeId) (x:UInt64) (y:UInt32):ac P op t (v64 x) (v32 y)=aC op (v64 x) (v32 y):=(rfl)
def Fi (P:Program) (op:BinOp) (t:TypeId) (x:UInt64) (y:UInt64):ac P op t (v64 x) (v64 y)=aC op (v64 x) (v64 y):=(rfl)
def HD (P:Program) (op:BinOp) (t:TypeId) (x:UInt64) (y:Int):ac P op t (v64 x) (vi y)=aC op (v64 x) (vi y):=(rfl)
def JA (P:Program) (op:BinOp) (t:TypeId) (x:Int) (y:UInt8):ac P op t (vi x) (v8 y)=aC op (vi x) (v8 y):=(rfl)
def GP (P:Program) (op:BinOp) (t:TypeId) (x:Int) (y:UInt16):ac P op t (vi x) (v16 y)=aC op (vi x) (v16 y):=(rfl)
def HJ (P:Program) (op:BinOp) (t:TypeId) (x:Int) (y:UInt32):ac P op t (vi x) (v32 y)=aC op (vi x) (v32 y):=(rfl)
def Gw (P:Program) (op:BinOp) (t:TypeId) (x:Int) (y:UInt64):ac P op t (vi x) (v64 y)=aC op (vi x) (v64 y):=(rfl)
def Iw (P:Program) (op:BinOp) (t:TypeId) (x:Int) (y:Int):ac P op t (vi x) (vi y)=aC op (vi x) (vi y):=(rfl)
def PT (x:UInt8):ixI (v8 x)=some (x.toNat:Int):=(rfl)
def Pb (x:UInt8):Value.oneCell' (v8 x)=true:=(rfl)
def Mk (x:UInt8): (v8 x).cells= #[v8 x]:=(rfl)
def PC (x:UInt16):ixI (v16 x)=some (x.toNat:Int):=(rfl)
def OY (x:UInt16):Value.oneCell' (v16 x)=true:=(rfl)
def MA (x:UInt16): (v16 x).cells= #[v16 x]:=(rfl)
def PF (x:UInt32):ixI (v32 x)=some (x.toNat:Int):=(rfl)
def Og (x:UInt32):Value.oneCell' (v32 x)=true:=(rfl)
def Kh (x:UInt32): (v32 x).cells= #[v32 x]:=(rfl)
def O1 (x:UInt64):ixI (v64 x)=some (x.toNat:Int):=(rfl)
def Oi (x:UInt64):Value.oneCell' (v64 x)=true:=(rfl)
def Kt (x:UInt64): (v64 x).cells= #[v64 x]:=(rfl)
def P_ (x:Int):ixI (vi x)=some x:=(rfl)
def Pg (x:Int):Value.oneCell' (vi x)=true:=(rfl)
def M_ (x:Int): (vi x).cells= #[vi x]:=(rfl)
end Go.Sx
end
namespace Go.Sx
open Go
section
variable {P:Program} {w0:World} {f:Fr} {L:aA} {N:Fr→aA→Prop} {ops:Array Oper} {rest:List Oper} {md:Md}
 {d:Option Tmp} {ty:TypeId} {ps:String} {af:Array Edge} {g:Option (Nat×Bool)}
def Ow.callM {l:List Operand} {ts:Array TypeId} {k:FuncId} {b:Nat} {v:Value} {o:Obj} {md':Md} (he:md.turn=some md')
  (hs:aw ops f ⟨d, .call ⟨.value (.func k),l.toArray,ts⟩,ty,ps,af,g⟩=false)
  (hk: ∀a w,(callFunc k a).run P w= .ok (.enter k a) w) (hb:b∈keys L)
  (hc: ∀w,Hp w0 L w→Rets P k (l.map (ev f)).toArray w (fun v' D=> ∃o',D= [(b,o')]∧v'=v∧o'=o))
  (hn:Ow P w0 ops md' rest (aW f d v) (setB L b o) N):
  Ow P w0 ops md (⟨d, .call ⟨.value (.func k),l.toArray,ts⟩,ty,ps,af,g⟩::rest) f L N:=
 Ow.callF (S:=fun _ v' D=> ∃o',D= [(b,o')]∧v'=v∧o'=o) he hs hk hc (by
  rintro _ _ _ - - ⟨_,rfl,rfl,rfl⟩
  exact⟨_,Mrg.set hb,hn⟩)
end
def ny (P:Program) (t:TypeId) (len:Nat) (parts:List (Nat×Value)):Option (TypeId×Array Value):=
 match P.underlying t with
 |some (.slice e)=>match aM P e with
  |some m=>if len*m.2>2^24 then none else
   match(if len*m.2=0 then some #[] else(bL P e).map Value.cells) with
   |some zero=>(Instr.fill (fun i=>some (i*m.2,m.2)) ((Array.range (len*m.2)).map (zero[· %zero.size]!)) parts).map fun c=>(e,c)
   |none=>none
  |none=>none
 |_=>none
def XJ {P:Program} {t e:TypeId} {len:Nat} {parts:Array (Nat×Value)} {cells:Array Value} (h:ny P t len parts.toList=some (e,cells)) (w:World):
  (Instr.buildSlice t len parts).run P w= .ok (vsl w.heap.size 0 len len) (w.alloc (.cells cells e)):=by
 unfold ny at h
 split at h
 ·rename_i el hu
  split at h
  ·rename_i m hm
   split at h
   ·cases h
   rename_i cn
   split at h
   ·rename_i zero hz
    cases hf:Instr.fill (fun i=>some (i*m.2,m.2)) ((Array.range (len*m.2)).map (zero[· %zero.size]!)) parts.toList with
    |none=>rw[hf] at h;cases h
    |some c=>
     rw[hf] at h
     cases h
     simp only[Instr.buildSlice,Sem.run_bind,run_underlying hu w,Result.andThen_ok,fh hm w,cn,if_false]
     split at hz
     ·rename_i h0
      cases hz
      have e1: ∀ (k:Array Value→World→Result Value),(Sem.run P (pure (#[]:Array Value)) w).andThen k=k #[] w:=fun _=>rfl
      simp only[h0,if_true] at hf ⊢
      rw[Sem.run_bind,e1]
      simp only[hf,Sem.run_bind]
      rfl
     rename_i h0
     cases qk:bL P e with
     |none=>rw[qk] at hz;cases hz
     |some z=>
      rw[qk] at hz
      cases hz
      simp only[h0,if_false,Sem.run_bind,pq qk w,Result.andThen_ok,Sem.run_pure,hf]
      rfl
   cases h
  cases h
 cases h
section
variable {P:Program} {w0:World} {f:Fr} {L:aA} {N:Fr→aA→Prop} {ops:Array Oper} {rest:List Oper} {md:Md}
 {d:Option Tmp} {ty:TypeId} {ps:String} {af:Array Edge} {g:Option (Nat×Bool)}
theorem Ow.buildSlice {t e:TypeId} {len:Nat} {parts:Array (Nat×Operand)} (cells:Array Value) {md':Md} (he:md.turn=some md') (hs:aw ops f ⟨d, .buildSlice t len parts,ty,ps,af,g⟩=false)
  (hv:ny P t len (parts.toList.map fun p=>(p.1,ev f p.2))=some (e,cells))
  (hn: ∀b,dq L b→w0.heap.size≤b→Ow P w0 ops md' rest (aW f d (vsl b 0 len len)) (L++ [(b, .cells cells e)]) N):
  Ow P w0 ops md (⟨d, .buildSlice t len parts,ty,ps,af,g⟩::rest) f L N:=by
 refine Ow.step he rfl hs fun w hw=> .inl ⟨vsl w.heap.size 0 len len,w.alloc (.cells cells e),_, ?_,hw.alloc _,hn _ (gK fun b hb=>hw.lt hb) hw.size⟩
 have h':ny P t len (parts.map fun(i,x)=>(i,ev f x)).toList=some (e,cells):=by
  rw[Array.toList_map];exact hv
 simp only[execOp,Sem.run_bind,XJ h' w,Result.andThen_ok]
 rfl
end
def G_ {f:Nat→Option Bool} {g:Nat→Bool} (is:List Nat) (h: ∀i,i∈is→f i=some (g i)):vO f is=some (is.all g):=by
 induction is with
 |nil=>rfl
 |cons i r ih=>
  unfold vO
  rw[h i ah,List.all_cons]
  cases g i
  ·rfl
  simpa using ih fun j hj=>h j (aq _ hj)
def GL (l l':List UInt8) (n:Nat) (h:l.length=n) (h':l'.length=n): ((List.range n).all fun i=>l.getD i 0==l'.getD i 0)=(l==l'):=by
 rw[Bool.eq_iff_iff,List.all_eq_true,beq_iff_eq]
 constructor
 ·intro ha
  apply List.ext_getElem oM
  intro i h1 h2
  have:=ha i (List.mem_range.2 oM)
  rw[beq_iff_eq,List.getD_eq_getElem?_getD,List.getD_eq_getElem?_getD,List.getElem?_eq_getElem h1,List.getElem?_eq_getElem h2] at this
  exact this
 rintro rfl i _
 simp
def o7 {P:Program} {t e:TypeId} {n d:Nat} (hu:P.underlying t=some (.array n e)) (he:P.underlying e=some (.int .u8)) (hm:aM P e=some (false,1)) (l l':List UInt8) (hl:l.length=n) (mS:l'.length=n):
  eqD P (d+2) t (.agg (a8 l)) (.agg (a8 l'))=some (l==l'):=by
 rw[←GL l l' n hl mS]
 unfold eqD
 rw[hu]
 simp only[hm]
 apply G_
 intro i hi
 have hi:=List.mem_range.1 hi
 have p: ∀ (x:List UInt8),x.length=n→jQ (false,1) (a8 x) (i*1)=some (v8 (x.getD i 0)):=by
  intro x hx
  simp[jQ,a8,v8,hx,hi]
 simp only[qx,p l hl,p l' mS]
 unfold eqD
 rw[he]
 simp only[v8, ↓reduceIte,Option.some.injEq]
 rw[Bool.eq_iff_iff,beq_iff_eq,beq_iff_eq,←UInt8.toNat_inj]
 omega
def O8 {P:Program} {t e:TypeId} {n:Nat} (hu:P.underlying t=some (.array n e)) (he:P.underlying e=some (.int .u8)) (hm:aM P e=some (false,1)) (hg:P.eqGuardType P.depth t=false) (l l':List UInt8) (hl:l.length=n∧l'.length=n):
  ac P .eql t (.agg (a8 l)) (.agg (a8 l'))=some (.bool (l==l')):=by
 unfold ac eqX
 rw[hg]
 simp[eM,o7 (d:=6) hu he hm l l' hl.1 hl.2]
def Ln {P:Program} {t e:TypeId} {n:Nat} (hu:P.underlying t=some (.array n e)) (he:P.underlying e=some (.int .u8)) (hm:aM P e=some (false,1)) (hg:P.eqGuardType P.depth t=false) (l l':List UInt8) (hl:l.length=n∧l'.length=n):
  ac P .neq t (.agg (a8 l)) (.agg (a8 l'))=some (.bool (!(l==l'))):=by
 unfold ac eqX
 rw[hg]
 simp[eM,o7 (d:=6) hu he hm l l' hl.1 hl.2]
def tup2_0 (a b:Value): (#[a,b]:Array Value)[0]? =some a:=(rfl)
def tup2_1 (a b:Value): (#[a,b]:Array Value)[1]? =some b:=(rfl)
def tup3_0 (a b c:Value): (#[a,b,c]:Array Value)[0]? =some a:=(rfl)
def tup3_1 (a b c:Value): (#[a,b,c]:Array Value)[1]? =some b:=(rfl)
def tup3_2 (a b c:Value): (#[a,b,c]:Array Value)[2]? =some c:=(rfl)
structure StrS (w:World) (v:Value) (l:List (List UInt8)) (b off:Nat) (arr:Array Value) (E:TypeId) (fz:Nat×Nat):Prop where
 len: ∀m,eF (.sl m) v=some (vi l.length)
 idx: ∀m (k:Nat),k<l.length→lD (.sl m) v (some (k:Int))=some (vp b (off+k*m.2))
 has:0<l.length→w.heap[b]? =some (.cells arr E fz)
 get: ∀k,k<l.length→arr[off+k]? =some (vs (l.getD k []))
def StrS.sl {w:World} {l:List (List UInt8)} {b off n c:Nat} {arr:Array Value} {E:TypeId} {fz:Nat×Nat} (hn:n=l.length)
  (has:w.heap[b]? =some (.cells arr E fz)) (get: ∀k,k<l.length→arr[off+k]? =some (vs (l.getD k []))):StrS w (vsl b off n c) l b off arr E fz:=by
 subst hn
 exact⟨fun _=>rfl,fun m k h=>by rw[BY _ _ _ _ _ _ oM];simp,fun _=>has,get⟩
theorem StrS.none (w:World) (n c:Nat) (hn:n=0):StrS w (.slice none n c) [] 0 0 #[] 0 (0,0):=by
 subst hn
 exact⟨fun _=>rfl,fun _ _ h=>absurd h (Nat.not_lt_zero _),fun h=>absurd h (Nat.not_lt_zero _),fun _ h=>absurd h (Nat.not_lt_zero _)⟩
theorem StrS.old {w w':World} {v:Value} {l:List (List UInt8)} {b off:Nat} {arr:Array Value} {E:TypeId} {fz:Nat×Nat} {L:aA} (h:StrS w v l b off arr E fz) (hw:Hp w L w') (hb:0<l.length→b∉keys L):StrS w' v l b off arr E fz:=by
 refine⟨h.len,h.idx,fun h0=> ?_,h.get⟩
 rw[hw.old b (Array.getElem?_eq_some_iff.1 (h.has h0)).1 (hb h0)]
 exact h.has h0
def loadV_one (cs:Array Value) (E:TypeId) (fz:Nat×Nat) (n i:Nat):ak (some (false,n)) (some (.cells cs E fz)) i=cs[i]? :=(rfl)
end Go.Sx
namespace Go.Sx
open Go
def OwK (P:Program) (w0:World) (ops:Array Oper) (n:Nat) (listed:List Bool) (f:Fr) (L:aA) (N:Fr→aA→Prop):Prop:=
 ∀w,Hp w0 L w→wpAny P .any ops (dr w0 N) n listed.toArray (act f) w
section
variable {P:Program} {w0:World} {f:Fr} {L:aA} {N:Fr→aA→Prop} {K:bY} {l:List Oper} {n:Nat} {listed:List Bool}
def OwK.done {ops:Array Oper} (hr:Region.ready .any ops listed.toArray= []) (h:N f L):OwK P w0 ops n listed f L N:=
 fun w hw=>wpAny_done hr ⟨rfl,rfl,L,hw,by simpa [act] using h⟩ n
def BN {o:Oper} {a:Act} {next next':Act→World→Prop} {Q Q':Exit→Act→World→Prop} (hn: ∀a w,next a w→next' a w) (hQ: ∀e a w,e≠ .normal→Q e a w→False) {r:Result Next}
  (h:o.upon P a next Q r):o.upon P a next' Q' r:=by
 cases r with
 |ok x w'=>
  cases x<;>simp only[Oper.upon] at h ⊢ <;>
   first
    |exact hn _ _ h
    |exact Calls.mono h (fun e w'' he=>by
      cases e<;>first|exact hn _ _ he|exact(hQ _ _ _ (by simp) he).elim| (obtain⟨a,w,h⟩:=he;exact(hQ _ _ _ (by simp) h).elim))
    |exact Rows.mono h (fun _ _ he=>hn _ _ he)
    |exact h.elim
 |halt x w'=>
  cases x<;>simp only[Oper.upon] at h ⊢ <;>first|exact(hQ _ _ _ (by simp) h).elim|exact h.elim
def Bv {N:Fr→aA→Prop} {e:Exit} {a:Act} {w:World} (he:e≠ .normal) (h:dr w0 N e a w):False:=he h.1
def rN {ops:Array Oper} {k:Nat} {o:Oper} (hk:ops[k]? =some o) {X:Act→World→Prop}
  (h:Ow P w0 ops .seq [o] f L (fun f' L'=> ∀w,Hp w0 L' w→X (act f') w)) {w:World} (hw:Hp w0 L w):wpOp P ops (dr w0 N) k X (act f) w:=by
 have h1:=h w hw
 unfold wpList at h1
 unfold wpOp
 simp only[hk]
 have hX: ∀a w,wpList P ops (dr w0 fun f' L'=> ∀w,Hp w0 L' w→X (act f') w) [] a w→X a w:=by
  intro a w' hx
  obtain⟨-,hd,L',hp,hh⟩:=(show dr w0 _ _ a w' from hx)
  have:=hh w' hp
  obtain⟨t,d⟩:=a
  simp only at hd
  subst hd
  simpa [act] using this
 cases mg:Region.wanted o (yielded ops (act f).tmps) with
 |true=>
  rw[mg] at h1
  simp only[↓reduceIte] at h1 ⊢
  rcases h1 with h1| ⟨-,a,w',h1⟩
  ·exact .inl (BN hX (fun e a w he h=>Bv he h) h1)
  exact(Bv (by simp) h1).elim
 |false=>
  rw[mg] at h1
  simp only[Bool.false_eq_true, ↓reduceIte] at h1 ⊢
  exact hX _ _ h1
def DN {ops:Array Oper} {o:Oper} {N N':Fr→aA→Prop} (hN: ∀f L,N f L→N' f L) {w:World} {a:Act} (h:wpList P ops (dr w0 N) [o] a w):wpList P ops (dr w0 N') [o] a w:=by
 have hm: ∀a w,dr w0 N .normal a w→dr w0 N' .normal a w:=fun a w ⟨h1,h2,L',h3,h4⟩=>⟨h1,h2,L',h3,hN _ _ h4⟩
 unfold wpList at h ⊢
 cases mg:Region.wanted o (yielded ops a.tmps) with
 |true=>
  rw[mg] at h
  simp only[↓reduceIte] at h ⊢
  rcases h with h| ⟨-,a,w',h1⟩
  ·exact .inl (BN (fun a w h=>hm a w h) (fun e a w he h=>Bv he h) h)
  exact(Bv (by simp) h1).elim
 |false=>
  rw[mg] at h
  simp only[Bool.false_eq_true, ↓reduceIte] at h ⊢
  exact hm _ _ h
def lc (l:List Bool) (i:Nat):l.toArray.setIfInBounds i true=(l.set i true).toArray:=by simp
def OwK.one (k:Nat) (o:Oper) (hr:Region.ready .any l.toArray listed.toArray= [k]) (hk:cb l k=some o)
  (h:Ow P w0 l.toArray .seq [o] f L (fun f' L'=>OwK P w0 l.toArray n (listed.set k true) f' L' N)):OwK P w0 l.toArray (n+1) listed f L N:=by
 intro w hw
 refine wpAny_all hr (by simp) ?_
 intro i hi
 simp only[List.mem_singleton] at hi
 subst hi
 rw[lc]
 exact rN (by rw[lG] at hk;simpa using hk) h hw
def OwK.two (i j:Nat) (oi oj:Oper) (hr:Region.ready .any l.toArray listed.toArray= [i,j]) (hi:cb l i=some oi) (hj:cb l j=some oj)
  (h1:Ow P w0 l.toArray .seq [oi] f L (fun f' L'=>OwK P w0 l.toArray n (listed.set i true) f' L' N))
  (h2:Ow P w0 l.toArray .seq [oj] f L (fun f' L'=>OwK P w0 l.toArray n (listed.set j true) f' L' N)):OwK P w0 l.toArray (n+1) listed f L N:=by
 intro w hw
 refine wpAny_all hr (by simp) ?_
 intro k hk
 rw[lc]
 simp only[List.mem_cons,List.not_mem_nil,or_false] at hk
 rcases hk with rfl|rfl
 ·exact rN (by rw[lG] at hi;simpa using hi) h1 hw
 exact rN (by rw[lG] at hj;simpa using hj) h2 hw
def chkK (P:Program) (l:List Oper):List Nat→List Bool→Option (List Bool)
 | [],listed=>some listed
 |k::is,listed=>
  match cb l k with
  |some o=>if(Region.ready .any l.toArray listed.toArray).contains k&&Region.free .any l.toArray listed.toArray k&&fT P o.op then chkK P l is (listed.set k true) else none
  |none=>none
theorem OwK.runs {k:Md→List Oper→Fr→aA→Prop} (cg:Region.noSelect l.toArray=true): ∀ (is:List Nat) {listed listed':List Bool} {f:Fr} {L:aA},chkK P l is listed=some listed'→
  (∀md r f' L',k md r f' L'→r= []∧OwK P w0 l.toArray n listed' f' L' N)→vcL P w0 l.toArray false .seq (fS l is) f L k→OwK P w0 l.toArray (is.length+n) listed f L N
 | [],listed,listed',f,L,hc,hk,h=>by
  cases hc
  rw[List.length_nil,Nat.zero_add]
  exact(hk _ _ _ _ h).2
 |i::is,listed,listed',f,L,hc,hk,h=>by
  unfold chkK at hc
  rw[bz] at h
  cases ho:cb l i with
  |none=>rw[ho] at hc;cases hc
  |some o=>
   rw[ho] at hc h
   simp only at hc
   split at hc
   ·rename_i iW
    simp only[Bool.and_eq_true] at iW
    obtain⟨⟨cV,d9⟩,i9⟩:=iW
    rw[b_] at h
    have gl:l.toArray[i]? =some o:=by rw[lG] at ho;simpa using ho
    unfold vcL at h
    rw[List.length_cons,show is.length+1+n=(is.length+n)+1 by omega]
    cases hs:aw l.toArray f o with
    |true=>
     rw[hs] at h
     have dV:Region.wanted o (yielded l.toArray (act f).tmps)=false:=by rw[j2,hs];rfl
     intro w hw
     refine wpAny_take (v:=undef) gl cg d9 cV (fun c a w h=>jr h) (.inr ⟨dV,rfl⟩) ?_
     rw[eh,lc]
     exact OwK.runs cg is hc hk h w hw
    |false=>
     rw[hs] at h
     have dV:Region.wanted o (yielded l.toArray (act f).tmps)=true:=by rw[j2,hs];rfl
     simp only[ib,vcB] at h
     split at h
     ·have bv:gy .seq f o.op=true:=by
       cases o.op<;>rfl
      rw[bv] at h
      simp only at h
      cases hv:gW P w0 L f o.op with
      |none=>rw[hv] at h;exact absurd (hk _ _ _ _ h).1 (by simp)
      |some v=>
       rw[hv] at h
       intro w hw
       refine wpAny_take (v:=v) gl cg d9 cV (fun c a w h=>jr h) (.inl ⟨dV,fun w=> ?_⟩) ?_
       ·rw[nj];exact lY (Hp.refl w) (uX i9 hv w)
       rw[eh,lc]
       exact OwK.runs cg is hc hk h w hw
     ·exact absurd (hk _ _ _ _ h).1 (by simp)
     exact absurd (hk _ _ _ _ h).1 (by simp)
   cases hc
def OwK.run (is:List Nat) (listed':List Bool) (n:Nat) {m:Nat} (hm:m=is.length+n) (cg:Region.noSelect l.toArray=true) (hc:chkK P l is listed=some listed')
  (h: ∀k:Md→List Oper→Fr→aA→Prop,(∀md f L,OwK P w0 l.toArray n listed' f L N→k md [] f L)→nl (fS l is) fun l'=>vcL P w0 l.toArray false .seq l' f L k):OwK P w0 l.toArray m listed f L N:=by
 subst hm
 refine OwK.runs (k:=fun _ r f' L'=>r= []∧OwK P w0 l.toArray n listed' f' L' N) cg is hc (fun _ _ _ _ h=>h) ?_
 exact h _ fun _ _ _ h=>⟨rfl,h⟩
def Ow.soft {ops:Array Oper} {R is ts:List Nat} {k:Nat} {o:Oper} {rest:List Oper} (hp:fT P o.op=false) (k5:nB o.op=false) (fF:ts.contains k=false)
  (h:Ow P w0 ops .seq [o] f L (fun f' L'=>(∀b,b∈R→aS w0 L' b=aS w0 L b)∧Ow P w0 ops (.sof R is ts) rest f' L' N)):Ow P w0 ops (.sof R (k::is) ts) (o::rest) f L N:=by
 intro listed hF ht w hw
 obtain⟨k',is',SM,hk,cz,da,hc⟩:=hF.cons
 cases SM
 have cY:k∉ts:=by simpa using fF
 have hr:Region.ready .any ops listed= [k]:=by
  rcases hc with hc| ⟨_,_,_,hc| ⟨hc,_⟩⟩
  ·exact hc
  ·rw[hp] at hc;cases hc
  rw[k5] at hc;cases hc
 refine⟨fun _=>SR.of hw,(fun h=>by rw[hr] at h;cases h), ?_⟩
 intro i hi
 rw[hr,List.mem_singleton] at hi
 subst hi
 refine rN hk (X:=jJ P ops (dr w0 N) ts (SR w0 R L) rest.length (listed.setIfInBounds i true)) ?_ hw
 intro w' aB
 have h1:=h w' aB
 refine DN ?_ h1
 rintro f' L' ⟨hS,hO⟩ w'' jg
 have e:SR w0 R L=SR w0 R L':=by
  funext v
  unfold SR
  apply propext
  constructor
  ·intro hh b hb o ho;exact hh b hb o (by rw[←hS b hb];exact ho)
  intro hh b hb o ho;exact hh b hb o (by rw[hS b hb];exact ho)
 rw[e]
 exact hO _ cz (n5 cY ht) w'' jg
def Cw.regionS {id:Nat} (R is ts:List Nat) (hm:P.follows .mixedOrders=true) (hB:C9 P l is ts=true) (hl:is.map (fun i:Nat=>l[i]?)=(fS l is).map some)
  (h:nl (fS l is) fun l'=>Ow P w0 l.toArray (.sof R is ts) l' f L (K .normal)):Cw P w0 (.region id l.toArray true) f L K:=by
 revert hl h
 generalize fS l is=l'
 intro hl h w hw
 simp only[C9,Bool.and_eq_true,beq_iff_eq,List.all_eq_true,decide_eq_true_eq] at hB
 obtain⟨⟨⟨h1,h2⟩,h3⟩,h4⟩:=hB
 have aR:is.length=l'.length:=by have:=congrArg List.length hl;simpa using this
 refine wp_mono (wp_region_any hm ?_) fun _ _ _ h=>uY h
 have hF:Fits P l.toArray ts is l' (Array.replicate l.length false):=⟨aR,fun j=>by
  have:=congrArg (·[j]?) hl
  simp only[List.getElem?_map] at this
  cases hj:is[j]? with
  |none=>
   rw[hj] at this
   simp only[Option.map_none] at this
   cases eT:l'[j]? with
   |none=>rfl
   |some x=>rw[eT] at this;cases this
  |some i=>
   rw[hj] at this
   simp only[Option.map_some] at this
   cases eT:l'[j]? with
   |none=>rw[eT] at this;cases this
   |some x=>
    rw[eT] at this
    simp only[Option.map_some,Option.some.injEq] at this
    simp[this],h1,h4⟩
 have:=(h:Ow P w0 l.toArray (.sof R is ts) l' f L (K .normal)) (Array.replicate l.length false) hF (fun t ht=>by have:=h3 t ht;simp[this]) _ hw.drew
 rw[←aR,h2] at this
 have:=BE _ _ _ _ this
 simpa using this
def yb (P:Program) (l:List Oper) (is ts:List Nat) (listed:List Bool):Bool:=
 Region.noSelect l.toArray&&px P l.toArray ts is listed.toArray&&ts.any fun t=>listed.toArray.getD t true
def OwK.rest (is ts:List Nat) {m:Nat} (hm:m=is.length) (hB:yb P l is ts listed=true) (hl:is.map (fun i:Nat=>l[i]?)=(fS l is).map some)
  (h:nl (fS l is) fun l'=>Ow P w0 l.toArray (.any is ts) l' f L N):OwK P w0 l.toArray m listed f L N:=by
 subst hm
 revert hl h
 generalize fS l is=l'
 intro hl h w hw
 simp only[yb,Bool.and_eq_true] at hB
 obtain⟨⟨h1,h4⟩,h5⟩:=hB
 have aR:is.length=l'.length:=by have:=congrArg List.length hl;simpa using this
 have hF:Fits P l.toArray ts is l' listed.toArray:=⟨aR,fun j=>by
  have:=congrArg (·[j]?) hl
  simp only[List.getElem?_map] at this
  cases hj:is[j]? with
  |none=>
   rw[hj] at this
   simp only[Option.map_none] at this
   cases eT:l'[j]? with
   |none=>rfl
   |some x=>rw[eT] at this;cases this
  |some i=>
   rw[hj] at this
   simp only[Option.map_some] at this
   cases eT:l'[j]? with
   |none=>rw[eT] at this;cases this
   |some x=>
    rw[eT] at this
    simp only[Option.map_some,Option.some.injEq] at this
    simp[this],h1,h4⟩
 obtain⟨t,ht,jf⟩:=List.any_eq_true.1 h5
 rw[aR]
 exact(h:Ow P w0 l.toArray (.any is ts) l' f L N) listed.toArray hF ⟨t,ht,jf⟩ w hw
end
def StrS.lit {w:World} {b n c:Nat} {E:TypeId} {fz:Nat×Nat} {arr:Array Value} (l:List (List UInt8)) (hn:n=l.length) (ha:arr=(l.map vs).toArray) (has:w.heap[b]? =some (.cells arr E fz)):StrS w (vsl b 0 n c) l b 0 arr E fz:=
 StrS.sl hn has (by intro k hk;rw[ha,Nat.zero_add,List.getElem?_toArray,List.getElem?_map,List.getD_eq_getElem?_getD,List.getElem?_eq_getElem hk];rfl)
end Go.Sx
namespace Go.Sx
open Go
def zF (J:Nat→Act→World→Prop) (Q:Exit→Act→World→Prop):Exit→Act→World→Prop
 | .goto l,a,w=>J l a w
 |e,a,w=>Q e a w
def FU {P:Program} {a:Act} {w:World} {Q:Exit→Act→World→Prop} {c:Code} (J:Nat→Nat→Act→World→Prop)
  (first:c.wp P (zF (fun l a w=> ∃n,J n l a w) Q) a w)
  (pass: ∀n l a w,J n l a w→ ∃rest,findLabel c l=some rest∧rest.wp P (zF (fun l' a' w'=> ∃n',n'<n∧J n' l' a' w') Q) a w): (Code.scope c).wp P Q a w:=by
 intro b k cs
 have hg: ∀ {l rest},findLabel c l=some rest→gotoIn l (.inScope c::k)=some (.code rest:: .inScope c::k):=by intro l rest hf;simp[gotoIn,hf]
 have key: ∀n l a w,J n l a w→ ∃rest,findLabel c l=some rest∧ ∃e a' w',Q e a' w'∧Arrives P (lone (b.at a (.code rest:: .inScope c::k)) cs w) b k cs e a' w':=by
  intro n
  induction n using Nat.strongRecOn with
  |_ n ih=>
   intro l a w hJ
   obtain⟨rest,hf,hp⟩:=pass n l a w hJ
   refine⟨rest,hf, ?_⟩
   obtain⟨e,a₁,w₁,hq,et⟩:=hp b (.inScope c::k) cs
   cases e with
   |normal=>exact⟨.normal,a₁,w₁,hq,Steps.trans et (.one step_inScope)⟩
   |exit id=>exact⟨.exit id,a₁,w₁,hq,fun k' hk=>et k' (by simp[exitTo,hk])⟩
   |goto l'=>
    obtain⟨n',aG,ou⟩:=hq
    obtain⟨rest',jW,e₂,a₂,w₂,hq₂,harr₂⟩:=ih n' aG l' a₁ w₁ ou
    exact⟨e₂,a₂,w₂,hq₂, .of_steps (et _ (hg jW)) harr₂⟩
   |ret=>exact⟨_,a₁,w₁,hq,et⟩
   |panic ch=>exact⟨_,a₁,w₁,hq,et⟩
   |outgrown=>exact⟨_,a₁,w₁,hq,et⟩
 obtain⟨e,a₁,w₁,hq,et⟩:=first b (.inScope c::k) cs
 cases e with
 |normal=>exact⟨.normal,a₁,w₁,hq, .head step_scope (Steps.trans et (.one step_inScope))⟩
 |exit id=>exact⟨.exit id,a₁,w₁,hq,fun k' hk=> .head step_scope (et k' (by simp[exitTo,hk]))⟩
 |goto l'=>
  obtain⟨n,ou⟩:=hq
  obtain⟨rest',jW,e₂,a₂,w₂,hq₂,harr₂⟩:=key n l' a₁ w₁ ou
  exact⟨e₂,a₂,w₂,hq₂, .of_steps (.head step_scope (et _ (hg jW))) harr₂⟩
 |ret=>exact⟨_,a₁,w₁,hq, .of_steps (.one step_scope) et⟩
 |panic ch=>exact⟨_,a₁,w₁,hq, .of_steps (.one step_scope) et⟩
 |outgrown=>exact⟨_,a₁,w₁,hq, .of_steps (.one step_scope) et⟩
def lh (A:Nat→Fr→aA→Prop) (K:bY):bY
 | .normal=>K .normal
 | .exit i=>K (.exit i)
 | .goto i=>A i
 | .ret=>K .ret
 | .panic c=>K (.panic c)
 | .outgrown=>K .outgrown
def Jump {G:Type} (lab:G→Nat) (M:List Nat) (S:G→List (Nat×Value)) (H:G→aA) (J B:G→Prop) (f:Fr) (i:Nat) (f':Fr) (L':aA):Prop:=
 ∃g',lab g'=i∧B g'∧J g'∧L'=H g'∧f'=pin (jH (dZ f') M 0 f) (S g')
def Jump.mk {G:Type} {lab:G→Nat} {M:List Nat} {S:G→List (Nat×Value)} {H:G→aA} {J B:G→Prop} {f:Fr} {i:Nat} {f':Fr} {L':aA} (g':G) (hl:lab g'=i)
  (hB:B g') (hJ:J g') (hL:L'=H g') (hf:f'=pin (jH (dZ f') M 0 f) (S g')):Jump lab M S H J B f i f' L':=⟨g',hl,hB,hJ,hL,hf⟩
section
variable {P:Program} {w0:World} {f:Fr} {L:aA} {K:bY} {A:Nat→Fr→aA→Prop}
def Cw.scopeG {c:Code} {G:Type} (lab:G→Nat) (M:List Nat) (S:G→List (Nat×Value)) (H:G→aA) (J:G→Prop) (μ:G→Nat)
  (first:Cw P w0 c f L (lh (Jump lab M S H J (fun _=>True) f) K))
  (pass: ∀ (g:G) (j:Nat→Value),J g→ ∃rest,findLabel c (lab g)=some rest∧Cw P w0 rest (pin (jH j M 0 f) (S g)) (H g) (lh (Jump lab M S H J (fun g'=>μ g'<μ g) f) K)):Cw P w0 (.scope c) f L K:=by
 intro w hw
 refine FU (fun n l a w=> ∃g j,lab g=l∧μ g=n∧J g∧a=act (pin (jH j M 0 f) (S g))∧Hp w0 (H g) w) ?_ ?_
 ·refine wp_mono (first w hw) ?_
  rintro e a w' ⟨hd,L',hp,k⟩
  cases e with
  |goto i=>
   obtain⟨g',h1,-,h2,h3,h4⟩:=k
   subst h3
   refine⟨μ g',g',dZ a.tmps.toList,h1,rfl,h2, ?_,hp⟩
   rw[←h4]
   exact rL hd
  |_=>exact⟨hd,L',hp,k⟩
 rintro n l a w' ⟨g,j,h1,h2,h3,rfl,hp⟩
 obtain⟨rest,hf,hc⟩:=pass g j h3
 subst h1
 refine⟨rest,hf, ?_⟩
 refine wp_mono (hc w' hp) ?_
 rintro e a w' ⟨hd,L',hp,k⟩
 cases e with
 |goto i=>
  obtain⟨g',h1,h0,p_,h3,h4⟩:=k
  subst h3
  refine⟨μ g',by omega,g',dZ a.tmps.toList,h1,rfl,p_, ?_,hp⟩
  rw[←h4]
  exact rL hd
 |_=>exact⟨hd,L',hp,k⟩
def fi:Code→Nat→Bool
 | .seq a b,l=>fi a l||fi b l
 | .label l',l=>l'==l
 |_,_=>false
def gq (P:Program) (w0:World):Code→Nat→bY→Fr→aA→Prop
 | .seq a b,l,K=>if fi a l=true then gq P w0 a l (j6 (fun f L=>Cw P w0 b f L K) K) else gq P w0 b l K
 | .label _,_,K=>K .normal
 |_,_,_=>fun _ _=>False
theorem Es: ∀ (c:Code) (l:Nat),fi c l=false→findLabel c l=none
 | .seq a b,l,h=>by
  simp only[fi,Bool.or_eq_false_iff] at h
  simp only[findLabel,Es a l h.1,Es b l h.2]
 | .label l',l,h=>by
  simp only[fi] at h
  simp[findLabel,h]
 | .skip,_,_=>rfl| .region ..,_,_=>rfl| .cond ..,_,_=>rfl| .block ..,_,_=>rfl| .loop _,_,_=>rfl| .rangeFunc ..,_,_=>rfl
 | .exit _,_,_=>rfl| .scope _,_,_=>rfl| .goto _,_,_=>rfl| .ret,_,_=>rfl| .refuse _,_,_=>rfl
theorem EB: ∀ (c:Code) (l:Nat) (K:bY),fi c l=true→gq P w0 c l K f L→ ∃rest,findLabel c l=some rest∧Cw P w0 rest f L K
 | .seq a b,l,K,hh,h=>by
  unfold gq at h
  split at h
  ·rename_i ha
   obtain⟨rest,h1,h2⟩:=EB a l _ ha h
   exact⟨.seq rest b,by simp[findLabel,h1],Cw.seq h2⟩
  rename_i ha
  have u6:fi a l=false:=by simpa using ha
  have hb:fi b l=true:=by simpa [fi,u6] using hh
  obtain⟨rest,h1,h2⟩:=EB b l K hb h
  exact⟨rest,by simp[findLabel,Es a l u6,h1],h2⟩
 | .label l',l,K,hh,h=>by
  simp only[fi] at hh
  exact⟨.skip,by simp[findLabel,hh],Cw.skip h⟩
 | .skip,_,_,h,_=>by cases h
 | .region ..,_,_,h,_=>by cases h
 | .cond ..,_,_,h,_=>by cases h
 | .block ..,_,_,h,_=>by cases h
 | .loop _,_,_,h,_=>by cases h
 | .rangeFunc ..,_,_,h,_=>by cases h
 | .exit _,_,_,h,_=>by cases h
 | .scope _,_,_,h,_=>by cases h
 | .goto _,_,_,h,_=>by cases h
 | .ret,_,_,h,_=>by cases h
 | .refuse _,_,_,h,_=>by cases h
theorem E6: ∀ (c:Code) (l:Nat) (K K':bY),(∀e f L,K e f L→K' e f L)→ ∀f L,gq P w0 c l K f L→gq P w0 c l K' f L
 | .seq a b,l,K,K',hK,f,L,h=>by
  unfold gq at h ⊢
  split at h
  ·rename_i ha
   rw[if_pos ha]
   refine E6 a l _ _ ?_ f L h
   intro e f L hh
   cases e with
   |normal=>exact Cw.mono hh hK
   |_=>exact hK _ _ _ hh
  rename_i ha
  rw[if_neg ha]
  exact E6 b l K K' hK f L h
 | .label l',l,K,K',hK,f,L,h=>hK _ _ _ h
 | .skip,_,_,_,_,_,_,h=>h.elim
 | .region ..,_,_,_,_,_,_,h=>h.elim
 | .cond ..,_,_,_,_,_,_,h=>h.elim
 | .block ..,_,_,_,_,_,_,h=>h.elim
 | .loop _,_,_,_,_,_,_,h=>h.elim
 | .rangeFunc ..,_,_,_,_,_,_,h=>h.elim
 | .exit _,_,_,_,_,_,_,h=>h.elim
 | .scope _,_,_,_,_,_,_,h=>h.elim
 | .goto _,_,_,_,_,_,_,h=>h.elim
 | .ret,_,_,_,_,_,_,h=>h.elim
 | .refuse _,_,_,_,_,_,_,h=>h.elim
def Cw.scopeL {c:Code} {G:Type} (lab:G→Nat) (M:List Nat) (S:G→List (Nat×Value)) (H:G→aA) (J:G→Prop) (μ:G→Nat) (hl: ∀g,fi c (lab g)=true)
  (pass: ∀ (g:G) (j:Nat→Value),J g→gq P w0 c (lab g) (lh (Jump lab M S H J (fun g'=>μ g'<μ g) f) K) (pin (jH j M 0 f) (S g)) (H g))
  (first: (∀ (g:G) (f':Fr),J g→f'=pin (jH (dZ f') M 0 f) (S g)→gq P w0 c (lab g) (lh (Jump lab M S H J (fun _=>True) f) K) f' (H g))→
   Cw P w0 c f L (lh (Jump lab M S H J (fun _=>True) f) K)):Cw P w0 (.scope c) f L K:=by
 refine Cw.scopeG lab M S H J μ (first fun g f' hg hf=> ?_) fun g j hg=>EB c _ _ (hl g) (pass g j hg)
 have:=pass g (dZ f') hg
 rw[←hf] at this
 refine E6 c _ _ _ ?_ _ _ this
 intro e f L hh
 cases e with
 |goto i=>obtain⟨g',h1,-,h3⟩:=hh;exact⟨g',h1,trivial,h3⟩
 |_=>exact hh
def Cw.scopeS {c:Code} (h:Cw P w0 c f L (lh (fun _ _ _=>False) K)):Cw P w0 (.scope c) f L K:=by
 intro w hw
 refine wp_scope_straight (wp_mono (h w hw) ?_)
 rintro e a w' ⟨hd,L',hp,k⟩
 cases e with
 |goto i=>exact k.elim
 |_=>exact⟨hd,L',hp,k⟩
end
end Go.Sx
section
namespace Go.Sx
open Go
def cT {L M:aA} {b:Nat} {o:Obj} (h:look L b=some o):look (L++M) b=some o:=by
 induction L with
 |nil=>cases h
 |cons p r ih=>
  obtain⟨c,x⟩:=p
  simp only[List.cons_append,look] at h ⊢
  split
  ·rename_i e;rw[if_pos e] at h;exact h
  rename_i e;rw[if_neg e] at h;exact ih h
def gO {L M:aA} {b:Nat} (h:b∉keys L):look (L++M) b=look M b:=by
 induction L with
 |nil=>rfl
 |cons p r ih=>
  obtain⟨c,x⟩:=p
  simp only[keys,List.map_cons,List.mem_cons,not_or] at h
  simp only[List.cons_append,look]
  rw[if_neg (fun e=>h.1 e.symm)]
  exact ih h.2
def iI {L:aA} {b:Nat} {x o:Obj} (h:look L b=some o):look (setB L b x) b=some x:=by
 induction L with
 |nil=>cases h
 |cons p r ih=>
  obtain⟨c,y⟩:=p
  simp only[look] at h
  simp only[setB]
  split
  ·simp[look, *]
  rename_i e
  rw[if_neg e] at h
  simp only[look]
  rw[if_neg e]
  exact ih h
def du {L:aA} {b c:Nat} {x:Obj} (h:b≠c):look (setB L b x) c=look L c:=by
 induction L with
 |nil=>rfl
 |cons p r ih=>
  obtain⟨d,y⟩:=p
  simp only[setB]
  split
  ·rename_i e
   subst e
   simp[look,h]
  simp only[look]
  split
  ·rfl
  exact ih
def bX {L:aA} {b:Nat} {o:Obj} (h:look L b=some o):b∈keys L:=List.mem_map.2 ⟨_,cQ h,rfl⟩
def Bo {L:aA} {b:Nat} (h:b∈keys L): ∃o,look L b=some o:=by
 cases hl:look L b with
 |some o=>exact⟨o,rfl⟩
 |none=>exact absurd h (CF hl)
def ad {w0:World} {L:aA} {b:Nat} {o:Obj} (h:look L b=some o):aS w0 L b=some o:=by
 unfold aS;rw[h]
def aZ (L M:aA):keys (L++M)=keys L++keys M:=List.map_append
def ae {L:aA} {n b:Nat} (h:dq L n) (hb:b∈keys L):b<n:=by
 induction L with
 |nil=>cases hb
 |cons p r ih=>
  obtain⟨c,y⟩:=p
  simp only[keys,List.map_cons,List.mem_cons] at hb
  rcases hb with rfl|hb
  ·exact h.1
  exact ih h.2 hb
def vC (vs:List Value): ∀ (A B:List Value),vs.length≤B.length→dY (A++B).toArray A.length vs=(A++vs++B.drop vs.length).toArray:=by
 induction vs with
 |nil=>intro A B _;simp[dY]
 |cons v r ih=>
  intro A B h
  cases B with
  |nil=>simp at h
  |cons x B=>
   have e: (A++x::B).toArray.setIfInBounds A.length v=((A++ [v])++B).toArray:=by
    rw[List.setIfInBounds_toArray]
    simp
   have h':=ih (A++ [v]) B (by simpa using h)
   simp only[List.length_append,List.length_cons,List.length_nil,Nat.zero_add] at h'
   rw[dY,e,h']
   simp
theorem vz (N:Nat): ∀r c,c≤2*N+768→Builtin.growBy N r c≤2*N+768
 |0,c,h=>h
 |r+1,c,h=>by
  unfold Builtin.growBy
  split
  ·exact h
  exact vz N r _ oM
def WN {N c:Nat} (h:c<N):Builtin.nextslicecap N c≤2*N+768:=by
 unfold Builtin.nextslicecap
 split
 ·omega
 split
 ·omega
 exact vz N 4 c oM
structure AppX (P:Program) (w:World) (size:Nat) (x:Value) (k:Nat) (new:List Value):Prop where
 len: (Builtin.lenOf x).run P w= .ok k w
 cells: (Builtin.firstCells size k x).run P w= .ok new.toArray w
 one:new.all Value.oneCell'=true
 size:new.length=k*size
def AppX.text (P:Program) (w:World) (l:List UInt8):AppX P w 1 (vs l) l.length (l.map v8):=by
 refine⟨?_, ?_, ?_,by simp⟩
 ·simp only[vs,Builtin.lenOf,qw];rfl
 ·simp only[vs,Builtin.firstCells]
  show Result.ok _ w=_
  congr 1
  have: ((ByteArray.mk l.toArray).extract 0 l.length).data=l.toArray:=by
   rw[ByteArray.data_extract]
   simp
  rw[this]
  simp[v8]
 rw[List.all_map,List.all_eq_true];intro x _;rfl
def pg (P:Program) (e:TypeId):Bool:=match P.info? e with
 |some i=>i.bytes !=0&&decide (i.bytes≤1024)
 |none=>false
def Tk {P:Program} {e:TypeId} {j:Nat} (h:pg P e=true) (hj:j≤2^38): ∃i,P.info? e=some i∧i.bytes≠0∧j*i.bytes≤2^48:=by
 unfold pg at h
 cases hi:P.info? e with
 |none=>rw[hi] at h;cases h
 |some i=>
  rw[hi] at h
  simp only[Bool.and_eq_true,bne_iff_ne,ne_eq,decide_eq_true_eq] at h
  refine⟨i,rfl,h.1, ?_⟩
  calc j*i.bytes≤2^38*1024:=Nat.mul_le_mul hj h.2
   _=2^48:=by decide
def lC (L:aA) (k:aA→Prop):nh L k=k L:=(rfl)
inductive Buf (L:aA) (E:TypeId) (size:Nat):Value→Nat→List Value→Prop
 |nl:Buf L E size (.slice none 0 0) 0 []
 |at_ {b n c:Nat} {cs rest:List Value} (hl:look L b=some (.cells (cs++rest).toArray E (0,0))) (h1:cs.length=n*size) (h2:rest.length=(c - n)*size) (h3:n≤c) (h4:0<c):
  Buf L E size (vsl b 0 n c) n cs
def slB:Value→Option Nat
 | .slice (some a) _ _=>some a.block
 |_=>none
def Buf.keep {L L':aA} {E:TypeId} {size n:Nat} {v:Value} {cs:List Value} (h:Buf L E size v n cs) (hk: ∀b o,slB v=some b→look L b=some o→look L' b=some o):Buf L' E size v n cs:=by
 cases h with
 |nl=>exact .nl
 |at_ hl h1 h2 h3 h4=>exact .at_ (hk _ _ rfl hl) h1 h2 h3 h4
def Buf.setO {L:aA} {E:TypeId} {size n b:Nat} {v:Value} {cs:List Value} {x:Obj} (h:Buf L E size v n cs) (hb:slB v≠some b):Buf (setB L b x) E size v n cs:=
 h.keep fun c o hc ho=>by rw[du (fun e:b=c=>hb (by rw[e];exact hc))];exact ho
def Buf.app {L M:aA} {E:TypeId} {size n:Nat} {v:Value} {cs:List Value} (h:Buf L E size v n cs):Buf (L++M) E size v n cs:=h.keep fun _ _ _ ho=>cT ho
def Buf.cell {L:aA} {E:TypeId} {size n:Nat} {v:Value} {cs:List Value} (h:Buf L E size v n cs):Value.oneCell' v=true∧v.cells= #[v]:=by
 cases h<;>exact⟨rfl,rfl⟩
def Buf.len {L:aA} {E:TypeId} {size n:Nat} {v:Value} {cs:List Value} (h:Buf L E size v n cs) (x:Bool×Nat):eF (.sl x) v=some (vi n):=by
 cases h<;>rfl
def Buf.inv {L:aA} {E:TypeId} {size n:Nat} {v:Value} {cs:List Value} (h:Buf L E size v n cs): (v= .slice none 0 0∧n=0∧cs= [])∨
  ∃b c rest,v=vsl b 0 n c∧look L b=some (.cells (cs++rest).toArray E (0,0))∧cs.length=n*size∧n≤c∧0<c∧rest.length=(c - n)*size:=by
 cases h with
 |nl=>exact .inl ⟨rfl,rfl,rfl⟩
 |at_ hl h1 h2 h3 h4=>exact .inr ⟨_,_,_,rfl,hl,h1,h3,h4,h2⟩
def iE {L:aA} {b:Nat} {o:Obj} (h:dq L b):look (L++ [(b,o)]) b=some o:=by
 rw[gO (fun hm=>Nat.lt_irrefl _ (ae h hm))];simp[look]
structure Grew (w0:World) (v:Value) (L L':aA):Prop where
 keys: ∀c,c∈keys L→c∈keys L'
 new: ∀c,c∈Sx.keys L'→c∈Sx.keys L∨(dq L c∧w0.heap.size≤c)
 look: ∀c o,slB v≠some c→Sx.look L c=some o→Sx.look L' c=some o
def Grew.refl (w0:World) (v:Value) (L:aA):Grew w0 v L L:=⟨fun _ h=>h,fun _ h=> .inl h,fun _ _ _ h=>h⟩
section
variable {P:Program} {w0:World} {L:aA}
def UQ {w:World} {ts tx ty e:TypeId} {m:Bool×Nat} {z s x:Value} {n k:Nat} {cs new:List Value} (hw:Hp w0 L w)
  (hu:P.underlying ts=some (.slice e)) (hm:aM P e=some m) (hi:pg P e=true) (hz:bL P e=some z) (l5:z.cells.size=m.2) {d:TypeDesc} (i':P.underlying tx=some d) (ft: ∀k,d≠ .int k)
  (hB:Buf L e m.2 s n cs) (u5: ∀w,Hp w0 L w→AppX P w m.2 x k new) (cn:2* (n+k)+768≤2^38):
  ∃v' w' L',(Builtin.append_ #[ts,tx] ty #[s,x]).run P w= .ok v' w'∧Hp w0 L' w'∧Buf L' e m.2 v' (n+k) (cs++new)∧Grew w0 s L L'∧(slB v'=slB s∨ ∃c,slB v'=some c∧dq L c):=by
 obtain⟨i,hi,ze,cn⟩:=Tk hi cn
 have DB: ∀w,(typeInfo e).run P w= .ok i w:=by
  intro w
  simp only[typeInfo,program,Sem.run_bind]
  show Result.andThen (Result.ok P w) _=_
  simp only[Result.andThen_ok,hi]
  rfl
 have mV: (match d with| .int _=>true|_=>false)=false:=by
  cases d<;>first|rfl|exact absurd rfl (ft _)
 have e1: ∀ {α β:Type} (a:α) (f:α→World→Result β),(Sem.run P (pure a) w).andThen f=f a w:=fun _ _=>rfl
 have hX:=u5 w hw
 have kD:=hX.len
 have DJ:=hX.cells
 have qk:=pq (P:=P) hz
 have room: ∀ (b:Nat) (w:World),(askRoom b).run P w= .ok () w:=by
  intro b w
  unfold askRoom
  split<;>rfl
 have zc: ∀j,(Builtin.zeroCells z.cells j).toList.length=j*m.2:=by
  intro j;simp[Builtin.zeroCells,l5]
 have iV: ∀c,c<n+k→ ¬ (Builtin.nextslicecap (n+k) c*i.bytes>2^48):=by
  intro c hc
  have:=WN hc
  have h2:=Nat.mul_le_mul_right i.bytes this
  omega
 cases hB with
 |nl=>
  by_cases hk:k=0
  ·subst hk
   have d_:new= []:=List.eq_nil_of_length_eq_zero (by have:=hX.size;omega)
   subst d_
   refine⟨.slice none 0 0,w,L, ?_,hw, .nl,Grew.refl _ _ _, .inl rfl⟩
   simp only[Builtin.append_,List.getElem?_toArray,List.getElem?_cons_zero,List.getElem?_cons_succ,Sem.run_bind,run_underlying hu w,Result.andThen_ok,fh hm w,run_underlying i' w,mV,e1,Bool.false_eq_true, ↓reduceIte,kD,Bool.not_false,Nat.add_zero,ag,DJ]
   rfl
  have t8: ¬0+k≤0:=by omega
  have mJ:=iV 0 oM
  simp only[Builtin.append_,List.getElem?_toArray,List.getElem?_cons_zero,List.getElem?_cons_succ,Sem.run_bind,run_underlying hu w,Result.andThen_ok,fh hm w,run_underlying i' w,mV,e1,Bool.false_eq_true, ↓reduceIte,kD,Bool.not_false,t8,DB,ze,or_false,and_false,mJ]
  have zu: (choose (Question.appendCap (0+k) 0 e)).run P w= .ok ((0+k)+w.tape w.drawn (.appendCap (0+k) 0 e)% (2^63 - (0+k))) w.drew:=rfl
  rw[zu]
  generalize iW: (0+k)+w.tape w.drawn (.appendCap (0+k) 0 e)% (2^63 - (0+k))=c
  have aY:=hw.drew
  have zb:=u5 _ aY
  have fw: (Builtin.firstCells m.2 0 (Value.slice none 0 0)).run P w.drew= .ok #[] w.drew:=rfl
  simp only[Result.andThen_ok,room,fw,zb.cells,qk]
  refine⟨_,_,L++ [(w.drew.heap.size, .cells ([]++new++ (Builtin.zeroCells z.cells (c - (0+k))).toList).toArray e (0,0))],rfl, ?_, .at_ (b:=w.drew.heap.size) (rest:=(Builtin.zeroCells z.cells (c - (0+k))).toList) ?_ ?_ ?_ oM oM, ?_, .inr ⟨_,rfl,gK fun b hb=>aY.lt hb⟩⟩
  ·have ea: ([]++new++ (Builtin.zeroCells z.cells (c - (0+k))).toList).toArray= #[]++new.toArray++Builtin.zeroCells z.cells (c - (0+k)):=by apply Array.ext';simp
   rw[ea]
   exact aY.alloc _
  ·rw[gO (fun hm=>Nat.lt_irrefl _ (aY.lt hm))]
   simp[look]
  ·rw[List.nil_append,hX.size,Nat.zero_add]
  ·exact zc _
  refine⟨fun c hc=>by rw[aZ];exact bQ _ hc,fun c hc=> ?_,fun c o aQ ho=>cT ho⟩
  rw[aZ] at hc
  rcases List.mem_append.1 hc with hc|hc
  ·exact .inl hc
  right
  simp only[keys,List.map_cons,List.map_nil,List.mem_singleton] at hc
  subst hc
  exact⟨gK fun b hb=>aY.lt hb,aY.size⟩
 | @at_ b n c cs rest hl h1 h2 h3 h4=>
  have Vi:=hw.has _ _ (cQ hl)
  by_cases AC:n+k≤c
  ·have aG:=(Array.getElem?_eq_some_iff.1 Vi).1
   have e8:=hX.size
   have bH:=De (P:=P) (b:=b) (off:=n*m.2) (E:=e) (fz:=(0,0)) new 0 (cs++rest).toArray w Vi (by
    simp only[List.size_toArray,List.length_append,h1,h2,e8,Nat.add_zero]
    rw[←Nat.add_mul,←Nat.add_mul]
    exact Nat.mul_le_mul_right _ oM) (.inl (ag 0)) hX.one
   simp only[Builtin.append_,List.getElem?_toArray,List.getElem?_cons_zero,List.getElem?_cons_succ,Sem.run_bind,run_underlying hu w,Result.andThen_ok,fh hm w,run_underlying i' w,mV,e1,Bool.false_eq_true, ↓reduceIte,kD,Bool.not_false,AC,DJ,l6,Nat.zero_add,bH,vsl]
   rw[Nat.add_zero,←h1,vC new cs rest (by rw[h2,e8];exact Nat.mul_le_mul_right _ oM)]
   refine⟨vsl b 0 (n+k) c,_,setB L b (.cells (cs++new++rest.drop new.length).toArray e (0,0)),rfl,hw.set (bX hl) rfl rfl rfl rfl, .at_ (iI hl) ?_ ?_ AC h4, ?_, .inl rfl⟩
   ·rw[List.length_append,h1,e8,Nat.add_mul]
   ·rw[List.length_drop,h2,e8,←Nat.sub_mul]
    congr 1
    omega
   refine⟨fun c hc=>by rw[ni];exact hc,fun c hc=>by rw[ni] at hc;exact .inl hc,fun c o aQ ho=> ?_⟩
   rw[du (fun e=>aQ (by rw[←e];rfl))]
   exact ho
  have mJ:=iV c oM
  simp only[Builtin.append_,List.getElem?_toArray,List.getElem?_cons_zero,List.getElem?_cons_succ,Sem.run_bind,run_underlying hu w,Result.andThen_ok,fh hm w,run_underlying i' w,mV,e1,Bool.false_eq_true, ↓reduceIte,kD,Bool.not_false,AC,DB,ze,or_false,and_false,mJ,vsl]
  have zu: (choose (Question.appendCap (n+k) c e)).run P w= .ok ((n+k)+w.tape w.drawn (.appendCap (n+k) c e)% (2^63 - (n+k))) w.drew:=rfl
  rw[zu]
  generalize iW: (n+k)+w.tape w.drawn (.appendCap (n+k) c e)% (2^63 - (n+k))=c2
  have aY:=hw.drew
  have zb:=u5 _ aY
  have fw: (Builtin.firstCells m.2 n (Value.slice (some ⟨b,0,none⟩) n c)).run P w.drew= .ok cs.toArray w.drew:=by
   simp only[Builtin.firstCells]
   rw[DM (aY.has _ _ (cQ hl)) 0 (n*m.2) (by simp only[List.size_toArray,List.length_append,h1];omega)]
   congr 1
   simp only[Nat.zero_add,List.extract_toArray,←h1]
   simp
  simp only[Result.andThen_ok,room,fw,zb.cells,qk]
  refine⟨_,_,L++ [(w.drew.heap.size, .cells (cs++new++ (Builtin.zeroCells z.cells (c2 - (n+k))).toList).toArray e (0,0))],rfl, ?_, .at_ (b:=w.drew.heap.size) (rest:=(Builtin.zeroCells z.cells (c2 - (n+k))).toList) ?_ ?_ ?_ oM oM, ?_, .inr ⟨_,rfl,gK fun b hb=>aY.lt hb⟩⟩
  ·have ea: (cs++new++ (Builtin.zeroCells z.cells (c2 - (n+k))).toList).toArray=cs.toArray++new.toArray++Builtin.zeroCells z.cells (c2 - (n+k)):=by apply Array.ext';simp
   rw[ea]
   exact aY.alloc _
  ·rw[gO (fun hm=>Nat.lt_irrefl _ (aY.lt hm))]
   simp[look]
  ·rw[List.length_append,h1,hX.size,Nat.add_mul]
  ·exact zc _
  refine⟨fun c hc=>by rw[aZ];exact bQ _ hc,fun c hc=> ?_,fun c o aQ ho=>cT ho⟩
  rw[aZ] at hc
  rcases List.mem_append.1 hc with hc|hc
  ·exact .inl hc
  right
  simp only[keys,List.map_cons,List.map_nil,List.mem_singleton] at hc
  subst hc
  exact⟨gK fun b hb=>aY.lt hb,aY.size⟩
def AppX.block {b off k cap size:Nat} {arr:Array Value} {E:TypeId} {fz:Nat×Nat} {new:List Value} (hr:aS w0 L b=some (.cells arr E fz)) (hn:off+k*size≤arr.size) (hc: (arr.extract off (off+k*size)).toList=new)
  (h1:new.all Value.oneCell'=true) {w:World} (hw:Hp w0 L w):AppX P w size (vsl b off k cap) k new:=by
 refine⟨rfl, ?_,h1, ?_⟩
 ·simp only[vsl,Builtin.firstCells]
  rw[DM (hw.read hr) off (k*size) hn,←hc]
 rw[←hc];simp;omega
def AppX.nil (P:Program) (w:World) (size:Nat):AppX P w size (.slice none 0 0) 0 []:=⟨rfl,rfl,rfl,by simp⟩
theorem V4 {b:Nat} {E:TypeId} {fz:Nat×Nat} {arr:Array Value} {w:World} (hb:w.heap[b]? =some (.cells arr E fz)): ∀ (l:List UInt8) (off:Nat) (acc:ByteArray),(∀j,j<l.length→arr[off+j]? =some (v8 (l.getD j 0)))→
  (loadBytes ⟨b,off,none⟩ acc l.length).run P w= .ok (acc++ ⟨l.toArray⟩) w
 | [],off,acc,_=>by
  show Result.ok acc w=_
  congr 1
  apply ByteArray.ext
  simp
 |x::l,off,acc,h=>by
  have h0:=h 0 (by simp)
  simp only[Nat.add_zero,List.getD_cons_zero] at h0
  have hc:w.cell? ⟨b,off,none⟩=some (v8 x):=by rw[cell_of_row w b _ arr E fz hb];exact h0
  have jY: (load ⟨b,off,none⟩).run P w= .ok (v8 x) w:=by
   simp only[load,Sem.run,hc]
  rw[List.length_cons,loadBytes,Sem.run_bind,jY,Result.andThen_ok]
  simp only[v8,l6]
  have e: ((x.toNat:Int).toNat.toUInt8)=x:=by
   rw[Int.toNat_natCast]
   exact UInt8.ofNat_toNat
  rw[e,V4 hb l (off+1) _ (fun j hj=>by
   have:=h (j+1) (by simpa using hj)
   rw[List.getD_cons_succ] at this
   rw[←this];congr 1;omega)]
  congr 1
  apply ByteArray.ext
  simp
def JV {p:Program} {e:TypeId} {c n:Nat} (hd:1<p.depth) (hs:p.cellsOf e=1) (hn:n≤c):liesAt p p.depth e (c / p.cellsOf e) 0 e n=true:=by
 obtain⟨d,iu⟩: ∃d,p.depth=d+2:=⟨p.depth - 2,by omega⟩
 have cA:sameLayout p p.depth e e=true:=by
  rw[iu];unfold sameLayout;simp
 rw[iu] at cA ⊢
 unfold liesAt
 rw[iu]
 unfold rowAt
 simp[hs,hn,cA]
def WV {w:World} {pt it ty e:TypeId} {b:Nat} {l:List UInt8} {rest:List Value} (hw:Hp w0 L w) (hl:look L b=some (.cells (l.map v8++rest).toArray e (0,0))) (h0:0<l.length) (AP: (l.length:Int)≤9223372036854775807)
  (da:P.underlying pt=some (.pointer e)) (hs:P.cellsOf e=1) (hd:1<P.depth):
  ∃w',(Builtin.unsafeString_ #[pt,it] ty #[vp b 0,vi l.length]).run P w= .ok (vs l) w'∧Hp w0 (setB L b (.cells (l.map v8++rest).toArray e (0,l.length))) w':=by
 have hb:=hw.has _ _ (cQ hl)
 have e1: ∀ {α β:Type} (a:α) (f:α→World→Result β),(Sem.run P (pure a) w).andThen f=f a w:=fun _ _=>rfl
 have SV:=V4 (P:=P) hb l 0 .empty (by
  intro j hj
  rw[Nat.zero_add,List.getElem?_toArray,List.getElem?_append_left (by simpa using hj),List.getElem?_map,List.getD_eq_getElem?_getD,List.getElem?_eq_getElem hj]
  rfl)
 have Ap: (variablesAt ⟨b,0,none⟩ e l.length).run P w= .ok true w:=by
  have lW:w.shape? b=some (e,(l.map v8++rest).toArray.size):=by
   simp only[World.shape?,hb]
  have hp:liesAt P P.depth e ((l.map v8++rest).toArray.size / P.cellsOf e) 0 e l.length=true:=JV hd hs (by simp)
  simp only[variablesAt,program,shape,Sem.run_bind]
  show Result.andThen (Result.ok P w) _=_
  simp only[Result.andThen_ok]
  show Result.andThen (Result.ok (w.shape? b) w) _=_
  rw[lW]
  simp only[Result.andThen_ok]
  rw[hp]
  rfl
 have fE: (elemOf pt).run P w= .ok e w:=by
  simp only[elemOf,Sem.run_bind,run_underlying da w,Result.andThen_ok]
  rfl
 refine⟨w.freeze ⟨b,0,none⟩ l.length, ?_, ?_⟩
 ·have AS: ¬ ((l.length:Int)<0):=by omega
  have ce: ¬ ((l.length:Int)>IntKind.i64.max):=by
   show¬ ((l.length:Int)>9223372036854775807);omega
  have Zr: ¬ ((l.length:Int)=0):=by omega
  have Z9: (asInt (vi l.length)).run P w= .ok (l.length:Int) w:=rfl
  rw[show vp b 0= .pointer (some ⟨b,0,none⟩) from rfl]
  show Sem.run P (asInt (vi l.length)>>=_) w=_
  simp only[Sem.run_bind,Z9,Result.andThen_ok,List.getElem?_toArray,List.getElem?_cons_zero,AS,ce,Zr, ↓reduceIte,fE,Int.toNat_natCast,Ap,SV]
  show Result.ok (Value.string (ByteArray.empty++ ⟨l.toArray⟩)) _=_
  congr 2
 have aQ: ¬l.length=0:=by omega
 have aG:=(Array.getElem?_eq_some_iff.1 hb).1
 refine hw.set (bX hl) ?_ ?_ ?_ ?_<;>simp only[World.freeze,aQ, ↓reduceIte]
 apply Array.ext_getElem?
 intro i
 rw[Array.getElem?_modify]
 by_cases hi:b=i
 ·subst hi
  rw[if_pos rfl,hb]
  simp[aG]
 rw[if_neg hi,Array.getElem?_setIfInBounds_ne hi]
end
section
variable {P:Program} {w0:World} {f:Fr} {L:aA} {N:Fr→aA→Prop} {ops:Array Oper} {rest:List Oper} {md:Md}
 {d:Option Tmp} {ty:TypeId} {ps:String} {af:Array Edge} {g:Option (Nat×Bool)}
theorem Ow.append {ts tx e:TypeId} {m:Bool×Nat} {z:Value} {s x:Operand} {n k:Nat} {cs new:List Value} {dx:TypeDesc} {md':Md} (sv:Value) (pQ:ev f s=sv) (he:md.turn=some md')
  (hs:aw ops f ⟨d, .call ⟨.builtin .append, #[s,x], #[ts,tx]⟩,ty,ps,af,g⟩=false)
  (hu:P.underlying ts=some (.slice e)) (hm:aM P e=some m) (hi:pg P e=true) (hz:bL P e=some z) (l5:z.cells.size=m.2) (i':P.underlying tx=some dx) (ft: ∀k,dx≠ .int k)
  (hB:Buf L e m.2 sv n cs) (hX: ∀w,Hp w0 L w→AppX P w m.2 (ev f x) k new) (cn:2* (n+k)+768≤2^38)
  (hn: ∀v' L',Buf L' e m.2 v' (n+k) (cs++new)→Grew w0 sv L L'→(slB v'=slB sv∨ ∃c,slB v'=some c∧dq L c)→Ow P w0 ops md' rest (aW f d v') L' N):
  Ow P w0 ops md (⟨d, .call ⟨.builtin .append, #[s,x], #[ts,tx]⟩,ty,ps,af,g⟩::rest) f L N:=by
 subst pQ
 refine Ow.step he rfl hs fun w hw=> ?_
 obtain⟨v',w',L',hr,hp,hb,hg,cA⟩:=UQ (ty:=ty) hw hu hm hi hz l5 i' ft hB hX cn
 refine .inl ⟨v',w',L', ?_,hp,hn v' L' hb hg cA⟩
 simp only[execOp,resolve,Sem.run_bind,Sem.run_pure,Result.andThen_ok,invoke,builtin,List.map_toArray,List.map_cons,List.map_nil]
 rw[hr]
 rfl
theorem Ow.unsafeString {pt it e:TypeId} {x y:Operand} {b:Nat} {l:List UInt8} {rs:List Value} {md':Md} (he:md.turn=some md')
  (hs:aw ops f ⟨d, .call ⟨.builtin .unsafeString, #[x,y], #[pt,it]⟩,ty,ps,af,g⟩=false)
  (hx:ev f x=vp b 0) (hy:ev f y=vi l.length) (hl:look L b=some (.cells (l.map v8++rs).toArray e (0,0))) (h0:0<l.length) (AP: (l.length:Int)≤9223372036854775807)
  (da:P.underlying pt=some (.pointer e)) (hc:P.cellsOf e=1) (hd:1<P.depth)
  (hn:Ow P w0 ops md' rest (aW f d (vs l)) (setB L b (.cells (l.map v8++rs).toArray e (0,l.length))) N):
  Ow P w0 ops md (⟨d, .call ⟨.builtin .unsafeString, #[x,y], #[pt,it]⟩,ty,ps,af,g⟩::rest) f L N:=by
 refine Ow.step he rfl hs fun w hw=> ?_
 obtain⟨w',hr,hp⟩:=WV (it:=it) (ty:=ty) hw hl h0 AP da hc hd
 refine .inl ⟨vs l,w',_, ?_,hp,hn⟩
 simp only[execOp,resolve,Sem.run_bind,Sem.run_pure,Result.andThen_ok,invoke,builtin,List.map_toArray,List.map_cons,List.map_nil,hx,hy]
 rw[hr]
 rfl
def Ow.unsafeStringNil {pt it:TypeId} {x y:Operand} {md':Md} (he:md.turn=some md')
  (hs:aw ops f ⟨d, .call ⟨.builtin .unsafeString, #[x,y], #[pt,it]⟩,ty,ps,af,g⟩=false)
  {p:Option Addr} (hx:ev f x= .pointer p) (hy:ev f y=vi 0)
  (hn:Ow P w0 ops md' rest (aW f d (vs [])) L N):
  Ow P w0 ops md (⟨d, .call ⟨.builtin .unsafeString, #[x,y], #[pt,it]⟩,ty,ps,af,g⟩::rest) f L N:=by
 refine Ow.step he rfl hs fun w hw=> ?_
 refine .inl ⟨vs [],w,L, ?_,hw,hn⟩
 simp only[execOp,resolve,Sem.run_bind,Sem.run_pure,Result.andThen_ok,invoke,builtin,List.map_toArray,List.map_cons,List.map_nil,hx,hy]
 cases p<;>rfl
def Ow.sliceData {t:TypeId} {x:Operand} {v:Value} {md':Md} (he:md.turn=some md')
  (hs:aw ops f ⟨d, .call ⟨.builtin .unsafeSliceData, #[x], #[t]⟩,ty,ps,af,g⟩=false)
  (hx: (∃n c,ev f x= .slice none n c∧v= .pointer none)∨ ∃b n c,ev f x=vsl b 0 n c∧c≠0∧v=vp b 0)
  (hn:Ow P w0 ops md' rest (aW f d v) L N):
  Ow P w0 ops md (⟨d, .call ⟨.builtin .unsafeSliceData, #[x], #[t]⟩,ty,ps,af,g⟩::rest) f L N:=by
 refine Ow.step he rfl hs fun w hw=> ?_
 refine .inl ⟨v,w,L, ?_,hw,hn⟩
 simp only[execOp,resolve,Sem.run_bind,Sem.run_pure,Result.andThen_ok,invoke,builtin,List.map_toArray,List.map_cons,List.map_nil]
 rcases hx with⟨n,c,hx,rfl⟩ | ⟨b,n,c,hx,hc,rfl⟩
 ·rw[hx];rfl
 rw[hx]
 have e:Builtin.unsafeSliceData_ #[t] ty #[vsl b 0 n c]=(if c≠0 then pure (.pointer (some ⟨b,0,none⟩)) else do
   if(←viewAt b).isSome then pure (.pointer (some ⟨b,0,none⟩)) else pure (.pointer (some ⟨←newObj (.view ⟨b,0,none⟩ (←elemOf ty)),0,none⟩))):=rfl
 rw[e,if_pos hc]
 rfl
end
end Go.Sx
end
namespace Go.Sx
open Go
section
variable {P:Program} {w0:World} {f:Fr} {L:aA} {N:Fr→aA→Prop} {ops:Array Oper} {rest:List Oper} {md:Md}
 {d:Option Tmp} {ty:TypeId} {ps:String} {af:Array Edge} {g:Option (Nat×Bool)}
def FC {w:World} {s dt t:TypeId} {b off:Nat} {m:Bool×Nat} {cs:Array Value} {E:TypeId} {fz:Nat×Nat} (hb:w.heap[b]? =some (.cells cs E fz)) (ho:off<cs.size) (hm:aM P t=some m) (nO:m.2≠0)
  (hs:P.underlying s=some (.pointer t)) (hd:P.underlying dt=some .unsafePointer): (convert s dt (vp b off)).run P w= .ok (vp b off) w:=by
 have lW:w.shape? b=some (E,cs.size):=by simp only[World.shape?,hb]
 have e1: ∀ {α β:Type} (a:α) (f:α→World→Result β),(Sem.run P (pure a) w).andThen f=f a w:=fun _ _=>rfl
 have e2: (shape b).run P w= .ok (some (E,cs.size)) w:=by show Result.ok (w.shape? b) w=_;rw[lW]
 have hv: (Conv.seenAt ⟨b,off,none⟩).run P w= .ok ⟨b,off,none⟩ w:=by
  simp only[Conv.seenAt,viewAt,Sem.run_bind,e2,Result.andThen_ok,Option.isSome_some, ↓reduceIte]
  rfl
 have Ci: (cellsIn b).run P w= .ok (some cs.size) w:=by
  simp only[cellsIn,Sem.run_bind,e2,Result.andThen_ok]
  rfl
 have pG: (decide (m.2=0) ||decide (off≥cs.size)&& (none:Option Nat).isNone)=false:=by
  have: ¬ (off≥cs.size):=by omega
  simp[nO,this]
 have hu: (Conv.unsafePointer s dt (vp b off)).run P w= .ok (vp b off) w:=by
  simp only[Conv.unsafePointer,vp,Sem.run_bind,run_underlying hs w,run_underlying hd w,Result.andThen_ok,hv,Ci,fh hm w]
  rw[if_neg (by rw[pG];simp)]
  rfl
 unfold convert
 simp only[vp,Sem.run_bind,run_underlying hs w,run_underlying hd w,Result.andThen_ok]
 exact hu
def FR {w:World} {s dt t:TypeId} {b off:Nat} {m:Bool×Nat} {cs:Array Value} {E:TypeId} {fz:Nat×Nat} (hb:w.heap[b]? =some (.cells cs E fz)) (hm:aM P t=some m) (SU:liesAt P P.depth E (cs.size / P.cellsOf E) off t 1=true)
  (hs:P.underlying s=some .unsafePointer) (hd:P.underlying dt=some (.pointer t)): (convert s dt (vp b off)).run P w= .ok (vp b off) w:=by
 have lW:w.shape? b=some (E,cs.size):=by simp only[World.shape?,hb]
 have e2: (shape b).run P w= .ok (some (E,cs.size)) w:=by show Result.ok (w.shape? b) w=_;rw[lW]
 have hv: (Conv.seenAt ⟨b,off,none⟩).run P w= .ok ⟨b,off,none⟩ w:=by
  simp only[Conv.seenAt,viewAt,Sem.run_bind,e2,Result.andThen_ok,Option.isSome_some, ↓reduceIte]
  rfl
 have Ap: (variablesAt ⟨b,off,none⟩ t 1).run P w= .ok true w:=by
  simp only[variablesAt,program,Sem.run_bind]
  show Result.andThen (Result.ok P w) _=_
  simp only[Result.andThen_ok,e2]
  rw[SU]
  rfl
 have hu: (Conv.unsafePointer s dt (vp b off)).run P w= .ok (vp b off) w:=by
  simp only[Conv.unsafePointer,vp,Sem.run_bind,run_underlying hs w,run_underlying hd w,Result.andThen_ok,hv,fh hm w,Ap]
  by_cases h0:m.2=0
  ·simp[h0]
  simp[h0]
 unfold convert
 simp only[vp,Sem.run_bind,run_underlying hs w,run_underlying hd w,Result.andThen_ok]
 exact hu
def Ow.toUnsafe {s dt t:TypeId} {x:Operand} {b off:Nat} {m:Bool×Nat} {cs:Array Value} {E:TypeId} {fz:Nat×Nat} {md':Md} (he:md.turn=some md') (qZ:aw ops f ⟨d, .convert s dt x,ty,ps,af,g⟩=false)
  (Rp:cvT P s dt= .no) (hx:ev f x=vp b off) (hb:aS w0 L b=some (.cells cs E fz)) (ho:off<cs.size) (hm:aM P t=some m) (nO:m.2≠0) (hs:P.underlying s=some (.pointer t)) (hd:P.underlying dt=some .unsafePointer)
  (hn:Ow P w0 ops md' rest (aW f d (vp b off)) L N):Ow P w0 ops md (⟨d, .convert s dt x,ty,ps,af,g⟩::rest) f L N:=by
 refine Ow.step he (by simp[fT,Rp]) qZ fun w hw=> .inl ⟨vp b off,w,L, ?_,hw,hn⟩
 simp only[execOp,Sem.run_bind,hx,FC (hw.read hb) ho hm nO hs hd]
 rfl
def Ow.ofUnsafe {s dt t:TypeId} {x:Operand} {b off:Nat} {m:Bool×Nat} {cs:Array Value} {E:TypeId} {fz:Nat×Nat} {md':Md} (he:md.turn=some md') (qZ:aw ops f ⟨d, .convert s dt x,ty,ps,af,g⟩=false)
  (Rp:cvT P s dt= .no) (hx:ev f x=vp b off) (hb:aS w0 L b=some (.cells cs E fz)) (hm:aM P t=some m) (SU:liesAt P P.depth E (cs.size / P.cellsOf E) off t 1=true) (hs:P.underlying s=some .unsafePointer) (hd:P.underlying dt=some (.pointer t))
  (hn:Ow P w0 ops md' rest (aW f d (vp b off)) L N):Ow P w0 ops md (⟨d, .convert s dt x,ty,ps,af,g⟩::rest) f L N:=by
 refine Ow.step he (by simp[fT,Rp]) qZ fun w hw=> .inl ⟨vp b off,w,L, ?_,hw,hn⟩
 simp only[execOp,Sem.run_bind,hx,FR (hw.read hb) hm SU hs hd]
 rfl
def Ow.neqSame {t t' e:TypeId} {x y:Operand} {b off:Nat} {m:Bool×Nat} (hs:aw ops f ⟨d, .binOp .neq t x y t',ty,ps,af,g⟩=false) (hu:P.underlying t=some (.pointer e)) (hm:aM P e=some m) (hx:ev f x=vp b off) (hy:ev f y=vp b off)
  (hn:Ow P w0 ops md.next rest (aW f d (.bool false)) L N):Ow P w0 ops md (⟨d, .binOp .neq t x y t',ty,ps,af,g⟩::rest) f L N:=by
 refine Ow.pureV rfl hs (fun w=> ?_) hn
 have he: (Op.equal t (vp b off) (vp b off)).run P w= .ok true w:=by
  show(Op.equalIn 10000 t (vp b off) (vp b off)).run P w=_
  unfold Op.equalIn
  simp only[vp,Sem.run_bind,run_underlying hu w,Result.andThen_ok,fh hm w]
  by_cases h0:m.2=0
  ·simp[h0]
  simp only[h0,ne_eq,not_false_eq_true, ↓reduceIte,sameAddr,beq_self_eq_true]
  rfl
 simp only[execOp,Sem.run_bind,hx,hy]
 have hg: (eqGuard .neq t x y (vp b off) (vp b off)).run P w= .ok () w:=rfl
 have hb:binOp .neq t (vp b off) (vp b off)=(do pure (.bool (!(←Op.equal t (vp b off) (vp b off)))):Sem Value):=rfl
 rw[hg,Result.andThen_ok,hb,Sem.run_bind,he]
 rfl
def BX {w0:World} {L:aA} {b c:Nat} {x:Obj} (h:b≠c):aS w0 (setB L b x) c=aS w0 L c:=by
 unfold aS;rw[du h]
def Ow.callExt {l:List Operand} {ts:Array TypeId} {k:FuncId} {v:Value} {md':Md} (he:md.turn=some md')
  (hs:aw ops f ⟨d, .call ⟨.value (.func k),l.toArray,ts⟩,ty,ps,af,g⟩=false)
  (hv: ∀w,(callFunc k (l.map (ev f)).toArray).run P w= .ok (.value v) w)
  (hn:Ow P w0 ops md' rest (aW f d v) L N):
  Ow P w0 ops md (⟨d, .call ⟨.value (.func k),l.toArray,ts⟩,ty,ps,af,g⟩::rest) f L N:=by
 refine Ow.step he rfl hs fun w hw=> .inl ⟨v,w,L, ?_,hw,hn⟩
 have:=hv w
 simp only[execOp,resolve,Deferred.ofValue,ev,Sem.run_bind,Sem.run_pure,Result.andThen_ok,invoke]
 simpa using this
def Ow.minI {x y:Operand} {ts:Array TypeId} {a b:Int} (hs:aw ops f ⟨d, .call ⟨.builtin .min, #[x,y],ts⟩,ty,ps,af,g⟩=false) (hx:ev f x=vi a) (hy:ev f y=vi b)
  (hn:Ow P w0 ops md.next rest (aW f d (vi (if b<a then b else a))) L N):Ow P w0 ops md (⟨d, .call ⟨.builtin .min, #[x,y],ts⟩,ty,ps,af,g⟩::rest) f L N:=by
 refine Ow.calm rfl rfl hs (fun w hw=> .inl ⟨vi (if b<a then b else a),w,L, ?_,hw,rfl,rfl⟩) hn
 simp only[execOp,resolve,Sem.run_bind,Sem.run_pure,Result.andThen_ok,invoke,builtin,List.map_toArray,List.map_cons,List.map_nil,hx,hy]
 rfl
def Ow.maxI {x y:Operand} {ts:Array TypeId} {a b:Int} (hs:aw ops f ⟨d, .call ⟨.builtin .max, #[x,y],ts⟩,ty,ps,af,g⟩=false) (hx:ev f x=vi a) (hy:ev f y=vi b)
  (hn:Ow P w0 ops md.next rest (aW f d (vi (if b>a then b else a))) L N):Ow P w0 ops md (⟨d, .call ⟨.builtin .max, #[x,y],ts⟩,ty,ps,af,g⟩::rest) f L N:=by
 refine Ow.calm rfl rfl hs (fun w hw=> .inl ⟨vi (if b>a then b else a),w,L, ?_,hw,rfl,rfl⟩) hn
 simp only[execOp,resolve,Sem.run_bind,Sem.run_pure,Result.andThen_ok,invoke,builtin,List.map_toArray,List.map_cons,List.map_nil,hx,hy]
 rfl
end
structure Ext (w:World) (X D:aA):Prop where
 new: ∀c,c∈keys D→c∈keys X∨w.heap.size≤c
 all: ∀c,c∈keys X→c∈keys D
def Ext.refl (w:World) (X:aA):Ext w X X:=⟨fun _ h=> .inl h,fun _ h=>h⟩
theorem Ext.setB {w:World} {X D:aA} {b:Nat} {o:Obj} (h:Ext w X D):Ext w X (setB D b o):=⟨fun c hc=>h.new c (by rwa [ni] at hc),fun c hc=>by rw[ni];exact h.all c hc⟩
def Ext.app {w:World} {X D:aA} {b:Nat} {o:Obj} (h:Ext w X D) (hb:w.heap.size≤b):Ext w X (D++ [(b,o)]):=
 ⟨fun c hc=>by
  rw[aZ] at hc
  rcases List.mem_append.1 hc with hc|hc
  ·exact h.new c hc
  simp only[keys,List.map_cons,List.map_nil,List.mem_singleton] at hc
  exact .inr (hc▸hb),fun c hc=>by rw[aZ];exact bQ _ (h.all c hc)⟩
def Ext.grew {w:World} {X D D':aA} {v:Value} (h:Ext w X D) (hg:Grew w v D D'):Ext w X D':=
 ⟨fun c hc=>by
  rcases hg.new c hc with hc| ⟨-,hc⟩
  ·exact h.new c hc
  exact .inr hc,fun c hc=>hg.keys c (h.all c hc)⟩
theorem Ext.keys {w:World} {X D D':aA} (h:Ext w X D) (hk:Sx.keys D'=Sx.keys D):Ext w X D':=⟨fun c hc=>h.new c (hk▸hc),fun c hc=>hk▸h.all c hc⟩
def lA {w0:World} {L:aA} {b:Nat} (h:b∉Sx.keys L):aS w0 L b=w0.heap[b]? :=by
 unfold aS
 cases hl:look L b with
 |none=>rfl
 |some o=>exact absurd (bX hl) h
def Ext.not {w:World} {X D:aA} (h:Ext w X D) {b:Nat} (hb:b<w.heap.size) (hn:b∉Sx.keys X):b∉Sx.keys D:=fun hm=>by
 rcases h.new b hm with h|h
 ·exact hn h
 omega
def Ext.old {w:World} {X D:aA} (h:Ext w X D) {b:Nat} {o:Obj} (hb:w.heap[b]? =some o) (hn:b∉Sx.keys X):aS w D b=some o:=by
 rw[lA (h.not (Array.getElem?_eq_some_iff.1 hb).1 hn)];exact hb
def XS (w:World) (X:aA) (S:Value→aA→Prop) (v:Value) (D:aA):Prop:=Ext w X D∧S v D
structure Came (w0:World) (L X D:aA):Prop where
 new: ∀c,c∈Sx.keys D→c∈Sx.keys X∨(dq L c∧w0.heap.size≤c)
 all: ∀c,c∈Sx.keys X→c∈Sx.keys D
def Ext.came {w:World} {X D D' Y L:aA} (h:Ext w X (D++Y)) (hc:Came w L D D'):Ext w X (D'++Y):=by
 refine⟨fun c hm=> ?_,fun c hm=> ?_⟩
 ·rw[aZ] at hm
  rcases List.mem_append.1 hm with hm|hm
  ·rcases hc.new c hm with hm| ⟨-,hm⟩
   ·exact h.new c (by rw[aZ];exact bQ _ hm)
   exact .inr hm
  exact h.new c (by rw[aZ];exact dS _ hm)
 have:=h.all c hm
 rw[aZ] at this ⊢
 rcases List.mem_append.1 this with hm|hm
 ·exact bQ _ (hc.all c hm)
 exact dS _ hm
def Ext.came0 {w:World} {X D D' L:aA} (h:Ext w X D) (hc:Came w L D D'):Ext w X D':=by
 have:=Ext.came (Y:= []) (by simpa using h) hc
 simpa using this
def Hp.ownX {w0 w:World} {X:aA} (h:Hp w0 [] w) (hX: ∀p,p∈X→w0.heap[p.1]? =some p.2) (hn: (keys X).Nodup):Hp w0 X w:=by
 refine⟨fun b o hm=> ?_,hn,fun b hb _=>h.old b hb (by simp[keys]),h.size,h.tape,h.os,h.output⟩
 have:=hX (b,o) hm
 simp only at this
 rw[h.old b (Array.getElem?_eq_some_iff.1 this).1 (by simp[keys])]
 exact this
def Rets.enterX {P:Program} {k:FuncId} {fn:Func} {c:Code} {rs:List ResultVar} {args:Array Value} {w:World} {S:Value→aA→Prop} {n:Nat} {X:aA}
  (hf:P.funcs[k]? =some fn) (hb:fn.body=some c) (hr:fn.results=rs.toArray) (hn:fn.ntmps=n) (hX: ∀p,p∈X→w.heap[p.1]? =some p.2) (ay: (keys X).Nodup)
  (h:Cw P w c (args.toList++List.replicate (n - args.size) undef) X (retK P w rs (XS w X S))):Rets P k args w (XS w X S):=
 Rets.enter hf hb hr hn fun w' aB=>h w' (aB.ownX hX ay)
section
variable {P:Program} {w0:World} {f:Fr} {L:aA} {N:Fr→aA→Prop} {ops:Array Oper} {rest:List Oper} {md:Md}
 {d:Option Tmp} {ty:TypeId} {ps:String} {af:Array Edge} {g:Option (Nat×Bool)}
def Ow.callX {l:List Operand} {ts:Array TypeId} {k:FuncId} {X Y:aA} {S:Value→aA→Prop} {md':Md} (hL:L=X++Y) (he:md.turn=some md')
  (hs:aw ops f ⟨d, .call ⟨.value (.func k),l.toArray,ts⟩,ty,ps,af,g⟩=false)
  (hk: ∀a w,(callFunc k a).run P w= .ok (.enter k a) w)
  (hc: ∀w,Hp w0 L w→(∀p,p∈X→w.heap[p.1]? =some p.2)→(keys X).Nodup→Rets P k (l.map (ev f)).toArray w (XS w X S))
  (hn: ∀v D,Came w0 L X D→S v D→Ow P w0 ops md' rest (aW f d v) (D++Y) N):
  Ow P w0 ops md (⟨d, .call ⟨.value (.func k),l.toArray,ts⟩,ty,ps,af,g⟩::rest) f L N:=by
 subst hL
 have ay: ∀w,Hp w0 (X++Y) w→(keys X).Nodup∧ ∀c,c∈keys Y→c∉keys X:=by
  intro w hw
  have:=hw.nodup
  rw[aZ,List.nodup_append] at this
  exact⟨this.1,fun c hc hx=>this.2.2 c hx c hc rfl⟩
 refine Ow.callF (S:=fun B v D=>((∀c,c∈keys D→c∈keys X∨B≤c)∧(∀c,c∈keys X→c∈keys D)∧S v D)∧ ∃w,Hp w0 (X++Y) w∧w.heap.size=B) he hs hk (fun w hw=> ?_) ?_
 ·refine Calls.mono (hc w hw (fun p hp=>hw.has _ _ (bQ _ hp)) (ay w hw).1) ?_
  rintro e w' ⟨v,D,he,hp,hS⟩
  exact⟨v,D,he,hp,⟨hS.1.new,hS.1.all,hS.2⟩,w,hw,rfl⟩
 rintro B v D i7 hB ⟨⟨h1,h2,h3⟩,w1,aY,WF⟩
 refine⟨D++Y, ?_,hn v D ⟨fun c hc=>(h1 c hc).imp id fun h=>⟨gK fun b hb=>by have:=aY.lt hb;omega,by have:=aY.size;omega⟩,h2⟩ h3⟩
 intro w w' As h k
 have ht:=h.trans k
 have hY: ∀c,c∈keys Y→c∉keys D:=by
  intro c hc hd
  rcases h1 c hd with hx|hx
  ·exact(ay w h).2 c hc hx
  have:=h.lt (b:=c) (by rw[aZ];exact dS _ hc)
  omega
 have e1:X.filter (fun p=> !(keys D).contains p.1)= []:=by
  rw[List.filter_eq_nil_iff]
  intro p hp
  have:=h2 p.1 (List.mem_map.2 ⟨p,hp,rfl⟩)
  simpa using this
 have e2:Y.filter (fun p=> !(keys D).contains p.1)=Y:=Aw hY
 rw[List.filter_append,e1,e2,List.nil_append] at ht
 refine ht.same (fun p=>by simp[or_comm]) ?_
 have:=ht.nodup
 rw[aZ] at this ⊢
 exact(List.perm_append_comm.nodup_iff).1 this
end
structure OneS {α:Type} (enc:α→Value) (z:α) (w:World) (v:Value) (l:List α) (b off:Nat) (arr:Array Value) (E:TypeId) (fz:Nat×Nat):Prop where
 len: ∀m,eF (.sl m) v=some (vi l.length)
 idx: ∀m (k:Nat),k<l.length→lD (.sl m) v (some (k:Int))=some (vp b (off+k*m.2))
 has:0<l.length→w.heap[b]? =some (.cells arr E fz)
 get: ∀k,k<l.length→arr[off+k]? =some (enc (l.getD k z))
def OneS.sl {α:Type} {enc:α→Value} {z:α} {w:World} {l:List α} {b off n c:Nat} {arr:Array Value} {E:TypeId} {fz:Nat×Nat} (hn:n=l.length)
  (has:w.heap[b]? =some (.cells arr E fz)) (get: ∀k,k<l.length→arr[off+k]? =some (enc (l.getD k z))):OneS enc z w (vsl b off n c) l b off arr E fz:=by
 subst hn
 exact⟨fun _=>rfl,fun m k h=>by rw[BY _ _ _ _ _ _ oM];simp,fun _=>has,get⟩
def OneS.lit {α:Type} {enc:α→Value} {z:α} {w:World} {b n c:Nat} {E:TypeId} {fz:Nat×Nat} {arr:Array Value} (l:List α) (hn:n=l.length) (ha:arr=(l.map enc).toArray) (has:w.heap[b]? =some (.cells arr E fz)):OneS enc z w (vsl b 0 n c) l b 0 arr E fz:=
 OneS.sl hn has (by intro k hk;rw[ha,Nat.zero_add,List.getElem?_toArray,List.getElem?_map,List.getD_eq_getElem?_getD,List.getElem?_eq_getElem hk];rfl)
def un {L:aA} {b:Nat} {o x:Obj} (h:dq L b):setB (L++ [(b,o)]) b x=L++ [(b,x)]:=by
 induction L with
 |nil=>simp[setB]
 |cons p r ih=>
  obtain⟨c,y⟩:=p
  simp only[List.cons_append,setB]
  rw[if_neg (fun e=>Nat.lt_irrefl _ (e▸h.1)),ih h.2]
structure RowS {α:Type} (m:Nat) (enc:α→List Value) (z:α) (w:World) (v:Value) (l:List α) (b off:Nat) (arr:Array Value) (E:TypeId) (fz:Nat×Nat):Prop where
 len: ∀x,eF (.sl x) v=some (vi l.length)
 idx: ∀a (k:Nat),k<l.length→lD (.sl (a,m)) v (some (k:Int))=some (vp b (off+k*m))
 has:0<l.length→w.heap[b]? =some (.cells arr E fz)
 get: ∀k,k<l.length→ ∀j,j<m→arr[off+k*m+j]? =(enc (l.getD k z))[j]?
def RowS.sl {α:Type} {m:Nat} {enc:α→List Value} {z:α} {w:World} {l:List α} {b off n c:Nat} {arr:Array Value} {E:TypeId} {fz:Nat×Nat} (hn:n=l.length)
  (has:w.heap[b]? =some (.cells arr E fz)) (get: ∀k,k<l.length→ ∀j,j<m→arr[off+k*m+j]? =(enc (l.getD k z))[j]?):RowS m enc z w (vsl b off n c) l b off arr E fz:=by
 subst hn
 exact⟨fun _=>rfl,fun a k h=>by rw[BY _ _ _ _ _ _ oM];simp,fun _=>has,get⟩
def RowS.nil {α:Type} {m:Nat} {enc:α→List Value} {z:α} (w:World) (n c:Nat) (hn:n=0):RowS m enc z w (.slice none n c) [] 0 0 #[] 0 (0,0):=by
 subst hn
 exact⟨fun _=>rfl,fun _ _ h=>absurd h (Nat.not_lt_zero _),fun h=>absurd h (Nat.not_lt_zero _),fun _ h=>absurd h (Nat.not_lt_zero _)⟩
def RowS.load {α:Type} {m:Nat} {enc:α→List Value} {z:α} {w:World} {v:Value} {l:List α} {b off:Nat} {arr:Array Value} {E:TypeId} {fz:Nat×Nat} (h:RowS m enc z w v l b off arr E fz) (hm: ∀x,(enc x).length=m) (h0:0<m) {k:Nat} (hk:k<l.length):
  ak (some (true,m)) (some (.cells arr E fz)) (off+k*m)=some (.agg (enc (l.getD k z)).toArray):=by
 have hg:=h.get k hk
 have e8:off+k*m+m≤arr.size:=by
  have h1:=hg (m - 1) oM
  rw[List.getElem?_eq_getElem (by rw[hm];omega)] at h1
  have:=(Array.getElem?_eq_some_iff.1 h1).1
  omega
 simp only[ak,e8, ↓reduceIte]
 congr 2
 apply Array.ext_getElem?
 intro j
 rw[Array.getElem?_extract]
 by_cases hj:j<m
 ·rw[if_pos oM,hg j hj,List.getElem?_toArray]
 rw[if_neg oM,List.getElem?_toArray,List.getElem?_eq_none (by rw[hm];omega)]
def RowS.cell {α:Type} {m:Nat} {enc:α→List Value} {z:α} {w:World} {v:Value} {l:List α} {b off:Nat} {arr:Array Value} {E:TypeId} {fz:Nat×Nat} (h:RowS m enc z w v l b off arr E fz) {k j n:Nat} (hk:k<l.length) (hj:j<m):
  ak (some (false,n)) (some (.cells arr E fz)) (off+k*m+j)=(enc (l.getD k z))[j]? :=h.get k hk j hj
end Go.Sx
namespace Go.Sx
open Go
section
variable {P:Program} {w0:World} {f:Fr} {L:aA} {N:Fr→aA→Prop} {ops:Array Oper} {rest:List Oper} {md:Md}
 {d:Option Tmp} {ty:TypeId} {ps:String} {af:Array Edge} {g:Option (Nat×Bool)}
def Y5 (l:List UInt8) (k size:Nat) (w:World): (Builtin.firstCells size k (vs l)).run P w= .ok ((l.take k).map v8).toArray w:=by
 simp only[vs,Builtin.firstCells]
 show Result.ok _ w=_
 congr 1
 have: ((ByteArray.mk l.toArray).extract 0 k).data=(l.take k).toArray:=by
  rw[ByteArray.data_extract]
  simp
 rw[this]
 simp
 rfl
def bq (R:List Nat) (x:UInt8):rdIn R (v8 x)=true:=(rfl)
def iH (R:List Nat) (x:UInt16):rdIn R (v16 x)=true:=(rfl)
def iG (R:List Nat) (x:UInt32):rdIn R (v32 x)=true:=(rfl)
def iF (R:List Nat) (x:UInt64):rdIn R (v64 x)=true:=(rfl)
def bl (R:List Nat) (x:Int):rdIn R (vi x)=true:=(rfl)
def Ow.copyText {td tx e:TypeId} {m:Bool×Nat} {x y:Operand} {b off n c:Nat} {l:List UInt8} {cs:Array Value} {E:TypeId} {md':Md} (he:md.turn=some md')
  (hs:aw ops f ⟨d, .call ⟨.builtin .copy, #[x,y], #[td,tx]⟩,ty,ps,af,g⟩=false) (hu:P.underlying td=some (.slice e)) (hm:aM P e=some m)
  (hx:ev f x=vsl b off n c) (hy:ev f y=vs l) (hl:look L b=some (.cells cs E (0,0))) (hn:off+n≤cs.size)
  (hO:Ow P w0 ops md' rest (aW f d (vi (min l.length n:Nat))) (setB L b (.cells (dY cs off ((l.take (min l.length n)).map v8)) E (0,0))) N):
  Ow P w0 ops md (⟨d, .call ⟨.builtin .copy, #[x,y], #[td,tx]⟩,ty,ps,af,g⟩::rest) f L N:=by
 refine Ow.step he rfl hs fun w hw=> ?_
 have hb:=hw.has _ _ (cQ hl)
 have aG:=(Array.getElem?_eq_some_iff.1 hb).1
 have aR: (Builtin.lenOf (vs l)).run P w= .ok l.length w:=by simp only[vs,Builtin.lenOf,qw];rfl
 have ZO:=Y5 (P:=P) l (min l.length n) m.2 w
 have bH:=De (P:=P) (b:=b) (off:=off) (E:=E) (fz:=(0,0)) ((l.take (min l.length n)).map v8) 0 cs w hb (by
  rw[List.length_map,List.length_take];have:=Nat.min_le_right l.length n;omega) (.inl (ag 0)) (by rw[List.all_map,List.all_eq_true];intro x _;rfl)
 refine .inl ⟨vi (min l.length n:Nat),{w with heap:=w.heap.setIfInBounds b (.cells (dY cs off ((l.take (min l.length n)).map v8)) E (0,0))},_, ?_,hw.set (bX hl) rfl rfl rfl rfl,hO⟩
 simp only[execOp,resolve,Sem.run_bind,Sem.run_pure,Result.andThen_ok,invoke,builtin,List.map_toArray,List.map_cons,List.map_nil,hx,hy]
 have: (Builtin.copy_ #[td,tx] ty #[vsl b off n c,vs l]).run P w= .ok (vi (min l.length n:Nat)) {w with heap:=w.heap.setIfInBounds b (.cells (dY cs off ((l.take (min l.length n)).map v8)) E (0,0))}:=by
  simp only[Builtin.copy_,vsl,List.getElem?_toArray,List.getElem?_cons_zero,List.getElem?_cons_succ,Sem.run_bind,run_underlying hu w,Result.andThen_ok,aR,fh hm w]
  rw[show l.length.min n=min l.length n from rfl,ZO]
  simp only[Result.andThen_ok]
  rw[bH]
  rfl
 rw[this]
 rfl
end
end Go.Sx
namespace Go.Sx
open Go
section
variable {P:Program} {w0:World} {f:Fr} {L:aA} {N:Fr→aA→Prop} {ops:Array Oper} {rest:List Oper} {md:Md}
 {d:Option Tmp} {ty:TypeId} {ps:String} {af:Array Edge} {g:Option (Nat×Bool)}
def fY (n:Int):Value:= .int .i32 n
def EM (op:BinOp) (t:TypeId) (a b:Int):ac P op t (fY a) (fY b)=aC op (fY a) (fY b):=(rfl)
def Tf (a b:Int):aC .lss (fY a) (fY b)=some (.bool (decide (a<b))):=by simp[aC,fY,ax,eQ]
def Ex (a b:Int):aC .gtr (fY a) (fY b)=some (.bool (decide (b<a))):=by simp[aC,fY,ax,eQ]
def Td (a b:Int):aC .eql (fY a) (fY b)=some (.bool (a==b)):=by simp[aC,fY,ax,eQ]
def rf (n:Int):Value.int .i32 n=fY n:=(rfl)
def Ow.callFn1 {x y:Operand} {ts:Array TypeId} {k:FuncId} {v a:Value} (hs:aw ops f ⟨d, .call ⟨.value x, #[y],ts⟩,ty,ps,af,g⟩=false) (hx:ev f x= .func (.func k) #[] #[]) (hy:ev f y=a)
  (hk: ∀a w,(callFunc k a).run P w= .ok (.enter k a) w) (hc: ∀w,Hp w0 L w→Rets P k #[a] w (fun v' D=>v'=v∧D= [])) (hn:Ow P w0 ops md.next rest (aW f d v) L N):
  Ow P w0 ops md (⟨d, .call ⟨.value x, #[y],ts⟩,ty,ps,af,g⟩::rest) f L N:=
 Ow.callV hs hx hk (fun w hw=>by simpa [hy] using hc w hw) hn
def Ow.rangeText {t:TypeId} {x:Operand} {l:List UInt8} {md':Md} (he:md.turn=some md') (hs:aw ops f ⟨d, .range t x,ty,ps,af,g⟩=false) (hu:P.underlying t=some .string) (hx:ev f x=vs l)
  (hn: ∀b,dq L b→w0.heap.size≤b→Ow P w0 ops md' rest (aW f d (vp b 0)) (L++ [(b, .stringIter ⟨l.toArray⟩ 0)]) N):
  Ow P w0 ops md (⟨d, .range t x,ty,ps,af,g⟩::rest) f L N:=by
 refine Ow.step he rfl hs fun w hw=> .inl ⟨vp w.heap.size 0,w.alloc (.stringIter ⟨l.toArray⟩ 0),_, ?_,hw.alloc _,hn _ (gK fun b hb=>hw.lt hb) hw.size⟩
 simp only[execOp,Instr.range,Sem.run_bind,run_underlying hu w,Result.andThen_ok,hx,vs]
 rfl
def Ow.nextText {x:Operand} {b:Nat} {l:List UInt8} {pos:Nat} {md':Md} (he:md.turn=some md') (hs:aw ops f ⟨d, .next x true,ty,ps,af,g⟩=false) (hx:ev f x=vp b 0) (hl:look L b=some (.stringIter ⟨l.toArray⟩ pos)) (hp:pos<l.length)
  (hn:Ow P w0 ops md' rest (aW f d (.tuple #[.bool true,vi pos,fY (Utf8.decode ⟨l.toArray⟩ pos).1])) (setB L b (.stringIter ⟨l.toArray⟩ (pos+ (Utf8.decode ⟨l.toArray⟩ pos).2))) N):
  Ow P w0 ops md (⟨d, .next x true,ty,ps,af,g⟩::rest) f L N:=by
 refine Ow.step he rfl hs fun w hw=> ?_
 have hb:=hw.has _ _ (cQ hl)
 refine .inl ⟨_,{w with heap:=w.heap.setIfInBounds b (.stringIter ⟨l.toArray⟩ (pos+ (Utf8.decode ⟨l.toArray⟩ pos).2))},_, ?_,hw.set (bX hl) rfl rfl rfl rfl,hn⟩
 have hg: (getObj b).run P w= .ok (.stringIter ⟨l.toArray⟩ pos) w:=by
  simp only[getObj,Sem.run,hb]
 have bH: ∀o,(setObj b o).run P w= .ok () {w with heap:=w.heap.setIfInBounds b o}:=by
  intro o;simp only[setObj,Sem.run,hb]
 have e8:pos< (ByteArray.mk l.toArray).size:=by rw[qw];exact hp
 have: (Instr.next (vp b 0) true ty).run P w= .ok (.tuple #[.bool true,vi pos,fY (Utf8.decode ⟨l.toArray⟩ pos).1]) {w with heap:=w.heap.setIfInBounds b (.stringIter ⟨l.toArray⟩ (pos+ (Utf8.decode ⟨l.toArray⟩ pos).2))}:=by
  simp only[Instr.next,vp,Sem.run_bind,hg,Result.andThen_ok,e8, ↓reduceIte,bH]
  rfl
 simp only[execOp,Sem.run_bind,hx]
 rw[this]
 rfl
def Ow.nextOver {x:Operand} {b:Nat} {l:List UInt8} {pos:Nat} {md':Md} (he:md.turn=some md') (hs:aw ops f ⟨d, .next x true,ty,ps,af,g⟩=false) (hx:ev f x=vp b 0) (hl:look L b=some (.stringIter ⟨l.toArray⟩ pos)) (hp: ¬pos<l.length)
  (hn:Ow P w0 ops md' rest (aW f d (.tuple #[.bool false])) L N):
  Ow P w0 ops md (⟨d, .next x true,ty,ps,af,g⟩::rest) f L N:=by
 refine Ow.step he rfl hs fun w hw=> ?_
 have hb:=hw.has _ _ (cQ hl)
 refine .inl ⟨.tuple #[.bool false],w,_, ?_,hw,hn⟩
 have hg: (getObj b).run P w= .ok (.stringIter ⟨l.toArray⟩ pos) w:=by
  simp only[getObj,Sem.run,hb]
 have e8: ¬pos< (ByteArray.mk l.toArray).size:=by rw[qw];exact hp
 have: (Instr.next (vp b 0) true ty).run P w= .ok (.tuple #[.bool false]) w:=by
  simp only[Instr.next,vp,Sem.run_bind,hg,Result.andThen_ok,e8, ↓reduceIte]
  rfl
 simp only[execOp,Sem.run_bind,hx]
 rw[this]
 rfl
end
def Tn (l:List UInt8) (i:Nat) (h:i<l.length):0< (Utf8.decode ⟨l.toArray⟩ i).2∧
  ((l.getD i 0).toNat<128→Utf8.decode ⟨l.toArray⟩ i=((l.getD i 0).toNat,1))∧(128≤ (l.getD i 0).toNat→128≤ (Utf8.decode ⟨l.toArray⟩ i).1):=by
 have hb: ((ByteArray.mk l.toArray).get! (i+0))=l.getD i 0:=by
  simp[ByteArray.get!,h]
 unfold Utf8.decode
 simp only[hb]
 generalize (l.getD i 0).toNat=b0
 refine⟨?_,fun h1=> ?_,fun h1=> ?_⟩
 ·(repeat' split)<;>simp
 ·rw[if_pos h1]
 rw[if_neg oM]
 (repeat' split)<;>first
  | (simp only[Utf8.runeError];omega)
  | (rename_i hc;simp only[Bool.and_eq_true,decide_eq_true_eq,ge_iff_le] at hc;omega)
  | (rename_i hc;simp only[ge_iff_le] at hc;omega)
end Go.Sx
namespace Go.Sx
open Go
abbrev aU:=List (List UInt8×List UInt8)
def fnd (k:List UInt8):aU→Nat→Option (Nat×List UInt8)
 | [],_=>none
 |p::r,i=>if k==p.1 then some (i,p.2) else fnd k r (i+1)
def gz (k v:List UInt8):aU→aU
 | []=> [(k,v)]
 |p::r=>if k==p.1 then(p.1,v)::r else p::gz k v r
def delV (k:List UInt8):aU→aU
 | []=> []
 |p::r=>if k==p.1 then r else p::delV k r
def gx (p:List UInt8×List UInt8):Value×Value:=(vs p.1, .agg (a8 p.2))
def MapR (o:Obj) (m:aU):Prop:= ∃es clock,o= .map es clock∧es.toList.map (fun e=>(e.key,e.val))=m.map gx∧(es.toList.map (·.born)++ [clock]).Pairwise (· < ·)
def wv {es:List MapEntry} {c:Nat} {e:MapEntry} (h: (es.map (·.born)++ [c]).Pairwise (· < ·)) (he:e.born=c): ((es++ [e]).map (·.born)++ [c+1]).Pairwise (· < ·):=by
 rw[List.map_append,List.map_cons,List.map_nil,he]
 refine List.pairwise_append.2 ⟨h,List.pairwise_singleton _ _, ?_⟩
 intro a ha b hb
 rw[List.mem_singleton] at hb
 subst hb
 rcases List.mem_append.1 ha with hm|hm
 ·have:=(List.pairwise_append.1 h).2.2 a hm c (List.mem_singleton.2 rfl)
  omega
 rw[List.mem_singleton] at hm
 omega
def Tp {es:List MapEntry} {j:Nat} {g:MapEntry→MapEntry} (hg: ∀e,(g e).born=e.born): (es.modify j g).map (·.born)=es.map (·.born):=by
 apply List.ext_getElem?
 intro i
 rw[List.getElem?_map,List.getElem?_map,List.getElem?_modify]
 cases es[i]? with
 |none=>rfl
 |some e=>
  by_cases h:j=i
  ·simp[h,hg]
  simp[h]
def UZ {es:List MapEntry} {c j:Nat} (h: (es.map (·.born)++ [c]).Pairwise (· < ·)): ((es.eraseIdx j).map (·.born)++ [c]).Pairwise (· < ·):=
 h.sublist (((List.eraseIdx_sublist es j).map _).append_right [c])
def lx (a b:List UInt8): ((ByteArray.mk a.toArray)==(ByteArray.mk b.toArray))=(a==b):=by
 show(a.toArray==b.toArray)=(a==b)
 simp
theorem US (k:List UInt8): ∀ (es:List MapEntry) (m:aU) (i:Nat),es.map (fun e=>(e.key,e.val))=m.map gx→
  Instr.findNow .string (vs k) es i=some ((fnd k m i).map fun p=>(p.1, .agg (a8 p.2)))
 | [],[],i,_=>rfl
 | [],_::_,_,h=>by cases h
 |_::_,[],_,h=>by cases h
 |e::es,p::m,i,h=>by
  simp only[List.map_cons,List.cons.injEq,gx,Prod.mk.injEq] at h
  obtain⟨⟨h1,h2⟩,h3⟩:=h
  unfold Instr.findNow
  have hs:Instr.sameNow .string (vs k) e.key=some (k==p.1):=by
   rw[h1]
   simp only[vs,Instr.sameNow,lx]
  rw[hs]
  unfold fnd
  cases hk: (k==p.1)
  ·simp only[Bool.false_eq_true, ↓reduceIte]
   exact US k es m (i+1) h3
  simp[h2]
theorem Bp (k:List UInt8): ∀ (m:aU) (i j:Nat) (v:List UInt8),fnd k m i=some (j,v)→i≤j∧ ∃a,m[j - i]? =some (k,a)∧a=v
 | [],_,_,_,h=>by cases h
 |p::r,i,j,v,h=>by
  unfold fnd at h
  split at h
  ·rename_i hk
   cases h
   refine⟨ag _,p.2, ?_,rfl⟩
   rw[Nat.sub_self,List.getElem?_cons_zero,eq_of_beq hk]
  obtain⟨h1,a,h2,h3⟩:=Bp k r (i+1) j v h
  refine⟨by omega,a, ?_,h3⟩
  rw[show j - i=(j - (i+1))+1 by omega,List.getElem?_cons_succ];exact h2
theorem wb (k v:List UInt8): ∀ (es:List MapEntry) (m:aU) (i j:Nat) (a:List UInt8),es.map (fun e=>(e.key,e.val))=m.map gx→fnd k m i=some (j,a)→
  (es.modify (j - i) fun e=>{e with key:=vs k,val:= .agg (a8 v)}).map (fun e=>(e.key,e.val))=(gz k v m).map gx
 | [],[],_,_,_,_,h=>by cases h
 | [],_::_,_,_,_,h,_=>by cases h
 |_::_,[],_,_,_,h,_=>by cases h
 |e::es,p::m,i,j,a,h,hf=>by
  simp only[List.map_cons,List.cons.injEq,gx,Prod.mk.injEq] at h
  obtain⟨⟨h1,h2⟩,h3⟩:=h
  unfold fnd at hf
  unfold gz
  split at hf
  ·rename_i hk
   cases hf
   rw[if_pos hk,Nat.sub_self]
   simp only[List.modify_zero_cons,List.map_cons,gx,eq_of_beq hk]
   rw[h3]
  rename_i hk
  have eU:=(Bp k m (i+1) j a hf).1
  rw[if_neg hk,show j - i=(j - (i+1))+1 by omega]
  simp only[List.modify_succ_cons,List.map_cons,gx]
  rw[wb k v es m (i+1) j a h3 hf,h1,h2]
theorem wV (k v:List UInt8): ∀ (m:aU) (i:Nat),fnd k m i=none→gz k v m=m++ [(k,v)]
 | [],_,_=>rfl
 |p::r,i,h=>by
  unfold fnd at h
  split at h
  ·cases h
  rename_i hk
  unfold gz
  rw[if_neg hk,wV k v r (i+1) h];rfl
theorem vy (k:List UInt8): ∀ (es:List MapEntry) (m:aU) (i j:Nat) (a:List UInt8),es.map (fun e=>(e.key,e.val))=m.map gx→fnd k m i=some (j,a)→
  (es.eraseIdx (j - i)).map (fun e=>(e.key,e.val))=(delV k m).map gx
 | [],[],_,_,_,_,h=>by cases h
 | [],_::_,_,_,_,h,_=>by cases h
 |_::_,[],_,_,_,h,_=>by cases h
 |e::es,p::m,i,j,a,h,hf=>by
  simp only[List.map_cons,List.cons.injEq] at h
  obtain⟨h1,h3⟩:=h
  unfold fnd at hf
  unfold delV
  split at hf
  ·rename_i hk
   cases hf
   rw[if_pos hk,Nat.sub_self]
   exact h3
  rename_i hk
  have eU:=(Bp k m (i+1) j a hf).1
  rw[if_neg hk,show j - i=(j - (i+1))+1 by omega]
  simp only[List.eraseIdx_cons_succ,List.map_cons]
  rw[vy k es m (i+1) j a h3 hf,h1]
theorem wn (k:List UInt8): ∀ (m:aU) (i:Nat),fnd k m i=none→delV k m=m
 | [],_,_=>rfl
 |p::r,i,h=>by
  unfold fnd at h
  split at h
  ·cases h
  rename_i hk
  unfold delV
  rw[if_neg hk,wn k r (i+1) h]
section
variable {P:Program} {w0:World} {f:Fr} {L:aA} {N:Fr→aA→Prop} {ops:Array Oper} {rest:List Oper} {md:Md}
 {d:Option Tmp} {ty:TypeId} {ps:String} {af:Array Edge} {g:Option (Nat×Bool)}
def E_ {w:World} {t:TypeId} (hu:P.underlying t=some .string) (k:List UInt8) (es:List MapEntry) (m:aU) (h:es.map (fun e=>(e.key,e.val))=m.map gx):
  (Instr.findKey t (vs k) es).run P w= .ok ((fnd k m 0).map fun p=>(p.1, .agg (a8 p.2))) w:=by
 simp only[Instr.findKey,Sem.run_bind,run_underlying hu w,Result.andThen_ok,US k es m 0 h]
 rfl
def ux {w:World} {t:TypeId} (hu:P.underlying t=some .string) (e:Bool) (k:List UInt8): (Instr.checkKey e 10000 t (vs k)).run P w= .ok () w:=by
 unfold Instr.checkKey
 simp only[Sem.run_bind,run_underlying hu w,Result.andThen_ok,vs]
 rfl
def j4 {w:World} {b:Nat} {es:Array MapEntry} {c:Nat} (hb:w.heap[b]? =some (.map es c)): (getObj b).run P w= .ok (.map es c) w:=by
 simp only[getObj,Sem.run,hb]
def pS {w:World} {b:Nat} {es:Array MapEntry} {c:Nat} (hb:w.heap[b]? =some (.map es c)) (o:Obj): (setObj b o).run P w= .ok () {w with heap:=w.heap.setIfInBounds b o}:=by
 simp only[setObj,Sem.run,hb]
def vm (b:Nat):Value:= .map (some b)
theorem Ow.makeMap {t:TypeId} {md':Md} (he:md.turn=some md') (hs:aw ops f ⟨d, .makeMap t none,ty,ps,af,g⟩=false)
  (hn: ∀b o,dq L b→w0.heap.size≤b→MapR o []→Ow P w0 ops md' rest (aW f d (vm b)) (L++ [(b,o)]) N):
  Ow P w0 ops md (⟨d, .makeMap t none,ty,ps,af,g⟩::rest) f L N:=by
 refine Ow.step he rfl hs fun w hw=> .inl ⟨vm w.heap.size,w.alloc (.map #[] 0),_, ?_,hw.alloc _,hn _ _ (gK fun b hb=>hw.lt hb) hw.size ⟨#[],0,rfl,rfl,List.pairwise_singleton _ _⟩⟩
 simp only[execOp,Instr.makeMap,Sem.run_bind,Option.map_none]
 rfl
def Ow.lenMap {t kt vt:TypeId} {x:Operand} {b:Nat} {o:Obj} {m:aU} (hs:aw ops f ⟨d, .call ⟨.builtin .len, #[x], #[t]⟩,ty,ps,af,g⟩=false) (hsq:md= .seq) (hu:P.underlying t=some (.map kt vt)) (hx:ev f x=vm b) (hl:aS w0 L b=some o) (hm:MapR o m)
  (hn:Ow P w0 ops md rest (aW f d (vi m.length)) L N):Ow P w0 ops md (⟨d, .call ⟨.builtin .len, #[x], #[t]⟩,ty,ps,af,g⟩::rest) f L N:=by
 subst hsq
 obtain⟨es,c,rfl,he,-⟩:=hm
 have aR:es.size=m.length:=by have:=congrArg List.length he;simpa using this
 intro w hw
 have hb:=hw.read hl
 have hS:OpS P w0 f L ⟨d, .call ⟨.builtin .len, #[x], #[t]⟩,ty,ps,af,g⟩ (fun v L'=>v=vi m.length∧L'=L):=by
  intro w hw
  have hb:=hw.read hl
  refine .inl ⟨_,w,L, ?_,hw,rfl,rfl⟩
  simp only[execOp,resolve,Sem.run_bind,Sem.run_pure,Result.andThen_ok,invoke,builtin,List.map_toArray,List.map_cons,List.map_nil,hx]
  have: (Builtin.len_ #[t] ty #[vm b]).run P w= .ok (vi m.length) w:=by
   simp only[Builtin.len_,vm,List.getElem?_toArray,List.getElem?_cons_zero,Sem.run_bind,run_underlying hu w,Result.andThen_ok,j4 hb,aR]
   rfl
  rw[this];rfl
 unfold wpList
 rw[j2,hs]
 simp only[Bool.not_false, ↓reduceIte]
 exact .inl (hS.wp (fun v L' w' hp ⟨h1,h2⟩=>by subst h1;subst h2;exact hn w' hp) hw)
def OM {k:List UInt8} {m:aU} {es:List MapEntry} {j:Nat} {a:List UInt8} (h:es.map (fun e=>(e.key,e.val))=m.map gx) (hf:fnd k m 0=some (j,a)): ∃e,es[j]? =some e∧e.key=vs k:=by
 obtain⟨-,a',h1,rfl⟩:=Bp k m 0 j a hf
 rw[Nat.sub_zero] at h1
 have:=congrArg (·[j]?) h
 simp only[List.getElem?_map,h1,Option.map_some] at this
 cases he:es[j]? with
 |none=>rw[he] at this;cases this
 |some e=>
  rw[he] at this
  simp only[Option.map_some,Option.some.injEq,gx,Prod.mk.injEq] at this
  exact⟨e,rfl,this.1⟩
theorem Ow.mapUpdate {t kt vt:TypeId} {x y z:Operand} {b:Nat} {o:Obj} {m:aU} {k v:List UInt8} {md':Md} (he:md.turn=some md') (hs:aw ops f ⟨d, .mapUpdate t x y z,ty,ps,af,g⟩=false) (hu:P.underlying t=some (.map kt vt)) (kA:P.underlying kt=some .string)
  (hx:ev f x=vm b) (hy:ev f y=vs k) (hz:ev f z= .agg (a8 v)) (hl:look L b=some o) (hm:MapR o m)
  (hn: ∀o',MapR o' (gz k v m)→Ow P w0 ops md' rest (aW f d undef) (setB L b o') N):
  Ow P w0 ops md (⟨d, .mapUpdate t x y z,ty,ps,af,g⟩::rest) f L N:=by
 obtain⟨es,c,rfl,fa,ee⟩:=hm
 refine Ow.step he rfl hs fun w hw=> ?_
 have hb:=hw.has _ _ (cQ hl)
 have dK:=E_ (w:=w) kA k es.toList m fa
 cases hf:fnd k m 0 with
 |none=>
  rw[hf] at dK
  refine .inr (.inl ⟨{w with heap:=w.heap.setIfInBounds b (.map (es.push {key:=vs k,val:= .agg (a8 v),born:=c}) (c+1))},_, ?_,hw.set (bX hl) rfl rfl rfl rfl,hn _ ⟨_,_,rfl, ?_,by rw[Array.toList_push];exact wv ee rfl⟩⟩)
  ·have: (Instr.mapUpdate t (vm b) (vs k) (.agg (a8 v))).run P w= .ok () {w with heap:=w.heap.setIfInBounds b (.map (es.push {key:=vs k,val:= .agg (a8 v),born:=c}) (c+1))}:=by
    simp only[Instr.mapUpdate,vm,Sem.run_bind,run_underlying hu w,Result.andThen_ok,j4 hb,ux kA,dK,Option.map_none,pS hb]
   simp only[execOp,Sem.run_bind,hx,hy,hz]
   rw[this];rfl
  rw[wV k v m 0 hf,Array.toList_push,List.map_append,fa,List.map_append];rfl
 |some p=>
  obtain⟨j,a⟩:=p
  rw[hf] at dK
  obtain⟨e,Rs,Rt⟩:=OM fa hf
  have sa:es[j]? =some e:=by simpa using Rs
  have fF: (Instr.keyThatStays (((es[j]?).map (·.key)).getD (vs k)) (vs k)).run P w= .ok (vs k) w:=by
   rw[sa,Option.map_some,Option.getD_some,Rt]
   unfold Instr.keyThatStays
   have:Instr.sameBits 10000 (vs k) (vs k)=true:=by simp[vs,Instr.sameBits,lx]
   rw[if_pos this];rfl
  refine .inr (.inl ⟨{w with heap:=w.heap.setIfInBounds b (.map (es.modify j fun e=>{e with key:=vs k,val:= .agg (a8 v)}) c)},_, ?_,hw.set (bX hl) rfl rfl rfl rfl,hn _ ⟨_,_,rfl, ?_,by rw[Array.toList_modify,Tp (g:=fun e=>{e with key:=vs k,val:= .agg (a8 v)}) fun _=>rfl];exact ee⟩⟩)
  ·have: (Instr.mapUpdate t (vm b) (vs k) (.agg (a8 v))).run P w= .ok () {w with heap:=w.heap.setIfInBounds b (.map (es.modify j fun e=>{e with key:=vs k,val:= .agg (a8 v)}) c)}:=by
    simp only[Instr.mapUpdate,vm,Sem.run_bind,run_underlying hu w,Result.andThen_ok,j4 hb,ux kA,dK,Option.map_some,fF,pS hb]
   simp only[execOp,Sem.run_bind,hx,hy,hz]
   rw[this];rfl
  rw[Array.toList_modify]
  have:=wb k v es.toList m 0 j a fa hf
  rw[Nat.sub_zero] at this
  exact this
def Ow.mapDelete {t kt vt:TypeId} {x y:Operand} {t2:TypeId} {b:Nat} {o:Obj} {m:aU} {k:List UInt8} {md':Md} (he:md.turn=some md') (hs:aw ops f ⟨d, .call ⟨.builtin .delete, #[x,y], #[t,t2]⟩,ty,ps,af,g⟩=false) (hu:P.underlying t=some (.map kt vt)) (kA:P.underlying kt=some .string)
  (hx:ev f x=vm b) (hy:ev f y=vs k) (hl:look L b=some o) (hm:MapR o m)
  (hn: ∀o',MapR o' (delV k m)→Ow P w0 ops md' rest (aW f d (.tuple #[])) (setB L b o') N):
  Ow P w0 ops md (⟨d, .call ⟨.builtin .delete, #[x,y], #[t,t2]⟩,ty,ps,af,g⟩::rest) f L N:=by
 obtain⟨es,c,rfl,fa,ee⟩:=hm
 refine Ow.step he rfl hs fun w hw=> ?_
 have hb:=hw.has _ _ (cQ hl)
 have dK:=E_ (w:=w) kA k es.toList m fa
 cases hf:fnd k m 0 with
 |none=>
  rw[hf] at dK
  refine .inl ⟨.tuple #[],{w with heap:=w.heap.setIfInBounds b (.map es c)},_, ?_,hw.set (bX hl) rfl rfl rfl rfl,hn _ ⟨es,c,rfl,by rw[wn k m 0 hf];exact fa,ee⟩⟩
  have: (Builtin.delete_ #[t,t2] ty #[vm b,vs k]).run P w= .ok (.tuple #[]) {w with heap:=w.heap.setIfInBounds b (.map es c)}:=by
   simp only[Builtin.delete_,vm,List.getElem?_toArray,List.getElem?_cons_zero,List.getElem?_cons_succ,Sem.run_bind,run_underlying hu w,Result.andThen_ok,j4 hb,ux kA,dK,Option.map_none,pS hb]
   rfl
  simp only[execOp,resolve,Sem.run_bind,Sem.run_pure,Result.andThen_ok,invoke,builtin,List.map_toArray,List.map_cons,List.map_nil,hx,hy]
  rw[this];rfl
 |some p=>
  obtain⟨j,a⟩:=p
  rw[hf] at dK
  refine .inl ⟨.tuple #[],{w with heap:=w.heap.setIfInBounds b (.map (es.eraseIdxIfInBounds j) c)},_, ?_,hw.set (bX hl) rfl rfl rfl rfl,hn _ ⟨_,c,rfl, ?_,by rw[Array.toList_eraseIdxIfInBounds];exact UZ ee⟩⟩
  ·have: (Builtin.delete_ #[t,t2] ty #[vm b,vs k]).run P w= .ok (.tuple #[]) {w with heap:=w.heap.setIfInBounds b (.map (es.eraseIdxIfInBounds j) c)}:=by
    simp only[Builtin.delete_,vm,List.getElem?_toArray,List.getElem?_cons_zero,List.getElem?_cons_succ,Sem.run_bind,run_underlying hu w,Result.andThen_ok,j4 hb,ux kA,dK,Option.map_some,pS hb]
    rfl
   simp only[execOp,resolve,Sem.run_bind,Sem.run_pure,Result.andThen_ok,invoke,builtin,List.map_toArray,List.map_cons,List.map_nil,hx,hy]
   rw[this];rfl
  have:=vy k es.toList m 0 j a fa hf
  rw[Nat.sub_zero] at this
  rw[←this]
  simp
end
end Go.Sx
