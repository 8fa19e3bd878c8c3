/-
  Part 0 of the walk: contracts of the functions that the law reaches, and the calculus they stand on.
  No conditions.
-/
import Derived.WalkKit
import Derived.Deep.LoopGhost
import Derived.ScopeJumps
import Derived.Maps.RangeRun
set_option linter.unusedVariables false
set_option linter.defProp false
def aP:=@decide_eq_true
def aR:=@Nat.zero_le
def aW:=@decide_eq_false
def aX:=@List.mem_cons_self
def ah:=@List.mem_cons_of_mem
def aj:=@Nat.le_refl
def aq:=@List.mem_append_left
def cJ:=@List.mem_append_right
set_option linter.defProp false
set_option linter.unusedSimpArgs false
def aN{a b:Prop}(x:a)(y:b):a/\b:=⟨x,y⟩
def qS1{pa pb pc:Prop}(a:pa)(b:pb)(c:pc):pa/\pb/\pc:=⟨a,⟨b,c⟩⟩
def qS2{pa pb pc pd:Prop}(a:pa)(b:pb)(c:pc)(d:pd):pa/\pb/\pc/\pd:=⟨a,⟨b,⟨c,d⟩⟩⟩
def qS3{pa pb pc pd pe:Prop}(a:pa)(b:pb)(c:pc)(d:pd)(e:pe):pa/\pb/\pc/\pd/\pe:=⟨a,⟨b,⟨c,⟨d,e⟩⟩⟩⟩
def qS4{pa pb pc pd pe pf:Prop}(a:pa)(b:pb)(c:pc)(d:pd)(e:pe)(f:pf):pa/\pb/\pc/\pd/\pe/\pf:=⟨a,⟨b,⟨c,⟨d,⟨e,f⟩⟩⟩⟩⟩
def qS5{pa pb pc pd pe pf pg:Prop}(a:pa)(b:pb)(c:pc)(d:pd)(e:pe)(f:pf)(g:pg):pa/\pb/\pc/\pd/\pe/\pf/\pg:=⟨a,⟨b,⟨c,⟨d,⟨e,⟨f,g⟩⟩⟩⟩⟩⟩
def qS6{pa pb pc pd pe pf pg ph:Prop}(a:pa)(b:pb)(c:pc)(d:pd)(e:pe)(f:pf)(g:pg)(h:ph):pa/\pb/\pc/\pd/\pe/\pf/\pg/\ph:=⟨a,⟨b,⟨c,⟨d,⟨e,⟨f,⟨g,h⟩⟩⟩⟩⟩⟩⟩
def oM{p:Prop}(h:p:=by omega):p:=h
def kR{p:Prop}(h:p:=by kernel_rfl):p:=h
def tr.{u}{c:Prop}{h:Decidable c}(n:¬c){α:Sort u}{a b:α}:(ite c a b)=b:=if_neg n
def Vb.{u}{c:Prop}{h:Decidable c}(n:c){α:Sort u}{a b:α}:(ite c a b)=a:=if_pos n
def Vx.{v}{a:Prop}{b:Sort v}(h:a)(k:¬a):b:=absurd h k
def Wc.{u,v}{α:Sort u}{β:Sort v}{a b:α}(f:α->β)(h:a=b):f a=f b:=congrArg f h
def WN{α:Type}[BEq α][LawfulBEq α]{a b:α}:(a==b)=false↔a≠b:=beq_eq_false_iff_ne
def Yb{α:Type}[BEq α][LawfulBEq α]{a b:α}:(a != b)=true↔a≠b:=bne_iff_ne
def W8{α:Type}[BEq α][LawfulBEq α]{a b:α}:(a==b)=true↔a=b:=beq_iff_eq
def Zu{p:Prop}[Decidable p](h:decide p=true):p:=of_decide_eq_true h
def Z8{p:Prop}[Decidable p](h:decide p=false):¬p:=of_decide_eq_false h
def qi4{α:Type}[BEq α][LawfulBEq α](a:α):(a != a)=false:=bne_self_eq_false a
def XN{p:Prop}[Decidable p]:(decide p=true)=p:=decide_eq_true_eq
def qc9{p:Prop}[Decidable p]:decide p=false↔¬p:=decide_eq_false_iff_not
def Vp:=@Go.Sem.run_bind
def Vy:=@List.nil_append
def VT:=@Go.Result.andThen_ok
def VV:=@List.length_append
def VX:=@List.append_nil
def VY:=@List.map_cons
def Wp:=@List.cons_append
def Wn:=@Go.run_underlying
def Wq:=@Ne.symm
def VW:=@Bool.false_eq_true
def Wb:=@List.append_assoc
def Wd:=@List.size_toArray
def We:=@List.map_append
def Vw:=@List.mem_cons
def Wm:=@Go.Sem.run_pure
def Wr:=@List.map_nil
def Ws:=@Option.map_some
def Wt:=@List.length_cons
def VZ:=@List.mem_singleton
def Wx:=@List.length_map
def WB:=@or_false
def WD:=@Option.some.injEq
def WH:=@List.take_length
def WI:=@List.not_mem_nil
def WK:=@Bool.and_eq_true
def WW:=@List.Perm.refl
def WX:=@Int.toNat_natCast
def W3:=@List.length_take
def W6:=@Bool.not_false
def W7:=@List.length_nil
def Xg:=@Nat.zero_add
def Xk:=@Nat.lt_irrefl
def Xp:=@Prod.mk.injEq
def Xq:=@Nat.le_trans
def Xv:=@Bool.false_and
def Xd:=@List.nodup_cons
def XA:=@Bool.true_and
def XC:=@List.length_drop
def XD:=@Option.some.inj
def XL:=@Nat.add_zero
def XM:=@List.map_toArray
def XW:=@Bool.false_or
def X7:=@Nat.mod_eq_of_lt
def X8:=@List.length_set
def X_:=@List.filter_cons
def Ya:=@List.flatten_cons
def Yf:=@beq_self_eq_true
def Yn:=@Option.bind_some
def Yo:=@List.take_of_length_le
def Yu:=@List.flatten_append
def Yy:=@Nat.not_lt_zero
def Wu:=@List.mem_append
def YL:=@Option.map_none
def XX:=@List.all_eq_true
def YM:=@List.drop_zero
def YN:=@Bool.or_false
def YT:=@Bool.not_true
def XR:=@List.nodup_append
def YZ:=@Bool.eq_iff_iff
def Y0:=@Nat.mul_le_mul_right
def Y1:=@List.take_append_drop
def Y3:=@List.getElem_mem
def Y_:=@Int.natCast_mul
def ql0:=@List.set_cons_zero
def Za:=@Decidable.byContradiction
def Zm:=@List.eq_nil_of_length_eq_zero
def qr2:=@List.set_cons_succ
def Zx:=@Nat.lt_of_lt_of_le
def Zy:=@Bool.not_eq_true'
def Zz:=@Bool.or_eq_false_iff
def Y4:=@List.perm_append_comm
def ZA:=@Nat.le_succ_of_le
def ZT:=@Int.eq_ofNat_of_zero_le
def qa1:=@List.contains_eq_mem
def qc0:=@List.pairwise_singleton
def qc1:=@List.drop_eq_getElem_cons
def qd4:=@List.take_succ_eq_append_getElem
def V_{p:Prop}(h:p:=by simp):p:=h
def WT{p:Prop}(h:p:=by decide):p:=h
namespace Go
abbrev No:=List UInt8
abbrev hU:=Value
abbrev hW:=World
abbrev h7:=TypeId
abbrev h_:=Program
abbrev Vf:=UInt8
abbrev Vj:Value:=.slice none 0 0
abbrev Wi(a b:Value):Obj:=.cells #[a,b] 155 (0,0)
abbrev Xu(a:Value):Obj:=.cells #[a] 3 (0,0)
abbrev VS(a:Value):Obj:=.cells #[a] 9 (0,0)
abbrev Vg(a b c:Value):Obj:=.cells #[a,b,c] 220 (0,0)
abbrev Vz(a b c:Value):Obj:=.cells #[a,b,c] 179 (0,0)
abbrev Wh(a b:Value):Obj:=.cells #[a,b] 143 (0,0)
abbrev iU(a b:Value):Obj:=.cells #[a,b] 59 (0,0)
abbrev Vi(a b c d:Value):Obj:=.cells #[a,b,c,d] 102 (0,0)
abbrev Vv(a b c d:Value):Obj:=.cells #[a,b,c,d] 62 (0,0)
end Go
open Go in
open Classical in
def pM{α:Type}{l m:List α}(h:∀ a:α,l.count a=m.count a:=by intro a;simp only[List.count_append,List.count_cons,List.count_nil,Vi,Wh,Wi,Vz,Vg,Xu,iU,Vv,VS,Vj]<;>omega):l.Perm m:=List.perm_iff_count.2 h
namespace Go.Sx
open Go
abbrev aA:=List (Nat×Obj)
def keys(L:aA):List Nat:=L.map Prod.fst
def Wg{p:Prop}(h:p:=by simp[keys]):p:=h
def look:aA->Nat->Option Obj
 | [],_=>none
 | (b,o)::r,k=>if b=k then some o else look r k
def Vh:aA->Nat->Obj->aA
 | [],_,_=>[]
 | (b,o)::r,k,x=>if b=k then(b,x)::r else(b,o)::Vh r k x
def bU{L:aA}{k:Nat}{o:Obj}(h:look L k=some o):(k,o)∈L:=by
 induction L with
 |nil=>cases h
 |cons p r a=>
  obtain⟨b,x⟩:=p;unfold look at h
  split at h
  .rename_i e;cases h;subst e;exact aX
  exact ah _ (a h)
def CS{L:aA}{k:Nat}(h:look L k=none):k∉keys L:=by
 induction L with
 |nil=>intro h;cases h
 |cons p r c=>
  obtain⟨b,x⟩:=p;unfold look at h
  split at h
  .cases h
  rename_i e;intro d;rcases Vw.1 d with a|a
  .exact e a.symm
  exact c h a
def fc(L:aA)(k:Nat)(x:Obj):keys (Vh L k x)=keys L:=by
 induction L with
 |nil=>rfl
 |cons p r a=>
  obtain⟨b,o⟩:=p;unfold Vh
  split
  .rfl
  simp only[keys,VY] at a |-;rw[a]
def ue{L:aA}(f:(keys L).Nodup){k b:Nat}{x o:Obj}(h:(b,o)∈Vh L k x):(b=k/\o=x)\/(b≠k/\(b,o)∈L):=by
 induction L with
 |nil=>cases h
 |cons p r g=>
  obtain⟨c,y⟩:=p;simp only[keys,VY,Xd] at f;unfold Vh at h
  split at h
  .rename_i e;rcases Vw.1 h with a|a
   .simp only[Xp] at a;exact .inl ⟨a.1.trans e,a.2⟩
   refine .inr ⟨?_,ah _ a⟩;intro i;exact f.1 (by rw[e,<-i];exact List.mem_map.2 ⟨_,a,rfl⟩)
  rename_i e;rcases Vw.1 h with a|a
  .simp only[Xp] at a;refine .inr ⟨by rw[a.1];exact e,?_⟩;rw[a.1,a.2];exact aX
  rcases g f.2 a with d|d
  .exact .inl d
  exact .inr ⟨d.1,ah _ d.2⟩
structure Hp(w0:hW)(L:aA)(w:hW):Prop where
 has:∀b o,(b,o)∈L->w.heap[b]? =some o
 nodup:(keys L).Nodup
 Wo:∀b,b<w0.heap.size->b∉keys L->w.heap[b]? =w0.heap[b]?
 size:w0.heap.size<=w.heap.size
 tape:w.tape=w0.tape
 os:w.os=w0.os
 output:w.output=w0.output
def Hp.refl(w:hW):Hp w [] w:=
 ⟨fun _ _ h=>(by cases h),List.nodup_nil,fun _ _ _=>rfl,aj _,rfl,rfl,rfl⟩
def Hp.lt{w0 w:hW}{L:aA}(h:Hp w0 L w){b:Nat}(a:b∈keys L):b<w.heap.size:=by obtain⟨p,c,rfl⟩:=List.mem_map.1 a;have:=h.has p.1 p.2 c;exact(Array.getElem?_eq_some_iff.1 this).1
def Hp.of_heap{w0 w a:hW}{L:aA}(h:Hp w0 L w)(b:a.heap=w.heap)(c:a.tape=w.tape)(d:a.os=w.os)(e:a.output=w.output):Hp w0 L a:=
 ⟨by rw[b];exact h.has,h.nodup,by rw[b];exact h.Wo,by rw[b];exact h.size,c.trans h.tape,d.trans h.os,e.trans h.output⟩
theorem Hp.drew{w0 w:hW}{L:aA}(h:Hp w0 L w):Hp w0 L w.drew:=h.of_heap rfl rfl rfl rfl
theorem Hp.alloc{w0 w:hW}{L:aA}(h:Hp w0 L w)(o:Obj):Hp w0 (L++[(w.heap.size,o)]) (w.alloc o):=by
 have i:∀b,b∈keys (L++[(w.heap.size,o)])->b∈keys L\/b=w.heap.size:=by intro b d;simp only[keys,We,VY,Wr,Wu,VZ] at d;exact d
 refine⟨?_,?_,?_,?_,h.tape,h.os,h.output⟩
 .intro b x c;rcases Wu.1 c with c|c
  .have e:b<w.heap.size:=h.lt (List.mem_map.2 ⟨_,c,rfl⟩);rw[RowKit.Below.heap_alloc w o b e];exact h.has b x c
  simp only[VZ,Xp] at c;rw[c.1,c.2];exact(by show(w.heap.push o)[w.heap.size]? =some o;simp)
 .simp only[keys,We,VY,Wr];refine XR.2 ⟨h.nodup,qc0 _ _,?_⟩;intro a f b d;simp only[VZ] at d;have:=h.lt f;omega
 .intro b d g;rw[RowKit.Below.heap_alloc w o b (Zx d h.size)];refine h.Wo b d (fun c=>g ?_);simp only[keys,We,Wu];exact .inl c
 rw[World.size_alloc];have:=h.size;omega
def Hp.set{w0 w a:hW}{L:aA}(h:Hp w0 L w){b:Nat}{x:Obj}(i:b∈keys L)(d:a.heap=w.heap.setIfInBounds b x)
  (j:a.tape=w.tape) (k:a.os=w.os) (l:a.output=w.output):Hp w0 (Vh L b x) a:=by
 have m:=h.lt i;refine⟨?_,by rw[fc];exact h.nodup,?_,?_,j.trans h.tape,k.trans h.os,l.trans h.output⟩
 .intro c o n;rw[d];rcases ue h.nodup n with⟨rfl,rfl⟩ | ⟨f,p⟩
  .simp[m]
  rw[Array.getElem?_setIfInBounds_ne (Wq f)];exact h.has c o p
 .intro c q g;rw[fc] at g;have f:b≠c:=fun e=>g (e▸i);rw[d,Array.getElem?_setIfInBounds_ne f];exact h.Wo c q g
 rw[d];simpa using h.size
def Hp.own{w0 w:hW}{L:aA}(h:Hp w0 L w){b:Nat}{o:Obj}(g:w0.heap[b]? =some o)(i:b∉keys L):Hp w0 (L++[(b,o)]) w:=by
 have j:b<w0.heap.size:=(Array.getElem?_eq_some_iff.1 g).1;refine⟨?_,?_,?_,h.size,h.tape,h.os,h.output⟩
 .intro c x d;rcases Wu.1 d with d|d
  .exact h.has c x d
  simp only[VZ,Xp] at d;rw[d.1,d.2,h.Wo b j i];exact g
 .simp only[keys,We,VY,Wr];refine XR.2 ⟨h.nodup,qc0 _ _,?_⟩;intro a k c f;simp only[VZ] at f;subst f;exact fun e=>i (e▸k)
 intro c f d;exact h.Wo c f (fun l=>d (by simp only[keys,We,Wu];exact .inl l))
def Hp.drop{w0 w:hW}{L M:aA}(h:Hp w0 L w)(f:∀p∈M,p∈L)(g:(keys M).Nodup)(i:∀p∈L,p.1<w0.heap.size->p.1∉keys M->w0.heap[p.1]? =some p.2):Hp w0 M w:=by
 refine⟨fun b o a=>h.has b o (f _ a),g,?_,h.size,h.tape,h.os,h.output⟩;intro b c a;by_cases d:b∈keys L
 .obtain⟨p,e,rfl⟩:=List.mem_map.1 d;rw[h.has _ _ e,i p e c a]
 exact h.Wo b c d
theorem Hp.trans{w0 w j:hW}{L D:aA}(h:Hp w0 L w)(k:Hp w D j):Hp w0 (L.filter (fun p=> !(keys D).contains p.1)++D) j:=by
 have g:∀b,b∈keys (L.filter (fun p=> !(keys D).contains p.1))↔b∈keys L/\b∉keys D:=by
  intro b
  constructor
  .intro c;obtain⟨p,i,rfl⟩:=List.mem_map.1 c;have:=List.mem_filter.1 i;refine⟨List.mem_map.2 ⟨p,this.1,rfl⟩,?_⟩;simpa using this.2
  rintro⟨c,f⟩;obtain⟨p,i,rfl⟩:=List.mem_map.1 c;exact List.mem_map.2 ⟨p,List.mem_filter.2 ⟨i,by simpa using f⟩,rfl⟩
 refine⟨?_,?_,?_,Xq h.size k.size,k.tape.trans h.tape,k.os.trans h.os,k.output.trans h.output⟩
 .intro b o d;rcases Wu.1 d with d|d
  .have c:b∈keys (L.filter (fun p=> !(keys D).contains p.1)):=List.mem_map.2 ⟨_,d,rfl⟩;have l:=(g b).1 c;rw[k.Wo b (h.lt l.1) l.2];exact h.has b o (List.mem_filter.1 d).1
  exact k.has b o d
 .simp only[keys,We];refine XR.2 ⟨?_,k.nodup,?_⟩
  .exact List.Nodup.sublist (List.Sublist.map _ List.filter_sublist) h.nodup
  intro a q b c e;exact((g a).1 q).2 (e▸c)
 intro b c f;have m:b∉keys L/\b∉keys D:=by simp only[keys,We,Wu,not_or] at f;have n:b∉keys D:=f.2;exact⟨fun d=>f.1 ((g b).2 ⟨d,n⟩),n⟩
 rw[k.Wo b (Zx c h.size) m.2];exact h.Wo b c m.1
def Hp.qg3{w0 w a:hW}{L:aA}(h:Hp w0 L w)(k:Hp w [] a):Hp w0 L a:=by
 have:=h.trans k
 rwa [show L.filter (fun p=> !(keys ([]:aA)).contains p.1)++[]=L from by simp[keys]] at this
def aG(w0:hW)(L:aA)(b:Nat):Option Obj:=
 match look L b with
 |some o=>some o
 |none=>w0.heap[b]?
def Hp.read{w0 w:hW}{L:aA}(h:Hp w0 L w){b:Nat}{o:Obj}(a:aG w0 L b=some o):w.heap[b]? =some o:=by
 unfold aG at a
 split at a
 .rename_i d c;cases a;exact h.has _ _ (bU c)
 rename_i c;rw[h.Wo b (Array.getElem?_eq_some_iff.1 a).1 (CS c)];exact a
abbrev Fr:=List hU
def dA:Fr->Nat->hU
 | [],_=>undef
 |v::_,0=>v
 |_::r,n+1=>dA r n
def YP:Fr->Nat->hU->Fr
 | [],_,_=>[]
 |_::r,0,x=>x::r
 |v::r,n+1,x=>v::YP r n x
def aa(f:Fr):Option Tmp->hU->Fr
 |some d,v=>YP f d v
 |none,_=>f
def ev(f:Fr):Operand->hU
 | .tmp t=>dA f t
 | .const v=>v
 | .global g=>.pointer (some ⟨g,0,none⟩)
 | .func k=>.func (.func k) #[] #[]
def lC(f:Fr)(t:Nat):f.toArray.getD t undef=dA f t:=by
 rw[Array.getD_eq_getD_getElem?,List.getElem?_toArray]
 induction f generalizing t with
 |nil=>rfl
 |cons v r a=>cases t<;>simp[dA,a]
def y'(f:Fr)(d:Nat)(v:hU):f.toArray.setIfInBounds d v=(YP f d v).toArray:=by
 rw[List.setIfInBounds_toArray];congr 1
 induction f generalizing d with
 |nil=>rfl
 |cons x r a=>cases d<;>simp[YP,a]
def act(f:Fr):Act:=⟨f.toArray,[]⟩
def vW(f:Fr)(x:Operand):(act f).eval x=ev f x:=by
 cases x with
 |tmp t=>exact lC f t
 |_=>rfl
def ka(f:Fr):(act f).eval=ev f:=funext (vW f)
def eH(f:Fr)(d:Option Tmp)(v:hU):(act f).put d v=act (aa f d v):=by
 cases d with
 |none=>rfl
 |some d=>simp only[act,Act.put,aa,y']
def mm{a:Act}(h:a.defers=[]):a=act a.tmps.toList:=by
 cases a with
 |mk t d=>simp only at h;subst h;simp[act]
abbrev bz:=Exit->Fr->aA->Prop
def post(w0:hW)(K:bz)(e:Exit)(a:Act)(w:hW):Prop:=a.defers=[]/\ ∃L,Hp w0 L w/\K e a.tmps.toList L
def Cw(P:h_)(w0:hW)(c:Code)(f:Fr)(L:aA)(K:bz):Prop:=
 ∀w,Hp w0 L w->c.wp P (post w0 K) (act f) w
def gJ(N:Fr->aA->Prop)(K:bz):bz
 | .normal=>N
 | .exit i=>K (.exit i)
 | .goto i=>K (.goto i)
 | .ret=>K .ret
 | .panic c=>K (.panic c)
 | .outgrown=>K .outgrown
def iY(id:Nat)(K:bz):bz
 | .normal=>K .normal
 | .exit i=>if i=id then K .normal else K (.exit i)
 | .goto i=>K (.goto i)
 | .ret=>K .ret
 | .panic c=>K (.panic c)
 | .outgrown=>K .outgrown
section
variable {P:h_} {w0:hW} {f:Fr} {L:aA} {K:bz}
def Cw.mono{c:Code}{a:bz}(h:Cw P w0 c f L K)(b:∀e f L,K e f L->a e f L):Cw P w0 c f L a:=
 fun w d=>wp_mono (h w d) fun _ _ _ ⟨g,i,j,k⟩=>⟨g,i,j,b _ _ _ k⟩
theorem Cw.seq{x y:Code}(h:Cw P w0 x f L (gJ (fun f L=>Cw P w0 y f L K) K)):Cw P w0 (.seq x y) f L K:=by
 intro w d;refine wp_seq (wp_mono (h w d) ?_);rintro e a g ⟨b,i,c,k⟩;cases e with
 |normal=>have:=k g c;rw[<-mm b] at this;exact this
 |_=>exact⟨b,i,c,k⟩
theorem Cw.skip(h:K .normal f L):Cw P w0 .skip f L K:=fun w a=>wp_skip ⟨rfl,L,a,by simpa [act] using h⟩
theorem Cw.label{l:Nat}(h:K .normal f L):Cw P w0 (.label l) f L K:=fun w a=>wp_label ⟨rfl,L,a,by simpa [act] using h⟩
theorem Cw.exit{i:Nat}(h:K (.exit i) f L):Cw P w0 (.exit i) f L K:=fun w a=>wp_exit ⟨rfl,L,a,by simpa [act] using h⟩
theorem Cw.goto{i:Nat}(h:K (.goto i) f L):Cw P w0 (.goto i) f L K:=fun w a=>wp_goto ⟨rfl,L,a,by simpa [act] using h⟩
theorem Cw.ret(h:K .ret f L):Cw P w0 .ret f L K:=fun w a=>wp_ret ⟨rfl,L,a,by simpa [act] using h⟩
theorem Cw.cond{c:Operand}{x y:Code}{b:Bool}(e:ev f c=.bool b)(g:b=true->Cw P w0 x f L K)(h:b=false->Cw P w0 y f L K):Cw P w0 (.cond c x y) f L K:=by
 intro w a;have d:(act f).eval c=.bool b:=(vW f c).trans e;cases b with
 |true=>exact wp_cond_true d (g rfl w a)
 |false=>exact wp_cond_false d (h rfl w a)
theorem Cw.block{id:Nat}{c:Code}(h:Cw P w0 c f L (iY id K)):Cw P w0 (.block id c) f L K:=by
 intro w j;refine wp_block (wp_mono (h w j) ?_);rintro e a l ⟨b,d,g,k⟩;cases e with
 |exit i=>
  simp only[Exit.inBlock];simp only[iY] at k
  split
  .rename_i e;rw[Vb e] at k;exact⟨b,d,g,k⟩
  rename_i e;rw[tr e] at k;exact⟨b,d,g,k⟩
 |_=>exact⟨b,d,g,k⟩
theorem Cw.loop{c:Code}(b:Nat->Fr->aA->Prop)(n0:Nat)(j:b n0 f L)
  (l:∀n f L,b n f L->Cw P w0 c f L (gJ (fun m d=> ∃g,g<n/\b g m d) K)):Cw P w0 (.loop c) f L K:=by
 intro w o;refine wp_loop_ghost (fun n a w=>a.defers=[]/\ ∃L,Hp w0 L w/\b n a.tmps.toList L) n0 ⟨rfl,L,o,by simpa [act] using j⟩ ?_;rintro n a w ⟨p,L,q,r⟩;have:=l n _ _ r w q;rw[<-mm p] at this;refine wp_mono this ?_;rintro e u v ⟨h,d,i,k⟩;cases e with
 |normal=>obtain⟨g,s,t⟩:=k;exact⟨g,s,h,d,i,t⟩
 |_=>exact⟨h,d,i,k⟩
end
def over(j:Nat->hU)(M:List Nat)(f:Fr):Fr:=f.zipIdx.map fun p=>if M.contains p.2 then j p.2 else p.1
def pin(f:Fr):List (Nat×hU)->Fr
 | []=>f
 | (t,v)::r=>pin (YP f t v) r
def gf(j:Nat->hU)(M:List Nat):Nat->Fr->Fr
 |_,[]=>[]
 |n,v::r=>(if M.contains n then j n else v)::gf j M (n+1) r
def Vo{G:Type}(M:List Nat)(S:G->List (Nat×hU))(H:G->aA)(d:G->Prop)(b:G->Nat)(f:Fr)(g:G)(c:Fr)(L':aA):Prop:=
 ∃a,b a<b g/\d a/\L'=H a/\c=pin (gf (dA c) M 0 f) (S a)
def Vo.mk{G:Type}{M:List Nat}{S:G->List (Nat×hU)}{H:G->aA}{d:G->Prop}{b:G->Nat}{f:Fr}{g:G}{c:Fr}{L':aA}(a:G)
  (e:b a<b g) (h:d a) (i:L'=H a) (j:c=pin (gf (dA c) M 0 f) (S a)):Vo M S H d b f g c L':=⟨a,e,h,i,j⟩
section
variable {P:h_} {w0:hW} {f:Fr} {L:aA} {K:bz}
def Cw.VU{c:Code}{G:Type}(M:List Nat)(S:G->List (Nat×hU))(H:G->aA)(b:G->Prop)(d:G->Nat)(a:G)
  (l:f=pin (gf (dA f) M 0 f) (S a)) (m:L=H a) (o:b a)
  (p:∀ (g:G) (j:Nat->hU),b g->Cw P w0 c (pin (gf j M 0 f) (S g)) (H g)
   (gJ (Vo M S H b d f g) K)):Cw P w0 (.loop c) f L K:=by
 refine Cw.loop (fun n h i=> ∃g j,n=d g/\b g/\i=H g/\h=pin (gf j M 0 f) (S g)) (d a) ⟨a,dA f,rfl,o,m,l⟩ ?_;rintro n h i ⟨g,j,rfl,q,rfl,rfl⟩;refine(p g j q).mono ?_;intro e r x k;cases e with
 |normal=>obtain⟨s,t,u,v,w⟩:=k;exact⟨_,t,s,dA r,rfl,u,v,w⟩
 |_=>exact k
end
end Go.Sx
section
namespace Go.Sx
open Go
def Z2(op:BinOp)(k:IntKind)(a b:BitVec k.bits):Option (BitVec k.bits):=
 match op with
 | .and=>some (a&&&b)
 | .or=>some (a|||b)
 | .xor=>some (a^^^b)
 | .andNot=>some (a&&& ~~~b)
 |_=>none
def qb4(op:BinOp)(a b:Int):Option hU:=
 match op with
 | .eql=>some (.bool (a==b))
 | .neq=>some (.bool (a !=b))
 | .lss=>some (.bool (decide (a<b)))
 | .leq=>some (.bool (decide (a<=b)))
 | .gtr=>some (.bool (decide (a>b)))
 | .geq=>some (.bool (decide (a≥b)))
 |_=>none
def cZ(op:BinOp)(k:IntKind)(a b:Int):Option hU:=
 match op with
 | .add=>some (.int k (k.wrap (a+b)))
 | .sub=>some (.int k (k.wrap (a - b)))
 | .mul=>some (.int k (k.wrap (a*b)))
 | .quo=>if b=0 then none else some (.int k (k.wrap (a.tdiv b)))
 | .rem=>if b=0 then none else some (.int k (a.tmod b))
 | .and=>(Z2 .and k (BitVec.ofInt k.bits a) (BitVec.ofInt k.bits b)).map fun r=>.int k (k.wrap (r.toNat:Int))
 | .or=>(Z2 .or k (BitVec.ofInt k.bits a) (BitVec.ofInt k.bits b)).map fun r=>.int k (k.wrap (r.toNat:Int))
 | .xor=>(Z2 .xor k (BitVec.ofInt k.bits a) (BitVec.ofInt k.bits b)).map fun r=>.int k (k.wrap (r.toNat:Int))
 | .andNot=>(Z2 .andNot k (BitVec.ofInt k.bits a) (BitVec.ofInt k.bits b)).map fun r=>.int k (k.wrap (r.toNat:Int))
 |op=>qb4 op a b
def kM(op:BinOp)(k:IntKind)(a b:Int):Option hU:=
 if b<0 then none else
  match op with
  | .shl=>some (.int k (k.wrap (a*2^ (min b.toNat k.bits))))
  | .shr=>some (.int k (a.fdiv (2^ (min b.toNat k.bits))))
  |_=>none
def qh0(op:BinOp)(a b:ByteArray):Option hU:=
 let eq:=a.toList==b.toList
 let lt:=Op.bytesLess a.toList b.toList
 match op with
 | .add=>if a.size+b.size<=9223372036854775807 then some (.string (a++b)) else none
 | .eql=>some (.bool eq)
 | .neq=>some (.bool !eq)
 | .lss=>some (.bool lt)
 | .leq=>some (.bool (lt||eq))
 | .gtr=>some (.bool !(lt||eq))
 | .geq=>some (.bool !lt)
 |_=>none
def aM(op:BinOp)(x y:hU):Option hU:=
 match x,y with
 | .int k a,.int c b=>
  match op with
  | .shl=>kM .shl k a b
  | .shr=>kM .shr k a b
  |op=>if k=c then cZ op k a b else none
 | .string a,.string b=>qh0 op a b
 |_,_=>none
def unV(op:UnOp)(x:hU):Option hU:=
 match op,x with
 | .neg,.int k n=>some (.int k (k.wrap (0 - n)))
 | .xor,.int k n=>(Z2 .xor k (BitVec.ofInt k.bits (if k.signed then -1 else k.max)) (BitVec.ofInt k.bits n)).map fun r=>.int k (k.wrap (r.toNat:Int))
 | .not,.bool b=>some (.bool !b)
 |_,_=>none
def eD(k:IntKind)(x:hU):Option hU:=
 match x with
 | .int _ n=>some (.int k (k.wrap n))
 |_=>none
def ua{P:h_}{op:BinOp}{t:h7}{x y v:hU}(w:hW)(h:aM op x y=some v):(binOp op t x y).run P w=.ok v w:=by
 unfold aM at h
 split at h
 .rename_i k a j b
  split at h
  .unfold kM at h
   split at h
   .cases h
   rename_i c;simp only[WD] at h;subst h;simp only[binOp,Op.shift,c,↓reduceIte];rfl
  .unfold kM at h
   split at h
   .cases h
   rename_i c;simp only[WD] at h;subst h;simp only[binOp,Op.shift,c,↓reduceIte];rfl
  rename_i d e
  split at h
  .rename_i f;subst f;cases op<;>simp only[cZ,Z2,qb4,Ws,WD,reduceCtorEq] at h<;>first
    | (subst h;simp only[binOp,Op.intArith,Op.intBits,Op.intCmp,ne_eq,not_true_eq_false,↓reduceIte];rfl)
    | (
      split at h
      .cases h
      rename_i c;simp only[WD] at h;subst h;simp only[binOp,Op.intDiv,ne_eq,not_true_eq_false,↓reduceIte,c];rfl)
    | (exact(d rfl).elim)
    | (exact(e rfl).elim)
  cases h
 .rename_i a b;have g:(9223372036854775807:Int)=IntKind.i64.max:=by decide
  cases op<;>simp only[qh0,reduceCtorEq,WD] at h<;>first
   | (subst h;simp only[binOp,Op.stringOp];rfl)
   | (
     split at h
     .rename_i l;simp only[WD] at h;subst h;have i:¬ (((a.size+b.size:Nat):Int)>IntKind.i64.max):=by rw[<-g];omega
      simp only[binOp,Op.stringOp,i,↓reduceIte];rfl
     cases h)
 cases h
def QP{P:h_}{op:UnOp}{x v:hU}(w:hW)(h:unV op x=some v):(Op.unary op x).run P w=.ok v w:=by
 unfold unV at h
 split at h
 .simp only[WD] at h;subst h;rfl
 .simp only[Z2,Ws,WD] at h;subst h;rfl
 .simp only[WD] at h;subst h;rfl
 cases h
def k7(n:Int)(h: -9223372036854775808<=n/\n<=9223372036854775807):IntKind.wrap .i64 n=n:=by
 simp only[IntKind.wrap,IntKind.bits,IntKind.signed,XA]
 split<;>rename_i a<;>simp only[ge_iff_le,XN,Int.not_le] at a<;>omega
def Fo(n:Int):IntKind.wrap .u8 n=((UInt8.ofInt n).toNat:Int):=by simp only[IntKind.wrap,IntKind.bits,IntKind.signed,Xv,VW,↓reduceIte];rw[show UInt8.ofInt n=UInt8.ofNat (n%2^8).toNat from rfl,UInt8.toNat_ofNat'];omega
def Ev(n:Int):IntKind.wrap .u32 n=((UInt32.ofInt n).toNat:Int):=by simp only[IntKind.wrap,IntKind.bits,IntKind.signed,Xv,VW,↓reduceIte];rw[show UInt32.ofInt n=UInt32.ofNat (n%2^32).toNat from rfl,UInt32.toNat_ofNat'];omega
def Ep(n:Int):IntKind.wrap .u64 n=((UInt64.ofInt n).toNat:Int):=by simp only[IntKind.wrap,IntKind.bits,IntKind.signed,Xv,VW,↓reduceIte];rw[show UInt64.ofInt n=UInt64.ofNat (n%2^64).toNat from rfl,UInt64.toNat_ofNat'];omega
def vi(n:Int):hU:=.int .i64 n
def QX(n:Int):Value.int .i64 n=vi n:=(rfl)
def Js(a b:Int)(h: -9223372036854775808<=a+b/\a+b<=9223372036854775807):aM .add (vi a) (vi b)=some (vi (a+b)):=by simp only[aM,vi,cZ,↓reduceIte,k7 _ h]
def Lj(a b:Int)(h: -9223372036854775808<=a - b/\a - b<=9223372036854775807):aM .sub (vi a) (vi b)=some (vi (a - b)):=by simp only[aM,vi,cZ,↓reduceIte,k7 _ h]
def tU(a b:Int)(h: -9223372036854775808<=a*b/\a*b<=9223372036854775807):aM .mul (vi a) (vi b)=some (vi (a*b)):=by simp only[aM,vi,cZ,↓reduceIte,k7 _ h]
def LJ(a b:Int)(h:0<=a/\0<b/\a<=9223372036854775807):aM .quo (vi a) (vi b)=some (vi (a / b)):=by
 have c:(b=0)=False:=by simp only[eq_iff_iff,iff_false];omega
 have e:a.tdiv b=a / b:=Int.tdiv_eq_ediv_of_nonneg h.1;have d:0<=a / b:=Int.ediv_nonneg h.1 oM;have f:a / b<=a:=Int.ediv_le_self b h.1;simp only[aM,vi,cZ,↓reduceIte,c,e,k7 (a / b) ⟨by omega,by omega⟩]
def M2(a b:Int)(h:0<=a/\0<b):aM .rem (vi a) (vi b)=some (vi (a%b)):=by
 have c:(b=0)=False:=by simp only[eq_iff_iff,iff_false];omega
 have e:a.tmod b=a%b:=Int.tmod_eq_emod_of_nonneg h.1;simp only[aM,vi,cZ,↓reduceIte,c,e]
def MR(a b:Int):aM .eql (vi a) (vi b)=some (.bool (a==b)):=(rfl)
def MA(a b:Int):aM .neq (vi a) (vi b)=some (.bool (a !=b)):=(rfl)
def Kd(a b:Int):aM .lss (vi a) (vi b)=some (.bool (decide (a<b))):=(rfl)
def Kz(a b:Int):aM .leq (vi a) (vi b)=some (.bool (decide (a<=b))):=(rfl)
def L_(a b:Int):aM .gtr (vi a) (vi b)=some (.bool (decide (b<a))):=(rfl)
def Ka(a b:Int):aM .geq (vi a) (vi b)=some (.bool (decide (b<=a))):=(rfl)
def Oz(a:Int)(h: -9223372036854775807<=a/\a<=9223372036854775807):unV .neg (vi a)=some (vi (-a)):=by simp only[unV,vi,Int.zero_sub,k7 (-a) ⟨by omega,by omega⟩]
def RM(b:Bool):unV .not (.bool b)=some (.bool !b):=(rfl)
def Gb(n:Int)(h: -9223372036854775808<=n/\n<=9223372036854775807):eD .i64 (vi n)=some (vi n):=by simp only[eD,vi,k7 _ h]
def wV(a:Int)(b:IntKind)(c:Nat)(h:c<63/\0<=a/\a*2^c<=9223372036854775807):aM .shl (vi a) (.int b (c:Int))=some (vi (a*2^c)):=by
 have d:((c:Int)<0)=False:=by simp only[eq_iff_iff,iff_false];omega
 have e:min c 64=c:=by omega
 have f:(0:Int)<=a*2^c:=Int.mul_nonneg h.2.1 (Int.pow_nonneg oM);simp only[aM,vi,kM,d,↓reduceIte,WX,IntKind.bits,e,k7 (a*2^c) ⟨by omega,h.2.2⟩]
def RA(a:Int)(b:IntKind)(c:Nat)(h:c<64/\0<=a):aM .shr (vi a) (.int b (c:Int))=some (vi (a / 2^c)):=by
 have d:((c:Int)<0)=False:=by simp only[eq_iff_iff,iff_false];omega
 have e:min c 64=c:=by omega
 have f:(0:Int)<=2^c:=Int.pow_nonneg oM;simp only[aM,vi,kM,d,↓reduceIte,WX,IntKind.bits,e,Int.fdiv_eq_ediv_of_nonneg _ f]
def v8(x:Vf):hU:=.int .u8 (x.toNat:Int)
def z_(n:Nat)(h:n<256):IntKind.wrap .u8 (n:Int)=(n:Int):=by simp only[IntKind.wrap,IntKind.bits,IntKind.signed,Xv,VW,↓reduceIte];omega
def Cn(n:Nat):IntKind.wrap .u8 (n:Int)=((n%256:Nat):Int):=by simp only[IntKind.wrap,IntKind.bits,IntKind.signed,Xv,VW,↓reduceIte];omega
def BB(x:Vf):BitVec.ofInt (IntKind.bits .u8) (x.toNat:Int)=x.toBitVec:=by apply BitVec.eq_of_toNat_eq;simp only[IntKind.bits,BitVec.ofInt_natCast,BitVec.toNat_ofNat,UInt8.toNat_toBitVec];exact X7 x.toNat_lt
def TW(n:Nat)(h:n<256):Value.int .u8 (no_index (@OfNat.ofNat Int n _))=v8 (@OfNat.ofNat Vf n _):=by
 have:((@OfNat.ofNat Vf n _).toNat:Int)=(@OfNat.ofNat Int n _):=by
  have e:(@OfNat.ofNat Vf n _).toNat=n:=by rw[UInt8.toNat_ofNat];exact X7 h
  rw[e];rfl
 rw[v8,this]
def IZ(x y:Vf):aM .add (v8 x) (v8 y)=some (v8 (x+y)):=by simp only[aM,v8,cZ,↓reduceIte,UInt8.toNat_add];rw[<-Int.natCast_add,Cn]
def JA(x y:Vf):aM .mul (v8 x) (v8 y)=some (v8 (x*y)):=by simp only[aM,v8,cZ,↓reduceIte,UInt8.toNat_mul];rw[<-Y_,Cn]
def KT(x y:Vf):aM .and (v8 x) (v8 y)=some (v8 (x&&&y)):=by simp only[aM,v8,cZ,↓reduceIte,Z2,BB,Ws];show some (Value.int .u8 (IntKind.wrap .u8 ((x&&&y).toNat:Int)))=_;rw[z_ _ (x&&&y).toNat_lt]
def LK(x y:Vf):aM .or (v8 x) (v8 y)=some (v8 (x|||y)):=by simp only[aM,v8,cZ,↓reduceIte,Z2,BB,Ws];show some (Value.int .u8 (IntKind.wrap .u8 ((x|||y).toNat:Int)))=_;rw[z_ _ (x|||y).toNat_lt]
def iw(x:Vf)(n:Nat):Vf:=UInt8.ofNat (x.toNat / 2^n)
def J7(x y:Vf):aM .lss (v8 x) (v8 y)=some (.bool (decide (x<y))):=by simp only[aM,v8,cZ,↓reduceIte,qb4,UInt8.lt_iff_toNat_lt,Int.ofNat_lt,Int.ofNat_le]
def J8(x y:Vf):aM .leq (v8 x) (v8 y)=some (.bool (decide (x<=y))):=by simp only[aM,v8,cZ,↓reduceIte,qb4,UInt8.le_iff_toNat_le,Int.ofNat_lt,Int.ofNat_le]
def KY(x y:Vf):aM .gtr (v8 x) (v8 y)=some (.bool (decide (y<x))):=by simp only[aM,v8,cZ,↓reduceIte,qb4,UInt8.lt_iff_toNat_lt,Int.ofNat_lt,Int.ofNat_le,gt_iff_lt,ge_iff_le]
def JB(x y:Vf):aM .geq (v8 x) (v8 y)=some (.bool (decide (y<=x))):=by simp only[aM,v8,cZ,↓reduceIte,qb4,UInt8.le_iff_toNat_le,Int.ofNat_lt,Int.ofNat_le,gt_iff_lt,ge_iff_le]
def Ak(x y:Vf):((x.toNat:Int)==(y.toNat:Int))=(x==y):=by rw[YZ,W8,W8,Int.ofNat_inj,UInt8.toNat_inj]
def KJ(x y:Vf):aM .eql (v8 x) (v8 y)=some (.bool (x==y)):=by simp only[aM,v8,cZ,↓reduceIte,qb4,Ak]
def Ii(x y:Vf):aM .neq (v8 x) (v8 y)=some (.bool (x !=y)):=by simp only[aM,v8,cZ,↓reduceIte,qb4,bne,Ak]
def sU(x y:Vf)(h:0<y.toNat):aM .rem (v8 x) (v8 y)=some (v8 (x%y)):=by
 have e:((x.toNat:Int).tmod (y.toNat:Int))=((x%y).toNat:Int):=by rw[UInt8.toNat_mod,Int.tmod_eq_emod_of_nonneg oM,Int.natCast_emod]
 have a:((y.toNat:Int)=0)=False:=by simp only[eq_iff_iff,iff_false];omega
 simp only[aM,v8,cZ,↓reduceIte,a,e]
def uU(x:Vf)(b:IntKind)(c:Nat):aM .shr (v8 x) (.int b (c:Int))=some (v8 (iw x c)):=by
 have a:=x.toNat_lt;have d:((c:Int)<0)=False:=by simp only[eq_iff_iff,iff_false];omega
 have e:((x.toNat:Int).fdiv (2^ (min c 8)))=((iw x c).toNat:Int):=by
  have f:(2:Int)^ (min c 8)=((2^ (min c 8):Nat):Int):=by rw[Int.natCast_pow];rfl
  rw[f,Int.fdiv_eq_ediv_of_nonneg _ (Int.natCast_nonneg _),<-Int.natCast_ediv,iw,UInt8.toNat_ofNat'];congr 1;rw[X7 (Nat.lt_of_le_of_lt (Nat.div_le_self _ _) a)];by_cases g:c<=8
  .rw[Nat.min_eq_left g]
  rw[Nat.min_eq_right oM,Nat.div_eq_of_lt (by simpa using a),Nat.div_eq_of_lt];exact Zx (by simpa using a) (Nat.pow_le_pow_right oM (by omega:8<=c))
 simp only[aM,v8,kM,d,↓reduceIte,WX,IntKind.bits,e]
def v16(x:UInt16):hU:=.int .u16 (x.toNat:Int)
def PY(n:Nat)(h:n<65536):Value.int .u16 (no_index (@OfNat.ofNat Int n _))=v16 (@OfNat.ofNat UInt16 n _):=by
 have:((@OfNat.ofNat UInt16 n _).toNat:Int)=(@OfNat.ofNat Int n _):=by
  have e:(@OfNat.ofNat UInt16 n _).toNat=n:=by rw[UInt16.toNat_ofNat];exact X7 h
  rw[e];rfl
 rw[v16,this]
def v32(x:UInt32):hU:=.int .u32 (x.toNat:Int)
def CL(n:Nat)(h:n<4294967296):IntKind.wrap .u32 (n:Int)=(n:Int):=by simp only[IntKind.wrap,IntKind.bits,IntKind.signed,Xv,VW,↓reduceIte];omega
def qG(n:Nat):IntKind.wrap .u32 (n:Int)=((n%4294967296:Nat):Int):=by simp only[IntKind.wrap,IntKind.bits,IntKind.signed,Xv,VW,↓reduceIte];omega
def lN(x:UInt32):BitVec.ofInt (IntKind.bits .u32) (x.toNat:Int)=x.toBitVec:=by apply BitVec.eq_of_toNat_eq;simp only[IntKind.bits,BitVec.ofInt_natCast,BitVec.toNat_ofNat,UInt32.toNat_toBitVec];exact X7 x.toNat_lt
def Qt(n:Nat)(h:n<4294967296):Value.int .u32 (no_index (@OfNat.ofNat Int n _))=v32 (@OfNat.ofNat UInt32 n _):=by
 have:((@OfNat.ofNat UInt32 n _).toNat:Int)=(@OfNat.ofNat Int n _):=by
  have e:(@OfNat.ofNat UInt32 n _).toNat=n:=by rw[UInt32.toNat_ofNat];exact X7 h
  rw[e];rfl
 rw[v32,this]
def HI(x y:UInt32):aM .add (v32 x) (v32 y)=some (v32 (x+y)):=by simp only[aM,v32,cZ,↓reduceIte,UInt32.toNat_add];rw[<-Int.natCast_add,qG]
def H4(x y:UInt32):aM .mul (v32 x) (v32 y)=some (v32 (x*y)):=by simp only[aM,v32,cZ,↓reduceIte,UInt32.toNat_mul];rw[<-Y_,qG]
def HM(x y:UInt32):aM .sub (v32 x) (v32 y)=some (v32 (x - y)):=by
 have a:=x.toNat_lt;have b:=y.toNat_lt;have e:IntKind.wrap .u32 ((x.toNat:Int) - (y.toNat:Int))=((x - y).toNat:Int):=by rw[UInt32.toNat_sub];simp only[IntKind.wrap,IntKind.bits,IntKind.signed,Xv,VW,↓reduceIte];omega
 simp only[aM,v32,cZ,↓reduceIte,e]
def IM(x y:UInt32):aM .and (v32 x) (v32 y)=some (v32 (x&&&y)):=by simp only[aM,v32,cZ,↓reduceIte,Z2,lN,Ws];show some (Value.int .u32 (IntKind.wrap .u32 ((x&&&y).toNat:Int)))=_;rw[CL _ (x&&&y).toNat_lt]
def KE(x y:UInt32):aM .or (v32 x) (v32 y)=some (v32 (x|||y)):=by simp only[aM,v32,cZ,↓reduceIte,Z2,lN,Ws];show some (Value.int .u32 (IntKind.wrap .u32 ((x|||y).toNat:Int)))=_;rw[CL _ (x|||y).toNat_lt]
def Hj(x y:UInt32):aM .xor (v32 x) (v32 y)=some (v32 (x^^^y)):=by simp only[aM,v32,cZ,↓reduceIte,Z2,lN,Ws];show some (Value.int .u32 (IntKind.wrap .u32 ((x^^^y).toNat:Int)))=_;rw[CL _ (x^^^y).toNat_lt]
def J9(x:UInt32):unV .xor (v32 x)=some (v32 (~~~ x)):=by
 have b:=x.toNat_lt;have e:(BitVec.ofInt (IntKind.bits .u32) (IntKind.max .u32))=BitVec.allOnes 32:=rfl;have a:(BitVec.allOnes 32^^^x.toBitVec)=(~~~ x).toBitVec:=by rw[UInt32.toBitVec_not];exact BitVec.allOnes_xor
 simp only[unV,v32,Z2,lN,IntKind.signed,VW,↓reduceIte,e,Ws];show some (Value.int .u32 (IntKind.wrap .u32 ((BitVec.allOnes 32^^^x.toBitVec).toNat:Int)))=_;rw[a];show some (Value.int .u32 (IntKind.wrap .u32 ((~~~ x).toNat:Int)))=_;rw[CL _ (~~~ x).toNat_lt]
def fA(x:UInt32)(n:Nat):UInt32:=UInt32.ofNat (x.toNat / 2^n)
def mL(x:UInt32)(n:Nat):UInt32:=UInt32.ofNat (x.toNat*2^n)
def H9(x y:UInt32):aM .geq (v32 x) (v32 y)=some (.bool (decide (y<=x))):=by simp only[aM,v32,cZ,↓reduceIte,qb4,UInt32.le_iff_toNat_le,Int.ofNat_lt,Int.ofNat_le,gt_iff_lt,ge_iff_le]
def QB(x y:UInt32):((x.toNat:Int)==(y.toNat:Int))=(x==y):=by rw[YZ,W8,W8,Int.ofNat_inj,UInt32.toNat_inj]
def H7(x y:UInt32):aM .eql (v32 x) (v32 y)=some (.bool (x==y)):=by simp only[aM,v32,cZ,↓reduceIte,qb4,QB]
def BI(x y:UInt32)(h:0<y.toNat):aM .quo (v32 x) (v32 y)=some (v32 (x / y)):=by
 have a:=x.toNat_lt;have e:IntKind.wrap .u32 ((x.toNat:Int).tdiv (y.toNat:Int))=((x / y).toNat:Int):=by rw[UInt32.toNat_div,Int.tdiv_eq_ediv_of_nonneg oM,<-Int.natCast_ediv,qG];congr 1;exact X7 (Nat.lt_of_le_of_lt (Nat.div_le_self _ _) a)
 have b:((y.toNat:Int)=0)=False:=by simp only[eq_iff_iff,iff_false];omega
 simp only[aM,v32,cZ,↓reduceIte,b,e]
def BL(x y:UInt32)(h:0<y.toNat):aM .rem (v32 x) (v32 y)=some (v32 (x%y)):=by
 have e:((x.toNat:Int).tmod (y.toNat:Int))=((x%y).toNat:Int):=by rw[UInt32.toNat_mod,Int.tmod_eq_emod_of_nonneg oM,Int.natCast_emod]
 have a:((y.toNat:Int)=0)=False:=by simp only[eq_iff_iff,iff_false];omega
 simp only[aM,v32,cZ,↓reduceIte,a,e]
def t6(x:UInt32)(b:IntKind)(c:Nat):aM .shr (v32 x) (.int b (c:Int))=some (v32 (fA x c)):=by
 have a:=x.toNat_lt;have d:((c:Int)<0)=False:=by simp only[eq_iff_iff,iff_false];omega
 have e:((x.toNat:Int).fdiv (2^ (min c 32)))=((fA x c).toNat:Int):=by
  have f:(2:Int)^ (min c 32)=((2^ (min c 32):Nat):Int):=by rw[Int.natCast_pow];rfl
  rw[f,Int.fdiv_eq_ediv_of_nonneg _ (Int.natCast_nonneg _),<-Int.natCast_ediv,fA,UInt32.toNat_ofNat'];congr 1;rw[X7 (Nat.lt_of_le_of_lt (Nat.div_le_self _ _) a)];by_cases g:c<=32
  .rw[Nat.min_eq_left g]
  rw[Nat.min_eq_right oM,Nat.div_eq_of_lt (by simpa using a),Nat.div_eq_of_lt];exact Zx (by simpa using a) (Nat.pow_le_pow_right oM (by omega:32<=c))
 simp only[aM,v32,kM,d,↓reduceIte,WX,IntKind.bits,e]
def tm(x:UInt32)(a:IntKind)(c:Nat):aM .shl (v32 x) (.int a (c:Int))=some (v32 (mL x c)):=by
 have b:((c:Int)<0)=False:=by simp only[eq_iff_iff,iff_false];omega
 have e:IntKind.wrap .u32 ((x.toNat:Int)* (2^ (min c 32)))=((mL x c).toNat:Int):=by
  have d:(2:Int)^ (min c 32)=((2^ (min c 32):Nat):Int):=by rw[Int.natCast_pow];rfl
  rw[d,<-Y_,qG,mL,UInt32.toNat_ofNat'];congr 1;by_cases f:c<=32
  .rw[Nat.min_eq_left f]
  rw[Nat.min_eq_right oM];have:2^c=2^32*2^ (c - 32):=by rw[<-Nat.pow_add];congr 1;omega
  rw[this,<-Nat.mul_assoc,Nat.mul_right_comm];simp[Nat.mul_mod_left]
 simp only[aM,v32,kM,b,↓reduceIte,WX,IntKind.bits,e]
def v64(x:UInt64):hU:=.int .u64 (x.toNat:Int)
def PC(n:Nat)(h:n<18446744073709551616):IntKind.wrap .u64 (n:Int)=(n:Int):=by simp only[IntKind.wrap,IntKind.bits,IntKind.signed,Xv,VW,↓reduceIte];omega
def Da(n:Nat):IntKind.wrap .u64 (n:Int)=((n%18446744073709551616:Nat):Int):=by simp only[IntKind.wrap,IntKind.bits,IntKind.signed,Xv,VW,↓reduceIte];omega
def SY(x:UInt64):BitVec.ofInt (IntKind.bits .u64) (x.toNat:Int)=x.toBitVec:=by apply BitVec.eq_of_toNat_eq;simp only[IntKind.bits,BitVec.ofInt_natCast,BitVec.toNat_ofNat,UInt64.toNat_toBitVec];exact X7 x.toNat_lt
def QH(n:Nat)(h:n<18446744073709551616):Value.int .u64 (no_index (@OfNat.ofNat Int n _))=v64 (@OfNat.ofNat UInt64 n _):=by
 have:((@OfNat.ofNat UInt64 n _).toNat:Int)=(@OfNat.ofNat Int n _):=by
  have e:(@OfNat.ofNat UInt64 n _).toNat=n:=by rw[UInt64.toNat_ofNat];exact X7 h
  rw[e];rfl
 rw[v64,this]
def Ge(x y:UInt64):aM .add (v64 x) (v64 y)=some (v64 (x+y)):=by simp only[aM,v64,cZ,↓reduceIte,UInt64.toNat_add];rw[<-Int.natCast_add,Da]
def Hf(x y:UInt64):aM .mul (v64 x) (v64 y)=some (v64 (x*y)):=by simp only[aM,v64,cZ,↓reduceIte,UInt64.toNat_mul];rw[<-Y_,Da]
def H6(x y:UInt64):aM .sub (v64 x) (v64 y)=some (v64 (x - y)):=by
 have a:=x.toNat_lt;have b:=y.toNat_lt;have e:IntKind.wrap .u64 ((x.toNat:Int) - (y.toNat:Int))=((x - y).toNat:Int):=by rw[UInt64.toNat_sub];simp only[IntKind.wrap,IntKind.bits,IntKind.signed,Xv,VW,↓reduceIte];omega
 simp only[aM,v64,cZ,↓reduceIte,e]
def Hm(x y:UInt64):aM .and (v64 x) (v64 y)=some (v64 (x&&&y)):=by simp only[aM,v64,cZ,↓reduceIte,Z2,SY,Ws];show some (Value.int .u64 (IntKind.wrap .u64 ((x&&&y).toNat:Int)))=_;rw[PC _ (x&&&y).toNat_lt]
def ku(x:UInt64)(n:Nat):UInt64:=UInt64.ofNat (x.toNat / 2^n)
def Ht(x y:UInt64):aM .geq (v64 x) (v64 y)=some (.bool (decide (y<=x))):=by simp only[aM,v64,cZ,↓reduceIte,qb4,UInt64.le_iff_toNat_le,Int.ofNat_lt,Int.ofNat_le,gt_iff_lt,ge_iff_le]
def HO(x y:UInt64)(h:0<y.toNat):aM .quo (v64 x) (v64 y)=some (v64 (x / y)):=by
 have a:=x.toNat_lt;have e:IntKind.wrap .u64 ((x.toNat:Int).tdiv (y.toNat:Int))=((x / y).toNat:Int):=by rw[UInt64.toNat_div,Int.tdiv_eq_ediv_of_nonneg oM,<-Int.natCast_ediv,Da];congr 1;exact X7 (Nat.lt_of_le_of_lt (Nat.div_le_self _ _) a)
 have b:((y.toNat:Int)=0)=False:=by simp only[eq_iff_iff,iff_false];omega
 simp only[aM,v64,cZ,↓reduceIte,b,e]
def Gg(x y:UInt64)(h:0<y.toNat):aM .rem (v64 x) (v64 y)=some (v64 (x%y)):=by
 have e:((x.toNat:Int).tmod (y.toNat:Int))=((x%y).toNat:Int):=by rw[UInt64.toNat_mod,Int.tmod_eq_emod_of_nonneg oM,Int.natCast_emod]
 have a:((y.toNat:Int)=0)=False:=by simp only[eq_iff_iff,iff_false];omega
 simp only[aM,v64,cZ,↓reduceIte,a,e]
def tc(x:UInt64)(b:IntKind)(c:Nat):aM .shr (v64 x) (.int b (c:Int))=some (v64 (ku x c)):=by
 have a:=x.toNat_lt;have d:((c:Int)<0)=False:=by simp only[eq_iff_iff,iff_false];omega
 have e:((x.toNat:Int).fdiv (2^ (min c 64)))=((ku x c).toNat:Int):=by
  have f:(2:Int)^ (min c 64)=((2^ (min c 64):Nat):Int):=by rw[Int.natCast_pow];rfl
  rw[f,Int.fdiv_eq_ediv_of_nonneg _ (Int.natCast_nonneg _),<-Int.natCast_ediv,ku,UInt64.toNat_ofNat'];congr 1;rw[X7 (Nat.lt_of_le_of_lt (Nat.div_le_self _ _) a)];by_cases g:c<=64
  .rw[Nat.min_eq_left g]
  rw[Nat.min_eq_right oM,Nat.div_eq_of_lt (by simpa using a),Nat.div_eq_of_lt];exact Zx (by simpa using a) (Nat.pow_le_pow_right oM (by omega:64<=c))
 simp only[aM,v64,kM,d,↓reduceIte,WX,IntKind.bits,e]
def Ha(x:Vf):eD .u32 (v8 x)=some (v32 (UInt32.ofNat x.toNat)):=by simp only[eD,v8,v32,qG,UInt32.toNat_ofNat']
def En(x:Vf)(c:UInt64):aM .shr (v8 x) (v64 c)=some (v8 (iw x c.toNat)):=uU x _ _
def U1(x:Vf)(a:IntKind)(c:Int)(h:0<=c):aM .shr (v8 x) (.int a c)=some (v8 (iw x c.toNat)):=by obtain⟨n,rfl⟩:=ZT h;exact uU x _ _
def H8(x:Vf):eD .i64 (v8 x)=some (.int .i64 ((x.toNat:Int))):=by have a:=x.toNat_lt;simp only[eD,v8];rw[k7 _ oM]
def Ui(a:IntKind)(n:Int):eD .u8 (.int a n)=some (v8 (UInt8.ofInt n)):=by simp only[eD,v8,Fo]
def G9(x:UInt16):eD .i64 (v16 x)=some (.int .i64 ((x.toNat:Int))):=by have a:=x.toNat_lt;simp only[eD,v16];rw[k7 _ oM]
def IG(x:UInt32):eD .u8 (v32 x)=some (v8 (UInt8.ofNat x.toNat)):=by simp only[eD,v32,v8,Cn,UInt8.toNat_ofNat']
def F8(x:UInt32)(c:UInt64):aM .shr (v32 x) (v64 c)=some (v32 (fA x c.toNat)):=t6 x _ _
def VE(x:UInt32)(c:UInt64):aM .shl (v32 x) (v64 c)=some (v32 (mL x c.toNat)):=tm x _ _
def Tu(x:UInt32)(a:IntKind)(c:Int)(h:0<=c):aM .shr (v32 x) (.int a c)=some (v32 (fA x c.toNat)):=by obtain⟨n,rfl⟩:=ZT h;exact t6 x _ _
def Uw(x:UInt32)(a:IntKind)(c:Int)(h:0<=c):aM .shl (v32 x) (.int a c)=some (v32 (mL x c.toNat)):=by obtain⟨n,rfl⟩:=ZT h;exact tm x _ _
def UG(a:IntKind)(n:Int):eD .u32 (.int a n)=some (v32 (UInt32.ofInt n)):=by simp only[eD,v32,Ev]
def HN(x:UInt64):eD .u8 (v64 x)=some (v8 (UInt8.ofNat x.toNat)):=by simp only[eD,v64,v8,Cn,UInt8.toNat_ofNat']
def Ga(x:UInt64):eD .u32 (v64 x)=some (v32 (UInt32.ofNat x.toNat)):=by simp only[eD,v64,v32,qG,UInt32.toNat_ofNat']
def FA(x:UInt64)(c:UInt64):aM .shr (v64 x) (v64 c)=some (v64 (ku x c.toNat)):=tc x _ _
def Uv(x:UInt64)(a:IntKind)(c:Int)(h:0<=c):aM .shr (v64 x) (.int a c)=some (v64 (ku x c.toNat)):=by obtain⟨n,rfl⟩:=ZT h;exact tc x _ _
def G5(x:UInt64):eD .i64 (v64 x)=some (.int .i64 (IntKind.wrap .i64 (x.toNat:Int))):=by have a:=x.toNat_lt;simp only[eD,v64]
def UN(a:IntKind)(n:Int):eD .u64 (.int a n)=some (v64 (UInt64.ofInt n)):=by simp only[eD,v64,Ep]
def JT(n:Int):eD .u8 (vi n)=some (v8 (UInt8.ofInt n)):=Ui _ n
def IN(n:Int):eD .u32 (vi n)=some (v32 (UInt32.ofInt n)):=UG _ n
def IL(n:Int):eD .u64 (vi n)=some (v64 (UInt64.ofInt n)):=UN _ n
def Fs(x:Vf)(c:Int)(h:0<=c):aM .shr (v8 x) (vi c)=some (v8 (iw x c.toNat)):=U1 x _ c h
def F4(x:UInt32)(c:Int)(h:0<=c):aM .shr (v32 x) (vi c)=some (v32 (fA x c.toNat)):=Tu x _ c h
def Eg(x:UInt32)(c:Int)(h:0<=c):aM .shl (v32 x) (vi c)=some (v32 (mL x c.toNat)):=Uw x _ c h
def Eu(x:UInt64)(c:Int)(h:0<=c):aM .shr (v64 x) (vi c)=some (v64 (ku x c.toNat)):=Uv x _ c h
end Go.Sx
end
section
namespace Go.Sx
open Go
def An:TypeDesc->Bool
 | .struct _=>true
 | .array _ _=>true
 |_=>false
def aU(P:h_)(t:h7):Option (Bool×Nat):=
 match P.underlying t,P.info? t with
 |some d,some i=>some (An d,i.size)
 |_,_=>none
inductive Ix where
 |arr (n:Nat) (m:Bool×Nat)
 |sl (m:Bool×Nat)
 |str
 |no
def YJ(P:h_)(t:h7):Ix:=
 match P.underlying t with
 |some (.array n e)=>match aU P e with|some m=>.arr n m|none=>.no
 |some (.slice e)=>match aU P e with|some m=>.sl m|none=>.no
 |some .string=>.str
 |_=>.no
def an(P:h_)(t:h7)(i:Nat):Option (Nat× (Bool×Nat)):=
 match P.underlying t with
 |some (.struct fs)=>match fs[i]? with
  |some a=>match aU P a.type with
   |some m=>some (a.offset,m)
   |none=>none
  |none=>none
 |_=>none
inductive Cv where
 |int (k:IntKind)
 |str
 |bytesStr
 |strBytes (e:h7)
 |no
def Z_(P:h_)(s d:h7):Cv:=
 match P.underlying s,P.underlying d with
 |some (.int _),some (.int k)=>.int k
 |some .string,some .string=>.str
 |some (.slice e),some .string=>match P.underlying e with|some (.int .u8)=>.bytesStr|_=>.no
 |some .string,some (.slice e)=>match P.underlying e with|some (.int .u8)=>.strBytes e|_=>.no
 |_,_=>.no
section
variable {P:h_}
def u2{t:h7}{m:Bool×Nat}(h:aU P t=some m):∃d i,P.underlying t=some d/\P.info? t=some i/\An d=m.1/\i.size=m.2:=by
 unfold aU at h
 split at h
 .rename_i d i a b;cases h;exact⟨d,i,a,b,rfl,rfl⟩
 cases h
def EC{t:h7}{m:Bool×Nat}(h:aU P t=some m)(w:hW):(isAgg t).run P w=.ok m.1 w:=by obtain⟨d,i,a,c,b,_⟩:=u2 h;unfold isAgg;rw[Vp,Wn a w,<-b];cases d<;>rfl
def ei{t:h7}{m:Bool×Nat}(h:aU P t=some m)(w:hW):(sizeOf t).run P w=.ok m.2 w:=by obtain⟨d,i,c,a,_,b⟩:=u2 h;simp[sizeOf,typeInfo,a,b]
def Xj(m:Bool×Nat)(cs:Array hU)(off:Nat):Option hU:=
 if m.1 then some (.agg (cs.extract off (off+m.2))) else cs[off]?
def k5{t:h7}{m:Bool×Nat}(h:aU P t=some m){cs:Array hU}{off:Nat}{v:hU}(a:Xj m cs off=some v)(w:hW):(part t cs off).run P w=.ok v w:=by
 unfold part;rw[Vp,EC h w];simp only[VT];unfold Xj at a;cases b:m.1 with
 |true=>rw[b] at a;simp only[↓reduceIte,WD] at a;simp only[↓reduceIte];rw[Vp,ei h w];simp only[VT,Wm,a]
 |false=>rw[b] at a;simp only[VW,↓reduceIte] at a;simp only[VW,↓reduceIte,a,Wm]
end
def vp(b off:Nat):hU:=.pointer (some ⟨b,off,none⟩)
def Xr(b off n c:Nat):hU:=.slice (some ⟨b,off,none⟩) n c
def vs(l:No):hU:=.string ⟨l.toArray⟩
def ic(b o n:Nat):(Addr.mk b o none).add n=⟨b,o+n,none⟩:=by unfold Addr.add;split<;>simp_all
def ixI:hU->Option Int
 | .int _ n=>some n
 |_=>none
def j9(x:Ix)(v:hU)(i:Option Int):Option hU:=
 match x,v,i with
 | .arr n m,.agg a,some k=>if 0<=k/\k<n then Xj m a (k.toNat*m.2) else none
 | .str,.string s,some k=>if 0<=k then(s[k.toNat]?).map fun b=>.int .u8 (b.toNat:Int) else none
 |_,_,_=>none
def ez(x:Ix)(v:hU)(i:Option Int):Option hU:=
 match x,v,i with
 | .arr n m,.pointer (some a),some k=>if 0<=k/\k<n then some (.pointer (some (a.add (k.toNat*m.2)))) else none
 | .sl m,.slice (some a) n _,some k=>if 0<=k/\k<n then some (.pointer (some (a.add (k.toNat*m.2)))) else none
 |_,_,_=>none
def qO(x:Option (Nat× (Bool×Nat)))(v:hU):Option hU:=
 match x,v with
 |some (off,m),.pointer (some a)=>if m.2=0 then none else some (.pointer (some (a.add off)))
 |_,_=>none
def lV(x:Option (Nat× (Bool×Nat)))(v:hU):Option hU:=
 match x,v with
 |some (off,m),.agg a=>Xj m a off
 |_,_=>none
def qy5(v:hU):Option hU:=
 match v with
 | .pointer (some a)=>some (.pointer (some a))
 | .func (.func k) a b=>some (.func (.func k) a b)
 |_=>none
def Bz(v:hU)(i:Nat):Option hU:=
 match v with
 | .tuple vs=>vs[i]?
 |_=>none
def Yw(x:Ix)(v:hU):Option hU:=
 match x,v with
 | .str,.string s=>some (.int .i64 s.size)
 | .arr n _,_=>some (.int .i64 n)
 | .sl _,.slice _ n _=>some (.int .i64 n)
 |_,_=>none
def qo5(x:Ix)(v:hU):Option hU:=
 match x,v with
 | .arr n _,_=>some (.int .i64 n)
 | .sl _,.slice _ _ c=>some (.int .i64 c)
 |_,_=>none
def fG(c a b:hU):Option hU:=
 match c with
 | .bool true=>some a
 | .bool false=>some b
 |_=>none
def qc5(n c:Nat)(a b:Option (Option Int)):Option (Nat×Nat):=
 match a,b with
 |none,none=>some (0,n)
 |some (some l),none=>if 0<=l/\l<=n then some (l.toNat,n) else none
 |none,some (some h)=>if 0<=h/\h<=c then some (0,h.toNat) else none
 |some (some l),some (some h)=>if 0<=l/\l<=h/\h<=c then some (l.toNat,h.toNat) else none
 |_,_=>none
def eN(x:Ix)(v:hU)(b d:Option (Option Int)):Option hU:=
 match x,v with
 | .str,.string s=>match qc5 s.size s.size b d with
  |some (l,h)=>some (.string (s.extract l h))
  |none=>none
 | .sl m,.slice a n c=>match qc5 n c b d with
  |some (l,h)=>some (.slice (if c=l then a else a.map (·.add (l*m.2))) (h - l) (c - l))
  |none=>none
 | .arr n m,.pointer (some a)=>match qc5 n n b d with
  |some (l,h)=>some (.slice (some (if n=l then a else a.add (l*m.2))) (h - l) (n - l))
  |none=>none
 |_,_=>none
def aF(m:Option (Bool×Nat))(o:Option Obj)(off:Nat):Option hU:=
 match m,o with
 |some (true,n),some (.cells a _ _)=>if off+n<=a.size then some (.agg (a.extract off (off+n))) else none
 |some (false,_),some (.cells a _ _)=>a[off]?
 |_,_=>none
def mK(m:Option (Bool×Nat))(w0:hW)(L:aA)(v:hU):Option hU:=
 match v with
 | .pointer (some ⟨b,off,none⟩)=>aF m (aG w0 L b) off
 |_=>none
def mH:List hU->Option No
 | []=>some []
 | .int .u8 n::r=>match mH r with
  |some l=>some (UInt8.ofNat n.toNat::l)
  |none=>none
 |_=>none
def e_(o:Option Obj)(off n:Nat):Option hU:=
 match o with
 |some (.cells a _ _)=>if off+n<=a.size then(mH (a.extract off (off+n)).toList).map fun l=>.string ⟨l.toArray⟩ else none
 |_=>none
def nz(w0:hW)(L:aA)(v:hU):Option hU:=
 match v with
 | .slice none _ _=>some (.string .empty)
 | .slice (some ⟨b,off,none⟩) n _=>e_ (aG w0 L b) off n
 |_=>none
def fN(w0:hW)(L:aA)(c:Cv)(v:hU):Option hU:=
 match c with
 | .int k=>eD k v
 | .str=>match v with| .string s=>some (.string s) |_=>none
 | .bytesStr=>nz w0 L v
 |_=>none
def cg(d:Option TypeDesc)(x y:hU):Option Bool:=
 match d,x,y with
 |some (.pointer _),.pointer none,.pointer b=>some b.isNone
 |some (.pointer _),.pointer (some _),.pointer none=>some false
 |some (.slice _),.slice none _ _,.slice b _ _=>some b.isNone
 |some (.slice _),.slice (some _) _ _,.slice none _ _=>some false
 |some (.map _ _),.map none,.map b=>some b.isNone
 |some (.map _ _),.map (some _),.map none=>some false
 |some (.func _ _ _),.nilFunc,.nilFunc=>some true
 |some (.func _ _ _),.nilFunc,.func _ _ _=>some false
 |some (.func _ _ _),.func _ _ _,.nilFunc=>some false
 |some .bool,.bool a,.bool b=>some (a==b)
 |_,_,_=>none
def cm:hU->Bool
 | .int _ _=>true
 | .string _=>true
 |_=>false
def rB(f:Nat->Option Bool):List Nat->Option Bool
 | []=>some true
 |i::r=>match f i with
  |some true=>rB f r
  |some false=>some false
  |none=>none
def pS(f:Field->Option Bool):List Field->Option Bool
 | []=>some true
 |x::r=>if x.name≠ "_" then(match f x with
  |some true=>pS f r
  |some false=>some false
  |none=>none) else pS f r
def kV(m:Option (Bool×Nat))(f:hU->hU->Option Bool)(xs c:Array hU)(off:Nat):Option Bool:=
 match m with
 |some m=>match Xj m xs off,Xj m c off with
  |some a,some b=>f a b
  |_,_=>none
 |none=>none
def eqD(P:h_):Nat->h7->hU->hU->Option Bool
 |0,_,_,_=>none
 |d+1,t,x,y=>match P.underlying t,x,y with
  |some (.int _),.int k a,.int h b=>if k=h then some (a==b) else none
  |some .string,.string a,.string b=>some (a==b)
  |some (.array n e),.agg c,.agg g=>match aU P e with
   |some m=>rB (fun i=>kV (some m) (eqD P d e) c g (i*m.2)) (List.range n)
   |none=>none
  |some (.struct fs),.agg c,.agg g=>if P.stoodInHeld t then none else
   pS (fun f=>kV (aU P f.type) (eqD P d f.type) c g f.offset) fs.toList
  |D,x,y=>cg D x y
def Zq(P:h_)(t:h7)(x y:hU):Option Bool:=
 match x,y with
 | .agg a,.agg b=>if P.eqGuardType P.depth t then none else eqD P 8 t (.agg a) (.agg b)
 |x,y=>cg (P.underlying t) x y
def ak(P:h_)(op:BinOp)(t:h7)(x y:hU):Option hU:=
 if cm x&&cm y then aM op x y
 else match op with
  | .eql=>(Zq P t x y).map fun b=>.bool b
  | .neq=>(Zq P t x y).map fun b=>.bool (!b)
  |_=>none
def fT(P:h_)(w0:hW)(L:aA)(f:Fr):Op->Option hU
 | .move x=>some (ev f x)
 | .assign x=>some (ev f x)
 | .pick c a b=>fG (ev f c) (ev f a) (ev f b)
 | .binOp e t x y _=>ak P e t (ev f x) (ev f y)
 | .unOp e _ x=>unV e (ev f x)
 | .convert s d x=>fN w0 L (Z_ P s d) (ev f x)
 | .nilCheck x=>qy5 (ev f x)
 | .fieldAddr s x i=>qO (an P s i) (ev f x)
 | .field s x i=>lV (an P s i) (ev f x)
 | .indexAddr t x i=>ez (YJ P t) (ev f x) (ixI (ev f i))
 | .index t x i=>j9 (YJ P t) (ev f x) (ixI (ev f i))
 | .load t x=>mK (aU P t) w0 L (ev f x)
 | .extract x i=>Bz (ev f x) i
 | .slice t x h j none=>eN (YJ P t) (ev f x) (h.map fun o=>ixI (ev f o)) (j.map fun o=>ixI (ev f o))
 | .makeFunc k a b=>some (.func k (a.map (ev f)) (b.map (ev f)))
 | .call ⟨.builtin .len,g,ts⟩=>match g[0]?,ts[0]? with
  |some x,some t=>Yw (YJ P t) (ev f x)
  |_,_=>none
 | .call ⟨.builtin .cap,g,ts⟩=>match g[0]?,ts[0]? with
  |some x,some t=>qo5 (YJ P t) (ev f x)
  |_,_=>none
 |_=>none
def H3{w0 w:hW}{L:aA}(h:Hp w0 L w){b:Nat}{cs:Array hU}{E:h7}{fz:Nat×Nat}(a:aG w0 L b=some (.cells cs E fz))(off:Nat):w.cell? ⟨b,off,none⟩=cs[off]? :=
 cell_of_row w b off cs E fz (h.read a)
section
variable {P:h_} {w0 w:hW} {L:aA}
def Cy{b:Nat}{cs:Array hU}{E:h7}{fz:Nat×Nat}(c:w.heap[b]? =some (.cells cs E fz))(off n:Nat)(d:off+n<=cs.size):
  (loadCells ⟨b,off,none⟩ n).run P w=.ok (cs.extract off (off+n)) w:=by
 have h:=run_loadCells_list (P:=P) w ⟨b,off,none⟩ (cs.extract off (off+n)).toList (by
  intro j v a;rw[ic,cell_of_row w b _ cs E fz c];simp only[Array.getElem?_toList,Array.getElem?_extract] at a
  split at a
  .exact a
  cases a)
 have e:(cs.extract off (off+n)).toList.length=n:=by simp;omega
 rw[e,Array.toArray_toList] at h;exact h
def UZ{t:h7}{b off:Nat}{v:hU}(d:Hp w0 L w)(h:aF (aU P t) (aG w0 L b) off=some v):(loadVar t ⟨b,off,none⟩).run P w=.ok v w:=by
 unfold aF at h
 split at h
 .rename_i n e E fz a c
  split at h
  .rename_i f;simp only[WD] at h;subst h;unfold loadVar;rw[Vp,EC a w];simp only[VT,↓reduceIte,Vp,ei a w,Cy (d.read c) off n f,Wm]
  cases h
 .rename_i n e E fz a c;unfold loadVar;rw[Vp,EC a w];simp only[VT,VW,↓reduceIte,run_load,H3 d c,h]
 cases h
theorem Ul(f:hU->ByteArray->Sem (ForInStep ByteArray))(b:∀ (n:Int) s,f (.int .u8 n) s=pure (.yield (s.push (UInt8.ofNat n.toNat)))):
  ∀ (l:List hU) (a:No) (s:ByteArray) (w:hW),mH l=some a->(forIn l s f).run P w=.ok ⟨s.data++a.toArray⟩ w
 | [],a,s,w,h=>by simp only[mH,WD] at h;subst h;simp
 |v::r,a,s,w,h=>by
  unfold mH at h
  split at h
  .cases ‹v::r=[]›
  .rename_i n g e;cases e
   split at h
   .rename_i l c;simp only[WD] at h;subst h;have d:=Ul f b r l (s.push (UInt8.ofNat n.toNat)) w c;rw[List.forIn_cons,b];simp only[pure_bind];rw[d];congr 1;apply Wc;apply Array.ext';simp[ByteArray.push]
   cases h
  cases h
def VF{b off n c:Nat}{v:hU}(d:Hp w0 L w)(h:e_ (aG w0 L b) off n=some v):(Conv.bytesToString (.slice (some ⟨b,off,none⟩) n c)).run P w=.ok v w:=by
 unfold e_ at h
 split at h
 .rename_i e E fz f
  split at h
  .rename_i g;cases a:mH (e.extract off (off+n)).toList with
   |none=>rw[a] at h;cases h
   |some l=>
    rw[a] at h;simp only[Ws,WD] at h;subst h;unfold Conv.bytesToString;simp only[Vp,Cy (d.read f) off n g,VT];rw[<-Array.forIn_toList,Ul _ (fun n s=>rfl) _ _ _ w a];simp[ByteArray.empty,ByteArray.emptyWithCapacity]
    rfl
  cases h
 cases h
end
end Go.Sx
end
section
namespace Go.Sx
open Go
section
variable {P:h_} {w0 w:hW} {L:aA}
def BK{v:hU}{i:Int}(h:ixI v=some i):∃k,v=.int k i:=by cases v<;>simp only[ixI,reduceCtorEq,WD] at h;subst h;exact⟨_,rfl⟩
def Is{t:h7}{x i v:hU}(h:j9 (YJ P t) x (ixI i)=some v)(w:hW):(Instr.index t x i).run P w=.ok v w:=by
 unfold j9 at h
 split at h
 .rename_i n m o k a c
  split at h
  .rename_i d;obtain⟨l,rfl⟩:=BK c;unfold YJ at a
   split at a
   .rename_i p e f
    split at a
    .rename_i q j;cases a;simp only[Instr.index,asIntOf,Vp,Wm,VT,Wn f w,d,and_self,↓reduceIte,ei j w];exact k5 j h w
    cases a
   .split at a<;>cases a
   .cases a
   cases a
  cases h
 .rename_i s k a c
  split at h
  .rename_i d;obtain⟨l,rfl⟩:=BK c;unfold YJ at a
   split at a
   .split at a<;>cases a
   .split at a<;>cases a
   .rename_i f;cases g:s[k.toNat]? with
    |none=>rw[g] at h;cases h
    |some b=>rw[g] at h;simp only[Ws,WD] at h;subst h;simp only[Instr.index,asIntOf,Vp,Wm,VT,Wn f w,d,↓reduceIte,g]
   cases a
  cases h
 cases h
def Es{t:h7}{x i v:hU}(h:ez (YJ P t) x (ixI i)=some v)(w:hW):(Instr.indexAt t x i).run P w=.ok v w:=by
 unfold ez at h
 split at h
 .rename_i n m a k b d
  split at h
  .rename_i f;obtain⟨l,rfl⟩:=BK d;unfold YJ at b
   split at b
   .rename_i p e g
    split at b
    .rename_i o j;cases b;cases h;simp only[Instr.indexAt,asIntOf,Vp,Wm,VT,Wn g w,Instr.sureAddr,f,and_self,↓reduceIte,ei j w]
    cases b
   .split at b<;>cases b
   .cases b
   cases b
  cases h
 .rename_i m a n c k b d
  split at h
  .rename_i f;obtain⟨l,rfl⟩:=BK d;unfold YJ at b
   split at b
   .split at b<;>cases b
   .rename_i e g
    split at b
    .rename_i o j;cases b;cases h;simp only[Instr.indexAt,asIntOf,Vp,Wm,VT,Wn g w,f,and_self,↓reduceIte,ei j w]
    cases b
   .cases b
   cases b
  cases h
 cases h
def Et{t:h7}{x v:hU}{i:Nat}(h:qO (an P t i) x=some v)(w:hW):(Instr.fieldAt t x i).run P w=.ok v w:=by
 unfold qO at h
 split at h
 .rename_i off m a b
  split at h
  .cases h
  rename_i c;unfold an at b
  split at b
  .rename_i fs d
   split at b
   .rename_i g e
    split at b
    .rename_i j f;cases b;cases h;simp only[Instr.fieldAt,Vp,Wm,VT,Wn d w,e,Instr.sureAddr,fieldPlace,ei f w,c,↓reduceIte]
    cases b
   cases b
  cases b
 cases h
def J0{t:h7}{x v:hU}{i:Nat}(h:lV (an P t i) x=some v)(w:hW):(Instr.field t x i).run P w=.ok v w:=by
 unfold lV at h
 split at h
 .rename_i off m e a;unfold an at a
  split at a
  .rename_i fs b
   split at a
   .rename_i f c
    split at a
    .rename_i g d;cases a;simp only[Instr.field,Vp,VT,Wn b w,c,asAgg,Wm];exact k5 d h w
    cases a
   cases a
  cases a
 cases h
def nv{t:h7}{n:Nat}{m:Bool×Nat}(h:YJ P t=.arr n m):∃e,P.underlying t=some (.array n e)/\aU P e=some m:=by
 unfold YJ at h
 split at h
 .rename_i c e a
  split at h
  .rename_i d b;cases h;exact⟨e,a,b⟩
  cases h
 .split at h<;>cases h
 .cases h
 cases h
def o_{t:h7}{m:Bool×Nat}(h:YJ P t=.sl m):∃e,P.underlying t=some (.slice e)/\aU P e=some m:=by
 unfold YJ at h
 split at h
 .split at h<;>cases h
 .rename_i e a
  split at h
  .rename_i c b;cases h;exact⟨e,a,b⟩
  cases h
 .cases h
 cases h
def wW{t:h7}(h:YJ P t=.str):P.underlying t=some .string:=by
 unfold YJ at h
 split at h
 .split at h<;>cases h
 .split at h<;>cases h
 .assumption
 cases h
def N3{t:h7}{x v:hU}(h:Yw (YJ P t) x=some v)(y:h7)(ts:Array h7)(vs:Array hU)(d:vs[0]? =some x)(f:ts[0]? =some t)(w:hW):
  (Builtin.len_ ts y vs).run P w=.ok v w:=by
 unfold Yw at h
 split at h
 .rename_i s b;cases h;simp only[Builtin.len_,d,f,Vp,Wn (wW b) w,VT];rfl
 .rename_i n m b;cases h;obtain⟨e,g,_⟩:=nv b;simp only[Builtin.len_,d,f,Vp,Wn g w,VT];rfl
 .rename_i m a n c b;cases h;obtain⟨e,g,_⟩:=o_ b;simp only[Builtin.len_,d,f,Vp,Wn g w,VT];rfl
 cases h
def PJ{t:h7}{x v:hU}(h:qo5 (YJ P t) x=some v)(y:h7)(ts:Array h7)(vs:Array hU)(f:vs[0]? =some x)(g:ts[0]? =some t)(w:hW):
  (Builtin.cap_ ts y vs).run P w=.ok v w:=by
 unfold qo5 at h
 split at h
 .rename_i n m b;cases h;obtain⟨e,d,_⟩:=nv b;simp only[Builtin.cap_,f,g,Vp,Wn d w,VT];rfl
 .rename_i m a n c b;cases h;obtain⟨e,d,_⟩:=o_ b;simp only[Builtin.cap_,f,g,Vp,Wn d w,VT];rfl
 cases h
def BZ{x:hU}{i:Int}(h:ixI x=some i){y:Nat}(a:0<=i/\i<=y)(b:BoundsCode)(w:hW):(Instr.sliceBound x y b).run P w=.ok i.toNat w:=by obtain⟨k,rfl⟩:=BK h;simp only[Instr.sliceBound,asIntOf,Vp,Wm,VT,a,and_self,↓reduceIte]
def DR{b:Bool}{n c l h:Nat}{k g:Option hU}(a:qc5 n c (k.map ixI) (g.map ixI)=some (l,h))(w:hW):
  (Instr.sliceBounds b n c k g none).run P w=.ok (l,h,c) w:=by
 unfold qc5 at a;cases k with
 |none=>
  cases g with
  |none=>simp only[YL,WD,Xp] at a;obtain⟨rfl,rfl⟩:=a;simp[Instr.sliceBounds]
  |some m=>
   simp only[YL,Ws] at a
   split at a
   .cases ‹some (ixI m)=none›
   .cases ‹_=none›
   .rename_i i d e
    split at a
    .rename_i f;cases a;simp only[WD] at e;simp[Instr.sliceBounds,BZ e f]
    cases a
   .cases ‹none=some (some _)›
   cases a
 |some j=>
  cases g with
  |none=>
   simp only[YL,Ws] at a
   split at a
   .cases ‹some (ixI j)=none›
   .rename_i o d e
    split at a
    .rename_i f;cases a;simp only[WD] at d;simp[Instr.sliceBounds,BZ d f]
    cases a
   .cases ‹some (ixI j)=none›
   .cases ‹none=some (some _)›
   cases a
  |some m=>
   simp only[Ws] at a
   split at a
   .cases ‹some (ixI j)=none›
   .cases ‹some (ixI m)=none›
   .cases ‹some (ixI j)=none›
   .rename_i o i d e
    split at a
    .rename_i f;cases a;simp only[WD] at d e;simp[Instr.sliceBounds,BZ e (⟨by omega,f.2.2⟩:0<=i/\i<= (c:Int)),BZ d (y:=i.toNat) ⟨f.1,by omega⟩]
    cases a
   cases a
def KU{t:h7}{x v:hU}{i j:Option hU}(h:eN (YJ P t) x (i.map ixI) (j.map ixI)=some v)(w:hW):(Instr.sliceAt t x i j none).run P w=.ok v w:=by
 unfold eN at h
 split at h
 .rename_i s b
  split at h
  .rename_i l k d;cases h;have f:=wW b;simp only[Instr.sliceAt,Instr.slice,Vp,Wn f w,VT,Option.isSome_none,VW,↓reduceIte,DR d w,Wm]
  cases h
 .rename_i m a n c b
  split at h
  .rename_i l k d;cases h;obtain⟨e,f,g⟩:=o_ b;simp only[Instr.sliceAt,Instr.slice,Vp,Wn f w,VT,DR d w,ei g w,Wm]
  cases h
 .rename_i n m a b
  split at h
  .rename_i l k d;cases h;obtain⟨e,f,g⟩:=nv b;simp only[Instr.sliceAt,Instr.sureAddr,Vp,Wn f w,VT,DR d w,ei g w,Wm]
  cases h
 cases h
def rm{t:h7}{x y:hU}{b:Bool}(d:Nat)(h:cg (P.underlying t) x y=some b)(w:hW):(Op.equalIn (d+1) t x y).run P w=.ok b w:=by
 unfold cg at h
 split at h<;>first
  | (
    rename_i a;simp only[WD] at h;subst h;simp only[Op.equalIn,Vp,Wn a w,VT]
    rfl)
  |cases h
def A1(P:h_):∀ (d k:Nat) (t:h7) (x y:hU) (b:Bool),eqD P d t x y=some b-> ∀w,(Op.equalIn (d+k) t x y).run P w=.ok b w:=by
 intro d
 induction d with
 |zero=>intro k t x y b h;cases h
 |succ d r=>
  intro k t x y b h w;have e:d+1+k=(d+k)+1:=by omega
  rw[e];unfold eqD at h
  split at h
  .rename_i G H a I c o
   split at h
   .rename_i B;cases h;subst B;simp[Op.equalIn,Wn o w]
   cases h
  .rename_i a c o;cases h;simp[Op.equalIn,Wn o w]
  .rename_i n A C D o
   split at h
   .rename_i m i;simp only[Op.equalIn,Vp,Wn o w,VT,ei i w];simp only[Std.Legacy.Range.forIn_eq_forIn_range',Std.Legacy.Range.size,Nat.sub_zero,Nat.add_one_sub_one,Nat.div_one];rw[List.range_eq_range'] at h;generalize List.range' 0 n=is at h |-
    induction is with
    |nil=>cases h;simp
    |cons j is s=>
     unfold rB at h;simp only[List.forIn_cons,Vp]
     split at h
     .rename_i g;unfold kV at g
      split at g
      .rename_i u v;cases v
       split at g
       .rename_i a c p q;simp only[k5 i p w,k5 i q w,VT,r k A a c true g w,YT,VW,if_false,Wm];exact s h
       cases g
      cases g
     .rename_i g;cases h;unfold kV at g
      split at g
      .rename_i u v;cases v
       split at g
       .rename_i a c p q;simp only[k5 i p w,k5 i q w,VT,r k A a c false g w,W6,if_true,Wm]
       cases g
      cases g
     cases h
   cases h
  .rename_i fs C D o
   split at h
   .cases h
   rename_i E;have F:P.stoodInHeld t=false:=by simpa using E
   simp only[Op.equalIn,Vp,Wn o w,VT,run_program,F,VW,if_false];rw[<-Array.forIn_toList];generalize fs.toList=l at h |-;clear o
   induction l with
   |nil=>cases h;simp
   |cons f l s=>
    unfold pS at h;simp only[List.forIn_cons,Vp,Sem.run_ite]
    split at h
    .rename_i z;rw[Vb z]
     split at h
     .rename_i g;unfold kV at g
      split at g
      .rename_i u i
       split at g
       .rename_i a c p q;simp only[k5 i p w,k5 i q w,VT,r k f.type a c true g w,YT,VW,if_false,Wm];exact s h
       cases g
      cases g
     .rename_i g;cases h;unfold kV at g
      split at g
      .rename_i u i
       split at g
       .rename_i a c p q;simp only[k5 i p w,k5 i q w,VT,r k f.type a c false g w,W6,if_true,Wm]
       cases g
      cases g
     cases h
    rename_i z;rw[tr z];simp only[Wm,VT];exact s h
  exact rm (d+k) h w
def wU{op:BinOp}{t:h7}{x y:Operand}{a b:hU}{r:Bool}(f:(cm a&&cm b)≠true)(c:Zq P t a b=some r)(w:hW):
  (eqGuard op t x y a b).run P w=.ok () w/\(Op.equal t a b).run P w=.ok r w/\binOp .eql t a b=(do pure (.bool (<-Op.equal t a b)):Sem hU)/\binOp .neq t a b=(do pure (.bool (!(<-Op.equal t a b))):Sem hU):=by
 unfold Zq at c
 split at c
 .rename_i g h
  split at c
  .cases c
  rename_i d;have e:P.eqGuardType P.depth t=false:=by simpa using d
  refine⟨?_,A1 P 8 9992 t _ _ r c w,rfl,rfl⟩;unfold eqGuard;cases op<;>first
   |rfl
   |simp[Vp,run_program,e]
 refine⟨?_,rm 9999 c w,?_,?_⟩
 .unfold cg at c
  split at c<;>first| (unfold eqGuard;cases op<;>rfl) |cases c
 .unfold cg at c
  split at c<;>first|rfl|cases c
 unfold cg at c
 split at c<;>first|rfl|cases c
def Mo{op:BinOp}{t:h7}{x y:Operand}{a b v:hU}(h:ak P op t a b=some v)(w:hW):
  (do eqGuard op t x y a b;binOp op t a b:Sem hU).run P w=.ok v w:=by
 unfold ak at h
 split at h
 .rename_i d;have i:(eqGuard op t x y a b).run P w=.ok () w:=by
   unfold eqGuard;cases a<;>simp only[cm,Xv,VW] at d<;>
    (split<;>rfl)
  rw[Vp,i];exact ua w h
 rename_i d
 split at h
 .cases c:Zq P t a b with
  |none=>rw[c] at h;cases h
  |some r=>rw[c] at h;simp only[Ws,WD] at h;subst h;obtain⟨f,g,e,-⟩:=wU (op:=.eql) (x:=x) (y:=y) d c w;rw[Vp,f];simp only[VT];rw[e,Vp,g];rfl
 .cases c:Zq P t a b with
  |none=>rw[c] at h;cases h
  |some r=>rw[c] at h;simp only[Ws,WD] at h;subst h;obtain⟨f,g,-,e⟩:=wU (op:=.neq) (x:=x) (y:=y) d c w;rw[Vp,f];simp only[VT];rw[e,Vp,g];rfl
 cases h
def Q0{s d:h7}{k:IntKind}(h:Z_ P s d=.int k):∃c,P.underlying s=some (.int c)/\P.underlying d=some (.int k):=by
 unfold Z_ at h
 split at h
 .rename_i a b;cases h;exact⟨_,a,b⟩
 .cases h
 .split at h<;>cases h
 .split at h<;>cases h
 cases h
def LH{s d:h7}{x v:hU}(g:Hp w0 L w)(h:fN w0 L (Z_ P s d) x=some v):(convert s d x).run P w=.ok v w:=by
 unfold fN at h
 split at h
 .rename_i k a;obtain⟨i,b,c⟩:=Q0 a;unfold eD at h
  split at h
  .cases h;simp only[convert,Vp,Wn b w,Wn c w,VT,Conv.intToInt,Wm]
  cases h
 .rename_i a;unfold Z_ at a
  split at a
  .cases a
  .rename_i b c
   split at h
   .cases h;simp only[convert,Vp,Wn b w,Wn c w,VT,Wm]
   cases h
  .split at a<;>cases a
  .split at a<;>cases a
  cases a
 .rename_i a;unfold Z_ at a
  split at a
  .cases a
  .cases a
  .rename_i e b c
   split at a
   .rename_i f;unfold nz at h
    split at h
    .cases h;simp only[convert,Vp,Wn b w,Wn c w,Wn f w,VT];rfl
    .simp only[convert,Vp,Wn b w,Wn c w,Wn f w,VT];exact VF g h
    cases h
   cases a
  .split at a<;>cases a
  cases a
 cases h
def jQ{f:Fr}{o:Oper}{v:hU}(l:Hp w0 L w)(h:fT P w0 L f o.op=some v):(execOp (ev f) o).run P w=.ok (.value v) w:=by
 obtain⟨r,s,ty,u,y,z⟩:=o;simp only at h;unfold fT at h
 split at h<;>simp only[execOp]
 .cases h;rfl
 .cases h;rfl
 .rename_i c a b;cases m:ev f c<;>rw[m] at h<;>simp only[fG,reduceCtorEq] at h;rename_i t;cases t<;>simp only[WD] at h<;>subst h<;>rfl
 .rw[Vp,Mo h w];rfl
 .rw[Vp,QP w h];rfl
 .rw[Vp,LH l h];rfl
 .rename_i x;unfold qy5 at h
  split at h
  .rename_i a d;cases h;simp only[d];rfl
  .rename_i k a b d;cases h;simp only[d];rfl
  cases h
 .rw[Vp,Et h w];rfl
 .rw[Vp,J0 h w];rfl
 .rw[Vp,Es h w];rfl
 .rw[Vp,Is h w];rfl
 .rename_i t x;unfold mK at h
  split at h
  .rename_i b off d;simp only[Instr.loadAt,d,Instr.sureAddr,Vp,Wm,VT,UZ l h]
  cases h
 .rename_i x i;unfold Bz at h
  split at h
  .rename_i vs d;simp only[Instr.extract,d,h];rfl
  cases h
 .rename_i t x n p;have q:eN (YJ P t) (ev f x) ((n.map (ev f)).map ixI) ((p.map (ev f)).map ixI)=some v:=by
   rw[Option.map_map,Option.map_map];exact h
  rw[Vp];simp only[YL];rw[KU q w];rfl
 .cases h;rfl
 .rename_i e ts
  split at h
  .rename_i x t d g;have j:(e.map (ev f))[0]? =some (ev f x):=by simp[d]
   simp only[resolve,Vp,Wm,VT,invoke,builtin];rw[N3 h _ _ _ j g w];rfl
  cases h
 .rename_i e ts
  split at h
  .rename_i x t d g;have j:(e.map (ev f))[0]? =some (ev f x):=by simp[d]
   simp only[resolve,Vp,Wm,VT,invoke,builtin];rw[PJ h _ _ _ j g w];rfl
  cases h
 cases h
end
end Go.Sx
end
namespace Go.Sx
open Go
section
variable {P:h_} {ops:Array Oper} {Q:Exit->Act->hW->Prop}
def Left(o:Oper)(a b:Act):Prop:= ∃c d,b=({a with defers:=d}:Act).put o.dst c
def IV{o:Oper}{a:Act}{d:Option Tmp}{v:hU}{K:Act->hW->Prop}(k:∀t,d=some t->o.dst≠some t)
  (l:∀c a w,Q (.panic c) (a.put d v) w->Q (.panic c) a w) (r:Result Next) (h:o.upon P (a.put d v) K Q r):
  o.upon P a (fun m n=>Left o a m/\K (m.put d v) n) Q r:=by
 have i:∀b,(a.put o.dst b).put d v=(a.put d v).put o.dst b:=fun b=>(Act.put_comm a v b k).symm;have j:∀b,Left o a (a.put o.dst b):=fun b=>⟨b,a.defers,rfl⟩
 match r,h with
 | .ok (.value b) _,h=>exact⟨j b,by rw[i];exact h⟩
 | .ok .skip _,h=>exact⟨j undef,by rw[i];exact h⟩
 | .ok (.defer e) _,h=>refine⟨⟨undef,e::a.defers,rfl⟩,?_⟩;rw[<-Act.put_comm _ v undef k,<-Act.put_defers];exact h
 | .ok (.enter f p) _,h=>
  refine Calls.mono h fun e q g=>?_
  match e,g with
  | .returned b,g=>exact⟨j b,by rw[i];exact g⟩
  | .panicked c,g=>exact l _ _ _ g
  | .outgrown,g=>exact g
 | .ok (.row row p) _,h=>exact Rows.mono h fun b q g=>⟨j b,by rw[i];exact g⟩
 | .halt (.panic b) _,h=>exact l _ _ _ h
def JM{j:Nat}{d oj:Oper}{v:hU}(l:ops[j]? =some oj)(m:d.apart ops oj=true)(f:∀n b,oj.op≠ .select n b)
  (o:∀c a w,Q (.panic c) (a.put d.dst v) w->Q (.panic c) a w) {K:Act->hW->Prop} {a:Act} {w:hW}
  (h:wpOp P ops Q j K (a.put d.dst v) w):wpOp P ops Q j (fun g p=>Left oj a g/\K (g.put d.dst v) p) a w:=by
 obtain⟨e,i,s⟩:=Oper.apart_spec m;unfold wpOp at h |-;simp only[l] at h |-;rw[wanted_put oj a d.dst v e] at h;cases k:Region.wanted oj (yielded ops a.tmps) with
 |true=>
  rw[k] at h;simp only[if_true] at h |-;rcases h with h| ⟨q,r⟩
  .left
   unfold Oper.wp at h |-;rw[execOp_put oj f a d.dst v e] at h;exact IV i o _ h
  right
  exact⟨by unfold Oper.asks at*;rwa [execOp_put oj f a d.dst v e] at q,r⟩
 |false=>rw[k] at h;simp only[VW,if_false] at h |-;exact⟨⟨undef,a.defers,rfl⟩,by rw[<-Act.put_comm a v undef i];exact h⟩
def gj(P:h_)(ops:Array Oper)(Q:Exit->Act->hW->Prop)(ts:List Nat)(C:hW->Prop):Nat->Array Bool->Act->hW->Prop
 |0,listed,a,w=>((∀t,t∈ts->listed.getD t true=false)->C w)/\Region.ready .any ops listed=[]/\Q .normal a w
 |n+1,listed,a,w=>
  ((∀t,t∈ts->listed.getD t true=false)->C w)/\(Region.ready .any ops listed=[]->Q .normal a w)/\
  ∀i∈Region.ready .any ops listed,wpOp P ops Q i (gj P ops Q ts C n (listed.setIfInBounds i true)) a w
variable {ts:List Nat} {C:hW->Prop}
def qi{listed:Array Bool}{i t:Nat}(h:listed.getD t true=true):(listed.setIfInBounds i true).getD t true=true:=by
 by_cases a:i=t
 .subst a;rw[Array.getD_eq_getD_getElem?,Array.getElem?_setIfInBounds_self]
  split<;>rfl
 rw[getD_set_ne true a];exact h
theorem BQ:∀ (n:Nat) (listed:Array Bool) (a:Act) (w:hW),gj P ops Q ts C n listed a w->wpAny P .any ops Q n listed a w
 |0,_,_,_,h=>h.2
 |n+1,_,_,_,h=>⟨h.2.1,fun i b=>wpOp_mono (fun a w k=>BQ n _ a w k) (h.2.2 i b)⟩
theorem n5:∀ (n:Nat) (listed:Array Bool) (a:Act) (w:hW),(∃t∈ts,listed.getD t true=true)->wpAny P .any ops Q n listed a w->gj P ops Q ts C n listed a w
 |0,_,_,_,⟨t,c,b⟩,h=>⟨fun d=>(by rw[d t c] at b;cases b),h.1,h.2⟩
 |n+1,_,_,_,⟨t,c,b⟩,h=>⟨fun d=>(by rw[d t c] at b;cases b),h.1,fun i e=>wpOp_mono (fun a w k=>n5 n _ a w ⟨t,c,qi b⟩ k) (h.2 i e)⟩
structure qn6(ops:Array Oper)(ts:List Nat)(i:Nat)(oi:Oper)(pure:Prop)(listed:Array Bool):Prop where
 ready:i∈Region.ready .any ops listed
 free:∀j oj,ops[j]? =some oj->j≠i->listed.getD j true=false->(∀e∈oj.after,Region.binds .any e=true->e.on≠i)->oi.apart ops oj=true
 waits:pure\/ ∃cs:List Nat,(∀t,t∈ts->listed.getD t true=false->t∈cs)/\
  ∀c,c∈cs->c≠i/\listed.getD c true=false/\ ∃oc,ops[c]? =some oc/\ ∃e∈oc.after,Region.binds .any e=true/\(e.on=i\/e.on∈cs)
def XZ(P:h_)(ops:Array Oper)(C:hW->Prop)(b:Prop)(o:Oper)(v:hU)(a:Act):Prop:=
 (Region.wanted o (yielded ops a.tmps)=true/\ ∀w,(b\/C w)->(execOp a.eval o).run P w=.ok (.value v) w)\/
 (Region.wanted o (yielded ops a.tmps)=false/\v=undef)
theorem XZ.wpOp{c:Prop}{i:Nat}{o:Oper}{v:hU}{a:Act}(d:ops[i]? =some o)(e:XZ P ops C c o v a)
  {K:Act->hW->Prop} {w:hW} (f:c\/C w) (h:K (a.put o.dst v) w):Go.wpOp P ops Q i K a w:=by
 unfold Go.wpOp;simp only[d];rcases e with⟨b,g⟩ | ⟨b,rfl⟩
 .simp only[b,if_true,Oper.wp,g w f,Oper.upon];exact .inl h
 simp only[b,VW,if_false];exact h
def XZ.left{g:Prop}{c oj:Oper}{v:hU}{a h:Act}(j:XZ P ops C g c v a)(k:∀l b,c.op≠ .select l b)
  (i:∀d,oj.dst=some d->d∉c.looksAt ops) (m:Left oj a h):XZ P ops C g c v h:=by
 obtain⟨e,f,rfl⟩:=m;have n:execOp (({a with defers:=f}:Act).put oj.dst e).eval c=execOp a.eval c:=execOp_put c k ({a with defers:=f}:Act) oj.dst e i;have o:Region.wanted c (yielded ops (({a with defers:=f}:Act).put oj.dst e).tmps)=Region.wanted c (yielded ops a.tmps):=wanted_put c ({a with defers:=f}:Act) oj.dst e i;unfold XZ;rw[n,o];exact j
def k'{u:Prop}{i:Nat}{n:Oper}{v:hU}(I:ops[i]? =some n)(R:i∉ts)(S:∀ (j:Nat) (o:Oper) d b,ops[j]? =some o->o.op≠ .select d b)
  (hQ:∀c a w,Q (.panic c) (a.put n.dst v) w->Q (.panic c) a w):
  ∀ (fuel:Nat) (listed:Array Bool) (a:Act) (w:hW),qn6 ops ts i n u listed->(u\/ ∀t,t∈ts->listed.getD t true=false)->XZ P ops C u n v a->
   gj P ops Q ts C fuel (listed.setIfInBounds i true) (a.put n.dst v) w->gj P ops Q ts C (fuel+1) listed a w:=by
 intro fuel
 induction fuel with
 |zero=>
  intro listed a w l p z H;have J:∀t,t∈ts->(listed.setIfInBounds i true).getD t true=listed.getD t true:=fun t f=>getD_set_ne true (fun e=>R (e▸f));have x:(∀t,t∈ts->listed.getD t true=false)->C w:=fun h=>H.1 fun t f=>(J t f).trans (h t f);refine⟨x,fun h=>(by have:=l.ready;rw[h] at this;cases this),fun j A=>?_⟩;by_cases m:j=i
  .subst m;exact z.wpOp I (p.imp id x) H
  have:=ready_mono A m;rw[H.2.1] at this;cases this
 |succ fuel ih=>
  intro listed a w l p z H;have J:∀t,t∈ts->(listed.setIfInBounds i true).getD t true=listed.getD t true:=fun t f=>getD_set_ne true (fun e=>R (e▸f));have x:(∀t,t∈ts->listed.getD t true=false)->C w:=fun h=>H.1 fun t f=>(J t f).trans (h t f);refine⟨x,fun h=>(by have:=l.ready;rw[h] at this;cases this),fun j A=>?_⟩;by_cases m:j=i
  .subst m;exact z.wpOp I (p.imp id x) H
  have K:=H.2.2 j (ready_mono A m);obtain⟨T,L,B,U⟩:=mem_ready.1 A;have V:∀e∈L.after,Region.binds .any e=true->e.on≠i:=fun e D E q=>by
   have g:=U e D E;have W:=(mem_ready.1 l.ready).1;rw[q] at g;rcases Nat.lt_or_ge i listed.size with r|r
   .simp[r] at W g;rw[W] at g;cases g
   simp[Array.getElem?_eq_none r] at g
  have X:=l.free j L B m T V;have g:=JM B X (fun d b=>S j L d b B) hQ K;have Wo:∀k,(listed.setIfInBounds j true).getD k true=false->listed.getD k true=false:=fun k y=>by
   by_cases Y:j=k
   .subst Y;exact T
   rwa [getD_set_ne true Y] at y
  have F:∀k,listed.getD k true=false->k≠j->(listed.setIfInBounds j true).getD k true=false:=fun k y zc=>by rw[getD_set_ne true (Wq zc)];exact y
  have zh:=(mem_ready.1 l.ready).1;have Z:∀d:List Nat,(∀c,c∈d->c≠i/\listed.getD c true=false/\ ∃M,ops[c]? =some M/\ ∃e∈M.after,Region.binds .any e=true/\(e.on=i\/e.on∈d))->j∉d:=by
   intro d za N;obtain⟨-,-,M,zb,e,D,E,q⟩:=za j N;rw[B] at zb;cases zb;have g:=U e D E;rcases q with q|q
   .exact V e D E q
   have s:=(za _ q).2.1;rcases Nat.lt_or_ge e.on listed.size with r|r
   .simp[r] at g s;rw[s] at g;cases g
   simp[Array.getElem?_eq_none r] at g
  have zd:qn6 ops ts i n u (listed.setIfInBounds j true):=
   ⟨ready_mono l.ready (Wq m),fun k ok y ze F zf=>l.free k ok y ze (Wo k F) zf,l.waits.imp id fun⟨d,O,G⟩=>⟨d,fun t f hu=>O t f (Wo t hu),fun c hc=>by obtain⟨K,g,s⟩:=G c hc;exact⟨K,F c g (fun e=>Z d G (e▸hc)),s⟩⟩⟩
  have zg:u\/ ∀t,t∈ts->(listed.setIfInBounds j true).getD t true=false:=by
   rcases l.waits with h| ⟨d,O,G⟩
   .exact .inl h
   rcases p with h|p
   .exact .inl h
   refine .inr fun t f=>?_;have N:=Z d G;exact F t (p t f) (fun e=>N (e▸O t f (p t f)))
  refine wpOp_mono (fun a' w' s=>ih (listed.setIfInBounds j true) a' w' zd zg (z.left (fun d b=>S i n d b I) (Oper.apart_spec X).2.2 s.1) ?_) g;rw[Array.setIfInBounds_comm _ _ m];exact s.2
end
end Go.Sx
section
namespace Go.Sx
open Go
def cU(cs:Array hU)(off:Nat):List hU->Array hU
 | []=>cs
 |v::r=>cU (cs.setIfInBounds off v) (off+1) r
def aZ(m:Option (Bool×Nat))(o:Option Obj)(off:Nat)(v:hU):Option Obj:=
 match m,o with
 |some (_,n),some (.cells a E fz)=>if v.cells.size=n/\off+n<=a.size/\(fz.2<=fz.1\/off+n<=fz.1)/\v.cells.toList.all Value.oneCell'=true then some (.cells (cU a off v.cells.toList) E fz) else none
 |_,_=>none
def kQ(m:Option (Bool×Nat))(L:aA)(a v:hU):Option aA:=
 match a with
 | .pointer (some ⟨b,off,none⟩)=>match aZ m (look L b) off v with
  |some o=>some (Vh L b o)
  |none=>none
 |_=>none
section
variable {P:h_} {w0 w:hW} {L:aA}
def HB{b off:Nat}{v:hU}{cs:Array hU}{E:h7}{fz:Nat×Nat}(c:w.heap[b]? =some (.cells cs E fz)):
  w.setCell ⟨b,off,none⟩ v={w with heap:=w.heap.setIfInBounds b (.cells (cs.setIfInBounds off v) E fz)}:=by
 have d:=(Array.getElem?_eq_some_iff.1 c).1;unfold World.setCell;congr 1;apply Array.ext_getElem?;intro i;rw[Array.getElem?_modify];by_cases a:b=i
 .subst a;rw[Vb rfl,c];simp[d]
 rw[tr a,Array.getElem?_setIfInBounds_ne a]
theorem Cr{b off:Nat}{E:h7}{fz:Nat×Nat}:∀ (vs:List hU) (i:Nat) (a:Array hU) (w:hW),w.heap[b]? =some (.cells a E fz)->
  off+i+vs.length<=a.size->(fz.2<=fz.1\/off+i+vs.length<=fz.1)->vs.all Value.oneCell'=true->
  (storeCells ⟨b,off,none⟩ vs i).run P w=.ok () {w with heap:=w.heap.setIfInBounds b (.cells (cU a (off+i) vs) E fz)}
 | [],i,a,w,c,_,_,_=>by
  have d:=(Array.getElem?_eq_some_iff.1 c);have:w.heap.setIfInBounds b (.cells a E fz)=w.heap:=by
   apply Array.ext_getElem?;intro j;by_cases e:b=j
   .subst e;rw[c];simp[d.1]
   rw[Array.getElem?_setIfInBounds_ne e]
  simp only[storeCells,cU,this];rfl
 |v::r,i,a,w,c,hs,hf,ho=>by
  simp only[List.all_cons,WK] at ho;simp only[Wt] at hs hf;have f:w.cell? ⟨b,off+i,none⟩=some (a[off+i]'oM):=by rw[cell_of_row w b _ a E fz c,Array.getElem?_eq_getElem oM]
  have g:w.frozen? ⟨b,off+i,none⟩=false:=by simp only[World.frozen?,c,Bool.and_eq_false_iff,qc9];omega
  have d:=(Array.getElem?_eq_some_iff.1 c).1;simp only[storeCells,ic,Vp,run_store P w _ v .plain ho.1,f,g,VW,↓reduceIte,VT,HB c];have h:({w with heap:=w.heap.setIfInBounds b (.cells (a.setIfInBounds (off+i) v) E fz)}:hW).heap[b]? =some (.cells (a.setIfInBounds (off+i) v) E fz):=by simp[d]
  rw[Cr r (i+1) _ _ h (by simp;omega) oM ho.2];simp[cU,Nat.add_assoc]
def GR{t:h7}{a v:hU}{L':aA}(d:Hp w0 L w)(h:kQ (aU P t) L a v=some L'):∃e,(Instr.storeAt t a v).run P w=.ok () e/\Hp w0 L' e:=by
 unfold kQ at h
 split at h
 .rename_i b off
  split at h
  .rename_i o c;cases h;unfold aZ at c
   split at c
   .rename_i m n f E fz j g
    split at c
    .rename_i k;obtain⟨i,q,r,l⟩:=k;cases c;have p:=d.has _ _ (bU g);have s:v.cells.toList.length=n:=by simpa using i
     refine⟨{w with heap:=w.heap.setIfInBounds b (.cells (cU f off v.cells.toList) E fz)},?_,d.set (List.mem_map.2 ⟨_,bU g,rfl⟩) rfl rfl rfl rfl⟩;simp only[Instr.storeAt,Instr.sureAddr,Vp,Wm,VT,storeVar,ei j w,i,ne_eq,not_true_eq_false,↓reduceIte];rw[Cr v.cells.toList 0 f w p oM oM l]
     rfl
    cases c
   cases c
  cases h
 cases h
end
def my(ops:Array Oper)(f:Fr)(j:Nat):Option Bool:=
 match(ops[j]?).bind (·.dst) with
 |some d=>match dA f d with
  | .bool b=>some b
  |_=>none
 |none=>none
def JL(ops:Array Oper)(f:Fr)(j:Nat):yielded ops f.toArray j=my ops f j:=by
 unfold yielded my;cases(ops[j]?).bind (·.dst) with
 |none=>rfl
 |some d=>
  simp only[Yn];have:=lC f d;rw[Array.getD_eq_getD_getElem?] at this;cases h:f.toArray[d]? with
  |none=>rw[h] at this;simp only[Option.getD_none] at this;rw[<-this];rfl
  |some v=>rw[h] at this;simp only[Option.getD_some] at this;rw[<-this];cases v<;>rfl
inductive Md where
 |seq
 |qui (is ts:List Nat)
 |any (is ts:List Nat)
 |sof (R is ts:List Nat)
def eF(P:h_):Op->Bool
 | .move _=>true
 | .assign _=>true
 | .pick .. =>true
 | .binOp .. =>true
 | .unOp .. =>true
 | .convert s d _=>match Z_ P s d with| .int _=>true| .str=>true|_=>false
 | .nilCheck _=>true
 | .fieldAddr .. =>true
 | .field .. =>true
 | .indexAddr .. =>true
 | .index .. =>true
 | .extract .. =>true
 | .slice .. =>true
 | .makeFunc .. =>true
 | .call ⟨.builtin .len,_,_⟩=>true
 | .call ⟨.builtin .cap,_,_⟩=>true
 | .build .. =>true
 |_=>false
def jU:Op->Bool
 | .load .. =>true
 | .convert .. =>true
 |_=>false
def nX(ops:Array Oper)(listed:Array Bool)(i:Nat):Nat->List Nat->List Nat
 |0,a=>a
 |n+1,a=>nX ops listed i n ((List.range ops.size).filter fun j=>j !=i&& !listed.getD j true&&match ops[j]? with
  |some b=>b.after.any fun e=>Region.binds .any e&& (e.on==i||a.contains e.on)
  |none=>false)
def wr(ops:Array Oper)(ts:List Nat)(listed:Array Bool)(i:Nat)(cs:List Nat):Bool:=
 (ts.all fun t=>listed.getD t true||cs.contains t)&&cs.all fun c=>c !=i&& !listed.getD c true&&match ops[c]? with
  |some a=>a.after.any fun e=>Region.binds .any e&& (e.on==i||cs.contains e.on)
  |none=>false
def mo(ops:Array Oper)(ts:List Nat)(listed:Array Bool)(i:Nat):Bool:=
 wr ops ts listed i (nX ops listed i 6 [])
def mD(P:h_)(ops:Array Oper)(ts:List Nat):List Nat->Array Bool->Bool
 | [],listed=>(Region.ready .any ops listed).isEmpty
 |k::is,listed=>
  (match ops[k]? with
   |some o=>
    ((Region.ready .any ops listed==[k])&& !(ts.contains k&& (eF P o.op||jU o.op))) ||
    (!ts.contains k&& (Region.ready .any ops listed).contains k&&Region.free .any ops listed k&&
     (eF P o.op|| (jU o.op&&mo ops ts listed k&&ts.all fun t=> !listed.getD t true)))
   |none=>false)&&mD P ops ts is (listed.setIfInBounds k true)
def da(w0:hW)(N:Fr->aA->Prop)(e:Exit)(a:Act)(w:hW):Prop:=e=.normal/\a.defers=[]/\ ∃L,Hp w0 L w/\N a.tmps.toList L
structure Fits(P:h_)(ops:Array Oper)(ts is:List Nat)(l:List Oper)(listed:Array Bool):Prop where
 len:is.length=l.length
 at_:∀j:Nat,l[j]? =(is[j]?).bind fun i:Nat=>ops[i]?
 sel:Region.noSelect ops=true
 order:mD P ops ts is listed=true
def SR(w0:hW)(R:List Nat)(L:aA)(w:hW):Prop:= ∀b,b∈R-> ∀o,aG w0 L b=some o->w.heap[b]? =some o
def SR.of{w0 w:hW}{R:List Nat}{L:aA}(h:Hp w0 L w):SR w0 R L w:=fun _ _ _ a=>h.read a
def Ow(P:h_)(w0:hW)(ops:Array Oper)(md:Md)(l:List Oper)(f:Fr)(L:aA)(N:Fr->aA->Prop):Prop:=
 match md with
 | .seq=> ∀w,Hp w0 L w->wpList P ops (da w0 N) l (act f) w
 | .qui is ts=> ∀listed,Fits P ops ts is l listed->(∀t,t∈ts->listed.getD t true=false)-> ∀w,Hp w0 L w->gj P ops (da w0 N) ts (Hp w0 L) l.length listed (act f) w
 | .any is ts=> ∀listed,Fits P ops ts is l listed->(∃t∈ts,listed.getD t true=true)-> ∀w,Hp w0 L w->wpAny P .any ops (da w0 N) l.length listed (act f) w
 | .sof R is ts=> ∀listed,Fits P ops ts is l listed->(∀t,t∈ts->listed.getD t true=false)-> ∀w,Hp w0 L w->gj P ops (da w0 N) ts (SR w0 R L) l.length listed (act f) w
def Md.next:Md->Md
 | .seq=>.seq
 | .qui is ts=>match is with
  |k::is=>if ts.contains k then .any is ts else .qui is ts
  | []=>.qui [] ts
 | .any is ts=>.any is.tail ts
 | .sof R is ts=>match is with
  |k::is=>if ts.contains k then .any is ts else .sof R is ts
  | []=>.sof R [] ts
def Md.WM:Md->Option Md
 | .seq=>some .seq
 | .qui is ts=>match is with
  |k::is=>if ts.contains k then some (.any is ts) else none
  | []=>none
 | .any is ts=>some (.any is.tail ts)
 | .sof _ is ts=>match is with
  |k::is=>if ts.contains k then some (.any is ts) else none
  | []=>none
def ay(ops:Array Oper)(f:Fr)(o:Oper):Bool:=
 match o.guard with
 |none=>false
 |some (j,a)=> !(my ops f j==some a)
def gW(ops:Array Oper)(f:Fr)(o:Oper):Region.wanted o (yielded ops (act f).tmps)= !ay ops f o:=by
 unfold Region.wanted ay;cases o.guard with
 |none=>rfl
 |some p=>simp only[act,JL,Bool.not_not]
section
variable {P:h_} {w0:hW} {f:Fr} {L:aA} {K:bz} {N:Fr->aA->Prop} {ops:Array Oper} {o:Oper} {rest:List Oper} {md:Md} {ts is:List Nat} {listed:Array Bool}
theorem Fits.nil(h:Fits P ops ts is [] listed):is=[]/\Region.ready .any ops listed=[]:=by
 have:=h.len;have a:is=[]:=by cases is with|nil=>rfl|cons _ _=>cases this
 subst a;exact⟨rfl,by simpa [mD] using h.order⟩
theorem Fits.cons(h:Fits P ops ts is (o::rest) listed):∃k d,is=k::d/\ops[k]? =some o/\Fits P ops ts d rest (listed.setIfInBounds k true)/\
  ((eF P o.op=true\/jU o.op=true)->k∉ts)/\(Region.ready .any ops listed=[k]\/(k∉ts/\k∈Region.ready .any ops listed/\Region.free .any ops listed k=true/\
   (eF P o.op=true\/(jU o.op=true/\mo ops ts listed k=true/\ ∀t,t∈ts->listed.getD t true=false)))):=by
 cases is with
 |nil=>have:=h.len;cases this
 |cons k d=>
  have i:ops[k]? =some o:=by have:=h.at_ 0;simpa using this.symm
  have g:=h.order;simp only[mD,i,WK,Bool.or_eq_true,W8,Zy,qa1,XN,qc9,XX,Bool.and_eq_false_iff,Zz] at g;refine⟨k,d,rfl,i,⟨by have:=h.len;simpa using this,fun j=>by have:=h.at_ (j+1);simpa using this,h.sel,g.2⟩,?_⟩;rcases g.1 with⟨e,a⟩ | ⟨⟨⟨e,a⟩,f⟩,b⟩
  .refine⟨fun c=>?_,.inl e⟩;rcases a with a| ⟨a,f⟩
   .exact a
   rcases c with c|c
   .rw[c] at a;cases a
   rw[c] at f;cases f
  refine⟨fun _=>e,.inr ⟨e,a,f,?_⟩⟩;rcases b with b| ⟨⟨b,l⟩,m⟩
  .exact .inl b
  exact .inr ⟨b,l,m⟩
theorem Ow.nil(h:N f L):Ow P w0 ops md [] f L N:=by
 cases md with
 |seq=>exact fun w a=>wpList_nil ⟨rfl,rfl,L,a,by simpa [act] using h⟩
 |qui is ts=>intro listed b c w a;exact⟨fun _=>a,b.nil.2,rfl,rfl,L,a,by simpa [act] using h⟩
 |any is ts=>intro listed b c w a;exact wpAny_done b.nil.2 ⟨rfl,rfl,L,a,by simpa [act] using h⟩ 0
 |sof R is ts=>intro listed b c w a;exact⟨fun _=>SR.of a,b.nil.2,rfl,rfl,L,a,by simpa [act] using h⟩
def pH{w0:hW}{K:bz}{e:Exit}{a:Act}{w:hW}(h:da w0 (K .normal) e a w):post w0 K e a w:=by obtain⟨rfl,b,L,c,d⟩:=h;exact⟨b,L,c,d⟩
def i9{w0:hW}{N:Fr->aA->Prop}{c:List PanicEntry}{a b:Act}{w:hW}(h:da w0 N (.panic c) a w):da w0 N (.panic c) b w:=by obtain⟨h,_⟩:=h;cases h
theorem Cw.region{id:Nat}{l:List Oper}(h:Ow P w0 l.toArray .seq l f L (K .normal)):Cw P w0 (.region id l.toArray false) f L K:=
 fun w a=>wp_mono (wp_region_lit (h w a)) fun _ _ _ h=>pH h
def l5(P:h_)(l:List Oper)(is ts:List Nat):Bool:=
 Region.noSelect l.toArray&&is.length==l.length&& (ts.all fun t=>decide (t<l.length))&&mD P l.toArray ts is (Array.replicate l.length false)
def cX:List Oper->Nat->Option Oper
 | [],_=>none
 |o::_,0=>some o
 |_::r,n+1=>cX r n
def pC:Option Oper->List Oper->List Oper
 |some o,l=>o::l
 |none,l=>l
def eZ(l:List Oper):List Nat->List Oper
 | []=>[]
 |i::is=>pC (cX l i) (eZ l is)
def nl(l:List Oper)(k:List Oper->Prop):Prop:=k l
@[congr] theorem VL{x y:List Oper}{k:List Oper->Prop}(h:x=y):nl x k=nl y k:=by rw[h]
def Qy(o:Oper)(r:List Oper)(k:List Oper->Prop):nl (o::r) k=k (o::r):=(rfl)
def AY(o:Oper)(r:List Oper):cX (o::r) 0=some o:=(rfl)
def AT(o:Oper)(r:List Oper)(n:Nat):cX (o::r) (n+1)=cX r n:=(rfl)
def Bn(o:Oper)(l:List Oper):pC (some o) l=o::l:=(rfl)
def Ju(l:List Oper):eZ l []=[]:=(rfl)
def Bk(l:List Oper)(i:Nat)(is:List Nat):eZ l (i::is)=pC (cX l i) (eZ l is):=(rfl)
def Cw.WU{id:Nat}{l:List Oper}(is ts:List Nat)(k:P.follows .mixedOrders=true)(d:l5 P l is ts=true)(b:is.map (fun i:Nat=>l[i]?)=(eZ l is).map some)
  (h:nl (eZ l is) fun a=>Ow P w0 l.toArray (.qui is ts) a f L (K .normal)):Cw P w0 (.region id l.toArray true) f L K:=by
 revert b h
 generalize eZ l is=a;intro b h w m;simp only[l5,WK,W8,XX,XN] at d;obtain⟨⟨⟨n,o⟩,p⟩,q⟩:=d;have e:is.length=a.length:=by have:=Wc List.length b;simpa using this
 refine wp_mono (wp_region_any k ?_) fun _ _ _ h=>pH h;have r:Fits P l.toArray ts is a (Array.replicate l.length false):=⟨e,fun j=>by
  have:=Wc (·[j]?) b;simp only[List.getElem?_map] at this;cases g:is[j]? with
  |none=>
   rw[g] at this;simp only[YL] at this;cases c:a[j]? with
   |none=>rfl
   |some x=>rw[c] at this;cases this
  |some i=>
   rw[g] at this;simp only[Ws] at this;cases c:a[j]? with
   |none=>rw[c] at this;cases this
   |some x=>rw[c] at this;simp only[Ws,WD] at this;simp[this],n,q⟩
 have:=(h:Ow P w0 l.toArray (.qui is ts) a f L (K .normal)) (Array.replicate l.length false) r (fun t s=>by have:=p t s;simp[this]) _ m.drew;rw[<-e,o] at this;have:=BQ _ _ _ _ this;simpa using this
def OpS(P:h_)(w0:hW)(f:Fr)(L:aA)(o:Oper)(M:hU->aA->Prop):Prop:=
 ∀w,Hp w0 L w->
  (∃v b a,(execOp (ev f) o).run P w=.ok (.value v) b/\Hp w0 a b/\M v a)\/
  (∃b a,(execOp (ev f) o).run P w=.ok .skip b/\Hp w0 a b/\M undef a)\/
  (∃k c d,(execOp (ev f) o).run P w=.ok (.enter k c) d/\Calls P k c d fun e b=> ∃v a,e=.returned v/\Hp w0 a b/\M v a)
theorem OpS.wp{M:hU->aA->Prop}{next:Act->hW->Prop}{Q:Exit->Act->hW->Prop}(h:OpS P w0 f L o M)
  (i:∀v b a,Hp w0 b a->M v b->next (act (aa f o.dst v)) a) {w:hW} (j:Hp w0 L w):o.wp P (act f) w next Q:=by
 unfold Oper.wp;rw[ka];rcases h w j with⟨v,a,b,c,d,g⟩ | ⟨a,b,c,d,g⟩ | ⟨k,m,n,c,l⟩
 .rw[c,Oper.upon_value,eH];exact i _ _ _ d g
 .rw[c,Oper.upon_skip,eH];exact i _ _ _ d g
 rw[c,Oper.upon_enter];refine l.mono ?_;rintro e a ⟨v,b,rfl,d,g⟩;show next ((act f).put o.dst v) a;rw[eH];exact i _ _ _ d g
theorem OpS.mono{M j:hU->aA->Prop}(h:OpS P w0 f L o M)(i:∀v L,M v L->j v L):OpS P w0 f L o j:=fun w l=>by
 rcases h w l with⟨v,g,a,b,c,d⟩ | ⟨g,a,b,c,d⟩ | ⟨k,m,n,b,p⟩
 .exact .inl ⟨v,g,a,b,c,i _ _ d⟩
 .exact .inr (.inl ⟨g,a,b,c,i _ _ d⟩)
 exact .inr (.inr ⟨k,m,n,b,p.mono fun e g ⟨v,a,q,c,d⟩=>⟨v,a,q,c,i _ _ d⟩⟩)
def py{i:Nat}(h:listed.getD i true=false):(listed.setIfInBounds i true).getD i true=true:=by
 have b:i<listed.size:=by
  rcases Nat.lt_or_ge i listed.size with a|a
  .exact a
  simp[Array.getElem?_eq_none a] at h
 simp[b]
def k6{i:Nat}(b:i∉ts)(c:∀t,t∈ts->listed.getD t true=false):∀t,t∈ts->(listed.setIfInBounds i true).getD t true=false:=
 fun t a=>by rw[getD_set_ne true (fun(e:i=t)=>b (by rw[e];exact a))];exact c t a
def oJ{k:Nat}(d:ops[k]? =some o)(e:Region.ready .any ops listed=[k])(g:ay ops f o=false){n:Nat}{M:hU->aA->Prop}(h:OpS P w0 f L o M)
  (j:∀v a b,Hp w0 a b->M v a->wpAny P .any ops (da w0 N) n (listed.setIfInBounds k true) (act (aa f o.dst v)) b) {w:hW} (l:Hp w0 L w):wpAny P .any ops (da w0 N) (n+1) listed (act f) w:=by
 refine wpAny_all e V_ ?_;intro i c;simp only[VZ] at c;subst c;unfold wpOp;simp only[d,gW,g,W6,↓reduceIte];exact .inl (h.wp j l)
def Ow.step{A:Md}(b:md.WM=some A)(c:eF P o.op=false)(x:ay ops f o=false)(h:OpS P w0 f L o (fun v m=>Ow P w0 ops A rest (aa f o.dst v) m N)):Ow P w0 ops md (o::rest) f L N:=by
 cases md with
 |seq=>cases b;intro w d;unfold wpList;rw[gW,x];simp only[W6,↓reduceIte];exact .inl (h.wp (fun v m g c j=>j g c) d)
 |any is ts=>
  cases b;intro listed n p w d;obtain⟨k,B,rfl,q,r,C,a⟩:=n.cons;obtain⟨t,D,y⟩:=p;have l:Region.ready .any ops listed=[k]:=by
   rcases a with a| ⟨_,_,_,a| ⟨_,_,a⟩⟩
   .exact a
   .rw[c] at a;cases a
   rw[a t D] at y;cases y
  exact oJ q l x h (fun v m g c j=>j _ r ⟨t,D,qi y⟩ g c) d
 |qui is ts=>
  intro listed n p w d;obtain⟨k,B,rfl,q,r,C,a⟩:=n.cons;simp only[Md.WM] at b
  split at b
  .rename_i z;cases b;have e:k∈ts:=by simpa using z
   have l:Region.ready .any ops listed=[k]:=by
    rcases a with a| ⟨a,_⟩
    .exact a
    exact Vx e a
   have s:=py (p k e);refine⟨fun _=>d,(fun h=>by rw[l] at h;cases h),?_⟩;intro i u;rw[l,VZ] at u;subst u;unfold wpOp;simp only[q,gW,x,W6,↓reduceIte];exact .inl (h.wp (fun v m g c j=>n5 _ _ _ _ ⟨i,e,s⟩ (j _ r ⟨i,e,s⟩ g c)) d)
  cases b
 |sof R is ts=>
  intro listed n p w d;obtain⟨k,B,rfl,q,r,C,a⟩:=n.cons;simp only[Md.WM] at b
  split at b
  .rename_i z;cases b;have e:k∈ts:=by simpa using z
   have l:Region.ready .any ops listed=[k]:=by
    rcases a with a| ⟨a,_⟩
    .exact a
    exact Vx e a
   have s:=py (p k e);refine⟨fun _=>SR.of d,(fun h=>by rw[l] at h;cases h),?_⟩;intro i u;rw[l,VZ] at u;subst u;unfold wpOp;simp only[q,gW,x,W6,↓reduceIte];exact .inl (h.wp (fun v m g c j=>n5 _ _ _ _ ⟨i,e,s⟩ (j _ r ⟨i,e,s⟩ g c)) d)
  cases b
def Ow.calm{v:hU}(c:eF P o.op=false)(B:jU o.op=false)(t:ay ops f o=false)(h:OpS P w0 f L o (fun g j=>g=v/\j=L))
  (d:Ow P w0 ops md.next rest (aa f o.dst v) L N):Ow P w0 ops md (o::rest) f L N:=by
 cases md with
 |seq=>exact Ow.step rfl c t (h.mono fun g j ⟨u,x⟩=>by rw[u,x];exact d)
 |any is ts=>exact Ow.step rfl c t (h.mono fun g j ⟨u,x⟩=>by rw[u,x];exact d)
 |qui is ts=>
  intro listed y l w m;obtain⟨k,C,rfl,z,n,D,a⟩:=y.cons;have p:Region.ready .any ops listed=[k]:=by
   rcases a with a| ⟨_,_,_,a| ⟨a,_⟩⟩
   .exact a
   .rw[c] at a;cases a
   rw[B] at a;cases a
  refine⟨fun _=>m,(fun h=>by rw[p] at h;cases h),?_⟩;intro i q;rw[p,VZ] at q;subst q;unfold wpOp;simp only[z,gW,t,W6,↓reduceIte];refine .inl (h.wp (fun g j r c A=>?_) m);obtain⟨rfl,rfl⟩:=A;simp only[Md.next] at d
  split at d
  .rename_i e;have b:i∈ts:=by simpa using e
   have s:=py (l i b);exact n5 _ _ _ _ ⟨i,b,s⟩ (d _ n ⟨i,b,s⟩ r c)
  rename_i e;have b:i∉ts:=by simpa using e
  exact d _ n (k6 b l) r c
 |sof R is ts=>
  intro listed y l w m;obtain⟨k,C,rfl,z,n,D,a⟩:=y.cons;have p:Region.ready .any ops listed=[k]:=by
   rcases a with a| ⟨_,_,_,a| ⟨a,_⟩⟩
   .exact a
   .rw[c] at a;cases a
   rw[B] at a;cases a
  refine⟨fun _=>SR.of m,(fun h=>by rw[p] at h;cases h),?_⟩;intro i q;rw[p,VZ] at q;subst q;unfold wpOp;simp only[z,gW,t,W6,↓reduceIte];refine .inl (h.wp (fun g j r c A=>?_) m);obtain⟨rfl,rfl⟩:=A;simp only[Md.next] at d
  split at d
  .rename_i e;have b:i∈ts:=by simpa using e
   have s:=py (l i b);exact n5 _ _ _ _ ⟨i,b,s⟩ (d _ n ⟨i,b,s⟩ r c)
  rename_i e;have b:i∉ts:=by simpa using e
  exact d _ n (k6 b l) r c
def m6{k:Nat}(j:ops[k]? =some o)(d:k∈Region.ready .any ops listed)(f:Region.free .any ops listed k=true)
  (a:eF P o.op=true\/(jU o.op=true/\mo ops ts listed k=true/\ ∀t,t∈ts->listed.getD t true=false)):qn6 ops ts k o (eF P o.op=true) listed:=by
 refine⟨d,Region.free_spec j f,a.imp id fun⟨_,b,_⟩=>?_⟩;unfold mo wr at b;generalize nX ops listed k 6 []=l at b;simp only[WK,XX,Bool.or_eq_true,qa1,XN,Yb,ne_eq,Zy] at b;obtain⟨m,n⟩:=b;refine⟨l,fun t p q=>?_,fun c r=>?_⟩
 .rcases m t p with h|h
  .rw[q] at h;cases h
  exact h
 obtain⟨⟨d,f⟩,a⟩:=n c r;refine⟨d,f,?_⟩;cases i:ops[c]? with
 |none=>rw[i] at a;cases a
 |some s=>rw[i] at a;obtain⟨e,u,g⟩:=Array.any_eq_true'.1 a;simp only[WK,Bool.or_eq_true,W8,qa1,XN] at g;exact⟨s,rfl,e,u,g.1,g.2⟩
def Ow.skip(C:ay ops f o=true)(h:Ow P w0 ops md.next rest (aa f o.dst undef) L N):Ow P w0 ops md (o::rest) f L N:=by
 have p:Region.wanted o (yielded ops (act f).tmps)=false:=by rw[gW,C];rfl
 cases md with
 |seq=>intro w b;unfold wpList;rw[p];simp only[VW,↓reduceIte];rw[eH];exact h w b
 |any is ts=>
  intro listed l e w b;obtain⟨k,z,rfl,g,j,A,d⟩:=l.cons;obtain⟨t,D,E⟩:=e;have B:=h _ j ⟨t,D,qi E⟩ w b;rcases d with d| ⟨m,s,u,y⟩
  .refine wpAny_all d V_ ?_;intro i n;simp only[VZ] at n;subst n;unfold wpOp;simp only[g,p,VW,↓reduceIte];rw[eH];exact B
  refine wpAny_take (v:=undef) g l.sel u (by simpa using s) (fun c a w h=>i9 h) (.inr ⟨p,rfl⟩) ?_;rw[eH];exact B
 |qui is ts=>
  intro listed l e w b;obtain⟨k,z,rfl,g,j,A,d⟩:=l.cons;simp only[Md.next] at h;rcases d with d| ⟨m,s,u,y⟩
  .refine⟨fun _=>b,fun h=>(by rw[d] at h;cases h),?_⟩;intro i n;rw[d,VZ] at n;subst n;unfold wpOp;simp only[g,p,VW,↓reduceIte];rw[eH]
   split at h
   .rename_i q;have r:i∈ts:=by simpa using q
    have x:=py (e i r);exact n5 _ _ _ _ ⟨i,r,x⟩ (h _ j ⟨i,r,x⟩ w b)
   rename_i q;exact h _ j (k6 (by simpa using q) e) w b
  rw[tr (by simpa using m)] at h;refine k' g m (Region.noSelect_spec l.sel) (fun c a w h=>i9 h) _ _ _ _ (m6 (P:=P) g s u y) (.inr e) (.inr ⟨p,rfl⟩) ?_;rw[eH];exact h _ j (k6 m e) w b
 |sof R is ts=>
  intro listed l e w b;obtain⟨k,z,rfl,g,j,A,d⟩:=l.cons;simp only[Md.next] at h;rcases d with d| ⟨m,s,u,y⟩
  .refine⟨fun _=>SR.of b,fun h=>(by rw[d] at h;cases h),?_⟩;intro i n;rw[d,VZ] at n;subst n;unfold wpOp;simp only[g,p,VW,↓reduceIte];rw[eH]
   split at h
   .rename_i q;have r:i∈ts:=by simpa using q
    have x:=py (e i r);exact n5 _ _ _ _ ⟨i,r,x⟩ (h _ j ⟨i,r,x⟩ w b)
   rename_i q;exact h _ j (k6 (by simpa using q) e) w b
  rw[tr (by simpa using m)] at h;refine k' g m (Region.noSelect_spec l.sel) (fun c a w h=>i9 h) _ _ _ _ (m6 (P:=P) g s u y) (.inr e) (.inr ⟨p,rfl⟩) ?_;rw[eH];exact h _ j (k6 m e) w b
def qP{op:Op}{v:hU}(a:eF P op=true)(h:fT P w0 L f op=some v)(w:hW):fT P w [] f op=some v:=by
 cases op<;>simp only[eF,VW] at a<;>first
  |exact h
  |skip
 .rename_i s d x;simp only[fT] at h |-;cases e:Z_ P s d<;>rw[e] at h a<;>first
   |exact h
   |cases a
 .rename_i t x j k g;cases g<;>exact h
 rename_i c;obtain⟨i,l,ts⟩:=c;cases i with
 |builtin b=>cases b<;>first|exact h|cases a
 |value x=>cases a
 |invoke x m=>cases a
def sT{op:Op}{v:hU}(h:fT P w0 L f op=some v):eF P op=true\/jU op=true:=by
 unfold fT at h
 split at h<;>first
  |exact .inl rfl
  |exact .inr rfl
  |cases h
def Z6(R:List Nat):hU->Bool
 | .pointer (some a)=>R.contains a.block
 | .slice (some a) _ _=>R.contains a.block
 |_=>true
def Zr(md:Md)(f:Fr)(op:Op):Bool:=
 match op with
 | .load _ x=>(match md with| .sof R _ _=>Z6 R (ev f x) |_=>true)
 | .convert _ _ x=>(match md with| .sof R _ _=>Z6 R (ev f x) |_=>true)
 |_=>true
def CX(w:hW)(b:Nat):aG w [] b=w.heap[b]? :=(rfl)
def DC{R is ts:List Nat}{op:Op}{v:hU}{w:hW}(a:Zr (.sof R is ts) f op=true)(h:fT P w0 L f op=some v)(i:SR w0 R L w):fT P w [] f op=some v:=by
 cases op<;>first
  |exact h
  |skip
 case load t x=>
  simp only[fT,mK] at h |-;simp only[Zr] at a
  split at h
  .rename_i b off g;rw[g] at a;simp only[Z6,qa1,XN] at a;simp only[CX];cases e:aG w0 L b with
   |none=>rw[e] at h;unfold aF at h;split at h<;>simp_all
   |some o=>rw[i b a o e];rw[e] at h;exact h
  cases h
 case convert s d x=>
  simp only[fT,fN] at h |-;simp only[Zr] at a;cases j:Z_ P s d<;>rw[j] at h<;>simp only at h |- <;>first
   |exact h
   |skip
  unfold nz at h |-
  split at h
  .exact h
  .rename_i b off n c g;rw[g] at a;simp only[Z6,qa1,XN] at a;simp only[CX];cases e:aG w0 L b with
   |none=>rw[e] at h;unfold e_ at h;cases h
   |some o=>rw[i b a o e];rw[e] at h;exact h
  cases h
 case slice t x lo hi mx=>cases mx<;>exact h
 case call c=>
  obtain⟨k,l,p⟩:=c;cases k with
  |builtin b=>cases b<;>exact h
  |value x=>exact h
  |invoke x m=>exact h
def Ow.value{v:hU}(H:ay ops f o=false)(K:Zr md f o.op=true)(j:fT P w0 L f o.op=some v)(h:Ow P w0 ops md.next rest (aa f o.dst v) L N):Ow P w0 ops md (o::rest) f L N:=by
 have s:Region.wanted o (yielded ops (act f).tmps)=true:=by rw[gW,H];rfl
 have D:OpS P w0 f L o (fun u x=>u=v/\x=L):=fun w b=>.inl ⟨v,w,L,jQ b j,b,rfl,rfl⟩;have M:XZ P ops (Hp w0 L) (eF P o.op=true) o v (act f):=by
  refine .inl ⟨s,fun w b=>?_⟩;rw[ka];rcases b with e|b
  .exact jQ (Hp.refl w) (qP e j w)
  exact jQ b j
 cases md with
 |seq=>intro w b;unfold wpList;rw[s];simp only[↓reduceIte];exact .inl (D.wp (fun u x n e p=>by obtain⟨rfl,rfl⟩:=p;exact h n e) b)
 |any is ts=>
  intro listed l q w b;obtain⟨k,I,rfl,g,y,E,d⟩:=l.cons;obtain⟨t,J,G⟩:=q;have m:=fun w b=>h _ y ⟨t,J,qi G⟩ w b;rcases d with d| ⟨F,z,A,r| ⟨_,_,r⟩⟩
  .exact oJ g d H D (fun u x n e p=>by obtain⟨rfl,rfl⟩:=p;exact m n e) b
  .refine wpAny_take (v:=v) g l.sel A (by simpa using z) (fun c a w h=>i9 h) (.inl ⟨s,fun w=>?_⟩) ?_
   .rw[ka];exact jQ (Hp.refl w) (qP r j w)
   rw[eH];exact m w b
  rw[r t J] at G;cases G
 |qui is ts=>
  intro listed l q w b;obtain⟨k,I,rfl,g,y,E,d⟩:=l.cons;have B:k∉ts:=E (sT j);simp only[Md.next] at h;rw[tr (by simpa using B)] at h;have m:=fun w b=>h _ y (k6 B q) w b;rcases d with d| ⟨F,z,A,r⟩
  .refine⟨fun _=>b,fun h=>(by rw[d] at h;cases h),?_⟩;intro i C;rw[d,VZ] at C;subst C;unfold wpOp;simp only[g,s,↓reduceIte];exact .inl (D.wp (fun u x n e p=>by obtain⟨rfl,rfl⟩:=p;exact m n e) b)
  refine k' g F (Region.noSelect_spec l.sel) (fun c a w h=>i9 h) _ _ _ _ (m6 (P:=P) g z A r) (.inr q) M ?_;rw[eH];exact m w b
 |sof R is ts=>
  intro listed l q w b;have O:XZ P ops (SR w0 R L) (eF P o.op=true) o v (act f):=by
   refine .inl ⟨s,fun w b=>?_⟩;rw[ka];rcases b with e|b
   .exact jQ (Hp.refl w) (qP e j w)
   exact jQ (Hp.refl w) (DC K j b)
  obtain⟨k,I,rfl,g,y,E,d⟩:=l.cons;have B:k∉ts:=E (sT j);simp only[Md.next] at h;rw[tr (by simpa using B)] at h;have m:=fun w b=>h _ y (k6 B q) w b;rcases d with d| ⟨F,z,A,r⟩
  .refine⟨fun _=>SR.of b,fun h=>(by rw[d] at h;cases h),?_⟩;intro i C;rw[d,VZ] at C;subst C;unfold wpOp;simp only[g,s,↓reduceIte];exact .inl (D.wp (fun u x n e p=>by obtain⟨rfl,rfl⟩:=p;exact m n e) b)
  refine k' g F (Region.noSelect_spec l.sel) (fun c a w h=>i9 h) _ _ _ _ (m6 (P:=P) g z A r) (.inr q) O ?_;rw[eH];exact m w b
def Ow.qi1{v:hU}(e:eF P o.op=true)(H:ay ops f o=false)(G:∀w,(execOp (ev f) o).run P w=.ok (.value v) w)(h:Ow P w0 ops md.next rest (aa f o.dst v) L N):Ow P w0 ops md (o::rest) f L N:=by
 have q:Region.wanted o (yielded ops (act f).tmps)=true:=by rw[gW,H];rfl
 have B:OpS P w0 f L o (fun r s=>r=v/\s=L):=fun w b=>.inl ⟨v,w,L,G w,b,rfl,rfl⟩;have I:∀C,XZ P ops C (eF P o.op=true) o v (act f):=fun C=>.inl ⟨q,fun w _=>by rw[ka];exact G w⟩;cases md with
 |seq=>intro w b;unfold wpList;rw[q];simp only[↓reduceIte];exact .inl (B.wp (fun r s m e n=>by obtain⟨rfl,rfl⟩:=n;exact h m e) b)
 |any is ts=>
  intro listed j p w b;obtain⟨k,J,rfl,g,u,D,d⟩:=j.cons;obtain⟨t,K,M⟩:=p;have l:=fun w b=>h _ u ⟨t,K,qi M⟩ w b;rcases d with d| ⟨E,x,y,F⟩
  .exact oJ g d H B (fun r s m e n=>by obtain⟨rfl,rfl⟩:=n;exact l m e) b
  refine wpAny_take (v:=v) g j.sel y (by simpa using x) (fun c a w h=>i9 h) (.inl ⟨q,fun w=>?_⟩) ?_
  .rw[ka];exact G w
  rw[eH];exact l w b
 |qui is ts=>
  intro listed j p w b;obtain⟨k,J,rfl,g,u,D,d⟩:=j.cons;have z:k∉ts:=D (.inl e);simp only[Md.next] at h;rw[tr (by simpa using z)] at h;have l:=fun w b=>h _ u (k6 z p) w b;rcases d with d| ⟨E,x,y,F⟩
  .refine⟨fun _=>b,fun h=>(by rw[d] at h;cases h),?_⟩;intro i A;rw[d,VZ] at A;subst A;unfold wpOp;simp only[g,q,↓reduceIte];exact .inl (B.wp (fun r s m e n=>by obtain⟨rfl,rfl⟩:=n;exact l m e) b)
  refine k' g E (Region.noSelect_spec j.sel) (fun c a w h=>i9 h) _ _ _ _ (m6 (P:=P) g x y F) (.inr p) (I _) ?_;rw[eH];exact l w b
 |sof R is ts=>
  intro listed j p w b;obtain⟨k,J,rfl,g,u,D,d⟩:=j.cons;have z:k∉ts:=D (.inl e);simp only[Md.next] at h;rw[tr (by simpa using z)] at h;have l:=fun w b=>h _ u (k6 z p) w b;rcases d with d| ⟨E,x,y,F⟩
  .refine⟨fun _=>SR.of b,fun h=>(by rw[d] at h;cases h),?_⟩;intro i A;rw[d,VZ] at A;subst A;unfold wpOp;simp only[g,q,↓reduceIte];exact .inl (B.wp (fun r s m e n=>by obtain⟨rfl,rfl⟩:=n;exact l m e) b)
  refine k' g E (Region.noSelect_spec j.sel) (fun c a w h=>i9 h) _ _ _ _ (m6 (P:=P) g x y F) (.inr p) (I _) ?_;rw[eH];exact l w b
theorem Ow.store{t:h7}{a x:Operand}{L':aA}{b:Md}(d:md.WM=some b)(e:ay ops f o=false)(c:o.op=.store t a x)(g:kQ (aU P t) L (ev f a) (ev f x)=some L')(h:Ow P w0 ops b rest (aa f o.dst undef) L' N):Ow P w0 ops md (o::rest) f L N:=
 Ow.step d (by rw[c];rfl) e fun w i=>by obtain⟨j,k,l⟩:=GR i g;refine .inr (.inl ⟨j,L',?_,l,h⟩);simp only[execOp,c,Vp,k];rfl
end
inductive Kind where
 |value|store (t:h7) (a x:Operand) |other
def ol:Op->Kind
 | .move _=>.value
 | .assign _=>.value
 | .pick .. =>.value
 | .binOp .. =>.value
 | .unOp .. =>.value
 | .convert .. =>.value
 | .nilCheck _=>.value
 | .fieldAddr .. =>.value
 | .field .. =>.value
 | .indexAddr .. =>.value
 | .index .. =>.value
 | .load .. =>.value
 | .extract .. =>.value
 | .slice .. =>.value
 | .makeFunc .. =>.value
 | .call ⟨.builtin .len,_,_⟩=>.value
 | .call ⟨.builtin .cap,_,_⟩=>.value
 | .store t a x=>.store t a x
 |_=>.other
abbrev Dep{α:Type}(a:α):Type:=Prop
def ov(x:Option hU)(k:hU->Prop):Dep k:=match x with|some v=>k v|none=>False
def ovs(x:Option hU)(k:hU->Prop)(s:Prop):Dep (k,s):=match x with|some v=>k v|none=>s
def oh(x:Option aA)(k:aA->Prop):Dep k:=match x with|some v=>k v|none=>False
def nf(f:Fr)(k:Fr->Prop):Dep k:=k f
def nh(L:aA)(k:aA->Prop):Dep k:=k L
@[congr] theorem VN{x y:Option hU}{k:hU->Prop}(h:x=y):ov x k=ov y k:=by rw[h]
@[congr] theorem VH{x y:Option hU}{k:hU->Prop}{s:Prop}(h:x=y):ovs x k s=ovs y k s:=by rw[h]
@[congr] theorem VO{x y:Option aA}{k:aA->Prop}(h:x=y):oh x k=oh y k:=by rw[h]
@[congr] theorem VM{x y:Fr}{k:Fr->Prop}(h:x=y):nf x k=nf y k:=by rw[h]
@[congr] theorem VK{x y:aA}{k:aA->Prop}(h:x=y):nh x k=nh y k:=by rw[h]
def Ns(v:hU)(k:hU->Prop)(s:Prop):ovs (some v) k s=k v:=(rfl)
def NU(k:hU->Prop)(s:Prop):ovs none k s=s:=(rfl)
def Rw(v:aA)(k:aA->Prop):oh (some v) k=k v:=(rfl)
def QR(v:hU)(r:Fr)(k:Fr->Prop):nf (v::r) k=k (v::r):=(rfl)
def SQ(k:Fr->Prop):nf [] k=k []:=(rfl)
def Pi(v:Nat×Obj)(r:aA)(k:aA->Prop):nh (v::r) k=k (v::r):=(rfl)
def SX(k:aA->Prop):nh [] k=k []:=(rfl)
def ib(b:Bool)(x y:Prop):Dep (x,y):=match b with|true=>x|false=>y
@[congr] theorem VP{a b:Bool}{x y:Prop}(h:a=b):ib a x y=ib b x y:=by rw[h]
def Qm(x y:Prop):ib true x y=x:=(rfl)
def Nt(x y:Prop):ib false x y=y:=(rfl)
def YD(P:h_)(w0:hW)(st:Bool)(md:Md)(o:Oper)(f:Fr)(L:aA)(go:Fr->aA->Prop)(stop:Prop):Prop:=
 match ol o.op with
 | .value=>ib (Zr md f o.op) (ovs (fT P w0 L f o.op) (fun v=>nf (aa f o.dst v) fun b=>go b L) stop) stop
 | .store t a x=>ib st (oh (kQ (aU P t) L (ev f a) (ev f x)) fun c=>nh c fun c=>nf (aa f o.dst undef) fun b=>go b c) stop
 | .other=>stop
def vcL(P:h_)(w0:hW)(ops:Array Oper)(st:Bool)(md:Md):List Oper->Fr->aA->(Md->List Oper->Fr->aA->Prop)->Prop
 | [],f,L,k=>k md [] f L
 |o::rest,f,L,k=>
  ib (ay ops f o) (nf (aa f o.dst undef) fun a=>vcL P w0 ops st md.next rest a L k)
   (YD P w0 st md o f L (fun a b=>vcL P w0 ops st md.next rest a b k) (k md (o::rest) f L))
def Md.eff:Md->Bool
 | .seq=>true
 | .qui _ _=>false
 | .any _ _=>true
 | .sof _ _ _=>false
def Md.qq8{md:Md}(h:md.eff=true):md.WM=some md.next:=by cases md<;>first|rfl|cases h
def Md.qp9{md:Md}(h:md.eff=true):md.next.eff=true:=by cases md<;>first|rfl|cases h
def GF{op:Op}{t:h7}{a x:Operand}(h:ol op=.store t a x):op=.store t a x:=by
 unfold ol at h
 split at h<;>first| (cases h;done) | (cases h;rfl)
theorem qX{P:h_}{w0:hW}{ops:Array Oper}{N:Fr->aA->Prop}(k:Md->List Oper->Fr->aA->Prop)(b:∀md l f L,k md l f L->Ow P w0 ops md l f L N)(st:Bool):
  ∀ (l:List Oper) (md:Md) (f:Fr) (L:aA),(st=true->md.eff=true)->vcL P w0 ops st md l f L k->Ow P w0 ops md l f L N
 | [],md,f,L,_,h=>b _ _ _ _ h
 |o::rest,md,f,L,V3,h=>by
  unfold vcL at h;have g:st=true->md.next.eff=true:=fun e=>Md.qp9 (V3 e);cases d:ay ops f o with
  |true=>rw[d] at h;exact Ow.skip d (qX k b st rest _ _ L g h)
  |false=>
   rw[d] at h;simp only[ib,YD] at h
   split at h
   .cases i:Zr md f o.op with
    |false=>rw[i] at h;exact b _ _ _ _ h
    |true=>
     rw[i] at h;cases c:fT P w0 L f o.op with
     |none=>rw[c] at h;exact b _ _ _ _ h
     |some v=>rw[c] at h;exact Ow.value d i c (qX k b st rest _ _ L g h)
   .rename_i t a x j;cases st with
    |true=>
     simp only at h;cases c:kQ (aU P t) L (ev f a) (ev f x) with
     |none=>rw[c] at h;exact h.elim
     |some m=>rw[c] at h;exact Ow.store (Md.qq8 (V3 rfl)) d (GF j) c (qX k b true rest _ _ m g h)
    |false=>exact b _ _ _ _ h
   exact b _ _ _ _ h
def Ow.run{P:h_}{w0:hW}{ops:Array Oper}{md:Md}{N:Fr->aA->Prop}{l:List Oper}{f:Fr}{L:aA}(a:md.eff=true)
  (h:∀k:Md->List Oper->Fr->aA->Prop,(∀md l f L,Ow P w0 ops md l f L N->k md l f L)->vcL P w0 ops true md l f L k):Ow P w0 ops md l f L N:=
 qX (fun md l f L=>Ow P w0 ops md l f L N) (fun _ _ _ _ h=>h) true l md f L (fun _=>a) (h _ fun _ _ _ _ h=>h)
def HJ(f:Fr)(t:h7)(x:Operand):Zr .seq f (.load t x)=true:=(rfl)
def Gy(f:Fr)(is ts:List Nat)(t:h7)(x:Operand):Zr (.any is ts) f (.load t x)=true:=(rfl)
def HD(f:Fr)(is ts:List Nat)(t:h7)(x:Operand):Zr (.qui is ts) f (.load t x)=true:=(rfl)
def HS(f:Fr)(R is ts:List Nat)(t:h7)(x:Operand):Zr (.sof R is ts) f (.load t x)=Z6 R (ev f x):=(rfl)
def Ej(f:Fr)(s t:h7)(x:Operand):Zr .seq f (.convert s t x)=true:=(rfl)
def E'(f:Fr)(is ts:List Nat)(s t:h7)(x:Operand):Zr (.any is ts) f (.convert s t x)=true:=(rfl)
def FD(f:Fr)(is ts:List Nat)(s t:h7)(x:Operand):Zr (.qui is ts) f (.convert s t x)=true:=(rfl)
def Ex(f:Fr)(R is ts:List Nat)(s t:h7)(x:Operand):Zr (.sof R is ts) f (.convert s t x)=Z6 R (ev f x):=(rfl)
def Sk(R:List Nat)(b o:Nat):Z6 R (vp b o)=R.contains b:=(rfl)
def Qz(R:List Nat)(b o n c:Nat):Z6 R (Xr b o n c)=R.contains b:=(rfl)
def PN(R:List Nat)(n c:Nat):Z6 R (.slice none n c)=true:=(rfl)
def N1(R:List Nat)(k:IntKind)(n:Int):Z6 R (.int k n)=true:=(rfl)
def OL(R:List Nat)(l:No):Z6 R (vs l)=true:=(rfl)
def Md.qq2(k:Nat)(R is ts:List Nat):(Md.sof R (k::is) ts).next=if ts.contains k then .any is ts else .sof R is ts:=(rfl)
def Md.qq1:Md.seq.next=.seq:=(rfl)
def Md.qp8(k:Nat)(is ts:List Nat):(Md.any (k::is) ts).next=.any is ts:=(rfl)
def Md.qq0(k:Nat)(is ts:List Nat):(Md.qui (k::is) ts).next=if ts.contains k then .any is ts else .qui is ts:=(rfl)
def lK:hU->Option Bool
 | .bool b=>some b
 |_=>none
def oV(o:Option Oper)(f:Fr):Option Bool:=
 match o with
 |some o=>match o.dst with
  |some d=>lK (dA f d)
  |none=>none
 |none=>none
def j4(l:List Oper)(j:Nat):cX l j=l[j]? :=by
 induction l generalizing j with
 |nil=>rfl
 |cons o r a=>cases j<;>simp[cX,a]
def JD(l:List Oper)(f:Fr)(j:Nat):my l.toArray f j=oV (cX l j) f:=by
 unfold my oV;rw[j4,List.getElem?_toArray];cases l[j]? with
 |none=>rfl
 |some o=>
  simp only[Yn];cases o.dst with
  |none=>rfl
  |some d=>simp only;cases dA f d<;>rfl
def Hy(d:Tmp)(op:Op)(ty:h7)(ps:String)(af:Array Edge)(g:Option (Nat×Bool))(f:Fr):oV (some ⟨some d,op,ty,ps,af,g⟩) f=lK (dA f d):=(rfl)
def Oa(b:Bool):lK (.bool b)=some b:=(rfl)
def GY:lK undef=none:=(rfl)
def PS(a b:Bool):((some a:Option Bool)==some b)=(a==b):=(rfl)
def P2(b:Bool):((none:Option Bool)==some b)=false:=(rfl)
section
variable (P:h_) (w0:hW) (ops:Array Oper) (rest:List Oper) (f:Fr) (L:aA) (k:Md->List Oper->Fr->aA->Prop)
 (st:Bool) (md:Md) (d:Option Tmp) (ty:h7) (ps:String) (af:Array Edge)
def Pu:vcL P w0 ops st md [] f L k=k md [] f L:=(rfl)
def Ou(op:Op):vcL P w0 ops st md (⟨d,op,ty,ps,af,none⟩::rest) f L k=
  YD P w0 st md ⟨d,op,ty,ps,af,none⟩ f L (fun a b=>vcL P w0 ops st md.next rest a b k) (k md (⟨d,op,ty,ps,af,none⟩::rest) f L):=(rfl)
def PI(op:Op)(j:Nat)(b:Bool):vcL P w0 ops st md (⟨d,op,ty,ps,af,some (j,b)⟩::rest) f L k=
  ib (my ops f j==some b) (YD P w0 st md ⟨d,op,ty,ps,af,some (j,b)⟩ f L (fun a c=>vcL P w0 ops st md.next rest a c k) (k md (⟨d,op,ty,ps,af,some (j,b)⟩::rest) f L)) (nf (aa f d undef) fun a=>vcL P w0 ops st md.next rest a L k):=by
 simp only[vcL,ay];cases(my ops f j==some b)<;>rfl
end
@[congr] theorem VJ{P:h_}{w0:hW}{st:Bool}{md:Md}{o:Oper}{f:Fr}{L:aA}{go:Fr->aA->Prop}{stop:Prop}:YD P w0 st md o f L go stop=YD P w0 st md o f L go stop:=(rfl)
section
variable (P:h_) (w0:hW) (f:Fr) (L:aA) (st:Bool) (md:Md) (d:Option Tmp) (ty:h7) (ps:String) (af:Array Edge) (g:Option (Nat×Bool)) (go:Fr->aA->Prop) (stop:Prop)
def P6(x:Operand):YD P w0 st md ⟨d,.move x,ty,ps,af,g⟩ f L go stop=ovs (some (ev f x)) (fun v=>nf (aa f d v) fun a=>go a L) stop:=(rfl)
def KW(x:Operand):YD P w0 st md ⟨d,.assign x,ty,ps,af,g⟩ f L go stop=ovs (some (ev f x)) (fun v=>nf (aa f d v) fun a=>go a L) stop:=(rfl)
def Nv(c a b:Operand):YD P w0 st md ⟨d,.pick c a b,ty,ps,af,g⟩ f L go stop=ovs (fG (ev f c) (ev f a) (ev f b)) (fun v=>nf (aa f d v) fun e=>go e L) stop:=(rfl)
def MH(op:BinOp)(t t':h7)(x y:Operand):YD P w0 st md ⟨d,.binOp op t x y t',ty,ps,af,g⟩ f L go stop=ovs (ak P op t (ev f x) (ev f y)) (fun v=>nf (aa f d v) fun a=>go a L) stop:=(rfl)
def Ng(op:UnOp)(t:h7)(x:Operand):YD P w0 st md ⟨d,.unOp op t x,ty,ps,af,g⟩ f L go stop=ovs (unV op (ev f x)) (fun v=>nf (aa f d v) fun a=>go a L) stop:=(rfl)
def IA(s t:h7)(x:Operand):YD P w0 st md ⟨d,.convert s t x,ty,ps,af,g⟩ f L go stop=ib (Zr md f (.convert s t x)) (ovs (fN w0 L (Z_ P s t) (ev f x)) (fun v=>nf (aa f d v) fun a=>go a L) stop) stop:=(rfl)
def GE(x:Operand):YD P w0 st md ⟨d,.nilCheck x,ty,ps,af,g⟩ f L go stop=ovs (qy5 (ev f x)) (fun v=>nf (aa f d v) fun a=>go a L) stop:=(rfl)
def Fw(s:h7)(x:Operand)(i:Nat):YD P w0 st md ⟨d,.fieldAddr s x i,ty,ps,af,g⟩ f L go stop=ovs (qO (an P s i) (ev f x)) (fun v=>nf (aa f d v) fun a=>go a L) stop:=(rfl)
def NA(s:h7)(x:Operand)(i:Nat):YD P w0 st md ⟨d,.field s x i,ty,ps,af,g⟩ f L go stop=ovs (lV (an P s i) (ev f x)) (fun v=>nf (aa f d v) fun a=>go a L) stop:=(rfl)
def Fl(t:h7)(x i:Operand):YD P w0 st md ⟨d,.indexAddr t x i,ty,ps,af,g⟩ f L go stop=ovs (ez (YJ P t) (ev f x) (ixI (ev f i))) (fun v=>nf (aa f d v) fun a=>go a L) stop:=(rfl)
def KB(t:h7)(x i:Operand):YD P w0 st md ⟨d,.index t x i,ty,ps,af,g⟩ f L go stop=ovs (j9 (YJ P t) (ev f x) (ixI (ev f i))) (fun v=>nf (aa f d v) fun a=>go a L) stop:=(rfl)
def Ot(t:h7)(x:Operand):YD P w0 st md ⟨d,.load t x,ty,ps,af,g⟩ f L go stop=ib (Zr md f (.load t x)) (ovs (mK (aU P t) w0 L (ev f x)) (fun v=>nf (aa f d v) fun a=>go a L) stop) stop:=(rfl)
def ID(x:Operand)(i:Nat):YD P w0 st md ⟨d,.extract x i,ty,ps,af,g⟩ f L go stop=ovs (Bz (ev f x) i) (fun v=>nf (aa f d v) fun a=>go a L) stop:=(rfl)
def MF(t:h7)(x:Operand)(a b:Option Operand):YD P w0 st md ⟨d,.slice t x a b none,ty,ps,af,g⟩ f L go stop=ovs (eN (YJ P t) (ev f x) (a.map fun o=>ixI (ev f o)) (b.map fun o=>ixI (ev f o))) (fun v=>nf (aa f d v) fun c=>go c L) stop:=(rfl)
def GH(c:Fn)(a b:Array Operand):YD P w0 st md ⟨d,.makeFunc c a b,ty,ps,af,g⟩ f L go stop=ovs (some (.func c (a.map (ev f)) (b.map (ev f)))) (fun v=>nf (aa f d v) fun e=>go e L) stop:=(rfl)
def QM(x:Operand)(t:h7):YD P w0 st md ⟨d,.call ⟨.builtin .len,#[x],#[t]⟩,ty,ps,af,g⟩ f L go stop=ovs (Yw (YJ P t) (ev f x)) (fun v=>nf (aa f d v) fun a=>go a L) stop:=(rfl)
def Rq(x:Operand)(t:h7):YD P w0 st md ⟨d,.call ⟨.builtin .cap,#[x],#[t]⟩,ty,ps,af,g⟩ f L go stop=ovs (qo5 (YJ P t) (ev f x)) (fun v=>nf (aa f d v) fun a=>go a L) stop:=(rfl)
def Kv(t:h7)(a x:Operand):YD P w0 true md ⟨none,.store t a x,ty,ps,af,g⟩ f L go stop=oh (kQ (aU P t) L (ev f a) (ev f x)) fun b=>nh b fun b=>go f b:=(rfl)
def Hx(t:h7)(a x:Operand):YD P w0 false md ⟨d,.store t a x,ty,ps,af,g⟩ f L go stop=stop:=(rfl)
def J_(t:h7):YD P w0 st md ⟨d,.alloc t,ty,ps,af,g⟩ f L go stop=stop:=(rfl)
def Qb(t:h7)(x:Operand):YD P w0 st md ⟨d,.box t x,ty,ps,af,g⟩ f L go stop=stop:=(rfl)
def Kg(t:h7)(x:Array (Nat×Operand)):YD P w0 st md ⟨d,.build t x,ty,ps,af,g⟩ f L go stop=stop:=(rfl)
def Ey(t:h7)(n:Nat)(x:Array (Nat×Operand)):YD P w0 st md ⟨d,.buildSlice t n x,ty,ps,af,g⟩ f L go stop=stop:=(rfl)
def Fm(t:h7)(x y:Operand):YD P w0 st md ⟨d,.makeSlice t x y,ty,ps,af,g⟩ f L go stop=stop:=(rfl)
def N4(x:Operand)(a:Array Operand)(t:Array h7):YD P w0 st md ⟨d,.call ⟨.value x,a,t⟩,ty,ps,af,g⟩ f L go stop=stop:=(rfl)
def KM(a:Array Operand)(t:Array h7):YD P w0 st md ⟨d,.call ⟨.builtin .append,a,t⟩,ty,ps,af,g⟩ f L go stop=stop:=(rfl)
def V7(a:Array Operand)(t:Array h7):YD P w0 st md ⟨d,.call ⟨.builtin .unsafeString,a,t⟩,ty,ps,af,g⟩ f L go stop=stop:=(rfl)
def V4(a:Array Operand)(t:Array h7):YD P w0 st md ⟨d,.call ⟨.builtin .unsafeSliceData,a,t⟩,ty,ps,af,g⟩ f L go stop=stop:=(rfl)
def NT(a:Array Operand)(t:Array h7):YD P w0 st md ⟨d,.call ⟨.builtin .copy,a,t⟩,ty,ps,af,g⟩ f L go stop=stop:=(rfl)
def JV(a:Array Operand)(t:Array h7):YD P w0 st md ⟨d,.call ⟨.builtin .delete,a,t⟩,ty,ps,af,g⟩ f L go stop=stop:=(rfl)
def M5(a:Array Operand)(t:Array h7):YD P w0 st md ⟨d,.call ⟨.builtin .clear,a,t⟩,ty,ps,af,g⟩ f L go stop=stop:=(rfl)
def Qw(a:Array Operand)(t:Array h7):YD P w0 st md ⟨d,.call ⟨.builtin .max,a,t⟩,ty,ps,af,g⟩ f L go stop=stop:=(rfl)
def Qq(a:Array Operand)(t:Array h7):YD P w0 st md ⟨d,.call ⟨.builtin .min,a,t⟩,ty,ps,af,g⟩ f L go stop=stop:=(rfl)
def Gu(t:h7)(x:Option Operand):YD P w0 st md ⟨d,.makeMap t x,ty,ps,af,g⟩ f L go stop=stop:=(rfl)
def JI(t:h7)(x y:Operand)(c:Bool):YD P w0 st md ⟨d,.lookup t x y c,ty,ps,af,g⟩ f L go stop=stop:=(rfl)
def FR(t:h7)(m x y:Operand):YD P w0 st md ⟨d,.mapUpdate t m x y,ty,ps,af,g⟩ f L go stop=stop:=(rfl)
def MB(t:h7)(x:Operand):YD P w0 st md ⟨d,.range t x,ty,ps,af,g⟩ f L go stop=stop:=(rfl)
def OY(x:Operand)(b:Bool):YD P w0 st md ⟨d,.next x b,ty,ps,af,g⟩ f L go stop=stop:=(rfl)
def IS(t:h7)(m x y:Operand):YD P w0 st md ⟨d,.insert t m x y,ty,ps,af,g⟩ f L go stop=stop:=(rfl)
def VA(t:h7)(x:Operand):YD P w0 st md ⟨d,.makeInterface t x,ty,ps,af,g⟩ f L go stop=stop:=(rfl)
def GV(t:h7)(m x:Operand):YD P w0 st md ⟨d,.mapEntry t m x,ty,ps,af,g⟩ f L go stop=stop:=(rfl)
def El(t:h7)(m x y:Operand):YD P w0 st md ⟨d,.entryStore t m x y,ty,ps,af,g⟩ f L go stop=stop:=(rfl)
def LM(x:Operand):YD P w0 st md ⟨d,.entry x,ty,ps,af,g⟩ f L go stop=stop:=(rfl)
end
end Go.Sx
end
section
namespace Go.Sx
open Go
def qj5(P:h_)(w0:hW)(L:aA)(f:Fr):ResultVar->Option hU
 | .tmp t=>some (dA f t)
 | .cell a t=>mK (aU P t) w0 L (dA f a)
def lx:Option hU->Option (List hU)->Option (List hU)
 |some v,some vs=>some (v::vs)
 |_,_=>none
def iJ(P:h_)(w0:hW)(L:aA)(f:Fr):List ResultVar->Option (List hU)
 | []=>some []
 |r::rs=>lx (qj5 P w0 L f r) (iJ P w0 L f rs)
def Bb(P:h_)(w0:hW)(L:aA)(f:Fr):iJ P w0 L f []=some []:=(rfl)
def Bl(P:h_)(w0:hW)(L:aA)(f:Fr)(r:ResultVar)(rs:List ResultVar):iJ P w0 L f (r::rs)=lx (qj5 P w0 L f r) (iJ P w0 L f rs):=(rfl)
def Bp(v:hU)(vs:List hU):lx (some v) (some vs)=some (v::vs):=(rfl)
def CJ(P:h_)(w0:hW)(L:aA)(f:Fr)(t:Tmp):qj5 P w0 L f (.tmp t)=some (dA f t):=(rfl)
def Lv(P:h_)(w0:hW)(L:aA)(f:Fr)(a:Tmp)(t:h7):qj5 P w0 L f (.cell a t)=mK (aU P t) w0 L (dA f a):=(rfl)
def bS:List hU->hU
 | [v]=>v
 |vs=>.tuple vs.toArray
section
variable {P:h_} {w0 w:hW} {L:aA} {f:Fr}
def qn1(f:Fr)(r:ResultVar):Sem hU:=
 match r with
 | .tmp t=>pure ((act f).tmps.getD t undef)
 | .cell a t=>do loadVar t (<-asAddr ((act f).tmps.getD a undef))
def O'{r:ResultVar}{v:hU}(c:Hp w0 L w)(h:qj5 P w0 L f r=some v):(qn1 f r).run P w=.ok v w:=by
 cases r with
 |tmp t=>simp only[qj5,WD] at h;subst h;simp only[qn1,act,lC];rfl
 |cell a t=>
  simp only[qj5] at h;unfold mK at h
  split at h
  .rename_i b off d;simp only[qn1,act,lC,d,asAddr,Vp,Wm,VT,UZ c h]
  cases h
theorem tj:∀ (a:List ResultVar) (vs:List hU),Hp w0 L w->iJ P w0 L f a=some vs->(a.mapM (qn1 f)).run P w=.ok vs w
 | [],vs,_,h=>by simp only[iJ,WD] at h;subst h;rfl
 |r::a,vs,hw,h=>by
  unfold iJ lx at h
  split at h
  .rename_i v b c d;simp only[WD] at h;subst h;rw[List.mapM_cons,Vp,O' hw c];simp only[VT];rw[Vp,tj a b hw d]
   rfl
  cases h
def UP{b:Func}{rs:List ResultVar}{vs:List hU}(c:b.results=rs.toArray)(d:Hp w0 L w)(h:iJ P w0 L f rs=some vs):(results b (act f).tmps).run P w=.ok (bS vs) w:=by
 unfold results;rw[c];have e:(Array.mapM (m:=Sem) (qn1 f) rs.toArray).run P w=.ok vs.toArray w:=by rw[List.mapM_toArray,Sem.run_map,tj rs vs d h];rfl
 rw[Vp];show Result.andThen ((Array.mapM (m:=Sem) (qn1 f) rs.toArray).run P w) (fun a g=>(pure (if h:a.size=1 then a[0] else Value.tuple a):Sem hU).run P g)=_;rw[e];cases vs with
 |nil=>rfl
 |cons v r=>cases r<;>rfl
end
def Va(P:h_)(k:FuncId)(a:Array hU)(w:hW)(S:hU->aA->Prop):Prop:=
 Calls P k a w fun e b=> ∃v D,e=.returned v/\Hp w D b/\S v D
theorem Va.mono{P:h_}{k:FuncId}{a:Array hU}{w:hW}{S S':hU->aA->Prop}(h:Va P k a w S)(b:∀v D,S v D->S' v D):Va P k a w S':=
 Calls.mono h fun _ _ ⟨v,D,c,d,e⟩=>⟨v,D,c,d,b _ _ e⟩
theorem Cw.own{P:h_}{w0:hW}{c:Code}{f:Fr}{L:aA}{K:bz}{b:Nat}{o:Obj}(a:w0.heap[b]? =some o)(d:b∉keys L)(h:Cw P w0 c f (L++[(b,o)]) K):Cw P w0 c f L K:=
 fun w e=>h w (e.own a d)
def qL2(P:h_)(w0:hW)(rs:List ResultVar)(S:hU->aA->Prop):bz
 | .normal,f,L=> ∃vs,iJ P w0 L f rs=some vs/\S (bS vs) L
 | .ret,f,L=> ∃vs,iJ P w0 L f rs=some vs/\S (bS vs) L
 |_,_,_=>False
def Va.enter{P:h_}{k:FuncId}{f:Func}{c:Code}{rs:List ResultVar}{b:Array hU}{w:hW}{S:hU->aA->Prop}{n:Nat}
  (q:P.funcs[k]? =some f) (r:f.body=some c) (o:f.results=rs.toArray) (s:f.ntmps=n)
  (h:Cw P w c (b.toList++List.replicate (n - b.size) undef) [] (qL2 P w rs S)):Va P k b w S:=by
 refine calls_of_wp q r ?_;have e:({tmps:=b++Array.replicate (f.ntmps - b.size) undef,defers:=[]}:Act)=act (b.toList++List.replicate (n - b.size) undef):=by rw[s];simp only[act];congr 1;apply Array.ext';simp
 rw[e];refine wp_mono (h w (Hp.refl w)) ?_;rintro e a t ⟨j,L,g,d⟩;have p:=mm j;cases e with
 |normal=>obtain⟨vs,l,m⟩:=d;exact⟨j,bS vs,by rw[p];exact UP o g l,bS vs,L,rfl,g,m⟩
 |ret=>obtain⟨vs,l,m⟩:=d;exact⟨j,bS vs,by rw[p];exact UP o g l,bS vs,L,rfl,g,m⟩
 |exit i=>exact d.elim
 |goto i=>exact d.elim
 |panic c=>exact d.elim
 |outgrown=>exact d.elim
def Vq(n:Nat):aA->Prop
 | []=>True
 | (b,_)::r=>n<=b/\Vq n r
def Vq.le{n:Nat}{L:aA}(h:Vq n L):∀b,b∈keys L->n<=b:=by
 induction L with
 |nil=>intro b a;cases a
 |cons p r d=>
  obtain⟨c,o⟩:=p;intro b a;rcases Vw.1 a with a|a
  .rw[a];exact h.1
  exact d h.2 b a
def Hp.qk5{w b:hW}{D:aA}(h:Hp w D b)(c:Vq w.heap.size D):Hp w [] b:=
 h.drop (fun _ a=>by cases a) List.nodup_nil (fun p a d _=>by have:=c.le p.1 (List.mem_map.2 ⟨p,a,rfl⟩);omega)
def qR2(P:h_)(w0:hW)(rs:List ResultVar)(S:hU->Prop):bz
 | .normal,f,L=> ∃vs,iJ P w0 L f rs=some vs/\Vq w0.heap.size L/\S (bS vs)
 | .ret,f,L=> ∃vs,iJ P w0 L f rs=some vs/\Vq w0.heap.size L/\S (bS vs)
 |_,_,_=>False
def Va.Vr{P:h_}{k:FuncId}{a:Func}{c:Code}{rs:List ResultVar}{b:Array hU}{w:hW}{S:hU->Prop}{n:Nat}
  (i:P.funcs[k]? =some a) (j:a.body=some c) (l:a.results=rs.toArray) (d:a.ntmps=n)
  (h:Cw P w c (b.toList++List.replicate (n - b.size) undef) [] (qR2 P w rs S)):Va P k b w (fun v D=>S v/\D=[]):=by
 have:=Va.enter (S:=fun v D=>Vq w.heap.size D/\S v) i j l d (h.mono (by
  intro e f L g;cases e<;>first
   |exact g
   |exact g.elim))
 refine Calls.mono this ?_;rintro e q ⟨v,D,m,o,d,p⟩;exact⟨v,[],m,o.qk5 d,p,rfl⟩
def qR1(P:h_)(w0:hW)(rs:List ResultVar)(b:Nat)(S:hU->Obj->Prop):bz
 | .normal,f,L=> ∃vs o N,iJ P w0 L f rs=some vs/\L=(b,o)::N/\Vq w0.heap.size N/\S (bS vs) o
 | .ret,f,L=> ∃vs o N,iJ P w0 L f rs=some vs/\L=(b,o)::N/\Vq w0.heap.size N/\S (bS vs) o
 |_,_,_=>False
def Va.XV{P:h_}{k:FuncId}{d:Func}{c:Code}{rs:List ResultVar}{g:Array hU}{w:hW}{S:hU->Obj->Prop}{n b:Nat}{o:Obj}
  (t:P.funcs[k]? =some d) (u:d.body=some c) (x:d.results=rs.toArray) (y:d.ntmps=n) (r:w.heap[b]? =some o)
  (h:Cw P w c (g.toList++List.replicate (n - g.size) undef) [(b,o)] (qR1 P w rs b S)):Va P k g w (fun v D=> ∃o,D=[(b,o)]/\S v o):=by
 have:=Va.enter (S:=fun v D=> ∃o N,D=(b,o)::N/\Vq w.heap.size N/\S v o) t u x y
  (Cw.own r Wg (h.mono (by
   intro e f L i;cases e with
   |normal=>obtain⟨vs,o,N,j,l,m,q⟩:=i;exact⟨vs,j,o,N,l,m,q⟩
   |ret=>obtain⟨vs,o,N,j,l,m,q⟩:=i;exact⟨vs,j,o,N,l,m,q⟩
   |_=>exact i.elim)))
 refine Calls.mono this ?_;rintro e E ⟨v,D,z,a,s,N,rfl,A,B⟩;have F:=(Array.getElem?_eq_some_iff.1 r).1;refine⟨v,[(b,s)],z,a.drop (fun p a=>?_) Wg (fun p a G C=>?_),s,rfl,B⟩
 .simp only[VZ] at a;subst a;exact aX
 rcases Vw.1 a with h|h
 .exfalso;apply C;rw[h];simp[keys]
 have:=A.le p.1 (List.mem_map.2 ⟨p,h,rfl⟩);omega
def cy:aA->Nat->Prop
 | [],_=>True
 | (b,_)::r,n=>b<n/\cy r n
def ef{L:aA}{n:Nat}(h:∀b,b∈keys L->b<n):cy L n:=by
 induction L with
 |nil=>trivial
 |cons p r a=>obtain⟨b,o⟩:=p;exact⟨h b aX,a fun c d=>h c (ah _ d)⟩
def Mrg(w0:hW)(L:aA)(B:Nat)(D L':aA):Prop:= ∀w a,w.heap.size=B->Hp w0 L w->Hp w D a->Hp w0 L' a
def Mrg.nil{w0:hW}{L:aA}{B:Nat}:Mrg w0 L B [] L:=fun _ _ _ h k=>h.qg3 k
def Hp.same{w0 w:hW}{L M:aA}(h:Hp w0 L w)(a:∀p,p∈M↔p∈L)(f:(keys M).Nodup):Hp w0 M w:=by
 have g:∀b,b∈keys M↔b∈keys L:=fun b=>by
  constructor<;>intro c<;>obtain⟨p,e,rfl⟩:=List.mem_map.1 c
  .exact List.mem_map.2 ⟨p,(a p).1 e,rfl⟩
  exact List.mem_map.2 ⟨p,(a p).2 e,rfl⟩
 exact⟨fun b o d=>h.has b o ((a _).1 d),f,fun b c d=>h.Wo b c (fun i=>d ((g b).2 i)),h.size,h.tape,h.os,h.output⟩
def BT{L D:aA}(h:∀b,b∈keys L->b∉keys D):L.filter (fun p=> !(keys D).contains p.1)=L:=by apply List.filter_eq_self.2;intro p a;have:=h p.1 (List.mem_map.2 ⟨p,a,rfl⟩);simpa using this
def Mrg.fresh{w0:hW}{L D:aA}{B:Nat}(a:∀b,b∈keys D->B<=b):Mrg w0 L B D (L++D):=by
 intro w e f h k;have:=h.trans k
 rwa [BT (fun b c d=>by have:=h.lt c;have:=a b d;omega)] at this
def Mrg.set{w0:hW}{L:aA}{B b:Nat}{o:Obj}(m:b∈keys L):Mrg w0 L B [(b,o)] (Vh L b o):=by
 intro w q s h k;have n:=h.trans k;refine n.same (fun p=>?_) (by rw[fc];exact h.nodup);obtain⟨c,x⟩:=p;simp only[Wu,List.mem_filter,keys,VY,Wr,qa1,VZ,Xp,Zy,qc9]
 constructor
 .intro a;rcases ue h.nodup a with⟨d,f⟩ | ⟨d,f⟩
  .exact .inr ⟨d,f⟩
  exact .inl ⟨f,d⟩
 rintro(⟨d,f⟩ | ⟨rfl,rfl⟩)
 .have:∀ (L:aA),(c,x)∈L->c≠b->(c,x)∈Vh L b o:=by
   intro L
   induction L with
   |nil=>intro a _;cases a
   |cons i r j=>
    obtain⟨e,y⟩:=i;intro a l;unfold Vh
    split
    .rename_i g;rcases Vw.1 a with a|a
     .simp only[Xp] at a;exact Vx (a.1.trans g) l
     exact ah _ a
    rcases Vw.1 a with a|a
    .rw[a];exact aX
    exact ah _ (j a l)
  exact this L d f
 have:∀ (L:aA),c∈keys L->(c,x)∈Vh L c x:=by
  intro L
  induction L with
  |nil=>intro a;cases a
  |cons i r j=>
   obtain⟨e,y⟩:=i;intro a;unfold Vh
   split
   .rename_i g;subst g;exact aX
   rename_i g;rcases Vw.1 a with a|a
   .exact Vx a.symm g
   exact ah _ (j a)
 exact this L m
section
variable {P:h_} {w0:hW} {f:Fr} {L:aA} {N:Fr->aA->Prop} {ops:Array Oper} {rest:List Oper} {md:Md}
 {d:Option Tmp} {ty:h7} {ps:String} {af:Array Edge} {g:Option (Nat×Bool)}
def vH{x:Operand}{b:Array Operand}{ts:Array h7}{k:FuncId}{c cap:Array hU}(e:ev f x=.func (.func k) c cap)
  (h:∀a w,(callFunc k a).run P w=.ok (.enter k a) w) (w:hW):
  (execOp (ev f) ⟨d,.call ⟨.value x,b,ts⟩,ty,ps,af,g⟩).run P w=.ok (.enter k (c++b.map (ev f)++cap)) w:=by
 simp only[execOp,resolve,e,Deferred.ofValue,Vp,Wm,VT,invoke,h]
theorem Ow.call{x:Operand}{i:Array Operand}{ts:Array h7}{k:FuncId}{j cap:Array hU}{S:Nat->hU->aA->Prop}{l:Md}(m:md.WM=some l)
  (n:ay ops f ⟨d,.call ⟨.value x,i,ts⟩,ty,ps,af,g⟩=false) (o:ev f x=.func (.func k) j cap)
  (p:∀a w,(callFunc k a).run P w=.ok (.enter k a) w) (q:∀w,Hp w0 L w->Va P k (j++i.map (ev f)++cap) w (S w.heap.size))
  (r:∀B v D,cy L B->w0.heap.size<=B->S B v D-> ∃c,Mrg w0 L B D c/\Ow P w0 ops l rest (aa f d v) c N):
  Ow P w0 ops md (⟨d,.call ⟨.value x,i,ts⟩,ty,ps,af,g⟩::rest) f L N:=by
 refine Ow.step m rfl n fun w h=>.inr (.inr ⟨k,_,w,vH o p w,?_⟩);refine Calls.mono (q w h) ?_;rintro e s ⟨v,D,rfl,t,u⟩;obtain⟨c,y,z⟩:=r w.heap.size v D (ef fun b A=>h.lt A) h.size u;exact⟨v,c,rfl,y w s rfl h t,z⟩
def Ow.qz5{x:Operand}{b:Array Operand}{ts:Array h7}{k:FuncId}{c cap:Array hU}{v:hU}
  (j:ay ops f ⟨d,.call ⟨.value x,b,ts⟩,ty,ps,af,g⟩=false) (l:ev f x=.func (.func k) c cap)
  (m:∀a w,(callFunc k a).run P w=.ok (.enter k a) w) (n:∀w,Hp w0 L w->Va P k (c++b.map (ev f)++cap) w (fun h D=>h=v/\D=[]))
  (o:Ow P w0 ops md.next rest (aa f d v) L N):
  Ow P w0 ops md (⟨d,.call ⟨.value x,b,ts⟩,ty,ps,af,g⟩::rest) f L N:=by
 refine Ow.calm rfl rfl j (fun w i=>.inr (.inr ⟨k,_,w,vH l m w,?_⟩)) o;refine Calls.mono (n w i) ?_;rintro e q ⟨h,D,rfl,p,rfl,rfl⟩;exact⟨_,_,rfl,i.qg3 p,rfl,rfl⟩
def Ow.qb2{l:List Operand}{ts:Array h7}{k:FuncId}{S:Nat->hU->aA->Prop}{b:Md}(e:md.WM=some b)
  (h:ay ops f ⟨d,.call ⟨.value (.func k),l.toArray,ts⟩,ty,ps,af,g⟩=false)
  (i:∀a w,(callFunc k a).run P w=.ok (.enter k a) w) (j:∀w,Hp w0 L w->Va P k (l.map (ev f)).toArray w (S w.heap.size))
  (m:∀B v D,cy L B->w0.heap.size<=B->S B v D-> ∃c,Mrg w0 L B D c/\Ow P w0 ops b rest (aa f d v) c N):
  Ow P w0 ops md (⟨d,.call ⟨.value (.func k),l.toArray,ts⟩,ty,ps,af,g⟩::rest) f L N:=
 Ow.call e h rfl i (fun w n=>by simpa using j w n) m
def Ow.Vc{l:List Operand}{ts:Array h7}{k:FuncId}{v:hU}
  (b:ay ops f ⟨d,.call ⟨.value (.func k),l.toArray,ts⟩,ty,ps,af,g⟩=false)
  (c:∀a w,(callFunc k a).run P w=.ok (.enter k a) w) (e:∀w,Hp w0 L w->Va P k (l.map (ev f)).toArray w (fun h D=>h=v/\D=[]))
  (i:Ow P w0 ops md.next rest (aa f d v) L N):
  Ow P w0 ops md (⟨d,.call ⟨.value (.func k),l.toArray,ts⟩,ty,ps,af,g⟩::rest) f L N:=
 Ow.qz5 b rfl c (fun w j=>by simpa using e w j) i
def ac(P:h_)(t:h7):Option hU:=(P.info? t).bind (·.zero)
def m0{t:h7}{z:hU}(h:ac P t=some z)(w:hW):(zeroValue t).run P w=.ok z w:=by
 unfold ac at h;cases a:P.info? t with
 |none=>rw[a] at h;cases h
 |some i=>rw[a] at h;simp only[Yn] at h;simp only[zeroValue,Vp,typeInfo,run_program,VT,a,Wm,h]
theorem Ow.alloc{t:h7}{z:hU}{c:Md}(e:md.WM=some c)(h:ay ops f ⟨d,.alloc t,ty,ps,af,g⟩=false)(i:ac P t=some z)
  (j:∀b,cy L b->w0.heap.size<=b->Ow P w0 ops c rest (aa f d (vp b 0)) (L++[(b,.cells z.cells t)]) N):
  Ow P w0 ops md (⟨d,.alloc t,ty,ps,af,g⟩::rest) f L N:=by
 refine Ow.step e rfl h fun w a=>.inl ⟨vp w.heap.size 0,w.alloc (.cells z.cells t),_,?_,a.alloc _,j _ (ef fun b k=>a.lt k) a.size⟩;simp only[execOp,Instr.alloc,Vp,m0 i w,VT]
 rfl
theorem Ow.box{t:h7}{x:Operand}{c:Md}(e:md.WM=some c)(h:ay ops f ⟨d,.box t x,ty,ps,af,g⟩=false)
  (i:∀b,cy L b->w0.heap.size<=b->Ow P w0 ops c rest (aa f d (vp b 0)) (L++[(b,.cells (ev f x).cells t)]) N):
  Ow P w0 ops md (⟨d,.box t x,ty,ps,af,g⟩::rest) f L N:=by
 refine Ow.step e rfl h fun w a=>.inl ⟨vp w.heap.size 0,w.alloc (.cells (ev f x).cells t),_,?_,a.alloc _,i _ (ef fun b j=>a.lt j) a.size⟩;simp only[execOp,Instr.box,Vp,VT]
 rfl
def bP(P:h_)(t:h7):Option (List (Nat×Nat)):=
 match P.underlying t with
 |some (.struct fs)=>fs.toList.mapM fun f=>(aU P f.type).map fun m=>(f.offset,m.2)
 |some (.array n e)=>(aU P e).map fun m=>(List.range n).map fun i=>(i*m.2,m.2)
 |_=>none
def YR(pl:List (Nat×Nat)):Array hU->List (Nat×hU)->Option (Array hU)
 |cs,[]=>some cs
 |cs,(i,v)::r=>match pl[i]? with
  |some (off,n)=>if v.cells.size=n/\off+n<=cs.size then YR pl (cU cs off v.cells.toList) r else none
  |none=>none
def cL(pl:Option (List (Nat×Nat)))(z:Option hU)(a:List (Nat×hU)):Option hU:=
 match pl,z with
 |some pl,some (.agg b)=>(YR pl b a).map .agg
 |_,_=>none
theorem Bd:∀ (vs:List hU) (off j:Nat) (a:Array hU),(vs.zipIdx j).foldl (fun a (p:hU×Nat)=>a.setIfInBounds (off+p.2) p.1) a=cU a (off+j) vs
 | [],_,_,_=>rfl
 |v::r,off,j,a=>by
  simp only[List.zipIdx_cons,List.foldl_cons,cU];rw[Bd r off (j+1)]
  rfl
theorem oL{place:Nat->Option (Nat×Nat)}{pl:List (Nat×Nat)}(d:∀i p,pl[i]? =some p->place i=some p):∀ (f:List (Nat×hU)) (a b:Array hU),YR pl a f=some b->Instr.fill place a f=some b
 | [],_,_,h=>h
 | (i,v)::r,a,b,h=>by
  unfold YR at h
  split at h
  .rename_i off n g
   split at h
   .rename_i m;unfold Instr.fill;rw[d i _ g];simp only;have k:(decide (v.cells.size≠n) ||decide (off+v.cells.size>a.size))=false:=by
     simp only[Zz,qc9];omega
    have l:¬ ((decide (v.cells.size≠n) ||decide (off+v.cells.size>a.size))=true):=by rw[k];simp
    rw[tr l];have e:(v.cells.zipIdx.foldl (fun a (x:hU×Nat)=>match x with| (c,j)=>a.setIfInBounds (off+j) c) a)=cU a off v.cells.toList:=by have:=Bd v.cells.toList off 0 a;rw[<-Array.foldl_toList,Array.toList_zipIdx];simpa using this
    rw[e];exact oL d r _ _ h
   cases h
  cases h
def Hb{fs:List Field}{pl:List (Nat×Nat)}(h:fs.mapM (fun f=>(aU P f.type).map fun m=>(f.offset,m.2))=some pl)(w:hW):
  (fs.mapM (fun f=>do pure (f.offset,<-sizeOf f.type):Field->Sem (Nat×Nat))).run P w=.ok pl w:=by
 induction fs generalizing pl with
 |nil=>cases h;rfl
 |cons f r a=>simp only[List.mapM_cons,Option.bind_eq_bind,Option.bind_eq_some_iff,Option.map_eq_some_iff] at h;obtain⟨p,⟨m,b,rfl⟩,ps,c,h⟩:=h;cases h;rw[List.mapM_cons,Vp];simp only[Vp,ei b,VT,Wm,a c]
def Iv{t:h7}{k:Array (Nat×hU)}{v:hU}(h:cL (bP P t) (ac P t) k.toList=some v)(w:hW):(Instr.build t k).run P w=.ok v w:=by
 unfold cL at h
 split at h
 .rename_i d r a q;cases g:YR d r k.toList with
  |none=>rw[g] at h;cases h
  |some z=>
   rw[g] at h;cases h;unfold bP at a
   split at a
   .rename_i fs l;have s:fs.toList.mapM (fun f=>(aU P f.type).map fun m=>(f.offset,m.2))=some d:=a;have b:=Hb s w;have u:(fs.mapM (fun f=>do pure (f.offset,<-sizeOf f.type):Field->Sem (Nat×Nat))).run P w=.ok d.toArray w:=by
     rw[<-Array.toArray_toList (xs:=fs),List.mapM_toArray,Sem.run_map,b];rfl
    have o:=oL (place:=(d.toArray[·]?)) (fun i p c=>by simpa using c) _ _ _ g;simp only[Instr.build,Vp,m0 q w,VT,Wn l w,Value.cells];rw[u];simp only[VT,o,Wm]
   .rename_i n e l;cases b:aU P e with
    |none=>rw[b] at a;cases a
    |some m=>
     rw[b] at a;simp only[Ws,WD] at a;have o:=oL (place:=fun i=>some (i*m.2,m.2)) (fun i p c=>by
      rw[<-a] at c;simp only[List.getElem?_map,Option.map_eq_some_iff] at c;obtain⟨j,x,rfl⟩:=c;have:j=i:=by have:=List.getElem?_eq_some_iff.1 x;obtain⟨A,y⟩:=this;simpa using y.symm
      rw[this]) _ _ _ g
     simp only[Instr.build,Vp,m0 q w,VT,Wn l w,Value.cells,ei b w];simp only[o,Wm]
   cases a
 cases h
theorem Ow.build{t:h7}{a:Array (Nat×Operand)}(v:hU)(b:ay ops f ⟨d,.build t a,ty,ps,af,g⟩=false)
  (c:cL (bP P t) (ac P t) (a.toList.map fun p=>(p.1,ev f p.2))=some v)
  (e:Ow P w0 ops md.next rest (aa f d v) L N):Ow P w0 ops md (⟨d,.build t a,ty,ps,af,g⟩::rest) f L N:=by
 refine Ow.qi1 rfl b (fun w=>?_) e;have h:cL (bP P t) (ac P t) (a.map fun(i,x)=>(i,ev f x)).toList=some v:=by rw[Array.toList_map];exact c
 simp only[execOp,Vp,Iv h w,VT]
 rfl
def Ow.val{o:Oper}{v:hU}{a:Md}(c:md.WM=some a)(d:eF P o.op=false)(e:ay ops f o=false)(g:∀w,Hp w0 L w->(execOp (ev f) o).run P w=.ok (.value v) w)
  (h:Ow P w0 ops a rest (aa f o.dst v) L N):Ow P w0 ops md (o::rest) f L N:=
 Ow.step c d e fun w b=>.inl ⟨v,w,L,g w b,b,h⟩
end
def a8(l:No):Array hU:=(l.map fun x=>Value.int .u8 (x.toNat:Int)).toArray
abbrev Vm(l:No):Obj:=.cells (a8 l) 38 (0,0)
open Classical in
def Xm{α:Type}{l m:List α}(h:∀ a:α,l.count a=m.count a:=by intro a;simp only[List.count_append,List.count_cons,List.count_nil,Vm,Vi,Wh,Wi,Vz,Vg,Xu,iU,Vv,VS,Vj]<;>omega):l.Perm m:=List.perm_iff_count.2 h
def a32(l:List UInt32):Array hU:=(l.map fun x=>Value.int .u32 (x.toNat:Int)).toArray
end Go.Sx
end
section
namespace Go.Sx
open Go
section
variable {P:h_} {w0:hW} {f:Fr} {L:aA} {K:bz} {N:Fr->aA->Prop}
def pX(h:N f L):gJ N K .normal f L:=h
end
def CwC(P:h_)(w0:hW)(v:hU)(x y:Code)(f:Fr)(L:aA)(K:bz):Prop:= ∃b,v=.bool b/\(b=true->Cw P w0 x f L K)/\(b=false->Cw P w0 y f L K)
section
variable {P:h_} {w0:hW} {f:Fr} {L:aA} {K:bz} {v:hU} {x y:Code}
def CwC.split{b:Bool}(a:v=.bool b)(c:b=true->Cw P w0 x f L K)(d:b=false->Cw P w0 y f L K):CwC P w0 v x y f L K:=⟨b,a,c,d⟩
def CwC.qj8{p:Prop}[Decidable p](a:v=.bool (decide p))(b:p->Cw P w0 x f L K)(c:¬p->Cw P w0 y f L K):CwC P w0 v x y f L K:=
 ⟨_,a,(fun h=>b (Zu h)),(fun h=>c (Z8 h))⟩
def CwC.tt(a:v=.bool true)(b:Cw P w0 x f L K):CwC P w0 v x y f L K:=⟨_,a,(fun _=>b),(fun h=>by cases h)⟩
def CwC.ff(a:v=.bool false)(b:Cw P w0 y f L K):CwC P w0 v x y f L K:=⟨_,a,(fun h=>by cases h),(fun _=>b)⟩
def CwC.bt{b:Bool}(a:v=.bool b)(c:b=true)(d:Cw P w0 x f L K):CwC P w0 v x y f L K:=CwC.tt (by rw[a,c]) d
def CwC.bf{b:Bool}(a:v=.bool b)(c:b=false)(d:Cw P w0 y f L K):CwC P w0 v x y f L K:=CwC.ff (by rw[a,c]) d
def CwC.pt{p:Prop}[Decidable p](a:v=.bool (decide p))(b:p)(c:Cw P w0 x f L K):CwC P w0 v x y f L K:=CwC.bt a (aP b) c
def CwC.it{a b:Int}(c:v=.bool (a==b))(d:a=b)(e:Cw P w0 x f L K):CwC P w0 v x y f L K:=CwC.bt c (W8.2 d) e
def CwC.if{a b:Int}(c:v=.bool (a==b))(d:¬a=b)(e:Cw P w0 y f L K):CwC P w0 v x y f L K:=CwC.bf c (WN.2 d) e
def CwC.nf{a b:Int}(c:v=.bool (a !=b))(d:a=b)(e:Cw P w0 y f L K):CwC P w0 v x y f L K:=CwC.bf c (by rw[d];simp) e
end
def dS(f:Fr)(t:Tmp):ev f (.tmp t)=dA f t:=(rfl)
def NS(f:Fr)(v:hU):ev f (.const v)=v:=(rfl)
def Ku(f:Fr)(g:Nat):ev f (.global g)=vp g 0:=(rfl)
def ws(f:Fr)(k:FuncId):ev f (.func k)=.func (.func k) #[] #[]:=(rfl)
def cz(v:hU)(r:Fr):dA (v::r) 0=v:=(rfl)
def dL(v:hU)(r:Fr)(n:Nat):dA (v::r) (n+1)=dA r n:=(rfl)
def mM(v x:hU)(r:Fr):YP (v::r) 0 x=x::r:=(rfl)
def mO(v x:hU)(r:Fr)(n:Nat):YP (v::r) (n+1) x=v::YP r n x:=(rfl)
def Cq(f:Fr)(d:Tmp)(v:hU):aa f (some d) v=YP f d v:=(rfl)
def u0(f:Fr)(v:hU):aa f none v=f:=(rfl)
def QS(l:No):Value.string (ByteArray.mk (List.toArray l))=vs l:=(rfl)
def R0(P:h_)(op:BinOp)(t:h7)(a b:No):ak P op t (vs a) (vs b)=aM op (vs a) (vs b):=(rfl)
def mJ(l:No):(ByteArray.mk l.toArray).size=l.length:=by simp[ByteArray.size]
def qY(l:No):(ByteArray.mk l.toArray).toList=l:=by rw[ByteArray.toList_eq]
def pN(a b:No)(h:a.length+b.length<=9223372036854775807):aM .add (vs a) (vs b)=some (vs (a++b)):=by simp only[aM,vs,qh0,mJ,h,↓reduceIte];congr 2
def La(a b:No):aM .eql (vs a) (vs b)=some (.bool (a==b)):=by simp only[aM,vs,qh0,qY]
def LX(a b:No):aM .neq (vs a) (vs b)=some (.bool (a !=b)):=by simp only[aM,vs,qh0,qY];rfl
def Kw(a b:No):aM .lss (vs a) (vs b)=some (.bool (Op.bytesLess a b)):=by simp only[aM,vs,qh0,qY]
def Mx(a b:No):aM .leq (vs a) (vs b)=some (.bool (Op.bytesLess a b||a==b)):=by simp only[aM,vs,qh0,qY]
def tq(a b:No):aM .gtr (vs a) (vs b)=some (.bool (!(Op.bytesLess a b||a==b))):=by simp only[aM,vs,qh0,qY]
def Lh(a b:No):aM .geq (vs a) (vs b)=some (.bool (!Op.bytesLess a b)):=by simp only[aM,vs,qh0,qY]
def nG(l:No)(k:Int)(h:0<=k/\k<l.length):j9 .str (vs l) (some k)=some (v8 (l.getD k.toNat 0)):=by
 have a:k.toNat<l.length:=by omega
 simp only[j9,vs,h.1,↓reduceIte];have:(ByteArray.mk l.toArray)[k.toNat]? =some l[k.toNat]:=by
  have b:k.toNat< (ByteArray.mk l.toArray).size:=by rw[mJ];exact a
  rw[ByteArray.getElem?_lt' _ _ b];rfl
 rw[this];simp[v8,List.getD_eq_getElem?_getD,a]
def QQ(l:No):Yw .str (vs l)=some (vi l.length):=by simp only[Yw,vs,mJ];rfl
def nD(l:No)(c d:Option (Option Int))(a b:Nat)(h:qc5 l.length l.length c d=some (a,b)):eN .str (vs l) c d=some (vs ((l.take b).drop a)):=by simp only[eN,vs,mJ,h];rw[ByteArray.extract_mk];congr 3;rw[List.drop_take]
def Nu(n c:Nat):qc5 n c none none=some (0,n):=(rfl)
def og(n c:Nat)(l:Int)(h:0<=l/\l<=n):qc5 n c (some (some l)) none=some (l.toNat,n):=by simp only[qc5,h,and_self,↓reduceIte]
def AQ(n c:Nat)(l:Int)(h:0<=l/\l<=c):qc5 n c none (some (some l))=some (0,l.toNat):=by simp only[qc5,h,and_self,↓reduceIte]
def uj(n c:Nat)(l k:Int)(h:0<=l/\l<=k/\k<=c):qc5 n c (some (some l)) (some (some k))=some (l.toNat,k.toNat):=by simp only[qc5,h,and_self,↓reduceIte]
def GM(l:No)(k:Int)(h:0<=k/\k<=l.length):eN .str (vs l) (some (some k)) none=some (vs (l.drop k.toNat)):=by rw[nD l _ _ _ _ (og _ _ k h),WH]
def Ff(l:No)(k:Int)(h:0<=k/\k<=l.length):eN .str (vs l) none (some (some k))=some (vs (l.take k.toNat)):=by rw[nD l _ _ _ _ (AQ _ _ k h),YM]
def Ez(l:No)(j k:Int)(h:0<=j/\j<=k/\k<=l.length):eN .str (vs l) (some (some j)) (some (some k))=some (vs ((l.take k.toNat).drop j.toNat)):=by rw[nD l _ _ _ _ (uj _ _ j k h)]
def PK(w0:hW)(L:aA)(k:IntKind)(v:hU):fN w0 L (.int k) v=eD k v:=(rfl)
def Nl(w0:hW)(L:aA)(l:No):fN w0 L .str (vs l)=some (vs l):=(rfl)
def FH(w0:hW)(L:aA)(b off n c:Nat):fN w0 L .bytesStr (Xr b off n c)=e_ (aG w0 L b) off n:=(rfl)
def JH(l:No):mH (l.map fun x=>Value.int .u8 (x.toNat:Int))=some l:=by
 induction l with
 |nil=>rfl
 |cons x r a=>simp only[VY,mH,a,WX];simp
def Pn(l:No)(E:h7)(fz:Nat×Nat)(off n:Nat)(h:off+n<=l.length):e_ (some (.cells (a8 l) E fz)) off n=some (vs ((l.drop off).take n)):=by
 have a:off+n<= (a8 l).size:=by simpa [a8] using h
 simp only[e_,a,↓reduceIte];have e:((a8 l).extract off (off+n)).toList=((l.drop off).take n).map fun x=>Value.int .u8 (x.toNat:Int):=by simp[a8,List.map_drop,List.map_take,List.take_drop,List.extract_eq_take_drop]
 rw[e,JH];rfl
def HQ(off n b o:Nat)(a:Bool)(h:0<n):qO (some (off,(a,n))) (vp b o)=some (vp b (o+off)):=by
 have:¬n=0:=by omega
 simp only[qO,vp,this,↓reduceIte,ic]
def Ts(n:Nat)(m:Bool×Nat)(b o:Nat)(k:Int)(h:0<=k/\k<n):ez (.arr n m) (vp b o) (some k)=some (vp b (o+k.toNat*m.2)):=by simp only[ez,vp,h,and_self,↓reduceIte,ic]
def j5(m:Bool×Nat)(b o n c:Nat)(k:Int)(h:0<=k/\k<n):ez (.sl m) (Xr b o n c) (some k)=some (vp b (o+k.toNat*m.2)):=by simp only[ez,vp,Xr,h,and_self,↓reduceIte,ic]
def TI(b o:Nat):qy5 (vp b o)=some (vp b o):=(rfl)
def RC(n:Nat)(m:Bool×Nat)(v:hU):Yw (.arr n m) v=some (vi n):=(rfl)
def RS(m:Bool×Nat)(b o n c:Nat):Yw (.sl m) (Xr b o n c)=some (vi n):=(rfl)
def Sl(m:Bool×Nat)(b o n c:Nat):qo5 (.sl m) (Xr b o n c)=some (vi c):=(rfl)
def FX(n:Nat)(m:Bool×Nat)(b o:Nat)(h:0<n):eN (.arr n m) (vp b o) none none=some (Xr b o n n):=by
 have:¬n=0:=by omega
 simp only[eN,vp,Nu,this,↓reduceIte,Xr,ic,Nat.zero_mul,XL,Nat.sub_zero]
def Ek(n:Nat)(m:Bool×Nat)(b o:Nat)(j k:Int)(h:0<=j/\j<=k/\k<=n/\j<n):eN (.arr n m) (vp b o) (some (some j)) (some (some k))=some (Xr b (o+j.toNat*m.2) (k.toNat - j.toNat) (n - j.toNat)):=by
 have:¬n=j.toNat:=by omega
 simp only[eN,vp,uj n n j k ⟨h.1,h.2.1,h.2.2.1⟩,this,↓reduceIte,Xr,ic]
def eJ(L:aA)(b:Nat)(o:Obj):look ((b,o)::L) b=some o:=by simp[look]
def jL(L:aA)(b c:Nat)(o:Obj)(h:b≠c):look ((b,o)::L) c=look L c:=by simp[look,h]
def iN(L:aA)(b:Nat)(o x:Obj):Vh ((b,o)::L) b x=(b,x)::L:=by simp[Vh]
def mP(L:aA)(b c:Nat)(o x:Obj)(h:b≠c):Vh ((b,o)::L) c x=(b,o)::Vh L c x:=by simp[Vh,h]
def g3(w0:hW)(L:aA)(b:Nat)(o:Obj):aG w0 ((b,o)::L) b=some o:=by simp[aG,look]
def j_(w0:hW)(L:aA)(b c:Nat)(o:Obj)(h:b≠c):aG w0 ((b,o)::L) c=aG w0 L c:=by simp[aG,look,h]
def Nr(w0:hW)(b:Nat):aG w0 [] b=w0.heap[b]? :=(rfl)
def Om(m:Option (Bool×Nat))(w0:hW)(L:aA)(b o:Nat):mK m w0 L (vp b o)=aF m (aG w0 L b) o:=(rfl)
def jN(cs:Array hU)(E:h7)(fz:Nat×Nat)(n:Nat)(h:cs.size=n):aF (some (true,n)) (some (.cells cs E fz)) 0=some (.agg cs):=by subst h;simp[aF]
def mi(l:No):(a8 l).size=l.length:=by simp[a8]
def CG(l:List UInt32):(a32 l).size=l.length:=by simp[a32]
def wI(l:No)(E:h7)(fz:Nat×Nat)(n i:Nat)(h:i<l.length):aF (some (false,n)) (some (.cells (a8 l) E fz)) i=some (v8 (l.getD i 0)):=by simp[aF,a8,v8,h]
def Nq(l:List UInt32)(E:h7)(fz:Nat×Nat)(n i:Nat)(h:i<l.length):aF (some (false,n)) (some (.cells (a32 l) E fz)) i=some (v32 (l.getD i 0)):=by simp[aF,a32,v32,h]
def qp(l:No)(E:h7)(fz:Nat×Nat)(n:Nat)(h:l.length=n):aF (some (true,n)) (some (.cells (a8 l) E fz)) 0=some (.agg (a8 l)):=jN _ E fz n (by rw[mi,h])
def JW(l:List UInt32)(E:h7)(fz:Nat×Nat)(n:Nat)(h:l.length=n):aF (some (true,n)) (some (.cells (a32 l) E fz)) 0=some (.agg (a32 l)):=jN _ E fz n (by rw[CG,h])
def ag(cs:Array hU):(Value.agg cs).cells=cs:=(rfl)
def Sz(l:No):(a8 l).toList.all Value.oneCell'=true:=by simp[a8,Value.oneCell']
def Q2(l:List UInt32):(a32 l).toList.all Value.oneCell'=true:=by simp[a32,Value.oneCell']
def nt(vs:List hU):∀ (pre b a:List hU),b.length=vs.length->cU (pre++b++a).toArray pre.length vs=(pre++vs++a).toArray:=by
 induction vs with
 |nil=>
  intro pre b a h;cases b with
  |nil=>rfl
  |cons _ _=>cases h
 |cons v r d=>
  intro pre b a h;cases b with
  |nil=>cases h
  |cons m c=>
   simp only[Wt,Nat.add_right_cancel_iff] at h;have:=d (pre++[v]) c a h;simp only[cU];have e:((pre++m::c++a).toArray.setIfInBounds pre.length v)=(pre++[v]++c++a).toArray:=by simp
   rw[e];simpa using this
def vu(cs:Array hU)(vs:List hU)(h:vs.length=cs.size):cU cs 0 vs=vs.toArray:=by have:=nt vs [] cs.toList [] (by simpa using h.symm);simpa using this
def BV(n:Nat)(a:Bool)(cs Wo:Array hU)(E:h7)(h:cs.size=n/\Wo.size=n)(c:cs.toList.all Value.oneCell'=true):
  aZ (some (a,n)) (some (.cells Wo E (0,0))) 0 (.agg cs)=some (.cells cs E (0,0)):=by
 obtain⟨b,d⟩:=h;have e:cU Wo 0 cs.toList=cs:=by rw[vu _ _ (by rw[Array.length_toList,b,d])]
 have f:(0:Nat)+n<=Wo.size:=by omega
 simp only[aZ,ag,b,f,aj,true_or,c,and_self,↓reduceIte,e]
def Bf(n:Nat)(a:Bool)(l:No)(Wo:Array hU)(E:h7)(h:l.length=n/\Wo.size=n):
  aZ (some (a,n)) (some (.cells Wo E (0,0))) 0 (.agg (a8 l))=some (.cells (a8 l) E (0,0)):=BV n a _ _ E (by rw[mi];exact h) (Sz l)
def Gh(n:Nat)(a:Bool)(l:List UInt32)(Wo:Array hU)(E:h7)(h:l.length=n/\Wo.size=n):
  aZ (some (a,n)) (some (.cells Wo E (0,0))) 0 (.agg (a32 l))=some (.cells (a32 l) E (0,0)):=BV n a _ _ E (by rw[CG];exact h) (Q2 l)
def E8(a:Bool)(v:hU)(cs:Array hU)(E:h7)(i:Nat)(h:i<cs.size)(b:v.cells=#[v])(c:v.oneCell'=true):
  aZ (some (a,1)) (some (.cells cs E (0,0))) i v=some (.cells (cs.setIfInBounds i v) E (0,0)):=by
 have d:i+1<=cs.size:=h;simp only[aZ,b,Wd,Wt,W7,d,aj,true_or,List.all_cons,c,List.all_nil,Bool.and_self,and_self,↓reduceIte,cU,Xg]
def Sv(l:No)(i:Nat)(x:Vf):(a8 l).setIfInBounds i (v8 x)=a8 (l.set i x):=by simp[a8,v8,List.map_set]
def P_(l:List UInt32)(i:Nat)(x:UInt32):(a32 l).setIfInBounds i (v32 x)=a32 (l.set i x):=by simp[a32,v32,List.map_set]
def Nw(a:Bool)(l:No)(E:h7)(i:Nat)(x:Vf)(h:i<l.length):aZ (some (a,1)) (some (.cells (a8 l) E (0,0))) i (v8 x)=some (.cells (a8 (l.set i x)) E (0,0)):=by rw[E8 a _ _ E i (by rw[mi];exact h) rfl rfl,Sv]
def My(a:Bool)(l:List UInt32)(E:h7)(i:Nat)(x:UInt32)(h:i<l.length):aZ (some (a,1)) (some (.cells (a32 l) E (0,0))) i (v32 x)=some (.cells (a32 (l.set i x)) E (0,0)):=by rw[E8 a _ _ E i (by rw[CG];exact h) rfl rfl,P_]
def upd(L:aA)(b:Nat)(o:Option Obj):Option aA:=match o with|some o=>some (Vh L b o) |none=>none
def pp(L:aA)(b:Nat)(o:Obj):upd L b (some o)=some (Vh L b o):=(rfl)
def qS(m:Option (Bool×Nat))(L:aA)(b o:Nat)(v:hU):kQ m L (vp b o) v=upd L b (aZ m (look L b) o v):=(rfl)
def O3(n:Nat)(l:No)(i:Int)(h:0<=i/\i<n)(a:l.length=n):j9 (.arr n (false,1)) (.agg (a8 l)) (some i)=some (v8 (l.getD i.toNat 0)):=by
 have:i.toNat<l.length:=by omega
 simp[j9,h,Xj,a8,v8,this]
def M3(n:Nat)(l:List UInt32)(i:Int)(h:0<=i/\i<n)(a:l.length=n):j9 (.arr n (false,1)) (.agg (a32 l)) (some i)=some (v32 (l.getD i.toNat 0)):=by
 have:i.toNat<l.length:=by omega
 simp[j9,h,Xj,a32,v32,this]
def LL(vs:Array hU)(i:Nat):Bz (.tuple vs) i=vs[i]? :=(rfl)
def RX(a b:hU):fG (.bool true) a b=some a:=(rfl)
def RY(a b:hU):fG (.bool false) a b=some b:=(rfl)
def FP(g n:Nat):((g:Int)+no_index (@OfNat.ofNat Int n _)).toNat=g+ @OfNat.ofNat Nat n _:=by show((g:Int)+ (n:Int)).toNat=g+n;omega
def FV(g n:Nat):(no_index (@OfNat.ofNat Int n _)* (g:Int)).toNat= @OfNat.ofNat Nat n _*g:=by show((n:Int)* (g:Int)).toNat=n*g;rw[<-Y_,WX]
def V9(g n m:Nat):(no_index (@OfNat.ofNat Int n _)* (g:Int)+no_index (@OfNat.ofNat Int m _)).toNat= @OfNat.ofNat Nat n _*g+ @OfNat.ofNat Nat m _:=by show((n:Int)* (g:Int)+ (m:Int)).toNat=n*g+m;rw[<-Y_,<-Int.natCast_add,WX]
def Iy(g n:Nat):((g:Int) - no_index (@OfNat.ofNat Int n _)).toNat=g - @OfNat.ofNat Nat n _:=by show((g:Int) - (n:Int)).toNat=g - n;omega
def FJ(g n:Nat):(no_index (@OfNat.ofNat Int n _) - (g:Int)).toNat= @OfNat.ofNat Nat n _ - g:=by show((n:Int) - (g:Int)).toNat=n - g;omega
def Fv(g n:Nat):((g:Int) / no_index (@OfNat.ofNat Int n _)).toNat=g / @OfNat.ofNat Nat n _:=by show((g:Int) / (n:Int)).toNat=g / n;rw[<-Int.natCast_ediv,WX]
def FW(g n:Nat):((g:Int)%no_index (@OfNat.ofNat Int n _)).toNat=g% @OfNat.ofNat Nat n _:=by show((g:Int)% (n:Int)).toNat=g%n;rw[<-Int.natCast_emod,WX]
def Ew(g n:Nat):((g:Int)+ (n:Int)).toNat=g+n:=by omega
def FT(g n m:Nat):((g:Int) / no_index (@OfNat.ofNat Int n _)+no_index (@OfNat.ofNat Int m _)).toNat=g / @OfNat.ofNat Nat n _+ @OfNat.ofNat Nat m _:=by show((g:Int) / (n:Int)+ (m:Int)).toNat=g / n+m;rw[<-Int.natCast_ediv,<-Int.natCast_add,WX]
def FK(g n m:Nat):((g:Int)%no_index (@OfNat.ofNat Int n _)+no_index (@OfNat.ofNat Int m _)).toNat=g% @OfNat.ofNat Nat n _+ @OfNat.ofNat Nat m _:=by show((g:Int)% (n:Int)+ (m:Int)).toNat=g%n+m;rw[<-Int.natCast_emod,<-Int.natCast_add,WX]
def Og(a:Int)(c:UInt64)(h:c.toNat<63/\0<=a/\a*2^c.toNat<=9223372036854775807):aM .shl (vi a) (v64 c)=some (vi (a*2^c.toNat)):=wV a _ _ h
def OU(a:Int)(c:UInt64)(h:c.toNat<64/\0<=a):aM .shr (vi a) (v64 c)=some (vi (a / 2^c.toNat)):=RA a _ _ h
def qK8(a b:Int)(h:0<=a/\0<=b/\a<=9223372036854775807/\b<=9223372036854775807):aM .or (vi a) (vi b)=some (vi ((a.toNat|||b.toNat:Nat):Int)):=by
 obtain⟨c,d,i,j⟩:=h;obtain⟨n,rfl⟩:=ZT c;obtain⟨m,rfl⟩:=ZT d;have f:n<2^63:=by omega
 have g:m<2^63:=by omega
 have k:=Nat.or_lt_two_pow f g;simp only[aM,vi,cZ,Z2,↓reduceIte,Ws,WX];have e:(BitVec.ofInt (IntKind.bits .i64) (n:Int) |||BitVec.ofInt (IntKind.bits .i64) (m:Int)).toNat=n|||m:=by show(BitVec.ofInt 64 (n:Int) |||BitVec.ofInt 64 (m:Int)).toNat=_;rw[BitVec.toNat_or,BitVec.ofInt_natCast,BitVec.ofInt_natCast,BitVec.toNat_ofNat,BitVec.toNat_ofNat,X7 oM,X7 oM]
 rw[e,k7 _ ⟨by omega,by omega⟩]
def Te(a b:Int)(h:0<=a/\0<=b/\a<=9223372036854775807/\b<=9223372036854775807):aM .and (vi a) (vi b)=some (vi ((a.toNat&&&b.toNat:Nat):Int)):=by
 obtain⟨c,d,f,g⟩:=h;obtain⟨n,rfl⟩:=ZT c;obtain⟨m,rfl⟩:=ZT d;have i:n&&&m<=n:=Nat.and_le_left;simp only[aM,vi,cZ,Z2,↓reduceIte,Ws,WX];have e:(BitVec.ofInt (IntKind.bits .i64) (n:Int)&&&BitVec.ofInt (IntKind.bits .i64) (m:Int)).toNat=n&&&m:=by show(BitVec.ofInt 64 (n:Int)&&&BitVec.ofInt 64 (m:Int)).toNat=_;rw[BitVec.toNat_and,BitVec.ofInt_natCast,BitVec.ofInt_natCast,BitVec.toNat_ofNat,BitVec.toNat_ofNat,X7 oM,X7 oM]
 rw[e,k7 _ ⟨by omega,by omega⟩]
def Jm(P:h_)(op:BinOp)(t:h7)(x:Vf)(y:Vf):ak P op t (v8 x) (v8 y)=aM op (v8 x) (v8 y):=(rfl)
def II(P:h_)(op:BinOp)(t:h7)(x:Vf)(y:UInt64):ak P op t (v8 x) (v64 y)=aM op (v8 x) (v64 y):=(rfl)
def J1(P:h_)(op:BinOp)(t:h7)(x:Vf)(y:Int):ak P op t (v8 x) (vi y)=aM op (v8 x) (vi y):=(rfl)
def G2(P:h_)(op:BinOp)(t:h7)(x:UInt32)(y:UInt32):ak P op t (v32 x) (v32 y)=aM op (v32 x) (v32 y):=(rfl)
def GK(P:h_)(op:BinOp)(t:h7)(x:UInt32)(y:UInt64):ak P op t (v32 x) (v64 y)=aM op (v32 x) (v64 y):=(rfl)
def IB(P:h_)(op:BinOp)(t:h7)(x:UInt32)(y:Int):ak P op t (v32 x) (vi y)=aM op (v32 x) (vi y):=(rfl)
def GB(P:h_)(op:BinOp)(t:h7)(x:UInt64)(y:UInt64):ak P op t (v64 x) (v64 y)=aM op (v64 x) (v64 y):=(rfl)
def Hi(P:h_)(op:BinOp)(t:h7)(x:UInt64)(y:Int):ak P op t (v64 x) (vi y)=aM op (v64 x) (vi y):=(rfl)
def I1(P:h_)(op:BinOp)(t:h7)(x:Int)(y:UInt64):ak P op t (vi x) (v64 y)=aM op (vi x) (v64 y):=(rfl)
def Ja(P:h_)(op:BinOp)(t:h7)(x:Int)(y:Int):ak P op t (vi x) (vi y)=aM op (vi x) (vi y):=(rfl)
def RQ(x:Vf):ixI (v8 x)=some (x.toNat:Int):=(rfl)
def Sr(x:Vf):Value.oneCell' (v8 x)=true:=(rfl)
def P9(x:Vf):(v8 x).cells=#[v8 x]:=(rfl)
def Qf(x:UInt16):ixI (v16 x)=some (x.toNat:Int):=(rfl)
def Qr(x:UInt16):Value.oneCell' (v16 x)=true:=(rfl)
def Mw(x:UInt16):(v16 x).cells=#[v16 x]:=(rfl)
def Ql(x:UInt32):ixI (v32 x)=some (x.toNat:Int):=(rfl)
def QU(x:UInt32):Value.oneCell' (v32 x)=true:=(rfl)
def N9(x:UInt32):(v32 x).cells=#[v32 x]:=(rfl)
def Px(x:UInt64):ixI (v64 x)=some (x.toNat:Int):=(rfl)
def QW(x:UInt64):Value.oneCell' (v64 x)=true:=(rfl)
def MC(x:UInt64):(v64 x).cells=#[v64 x]:=(rfl)
def Rn(x:Int):ixI (vi x)=some x:=(rfl)
def SI(x:Int):Value.oneCell' (vi x)=true:=(rfl)
def Nf(x:Int):(vi x).cells=#[vi x]:=(rfl)
end Go.Sx
end
namespace Go.Sx
open Go
section
variable {P:h_} {w0:hW} {f:Fr} {L:aA} {N:Fr->aA->Prop} {ops:Array Oper} {rest:List Oper} {md:Md}
 {d:Option Tmp} {ty:h7} {ps:String} {af:Array Edge} {g:Option (Nat×Bool)}
def Ow.WA{l:List Operand}{ts:Array h7}{k:FuncId}{b:Nat}{v:hU}{o:Obj}{h:Md}(i:md.WM=some h)
  (j:ay ops f ⟨d,.call ⟨.value (.func k),l.toArray,ts⟩,ty,ps,af,g⟩=false)
  (m:∀a w,(callFunc k a).run P w=.ok (.enter k a) w) (n:b∈keys L)
  (p:∀w,Hp w0 L w->Va P k (l.map (ev f)).toArray w (fun e D=> ∃c,D=[(b,c)]/\e=v/\c=o))
  (q:Ow P w0 ops h rest (aa f d v) (Vh L b o) N):
  Ow P w0 ops md (⟨d,.call ⟨.value (.func k),l.toArray,ts⟩,ty,ps,af,g⟩::rest) f L N:=
 Ow.qb2 (S:=fun _ e D=> ∃c,D=[(b,c)]/\e=v/\c=o) i j m p (by rintro _ _ _ - - ⟨_,rfl,rfl,rfl⟩;exact⟨_,Mrg.set n,q⟩)
end
def kK(P:h_)(t:h7)(len:Nat)(a:List (Nat×hU)):Option (h7×Array hU):=
 match P.underlying t with
 |some (.slice e)=>match aU P e with
  |some m=>if len*m.2>2^24 then none else
   match(if len*m.2=0 then some #[] else(ac P e).map Value.cells) with
   |some zero=>(Instr.fill (fun i=>some (i*m.2,m.2)) ((Array.range (len*m.2)).map (zero[· %zero.size]!)) a).map fun c=>(e,c)
   |none=>none
  |none=>none
 |_=>none
def FB{P:h_}{t e:h7}{len:Nat}{d:Array (Nat×hU)}{cells:Array hU}(h:kK P t len d.toList=some (e,cells))(w:hW):
  (Instr.buildSlice t len d).run P w=.ok (Xr w.heap.size 0 len len) (w.alloc (.cells cells e)):=by
 unfold kK at h
 split at h
 .rename_i p j
  split at h
  .rename_i m l
   split at h
   .cases h
   rename_i n
   split at h
   .rename_i zero a;cases b:Instr.fill (fun i=>some (i*m.2,m.2)) ((Array.range (len*m.2)).map (zero[· %zero.size]!)) d.toList with
    |none=>rw[b] at h;cases h
    |some c=>
     rw[b] at h;cases h;simp only[Instr.buildSlice,Vp,Wn j w,VT,ei l w,n,if_false]
     split at a
     .rename_i f;cases a;have o:∀ (k:Array hU->hW->Result hU),(Sem.run P (pure (#[]:Array hU)) w).andThen k=k #[] w:=fun _=>rfl;simp only[f,if_true] at b |-;rw[Vp,o];simp only[b,Vp]
      rfl
     rename_i f;cases g:ac P e with
     |none=>rw[g] at a;cases a
     |some z=>
      rw[g] at a;cases a;simp only[f,if_false,Vp,m0 g w,VT,Wm,b]
      rfl
   cases h
  cases h
 cases h
section
variable {P:h_} {w0:hW} {f:Fr} {L:aA} {N:Fr->aA->Prop} {ops:Array Oper} {rest:List Oper} {md:Md}
 {d:Option Tmp} {ty:h7} {ps:String} {af:Array Edge} {g:Option (Nat×Bool)}
theorem Ow.buildSlice{t e:h7}{len:Nat}{a:Array (Nat×Operand)}(cells:Array hU){h:Md}(j:md.WM=some h)(k:ay ops f ⟨d,.buildSlice t len a,ty,ps,af,g⟩=false)
  (l:kK P t len (a.toList.map fun p=>(p.1,ev f p.2))=some (e,cells))
  (m:∀b,cy L b->w0.heap.size<=b->Ow P w0 ops h rest (aa f d (Xr b 0 len len)) (L++[(b,.cells cells e)]) N):
  Ow P w0 ops md (⟨d,.buildSlice t len a,ty,ps,af,g⟩::rest) f L N:=by
 refine Ow.step j rfl k fun w c=>.inl ⟨Xr w.heap.size 0 len len,w.alloc (.cells cells e),_,?_,c.alloc _,m _ (ef fun b n=>c.lt n) c.size⟩;have o:kK P t len (a.map fun(i,x)=>(i,ev f x)).toList=some (e,cells):=by rw[Array.toList_map];exact l
 simp only[execOp,Vp,FB o w,VT]
 rfl
end
def HW{f:Nat->Option Bool}{g:Nat->Bool}(is:List Nat)(h:∀i,i∈is->f i=some (g i)):rB f is=some (is.all g):=by
 induction is with
 |nil=>rfl
 |cons i r a=>
  unfold rB;rw[h i aX,List.all_cons];cases g i
  .rfl
  simpa using a fun j b=>h j (ah _ b)
def HH(l l':No)(n:Nat)(h:l.length=n)(d:l'.length=n):((List.range n).all fun i=>l.getD i 0==l'.getD i 0)=(l==l'):=by
 rw[YZ,XX,W8]
 constructor
 .intro a;apply List.ext_getElem oM;intro i b c;have:=a i (List.mem_range.2 oM);rw[W8,List.getD_eq_getElem?_getD,List.getD_eq_getElem?_getD,List.getElem?_eq_getElem b,List.getElem?_eq_getElem c] at this;exact this
 rintro rfl i _;simp
def lQ{P:h_}{t e:h7}{n d:Nat}(f:P.underlying t=some (.array n e))(g:P.underlying e=some (.int .u8))(h:aU P e=some (false,1))(l l':No)(b:l.length=n)(c:l'.length=n):
  eqD P (d+2) t (.agg (a8 l)) (.agg (a8 l'))=some (l==l'):=by
 rw[<-HH l l' n b c];unfold eqD;rw[f];simp only[h];apply HW;intro i a;have a:=List.mem_range.1 a;have p:∀ (x:No),x.length=n->Xj (false,1) (a8 x) (i*1)=some (v8 (x.getD i 0)):=by intro x j;simp[Xj,a8,v8,j,a]
 simp only[kV,p l b,p l' c];unfold eqD;rw[g];simp only[v8,↓reduceIte,WD];rw[YZ,W8,W8,<-UInt8.toNat_inj];omega
def wP{P:h_}{t e:h7}{n:Nat}(b:P.underlying t=some (.array n e))(c:P.underlying e=some (.int .u8))(f:aU P e=some (false,1))(g:P.eqGuardType P.depth t=false)(l l':No)(a:l.length=n/\l'.length=n):
  ak P .eql t (.agg (a8 l)) (.agg (a8 l'))=some (.bool (l==l')):=by
 unfold ak Zq;rw[g];simp[cm,lQ (d:=6) b c f l l' a.1 a.2]
def ub{P:h_}{t e:h7}{n:Nat}(b:P.underlying t=some (.array n e))(c:P.underlying e=some (.int .u8))(f:aU P e=some (false,1))(g:P.eqGuardType P.depth t=false)(l l':No)(a:l.length=n/\l'.length=n):
  ak P .neq t (.agg (a8 l)) (.agg (a8 l'))=some (.bool (!(l==l'))):=by
 unfold ak Zq;rw[g];simp[cm,lQ (d:=6) b c f l l' a.1 a.2]
def Wk(a b:hU):(#[a,b]:Array hU)[0]? =some a:=(rfl)
def Wl(a b:hU):(#[a,b]:Array hU)[1]? =some b:=(rfl)
def Yk(a b c:hU):(#[a,b,c]:Array hU)[0]? =some a:=(rfl)
def Yl(a b c:hU):(#[a,b,c]:Array hU)[1]? =some b:=(rfl)
def Ym(a b c:hU):(#[a,b,c]:Array hU)[2]? =some c:=(rfl)
structure Zb(w:hW)(v:hU)(l:List No)(b off:Nat)(arr:Array hU)(E:h7)(fz:Nat×Nat):Prop where
 len:∀m,Yw (.sl m) v=some (vi l.length)
 idx:∀m (k:Nat),k<l.length->ez (.sl m) v (some (k:Int))=some (vp b (off+k*m.2))
 has:0<l.length->w.heap[b]? =some (.cells arr E fz)
 get:∀k,k<l.length->arr[off+k]? =some (vs (l.getD k []))
def Zb.sl{w:hW}{l:List No}{b off n c:Nat}{arr:Array hU}{E:h7}{fz:Nat×Nat}(a:n=l.length)
  (has:w.heap[b]? =some (.cells arr E fz)) (get:∀k,k<l.length->arr[off+k]? =some (vs (l.getD k []))):Zb w (Xr b off n c) l b off arr E fz:=by
 subst a;exact⟨fun _=>rfl,fun m k h=>by rw[j5 _ _ _ _ _ _ oM];simp,fun _=>has,get⟩
theorem Zb.none(w:hW)(n c:Nat)(a:n=0):Zb w (.slice none n c) [] 0 0 #[] 0 (0,0):=by subst a;exact⟨fun _=>rfl,fun _ _ h=>Vx h (Yy _),fun h=>Vx h (Yy _),fun _ h=>Vx h (Yy _)⟩
theorem Zb.Wo{w c:hW}{v:hU}{l:List No}{b off:Nat}{arr:Array hU}{E:h7}{fz:Nat×Nat}{L:aA}(h:Zb w v l b off arr E fz)(d:Hp w L c)(e:0<l.length->b∉keys L):Zb c v l b off arr E fz:=by refine⟨h.len,h.idx,fun a=>?_,h.get⟩;rw[d.Wo b (Array.getElem?_eq_some_iff.1 (h.has a)).1 (e a)];exact h.has a
def YU(cs:Array hU)(E:h7)(fz:Nat×Nat)(n i:Nat):aF (some (false,n)) (some (.cells cs E fz)) i=cs[i]? :=(rfl)
end Go.Sx
namespace Go.Sx
open Go
def ZU(P:h_)(w0:hW)(ops:Array Oper)(n:Nat)(listed:List Bool)(f:Fr)(L:aA)(N:Fr->aA->Prop):Prop:=
 ∀w,Hp w0 L w->wpAny P .any ops (da w0 N) n listed.toArray (act f) w
section
variable {P:h_} {w0:hW} {f:Fr} {L:aA} {N:Fr->aA->Prop} {K:bz} {l:List Oper} {n:Nat} {listed:List Bool}
def Cw.qk7{id:Nat}(m:Nat)(a:l.length=m)(b:P.follows .mixedOrders=true)(h:ZU P w0 l.toArray m (List.replicate m false) f L (K .normal)):Cw P w0 (.region id l.toArray true) f L K:=fun w c=>by subst a;refine wp_mono (wp_region_any b ?_) fun _ _ _ h=>pH h;have:=h _ c.drew;simpa using this
def ZU.done{ops:Array Oper}(a:Region.ready .any ops listed.toArray=[])(h:N f L):ZU P w0 ops n listed f L N:=
 fun w b=>wpAny_done a ⟨rfl,rfl,L,b,by simpa [act] using h⟩ n
def qj{o:Oper}{a:Act}{next f:Act->hW->Prop}{Q g:Exit->Act->hW->Prop}(c:∀a w,next a w->f a w)(d:∀e a w,e≠ .normal->Q e a w->False){r:Result Next}
  (h:o.upon P a next Q r):o.upon P a f g r:=by
 cases r with
 |ok x i=>
  cases x<;>simp only[Oper.upon] at h |- <;>
   first
    |exact c _ _ h
    |exact Calls.mono h (fun e j b=>by cases e<;>first|exact c _ _ b|exact(d _ _ _ V_ b).elim| (obtain⟨a,w,h⟩:=b;exact(d _ _ _ V_ h).elim))
    |exact Rows.mono h (fun _ _ b=>c _ _ b)
    |exact h.elim
 |halt x i=>cases x<;>simp only[Oper.upon] at h |- <;>first|exact(d _ _ _ V_ h).elim|exact h.elim
def B_{N:Fr->aA->Prop}{e:Exit}{a:Act}{w:hW}(b:e≠ .normal)(h:da w0 N e a w):False:=b h.1
def mg{ops:Array Oper}{k:Nat}{o:Oper}(n:ops[k]? =some o){X:Act->hW->Prop}
  (h:Ow P w0 ops .seq [o] f L (fun g c=> ∀w,Hp w0 c w->X (act g) w)) {w:hW} (p:Hp w0 L w):wpOp P ops (da w0 N) k X (act f) w:=by
 have b:=h w p;unfold wpList at b;unfold wpOp;simp only[n];have j:∀a w,wpList P ops (da w0 fun g c=> ∀w,Hp w0 c w->X (act g) w) [] a w->X a w:=by intro a i q;obtain⟨-,l,c,r,s⟩:=(show da w0 _ _ a i from q);have:=s i r;obtain⟨t,d⟩:=a;simp only at l;subst l;simpa [act] using this
 cases m:Region.wanted o (yielded ops (act f).tmps) with
 |true=>
  rw[m] at b;simp only[↓reduceIte] at b |-;rcases b with b| ⟨-,a,i,b⟩
  .exact .inl (qj j (fun e a w u h=>B_ u h) b)
  exact(B_ V_ b).elim
 |false=>rw[m] at b;simp only[VW,↓reduceIte] at b |-;exact j _ _ b
def Cu{ops:Array Oper}{o:Oper}{N b:Fr->aA->Prop}(i:∀f L,N f L->b f L){w:hW}{a:Act}(h:wpList P ops (da w0 N) [o] a w):wpList P ops (da w0 b) [o] a w:=by
 have d:∀a w,da w0 N .normal a w->da w0 b .normal a w:=fun a w ⟨c,j,k,l,m⟩=>⟨c,j,k,l,i _ _ m⟩;unfold wpList at h |-;cases g:Region.wanted o (yielded ops a.tmps) with
 |true=>
  rw[g] at h;simp only[↓reduceIte] at h |-;rcases h with h| ⟨-,a,p,c⟩
  .exact .inl (qj (fun a w h=>d a w h) (fun e a w n h=>B_ n h) h)
  exact(B_ V_ c).elim
 |false=>rw[g] at h;simp only[VW,↓reduceIte] at h |-;exact d _ _ h
def jM(l:List Bool)(i:Nat):l.toArray.setIfInBounds i true=(l.set i true).toArray:=by simp
def ZU.one(k:Nat)(o:Oper)(c:Region.ready .any l.toArray listed.toArray=[k])(a:cX l k=some o)
  (h:Ow P w0 l.toArray .seq [o] f L (fun d e=>ZU P w0 l.toArray n (listed.set k true) d e N)):ZU P w0 l.toArray (n+1) listed f L N:=by
 intro w g;refine wpAny_all c V_ ?_;intro i b;simp only[VZ] at b;subst b;rw[jM];exact mg (by rw[j4] at a;simpa using a) h g
def ZU.two(i j:Nat)(c oj:Oper)(m:Region.ready .any l.toArray listed.toArray=[i,j])(d:cX l i=some c)(e:cX l j=some oj)
  (o:Ow P w0 l.toArray .seq [c] f L (fun a b=>ZU P w0 l.toArray n (listed.set i true) a b N))
  (p:Ow P w0 l.toArray .seq [oj] f L (fun a b=>ZU P w0 l.toArray n (listed.set j true) a b N)):ZU P w0 l.toArray (n+1) listed f L N:=by
 intro w g;refine wpAny_all m V_ ?_;intro k h;rw[jM];simp only[Vw,WI,WB] at h;rcases h with rfl|rfl
 .exact mg (by rw[j4] at d;simpa using d) o g
 exact mg (by rw[j4] at e;simpa using e) p g
def qs2(P:h_)(l:List Oper):List Nat->List Bool->Option (List Bool)
 | [],listed=>some listed
 |k::is,listed=>
  match cX l k with
  |some o=>if(Region.ready .any l.toArray listed.toArray).contains k&&Region.free .any l.toArray listed.toArray k&&eF P o.op then qs2 P l is (listed.set k true) else none
  |none=>none
theorem ZU.runs{k:Md->List Oper->Fr->aA->Prop}(e:Region.noSelect l.toArray=true):∀ (is:List Nat) {listed g:List Bool} {f:Fr} {L:aA},qs2 P l is listed=some g->
  (∀md r t u,k md r t u->r=[]/\ZU P w0 l.toArray n g t u N)->vcL P w0 l.toArray false .seq (eZ l is) f L k->ZU P w0 l.toArray (is.length+n) listed f L N
 | [],listed,g,f,L,b,d,h=>by cases b;rw[W7,Xg];exact(d _ _ _ _ h).2
 |i::is,listed,g,f,L,b,d,h=>by
  unfold qs2 at b;rw[Bk] at h;cases j:cX l i with
  |none=>rw[j] at b;cases b
  |some o=>
   rw[j] at b h;simp only at b
   split at b
   .rename_i x;simp only[WK] at x;obtain⟨⟨y,z⟩,B⟩:=x;rw[Bn] at h;have A:l.toArray[i]? =some o:=by rw[j4] at j;simpa using j
    unfold vcL at h;rw[Wt,show is.length+1+n=(is.length+n)+1 by omega];cases m:ay l.toArray f o with
    |true=>
     rw[m] at h;have p:Region.wanted o (yielded l.toArray (act f).tmps)=false:=by rw[gW,m];rfl
     intro w q;refine wpAny_take (v:=undef) A e z y (fun c a w h=>i9 h) (.inr ⟨p,rfl⟩) ?_;rw[eH,jM];exact ZU.runs e is b d h w q
    |false=>
     rw[m] at h;have p:Region.wanted o (yielded l.toArray (act f).tmps)=true:=by rw[gW,m];rfl
     simp only[ib,YD] at h
     split at h
     .have C:Zr .seq f o.op=true:=by
       cases o.op<;>rfl
      rw[C] at h;simp only at h;cases s:fT P w0 L f o.op with
      |none=>rw[s] at h;exact Vx (d _ _ _ _ h).1 V_
      |some v=>
       rw[s] at h;intro w q;refine wpAny_take (v:=v) A e z y (fun c a w h=>i9 h) (.inl ⟨p,fun w=>?_⟩) ?_
       .rw[ka];exact jQ (Hp.refl w) (qP B s w)
       rw[eH,jM];exact ZU.runs e is b d h w q
     .exact Vx (d _ _ _ _ h).1 V_
     exact Vx (d _ _ _ _ h).1 V_
   cases b
def ZU.run(is:List Nat)(a:List Bool)(n:Nat){m:Nat}(b:m=is.length+n)(c:Region.noSelect l.toArray=true)(d:qs2 P l is listed=some a)
  (h:∀k:Md->List Oper->Fr->aA->Prop,(∀md f L,ZU P w0 l.toArray n a f L N->k md [] f L)->nl (eZ l is) fun e=>vcL P w0 l.toArray false .seq e f L k):ZU P w0 l.toArray m listed f L N:=by
 subst b;refine ZU.runs (k:=fun _ r g i=>r=[]/\ZU P w0 l.toArray n a g i N) c is d (fun _ _ _ _ h=>h) ?_;exact h _ fun _ _ _ h=>⟨rfl,h⟩
def Ow.soft{ops:Array Oper}{R is ts:List Nat}{k:Nat}{o:Oper}{rest:List Oper}(r:eF P o.op=false)(s:jU o.op=false)(t:ts.contains k=false)
  (h:Ow P w0 ops .seq [o] f L (fun l d=>(∀b,b∈R->aG w0 d b=aG w0 L b)/\Ow P w0 ops (.sof R is ts) rest l d N)):Ow P w0 ops (.sof R (k::is) ts) (o::rest) f L N:=by
 intro listed u x w m;obtain⟨I,J,y,z,A,K,a⟩:=u.cons;cases y;have B:k∉ts:=by simpa using t
 have n:Region.ready .any ops listed=[k]:=by
  rcases a with a| ⟨_,_,_,a| ⟨a,_⟩⟩
  .exact a
  .rw[r] at a;cases a
  rw[s] at a;cases a
 refine⟨fun _=>SR.of m,(fun h=>by rw[n] at h;cases h),?_⟩;intro i p;rw[n,VZ] at p;subst p;refine mg z (X:=gj P ops (da w0 N) ts (SR w0 R L) rest.length (listed.setIfInBounds i true)) ?_ m;intro C D;have E:=h C D;refine Cu ?_ E;rintro l d ⟨q,F⟩ G H;have e:SR w0 R L=SR w0 R d:=by
  funext v
  unfold SR;apply propext
  constructor
  .intro g b c o j;exact g b c o (by rw[<-q b c];exact j)
  intro g b c o j;exact g b c o (by rw[q b c];exact j)
 rw[e];exact F _ A (k6 B x) G H
def Ow.WV{ops:Array Oper}{R is ts:List Nat}{k:Nat}{o:Oper}{rest:List Oper}
  (h:Ow P w0 ops .seq [o] f L (fun c a=>(∀b,b∈R->aG w0 a b=aG w0 L b)/\Ow P w0 ops (.sof R is ts) rest c a N)) (d:eF P o.op=false:=by exact rfl) (e:jU o.op=false:=by exact rfl) (g:ts.contains k=false:=by exact rfl):Ow P w0 ops (.sof R (k::is) ts) (o::rest) f L N:=Ow.soft d e g h
def Ow.ZQ{ops:Array Oper}{md:Md}{R:List Nat}{M:Fr->aA->Prop}(h:M f L):Ow P w0 ops md [] f L (fun c a=>(∀b,b∈R->aG w0 a b=aG w0 L b)/\M c a):=Ow.nil ⟨fun _ _=>rfl,h⟩
def Cw.Vu{id:Nat}(R is ts:List Nat)(k:P.follows .mixedOrders=true)(d:l5 P l is ts=true)(b:is.map (fun i:Nat=>l[i]?)=(eZ l is).map some)
  (h:nl (eZ l is) fun a=>Ow P w0 l.toArray (.sof R is ts) a f L (K .normal)):Cw P w0 (.region id l.toArray true) f L K:=by
 revert b h
 generalize eZ l is=a;intro b h w m;simp only[l5,WK,W8,XX,XN] at d;obtain⟨⟨⟨n,o⟩,p⟩,q⟩:=d;have e:is.length=a.length:=by have:=Wc List.length b;simpa using this
 refine wp_mono (wp_region_any k ?_) fun _ _ _ h=>pH h;have r:Fits P l.toArray ts is a (Array.replicate l.length false):=⟨e,fun j=>by
  have:=Wc (·[j]?) b;simp only[List.getElem?_map] at this;cases g:is[j]? with
  |none=>
   rw[g] at this;simp only[YL] at this;cases c:a[j]? with
   |none=>rfl
   |some x=>rw[c] at this;cases this
  |some i=>
   rw[g] at this;simp only[Ws] at this;cases c:a[j]? with
   |none=>rw[c] at this;cases this
   |some x=>rw[c] at this;simp only[Ws,WD] at this;simp[this],n,q⟩
 have:=(h:Ow P w0 l.toArray (.sof R is ts) a f L (K .normal)) (Array.replicate l.length false) r (fun t s=>by have:=p t s;simp[this]) _ m.drew;rw[<-e,o] at this;have:=BQ _ _ _ _ this;simpa using this
def Af(P:h_)(l:List Oper)(is ts:List Nat)(listed:List Bool):Bool:=
 Region.noSelect l.toArray&&mD P l.toArray ts is listed.toArray&&ts.any fun t=>listed.toArray.getD t true
def ZU.rest(is ts:List Nat){m:Nat}(k:m=is.length)(d:Af P l is ts listed=true)(b:is.map (fun i:Nat=>l[i]?)=(eZ l is).map some)
  (h:nl (eZ l is) fun a=>Ow P w0 l.toArray (.any is ts) a f L N):ZU P w0 l.toArray m listed f L N:=by
 subst k
 revert b h
 generalize eZ l is=a;intro b h w n;simp only[Af,WK] at d;obtain⟨⟨o,p⟩,q⟩:=d;have e:is.length=a.length:=by have:=Wc List.length b;simpa using this
 have r:Fits P l.toArray ts is a listed.toArray:=⟨e,fun j=>by
  have:=Wc (·[j]?) b;simp only[List.getElem?_map] at this;cases g:is[j]? with
  |none=>
   rw[g] at this;simp only[YL] at this;cases c:a[j]? with
   |none=>rfl
   |some x=>rw[c] at this;cases this
  |some i=>
   rw[g] at this;simp only[Ws] at this;cases c:a[j]? with
   |none=>rw[c] at this;cases this
   |some x=>rw[c] at this;simp only[Ws,WD] at this;simp[this],o,p⟩
 obtain⟨t,s,u⟩:=List.any_eq_true.1 q;rw[e];exact(h:Ow P w0 l.toArray (.any is ts) a f L N) listed.toArray r ⟨t,s,u⟩ w n
end
def Zb.lit{w:hW}{b n c:Nat}{E:h7}{fz:Nat×Nat}{arr:Array hU}(l:List No)(a:n=l.length)(d:arr=(l.map vs).toArray)(has:w.heap[b]? =some (.cells arr E fz)):Zb w (Xr b 0 n c) l b 0 arr E fz:=
 Zb.sl a has (by intro k e;rw[d,Xg,List.getElem?_toArray,List.getElem?_map,List.getD_eq_getElem?_getD,List.getElem?_eq_getElem e];rfl)
end Go.Sx
namespace Go.Sx
open Go
def At(b:Nat->Act->hW->Prop)(Q:Exit->Act->hW->Prop):Exit->Act->hW->Prop
 | .goto l,a,w=>b l a w
 |e,a,w=>Q e a w
def GQ{P:h_}{a:Act}{w:hW}{Q:Exit->Act->hW->Prop}{c:Code}(j:Nat->Nat->Act->hW->Prop)
  (first:c.wp P (At (fun l a w=> ∃n,j n l a w) Q) a w)
  (D:∀n l a w,j n l a w-> ∃rest,findLabel c l=some rest/\rest.wp P (At (fun i m o=> ∃p,p<n/\j p i m o) Q) a w):(Code.scope c).wp P Q a w:=by
 intro b k q;have C:∀ {l rest},findLabel c l=some rest->gotoIn l (.inScope c::k)=some (.code rest::.inScope c::k):=by intro l rest r;simp[gotoIn,r]
 have key:∀n l a w,j n l a w-> ∃rest,findLabel c l=some rest/\ ∃e m o,Q e m o/\Arrives P (lone (b.at a (.code rest::.inScope c::k)) q w) b k q e m o:=by
  intro n
  induction n using Nat.strongRecOn with
  |_ n E=>
   intro l a w F;obtain⟨rest,r,G⟩:=D n l a w F;refine⟨rest,r,?_⟩;obtain⟨e,d,f,g,h⟩:=G b (.inScope c::k) q;cases e with
   |normal=>exact⟨.normal,d,f,g,Steps.trans h (.one step_inScope)⟩
   |exit id=>exact⟨.exit id,d,f,g,fun s t=>h s (by simp[exitTo,t])⟩
   |goto i=>obtain⟨p,H,u⟩:=g;obtain⟨I,v,x,y,z,A,B⟩:=E p H i d f u;exact⟨x,y,z,A,.of_steps (h _ (C v)) B⟩
   |ret=>exact⟨_,d,f,g,h⟩
   |panic J=>exact⟨_,d,f,g,h⟩
   |outgrown=>exact⟨_,d,f,g,h⟩
 obtain⟨e,d,f,g,h⟩:=first b (.inScope c::k) q;cases e with
 |normal=>exact⟨.normal,d,f,g,.head step_scope (Steps.trans h (.one step_inScope))⟩
 |exit id=>exact⟨.exit id,d,f,g,fun s t=>.head step_scope (h s (by simp[exitTo,t]))⟩
 |goto i=>obtain⟨n,u⟩:=g;obtain⟨I,v,x,y,z,A,B⟩:=key n i d f u;exact⟨x,y,z,A,.of_steps (.head step_scope (h _ (C v))) B⟩
 |ret=>exact⟨_,d,f,g,.of_steps (.one step_scope) h⟩
 |panic J=>exact⟨_,d,f,g,.of_steps (.one step_scope) h⟩
 |outgrown=>exact⟨_,d,f,g,.of_steps (.one step_scope) h⟩
def jH(A:Nat->Fr->aA->Prop)(K:bz):bz
 | .normal=>K .normal
 | .exit i=>K (.exit i)
 | .goto i=>A i
 | .ret=>K .ret
 | .panic c=>K (.panic c)
 | .outgrown=>K .outgrown
def Jump{G:Type}(lab:G->Nat)(M:List Nat)(S:G->List (Nat×hU))(H:G->aA)(c B:G->Prop)(f:Fr)(i:Nat)(b:Fr)(L':aA):Prop:=
 ∃a,lab a=i/\B a/\c a/\L'=H a/\b=pin (gf (dA b) M 0 f) (S a)
def Jump.mk{G:Type}{lab:G->Nat}{M:List Nat}{S:G->List (Nat×hU)}{H:G->aA}{c B:G->Prop}{f:Fr}{i:Nat}{b:Fr}{L':aA}(a:G)(d:lab a=i)
  (e:B a) (g:c a) (h:L'=H a) (j:b=pin (gf (dA b) M 0 f) (S a)):Jump lab M S H c B f i b L':=⟨a,d,e,g,h,j⟩
section
variable {P:h_} {w0:hW} {f:Fr} {L:aA} {K:bz} {A:Nat->Fr->aA->Prop}
def Cw.qE8{c:Code}{G:Type}(lab:G->Nat)(M:List Nat)(S:G->List (Nat×hU))(H:G->aA)(q:G->Prop)(h:G->Nat)
  (first:Cw P w0 c f L (jH (Jump lab M S H q (fun _=>True) f) K))
  (v:∀ (g:G) (j:Nat->hU),q g-> ∃rest,findLabel c (lab g)=some rest/\Cw P w0 rest (pin (gf j M 0 f) (S g)) (H g) (jH (Jump lab M S H q (fun b=>h b<h g) f) K)):Cw P w0 (.scope c) f L K:=by
 intro w x;refine GQ (fun n l a w=> ∃g j,lab g=l/\h g=n/\q g/\a=act (pin (gf j M 0 f) (S g))/\Hp w0 (H g) w) ?_ ?_
 .refine wp_mono (first w x) ?_;rintro e a r ⟨m,s,d,k⟩;cases e with
  |goto i=>obtain⟨b,o,-,u,p,t⟩:=k;subst p;refine⟨h b,b,dA a.tmps.toList,o,rfl,u,?_,d⟩;rw[<-t];exact mm m
  |_=>exact⟨m,s,d,k⟩
 rintro n l a r ⟨g,j,o,u,p,rfl,d⟩;obtain⟨rest,y,z⟩:=v g j p;subst o;refine⟨rest,y,?_⟩;refine wp_mono (z r d) ?_;rintro e a r ⟨m,s,d,k⟩;cases e with
 |goto i=>obtain⟨b,o,B,A,p,t⟩:=k;subst p;refine⟨h b,by omega,b,dA a.tmps.toList,o,rfl,A,?_,d⟩;rw[<-t];exact mm m
 |_=>exact⟨m,s,d,k⟩
def YW:Code->Nat->Bool
 | .seq a b,l=>YW a l||YW b l
 | .label c,l=>c==l
 |_,_=>false
def fi(P:h_)(w0:hW):Code->Nat->bz->Fr->aA->Prop
 | .seq a b,l,K=>if YW a l=true then fi P w0 a l (gJ (fun f L=>Cw P w0 b f L K) K) else fi P w0 b l K
 | .label _,_,K=>K .normal
 |_,_,_=>fun _ _=>False
theorem EI:∀ (c:Code) (l:Nat),YW c l=false->findLabel c l=none
 | .seq a b,l,h=>by simp only[YW,Zz] at h;simp only[findLabel,EI a l h.1,EI b l h.2]
 | .label d,l,h=>by simp only[YW] at h;simp[findLabel,h]
 | .skip,_,_=>rfl| .region ..,_,_=>rfl| .cond ..,_,_=>rfl| .block ..,_,_=>rfl| .loop _,_,_=>rfl| .rangeFunc ..,_,_=>rfl
 | .exit _,_,_=>rfl| .scope _,_,_=>rfl| .goto _,_,_=>rfl| .ret,_,_=>rfl| .refuse _,_,_=>rfl
theorem ER:∀ (c:Code) (l:Nat) (K:bz),YW c l=true->fi P w0 c l K f L-> ∃rest,findLabel c l=some rest/\Cw P w0 rest f L K
 | .seq a b,l,K,d,h=>by
  unfold fi at h
  split at h
  .rename_i e;obtain⟨rest,g,i⟩:=ER a l _ e h;exact⟨.seq rest b,by simp[findLabel,g],Cw.seq i⟩
  rename_i e;have j:YW a l=false:=by simpa using e
  have k:YW b l=true:=by simpa [YW,j] using d
  obtain⟨rest,g,i⟩:=ER b l K k h;exact⟨rest,by simp[findLabel,EI a l j,g],i⟩
 | .label m,l,K,d,h=>by simp only[YW] at d;exact⟨.skip,by simp[findLabel,d],Cw.skip h⟩
 | .skip,_,_,h,_=>by cases h
 | .region ..,_,_,h,_=>by cases h
 | .cond ..,_,_,h,_=>by cases h
 | .block ..,_,_,h,_=>by cases h
 | .loop _,_,_,h,_=>by cases h
 | .rangeFunc ..,_,_,h,_=>by cases h
 | .exit _,_,_,h,_=>by cases h
 | .scope _,_,_,h,_=>by cases h
 | .goto _,_,_,h,_=>by cases h
 | .ret,_,_,h,_=>by cases h
 | .refuse _,_,_,h,_=>by cases h
theorem DY:∀ (c:Code) (l:Nat) (K d:bz),(∀e f L,K e f L->d e f L)-> ∀f L,fi P w0 c l K f L->fi P w0 c l d f L
 | .seq a b,l,K,d,g,f,L,h=>by
  unfold fi at h |-
  split at h
  .rename_i i;rw[Vb i];refine DY a l _ _ ?_ f L h;intro e f L j;cases e with
   |normal=>exact Cw.mono j g
   |_=>exact g _ _ _ j
  rename_i i;rw[tr i];exact DY b l K d g f L h
 | .label k,l,K,d,g,f,L,h=>g _ _ _ h
 | .skip,_,_,_,_,_,_,h=>h.elim
 | .region ..,_,_,_,_,_,_,h=>h.elim
 | .cond ..,_,_,_,_,_,_,h=>h.elim
 | .block ..,_,_,_,_,_,_,h=>h.elim
 | .loop _,_,_,_,_,_,_,h=>h.elim
 | .rangeFunc ..,_,_,_,_,_,_,h=>h.elim
 | .exit _,_,_,_,_,_,_,h=>h.elim
 | .scope _,_,_,_,_,_,_,h=>h.elim
 | .goto _,_,_,_,_,_,_,h=>h.elim
 | .ret,_,_,_,_,_,_,h=>h.elim
 | .refuse _,_,_,_,_,_,_,h=>h.elim
def Cw.qj6{c:Code}{G:Type}(lab:G->Nat)(M:List Nat)(S:G->List (Nat×hU))(H:G->aA)(a:G->Prop)(d:G->Nat)(n:∀g,YW c (lab g)=true)
  (l:∀ (g:G) (j:Nat->hU),a g->fi P w0 c (lab g) (jH (Jump lab M S H a (fun h=>d h<d g) f) K) (pin (gf j M 0 f) (S g)) (H g))
  (first:(∀ (g:G) (b:Fr),a g->b=pin (gf (dA b) M 0 f) (S g)->fi P w0 c (lab g) (jH (Jump lab M S H a (fun _=>True) f) K) b (H g))->
   Cw P w0 c f L (jH (Jump lab M S H a (fun _=>True) f) K)):Cw P w0 (.scope c) f L K:=by
 refine Cw.qE8 lab M S H a d (first fun g b k o=>?_) fun g j k=>ER c _ _ (n g) (l g j k);have:=l g (dA b) k;rw[<-o] at this;refine DY c _ _ _ ?_ _ _ this;intro e f L m;cases e with
 |goto i=>obtain⟨h,p,-,q⟩:=m;exact⟨h,p,trivial,q⟩
 |_=>exact m
def Cw.qq4{c:Code}(h:Cw P w0 c f L (jH (fun _ _ _=>False) K)):Cw P w0 (.scope c) f L K:=by
 intro w b;refine wp_scope_straight (wp_mono (h w b) ?_);rintro e a l ⟨d,g,j,k⟩;cases e with
 |goto i=>exact k.elim
 |_=>exact⟨d,g,j,k⟩
end
end Go.Sx
section
namespace Go.Sx
open Go
def a_{L M:aA}{b:Nat}{o:Obj}(h:look L b=some o):look (L++M) b=some o:=by
 induction L with
 |nil=>cases h
 |cons p r a=>
  obtain⟨c,x⟩:=p;simp only[Wp,look] at h |-
  split
  .rename_i e;rw[Vb e] at h;exact h
  rename_i e;rw[tr e] at h;exact a h
def cu{L M:aA}{b:Nat}(h:b∉keys L):look (L++M) b=look M b:=by
 induction L with
 |nil=>rfl
 |cons p r a=>obtain⟨c,x⟩:=p;simp only[keys,VY,Vw,not_or] at h;simp only[Wp,look];rw[tr (fun e=>h.1 e.symm)];exact a h.2
def cY{L:aA}{b:Nat}{x o:Obj}(h:look L b=some o):look (Vh L b x) b=some x:=by
 induction L with
 |nil=>cases h
 |cons p r a=>
  obtain⟨c,y⟩:=p;simp only[look] at h;simp only[Vh]
  split
  .simp[look, *]
  rename_i e;rw[tr e] at h;simp only[look];rw[tr e];exact a h
def bE{L:aA}{b c:Nat}{x:Obj}(h:b≠c):look (Vh L b x) c=look L c:=by
 induction L with
 |nil=>rfl
 |cons p r a=>
  obtain⟨d,y⟩:=p;simp only[Vh]
  split
  .rename_i e;subst e;simp[look,h]
  simp only[look]
  split
  .rfl
  exact a
def bO{L:aA}{b:Nat}{o:Obj}(h:look L b=some o):b∈keys L:=List.mem_map.2 ⟨_,bU h,rfl⟩
def CM{L:aA}{b:Nat}(h:b∈keys L):∃o,look L b=some o:=by
 cases a:look L b with
 |some o=>exact⟨o,rfl⟩
 |none=>exact Vx h (CS a)
def aO{w0:hW}{L:aA}{b:Nat}{o:Obj}(h:look L b=some o):aG w0 L b=some o:=by unfold aG;rw[h]
def aV(L M:aA):keys (L++M)=keys L++keys M:=We
def aQ{L:aA}{n b:Nat}(h:cy L n)(a:b∈keys L):b<n:=by
 induction L with
 |nil=>cases a
 |cons p r d=>
  obtain⟨c,y⟩:=p;simp only[keys,VY,Vw] at a;rcases a with rfl|a
  .exact h.1
  exact d h.2 a
def r4(vs:List hU):∀ (A B:List hU),vs.length<=B.length->cU (A++B).toArray A.length vs=(A++vs++B.drop vs.length).toArray:=by
 induction vs with
 |nil=>intro A B _;simp[cU]
 |cons v r b=>
  intro A B h;cases B with
  |nil=>simp at h
  |cons x B=>
   have e:(A++x::B).toArray.setIfInBounds A.length v=((A++[v])++B).toArray:=by rw[List.setIfInBounds_toArray];simp
   have a:=b (A++[v]) B (by simpa using h);simp only[VV,Wt,W7,Xg] at a;rw[cU,e,a];simp
theorem tQ(N:Nat):∀r c,c<=2*N+768->Builtin.growBy N r c<=2*N+768
 |0,c,h=>h
 |r+1,c,h=>by
  unfold Builtin.growBy
  split
  .exact h
  exact tQ N r _ oM
def U'{N c:Nat}(h:c<N):Builtin.nextslicecap N c<=2*N+768:=by
 unfold Builtin.nextslicecap
 split
 .omega
 split
 .omega
 exact tQ N 4 c oM
structure W0(P:h_)(w:hW)(size:Nat)(x:hU)(k:Nat)(new:List hU):Prop where
 len:(Builtin.lenOf x).run P w=.ok k w
 cells:(Builtin.firstCells size k x).run P w=.ok new.toArray w
 one:new.all Value.oneCell'=true
 size:new.length=k*size
def W0.text(P:h_)(w:hW)(l:No):W0 P w 1 (vs l) l.length (l.map v8):=by
 refine⟨?_,?_,?_,by simp⟩
 .simp only[vs,Builtin.lenOf,mJ];rfl
 .simp only[vs,Builtin.firstCells];show Result.ok _ w=_;congr 1;have:((ByteArray.mk l.toArray).extract 0 l.length).data=l.toArray:=by
   rw[ByteArray.data_extract];simp
  rw[this];simp[v8]
 rw[List.all_map,XX];intro x _;rfl
def kD(P:h_)(e:h7):Bool:=match P.info? e with
 |some i=>i.bytes !=0&&decide (i.bytes<=1024)
 |none=>false
def Dg{P:h_}{e:h7}{j:Nat}(h:kD P e=true)(b:j<=2^38):∃i,P.info? e=some i/\i.bytes≠0/\j*i.bytes<=2^48:=by
 unfold kD at h;cases a:P.info? e with
 |none=>rw[a] at h;cases h
 |some i=>
  rw[a] at h;simp only[WK,Yb,ne_eq,XN] at h;refine⟨i,rfl,h.1,?_⟩
  calc j*i.bytes<=2^38*1024:=Nat.mul_le_mul b h.2
   _=2^48:=by decide
def dq(L:aA)(k:aA->Prop):nh L k=k L:=(rfl)
inductive Zn (L:aA) (E:h7) (size:Nat):hU->Nat->List hU->Prop
 |nl:Zn L E size Vj 0 []
 |at_ {b n c:Nat} {cs rest:List hU} (hl:look L b=some (.cells (cs++rest).toArray E (0,0))) (h1:cs.length=n*size) (h2:rest.length=(c - n)*size) (h3:n<=c) (h4:0<c):
  Zn L E size (Xr b 0 n c) n cs
def Xy:hU->Option Nat
 | .slice (some a) _ _=>some a.block
 |_=>none
def Zn.Vn{L L':aA}{E:h7}{size n:Nat}{v:hU}{cs:List hU}(h:Zn L E size v n cs)(a:∀b o,Xy v=some b->look L b=some o->look L' b=some o):Zn L' E size v n cs:=by
 cases h with
 |nl=>exact .nl
 |at_ c d e f g=>exact .at_ (a _ _ rfl c) d e f g
def Zn.qz0{L:aA}{E:h7}{size n b:Nat}{v:hU}{cs:List hU}{x:Obj}(h:Zn L E size v n cs)(a:Xy v≠some b):Zn (Vh L b x) E size v n cs:=
 h.Vn fun c o d f=>by rw[bE (fun e:b=c=>a (by rw[e];exact d))];exact f
def Zn.app{L M:aA}{E:h7}{size n:Nat}{v:hU}{cs:List hU}(h:Zn L E size v n cs):Zn (L++M) E size v n cs:=h.Vn fun _ _ _ a=>a_ a
def Zn.cell{L:aA}{E:h7}{size n:Nat}{v:hU}{cs:List hU}(h:Zn L E size v n cs):Value.oneCell' v=true/\v.cells=#[v]:=by cases h<;>exact⟨rfl,rfl⟩
def Zn.len{L:aA}{E:h7}{size n:Nat}{v:hU}{cs:List hU}(h:Zn L E size v n cs)(x:Bool×Nat):Yw (.sl x) v=some (vi n):=by cases h<;>rfl
def Zn.inv{L:aA}{E:h7}{size n:Nat}{v:hU}{cs:List hU}(h:Zn L E size v n cs):(v= Vj/\n=0/\cs=[])\/
  ∃b c rest,v=Xr b 0 n c/\look L b=some (.cells (cs++rest).toArray E (0,0))/\cs.length=n*size/\n<=c/\0<c/\rest.length=(c - n)*size:=by
 cases h with
 |nl=>exact .inl ⟨rfl,rfl,rfl⟩
 |at_ a d e f g=>exact .inr ⟨_,_,_,rfl,a,d,f,g,e⟩
def fX{L:aA}{b:Nat}{o:Obj}(h:cy L b):look (L++[(b,o)]) b=some o:=by rw[cu (fun a=>Xk _ (aQ h a))];simp[look]
structure qc3(w0:hW)(v:hU)(L L':aA):Prop where
 keys:∀c,c∈keys L->c∈keys L'
 new:∀c,c∈Sx.keys L'->c∈Sx.keys L\/(cy L c/\w0.heap.size<=c)
 look:∀c o,Xy v≠some c->Sx.look L c=some o->Sx.look L' c=some o
def qc3.refl(w0:hW)(v:hU)(L:aA):qc3 w0 v L L:=⟨fun _ h=>h,fun _ h=>.inl h,fun _ _ _ h=>h⟩
section
variable {P:h_} {w0:hW} {L:aA}
def Br{w:hW}{ts V ty e:h7}{m:Bool×Nat}{z s x:hU}{n k:Nat}{cs new:List hU}(r:Hp w0 L w)
  (v:P.underlying ts=some (.slice e)) (l:aU P e=some m) (J:kD P e=true) (hz:ac P e=some z) (zg:z.cells.size=m.2) {d:TypeDesc} (y:P.underlying V=some d) (zh:∀k,d≠ .int k)
  (hB:Zn L e m.2 s n cs) (K:∀w,Hp w0 L w->W0 P w m.2 x k new) (W:2* (n+k)+768<=2^38):
  ∃A X M,(Builtin.append_ #[ts,V] ty #[s,x]).run P w=.ok A X/\Hp w0 M X/\Zn M e m.2 A (n+k) (cs++new)/\qc3 w0 s L M/\(Xy A=Xy s\/ ∃c,Xy A=some c/\cy L c):=by
 obtain⟨i,J,Y,W⟩:=Dg J W;have Z:∀w,(typeInfo e).run P w=.ok i w:=by
  intro w;simp only[typeInfo,program,Vp];show Result.andThen (Result.ok P w) _=_;simp only[VT,J]
  rfl
 have B:(match d with| .int _=>true|_=>false)=false:=by cases d<;>first|rfl|exact Vx rfl (zh _)
 have C:∀ {α β:Type} (a:α) (f:α->hW->Result β),(Sem.run P (pure a) w).andThen f=f a w:=fun _ _=>rfl;have p:=K w r;have D:=p.len;have za:=p.cells;have zb:=m0 (P:=P) hz;have zd:∀ (b:Nat) (w:hW),(askRoom b).run P w=.ok () w:=by
  intro b w;unfold askRoom
  split<;>rfl
 have zc:∀j,(Builtin.zeroCells z.cells j).toList.length=j*m.2:=by intro j;simp[Builtin.zeroCells,zg]
 have ze:∀c,c<n+k->¬ (Builtin.nextslicecap (n+k) c*i.bytes>2^48):=by intro c g;have:=U' g;have F:=Y0 i.bytes this;omega
 cases hB with
 |nl=>
  by_cases hk:k=0
  .subst hk;have zi:new=[]:=Zm (by have:=p.size;omega);subst zi;refine⟨Vj,w,L,?_,r,.nl,qc3.refl _ _ _,.inl rfl⟩;simp only[Builtin.append_,List.getElem?_toArray,List.getElem?_cons_zero,List.getElem?_cons_succ,Vp,Wn v w,VT,ei l w,Wn y w,B,C,VW,↓reduceIte,D,W6,XL,aj,za]
   rfl
  have zj:¬0+k<=0:=by omega
  have N:=ze 0 oM;simp only[Builtin.append_,List.getElem?_toArray,List.getElem?_cons_zero,List.getElem?_cons_succ,Vp,Wn v w,VT,ei l w,Wn y w,B,C,VW,↓reduceIte,D,W6,zj,Z,Y,WB,and_false,N];have O:(choose (Question.appendCap (0+k) 0 e)).run P w=.ok ((0+k)+w.tape w.drawn (.appendCap (0+k) 0 e)% (2^63 - (0+k))) w.drew:=rfl;rw[O];generalize zk:(0+k)+w.tape w.drawn (.appendCap (0+k) 0 e)% (2^63 - (0+k))=c;have h:=r.drew;have Q:=K _ h;have R:(Builtin.firstCells m.2 0 Vj).run P w.drew=.ok #[] w.drew:=rfl;simp only[VT,zd,R,Q.cells,zb];refine⟨_,_,L++[(w.drew.heap.size,.cells ([]++new++(Builtin.zeroCells z.cells (c - (0+k))).toList).toArray e (0,0))],rfl,?_,.at_ (b:=w.drew.heap.size) (rest:=(Builtin.zeroCells z.cells (c - (0+k))).toList) ?_ ?_ ?_ oM oM,?_,.inr ⟨_,rfl,ef fun b q=>h.lt q⟩⟩
  .have S:([]++new++(Builtin.zeroCells z.cells (c - (0+k))).toList).toArray=#[]++new.toArray++Builtin.zeroCells z.cells (c - (0+k)):=by apply Array.ext';simp
   rw[S];exact h.alloc _
  .rw[cu (fun l=>Xk _ (h.lt l))];simp[look]
  .rw[Vy,p.size,Xg]
  .exact zc _
  refine⟨fun c g=>by rw[aV];exact aq _ g,fun c g=>?_,fun c o T u=>a_ u⟩;rw[aV] at g;rcases Wu.1 g with g|g
  .exact .inl g
  right
  simp only[keys,VY,Wr,VZ] at g;subst g;exact⟨ef fun b q=>h.lt q,h.size⟩
 | @at_ b n c cs rest G t F h3 h4=>
  have zf:=r.has _ _ (bU G);by_cases U:n+k<=c
  .have zm:=(Array.getElem?_eq_some_iff.1 zf).1;have H:=p.size;have zl:=Cr (P:=P) (b:=b) (off:=n*m.2) (E:=e) (fz:=(0,0)) new 0 (cs++rest).toArray w zf (by
    simp only[Wd,VV,t,F,H,XL];rw[<-Nat.add_mul,<-Nat.add_mul];exact Y0 _ oM) (.inl (aj 0)) p.one
   simp only[Builtin.append_,List.getElem?_toArray,List.getElem?_cons_zero,List.getElem?_cons_succ,Vp,Wn v w,VT,ei l w,Wn y w,B,C,VW,↓reduceIte,D,W6,U,za,ic,Xg,zl,Xr];rw[XL,<-t,r4 new cs rest (by rw[F,H];exact Y0 _ oM)];refine⟨Xr b 0 (n+k) c,_,Vh L b (.cells (cs++new++rest.drop new.length).toArray e (0,0)),rfl,r.set (bO G) rfl rfl rfl rfl,.at_ (cY G) ?_ ?_ U h4,?_,.inl rfl⟩
   .rw[VV,t,H,Nat.add_mul]
   .rw[XC,F,H,<-Nat.sub_mul];congr 1;omega
   refine⟨fun c g=>by rw[fc];exact g,fun c g=>by rw[fc] at g;exact .inl g,fun c o T u=>?_⟩;rw[bE (fun e=>T (by rw[<-e];rfl))];exact u
  have N:=ze c oM;simp only[Builtin.append_,List.getElem?_toArray,List.getElem?_cons_zero,List.getElem?_cons_succ,Vp,Wn v w,VT,ei l w,Wn y w,B,C,VW,↓reduceIte,D,W6,U,Z,Y,WB,and_false,N,Xr];have O:(choose (Question.appendCap (n+k) c e)).run P w=.ok ((n+k)+w.tape w.drawn (.appendCap (n+k) c e)% (2^63 - (n+k))) w.drew:=rfl;rw[O];generalize zk:(n+k)+w.tape w.drawn (.appendCap (n+k) c e)% (2^63 - (n+k))=I;have h:=r.drew;have Q:=K _ h;have R:(Builtin.firstCells m.2 n (Value.slice (some ⟨b,0,none⟩) n c)).run P w.drew=.ok cs.toArray w.drew:=by simp only[Builtin.firstCells];rw[Cy (h.has _ _ (bU G)) 0 (n*m.2) (by simp only[Wd,VV,t];omega)];congr 1;simp only[Xg,List.extract_toArray,<-t];simp
  simp only[VT,zd,R,Q.cells,zb];refine⟨_,_,L++[(w.drew.heap.size,.cells (cs++new++(Builtin.zeroCells z.cells (I - (n+k))).toList).toArray e (0,0))],rfl,?_,.at_ (b:=w.drew.heap.size) (rest:=(Builtin.zeroCells z.cells (I - (n+k))).toList) ?_ ?_ ?_ oM oM,?_,.inr ⟨_,rfl,ef fun b q=>h.lt q⟩⟩
  .have S:(cs++new++(Builtin.zeroCells z.cells (I - (n+k))).toList).toArray=cs.toArray++new.toArray++Builtin.zeroCells z.cells (I - (n+k)):=by apply Array.ext';simp
   rw[S];exact h.alloc _
  .rw[cu (fun l=>Xk _ (h.lt l))];simp[look]
  .rw[VV,t,p.size,Nat.add_mul]
  .exact zc _
  refine⟨fun c g=>by rw[aV];exact aq _ g,fun c g=>?_,fun c o T u=>a_ u⟩;rw[aV] at g;rcases Wu.1 g with g|g
  .exact .inl g
  right
  simp only[keys,VY,Wr,VZ] at g;subst g;exact⟨ef fun b q=>h.lt q,h.size⟩
def W0.block{b off k cap size:Nat}{arr:Array hU}{E:h7}{fz:Nat×Nat}{new:List hU}(c:aG w0 L b=some (.cells arr E fz))(d:off+k*size<=arr.size)(a:(arr.extract off (off+k*size)).toList=new)
  (e:new.all Value.oneCell'=true) {w:hW} (f:Hp w0 L w):W0 P w size (Xr b off k cap) k new:=by
 refine⟨rfl,?_,e,?_⟩
 .simp only[Xr,Builtin.firstCells];rw[Cy (f.read c) off (k*size) d,<-a]
 rw[<-a];simp;omega
def W0.nil(P:h_)(w:hW)(size:Nat):W0 P w size Vj 0 []:=⟨rfl,rfl,rfl,by simp⟩
theorem Uz{b:Nat}{E:h7}{fz:Nat×Nat}{arr:Array hU}{w:hW}(a:w.heap[b]? =some (.cells arr E fz)):∀ (l:No) (off:Nat) (acc:ByteArray),(∀j,j<l.length->arr[off+j]? =some (v8 (l.getD j 0)))->
  (loadBytes ⟨b,off,none⟩ acc l.length).run P w=.ok (acc++ ⟨l.toArray⟩) w
 | [],off,acc,_=>by show Result.ok acc w=_;congr 1;apply ByteArray.ext;simp
 |x::l,off,acc,h=>by
  have c:=h 0 V_;simp only[XL,List.getD_cons_zero] at c;have d:w.cell? ⟨b,off,none⟩=some (v8 x):=by rw[cell_of_row w b _ arr E fz a];exact c
  have f:(load ⟨b,off,none⟩).run P w=.ok (v8 x) w:=by simp only[load,Sem.run,d]
  rw[Wt,loadBytes,Vp,f,VT];simp only[v8,ic];have e:((x.toNat:Int).toNat.toUInt8)=x:=by rw[WX];exact UInt8.ofNat_toNat
  rw[e,Uz a l (off+1) _ (fun j g=>by have:=h (j+1) (by simpa using g);rw[List.getD_cons_succ] at this;rw[<-this];congr 1;omega)];congr 1;apply ByteArray.ext;simp
def KA{p:h_}{e:h7}{c n:Nat}(h:1<p.depth)(f:p.cellsOf e=1)(g:n<=c):liesAt p p.depth e (c / p.cellsOf e) 0 e n=true:=by
 obtain⟨d,a⟩:∃d,p.depth=d+2:=⟨p.depth - 2,by omega⟩;have b:sameLayout p p.depth e e=true:=by rw[a];unfold sameLayout;simp
 rw[a] at b |-;unfold liesAt;rw[a];unfold rowAt;simp[f,g,b]
def V5{w:hW}{pt it ty e:h7}{b:Nat}{l:No}{rest:List hU}(g:Hp w0 L w)(h:look L b=some (.cells (l.map v8++rest).toArray e (0,0)))(C:0<l.length)(D:(l.length:Int)<=9223372036854775807)
  (n:P.underlying pt=some (.pointer e)) (o:P.cellsOf e=1) (p:1<P.depth):
  ∃k,(Builtin.unsafeString_ #[pt,it] ty #[vp b 0,vi l.length]).run P w=.ok (vs l) k/\Hp w0 (Vh L b (.cells (l.map v8++rest).toArray e (0,l.length))) k:=by
 have c:=g.has _ _ (bU h);have E:∀ {α β:Type} (a:α) (f:α->hW->Result β),(Sem.run P (pure a) w).andThen f=f a w:=fun _ _=>rfl;have q:=Uz (P:=P) c l 0 .empty (by
  intro j m;rw[Xg,List.getElem?_toArray,List.getElem?_append_left (by simpa using m),List.getElem?_map,List.getD_eq_getElem?_getD,List.getElem?_eq_getElem m]
  rfl)
 have r:(variablesAt ⟨b,0,none⟩ e l.length).run P w=.ok true w:=by
  have s:w.shape? b=some (e,(l.map v8++rest).toArray.size):=by simp only[World.shape?,c]
  have t:liesAt P P.depth e ((l.map v8++rest).toArray.size / P.cellsOf e) 0 e l.length=true:=KA p o V_;simp only[variablesAt,program,shape,Vp];show Result.andThen (Result.ok P w) _=_;simp only[VT];show Result.andThen (Result.ok (w.shape? b) w) _=_;rw[s];simp only[VT];rw[t]
  rfl
 have u:(elemOf pt).run P w=.ok e w:=by
  simp only[elemOf,Vp,Wn n w,VT]
  rfl
 refine⟨w.freeze ⟨b,0,none⟩ l.length,?_,?_⟩
 .have v:¬ ((l.length:Int)<0):=by omega
  have x:¬ ((l.length:Int)>IntKind.i64.max):=by show¬ ((l.length:Int)>9223372036854775807);omega
  have y:¬ ((l.length:Int)=0):=by omega
  have z:(asInt (vi l.length)).run P w=.ok (l.length:Int) w:=rfl;rw[show vp b 0=.pointer (some ⟨b,0,none⟩) from rfl];show Sem.run P (asInt (vi l.length)>>=_) w=_;simp only[Vp,z,VT,List.getElem?_toArray,List.getElem?_cons_zero,v,x,y,↓reduceIte,u,WX,r,q];show Result.ok (Value.string (ByteArray.empty++ ⟨l.toArray⟩)) _=_;congr 2
 have A:¬l.length=0:=by omega
 have B:=(Array.getElem?_eq_some_iff.1 c).1;refine g.set (bO h) ?_ ?_ ?_ ?_<;>simp only[World.freeze,A,↓reduceIte];apply Array.ext_getElem?;intro i;rw[Array.getElem?_modify];by_cases d:b=i
 .subst d;rw[Vb rfl,c];simp[B]
 rw[tr d,Array.getElem?_setIfInBounds_ne d]
end
section
variable {P:h_} {w0:hW} {f:Fr} {L:aA} {N:Fr->aA->Prop} {ops:Array Oper} {rest:List Oper} {md:Md}
 {d:Option Tmp} {ty:h7} {ps:String} {af:Array Edge} {g:Option (Nat×Bool)}
theorem Ow.append{ts i e:h7}{m:Bool×Nat}{z:hU}{s x:Operand}{n k:Nat}{cs new:List hU}{j:TypeDesc}{l:Md}(h:hU)(o:ev f s=h)(p:md.WM=some l)
  (q:ay ops f ⟨d,.call ⟨.builtin .append,#[s,x],#[ts,i]⟩,ty,ps,af,g⟩=false)
  (r:P.underlying ts=some (.slice e)) (t:aU P e=some m) (u:kD P e=true) (v:ac P e=some z) (y:z.cells.size=m.2) (A:P.underlying i=some j) (B:∀k,j≠ .int k)
  (C:Zn L e m.2 h n cs) (D:∀w,Hp w0 L w->W0 P w m.2 (ev f x) k new) (E:2* (n+k)+768<=2^38)
  (F:∀a b,Zn b e m.2 a (n+k) (cs++new)->qc3 w0 h L b->(Xy a=Xy h\/ ∃c,Xy a=some c/\cy L c)->Ow P w0 ops l rest (aa f d a) b N):
  Ow P w0 ops md (⟨d,.call ⟨.builtin .append,#[s,x],#[ts,i]⟩,ty,ps,af,g⟩::rest) f L N:=by
 subst o;refine Ow.step p rfl q fun w G=>?_;obtain⟨a,H,b,I,J,K,M,O⟩:=Br (ty:=ty) G r t u v y A B C D E;refine .inl ⟨a,H,b,?_,J,F a b K M O⟩;simp only[execOp,resolve,Vp,Wm,VT,invoke,builtin,XM,VY,Wr];rw[I]
 rfl
theorem Ow.unsafeString{pt it e:h7}{x y:Operand}{b:Nat}{l:No}{rs:List hU}{a:Md}(c:md.WM=some a)
  (h:ay ops f ⟨d,.call ⟨.builtin .unsafeString,#[x,y],#[pt,it]⟩,ty,ps,af,g⟩=false)
  (i:ev f x=vp b 0) (j:ev f y=vi l.length) (k:look L b=some (.cells (l.map v8++rs).toArray e (0,0))) (m:0<l.length) (n:(l.length:Int)<=9223372036854775807)
  (o:P.underlying pt=some (.pointer e)) (p:P.cellsOf e=1) (q:1<P.depth)
  (r:Ow P w0 ops a rest (aa f d (vs l)) (Vh L b (.cells (l.map v8++rs).toArray e (0,l.length))) N):
  Ow P w0 ops md (⟨d,.call ⟨.builtin .unsafeString,#[x,y],#[pt,it]⟩,ty,ps,af,g⟩::rest) f L N:=by
 refine Ow.step c rfl h fun w s=>?_;obtain⟨t,u,v⟩:=V5 (it:=it) (ty:=ty) s k m n o p q;refine .inl ⟨vs l,t,_,?_,v,r⟩;simp only[execOp,resolve,Vp,Wm,VT,invoke,builtin,XM,VY,Wr,i,j];rw[u]
 rfl
def Ow.Zw{pt it:h7}{x y:Operand}{a:Md}(b:md.WM=some a)
  (c:ay ops f ⟨d,.call ⟨.builtin .unsafeString,#[x,y],#[pt,it]⟩,ty,ps,af,g⟩=false)
  {p:Option Addr} (e:ev f x=.pointer p) (h:ev f y=vi 0)
  (i:Ow P w0 ops a rest (aa f d (vs [])) L N):
  Ow P w0 ops md (⟨d,.call ⟨.builtin .unsafeString,#[x,y],#[pt,it]⟩,ty,ps,af,g⟩::rest) f L N:=by
 refine Ow.step b rfl c fun w j=>?_;refine .inl ⟨vs [],w,L,?_,j,i⟩;simp only[execOp,resolve,Vp,Wm,VT,invoke,builtin,XM,VY,Wr,e,h];cases p<;>rfl
def Ow.qg2{t:h7}{x:Operand}{v:hU}{h:Md}(i:md.WM=some h)
  (j:ay ops f ⟨d,.call ⟨.builtin .unsafeSliceData,#[x],#[t]⟩,ty,ps,af,g⟩=false)
  (a:(∃n c,ev f x=.slice none n c/\v=.pointer none)\/ ∃b n c,ev f x=Xr b 0 n c/\c≠0/\v=vp b 0)
  (k:Ow P w0 ops h rest (aa f d v) L N):
  Ow P w0 ops md (⟨d,.call ⟨.builtin .unsafeSliceData,#[x],#[t]⟩,ty,ps,af,g⟩::rest) f L N:=by
 refine Ow.step i rfl j fun w l=>?_;refine .inl ⟨v,w,L,?_,l,k⟩;simp only[execOp,resolve,Vp,Wm,VT,invoke,builtin,XM,VY,Wr];rcases a with⟨n,c,a,rfl⟩ | ⟨b,n,c,a,m,rfl⟩
 .rw[a];rfl
 rw[a];have e:Builtin.unsafeSliceData_ #[t] ty #[Xr b 0 n c]=(if c≠0 then pure (.pointer (some ⟨b,0,none⟩)) else do
   if(<-viewAt b).isSome then pure (.pointer (some ⟨b,0,none⟩)) else pure (.pointer (some ⟨<-newObj (.view ⟨b,0,none⟩ (<-elemOf ty)),0,none⟩))):=rfl
 rw[e,Vb m]
 rfl
end
end Go.Sx
end
namespace Go.Sx
open Go
section
variable {P:h_} {w0:hW} {f:Fr} {L:aA} {N:Fr->aA->Prop} {K:bz} {l:List Oper} {listed:List Bool} {n:Nat} {R ts:List Nat} {a d:Nat} {z:Obj}
def Md.Ww(R ts:List Nat):(Md.sof R [] ts).next=.sof R [] ts:=(rfl)
def Fe{Q:Exit->Act->hW->Prop}{o:Oper}{x:Act}{d:Option Tmp}{v:hU}{K:Act->hW->Prop}(k:∀t,d=some t->o.dst≠some t)
  (l:∀c a w,Q (.panic c) a w->Q (.panic c) (a.put d v) w) (r:Result Next) (h:o.upon P x (fun n j=>K (n.put d v) j) Q r):
  o.upon P (x.put d v) K Q r:=by
 have i:∀g,(x.put o.dst g).put d v=(x.put d v).put o.dst g:=fun g=>(Act.put_comm x v g k).symm
 match r,h with
 | .ok (.value g) _,h=>show K _ _;rw[<-i];exact h
 | .ok .skip _,h=>show K _ _;rw[<-i];exact h
 | .ok (.defer e) j,h=>have m:K ((({x with defers:=e::x.defers}:Act).put o.dst undef).put d v) j:=h;rw[<-Act.put_comm _ v undef k,<-Act.put_defers] at m;exact m
 | .ok (.enter f p) _,h=>
  refine Calls.mono h fun e q b=>?_
  match e,b with
  | .returned g,b=>show K _ _;rw[<-i];exact b
  | .panicked c,b=>exact l _ _ _ b
  | .outgrown,b=>exact b
 | .ok (.row row p) _,h=>exact Rows.mono h fun g q b=>by rw[<-i];exact b
 | .halt (.panic g) _,h=>exact l _ _ _ h
def Fg{ops:Array Oper}{Q:Exit->Act->hW->Prop}{j:Nat}{oj:Oper}{d:Option Tmp}{v:hU}(k:ops[j]? =some oj)(e:∀t,d=some t->t∉oj.looksAt ops)(f:∀t,d=some t->oj.dst≠some t)(g:∀l b,oj.op≠ .select l b)
  (m:∀c a w,Q (.panic c) a w->Q (.panic c) (a.put d v) w) {K:Act->hW->Prop} {x:Act} {w:hW}
  (h:wpOp P ops Q j (fun n o=>K (n.put d v) o) x w):wpOp P ops Q j K (x.put d v) w:=by
 unfold wpOp at h |-;simp only[k] at h |-;rw[wanted_put oj x d v e];cases i:Region.wanted oj (yielded ops x.tmps) with
 |true=>
  rw[i] at h;simp only[if_true] at h |-;rcases h with h| ⟨q,p⟩
  .left
   unfold Oper.wp at h |-;rw[execOp_put oj g x d v e];exact Fe f m _ h
  right
  exact⟨by unfold Oper.asks at*;rwa [execOp_put oj g x d v e],p⟩
 |false=>rw[i] at h;simp only[VW,if_false] at h |-;rw[Act.put_comm x v undef f];exact h
structure qa9(P:h_)(l:List Oper)(ts:List Nat)(a d:Nat)(z:Obj):Prop where
 here:∃oa t zv,l.toArray[a]? =some oa/\oa.op=.alloc t/\oa.dst=some d/\oa.guard=none/\ac P t=some zv/\z=.cells zv.cells t
 ts:a∉ts
 sel:Region.noSelect l.toArray=true
def YF(P:h_)(w0:hW)(l:List Oper)(R ts:List Nat)(a d:Nat)(z:Obj)(n:Nat)(listed:List Bool)(f:Fr)(L:aA)(N:Fr->aA->Prop):Prop:=
 (∀w,Hp w0 L w->gj P l.toArray (da w0 N) ts (SR w0 R L) (n+1) listed.toArray (act f) w)/\
 (∀b w,w0.heap.size<=b->b∉keys L->Hp w0 (L++[(b,z)]) w->gj P l.toArray (da w0 N) ts (SR w0 R L) n (listed.set a true).toArray (act (YP f d (vp b 0))) w)
def SR.ofE{w:hW}{b:Nat}(f:w0.heap.size<=b)(h:Hp w0 (L++[(b,z)]) w):SR w0 R L w:=by
 intro r _ o a;unfold aG at a
 split at a
 .rename_i g d;cases a;exact h.has _ _ (aq _ (bU d))
 rename_i d;have e:=(Array.getElem?_eq_some_iff.1 a).1;rw[h.Wo r e ?_];exact a;intro c;simp only[keys,We,VY,Wr,Wu,VZ] at c;rcases c with c|c
 .exact CS d c
 omega
def Kl{c:List PanicEntry}{x a:Act}{w:hW}(h:da w0 N (.panic c) x w):da w0 N (.panic c) a w:=i9 h
def Hp.perm{w:hW}{M:aA}(h:Hp w0 L w)(a:M.Perm L):Hp w0 M w:=
 h.same (fun _=>a.mem_iff) ((List.Perm.nodup_iff (a.map Prod.fst)).2 h.nodup)
def qd5(P:h_)(l:List Oper)(ts:List Nat)(a:Nat):List Nat->List Bool->Option (List Bool)
 | [],listed=>some listed
 |k::is,listed=>
  match cX l k,cX l a with
  |some o,some b=>if k !=a&& !ts.contains k&& (ts.all fun t=> !listed.toArray.getD t true&& !(listed.set a true).toArray.getD t true)&& (Region.ready .any l.toArray listed.toArray).contains k&&Region.free .any l.toArray listed.toArray k&&
    (Region.ready .any l.toArray (listed.set a true).toArray).contains k&&Region.free .any l.toArray (listed.set a true).toArray k&&o.apart l.toArray b&&
    (eF P o.op|| (jU o.op&&mo l.toArray ts listed.toArray k&&mo l.toArray ts (listed.set a true).toArray k)) then qd5 P l ts a is (listed.set k true) else none
  |_,_=>none
def YF.step{k:Nat}{o:Oper}{v:hU}(E:qa9 P l ts a d z)(p:cX l k=some o){rest:List Bool}(i:qd5 P l ts a [k] listed=some rest)
  (s:XZ P l.toArray (SR w0 R L) (eF P o.op=true) o v (act f)) (h:YF P w0 l R ts a d z n rest (aa f o.dst v) L N):YF P w0 l R ts a d z (n+1) listed f L N:=by
 obtain⟨⟨u,t,zv,F,za,A,hg,hz,rfl⟩,zb,G⟩:=E;have j:l.toArray[k]? =some o:=by rw[j4] at p;simpa using p
 have H:cX l a=some u:=by rw[j4];simpa using F
 unfold qd5 at i;rw[p,H] at i;simp only at i
 split at i
 .rename_i B;simp only[qd5,WD] at i;subst i;simp only[WK,Bool.or_eq_true,Zy,XX,qa1,XN,qc9,Yb,ne_eq] at B;obtain⟨⟨⟨⟨⟨⟨⟨⟨I,C⟩,m⟩,J⟩,K⟩,M⟩,O⟩,Q⟩,D⟩:=B;obtain⟨q1,S,T⟩:=Oper.apart_spec Q;have q:=Region.noSelect_spec G;have U:(listed.set k true).set a true=(listed.set a true).set k true:=List.set_comm _ _ I;refine⟨fun w r=>?_,fun b w V W r=>?_⟩
  .refine k' j C q (fun c a w h=>i9 h) _ _ _ _ (m6 (P:=P) j J K (D.imp id fun h=>⟨h.1.1,h.1.2,fun t g=>(m t g).1⟩)) (.inr fun t g=>(m t g).1) s ?_;rw[eH,jM];exact h.1 w r
  have X:XZ P l.toArray (SR w0 R L) (eF P o.op=true) o v (act (YP f d (vp b 0))):=by refine s.left (q k o · · j) (oj:=u) T ⟨vp b 0,[],?_⟩;rw[A];exact(eH f (some d) (vp b 0)).symm
  refine k' j C q (fun c a w h=>i9 h) _ _ _ _ (m6 (P:=P) j M O (D.imp id fun h=>⟨h.1.1,h.2,fun t g=>(m t g).2⟩)) (.inr fun t g=>(m t g).2) X ?_;have e:(act (YP f d (vp b 0))).put o.dst v=act (YP (aa f o.dst v) d (vp b 0)):=by have Y:act (YP f d (vp b 0))=(act f).put (some d) (vp b 0):=(eH f (some d) (vp b 0)).symm;rw[Y,Act.put_comm (act f) (x:=some d) (y:=o.dst) (vp b 0) v (fun t g Z=>by cases g;exact S _ Z A),eH,eH];rfl
  rw[e,jM,<-U];exact h.2 b w V W r
 cases i
def MO{k:Nat}{is:List Nat}{listed d:List Bool}(h:qd5 P l ts a (k::is) listed=some d):qd5 P l ts a [k] listed=some (listed.set k true)/\qd5 P l ts a is (listed.set k true)=some d:=by
 rw[qd5] at h;cases b:cX l k with
 |none=>rw[b] at h;cases h
 |some o=>
  cases c:cX l a with
  |none=>rw[b,c] at h;cases h
  |some f=>
   rw[b,c] at h;simp only at h
   split at h
   .rename_i e;refine⟨?_,h⟩;rw[qd5,b,c];simp only;rw[Vb e];rfl
   cases h
theorem YF.runs{k:Md->List Oper->Fr->aA->Prop}(e:qa9 P l ts a d z):∀ (is:List Nat) {listed g:List Bool} {f:Fr} {L:aA},qd5 P l ts a is listed=some g->
  (∀md r x y,k md r x y->r=[]/\YF P w0 l R ts a d z n g x y N)->vcL P w0 l.toArray false (.sof R [] []) (eZ l is) f L k->YF P w0 l R ts a d z (is.length+n) listed f L N
 | [],listed,g,f,L,q,b,h=>by cases q;rw[W7,Xg];exact(b _ _ _ _ h).2
 |i::is,listed,g,f,L,q,b,h=>by
  obtain⟨c,A⟩:=MO q;rw[Bk] at h;cases j:cX l i with
  |none=>unfold qd5 at c;rw[j] at c;cases c
  |some o=>
   rw[j,Bn] at h;unfold vcL at h;rw[Wt,show is.length+1+n=(is.length+n)+1 by omega];cases m:ay l.toArray f o with
   |true=>
    rw[m] at h;have s:Region.wanted o (yielded l.toArray (act f).tmps)=false:=by rw[gW,m];rfl
    exact YF.step e j c (v:=undef) (.inr ⟨s,rfl⟩) (YF.runs e is A b h)
   |false=>
    rw[m] at h;have s:Region.wanted o (yielded l.toArray (act f).tmps)=true:=by rw[gW,m];rfl
    simp only[ib,YD] at h
    split at h
    .cases t:Zr (.sof R [] []) f o.op with
     |false=>rw[t] at h;exact Vx (b _ _ _ _ h).1 V_
     |true=>
      rw[t] at h;simp only at h;cases p:fT P w0 L f o.op with
      |none=>rw[p] at h;exact Vx (b _ _ _ _ h).1 V_
      |some v=>
       rw[p] at h;refine YF.step e j c (v:=v) (.inl ⟨s,fun w u=>?_⟩) (YF.runs e is A b h);rw[ka];rcases u with B|u
       .exact jQ (Hp.refl w) (qP B p w)
       exact jQ (Hp.refl w) (DC t p u)
    .exact Vx (b _ _ _ _ h).1 V_
    exact Vx (b _ _ _ _ h).1 V_
def YF.run(is:List Nat)(b:List Bool)(n:Nat){m:Nat}(c:m=is.length+n)(e:qa9 P l ts a d z)(g:qd5 P l ts a is listed=some b)
  (h:∀k:Md->List Oper->Fr->aA->Prop,(∀md f L,YF P w0 l R ts a d z n b f L N->k md [] f L)->nl (eZ l is) fun i=>vcL P w0 l.toArray false (.sof R [] []) i f L k):YF P w0 l R ts a d z m listed f L N:=by
 subst c;refine YF.runs (k:=fun _ r j o=>r=[]/\YF P w0 l R ts a d z n b j o N) e is g (fun _ _ _ _ h=>h) ?_;exact h _ fun _ _ _ h=>⟨rfl,h⟩
def sc{t:h7}{c:hU}{b:Oper}{Q:Exit->Act->hW->Prop}{X:Act->hW->Prop}{w:hW}(m:l.toArray[a]? =some b)(e:b.op=.alloc t)(g:b.dst=some d)(i:b.guard=none)(n:ac P t=some c)
  (h:X (act (YP f d (vp w.heap.size 0))) (w.alloc (.cells c.cells t))):wpOp P l.toArray Q a X (act f) w:=by
 obtain⟨q,r,ty,j,k,s⟩:=b;simp only at e g i;subst e;subst g;subst i;unfold wpOp;simp only[m];have o:Region.wanted ⟨some d,.alloc t,ty,j,k,none⟩ (yielded l.toArray (act f).tmps)=true:=by rw[gW];rfl
 rw[o];simp only[↓reduceIte]
 left
 unfold Oper.wp;have p:(execOp (act f).eval ⟨some d,.alloc t,ty,j,k,none⟩).run P w=.ok (.value (vp w.heap.size 0)) (w.alloc (.cells c.cells t)):=by
  simp only[execOp,Instr.alloc,Vp,m0 n w,VT]
  rfl
 rw[p];show X ((act f).put (some d) (vp w.heap.size 0)) _;rw[eH];exact h
def pn{L':aA}(e:∀b,b∈R->aG w0 L' b=aG w0 L b):SR w0 R L=SR w0 R L':=by
 funext v
 unfold SR;apply propext
 constructor
 .intro c b a o d;exact c b a o (by rw[<-e b a];exact d)
 intro c b a o d;exact c b a o (by rw[e b a];exact d)
def lL(l:List Oper)(ts:List Nat)(a:Nat)(ks:List Nat)(listed:List Bool):Bool:=
 ((Region.ready .any l.toArray listed.toArray).all fun i=>i==a||ks.contains i)&& (Region.ready .any l.toArray listed.toArray !=[])&& ((Region.ready .any l.toArray (listed.set a true).toArray).all fun i=>ks.contains i)&& (Region.ready .any l.toArray (listed.set a true).toArray !=[])&&ks.all fun k=>
  match cX l k,cX l a with
  |some o,some b=>k !=a&& !ts.contains k&&o.apart l.toArray b
  |_,_=>false
def YF.qi2(ks:List Nat)(Z:qa9 P l ts a d z)(s:lL l ts a ks listed=true)
  (h:∀k,k∈ks-> ∀o,cX l k=some o-> ∀E,(E=[]\/ ∃b,E=[(b,z)]/\w0.heap.size<=b/\b∉keys L)->Ow P w0 l.toArray .seq [o] f (L++E) (fun u v=> ∃i,(i++E).Perm v/\(∀r,r∈R->aG w0 i r=aG w0 L r)/\YF P w0 l R ts a d z n (listed.set k true) u i N)):
  YF P w0 l R ts a d z (n+1) listed f L N:=by
 obtain⟨⟨J,t,K,M,za,x,hg,hz,rfl⟩,zi,zb⟩:=Z;have zc:cX l a=some J:=by rw[j4];simpa using M
 unfold lL at s;simp only[WK,XX,Bool.or_eq_true,W8,Yb,ne_eq,qa1,XN] at s;obtain⟨⟨⟨⟨c3,c4⟩,c5⟩,zd⟩,c6⟩:=s;have ze:=Region.noSelect_spec zb;have O:∀k,k∈ks-> ∃o,cX l k=some o/\k≠a/\k∉ts/\o.apart l.toArray J=true:=by
  intro k e;have:=c6 k e;rw[zc] at this;cases Q:cX l k with
  |none=>rw[Q] at this;cases this
  |some o=>rw[Q] at this;simp only[WK,Zy,Yb,ne_eq,qc9] at this;exact⟨o,rfl,this.1.1,this.1.2,this.2⟩
 have S:∀b w,w0.heap.size<=b->b∉keys L->Hp w0 (L++[(b,.cells K.cells t)]) w->gj P l.toArray (da w0 N) ts (SR w0 R L) (n+1) (listed.set a true).toArray (act (YP f d (vp b 0))) w:=by
  intro b w y zf g;refine⟨fun _=>SR.ofE y g,(fun h=>Vx h zd),?_⟩;intro k A;have j:=c5 k A;obtain⟨o,e,T,c2,U⟩:=O k j;have m:l.toArray[k]? =some o:=by rw[j4] at e;simpa using e
  obtain⟨q1,q2,q3⟩:=Oper.apart_spec U;have zg:(listed.set k true).set a true=(listed.set a true).set k true:=List.set_comm _ _ T;have e1:act (YP f d (vp b 0))=(act f).put (some d) (vp b 0):=(eH f (some d) (vp b 0)).symm;rw[e1];refine Fg m (fun t B=>by cases B;exact q3 d x) (fun t B=>by cases B;exact fun zh=>q2 d zh x) (ze _ o · · m) (fun c a w h=>Kl h) ?_;refine mg m (X:=fun a' p=>gj P l.toArray (da w0 N) ts (SR w0 R L) n ((listed.set a true).toArray.setIfInBounds k true) (a'.put (some d) (vp b 0)) p) ?_ g;intro p C;refine Cu ?_ (h k j o e [(b,.cells K.cells t)] (.inr ⟨b,rfl,y,zf⟩) p C);rintro u v ⟨i,q,D,F⟩ G H;have V:=H.perm q;rw[eH,jM,<-zg,pn D];refine F.2 b G y (fun I=>?_) V;have W:=V.nodup;rw[aV,XR] at W;exact W.2.2 b I b Wg rfl
 refine⟨fun w g=>⟨fun _=>SR.of g,fun h=>Vx h c4,fun k A=>?_⟩,S⟩;rcases c3 k A with rfl|j
 .refine sc M za x hg hz ?_;rw[jM];refine S _ _ g.size (fun I=>Xk _ (g.lt I)) (g.alloc _)
 obtain⟨o,e,T,c2,U⟩:=O k j;have m:l.toArray[k]? =some o:=by rw[j4] at e;simpa using e
 refine mg m (X:=gj P l.toArray (da w0 N) ts (SR w0 R L) (n+1) (listed.toArray.setIfInBounds k true)) ?_ g;intro p C;have Y:=h k j o e [] (.inl rfl);rw[VX] at Y;refine Cu ?_ (Y p C);rintro u v ⟨i,q,D,F⟩ G H;rw[VX] at q;rw[jM,pn D];exact F.1 G (H.perm q)
def YF.soft(k:Nat)(o:Oper)(i:qa9 P l ts a d z)(j:cX l k=some o)(m:lL l ts a [k] listed=true)
  (h:∀E,(E=[]\/ ∃b,E=[(b,z)]/\w0.heap.size<=b/\b∉keys L)->Ow P w0 l.toArray .seq [o] f (L++E) (fun p q=> ∃c,(c++E).Perm q/\(∀r,r∈R->aG w0 c r=aG w0 L r)/\YF P w0 l R ts a d z n (listed.set k true) p c N)):
  YF P w0 l R ts a d z (n+1) listed f L N:=YF.qi2 [k] i m fun s e t g=>by
 rw[VZ] at e;subst e;rw[j] at g;cases g;exact h
def YF.two(k e:Nat)(o m:Oper)(q:qa9 P l ts a d z)(s:cX l k=some o)(t:cX l e=some m)(u:lL l ts a [k,e] listed=true)
  (h:∀E,(E=[]\/ ∃b,E=[(b,z)]/\w0.heap.size<=b/\b∉keys L)->Ow P w0 l.toArray .seq [o] f (L++E) (fun i j=> ∃c,(c++E).Perm j/\(∀r,r∈R->aG w0 c r=aG w0 L r)/\YF P w0 l R ts a d z n (listed.set k true) i c N))
  (v:∀E,(E=[]\/ ∃b,E=[(b,z)]/\w0.heap.size<=b/\b∉keys L)->Ow P w0 l.toArray .seq [m] f (L++E) (fun i j=> ∃c,(c++E).Perm j/\(∀r,r∈R->aG w0 c r=aG w0 L r)/\YF P w0 l R ts a d z n (listed.set e true) i c N)):
  YF P w0 l R ts a d z (n+1) listed f L N:=YF.qi2 [k,e] q u fun w p x g=>by
 simp only[Vw,WI,WB] at p;rcases p with rfl|rfl
 .rw[s] at g;cases g;exact h
 rw[t] at g;cases g;exact v
def YF.real(is:List Nat){m:Nat}(p:m=is.length)(F:qa9 P l ts a d z)(g:Region.ready .any l.toArray listed.toArray=[a])(G:mD P l.toArray ts is (listed.set a true).toArray=true)(u:(ts.all fun t=> !(listed.set a true).toArray.getD t true)=true)
  (k:is.map (fun i:Nat=>l[i]?)=(eZ l is).map some) (H:∀r,r∈R->r∈keys L\/r<w0.heap.size)
  (h:nl (eZ l is) fun c=> ∀b,w0.heap.size<=b->b∉keys L->Ow P w0 l.toArray (.sof R is ts) c (YP f d (vp b 0)) (L++[(b,z)]) N):YF P w0 l R ts a d z m listed f L N:=by
 subst p;obtain⟨⟨W,t,v,I,J,K,M,O,rfl⟩,X,Q⟩:=F;simp only[XX,Zy] at u
 revert k h
 generalize eZ l is=c;intro k h;have y:is.length=c.length:=by have:=Wc List.length k;simpa using this
 have S:Fits P l.toArray ts is c (listed.set a true).toArray:=⟨y,fun j=>by
  have:=Wc (·[j]?) k;simp only[List.getElem?_map] at this;cases A:is[j]? with
  |none=>
   rw[A] at this;simp only[YL] at this;cases n:c[j]? with
   |none=>rfl
   |some x=>rw[n] at this;cases this
  |some i=>
   rw[A] at this;simp only[Ws] at this;cases n:c[j]? with
   |none=>rw[n] at this;cases this
   |some x=>rw[n] at this;simp only[Ws,WD] at this;simp[this],Q,G⟩
 have T:∀b,w0.heap.size<=b->b∉keys L-> ∀r,r∈R->aG w0 (L++[(b,Obj.cells v.cells t)]) r=aG w0 L r:=by
  intro b q s r g;unfold aG;cases B:look L r with
  |some o=>rw[a_ B]
  |none=>
   have C:r∉keys L:=CS B;have U:b≠r:=by
    rcases H r g with h|h
    .exact Vx h C
    omega
   rw[cu C];unfold look;rw[tr U];rfl
 have D:∀b w,w0.heap.size<=b->b∉keys L->Hp w0 (L++[(b,.cells v.cells t)]) w->gj P l.toArray (da w0 N) ts (SR w0 R L) is.length (listed.set a true).toArray (act (YP f d (vp b 0))) w:=by intro b w q s e;rw[y,pn (T b q s)];exact h b q s _ S (fun t V=>u t V) w e
 refine⟨fun w e=>⟨fun _=>SR.of e,(fun h=>by rw[g] at h;cases h),fun i E=>?_⟩,D⟩;rw[g,VZ] at E;subst E;refine sc I J K M O ?_;rw[jM];exact D _ _ e.size (fun p=>Xk _ (e.lt p)) (e.alloc _)
def Cw.qk6{id:Nat}(R ts:List Nat)(a d t m:Nat)(c:hU)(g:l.length=m+1)(i:P.follows .mixedOrders=true)(b:((cX l a).map fun o=>(o.op,o.dst,o.guard))=some (.alloc t,some d,none))(j:ts.contains a=false)(k:Region.noSelect l.toArray=true)(n:ac P t=some c)
  (h:qa9 P l ts a d (.cells c.cells t)->YF P w0 l R ts a d (.cells c.cells t) m (List.replicate (m+1) false) f L (K .normal)):Cw P w0 (.region id l.toArray true) f L K:=by
 intro w p;refine wp_mono (wp_region_any i ?_) fun _ _ _ h=>pH h;have q:qa9 P l ts a d (.cells c.cells t):=by
  cases e:cX l a with
  |none=>rw[e] at b;cases b
  |some r=>rw[e] at b;simp only[Ws,WD,Xp] at b;exact⟨⟨r,t,c,by rw[j4] at e;simpa using e,b.1,b.2.1,b.2.2,n,rfl⟩,by simpa using j,k⟩
 have s:=(h q).1 w.drew p.drew;have:=BQ _ _ _ _ s;simpa [g] using this
end
end Go.Sx
namespace Go.Sx
open Go
def kU{α:Type}:(∀ (a:α) (l:List α),(a::l).length=l.length+1)/\([]:List α).length=0/\(∀ (l:List α) (i:Nat) (a:α),(l.set i a).length=l.length)/\(∀ (l m:List α),(l++m).length=l.length+m.length)/\
  (∀ (n:Nat) (a:α),(List.replicate n a).length=n)/\(∀ (n:Nat) (l:List α),(l.take n).length=min n l.length)/\(∀ (n:Nat) (l:List α),(l.drop n).length=l.length - n)/\ ∀ {β:Type} (f:α->β) (l:List α),(l.map f).length=l.length:=
 ⟨fun _ _=>Wt,W7,fun _ _ _=>X8,fun _ _=>VV,fun _ _=>List.length_replicate,fun _ _=>W3,fun _ _=>XC,fun _ _=>Wx ..⟩
def kX:(∀n:Nat,((n:Int)).toNat=n)/\(∀l:No,(a8 l).size=l.length)/\(∀l:List UInt32,(a32 l).size=l.length)/\(∀p:Prop,(p/\p)=p)/\(∀p:Prop,(p/\True)=p)/\ ∀p:Prop,(True/\p)=p:=
 ⟨WX,mi,CG,fun _=>and_self _,fun _=>and_true _,fun _=>true_and _⟩
inductive Tag {α:Type} (x:α):Type
 |mk:Tag x
def qy8(F:Fr->aA->bz->Prop)(K:bz)(f:Fr)(L:aA):Prop:=F f L K
def cdC(v:hU)(A B S:Prop)(a:Tag (A,B,S)):Prop:=
 match v with
 | .bool true=>A
 | .bool false=>B
 |a=>S
abbrev CwS(P:h_)(w0:hW)(c:Code)(f:Fr)(L:aA)(K:bz)(a:Tag (c,K)):Prop:=Cw P w0 c f L K
abbrev OwS(P:h_)(w0:hW)(ops:Array Oper)(md:Md)(l:List Oper)(f:Fr)(L:aA)(N:Fr->aA->Prop)(a:Tag (ops,l,N)):Prop:=Ow P w0 ops md l f L N
def bsK(K:bz)(e:Exit)(f:Fr)(L:aA):Dep K:=K e f L
def bsN(N:Fr->aA->Prop)(f:Fr)(L:aA):Dep N:=N f L
abbrev bsR(K:bz)(e:Exit)(f:Fr)(L:aA)(a:Tag K):Prop:=K e f L
abbrev bsM(N:Fr->aA->Prop)(f:Fr)(L:aA)(a:Tag N):Prop:=N f L
def owk(P:h_)(w0:hW)(ops:Array Oper)(N:Fr->aA->Prop)(md:Md)(l:List Oper)(f:Fr)(L:aA):Dep (ops,N):=
 match l with
 | []=>N f L
 |o::r=>Ow P w0 ops md (o::r) f L N
def fid:Code->Nat
 | .seq a _=>fid a
 | .region i _ _=>i
 | .block _ c=>fid c
 | .loop c=>fid c
 | .scope c=>fid c
 |_=>500000
def gz(z:List Nat)(c:Code):Bool:=match z with
 | []=>false
 |k::r=>(k==1000000+fid c) ||gz r c
def ZG(P:h_)(w0:hW)(z:List Nat):Code->Fr->aA->bz->Prop
 | .seq x y,f,L,K=>ib (gz z (.seq x y)) (CwS P w0 (.seq x y) f L K .mk) (ZG P w0 z x f L (gJ (qy8 (fun f L K=>ib (z.contains 999999) (CwS P w0 y f L K .mk) (ZG P w0 z y f L K)) K) K))
 | .skip,f,L,K=>K .normal f L
 | .exit i,f,L,K=>K (.exit i) f L
 | .goto i,f,L,K=>K (.goto i) f L
 | .ret,f,L,K=>K .ret f L
 | .label l,f,L,K=>ib (z.contains 999999) (Cw P w0 (.label l) f L K) (K .normal f L)
 | .block id c,f,L,K=>ZG P w0 z c f L (iY id K)
 | .cond c x y,f,L,K=> ∃b,ev f c=.bool b/\(b=true->ZG P w0 z x f L K)/\(b=false->ZG P w0 z y f L K)
 | .region id ops false,f,L,K=>ib (z.contains id) (Cw P w0 (.region id ops false) f L K) (vcL P w0 ops true .seq ops.toList f L (owk P w0 ops (K .normal)))
 |c,f,L,K=>Cw P w0 c f L K
section
variable {P:h_} {w0:hW} {f:Fr} {L:aA} {K:bz} {N:Fr->aA->Prop} {ops:Array Oper} {md:Md} {l:List Oper}
def AO(h:owk P w0 ops N md l f L):Ow P w0 ops md l f L N:=by
 cases l with
 |nil=>exact Ow.nil h
 |cons o r=>exact h
def Ow.go(a:md.eff=true)(h:vcL P w0 ops true md l f L (owk P w0 ops (bsN N))):Ow P w0 ops md l f L N:=
 qX _ (fun _ _ _ _ h=>AO h) true l md f L (fun _=>a) h
def Ow.goQ(h:vcL P w0 ops false md l f L (owk P w0 ops (bsN N))):Ow P w0 ops md l f L N:=
 qX _ (fun _ _ _ _ h=>AO h) false l md f L (fun e=>by cases e) h
theorem qU{z:List Nat}:∀ (c:Code) {f:Fr} {L:aA} {K:bz},ZG P w0 z c f L K->Cw P w0 c f L K
 | .seq x y,f,L,K,h=>by
   unfold ZG at h;cases g:gz z (.seq x y) with
   |true=>rw[g] at h;exact h
   |false=>
    rw[g] at h;refine Cw.seq ((qU x h).mono fun e f L k=>?_);cases e with
    |normal=>
     have d:ib (z.contains 999999) (CwS P w0 y f L K .mk) (ZG P w0 z y f L K):=k;cases a:z.contains 999999 with
     |true=>rw[a] at d;exact d
     |false=>rw[a] at d;exact qU y d
    |_=>exact k
 | .skip,_,_,_,h=>Cw.skip h
 | .exit _,_,_,_,h=>Cw.exit h
 | .goto _,_,_,_,h=>Cw.goto h
 | .ret,_,_,_,h=>Cw.ret h
 | .label l,_,_,_,h=>by
   unfold ZG at h;cases a:z.contains 999999 with
   |true=>rw[a] at h;exact h
   |false=>rw[a] at h;exact Cw.label h
 | .block id c,_,_,_,h=>Cw.block (qU c h)
 | .cond c x y,_,_,_,⟨b,i,j,m⟩=>Cw.cond i (fun e=>qU x (j e)) (fun e=>qU y (m e))
 | .region id ops false,f,L,K,h=>by
   obtain⟨l⟩:=ops;unfold ZG at h;cases a:z.contains id with
   |true=>rw[a] at h;exact h
   |false=>rw[a] at h;exact Cw.region (Ow.go rfl h)
 | .region _ _ true,_,_,_,h=>h
 | .loop _,_,_,_,h=>h
 | .rangeFunc _ _ _ _,_,_,_,h=>h
 | .scope _,_,_,_,h=>h
 | .refuse _,_,_,_,h=>h
end
class Steps (c:Code):Prop
instance {x y:Code}:Steps (.seq x y):=⟨⟩
instance:Steps .skip:=⟨⟩
instance {i:Nat}:Steps (.exit i):=⟨⟩
instance {i:Nat}:Steps (.goto i):=⟨⟩
instance:Steps .ret:=⟨⟩
instance {i:Nat}{c:Code}:Steps (.block i c):=⟨⟩
instance {c:Operand}{x y:Code}:Steps (.cond c x y):=⟨⟩
instance {i:Nat}{ops:Array Oper}:Steps (.region i ops false):=⟨⟩
def Cw.go{P:h_}{w0:hW}{c:Code}{f:Fr}{L:aA}{K:bz}(z:List Nat)[Steps c](h:ZG P w0 z c f L (bsK K)):Cw P w0 c f L K:=qU c h
@[congr] theorem VI{v a:hU}{A B S:Prop}{t:Tag (A,B,S)}(h:v=a):cdC v A B S t=cdC a A B S t:=by rw[h]
section
variable (P:h_) (w0:hW) (z:List Nat) (f:Fr) (L:aA) (K:bz) (N:Fr->aA->Prop) (ops:Array Oper) (md:Md)
def OX(x y:Code):ZG P w0 [] (.seq x y) f L K=ZG P w0 [] x f L (gJ (qy8 (fun f L K=>ZG P w0 [] y f L K) K) K):=(rfl)
def OW(k:Nat)(z:List Nat)(x y:Code):ZG P w0 (k::z) (.seq x y) f L K=ib (gz (k::z) (.seq x y)) (CwS P w0 (.seq x y) f L K .mk) (ZG P w0 (k::z) x f L (gJ (qy8 (fun f L K=>ib ((k::z).contains 999999) (CwS P w0 y f L K .mk) (ZG P w0 (k::z) y f L K)) K) K)):=(rfl)
def OA:ZG P w0 z .skip f L K=K .normal f L:=(rfl)
def Nh(i:Nat):ZG P w0 z (.exit i) f L K=K (.exit i) f L:=(rfl)
def Mn(i:Nat):ZG P w0 z (.goto i) f L K=K (.goto i) f L:=(rfl)
def QV:ZG P w0 z .ret f L K=K .ret f L:=(rfl)
def Lf(i:Nat):ZG P w0 z (.label i) f L K=ib (z.contains 999999) (CwS P w0 (.label i) f L K .mk) (K .normal f L):=(rfl)
def Mu(i:Nat)(c:Code):ZG P w0 z (.block i c) f L K=ZG P w0 z c f L (iY i K):=(rfl)
def Nj(c:Operand)(x y:Code):ZG P w0 z (.cond c x y) f L K=cdC (ev f c) (ZG P w0 z x f L K) (ZG P w0 z y f L K) (ZG P w0 z (.cond c x y) f L K) .mk:=by
 unfold cdC
 split
 .rename_i h;simp[ZG,h]
 .rename_i h;simp[ZG,h]
 rfl
def JR(i:Nat)(l:List Oper):ZG P w0 z (.region i l.toArray false) f L K=ib (z.contains i) (CwS P w0 (.region i l.toArray false) f L K .mk) (vcL P w0 l.toArray true .seq l f L (owk P w0 l.toArray (K .normal))):=(rfl)
def Lw(i:Nat)(ops:Array Oper):ZG P w0 z (.region i ops true) f L K=CwS P w0 (.region i ops true) f L K .mk:=(rfl)
def Oh(c:Code):ZG P w0 z (.loop c) f L K=CwS P w0 (.loop c) f L K .mk:=(rfl)
def LR(c:Code):ZG P w0 z (.scope c) f L K=CwS P w0 (.scope c) f L K .mk:=(rfl)
def K6(x:Operand)(p:Array Tmp)(a c:Code):ZG P w0 z (.rangeFunc x p a c) f L K=CwS P w0 (.rangeFunc x p a c) f L K .mk:=(rfl)
def Pc(F:Fr->aA->bz->Prop):bsN (qy8 F K) f L=F f L K:=(rfl)
def Tp(e:Exit):bsN (K e) f L=bsK K e f L:=(rfl)
def TP(c:Code):bsN (fun f L=>Cw P w0 c f L K) f L=CwS P w0 c f L K .mk:=(rfl)
def Py:gJ N K .normal f L=bsN N f L:=(rfl)
def RD(i:Nat):gJ N K (.exit i) f L=K (.exit i) f L:=(rfl)
def Qx(i:Nat):gJ N K (.goto i) f L=K (.goto i) f L:=(rfl)
def QY:gJ N K .ret f L=K .ret f L:=(rfl)
def PV(i:Nat):iY i K .normal f L=K .normal f L:=(rfl)
def P3(i j:Nat):iY i K (.goto j) f L=K (.goto j) f L:=(rfl)
def ON(i:Nat):iY i K .ret f L=K .ret f L:=(rfl)
def Nx(i j:Nat):iY i K (.exit j) f L=ib (j==i) (K .normal f L) (K (.exit j) f L):=by
 by_cases h:j=i
 .have e:(j==i)=true:=W8.2 h;rw[e];simp[iY,ib,h]
 have e:(j==i)=false:=WN.2 h;rw[e];simp[iY,ib,h]
def Mi(A:Nat->Fr->aA->Prop):jH A K .normal f L=K .normal f L:=(rfl)
def PW(A:Nat->Fr->aA->Prop)(i:Nat):jH A K (.exit i) f L=K (.exit i) f L:=(rfl)
def Ny(A:Nat->Fr->aA->Prop)(i:Nat):jH A K (.goto i) f L=bsN (A i) f L:=(rfl)
def M'(A:Nat->Fr->aA->Prop):jH A K .ret f L=K .ret f L:=(rfl)
def P':owk P w0 ops N md [] f L=bsN N f L:=(rfl)
def R3(e:Exit):bsK K e f L=bsR K e f L .mk:=(rfl)
def R9:bsN N f L=bsM N f L .mk:=(rfl)
def SK:bsN (bsN N) f L=bsN N f L:=(rfl)
def Rc(e:Exit):bsK (bsK K) e f L=bsK K e f L:=(rfl)
def PA(e:Exit):bsK (gJ N K) e f L=gJ N (bsK K) e f L:=by cases e<;>rfl
def Jz(i:Nat)(e:Exit):bsK (iY i K) e f L=iY i (bsK K) e f L:=by cases e<;>rfl
def J'(A:Nat->Fr->aA->Prop)(e:Exit):bsK (jH A K) e f L=jH A (bsK K) e f L:=by cases e<;>rfl
def Mg(o:Oper)(r:List Oper):owk P w0 ops N md (o::r) f L=OwS P w0 ops md (o::r) f L N .mk:=(rfl)
end
section
variable (A B S:Prop) (t:Tag (A,B,S))
def TG:cdC (.bool true) A B S t=A:=(rfl)
def TD:cdC (.bool false) A B S t=B:=(rfl)
def lv(b:Bool)(h:b=true):cdC (.bool b) A B S t=A:=by rw[h];rfl
def lq(b:Bool)(h:b=false):cdC (.bool b) A B S t=B:=by rw[h];rfl
def A_(p:Prop)[Decidable p](h:p):cdC (.bool (decide p)) A B S t=A:=lv A B S t _ (aP h)
def BD(p:Prop)[Decidable p](h:¬p):cdC (.bool (decide p)) A B S t=B:=lq A B S t _ (aW h)
def Td(a b:Int)(h:a=b):cdC (.bool (a==b)) A B S t=A:=lv A B S t _ (W8.2 h)
def TN(a b:Int)(h:¬a=b):cdC (.bool (a==b)) A B S t=B:=lq A B S t _ (WN.2 h)
def TM(a b:Int)(h:¬a=b):cdC (.bool (a !=b)) A B S t=A:=lv A B S t _ (Yb.2 h)
def TB(a b:Int)(h:a=b):cdC (.bool (a !=b)) A B S t=B:=lq A B S t _ (by rw[h];simp)
end
def Ps(w0:hW)(L:aA)(v:hU):fN w0 L .no v=none:=(rfl)
def R_(w0:hW)(L:aA)(e:h7)(v:hU):fN w0 L (.strBytes e) v=none:=(rfl)
def Rf(v:hU):Yw .no v=none:=by unfold Yw;split<;>first|rfl| (rename_i h;cases h)
def Lr(c:Code):gz [] c=false:=(rfl)
def Iq(k:Nat)(r:List Nat)(c:Code):gz (k::r) c=((k==1000000+fid c) ||gz r c):=(rfl)
def Q8(a b:Code):fid (.seq a b)=fid a:=(rfl)
def KL(i:Nat)(o:Array Oper)(d:Bool):fid (.region i o d)=i:=(rfl)
def MK(i:Nat)(c:Code):fid (.block i c)=fid c:=(rfl)
def PM(c:Operand)(x y:Code):fid (.cond c x y)=500000:=(rfl)
def M_(c:Code):fid (.loop c)=fid c:=(rfl)
def Ll(c:Code):fid (.scope c)=fid c:=(rfl)
def Lp(i:Nat):fid (.label i)=500000:=(rfl)
def On(i:Nat):fid (.goto i)=500000:=(rfl)
def PG(i:Nat):fid (.exit i)=500000:=(rfl)
def OO:fid .skip=500000:=(rfl)
def S5:fid .ret=500000:=(rfl)
def Ke(x:Operand)(p:Array Tmp)(a c:Code):fid (.rangeFunc x p a c)=500000:=(rfl)
def qi8(j:Nat->hU):Nat->Nat->Fr
 |_,0=>[]
 |k,n+1=>j k::qi8 j (k+1) n
def Su(j:Nat->hU)(k:Nat):qi8 j k 0=[]:=(rfl)
def SN(j:Nat->hU)(k n:Nat):qi8 j k (n+1)=j k::qi8 j (k+1) n:=(rfl)
def ql3{G:Type}(n:Nat)(S:G->List (Nat×hU))(H:G->aA)(b:G->Prop)(a:Fr)(L':aA):Prop:=
 ∃g,b g/\L'=H g/\a=pin (qi8 (dA a) 0 n) (S g)
def ql3.mk{G:Type}{n:Nat}{S:G->List (Nat×hU)}{H:G->aA}{b:G->Prop}{a:Fr}{L':aA}(g:G)(c:b g)(d:L'=H g)(e:a=pin (qi8 (dA a) 0 n) (S g)):ql3 n S H b a L':=⟨g,c,d,e⟩
def Cw.cut{P:h_}{w0:hW}{x y:Code}{f:Fr}{L:aA}{K:bz}{G:Type}(n:Nat)(S:G->List (Nat×hU))(H:G->aA)(a:G->Prop)(b:Cw P w0 x f L (gJ (ql3 n S H a) K))
  (c:∀ (g:G) (j:Nat->hU),a g->Cw P w0 y (pin (qi8 j 0 n) (S g)) (H g) K):Cw P w0 (.seq x y) f L K:=by
 refine Cw.seq (b.mono fun e f L k=>?_);cases e with
 |normal=>obtain⟨g,d,rfl,h⟩:=k;have:=c g (dA f) d;rw[<-h] at this;exact this
 |_=>exact k
def cdC.qj8{p:Prop}[Decidable p]{A B S:Prop}{t:Tag (A,B,S)}(a:p->A)(b:¬p->B):cdC (.bool (decide p)) A B S t:=by
 by_cases h:p
 .rw[A_ A B S t p h];exact a h
 rw[BD A B S t p h];exact b h
def cdC.split{b:Bool}{A B S:Prop}{t:Tag (A,B,S)}(a:b=true->A)(c:b=false->B):cdC (.bool b) A B S t:=by
 cases b with
 |true=>exact a rfl
 |false=>exact c rfl
end Go.Sx
namespace Go.Sx
open Go
section
variable {P:h_} {w0:hW} {l:List Oper} {R ts:List Nat} {n:Nat} {listed:List Bool} {f:Fr} {L:aA} {N:Fr->aA->Prop}
def Xx(P:h_)(w0:hW)(l:List Oper)(R ts:List Nat)(n:Nat)(listed:List Bool)(f:Fr)(L:aA)(N:Fr->aA->Prop):Prop:=
 ∀w,Hp w0 L w->gj P l.toArray (da w0 N) ts (SR w0 R L) n listed.toArray (act f) w
def Cw.Yh{id:Nat}{K:bz}(R ts:List Nat)(m:Nat)(a:l.length=m)(b:P.follows .mixedOrders=true)(h:Xx P w0 l R ts m (List.replicate m false) f L (K .normal)):Cw P w0 (.region id l.toArray true) f L K:=by intro w c;subst a;refine wp_mono (wp_region_any b ?_) fun _ _ _ h=>pH h;have:=BQ _ _ _ _ (h _ c.drew);simpa using this
def qd6(P:h_)(l:List Oper)(ts:List Nat):List Nat->List Bool->Option (List Bool)
 | [],listed=>some listed
 |k::is,listed=>
  match cX l k with
  |some o=>if !ts.contains k&& (ts.all fun t=> !listed.toArray.getD t true)&& (Region.ready .any l.toArray listed.toArray).contains k&&Region.free .any l.toArray listed.toArray k&&
    (eF P o.op|| (jU o.op&&mo l.toArray ts listed.toArray k)) then qd6 P l ts is (listed.set k true) else none
  |none=>none
def Xx.step{k:Nat}{o:Oper}{v:hU}(m:Region.noSelect l.toArray=true)(d:cX l k=some o){rest:List Bool}(b:qd6 P l ts [k] listed=some rest)
  (p:XZ P l.toArray (SR w0 R L) (eF P o.op=true) o v (act f)) (h:Xx P w0 l R ts n rest (aa f o.dst v) L N):Xx P w0 l R ts (n+1) listed f L N:=by
 have g:l.toArray[k]? =some o:=by rw[j4] at d;simpa using d
 unfold qd6 at b;rw[d] at b;simp only at b
 split at b
 .rename_i i;simp only[qd6,WD] at b;subst b;simp only[WK,Bool.or_eq_true,Zy,XX,qa1,XN,qc9] at i;obtain⟨⟨⟨⟨q,j⟩,r⟩,s⟩,u⟩:=i;have x:=Region.noSelect_spec m;intro w y;refine k' g q x (fun c a w h=>i9 h) _ _ _ _ (m6 (P:=P) g r s (u.imp id fun h=>⟨h.1,h.2,fun t e=>j t e⟩)) (.inr fun t e=>j t e) p ?_;rw[eH,jM];exact h w y
 cases b
def NM{k:Nat}{is:List Nat}{listed b:List Bool}(h:qd6 P l ts (k::is) listed=some b):qd6 P l ts [k] listed=some (listed.set k true)/\qd6 P l ts is (listed.set k true)=some b:=by
 rw[qd6] at h;cases a:cX l k with
 |none=>rw[a] at h;cases h
 |some o=>
  rw[a] at h;simp only at h
  split at h
  .rename_i c;refine⟨?_,h⟩;rw[qd6,a];simp only;rw[Vb c];rfl
  cases h
theorem Xx.runs{k:Md->List Oper->Fr->aA->Prop}(c:Region.noSelect l.toArray=true):∀ (is:List Nat) {listed d:List Bool} {f:Fr} {L:aA},qd6 P l ts is listed=some d->
  (∀md r t u,k md r t u->r=[]/\Xx P w0 l R ts n d t u N)->vcL P w0 l.toArray false (.sof R [] []) (eZ l is) f L k->Xx P w0 l R ts (is.length+n) listed f L N
 | [],listed,d,f,L,m,a,h=>by cases m;rw[W7,Xg];exact(a _ _ _ _ h).2
 |i::is,listed,d,f,L,m,a,h=>by
  obtain⟨b,x⟩:=NM m;rw[Bk] at h;cases e:cX l i with
  |none=>unfold qd6 at b;rw[e] at b;cases b
  |some o=>
   rw[e,Bn] at h;unfold vcL at h;rw[Wt,show is.length+1+n=(is.length+n)+1 by omega];cases g:ay l.toArray f o with
   |true=>
    rw[g] at h;have p:Region.wanted o (yielded l.toArray (act f).tmps)=false:=by rw[gW,g];rfl
    exact Xx.step c e b (v:=undef) (.inr ⟨p,rfl⟩) (Xx.runs c is x a h)
   |false=>
    rw[g] at h;have p:Region.wanted o (yielded l.toArray (act f).tmps)=true:=by rw[gW,g];rfl
    simp only[ib,YD] at h
    split at h
    .cases q:Zr (.sof R [] []) f o.op with
     |false=>rw[q] at h;exact Vx (a _ _ _ _ h).1 V_
     |true=>
      rw[q] at h;simp only at h;cases j:fT P w0 L f o.op with
      |none=>rw[j] at h;exact Vx (a _ _ _ _ h).1 V_
      |some v=>
       rw[j] at h;refine Xx.step c e b (v:=v) (.inl ⟨p,fun w s=>?_⟩) (Xx.runs c is x a h);rw[ka];rcases s with y|s
       .exact jQ (Hp.refl w) (qP y j w)
       exact jQ (Hp.refl w) (DC q j s)
    .exact Vx (a _ _ _ _ h).1 V_
    exact Vx (a _ _ _ _ h).1 V_
def Xx.run(is:List Nat)(a:List Bool)(n:Nat){m:Nat}(b:m=is.length+n)(c:Region.noSelect l.toArray=true)(d:qd6 P l ts is listed=some a)
  (h:∀k:Md->List Oper->Fr->aA->Prop,(∀md f L,Xx P w0 l R ts n a f L N->k md [] f L)->nl (eZ l is) fun e=>vcL P w0 l.toArray false (.sof R [] []) e f L k):Xx P w0 l R ts m listed f L N:=by
 subst b;refine Xx.runs (k:=fun _ r g i=>r=[]/\Xx P w0 l R ts n a g i N) c is d (fun _ _ _ _ h=>h) ?_;exact h _ fun _ _ _ h=>⟨rfl,h⟩
def lS(l:List Oper)(ts:List Nat)(ks:List Nat)(listed:List Bool):Bool:=
 ((Region.ready .any l.toArray listed.toArray).all fun i=>ks.contains i)&& (Region.ready .any l.toArray listed.toArray !=[])&&ks.all fun k=> !ts.contains k
def Xx.qi2(ks:List Nat)(a:lS l ts ks listed=true)
  (h:∀k,k∈ks-> ∀o,cX l k=some o->Ow P w0 l.toArray .seq [o] f L (fun c b=>(∀r,r∈R->aG w0 b r=aG w0 L r)/\Xx P w0 l R ts n (listed.set k true) c b N)):
  Xx P w0 l R ts (n+1) listed f L N:=by
 unfold lS at a;simp only[WK,XX,Yb,ne_eq,qa1,XN,Zy,qc9] at a;obtain⟨⟨m,p⟩,C⟩:=a;intro w d;refine⟨fun _=>SR.of d,fun q=>Vx q p,fun i e=>?_⟩;have s:=m i e;obtain⟨-,g,j,-⟩:=mem_ready.1 e;have t:cX l i=some g:=by rw[j4];simpa using j
 refine mg j (X:=gj P l.toArray (da w0 N) ts (SR w0 R L) n (listed.toArray.setIfInBounds i true)) ?_ d;intro u v;have x:=h i s g t u v;refine Cu ?_ x;rintro c b ⟨y,z⟩ A B;rw[pn y,jM];exact z A B
def Xx.one(i:Nat)(a:Oper)(e:lS l ts [i] listed=true)(g:cX l i=some a)
  (h:Ow P w0 l.toArray .seq [a] f L (fun j b=>(∀r,r∈R->aG w0 b r=aG w0 L r)/\Xx P w0 l R ts n (listed.set i true) j b N)):Xx P w0 l R ts (n+1) listed f L N:=
 Xx.qi2 [i] e fun k c o d=>by rw[VZ] at c;subst c;rw[g] at d;cases d;exact h
def Xx.two(i j:Nat)(d oj:Oper)(g:lS l ts [i,j] listed=true)(h:cX l i=some d)(m:cX l j=some oj)
  (p:Ow P w0 l.toArray .seq [d] f L (fun c a=>(∀r,r∈R->aG w0 a r=aG w0 L r)/\Xx P w0 l R ts n (listed.set i true) c a N))
  (q:Ow P w0 l.toArray .seq [oj] f L (fun c a=>(∀r,r∈R->aG w0 a r=aG w0 L r)/\Xx P w0 l R ts n (listed.set j true) c a N)):Xx P w0 l R ts (n+1) listed f L N:=
 Xx.qi2 [i,j] g fun k e o b=>by
  simp only[Vw,WI,WB] at e;rcases e with rfl|rfl
  .rw[h] at b;cases b;exact p
  rw[m] at b;cases b;exact q
def Xx.Vd{M:aA}(a:M.Perm L)(b:∀r,r∈R->aG w0 M r=aG w0 L r)(h:Xx P w0 l R ts n listed f M N):Xx P w0 l R ts n listed f L N:=by intro w c;rw[pn b];exact h w (c.perm a)
def Ay(P:h_)(l:List Oper)(is ts:List Nat)(listed:List Bool):Bool:=
 Region.noSelect l.toArray&&mD P l.toArray ts is listed.toArray&&ts.all fun t=> !listed.toArray.getD t true
def Xx.rest(is:List Nat){m:Nat}(k:m=is.length)(d:Ay P l is ts listed=true)(b:is.map (fun i:Nat=>l[i]?)=(eZ l is).map some)
  (h:nl (eZ l is) fun a=>Ow P w0 l.toArray (.sof R is ts) a f L N):Xx P w0 l R ts m listed f L N:=by
 subst k
 revert b h
 generalize eZ l is=a;intro b h w n;simp only[Ay,WK,XX,Zy] at d;obtain⟨⟨o,p⟩,q⟩:=d;have e:is.length=a.length:=by have:=Wc List.length b;simpa using this
 have r:Fits P l.toArray ts is a listed.toArray:=⟨e,fun j=>by
  have:=Wc (·[j]?) b;simp only[List.getElem?_map] at this;cases g:is[j]? with
  |none=>
   rw[g] at this;simp only[YL] at this;cases c:a[j]? with
   |none=>rfl
   |some x=>rw[c] at this;cases this
  |some i=>
   rw[g] at this;simp only[Ws] at this;cases c:a[j]? with
   |none=>rw[c] at this;cases this
   |some x=>rw[c] at this;simp only[Ws,WD] at this;simp[this],o,p⟩
 rw[e];exact(h:Ow P w0 l.toArray (.sof R is ts) a f L N) listed.toArray r (fun t s=>q t s) w n
end
def WY{G:Type}(M:List Nat)(S:G->List (Nat×hU))(H:G->aA)(b:G->Prop)(f a:Fr)(L':aA):Prop:=
 ∃g,b g/\L'=H g/\a=pin (gf (dA a) M 0 f) (S g)
def WY.mk{G:Type}{M:List Nat}{S:G->List (Nat×hU)}{H:G->aA}{b:G->Prop}{f a:Fr}{L':aA}(g:G)(c:b g)(d:L'=H g)(e:a=pin (gf (dA a) M 0 f) (S g)):WY M S H b f a L':=⟨g,c,d,e⟩
def Cw.ZO{P:h_}{w0:hW}{x y:Code}{f:Fr}{L:aA}{K:bz}{G:Type}(M:List Nat)(S:G->List (Nat×hU))(H:G->aA)(a:G->Prop)(b:Cw P w0 x f L (gJ (WY M S H a f) K))
  (c:∀ (g:G) (j:Nat->hU),a g->Cw P w0 y (pin (gf j M 0 f) (S g)) (H g) K):Cw P w0 (.seq x y) f L K:=by
 refine Cw.seq (b.mono fun e d l k=>?_);cases e with
 |normal=>obtain⟨g,h,rfl,i⟩:=k;have:=c g (dA d) h;rw[<-i] at this;exact this
 |_=>exact k
end Go.Sx
namespace Go.Sx
open Go
section
variable {P:h_} {w0:hW} {f:Fr} {L:aA} {N:Fr->aA->Prop} {ops:Array Oper} {rest:List Oper} {md:Md}
 {d:Option Tmp} {ty:h7} {ps:String} {af:Array Edge} {g:Option (Nat×Bool)}
def GJ{w:hW}{s c t:h7}{b off:Nat}{m:Bool×Nat}{cs:Array hU}{E:h7}{fz:Nat×Nat}(h:w.heap[b]? =some (.cells cs E fz))(q:off<cs.size)(i:aU P t=some m)(j:m.2≠0)
  (d:P.underlying s=some (.pointer t)) (e:P.underlying c=some .unsafePointer):(convert s c (vp b off)).run P w=.ok (vp b off) w:=by
 have k:w.shape? b=some (E,cs.size):=by simp only[World.shape?,h]
 have r:∀ {α β:Type} (a:α) (f:α->hW->Result β),(Sem.run P (pure a) w).andThen f=f a w:=fun _ _=>rfl;have g:(shape b).run P w=.ok (some (E,cs.size)) w:=by show Result.ok (w.shape? b) w=_;rw[k]
 have l:(Conv.seenAt ⟨b,off,none⟩).run P w=.ok ⟨b,off,none⟩ w:=by
  simp only[Conv.seenAt,viewAt,Vp,g,VT,Option.isSome_some,↓reduceIte]
  rfl
 have n:(cellsIn b).run P w=.ok (some cs.size) w:=by
  simp only[cellsIn,Vp,g,VT]
  rfl
 have o:(decide (m.2=0) ||decide (off≥cs.size)&& (none:Option Nat).isNone)=false:=by
  have:¬ (off≥cs.size):=by omega
  simp[j,this]
 have p:(Conv.unsafePointer s c (vp b off)).run P w=.ok (vp b off) w:=by
  simp only[Conv.unsafePointer,vp,Vp,Wn d w,Wn e w,VT,l,n,ei i w];rw[tr (by rw[o];simp)]
  rfl
 unfold convert;simp only[vp,Vp,Wn d w,Wn e w,VT];exact p
def Fk{w:hW}{s a t:h7}{b off:Nat}{m:Bool×Nat}{cs:Array hU}{E:h7}{fz:Nat×Nat}(g:w.heap[b]? =some (.cells cs E fz))(h:aU P t=some m)(i:liesAt P P.depth E (cs.size / P.cellsOf E) off t 1=true)
  (c:P.underlying s=some .unsafePointer) (d:P.underlying a=some (.pointer t)):(convert s a (vp b off)).run P w=.ok (vp b off) w:=by
 have j:w.shape? b=some (E,cs.size):=by simp only[World.shape?,g]
 have e:(shape b).run P w=.ok (some (E,cs.size)) w:=by show Result.ok (w.shape? b) w=_;rw[j]
 have k:(Conv.seenAt ⟨b,off,none⟩).run P w=.ok ⟨b,off,none⟩ w:=by
  simp only[Conv.seenAt,viewAt,Vp,e,VT,Option.isSome_some,↓reduceIte]
  rfl
 have l:(variablesAt ⟨b,off,none⟩ t 1).run P w=.ok true w:=by
  simp only[variablesAt,program,Vp];show Result.andThen (Result.ok P w) _=_;simp only[VT,e];rw[i]
  rfl
 have n:(Conv.unsafePointer s a (vp b off)).run P w=.ok (vp b off) w:=by
  simp only[Conv.unsafePointer,vp,Vp,Wn c w,Wn d w,VT,k,ei h w,l];by_cases f:m.2=0
  .simp[f]
  simp[f]
 unfold convert;simp only[vp,Vp,Wn c w,Wn d w,VT];exact n
def Ow.qq7{s a t:h7}{x:Operand}{b off:Nat}{m:Bool×Nat}{cs:Array hU}{E:h7}{fz:Nat×Nat}{c:Md}(h:md.WM=some c)(i:ay ops f ⟨d,.convert s a x,ty,ps,af,g⟩=false)
  (j:Z_ P s a=.no) (k:ev f x=vp b off) (l:aG w0 L b=some (.cells cs E fz)) (n:off<cs.size) (o:aU P t=some m) (p:m.2≠0) (q:P.underlying s=some (.pointer t)) (r:P.underlying a=some .unsafePointer)
  (u:Ow P w0 ops c rest (aa f d (vp b off)) L N):Ow P w0 ops md (⟨d,.convert s a x,ty,ps,af,g⟩::rest) f L N:=by
 refine Ow.step h (by simp[eF,j]) i fun w e=>.inl ⟨vp b off,w,L,?_,e,u⟩;simp only[execOp,Vp,k,GJ (e.read l) n o p q r]
 rfl
def Ow.qq3{s a t:h7}{x:Operand}{b off:Nat}{m:Bool×Nat}{cs:Array hU}{E:h7}{fz:Nat×Nat}{c:Md}(h:md.WM=some c)(i:ay ops f ⟨d,.convert s a x,ty,ps,af,g⟩=false)
  (j:Z_ P s a=.no) (k:ev f x=vp b off) (l:aG w0 L b=some (.cells cs E fz)) (n:aU P t=some m) (o:liesAt P P.depth E (cs.size / P.cellsOf E) off t 1=true) (p:P.underlying s=some .unsafePointer) (q:P.underlying a=some (.pointer t))
  (r:Ow P w0 ops c rest (aa f d (vp b off)) L N):Ow P w0 ops md (⟨d,.convert s a x,ty,ps,af,g⟩::rest) f L N:=by
 refine Ow.step h (by simp[eF,j]) i fun w e=>.inl ⟨vp b off,w,L,?_,e,r⟩;simp only[execOp,Vp,k,Fk (e.read l) n o p q]
 rfl
def Ow.qy3{t t' e:h7}{x y:Operand}{b off:Nat}{m:Bool×Nat}(c:ay ops f ⟨d,.binOp .neq t x y t',ty,ps,af,g⟩=false)(h:P.underlying t=some (.pointer e))(i:aU P e=some m)(j:ev f x=vp b off)(k:ev f y=vp b off)
  (l:Ow P w0 ops md.next rest (aa f d (.bool false)) L N):Ow P w0 ops md (⟨d,.binOp .neq t x y t',ty,ps,af,g⟩::rest) f L N:=by
 refine Ow.qi1 rfl c (fun w=>?_) l;have n:(Op.equal t (vp b off) (vp b off)).run P w=.ok true w:=by
  show(Op.equalIn 10000 t (vp b off) (vp b off)).run P w=_;unfold Op.equalIn;simp only[vp,Vp,Wn h w,VT,ei i w];by_cases a:m.2=0
  .simp[a]
  simp only[a,ne_eq,not_false_eq_true,↓reduceIte,sameAddr,Yf]
  rfl
 simp only[execOp,Vp,j,k];have o:(eqGuard .neq t x y (vp b off) (vp b off)).run P w=.ok () w:=rfl;have p:binOp .neq t (vp b off) (vp b off)=(do pure (.bool (!(<-Op.equal t (vp b off) (vp b off)))):Sem hU):=rfl;rw[o,VT,p,Vp,n]
 rfl
def qI{w0:hW}{L:aA}{b c:Nat}{x:Obj}(h:b≠c):aG w0 (Vh L b x) c=aG w0 L c:=by unfold aG;rw[bE h]
def Ow.qs1{l:List Operand}{ts:Array h7}{k:FuncId}{v:hU}{a:Md}(b:md.WM=some a)
  (c:ay ops f ⟨d,.call ⟨.value (.func k),l.toArray,ts⟩,ty,ps,af,g⟩=false)
  (e:∀w,(callFunc k (l.map (ev f)).toArray).run P w=.ok (.value v) w)
  (h:Ow P w0 ops a rest (aa f d v) L N):
  Ow P w0 ops md (⟨d,.call ⟨.value (.func k),l.toArray,ts⟩,ty,ps,af,g⟩::rest) f L N:=by
 refine Ow.step b rfl c fun w i=>.inl ⟨v,w,L,?_,i,h⟩;have:=e w;simp only[execOp,resolve,Deferred.ofValue,ev,Vp,Wm,VT,invoke];simpa using this
def Ow.qE5{x y:Operand}{ts:Array h7}{a b:Int}(c:ay ops f ⟨d,.call ⟨.builtin .min,#[x,y],ts⟩,ty,ps,af,g⟩=false)(e:ev f x=vi a)(h:ev f y=vi b)
  (i:Ow P w0 ops md.next rest (aa f d (vi (if b<a then b else a))) L N):Ow P w0 ops md (⟨d,.call ⟨.builtin .min,#[x,y],ts⟩,ty,ps,af,g⟩::rest) f L N:=by
 refine Ow.calm rfl rfl c (fun w j=>.inl ⟨vi (if b<a then b else a),w,L,?_,j,rfl,rfl⟩) i;simp only[execOp,resolve,Vp,Wm,VT,invoke,builtin,XM,VY,Wr,e,h]
 rfl
def Ow.qK6{x y:Operand}{ts:Array h7}{a b:Int}(c:ay ops f ⟨d,.call ⟨.builtin .max,#[x,y],ts⟩,ty,ps,af,g⟩=false)(e:ev f x=vi a)(h:ev f y=vi b)
  (i:Ow P w0 ops md.next rest (aa f d (vi (if b>a then b else a))) L N):Ow P w0 ops md (⟨d,.call ⟨.builtin .max,#[x,y],ts⟩,ty,ps,af,g⟩::rest) f L N:=by
 refine Ow.calm rfl rfl c (fun w j=>.inl ⟨vi (if b>a then b else a),w,L,?_,j,rfl,rfl⟩) i;simp only[execOp,resolve,Vp,Wm,VT,invoke,builtin,XM,VY,Wr,e,h]
 rfl
end
structure Ext(w:hW)(X D:aA):Prop where
 new:∀c,c∈keys D->c∈keys X\/w.heap.size<=c
 all:∀c,c∈keys X->c∈keys D
def Ext.refl(w:hW)(X:aA):Ext w X X:=⟨fun _ h=>.inl h,fun _ h=>h⟩
theorem Ext.Vh{w:hW}{X D:aA}{b:Nat}{o:Obj}(h:Ext w X D):Ext w X (Vh D b o):=⟨fun c a=>h.new c (by rwa [fc] at a),fun c a=>by rw[fc];exact h.all c a⟩
def Ext.app{w:hW}{X D:aA}{b:Nat}{o:Obj}(h:Ext w X D)(d:w.heap.size<=b):Ext w X (D++[(b,o)]):=
 ⟨fun c a=>by
  rw[aV] at a;rcases Wu.1 a with a|a
  .exact h.new c a
  simp only[keys,VY,Wr,VZ] at a;exact .inr (a▸d),fun c a=>by rw[aV];exact aq _ (h.all c a)⟩
def Ext.qm5{w:hW}{X D D':aA}{v:hU}(h:Ext w X D)(b:qc3 w v D D'):Ext w X D':=
 ⟨fun c a=>by
  rcases b.new c a with a| ⟨-,a⟩
  .exact h.new c a
  exact .inr a,fun c a=>b.keys c (h.all c a)⟩
theorem Ext.keys{w:hW}{X D D':aA}(h:Ext w X D)(b:Sx.keys D'=Sx.keys D):Ext w X D':=⟨fun c a=>h.new c (b▸a),fun c a=>b▸h.all c a⟩
def dr{w0:hW}{L:aA}{b:Nat}(h:b∉Sx.keys L):aG w0 L b=w0.heap[b]? :=by
 unfold aG;cases a:look L b with
 |none=>rfl
 |some o=>exact Vx (bO a) h
def Ext.not{w:hW}{X D:aA}(h:Ext w X D){b:Nat}(d:b<w.heap.size)(a:b∉Sx.keys X):b∉Sx.keys D:=fun c=>by
 rcases h.new b c with h|h
 .exact a h
 omega
def Ext.Wo{w:hW}{X D:aA}(h:Ext w X D){b:Nat}{o:Obj}(a:w.heap[b]? =some o)(c:b∉Sx.keys X):aG w D b=some o:=by rw[dr (h.not (Array.getElem?_eq_some_iff.1 a).1 c)];exact a
def XS(w:hW)(X:aA)(S:hU->aA->Prop)(v:hU)(D:aA):Prop:=Ext w X D/\S v D
structure qf5(w0:hW)(L X D:aA):Prop where
 new:∀c,c∈Sx.keys D->c∈Sx.keys X\/(cy L c/\w0.heap.size<=c)
 all:∀c,c∈Sx.keys X->c∈Sx.keys D
def Ext.X1{w:hW}{X D D' Y L:aA}(h:Ext w X (D++Y))(b:qf5 w L D D'):Ext w X (D'++Y):=by
 refine⟨fun c a=>?_,fun c a=>?_⟩
 .rw[aV] at a;rcases Wu.1 a with a|a
  .rcases b.new c a with a| ⟨-,a⟩
   .exact h.new c (by rw[aV];exact aq _ a)
   exact .inr a
  exact h.new c (by rw[aV];exact cJ _ a)
 have:=h.all c a;rw[aV] at this |-;rcases Wu.1 this with a|a
 .exact aq _ (b.all c a)
 exact cJ _ a
def Ext.Xt{w:hW}{X D D' L:aA}(h:Ext w X D)(a:qf5 w L D D'):Ext w X D':=by have:=Ext.X1 (Y:=[]) (by simpa using h) a;simpa using this
def Hp.qL0{w0 w:hW}{X:aA}(h:Hp w0 [] w)(a:∀p,p∈X->w0.heap[p.1]? =some p.2)(c:(keys X).Nodup):Hp w0 X w:=by refine⟨fun b o d=>?_,c,fun b e _=>h.Wo b e Wg,h.size,h.tape,h.os,h.output⟩;have:=a (b,o) d;simp only at this;rw[h.Wo b (Array.getElem?_eq_some_iff.1 this).1 Wg];exact this
def Va.Vs{P:h_}{k:FuncId}{a:Func}{c:Code}{rs:List ResultVar}{b:Array hU}{w:hW}{S:hU->aA->Prop}{n:Nat}{X:aA}
  (d:P.funcs[k]? =some a) (e:a.body=some c) (f:a.results=rs.toArray) (g:a.ntmps=n) (i:∀p,p∈X->w.heap[p.1]? =some p.2) (j:(keys X).Nodup)
  (h:Cw P w c (b.toList++List.replicate (n - b.size) undef) X (qL2 P w rs (XS w X S))):Va P k b w (XS w X S):=
 Va.enter d e f g fun l m=>h l (m.qL0 i j)
section
variable {P:h_} {w0:hW} {f:Fr} {L:aA} {N:Fr->aA->Prop} {ops:Array Oper} {rest:List Oper} {md:Md}
 {d:Option Tmp} {ty:h7} {ps:String} {af:Array Edge} {g:Option (Nat×Bool)}
def Ow.Wa{l:List Operand}{ts:Array h7}{k:FuncId}{X Y:aA}{S:hU->aA->Prop}{s:Md}(z:L=X++Y)(o:md.WM=some s)
  (A:ay ops f ⟨d,.call ⟨.value (.func k),l.toArray,ts⟩,ty,ps,af,g⟩=false)
  (C:∀a w,(callFunc k a).run P w=.ok (.enter k a) w)
  (i:∀w,Hp w0 L w->(∀p,p∈X->w.heap[p.1]? =some p.2)->(keys X).Nodup->Va P k (l.map (ev f)).toArray w (XS w X S))
  (E:∀v D,qf5 w0 L X D->S v D->Ow P w0 ops s rest (aa f d v) (D++Y) N):
  Ow P w0 ops md (⟨d,.call ⟨.value (.func k),l.toArray,ts⟩,ty,ps,af,g⟩::rest) f L N:=by
 subst z;have t:∀w,Hp w0 (X++Y) w->(keys X).Nodup/\ ∀c,c∈keys Y->c∉keys X:=by intro w j;have:=j.nodup;rw[aV,XR] at this;exact⟨this.1,fun c i n=>this.2.2 c n c i rfl⟩
 refine Ow.qb2 (S:=fun B v D=>((∀c,c∈keys D->c∈keys X\/B<=c)/\(∀c,c∈keys X->c∈keys D)/\S v D)/\ ∃w,Hp w0 (X++Y) w/\w.heap.size=B) o A C (fun w j=>?_) ?_
 .refine Calls.mono (i w j (fun p m=>j.has _ _ (aq _ m)) (t w j).1) ?_;rintro e F ⟨v,D,o,m,q⟩;exact⟨v,D,o,m,⟨q.1.new,q.1.all,q.2⟩,w,j,rfl⟩
 rintro B v D O Q ⟨⟨u,x,G⟩,R,y,T⟩;refine⟨D++Y,?_,E v D ⟨fun c i=>(u c i).imp id fun h=>⟨ef fun b H=>by have:=y.lt H;omega,by have:=y.size;omega⟩,x⟩ G⟩;intro w F U h k;have r:=h.trans k;have I:∀c,c∈keys Y->c∉keys D:=by
  intro c i J;rcases u c J with n|n
  .exact(t w h).2 c i n
  have:=h.lt (b:=c) (by rw[aV];exact cJ _ i);omega
 have K:X.filter (fun p=> !(keys D).contains p.1)=[]:=by rw[List.filter_eq_nil_iff];intro p m;have:=x p.1 (List.mem_map.2 ⟨p,m,rfl⟩);simpa using this
 have M:Y.filter (fun p=> !(keys D).contains p.1)=Y:=BT I;rw[List.filter_append,K,M,Vy] at r;refine r.same (fun p=>by simp[or_comm]) ?_;have:=r.nodup;rw[aV] at this |-;exact(Y4.nodup_iff).1 this
end
structure qh3{α:Type}(enc:α->hU)(z:α)(w:hW)(v:hU)(l:List α)(b off:Nat)(arr:Array hU)(E:h7)(fz:Nat×Nat):Prop where
 len:∀m,Yw (.sl m) v=some (vi l.length)
 idx:∀m (k:Nat),k<l.length->ez (.sl m) v (some (k:Int))=some (vp b (off+k*m.2))
 has:0<l.length->w.heap[b]? =some (.cells arr E fz)
 get:∀k,k<l.length->arr[off+k]? =some (enc (l.getD k z))
def qh3.sl{α:Type}{enc:α->hU}{z:α}{w:hW}{l:List α}{b off n c:Nat}{arr:Array hU}{E:h7}{fz:Nat×Nat}(a:n=l.length)
  (has:w.heap[b]? =some (.cells arr E fz)) (get:∀k,k<l.length->arr[off+k]? =some (enc (l.getD k z))):qh3 enc z w (Xr b off n c) l b off arr E fz:=by
 subst a;exact⟨fun _=>rfl,fun m k h=>by rw[j5 _ _ _ _ _ _ oM];simp,fun _=>has,get⟩
def qh3.lit{α:Type}{enc:α->hU}{z:α}{w:hW}{b n c:Nat}{E:h7}{fz:Nat×Nat}{arr:Array hU}(l:List α)(a:n=l.length)(d:arr=(l.map enc).toArray)(has:w.heap[b]? =some (.cells arr E fz)):qh3 enc z w (Xr b 0 n c) l b 0 arr E fz:=
 qh3.sl a has (by intro k e;rw[d,Xg,List.getElem?_toArray,List.getElem?_map,List.getD_eq_getElem?_getD,List.getElem?_eq_getElem e];rfl)
def nA{L:aA}{b:Nat}{o x:Obj}(h:cy L b):Vh (L++[(b,o)]) b x=L++[(b,x)]:=by
 induction L with
 |nil=>simp[Vh]
 |cons p r a=>obtain⟨c,y⟩:=p;simp only[Wp,Vh];rw[tr (fun e=>Xk _ (e▸h.1)),a h.2]
structure WL{α:Type}(m:Nat)(enc:α->List hU)(z:α)(w:hW)(v:hU)(l:List α)(b off:Nat)(arr:Array hU)(E:h7)(fz:Nat×Nat):Prop where
 len:∀x,Yw (.sl x) v=some (vi l.length)
 idx:∀a (k:Nat),k<l.length->ez (.sl (a,m)) v (some (k:Int))=some (vp b (off+k*m))
 has:0<l.length->w.heap[b]? =some (.cells arr E fz)
 get:∀k,k<l.length-> ∀j,j<m->arr[off+k*m+j]? =(enc (l.getD k z))[j]?
def WL.sl{α:Type}{m:Nat}{enc:α->List hU}{z:α}{w:hW}{l:List α}{b off n c:Nat}{arr:Array hU}{E:h7}{fz:Nat×Nat}(d:n=l.length)
  (has:w.heap[b]? =some (.cells arr E fz)) (get:∀k,k<l.length-> ∀j,j<m->arr[off+k*m+j]? =(enc (l.getD k z))[j]?):WL m enc z w (Xr b off n c) l b off arr E fz:=by
 subst d;exact⟨fun _=>rfl,fun a k h=>by rw[j5 _ _ _ _ _ _ oM];simp,fun _=>has,get⟩
def WL.nil{α:Type}{m:Nat}{enc:α->List hU}{z:α}(w:hW)(n c:Nat)(a:n=0):WL m enc z w (.slice none n c) [] 0 0 #[] 0 (0,0):=by subst a;exact⟨fun _=>rfl,fun _ _ h=>Vx h (Yy _),fun h=>Vx h (Yy _),fun _ h=>Vx h (Yy _)⟩
def WL.load{α:Type}{m:Nat}{enc:α->List hU}{z:α}{w:hW}{v:hU}{l:List α}{b off:Nat}{arr:Array hU}{E:h7}{fz:Nat×Nat}(h:WL m enc z w v l b off arr E fz)(a:∀x,(enc x).length=m)(i:0<m){k:Nat}(e:k<l.length):
  aF (some (true,m)) (some (.cells arr E fz)) (off+k*m)=some (.agg (enc (l.getD k z)).toArray):=by
 have c:=h.get k e;have f:off+k*m+m<=arr.size:=by have d:=c (m - 1) oM;rw[List.getElem?_eq_getElem (by rw[a];omega)] at d;have:=(Array.getElem?_eq_some_iff.1 d).1;omega
 simp only[aF,f,↓reduceIte];congr 2;apply Array.ext_getElem?;intro j;rw[Array.getElem?_extract];by_cases g:j<m
 .rw[Vb oM,c j g,List.getElem?_toArray]
 rw[tr oM,List.getElem?_toArray,List.getElem?_eq_none (by rw[a];omega)]
def WL.cell{α:Type}{m:Nat}{enc:α->List hU}{z:α}{w:hW}{v:hU}{l:List α}{b off:Nat}{arr:Array hU}{E:h7}{fz:Nat×Nat}(h:WL m enc z w v l b off arr E fz){k j n:Nat}(a:k<l.length)(c:j<m):
  aF (some (false,n)) (some (.cells arr E fz)) (off+k*m+j)=(enc (l.getD k z))[j]? :=h.get k a j c
end Go.Sx
namespace Go.Sx
open Go
section
variable {P:h_} {w0:hW} {f:Fr} {L:aA} {N:Fr->aA->Prop} {ops:Array Oper} {rest:List Oper} {md:Md}
 {d:Option Tmp} {ty:h7} {ps:String} {af:Array Edge} {g:Option (Nat×Bool)}
def VC(l:No)(k size:Nat)(w:hW):(Builtin.firstCells size k (vs l)).run P w=.ok ((l.take k).map v8).toArray w:=by
 simp only[vs,Builtin.firstCells];show Result.ok _ w=_;congr 1;have:((ByteArray.mk l.toArray).extract 0 k).data=(l.take k).toArray:=by rw[ByteArray.data_extract];simp
 rw[this];simp
 rfl
def bA(R:List Nat)(x:Vf):Z6 R (v8 x)=true:=(rfl)
def gd(R:List Nat)(x:UInt16):Z6 R (v16 x)=true:=(rfl)
def iG(R:List Nat)(x:UInt32):Z6 R (v32 x)=true:=(rfl)
def iF(R:List Nat)(x:UInt64):Z6 R (v64 x)=true:=(rfl)
def b9(R:List Nat)(x:Int):Z6 R (vi x)=true:=(rfl)
def Ow.qo8{a h e:h7}{m:Bool×Nat}{x y:Operand}{b off n c:Nat}{l:No}{cs:Array hU}{E:h7}{i:Md}(p:md.WM=some i)
  (q:ay ops f ⟨d,.call ⟨.builtin .copy,#[x,y],#[a,h]⟩,ty,ps,af,g⟩=false) (r:P.underlying a=some (.slice e)) (s:aU P e=some m)
  (t:ev f x=Xr b off n c) (u:ev f y=vs l) (j:look L b=some (.cells cs E (0,0))) (C:off+n<=cs.size)
  (v:Ow P w0 ops i rest (aa f d (vi (min l.length n:Nat))) (Vh L b (.cells (cU cs off ((l.take (min l.length n)).map v8)) E (0,0))) N):
  Ow P w0 ops md (⟨d,.call ⟨.builtin .copy,#[x,y],#[a,h]⟩,ty,ps,af,g⟩::rest) f L N:=by
 refine Ow.step p rfl q fun w k=>?_;have o:=k.has _ _ (bU j);have D:=(Array.getElem?_eq_some_iff.1 o).1;have z:(Builtin.lenOf (vs l)).run P w=.ok l.length w:=by simp only[vs,Builtin.lenOf,mJ];rfl
 have A:=VC (P:=P) l (min l.length n) m.2 w;have B:=Cr (P:=P) (b:=b) (off:=off) (E:=E) (fz:=(0,0)) ((l.take (min l.length n)).map v8) 0 cs w o (by rw[Wx,W3];have:=Nat.min_le_right l.length n;omega) (.inl (aj 0)) (by rw[List.all_map,XX];intro x _;rfl);refine .inl ⟨vi (min l.length n:Nat),{w with heap:=w.heap.setIfInBounds b (.cells (cU cs off ((l.take (min l.length n)).map v8)) E (0,0))},_,?_,k.set (bO j) rfl rfl rfl rfl,v⟩;simp only[execOp,resolve,Vp,Wm,VT,invoke,builtin,XM,VY,Wr,t,u];have:(Builtin.copy_ #[a,h] ty #[Xr b off n c,vs l]).run P w=.ok (vi (min l.length n:Nat)) {w with heap:=w.heap.setIfInBounds b (.cells (cU cs off ((l.take (min l.length n)).map v8)) E (0,0))}:=by
  simp only[Builtin.copy_,Xr,List.getElem?_toArray,List.getElem?_cons_zero,List.getElem?_cons_succ,Vp,Wn r w,VT,z,ei s w];rw[show l.length.min n=min l.length n from rfl,A];simp only[VT];rw[B]
  rfl
 rw[this]
 rfl
end
end Go.Sx
namespace Go.Sx
open Go
section
variable {P:h_} {w0:hW} {f:Fr} {L:aA} {N:Fr->aA->Prop} {ops:Array Oper} {rest:List Oper} {md:Md}
 {d:Option Tmp} {ty:h7} {ps:String} {af:Array Edge} {g:Option (Nat×Bool)}
def Zh(n:Int):hU:=.int .i32 n
def P0(op:BinOp)(t:h7)(a b:Int):ak P op t (Zh a) (Zh b)=aM op (Zh a) (Zh b):=(rfl)
def Gd(a b:Int):aM .lss (Zh a) (Zh b)=some (.bool (decide (a<b))):=by simp[aM,Zh,cZ,qb4]
def Hc(a b:Int):aM .gtr (Zh a) (Zh b)=some (.bool (decide (b<a))):=by simp[aM,Zh,cZ,qb4]
def Gp(a b:Int):aM .eql (Zh a) (Zh b)=some (.bool (a==b)):=by simp[aM,Zh,cZ,qb4]
def Pf(n:Int):Value.int .i32 n=Zh n:=(rfl)
def Ow.qk2{x y:Operand}{ts:Array h7}{k:FuncId}{v a:hU}(b:ay ops f ⟨d,.call ⟨.value x,#[y],ts⟩,ty,ps,af,g⟩=false)(c:ev f x=.func (.func k) #[] #[])(e:ev f y=a)
  (h:∀a w,(callFunc k a).run P w=.ok (.enter k a) w) (i:∀w,Hp w0 L w->Va P k #[a] w (fun j D=>j=v/\D=[])) (l:Ow P w0 ops md.next rest (aa f d v) L N):
  Ow P w0 ops md (⟨d,.call ⟨.value x,#[y],ts⟩,ty,ps,af,g⟩::rest) f L N:=
 Ow.qz5 b c h (fun w m=>by simpa [e] using i w m) l
def Ow.qn0{t:h7}{x:Operand}{l:No}{c:Md}(e:md.WM=some c)(h:ay ops f ⟨d,.range t x,ty,ps,af,g⟩=false)(i:P.underlying t=some .string)(j:ev f x=vs l)
  (k:∀b,cy L b->w0.heap.size<=b->Ow P w0 ops c rest (aa f d (vp b 0)) (L++[(b,.stringIter ⟨l.toArray⟩ 0)]) N):
  Ow P w0 ops md (⟨d,.range t x,ty,ps,af,g⟩::rest) f L N:=by
 refine Ow.step e rfl h fun w a=>.inl ⟨vp w.heap.size 0,w.alloc (.stringIter ⟨l.toArray⟩ 0),_,?_,a.alloc _,k _ (ef fun b m=>a.lt m) a.size⟩;simp only[execOp,Instr.range,Vp,Wn i w,VT,j,vs]
 rfl
def Ow.qp7{x:Operand}{b:Nat}{l:No}{a:Nat}{c:Md}(j:md.WM=some c)(k:ay ops f ⟨d,.next x true,ty,ps,af,g⟩=false)(m:ev f x=vp b 0)(e:look L b=some (.stringIter ⟨l.toArray⟩ a))(n:a<l.length)
  (p:Ow P w0 ops c rest (aa f d (.tuple #[.bool true,vi a,Zh (Utf8.decode ⟨l.toArray⟩ a).1])) (Vh L b (.stringIter ⟨l.toArray⟩ (a+ (Utf8.decode ⟨l.toArray⟩ a).2))) N):
  Ow P w0 ops md (⟨d,.next x true,ty,ps,af,g⟩::rest) f L N:=by
 refine Ow.step j rfl k fun w h=>?_;have i:=h.has _ _ (bU e);refine .inl ⟨_,{w with heap:=w.heap.setIfInBounds b (.stringIter ⟨l.toArray⟩ (a+ (Utf8.decode ⟨l.toArray⟩ a).2))},_,?_,h.set (bO e) rfl rfl rfl rfl,p⟩;have q:(getObj b).run P w=.ok (.stringIter ⟨l.toArray⟩ a) w:=by simp only[getObj,Sem.run,i]
 have r:∀o,(setObj b o).run P w=.ok () {w with heap:=w.heap.setIfInBounds b o}:=by intro o;simp only[setObj,Sem.run,i]
 have s:a< (ByteArray.mk l.toArray).size:=by rw[mJ];exact n
 have:(Instr.next (vp b 0) true ty).run P w=.ok (.tuple #[.bool true,vi a,Zh (Utf8.decode ⟨l.toArray⟩ a).1]) {w with heap:=w.heap.setIfInBounds b (.stringIter ⟨l.toArray⟩ (a+ (Utf8.decode ⟨l.toArray⟩ a).2))}:=by
  simp only[Instr.next,vp,Vp,q,VT,s,↓reduceIte,r]
  rfl
 simp only[execOp,Vp,m];rw[this]
 rfl
def Ow.qp6{x:Operand}{b:Nat}{l:No}{a:Nat}{c:Md}(h:md.WM=some c)(i:ay ops f ⟨d,.next x true,ty,ps,af,g⟩=false)(j:ev f x=vp b 0)(k:look L b=some (.stringIter ⟨l.toArray⟩ a))(m:¬a<l.length)
  (n:Ow P w0 ops c rest (aa f d (.tuple #[.bool false])) L N):
  Ow P w0 ops md (⟨d,.next x true,ty,ps,af,g⟩::rest) f L N:=by
 refine Ow.step h rfl i fun w e=>?_;have o:=e.has _ _ (bU k);refine .inl ⟨.tuple #[.bool false],w,_,?_,e,n⟩;have p:(getObj b).run P w=.ok (.stringIter ⟨l.toArray⟩ a) w:=by simp only[getObj,Sem.run,o]
 have q:¬a< (ByteArray.mk l.toArray).size:=by rw[mJ];exact m
 have:(Instr.next (vp b 0) true ty).run P w=.ok (.tuple #[.bool false]) w:=by
  simp only[Instr.next,vp,Vp,p,VT,q,↓reduceIte]
  rfl
 simp only[execOp,Vp,j];rw[this]
 rfl
end
def Gj(l:No)(i:Nat)(h:i<l.length):0< (Utf8.decode ⟨l.toArray⟩ i).2/\
  ((l.getD i 0).toNat<128->Utf8.decode ⟨l.toArray⟩ i=((l.getD i 0).toNat,1))/\(128<= (l.getD i 0).toNat->128<= (Utf8.decode ⟨l.toArray⟩ i).1):=by
 have c:((ByteArray.mk l.toArray).get! (i+0))=l.getD i 0:=by simp[ByteArray.get!,h]
 unfold Utf8.decode;simp only[c];generalize (l.getD i 0).toNat=d;refine⟨?_,fun b=>?_,fun b=>?_⟩
 ·(repeat' split)<;>simp
 .rw[Vb b]
 rw[tr oM]
 (repeat' split)<;>first
  | (simp only[Utf8.runeError];omega)
  | (rename_i a;simp only[WK,XN,ge_iff_le] at a;omega)
  | (rename_i a;simp only[ge_iff_le] at a;omega)
end Go.Sx
namespace Go.Sx
open Go
abbrev ab:=List (No×No)
def fnd(k:No):ab->Nat->Option (Nat×No)
 | [],_=>none
 |p::r,i=>if k==p.1 then some (i,p.2) else fnd k r (i+1)
def Zt(k v:No):ab->ab
 | []=>[(k,v)]
 |p::r=>if k==p.1 then(p.1,v)::r else p::Zt k v r
def qd9(k:No):ab->ab
 | []=>[]
 |p::r=>if k==p.1 then r else p::qd9 k r
def fg(p:No×No):hU×hU:=(vs p.1,.agg (a8 p.2))
def qa2(o:Obj)(m:ab):Prop:= ∃a b,o=.map a b/\a.toList.map (fun e=>(e.key,e.val))=m.map fg/\(a.toList.map (·.born)++[b]).Pairwise (· < ·)
def tg{f:List MapEntry}{c:Nat}{e:MapEntry}(h:(f.map (·.born)++[c]).Pairwise (· < ·))(i:e.born=c):((f++[e]).map (·.born)++[c+1]).Pairwise (· < ·):=by
 rw[We,VY,Wr,i];refine List.pairwise_append.2 ⟨h,qc0 _ _,?_⟩;intro a j b g;rw[VZ] at g;subst g;rcases Wu.1 j with d|d
 .have:=(List.pairwise_append.1 h).2.2 a d c (VZ.2 rfl);omega
 rw[VZ] at d;omega
def UO{a:List MapEntry}{j:Nat}{g:MapEntry->MapEntry}(b:∀e,(g e).born=e.born):(a.modify j g).map (·.born)=a.map (·.born):=by
 apply List.ext_getElem?;intro i;rw[List.getElem?_map,List.getElem?_map,List.getElem?_modify];cases a[i]? with
 |none=>rfl
 |some e=>
  by_cases h:j=i
  .simp[h,b]
  simp[h]
def rV{a:List MapEntry}{c j:Nat}(h:(a.map (·.born)++[c]).Pairwise (· < ·)):((a.eraseIdx j).map (·.born)++[c]).Pairwise (· < ·):=
 h.sublist (((List.eraseIdx_sublist a j).map _).append_right [c])
def mq(a b:No):((ByteArray.mk a.toArray)==(ByteArray.mk b.toArray))=(a==b):=by show(a.toArray==b.toArray)=(a==b);simp
theorem r_(k:No):∀ (a:List MapEntry) (m:ab) (i:Nat),a.map (fun e=>(e.key,e.val))=m.map fg->
  Instr.findNow .string (vs k) a i=some ((fnd k m i).map fun p=>(p.1,.agg (a8 p.2)))
 | [],[],i,_=>rfl
 | [],_::_,_,h=>by cases h
 |_::_,[],_,h=>by cases h
 |e::a,p::m,i,h=>by
  simp only[VY,List.cons.injEq,fg,Xp] at h;obtain⟨⟨b,c⟩,d⟩:=h;unfold Instr.findNow;have f:Instr.sameNow .string (vs k) e.key=some (k==p.1):=by rw[b];simp only[vs,Instr.sameNow,mq]
  rw[f];unfold fnd;cases g:(k==p.1)
  .simp only[VW,↓reduceIte];exact r_ k a m (i+1) d
  simp[c]
theorem CO(k:No):∀ (m:ab) (i j:Nat) (v:No),fnd k m i=some (j,v)->i<=j/\ ∃a,m[j - i]? =some (k,a)/\a=v
 | [],_,_,_,h=>by cases h
 |p::r,i,j,v,h=>by
  unfold fnd at h
  split at h
  .rename_i b;cases h;refine⟨aj _,p.2,?_,rfl⟩;rw[Nat.sub_self,List.getElem?_cons_zero,eq_of_beq b]
  obtain⟨e,a,c,d⟩:=CO k r (i+1) j v h;refine⟨by omega,a,?_,d⟩;rw[show j - i=(j - (i+1))+1 by omega,List.getElem?_cons_succ];exact c
theorem tF(k v:No):∀ (b:List MapEntry) (m:ab) (i j:Nat) (a:No),b.map (fun e=>(e.key,e.val))=m.map fg->fnd k m i=some (j,a)->
  (b.modify (j - i) fun e=>{e with key:=vs k,val:=.agg (a8 v)}).map (fun e=>(e.key,e.val))=(Zt k v m).map fg
 | [],[],_,_,_,_,h=>by cases h
 | [],_::_,_,_,_,h,_=>by cases h
 |_::_,[],_,_,_,h,_=>by cases h
 |e::b,p::m,i,j,a,h,hf=>by
  simp only[VY,List.cons.injEq,fg,Xp] at h;obtain⟨⟨f,g⟩,d⟩:=h;unfold fnd at hf;unfold Zt
  split at hf
  .rename_i c;cases hf;rw[Vb c,Nat.sub_self];simp only[List.modify_zero_cons,VY,fg,eq_of_beq c];rw[d]
  rename_i c;have l:=(CO k m (i+1) j a hf).1;rw[tr c,show j - i=(j - (i+1))+1 by omega];simp only[List.modify_succ_cons,VY,fg];rw[tF k v b m (i+1) j a d hf,f,g]
theorem th(k v:No):∀ (m:ab) (i:Nat),fnd k m i=none->Zt k v m=m++[(k,v)]
 | [],_,_=>rfl
 |p::r,i,h=>by
  unfold fnd at h
  split at h
  .cases h
  rename_i a;unfold Zt;rw[tr a,th k v r (i+1) h];rfl
theorem tO(k:No):∀ (b:List MapEntry) (m:ab) (i j:Nat) (a:No),b.map (fun e=>(e.key,e.val))=m.map fg->fnd k m i=some (j,a)->
  (b.eraseIdx (j - i)).map (fun e=>(e.key,e.val))=(qd9 k m).map fg
 | [],[],_,_,_,_,h=>by cases h
 | [],_::_,_,_,_,h,_=>by cases h
 |_::_,[],_,_,_,h,_=>by cases h
 |e::b,p::m,i,j,a,h,hf=>by
  simp only[VY,List.cons.injEq] at h;obtain⟨f,d⟩:=h;unfold fnd at hf;unfold qd9
  split at hf
  .rename_i c;cases hf;rw[Vb c,Nat.sub_self];exact d
  rename_i c;have g:=(CO k m (i+1) j a hf).1;rw[tr c,show j - i=(j - (i+1))+1 by omega];simp only[List.eraseIdx_cons_succ,VY];rw[tO k b m (i+1) j a d hf,f]
theorem tu(k:No):∀ (m:ab) (i:Nat),fnd k m i=none->qd9 k m=m
 | [],_,_=>rfl
 |p::r,i,h=>by
  unfold fnd at h
  split at h
  .cases h
  rename_i a;unfold qd9;rw[tr a,tu k r (i+1) h]
section
variable {P:h_} {w0:hW} {f:Fr} {L:aA} {N:Fr->aA->Prop} {ops:Array Oper} {rest:List Oper} {md:Md}
 {d:Option Tmp} {ty:h7} {ps:String} {af:Array Edge} {g:Option (Nat×Bool)}
def DH{w:hW}{t:h7}(b:P.underlying t=some .string)(k:No)(a:List MapEntry)(m:ab)(h:a.map (fun e=>(e.key,e.val))=m.map fg):
  (Instr.findKey t (vs k) a).run P w=.ok ((fnd k m 0).map fun p=>(p.1,.agg (a8 p.2))) w:=by
 simp only[Instr.findKey,Vp,Wn b w,VT,r_ k a m 0 h]
 rfl
def qH{w:hW}{t:h7}(a:P.underlying t=some .string)(e:Bool)(k:No):(Instr.checkKey e 10000 t (vs k)).run P w=.ok () w:=by
 unfold Instr.checkKey;simp only[Vp,Wn a w,VT,vs]
 rfl
def gX{w:hW}{b:Nat}{a:Array MapEntry}{c:Nat}(d:w.heap[b]? =some (.map a c)):(getObj b).run P w=.ok (.map a c) w:=by simp only[getObj,Sem.run,d]
def mA{w:hW}{b:Nat}{a:Array MapEntry}{c:Nat}(d:w.heap[b]? =some (.map a c))(o:Obj):(setObj b o).run P w=.ok () {w with heap:=w.heap.setIfInBounds b o}:=by simp only[setObj,Sem.run,d]
def vm(b:Nat):hU:=.map (some b)
theorem Ow.makeMap{t:h7}{c:Md}(e:md.WM=some c)(h:ay ops f ⟨d,.makeMap t none,ty,ps,af,g⟩=false)
  (i:∀b o,cy L b->w0.heap.size<=b->qa2 o []->Ow P w0 ops c rest (aa f d (vm b)) (L++[(b,o)]) N):
  Ow P w0 ops md (⟨d,.makeMap t none,ty,ps,af,g⟩::rest) f L N:=by
 refine Ow.step e rfl h fun w a=>.inl ⟨vm w.heap.size,w.alloc (.map #[] 0),_,?_,a.alloc _,i _ _ (ef fun b j=>a.lt j) a.size ⟨#[],0,rfl,rfl,qc0 _ _⟩⟩;simp only[execOp,Instr.makeMap,Vp,YL]
 rfl
def Ow.qp4{t j vt:h7}{x:Operand}{b:Nat}{o:Obj}{m:ab}(k:ay ops f ⟨d,.call ⟨.builtin .len,#[x],#[t]⟩,ty,ps,af,g⟩=false)(l:md=.seq)(n:P.underlying t=some (.map j vt))(p:ev f x=vm b)(e:aG w0 L b=some o)(q:qa2 o m)
  (r:Ow P w0 ops md rest (aa f d (vi m.length)) L N):Ow P w0 ops md (⟨d,.call ⟨.builtin .len,#[x],#[t]⟩,ty,ps,af,g⟩::rest) f L N:=by
 subst l;obtain⟨s,c,rfl,u,-⟩:=q;have y:s.size=m.length:=by have:=Wc List.length u;simpa using this
 intro w a;have h:=a.read e;have z:OpS P w0 f L ⟨d,.call ⟨.builtin .len,#[x],#[t]⟩,ty,ps,af,g⟩ (fun v i=>v=vi m.length/\i=L):=by
  intro w a;have h:=a.read e;refine .inl ⟨_,w,L,?_,a,rfl,rfl⟩;simp only[execOp,resolve,Vp,Wm,VT,invoke,builtin,XM,VY,Wr,p];have:(Builtin.len_ #[t] ty #[vm b]).run P w=.ok (vi m.length) w:=by
   simp only[Builtin.len_,vm,List.getElem?_toArray,List.getElem?_cons_zero,Vp,Wn n w,VT,gX h,y]
   rfl
  rw[this];rfl
 unfold wpList;rw[gW,k];simp only[W6,↓reduceIte];exact .inl (z.wp (fun v i A B ⟨C,D⟩=>by subst C;subst D;exact r A B) a)
def QG{k:No}{m:ab}{b:List MapEntry}{j:Nat}{a:No}(h:b.map (fun e=>(e.key,e.val))=m.map fg)(f:fnd k m 0=some (j,a)):∃e,b[j]? =some e/\e.key=vs k:=by
 obtain⟨-,g,c,rfl⟩:=CO k m 0 j a f;rw[Nat.sub_zero] at c;have:=Wc (·[j]?) h;simp only[List.getElem?_map,c,Ws] at this;cases d:b[j]? with
 |none=>rw[d] at this;cases this
 |some e=>rw[d] at this;simp only[Ws,WD,fg,Xp] at this;exact⟨e,rfl,this.1⟩
theorem Ow.mapUpdate{t A vt:h7}{x y z:Operand}{b:Nat}{o:Obj}{m:ab}{k v:No}{B:Md}(J:md.WM=some B)(K:ay ops f ⟨d,.mapUpdate t x y z,ty,ps,af,g⟩=false)(C:P.underlying t=some (.map A vt))(r:P.underlying A=some .string)
  (D:ev f x=vm b) (E:ev f y=vs k) (F:ev f z=.agg (a8 v)) (s:look L b=some o) (M:qa2 o m)
  (G:∀H,qa2 H (Zt k v m)->Ow P w0 ops B rest (aa f d undef) (Vh L b H) N):
  Ow P w0 ops md (⟨d,.mapUpdate t x y z,ty,ps,af,g⟩::rest) f L N:=by
 obtain⟨h,c,rfl,l,I⟩:=M;refine Ow.step J rfl K fun w u=>?_;have n:=u.has _ _ (bU s);have q:=DH (w:=w) r k h.toList m l;cases i:fnd k m 0 with
 |none=>
  rw[i] at q;refine .inr (.inl ⟨{w with heap:=w.heap.setIfInBounds b (.map (h.push {key:=vs k,val:=.agg (a8 v),born:=c}) (c+1))},_,?_,u.set (bO s) rfl rfl rfl rfl,G _ ⟨_,_,rfl,?_,by rw[Array.toList_push];exact tg I rfl⟩⟩)
  .have:(Instr.mapUpdate t (vm b) (vs k) (.agg (a8 v))).run P w=.ok () {w with heap:=w.heap.setIfInBounds b (.map (h.push {key:=vs k,val:=.agg (a8 v),born:=c}) (c+1))}:=by
    simp only[Instr.mapUpdate,vm,Vp,Wn C w,VT,gX n,qH r,q,YL,mA n]
   simp only[execOp,Vp,D,E,F];rw[this];rfl
  rw[th k v m 0 i,Array.toList_push,We,l,We];rfl
 |some p=>
  obtain⟨j,a⟩:=p;rw[i] at q;obtain⟨e,O,Q⟩:=QG l i;have R:h[j]? =some e:=by simpa using O
  have S:(Instr.keyThatStays (((h[j]?).map (·.key)).getD (vs k)) (vs k)).run P w=.ok (vs k) w:=by
   rw[R,Ws,Option.getD_some,Q];unfold Instr.keyThatStays;have:Instr.sameBits 10000 (vs k) (vs k)=true:=by simp[vs,Instr.sameBits,mq]
   rw[Vb this];rfl
  refine .inr (.inl ⟨{w with heap:=w.heap.setIfInBounds b (.map (h.modify j fun e=>{e with key:=vs k,val:=.agg (a8 v)}) c)},_,?_,u.set (bO s) rfl rfl rfl rfl,G _ ⟨_,_,rfl,?_,by rw[Array.toList_modify,UO (g:=fun e=>{e with key:=vs k,val:=.agg (a8 v)}) fun _=>rfl];exact I⟩⟩)
  .have:(Instr.mapUpdate t (vm b) (vs k) (.agg (a8 v))).run P w=.ok () {w with heap:=w.heap.setIfInBounds b (.map (h.modify j fun e=>{e with key:=vs k,val:=.agg (a8 v)}) c)}:=by
    simp only[Instr.mapUpdate,vm,Vp,Wn C w,VT,gX n,qH r,q,Ws,S,mA n]
   simp only[execOp,Vp,D,E,F];rw[this];rfl
  rw[Array.toList_modify];have:=tF k v h.toList m 0 j a l i;rw[Nat.sub_zero] at this;exact this
def Ow.qm8{t v vt:h7}{x y:Operand}{h:h7}{b:Nat}{o:Obj}{m:ab}{k:No}{z:Md}(G:md.WM=some z)(H:ay ops f ⟨d,.call ⟨.builtin .delete,#[x,y],#[t,h]⟩,ty,ps,af,g⟩=false)(A:P.underlying t=some (.map v vt))(q:P.underlying v=some .string)
  (B:ev f x=vm b) (C:ev f y=vs k) (r:look L b=some o) (I:qa2 o m)
  (D:∀E,qa2 E (qd9 k m)->Ow P w0 ops z rest (aa f d (.tuple #[])) (Vh L b E) N):
  Ow P w0 ops md (⟨d,.call ⟨.builtin .delete,#[x,y],#[t,h]⟩,ty,ps,af,g⟩::rest) f L N:=by
 obtain⟨e,c,rfl,s,F⟩:=I;refine Ow.step G rfl H fun w u=>?_;have i:=u.has _ _ (bU r);have l:=DH (w:=w) q k e.toList m s;cases n:fnd k m 0 with
 |none=>
  rw[n] at l;refine .inl ⟨.tuple #[],{w with heap:=w.heap.setIfInBounds b (.map e c)},_,?_,u.set (bO r) rfl rfl rfl rfl,D _ ⟨e,c,rfl,by rw[tu k m 0 n];exact s,F⟩⟩;have:(Builtin.delete_ #[t,h] ty #[vm b,vs k]).run P w=.ok (.tuple #[]) {w with heap:=w.heap.setIfInBounds b (.map e c)}:=by
   simp only[Builtin.delete_,vm,List.getElem?_toArray,List.getElem?_cons_zero,List.getElem?_cons_succ,Vp,Wn A w,VT,gX i,qH q,l,YL,mA i]
   rfl
  simp only[execOp,resolve,Vp,Wm,VT,invoke,builtin,XM,VY,Wr,B,C];rw[this];rfl
 |some p=>
  obtain⟨j,a⟩:=p;rw[n] at l;refine .inl ⟨.tuple #[],{w with heap:=w.heap.setIfInBounds b (.map (e.eraseIdxIfInBounds j) c)},_,?_,u.set (bO r) rfl rfl rfl rfl,D _ ⟨_,c,rfl,?_,by rw[Array.toList_eraseIdxIfInBounds];exact rV F⟩⟩
  .have:(Builtin.delete_ #[t,h] ty #[vm b,vs k]).run P w=.ok (.tuple #[]) {w with heap:=w.heap.setIfInBounds b (.map (e.eraseIdxIfInBounds j) c)}:=by
    simp only[Builtin.delete_,vm,List.getElem?_toArray,List.getElem?_cons_zero,List.getElem?_cons_succ,Vp,Wn A w,VT,gX i,qH q,l,Ws,mA i]
    rfl
   simp only[execOp,resolve,Vp,Wm,VT,invoke,builtin,XM,VY,Wr,B,C];rw[this];rfl
  have:=tO k e.toList m 0 j a s n;rw[Nat.sub_zero] at this;rw[<-this];simp
end
end Go.Sx
namespace Go.Sx
open Go
section
variable {P:h_} {w0:hW} {f:Fr} {L:aA} {N:Fr->aA->Prop} {ops:Array Oper} {rest:List Oper} {md:Md}
 {d:Option Tmp} {ty:h7} {ps:String} {af:Array Edge} {g:Option (Nat×Bool)}
def ZD(k:No)(z:No)(m:ab):No:=match m.find? fun p=>k==p.1 with|some p=>p.2|none=>z
theorem vq(k:No):∀ (m:ab) (i:Nat),(fnd k m i).map Prod.snd=(m.find? fun p=>k==p.1).map Prod.snd
 | [],_=>rfl
 |p::r,i=>by
  unfold fnd;rw[List.find?_cons];cases h:(k==p.1)
  .simp only[VW,↓reduceIte];exact vq k r (i+1)
  rfl
def Ow.qE4{t q vt:h7}{x y:Operand}{b:Nat}{o:Obj}{m:ab}{k z:No}{r:Md}(B:md.WM=some r)(C:ay ops f ⟨d,.lookup t x y false,ty,ps,af,g⟩=false)(s:P.underlying t=some (.map q vt))(l:P.underlying q=some .string)
  (D:ac P vt=some (.agg (a8 z))) (E:ev f x=vm b) (F:ev f y=vs k) (G:aG w0 L b=some o) (H:qa2 o m)
  (I:Ow P w0 ops r rest (aa f d (.agg (a8 (ZD k z m)))) L N):
  Ow P w0 ops md (⟨d,.lookup t x y false,ty,ps,af,g⟩::rest) f L N:=by
 obtain⟨J,c,rfl,K,-⟩:=H;refine Ow.step B rfl C fun w u=>?_;have v:=u.read G;have i:=DH (w:=w) l k J.toList m K;refine .inl ⟨.agg (a8 (ZD k z m)),w,L,?_,u,I⟩;have e:=vq k m 0;have:(Instr.lookup t (vm b) (vs k) false).run P w=.ok (.agg (a8 (ZD k z m))) w:=by
  cases A:fnd k m 0 with
  |none=>
   rw[A] at i e;have n:ZD k z m=z:=by
    unfold ZD;cases h:m.find? fun p=>k==p.1 with
    |none=>rfl
    |some M=>rw[h] at e;cases e
   simp only[Instr.lookup,vm,Vp,Wn s w,VT,gX v,Wm,qH l,i,YL,m0 D w,n,VW,↓reduceIte]
  |some p=>
   obtain⟨j,a⟩:=p;rw[A] at i e;have n:ZD k z m=a:=by
    unfold ZD;cases h:m.find? fun p=>k==p.1 with
    |none=>rw[h] at e;cases e
    |some M=>rw[h] at e;simp only[Ws,WD] at e;exact e.symm
   simp only[Instr.lookup,vm,Vp,Wn s w,VT,gX v,Wm,qH l,i,Ws,n,VW,↓reduceIte]
 simp only[execOp,Vp,E,F];rw[this];rfl
end
end Go.Sx
namespace Go.Sx
open Go
def kv(e:MapEntry):hU×hU:=(e.key,e.val)
def ItR(o:Obj)(bm:Nat)(f:Obj)(m dn lf:ab):Prop:=
 ∃a b,∃c:List MapEntry,f=.map a b/\(a.toList.map (·.born)++[b]).Pairwise (· < ·)/\o=.mapIter (some bm) b (c.map (·.born)).toArray b/\
  c.map kv=dn.map fg/\(∀d,d∈c->d∈a.toList)/\((a.toList.filter fun e=> !(c.map (·.born)).contains e.born).map kv=lf.map fg)/\(dn++lf).Perm m
def Be{l:List MapEntry}{c:Nat}(h:(l.map (·.born)++[c]).Pairwise (· < ·)):(l.map (·.born)).Nodup:=
 ((List.pairwise_append.1 h).1).imp fun h=>Nat.ne_of_lt h
def wN{l:List MapEntry}{c:Nat}(h:(l.map (·.born)++[c]).Pairwise (· < ·)):∀x,x∈l->x.born<c:=fun x a=>(List.pairwise_append.1 h).2.2 _ (List.mem_map.2 ⟨x,a,rfl⟩) c (VZ.2 rfl)
def Ci(a:Array MapEntry)(b:List MapEntry):(leftOf a (b.map (·.born)).toArray).toList=a.toList.filter fun e=> !(b.map (·.born)).contains e.born:=by unfold leftOf;rw[Array.toList_filter];simp
def ItR.start{bm:Nat}{c:Obj}{m:ab}(h:qa2 c m):∃a b,c=.map a b/\ItR (.mapIter (some bm) b #[] b) bm c m [] m:=by obtain⟨a,b,rfl,f,g⟩:=h;refine⟨a,b,rfl,a,b,[],rfl,g,rfl,rfl,(fun d i=>by cases i),?_,by rw[Vy]⟩;rw[show(a.toList.filter fun e=> !(([]:List MapEntry).map (·.born)).contains e.born)=a.toList from List.filter_eq_self.2 (fun _ _=>rfl)];exact f
def ItR.step{bm:Nat}{i:Obj}{m dn lf:ab}{a:Array MapEntry}{c:Nat}{b:List MapEntry}{e:MapEntry}(j:(a.toList.map (·.born)++[c]).Pairwise (· < ·))
  (s:b.map kv=dn.map fg) (t:∀d,d∈b->d∈a.toList) (k:(a.toList.filter fun e=> !(b.map (·.born)).contains e.born).map kv=lf.map fg) (u:(dn++lf).Perm m)
  (l:e∈a.toList.filter fun e=> !(b.map (·.born)).contains e.born) (v:i=.map a c):
  ∃p n,kv e=fg p/\lf.length=n.length+1/\ItR (.mapIter (some bm) c ((b.map (·.born)).toArray.push e.born) c) bm i m (dn++[p]) n:=by
 obtain⟨A,C,g⟩:=List.append_of_mem l;rw[g,We,VY] at k;obtain⟨w,I,rfl,y,z⟩:=List.append_eq_map_iff.1 k;obtain⟨p,B,rfl,o,D⟩:=(List.map_eq_cons_iff.1 z);refine⟨p,w++B,o.symm,by simp;omega,a,c,b++[e],v,j,by simp,by simp[s,o],?_,?_,?_⟩
 .intro d E;rcases Wu.1 E with h|h
  .exact t d h
  rw[VZ] at h;subst h;exact(List.mem_filter.1 l).1
 .have q:((A++e::C).map (·.born)).Nodup:=by
   rw[<-g];exact(Be j).sublist ((List.filter_sublist).map _)
  have F:(a.toList.filter fun x=> !((b++[e]).map (·.born)).contains x.born)=(A++e::C).filter fun x=> !(x.born==e.born):=by rw[<-g,List.filter_filter];refine List.filter_congr fun x f=>?_;simp only[We,VY,Wr,List.contains_append,List.contains_cons,List.contains_nil,YN,Bool.not_or];rw[Bool.and_comm]
  rw[We,VY,XR] at q;obtain⟨-,r,G⟩:=q;rw[Xd] at r;have H:((A++e::C).filter fun x=> !(x.born==e.born))=A++C:=by
   rw[List.filter_append,X_];simp only[Yf,YT,VW,↓reduceIte];congr 1
   .refine List.filter_eq_self.2 fun x f=>?_;have:=G x.born (List.mem_map.2 ⟨x,f,rfl⟩) e.born aX;simpa using this
   refine List.filter_eq_self.2 fun x f=>?_;have:x.born≠e.born:=fun h=>r.1 (h▸List.mem_map.2 ⟨x,f,rfl⟩);simpa using this
  rw[F,H,We,We,y,D]
 refine List.Perm.trans ?_ u;rw[Wb];refine List.Perm.append_left dn ?_;rw[List.singleton_append];exact List.perm_middle.symm
section
variable {P:h_} {w0:hW} {f:Fr} {L:aA} {N:Fr->aA->Prop} {ops:Array Oper} {rest:List Oper} {md:Md}
 {d:Option Tmp} {ty:h7} {ps:String} {af:Array Edge} {g:Option (Nat×Bool)}
def itv(b:Nat):hU:=.pointer (some ⟨b,0,none⟩)
def Ow.rangeMap{t j vt:h7}{x:Operand}{bm:Nat}{e:Obj}{m:ab}{i:Md}(k:md.WM=some i)(l:ay ops f ⟨d,.range t x,ty,ps,af,g⟩=false)(n:P.underlying t=some (.map j vt))
  (p:ev f x=vm bm) (q:aG w0 L bm=some e) (r:qa2 e m)
  (s:∀b o,cy L b->w0.heap.size<=b->ItR o bm e m [] m->Ow P w0 ops i rest (aa f d (itv b)) (L++[(b,o)]) N):
  Ow P w0 ops md (⟨d,.range t x,ty,ps,af,g⟩::rest) f L N:=by
 obtain⟨v,a,rfl,u⟩:=ItR.start (bm:=bm) r;refine Ow.step k rfl l fun w c=>.inl ⟨itv w.heap.size,w.alloc (.mapIter (some bm) a #[] a),_,?_,c.alloc _,s _ _ (ef fun b h=>c.lt h) c.size u⟩;have h:=c.read q;have:(Instr.range t (vm bm)).run P w=.ok (itv w.heap.size) (w.alloc (.mapIter (some bm) a #[] a)):=by
  simp only[Instr.range,vm,Vp,Wn n w,VT,gX h]
  rfl
 simp only[execOp,Vp,p];rw[this];rfl
def Ow.qy4{x:Operand}{r bm:Nat}{o h:Obj}{m dn lf:ab}{i:Md}(A:md.WM=some i)(B:ay ops f ⟨d,.next x false,ty,ps,af,g⟩=false)
  (q:ev f x=itv r) (s:look L r=some o) (C:aG w0 L bm=some h) (D:ItR o bm h m dn lf)
  (E:lf=[]->Ow P w0 ops i rest (aa f d (.tuple #[.bool false])) L N)
  (F:∀p t c,lf.length=c.length+1->ItR t bm h m (dn++[p]) c->Ow P w0 ops i rest (aa f d (.tuple #[.bool true,vs p.1,.agg (a8 p.2)])) (Vh L r t) N):
  Ow P w0 ops md (⟨d,.next x false,ty,ps,af,g⟩::rest) f L N:=by
 refine Ow.step A rfl B fun w a=>?_;have G:=a.has _ _ (bU s);have H:=a.read C;obtain⟨u,b,j,rfl,v,rfl,I,J,k,K⟩:=D;rcases run_next_at (P:=P) w ty r bm b b (j.map (·.born)).toArray u b G H (wN v) (aj _) with⟨M,l⟩ | ⟨e,y,z,O,l⟩
 .refine .inl ⟨.tuple #[.bool false],w,L,?_,a,E ?_⟩
  .simp only[execOp,Vp,q,itv];rw[l];rfl
  have:(leftOf u (j.map (·.born)).toArray).toList=[]:=by rw[Array.toList_eq_nil_iff];exact Array.eq_empty_of_size_eq_zero M
  rw[Ci] at this;rw[this] at k;exact(List.map_eq_nil_iff.1 k.symm)
 rw[Ci] at y;obtain⟨p,c,n,Q,R⟩:=ItR.step (bm:=bm) v I J k K y rfl;simp only[kv,fg,Xp] at n;have S:Hp w0 L z:=by rcases O with rfl|rfl;exact a;exact a.drew
 refine .inl ⟨.tuple #[.bool true,vs p.1,.agg (a8 p.2)],ChangeMaps.setBlock z r (.mapIter (some bm) b ((j.map (·.born)).toArray.push e.born) b),_,?_,S.set (bO s) rfl rfl rfl rfl,F p _ c Q R⟩;simp only[execOp,Vp,q,itv];rw[l,n.1,n.2];rfl
def Ow.qp1{x:Operand}{r bm:Nat}{o h:Obj}{m dn lf:ab}{p:No×No}{i:Md}(n:md.WM=some i)(q:ay ops f ⟨d,.entry x,ty,ps,af,g⟩=false)
  (s:ev f x=itv r) (t:aG w0 L r=some o) (u:aG w0 L bm=some h) (v:ItR o bm h m (dn++[p]) lf)
  (y:Ow P w0 ops i rest (aa f d (.tuple #[vs p.1,.agg (a8 p.2)])) L N):
  Ow P w0 ops md (⟨d,.entry x,ty,ps,af,g⟩::rest) f L N:=by
 refine Ow.step n rfl q fun w a=>.inl ⟨_,w,L,?_,a,y⟩;have j:=a.read t;have z:=a.read u;obtain⟨A,k,H,rfl,B,rfl,l,C,I,J⟩:=v;rw[We,VY,Wr] at l;obtain⟨b,K,rfl,-,D⟩:=List.map_eq_append_iff.1 l;obtain⟨e,M,rfl,c,E⟩:=List.map_eq_cons_iff.1 D;obtain rfl:=List.map_eq_nil_iff.1 E;simp only[kv,fg,Xp] at c;have F:((b++[e]).map (·.born)).toArray=(b.map (·.born)).toArray.push e.born:=by simp
 rw[F] at j;have G:=run_entry_at (P:=P) w r bm k (b.map (·.born)).toArray A k e j z (C e V_) (Be B);simp only[execOp,Vp,s,itv];rw[G,c.1,c.2];rfl
end
end Go.Sx
namespace Go.Sx
open Go
def wX(A B C:List hU){o n:Nat}(a:A.length=o)(b:B.length=n):(A++(B++C)).toArray.extract o (o+n)=B.toArray:=by subst a;subst b;rw[List.extract_toArray,List.extract_eq_take_drop,List.drop_left,Nat.add_sub_cancel_left,List.take_left]
def A8(A C:List hU)(v:hU){o:Nat}(a:A.length=o):(A++([v]++C)).toArray[o]? =some v:=by subst a;simp
def mZ(A C:List hU)(v:hU){o:Nat}(a:A.length=o):(A++([v]++C))[o]? =some v:=by subst a;simp
def qz(A B a C:List hU){o:Nat}(c:A.length=o)(d:B.length=a.length):cU (A++(B++C)).toArray o a=(A++(a++C)).toArray:=by subst c;have b:=nt a A B C d;rw[Wb,Wb] at b;exact b
def nY(A C:List hU)(v:hU){o n:Nat}(a:A.length=o):Xj (false,n) (A++([v]++C)).toArray o=some v:=A8 A C v a
def r9(A B C:List hU){o n:Nat}(E:h7)(fz:Nat×Nat)(a:A.length=o)(b:B.length=n):aF (some (true,n)) (some (.cells (A++(B++C)).toArray E fz)) o=some (.agg B.toArray):=by
 have c:o+n<= (A++(B++C)).toArray.size:=by simp only[Wd,VV];omega
 unfold aF;simp only[c,↓reduceIte];rw[wX A B C a b]
def fR(A C:List hU)(v:hU){o:Nat}(n:Nat)(E:h7)(fz:Nat×Nat)(a:A.length=o):aF (some (false,n)) (some (.cells (A++([v]++C)).toArray E fz)) o=some v:=by rw[YU];exact A8 A C v a
def cP(A B b C:List hU){o n:Nat}(a:Bool)(x:hU)(E:h7)(e:A.length=o)(f:B.length=n)(g:x.cells=b.toArray)(c:b.length=n)(h:b.all Value.oneCell'=true):
  aZ (some (a,n)) (some (.cells (A++(B++C)).toArray E (0,0))) o x=some (.cells (A++(b++C)).toArray E (0,0)):=by
 subst e;have d:=nt b A B C (by rw[f,c]);rw[Wb,Wb] at d;unfold aZ;simp only[g];rw[Vb ⟨by rw[Wd,c],by simp only[Wd,VV];omega,.inl (aj 0),h⟩,d]
def mc(cs:List hU){n:Nat}(a:Bool)(Wo:Array hU)(E:h7)(b:cs.length=n)(c:cs.all Value.oneCell'=true)(h:Wo.size=n):
  aZ (some (a,n)) (some (.cells Wo E (0,0))) 0 (.agg cs.toArray)=some (.cells cs.toArray E (0,0)):=
 BV n a cs.toArray Wo E ⟨by rw[Wd,b],h⟩ c
def jX(l:No):(l.map v8).all Value.oneCell'=true:=by rw[List.all_map];exact XX.2 fun x _=>rfl
def WL.part{α:Type}{m:Nat}{enc:α->List hU}{z:α}{w:hW}{v:hU}{l:List α}{b off:Nat}{arr:Array hU}{E:h7}{fz:Nat×Nat}(h:WL m enc z w v l b off arr E fz)(f:∀x,(enc x).length=m){k o n:Nat}(g:k<l.length)(p:o+n<=m)(q:0<n):
  aF (some (true,n)) (some (.cells arr E fz)) (off+k*m+o)=some (.agg ((enc (l.getD k z)).toArray.extract o (o+n))):=by
 have a:∀i,i<n->arr[off+k*m+ (o+i)]? =(enc (l.getD k z))[o+i]? :=fun i c=>h.get k g (o+i) oM;have r:=f (l.getD k z);have j:off+k*m+o+n<=arr.size:=by have d:=a (n - 1) oM;rw[List.getElem?_eq_getElem oM] at d;have:=(Array.getElem?_eq_some_iff.1 d).1;omega
 unfold aF;simp only[j,↓reduceIte];congr 2;apply Array.ext_getElem?;intro i;by_cases c:i<n
 .rw[Array.getElem?_extract,Array.getElem?_extract,Vb oM,Vb (by rw[Wd];omega)];have e:=a i c;rw[show off+k*m+ (o+i)=off+k*m+o+i by omega] at e;rw[e];exact(List.getElem?_toArray ..).symm
 rw[Array.getElem?_eq_none (by rw[Array.size_extract];omega),Array.getElem?_eq_none (by rw[Array.size_extract];omega)]
end Go.Sx
namespace Go.Sx
open Go
def Cw.forget{P:h_}{w0:hW}{c:Code}{f:Fr}{L:aA}{K:bz}(M:aA)(a:∀p,p∈M->p∈L)(b:(keys M).Nodup)(d:∀p,p∈L->p.1∉keys M->w0.heap.size<=p.1)
  (h:Cw P w0 c f M K):Cw P w0 c f L K:=fun w e=>h w (e.drop a b fun p g j i=>by have:=d p g i;omega)
end Go.Sx
namespace Go.Sx
open Go
def Xz{α:Type}(m:Nat)(enc:α->List hU)(z:α)(w:hW)(v:hU)(l:List α):Prop:=
 ∃b off c arr E fz,WL m enc z w v l b off arr E fz/\l.length<=c/\((v= Vj/\l=[]/\c=0)\/(v=Xr b off l.length c/\w.heap[b]? =some (.cells arr E fz)/\off+l.length*m<=arr.size))
section
variable {α:Type} {m:Nat} {enc:α->List hU} {z:α} {w:hW} {v:hU} {l:List α}
def WL.sl'{b off n c:Nat}{arr:Array hU}{E:h7}{fz:Nat×Nat}(d:n=l.length)
  (has:0<l.length->w.heap[b]? =some (.cells arr E fz)) (get:∀k,k<l.length-> ∀j,j<m->arr[off+k*m+j]? =(enc (l.getD k z))[j]?):WL m enc z w (Xr b off n c) l b off arr E fz:=by
 subst d;exact⟨fun x=>rfl,fun a k e=>j5 _ _ _ _ _ _ ⟨by omega,by omega⟩,has,get⟩
theorem Xz.nil(w:hW):Xz m enc z w Vj []:=⟨0,0,0,#[],0,(0,0),WL.nil w 0 0 rfl,aj _,.inl ⟨rfl,rfl,rfl⟩⟩
def Xz.row(h:Xz m enc z w v l):∃b off arr E fz,WL m enc z w v l b off arr E fz:=by obtain⟨b,off,c,arr,E,fz,a,-⟩:=h;exact⟨b,off,arr,E,fz,a⟩
theorem Xz.sl{b off c:Nat}{arr:Array hU}{E:h7}{fz:Nat×Nat}(has:w.heap[b]? =some (.cells arr E fz))(get:∀k,k<l.length-> ∀j,j<m->arr[off+k*m+j]? =(enc (l.getD k z))[j]?)(a:l.length<=c)(d:off+l.length*m<=arr.size):Xz m enc z w (Xr b off l.length c) l:=
 ⟨b,off,c,arr,E,fz,WL.sl rfl has get,a,.inr ⟨rfl,has,d⟩⟩
theorem WL.Wo{a:hW}{b off:Nat}{arr:Array hU}{E:h7}{fz:Nat×Nat}{L:aA}(h:WL m enc z w v l b off arr E fz)(e:Hp w L a)(f:0<l.length->b∉keys L):WL m enc z a v l b off arr E fz:=
 ⟨h.len,h.idx,fun c=>by have d:=h.has c;rw[e.Wo b (Array.getElem?_eq_some_iff.1 d).1 (f c)];exact d,h.get⟩
def WL.lt{b off:Nat}{arr:Array hU}{E:h7}{fz:Nat×Nat}(h:WL m enc z w v l b off arr E fz)(a:0<l.length):b<w.heap.size:=(Array.getElem?_eq_some_iff.1 (h.has a)).1
theorem Xz.Wo{a:hW}{L:aA}(h:Xz m enc z w v l)(e:Hp w L a)(g:∀b,Xy v=some b->b<w.heap.size->b∉keys L):Xz m enc z a v l:=by
 obtain⟨b,off,c,arr,E,fz,i,j,k⟩:=h;rcases k with⟨rfl,rfl,rfl⟩ | ⟨rfl,d,n⟩
 .exact Xz.nil a
 have f:=g b rfl (Array.getElem?_eq_some_iff.1 d).1;refine⟨b,off,c,arr,E,fz,i.Wo e (fun _=>f),j,.inr ⟨rfl,?_,n⟩⟩;rw[e.Wo b (Array.getElem?_eq_some_iff.1 d).1 f];exact d
def Vq.not{L:aA}{n b:Nat}(h:Vq n L)(c:b<n):b∉keys L:=fun a=>by have:=h.le b a;omega
def Xz.WO{a:hW}{L:aA}(h:Xz m enc z w v l)(b:Hp w L a)(c:Vq w.heap.size L):Xz m enc z a v l:=h.Wo b fun _ _ d=>c.not d
theorem Xz.len(h:Xz m enc z w v l)(x:Bool×Nat):Yw (.sl x) v=some (vi l.length):=by obtain⟨b,off,arr,E,fz,a⟩:=h.row;exact a.len x
theorem Xz.take(h:Xz m enc z w v l){k:Nat}(g:k<=l.length)(a:Bool):∃e,eN (.sl (a,m)) v none (some (some (k:Int)))=some e/\Xz m enc z w e (l.take k)/\(∀b,Xy e=some b->Xy v=some b):=by
 obtain⟨b,off,c,arr,E,fz,n,s,p⟩:=h;have d:(l.take k).length=k:=by simp;omega
 rcases p with⟨rfl,rfl,rfl⟩ | ⟨rfl,q,t⟩
 .obtain rfl:k=0:=by simpa using g
  refine⟨Vj,rfl,Xz.nil w,fun b f=>f⟩
 refine⟨Xr b off k c,?_,?_,fun b f=>f⟩
 .unfold eN Xr;simp only[AQ _ _ _ (⟨by omega,by omega⟩:(0:Int)<= (k:Int)/\(k:Int)<= (c:Int)),WX,Nat.zero_mul,Nat.sub_zero,Ws,ic,XL]
  split<;>rfl
 refine⟨b,off,c,arr,E,fz,WL.sl' d.symm (fun u=>n.has oM) ?_,by omega,.inr ⟨by rw[d],q,by rw[d];have:k*m<=l.length*m:=Y0 _ g;omega⟩⟩
 .intro i o j r;rw[d] at o;rw[n.get i oM j r];congr 2;rw[List.getD_eq_getElem?_getD,List.getD_eq_getElem?_getD,List.getElem?_take_of_lt o]
def Zn.slM{L:aA}{E:h7}{n:Nat}{cs:List hU}(h:Zn L E m v n cs)(q:∀b o,(b,o)∈L->w.heap[b]? =some o)(f:l.length=n)(g:cs=(l.map enc).flatten)(a:∀x,(enc x).length=m):Xz m enc z w v l:=by
 rcases h.inv with⟨rfl,rfl,rfl⟩ | ⟨b,c,rest,rfl,i,d,p,y,s⟩
 .have:l=[]:=by simpa using f
  subst this;exact Xz.nil w
 subst f;refine Xz.sl (q _ _ (bU i)) ?_ p (by rw[Wd,VV,d];omega);intro k e j t;rw[Xg,List.getElem?_toArray,List.getElem?_append_left (by rw[d];have:(k+1)*m<=l.length*m:=Y0 _ e;rw[Nat.add_mul,Nat.one_mul] at this;omega),g];clear d s i g p h
 induction l generalizing k with
 |nil=>simp at e
 |cons x r u=>
  rw[VY,Ya];cases k with
  |zero=>rw[Nat.zero_mul,Xg,List.getElem?_append_left (by rw[a];exact t),List.getD_cons_zero]
  |succ k=>rw[List.getElem?_append_right (by rw[a,Nat.add_mul,Nat.one_mul];omega),a,List.getD_cons_succ];have:=u (k:=k) (by simpa using e);rw[<-this];congr 1;rw[Nat.add_mul,Nat.one_mul];omega
def Zn.slV{L:aA}{E:h7}{n:Nat}{cs:List hU}{w0:hW}(h:Zn L E m v n cs)(a:Hp w0 L w)(b:l.length=n)(c:cs=(l.map enc).flatten)(d:∀x,(enc x).length=m):Xz m enc z w v l:=h.slM a.has b c d
end
end Go.Sx
namespace Go.Sx
open Go
theorem Vq.mono{n m:Nat}(h:n<=m):∀ {L:aA},Vq m L->Vq n L
 | [],_=>trivial
 | (_,_)::_,hL=>⟨Xq h hL.1,Vq.mono h hL.2⟩
theorem Vq.app{n:Nat}{M:aA}:∀ {L:aA},Vq n L->Vq n M->Vq n (L++M)
 | [],_,a=>a
 | (_,_)::_,hL,a=>⟨hL.1,Vq.app hL.2 a⟩
section
variable {P:h_} {w0:hW} {f:Fr} {L:aA} {N:Fr->aA->Prop} {ops:Array Oper} {rest:List Oper} {md:Md}
 {d:Option Tmp} {ty:h7} {ps:String} {af:Array Edge} {g:Option (Nat×Bool)}
def Ow.qk1{l:List Operand}{ts:Array h7}{k:FuncId}{b:Nat}{S:hU->Obj->Prop}{c:Md}(e:md.WM=some c)
  (h:ay ops f ⟨d,.call ⟨.value (.func k),l.toArray,ts⟩,ty,ps,af,g⟩=false)
  (i:∀a w,(callFunc k a).run P w=.ok (.enter k a) w) (j:b∈keys L)
  (m:∀w,Hp w0 L w->Va P k (l.map (ev f)).toArray w (fun v D=> ∃o,D=[(b,o)]/\S v o))
  (n:∀v o,S v o->Ow P w0 ops c rest (aa f d v) (Vh L b o) N):
  Ow P w0 ops md (⟨d,.call ⟨.value (.func k),l.toArray,ts⟩,ty,ps,af,g⟩::rest) f L N:=by
 refine Ow.qb2 e h i (S:=fun _ v D=> ∃o,D=[(b,o)]/\S v o) m ?_;rintro B v D - - ⟨o,rfl,p⟩;exact⟨_,Mrg.set j,n v o p⟩
def Ow.qk3{l:List Operand}{ts:Array h7}{k:FuncId}{S:Nat->hU->aA->Prop}{b:Md}(e:md.WM=some b)
  (h:ay ops f ⟨d,.call ⟨.value (.func k),l.toArray,ts⟩,ty,ps,af,g⟩=false)
  (i:∀a w,(callFunc k a).run P w=.ok (.enter k a) w)
  (j:∀w,Hp w0 L w->Va P k (l.map (ev f)).toArray w (fun v D=>S w.heap.size v D))
  (m:∀B v D,S B v D->Vq B D)
  (n:∀B v D,cy L B->w0.heap.size<=B->S B v D->Ow P w0 ops b rest (aa f d v) (L++D) N):
  Ow P w0 ops md (⟨d,.call ⟨.value (.func k),l.toArray,ts⟩,ty,ps,af,g⟩::rest) f L N:=by
 refine Ow.qb2 e h i (S:=S) j ?_;intro B v D o p c;exact⟨_,Mrg.fresh (m B v D c).le,n B v D o p c⟩
def Cw.qe2{c:Code}{K:bz}(M:aA)(a:Vq w0.heap.size L)(b:∀p,p∈M->p∈L)(d:(keys M).Nodup)(h:Cw P w0 c f M K):Cw P w0 c f L K:=
 Cw.forget M b d (fun p e _=>a.le _ (List.mem_map.2 ⟨p,e,rfl⟩)) h
end
end Go.Sx
section
namespace Go.Sx
open Go
section
variable {P:h_} {w0:hW} {L:aA}
def De{w:hW}{ts p ty e:h7}{m:Bool×Nat}{z x:hU}{b k:Nat}{new:List hU}(u:Hp w0 L w)
  (v:P.underlying ts=some (.slice e)) (l:aU P e=some m) (q:kD P e=true) (G:ac P e=some z) (H:z.cells.size=m.2) {d:TypeDesc} (y:P.underlying p=some d) (I:∀k,d≠ .int k)
  (A:∀w,Hp w0 L w->W0 P w m.2 x k new) (B:2* (0+k)+768<=2^38):
  (k=0/\(Builtin.append_ #[ts,p] ty #[Xr b 0 0 0,x]).run P w=.ok (Xr b 0 0 0) w)\/
  (0<k/\ ∃r C s,(Builtin.append_ #[ts,p] ty #[Xr b 0 0 0,x]).run P w=.ok r C/\Hp w0 s C/\Zn s e m.2 r (0+k) ([]++new)/\qc3 w0 Vj L s/\ ∃c,Xy r=some c/\cy L c):=by
 obtain⟨i,q,J,B⟩:=Dg q B;have K:∀w,(typeInfo e).run P w=.ok i w:=by
  intro w;simp only[typeInfo,program,Vp];show Result.andThen (Result.ok P w) _=_;simp only[VT,q]
  rfl
 have D:(match d with| .int _=>true|_=>false)=false:=by cases d<;>first|rfl|exact Vx rfl (I _)
 have E:∀ {α β:Type} (a:α) (f:α->hW->Result β),(Sem.run P (pure a) w).andThen f=f a w:=fun _ _=>rfl;have n:=A w u;have F:=n.len;have M:=n.cells;have N:=m0 (P:=P) G;have O:∀ (b:Nat) (w:hW),(askRoom b).run P w=.ok () w:=by
  intro b w;unfold askRoom
  split<;>rfl
 have Q:∀j,(Builtin.zeroCells z.cells j).toList.length=j*m.2:=by intro j;simp[Builtin.zeroCells,H]
 have R:∀c,c<0+k->¬ (Builtin.nextslicecap (0+k) c*i.bytes>2^48):=by intro c g;have:=U' g;have h2:=Y0 i.bytes this;omega
 by_cases S:k=0
 .subst S;have T:new=[]:=Zm (by have:=n.size;omega);subst T;refine .inl ⟨rfl,?_⟩;simp only[Builtin.append_,Xr,List.getElem?_toArray,List.getElem?_cons_zero,List.getElem?_cons_succ,Vp,Wn v w,VT,ei l w,Wn y w,D,E,VW,↓reduceIte,F,W6,XL,aj,M]
  rfl
 have U:¬0+k<=0:=by omega
 have V:=R 0 oM;simp only[Builtin.append_,List.getElem?_toArray,List.getElem?_cons_zero,List.getElem?_cons_succ,Vp,Wn v w,VT,ei l w,Wn y w,D,E,VW,↓reduceIte,F,W6,U,Xr,K,J,WB,and_false,V];have W:(choose (Question.appendCap (0+k) 0 e)).run P w=.ok ((0+k)+w.tape w.drawn (.appendCap (0+k) 0 e)% (2^63 - (0+k))) w.drew:=rfl;rw[W];generalize za:(0+k)+w.tape w.drawn (.appendCap (0+k) 0 e)% (2^63 - (0+k))=c;have h:=u.drew;have X:=A _ h;have Y:(Builtin.firstCells m.2 0 (Value.slice (some ⟨b,0,none⟩) 0 0)).run P w.drew=.ok #[] w.drew:=by simp only[Builtin.firstCells,Nat.zero_mul];rfl
 simp only[VT,O,Y,X.cells,N];refine .inr ⟨by omega,_,_,L++[(w.drew.heap.size,.cells ([]++new++(Builtin.zeroCells z.cells (c - (0+k))).toList).toArray e (0,0))],rfl,?_,.at_ (b:=w.drew.heap.size) (rest:=(Builtin.zeroCells z.cells (c - (0+k))).toList) ?_ ?_ ?_ oM oM,?_,⟨_,rfl,ef fun b t=>h.lt t⟩⟩
 .have Z:([]++new++(Builtin.zeroCells z.cells (c - (0+k))).toList).toArray=#[]++new.toArray++Builtin.zeroCells z.cells (c - (0+k)):=by apply Array.ext';simp
  rw[Z];exact h.alloc _
 .rw[cu (fun l=>Xk _ (h.lt l))];simp[look]
 .rw[Vy,n.size,Xg]
 .exact Q _
 refine⟨fun c g=>by rw[aV];exact aq _ g,fun c g=>?_,fun c o zb ho=>a_ ho⟩;rw[aV] at g;rcases Wu.1 g with g|g
 .exact .inl g
 right
 simp only[keys,VY,Wr,VZ] at g;subst g;exact⟨ef fun b t=>h.lt t,h.size⟩
end
section
variable {P:h_} {w0:hW} {f:Fr} {L:aA} {N:Fr->aA->Prop} {ops:Array Oper} {rest:List Oper} {md:Md}
 {d:Option Tmp} {ty:h7} {ps:String} {af:Array Edge} {g:Option (Nat×Bool)}
def Ow.qo3{ts i e:h7}{m:Bool×Nat}{z:hU}{s x:Operand}{b k:Nat}{new:List hU}{o:TypeDesc}{j:Md}(p:ev f s=Xr b 0 0 0)(r:md.WM=some j)
  (t:ay ops f ⟨d,.call ⟨.builtin .append,#[s,x],#[ts,i]⟩,ty,ps,af,g⟩=false)
  (u:P.underlying ts=some (.slice e)) (v:aU P e=some m) (y:kD P e=true) (A:ac P e=some z) (B:z.cells.size=m.2) (C:P.underlying i=some o) (D:∀k,o≠ .int k)
  (E:∀w,Hp w0 L w->W0 P w m.2 (ev f x) k new) (F:2* (0+k)+768<=2^38)
  (G:k=0->Ow P w0 ops j rest (aa f d (Xr b 0 0 0)) L N)
  (H:∀a h,0<k->Zn h e m.2 a (0+k) ([]++new)->qc3 w0 Vj L h->(∃c,Xy a=some c/\cy L c)->Ow P w0 ops j rest (aa f d a) h N):
  Ow P w0 ops md (⟨d,.call ⟨.builtin .append,#[s,x],#[ts,i]⟩,ty,ps,af,g⟩::rest) f L N:=by
 refine Ow.step r rfl t fun w q=>?_;rcases De (ty:=ty) (b:=b) q u v y A B C D E F with⟨l,n⟩ | ⟨l,a,I,h,n,J,K,M,O⟩
 .refine .inl ⟨_,w,L,?_,q,G l⟩;simp only[execOp,resolve,Vp,Wm,VT,invoke,builtin,XM,VY,Wr,p];rw[n]
  rfl
 refine .inl ⟨a,I,h,?_,J,H a h l K M O⟩;simp only[execOp,resolve,Vp,Wm,VT,invoke,builtin,XM,VY,Wr,p];rw[n]
 rfl
end
end Go.Sx
end
