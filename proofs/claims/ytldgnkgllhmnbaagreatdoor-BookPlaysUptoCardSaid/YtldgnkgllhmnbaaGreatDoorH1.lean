/-
  Part 1 of the walk: contracts of the functions that the law reaches, and the calculus they stand on.
  No conditions.
-/
import Derived.Test.YtldgnkgllhmnbaaGreatDoorH0
import Derived.RangeFuncLeaves
import Derived.RangeFuncIn
import Derived.RangeFuncSeq
import Derived.RangeFuncRecord
import Derived.TacticsIn
import Derived.Test.YtldgnkgllhmnbaaGreatDoorProg
import Derived.Lib.Small
import Derived.Lib.Walk
import Derived.Lib.Bytealg
import Derived.Deep.Draws
import Derived.Deep.QuietTactic
import Derived.Lib.Strings
import GoSem.Core.Float
import Derived.Laws.MakeOwn
set_option linter.unusedVariables false
set_option maxRecDepth 100000
set_option linter.defProp false
set_option maxHeartbeats 8000000
set_option linter.unusedSimpArgs false
open Go.Proofs.Tryz
namespace Go.Sx
open Go
def Gr(L:aA)(E:h7)(m:Nat)(v:hU)(n:Nat)(cs:List hU):Prop:=
 Zn L E m v n cs\/(n=0/\cs=[]/\ ∃b,v=Xr b 0 0 0/\look L b=some (.cells #[] E (0,0)))
theorem Gr.nl{L:aA}{E:h7}{m:Nat}:Gr L E m Vj 0 []:=.inl .nl
def qc3.any{w0:hW}{v a:hU}{L L':aA}(h:qc3 w0 v L L')(b:Xy v=none):qc3 w0 a L L':=
 ⟨h.keys,h.new,fun c o _ d=>h.look c o (by rw[b];simp) d⟩
theorem Gr.Vn{L L':aA}{E:h7}{m n:Nat}{v:hU}{cs:List hU}(h:Gr L E m v n cs)(a:∀b o,Xy v=some b->look L b=some o->look L' b=some o):Gr L' E m v n cs:=by
 rcases h with h| ⟨c,d,b,rfl,e⟩
 .exact .inl (h.Vn a)
 exact .inr ⟨c,d,b,rfl,a b _ rfl e⟩
def Gr.app{L M:aA}{E:h7}{m n:Nat}{v:hU}{cs:List hU}(h:Gr L E m v n cs):Gr (L++M) E m v n cs:=h.Vn fun _ _ _ a=>a_ a
theorem Gr.len{L:aA}{E:h7}{m n:Nat}{v:hU}{cs:List hU}(h:Gr L E m v n cs)(x:Bool×Nat):Yw (.sl x) v=some (vi n):=by
 rcases h with h| ⟨rfl,rfl,b,rfl,-⟩
 .exact h.len x
 rfl
theorem Gr.cell{L:aA}{E:h7}{m n:Nat}{v:hU}{cs:List hU}(h:Gr L E m v n cs):Value.oneCell' v=true/\v.cells=#[v]:=by
 rcases h with h| ⟨rfl,rfl,b,rfl,-⟩
 .exact h.cell
 exact⟨rfl,rfl⟩
def Gr.key{L:aA}{E:h7}{m n:Nat}{v:hU}{cs:List hU}(h:Gr L E m v n cs){b:Nat}(a:Xy v=some b):b∈keys L:=by
 rcases h with h| ⟨rfl,rfl,c,rfl,d⟩
 .rcases h.inv with⟨rfl,-,-⟩ | ⟨c,e,rest,rfl,d,-⟩
  .cases a
  cases a;exact bO d
 cases a;exact bO d
section
variable {α:Type} {m:Nat} {enc:α->List hU} {z:α} {w:hW} {v:hU} {l:List α}
theorem Gr.slM{L:aA}{E:h7}{n:Nat}{cs:List hU}(h:Gr L E m v n cs)(a:∀b o,(b,o)∈L->w.heap[b]? =some o)(d:l.length=n)(e:cs=(l.map enc).flatten)(f:∀x,(enc x).length=m):Xz m enc z w v l:=by
 rcases h with h| ⟨rfl,rfl,b,rfl,g⟩
 .exact h.slM a d e f
 obtain rfl:l=[]:=Zm d;exact Xz.sl (l:=([]:List α)) (off:=0) (c:=0) (a _ _ (bU g)) (fun k i=>by simp at i) (aj 0) V_
def Gr.slV{L:aA}{E:h7}{n:Nat}{cs:List hU}{w0:hW}(h:Gr L E m v n cs)(a:Hp w0 L w)(b:l.length=n)(c:cs=(l.map enc).flatten)(d:∀x,(enc x).length=m):Xz m enc z w v l:=h.slM a.has b c d
theorem UB(b:∀x,(enc x).length=m)(arr:Array hU):∀ (ls:List α) (off:Nat),off+ls.length*m<=arr.size->(∀k j,k<ls.length->j<m->arr[off+k*m+j]? =(enc (ls.getD k z))[j]?)->
  (arr.extract off (off+ls.length*m)).toList=(ls.map enc).flatten
 | [],off,_,_=>by simp
 |r::ls,off,hs,h=>by
  have c:(r::ls).length*m=m+ls.length*m:=by rw[Wt,Nat.add_mul,Nat.one_mul,Nat.add_comm]
  rw[c] at hs |-;have d:=UB b arr ls (off+m) oM (fun k j e a=>by have:=h (k+1) j (by simpa using e) a;rw[List.getD_cons_succ] at this;rw[<-this];congr 1;rw[Nat.add_mul,Nat.one_mul];omega);have f:(arr.extract off (off+m)).toList=enc r:=by
   apply List.ext_getElem?;intro j;rw[Array.getElem?_toList,Array.getElem?_extract];by_cases a:j<m
   .rw[Vb oM];have:=h 0 j V_ a;simpa using this
   rw[tr oM,List.getElem?_eq_none (by rw[b];omega)]
  rw[VY,Ya,<-d,<-f,<-Array.toList_append];congr 1;rw[Array.extract_append_extract];congr 1<;>omega
def qc(a:∀x,(enc x).length=m)(l:List α):(l.map enc).flatten.length=l.length*m:=by
 induction l with
 |nil=>simp
 |cons x r b=>rw[VY,Ya,VV,b,a,Wt,Nat.add_mul,Nat.one_mul,Nat.add_comm]
def W0.X6{P:h_}{b:Nat}{E:h7}{fz:Nat×Nat}{cs:List hU}(a:w.heap[b]? =some (.cells cs.toArray E fz))(d:cs.length=m)(c:cs.all Value.oneCell'=true):W0 P w m (Xr b 0 1 1) 1 cs:=by refine W0.block (w0:=w) (L:=[]) (by rw[CX];exact a) (by simp;omega) ?_ c (Hp.refl w);rw[List.extract_toArray,List.extract_eq_take_drop,YM,Yo oM]
def Xz.ql8{P:h_}(h:Xz m enc z w v l)(d:∀x,(enc x).length=m)(e:∀x,(enc x).all Value.oneCell'=true):W0 P w m v l.length (l.map enc).flatten:=by
 obtain⟨b,off,c,arr,E,fz,f,p,g⟩:=h;rcases g with⟨rfl,rfl,rfl⟩ | ⟨rfl,i,a⟩
 .exact W0.nil P w m
 refine W0.block (w0:=w) (L:=[]) (by rw[CX];exact i) a (UB (z:=z) d arr l off a (fun k j n o=>f.get k n j o)) ?_ (Hp.refl w);rw[List.all_flatten,List.all_map,XX];exact fun r _=>e r
end
section
variable {P:h_} {w0:hW} {f:Fr} {L:aA} {N:Fr->aA->Prop} {ops:Array Oper} {rest:List Oper} {md:Md}
 {d:Option Tmp} {ty:h7} {ps:String} {af:Array Edge} {g:Option (Nat×Bool)}
def Ow.ZV{ts o e:h7}{m:Bool×Nat}{z:hU}{s x:Operand}{n k:Nat}{cs new:List hU}{u:TypeDesc}{v:Md}(j:hU)(y:ev f s=j)(A:md.WM=some v)
  (B:ay ops f ⟨d,.call ⟨.builtin .append,#[s,x],#[ts,o]⟩,ty,ps,af,g⟩=false)
  (C:P.underlying ts=some (.slice e)) (D:aU P e=some m) (E:kD P e=true) (F:ac P e=some z) (G:z.cells.size=m.2) (H:P.underlying o=some u) (I:∀k,u≠ .int k)
  (p:Gr L e m.2 j n cs) (J:∀w,Hp w0 L w->W0 P w m.2 (ev f x) k new) (M:new.length=k*m.2) (K:2* (n+k)+768<=2^38)
  (q:∀a i,Gr i e m.2 a (n+k) (cs++new)->(0<k->Zn i e m.2 a (n+k) (cs++new))->qc3 w0 j L i->(Xy a=Xy j\/ ∃c,Xy a=some c/\cy L c)->Ow P w0 ops v rest (aa f d a) i N):
  Ow P w0 ops md (⟨d,.call ⟨.builtin .append,#[s,x],#[ts,o]⟩,ty,ps,af,g⟩::rest) f L N:=by
 rcases p with p| ⟨rfl,rfl,b,rfl,O⟩
 .exact Ow.append j y A B C D E F G H I p J K fun a i l r t=>q a i (.inl l) (fun _=>l) r t
 refine Ow.qo3 y A B C D E F G H I J K (fun Q=>?_) (fun a i R l r t=>?_)
 .subst Q;obtain rfl:new=[]:=Zm (by rw[M,Nat.zero_mul]);exact q _ L (.inr ⟨rfl,rfl,b,rfl,O⟩) (fun h=>Vx h (Xk 0)) (qc3.refl _ _ _) (.inl rfl)
 exact q a i (.inl l) (fun _=>l) (r.any rfl) (.inr t)
end
end Go.Sx
namespace Go.Sx
open Go
def m7{A D E:aA}:(A++D++E).Perm (A++E++D):=by rw[Wb,Wb];exact List.Perm.append_left A Y4
def mR{w0:hW}{L M:aA}{r:Nat}(h:r∈keys L):aG w0 (L++M) r=aG w0 L r:=by obtain⟨o,a⟩:=CM h;rw[aO a,aO (a_ a)]
def fC{w0:hW}{L M:aA}{R:List Nat}(h:∀r,r∈R->r∈keys L):∀r,r∈R->aG w0 (L++M) r=aG w0 L r:=fun r a=>mR (h r a)
theorem Vq.of_le{n:Nat}:∀ {D:aA},(∀c,c∈keys D->n<=c)->Vq n D
 | [],_=>trivial
 | (b,o)::r,h=>⟨h b Wg,Vq.of_le fun c a=>h c (by simp only[keys,VY,Vw] at a |-;exact .inr a)⟩
def e8{w0:hW}{L M:aA}{r:Nat}(h:r∉keys M):aG w0 (M++L) r=aG w0 L r:=by unfold aG;rw[cu h]
def Va.quiet{P:h_}{k:FuncId}{a:Array hU}{w:hW}{S:hU->Prop}(h:Va P k a w (XS w [] (fun v _=>S v))):Va P k a w (fun v D=>S v/\D=[]):=
 Calls.mono h fun e j ⟨v,D,b,d,f,g⟩=>⟨v,[],b,d.qk5 (Vq.of_le fun c i=>(f.new c i).resolve_left (by intro h;cases h)),g,rfl⟩
def Ext.qj1{w:hW}{D:aA}(h:Ext w [] D):Vq w.heap.size D:=by
 have f:=h.new;have key:∀ (D:aA),(∀c,c∈Sx.keys D->w.heap.size<=c)->Vq w.heap.size D:=by
  intro D
  induction D with
  |nil=>intro _;trivial
  |cons p r g=>obtain⟨b,o⟩:=p;intro e;exact⟨e b (by simp[Sx.keys]),g fun c a=>e c (by simp only[Sx.keys,VY,Vw] at a |-;exact .inr a)⟩
 refine key D fun c a=>?_;rcases f c a with d|d
 .cases d
 exact d
def Ext.Vt{w:hW}{D:aA}(h:Vq w.heap.size D):Ext w [] D:=⟨fun c a=>.inr (h.le c a),fun c a=>by cases a⟩
section
variable {P:h_} {w0:hW} {f:Fr} {L:aA} {N:Fr->aA->Prop} {K:bz} {ops:Array Oper} {rest:List Oper} {md:Md}
 {d:Option Tmp} {ty:h7} {ps:String} {af:Array Edge} {g:Option (Nat×Bool)}
theorem gE{b:Nat}{o:Obj}:∀ {B:aA},(keys B).Nodup->(b,o)∈B->look B b=some o
 | [],_,h=>by cases h
 | (c,x)::q,hn,h=>by
  simp only[keys,VY,Xd] at hn;unfold look;rcases Vw.1 h with h|h
  .cases h;rw[Vb rfl]
  have:c≠b:=fun e=>hn.1 (e▸List.mem_map.2 ⟨_,h,rfl⟩);rw[tr this];exact gE hn.2 h
def SR.perm{R:List Nat}{M:aA}(h:M.Perm L)(b:(keys L).Nodup):SR w0 R M=SR w0 R L:=by
 refine pn fun r _=>?_;have c:∀ (A B:aA),A.Perm B->(keys B).Nodup-> ∀o,look A r=some o->look B r=some o:=fun A B d e o f=>gE e (d.mem_iff.1 (bU f));have g:(keys M).Nodup:=(List.Perm.nodup_iff (h.map Prod.fst)).2 b;unfold aG;cases a:look L r with
 |some o=>rw[c L M h.symm g o a]
 |none=>
  cases i:look M r with
  |none=>rfl
  |some o=>rw[c M L h b o i] at a;cases a
def YF.Vd{l:List Oper}{listed:List Bool}{n:Nat}{R ts:List Nat}{a d:Nat}{z:Obj}{M:aA}(c:M.Perm L)(h:YF P w0 l R ts a d z n listed f M N):YF P w0 l R ts a d z n listed f L N:=by
 refine⟨fun w e=>?_,fun b w g i e=>?_⟩
 .have:=h.1 w (e.perm c);rw[SR.perm c e.nodup] at this;exact this
 have j:(keys L).Nodup:=by have:=e.nodup;rw[aV,XR] at this;exact this.1
 have:=h.2 b w g (fun k=>i (by have:=(c.map Prod.fst).mem_iff.1 k;exact this)) (e.perm (c.append_right _));rw[SR.perm c j] at this;exact this
def Cw.Vd{c:Code}{M:aA}(a:M.Perm L)(h:Cw P w0 c f M K):Cw P w0 c f L K:=fun w b=>h w (b.perm a)
def Ow.Vd{M:aA}{l:List Oper}(a:M.Perm L)(h:Ow P w0 ops .seq l f M N):Ow P w0 ops .seq l f L N:=fun w b=>h w (b.perm a)
def Ow.Wf{l:List Operand}{ts:Array h7}{k:FuncId}{S:hU->aA->Prop}{b:Md}(e:md.WM=some b)
  (i:ay ops f ⟨d,.call ⟨.value (.func k),l.toArray,ts⟩,ty,ps,af,g⟩=false)
  (j:∀a w,(callFunc k a).run P w=.ok (.enter k a) w)
  (m:∀w,Hp w0 L w->Va P k (l.map (ev f)).toArray w (XS w [] S))
  (n:∀B v D,cy L B->w0.heap.size<=B->Vq B D->S v D->Ow P w0 ops b rest (aa f d v) (L++D) N):
  Ow P w0 ops md (⟨d,.call ⟨.value (.func k),l.toArray,ts⟩,ty,ps,af,g⟩::rest) f L N:=
 Ow.qk3 e i j (S:=fun B v D=>Vq B D/\S v D) (fun w o=>(m w o).mono fun r s h=>⟨h.1.qj1,h.2⟩) (fun _ _ _ h=>h.1) (fun B v D p q c=>n B v D p q c.1 c.2)
def Hp.part{w:hW}{X Y:aA}(h:Hp w0 (X++Y) w):Hp w X w:=
 ⟨fun b o a=>h.has b o (aq _ a),by have:=h.nodup;rw[aV,XR] at this;exact this.1,fun _ _ _=>rfl,aj _,rfl,rfl,rfl⟩
def Hp.join{w a:hW}{X Y D:aA}(h:Hp w0 (X++Y) w)(k:Hp w D a)(j:∀c,c∈keys X->c∈keys D)(l:∀c,c∈keys D->c∈keys X\/w.heap.size<=c):Hp w0 (D++Y) a:=by
 have d:=h.nodup;rw[aV,XR] at d;have m:∀c,c∈keys Y->c∉keys D:=by
  intro c f n;rcases l c n with g|g
  .exact d.2.2 c g c f rfl
  have:=h.lt (b:=c) (by rw[aV];exact cJ _ f);omega
 have i:=h.trans k;have e:(X++Y).filter (fun p=> !(keys D).contains p.1)=Y:=by
  rw[List.filter_append,BT m];have:X.filter (fun p=> !(keys D).contains p.1)=[]:=by rw[List.filter_eq_nil_iff];intro p o;have:=j p.1 (List.mem_map.2 ⟨p,o,rfl⟩);simp[this]
  rw[this,Vy]
 rw[e] at i;exact i.perm Y4
def Ow.XP{ts q e:h7}{m:Bool×Nat}{z:hU}{s x:Operand}{n k:Nat}{cs new:List hU}{F:TypeDesc}{y:Md}{X Y:aA}(r:hU)(Z:L=X++Y)(za:ev f s=r)(he:md.WM=some y)
  (hs:ay ops f ⟨d,.call ⟨.builtin .append,#[s,x],#[ts,q]⟩,ty,ps,af,g⟩=false)
  (G:P.underlying ts=some (.slice e)) (H:aU P e=some m) (I:kD P e=true) (J:ac P e=some z) (K:z.cells.size=m.2) (M:P.underlying q=some F) (O:∀k,F≠ .int k)
  (A:Gr X e m.2 r n cs) (Q:∀w,Hp w0 L w->W0 P w m.2 (ev f x) k new) (hk:0<k) (R:2* (n+k)+768<=2^38)
  (hn:∀B h D,cy L B->w0.heap.size<=B->Zn D e m.2 h (n+k) (cs++new)->(∀c,c∈keys X->c∈keys D)->(∀c,c∈keys D->c∈keys X\/B<=c)->(∀c o,Xy r≠some c->look X c=some o->look D c=some o)->Ow P w0 ops y rest (aa f d h) (D++Y) N):
  Ow P w0 ops md (⟨d,.call ⟨.builtin .append,#[s,x],#[ts,q]⟩,ty,ps,af,g⟩::rest) f L N:=by
 subst Z;refine Ow.step he rfl hs fun w p=>?_;have S:=p.part;have hA:cy (X++Y) w.heap.size:=ef fun b j=>p.lt j;have T:∀h a D,(Builtin.append_ #[ts,q] ty #[r,ev f x]).run P w=.ok h a->Hp w D a->Zn D e m.2 h (n+k) (cs++new)->(∀c,c∈keys X->c∈keys D)->(∀c,c∈keys D->c∈keys X\/w.heap.size<=c)->(∀c o,Xy r≠some c->look X c=some o->look D c=some o)->
   (∃v a U,(execOp (ev f) ⟨d,.call ⟨.builtin .append,#[s,x],#[ts,q]⟩,ty,ps,af,g⟩).run P w=.ok (.value v) a/\Hp w0 U a/\Ow P w0 ops y rest (aa f d v) U N):=by
  intro h a D t u j V W h3;refine⟨h,a,D++Y,?_,p.join u V W,hn w.heap.size h D hA p.size j V W h3⟩;simp only[execOp,resolve,Vp,Wm,VT,invoke,builtin,XM,VY,Wr,za];rw[t]
  rfl
 have zb:∀a,Hp w [] a->True:=fun _ _=>trivial;rcases A with A| ⟨rfl,rfl,b,rfl,zc⟩
 .obtain⟨h,a,D,t,u,j,l,-⟩:=Br (w0:=w) (L:=X) (ty:=ty) (x:=ev f x) S G H I J K M O A (fun C E=>Q C (by
   refine p.join E (fun c i=>i) (fun c i=>.inl i))) R
  exact .inl (T h a D t u j l.keys (fun c i=>(l.new c i).imp id And.right) l.look)
 rcases De (w0:=w) (L:=X) (ty:=ty) (b:=b) (x:=ev f x) S G H I J K M O (fun C E=>Q C (by refine p.join E (fun c i=>i) (fun c i=>.inl i))) R with⟨h0,-⟩ | ⟨-,h,a,D,t,u,j,l,-⟩
 .omega
 exact .inl (T h a D t u j l.keys (fun c i=>(l.new c i).imp id And.right) (fun c o _ hl=>l.look c o (by simp[Xy]) hl))
end
def Yq(D:aA)(E:h7)(m:Nat)(v:hU)(n:Nat)(cs:List hU):Prop:= ∃X,(∀p,p∈X->p∈D)/\Gr X E m v n cs
def Gr.i{X D:aA}{E:h7}{m n:Nat}{v:hU}{cs:List hU}(h:Gr X E m v n cs)(a:∀p,p∈X->p∈D):Yq D E m v n cs:=⟨X,a,h⟩
def Yq.mono{D D':aA}{E:h7}{m n:Nat}{v:hU}{cs:List hU}(h:Yq D E m v n cs)(a:∀p,p∈D->p∈D'):Yq D' E m v n cs:=by obtain⟨X,b,c⟩:=h;exact⟨X,fun p d=>a p (b p d),c⟩
def Yq.slV{α:Type}{m:Nat}{enc:α->List hU}{z:α}{w0 w:hW}{v:hU}{l:List α}{D:aA}{E:h7}{n:Nat}{cs:List hU}(h:Yq D E m v n cs)(c:Hp w0 D w)(d:l.length=n)(e:cs=(l.map enc).flatten)(a:∀x,(enc x).length=m):Xz m enc z w v l:=by obtain⟨X,f,g⟩:=h;exact g.slM (fun b o a=>c.has b o (f _ a)) d e a
section
variable {P:h_} {w0:hW} {f:Fr} {L:aA} {N:Fr->aA->Prop}
def YF.via{l:List Oper}{listed:List Bool}{n:Nat}{R ts:List Nat}{a d:Nat}{z:Obj}{G:Type}(F:G->Fr)(H:G->aA)(e:G->Prop)(h:Nat)(i:List Bool)
  (start:(∀g b c,e g->b=F g->(H g).Perm c->YF P w0 l R ts a d z h i b c N)->YF P w0 l R ts a d z n listed f L N) (j:∀g,e g->YF P w0 l R ts a d z h i (F g) (H g) N):YF P w0 l R ts a d z n listed f L N:=
 start fun g b c k m o=>by subst m;exact(j g k).Vd o
def DA{L a:aA}{b:Nat}{o:Obj}(h:b∉keys L):look (L++[(b,o)]) b=some o:=by rw[cu h];exact eJ _ _ _
theorem DU{b:Nat}{o x:Obj}:∀ {L:aA},b∉keys L->Vh (L++[(b,o)]) b x=L++[(b,x)]
 | [],_=>by rw[Vy,iN];rfl
 | (c,y)::r,h=>by simp only[keys,VY,Vw,not_or] at h;rw[Wp,mP _ _ _ _ _ (Wq h.1),DU (by simpa [keys] using h.2)];rfl
end
end Go.Sx
namespace Go.Sx
open Go
def fa{P:h_}{t e:h7}{m:Nat}{c:Array hU}{cs:List hU}(g:P.underlying t=some (.slice e))(h:aU P e=some (true,m))(a:ac P e=some (.agg c))(q:0<m/\m<=16777216)(d:cs.length=m):
  kK P t 1 [(0,.agg cs.toArray)]=some (e,cs.toArray):=by
 have j:Value.cells (.agg cs.toArray)=cs.toArray:=ag _;have k:¬ (1*m>2^24):=by simp;omega
 have l:¬ (1*m=0):=by omega
 simp only[kK,g,h,a,Ws];rw[tr k,tr l];simp only;generalize n:(Array.range (1*m)).map (fun x=>(Value.cells (.agg c))[x% (Value.cells (.agg c)).size]!)=b;have f:b.size=m:=by rw[<-n];simp
 have o:Instr.fill (fun i=>some (i*m,m)) b [(0,Value.agg cs.toArray)]=some cs.toArray:=by
  unfold Instr.fill;have p:cs.toArray.size=m:=by simp[d]
  simp only[j,p,f,Nat.zero_mul,ne_eq,not_true_eq_false,decide_false,XW,Xg,Xk,gt_iff_lt,VW,↓reduceIte];unfold Instr.fill;congr 1;have a:=Bd cs 0 0 b;rw[XL,vu b cs (by rw[d,f])] at a;simp only[Xg] at a;rw[<-Array.foldl_toList,Array.toList_zipIdx];exact a
 rw[o]
 rfl
end Go.Sx
namespace Go.Sx
open Go
abbrev Ys(a b:No):Bool:=Op.bytesLess a b
theorem iv:∀ (x y:No),Ys x y=decide (x<y)
 | [],[]=>by simp[Ys,Op.bytesLess]
 |_::_,[]=>by simp[Ys,Op.bytesLess]
 | [],_::_=>by simp[Ys,Op.bytesLess]
 |a::x,b::y=>by have c:=iv x y;simp only[Ys] at c |-;rw[Op.bytesLess,c];simp only[List.cons_lt_cons_iff];by_cases d:a<b<;>by_cases e:a=b<;>by_cases f:x<y<;>simp[d,e,f]
def rO(a:No):Ys a a=false:=by rw[iv];simp
def pR{a b c:No}(h:Ys a b=true)(k:Ys b c=true):Ys a c=true:=by rw[iv,XN] at*;exact List.lt_trans h k
def Cc{a b:No}(h:Ys a b=true):Ys b a=false:=by
 cases c:Ys b a
 .rfl
 have:=pR h c;rw[rO] at this;cases this
def oR{a b:No}(h:Ys a b=true):a≠b:=by rintro rfl;rw[rO] at h;cases h
def mS{a b:No}(h:Ys a b=false)(d:a≠b):Ys b a=true:=by
 rw[iv,qc9] at h;rw[iv,XN];rcases Std.Trichotomous.rel_or_eq_or_rel_swap (r:=(· < · :No->No->Prop)) (a:=a) (b:=b) with c|c|c
 .exact Vx c h
 .exact Vx c d
 exact c
end Go.Sx
namespace Go.StP
open Go Go.Sx
variable {α:Type} (key:α->No)
def lt(a b:α):Bool:=Ys (key a) (key b)
def Sorted(l:List α):Prop:=l.Pairwise fun a b=>lt key b a=false
def of(k:No)(l:List α):List α:=l.filter fun a=>key a==k
def St(l l':List α):Prop:= ∀k,of key k l'=of key k l
def St.refl(l:List α):St key l l:=fun _=>rfl
variable {key}
theorem St.trans{a b c:List α}(h:St key a b)(d:St key b c):St key a c:=fun k=>(d k).trans (h k)
theorem St.symm{a b:List α}(h:St key a b):St key b a:=fun k=>(h k).symm
def lM(k:No)(a b:List α):of key k (a++b)=of key k a++of key k b:=List.filter_append ..
def St.app{a c b d:List α}(h:St key a c)(e:St key b d):St key (a++b) (c++d):=fun k=>by rw[lM,lM,h,e]
def AD{k:No}{l:List α}{x:α}:x∈of key k l↔x∈l/\key x=k:=by unfold of;rw[List.mem_filter];simp
def St.mem{a b:List α}(h:St key a b)(x:α):x∈b↔x∈a:=by
 have e:=h (key x);have c:x∈b↔x∈of key (key x) b:=by rw[AD];simp
 have d:x∈a↔x∈of key (key x) a:=by rw[AD];simp
 rw[c,d,e]
def AA{k:No}{l:List α}(h:∀x,x∈l->key x≠k):of key k l=[]:=by unfold of;rw[List.filter_eq_nil_iff];intro x a;simpa using h x a
def St.swap{a b:List α}(h:∀x,x∈a-> ∀y,y∈b->key x≠key y):St key (a++b) (b++a):=by
 intro k;rw[lM,lM];by_cases d:∃x,x∈a/\key x=k
 .obtain⟨x,c,rfl⟩:=d;have:of key (key x) b=[]:=AA fun y f e=>h x c y f e.symm;rw[this,VX,Vy]
 have:of key k a=[]:=AA fun x c e=>d ⟨x,c,e⟩;rw[this,VX,Vy]
def lt_trans{a b c:α}(h:lt key a b=true)(k:lt key b c=true):lt key a c=true:=pR h k
def lt_irrefl(a:α):lt key a a=false:=rO _
def TY{a b:α}(h:lt key a b=false)(k:lt key b a=false):key a=key b:=by
 cases c:decide (key a=key b)
 .have d:key a≠key b:=Z8 c;have:=mS h d;unfold lt at k;rw[this] at k;cases k
 exact Zu c
def St.head{a b:α}{l l':List α}(i:Sorted key (a::l))(j:Sorted key (b::l'))(h:St key (a::l) (b::l')):a=b/\St key l l':=by
 have m:lt key b a=false:=by
  have d:b∈a::l:=(h.mem b).1 aX;rcases Vw.1 d with rfl|d
  .exact lt_irrefl _
  exact(List.pairwise_cons.1 i).1 b d
 have n:lt key a b=false:=by
  have e:a∈b::l':=(h.mem a).2 aX;rcases Vw.1 e with rfl|e
  .exact lt_irrefl _
  exact(List.pairwise_cons.1 j).1 a e
 have o:key a=key b:=TY n m;have f:=h (key a);unfold of at f;rw[X_,X_,Vb (by simp[o]),Vb V_] at f;have g:b=a:=(List.cons.inj f).1;refine⟨g.symm,fun k=>?_⟩;have c:=h k;subst g;unfold of at c |-;rw[X_,X_] at c
 split at c
 .exact(List.cons.inj c).2
 exact c
theorem St.eq:∀ {l c:List α},Sorted key l->Sorted key c->St key l c->l=c
 | [],[],_,_,_=>rfl
 | [],b::c,_,_,h=>by have:b∈ ([]:List α):=(h.mem b).1 aX;cases this
 |a::l,[],_,_,h=>by have:a∈ ([]:List α):=(h.mem a).2 aX;cases this
 |a::l,b::c,hs,V2,h=>by obtain⟨rfl,d⟩:=St.head hs V2 h;rw[St.eq (List.pairwise_cons.1 hs).2 (List.pairwise_cons.1 V2).2 d]
def Sorted.app{a b:List α}(c:Sorted key a)(d:Sorted key b)(h:∀x,x∈a-> ∀y,y∈b->lt key y x=false):Sorted key (a++b):=
 List.pairwise_append.2 ⟨c,d,h⟩
def Sorted.left{a b:List α}(h:Sorted key (a++b)):Sorted key a:=(List.pairwise_append.1 h).1
def Sorted.right{a b:List α}(h:Sorted key (a++b)):Sorted key b:=(List.pairwise_append.1 h).2.1
end Go.StP
namespace Go.Sx
open Go
section
variable {α:Type} (enc:α->List hU)
def bW(E:h7)(rest:List hU)(d:List α):Obj:=.cells ((d.map enc).flatten++rest).toArray E (0,0)
variable {enc} {m:Nat} {E:h7} {rest:List hU} {d:List α} {z:α}
def qZ(c:∀x,(enc x).length=m){k:Nat}(a:k<d.length):∃A C,(d.map enc).flatten++rest=A++(enc (d.getD k z)++C)/\A.length=k*m/\ ∀x,((d.set k x).map enc).flatten++rest=A++(enc x++C):=by
 refine⟨((d.take k).map enc).flatten,((d.drop (k+1)).map enc).flatten++rest,?_,?_,fun x=>?_⟩
 .have e:d=d.take k++d.getD k z::d.drop (k+1):=by
   rw[List.getD_eq_getElem?_getD,List.getElem?_eq_getElem a,Option.getD_some,List.getElem_cons_drop,Y1]
  have b:=Wc (fun l=>(l.map enc).flatten++rest) e;simp only[We,VY,Yu,Ya,Wb] at b;exact b
 .rw[qc c,W3,Nat.min_eq_left (Nat.le_of_lt a)]
 have e:d.set k x=d.take k++x::d.drop (k+1):=List.set_eq_take_append_cons_drop.trans (by rw[Vb a]);rw[e];simp only[We,VY,Yu,Ya,Wb]
def r0(a:∀x,(enc x).length=m)(k:Nat)(b:k<d.length):aF (some (true,m)) (some (bW enc E rest d)) (k*m)=some (.agg (enc (d.getD k z)).toArray):=by obtain⟨A,C,e,c,-⟩:=qZ (z:=z) (rest:=rest) a b;unfold bW;rw[e];exact r9 A _ C E (0,0) c (a _)
end
section
variable {P:h_} {w0:hW} {f:Fr} {L:aA} {N:Fr->aA->Prop} {ops:Array Oper} {rest:List Oper} {md:Md} {d:Option Tmp} {ty:h7} {ps:String} {af:Array Edge} {g:Option (Nat×Bool)}
end
end Go.Sx
namespace Go.StP
open Go Go.Sx
variable {α:Type} {key:α->No} {z:α}
def re{a b:List α}{k:Nat}(h:k<a.length):(a++b).getD k z=a.getD k z:=by rw[List.getD_eq_getElem?_getD,List.getD_eq_getElem?_getD,List.getElem?_append_left h]
def rp{a b:List α}{k:Nat}(h:a.length<=k):(a++b).getD k z=b.getD (k - a.length) z:=by rw[List.getD_eq_getElem?_getD,List.getD_eq_getElem?_getD,List.getElem?_append_right h]
def W9{l:List α}{k:Nat}(h:k<l.length):l.getD k z∈l:=by rw[List.getD_eq_getElem?_getD,List.getElem?_eq_getElem h];exact Y3 h
def qh9{l:List α}{x:α}(h:x∈l):∃k,k<l.length/\l.getD k z=x:=by obtain⟨k,a,rfl⟩:=List.mem_iff_getElem.1 h;exact⟨k,a,by rw[List.getD_eq_getElem?_getD,List.getElem?_eq_getElem a];rfl⟩
def LV{l:List α}{k n:Nat}(h:k<n):(l.take n).getD k z=l.getD k z:=by rw[List.getD_eq_getElem?_getD,List.getD_eq_getElem?_getD,List.getElem?_take,Vb h]
def qm4{l:List α}{k n:Nat}:(l.drop n).getD k z=l.getD (n+k) z:=by rw[List.getD_eq_getElem?_getD,List.getD_eq_getElem?_getD,List.getElem?_drop]
def drop_cons{l:List α}{k:Nat}(h:k<l.length):l.drop k=l.getD k z::l.drop (k+1):=by rw[List.getD_eq_getElem?_getD,List.getElem?_eq_getElem h];exact qc1 h
def WJ{l:List α}{k:Nat}(h:k<l.length):l.take (k+1)=l.take k++[l.getD k z]:=by rw[List.getD_eq_getElem?_getD,List.getElem?_eq_getElem h];exact qd4 h
def Sorted.at_{l:List α}(h:Sorted key l){i j:Nat}(b:i<=j)(a:j<l.length):lt key (l.getD j z) (l.getD i z)=false:=by
 rcases Nat.lt_or_eq_of_le b with c|rfl
 .have:=List.pairwise_iff_getElem.1 h i j oM a c;rw[List.getD_eq_getElem?_getD,List.getD_eq_getElem?_getD,List.getElem?_eq_getElem a,List.getElem?_eq_getElem (show i<l.length by omega)];exact this
 exact lt_irrefl _
end Go.StP
namespace Go.Sx
open Go
def fL(r:Option Nat):Fence:={Fence.wide with round:=r}
def jZ:Op->Bool
 | .defer _=>false
 |_=>true
section
variable {P:h_} {w0:hW} {f:Fr} {L:aA} {K:bz} {N:Fr->aA->Prop} {ops:Array Oper} {rest:List Oper} {r:Option Nat} {n:Nat}
def H5{k:FuncId}{a:Array hU}{w:hW}{R:Ending->hW->Prop}(h:Calls P k a w R):CallsIn (fL r) n P k a w R:=
 (callsIn_wide.2 h:CallsIn Fence.wide n P k a w R)
def Ig{row:String}{a:Array hU}{w:hW}{R:hU->hW->Prop}(h:Rows P row a w R):RowsIn (fL r) n P row a w R:=
 (fun c b _=>let ⟨v,d,e,s⟩:=h c b;⟨v,d,e,stepsIn_wide.2 s⟩:RowsIn Fence.wide n P row a w R)
def Po{o:Oper}{a:Act}{w:hW}{next:Act->hW->Prop}{Q:Exit->Act->hW->Prop}(g:jZ o.op=true)(h:o.wp P a w next Q):o.wpIn (fL r) n P a w next Q:=by
 refine⟨fun _ _=>trivial,?_⟩;rw[Oper.semAt_eq _ _ _ (fun c e=>by rw[e] at g;cases g)];unfold Oper.wp at h;generalize (execOp a.eval o).run P w=x at h
 match x,h with
 | .ok (.value v) _,h=>exact h
 | .ok .skip _,h=>exact h
 | .ok (.defer e) _,h=>exact h
 | .ok (.enter k b) d,h=>have f:Calls P k b d _:=h;exact⟨fun(e:false=true)=>(by cases e),H5 f⟩
 | .ok (.row row b) d,h=>have f:Rows P row b d _:=h;exact⟨fun(e:false=true)=>(by cases e),Ig f⟩
 | .halt (.panic i) _,h=>exact h
theorem nq{Q:Exit->Act->hW->Prop}{l2:List Oper}:∀ (b:List Oper) (a:Act) (w:hW),(b.all fun o=>jZ o.op)=true->
  wpList P ops (fun e a w=>e=.normal/\wpListIn (fL r) n P ops Q l2 a w) b a w->wpListIn (fL r) n P ops Q (b++l2) a w
 | [],_,_,_,h=>h.2
 |o::b,a,w,hd,h=>by
  rw[Wp];unfold wpList at h;unfold wpListIn;rw[List.all_cons,WK] at hd
  split at h
  .rename_i c;rw[Vb c];rcases h with h| ⟨-,d⟩
   .exact Po hd.1 (qj (fun a w f=>nq b a w hd.2 f) (fun e a w g i=>g i.1) h)
   obtain⟨_,_,j,-⟩:=d;cases j
  rename_i c;rw[tr c];exact⟨fun _ _=>trivial,nq b _ _ hd.2 h⟩
def OwI(r:Option Nat)(P:h_)(w0:hW)(ops:Array Oper)(l:List Oper)(f:Fr)(L:aA)(N:Fr->aA->Prop):Prop:=
 ∀w,Hp w0 L w->wpListIn (fL r) 0 P ops (da w0 N) l (act f) w
def OwI.nil(h:N f L):OwI r P w0 ops [] f L N:=fun _ a=>⟨rfl,rfl,L,a,by simpa [act] using h⟩
def OwI.pre{b l2:List Oper}(j:(b.all fun o=>jZ o.op)=true)(h:Ow P w0 ops .seq b f L (fun g d=>OwI r P w0 ops l2 g d N)):OwI r P w0 ops (b++l2) f L N:=by
 intro w c;refine nq b _ _ j ?_;have k:=h w c;have mono:∀ (l:List Oper) (a:Act) (w:hW),wpList P ops (da w0 (fun g d=>OwI r P w0 ops l2 g d N)) l a w->wpList P ops (fun e a w=>e=.normal/\wpListIn (fL r) 0 P ops (da w0 N) l2 a w) l a w:=by
  intro l
  induction l with
  |nil=>
   rintro a w ⟨-,m,d,n,p⟩;refine⟨rfl,?_⟩;have:=p w n
   rwa [<-mm m] at this
  |cons o l i=>
   intro a w h;unfold wpList at h |-
   split at h
   .rename_i c;rw[Vb c];rcases h with h| ⟨-,q⟩
    .exact .inl (qj i (fun e a w s t=>s t.1) h)
    obtain⟨_,_,u,-⟩:=q;cases u
   rename_i c;rw[tr c];exact i _ _ h
 exact mono b _ _ k
def Ow.qp5{l:List Oper}{d:Fr->aA->Prop}(h:Ow P w0 ops .seq l f L N)(i:∀f L,N f L->d f L):Ow P w0 ops .seq l f L d:=by
 intro w b;have c:=h w b;clear h
 revert c
 generalize act f=a;clear b
 induction l generalizing a w with
 |nil=>rintro⟨c,j,k,m,n⟩;exact⟨c,j,k,m,i _ _ n⟩
 |cons o l g=>
  intro h;unfold wpList at h |-
  split at h
  .rename_i b;rw[Vb b];rcases h with h| ⟨-,p⟩
   .exact .inl (qj (fun a w q=>g w a q) (fun e a w r s=>r s.1) h)
   obtain⟨_,_,t,-⟩:=p;cases t
  rename_i b;rw[tr b];exact g _ _ h
theorem OwI.all{l:List Oper}(a:(l.all fun o=>jZ o.op)=true)(h:Ow P w0 ops .seq l f L N):OwI r P w0 ops l f L N:=by have:=OwI.pre (r:=r) (l2:=[]) (N:=N) a (Ow.qp5 h (fun f L b=>OwI.nil b));simpa using this
def CwR(r:Option Nat)(P:h_)(w0:hW)(c:Code)(f:Fr)(L:aA)(K:bz):Prop:= ∀w,Hp w0 L w->c.wpIn (fL r) 0 P (post w0 K) (act f) w
theorem CwR.region{id:Nat}{l:List Oper}(a:(l.all fun o=>jZ o.op)=true)(h:Ow P w0 l.toArray .seq l f L (K .normal)):CwR r P w0 (.region id l.toArray false) f L K:=
 fun w b=>wpIn_mono (wpIn_region_lit (OwI.all a h w b)) fun _ _ _ h=>pH h
theorem CwR.block{id:Nat}{c:Code}(h:CwR r P w0 c f L (iY id K)):CwR r P w0 (.block id c) f L K:=by
 intro w j;refine wpIn_block (wpIn_mono (h w j) ?_);rintro e a l ⟨b,d,g,k⟩;cases e with
 |exit i=>
  simp only[Exit.inBlock];simp only[iY] at k
  split
  .rename_i e;rw[Vb e] at k;exact⟨b,d,g,k⟩
  rename_i e;rw[tr e] at k;exact⟨b,d,g,k⟩
 |_=>exact⟨b,d,g,k⟩
def Hp.put{w:hW}(h:Hp w0 L w){b:Nat}{o:Obj}(a:b∈keys L):Hp w0 (Vh L b o) (w.putObj b o):=h.set a rfl rfl rfl rfl
def YieldAt.of{l:Nat}{a:Loop}{X:aA}{b:Array hU}{w:hW}{k:Option Nat}{S:aA->Prop}(m:Hp w X w)(z:look X l=some (.loop a))(A:a.state=.ready)(B:a.pending=none)(C:b.size=a.params.size)
  (h:CwR (some l) P w a.assign ((a.params.zip b).foldl (fun c (p:Tmp×hU)=>c.setIfInBounds p.1 p.2) a.tmps).toList X (fun e E d=>e=.normal/\look d l=some (.loop a)/\
   CwR (some l) P w a.body E (Vh d l (.loop {a with state:=.busy})) (fun e _ f=>e=.normal/\look f l=some (.loop {a with state:=.busy})/\S (Vh f l (.loop a))))):
  YieldAt (fL k) 0 P l b w (fun e G=> ∃D,e=.returned (.bool true)/\Hp w D G/\S D):=by
 obtain⟨st,H,q,g,i,r,s,I⟩:=a;obtain rfl:st=.ready:=A;obtain rfl:H=none:=B;have J:=m.has _ _ (bU z);refine⟨q,_,r,s,run_yield J C,roundIn_of_wpIn (F:=fL k) (n:=0) trivial ?_⟩;have j:=h w m;have K:act ((i.zip b).foldl (fun c (p:Tmp×hU)=>c.setIfInBounds p.1 p.2) g).toList={tmps:=(i.zip b).foldl (fun c (p:Tmp×hU)=>c.setIfInBounds p.1 p.2) g,defers:=[]}:=by simp[act]
 simp only at j;rw[K] at j;refine wpIn_mono j ?_;rintro e R T ⟨L,d,t,rfl,u,M⟩;have N:=run_beginRound (P:=P) (t.has _ _ (bU u)) rfl;refine⟨_,N,?_⟩;have v:=M _ (t.put (o:=.loop {state:=.busy,pending:=none,fn:=q,tmps:=g,params:=i,assign:=r,body:=s,defers:=I}) (bO u));rw[<-mm L] at v;refine wpIn_mono v ?_;rintro e U V ⟨W,f,x,rfl,y,O⟩;have Q:=run_endRound (P:=P) none (x.has _ _ (bU y));exact⟨_,_,Q,_,rfl,x.put (bO y),O⟩
def Tc(b:List Deferred)(w0:hW)(K:bz)(e:Exit)(a:Act)(w:hW):Prop:=a.defers=b/\ ∃L,Hp w0 L w/\K e a.tmps.toList L
def CwE(a:List Deferred)(P:h_)(w0:hW)(c:Code)(f:Fr)(L:aA)(K:bz):Prop:= ∀w,Hp w0 L w->c.wp P (Tc a w0 K) ⟨f.toArray,a⟩ w
theorem CwE.seq{b:List Deferred}{x y:Code}(h:CwE b P w0 x f L (gJ (fun f L=>CwE b P w0 y f L K) K)):CwE b P w0 (.seq x y) f L K:=by
 intro w g;refine wp_seq (wp_mono (h w g) ?_);rintro e a i ⟨c,j,d,k⟩;cases e with
 |normal=>
  have:=k i d;have l:a=⟨a.tmps.toList.toArray,b⟩:=by cases a;simp only at c;subst c;simp
  rw[l];exact this
 |_=>exact⟨c,j,d,k⟩
theorem CwE.ret{a:List Deferred}(h:K .ret f L):CwE a P w0 .ret f L K:=fun _ b=>wp_ret ⟨rfl,L,b,by simpa using h⟩
def qt7(P:h_)(w0:hW)(L:aA):List Oper->Fr->Option Fr
 | [],f=>some f
 |o::r,f=>match o.guard,fT P w0 L f o.op with
  |none,some v=>qt7 P w0 L r (aa f o.dst v)
  |_,_=>none
theorem sS{a:List Deferred}{Q:Exit->Act->hW->Prop}{w:hW}(e:Hp w0 L w):∀ (l:List Oper) (f b:Fr),qt7 P w0 L l f=some b->Q .normal ⟨b.toArray,a⟩ w->wpList P ops Q l ⟨f.toArray,a⟩ w
 | [],f,b,h,c=>by cases h;exact c
 |o::l,f,b,h,c=>by
  unfold qt7 at h
  split at h
  .rename_i v g i;unfold wpList;have j:Region.wanted o (yielded ops (⟨f.toArray,a⟩:Act).tmps)=true:=by unfold Region.wanted;rw[g]
   rw[Vb j];refine .inl ?_;unfold Oper.wp;have k:(⟨f.toArray,a⟩:Act).eval=ev f:=by
    have:=ka f
    funext x
    exact(congrFun this x)
   rw[k,jQ e i];have m:(⟨f.toArray,a⟩:Act).put o.dst v=⟨(aa f o.dst v).toArray,a⟩:=by
    have:=eH f o.dst v;cases n:o.dst with
    |none=>rfl
    |some d=>simp only[Act.put,aa,y']
   show wpList P ops Q l ((⟨f.toArray,a⟩:Act).put o.dst v) w;rw[m];exact sS e l _ b h c
  cases h
theorem CwE.region{c:List Deferred}{id:Nat}{l:List Oper}{a:Fr}(h:qt7 P w0 L l f=some a)(d:K .normal a L):CwE c P w0 (.region id l.toArray false) f L K:=
 fun w b=>wp_region_lit (sS b l f a h ⟨rfl,L,b,by simpa using d⟩)
def Gr.at_{L:aA}{E:h7}{m n:Nat}{v:hU}{cs:List hU}(h:Gr L E m v n cs){b:Nat}(d:Xy v=some b):∃a,look L b=some (.cells a E (0,0)):=by
 rcases h with h| ⟨rfl,rfl,c,rfl,e⟩
 .rcases h.inv with⟨rfl,-,-⟩ | ⟨c,f,rest,rfl,e,-⟩
  .cases d
  have:c=b:=by simpa [Xy,Xr] using d
  subst this;exact⟨_,e⟩
 have:c=b:=by simpa [Xy,Xr] using d
 subst this;exact⟨_,e⟩
def Gr.ne{L:aA}{E:h7}{m n:Nat}{v:hU}{cs:List hU}(h:Gr L E m v n cs){b:Nat}{o:Obj}(d:look L b=some o)(f:∀a,o≠ .cells a E (0,0)):Xy v≠some b:=fun e=>by obtain⟨a,c⟩:=h.at_ e;rw[d] at c;exact f a (XD c)
theorem Gr.Vh{L:aA}{E:h7}{m n:Nat}{v:hU}{cs:List hU}(h:Gr L E m v n cs){b:Nat}(a:Xy v≠some b)(x:Obj):Gr (Vh L b x) E m v n cs:=
 h.Vn fun c o d f=>by rw[bE (fun e:b=c=>a (by rw[e];exact d))];exact f
def bw(a:FuncId)(f:Fr)(ps:Array Tmp)(b c:Code)(dk:Nat)(st:LoopState):Loop:={state:=st,pending:=none,fn:=a,tmps:=f.toArray,params:=ps,assign:=b,body:=c,defers:=dk}
end
end Go.Sx
namespace Go.Sx
open Go
section
variable {α:Type} {m:Nat} {enc:α->List hU} {z:α} {w:hW} {v:hU} {l:List α}
def Xz.qh7(h:Xz m enc z w v l){k:Nat}(p:k<=l.length)(a:Bool):∃f,eN (.sl (a,m)) v (some (some (k:Int))) none=some f/\Xz m enc z w f (l.drop k)/\(∀b,Xy f=some b->Xy v=some b):=by
 obtain⟨b,off,c,arr,E,fz,q,x,r⟩:=h;have d:(l.drop k).length=l.length - k:=by simp
 rcases r with⟨rfl,rfl,rfl⟩ | ⟨rfl,g,y⟩
 .obtain rfl:k=0:=by simpa using p
  exact⟨Vj,rfl,Xz.nil w,fun b n=>n⟩
 have s:eN (.sl (a,m)) (Xr b off l.length c) (some (some (k:Int))) none=some (Xr b (if c=k then off else off+k*m) (l.length - k) (c - k)):=by
  unfold eN Xr;simp only[og _ _ _ (⟨by omega,by omega⟩:(0:Int)<= (k:Int)/\(k:Int)<= (l.length:Int)),WX];by_cases e:c=k
  .simp[e]
  simp only[e,↓reduceIte,Ws,ic]
 refine⟨_,s,?_,fun A n=>n⟩;have B:k*m+ (l.length - k)*m=l.length*m:=by rw[<-Nat.add_mul];congr 1;omega
 by_cases e:c=k
 .have t:l.length - k=0:=by omega
  rw[Vb e];refine⟨b,off,c - k,arr,E,fz,WL.sl' d.symm (fun h=>by omega) (fun i o=>by omega),by omega,.inr ⟨by rw[d],g,by rw[d,t];omega⟩⟩
 rw[tr e];refine⟨b,off+k*m,c - k,arr,E,fz,WL.sl' d.symm (fun h=>g) ?_,by omega,.inr ⟨by rw[d],g,by rw[d];omega⟩⟩;intro i o j u;rw[d] at o;rw[List.getD_eq_getElem?_getD,List.getElem?_drop,<-List.getD_eq_getElem?_getD,<-q.get (k+i) oM j u];congr 1;rw[Nat.add_mul];omega
end
section
variable {P:h_} {w0:hW} {f:Fr} {L:aA} {N:Fr->aA->Prop} {ops:Array Oper} {rest:List Oper} {md:Md} {d:Option Tmp} {ty:h7} {ps:String} {af:Array Edge} {g:Option (Nat×Bool)}
end
section
variable {P:h_} {w0:hW} {f:Fr} {L:aA} {K:bz}
def Cw.world{c:Code}(h:∀w,Hp w0 L w->Cw P w0 c f L K):Cw P w0 c f L K:=fun w a=>h w a w a
def Gr.read{E:h7}{m n:Nat}{v:hU}{cs:List hU}(h:Gr L E m v n cs){b:Nat}(e:Xy v=some b){w:hW}(f:Hp w0 L w){o:Obj}(c:w.heap[b]? =some o):aG w0 L b=some o:=by obtain⟨a,d⟩:=h.at_ e;rw[f.has _ _ (bU d)] at c;rw[aO d];exact c
end
end Go.Sx
namespace Go.Sx
open Go
section
variable {α β:Type} [BEq α] [LawfulBEq α] (encK:α->hU) (encV:β->hU)
def ee(k:α):List (α×β)->Nat->Option (Nat×β)
 | [],_=>none
 |p::r,i=>if k==p.1 then some (i,p.2) else ee k r (i+1)
def qb9(k:α)(v:β):List (α×β)->List (α×β)
 | []=>[(k,v)]
 |p::r=>if k==p.1 then(p.1,v)::r else p::qb9 k v r
def Z4(k:α)(z:β)(m:List (α×β)):β:=match m.find? fun p=>k==p.1 with|some p=>p.2|none=>z
def f0(p:α×β):hU×hU:=(encK p.1,encV p.2)
def dO(o:Obj)(m:List (α×β)):Prop:= ∃a b,o=.map a b/\a.toList.map (fun e=>(e.key,e.val))=m.map (f0 encK encV)/\(a.toList.map (·.born)++[b]).Pairwise (· < ·)
structure ZK(P:h_)(kt:h7)(encK:α->hU):Prop where
 find:∀ {β:Type} (encV:β->hU) (w:hW) (k:α) (es:List MapEntry) (m:List (α×β)),es.map (fun e=>(e.key,e.val))=m.map (f0 encK encV)->(Instr.findKey kt (encK k) es).run P w=.ok ((ee k m 0).map fun p=>(p.1,encV p.2)) w
 check:∀ (w:hW) (e:Bool) (k:α),(Instr.checkKey e 10000 kt (encK k)).run P w=.ok () w
 bits:∀k,Instr.sameBits 10000 (encK k) (encK k)=true
variable {encK encV}
omit [LawfulBEq α] in
theorem Dt{d:TypeDesc}(f:∀a b,Instr.sameNow d (encK a) (encK b)=some (a==b))(k:α):∀ (c:List MapEntry) (m:List (α×β)) (i:Nat),c.map (fun e=>(e.key,e.val))=m.map (f0 encK encV)->
  Instr.findNow d (encK k) c i=some ((ee k m i).map fun p=>(p.1,encV p.2))
 | [],[],i,_=>rfl
 | [],_::_,_,h=>by cases h
 |_::_,[],_,h=>by cases h
 |e::c,p::m,i,h=>by
  simp only[VY,List.cons.injEq,f0,Xp] at h;obtain⟨⟨g,j⟩,l⟩:=h;unfold Instr.findNow;have f:Instr.sameNow d (encK k) e.key=some (k==p.1):=by rw[g,f]
  rw[f];unfold ee;cases n:(k==p.1)
  .simp only[VW,↓reduceIte];exact Dt ‹_› k c m (i+1) l
  simp[j]
theorem EJ(k:α):∀ (m:List (α×β)) (i j:Nat) (v:β),ee k m i=some (j,v)->i<=j/\ ∃a,m[j - i]? =some (k,a)/\a=v
 | [],_,_,_,h=>by cases h
 |p::r,i,j,v,h=>by
  unfold ee at h
  split at h
  .rename_i b;cases h;refine⟨aj _,p.2,?_,rfl⟩;rw[Nat.sub_self,List.getElem?_cons_zero,eq_of_beq b]
  obtain⟨e,a,c,d⟩:=EJ k r (i+1) j v h;refine⟨by omega,a,?_,d⟩;rw[show j - i=(j - (i+1))+1 by omega,List.getElem?_cons_succ];exact c
theorem u4(k:α)(v:β):∀ (b:List MapEntry) (m:List (α×β)) (i j:Nat) (a:β),b.map (fun e=>(e.key,e.val))=m.map (f0 encK encV)->ee k m i=some (j,a)->
  (b.modify (j - i) fun e=>{e with key:=encK k,val:=encV v}).map (fun e=>(e.key,e.val))=(qb9 k v m).map (f0 encK encV)
 | [],[],_,_,_,_,h=>by cases h
 | [],_::_,_,_,_,h,_=>by cases h
 |_::_,[],_,_,_,h,_=>by cases h
 |e::b,p::m,i,j,a,h,hf=>by
  simp only[VY,List.cons.injEq,f0,Xp] at h;obtain⟨⟨f,g⟩,d⟩:=h;unfold ee at hf;unfold qb9
  split at hf
  .rename_i c;cases hf;rw[Vb c,Nat.sub_self];simp only[List.modify_zero_cons,VY,f0,eq_of_beq c];rw[d]
  rename_i c;have l:=(EJ k m (i+1) j a hf).1;rw[tr c,show j - i=(j - (i+1))+1 by omega];simp only[List.modify_succ_cons,VY,f0];rw[u4 k v b m (i+1) j a d hf,f,g]
omit [LawfulBEq α] in
theorem tX(k:α)(v:β):∀ (m:List (α×β)) (i:Nat),ee k m i=none->qb9 k v m=m++[(k,v)]
 | [],_,_=>rfl
 |p::r,i,h=>by
  unfold ee at h
  split at h
  .cases h
  rename_i a;unfold qb9;rw[tr a,tX k v r (i+1) h];rfl
omit [LawfulBEq α] in
theorem uI(k:α):∀ (m:List (α×β)) (i:Nat),(ee k m i).map Prod.snd=(m.find? fun p=>k==p.1).map Prod.snd
 | [],_=>rfl
 |p::r,i=>by
  unfold ee;rw[List.find?_cons];cases h:(k==p.1)
  .simp only[VW,↓reduceIte];exact uI k r (i+1)
  rfl
def Oq{k:α}{m:List (α×β)}{b:List MapEntry}{j:Nat}{a:β}(h:b.map (fun e=>(e.key,e.val))=m.map (f0 encK encV))(f:ee k m 0=some (j,a)):∃e,b[j]? =some e/\e.key=encK k:=by
 obtain⟨-,g,c,rfl⟩:=EJ k m 0 j a f;rw[Nat.sub_zero] at c;have:=Wc (·[j]?) h;simp only[List.getElem?_map,c,Ws] at this;cases d:b[j]? with
 |none=>rw[d] at this;cases this
 |some e=>rw[d] at this;simp only[Ws,WD,f0,Xp] at this;exact⟨e,rfl,this.1⟩
theorem ZK.int{P:h_}{c:h7}{f:IntKind}(d:P.underlying c=some (.int f)):ZK P c vi where
 find encV w k es m h:=by
  simp only[Instr.findKey,Vp,Wn d w,VT];rw[Dt (encK:=vi) (fun a b=>by simp[Instr.sameNow,vi]) k es m 0 h]
  rfl
 check w e k:=by
  unfold Instr.checkKey;simp only[Vp,Wn d w,VT]
  rfl
 bits k:=by simp[vi,Instr.sameBits]
variable {P:h_} {w0:hW} {f:Fr} {L:aA} {N:Fr->aA->Prop} {ops:Array Oper} {rest:List Oper} {md:Md}
 {d:Option Tmp} {ty:h7} {ps:String} {af:Array Edge} {g:Option (Nat×Bool)}
omit [BEq α] [LawfulBEq α] in
def Ow.qe8{t:h7}{c:Md}(e:md.WM=some c)(h:ay ops f ⟨d,.makeMap t none,ty,ps,af,g⟩=false)
  (i:∀b o,cy L b->w0.heap.size<=b->dO encK encV o []->Ow P w0 ops c rest (aa f d (vm b)) (L++[(b,o)]) N):
  Ow P w0 ops md (⟨d,.makeMap t none,ty,ps,af,g⟩::rest) f L N:=by
 refine Ow.step e rfl h fun w a=>.inl ⟨vm w.heap.size,w.alloc (.map #[] 0),_,?_,a.alloc _,i _ _ (ef fun b j=>a.lt j) a.size ⟨#[],0,rfl,rfl,qc0 _ _⟩⟩;simp only[execOp,Instr.makeMap,Vp,YL]
 rfl
def Ow.YY{t A vt:h7}{x y z:Operand}{b:Nat}{o:Obj}{m:List (α×β)}{k:α}{v:β}{B:Md}(J:md.WM=some B)(K:ay ops f ⟨d,.mapUpdate t x y z,ty,ps,af,g⟩=false)(C:P.underlying t=some (.map A vt))(l:ZK P A encK)
  (D:ev f x=vm b) (E:ev f y=encK k) (F:ev f z=encV v) (s:look L b=some o) (M:dO encK encV o m)
  (G:∀H,dO encK encV H (qb9 k v m)->Ow P w0 ops B rest (aa f d undef) (Vh L b H) N):
  Ow P w0 ops md (⟨d,.mapUpdate t x y z,ty,ps,af,g⟩::rest) f L N:=by
 obtain⟨h,c,rfl,n,I⟩:=M;refine Ow.step J rfl K fun w u=>?_;have q:=u.has _ _ (bU s);have r:=l.find encV w k h.toList m n;cases i:ee k m 0 with
 |none=>
  rw[i] at r;refine .inr (.inl ⟨{w with heap:=w.heap.setIfInBounds b (.map (h.push {key:=encK k,val:=encV v,born:=c}) (c+1))},_,?_,u.set (bO s) rfl rfl rfl rfl,G _ ⟨_,_,rfl,?_,by rw[Array.toList_push];exact tg I rfl⟩⟩)
  .have:(Instr.mapUpdate t (vm b) (encK k) (encV v)).run P w=.ok () {w with heap:=w.heap.setIfInBounds b (.map (h.push {key:=encK k,val:=encV v,born:=c}) (c+1))}:=by
    simp only[Instr.mapUpdate,vm,Vp,Wn C w,VT,gX q,l.check,r,YL,mA q]
   simp only[execOp,Vp,D,E,F];rw[this];rfl
  rw[tX k v m 0 i,Array.toList_push,We,n,We];rfl
 |some p=>
  obtain⟨j,a⟩:=p;rw[i] at r;obtain⟨e,O,Q⟩:=Oq n i;have R:h[j]? =some e:=by simpa using O
  have S:(Instr.keyThatStays (((h[j]?).map (·.key)).getD (encK k)) (encK k)).run P w=.ok (encK k) w:=by rw[R,Ws,Option.getD_some,Q];unfold Instr.keyThatStays;rw[Vb (l.bits k)];rfl
  refine .inr (.inl ⟨{w with heap:=w.heap.setIfInBounds b (.map (h.modify j fun e=>{e with key:=encK k,val:=encV v}) c)},_,?_,u.set (bO s) rfl rfl rfl rfl,G _ ⟨_,_,rfl,?_,by rw[Array.toList_modify,UO (g:=fun e=>{e with key:=encK k,val:=encV v}) fun _=>rfl];exact I⟩⟩)
  .have:(Instr.mapUpdate t (vm b) (encK k) (encV v)).run P w=.ok () {w with heap:=w.heap.setIfInBounds b (.map (h.modify j fun e=>{e with key:=encK k,val:=encV v}) c)}:=by
    simp only[Instr.mapUpdate,vm,Vp,Wn C w,VT,gX q,l.check,r,Ws,S,mA q]
   simp only[execOp,Vp,D,E,F];rw[this];rfl
  rw[Array.toList_modify];have:=u4 k v h.toList m 0 j a n i;rw[Nat.sub_zero] at this;exact this
omit [LawfulBEq α] in
def Ow.XQ{t q vt:h7}{x y:Operand}{b:Nat}{o:Obj}{m:List (α×β)}{k:α}{z:β}{r:Md}(B:md.WM=some r)(C:ay ops f ⟨d,.lookup t x y false,ty,ps,af,g⟩=false)(s:P.underlying t=some (.map q vt))(l:ZK P q encK)
  (D:ac P vt=some (encV z)) (E:ev f x=vm b) (F:ev f y=encK k) (G:aG w0 L b=some o) (H:dO encK encV o m)
  (I:Ow P w0 ops r rest (aa f d (encV (Z4 k z m))) L N):
  Ow P w0 ops md (⟨d,.lookup t x y false,ty,ps,af,g⟩::rest) f L N:=by
 obtain⟨J,c,rfl,K,-⟩:=H;refine Ow.step B rfl C fun w u=>?_;have v:=u.read G;have i:=l.find encV w k J.toList m K;refine .inl ⟨encV (Z4 k z m),w,L,?_,u,I⟩;have e:=uI k m 0;have:(Instr.lookup t (vm b) (encK k) false).run P w=.ok (encV (Z4 k z m)) w:=by
  cases A:ee k m 0 with
  |none=>
   rw[A] at i e;have n:Z4 k z m=z:=by
    unfold Z4;cases h:m.find? fun p=>k==p.1 with
    |none=>rfl
    |some M=>rw[h] at e;cases e
   simp only[Instr.lookup,vm,Vp,Wn s w,VT,gX v,Wm,l.check,i,YL,m0 D w,n,VW,↓reduceIte]
  |some p=>
   obtain⟨j,a⟩:=p;rw[A] at i e;have n:Z4 k z m=a:=by
    unfold Z4;cases h:m.find? fun p=>k==p.1 with
    |none=>rw[h] at e;cases e
    |some M=>rw[h] at e;simp only[Ws,WD] at e;exact e.symm
   simp only[Instr.lookup,vm,Vp,Wn s w,VT,gX v,Wm,l.check,i,Ws,n,VW,↓reduceIte]
 simp only[execOp,Vp,E,F];rw[this];rfl
end
section
variable {P:h_} {w0:hW} {f:Fr} {L:aA} {N:Fr->aA->Prop} {ops:Array Oper} {rest:List Oper} {md:Md} {d:Option Tmp} {ty:h7} {ps:String} {af:Array Edge} {g:Option (Nat×Bool)}
def Ow.qb3{x y:Operand}{b:hU}{cap ars:Array hU}(A:#[b]++cap=ars){ts:Array h7}{k:FuncId}{X Y:aA}{S:hU->aA->Prop}{r:Md}(C:L=X++Y)(n:md.WM=some r)
  (E:ay ops f ⟨d,.call ⟨.value x,#[y],ts⟩,ty,ps,af,g⟩=false)
  (j:ev f x=.func (.func k) #[] cap) (F:ev f y=b)
  (G:∀a w,(callFunc k a).run P w=.ok (.enter k a) w)
  (i:∀w,Hp w0 L w->(∀p,p∈X->w.heap[p.1]? =some p.2)->(keys X).Nodup->Va P k ars w (XS w X S))
  (H:∀v D,qf5 w0 L X D->S v D->Ow P w0 ops r rest (aa f d v) (D++Y) N):
  Ow P w0 ops md (⟨d,.call ⟨.value x,#[y],ts⟩,ty,ps,af,g⟩::rest) f L N:=by
 subst C;have s:∀w,Hp w0 (X++Y) w->(keys X).Nodup/\ ∀c,c∈keys Y->c∉keys X:=by intro w l;have:=l.nodup;rw[aV,XR] at this;exact⟨this.1,fun c i j=>this.2.2 c j c i rfl⟩
 refine Ow.call (S:=fun B v D=>((∀c,c∈keys D->c∈keys X\/B<=c)/\(∀c,c∈keys X->c∈keys D)/\S v D)/\ ∃w,Hp w0 (X++Y) w/\w.heap.size=B) n E j G (fun w l=>?_) ?_
 .show Va P k (#[]++ #[y].map (ev f)++cap) w _;rw[show(#[]++ #[y].map (ev f)++cap:Array hU)=ars by rw[<-A];simp[F]];refine Calls.mono (i w l (fun p m=>l.has _ _ (aq _ m)) (s w l).1) ?_;rintro e I ⟨v,D,n,m,o⟩;exact⟨v,D,n,m,⟨o.1.new,o.1.all,o.2⟩,w,l,rfl⟩
 rintro B v D T U ⟨⟨t,u,J⟩,V,z,W⟩;refine⟨D++Y,?_,H v D ⟨fun c i=>(t c i).imp id fun h=>⟨ef fun b K=>by have:=z.lt K;omega,by have:=z.size;omega⟩,u⟩ J⟩;intro w I Z h k;have q:=h.trans k;have M:∀c,c∈keys Y->c∉keys D:=by
  intro c i O;rcases t c O with j|j
  .exact(s w h).2 c i j
  have:=h.lt (b:=c) (by rw[aV];exact cJ _ i);omega
 have Q:X.filter (fun p=> !(keys D).contains p.1)=[]:=by rw[List.filter_eq_nil_iff];intro p m;have:=u p.1 (List.mem_map.2 ⟨p,m,rfl⟩);simpa using this
 have R:Y.filter (fun p=> !(keys D).contains p.1)=Y:=BT M;rw[List.filter_append,Q,R,Vy] at q;refine q.same (fun p=>by simp[or_comm]) ?_;have:=q.nodup;rw[aV] at this |-;exact(Y4.nodup_iff).1 this
end
end Go.Sx
namespace Go.Sx
open Go
def ItG{α β:Type}(encK:α->hU)(encV:β->hU)(o:Obj)(bm:Nat)(f:Obj)(m dn lf:List (α×β)):Prop:=
 ∃a b,∃c:List MapEntry,f=.map a b/\(a.toList.map (·.born)++[b]).Pairwise (· < ·)/\o=.mapIter (some bm) b (c.map (·.born)).toArray b/\
  c.map kv=dn.map (f0 encK encV)/\(∀d,d∈c->d∈a.toList)/\((a.toList.filter fun e=> !(c.map (·.born)).contains e.born).map kv=lf.map (f0 encK encV))/\(dn++lf).Perm m
def ItG.start{α β:Type}{encK:α->hU}{encV:β->hU}{bm:Nat}{c:Obj}{m:List (α×β)}(h:dO encK encV c m):∃a b,c=.map a b/\ItG encK encV (.mapIter (some bm) b #[] b) bm c m [] m:=by obtain⟨a,b,rfl,f,g⟩:=h;refine⟨a,b,rfl,a,b,[],rfl,g,rfl,rfl,(fun d i=>by cases i),?_,by rw[Vy]⟩;rw[show(a.toList.filter fun e=> !(([]:List MapEntry).map (·.born)).contains e.born)=a.toList from List.filter_eq_self.2 (fun _ _=>rfl)];exact f
def ItG.step{α β:Type}{encK:α->hU}{encV:β->hU}{bm:Nat}{i:Obj}{m dn lf:List (α×β)}{a:Array MapEntry}{c:Nat}{b:List MapEntry}{e:MapEntry}(j:(a.toList.map (·.born)++[c]).Pairwise (· < ·))
  (s:b.map kv=dn.map (f0 encK encV)) (t:∀d,d∈b->d∈a.toList) (k:(a.toList.filter fun e=> !(b.map (·.born)).contains e.born).map kv=lf.map (f0 encK encV)) (u:(dn++lf).Perm m)
  (l:e∈a.toList.filter fun e=> !(b.map (·.born)).contains e.born) (v:i=.map a c):
  ∃p n,kv e=f0 encK encV p/\lf.length=n.length+1/\ItG encK encV (.mapIter (some bm) c ((b.map (·.born)).toArray.push e.born) c) bm i m (dn++[p]) n:=by
 obtain⟨A,C,g⟩:=List.append_of_mem l;rw[g,We,VY] at k;obtain⟨w,I,rfl,y,z⟩:=List.append_eq_map_iff.1 k;obtain⟨p,B,rfl,o,D⟩:=(List.map_eq_cons_iff.1 z);refine⟨p,w++B,o.symm,by simp;omega,a,c,b++[e],v,j,by simp,by simp[s,o],?_,?_,?_⟩
 .intro d E;rcases Wu.1 E with h|h
  .exact t d h
  rw[VZ] at h;subst h;exact(List.mem_filter.1 l).1
 .have q:((A++e::C).map (·.born)).Nodup:=by
   rw[<-g];exact(Be j).sublist ((List.filter_sublist).map _)
  have F:(a.toList.filter fun x=> !((b++[e]).map (·.born)).contains x.born)=(A++e::C).filter fun x=> !(x.born==e.born):=by rw[<-g,List.filter_filter];refine List.filter_congr fun x f=>?_;simp only[We,VY,Wr,List.contains_append,List.contains_cons,List.contains_nil,YN,Bool.not_or];rw[Bool.and_comm]
  rw[We,VY,XR] at q;obtain⟨-,r,G⟩:=q;rw[Xd] at r;have H:((A++e::C).filter fun x=> !(x.born==e.born))=A++C:=by
   rw[List.filter_append,X_];simp only[Yf,YT,VW,↓reduceIte];congr 1
   .refine List.filter_eq_self.2 fun x f=>?_;have:=G x.born (List.mem_map.2 ⟨x,f,rfl⟩) e.born aX;simpa using this
   refine List.filter_eq_self.2 fun x f=>?_;have:x.born≠e.born:=fun h=>r.1 (h▸List.mem_map.2 ⟨x,f,rfl⟩);simpa using this
  rw[F,H,We,We,y,D]
 refine List.Perm.trans ?_ u;rw[Wb];refine List.Perm.append_left dn ?_;rw[List.singleton_append];exact List.perm_middle.symm
section
variable {α β:Type} {encK:α->hU} {encV:β->hU} {P:h_} {w0:hW} {f:Fr} {L:aA} {N:Fr->aA->Prop} {ops:Array Oper} {rest:List Oper} {md:Md}
 {d:Option Tmp} {ty:h7} {ps:String} {af:Array Edge} {g:Option (Nat×Bool)}
def Ow.ZY{t j vt:h7}{x:Operand}{bm:Nat}{e:Obj}{m:List (α×β)}{i:Md}(k:md.WM=some i)(l:ay ops f ⟨d,.range t x,ty,ps,af,g⟩=false)(n:P.underlying t=some (.map j vt))
  (p:ev f x=vm bm) (q:aG w0 L bm=some e) (r:dO encK encV e m)
  (s:∀b o,cy L b->w0.heap.size<=b->ItG encK encV o bm e m [] m->Ow P w0 ops i rest (aa f d (itv b)) (L++[(b,o)]) N):
  Ow P w0 ops md (⟨d,.range t x,ty,ps,af,g⟩::rest) f L N:=by
 obtain⟨v,a,rfl,u⟩:=ItG.start (bm:=bm) r;refine Ow.step k rfl l fun w c=>.inl ⟨itv w.heap.size,w.alloc (.mapIter (some bm) a #[] a),_,?_,c.alloc _,s _ _ (ef fun b h=>c.lt h) c.size u⟩;have h:=c.read q;have:(Instr.range t (vm bm)).run P w=.ok (itv w.heap.size) (w.alloc (.mapIter (some bm) a #[] a)):=by
  simp only[Instr.range,vm,Vp,Wn n w,VT,gX h]
  rfl
 simp only[execOp,Vp,p];rw[this];rfl
def Ow.qb8{x:Operand}{r bm:Nat}{o h:Obj}{m dn lf:List (α×β)}{i:Md}(A:md.WM=some i)(B:ay ops f ⟨d,.next x false,ty,ps,af,g⟩=false)
  (q:ev f x=itv r) (s:look L r=some o) (C:aG w0 L bm=some h) (D:ItG encK encV o bm h m dn lf)
  (E:lf=[]->Ow P w0 ops i rest (aa f d (.tuple #[.bool false])) L N)
  (F:∀p t c,lf.length=c.length+1->ItG encK encV t bm h m (dn++[p]) c->Ow P w0 ops i rest (aa f d (.tuple #[.bool true,encK p.1,encV p.2])) (Vh L r t) N):
  Ow P w0 ops md (⟨d,.next x false,ty,ps,af,g⟩::rest) f L N:=by
 refine Ow.step A rfl B fun w a=>?_;have G:=a.has _ _ (bU s);have H:=a.read C;obtain⟨u,b,j,rfl,v,rfl,I,J,k,K⟩:=D;rcases run_next_at (P:=P) w ty r bm b b (j.map (·.born)).toArray u b G H (wN v) (aj _) with⟨M,l⟩ | ⟨e,y,z,O,l⟩
 .refine .inl ⟨.tuple #[.bool false],w,L,?_,a,E ?_⟩
  .simp only[execOp,Vp,q,itv];rw[l];rfl
  have:(leftOf u (j.map (·.born)).toArray).toList=[]:=by rw[Array.toList_eq_nil_iff];exact Array.eq_empty_of_size_eq_zero M
  rw[Ci] at this;rw[this] at k;exact(List.map_eq_nil_iff.1 k.symm)
 rw[Ci] at y;obtain⟨p,c,n,Q,R⟩:=ItG.step (bm:=bm) v I J k K y rfl;simp only[kv,f0,Xp] at n;have S:Hp w0 L z:=by rcases O with rfl|rfl;exact a;exact a.drew
 refine .inl ⟨.tuple #[.bool true,encK p.1,encV p.2],ChangeMaps.setBlock z r (.mapIter (some bm) b ((j.map (·.born)).toArray.push e.born) b),_,?_,S.set (bO s) rfl rfl rfl rfl,F p _ c Q R⟩;simp only[execOp,Vp,q,itv];rw[l,n.1,n.2];rfl
def Ow.ZW{x:Operand}{r bm:Nat}{o h:Obj}{m dn lf:List (α×β)}{p:α×β}{i:Md}(n:md.WM=some i)(q:ay ops f ⟨d,.entry x,ty,ps,af,g⟩=false)
  (s:ev f x=itv r) (t:aG w0 L r=some o) (u:aG w0 L bm=some h) (v:ItG encK encV o bm h m (dn++[p]) lf)
  (y:Ow P w0 ops i rest (aa f d (.tuple #[encK p.1,encV p.2])) L N):
  Ow P w0 ops md (⟨d,.entry x,ty,ps,af,g⟩::rest) f L N:=by
 refine Ow.step n rfl q fun w a=>.inl ⟨_,w,L,?_,a,y⟩;have j:=a.read t;have z:=a.read u;obtain⟨A,k,H,rfl,B,rfl,l,C,I,J⟩:=v;rw[We,VY,Wr] at l;obtain⟨b,K,rfl,-,D⟩:=List.map_eq_append_iff.1 l;obtain⟨e,M,rfl,c,E⟩:=List.map_eq_cons_iff.1 D;obtain rfl:=List.map_eq_nil_iff.1 E;simp only[kv,f0,Xp] at c;have F:((b++[e]).map (·.born)).toArray=(b.map (·.born)).toArray.push e.born:=by simp
 rw[F] at j;have G:=run_entry_at (P:=P) w r bm k (b.map (·.born)).toArray A k e j z (C e V_) (Be B);simp only[execOp,Vp,s,itv];rw[G,c.1,c.2];rfl
end
def HK(l:No):Instr.sameBits 10000 (.agg (a8 l)) (.agg (a8 l))=true:=by show Instr.sameBits (9999+1) _ _=true;unfold Instr.sameBits;simp only[Yf,XA,XX];intro p a;obtain⟨i,b,rfl⟩:=List.getElem_of_mem a;rw[List.getElem_zip];simp[a8,Instr.sameBits]
def Fj{P:h_}{t e:h7}{n:Nat}(a:P.underlying t=some (.array n e))(b:P.underlying e=some (.int .u8))(c:aU P e=some (false,1))(l l':No)(f:l.length=n)(g:l'.length=n)(w:hW):
  (Op.equal t (.agg (a8 l)) (.agg (a8 l'))).run P w=.ok (l==l') w:=
 A1 P 8 9992 t _ _ _ (lQ (d:=6) a b c l l' f g) w
def F9{P:h_}{t e:h7}{n:Nat}(f:P.underlying t=some (.array n e))(g:P.underlying e=some (.int .u8))(d:aU P e=some (false,1))(l:No)(p:l.length=n)(a:Bool)(w:hW):
  (Instr.checkKey a 10000 t (.agg (a8 l))).run P w=.ok () w:=by
 show(Instr.checkKey a (9999+1) t (.agg (a8 l))).run P w=.ok () w;rw[Instr.checkKey];simp only[Vp,Wn f,VT];simp only[Std.Legacy.Range.forIn_eq_forIn_range',Std.Legacy.Range.size,Nat.sub_zero,Nat.add_one_sub_one,Nat.div_one];have c:∀j,j∈List.range' 0 n->j<l.length:=by intro j b;rw[List.mem_range'] at b;obtain⟨i,q,rfl⟩:=b;omega
 generalize List.range' 0 n=is at c
 induction is with
 |nil=>simp
 |cons j is h=>
  have b:=c j V_;have k:(part e (a8 l) (j*1)).run P w=.ok (v8 (l.getD j 0)) w:=by refine k5 d ?_ w;simp[Xj,a8,v8,b]
  have m:(Instr.checkKey a 9999 e (v8 (l.getD j 0))).run P w=.ok () w:=by
   show(Instr.checkKey a (9998+1) e (v8 (l.getD j 0))).run P w=.ok () w;rw[Instr.checkKey];simp only[Vp,Wn g,VT,v8]
   rfl
  simp only[List.forIn_cons,Vp,ei d w,VT,k,m,Wm];exact h (fun y o=>c y (by simp[o]))
theorem JU{n:Nat}{e:h7}(x:hU):∀ (a:List MapEntry) (i:Nat),a≠ []->Instr.findNow (.array n e) x a i=none
 | [],_,h=>Vx rfl h
 |_::_,_,_=>by cases x<;>rfl
theorem U8{α β:Type}[BEq α]{P:h_}{d:h7}{encK:α->hU}{encV:β->hU}(f:∀a b w,(Op.equal d (encK a) (encK b)).run P w=.ok (a==b) w)(w:hW)(k:α):∀ (c:List MapEntry) (m:List (α×β)) (i:Nat),c.map (fun e=>(e.key,e.val))=m.map (f0 encK encV)->
  (Instr.findAsking d (encK k) c i).run P w=.ok ((ee k m i).map fun p=>(p.1,encV p.2)) w
 | [],[],_,_=>rfl
 | [],_::_,_,h=>by cases h
 |_::_,[],_,h=>by cases h
 |e::c,p::m,i,h=>by
  simp only[VY,List.cons.injEq,f0,Xp] at h;obtain⟨⟨g,j⟩,l⟩:=h;unfold Instr.findAsking ee;rw[Vp,g,f];simp only[VT];cases n:(k==p.1)
  .simp only[VW,↓reduceIte];exact U8 f w k c m (i+1) l
  simp[j]
def ZK.arr{α:Type}[BEq α]{P:h_}{f e:h7}{n:Nat}(c:P.underlying f=some (.array n e))(g:P.underlying e=some (.int .u8))(i:aU P e=some (false,1))(bs:α->No)(d:∀a,(bs a).length=n)(l:∀a b,(bs a==bs b)=(a==b)):
  ZK P f (fun a:α=>.agg (a8 (bs a))) where
 find encV w k j m h:=by
  cases j with
  |nil=>
   cases m with
   |nil=>simp only[Instr.findKey,Vp,Wn c w,VT];rfl
   |cons=>cases h
  |cons o j=>simp only[Instr.findKey,Vp,Wn c w,VT];rw[JU _ _ _ V_];exact U8 (encK:=fun a:α=>.agg (a8 (bs a))) (fun a b w=>by rw[Fj c g i _ _ (d a) (d b) w,l]) w k _ m 0 h
 check w e k:=F9 c g i _ (d k) e w
 bits k:=HK _
section
variable {α β:Type} [BEq α] [LawfulBEq α] {encK:α->hU} {encV:β->hU} {P:h_} {w0:hW} {f:Fr} {L:aA} {N:Fr->aA->Prop} {ops:Array Oper} {rest:List Oper} {md:Md}
 {d:Option Tmp} {ty:h7} {ps:String} {af:Array Edge} {g:Option (Nat×Bool)}
omit [LawfulBEq α] in
end
end Go.Sx
namespace Go.Sx
open Go
def ZK.str{P:h_}{c:h7}(d:P.underlying c=some .string):ZK P c vs where
 find encV w k es m h:=by
  simp only[Instr.findKey,Vp,Wn d w,VT];rw[Dt (encK:=vs) (fun a b=>by simp only[vs,Instr.sameNow,mq]) k es m 0 h]
  rfl
 check w e k:=by
  unfold Instr.checkKey;simp only[Vp,Wn d w,VT,vs]
  rfl
 bits k:=by simp only[vs,Instr.sameBits,mq,Yf]
section
variable {α β:Type} [BEq α] [LawfulBEq α]
def qd8(k:α):List (α×β)->List (α×β)
 | []=>[]
 |p::r=>if k==p.1 then r else p::qd8 k r
variable {encK:α->hU} {encV:β->hU}
omit [LawfulBEq α] in
theorem wq(k:α):∀ (m:List (α×β)) (i j:Nat) (a:β),ee k m i=some (j,a)->i<=j
 | [],_,_,_,h=>by cases h
 |p::r,i,j,a,h=>by
  unfold ee at h
  split at h
  .cases h;exact aj _
  have:=wq k r (i+1) j a h;omega
omit [LawfulBEq α] in
theorem tv(k:α):∀ (b:List MapEntry) (m:List (α×β)) (i j:Nat) (a:β),b.map (fun e=>(e.key,e.val))=m.map (f0 encK encV)->ee k m i=some (j,a)->
  (b.eraseIdx (j - i)).map (fun e=>(e.key,e.val))=(qd8 k m).map (f0 encK encV)
 | [],[],_,_,_,_,h=>by cases h
 | [],_::_,_,_,_,h,_=>by cases h
 |_::_,[],_,_,_,h,_=>by cases h
 |e::b,p::m,i,j,a,h,hf=>by
  simp only[VY,List.cons.injEq] at h;obtain⟨f,d⟩:=h;unfold ee at hf;unfold qd8
  split at hf
  .rename_i c;cases hf;rw[Vb c,Nat.sub_self];exact d
  rename_i c;have g:=wq k m (i+1) j a hf;rw[tr c,show j - i=(j - (i+1))+1 by omega];simp only[List.eraseIdx_cons_succ,VY];rw[tv k b m (i+1) j a d hf,f]
omit [LawfulBEq α] in
theorem tK(k:α):∀ (m:List (α×β)) (i:Nat),ee k m i=none->qd8 k m=m
 | [],_,_=>rfl
 |p::r,i,h=>by
  unfold ee at h
  split at h
  .cases h
  rename_i a;unfold qd8;rw[tr a,tK k r (i+1) h]
variable {P:h_} {w0:hW} {f:Fr} {L:aA} {N:Fr->aA->Prop} {ops:Array Oper} {rest:List Oper} {md:Md}
 {d:Option Tmp} {ty:h7} {ps:String} {af:Array Edge} {g:Option (Nat×Bool)}
omit [LawfulBEq α] in
def Ow.qe9{t v vt:h7}{x y:Operand}{h:h7}{b:Nat}{o:Obj}{m:List (α×β)}{k:α}{z:Md}(G:md.WM=some z)(H:ay ops f ⟨d,.call ⟨.builtin .delete,#[x,y],#[t,h]⟩,ty,ps,af,g⟩=false)(A:P.underlying t=some (.map v vt))(q:ZK P v encK)
  (B:ev f x=vm b) (C:ev f y=encK k) (r:look L b=some o) (I:dO encK encV o m)
  (D:∀E,dO encK encV E (qd8 k m)->Ow P w0 ops z rest (aa f d (.tuple #[])) (Vh L b E) N):
  Ow P w0 ops md (⟨d,.call ⟨.builtin .delete,#[x,y],#[t,h]⟩,ty,ps,af,g⟩::rest) f L N:=by
 obtain⟨e,c,rfl,s,F⟩:=I;refine Ow.step G rfl H fun w u=>?_;have i:=u.has _ _ (bU r);have l:=q.find encV w k e.toList m s;cases n:ee k m 0 with
 |none=>
  rw[n] at l;refine .inl ⟨.tuple #[],{w with heap:=w.heap.setIfInBounds b (.map e c)},_,?_,u.set (bO r) rfl rfl rfl rfl,D _ ⟨e,c,rfl,by rw[tK k m 0 n];exact s,F⟩⟩;have:(Builtin.delete_ #[t,h] ty #[vm b,encK k]).run P w=.ok (.tuple #[]) {w with heap:=w.heap.setIfInBounds b (.map e c)}:=by
   simp only[Builtin.delete_,vm,List.getElem?_toArray,List.getElem?_cons_zero,List.getElem?_cons_succ,Vp,Wn A w,VT,gX i,q.check,l,YL,mA i]
   rfl
  simp only[execOp,resolve,Vp,Wm,VT,invoke,builtin,XM,VY,Wr,B,C];rw[this];rfl
 |some p=>
  obtain⟨j,a⟩:=p;rw[n] at l;refine .inl ⟨.tuple #[],{w with heap:=w.heap.setIfInBounds b (.map (e.eraseIdxIfInBounds j) c)},_,?_,u.set (bO r) rfl rfl rfl rfl,D _ ⟨_,c,rfl,?_,by rw[Array.toList_eraseIdxIfInBounds];exact rV F⟩⟩
  .have:(Builtin.delete_ #[t,h] ty #[vm b,encK k]).run P w=.ok (.tuple #[]) {w with heap:=w.heap.setIfInBounds b (.map (e.eraseIdxIfInBounds j) c)}:=by
    simp only[Builtin.delete_,vm,List.getElem?_toArray,List.getElem?_cons_zero,List.getElem?_cons_succ,Vp,Wn A w,VT,gX i,q.check,l,Ws,mA i]
    rfl
   simp only[execOp,resolve,Vp,Wm,VT,invoke,builtin,XM,VY,Wr,B,C];rw[this];rfl
  have:=tv (encK:=encK) (encV:=encV) k e.toList m 0 j a s n;rw[Nat.sub_zero] at this;rw[<-this];simp
omit [BEq α] [LawfulBEq α] in
def Ow.qm7{t k vt:h7}{x:Operand}{b:Nat}{o:Obj}{m:List (α×β)}{a:Md}(l:md.WM=some a)(n:ay ops f ⟨d,.call ⟨.builtin .clear,#[x],#[t]⟩,ty,ps,af,g⟩=false)(p:P.underlying t=some (.map k vt))
  (q:ev f x=vm b) (e:look L b=some o) (r:dO encK encV o m)
  (s:∀h,dO encK encV h []->Ow P w0 ops a rest (aa f d (.tuple #[])) (Vh L b h) N):
  Ow P w0 ops md (⟨d,.call ⟨.builtin .clear,#[x],#[t]⟩,ty,ps,af,g⟩::rest) f L N:=by
 obtain⟨u,c,rfl,v,y⟩:=r;refine Ow.step l rfl n fun w i=>?_;have j:=i.has _ _ (bU e);refine .inl ⟨.tuple #[],{w with heap:=w.heap.setIfInBounds b (.map #[] c)},_,?_,i.set (bO e) rfl rfl rfl rfl,s _ ⟨#[],c,rfl,rfl,qc0 _ _⟩⟩;have:(Builtin.clear_ #[t] ty #[vm b]).run P w=.ok (.tuple #[]) {w with heap:=w.heap.setIfInBounds b (.map #[] c)}:=by
  simp only[Builtin.clear_,vm,List.getElem?_toArray,List.getElem?_cons_zero,Vp,Wn p w,VT,gX j,mA j]
  rfl
 simp only[execOp,resolve,Vp,Wm,VT,invoke,builtin,XM,VY,Wr,q];rw[this];rfl
end
section
variable {P:h_} {w0:hW} {f:Fr} {L:aA} {N:Fr->aA->Prop} {ops:Array Oper} {rest:List Oper} {md:Md}
 {d:Option Tmp} {ty:h7} {ps:String} {af:Array Edge} {g:Option (Nat×Bool)}
def Ow.qp3{t a vt:h7}{x:Operand}{v:hU}(b:ay ops f ⟨d,.makeInterface t x,ty,ps,af,g⟩=false)(c:P.underlying t=some (.map a vt))(e:ev f x=v)
  (h:Ow P w0 ops md.next rest (aa f d (.iface t v)) L N):Ow P w0 ops md (⟨d,.makeInterface t x,ty,ps,af,g⟩::rest) f L N:=by
 refine Ow.calm rfl rfl b (fun w i=>.inl ⟨.iface t v,w,L,?_,i,rfl,rfl⟩) h;simp only[execOp,Instr.makeInterface,Vp,Wn c w,VT,e]
 rfl
def Ow.ql9{t b vt a:h7}{x:Operand}{v:hU}(c:ay ops f ⟨d,.typeAssert x a t false,ty,ps,af,g⟩=false)(e:P.underlying t=some (.map b vt))(h:ev f x=.iface t v)
  (i:Ow P w0 ops md.next rest (aa f d v) L N):Ow P w0 ops md (⟨d,.typeAssert x a t false,ty,ps,af,g⟩::rest) f L N:=by
 refine Ow.calm rfl rfl c (fun w j=>.inl ⟨v,w,L,?_,j,rfl,rfl⟩) i;simp only[execOp,Instr.typeAssert,Vp,Wn e w,VT,h,↓reduceIte]
 rfl
def Ow.qo6{α β:Type}{encK:α->hU}{encV:β->hU}{x:Operand}{ts:Array h7}{k:FuncId}{it:h7}{b:Nat}{o:Obj}{m:List (α×β)}{l:Md}(p:md.WM=some l)
  (q:ay ops f ⟨d,.call ⟨.value (.func k),#[x],ts⟩,ty,ps,af,g⟩=false)
  (s:∀a w,(callFunc k #[a]).run P w=((Extern.MapsClone.clone #[a]).run P w).andThen fun v w=>.ok (.value v) w)
  (t:ev f x=.iface it (vm b)) (u:aG w0 L b=some o) (y:dO encK encV o m)
  (z:∀c n,cy L c->w0.heap.size<=c->dO encK encV n m->Ow P w0 ops l rest (aa f d (.iface it (vm c))) (L++[(c,n)]) N):
  Ow P w0 ops md (⟨d,.call ⟨.value (.func k),#[x],ts⟩,ty,ps,af,g⟩::rest) f L N:=by
 obtain⟨e,c,rfl,A,B⟩:=y;refine Ow.step p rfl q fun w i=>.inl ⟨.iface it (vm w.heap.size),w.alloc (.map e c),_,?_,i.alloc _,z _ _ (ef fun b j=>i.lt j) i.size ⟨e,c,rfl,A,B⟩⟩;have j:=i.read u;have C:Array.map (ev f) #[x]=#[.iface it (vm b)]:=by simp[t]
 have h:(callFunc k #[.iface it (vm b)]).run P w=.ok (.value (.iface it (vm w.heap.size))) (w.alloc (.map e c)):=by
  rw[s];have D:Extern.MapsClone.clone #[.iface it (vm b)]=(getObj b>>=fun o=>match o with| .map e c=>(newObj (.map e c)>>=fun r=>pure (.iface it (.map (some r)))) |_=>stuck "maps.clone: a map expected"):=rfl;rw[D,Vp,gX j]
  rfl
 simp only[execOp,resolve,Deferred.ofValue,ws,Vp,Wm,VT,invoke,C];simpa using h
end
end Go.Sx
namespace Go.Sx
open Go
def Hp.later{w0 a b:hW}{L D:aA}(h:Hp w0 L a)(k:Hp a D b)(c:Vq a.heap.size D):Hp w0 (L++D) b:=
 Mrg.fresh c.le a b rfl h k
def Ow.world{P:h_}{w0:hW}{ops:Array Oper}{l:List Oper}{f:Fr}{L:aA}{N:Fr->aA->Prop}(h:∀w,Hp w0 L w->Ow P w0 ops .seq l f L N):Ow P w0 ops .seq l f L N:=fun w a=>h w a w a
def Va.chunk{P:h_}{k:FuncId}{a:Array hU}{w:hW}{S:hU->Obj->Prop}{X:aA}{b:Nat}(c:∀p,p∈X->w.heap[p.1]? =some p.2)(d:(keys X).Nodup)(f:b∈keys X)
  (h:Va P k a w (fun v D=> ∃o,D=[(b,o)]/\S v o)):Va P k a w (XS w X (fun v D=> ∃o,D=Vh X b o/\S v o)):=
 Calls.mono h fun e g ⟨v,D,i,j,o,l,m⟩=>⟨v,Vh X b o,i,by subst l;exact Mrg.set f w g rfl ((Hp.refl w).qL0 c d) j,(Ext.refl w X).Vh,o,rfl,m⟩
def Va.toX{P:h_}{k:FuncId}{a:Array hU}{w:hW}{S:hU->Prop}(h:Va P k a w (fun v D=>S v/\D=[])):Va P k a w (XS w [] (fun v D=>D=[]/\S v)):=
 h.mono fun v D ⟨c,b⟩=>⟨by subst b;exact Ext.refl w [],b,c⟩
def Gr.qE7{α:Type}{m:Nat}{enc:α->List hU}{z:α}{w0 w:hW}{v:hU}{l:List α}{L:aA}{E:h7}{n:Nat}(h:Gr L E m v n (l.map enc).flatten)(f:l.length=n)(a:Hp w0 L w)(g:∀x,(enc x).length=m):
  ∃b off arr F fz,WL m enc z w v l b off arr F fz/\(0<l.length->look L b=some (.cells arr F fz)):=by
 obtain⟨b,off,c,arr,F,fz,d,k,⟨rfl,rfl,rfl⟩ | ⟨rfl,i,p⟩⟩:=h.slV (z:=z) a f rfl g
 .exact⟨b,off,arr,F,fz,d,fun j=>Vx j V_⟩
 refine⟨b,off,arr,F,fz,d,fun _=>?_⟩;obtain⟨o,e⟩:=CM (h.key (b:=b) rfl);have:=a.has _ _ (bU e);rw[i] at this;rw[e,this]
def Yq.qE7{α:Type}{m:Nat}{enc:α->List hU}{z:α}{w0 w:hW}{v:hU}{l:List α}{D:aA}{E:h7}{n:Nat}(h:Yq D E m v n (l.map enc).flatten)(g:l.length=n)(d:Hp w0 D w)(a:∀x,(enc x).length=m):
  ∃b off arr F fz,WL m enc z w v l b off arr F fz/\(0<l.length->look D b=some (.cells arr F fz)):=by
 obtain⟨X,e,h⟩:=h;obtain⟨b,off,c,arr,F,fz,f,p,⟨rfl,rfl,rfl⟩ | ⟨rfl,i,q⟩⟩:=h.slM (z:=z) (fun b o a=>d.has b o (e _ a)) g rfl a
 .exact⟨b,off,arr,F,fz,f,fun j=>Vx j V_⟩
 refine⟨b,off,arr,F,fz,f,fun _=>?_⟩;obtain⟨o,k⟩:=CM (h.key (b:=b) rfl);have a:=e _ (bU k);have:=d.has _ _ a;rw[i] at this;rw[gE d.nodup a,this]
end Go.Sx
section
namespace Go.Sx
open Go
def S0:=aN (aN (aN (aN (aN (qS1 @Ou @PI @Pu) (qS1 @P6 @KW @Nv)) (aN (qS1 @MH @Ng @IA) (aN (aN @GE @Fw) (aN @NA @Fl)))) (aN (aN (qS1 @KB @Ot @ID) (aN (aN @MF @GH) (aN @QM @Rq))) (aN (qS1 @Kv @Hx @J_) (aN (aN @Qb @Kg) (aN @Ey @Fm))))) (aN (aN (aN (qS1 @N4 @KM @NT) (qS1 @JV @M5 @Qw)) (aN (qS1 @Qq @V7 @V4) (aN (aN @Gu @JI) (aN @FR @MB)))) (aN (aN (qS1 @OY @IS @VA) (aN (aN @GV @El) (aN @LM @Ns))) (aN (qS1 @Qm @Nt @dS) (aN (aN @NS @Ku) (aN @ws @cz)))))) (aN (aN (aN (aN (qS1 @dL @AY @AT) (qS1 @HS @Ex @OX)) (aN (qS1 @OW @Lr @Iq) (aN (aN @Q8 @KL) (aN @MK @PM)))) (aN (aN (qS1 @M_ @Ll @Lp) (aN (aN @On @PG) (aN @OO @S5))) (aN (qS1 @Ke @OA @Nh) (aN (aN @Mn @QV) (aN @Lf @Mu))))) (aN (aN (aN (qS1 @Nj @JR @Lw) (aN (aN @Oh @LR) (aN @K6 @Pc))) (aN (qS1 @Py @RD @Qx) (aN (aN @QY @PV) (aN @P3 @ON)))) (aN (aN (qS1 @Nx @Mi @PW) (aN (aN @Ny @M') (aN @P' @Mg))) (aN (qS1 @Tp @TP @SK) (aN (aN @Rc @PA) (aN @Jz @J'))))))
def S1:=aN (aN (aN (aN (aN (aN (aN (aN @NU @Rw) (qS1 @QR @SQ @Pi)) (aN (aN @SX @mM) (qS1 @mO @Cq @u0))) (aN (aN (aN @JD @Hy) (qS1 @Oa @GY @PS)) (aN (aN @P2 @beq_true) (qS1 @beq_false @Bool.not_true @Bool.not_false)))) (aN (aN (aN (aN @Md.qq1 @Md.qp8) (qS1 @Md.qq0 @Md.qq2 @HJ)) (aN (aN @Gy @HD) (qS1 @Ej @E' @FD))) (aN (aN (aN @Sk @Qz) (qS1 @PN @N1 @OL)) (aN (qS1 @TW @PY @Qt) (qS1 @QH @QX @QS))))) (aN (aN (aN (qS2 @IZ @JA @KT @LK) (qS1 @sU @J7 @J8)) (aN (aN (aN @KY @JB) (aN @KJ @Ii)) (aN (qS1 @H8 @Ui @JT) (aN @Fs @U1)))) (aN @Ha @En))) (aN (aN @G9 (aN (aN (aN @HI @HM) (qS1 @H4 @IM @KE)) (aN (aN (aN @Hj @BI) @BL) (aN (aN @H9 @H7) @J9)))) (aN (aN (aN (aN (aN @UG @IN) (qS1 @F4 @Eg @Tu)) (aN @Uw @IG)) (aN (aN @F8 @VE) (qS1 @Ge @H6 @Hf))) (aN (aN (qS1 @Hm @HO @Gg) @Ht) (aN (qS1 @G5 @UN @IL) (aN @Eu @Uv)))))) (aN (aN (aN (aN (qS1 @HN @Ga @FA) (aN (aN (aN @Js @Lj) (qS1 @tU @LJ @M2)) (aN (qS1 @MR @MA @Kd) (qS1 @Kz @L_ @Ka)))) (aN (aN (aN (aN @Oz @RM) (qS1 @Gb @pN @La)) (aN (aN @LX @Kw) (qS1 @Mx @tq @Lh))) (aN (aN (aN @R0 @nG) (qS1 @QQ @GM @Ff)) (aN (qS1 @Ez @RQ @Sr) (aN @P9 @Jm))))) (aN (aN (aN (qS2 @II @J1 @Qf @Qr) @Mw) (aN (qS1 @Ql @QU @N9) (aN (aN @G2 @GK) (qS1 @IB @Px @QW)))) (aN (aN (aN @MC @GB) (aN (aN @Hi @Rn) (aN @SI @Nf))) (aN (qS1 @I1 @Ja @PK) (aN (qS1 @Nl @FH @Pn) (qS1 @HQ @Ts @j5)))))) (aN (aN (aN (aN (aN (aN @TI @RC) (qS1 @RS @Sl @FX)) (aN (aN @Ek @eJ) (qS1 @jL @iN @mP))) (aN (aN (aN @g3 @j_) (qS1 @Nr @Om @wI)) (aN (qS1 @Nq @qp @JW) (qS1 @qS @Bf @Gh)))) (aN (aN (aN (aN @Nw @My) (qS1 @pp @O3 @M3)) (aN (aN @LL @RX) (aN @RY (aN (@Option.map_some.{0,0}) (@Option.map_none.{0,0}))))) (aN (aN (aN @FP @FV) (qS1 @V9 @Iy @FJ)) (aN (qS1 @Fv @FW @Og) (qS1 @OU @qK8 @Te))))) (aN (aN (aN (aN (aN @FT @FK) (aN @Ew (aN @ag (@List.cons_append.{0})))) (aN (aN (@List.nil_append.{0}) (@List.contains_cons.{0})) (aN (@List.contains_nil.{0}) (aN @Bool.or_false @Bool.false_or)))) (aN (aN (aN @Bool.or_true @Bool.true_or) (qS1 @Bool.false_eq_true @Bb @Bl)) (aN (qS1 @Bp @CJ @Lv) (aN @Nat.add_sub_cancel_left (aN (@List.set_set.{0}) @Int.toNat_natCast))))) (aN (aN (aN (aN @Nat.mul_one @Nat.zero_add) (aN @Nat.add_zero (aN (@ge_iff_le.{0}) (@gt_iff_lt.{0})))) (aN (aN (@beq_self_eq_true.{0}) @TG) (qS1 @TD @lv @lq))) (aN (aN (aN @A_ @BD) (qS1 @Td @TN @TM)) (aN (qS1 @TB @Ps @R_) (qS1 @Rf @R3 @R9)))))))
end Go.Sx
end
section
open Go Go.Proofs Go.Sx
namespace Go.Proofs
def qP8:YJ prog 23=.sl (true,37):=id kR
def qP7:YJ prog 22=.sl (true,3):=id kR
def ix9:YJ prog 9=.str:=id kR
def qQ3:YJ prog 82=.sl (true,2):=id kR
def qQ6:YJ prog 87=.arr 3 (true,3):=id kR
def qQ0:YJ prog 39=.sl (false,1):=id kR
def qP9:YJ prog 38=.arr 32 (false,1):=id kR
def qm6:YJ prog 57=.sl (true,33):=id kR
def qI9:YJ prog 126=.arr 3 (false,1):=id kR
def qQ2:YJ prog 77=.sl (false,1):=id kR
def qJ0:YJ prog 129=.sl (false,1):=id kR
def qQ5:YJ prog 84=.sl (true,4):=id kR
def qQ4:YJ prog 83=.sl (true,2):=id kR
def qQ1:YJ prog 65=.sl (true,2):=id kR
def qJ1:YJ prog 140=.sl (true,32):=id kR
def qJ5:YJ prog 212=.sl (false,1):=id kR
def qJ2:YJ prog 151=.sl (false,1):=id kR
def qJ6:YJ prog 234=.sl (true,3):=id kR
def qJ4:YJ prog 198=.sl (true,34):=id kR
def qJ7:YJ prog 244=.arr 8 (false,1):=id kR
def qJ8:YJ prog 250=.arr 4 (false,1):=id kR
def qJ9:YJ prog 252=.arr 6 (false,1):=id kR
def qJ3:YJ prog 182=.no:=id kR
def qK0:YJ prog 265=.arr 8 (false,1):=id kR
def qK1:YJ prog 266=.arr 64 (false,1):=id kR
def qK2:YJ prog 292=.sl (true,2):=id kR
def qK3:YJ prog 313=.arr 16 (false,1):=id kR
def qN4:aU prog 41=some (true,37):=id kR
def ag3:aU prog 3=some (false,1):=id kR
def ag9:aU prog 9=some (false,1):=id kR
def ql7:aU prog 38=some (true,32):=id kR
def qN3:aU prog 39=some (false,1):=id kR
def qs0:aU prog 59=some (true,2):=id kR
def qo1:aU prog 67=some (true,3):=id kR
def qN6:aU prog 69=some (false,1):=id kR
def qO0:aU prog 76=some (false,1):=id kR
def qN9:aU prog 75=some (true,2):=id kR
def qO3:aU prog 82=some (false,1):=id kR
def qo2:aU prog 91=some (true,2):=id kR
def qO4:aU prog 83=some (false,1):=id kR
def qc4:aU prog 94=some (true,2):=id kR
def qF8:aU prog 102=some (true,4):=id kR
def qN5:aU prog 62=some (true,4):=id kR
def qN0:aU prog 26=some (false,1):=id kR
def ag4:aU prog 4=some (false,1):=id kR
def ag5:aU prog 5=some (false,1):=id kR
def qI3:aU prog 57=some (false,1):=id kR
def YI:aU prog 114=some (true,33):=id kR
def qN1:aU prog 28=some (false,1):=id kR
def qG0:aU prog 126=some (true,3):=id kR
def qO1:aU prog 77=some (false,1):=id kR
def qG1:aU prog 127=some (false,1):=id kR
def qF9:aU prog 125=some (false,1):=id kR
def qO5:aU prog 84=some (false,1):=id kR
def qn8:aU prog 134=some (true,4):=id kR
def qN7:aU prog 71=some (true,5):=id kR
def qO2:aU prog 79=some (true,3):=id kR
def qb1:aU prog 143=some (true,2):=id kR
def qO6:aU prog 89=some (true,13):=id kR
def qG5:aU prog 155=some (true,2):=id kR
def qG6:aU prog 179=some (true,3):=id kR
def qG7:aU prog 202=some (true,34):=id kR
def qG9:aU prog 218=some (true,7):=id kR
def qH0:aU prog 220=some (true,3):=id kR
def qH2:aU prog 228=some (true,5):=id kR
def qG8:aU prog 212=some (false,1):=id kR
def qn9:aU prog 239=some (true,34):=id kR
def qz4:aU prog 140=some (false,1):=id kR
def qH3:aU prog 244=some (true,8):=id kR
def qH1:aU prog 223=some (false,1):=id kR
def qG4:aU prog 151=some (false,1):=id kR
def qH4:aU prog 250=some (true,4):=id kR
def qH6:aU prog 252=some (true,6):=id kR
def qH5:aU prog 251=some (false,1):=id kR
def qN2:aU prog 31=some (false,1):=id kR
def qo0:aU prog 261=some (true,3):=id kR
def qH7:aU prog 265=some (true,8):=id kR
def qH8:aU prog 266=some (true,64):=id kR
def qG3:aU prog 150=some (false,1):=id kR
def qG2:aU prog 129=some (false,1):=id kR
def qH9:aU prog 297=some (false,1):=id kR
def qI1:aU prog 307=some (true,2):=id kR
def qI0:aU prog 305=some (false,1):=id kR
def qN8:aU prog 73=some (false,1):=id kR
def qI2:aU prog 313=some (true,16):=id kR
def qc2:ac prog 38=some (.agg (a8 (List.replicate 32 0))):=id kR
def qR8:ac prog 91=some (.agg #[(vs []),(vi 0)]):=id kR
def qR9:ac prog 94=some (.agg #[(vs []),(vi 0)]):=id kR
def qz7:ac prog 114=some (.agg #[(vs []),(v8 0),(v8 0),(v8 0),(v8 0),(v8 0),(v8 0),(v8 0),(v8 0),(v8 0),(v8 0),(v8 0),(v8 0),(v8 0),(v8 0),(v8 0),(v8 0),(v8 0),(v8 0),(v8 0),(v8 0),(v8 0),(v8 0),(v8 0),(v8 0),(v8 0),(v8 0),(v8 0),(v8 0),(v8 0),(v8 0),(v8 0),(v8 0)]):=id kR
def qR7:ac prog 89=some (.agg #[Vj,Vj,Vj,Vj,Vj,Vj,Vj,Vj,Vj,Vj,(vi 0),(vi 0),(.bool false)]):=id kR
def qr3:ac prog 155=some (.agg #[(.pointer none),Vj]):=id kR
def qL6:ac prog 134=some (.agg #[(vi 0),(vs []),(vs []),(vi 0)]):=id kR
def qL7:ac prog 218=some (.agg #[(vs []),(vs []),(vs []),(.bool false),(vi 0),(.bool false),(.bool false)]):=id kR
def zr5:ac prog 5=some (v8 0):=id kR
def qL8:ac prog 228=some (.agg #[(vs []),(vs []),(vs []),Vj,(.bool false)]):=id kR
def qz8:ac prog 244=some (.agg (a32 (List.replicate 8 0))):=id kR
def qL9:ac prog 250=some (.agg (a8 (List.replicate 4 0))):=id kR
def qr4:ac prog 252=some (.agg #[.nilFunc,.nilFunc,.nilFunc,.nilFunc,.nilFunc,.nilFunc]):=id kR
def qM0:ac prog 265=some (.agg (a8 (List.replicate 8 0))):=id kR
def qr5:ac prog 266=some (.agg (a32 (List.replicate 64 0))):=id kR
def qL1:bP prog 114=some [(0,1),(1,32)]:=id kR
def qA7:an prog 41 0=some (0,(false,1)):=id kR
def qA9:an prog 41 2=some (2,(false,1)):=id kR
def qB0:an prog 41 3=some (3,(true,32)):=id kR
def qA8:an prog 41 1=some (1,(false,1)):=id kR
def qB2:an prog 41 5=some (36,(false,1)):=id kR
def qB6:an prog 62 1=some (1,(true,2)):=id kR
def qB7:an prog 62 2=some (3,(false,1)):=id kR
def qC0:an prog 67 2=some (2,(false,1)):=id kR
def qB9:an prog 67 1=some (1,(false,1)):=id kR
def qC1:an prog 71 0=some (0,(false,1)):=id kR
def qB8:an prog 67 0=some (0,(false,1)):=id kR
def qC8:an prog 79 0=some (0,(false,1)):=id kR
def qD5:an prog 89 1=some (9,(false,1)):=id kR
def qD4:an prog 89 0=some (0,(true,9)):=id kR
def qD1:an prog 86 0=some (0,(false,1)):=id kR
def qD2:an prog 86 1=some (1,(false,1)):=id kR
def qt9:an prog 102 1=some (1,(true,2)):=id kR
def qt8:an prog 102 0=some (0,(false,1)):=id kR
def qB1:an prog 41 4=some (35,(false,1)):=id kR
def qB3:an prog 59 0=some (0,(false,1)):=id kR
def qB4:an prog 59 1=some (1,(false,1)):=id kR
def qB5:an prog 62 0=some (0,(false,1)):=id kR
def qu0:an prog 102 2=some (3,(false,1)):=id kR
def qC3:an prog 71 2=some (2,(false,1)):=id kR
def qC4:an prog 71 3=some (3,(false,1)):=id kR
def qD7:an prog 89 3=some (11,(false,1)):=id kR
def qD0:an prog 79 2=some (2,(false,1)):=id kR
def qC9:an prog 79 1=some (1,(false,1)):=id kR
def qC5:an prog 71 4=some (4,(false,1)):=id kR
def qC6:an prog 75 0=some (0,(false,1)):=id kR
def qC7:an prog 75 1=some (1,(false,1)):=id kR
def qD3:an prog 86 2=some (2,(false,1)):=id kR
def qD8:an prog 89 4=some (12,(false,1)):=id kR
def qE2:an prog 94 1=some (1,(false,1)):=id kR
def qD9:an prog 91 0=some (0,(false,1)):=id kR
def qE0:an prog 91 1=some (1,(false,1)):=id kR
def qE1:an prog 94 0=some (0,(false,1)):=id kR
def qu1:an prog 114 0=some (0,(false,1)):=id kR
def qu2:an prog 114 1=some (1,(true,32)):=id kR
def qC2:an prog 71 1=some (1,(false,1)):=id kR
def qD6:an prog 89 2=some (10,(false,1)):=id kR
def qu3:an prog 134 0=some (0,(false,1)):=id kR
def qu6:an prog 134 3=some (3,(false,1)):=id kR
def qu4:an prog 134 1=some (1,(false,1)):=id kR
def qu5:an prog 134 2=some (2,(false,1)):=id kR
def qu8:an prog 143 1=some (1,(false,1)):=id kR
def qu7:an prog 143 0=some (0,(false,1)):=id kR
def qv1:an prog 155 0=some (0,(true,2)):=id kR
def qw6:an prog 220 1=some (1,(false,1)):=id kR
def qw5:an prog 220 0=some (0,(false,1)):=id kR
def qx1:an prog 228 3=some (3,(false,1)):=id kR
def qv4:an prog 179 2=some (2,(false,1)):=id kR
def qv3:an prog 179 1=some (1,(false,1)):=id kR
def qv2:an prog 179 0=some (0,(false,1)):=id kR
def qx4:an prog 239 1=some (1,(false,1)):=id kR
def qx3:an prog 239 0=some (0,(false,1)):=id kR
def qx5:an prog 239 2=some (2,(true,32)):=id kR
def qv5:an prog 202 0=some (0,(true,32)):=id kR
def qv6:an prog 202 1=some (32,(false,1)):=id kR
def qv7:an prog 202 2=some (33,(false,1)):=id kR
def qv0:an prog 153 1=some (1,(false,1)):=id kR
def qw2:an prog 218 4=some (4,(false,1)):=id kR
def qw1:an prog 218 3=some (3,(false,1)):=id kR
def qw4:an prog 218 6=some (6,(false,1)):=id kR
def qw3:an prog 218 5=some (5,(false,1)):=id kR
def qv8:an prog 218 0=some (0,(false,1)):=id kR
def qv9:an prog 218 1=some (1,(false,1)):=id kR
def qw7:an prog 220 2=some (2,(false,1)):=id kR
def qw9:an prog 228 1=some (1,(false,1)):=id kR
def qw8:an prog 228 0=some (0,(false,1)):=id kR
def qx2:an prog 228 4=some (4,(false,1)):=id kR
def qx0:an prog 228 2=some (2,(false,1)):=id kR
def qx6:an prog 261 0=some (0,(false,1)):=id kR
def qx7:an prog 261 1=some (1,(false,1)):=id kR
def qx8:an prog 261 2=some (2,(false,1)):=id kR
def qu9:an prog 153 0=some (0,(false,1)):=id kR
def qw0:an prog 218 2=some (2,(false,1)):=id kR
def qx9:an prog 307 0=some (0,(false,1)):=id kR
def qy0:an prog 307 1=some (1,(false,1)):=id kR
def qs3:Z_ prog 125 3=.int .i64:=id kR
def qI5:Z_ prog 3 5=.int .u8:=id kR
def qs4:Z_ prog 151 9=.bytesStr:=id kR
def qI6:Z_ prog 5 3=.int .i64:=id kR
def qs5:Z_ prog 223 5=.int .u8:=id kR
def qs9:Z_ prog 3 246=.int .u64:=id kR
def qt0:Z_ prog 3 264=.int .u64:=id kR
def qs7:Z_ prog 264 5=.int .u8:=id kR
def qt3:Z_ prog 5 223=.int .u32:=id kR
def qm1:Z_ prog 150 269=.no:=id kR
def qm3:Z_ prog 269 150=.no:=id kR
def qm2:Z_ prog 246 223=.int .u32:=id kR
def qt1:Z_ prog 3 297=.int .u64:=id kR
def qs6:Z_ prog 246 3=.int .i64:=id kR
def qt2:Z_ prog 3 308=.no:=id kR
def qs8:Z_ prog 308 3=.no:=id kR
def fx:=aN (aN (aN (aN (aN (aN (aN @qP8 @qP7) (qS1 @ix9 @qQ3 @qQ6)) (aN (qS1 @qQ0 @qP9 @qm6) (qS1 @qI9 @qQ2 @qJ0))) (aN (aN (aN @qQ5 @qQ4) (qS1 @qQ1 @qJ1 @qJ5)) (aN (qS1 @qJ2 @qJ6 @qJ4) (qS1 @qJ7 @qJ8 @qJ9)))) (aN (aN (aN (aN @qJ3 @qK0) (qS1 @qK1 @qK2 @qK3)) (aN (qS1 @qN4 @ag3 @ag9) (qS1 @ql7 @qN3 @qs0))) (aN (aN (qS1 @qo1 @qN6 @qO0) (qS1 @qN9 @qO3 @qo2)) (aN (qS1 @qO4 @qc4 @qF8) (qS1 @qN5 @qN0 @ag4))))) (aN (aN (aN (aN (aN @ag5 @qI3) (qS1 @YI @qN1 @qG0)) (aN (qS1 @qO1 @qG1 @qF9) (qS1 @qO5 @qn8 @qN7))) (aN (aN (aN @qO2 @qb1) (qS1 @qO6 @qG5 @qG6)) (aN (qS1 @qG7 @qG9 @qH0) (qS1 @qH2 @qG8 @qn9)))) (aN (aN (aN (aN @qz4 @qH3) (qS1 @qH1 @qG4 @qH4)) (aN (qS1 @qH6 @qH5 @qN2) (qS1 @qo0 @qH7 @qH8))) (aN (aN (qS1 @qG3 @qG2 @qH9) (qS1 @qI1 @qI0 @qN8)) (aN (qS1 @qI2 @qA7 @qA9) (qS1 @qB0 @qA8 @qB2)))))) (aN (aN (aN (aN (aN (aN @qB6 @qB7) (qS1 @qC0 @qB9 @qC1)) (aN (qS1 @qB8 @qC8 @qD5) (qS1 @qD4 @qD1 @qD2))) (aN (aN (aN @qt9 @qt8) (qS1 @qB1 @qB3 @qB4)) (aN (qS1 @qB5 @qu0 @qC3) (qS1 @qC4 @qD7 @qD0)))) (aN (aN (aN (aN @qC9 @qC5) (qS1 @qC6 @qC7 @qD3)) (aN (qS1 @qD8 @qE2 @qD9) (qS1 @qE0 @qE1 @qu1))) (aN (aN (qS1 @qu2 @qC2 @qD6) (qS1 @qu3 @qu6 @qu4)) (aN (qS1 @qu5 @qu8 @qu7) (qS1 @qv1 @qw6 @qw5))))) (aN (aN (aN (aN (aN @qx1 @qv4) (qS1 @qv3 @qv2 @qx4)) (aN (qS1 @qx3 @qx5 @qv5) (qS1 @qv6 @qv7 @qv0))) (aN (aN (aN @qw2 @qw1) (qS1 @qw4 @qw3 @qv8)) (aN (qS1 @qv9 @qw7 @qw9) (qS1 @qw8 @qx2 @qx0)))) (aN (aN (aN (aN @qx6 @qx7) (qS1 @qx8 @qu9 @qw0)) (aN (qS1 @qx9 @qy0 @qs3) (qS1 @qI5 @qs4 @qI6))) (aN (aN (qS1 @qs5 @qs9 @qt0) (qS1 @qs7 @qt3 @qm1)) (aN (qS1 @qm3 @qm2 @qt1) (qS1 @qs6 @qt2 @qs8))))))
def dD{p:Prop}(h:p:=by first|assumption|omega| (simp only[kU,kX,UInt64.reduceToNat];first|done|omega)):p:=h
def kp{X A G:Prop}(x:X)(h:G)(e:X->A=G:=by intro x;(try simp(disch:=(first|assumption|omega| (simp only[kU,kX,UInt64.reduceToNat];try omega))) only[↓Sx.S0,Sx.S1,fx,Nat.reduceAdd,Nat.reducePow,Int.reducePow,Nat.reduceBEq,↓reduceIte,UInt8.reduceToNat,UInt16.reduceToNat,UInt32.reduceToNat,UInt64.reduceToNat,Int.reduceToNat,x]);exact rfl):A:=(e x).mpr h
def kw{X A G:Prop}(x:X)(h:G)(e:X->A=G:=by intro x;simp(disch:=(first|assumption|omega| (simp only[kU,kX,UInt64.reduceToNat];try omega))) only[↓Sx.S0,Sx.S1,fx,Nat.reduceAdd,Nat.reducePow,Int.reducePow,Nat.reduceBEq,↓reduceIte,UInt8.reduceToNat,UInt16.reduceToNat,UInt32.reduceToNat,UInt64.reduceToNat,Int.reduceToNat,x];exact rfl):A:=(e x).mpr h
class Stp (z:List Nat) (A:Prop) (B:outParam Prop):Prop where
 go:B->A
instance (priority:=low){z:List Nat}{A:Prop}:Stp z A A:=⟨id⟩
section
variable {P:h_} {w0:hW} {f:Fr} {L:aA} {K:bz} {N:Fr->aA->Prop} {ops:Array Oper} {md:Md} {l:List Oper} {X G:Prop}
def ks{c:Code}(z:List Nat)[Sx.Steps c](x:X)(h:G)(e:X->ZG P w0 z c f L (bsK K)=G:=by intro x;(try simp(disch:=(first|assumption|omega| (simp only[kU,kX,UInt64.reduceToNat];try omega))) only[↓Sx.S0,Sx.S1,fx,Nat.reduceAdd,Nat.reducePow,Int.reducePow,Nat.reduceBEq,↓reduceIte,UInt8.reduceToNat,UInt16.reduceToNat,UInt32.reduceToNat,UInt64.reduceToNat,Int.reduceToNat,x]);exact rfl):Cw P w0 c f L K:=Cw.go z ((e x).mpr h)
instance {c:Code}{z:List Nat}[Sx.Steps c]:Stp z (Cw P w0 c f L K) (ZG P w0 z c f L (bsK K)):=⟨Cw.go z⟩
def ko(x:X)(h:G)(e:X->vcL P w0 ops true md l f L (owk P w0 ops (bsN N))=G:=by intro x;(try simp(disch:=(first|assumption|omega| (simp only[kU,kX,UInt64.reduceToNat];try omega))) only[↓Sx.S0,Sx.S1,fx,Nat.reduceAdd,Nat.reducePow,Int.reducePow,Nat.reduceBEq,↓reduceIte,UInt8.reduceToNat,UInt16.reduceToNat,UInt32.reduceToNat,UInt64.reduceToNat,Int.reduceToNat,x]);exact rfl)(a:md.eff=true:=by rfl):Ow P w0 ops md l f L N:=Ow.go a ((e x).mpr h)
def kq(x:X)(h:G)(e:X->vcL P w0 ops false md l f L (owk P w0 ops (bsN N))=G:=by intro x;(try simp(disch:=(first|assumption|omega| (simp only[kU,kX,UInt64.reduceToNat];try omega))) only[↓Sx.S0,Sx.S1,fx,Nat.reduceAdd,Nat.reducePow,Int.reducePow,Nat.reduceBEq,↓reduceIte,UInt8.reduceToNat,UInt16.reduceToNat,UInt32.reduceToNat,UInt64.reduceToNat,Int.reduceToNat,x]);exact rfl):Ow P w0 ops md l f L N:=Ow.goQ ((e x).mpr h)
end
def kz{X A B G:Prop}(z:List Nat)[Stp z A B](x:X)(h:G)(e:X->B=G:=by intro x;(try simp(disch:=(first|assumption|omega| (simp only[kU,kX,UInt64.reduceToNat];try omega))) only[↓Sx.S0,Sx.S1,fx,Nat.reduceAdd,Nat.reducePow,Int.reducePow,Nat.reduceBEq,↓reduceIte,UInt8.reduceToNat,UInt16.reduceToNat,UInt32.reduceToNat,UInt64.reduceToNat,Int.reduceToNat,x]);exact rfl):A:=Stp.go z ((e x).mpr h)
def ky{X A B G:Prop}[Stp [] A B](x:X)(h:G)(e:X->B=G:=by intro x;(try simp(disch:=(first|assumption|omega| (simp only[kU,kX,UInt64.reduceToNat];try omega))) only[↓Sx.S0,Sx.S1,fx,Nat.reduceAdd,Nat.reducePow,Int.reducePow,Nat.reduceBEq,↓reduceIte,UInt8.reduceToNat,UInt16.reduceToNat,UInt32.reduceToNat,UInt64.reduceToNat,Int.reduceToNat,x]);exact rfl):A:=Stp.go [] ((e x).mpr h)
def ke{α:Type}{X:Prop}{a b:α}(x:X)(e:X->a=b:=by intro x;(try simp(disch:=(first|assumption|omega| (simp only[kU,kX,UInt64.reduceToNat];try omega))) only[↓Sx.S0,Sx.S1,fx,Nat.reduceAdd,Nat.reducePow,Int.reducePow,Nat.reduceBEq,↓reduceIte,UInt8.reduceToNat,UInt16.reduceToNat,UInt32.reduceToNat,UInt64.reduceToNat,Int.reduceToNat,x]);exact rfl):a=b:=e x
def WQ{A G:Prop}(h:G)(e:A=G:=by(try simp only[Qy,↓Ju,↓Bk,↓AY,↓AT,Bn]);exact rfl):A:=e.mpr h
def kyb{A G:Prop}(h:G)(e:A=G:=by(try simp only[ql0,qr2,Cq,mM,mO]);exact rfl):A:=e.mpr h
def kyc{A G:Prop}(h:G)(e:A=G:=by(try simp only[List.replicate_succ,List.replicate_zero]);exact rfl):A:=e.mpr h
def kn{A G:Prop}(h:G)(e:A=G:=by(try simp(disch:=(first|assumption|omega| (simp only[kU,kX,UInt64.reduceToNat];try omega))) only[iN,mP,Wp,Vy]);exact rfl):A:=e.mpr h
def Yx{A G:Prop}(h:G)(e:A=G:=by (try simp only[dS,cz,dL,ag,Vy,Wp]);exact rfl):A:=e.mpr h
def qf4{A G:Prop}(h:G)(e:A=G:=by (try simp only[ql0,qr2,Cq,mM,mO]);exact rfl):A:=e.mpr h
def kf{A G:Prop}(h:G)(e:A=G:=by simp only[Wd,Wt,W7,Nat.reduceAdd,Nat.reduceSub,List.replicate_succ,List.replicate_zero,Wp,Vy];exact rfl):A:=e.mpr h
def kv{A G:Prop}(h:G)(e:A=G:=by simp only[gf,pin,mM,mO,List.contains_cons,List.contains_nil,Nat.reduceBEq,YN,XW,Bool.or_true,Bool.true_or,Nat.reduceAdd,↓reduceIte,VW];exact rfl):A:=e.mpr h
def nk(p v:hU)(E:h7)(n:Nat):aF (some (false,n)) (some (.cells #[p,v] E (0,0))) 0=some p:=(rfl)
def nx(p v:hU)(E:h7)(n:Nat):aF (some (false,n)) (some (.cells #[p,v] E (0,0))) 1=some v:=(rfl)
def nO(p v x:hU)(E:h7)(a:Value.oneCell' x=true/\x.cells=#[x]):aZ (some (false,1)) (some (.cells #[p,v] E (0,0))) 0 x=some (.cells #[x,v] E (0,0)):=by simp[aZ,a,cU]
def CK(p v x:hU)(E:h7)(a:Value.oneCell' x=true/\x.cells=#[x]):aZ (some (false,1)) (some (.cells #[p,v] E (0,0))) 1 x=some (.cells #[p,x] E (0,0)):=by simp[aZ,a,cU]
def K0(p v:hU)(b o:Nat)(E:h7):aZ (some (false,1)) (some (.cells #[p,v] E (0,0))) 0 (vp b o)=some (.cells #[vp b o,v] E (0,0)):=nO _ _ _ _ ⟨rfl,rfl⟩
def qR0(b o:Nat):ak prog .eql 150 (vp b o) (.pointer none)=some (.bool false):=by simp[ak,Zq,cm,cg,underlying150,vp]
def T7:ak prog .eql 150 (.pointer none) (.pointer none)=some (.bool true):=by simp[ak,Zq,cm,cg,underlying150]
def d0:=aN (aN @nk @nx) (qS1 @K0 @qR0 @T7)
def TL:liesAt prog Tryz.prog.depth 155 ((#[Value.pointer none,Value.pointer none]:Array hU).size / Tryz.prog.cellsOf 155) 0 153 1=true:=id kR
def qA2:aU prog 153=some (true,2):=id kR
def PT(x:hU)(w:hW):(callFunc 173 #[x]).run prog w=.ok (.value x) w:=by kernel_rfl
def Tw(b:Nat)(p v:hU)(w:hW)(a:p=.pointer none\/p=vp b 0)(c:w.heap[b]? =some (Wi p v)):
  Va prog 153 #[vp b 0] w (fun d D=> ∃o,D=[(b,o)]/\d=.tuple #[]/\o=(Wi (vp b 0) v)):=by
 refine Va.XV func153 rfl (rs:=[]) results153 ntmps153 c ?_;refine kf ?_;rcases a with rfl|rfl
 .refine ky @d0 ?_;refine Ow.qq7 rfl rfl kR rfl (aO (eJ _ _ _)) V_ qA2 WT underlying150 underlying269 ?_;refine Ow.qs1 (v:=vp b 0) rfl rfl (fun w=>PT _ w) ?_;refine Ow.qq3 rfl rfl kR rfl (aO (eJ _ _ _)) qA2 TL underlying269 underlying150 ?_;refine ko @d0 ?_;refine ky @d0 ?_;refine⟨_,_,_,(ke @d0),rfl,trivial,?_⟩;exact⟨rfl,rfl⟩
 refine kz [2] @d0 ?_;refine Cw.region ?_;refine Ow.value rfl rfl rfl ?_;refine Ow.value (v:=vp b 0) rfl rfl (by simp(disch:=first|exact dD|fail) only[↓Sx.S0,Sx.S1,fx,d0,Nat.reduceAdd,Nat.reducePow,Int.reducePow,Nat.reduceBEq,↓reduceIte,UInt8.reduceToNat,UInt16.reduceToNat,UInt32.reduceToNat,UInt64.reduceToNat,Int.reduceToNat,fT]) ?_;refine Ow.value (v:=vp b 0) rfl rfl (by simp(disch:=first|exact dD|fail) only[↓Sx.S0,Sx.S1,fx,d0,Nat.reduceAdd,Nat.reducePow,Int.reducePow,Nat.reduceBEq,↓reduceIte,UInt8.reduceToNat,UInt16.reduceToNat,UInt32.reduceToNat,UInt64.reduceToNat,Int.reduceToNat,fT]) ?_;refine Ow.value (v:=vp b 0) rfl rfl (by simp(disch:=first|exact dD|fail) only[↓Sx.S0,Sx.S1,fx,d0,Nat.reduceAdd,Nat.reducePow,Int.reducePow,Nat.reduceBEq,↓reduceIte,UInt8.reduceToNat,UInt16.reduceToNat,UInt32.reduceToNat,UInt64.reduceToNat,Int.reduceToNat,fT]) ?_;refine Ow.value rfl rfl rfl ?_;refine Ow.qy3 rfl underlying150 qA2 rfl rfl ?_;refine ko @d0 ?_;refine ky @d0 ?_;refine⟨_,_,_,(ke @d0),rfl,trivial,?_⟩;exact⟨rfl,rfl⟩
def WC(b:Nat)(l:No)(X:aA):Prop:=
 ∃p v,Sx.look X b=some (Wi p v)/\(p=.pointer none\/p=vp b 0)/\Zn X 5 1 v l.length (l.map v8)/\Xy v≠some b
def Tx(b:Nat)(X:aA)(l:No)(c:Vf)(w:hW)(t:WC b l X)(u:∀p,p∈X->w.heap[p.1]? =some p.2)(y:(keys X).Nodup)(O:l.length<34359738368):
  Va prog 122 #[vp b 0,v8 c] w (XS w X (fun v D=>v=.nilIface/\WC b (l++[c]) D)):=by
 obtain⟨p,v,a,z,A,d⟩:=t;refine Va.Vs func122 rfl (rs:=[.tmp 4]) results122 ntmps122 u y ?_;refine kf ?_;refine ky @d0 ?_;refine Ow.WA rfl rfl call153 (bO a) (fun j f=>Tw b p v j z (f.has _ _ (bU a))) ?_;have g:=cY (x:=(Wi (vp b 0) v)) a;have B:=aO (w0:=w) g;have C:Zn (Vh X b (Wi (vp b 0) v)) 5 1 v l.length (l.map v8):=A.qz0 d;have E:Ext w X (Vh X b (Wi (vp b 0) v)):=(Ext.refl w X).Vh;generalize Vh X b (Wi (vp b 0) v)=m at*;refine ko @d0 ?_;refine ky (aN @d0 @B) ?_;refine Ow.buildSlice (e:=5) #[v8 c] rfl rfl kR fun i F G=>?_;have H:Sx.look (m++[(i,.cells #[v8 c] 5 (0,0))]) i=some (.cells #[v8 c] 5 (0,0)):=fX F;have I:Zn (m++[(i,.cells #[v8 c] 5 (0,0))]) 5 1 v l.length (l.map v8):=C.app;refine ko @d0 ?_;refine Ow.append (e:=5) _ rfl rfl rfl underlying151 ag5 kR zr5 kR underlying151 (by intro k h;cases h) I (fun j f=>W0.block (k:=1) (new:=[v8 c]) (aO H) V_ V_ rfl f) oM (fun v2 J n q K=>?_);have r:Sx.look J b=some (Wi (vp b 0) v):=q.look b _ d (a_ g);have L:aZ (some (false,1)) (some (Wi (vp b 0) v)) 1 v2=some (Wi (vp b 0) v2):=CK _ _ _ _ n.cell;refine ko (qS2 @d0 @r @L @dq) ?_;refine ky @d0 ?_;refine⟨_,(ke @d0),?_⟩;have M:=(E.app (o:=.cells #[v8 c] 5 (0,0)) G).qm5 q;have s:Xy v2≠some b:=by
  rcases K with h| ⟨P,h,N⟩
  .rw[h];exact d
  rw[h];intro e;cases e;exact Xk _ (aQ N (bO (a_ g)))
 refine⟨M.Vh,rfl,vp b 0,v2,cY r,.inr rfl,?_,s⟩;rw[VV,We];exact n.qz0 s
def V6(b:Nat)(X:aA)(l s:No)(w:hW)(o:WC b l X)(q:∀p,p∈X->w.heap[p.1]? =some p.2)(r:(keys X).Nodup)(H:l.length+s.length<34359738368):
  Va prog 121 #[vp b 0,vs s] w (XS w X (fun v D=>v=.tuple #[vi s.length,.nilIface]/\WC b (l++s) D)):=by
 obtain⟨p,v,a,t,u,c⟩:=o;refine Va.Vs func121 rfl (rs:=[.tmp 4,.tmp 5]) results121 ntmps121 q r ?_;refine kf ?_;refine ky @d0 ?_;refine Ow.WA rfl rfl call153 (bO a) (fun d g=>Tw b p v d t (g.has _ _ (bU a))) ?_;have f:=cY (x:=(Wi (vp b 0) v)) a;have y:=aO (w0:=w) f;have z:Zn (Vh X b (Wi (vp b 0) v)) 5 1 v l.length (l.map v8):=u.qz0 c;have A:Ext w X (Vh X b (Wi (vp b 0) v)):=(Ext.refl w X).Vh;generalize Vh X b (Wi (vp b 0) v)=I at*;refine ko @d0 ?_;refine ky (aN @d0 @y) ?_;refine Ow.append (e:=5) _ rfl rfl rfl underlying151 ag5 kR zr5 kR underlying9 (by intro k h;cases h) z (fun d g=>W0.text _ d s) oM (fun v2 B i j C=>?_);have m:Sx.look B b=some (Wi (vp b 0) v):=j.look b _ c f;have E:aZ (some (false,1)) (some (Wi (vp b 0) v)) 1 v2=some (Wi (vp b 0) v2):=CK _ _ _ _ i.cell;refine ko (qS2 @d0 @m @E @dq) ?_;refine ky @d0 ?_;refine⟨_,(ke @d0),?_⟩;have F:=A.qm5 j;have n:Xy v2≠some b:=by
  rcases C with h| ⟨J,h,G⟩
  .rw[h];exact c
  rw[h];intro e;cases e;exact Xk _ (aQ G (bO f))
 refine⟨F.Vh,rfl,vp b 0,v2,cY m,.inr rfl,?_,n⟩;rw[VV,We];exact i.qz0 n
def G1(b:Nat)(X:aA)(l:No)(w:hW)(g:WC b l X)(h:∀p,p∈X->w.heap[p.1]? =some p.2)(i:(keys X).Nodup)(o:l.length<34359738368):
  Va prog 155 #[vp b 0] w (XS w X (fun v D=>v=vs l)):=by
 obtain⟨p,v,j,q,a,k⟩:=g;have m:=aO (w0:=w) j;refine Va.Vs func155 rfl (rs:=[.tmp 2]) results155 ntmps155 h i ?_;refine kf ?_;refine ky @d0 ?_;refine Cw.Vu [b] [0,1,2,5,6,7,3,8,9,4,10,11] [] kR kR kR ?_;refine WQ ?_;refine kq (aN @d0 (aN @m (a.len))) ?_;refine Ow.WV ?_;rcases a.inv with⟨rfl,d,-⟩ | ⟨f,c,rest,rfl,n,r,s,t,-⟩
 .obtain rfl:l=[]:=Zm d;refine Ow.qg2 (v:=.pointer none) rfl rfl (.inl ⟨0,0,rfl,rfl⟩) ?_
  with_reducible refine Ow.ZQ ?_
  refine Ow.WV ?_;refine Ow.Zw rfl rfl rfl rfl ?_
  with_reducible refine Ow.ZQ ?_
  refine kq @d0 ?_
  try with_reducible refine Ow.nil ?_
  refine ky @d0 ?_;refine⟨_,(ke @d0),?_⟩;exact⟨Ext.refl _ _,rfl⟩
 refine Ow.qg2 (v:=vp f 0) rfl rfl (.inr ⟨f,_,c,rfl,by omega,rfl⟩) ?_
 with_reducible refine Ow.ZQ ?_
 by_cases d:l.length=0
 .obtain rfl:l=[]:=Zm d;refine Ow.WV ?_;refine Ow.Zw rfl rfl rfl rfl ?_
  with_reducible refine Ow.ZQ ?_
  refine kq @d0 ?_
  try with_reducible refine Ow.nil ?_
  refine ky @d0 ?_;refine⟨_,(ke @d0),?_⟩;exact⟨Ext.refl _ _,rfl⟩
 refine Ow.WV ?_;refine Ow.unsafeString rfl rfl rfl rfl n oM oM underlying272 kR (Zu kR) ?_;refine Ow.nil ?_;refine⟨by intro b a;simp only[Vw,WI,WB] at a;(try subst a);exact qI (fun e=>k (by rw[<-e];rfl)),?_⟩;refine kq @d0 ?_
 try with_reducible refine Ow.nil ?_
 refine ky @d0 ?_;refine⟨_,(ke @d0),?_⟩;exact⟨(Ext.refl _ _).Vh,rfl⟩
def qK7(b o:Nat):ak prog .eql 160 (vp b o) (.pointer none)=some (.bool false):=by simp[ak,Zq,cm,cg,underlying160,vp]
def gC:=qS1 @nk @nx @qK7
structure WG where
 g:Nat
 D:aA
def FE(l:List No)(g:Nat)(h:g<l.length):(l.take (g+1)).flatten=(l.take g).flatten++l.getD g []:=by rw[List.take_add_one,List.getElem?_eq_getElem h,Yu,List.getD_eq_getElem?_getD,List.getElem?_eq_getElem h];simp
def Fc(l:List No)(g:Nat):(l.take g).flatten.length<=l.flatten.length:=by
 conv=>rhs;rw[<-Y1 g l,Yu,VV]
 omega
def CW(b:Nat)(X:aA)(l:No)(x:hU)(b2 off:Nat)(ls:List No)(arr:Array hU)(E:h7)(fz:Nat×Nat)(w:hW)(m:WC b l X)(c:∀p,p∈X->w.heap[p.1]? =some p.2)(d:(keys X).Nodup)
  (a:Zb w x ls b2 off arr E fz) (n:0<ls.length->b2∉keys X) (z:l.length+ls.flatten.length<34359738368) (A:ls.length<34359738368):
  Va prog 73 #[vp b 0,x] w (XS w X (fun v D=>v=.tuple #[]/\WC b (l++ls.flatten) D)):=by
 refine Va.Vs func73 rfl (rs:=[]) results73 ntmps73 c d ?_;refine kf ?_;refine ky (aN @gC a.len) ?_;refine Cw.VU (G:=WG) [11,12,13,5,14,15,16,17,18,19,10] (fun g=>[(10,vi g.g)]) (fun g=>g.D) (fun g=>g.g<=ls.length/\Ext w X g.D/\WC b (l++(ls.take g.g).flatten) g.D) (fun g=>ls.length - g.g) ⟨0,X⟩ rfl rfl ?_ ?_
 .exact⟨by simp,Ext.refl _ _,by simpa using m⟩
 intro g j h;refine kv ?_;obtain⟨g,D⟩:=g;simp only at h |-;obtain⟨B,e,f⟩:=h;by_cases i:g<ls.length
 .have o:=a.get g i;have q:=e.Wo (a.has oM) (n oM);refine ky (aN @gC (aN @Sx.YU (aN @q (aN @o (a.idx))))) ?_;have k:=FE ls g i;have C:=Fc ls (g+1);have r:=Wc List.length k;rw[VV] at r;refine Ow.Wa (Y:=[]) V_ rfl rfl call121 (fun s F c d=>V6 b D _ (ls.getD g []) s f c d (by rw[VV];omega)) (fun v2 D2 t u=>?_);rw[VX];obtain⟨rfl,y⟩:=u;refine ko @gC ?_;refine ky @gC ?_;refine Vo.mk (WG.mk (g+1) D2) (by show ls.length - (g+1)<ls.length - g;omega) ⟨by show g+1<=ls.length;omega,e.Xt t,?_⟩ rfl rfl;show WC b (l++(ls.take (g+1)).flatten) D2;rw[k,<-Wb];exact y
 obtain rfl:g=ls.length:=by omega
 refine ky @gC ?_;refine⟨_,(ke @gC),?_⟩;rw[WH] at f;exact⟨e,rfl,f⟩
def qb6:Int:=1099511627775
def co(n:Nat):No:=if h:n<128 then [UInt8.ofNat n] else UInt8.ofNat (n%128+128)::co (n / 128)
termination_by n
decreasing_by omega
def cb(n:Int):Nat:=(if(if qb6<n then qb6 else n)>0 then(if qb6<n then qb6 else n) else 0).toNat
def gp(l:List Int):No:=(l.map fun n=>co (cb n)).flatten
def qN{n:Nat}(h:n<128):co n=[UInt8.ofNat n]:=by rw[co];simp[h]
def rC{n:Nat}(h:¬n<128):co n=UInt8.ofNat (n%128+128)::co (n / 128):=by rw[co];simp[h]
theorem Co:∀ (k n:Nat),n<128^k->0<k->(co n).length<=k
 |0,n,h,c=>Vx c oM
 |k+1,n,h,_=>by
  by_cases b:n<128
  .rw[qN b];simp
  rw[rC b];have a:0<k:=by
   rcases Nat.eq_zero_or_pos k with rfl|a
   .simp at h;omega
   exact a
  have:=Co k (n / 128) (by rw[Nat.pow_succ] at h;omega) a;simp only[Wt];omega
def ti(n:Int):cb n<1099511627776:=by unfold cb qb6;split<;>split at* <;>omega
def eL(n:Int):(co (cb n)).length<=6:=Co 6 _ (by have:=ti n;omega) oM
def RO:∀b:BitVec 8,b.toNat<128->(b|||128#8)=b+128#8:=by decide
def p_(m:Nat):UInt8.ofInt (m:Int)=UInt8.ofNat m:=by apply UInt8.toBitVec_inj.1;apply BitVec.eq_of_toNat_eq;simp[UInt8.ofInt,UInt8.ofNat];omega
def Pe(m:Nat):UInt8.ofInt ((m:Int)%128) |||128=UInt8.ofNat (m%128+128):=by rw[show((m:Int)%128)=((m%128:Nat):Int) by omega,p_];apply UInt8.toBitVec_inj.1;have h:=RO (BitVec.ofNat 8 (m%128)) (by simp[BitVec.toNat_ofNat];omega);have a:(UInt8.ofNat (m%128) |||128).toBitVec=BitVec.ofNat 8 (m%128) |||128#8:=rfl;rw[a,h];apply BitVec.eq_of_toNat_eq;simp[UInt8.ofNat]
structure NG where
 m:Nat
 pre:No
 D:aA
def U2(b:Nat)(X:aA)(l:No)(x:hU)(b2 off:Nat)(ls:List Int)(arr:Array hU)(E:h7)(fz:Nat×Nat)(w:hW)(I:WC b l X)(c:∀p,p∈X->w.heap[p.1]? =some p.2)(d:(keys X).Nodup)
  (k:qh3 vi 0 w x ls b2 off arr E fz) (J:0<ls.length->b2∉keys X) (S:l.length+ls.length*6<34359738368):
  Va prog 74 #[vp b 0,x] w (XS w X (fun v D=>v=.tuple #[]/\WC b (l++gp ls) D)):=by
 refine Va.Vs func74 rfl (rs:=[]) results74 ntmps74 c d ?_;refine kf ?_;refine ky (aN @gC k.len) ?_;refine Cw.VU (G:=WG) [11,12,13,5,14,15,16,17,18,21,22,23,24,25,26,27,28,19,20,29,30,31,32,33,34,35,10] (fun g=>[(10,vi g.g)]) (fun g=>g.D) (fun g=>g.g<=ls.length/\Ext w X g.D/\WC b (l++gp (ls.take g.g)) g.D) (fun g=>ls.length - g.g) ⟨0,X⟩ rfl rfl ?_ ?_
 .exact⟨by simp,Ext.refl _ _,by simpa [gp] using I⟩
 intro g j z;refine kv ?_;obtain⟨g,D⟩:=g;simp only at z |-;obtain⟨T,o,A⟩:=z;by_cases q:g<ls.length
 .have K:=k.get g q;have L:=o.Wo (k.has oM) (J oM);refine ky (aN @gC (aN @Sx.YU (aN @L (aN @K (k.idx))))) ?_;refine Ow.qE5 rfl rfl rfl ?_;refine Ow.qK6 rfl rfl rfl ?_;have M:(if(if qb6<ls.getD g 0 then qb6 else ls.getD g 0)>0 then(if qb6<ls.getD g 0 then qb6 else ls.getD g 0) else 0)=(cb (ls.getD g 0):Int):=by
   unfold cb;omega
  have N:(if(if 1099511627775<ls.getD g 0 then 1099511627775 else ls.getD g 0)>0 then(if 1099511627775<ls.getD g 0 then 1099511627775 else ls.getD g 0) else 0)=(cb (ls.getD g 0):Int):=M;rw[N];have U:=ti (ls.getD g 0);have V:(gp (ls.take g)).length<=g*6:=by
   unfold gp;rw[List.length_flatten,List.map_map];have:∀ (a:List Int),(a.map (List.length∘fun n=>co (cb n))).sum<=a.length*6:=by
    intro a
    induction a with
    |nil=>simp
    |cons y r W=>have:=eL y;simp only[VY,List.sum_cons,Wt,Function.comp];omega
   have O:=this (ls.take g);rw[W3] at O;have:min g ls.length*6<=g*6:=Y0 _ (Nat.min_le_left _ _);omega
  have Z:=eL (ls.getD g 0);have P:gp (ls.take (g+1))=gp (ls.take g)++co (cb (ls.getD g 0)):=by unfold gp;rw[qd4 q,We,Yu,List.getD_eq_getElem?_getD,List.getElem?_eq_getElem q];simp only[VY,Wr,Ya,List.flatten_nil,VX,Option.getD_some]
  generalize cb (ls.getD g 0)=e at*;refine ko @gC ?_;refine ky @gC ?_;refine Cw.VU (G:=NG) [17,18,21,22,23,24,25,26,27,28,19,20,5] (fun a=>[(5,vi a.m)]) (fun a=>a.D) (fun a=>a.m<=e/\Ext w X a.D/\co e=a.pre++co a.m/\WC b (l++gp (ls.take g)++a.pre) a.D) (fun a=>a.m) ⟨e,[],D⟩ rfl rfl ?_ ?_
  .exact⟨aj _,o,rfl,by rwa [VX]⟩
  intro a jq B;refine kv ?_;obtain⟨m,pre,D1⟩:=a;simp only at B |-;obtain⟨za,C,f,F⟩:=B;have h:=Wc List.length f;rw[VV] at h;by_cases H:m<128
  .refine ky @gC ?_;rw[qN H] at f h;have Q:(l++gp (ls.take g)++pre).length+1<34359738368:=by
    rw[VV,VV];simp only[Wt,W7] at h;omega
   refine Ow.Wa (Y:=[]) V_ rfl rfl call122 (fun s R c d=>Tx b D1 _ _ s F c d oM) (fun v2 D2 t u=>?_);rw[VX];obtain⟨rfl,i⟩:=u;rw[p_] at i;refine ko @gC ?_;refine ky @gC ?_;refine Vo.mk (WG.mk (g+1) D2) (by show ls.length - (g+1)<ls.length - g;omega) ⟨by show g+1<=ls.length;omega,C.Xt t,?_⟩ rfl rfl;show WC b (l++gp (ls.take (g+1))) D2;rw[P,f,<-Wb,<-Wb];exact i
  refine ky @gC ?_;rw[rC H] at f h;have Q:(l++gp (ls.take g)++pre).length+1<34359738368:=by rw[VV,VV];simp only[Wt] at h;omega
  refine Ow.Wa (Y:=[]) V_ rfl rfl call122 (fun s R c d=>Tx b D1 _ _ s F c d oM) (fun v2 D2 t u=>?_);rw[VX];obtain⟨rfl,i⟩:=u;rw[Pe] at i;refine ko @gC ?_;refine ky @gC ?_;refine Vo.mk (NG.mk (m / 128) (pre++[UInt8.ofNat (m%128+128)]) D2) (by show m / 128<m;omega) ⟨by show m / 128<=e;omega,C.Xt t,?_,?_⟩ rfl rfl
  .show co e=pre++[UInt8.ofNat (m%128+128)]++co (m / 128);rw[f];simp
  show WC b (l++gp (ls.take g)++(pre++[UInt8.ofNat (m%128+128)])) D2;rw[<-Wb];exact i
 obtain rfl:g=ls.length:=by omega
 refine ky @gC ?_;refine⟨_,(ke @gC),?_⟩;rw[WH] at A;exact⟨o,rfl,A⟩
def f5:=aN (aN @nk @nx) (qS1 @qK7 @wI @qp)
theorem WC.app{b:Nat}{l:No}{X Y:aA}(h:WC b l X):WC b l (X++Y):=by obtain⟨p,v,a,c,d,e⟩:=h;exact⟨p,v,a_ a,c,d.app,e⟩
def c9(s:No):No:=co (cb s.length)++s
def gY(ls:List No):No:=(ls.map c9).flatten
def tn(n:Int):gp [n]=co (cb n):=by simp[gp]
def HP(ls:List No)(g:Nat)(h:g<ls.length):gY (ls.take (g+1))=gY (ls.take g)++c9 (ls.getD g []):=by unfold gY;rw[qd4 h,We,Yu,List.getD_eq_getElem?_getD,List.getElem?_eq_getElem h];simp only[VY,Wr,Ya,List.flatten_nil,VX,Option.getD_some]
def Eo(ls:List No)(g:Nat):(gY (ls.take g)).length<= (gY ls).length:=by
 conv=>rhs;rw[<-Y1 g ls]
 unfold gY;rw[We,Yu,VV];omega
def DO(b:Nat)(X:aA)(l:No)(x:hU)(b2 off:Nat)(ls:List No)(arr:Array hU)(E:h7)(fz:Nat×Nat)(w:hW)(z:WC b l X)(a:∀p,p∈X->w.heap[p.1]? =some p.2)(c:(keys X).Nodup)
  (d:Zb w x ls b2 off arr E fz) (A:0<ls.length->b2∉keys X) (W:l.length+ (gY ls).length<17179869184) (Z:ls.length<17179869184):
  Va prog 75 #[vp b 0,x] w (XS w X (fun v D=>v=.tuple #[]/\WC b (l++gY ls) D)):=by
 refine Va.Vs func75 rfl (rs:=[]) results75 ntmps75 a c ?_;refine kf ?_;refine ky (aN @f5 d.len) ?_;refine Cw.VU (G:=WG) [9,10,11,5,12,13,14,15,16,17,18,19,20,21,8] (fun g=>[(8,vi g.g)]) (fun g=>g.D) (fun g=>g.g<=ls.length/\Ext w X g.D/\WC b (l++gY (ls.take g.g)) g.D) (fun g=>ls.length - g.g) ⟨0,X⟩ rfl rfl ?_ ?_
 .exact⟨by simp,Ext.refl _ _,by simpa [gY] using z⟩
 intro g j r;refine kv ?_;obtain⟨g,D⟩:=g;simp only at r |-;obtain⟨za,i,k⟩:=r;by_cases s:g<ls.length
 .have B:=d.get g s;have C:=i.Wo (d.has oM) (A oM);have t:=HP ls g s;have zb:=Eo ls (g+1);have F:=Wc List.length t;rw[VV] at F;have zc:(c9 (ls.getD g [])).length=(co (cb (ls.getD g []).length)).length+ (ls.getD g []).length:=by unfold c9;rw[VV]
  refine ky (aN @f5 (aN @Sx.YU (aN @C (aN @B (d.idx))))) ?_;refine Ow.buildSlice (e:=3) #[vi (ls.getD g []).length] rfl rfl kR fun f H I=>?_;refine ko @f5 ?_;refine Ow.Wa (Y:=[(f, Xu (vi (ls.getD g []).length))]) V_ rfl rfl call74 (fun m n a c=>U2 b D _ _ f 0 [((ls.getD g []).length:Int)] _ _ _ m k a c (qh3.lit [((ls.getD g []).length:Int)] rfl rfl (n.has _ _ (cJ _ aX))) (fun _ q=>Xk _ (aQ H q)) (by rw[VV];simp only[Wt,W7];omega)) (fun v2 D2 J K=>?_);obtain⟨rfl,u⟩:=K;have L:=(i.app (o:=(Xu (vi (ls.getD g []).length))) I).X1 J;rw[tn] at u;have M:=WC.app (Y:=[(f, Xu (vi (ls.getD g []).length))]) u;generalize D2++[(f,Xu (vi (ls.getD g []).length))]=N at*;refine ko @f5 ?_;refine ky @f5 ?_;refine Ow.buildSlice (e:=9) #[vs (ls.getD g [])] rfl rfl kR fun h O P=>?_;refine ko @f5 ?_;refine Ow.Wa (Y:=[(h, VS (vs (ls.getD g [])))]) V_ rfl rfl call73 (fun m n a c=>CW b N _ _ h 0 [ls.getD g []] _ _ _ m M a c (Zb.lit [ls.getD g []] rfl rfl (n.has _ _ (cJ _ aX))) (fun _ q=>Xk _ (aQ O q)) (by rw[VV,VV];simp only[Ya,List.flatten_nil,VX];omega) V_) (fun v4 Q R S=>?_);obtain⟨rfl,T⟩:=S;have U:=(L.app (o:=(VS (vs (ls.getD g [])))) P).X1 R;have V:=WC.app (Y:=[(h, VS (vs (ls.getD g [])))]) T;generalize Q++[(h,VS (vs (ls.getD g [])))]=y at*;refine ko @f5 ?_;refine ky @f5 ?_;refine Vo.mk (WG.mk (g+1) y) (by show ls.length - (g+1)<ls.length - g;omega) ⟨by show g+1<=ls.length;omega,U,?_⟩ rfl rfl;show WC b (l++gY (ls.take (g+1))) y;rw[t];simpa [c9] using V
 obtain rfl:g=ls.length:=by omega
 refine ky @f5 ?_;refine⟨_,(ke @f5),?_⟩;rw[WH] at k;exact⟨i,rfl,k⟩
structure Xl where
 l:No
 h:l.length=32
def Ze(x:Xl):List hU:=x.l.map v8
def XY:Xl:=⟨List.replicate 32 0,by simp⟩
def pw(x:Xl):(Ze x).length=32:=by simp[Ze,x.h]
def qt(x:Xl):(Ze x).toArray=a8 x.l:=rfl
def qc7(ls:List Xl):No:=(ls.map Xl.l).flatten
def K3(ls:List Xl)(g:Nat)(h:g<ls.length):qc7 (ls.take (g+1))=qc7 (ls.take g)++(ls.getD g XY).l:=by unfold qc7;rw[qd4 h,We,Yu,List.getD_eq_getElem?_getD,List.getElem?_eq_getElem h];simp only[VY,Wr,Ya,List.flatten_nil,VX,Option.getD_some]
def nP(ls:List Xl):(qc7 ls).length=32*ls.length:=by
 unfold qc7
 induction ls with
 |nil=>rfl
 |cons x r a=>rw[VY,Ya,VV,a,x.h,Wt];omega
def uS(b:Nat)(X:aA)(l:No)(x:hU)(b2 off:Nat)(ls:List Xl)(arr:Array hU)(E:h7)(fz:Nat×Nat)(w:hW)(r:WC b l X)(d:∀p,p∈X->w.heap[p.1]? =some p.2)(f:(keys X).Nodup)
  (a:WL 32 Ze XY w x ls b2 off arr E fz) (s:0<ls.length->b2∉keys X) (T:l.length+32*ls.length<17179869184):
  Va prog 76 #[vp b 0,x] w (XS w X (fun v D=>v=.tuple #[]/\WC b (l++qc7 ls) D)):=by
 refine Va.Vs func76 rfl (rs:=[]) results76 ntmps76 d f ?_;refine kf ?_;refine ky (aN @f5 a.len) ?_;refine Cw.VU (G:=WG) [9,10,11,5,12,13,14,15,16,17,8] (fun g=>[(8,vi g.g)]) (fun g=>g.D) (fun g=>g.g<=ls.length/\Ext w X g.D/\WC b (l++qc7 (ls.take g.g)) g.D) (fun g=>ls.length - g.g) ⟨0,X⟩ rfl rfl ?_ ?_
 .exact⟨by simp,Ext.refl _ _,by simpa [qc7] using r⟩
 intro g j m;refine kv ?_;obtain⟨g,D⟩:=g;simp only at m |-;obtain⟨U,h,i⟩:=m;by_cases n:g<ls.length
 .have t:=h.Wo (a.has oM) (s oM);have q:=a.load pw oM n;rw[qt] at q;have u:=K3 ls g n;have V:=(ls.getD g XY).h;have y:=nP (ls.take g);rw[W3] at y;have W:min g ls.length<=g:=Nat.min_le_left _ _;refine ky (aN @f5 (aN @t (aN @q (a.idx)))) ?_;refine Ow.alloc rfl rfl qc2 fun c k z=>?_;refine Ow.go rfl ?_;simp(disch:=first|exact dD|fail) only[↓Sx.S0,Sx.S1,fx,f5,Nat.reduceAdd,Nat.reducePow,Int.reducePow,Nat.reduceBEq,↓reduceIte,UInt8.reduceToNat,UInt16.reduceToNat,UInt32.reduceToNat,UInt64.reduceToNat,Int.reduceToNat,fX k,nA k,dq];have A:=h.app (o:=.cells (a8 (ls.getD g XY).l) 38 (0,0)) z;have B:=WC.app (Y:=[(c,.cells (a8 (ls.getD g XY).l) 38 (0,0))]) i;have C:aG w (D++[(c,.cells (a8 (ls.getD g XY).l) 38 (0,0))]) c=_:=aO (fX k);generalize D++[(c,Obj.cells (a8 (ls.getD g XY).l) 38 (0,0))]=F at*;refine ky (aN @f5 @C) ?_;have H:List.take 32 (List.drop 0 (ls.getD g XY).l)=(ls.getD g XY).l:=by rw[YM,Yo oM]
  rw[H];refine Ow.buildSlice (e:=9) #[vs (ls.getD g XY).l] rfl rfl kR fun b6 I J=>?_;refine ko @f5 ?_;refine Ow.Wa (Y:=[(b6, VS (vs (ls.getD g XY).l))]) V_ rfl rfl call73 (fun K L d f=>CW b F _ _ b6 0 [(ls.getD g XY).l] _ _ _ K B d f (Zb.lit [(ls.getD g XY).l] rfl rfl (L.has _ _ (cJ _ aX))) (fun _ M=>Xk _ (aQ I M)) (by rw[VV];simp only[Ya,List.flatten_nil,VX];omega) V_) (fun Z N O P=>?_);obtain⟨rfl,Q⟩:=P;have R:=(A.app (o:=(VS (vs (ls.getD g XY).l))) J).X1 O;have S:=WC.app (Y:=[(b6, VS (vs (ls.getD g XY).l))]) Q;generalize N++[(b6,VS (vs (ls.getD g XY).l))]=D6 at*;refine ko @f5 ?_;refine ky @f5 ?_;refine Vo.mk (WG.mk (g+1) D6) (by show ls.length - (g+1)<ls.length - g;omega) ⟨by show g+1<=ls.length;omega,R,?_⟩ rfl rfl;show WC b (l++qc7 (ls.take (g+1))) D6;rw[u];simpa using S
 obtain rfl:g=ls.length:=by omega
 refine ky @f5 ?_;refine⟨_,(ke @f5),?_⟩;rw[WH] at i;exact⟨h,rfl,i⟩
def UK(b:Nat)(X:aA)(l:No)(w:hW)(d:WC b l X)(a:∀p,p∈X->w.heap[p.1]? =some p.2)(c:(keys X).Nodup)(e:l.length<34359738368):
  Va prog 124 #[vp b 0] w (XS w X (fun v _=>v=vs l)):=by
 refine Va.Vs func124 rfl (rs:=[.tmp 2]) results124 ntmps124 a c ?_;refine kf ?_;refine ky @f5 ?_;refine Ow.Wa (Y:=[]) V_ rfl rfl call155 (fun f i a c=>G1 b X l f d a c e) (fun v2 D2 g h=>?_);subst h;rw[VX];refine ko @f5 ?_;refine ky @f5 ?_;refine⟨_,(ke @f5),?_⟩;exact⟨(Ext.refl _ _).Xt g,rfl⟩
def m_(s:No)(a e:Int)(E:h7)(n:Nat):aF (some (false,n)) (some (.cells #[vs s,vi a,vi e] E (0,0))) 0=some (vs s):=(rfl)
def n8(s:No)(a e:Int)(E:h7)(n:Nat):aF (some (false,n)) (some (.cells #[vs s,vi a,vi e] E (0,0))) 1=some (vi a):=(rfl)
def mz(s:No)(a e:Int)(E:h7)(n:Nat):aF (some (false,n)) (some (.cells #[vs s,vi a,vi e] E (0,0))) 2=some (vi e):=(rfl)
def pQ(s:No)(a e x:Int)(E:h7):aZ (some (false,1)) (some (.cells #[vs s,vi a,vi e] E (0,0))) 1 (vi x)=some (.cells #[vs s,vi x,vi e] E (0,0)):=by simp[aZ,cU,vi,Value.cells,Value.oneCell']
def pK(s:No)(a e x:Int)(E:h7):aZ (some (false,1)) (some (.cells #[vs s,vi a,vi e] E (0,0))) 2 (vi x)=some (.cells #[vs s,vi a,vi x] E (0,0)):=by simp[aZ,cU,vi,Value.cells,Value.oneCell']
def qE6(b o:Nat):ak prog .eql 164 (vp b o) (.pointer none)=some (.bool false):=by simp[ak,Zq,cm,cg,underlying164,vp]
def p3:ak prog .eql 164 (.pointer none) (.pointer none)=some (.bool true):=by simp[ak,Zq,cm,cg,underlying164]
def Ar(b o:Nat):ak prog .neq 164 (vp b o) (.pointer none)=some (.bool true):=by simp[ak,Zq,cm,cg,underlying164,vp]
def AK:ak prog .neq 164 (.pointer none) (.pointer none)=some (.bool false):=by simp[ak,Zq,cm,cg,underlying164]
def aT:=aN (aN (aN @m_ @n8) (aN @mz @pQ)) (aN (aN @pK @qE6) (qS1 @p3 @Ar @AK))
def rJ(b:Nat)(s:No)(a e:Int)(w:hW)(c:w.heap[b]? =some (Vg (vs s) (vi a) (vi e))):
  Va prog 129 #[vp b 0] w (fun v D=>v=vi e/\D=[]):=by
 refine Va.Vr func129 rfl (rs:=[.tmp 2]) results129 ntmps129 ?_;refine kf ?_;refine ky (aN @aT @c) ?_;refine⟨_,(ke @aT),trivial,?_⟩
 rfl
def vR(w:hW):Va prog 129 #[.pointer none] w (fun v D=>v=vi 3/\D=[]):=by
 refine Va.Vr func129 rfl (rs:=[.tmp 2]) results129 ntmps129 ?_;refine kf ?_;refine ky @aT ?_;refine⟨_,(ke @aT),trivial,?_⟩
 rfl
def uV(b:Nat)(s:No)(a e:Int)(w:hW)(c:w.heap[b]? =some (Vg (vs s) (vi a) (vi e))):
  Va prog 86 #[vp b 0] w (fun v D=>v=vi a/\D=[]):=by
 refine Va.Vr func86 rfl (rs:=[.tmp 2]) results86 ntmps86 ?_;refine kf ?_;refine ky (aN @aT @c) ?_;refine⟨_,(ke @aT),trivial,?_⟩
 rfl
def K2(b:Nat)(s:No)(a e:Int)(w:hW)(c:w.heap[b]? =some (Vg (vs s) (vi a) (vi e))):
  Va prog 85 #[vp b 0] w (fun v D=>v=vi (if e≠0 then e else if a<s.length then 5 else 0)/\D=[]):=by
 refine Va.Vr func85 rfl (rs:=[.tmp 2]) results85 ntmps85 ?_;refine kf ?_;refine ky @aT ?_;refine Ow.Vc rfl call129 (fun g h=>rJ b s a e g (by rw[h.Wo b (Array.getElem?_eq_some_iff.1 c).1 Wg];exact c)) ?_;refine ko @aT ?_;refine ky @aT ?_;by_cases d:e=0
 .refine ky @aT ?_;refine Cw.Vu [b] [0,1,2,4,5,6,3,7,8,9] [] kR kR kR ?_;refine WQ ?_;refine kq (aN @aT @c) ?_
  try with_reducible refine Ow.nil ?_
  refine ky @aT ?_;refine cdC.qj8 (fun f=>?_) (fun f=>?_)
  .refine ky @aT ?_;refine⟨_,(ke @aT),trivial,?_⟩;simp[f,d,bS]
  refine ky @aT ?_;refine⟨_,(ke @aT),trivial,?_⟩;simp[f,d,bS]
 refine ky @aT ?_;refine⟨_,(ke @aT),trivial,?_⟩;simp[d,bS]
def pE(b:Nat)(s:No)(a e x y:Int)(w:hW)(d:w.heap[b]? =some (Vg (vs s) (vi a) (vi e))):
  Va prog 130 #[vp b 0,vi x,vi y] w (fun v D=> ∃o,D=[(b,o)]/\v=.tuple #[]/\o=(Vg (vs s) (vi (if e=0 then y else a)) (vi (if e=0 then x else e)))):=by
 refine Va.XV func130 rfl (rs:=[]) results130 ntmps130 d ?_;refine kf ?_;refine ky @aT ?_;by_cases c:e=0
 .refine ky @aT ?_;refine⟨_,_,_,(ke @aT),rfl,trivial,?_⟩;simp[c,bS]
 refine ky @aT ?_;refine⟨_,_,_,(ke @aT),rfl,trivial,?_⟩;simp[c,bS]
def aw(s:No)(a:Nat)(e n:Int):No×Nat×Int:=
 if e≠0 then([],a,e) else if n<0 then([],a,2) else if(s.length:Int) - a<n then([],a,3) else((s.drop a).take n.toNat,a+n.toNat,0)
def u9(b:Nat)(s:No)(a:Nat)(e n:Int)(w:hW)(k:a<=s.length)(l:s.length<9223372036854775808)(j:w.heap[b]? =some (Vg (vs s) (vi a) (vi e))):
  Va prog 159 #[vp b 0,vi n] w (fun v D=> ∃o,D=[(b,o)]/\v=vs (aw s a e n).1/\o=(Vg (vs s) (vi (aw s a e n).2.1) (vi (aw s a e n).2.2))):=by
 refine Va.XV func159 rfl (rs:=[.tmp 4]) results159 ntmps159 j ?_;refine kf ?_;refine ky @aT ?_;refine Ow.Vc rfl call129 (fun c d=>rJ b s a e c (d.has _ _ aX)) ?_;refine ko @aT ?_;refine ky @aT ?_;unfold aw;by_cases f:e=0
 .subst f;rw[tr (fun h=>h rfl)];refine ky @aT ?_;by_cases g:n<0
  .rw[Vb g];refine ky @aT ?_;refine Ow.WA rfl rfl call130 Wg (fun c d=>pE b s a 0 2 a c (d.has _ _ aX)) ?_;refine ko @aT ?_;refine ky @aT ?_;refine⟨_,_,_,(ke @aT),rfl,trivial,?_⟩;exact⟨rfl,rfl⟩
  rw[tr g];refine ky @aT ?_;refine Cw.Vu [b] [0,1,2,3,6,7,8,4,5,9,10,11,12] [] kR kR kR ?_;refine WQ ?_;refine kq @aT ?_
  try with_reducible refine Ow.nil ?_
  refine ky @aT ?_;by_cases i:(s.length:Int) - a<n
  .rw[Vb i];refine ky @aT ?_;refine Ow.WA rfl rfl call130 Wg (fun c d=>pE b s a 0 3 a c (d.has _ _ aX)) ?_;refine ko @aT ?_;refine ky @aT ?_;refine⟨_,_,_,(ke @aT),rfl,trivial,?_⟩;exact⟨rfl,rfl⟩
  rw[tr i];obtain⟨m,rfl⟩:∃m:Nat,n=(m:Int):=⟨n.toNat,by omega⟩;refine ky @aT ?_;refine Cw.Vu [b] [0,1,2,4,5,6,8,9,10,12,3,7,11,13,14,15] [] kR kR kR ?_;refine WQ ?_;refine kq @aT ?_
  try with_reducible refine Ow.nil ?_
  refine ky @aT ?_;refine⟨_,_,_,(ke @aT),rfl,trivial,?_⟩;refine⟨?_,?_⟩
  .simp only[bS,WX];rw[List.drop_take,Nat.add_sub_cancel_left]
  rw[WX,Int.natCast_add]
 rw[Vb f];refine ky @aT ?_;refine⟨_,_,_,(ke @aT),rfl,trivial,?_⟩;exact⟨rfl,rfl⟩
def bR(most:Int):No->Nat->Nat->Except Nat (Nat×Nat)
 | [],_,_=>.error 3
 |c::r,k,n=>
  if 128<=c.toNat then(if k+1=6 then .error 4 else bR most r (k+1) (n+c.toNat%128*128^k))
  else if c.toNat=0/\0<k then .error 2
  else if n+c.toNat%128*128^k<=1099511627775/\((n+c.toNat%128*128^k:Nat):Int)<=most then .ok (n+c.toNat%128*128^k,k+1)
  else .error 4
def aE(s:No)(a:Nat)(e most:Int):Int×Nat×Int:=
 if e≠0 then(0,a,e) else match bR most (s.drop a) 0 0 with
  | .ok (n,k)=>(n,a+k,0)
  | .error x=>(0,a,x)
def pg{s:No}{a:Nat}{e most:Int}{n k:Nat}(b:e=0)(h:bR most (s.drop a) 0 0=.ok (n,k)):aE s a e most=((n:Int),a+k,0):=by unfold aE;rw[tr (by simp[b]),h]
def jA{s:No}{a:Nat}{e most:Int}{x:Nat}(b:e=0)(h:bR most (s.drop a) 0 0=.error x):aE s a e most=(0,a,(x:Int)):=by unfold aE;rw[tr (by simp[b]),h]
structure ql4 where
 more:Bool
 k:Nat
 n:Nat
 x:Nat
def U9(b:Nat)(s:No)(a:Nat)(e most:Int)(w:hW)(W:a<=s.length)(X:s.length<9223372036854775808)(J:w.heap[b]? =some (Vg (vs s) (vi a) (vi e))):
  Va prog 83 #[vp b 0,vi most] w (fun v D=> ∃o,D=[(b,o)]/\v=vi (aE s a e most).1/\o=(Vg (vs s) (vi (aE s a e most).2.1) (vi (aE s a e most).2.2))):=by
 refine Va.XV func83 rfl (rs:=[.tmp 4]) results83 ntmps83 J ?_;refine kf ?_;refine ky @aT ?_;by_cases A:e=0
 .subst A;refine Cw.qj6 (G:=ql4) (fun g=>(if g.more then 1 else 0)) [10,11,12,4,5,6,7,13,14,15,16,8,9,17,18,19,20,21,22,23,24,25,26,27,28,29,30,31,32,33,34,35,36,37,38,39,40,41,42,43,44,45,46,47,48,49,50,51,52,53,54,55,56,57,58,59,60,61,62,63,64,65,66,67,68,69,70,71,72,73] (fun g=>(if g.more then [(5,vi g.n),(6,vi (7*g.k:Nat)),(8,vi 3),(9,vi a)] else [(8,vi g.x),(9,vi a)])) (fun g=>[(b, Vg (vs s) (vi (a+g.k:Nat)) (vi 0))]) (fun g=>a+g.k<=s.length/\(if g.more then bR most (s.drop a) 0 0=bR most (s.drop (a+g.k)) g.k g.n/\g.n<128^g.k/\g.k<6 else bR most (s.drop a) 0 0=.error g.x)) (fun g=>(if g.more then 7 - g.k else 0)) ?_ ?_ ?_
  .intro g;obtain⟨m,k,n,x⟩:=g;cases m<;>rfl
  .intro g j r;obtain⟨m,k,n,x⟩:=g;obtain⟨B,r⟩:=r;simp only at B;cases m with
   |false=>
    simp only[VW,↓reduceIte] at r |-;simp only[fi,YW,YN,XW,Bool.or_true,Bool.true_or,Nat.reduceBEq,Yf,↓reduceIte,VW];refine kv ?_
    try with_reducible refine pX ?_
    refine ky @aT ?_;refine Ow.WA rfl rfl call130 Wg (fun d f=>pE b s _ 0 x a d (f.has _ _ aX)) ?_;refine ko @aT ?_;refine ky @aT ?_;rw[jA rfl r];refine⟨_,_,_,(ke @aT),rfl,trivial,?_⟩;simp[bS]
   |true=>
    simp only[↓reduceIte] at r |-;obtain⟨i,K,Y⟩:=r;simp only[fi,YW,YN,XW,Bool.or_true,Bool.true_or,Nat.reduceBEq,Yf,↓reduceIte,VW];refine kv ?_
    try with_reducible refine pX ?_
    refine ky @aT ?_;refine Cw.Vu [b] [0,1,2,4,5,6,3,7,8,9] [] kR kR kR ?_;refine WQ ?_;refine kq @aT ?_
    try with_reducible refine Ow.nil ?_
    by_cases L:a+k=s.length
    .refine ky @aT ?_;refine Jump.mk (ql4.mk false k n 3) rfl (by show 0<7 - k;omega) ⟨B,?_⟩ rfl rfl;show bR most (s.drop a) 0 0=.error 3;rw[i,L,List.drop_length];rfl
    refine ky @aT ?_;have C:a+k<s.length:=by omega
    have M:s.drop (a+k)=s.getD (a+k) 0::s.drop (a+k+1):=by rw[qc1 C,List.getD_eq_getElem?_getD,List.getElem?_eq_getElem C];rfl
    rw[M] at i;refine Cw.Vu [b] [0,1,2,4,5,6,3,7,8,9] [] kR kR kR ?_;refine WQ ?_;refine kq @aT ?_
    try with_reducible refine Ow.nil ?_
    generalize s.getD (a+k) 0=c at*;have Z:128^k<=34359738368:=Nat.pow_le_pow_right oM (show k<=5 by omega);have za:0<128^k:=Nat.pow_pos oM;have N:(c%128).toNat=c.toNat%128:=by simp
    have zb:=c.toNat_lt;have zc:c.toNat%128*128^k<=127*128^k:=Y0 _ oM;have O:aM .shl (vi ((c.toNat%128:Nat):Int)) (vi ((7*k:Nat):Int))=some (vi ((c.toNat%128*128^k:Nat):Int)):=by
     have E:(2:Int)^ (7*k)=((128^k:Nat):Int):=by rw[Int.pow_mul];push_cast;rfl
     have:=wV ((c.toNat%128:Nat):Int) .i64 (7*k) (by rw[E];refine⟨by omega,by omega,?_⟩;rw[<-Y_];omega);rw[E,<-Y_] at this;exact this
    have P:aM .or (vi (n:Int)) (vi ((c.toNat%128*128^k:Nat):Int))=some (vi ((n+c.toNat%128*128^k:Nat):Int)):=by have:=qK8 (n:Int) ((c.toNat%128*128^k:Nat):Int) ⟨by omega,by omega,by omega,by omega⟩;rw[this];congr 3;rw[WX,WX,show 128^k=2^ (7*k) by rw[Nat.pow_mul],Nat.mul_comm,Nat.or_comm,<-Nat.two_pow_add_eq_or_of_lt (by rw[Nat.pow_mul];exact K),Nat.add_comm]
    have Q:n+c.toNat%128*128^k<128^ (k+1):=by rw[Nat.pow_succ];omega
    have R:aM .rem (v8 c) (v8 128)=some (v8 (c%128)):=sU _ _ WT;refine ky (qS3 @aT @R @N @O @P) ?_;have z:decide ((128:Vf)<=c)=decide (128<=c.toNat):=by simp[UInt8.le_iff_toNat_le]
    cases F:decide ((128:Vf)<=c)
    .rw[F] at z;have l:¬128<=c.toNat:=Z8 z.symm;cases t:(c==0)
     .have p:¬ (c.toNat=0/\0<k):=by
       rintro⟨S,-⟩;have:c=0:=UInt8.toNat_inj.1 S;rw[this] at t;exact Vx t WT
      refine ky (aN @aT @t) ?_;by_cases u:n+c.toNat%128*128^k<=1099511627775
      .have q:decide (((n+c.toNat%128*128^k:Nat):Int)<=1099511627775)=true:=aP oM;refine ky (aN @aT @q) ?_;by_cases y:((n+c.toNat%128*128^k:Nat):Int)<=most
       .refine ky @aT ?_;rw[pg rfl (by rw[i,bR,tr l,tr p,Vb ⟨u,y⟩])];refine⟨_,_,_,(ke @aT),rfl,trivial,?_⟩;exact⟨rfl,rfl⟩
       refine ky @aT ?_;refine Ow.WA rfl rfl call130 Wg (fun d f=>pE b s _ 0 4 a d (f.has _ _ aX)) ?_;refine ko @aT ?_;refine ky @aT ?_;rw[jA (x:=4) rfl (by rw[i,bR,tr l,tr p,tr (fun h=>y h.2)])];refine⟨_,_,_,(ke @aT),rfl,trivial,?_⟩;exact⟨rfl,rfl⟩
      have q:decide (((n+c.toNat%128*128^k:Nat):Int)<=1099511627775)=false:=aW oM;refine ky (aN @aT @q) ?_;refine Ow.WA rfl rfl call130 Wg (fun d f=>pE b s _ 0 4 a d (f.has _ _ aX)) ?_;refine ko @aT ?_;refine ky @aT ?_;rw[jA (x:=4) rfl (by rw[i,bR,tr l,tr p,tr (fun h=>u h.1)])];refine⟨_,_,_,(ke @aT),rfl,trivial,?_⟩;exact⟨rfl,rfl⟩
     have T:c=0:=eq_of_beq t;have U:c.toNat=0:=by rw[T];rfl
     refine ky (aN @aT @t) ?_;by_cases H:0<k
     .refine ky @aT ?_;refine Jump.mk (ql4.mk false (k+1) n 2) rfl (by show 0<7 - k;omega) ⟨by show a+ (k+1)<=s.length;omega,?_⟩ rfl rfl;show bR most (s.drop a) 0 0=.error 2;rw[i,bR,tr l,Vb ⟨U,H⟩]
     have p:¬ (c.toNat=0/\0<k):=fun h=>H h.2;refine ky @aT ?_;by_cases u:n+c.toNat%128*128^k<=1099511627775
     .have q:decide (((n+c.toNat%128*128^k:Nat):Int)<=1099511627775)=true:=aP oM;refine ky (aN @aT @q) ?_;by_cases y:((n+c.toNat%128*128^k:Nat):Int)<=most
      .refine ky @aT ?_;rw[pg rfl (by rw[i,bR,tr l,tr p,Vb ⟨u,y⟩])];refine⟨_,_,_,(ke @aT),rfl,trivial,?_⟩;exact⟨rfl,rfl⟩
      refine ky @aT ?_;refine Ow.WA rfl rfl call130 Wg (fun d f=>pE b s _ 0 4 a d (f.has _ _ aX)) ?_;refine ko @aT ?_;refine ky @aT ?_;rw[jA (x:=4) rfl (by rw[i,bR,tr l,tr p,tr (fun h=>y h.2)])];refine⟨_,_,_,(ke @aT),rfl,trivial,?_⟩;exact⟨rfl,rfl⟩
     have q:decide (((n+c.toNat%128*128^k:Nat):Int)<=1099511627775)=false:=aW oM;refine ky (aN @aT @q) ?_;refine Ow.WA rfl rfl call130 Wg (fun d f=>pE b s _ 0 4 a d (f.has _ _ aX)) ?_;refine ko @aT ?_;refine ky @aT ?_;rw[jA (x:=4) rfl (by rw[i,bR,tr l,tr p,tr (fun h=>u h.1)])];refine⟨_,_,_,(ke @aT),rfl,trivial,?_⟩;exact⟨rfl,rfl⟩
    rw[F] at z;have l:128<=c.toNat:=Zu z.symm;refine ky @aT ?_;by_cases zd:k=5
    .refine ky @aT ?_;refine Jump.mk (ql4.mk false (k+1) n 4) rfl (by show 0<7 - k;omega) ⟨by show a+ (k+1)<=s.length;omega,?_⟩ rfl rfl;show bR most (s.drop a) 0 0=.error 4;rw[i,bR,Vb l,Vb oM]
    refine ky @aT ?_;refine Jump.mk (ql4.mk true (k+1) (n+c.toNat%128*128^k) 0) rfl (by show 7 - (k+1)<7 - k;omega) ⟨by show a+ (k+1)<=s.length;omega,?_⟩ rfl rfl;show bR most (s.drop a) 0 0=bR most (s.drop (a+ (k+1))) (k+1) (n+c.toNat%128*128^k)/\n+c.toNat%128*128^k<128^ (k+1)/\k+1<6;refine⟨?_,Q,by omega⟩;rw[i,bR,Vb l,tr oM]
    rfl
  intro key;have I:=fun V=>key (ql4.mk true 0 0 0) V;simp only[fi,YW,YN,XW,Bool.or_true,Bool.true_or,Nat.reduceBEq,Yf,↓reduceIte,VW] at I;clear key
  repeat first|with_reducible refine ks [999999] @aT ?_|refine kw @aT ?_
  refine Ow.Vc rfl call129 (fun d f=>rJ b s a 0 d (f.has _ _ aX)) ?_;refine ko @aT ?_
  repeat first|with_reducible refine ks [999999] @aT ?_|refine kw @aT ?_
  repeat first|with_reducible refine ks [999999] @aT ?_|refine kw @aT ?_
  refine Cw.Vu [b] [0,1,2,4,3,5] [] kR kR kR ?_;refine WQ ?_;refine kq @aT ?_
  try with_reducible refine Ow.nil ?_
  repeat first|with_reducible refine ks [999999] @aT ?_|refine kw @aT ?_
  refine Cw.label ?_;refine I _ ⟨by omega,rfl,by omega,by omega⟩ ?_
  rfl
 refine Cw.qq4 ?_;refine ky @aT ?_;refine Ow.Vc rfl call129 (fun d f=>rJ b s a e d (f.has _ _ aX)) ?_;refine ko @aT ?_;refine ky @aT ?_;unfold aE;refine⟨_,_,_,(ke @aT),rfl,trivial,?_⟩;simp[A,bS]
theorem rE(most:Int):∀ (l:No) (k n m a:Nat),bR most l k n=.ok (m,a)->k<a/\a<=k+l.length
 | [],k,n,m,a,h=>by cases h
 |c::r,k,n,m,a,h=>by
  unfold bR at h
  split at h
  .split at h
   .cases h
   have:=rE most r (k+1) _ m a h;simp only[Wt];omega
  split at h
  .cases h
  split at h
  .cases h;simp only[Wt];omega
  cases h
def fO{s:No}{a:Nat}{e most:Int}(b:a<=s.length):a<= (aE s a e most).2.1/\(aE s a e most).2.1<=s.length:=by
 unfold aE
 split
 .exact⟨aj _,b⟩
 cases h:bR most (s.drop a) 0 0 with
 |error x=>exact⟨aj _,b⟩
 |ok p=>obtain⟨n,k⟩:=p;have:=rE most _ _ _ _ _ h;rw[XC] at this;exact⟨by show a<=a+k;omega,by show a+k<=s.length;omega⟩
def qy{s:No}{a:Nat}{e n:Int}(b:a<=s.length):a<= (aw s a e n).2.1/\(aw s a e n).2.1<=s.length:=by
 unfold aw
 split
 .exact⟨aj _,b⟩
 split
 .exact⟨aj _,b⟩
 split
 .exact⟨aj _,b⟩
 exact⟨by show a<=a+n.toNat;omega,by show a+n.toNat<=s.length;omega⟩
def aS(s:No)(a:Nat)(e most:Int):No×Nat×Int:=
 let p:=aE s a e most
 let b:=aw s p.2.1 p.2.2 p.1
 if b.2.2≠0 then([],a,b.2.2) else b
def sG(b:Nat)(s:No)(a:Nat)(e most:Int)(w:hW)(h:a<=s.length)(i:s.length<9223372036854775808)(m:w.heap[b]? =some (Vg (vs s) (vi a) (vi e))):
  Va prog 127 #[vp b 0,vi most] w (fun v D=> ∃o,D=[(b,o)]/\v=vs (aS s a e most).1/\o=(Vg (vs s) (vi (aS s a e most).2.1) (vi (aS s a e most).2.2))):=by
 refine Va.XV func127 rfl (rs:=[.tmp 4]) results127 ntmps127 m ?_;refine kf ?_;refine ky @aT ?_;refine Ow.Vc rfl call86 (fun c d=>uV b s a e c (d.has _ _ aX)) ?_;refine ko @aT ?_;refine ky @aT ?_;have f:=fO (e:=e) (most:=most) h;unfold aS;refine Ow.WA rfl rfl call83 Wg (fun c d=>U9 b s a e most c h i (d.has _ _ aX)) ?_;generalize aE s a e most=p at*;obtain⟨n,j,g⟩:=p;simp only at f |-;refine ko @aT ?_;refine Ow.WA rfl rfl call159 Wg (fun c d=>u9 b s j g n c f.2 i (d.has _ _ aX)) ?_;have q:=qy (e:=g) (n:=n) f.2;generalize aw s j g n=r at*;obtain⟨t,k,u⟩:=r;simp only at q |-;refine ko @aT ?_;refine ky @aT ?_;by_cases l:u=0
 .refine ky @aT ?_;refine⟨_,_,_,(ke @aT),rfl,trivial,?_⟩;simp[l,bS]
 refine ky @aT ?_;refine Ow.qE5 rfl rfl rfl ?_;have x:(if(a:Int)< (k:Int) then(a:Int) else(k:Int))=a:=by split<;>omega
 rw[x];refine ko @aT ?_;refine ky @aT ?_;refine⟨_,_,_,(ke @aT),rfl,trivial,?_⟩;simp[l,bS]
def z32:No:=List.replicate 32 0
def X5(s:No)(a:Nat)(e:Int):No×Nat×Int:=
 let b:=aw s a e 32
 (if b.1.length=32 then b.1 else z32,b.2)
def vD{s:No}{a:Nat}{e:Int}(b:a<=s.length):(aw s a e 32).1=[]\/(aw s a e 32).1.length=32:=by
 unfold aw
 split
 .exact .inl rfl
 split
 .exact .inl rfl
 split
 .exact .inl rfl
 right
 show((s.drop a).take 32).length=32;rw[W3,XC];omega
def Pw{t:No}(h:t=[]\/t.length=32):cU (a8 (List.replicate 32 0)) 0 ((t.take (min t.length 32)).map v8)=a8 (if t.length=32 then t else z32):=by
 rcases h with rfl|h
 .rfl
 rw[Vb h,h,Nat.min_self,Yo oM];have:=r4 (t.map v8) [] ((List.replicate 32 (0:Vf)).map v8) (by simp[h]);simp only[Vy,W7] at this;show cU ((List.replicate 32 (0:Vf)).map v8).toArray 0 (t.map v8)=(t.map v8).toArray;rw[this];rw[List.drop_eq_nil_of_le (by simp[h]),VX]
def NZ(b:Nat)(s:No)(a:Nat)(e:Int)(w:hW)(d:a<=s.length)(h:s.length<9223372036854775808)(f:w.heap[b]? =some (Vg (vs s) (vi a) (vi e))):
  Va prog 131 #[vp b 0] w (fun v D=> ∃o,D=[(b,o)]/\v=.agg (a8 (X5 s a e).1)/\o=(Vg (vs s) (vi (X5 s a e).2.1) (vi (X5 s a e).2.2))):=by
 have q:=(Array.getElem?_eq_some_iff.1 f).1;have g:=vD (e:=e) d;unfold X5;refine Va.XV func131 rfl (rs:=[.cell 2 38]) results131 ntmps131 f ?_;refine kf ?_;refine ky @aT ?_;refine Ow.alloc rfl rfl qc2 fun r i j=>?_;refine ko @aT ?_;refine ky @aT ?_;refine Ow.alloc rfl rfl qc2 fun u k l=>?_;obtain⟨x,y,-⟩:=k;obtain⟨z,-⟩:=i;refine ko @aT ?_;refine ky @aT ?_;refine Cw.Vu [] [0,1,2,3] [] kR kR kR ?_;refine WQ ?_;refine kq @aT ?_;refine Ow.WV ?_;refine Ow.WA rfl rfl call159 Wg (fun m n=>u9 b s a e 32 m d h (n.has _ _ aX)) ?_;generalize aw s a e 32=p at*;obtain⟨t,A,B⟩:=p;simp only at g |-
 try with_reducible refine Ow.nil ?_
 refine⟨fun b c=>Vx c V_,?_⟩;simp(disch:=omega) only[iN];refine Ow.WV ?_;refine Ow.qo8 (cs:=a8 (List.replicate 32 0)) (E:=38) (e:=5) rfl rfl underlying151 ag5 rfl rfl (by simp(disch:=omega) only[jL,eJ]) (by rw[mi];simp) ?_;rw[Pw g];have C:(if t.length=32 then t else z32).length=32:=by
  split
  .assumption
  simp[z32]
 generalize (if t.length=32 then t else z32)=id at*
 try with_reducible refine Ow.nil ?_
 refine⟨fun b c=>Vx c V_,?_⟩;simp(disch:=omega) only[iN,mP];refine kq @aT ?_
 try with_reducible refine Ow.nil ?_
 refine ky @aT ?_;refine⟨_,_,_,(ke @aT),rfl,⟨j,l,trivial⟩,?_⟩;exact⟨rfl,rfl⟩
def tM(s:No)(w:hW):
  Va prog 81 #[vs s] w (fun v D=> ∃b,w.heap.size<=b/\v=vp b 0/\D=[(b, Vg (vs s) (vi 0) (vi 0))]):=by
 refine Va.enter func81 rfl (rs:=[.tmp 2]) results81 ntmps81 ?_;refine kf ?_;refine ky @aT ?_;refine Ow.build (.agg #[vs s,vi 0,vi 0]) rfl kR ?_;refine ko @aT ?_;refine Ow.box rfl rfl fun a d c=>?_;refine ko @aT ?_;refine ky @aT ?_;refine⟨_,(by simp only[Bl,Bb,CJ,cz,dL,Bp];rfl),a,c,rfl,?_⟩
 rfl
def av:=aN (aN (aN @bA @gd) (qS1 @iG @iF @b9)) (aN (aN @m_ @n8) (qS1 @mz @pQ @pK))
def Cz(b:Nat)(s:No)(a:Nat)(e n:Int)(w:hW)(i:a<=s.length)(j:s.length<1099511627776)(g:w.heap[b]? =some (Vz (vs s) (vi a) (vi e))):
  Va prog 134 #[vp b 0,vi n] w (fun v D=> ∃o,D=[(b,o)]/\v=vs (aw s a e n).1/\o=(Vz (vs s) (vi (aw s a e n).2.1) (vi (aw s a e n).2.2))):=by
 refine Va.XV func134 rfl (rs:=[.tmp 4]) results134 ntmps134 g ?_;refine kf ?_;refine ky @av ?_;unfold aw;by_cases c:e=0
 .subst c;rw[tr (fun h=>h rfl)];refine ky @av ?_;by_cases d:n<0
  .rw[Vb d];refine ky @av ?_;refine⟨_,_,_,(ke @av),rfl,trivial,?_⟩;exact⟨rfl,rfl⟩
  rw[tr d];refine ky @av ?_;refine Cw.Vu [b] [0,1,2,5,6,7,10,3,4,8,9,11] [] kR kR kR ?_;refine WQ ?_;refine kq @av ?_
  try with_reducible refine Ow.nil ?_
  refine ky @av ?_;by_cases f:(s.length:Int) - a<n
  .rw[Vb f];refine ky @av ?_;refine⟨_,_,_,(ke @av),rfl,trivial,?_⟩;exact⟨rfl,rfl⟩
  rw[tr f];obtain⟨m,rfl⟩:∃m:Nat,n=(m:Int):=⟨n.toNat,by omega⟩;refine ky @av ?_;refine Cw.Vu [b] [0,1,2,4,5,6,8,9,10,12,3,7,11,13,14,15] [] kR kR kR ?_;refine WQ ?_;refine kq @av ?_
  try with_reducible refine Ow.nil ?_
  refine ky @av ?_;refine⟨_,_,_,(ke @av),rfl,trivial,?_⟩;refine⟨?_,?_⟩
  .simp only[bS,WX];rw[List.drop_take,Nat.add_sub_cancel_left]
  rw[WX,Int.natCast_add]
 rw[Vb c];refine ky @av ?_;refine⟨_,_,_,(ke @av),rfl,trivial,?_⟩;exact⟨rfl,rfl⟩
def BH(b:Nat)(s:No)(a e:Int)(w:hW)(c:w.heap[b]? =some (Vz (vs s) (vi a) (vi e))):
  Va prog 98 #[vp b 0] w (fun v D=>v=vi (if e≠0 then e else if a<s.length then 5 else 0)/\D=[]):=by
 refine Va.Vr func98 rfl (rs:=[.tmp 2]) results98 ntmps98 ?_;refine kf ?_;refine ky (aN @av @c) ?_;by_cases d:e=0
 .refine ky @av ?_;refine Cw.Vu [b] [0,1,2,4,5,6,3,7,8,9] [] kR kR kR ?_;refine WQ ?_;refine kq (aN @av @c) ?_
  try with_reducible refine Ow.nil ?_
  refine ky @av ?_;refine cdC.qj8 (fun f=>?_) (fun f=>?_)
  .refine ky @av ?_;refine⟨_,(ke @av),trivial,?_⟩;simp[f,d,bS]
  refine ky @av ?_;refine⟨_,(ke @av),trivial,?_⟩;simp[f,d,bS]
 refine ky (aN @av @c) ?_;refine⟨_,(ke @av),trivial,?_⟩;simp[d,bS]
structure KN where
 k:Nat
 n:Nat
def BS(b:Nat)(s:No)(a:Nat)(e most:Int)(w:hW)(B:a<=s.length)(Q:s.length<1099511627776)(C:w.heap[b]? =some (Vz (vs s) (vi a) (vi e))):
  Va prog 95 #[vp b 0,vi most] w (fun v D=> ∃o,D=[(b,o)]/\v=vi (aE s a e most).1/\o=(Vz (vs s) (vi (aE s a e most).2.1) (vi (aE s a e most).2.2))):=by
 refine Va.XV func95 rfl (rs:=[.tmp 4]) results95 ntmps95 C ?_;refine kf ?_;refine ky @av ?_;by_cases t:e=0
 .subst t;refine ky @av ?_;refine Cw.VU (G:=KN) [14,15,18,19,20,21,22,23,24,25,26,27,28,29,30,31,32,4,33,34,35,36,37,38,39,40,41,42,43,44,8,45,46,47,48,49,50,5,51,52,6,53,54,55,56,57,58,59,60,61,62,63,64,65,66,67,68,69,70,71,72,73,74,75,76,77,78,79,80,81,82,83,84,16,17,7] (fun g=>[(5,vi g.n),(6,vi (128^g.k:Nat)),(7,vi g.k)]) (fun g=>[(b, Vz (vs s) (vi a) (vi 0))]) (fun g=>g.k<=6/\(g.k<6->bR most (s.drop a) 0 0=bR most (s.drop (a+g.k)) g.k g.n/\a+g.k<=s.length/\g.n<128^g.k)/\(g.k=6->bR most (s.drop a) 0 0=.error 4)) (fun g=>6 - g.k) ⟨0,0⟩ rfl rfl ?_ ?_
  .exact⟨by simp,fun _=>⟨rfl,by simpa using B,by simp⟩,fun h=>by cases h⟩
  intro g j u;refine kv ?_;obtain⟨k,n⟩:=g;simp only at u |-;obtain⟨R,E,F⟩:=u;by_cases H:k<6
  .obtain⟨d,S,T⟩:=E H;refine ky @av ?_;refine Cw.Vu [b] [0,1,2,4,6,7,8,3,5,9,10,11] [] kR kR kR ?_;refine WQ ?_;refine kq @av ?_
   try with_reducible refine Ow.nil ?_
   refine ky @av ?_;by_cases I:a+k=s.length
   .refine ky @av ?_;rw[jA (x:=3) rfl (by rw[d,I,List.drop_length];rfl)];refine⟨_,_,_,(ke @av),rfl,trivial,?_⟩;exact⟨rfl,rfl⟩
   have y:a+k<s.length:=by omega
   have J:s.drop (a+k)=s.getD (a+k) 0::s.drop (a+k+1):=by rw[qc1 y,List.getD_eq_getElem?_getD,List.getElem?_eq_getElem y];rfl
   rw[J] at d;refine ky @av ?_;refine Cw.Vu [b] [0,1,2,4,5,6,8,3,7,9,10,11,12] [] kR kR kR ?_;refine WQ ?_;have K:((a:Int)+ (k:Int))=((a+k:Nat):Int):=by omega
   refine kq (aN @av @K) ?_
   try with_reducible refine Ow.nil ?_
   generalize s.getD (a+k) 0=c at*;have U:128^k<=34359738368:=Nat.pow_le_pow_right oM (show k<=5 by omega);have V:0<128^k:=Nat.pow_pos oM;have W:=c.toNat_lt;have X:c.toNat%128*128^k<=127*128^k:=Y0 _ oM;have L:((c.toNat:Int)%128)=((c.toNat%128:Nat):Int):=by omega
   have M:aM .mul (vi ((c.toNat%128:Nat):Int)) (vi ((128^k:Nat):Int))=some (vi ((c.toNat%128*128^k:Nat):Int)):=by rw[tU _ _ (by rw[<-Y_];omega),<-Y_]
   have N:(((128^k:Nat):Int)*128)=((128^ (k+1):Nat):Int):=by rw[Nat.pow_succ,Y_];rfl
   have O:n+c.toNat%128*128^k<128^ (k+1):=by rw[Nat.pow_succ];omega
   refine ky (qS2 @av @L @M @N) ?_;rw[show((n:Int)+ ((c.toNat%128*128^k:Nat):Int))=((n+c.toNat%128*128^k:Nat):Int) from(Int.natCast_add _ _).symm];by_cases f:128<=c.toNat
   .refine ky @av ?_;refine Vo.mk (KN.mk (k+1) (n+c.toNat%128*128^k)) (by show 6 - (k+1)<6 - k;omega) ⟨by show k+1<=6;omega,fun h=>⟨?_,by show a+ (k+1)<=s.length;omega,O⟩,fun h=>?_⟩ rfl rfl
    .show bR most (s.drop a) 0 0=bR most (s.drop (a+ (k+1))) (k+1) (n+c.toNat%128*128^k);have z:k+1<6:=h;rw[d,bR,Vb f,tr oM]
     rfl
    have z:k+1=6:=h;rw[d,bR,Vb f,Vb z]
   by_cases q:c.toNat=0
   .have r:((c.toNat:Int)==0)=true:=by simp[q]
    refine ky (aN @av @r) ?_;by_cases A:0<k
    .refine ky @av ?_;rw[jA (x:=2) rfl (by rw[d,bR,tr f,Vb ⟨q,A⟩])];refine⟨_,_,_,(ke @av),rfl,trivial,?_⟩;exact⟨rfl,rfl⟩
    have i:¬ (c.toNat=0/\0<k):=fun h=>A h.2;refine ky @av ?_;by_cases m:n+c.toNat%128*128^k<=1099511627775
    .have l:decide ((1099511627775:Int)< ((n+c.toNat%128*128^k:Nat):Int))=false:=aW oM;refine ky (aN @av @l) ?_;by_cases p:((n+c.toNat%128*128^k:Nat):Int)<=most
     .refine ky @av ?_;rw[pg rfl (by rw[d,bR,tr f,tr i,Vb ⟨m,p⟩])];refine⟨_,_,_,(ke @av),rfl,trivial,?_⟩;exact⟨rfl,rfl⟩
     refine ky @av ?_;rw[jA (x:=4) rfl (by rw[d,bR,tr f,tr i,tr (fun h=>p h.2)])];refine⟨_,_,_,(ke @av),rfl,trivial,?_⟩;exact⟨rfl,rfl⟩
    have l:decide ((1099511627775:Int)< ((n+c.toNat%128*128^k:Nat):Int))=true:=aP oM;refine ky (aN @av @l) ?_;rw[jA (x:=4) rfl (by rw[d,bR,tr f,tr i,tr (fun h=>m h.1)])];refine⟨_,_,_,(ke @av),rfl,trivial,?_⟩;exact⟨rfl,rfl⟩
   have r:((c.toNat:Int)==0)=false:=by simp;omega
   have i:¬ (c.toNat=0/\0<k):=fun h=>q h.1;refine ky (aN @av @r) ?_;by_cases m:n+c.toNat%128*128^k<=1099511627775
   .have l:decide ((1099511627775:Int)< ((n+c.toNat%128*128^k:Nat):Int))=false:=aW oM;refine ky (aN @av @l) ?_;by_cases p:((n+c.toNat%128*128^k:Nat):Int)<=most
    .refine ky @av ?_;rw[pg rfl (by rw[d,bR,tr f,tr i,Vb ⟨m,p⟩])];refine⟨_,_,_,(ke @av),rfl,trivial,?_⟩;exact⟨rfl,rfl⟩
    refine ky @av ?_;rw[jA (x:=4) rfl (by rw[d,bR,tr f,tr i,tr (fun h=>p h.2)])];refine⟨_,_,_,(ke @av),rfl,trivial,?_⟩;exact⟨rfl,rfl⟩
   have l:decide ((1099511627775:Int)< ((n+c.toNat%128*128^k:Nat):Int))=true:=aP oM;refine ky (aN @av @l) ?_;rw[jA (x:=4) rfl (by rw[d,bR,tr f,tr i,tr (fun h=>m h.1)])];refine⟨_,_,_,(ke @av),rfl,trivial,?_⟩;exact⟨rfl,rfl⟩
  have P:k=6:=by omega
  refine ky @av ?_;rw[jA (x:=4) rfl (F P)];refine⟨_,_,_,(ke @av),rfl,trivial,?_⟩;exact⟨rfl,rfl⟩
 refine ky @av ?_;unfold aE;refine⟨_,_,_,(ke @av),rfl,trivial,?_⟩;simp[t,bS]
def pY(b:Nat)(s:No)(a:Nat)(e most:Int)(w:hW)(f:a<=s.length)(g:s.length<1099511627776)(l:w.heap[b]? =some (Vz (vs s) (vi a) (vi e))):
  Va prog 96 #[vp b 0,vi most] w (fun v D=> ∃o,D=[(b,o)]/\v=vs (aS s a e most).1/\o=(Vz (vs s) (vi (aS s a e most).2.1) (vi (aS s a e most).2.2))):=by
 refine Va.XV func96 rfl (rs:=[.tmp 4]) results96 ntmps96 l ?_;refine kf ?_;refine ky @av ?_;by_cases m:e=0
 .refine ky @av ?_;have h:=fO (e:=e) (most:=most) f;unfold aS;refine Ow.WA rfl rfl call95 Wg (fun c d=>BS b s a e most c f g (d.has _ _ aX)) ?_;generalize aE s a e most=p at*;obtain⟨n,i,j⟩:=p;simp only at h |-;refine ko @av ?_;refine ky @av ?_;refine Ow.WA rfl rfl call134 Wg (fun c d=>Cz b s i j n c h.2 g (d.has _ _ aX)) ?_;generalize aw s i j n=q at*;obtain⟨t,u,r⟩:=q;simp only;refine ko @av ?_;refine ky @av ?_;by_cases k:r=0
  .refine ky @av ?_;refine⟨_,_,_,(ke @av),rfl,trivial,?_⟩;simp[k,bS]
  refine ky @av ?_;refine⟨_,_,_,(ke @av),rfl,trivial,?_⟩;simp[k,bS]
 refine ky @av ?_;have:aS s a e most=([],a,e):=by unfold aS aE aw;simp[m]
 rw[this];refine⟨_,_,_,(ke @av),rfl,trivial,?_⟩;exact⟨rfl,rfl⟩
def ft(t:No)(g:Nat):No:=t.take g++List.replicate (32 - g) 0
def MG(t:No)(g:Nat)(h:g<=t.length)(a:t.length<=32):(ft t g).length=32:=by unfold ft;rw[VV,W3,List.length_replicate];omega
def I_(t:No)(g:Nat)(h:g<t.length)(c:t.length<=32):(ft t g).set g (t.getD g 0)=ft t (g+1):=by
 unfold ft;have a:(t.take g).length=g:=by rw[W3];omega
 obtain⟨m,b⟩:∃m,32 - g=m+1:=⟨31 - g,by omega⟩;rw[b,List.replicate_succ,List.set_append_right _ _ oM,a,Nat.sub_self,ql0,qd4 h,List.getD_eq_getElem?_getD,List.getElem?_eq_getElem h,show 32 - (g+1)=m by omega,Wb]
 rfl
def KC(t:No)(h:t=[]\/t.length=32):ft t t.length=(if t.length=32 then t else z32):=by
 unfold ft;rcases h with rfl|h
 .rfl
 rw[Vb h,h,Yo oM];simp
def BN(b:Nat)(s:No)(a:Nat)(e:Int)(w:hW)(d:a<=s.length)(k:s.length<1099511627776)(f:w.heap[b]? =some (Vz (vs s) (vi a) (vi e))):
  Va prog 97 #[vp b 0] w (fun v D=> ∃o,D=[(b,o)]/\v=.agg (a8 (X5 s a e).1)/\o=(Vz (vs s) (vi (X5 s a e).2.1) (vi (X5 s a e).2.2))):=by
 have F:=(Array.getElem?_eq_some_iff.1 f).1;have c:=vD (e:=e) d;unfold X5;refine Va.XV func97 rfl (rs:=[.cell 2 38]) results97 ntmps97 f ?_;refine kf ?_;refine ky @av ?_;refine Ow.alloc rfl rfl qc2 fun l m n=>?_;obtain⟨H,-⟩:=m;refine ko @av ?_;refine ky @av ?_;refine Ow.WA rfl rfl call134 Wg (fun p q=>Cz b s a e 32 p d k (q.has _ _ aX)) ?_;generalize aw s a e 32=r at*;obtain⟨t,u,x⟩:=r;simp only at c |-;have i:t.length<=32:=by rcases c with rfl|h<;>simp_all
 refine ko @av ?_;refine ky @av ?_;refine Ow.alloc rfl rfl qc2 fun y z A=>?_;refine ko @av ?_;obtain⟨I,J,-⟩:=z;rw[show a8 (List.replicate 32 0)=a8 (ft t 0) from rfl];refine ky @av ?_;refine Cw.VU (G:=Nat) [8,9,10,11,14,15,16,17,18,12,13,5] (fun g=>[(5,vi g)]) (fun g=>[(b, Vz (vs s) (vi u) (vi x)),(l, Vm z32),(y, Vm (ft t g))]) (fun g=>g<=t.length) (fun g=>t.length - g) 0 rfl rfl ?_ ?_
 .omega
 intro g j B;refine kv ?_;by_cases C:g<t.length
 .have E:=MG t g B i;refine ky @av ?_;refine Vo.mk (g+1) oM oM ?_ rfl;rw[I_ t g C i]
 obtain rfl:g=t.length:=by omega
 rw[KC t c];have E:(if t.length=32 then t else z32).length=32:=by
  split
  .assumption
  simp[z32]
 have K:z32.length=32:=by simp[z32]
 generalize (if t.length=32 then t else z32)=id at*;refine ky @av ?_;refine⟨_,_,_,(ke @av),rfl,⟨n,A,trivial⟩,?_⟩;exact⟨rfl,rfl⟩
end Go.Proofs
end
section
open Go Go.Proofs Go.Sx Go.StP
namespace Go.Proofs
structure WS where
 name:No
 kind:Int
 id:Xl
def bv(r:WS):List hU:=[vs r.name]++([vi r.kind]++(r.id.l.map v8))
def cB:WS:=⟨[],0,XY⟩
def m3(r:WS):(bv r).length=34:=by simp[bv,r.id.h]
def Dz(r:WS):Value.cells (.agg (bv r).toArray)=(bv r).toArray:=ag _
def vn(r:WS):(bv r).all Value.oneCell'=true:=by
 unfold bv;simp only[List.all_append,List.all_cons,List.all_nil,jX,Bool.and_true,XA]
 rfl
def lh:ac prog 239=some (.agg (bv cB).toArray):=id kR
def l7(r:WS):bv r=([]:List hU)++(([vs r.name])++([vi r.kind]++(r.id.l.map v8))):=by unfold bv;simp only[Wb,Vy,VX]
def LD(r:WS)(n:Nat)(E:h7)(fz:Nat×Nat):aF (some (false,n)) (some (.cells (bv r).toArray E fz)) 0=some (vs r.name):=by rw[l7];exact fR _ _ _ n E fz V_
def nN{w:hW}{v:hU}{l:List WS}{b off:Nat}{arr:Array hU}{E:h7}{fz:Nat×Nat}(h:WL 34 bv cB w v l b off arr E fz){k:Nat}(a:k<l.length)(n:Nat):aF (some (false,n)) (some (.cells arr E fz)) (off+k*34+0)=some (vs (l.getD k cB).name):=by rw[WL.cell h a oM];generalize l.getD k cB=r;rw[l7];exact mZ _ _ _ V_
def IX(r:WS)(x:No)(a:Bool)(E:h7):aZ (some (a,1)) (some (.cells (bv r).toArray E (0,0))) 0 (vs x)=some (.cells (bv {r with name:=x}).toArray E (0,0)):=by rw[l7 r,l7 {r with name:=x}];exact cP _ _ _ _ a _ E V_ rfl (rfl) rfl (rfl)
def l9(r:WS):bv r=(([vs r.name]))++(([vi r.kind])++(r.id.l.map v8)):=by unfold bv;simp only[Wb,Vy,VX]
def N7(r:WS)(n:Nat)(E:h7)(fz:Nat×Nat):aF (some (false,n)) (some (.cells (bv r).toArray E fz)) 1=some (vi r.kind):=by rw[l9];exact fR _ _ _ n E fz V_
def wE{w:hW}{v:hU}{l:List WS}{b off:Nat}{arr:Array hU}{E:h7}{fz:Nat×Nat}(h:WL 34 bv cB w v l b off arr E fz){k:Nat}(a:k<l.length)(n:Nat):aF (some (false,n)) (some (.cells arr E fz)) (off+k*34+1)=some (vi (l.getD k cB).kind):=by rw[WL.cell h a oM];generalize l.getD k cB=r;rw[l9];exact mZ _ _ _ V_
def IY(r:WS)(x:Int)(a:Bool)(E:h7):aZ (some (a,1)) (some (.cells (bv r).toArray E (0,0))) 1 (vi x)=some (.cells (bv {r with kind:=x}).toArray E (0,0)):=by rw[l9 r,l9 {r with kind:=x}];exact cP _ _ _ _ a _ E V_ rfl (rfl) rfl (rfl)
def lB(r:WS):bv r=(([vs r.name])++([vi r.kind]))++((r.id.l.map v8)++(([]:List hU))):=by unfold bv;simp only[Wb,Vy,VX]
def Kr(r:WS)(E:h7)(fz:Nat×Nat):aF (some (true,32)) (some (.cells (bv r).toArray E fz)) 2=some (Value.agg (a8 r.id.l)):=by rw[lB,r9 _ _ _ E fz V_ (by simp[r.id.h])];rfl
def RR(r:WS):(bv r).toArray.extract 2 34=a8 r.id.l:=by rw[lB];exact wX (o:=2) (n:=32) _ _ _ V_ (by simp[r.id.h])
def OI{w:hW}{v:hU}{l:List WS}{b off:Nat}{arr:Array hU}{E:h7}{fz:Nat×Nat}(h:WL 34 bv cB w v l b off arr E fz){k:Nat}(a:k<l.length):aF (some (true,32)) (some (.cells arr E fz)) (off+k*34+2)=some (Value.agg (a8 (l.getD k cB).id.l)):=by rw[WL.part h m3 a oM oM,RR]
def I'(r:WS)(x:Xl)(a:Bool)(E:h7):aZ (some (a,32)) (some (.cells (bv r).toArray E (0,0))) 2 (Value.agg (a8 x.l))=some (.cells (bv {r with id:=x}).toArray E (0,0)):=by rw[lB r,lB {r with id:=x}];exact cP _ _ _ _ a _ E V_ (by simp[r.id.h]) (ag _) (by simp[x.h]) (jX _)
def uz(r:WS)(E:h7)(fz:Nat×Nat):aF (some (true,34)) (some (.cells (bv r).toArray E fz)) 0=some (.agg (bv r).toArray):=jN _ E fz 34 (by rw[Wd,m3])
def Jx(Wo:Array hU)(r:WS)(a:Bool)(E:h7)(h:Wo.size=34):aZ (some (a,34)) (some (.cells Wo E (0,0))) 0 (.agg (bv r).toArray)=some (.cells (bv r).toArray E (0,0)):=mc _ a Wo E (m3 r) (vn r) h
def ra(r b:WS)(a:Bool)(E:h7):aZ (some (a,34)) (some (.cells (bv b).toArray E (0,0))) 0 (.agg (bv r).toArray)=some (.cells (bv r).toArray E (0,0)):=Jx _ r a E (by rw[Wd,m3])
def Rt(a b:No):(!(Op.bytesLess a b||a==b))=Ys b a:=by
 cases h:Ys a b
 .have c:Op.bytesLess a b=false:=h;rw[c,XW];by_cases e:a=b
  .subst e;rw[h];simp
  rw[mS h e];simp[e]
 have c:Op.bytesLess a b=true:=h;rw[c,Cc h];rfl
section
variable {α:Type} {a x m y c:List α} {i k:Nat} {z:α}
end
abbrev Q3(l:List WS):Prop:=StP.Sorted WS.name l
abbrev StE(l l':List WS):Prop:=StP.St WS.name l l'
abbrev qF3(w:hW)(v:hU)(l:List WS):Prop:=Xz 34 bv cB w v l
def qi7(l a:List WS):Prop:=a.length=l.length/\Q3 a/\StE l a
theorem qi7.eq{l a b:List WS}(h:qi7 l a)(c:qi7 l b):a=b:=StP.St.eq h.2.1 c.2.1 (h.2.2.symm.trans c.2.2)
end Go.Proofs
end
section
open Go Go.Proofs Go.Sx
namespace Go.Proofs
def qe5(c:Int):Bool:=decide (c<33) ||decide (126<c) || (c==47)
def cv(b:Vf):Bool:=decide (b.toNat<33) ||decide (126<b.toNat) || (b.toNat==47)
def eqb(a b:Bool):ak prog .eql 4 (.bool a) (.bool b)=some (.bool (a==b)):=by simp[ak,Zq,cm,cg,underlying4]
def mv(a:hU):(#[a]:Array hU)[0]? =some a:=(rfl)
def bN:=aN (aN (qS1 @bA @gd @iG) (aN (aN @iF @b9) (aN @P0 @Gd))) (aN (aN (aN @Hc @Gp) (aN @Pf @mv)) (aN (aN @Sx.Yk @Sx.Yl) (aN @Sx.Ym @eqb)))
def PF(l:No)(i:Nat)(h:i<l.length):qe5 ((Utf8.decode ⟨l.toArray⟩ i).1:Nat)=cv (l.getD i 0)/\(cv (l.getD i 0)=false->(Utf8.decode ⟨l.toArray⟩ i).2=1):=by
 obtain⟨e,a,b⟩:=Gj l i h;by_cases c:(l.getD i 0).toNat<128
 .rw[a c];refine⟨?_,fun _=>rfl⟩;unfold qe5 cv;congr 1
  .congr 1
   .apply decide_eq_decide.2;omega
   apply decide_eq_decide.2;omega
  rw[YZ,W8,W8];omega
 have f:=b oM;have d:cv (l.getD i 0)=true:=by unfold cv;rw[aP (show 126< (l.getD i 0).toNat by omega)];simp
 rw[d];refine⟨?_,fun h=>by cases h⟩;unfold qe5;rw[aP (show(126:Int)< (((Utf8.decode ⟨l.toArray⟩ i).1:Nat):Int) by omega)];simp
def FG(s:No)(k:FuncId)(o:∀a w,(callFunc k a).run prog w=.ok (.enter k a) w)(p:∀c w,Va prog k #[Zh c] w (fun v D=>v=.bool (qe5 c)/\D=[]))(w:hW)(F:s.length<1099511627776):
  Va prog 151 #[vs s,.func (.func k) #[] #[],.bool true] w (fun v D=> ∃n:Int,v=vi n/\(0<=n↔s.any cv=true)/\D=[]):=by
 refine Va.mono (S:=fun v D=>(∃n:Int,v=vi n/\(0<=n↔s.any cv=true))/\D=[]) ?_ (by rintro v D ⟨⟨n,q,r⟩,t⟩;exact⟨n,q,r,t⟩);refine Va.Vr func151 rfl (rs:=[.tmp 6]) results151 ntmps151 ?_;refine kf ?_;refine ky @bN ?_;refine Ow.qn0 rfl rfl underlying9 rfl fun u H l=>?_;refine ko @bN ?_;refine ky @bN ?_;refine Cw.VU (G:=Nat) [11,12,13,14,7,8,15,16,17,18,19,20,6] (fun g=>[]) (fun g=>[(u,.stringIter ⟨s.toArray⟩ g)]) (fun g=>g<=s.length/\ ∀i,i<g->cv (s.getD i 0)=false) (fun g=>s.length - g) 0 rfl rfl ?_ ?_
 .exact⟨by omega,fun i d=>by omega⟩
 intro g j y;refine kv ?_;obtain⟨I,m⟩:=y;by_cases b:g<s.length
 .have e:=PF s g b;refine ky @bN ?_;refine Ow.qp7 rfl rfl rfl (eJ _ _ _) b ?_;rw[iN];generalize J:Utf8.decode ⟨s.toArray⟩ g=z at*;obtain⟨c,n⟩:=z;simp only at e |-;refine ko @bN ?_;refine ky @bN ?_;refine Ow.qk2 (v:=.bool (qe5 c)) (k:=k) rfl rfl rfl o (fun A K=>p _ A) ?_;rw[e.1];refine ko @bN ?_;cases f:cv (s.getD g 0)
  .refine ky @bN ?_;refine Vo.mk (g+1) oM ⟨by omega,fun i d=>?_⟩ ?_ rfl
   .by_cases B:i=g
    .rw[B];exact f
    exact m i oM
   rw[e.2 f]
  refine ky @bN ?_;refine⟨_,(ke @bN),⟨l,trivial⟩,?_⟩;refine⟨(g:Int),rfl,⟨fun _=>?_,fun _=>by omega⟩⟩;rw[List.any_eq_true];refine⟨s.getD g 0,?_,f⟩;rw[List.getD_eq_getElem?_getD,List.getElem?_eq_getElem b];exact Y3 b
 obtain rfl:g=s.length:=by omega
 refine ky @bN ?_;refine Ow.qp6 rfl rfl rfl (eJ _ _ _) b ?_;refine ko @bN ?_;refine ky @bN ?_;refine⟨_,(ke @bN),⟨l,trivial⟩,?_⟩;refine⟨-1,rfl,⟨fun h=>by omega,fun h=>?_⟩⟩;rw[List.any_eq_true] at h;obtain⟨x,C,E⟩:=h;obtain⟨i,d,rfl⟩:=List.getElem_of_mem C;have:=m i d;rw[List.getD_eq_getElem?_getD,List.getElem?_eq_getElem d] at this;exact Vx E (by simpa using this)
def Ei(s:No)(k:FuncId)(b:∀a w,(callFunc k a).run prog w=.ok (.enter k a) w)(d:∀c w,Va prog k #[Zh c] w (fun v D=>v=.bool (qe5 c)/\D=[]))(w:hW)(e:s.length<1099511627776):
  Va prog 118 #[vs s,.func (.func k) #[] #[]] w (fun v D=> ∃n:Int,v=vi n/\(0<=n↔s.any cv=true)/\D=[]):=by
 refine Va.mono (S:=fun v D=>(∃n:Int,v=vi n/\(0<=n↔s.any cv=true))/\D=[]) ?_ (by rintro v D ⟨⟨n,f,g⟩,h⟩;exact⟨n,f,g,h⟩);refine Va.Vr func118 rfl (rs:=[.tmp 4]) results118 ntmps118 ?_;refine kf ?_;refine ky @bN ?_;refine Ow.qb2 rfl rfl call151 (S:=fun _ v D=> ∃n:Int,v=vi n/\(0<=n↔s.any cv=true)/\D=[]) (fun i l=>FG s k b d i e) ?_;rintro B v D - - ⟨n,rfl,j,rfl⟩;refine⟨_,Mrg.nil,?_⟩;refine ko @bN ?_;refine ky @bN ?_;refine⟨_,(ke @bN),trivial,?_⟩;exact⟨n,rfl,j⟩
def V0(s:No)(k:FuncId)(b:∀a w,(callFunc k a).run prog w=.ok (.enter k a) w)(d:∀c w,Va prog k #[Zh c] w (fun v D=>v=.bool (qe5 c)/\D=[]))(w:hW)(e:s.length<1099511627776):
  Va prog 68 #[vs s,.func (.func k) #[] #[]] w (fun v D=>v=.bool (s.any cv)/\D=[]):=by
 refine Va.Vr func68 rfl (rs:=[.tmp 4]) results68 ntmps68 ?_;refine kf ?_;refine ky @bN ?_;refine Ow.qb2 rfl rfl call118 (S:=fun _ v D=> ∃n:Int,v=vi n/\(0<=n↔s.any cv=true)/\D=[]) (fun f h=>Ei s k b d f e) ?_;rintro B v D - - ⟨n,rfl,g,rfl⟩;refine⟨_,Mrg.nil,?_⟩;refine ko @bN ?_;refine ky @bN ?_;refine⟨_,(ke @bN),trivial,?_⟩;exact Wc Value.bool (by rw[YZ,XN];exact g)
def aY:=aN (aN @bA @gd) (qS1 @iG @iF @b9)
def bG(s:No):Bool:= !(s==[])&&decide (s.length<=32)&& !(s.any cv)
def o8(c:Vf):cv c=(decide (c<33) ||decide (126<c) || (c==47)):=by unfold cv;congr 1;rw[YZ,W8,W8,<-UInt8.toNat_inj];rfl
def GL(s:No)(w:hW)(A:s.length<1099511627776):
  Va prog 170 #[vs s] w (fun v D=>v=.bool (bG s)/\D=[]):=by
 refine Va.Vr func170 rfl (rs:=[.tmp 2]) results170 ntmps170 ?_;refine kf ?_;refine ky @aY ?_;refine Cw.VU (G:=Nat) [4,5,6,7,10,11,12,13,14,15,16,17,18,19,20,21,22,23,24,25,2,8,9,3] (fun g=>[(3,vi g)]) (fun g=>[]) (fun g=>g<=s.length/\ ∀i,i<g->cv (s.getD i 0)=false) (fun g=>s.length - g) 0 rfl rfl ?_ ?_
 .exact⟨by omega,fun i d=>by omega⟩
 intro g j p;refine kv ?_;obtain⟨B,n⟩:=p;by_cases o:g<s.length
 .have e:=o8 (s.getD g 0);have l:cv (s.getD g 0)=true->bG s=false:=by
   intro h;have:s.any cv=true:=List.any_eq_true.2 ⟨s.getD g 0,by rw[List.getD_eq_getElem?_getD,List.getElem?_eq_getElem o];exact Y3 o,h⟩;unfold bG;rw[this];simp
  have q:cv (s.getD g 0)=false-> ∀i,i<g+1->cv (s.getD i 0)=false:=fun h i d=>by
   by_cases t:i=g
   .rw[t];exact h
   exact n i oM
  generalize f:s.getD g 0=c at*;cases a:decide (c<33)
  .cases b:decide (126<c)
   .cases k:(c==47)
    .refine ky (qS3 @aY @f @a @b @k) ?_;refine Vo.mk (g+1) oM ⟨by omega,q (by rw[e,a,b,k];rfl)⟩ rfl rfl
    refine ky (qS3 @aY @f @a @b @k) ?_;rw[l (by rw[e,a,b,k];rfl)];refine⟨_,(ke @aY),trivial,?_⟩
    rfl
   refine ky (qS2 @aY @f @a @b) ?_;rw[l (by rw[e,a,b];rfl)];refine⟨_,(ke @aY),trivial,?_⟩
   rfl
  refine ky (qS1 @aY @f @a) ?_;rw[l (by rw[e,a];simp)];refine⟨_,(ke @aY),trivial,?_⟩
  rfl
 obtain rfl:g=s.length:=by omega
 have u:s.any cv=false:=by rw[List.any_eq_false];intro x y;obtain⟨i,d,rfl⟩:=List.getElem_of_mem y;have:=n i d;rw[List.getD_eq_getElem?_getD,List.getElem?_eq_getElem d] at this;simpa using this
 unfold bG;rw[u];cases a:decide (1<= (s.length:Int))
 .have m:(s==[])=true:=by
   have:=Z8 a;rw[Zm (show s.length=0 by omega)];rfl
  refine ky (aN @aY @a) ?_;refine⟨_,(ke @aY),trivial,?_⟩;simp only[bS,m,YT,Xv]
 have m:(s==[])=false:=by
  have:=Zu a;cases s with
  |nil=>simp at this
  |cons x r=>rfl
 have z:decide ((s.length:Int)<=32)=decide (s.length<=32):=decide_eq_decide.2 oM;refine ky (aN @aY @a) ?_;refine⟨_,(ke @aY),trivial,?_⟩;simp only[bS,m,z,W6,XA,Bool.and_true]
end Go.Proofs
end
section
open Go Go.Proofs Go.Sx Go.StP
namespace Go.Proofs
def g7(l:List WS)(i:Nat):Bool:=
 bG (l.getD i cB).name&& ((l.getD i cB).kind==1|| (l.getD i cB).kind==2)&& (i==0||Ys (l.getD (i - 1) cB).name (l.getD i cB).name)
def jJ(l:List WS):Bool:=decide (l.length<=32)&& (List.range l.length).all (g7 l)
def Ba{l:List WS}{k:Nat}(a:k<l.length)(h:g7 l k=false):jJ l=false:=by
 unfold jJ;have:(List.range l.length).all (g7 l)=false:=by rw[List.all_eq_false];exact⟨k,List.mem_range.2 a,by simp[h]⟩
 rw[this,Bool.and_false]
def KI{l:List WS}(h:∀i,i<l.length->g7 l i=true):jJ l=decide (l.length<=32):=by unfold jJ;have:(List.range l.length).all (g7 l)=true:=XX.2 fun i a=>h i (List.mem_range.1 a);rw[this,Bool.and_true]
def lR(l:List WS):Prop:= ∀i,i<l.length->(l.getD i cB).name.length<1099511627776
def ea:=aN (aN (aN @LD @N7) (aN @Kr @uz)) (aN (aN @ra @Dz) (aN @bA @b9))
def w_(a b:No):(Op.bytesLess a b||a==b)= !Ys b a:=by rw[<-Rt,Bool.not_not]
def Eh(v:hU)(l:List WS)(w:hW)(A:qF3 w v l)(O:l.length<1000000)(K:lR l):
  Va prog 145 #[v] w (fun L D=>L=.bool (jJ l)/\D=[]):=by
 obtain⟨b,off,arr,E,fz,c⟩:=A.row;have r:=A.len;refine Va.Vr func145 rfl (rs:=[.tmp 2]) results145 ntmps145 ?_;refine kf ?_;by_cases P:32<l.length
 .refine ky (aN @ea @r) ?_;have:jJ l=false:=by unfold jJ;rw[aW oM,Xv]
  rw[this];refine⟨_,(ke @ea),trivial,?_⟩
  rfl
 refine ky (aN @ea @r) ?_;refine Cw.VU (G:=Nat) [7,8,9,10,13,14,15,16,17,18,19,20,21,22,23,24,25,26,27,28,29,30,31,32,33,34,35,2,36,37,38,39,40,41,42,43,44,45,46,47,48,49,50,51,11,12,3] (fun g=>[(3,vi g)]) (fun g=>[]) (fun g=>g<=l.length/\ ∀i,i<g->g7 l i=true) (fun g=>l.length - g) 0 rfl rfl ?_ ?_
 .exact⟨aR _,fun i m=>Vx m (Yy i)⟩
 intro k Q a;refine kv ?_;obtain⟨R,y⟩:=a;by_cases a:k<l.length
 .have B:0<l.length:=by omega
  have S:=c.lt B;have d:=c.has B;have e:=c.idx true k a;have f:∀n,aF (some (false,n)) (some (.cells arr E fz)) (off+k*34)=some (vs (l.getD k cB).name):=fun n=>nN c a n;have s:∀n,aF (some (false,n)) (some (.cells arr E fz)) (off+k*34+1)=some (vi (l.getD k cB).kind):=fun n=>wE c a n;have M:=K k a;refine ky (qS4 @ea @r @d @e @f @s) ?_;refine Ow.Vc rfl call170 (fun N T=>GL (l.getD k cB).name N M) ?_;cases j:bG (l.getD k cB).name
  .have o:g7 l k=false:=by unfold g7;rw[j];rfl
   rw[Ba a o];refine ko @ea ?_;refine⟨_,(ke @ea),trivial,?_⟩
   rfl
  cases p:decide ((l.getD k cB).kind<1)
  .cases t:decide (2< (l.getD k cB).kind)
   .have z:((l.getD k cB).kind==1|| (l.getD k cB).kind==2)=true:=by
     have U:=Z8 p;have C:=Z8 t;rcases(show(l.getD k cB).kind=1\/(l.getD k cB).kind=2 by omega) with h|h<;>rw[h]<;>rfl
    refine ko (qS5 @ea @d @e @f @s @p @t) ?_;by_cases F:k=0
    .have u:decide ((0:Int)< (k:Int))=false:=aW oM;have q:g7 l k=true:=by unfold g7;rw[j,z,F];rfl
     refine Cw.Vu [b] [0,1,2,3,4,5,6,8,9,10,11,12,7,13,14,15] [] kR kR kR ?_;refine WQ ?_;refine kq (aN @ea @u) ?_;exact Vo.mk (k+1) oM ⟨by omega,fun i m=>by
      rcases Nat.lt_succ_iff_lt_or_eq.1 m with h|rfl
      .exact y i h
      exact q⟩ rfl rfl
    have u:decide ((0:Int)< (k:Int))=true:=aP oM;have H:ez (.sl (true,34)) v (some ((k:Int) - 1))=some (vp b (off+ (k - 1)*34)):=by rw[show(k:Int) - 1=((k - 1:Nat):Int) by omega];exact c.idx true (k - 1) oM
    have I:∀n,aF (some (false,n)) (some (.cells arr E fz)) (off+ (k - 1)*34)=some (vs (l.getD (k - 1) cB).name):=fun n=>nN c (show k - 1<l.length by omega) n;have J:(k==0)=false:=WN.2 F;cases x:Ys (l.getD (k - 1) cB).name (l.getD k cB).name
    .have q:g7 l k=false:=by unfold g7;rw[j,z,J];exact x
     rw[Ba a q];refine Cw.Vu [b] [0,1,2,3,4,5,6,8,9,10,11,12,7,13,14,15] [] kR kR kR ?_;refine WQ ?_;refine kq (aN @ea (qS6 @u @e @H @d @f @I @w_ @x)) ?_;refine⟨_,(ke @ea),trivial,?_⟩
     rfl
    have q:g7 l k=true:=by unfold g7;rw[j,z,J];exact x
    refine Cw.Vu [b] [0,1,2,3,4,5,6,8,9,10,11,12,7,13,14,15] [] kR kR kR ?_;refine WQ ?_;refine kq (aN @ea (qS6 @u @e @H @d @f @I @w_ @x)) ?_;exact Vo.mk (k+1) oM ⟨by omega,fun i m=>by
     rcases Nat.lt_succ_iff_lt_or_eq.1 m with h|rfl
     .exact y i h
     exact q⟩ rfl rfl
   have o:g7 l k=false:=by have C:=Zu t;unfold g7;rw[j,show((l.getD k cB).kind==1)=false from WN.2 oM,show((l.getD k cB).kind==2)=false from WN.2 oM];rfl
   rw[Ba a o];refine ko (qS5 @ea @d @e @f @s @p @t) ?_;refine⟨_,(ke @ea),trivial,?_⟩
   rfl
  have o:g7 l k=false:=by have C:=Zu p;unfold g7;rw[j,show((l.getD k cB).kind==1)=false from WN.2 oM,show((l.getD k cB).kind==2)=false from WN.2 oM];rfl
  rw[Ba a o];refine ko (qS4 @ea @d @e @f @s @p) ?_;refine⟨_,(ke @ea),trivial,?_⟩
  rfl
 obtain rfl:k=l.length:=by omega
 rw[KI y,show decide (l.length<=32)=true from aP oM];refine ky (aN @ea @r) ?_;refine⟨_,(ke @ea),trivial,?_⟩
 rfl
def sr(x:Xl):(Ze x).all Value.oneCell'=true:=jX _
abbrev IdS(w:hW)(v:hU)(l:List Xl):Prop:=Xz 32 Ze XY w v l
def oe{w:hW}{v:hU}{l:List Xl}{b off:Nat}{arr:Array hU}{E:h7}{fz:Nat×Nat}(h:WL 32 Ze XY w v l b off arr E fz){k:Nat}(a:k<l.length):
  aF (some (true,32)) (some (.cells arr E fz)) (off+k*32)=some (.agg (a8 (l.getD k XY).l)):=WL.load h pw oM a
def As(a b:Xl):ak prog .eql 38 (.agg (a8 a.l)) (.agg (a8 b.l))=some (.bool (a.l==b.l)):=
 wP underlying38 underlying5 ag5 kR a.l b.l ⟨a.h,b.h⟩
def T1(a b:Xl):ak prog .neq 38 (.agg (a8 a.l)) (.agg (a8 b.l))=some (.bool (!(a.l==b.l))):=
 ub underlying38 underlying5 ag5 kR a.l b.l ⟨a.h,b.h⟩
instance:DecidableEq Xl:=fun a b=>if h:a.l=b.l then .isTrue (by cases a;cases b;simp only at h;subst h;rfl) else .isFalse (fun e=>h (by rw[e]))
def Xl.ext'{a b:Xl}(h:a.l=b.l):a=b:=by cases a;cases b;simp only at h;subst h;rfl
def CC(x:Xl)(E:h7)(fz:Nat×Nat):aF (some (true,32)) (some (.cells (a8 x.l) E fz)) 0=some (.agg (a8 x.l)):=qp _ E fz 32 x.h
structure RwL where
 id:Xl
 place:Int
 spot:Int
abbrev I2(l:List RwL):Prop:=StP.Sorted (fun r:RwL=>r.id.l) l
abbrev R4(l l':List RwL):Prop:=StP.St (fun r:RwL=>r.id.l) l l'
def qa6(l a:List RwL):Prop:=a.length=l.length/\I2 a/\R4 l a
theorem qa6.eq{l a b:List RwL}(h:qa6 l a)(c:qa6 l b):a=b:=StP.St.eq h.2.1 c.2.1 (h.2.2.symm.trans c.2.2)
structure qf6 where
 tree:Xl
 par:List Xl
 text:No
def bI(t:Xl)(p:hU)(x:No):List hU:=t.l.map v8++([p]++[vs x])
def rF(t:Xl)(p:hU)(x:No):(bI t p x).length=34:=by simp[bI,t.h]
def PP(t:Xl)(p:hU)(x:No)(a:Value.oneCell' p=true):(bI t p x).all Value.oneCell'=true:=by
 unfold bI;simp only[List.all_append,List.all_cons,List.all_nil,jX,a,Bool.and_true,XA]
 rfl
def ED(t:Xl)(p:hU)(x:No):Value.cells (.agg (bI t p x).toArray)=(bI t p x).toArray:=ag _
def u6(t:Xl)(p:hU)(x:No)(E:h7)(fz:Nat×Nat):aF (some (true,32)) (some (.cells (bI t p x).toArray E fz)) 0=some (.agg (a8 t.l)):=by unfold bI;exact r9 [] _ _ E fz rfl (by simp[t.h])
def uC(t:Xl)(p:hU)(x:No)(n:Nat)(E:h7)(fz:Nat×Nat):aF (some (false,n)) (some (.cells (bI t p x).toArray E fz)) 32=some p:=by unfold bI;exact fR _ _ p n E fz (by simp[t.h])
def tz(t:Xl)(p:hU)(x:No)(n:Nat)(E:h7)(fz:Nat×Nat):aF (some (false,n)) (some (.cells (bI t p x).toArray E fz)) 33=some (vs x):=by
 have e:bI t p x=(t.l.map v8++[p])++([vs x]++[]):=by unfold bI;simp only[Wb,VX]
 rw[e];exact fR _ _ (vs x) n E fz (by simp[t.h])
def ug(t:Xl)(p:hU)(x:No)(E:h7)(fz:Nat×Nat):aF (some (true,34)) (some (.cells (bI t p x).toArray E fz)) 0=some (.agg (bI t p x).toArray):=jN _ E fz 34 (by rw[Wd,rF])
def nE(Wo:Array hU)(t:Xl)(p:hU)(x:No)(a:Bool)(E:h7)(h:Wo.size=34)(b:Value.oneCell' p=true):aZ (some (a,34)) (some (.cells Wo E (0,0))) 0 (.agg (bI t p x).toArray)=some (.cells (bI t p x).toArray E (0,0)):=mc _ a Wo E (rF t p x) (PP t p x b) h
def fM(l:List Xl)(i:Nat):Bool:= !((l.take i).any fun y=>(l.getD i XY).l==y.l)
def iK(c:qf6):Bool:=(decide (c.par.length<=4)&&decide (c.text.length<=64))&& (List.range c.par.length).all (fM c.par)
def Ob{c:qf6}{k:Nat}(a:k<c.par.length)(h:fM c.par k=false):iK c=false:=by
 unfold iK;have:(List.range c.par.length).all (fM c.par)=false:=by rw[List.all_eq_false];exact⟨k,List.mem_range.2 a,by simp[h]⟩
 rw[this,Bool.and_false]
def NB{c:qf6}(h:∀i,i<c.par.length->fM c.par i=true):iK c=(decide (c.par.length<=4)&&decide (c.text.length<=64)):=by unfold iK;have:(List.range c.par.length).all (fM c.par)=true:=XX.2 fun i a=>h i (List.mem_range.1 a);rw[this,Bool.and_true]
abbrev qz9(w:hW)(v:hU)(c:qf6):Prop:= ∃p,v=.agg (bI c.tree p c.text).toArray/\IdS w p c.par
def Xz.one{α:Type}{m:Nat}{enc:α->List hU}{z:α}{w:hW}{v:hU}{l:List α}(h:Xz m enc z w v l):Value.oneCell' v=true/\v.cells=#[v]:=by obtain⟨b,off,c,arr,E,fz,-,-,⟨rfl,-,-⟩ | ⟨rfl,-,-⟩⟩:=h<;>exact⟨rfl,rfl⟩
def eM:=aN (aN (aN @As @T1) (qS1 @CC @bA @b9)) (aN (aN @u6 @uC) (qS1 @tz @ug @ED))
def Od{l:List Xl}{k:Nat}{x:Xl}(a:k<l.length)(h:((l.take k).any fun y=>x.l==y.l)=false)(b:(x.l==(l.getD k XY).l)=false):((l.take (k+1)).any fun y=>x.l==y.l)=false:=by rw[WJ (z:=XY) a,List.any_append,h,XW,List.any_cons,b];rfl
def Qg{l:List Xl}{k i:Nat}{x:Xl}(c:k<l.length)(a:k<i)(b:(x.l==(l.getD k XY).l)=true):((l.take i).any fun y=>x.l==y.l)=true:=by rw[List.any_eq_true];refine⟨l.getD k XY,?_,b⟩;rw[<-LV (l:=l) (z:=XY) a];exact W9 (by rw[W3];omega)
def V8(v:hU)(c:qf6)(w:hW)(x:qz9 w v c)(I:c.par.length<1000000)(J:c.text.length<1099511627776):
  Va prog 147 #[v] w (fun z D=>z=.bool (iK c)/\D=[]):=by
 obtain⟨p,rfl,r⟩:=x;obtain⟨b,off,arr,E,fz,d⟩:=r.row;have e:=r.len;refine Va.Vr func147 rfl (rs:=[.tmp 2]) results147 ntmps147 ?_;refine kf ?_;refine ky @eM ?_;refine Ow.box rfl rfl fun f K j=>?_;refine Yx ?_;refine Ow.go rfl ?_;simp(disch:=first|exact dD|fail) only[↓Sx.S0,Sx.S1,fx,eM,Nat.reduceAdd,Nat.reducePow,Int.reducePow,Nat.reduceBEq,↓reduceIte,UInt8.reduceToNat,UInt16.reduceToNat,UInt32.reduceToNat,UInt64.reduceToNat,Int.reduceToNat];by_cases L:4<c.par.length
 .have l:decide (4< ((c.par.length:Nat):Int))=true:=aP oM;refine ky (qS1 @eM @e @l) ?_;have:iK c=false:=by unfold iK;rw[show decide (c.par.length<=4)=false from aW oM];rfl
  rw[this];refine⟨_,(ke @eM),⟨j,trivial⟩,?_⟩
  rfl
 have l:decide (4< ((c.par.length:Nat):Int))=false:=aW oM;by_cases M:64<c.text.length
 .have n:decide (64< ((c.text.length:Nat):Int))=true:=aP oM;refine ky (qS2 @eM @e @l @n) ?_;have:iK c=false:=by unfold iK;rw[show decide (c.text.length<=64)=false from aW oM,Bool.and_false];rfl
  rw[this];refine⟨_,(ke @eM),⟨j,trivial⟩,?_⟩
  rfl
 have n:decide (64< ((c.text.length:Nat):Int))=false:=aW oM;refine ky (qS2 @eM @e @l @n) ?_;refine Cw.VU (G:=Nat) [15,16,17,18,19,4,22,23,24,27,28,29,30,31,32,33,34,35,36,37,2,25,26,20,21,3] (fun g=>[(3,vi g)]) (fun g=>[(f,.cells (bI c.tree p c.text).toArray 202 (0,0))]) (fun g=>g<=c.par.length/\ ∀i,i<g->fM c.par i=true) (fun g=>c.par.length - g) 0 rfl rfl ?_ ?_
 .exact⟨aR _,fun i a=>Vx a (Yy i)⟩
 intro i N a;refine kv ?_;obtain⟨O,s⟩:=a;by_cases a:i<c.par.length
 .have t:0<c.par.length:=by omega
  have P:=d.lt t;have Q:f≠b:=by omega
  have A:=d.has t;have B:=d.idx true i a;have C:=oe d a;refine ky (aN @eM @e) ?_;refine Cw.VU (G:=Nat) [22,23,24,27,28,29,30,31,32,33,34,35,36,37,2,25,26,4] (fun g=>[(4,vi g)]) (fun g=>[(f,.cells (bI c.tree p c.text).toArray 202 (0,0))]) (fun g=>g<=i/\((c.par.take g).any fun y=>(c.par.getD i XY).l==y.l)=false) (fun g=>i - g) 0 rfl rfl ?_ ?_
  .exact⟨aR _,rfl⟩
  intro k R o;refine kv ?_;obtain⟨S,u⟩:=o;by_cases o:k<i
  .have F:=d.idx true k (show k<c.par.length by omega);have H:=oe d (show k<c.par.length by omega);refine ky @eM ?_;refine Cw.Vu [f,b] [0,2,5,7,1,3,4,6,8,9,10] [] kR kR kR ?_;refine WQ ?_;refine kq (qS4 @eM @B @A @C @F @H) ?_;cases m:((c.par.getD i XY).l==(c.par.getD k XY).l)
   .refine ky (aN @eM @m) ?_;exact Vo.mk (k+1) oM ⟨by omega,Od oM u m⟩ rfl rfl
   have q:fM c.par i=false:=by unfold fM;rw[Qg oM o m];rfl
   rw[Ob a q];refine ky (aN @eM @m) ?_;refine⟨_,(ke @eM),⟨j,trivial⟩,?_⟩
   rfl
  obtain rfl:k=i:=by omega
  have q:fM c.par k=true:=by unfold fM;rw[u];rfl
  refine ky @eM ?_;exact Vo.mk (k+1) oM ⟨by omega,fun i a=>by
   rcases Nat.lt_succ_iff_lt_or_eq.1 a with h|rfl
   .exact s i h
   exact q⟩ rfl rfl
 obtain rfl:i=c.par.length:=by omega
 rw[NB s,show decide (c.par.length<=4)=true from aP oM,show decide (c.text.length<=64)=true from aP oM];refine ky (aN @eM @e) ?_;refine⟨_,(ke @eM),⟨j,trivial⟩,?_⟩
 rfl
end Go.Proofs
end
section
open Go Go.Proofs Go.Sx
namespace Go.Proofs
def rM{n:Nat}(h:n<1099511627776):cb (n:Int)=n:=by unfold cb qb6;omega
def Ct:∀ (k:Nat) (n:Int) (w:hW),cb n<=k->
  Va prog 88 #[vi n] w (fun v D=>v=vs (co (cb n))/\D=[]):=by
 intro k
 induction k using Nat.strongRecOn with
 |ind k u=>
  intro n w i;refine Va.Vr func88 rfl (rs:=[.tmp 2]) results88 ntmps88 ?_;refine kf ?_;by_cases x:n<0
  .have h:decide (n<0)=true:=aP x;have e:cb n=0:=by unfold cb qb6;omega
   rw[e];refine ky @h ?_;refine Ow.buildSlice (e:=5) #[v8 0] rfl rfl kR fun o p a=>?_;rw[show(#[v8 0]:Array hU)=a8 [0] from rfl];refine ko @Nat.add_zero ?_;refine ky @Nat.add_zero ?_;refine⟨_,(ke @Nat.add_zero),⟨a,trivial⟩,?_⟩;rw[qN oM];rfl
  have h:decide (n<0)=false:=aW x;generalize s:cb n=m at i |-;have A:m<=1099511627775:=by unfold cb qb6 at s;omega
  by_cases y:n>1099511627775
  .have t:decide (1099511627775<n)=true:=aP y;have e:(1099511627775:Int)=(m:Int):=by unfold cb qb6 at s;omega
   refine kz [5] (aN @h @t) ?_;rw[e];by_cases q:m<128
   .have j:decide ((m:Int)<128)=true:=aP oM;rw[qN q];refine ky (aN @h @j) ?_;generalize l:UInt8.ofInt (m:Int)=c;have d:c=UInt8.ofNat m:=by rw[<-l,p_]
    refine Ow.buildSlice (e:=5) #[v8 c] rfl rfl kR fun o p a=>?_;rw[show(#[v8 c]:Array hU)=a8 [c] from rfl];have b:List.take 1 (List.drop 0 [c])=[c]:=rfl;refine ko @b ?_;refine ky @Nat.add_zero ?_;refine⟨_,(ke @Nat.add_zero),⟨a,trivial⟩,?_⟩;rw[d];rfl
   have j:decide ((m:Int)<128)=false:=aW oM;have g:=fun w=>u (m / 128) oM ((m / 128:Nat):Int) w (by rw[rM oM];omega);rw[rM oM] at g;have z:=Co 6 (m / 128) oM oM;rw[rC q];refine ky (aN @h @j) ?_;refine Cw.qk7 11 kR kR ?_;refine ZU.run [0,1,2,3,6,7] [true,true,true,true,false,false,true,true,false,false,false] 5 rfl kR kR fun k i=>?_;refine WQ ?_;simp(disch:=first|exact dD|fail) only[↓Sx.S0,Sx.S1,fx,Nat.reduceAdd,Nat.reducePow,Int.reducePow,Nat.reduceBEq,↓reduceIte,UInt8.reduceToNat,UInt16.reduceToNat,UInt32.reduceToNat,UInt64.reduceToNat,Int.reduceToNat]
   (with_reducible refine i _ _ _ ?_);clear i k
   generalize l:UInt8.ofInt ((m:Int)%128+128)=c;have d:c=UInt8.ofNat (m%128+128):=by rw[<-l,show((m:Int)%128+128)=((m%128+128:Nat):Int) from rfl,p_]
   rw[show(m:Int) / 128=((m / 128:Nat):Int) from rfl];refine ZU.two 4 8 _ _ kR rfl rfl ?_ ?_
   .refine Ow.buildSlice (e:=5) #[v8 c] rfl rfl kR fun o p a=>?_;rw[show(#[v8 c]:Array hU)=a8 [c] from rfl];have b:List.take 1 (List.drop 0 [c])=[c]:=rfl;refine ko @b ?_
    try with_reducible refine Ow.nil ?_
    refine ZU.two 5 8 _ _ kR rfl rfl ?_ ?_
    .refine ko @b ?_;refine ZU.rest [8,9,10] [4,8] rfl kR kR ?_;refine WQ ?_;refine Ow.Vc rfl call88 (fun f r=>g f) ?_;refine ko @Nat.add_zero ?_;refine ky @Nat.add_zero ?_;refine⟨_,(ke @Nat.add_zero),⟨a,trivial⟩,?_⟩;rw[d];rfl
    refine Ow.Vc rfl call88 (fun f r=>g f) ?_;refine ko @Nat.add_zero ?_;refine ZU.rest [5,9,10] [4,8] rfl kR kR ?_;refine WQ ?_;refine ko @b ?_;refine ky @Nat.add_zero ?_;refine⟨_,(ke @Nat.add_zero),⟨a,trivial⟩,?_⟩;rw[d];rfl
   refine Ow.Vc rfl call88 (fun f r=>g f) ?_;refine ko @Nat.add_zero ?_;refine ZU.rest [4,5,9,10] [4,8] rfl kR kR ?_;refine WQ ?_;refine Ow.buildSlice (e:=5) #[v8 c] rfl rfl kR fun o p a=>?_;rw[show(#[v8 c]:Array hU)=a8 [c] from rfl];have b:List.take 1 (List.drop 0 [c])=[c]:=rfl;refine ko @b ?_;refine ky @Nat.add_zero ?_;refine⟨_,(ke @Nat.add_zero),⟨a,trivial⟩,?_⟩;rw[d];rfl
  have t:decide (1099511627775<n)=false:=aW y;have e:n=(m:Int):=by unfold cb qb6 at s;omega
  subst e;refine kz [5] (aN @h @t) ?_;by_cases q:m<128
  .have j:decide ((m:Int)<128)=true:=aP oM;rw[qN q];refine ky (aN @h @j) ?_;generalize l:UInt8.ofInt (m:Int)=c;have d:c=UInt8.ofNat m:=by rw[<-l,p_]
   refine Ow.buildSlice (e:=5) #[v8 c] rfl rfl kR fun o p a=>?_;rw[show(#[v8 c]:Array hU)=a8 [c] from rfl];have b:List.take 1 (List.drop 0 [c])=[c]:=rfl;refine ko @b ?_;refine ky @Nat.add_zero ?_;refine⟨_,(ke @Nat.add_zero),⟨a,trivial⟩,?_⟩;rw[d];rfl
  have j:decide ((m:Int)<128)=false:=aW oM;have g:=fun w=>u (m / 128) oM ((m / 128:Nat):Int) w (by rw[rM oM];omega);rw[rM oM] at g;have z:=Co 6 (m / 128) oM oM;rw[rC q];refine ky (aN @h @j) ?_;refine Cw.qk7 11 kR kR ?_;refine ZU.run [0,1,2,3,6,7] [true,true,true,true,false,false,true,true,false,false,false] 5 rfl kR kR fun k i=>?_;refine WQ ?_;simp(disch:=first|exact dD|fail) only[↓Sx.S0,Sx.S1,fx,Nat.reduceAdd,Nat.reducePow,Int.reducePow,Nat.reduceBEq,↓reduceIte,UInt8.reduceToNat,UInt16.reduceToNat,UInt32.reduceToNat,UInt64.reduceToNat,Int.reduceToNat]
  (with_reducible refine i _ _ _ ?_);clear i k
  generalize l:UInt8.ofInt ((m:Int)%128+128)=c;have d:c=UInt8.ofNat (m%128+128):=by rw[<-l,show((m:Int)%128+128)=((m%128+128:Nat):Int) from rfl,p_]
  rw[show(m:Int) / 128=((m / 128:Nat):Int) from rfl];refine ZU.two 4 8 _ _ kR rfl rfl ?_ ?_
  .refine Ow.buildSlice (e:=5) #[v8 c] rfl rfl kR fun o p a=>?_;rw[show(#[v8 c]:Array hU)=a8 [c] from rfl];have b:List.take 1 (List.drop 0 [c])=[c]:=rfl;refine ko @b ?_
   try with_reducible refine Ow.nil ?_
   refine ZU.two 5 8 _ _ kR rfl rfl ?_ ?_
   .refine ko @b ?_;refine ZU.rest [8,9,10] [4,8] rfl kR kR ?_;refine WQ ?_;refine Ow.Vc rfl call88 (fun f r=>g f) ?_;refine ko @Nat.add_zero ?_;refine ky @Nat.add_zero ?_;refine⟨_,(ke @Nat.add_zero),⟨a,trivial⟩,?_⟩;rw[d];rfl
   refine Ow.Vc rfl call88 (fun f r=>g f) ?_;refine ko @Nat.add_zero ?_;refine ZU.rest [5,9,10] [4,8] rfl kR kR ?_;refine WQ ?_;refine ko @b ?_;refine ky @Nat.add_zero ?_;refine⟨_,(ke @Nat.add_zero),⟨a,trivial⟩,?_⟩;rw[d];rfl
  refine Ow.Vc rfl call88 (fun f r=>g f) ?_;refine ko @Nat.add_zero ?_;refine ZU.rest [4,5,9,10] [4,8] rfl kR kR ?_;refine WQ ?_;refine Ow.buildSlice (e:=5) #[v8 c] rfl rfl kR fun o p a=>?_;rw[show(#[v8 c]:Array hU)=a8 [c] from rfl];have b:List.take 1 (List.drop 0 [c])=[c]:=rfl;refine ko @b ?_;refine ky @Nat.add_zero ?_;refine⟨_,(ke @Nat.add_zero),⟨a,trivial⟩,?_⟩;rw[d];rfl
def m9(s:No)(w:hW)(b:s.length<1099511627776):
  Va prog 89 #[vs s] w (fun v D=>v=vs (c9 s)/\D=[]):=by
 have c:=eL (s.length:Int);refine Va.Vr func89 rfl (rs:=[.tmp 2]) results89 ntmps89 ?_;refine kf ?_;refine ky @Nat.add_zero ?_;refine Ow.Vc rfl call88 (fun a d=>Ct _ _ a (aj _)) ?_;refine ko @Nat.add_zero ?_;refine ky @Nat.add_zero ?_;refine⟨_,(ke @Nat.add_zero),trivial,?_⟩
 rfl
def r8(x:Xl)(w:hW):
  Va prog 90 #[.agg (a8 x.l)] w (fun v D=>v=vs x.l/\D=[]):=by
 have c:=x.h;refine Va.Vr func90 rfl (rs:=[.tmp 2]) results90 ntmps90 ?_;refine kf ?_;refine ky @Nat.add_zero ?_;refine Ow.box rfl rfl fun d e a=>?_;refine Yx ?_;refine Ow.go rfl ?_;simp(disch:=first|exact dD|fail) only[↓Sx.S0,Sx.S1,fx,Nat.reduceAdd,Nat.reducePow,Int.reducePow,Nat.reduceBEq,↓reduceIte,UInt8.reduceToNat,UInt16.reduceToNat,UInt32.reduceToNat,UInt64.reduceToNat,Int.reduceToNat];have b:List.take 32 (List.drop 0 x.l)=x.l:=by rw[YM,Yo oM]
 refine ky @b ?_;refine⟨_,(ke @Nat.add_zero),⟨a,trivial⟩,?_⟩
 rfl
end Go.Proofs
end
section
open Go Go.Proofs Go.Sx Go.StP
namespace Go.Proofs
def qi9(e:WS):No:=(co (cb e.kind)++c9 e.name)++e.id.l
def fU(l:List WS):No:=(l.map qi9).flatten
def rn{l:List WS}{k:Nat}(a:k<l.length):fU (l.take (k+1))=fU (l.take k)++qi9 (l.getD k cB):=by unfold fU;rw[qd4 a,We,Yu,List.getD_eq_getElem?_getD,List.getElem?_eq_getElem a];simp
def HR{l:List WS}{k:Nat}(a:k<l.length):fU (l.take (k+1))=fU (l.take k)++co (cb (l.getD k cB).kind)++c9 (l.getD k cB).name++(l.getD k cB).id.l:=by rw[rn a];simp only[qi9,Wb]
def ql{s:No}(h:s.length<1099511627776):(c9 s).length<1099511627783:=by have:=eL (s.length:Int);unfold c9;rw[VV];omega
theorem uB{l:List WS}(a:lR l):∀k,k<=l.length->(fU (l.take k)).length<=k*1099511627830
 |0,_=>by simp[fU]
 |k+1,b=>by have c:=uB a k oM;have d:=ql (a k b);have e:=eL (l.getD k cB).kind;have f:=(l.getD k cB).id.h;rw[rn b];unfold qi9;simp only[VV];omega
def FL(v:hU)(l:List WS)(w:hW)(o:qF3 w v l)(x:l.length<1000000)(p:lR l):
  Va prog 146 #[v] w (fun t D=>t=vs (fU l)/\D=[]):=by
 obtain⟨b,off,arr,E,fz,c⟩:=o.row;have m:=o.len;refine Va.Vr func146 rfl (rs:=[.tmp 2]) results146 ntmps146 ?_;refine kf ?_;refine ky (aN @ea @m) ?_;refine Cw.VU (G:=Nat) [5,6,7,8,11,12,13,14,15,16,17,18,19,20,21,22,23,24,25,26,27,28,29,30,31,32,3,9,10,4] (fun g=>[(3,vs (fU (l.take g))),(4,vi g)]) (fun g=>[]) (fun g=>g<=l.length) (fun g=>l.length - g) 0 rfl rfl ?_ ?_
 .exact aR _
 intro k y a;refine kv ?_;have u:k<=l.length:=a;clear a;by_cases a:k<l.length
 .have q:0<l.length:=by omega
  have z:=c.lt q;have e:=c.has q;have f:=c.idx true k a;have h:∀n,aF (some (false,n)) (some (.cells arr E fz)) (off+k*34)=some (vs (l.getD k cB).name):=fun n=>nN c a n;have i:∀n,aF (some (false,n)) (some (.cells arr E fz)) (off+k*34+1)=some (vi (l.getD k cB).kind):=fun n=>wE c a n;have j:aF (some (true,32)) (some (.cells arr E fz)) (off+k*34+2)=some (.agg (a8 (l.getD k cB).id.l)):=OI c a;have r:=p k a;have A:=uB p k u;have B:=ql r;have C:=eL (l.getD k cB).kind;have F:=(l.getD k cB).id.h;refine ky (aN @ea @m) ?_;refine Cw.Vu [b] [0,1,2,3,4,8,9,10,11,15,16,17,18,5,12,19,6,7,13,14,20,21,22] [] kR kR kR ?_;refine WQ ?_;refine kq (qS4 @ea @e @f @h @i @j) ?_;refine Ow.Vc rfl call88 (fun d s=>Ct _ _ d (aj _)) ?_;refine kq (qS4 @ea @e @f @h @i @j) ?_;refine Ow.Vc rfl call89 (fun d s=>m9 _ d r) ?_;refine kq (qS4 @ea @e @f @h @i @j) ?_;refine Ow.Vc rfl call90 (fun d s=>r8 _ d) ?_;refine kq (qS4 @ea @e @f @h @i @j) ?_;exact Vo.mk (k+1) oM oM rfl (by rw[HR a];rfl)
 obtain rfl:k=l.length:=by omega
 refine ky (aN @ea @m) ?_;refine⟨_,(ke @ea),trivial,?_⟩;rw[WH];rfl
def qb5(l:List Xl):No:=(l.map Xl.l).flatten
def Jw{l:List Xl}{k:Nat}(a:k<l.length):qb5 (l.take (k+1))=qb5 (l.take k)++(l.getD k XY).l:=by unfold qb5;rw[qd4 a,We,Yu,List.getD_eq_getElem?_getD,List.getElem?_eq_getElem a];simp
theorem vT:∀ (l:List Xl),(qb5 l).length=l.length*32
 | []=>rfl
 |x::r=>by have h:=vT r;have:=x.h;unfold qb5 at h |-;rw[VY,Ya,VV,h,Wt];omega
def g_(c:qf6):No:=c.tree.l++co (cb c.par.length)
def qh5(c:qf6):No:=g_ c++qb5 c.par++c9 c.text
def F6(v:hU)(c:qf6)(w:hW)(s:qz9 w v c)(y:c.par.length<1000000)(j:c.text.length<1099511627776):
  Va prog 148 #[v] w (fun t D=>t=vs (qh5 c)/\D=[]):=by
 obtain⟨p,rfl,l⟩:=s;obtain⟨b,off,arr,E,fz,f⟩:=l.row;have a:=l.len;have z:=ql j;have A:=eL (c.par.length:Int);have B:=c.tree.h;have C:(g_ c).length<=38:=by unfold g_;rw[VV];omega
 refine Va.Vr func148 rfl (rs:=[.tmp 2]) results148 ntmps148 ?_;refine kf ?_;refine ky @eM ?_;refine Ow.box rfl rfl fun h F u=>?_;refine Yx ?_;refine Ow.go rfl ?_;simp(disch:=first|exact dD|fail) only[↓Sx.S0,Sx.S1,fx,eM,Nat.reduceAdd,Nat.reducePow,Int.reducePow,Nat.reduceBEq,↓reduceIte,UInt8.reduceToNat,UInt16.reduceToNat,UInt32.reduceToNat,UInt64.reduceToNat,Int.reduceToNat];refine ky (aN @eM @a) ?_;refine Cw.Vu [h] [0,3,1,4,5,2,6,7,8] [] kR kR kR ?_;refine WQ ?_;refine kq (aN @eM @a) ?_;refine Ow.Vc rfl call90 (fun d i=>r8 _ d) ?_;refine kq (aN @eM @a) ?_;refine Ow.Vc rfl call88 (fun d i=>Ct _ _ d (aj _)) ?_;refine kq (aN @eM @a) ?_;rw[show c.tree.l++co (cb c.par.length)=g_ c++qb5 (c.par.take 0) by simp[g_,qb5]];refine Cw.VU (G:=Nat) [13,14,15,16,17,20,21,22,23,24,25,26,27,3,18,19,4] (fun g=>[(3,vs (g_ c++qb5 (c.par.take g))),(4,vi g)]) (fun g=>[(h,.cells (bI c.tree p c.text).toArray 202 (0,0))]) (fun g=>g<=c.par.length) (fun g=>c.par.length - g) 0 rfl rfl ?_ ?_
 .exact aR _
 intro k H e;refine kv ?_;have x:k<=c.par.length:=e;clear e;have m:=vT (c.par.take k);rw[W3,Nat.min_eq_left x] at m;by_cases e:k<c.par.length
 .have n:0<c.par.length:=by omega
  have I:=f.lt n;have J:h≠b:=by omega
  have o:=f.has n;have q:=f.idx true k e;have r:=oe f e;have K:=(c.par.getD k XY).h;refine ky (qS3 @eM @a @o @q @r) ?_;refine Ow.Vc rfl call90 (fun d i=>r8 _ d) ?_;refine ko (qS3 @eM @a @o @q @r) ?_;exact Vo.mk (k+1) oM oM rfl (by rw[Jw e,<-Wb];rfl)
 obtain rfl:k=c.par.length:=by omega
 rw[WH];rw[WH] at m;refine ky (aN @eM @a) ?_;refine Ow.Vc rfl call89 (fun d i=>m9 _ d j) ?_;refine ko @eM ?_;refine⟨_,(ke @eM),⟨u,trivial⟩,?_⟩
 rfl
instance:DecidableEq WS:=fun a b=>if h:a.name=b.name/\a.kind=b.kind/\a.id.l=b.id.l then .isTrue (by cases a;cases b;simp only at h;obtain⟨rfl,rfl,h3⟩:=h;rw[Xl.ext' h3]) else .isFalse (fun e=>h (by rw[e];exact⟨rfl,rfl,rfl⟩))
theorem WS.ext'{a b:WS}(h:(a.name==b.name&&a.kind==b.kind&&a.id.l==b.id.l)=true):a=b:=by simp only[WK,W8] at h;cases a;cases b;simp only at h;obtain⟨⟨rfl,rfl⟩,c⟩:=h;rw[Xl.ext' c]
def fj(l:No):Xl:=if h:l.length=32 then⟨l,h⟩ else XY
def CB{l:No}(h:l.length=32):(fj l).l=l:=by unfold fj;rw[dif_pos h]
def lI(s:No)(a:Nat)(e:Int):(X5 s a e).1.length=32:=by
 unfold X5;simp only
 split
 .assumption
 simp[z32]
def ip{s:No}{a:Nat}{e:Int}(b:a<=s.length):a<= (X5 s a e).2.1/\(X5 s a e).2.1<=s.length:=qy b
def gA{s:No}{a:Nat}{e most:Int}(b:a<=s.length):a<= (aS s a e most).2.1/\(aS s a e most).2.1<=s.length:=by
 have c:=fO (e:=e) (most:=most) b;have d:=qy (e:=(aE s a e most).2.2) (n:=(aE s a e most).1) c.2;unfold aS;simp only
 split
 .exact⟨aj _,b⟩
 exact⟨by omega,d.2⟩
def Ds(s:No)(a:Nat)(e most:Int):(aS s a e most).1.length<=s.length:=by
 have:∀ (b:Nat) (e n:Int),(aw s b e n).1.length<=s.length:=by
  intro b e n;unfold aw
  split
  .simp
  split
  .simp
  split
  .simp
  simp only[W3,XC];omega
 unfold aS;simp only
 split
 .simp
 exact this _ _ _
def lT{s:No}{a:Nat}{e n:Int}(b:e≠0):(aw s a e n).2=(a,e):=by unfold aw;rw[Vb b]
def oq{s:No}{a:Nat}{e most:Int}(b:e≠0):(aE s a e most).2=(a,e):=by unfold aE;rw[Vb b]
def lG{s:No}{a:Nat}{e most:Int}(b:e≠0):(aS s a e most).2=(a,e):=by unfold aS;simp only[oq b,lT b];rw[Vb b]
def js{s:No}{a:Nat}{e:Int}(b:e≠0):(X5 s a e).2=(a,e):=by unfold X5;simp only[lT b]
def ow{s:No}{a:Nat}{e n:Int}(h:e≠5):(aw s a e n).2.2≠5:=by
 unfold aw
 split
 .exact h
 split
 .show(2:Int)≠5;decide
 split
 .show(3:Int)≠5;decide
 show(0:Int)≠5;decide
def Pj(most:Int):∀ (l:No) (k n x:Nat),bR most l k n=.error x->x≠5:=by
 intro l
 induction l with
 |nil=>intro k n x h;unfold bR at h;cases h;decide
 |cons c r a=>
  intro k n x h;unfold bR at h
  split at h
  .split at h
   .cases h;decide
   exact a _ _ _ h
  split at h
  .cases h;decide
  split at h
  .cases h
  cases h;decide
def wu(most:Int):∀ (l:No) (k n:Nat),bR most l k n≠ .error 0:=by
 intro l
 induction l with
 |nil=>intro k n h;unfold bR at h;cases h
 |cons c r a=>
  intro k n h;unfold bR at h
  split at h
  .split at h
   .cases h
   exact a _ _ h
  split at h
  .cases h
  split at h
  .cases h
  cases h
def oQ{s:No}{a:Nat}{e most:Int}(h:e≠5):(aE s a e most).2.2≠5:=by
 unfold aE
 split
 .exact h
 split
 .show(0:Int)≠5;decide
 rename_i x b;have:=Pj _ _ _ _ _ b;show((x:Nat):Int)≠5;omega
def Pp{s:No}{a:Nat}{e most:Int}(h:e≠5):(aS s a e most).2.2≠5:=by
 unfold aS;simp only
 split
 .exact ow (oQ h)
 exact ow (oQ h)
def T4{s:No}{a:Nat}{e:Int}(h:e≠5):(X5 s a e).2.2≠5:=by unfold X5;exact ow h
def wt{s:No}{a:Nat}{e most:Int}(h:(aE s a e most).2.2=0):a< (aE s a e most).2.1:=by
 unfold aE at h |-
 split
 .rename_i b;rw[Vb b] at h;exact Vx h b
 rename_i b;rw[tr b] at h
 split
 .rename_i n k d;have:=rE _ _ _ _ _ _ d;show a<a+k;omega
 rename_i x c;rw[c] at h;exfalso;have:x=0:=by have:((x:Nat):Int)=0:=h;omega
 subst this;exact wu _ _ _ _ c
def Zd(s:No)(a:Nat)(e:Int):WS×Nat×Int:=
 let p:=aE s a e 2
 let b:=aS s p.2.1 p.2.2 32
 let i:=X5 s b.2.1 b.2.2
 (⟨b.1,p.1,fj i.1⟩,i.2)
def o7{s:No}{a:Nat}{e:Int}(b:a<=s.length):a<= (Zd s a e).2.1/\(Zd s a e).2.1<=s.length:=by have c:=fO (e:=e) (most:=2) b;have d:=gA (e:=(aE s a e 2).2.2) (most:=32) c.2;have f:=ip (e:=(aS s (aE s a e 2).2.1 (aE s a e 2).2.2 32).2.2) d.2;unfold Zd;exact⟨by simp only;omega,f.2⟩
def So{s:No}{a:Nat}{e:Int}(h:e≠5):(Zd s a e).2.2≠5:=T4 (Pp (oQ h))
def wK{s:No}{a:Nat}{e:Int}(d:a<=s.length)(h:(Zd s a e).2.2=0):a< (Zd s a e).2.1:=by
 have f:=fO (e:=e) (most:=2) d;have g:=gA (e:=(aE s a e 2).2.2) (most:=32) f.2;have j:=ip (e:=(aS s (aE s a e 2).2.1 (aE s a e 2).2.2 32).2.2) g.2;unfold Zd at h |-;simp only at h |-;have c:(aS s (aE s a e 2).2.1 (aE s a e 2).2.2 32).2.2=0:=Za fun b=>by rw[js b] at h;exact b h
 have i:(aE s a e 2).2.2=0:=Za fun b=>by rw[lG b] at c;exact b c
 have:=wt i;omega
def iX(s:No):Nat->Nat->Int->List WS->List WS×Nat×Int
 |0,a,e,l=>(l,a,e)
 |n+1,a,e,l=>if e=0/\a<s.length then iX s n (Zd s a e).2.1 (Zd s a e).2.2 (l++[(Zd s a e).1]) else(l,a,e)
def Dk{s:No}{n a:Nat}{e:Int}{l:List WS}(h:e=0/\a<s.length):iX s (n+1) a e l=iX s n (Zd s a e).2.1 (Zd s a e).2.2 (l++[(Zd s a e).1]):=by rw[iX,Vb h]
def ET{s:No}{n a:Nat}{e:Int}{l:List WS}(h:¬ (e=0/\a<s.length)):iX s n a e l=(l,a,e):=by
 cases n with
 |zero=>rfl
 |succ n=>rw[iX,tr h]
def fS(s:No):List WS×Nat×Int:=iX s (s.length+1) 0 0 []
structure ZJ(s:No)(n a:Nat)(e:Int)(l:List WS):Prop where
 go:fS s=iX s n a e l
 le:a<=s.length
 five:e≠5
 fuel:e=0->s.length<a+n
 cnt:l.length+n=s.length+1
 short:∀i,i<l.length->(l.getD i cB).name.length<=s.length
def ZJ.init(s:No):ZJ s (s.length+1) 0 0 []:=⟨rfl,aR _,by decide,fun _=>by omega,by simp,fun i a=>by simp at a⟩
def ZJ.next{s:No}{n a:Nat}{e:Int}{l:List WS}(h:ZJ s n a e l)(b:e=0/\a<s.length):∃m,n=m+1/\ZJ s m (Zd s a e).2.1 (Zd s a e).2.2 (l++[(Zd s a e).1]):=by
 have:=h.fuel b.1;obtain⟨m,rfl⟩:∃m,n=m+1:=⟨n - 1,by omega⟩;refine⟨m,rfl,h.go.trans (Dk b),(o7 h.le).2,So h.five,fun d=>?_,?_,fun i f=>?_⟩
 .have:=wK h.le d;omega
 .have:=h.cnt;simp only[VV,Wt,W7];omega
 by_cases c:i<l.length
 .rw[re c];exact h.short i c
 have:i=l.length:=by simp only[VV,Wt,W7] at f;omega
 subst this;rw[rp (aj _),Nat.sub_self];exact Ds _ _ _ _
def ZJ.done{s:No}{n a:Nat}{e:Int}{l:List WS}(h:ZJ s n a e l)(b:¬ (e=0/\a<s.length)):fS s=(l,a,e):=h.go.trans (ET b)
def ZJ.sh{s:No}{n a:Nat}{e:Int}{l:List WS}(h:ZJ s n a e l)(c:s.length<1000000):lR l:=fun i b=>by have:=h.short i b;omega
def HF:cL (bP prog 239) (ac prog 239) []=some (.agg (bv cB).toArray):=by rw[show bP prog 239=some [(0,1),(1,1),(2,32)] from id kR,lh];rfl
def Kx(s:No):cL (bP prog 179) (ac prog 179) [(0,vs s)]=some (.agg #[vs s,vi 0,vi 0]):=by have a:bP prog 179=some [(0,1),(1,1),(2,1)]:=id kR;have b:ac prog 179=some (.agg #[vs [],vi 0,vi 0]):=id kR;rw[a,b];rfl
def g'(s:No):Option (List WS):=if(fS s).2.2=0/\jJ (fS s).1=true/\fU (fS s).1=s then some (fS s).1 else none
def ob(s:No)(v:hU)(D:aA):Prop:=
 match g' s with
 |some l=> ∃v1,v=.tuple #[v1,.bool true]/\Gr D 239 34 v1 l.length (l.map bv).flatten
 |none=>v=.tuple #[Vj,.bool false]
structure EnG where
 n:Nat
 a:Nat
 e:Int
 l:List WS
 v:hU
 D:aA
def dz:=aN (aN (qS1 @m_ @n8 @mz) (qS1 @pQ @pK @uz)) (aN (qS1 @IX @IY @I') (aN (aN @ra @Dz) (aN @bA @b9)))
def Ft(s:No)(w:hW)(hs:s.length<100000):
  Va prog 114 #[vs s] w (XS w [] (ob s)):=by
 refine Va.Vs func114 rfl (rs:=[.tmp 2,.tmp 3]) results114 ntmps114 (fun p u=>by cases u) Wg ?_;refine kf ?_;refine ky @dz ?_;refine Ow.build ((.agg #[vs s,vi 0,vi 0])) rfl kR ?_;refine ko @dz ?_;refine Ow.box rfl rfl fun br zj zb=>?_;simp only[dS,cz,dL,ag,Vy];refine ko @dz ?_;refine Cw.VU (G:=EnG) [10,11,12,13,14,15,16,17,18,19,20,21,22,23,24,6,25,26,27,28,29,30,31,32,33,34,35,36,37,5] (fun c=>[(5,c.v)]) (fun c=>(br, Vz (vs s) (vi c.a) (vi c.e))::c.D) (fun c=>ZJ s c.n c.a c.e c.l/\Vq (br+1) c.D/\Gr c.D 239 34 c.v c.l.length (c.l.map bv).flatten) (fun c=>c.n) ⟨s.length+1,0,0,[], Vj,[]⟩ rfl rfl ?_ ?_
 .exact⟨ZJ.init s,trivial,Gr.nl⟩
 intro c jq j;refine kv ?_;obtain⟨n,a,e,l,v,D⟩:=c;simp only at j |-;obtain⟨q,I,C⟩:=j;have R:=q.le;by_cases J:e=0/\a<s.length
 .obtain⟨m,rfl,S⟩:=q.next J;obtain⟨g,zk⟩:=J;have y:(e==0)=true:=by simp[g]
  have K:decide ((a:Int)< (s.length:Int))=true:=aP oM;have u:=fO (e:=e) (most:=2) R;have j:=gA (e:=(aE s a e 2).2.2) (most:=32) u.2;have r:Zd s a e=(⟨(aS s (aE s a e 2).2.1 (aE s a e 2).2.2 32).1,(aE s a e 2).1,fj (X5 s (aS s (aE s a e 2).2.1 (aE s a e 2).2.2 32).2.1 (aS s (aE s a e 2).2.1 (aE s a e 2).2.2 32).2.2).1⟩,(X5 s (aS s (aE s a e 2).2.1 (aE s a e 2).2.2 32).2.1 (aS s (aE s a e 2).2.1 (aE s a e 2).2.2 32).2.2).2):=rfl;have E:=lI s (aS s (aE s a e 2).2.1 (aE s a e 2).2.2 32).2.1 (aS s (aE s a e 2).2.1 (aE s a e 2).2.2 32).2.2;refine ky (qS1 @dz @y @K) ?_;refine Ow.build (.agg (bv cB).toArray) rfl HF ?_;refine ko @dz ?_;refine Ow.alloc rfl rfl lh fun b6 zc zl=>?_;simp only[ag,Vy,Wp];have zm:br<b6:=aQ zc Wg;refine Ow.Vd (M:=(b6,Obj.cells (bv cB).toArray 239 (0,0))::(br, Vz (vs s) (vi a) (vi e))::D) Xm ?_;refine ko @dz ?_;refine Ow.WA rfl rfl call95 Wg (fun f d=>BS br s a e 2 f R oM (d.has _ _ (ah _ aX))) ?_;generalize aE s a e 2=p at*;obtain⟨kd,T,U⟩:=p;simp only at u j r E |-;refine kn ?_;refine ko @dz ?_;refine ky @dz ?_;refine Ow.WA rfl rfl call96 Wg (fun f d=>pY br s T U 32 f u.2 oM (d.has _ _ (ah _ aX))) ?_;generalize aS s T U 32=c at*;obtain⟨tt,V,W⟩:=c;simp only at j r E |-;refine kn ?_;refine ko @dz ?_;refine ky @dz ?_;refine Ow.WA rfl rfl call97 Wg (fun f d=>BN br s V W f j.2 oM (d.has _ _ (ah _ aX))) ?_;generalize X5 s V W=i at*;obtain⟨Y,L,N⟩:=i;simp only at r E |-;obtain⟨F,Z⟩:∃F,fj Y=F:=⟨_,rfl⟩;have zd:Y=F.l:=by rw[<-Z,CB E]
  rw[Z] at r;rw[zd];refine kn ?_;refine ko @dz ?_;generalize hx:({name:=tt,kind:=kd,id:=F}:WS)=x;rw[hx] at r;rw[r] at S;refine Ow.buildSlice (e:=239) (bv x).toArray rfl rfl (fa underlying198 qn9 lh WT (m3 x)) fun t ze zn=>?_;have zo:br<t:=aQ ze Wg;refine Ow.Vd (M:=D++((b6,Obj.cells (bv x).toArray 239 (0,0))::(br, Vz (vs s) (vi L) (vi N))::[(t,Obj.cells (bv x).toArray 239 (0,0))])) Xm ?_;refine ko @dz ?_;refine Ow.XP (e:=239) (k:=1) (new:=bv x) (X:=D) v rfl rfl rfl rfl underlying198 qn9 kR lh (by rw[Dz,Wd,m3]) underlying198 (by intro k h;cases h) C (fun f d=>W0.X6 (d.has t (.cells (bv x).toArray 239 (0,0)) V_) (m3 _) (vn _)) oM (by have:=q.cnt;omega) (fun B v4 O zf zq zg zr zh zt=>?_);have zu:t<B:=aQ zf (by simp[aV,keys]);have zi:Vq (br+1) O:=Vq.of_le fun c j=>by
   rcases zh c j with h|h
   .exact I.le c h
   omega
  refine Ow.Vd (M:=(br, Vz (vs s) (vi L) (vi N))::(O++[(b6,Obj.cells (bv x).toArray 239 (0,0)),(t,Obj.cells (bv x).toArray 239 (0,0))])) Xm ?_;refine ko @dz ?_;refine Vo.mk (EnG.mk m L N (l++[x]) v4 (O++[(b6,Obj.cells (bv x).toArray 239 (0,0)),(t,Obj.cells (bv x).toArray 239 (0,0))])) (by show m<m+1;omega) ⟨S,zi.app ⟨by omega,by omega,trivial⟩,?_⟩ rfl rfl;show Gr _ _ _ _ (l++[x]).length ((l++[x]).map bv).flatten;rw[VV,We,Yu,show([x].map bv).flatten=bv x by simp];exact Gr.app (.inl zg)
 have hd:=q.done J;have za:=q.sh oM;have zv:=q.cnt;have hR:g' s=if e=0/\jJ l=true/\fU l=s then some l else none:=by unfold g';rw[hd]
 unfold ob;rw[hR];have H:Vq w.heap.size ((br,Vz (vs s) (vi a) (vi e))::D):=⟨zb,Vq.mono oM I⟩;by_cases g:e=0
 .have y:(e==0)=true:=by simp[g]
  have K:decide ((a:Int)< (s.length:Int))=false:=aW oM;have P:(if e≠0 then e else if(a:Int)< (s.length:Int) then 5 else 0)=(0:Int):=by rw[tr (by simp[g]),tr oM]
  refine ky (qS1 @dz @y @K) ?_;refine Ow.Vc rfl call98 (fun f d=>BH br s a e f (d.has _ _ V_)) ?_;rw[P];have d4:((0:Int) !=0)=false:=rfl;refine ko (aN @dz @d4) ?_;refine Ow.Vc rfl call145 (fun f d=>Eh v l f (C.slM (fun b o Q=>d.has b o (by simp[Q])) rfl rfl m3) oM za) ?_;cases hr:jJ l
  .rw[tr V_];refine ko @dz ?_;refine ky @dz ?_;refine⟨_,(ke @dz),?_⟩;exact⟨Ext.Vt H,rfl⟩
  refine ko @dz ?_;refine Ow.Vc rfl call146 (fun f d=>FL v l f (C.slM (fun b o Q=>d.has b o (by simp[Q])) rfl rfl m3) oM za) ?_;by_cases z:fU l=s
  .have A:(fU l !=s)=false:=by simp[z]
   rw[Vb ⟨g,rfl,z⟩];refine ko (aN @dz @A) ?_;refine ky @dz ?_;refine⟨_,(ke @dz),?_⟩;exact⟨Ext.Vt H,v,rfl,C.Vn fun b o z ho=>by rw[Sx.look,tr (by have:=I.le b (bO ho);omega)];exact ho⟩
  have A:(fU l !=s)=true:=by simp[z]
  rw[tr (fun h=>z h.2.2)];refine ko (aN @dz @A) ?_;refine ky @dz ?_;refine⟨_,(ke @dz),?_⟩;exact⟨Ext.Vt H,rfl⟩
 have y:(e==0)=false:=by simp[g]
 have A:(e !=0)=true:=by simp[g]
 have P:(if e≠0 then e else if(a:Int)< (s.length:Int) then 5 else 0)=e:=by rw[Vb g]
 rw[tr (fun h=>g h.1)];refine ky (aN @dz @y) ?_;refine Ow.Vc rfl call98 (fun f d=>BH br s a e f (d.has _ _ V_)) ?_;rw[P];refine ko (aN @dz @A) ?_;refine ky @dz ?_;refine⟨_,(ke @dz),?_⟩;exact⟨Ext.Vt H,rfl⟩
theorem DJ(most:Int):∀ (l:No) (k n m a:Nat),bR most l k n=.ok (m,a)->(m:Int)<=most
 | [],_,_,_,_,h=>by simp[bR] at h
 |c::r,k,n,m,a,h=>by
  unfold bR at h
  split at h
  .split at h
   .cases h
   exact DJ most r _ _ _ _ h
  split at h
  .cases h
  split at h
  .rename_i b;cases h;exact b.2
  cases h
def j'{s:No}{a:Nat}{e most:Int}(b:0<=most):0<= (aE s a e most).1/\(aE s a e most).1<=most:=by
 unfold aE
 split
 .exact⟨Int.le_refl 0,b⟩
 split
 .rename_i n k h;exact⟨Int.natCast_nonneg _,DJ most _ _ _ _ _ h⟩
 exact⟨Int.le_refl 0,b⟩
def cF(s:No)(a:Nat)(e:Int):Nat->List Xl×Nat×Int
 |0=>([],a,e)
 |n+1=>let p:=cF s a e n;let i:=X5 s p.2.1 p.2.2;(p.1++[fj i.1],i.2)
theorem Di(s:No)(a:Nat)(e:Int):∀n,(cF s a e n).1.length=n
 |0=>rfl
 |n+1=>by simp only[cF,VV,Wt,W7,Di s a e n]
theorem CN{s:No}{a:Nat}{e:Int}(b:a<=s.length):∀n,(cF s a e n).2.1<=s.length
 |0=>b
 |n+1=>(ip (CN b n)).2
def qg7(s:No):Int×Nat×Int:=aE s (X5 s 0 0).2.1 (X5 s 0 0).2.2 4
def eu(s:No):List Xl×Nat×Int:=cF s (qg7 s).2.1 (qg7 s).2.2 (qg7 s).1.toNat
def qh6(s:No):No×Nat×Int:=aS s (eu s).2.1 (eu s).2.2 64
def ZN(s:No):qf6×Nat×Int:=(⟨fj (X5 s 0 0).1,(eu s).1,(qh6 s).1⟩,(qh6 s).2)
def dE(s:No)(a:Nat)(e:Int):Int:=if e≠0 then e else if(a:Int)< (s.length:Int) then 5 else 0
def i7(s:No):Option qf6:=if dE s (ZN s).2.1 (ZN s).2.2=0/\iK (ZN s).1=true/\qh5 (ZN s).1=s then some (ZN s).1 else none
def Ie(t x:Xl)(p:hU)(y:No)(a:Bool)(E:h7):aZ (some (a,32)) (some (.cells (bI t p y).toArray E (0,0))) 0 (.agg (a8 x.l))=some (.cells (bI x p y).toArray E (0,0)):=
 cP [] _ _ _ a _ E rfl (by simp[t.h]) (ag _) (by simp[x.h]) (jX _)
def JG(t:Xl)(p q:hU)(y:No)(a:Bool)(E:h7)(b:Value.oneCell' q=true/\q.cells=#[q]):aZ (some (a,1)) (some (.cells (bI t p y).toArray E (0,0))) 32 q=some (.cells (bI t q y).toArray E (0,0)):=
 cP (t.l.map v8) [p] [q] [vs y] a _ E (by simp[t.h]) rfl b.2 rfl (by simp[b.1])
def Ir(t:Xl)(p:hU)(y z:No)(a:Bool)(E:h7):aZ (some (a,1)) (some (.cells (bI t p y).toArray E (0,0))) 33 (vs z)=some (.cells (bI t p z).toArray E (0,0)):=by
 have e:∀y,bI t p y=(t.l.map v8++[p])++([vs y]++[]):=fun y=>by unfold bI;simp only[Wb,VX]
 rw[e,e];exact cP _ _ _ _ a _ E (by simp[t.h]) rfl rfl rfl rfl
def li:ac prog 202=some (.agg (bI XY Vj []).toArray):=id kR
def Bt:cL (bP prog 202) (ac prog 202) []=some (.agg (bI XY Vj []).toArray):=by rw[show bP prog 202=some [(0,32),(32,1),(33,1)] from id kR,li];rfl
def i_:ac prog 38=some (.agg (a8 XY.l)):=id kR
theorem pT{b:Nat}{x:Obj}:∀ {D L:aA},b∉keys D->Vh (D++L) b x=D++Vh L b x
 | [],_,_=>rfl
 | (c,y)::r,L,h=>by simp only[keys,VY,Vw,not_or] at h;rw[Wp,mP _ _ _ _ _ (Wq h.1),pT (by simpa [keys] using h.2)];rfl
def ox(s:No)(v:hU)(D:aA):Prop:=
 match i7 s with
 |some c=> ∃p,v=.tuple #[.agg (bI c.tree p c.text).toArray,.bool true]/\Gr D 38 32 p c.par.length (c.par.map Ze).flatten
 |none=>v=.tuple #[.agg (bI XY Vj []).toArray,.bool false]
def UH(b:Nat)(s:No)(a:Nat)(e:Int)(w:hW)(c:w.heap[b]? =some (Vz (vs s) (vi a) (vi e))):
  Va prog 98 #[vp b 0] w (fun v D=>v=vi (dE s a e)/\D=[]):=BH b s a e w c
structure CmG where
 g:Nat
 v:hU
 D:aA
def de:=aN (aN (qS1 @m_ @n8 @mz) (aN (aN @pQ @pK) (aN @u6 @uC))) (aN (qS1 @tz @ug @ED) (aN (aN @Ie @Ir) (aN @bA @b9)))
def FI(s:No)(w:hW)(hs:s.length<100000):
  Va prog 115 #[vs s] w (XS w [] (ox s)):=by
 refine Va.Vs func115 rfl (rs:=[.cell 2 202,.tmp 3]) results115 ntmps115 (fun p hp=>by cases hp) Wg ?_;refine kf ?_;refine ky @de ?_;refine Ow.alloc rfl rfl li fun q zu U=>?_;simp only[ag,Vy,Wp];refine ko @de ?_;refine Ow.build ((.agg #[vs s,vi 0,vi 0])) rfl kR ?_;refine ko @de ?_;refine Ow.box rfl rfl fun br zf V=>?_;have zv:q<br:=aQ zf Wg;refine Yx ?_;refine ko @de ?_;refine Ow.build (.agg (bI XY Vj []).toArray) rfl Bt ?_;refine ko @de ?_;refine Ow.alloc rfl rfl li fun i W Y=>?_;simp only[ag,Vy,Wp];have zw:q<i:=aQ W Wg;have zx:br<i:=aQ W Wg;have F:∀a E,aZ (some (a,34)) (some (.cells (bI XY Vj []).toArray E (0,0))) 0 (.agg (bI XY Vj []).toArray)=some (.cells (bI XY Vj []).toArray E (0,0)):=fun a E=>nE _ _ _ _ a E (by rw[Wd,rF]) rfl;refine ko (aN @de @F) ?_;refine Ow.WA rfl rfl call97 Wg (fun j m=>BN br s 0 0 j (aR _) oM (m.has _ _ (ah _ aX))) ?_;have Z:=ip (s:=s) (a:=0) (e:=0) (aR _);have np:=fO (e:=(X5 s 0 0).2.2) (most:=4) Z.2;have nm:=j' (s:=s) (a:=(X5 s 0 0).2.1) (e:=(X5 s 0 0).2.2) (most:=4) WT;obtain⟨d,hT⟩:∃d,fj (X5 s 0 0).1=d:=⟨_,rfl⟩;have zg:(X5 s 0 0).1=d.l:=by rw[<-hT,CB (lI s 0 0)]
 have N:ZN s=(⟨d,(eu s).1,(qh6 s).1⟩,(qh6 s).2):=by unfold ZN;rw[hT]
 rw[zg];refine kn ?_;refine ko @de ?_;refine Ow.WA rfl rfl call95 Wg (fun j m=>BS br s _ _ 4 j Z.2 oM (m.has _ _ (ah _ aX))) ?_;have C:eu s=cF s (aE s (X5 s 0 0).2.1 (X5 s 0 0).2.2 4).2.1 (aE s (X5 s 0 0).2.1 (X5 s 0 0).2.2 4).2.2 (aE s (X5 s 0 0).2.1 (X5 s 0 0).2.2 4).1.toNat:=rfl;generalize aE s (X5 s 0 0).2.1 (X5 s 0 0).2.2 4=nr at*;obtain⟨cn,c,ne⟩:=nr;simp only at np nm C |-;obtain⟨k,rfl⟩:=ZT nm.1;rw[WX] at C;refine kn ?_;refine ko @de ?_;refine Cw.Vd (M:=(i,.cells (bI d Vj []).toArray 202 (0,0))::(br, Vz (vs s) (vi c) (vi ne))::(q,.cells (bI XY Vj []).toArray 202 (0,0))::[]) Xm ?_;refine Cw.VU (G:=CmG) [17,18,19,22,23,24,25,26,27,28,20,21,7] (fun f=>[(7,vi f.g)]) (fun f=>(i,.cells (bI d f.v []).toArray 202 (0,0))::(br, Vz (vs s) (vi (cF s c ne f.g).2.1) (vi (cF s c ne f.g).2.2))::(q,.cells (bI XY Vj []).toArray 202 (0,0))::f.D) (fun f=>f.g<=k/\Vq (i+1) f.D/\Gr f.D 38 32 f.v f.g ((cF s c ne f.g).1.map Ze).flatten) (fun f=>k - f.g) ⟨0, Vj,[]⟩ rfl rfl ?_ ?_
 .exact⟨aR _,trivial,Gr.nl⟩
 intro f jq u;refine kv ?_;obtain⟨g,v,D⟩:=f;simp only at u |-;obtain⟨zy,J,H⟩:=u;have K:=CN (e:=ne) np.2 g;by_cases zz:g<k
 .have O:cF s c ne (g+1)=((cF s c ne g).1++[fj (X5 s (cF s c ne g).2.1 (cF s c ne g).2.2).1],(X5 s (cF s c ne g).2.1 (cF s c ne g).2.2).2):=rfl;refine kz [7] @de ?_;refine Cw.Vu [i] [0,2,1,3,4,5,6,7] [7] kR kR kR ?_;refine WQ ?_;refine kq @de ?_;refine Ow.WV ?_;refine Ow.WA rfl rfl call97 Wg (fun j m=>BN br s (cF s c ne g).2.1 (cF s c ne g).2.2 j K oM (m.has _ _ (ah _ aX))) ?_;refine Ow.nil ?_;refine⟨fun b y=>qI (by simp only[Vw,WI,WB] at y;omega),?_⟩;have zh:=lI s (cF s c ne g).2.1 (cF s c ne g).2.2;obtain⟨l,hI⟩:∃l,fj (X5 s (cF s c ne g).2.1 (cF s c ne g).2.2).1=l:=⟨_,rfl⟩;have zi:(X5 s (cF s c ne g).2.1 (cF s c ne g).2.2).1=l.l:=by rw[<-hI,CB zh]
  rw[hI] at O;have zj:(cF s c ne (g+1)).1=(cF s c ne g).1++[l]:=by rw[O]
  have zk:(cF s c ne (g+1)).2=(X5 s (cF s c ne g).2.1 (cF s c ne g).2.2).2:=by rw[O]
  rw[zi,<-zk];refine kn ?_;refine Ow.WV ?_;refine Ow.buildSlice (e:=38) (a8 l.l) rfl rfl (fa (cs:=l.l.map v8) underlying140 ql7 i_ WT (by simp[l.h])) fun t zl zA=>?_;have zB:i<t:=aQ zl Wg;refine Ow.nil ?_;refine⟨fC Wg,?_⟩
  try simp only[Wp,Vy]
  refine Ow.WV ?_;refine Ow.Vd (M:=D++((i,Obj.cells (bI d v []).toArray 202 (0,0))::(br,Vz (vs s) (vi (cF s c ne (g+1)).2.1) (vi (cF s c ne (g+1)).2.2))::(q,Obj.cells (bI XY Vj []).toArray 202 (0,0))::[(t,Vm l.l)])) Xm ?_;refine Ow.XP (e:=38) (k:=1) (new:=Ze l) (X:=D) v rfl rfl rfl rfl underlying140 ql7 kR i_ (by rw[ag,mi,XY.h]) underlying140 (by intro k h;cases h) H (fun j m=>W0.X6 (m.has t (Vm l.l) V_) (pw l) (sr l)) oM oM (fun B I r zm zC za zD zn zE=>?_);have zF:t<B:=aQ zm (by simp[aV,keys]);have zb:Vq (i+1) r:=Vq.of_le fun f u=>by
   rcases zn f u with h|h
   .exact J.le f h
   omega
  have P:i∉keys r:=zb.not oM;refine Ow.nil ?_;refine⟨fun f u=>?_,?_⟩
  .rw[VZ] at u;subst u;rw[e8 P];simp only[g3]
  have zc:∀M,Sx.look (r++M) i=Sx.look M i:=fun M=>cu P;have zd:∀M x,Vh (r++M) i x=r++Vh M i x:=fun M x=>pT P;have F:=fun a E=>JG d v I [] a E za.cell;refine kq (qS3 @de @zc @zd @F @dq) ?_;have zo:kQ (aU prog 140) (r++[(i,Obj.cells (bI d v []).toArray 202 (0,0)),(br,Vz (vs s) (vi (cF s c ne (g+1)).2.1) (vi (cF s c ne (g+1)).2.2)),(q,Obj.cells (bI XY Vj []).toArray 202 (0,0)),(t,Vm l.l)]) (vp i 32) I=
    some (r++[(i,Obj.cells (bI d I []).toArray 202 (0,0)),(br,Vz (vs s) (vi (cF s c ne (g+1)).2.1) (vi (cF s c ne (g+1)).2.2)),(q,Obj.cells (bI XY Vj []).toArray 202 (0,0)),(t,Vm l.l)]):=by
   rw[qz4,qS,zc];simp only[eJ,F,pp,zd,iN]
  refine Ow.store rfl rfl rfl zo ?_;refine ko @de ?_;refine Cw.Vd (M:=(i,Obj.cells (bI d I []).toArray 202 (0,0))::(br,Vz (vs s) (vi (cF s c ne (g+1)).2.1) (vi (cF s c ne (g+1)).2.2))::(q,Obj.cells (bI XY Vj []).toArray 202 (0,0))::(r++[(t,Vm l.l)])) Xm ?_;refine ky @de ?_;refine Vo.mk (CmG.mk (g+1) I (r++[(t,Vm l.l)])) (by show k - (g+1)<k - g;omega) ⟨by show g+1<=k;omega,zb.app ⟨by omega,trivial⟩,?_⟩ rfl rfl;show Gr _ _ _ _ (g+1) ((cF s c ne (g+1)).1.map Ze).flatten;rw[zj,We,Yu,show([l].map Ze).flatten=Ze l by simp];exact Gr.app (.inl za)
 obtain rfl:g=k:=by omega
 rw[<-C] at H;rw[<-C] at K;rw[<-C];have tp:=gA (e:=(eu s).2.2) (most:=64) K;refine ky @de ?_;refine Ow.WA rfl rfl call96 Wg (fun j m=>pY br s (eu s).2.1 (eu s).2.2 64 j K oM (m.has _ _ (ah _ aX))) ?_;refine kn ?_;refine ko @de ?_;have zq:qh6 s=aS s (eu s).2.1 (eu s).2.2 64:=rfl;have zr:=Ds s (eu s).2.1 (eu s).2.2 64;rw[zq] at N;generalize aS s (eu s).2.1 (eu s).2.2 64=tx at*;obtain⟨tt,z,A⟩:=tx;simp only at tp N zr |-;have ze:(eu s).1.length=g:=by rw[C,Di]
 generalize (eu s).1=n at*;have zG:g<=4:=by omega
 have hC:∀j,Hp w ((i,Obj.cells (bI d v tt).toArray 202 (0,0))::(br, Vz (vs s) (vi z) (vi A))::(q,Obj.cells (bI XY Vj []).toArray 202 (0,0))::D) j->qz9 j (.agg (bI d v tt).toArray) ⟨d,n,tt⟩:=fun j m=>⟨v,rfl,H.slM (fun b o hm=>m.has b o (by simp[hm])) ze rfl pw⟩;have Q:Vq w.heap.size ((i,Obj.cells (bI d v tt).toArray 202 (0,0))::(br, Vz (vs s) (vi z) (vi A))::(q,Obj.cells (bI XY Vj []).toArray 202 (0,0))::D):=⟨Y,V,U,Vq.mono oM J⟩;have hR:i7 s=if dE s z A=0/\iK ⟨d,n,tt⟩=true/\qh5 ⟨d,n,tt⟩=s then some ⟨d,n,tt⟩ else none:=by unfold i7;rw[N]
 have R:∀a E,aZ (some (a,34)) (some (.cells (bI XY Vj []).toArray E (0,0))) 0 (.agg (bI XY Vj []).toArray)=some (.cells (bI XY Vj []).toArray E (0,0)):=F;unfold ox;rw[hR];refine Ow.Vc rfl call98 (fun j m=>UH br s z A j (m.has _ _ (ah _ aX))) ?_;by_cases L:dE s z A=0
 .have S:(dE s z A !=0)=false:=by simp[L]
  refine ko (aN @de @S) ?_;refine Ow.Vc rfl call147 (fun j m=>V8 _ _ j (hC j m) (by show n.length<1000000;omega) (by show tt.length<1099511627776;omega)) ?_;cases hr:iK ⟨d,n,tt⟩
  .rw[tr V_];refine ko @de ?_;refine Ow.build (.agg (bI XY Vj []).toArray) rfl Bt ?_;refine ko (aN @de @R) ?_;refine ky @de ?_;refine⟨_,(ke @de),?_⟩;exact⟨Ext.Vt Q,rfl⟩
  refine ko @de ?_;refine Ow.Vc rfl call148 (fun j m=>F6 _ _ j (hC j m) (by show n.length<1000000;omega) (by show tt.length<1099511627776;omega)) ?_;by_cases y:qh5 ⟨d,n,tt⟩=s
  .have T:(qh5 ⟨d,n,tt⟩ !=s)=false:=by simp[y]
   have zt:∀a E,aZ (some (a,34)) (some (.cells (bI XY Vj []).toArray E (0,0))) 0 (.agg (bI d v tt).toArray)=some (.cells (bI d v tt).toArray E (0,0)):=fun a E=>nE _ _ _ _ a E (by rw[Wd,rF]) H.cell.1;rw[Vb ⟨L,rfl,y⟩];refine ko (qS1 @de @T @zt) ?_;refine ky @de ?_;refine⟨_,(ke @de),?_⟩;refine⟨Ext.Vt ⟨Y,V,U,Vq.mono oM J⟩,v,rfl,?_⟩;show Gr _ _ _ _ n.length (n.map Ze).flatten;rw[ze];exact H.Vn fun b o y ho=>by have:=J.le b (bO ho);simp(disch:=omega) only[jL];exact ho
  have T:(qh5 ⟨d,n,tt⟩ !=s)=true:=by simp[y]
  rw[tr (fun h=>y h.2.2)];refine ko (aN @de @T) ?_;refine Ow.build (.agg (bI XY Vj []).toArray) rfl Bt ?_;refine ko (aN @de @R) ?_;refine ky @de ?_;refine⟨_,(ke @de),?_⟩;exact⟨Ext.Vt Q,rfl⟩
 have S:(dE s z A !=0)=true:=by simp[L]
 rw[tr (fun h=>L h.1)];refine ko (aN @de @S) ?_;refine Ow.build (.agg (bI XY Vj []).toArray) rfl Bt ?_;refine ko (aN @de @R) ?_;refine ky @de ?_;refine⟨_,(ke @de),?_⟩;exact⟨Ext.Vt Q,rfl⟩
abbrev obV(k:Int)(t:No):hU:=.agg #[vi k,vs t]
def pe(k:Int)(t:No)(E:h7)(fz:Nat×Nat):aF (some (true,2)) (some (.cells #[vi k,vs t] E fz)) 0=some (obV k t):=(rfl)
def pa(k:Int)(t:No)(n:Nat)(E:h7)(fz:Nat×Nat):aF (some (false,n)) (some (.cells #[vi k,vs t] E fz)) 0=some (vi k):=(rfl)
def pz(k:Int)(t:No)(n:Nat)(E:h7)(fz:Nat×Nat):aF (some (false,n)) (some (.cells #[vi k,vs t] E fz)) 1=some (vs t):=(rfl)
def pq(k b:Int)(t t':No)(a:Bool)(E:h7):aZ (some (a,2)) (some (.cells #[vi b,vs t'] E (0,0))) 0 (obV k t)=some (.cells #[vi k,vs t] E (0,0)):=(rfl)
def qg6(k:Int)(t:No):Bool:=
 if 1<=k/\k<=3/\t.length<=4096 then
  (if k=1 then true else if k=2 then(dE t (fS t).2.1 (fS t).2.2==0&&jJ (fS t).1) else(dE t (ZN t).2.1 (ZN t).2.2==0&&iK (ZN t).1))
 else false
def qd1:ac prog 143=some (obV 0 []):=id kR
def qm:cL (bP prog 143) (ac prog 143) []=some (obV 0 []):=by have a:bP prog 143=some [(0,1),(1,1)]:=id kR;rw[a,qd1];rfl
def qf5.qg8{w0:hW}{L X D:aA}{b:Nat}(a:qf5 w0 L X D)(d:Vq (b+1) X)(e:b∈keys L):Vq (b+1) D:=Vq.of_le fun c f=>by
 rcases a.new c f with h| ⟨h,-⟩
 .exact d.le c h
 have:=aQ h e;omega
def Av(k:Int):No:=(([32,98,116,99]:No).take (k+1).toNat).drop k.toNat
def TT(k:Int)(t:No):No:=Av k++c9 t
def iD:=aN (aN (aN @pe @pa) (aN @pz @pq)) (aN (aN @Sx.Wk @Sx.Wl) (qS1 @ED @bA @b9))
def XF(k:Int)(t:No):Bool:=if 4096<t.length then false else if k=2 then(g' t).isSome else if k=3 then(i7 t).isSome else k==1
def UT(k:Int)(t:No)(w:hW):Va prog 66 #[obV k t] w (fun v D=>v=.bool (XF k t)/\D=[]):=by
 refine Va.Vr func66 rfl (rs:=[.tmp 2]) results66 ntmps66 ?_;refine kf ?_;refine ky @iD ?_;refine Ow.box rfl rfl fun s I f=>?_;simp only[dS,cz,dL,ag,Vy];refine ko @iD ?_;unfold XF;by_cases q:4096<t.length
 .have e:decide (4096< (t.length:Int))=true:=aP oM;rw[Vb q];refine ky (aN @iD @e) ?_;refine⟨_,(ke @iD),⟨f,trivial⟩,?_⟩
  rfl
 have e:decide (4096< (t.length:Int))=false:=aW oM;rw[tr q];by_cases g:k=2
 .subst g;rw[Vb rfl];refine ky (aN @iD @e) ?_;refine Ow.Wf rfl rfl call114 (fun i u=>Ft t i oM) (fun B v D y j m d=>?_);obtain⟨p,b,rfl,n⟩:∃p b,v=.tuple #[p,.bool b]/\(g' t).isSome=b:=by
   unfold ob at d;cases h:g' t with
   |none=>rw[h] at d;exact⟨_,_,d,rfl⟩
   |some l=>rw[h] at d;obtain⟨v1,rfl,-⟩:=d;exact⟨_,_,rfl,rfl⟩
  rw[n];refine ko @iD ?_;refine ky @iD ?_;refine⟨_,(ke @iD),⟨f,Vq.mono j m⟩,?_⟩
  rfl
 have r:(k==2)=false:=by simpa using g
 rw[tr g];by_cases o:k=3
 .subst o;rw[Vb rfl];refine ky (qS1 @iD @e @r) ?_;refine Ow.Wf rfl rfl call115 (fun i u=>FI t i oM) (fun B v D y j m d=>?_);obtain⟨c,p,x,b,rfl,z,n⟩:∃c p x b,v=.tuple #[.agg (bI c p x).toArray,.bool b]/\Value.oneCell' p=true/\(i7 t).isSome=b:=by
   unfold ox at d;cases h:i7 t with
   |none=>rw[h] at d;exact⟨_,_,_,_,d,rfl,rfl⟩
   |some l=>rw[h] at d;obtain⟨v1,rfl,A⟩:=d;exact⟨_,_,_,_,rfl,A.cell.1,rfl⟩
  rw[n];have C:∀a E,aZ (some (a,34)) (some (.cells (bI XY Vj []).toArray E (0,0))) 0 (.agg (bI c p x).toArray)=some (.cells (bI c p x).toArray E (0,0)):=fun a E=>nE _ _ _ _ a E (by rw[Wd,rF]) z;refine ko @iD ?_;refine Ow.alloc rfl rfl li fun F J G=>?_;simp only[ag,Vy,Wp];refine Ow.Vd (M:=(F,Obj.cells (bI XY Vj []).toArray 202 (0,0))::(s,Wh (vi 3) (vs t))::D) Xm ?_;refine ko (aN @iD @C) ?_;refine ky @iD ?_;refine⟨_,(ke @iD),⟨G,f,Vq.mono j m⟩,?_⟩
  rfl
 have H:(k==3)=false:=by simpa using o
 rw[tr o];refine ky (qS2 @iD @e @r @H) ?_;refine⟨_,(ke @iD),⟨f,trivial⟩,?_⟩
 rfl
def I3(most:Int):∀ (l:No) (k acc m a:Nat),bR most l k acc=.ok (m,a)-> ∃n,l=co n++l.drop (a - k)/\m=acc+n*128^k/\(0<k->0<n)/\k<a:=by
 intro l
 induction l with
 |nil=>intro k acc m a h;simp[bR] at h
 |cons c r b=>
  intro k acc m a h;unfold bR at h;have i:=c.toNat_lt
  split at h
  .rename_i d
   split at h
   .cases h
   obtain⟨n,e,f,g,j⟩:=b _ _ _ _ h;have o:=g oM;refine⟨c.toNat%128+128*n,?_,?_,fun _=>by omega,by omega⟩
   .rw[rC oM,show(c.toNat%128+128*n) / 128=n by omega,show(c.toNat%128+128*n)%128+128=c.toNat by omega];rw[show a - k=(a - (k+1))+1 by omega,List.drop_succ_cons,Wp,<-e];simp
   rw[f,Nat.pow_succ,Nat.add_mul,Nat.add_assoc];congr 2;rw[Nat.mul_comm 128 n,Nat.mul_assoc,Nat.mul_comm (128^k) 128]
  rename_i d
  split at h
  .cases h
  rename_i p
  split at h
  .cases h;refine⟨c.toNat,?_,?_,fun q=>by omega,by omega⟩
   .rw[qN oM,Nat.add_sub_cancel_left];simp
   rw[X7 oM]
  cases h
def DV{n:Nat}(h:n<=1099511627775):cb (n:Int)=n:=rM oM
theorem U4(most:Int):∀ (l:No) (k n m a:Nat),bR most l k n=.ok (m,a)->m<=1099511627775
 | [],_,_,_,_,h=>by simp[bR] at h
 |c::r,k,n,m,a,h=>by
  unfold bR at h
  split at h
  .split at h
   .cases h
   exact U4 most r _ _ _ _ h
  split at h
  .cases h
  split at h
  .rename_i b;cases h;exact b.1
  cases h
def DN{s:No}{a:Nat}{most:Int}(h:(aE s a 0 most).2.2=0):∃n:Nat,(aE s a 0 most).1=(n:Int)/\n<=1099511627775/\(n:Int)<=most/\s.drop a=co n++s.drop (aE s a 0 most).2.1:=by
 unfold aE at h |-;rw[tr V_] at h |-;cases b:bR most (s.drop a) 0 0 with
 |ok p=>
  obtain⟨m,k⟩:=p;obtain⟨n,c,d,-,-⟩:=I3 _ _ _ _ _ _ b;obtain rfl:m=n:=by rw[d];simp
  refine⟨m,rfl,U4 _ _ _ _ _ _ b,DJ _ _ _ _ _ _ b,?_⟩;rw[Nat.sub_zero,List.drop_drop] at c;exact c
 |error x=>
  rw[b] at h;exfalso;have:x=0:=by have:((x:Nat):Int)=0:=h;omega
  subst this;exact wu _ _ _ _ b
def sE{s:No}{a:Nat}{n:Int}(d:a<=s.length)(h:(aw s a 0 n).2.2=0):0<=n/\(aw s a 0 n).1.length=n.toNat/\s.drop a=(aw s a 0 n).1++s.drop (aw s a 0 n).2.1:=by
 unfold aw at h |-;rw[tr V_] at h |-
 split at h
 .exact Vx (show(2:Int)=0 from h) WT
 rename_i b;rw[tr b]
 split at h
 .exact Vx (show(3:Int)=0 from h) WT
 rename_i c;rw[tr c];refine⟨by omega,?_,?_⟩
 .simp only[W3,XC];omega
 simp only;rw[<-List.drop_drop,Y1]
def Ue{s:No}{a:Nat}{most:Int}(k:a<=s.length)(h:(aS s a 0 most).2.2=0):((aS s a 0 most).1.length:Int)<=most/\s.drop a=c9 (aS s a 0 most).1++s.drop (aS s a 0 most).2.1:=by
 have f:=fO (e:=0) (most:=most) k;have c:(aE s a 0 most).2.2=0:=Za fun b=>by unfold aS at h;simp only[lT b] at h;rw[Vb b] at h;exact b h
 obtain⟨n,b,l,m,g⟩:=DN c;unfold aS at h |-;simp only at h |-;generalize aE s a 0 most=p at*;obtain⟨r,o,t⟩:=p;simp only at c b g f h |-;subst c b;have i:(aw s o 0 (n:Int)).2.2=0:=Za fun j=>by rw[Vb j] at h;exact j h
 rw[tr (by simp[i])];obtain⟨-,d,q⟩:=sE f.2 i;rw[WX] at d;refine⟨by rw[d];exact m,?_⟩;unfold c9;rw[d,DV l,Wb,<-q];exact g
def Dv{s:No}{a:Nat}(b:a<=s.length)(h:(X5 s a 0).2.2=0):s.drop a=(fj (X5 s a 0).1).l++s.drop (X5 s a 0).2.1:=by have c:(aw s a 0 32).2.2=0:=h;obtain⟨-,d,e⟩:=sE b c;rw[CB (lI s a 0)];unfold X5;simp only;have f:(aw s a 0 32).1.length=32:=d;rw[Vb f];exact e
def IU{s:No}{a:Nat}(l:a<=s.length)(h:(Zd s a 0).2.2=0):s.drop a=qi9 (Zd s a 0).1++s.drop (Zd s a 0).2.1:=by
 have c:=fO (e:=0) (most:=2) l;unfold Zd at h |-;simp only at h |-;have d:(aE s a 0 2).2.2=0:=Za fun b=>by rw[js (by rw[lG b];exact b),lG b] at h;exact b h
 obtain⟨n,b,m,-,g⟩:=DN d;generalize aE s a 0 2=p at*;obtain⟨r,i,t⟩:=p;simp only at d b g c h |-;subst d b;have j:=gA (e:=0) (most:=32) c.2;have f:(aS s i 0 32).2.2=0:=Za fun b=>by rw[js b] at h;exact b h
 obtain⟨-,k⟩:=Ue c.2 f;generalize aS s i 0 32=o at*;obtain⟨u,v,w⟩:=o;simp only at f k j h |-;subst f;have q:=Dv j.2 h;unfold qi9;simp only;rw[DV m,Wb,Wb,<-q,<-k];exact g
def Jj(l:List WS)(x:WS):fU (l++[x])=fU l++qi9 x:=by unfold fU;simp
theorem UM{s:No}:∀ (n a:Nat) (e:Int) (l:List WS),a<=s.length->(e=0->s=fU l++s.drop a)->((iX s n a e l).2.2=0->s=fU (iX s n a e l).1++s.drop (iX s n a e l).2.1)
 |0,_,_,_,_,h=>h
 |n+1,a,e,l,c,h=>by
  by_cases b:e=0/\a<s.length
  .rw[Dk b];refine UM n _ _ _ (o7 c).2 fun d=>?_;obtain⟨rfl,-⟩:=b;rw[Jj,Wb,<-IU c d];exact h rfl
  rw[ET b];exact h
def Dj{s:No}{a:Nat}{e:Int}(h:dE s a e=0):e=0/\s.length<=a:=by
 unfold dE at h
 split at h
 .rename_i b;exact Vx h b
 rename_i b
 split at h
 .exact Vx h WT
 exact⟨Za b,by omega⟩
def I0{s:No}(h:dE s (fS s).2.1 (fS s).2.2=0):fU (fS s).1=s:=by obtain⟨a,b⟩:=Dj h;have:=UM (s:=s) (s.length+1) 0 0 [] (aR _) (fun _=>by simp[fU]) a;rw[show iX s (s.length+1) 0 0 []=fS s from rfl,List.drop_eq_nil_of_le b,VX] at this;exact this.symm
theorem Uo{s:No}:∀ (n a:Nat) (e:Int) (l:List WS),a<=s.length->(e=0->s.length<a+n)->(iX s n a e l).2.2=0->s.length<= (iX s n a e l).2.1
 |0,a,e,l,c,d,h=>by have:=d h;show s.length<=a;omega
 |n+1,a,e,l,c,d,h=>by
  by_cases b:e=0/\a<s.length
  .rw[Dk b] at h |-;refine Uo n _ _ _ (o7 c).2 (fun f=>?_) h;obtain⟨rfl,-⟩:=b;have:=wK c f;have:=d rfl;omega
  rw[ET b] at h |-;have g:e=0:=h;exact Za fun i=>b ⟨g,by have j:¬s.length<=a:=i;omega⟩
def t2(s:No):(dE s (fS s).2.1 (fS s).2.2=0)↔(fS s).2.2=0:=by refine⟨fun h=>(Dj h).1,fun h=>?_⟩;have:=Uo (s:=s) (s.length+1) 0 0 [] (aR _) (fun _=>by omega) h;have a:s.length<= (fS s).2.1:=this;unfold dE;rw[tr (by simp[h]),tr oM]
def LF(l:List Xl)(x:Xl):qb5 (l++[x])=qb5 l++x.l:=by unfold qb5;simp
theorem Uk{s:No}{a:Nat}(c:a<=s.length):∀n,(cF s a 0 n).2.2=0->s.drop a=qb5 (cF s a 0 n).1++s.drop (cF s a 0 n).2.1
 |0,_=>by simp[cF,qb5]
 |n+1,h=>by
  unfold cF at h |-;simp only at h |-;have b:(cF s a 0 n).2.2=0:=Za fun d=>by rw[js d] at h;exact d h
  have f:=Uk c n b;have g:=CN (e:=0) c n;generalize cF s a 0 n=p at*;obtain⟨i,j,k⟩:=p;simp only at b f g h |-;subst b;rw[LF,Wb,<-Dv g h];exact f
theorem A0{s:No}{a:Nat}{e:Int}(b:e≠0):∀n,(cF s a e n).2=(a,e)
 |0=>rfl
 |n+1=>by have c:=A0 (s:=s) (a:=a) b n;unfold cF;simp only;rw[c,js b]
def Jq{s:No}(h:dE s (ZN s).2.1 (ZN s).2.2=0):qh5 (ZN s).1=s:=by
 obtain⟨c,j⟩:=Dj h;have t:=ip (s:=s) (a:=0) (e:=0) (aR _);have m:=fO (e:=(X5 s 0 0).2.2) (most:=4) t.2;unfold ZN at c j |-;simp only at c j |-;have d:(eu s).2.2=0:=Za fun b=>by unfold qh6 at c;rw[lG b] at c;exact b c
 have f:(qg7 s).2.2=0:=Za fun b=>by unfold eu at d;rw[A0 b] at d;exact b d
 have k:(X5 s 0 0).2.2=0:=Za fun b=>by unfold qg7 at f;rw[oq b] at f;exact b f
 have u:=Dv (aR _) k;rw[k] at m;have i:qg7 s=aE s (X5 s 0 0).2.1 0 4:=by unfold qg7;rw[k]
 rw[i] at f;obtain⟨n,b,v,-,o⟩:=DN f;have g:eu s=cF s (qg7 s).2.1 0 n:=by unfold eu;rw[i,f,b,WX]
 have p:(qg7 s).2.1<=s.length:=by rw[i];exact m.2
 rw[g] at d;have q:=Uk p n d;have w:(eu s).1.length=n:=by rw[g,Di]
 have r:qh6 s=aS s (eu s).2.1 0 64:=by unfold qh6;rw[g,d]
 have x:(eu s).2.1<=s.length:=by rw[g];exact CN p n
 rw[r] at c;obtain⟨-,l⟩:=Ue x c;rw[<-r] at l;rw[<-g] at q;rw[<-i] at o;unfold qh5 g_;simp only;rw[w,DV v];rw[List.drop_eq_nil_of_le j,VX] at l;rw[Wb,Wb,<-l,<-q,<-o,<-u]
 rfl
def ri(k:Int)(t:No):qg6 k t=XF k t:=by
 unfold qg6 XF;by_cases d:4096<t.length
 .rw[tr oM,Vb d]
 rw[tr d];by_cases c:k=2
 .subst c;rw[Vb oM,tr WT,Vb rfl,Vb rfl];unfold g';by_cases a:dE t (fS t).2.1 (fS t).2.2=0
  .have:=I0 a;have b:=(t2 t).1 a;rw[a];cases f:jJ (fS t).1
   .rw[tr (fun h=>by cases h.2.1)];rfl
   rw[Vb ⟨b,rfl,this⟩];rfl
  have g:¬ (fS t).2.2=0:=fun h=>a ((t2 t).2 h);simp[a,g]
 by_cases e:k=3
 .subst e;rw[Vb oM,tr WT,tr WT,tr WT,Vb rfl];unfold i7;by_cases a:dE t (ZN t).2.1 (ZN t).2.2=0
  .have:=Jq a;cases f:iK (ZN t).1<;>simp[a,this]
  simp[a]
 rw[tr c,tr e];by_cases b:k=1
 .subst b;rw[Vb oM];rfl
 rw[tr oM];simp[b,c]
def qP5(s:No):No->Int
 | []=>0
 |c::_=>Lib.indexByte s c
abbrev qK5:No:=[32,98,116,99]
def frR(s:No):No×Nat×Int:=aw s 0 0 1
def frT(s:No):No×Nat×Int:=aS s (frR s).2.1 (frR s).2.2 4096
def frK(s:No):Int:=qP5 qK5 (frR s).1
def Z3(s:No):Bool:=dE s (frT s).2.1 (frT s).2.2==0&&qg6 (frK s) (frT s).1
def fkC(c:Vf):Int:=if c=98 then 1 else if c=116 then 2 else if c=99 then 3 else 0
def lfT(r:No):No×Nat×Int:=aS r 0 0 4096
def lfK(s:No):Int:=match s with| []=>0|c::_=>fkC c
def qe1(s:No):Bool:=lfK s !=0&&dE (s.drop 1) (lfT (s.drop 1)).2.1 (lfT (s.drop 1)).2.2==0&&XF (lfK s) (lfT (s.drop 1)).1
def AE(s:No)(v:hU):Prop:=v=.tuple #[obV (if qe1 s then lfK s else 0) (if qe1 s then(lfT (s.drop 1)).1 else []),.bool (qe1 s)]
def N5(k b:Int)(t:No)(a:Bool)(E:h7):aZ (some (a,1)) (some (.cells #[vi b,vs t] E (0,0))) 0 (vi k)=some (.cells #[vi k,vs t] E (0,0)):=(rfl)
def M4(k:Int)(t t':No)(a:Bool)(E:h7):aZ (some (a,1)) (some (.cells #[vi k,vs t'] E (0,0))) 1 (vs t)=some (.cells #[vi k,vs t] E (0,0)):=(rfl)
def dP:=aN (aN (aN @pe @pa) (qS1 @pz @pq @N5)) (aN (aN @M4 @Sx.Wk) (qS1 @Sx.Wl @bA @b9))
def rU(s:No)(w:hW)(T:s.length<1099511627776):Va prog 112 #[vs s] w (fun v D=>AE s v/\D=[]):=by
 refine Va.Vr func112 rfl (rs:=[.cell 2 143,.tmp 3]) results112 ntmps112 ?_;refine kf ?_;refine kz [1000004] @dP ?_;refine Ow.alloc rfl rfl qd1 fun m U h=>?_;simp only[ag,Vy,Wp];refine ko @dP ?_;by_cases E:s.length=0
 .obtain rfl:s=[]:=Zm E;have t:(((([]:No).length:Nat):Int)==0)=true:=rfl;refine ky (aN @dP @t) ?_;refine Ow.build (obV 0 []) rfl qm ?_;refine ko @dP ?_;refine ky @dP ?_;refine⟨_,(ke @dP),⟨h,trivial⟩,?_⟩
  rfl
 have t:((s.length:Int)==0)=false:=WN.2 oM;obtain⟨c,r,rfl⟩:∃c r,s=c::r:=by cases s with|nil=>exact Vx rfl E|cons c r=>exact⟨c,r,rfl⟩
 have F:(c::r).drop 1=r:=rfl;have i:(c::r).getD 0 0=c:=rfl;have V:(c::r).length=r.length+1:=rfl;have W:r.length<1099511627775:=by omega
 refine ky (aN @dP @t) ?_;refine Ow.build (obV 0 []) rfl qm ?_;refine ko @dP ?_;refine Ow.alloc rfl rfl qd1 fun n K o=>?_;simp only[ag,Vy,Wp];have X:m<n:=aQ K Wg;have H:=gA (s:=r) (a:=0) (e:=0) (most:=4096) (aR _);have L:lfT r=aS r 0 0 4096:=rfl;have b:qe1 (c::r)=(fkC c !=0&&dE r (lfT r).2.1 (lfT r).2.2==0&&XF (fkC c) (lfT r).1):=rfl;have M:lfK (c::r)=fkC c:=rfl;unfold AE;rw[M,F];have I:(aS r 0 0 4096).1.length<=r.length:=Ds _ _ _ _;have Y:fkC c=0\/fkC c=1\/fkC c=2\/fkC c=3:=by unfold fkC;split<;>(try split)<;>(try split)<;>simp
 refine ko @dP ?_;refine kz [1000004] (aN @dP @i) ?_;refine Cw.cut (G:=Int) 40 (fun g=>[(0,vs (c::r)),(2,vp m 0),(3,.bool false),(4,vp n 0)]) (fun g=>[(m,Wh (vi 0) (vs [])),(n,Wh (vi g) (vs []))]) (fun g=>g=fkC c/\g≠0) ?_ ?_
 .by_cases u:c=98
  .subst u;refine ky (aN @dP @i) ?_;exact ql3.mk 1 ⟨rfl,by decide⟩ rfl rfl
  have x:(c==98)=false:=by simpa using u
  by_cases y:c=116
  .subst y;refine ky (qS1 @dP @x @i) ?_;exact ql3.mk 2 ⟨rfl,by decide⟩ rfl rfl
  have d:(c==116)=false:=by simpa using y
  by_cases z:c=99
  .subst z;refine ky (qS2 @dP @x @d @i) ?_;exact ql3.mk 3 ⟨rfl,by decide⟩ rfl rfl
  have N:(c==99)=false:=by simpa using z
  have O:fkC c=0:=by unfold fkC;rw[tr u,tr y,tr z]
  rw[O] at b |-;rw[b];refine ky (qS3 @dP @x @d @N @i) ?_;refine Ow.build (obV 0 []) rfl qm ?_;refine ko @dP ?_;refine ky @dP ?_;refine⟨_,(ke @dP),⟨h,o,trivial⟩,?_⟩
  rfl
 intro g j P;simp only[SN,Su,pin,mM,mO,Nat.reduceAdd];obtain⟨rfl,Q⟩:=P;have R:(fkC c !=0)=true:=by simpa using Q
 rw[R,XA] at b;generalize fkC c=k at b |-;refine ky (aN @dP @F) ?_;refine Ow.build (.agg #[vs r,vi 0,vi 0]) rfl (Kx r) ?_;refine ko @dP ?_;refine Ow.box rfl rfl fun br J A=>?_;have Z:m<br:=aQ J Wg;have za:n<br:=aQ J Wg;refine Yx ?_;refine ko @dP ?_;refine Ow.WA rfl rfl call96 Wg (fun l p=>pY br r 0 0 4096 l (aR _) oM (p.has _ _ V_)) ?_;rw[<-L] at H I |-;generalize lfT r=S at*;obtain⟨tt,f,d⟩:=S;simp only at b H I |-;refine kn ?_;refine ko @dP ?_;refine Ow.Vc rfl call98 (fun l p=>UH br r f d l (p.has _ _ V_)) ?_;by_cases q:dE r f d=0
 .have B:(dE r f d !=0)=false:=by simp[q]
  have C:(dE r f d==0)=true:=by simp[q]
  rw[C,XA] at b;rw[b];refine ko (aN @dP @B) ?_;refine Ow.Vc rfl call66 (fun l p=>UT k tt l) ?_;cases hr:XF k tt
  .refine ko @dP ?_;refine Ow.build (obV 0 []) rfl qm ?_;refine ko @dP ?_;refine ky @dP ?_;refine⟨_,(ke @dP),⟨h,o,A,trivial⟩,?_⟩
   rfl
  refine ko @dP ?_;refine ky @dP ?_;refine⟨_,(ke @dP),⟨h,o,A,trivial⟩,?_⟩
  rfl
 have B:(dE r f d !=0)=true:=by simpa using q
 have C:(dE r f d==0)=false:=by simpa using q
 rw[C,Xv] at b;rw[b];refine ko (aN @dP @B) ?_;refine Ow.build (obV 0 []) rfl qm ?_;refine ko @dP ?_;refine ky @dP ?_;refine⟨_,(ke @dP),⟨h,o,A,trivial⟩,?_⟩
 rfl
end Go.Proofs
end
namespace Go.Flo
open Go Ieee
abbrev F(n:Int):Nat:=FloatKind.f64.nearest n
def dat(n:Int):Datum:=.number (decide (n<0)) (n.natAbs*2^ (52 - n.natAbs.log2)) ((n.natAbs.log2:Int) - 52)
def Ac{a:Nat}(h:a<8192):a.log2<13\/a=0:=by
 by_cases b:a=0
 .exact .inr b
 exact .inl ((Nat.log2_lt b).2 h)
def qP0:FloatKind.f64.decode (F 0)=.number false 0 (-1074):=by kernel_rfl
def Ov(a:Bool)(n:Nat):Toward.even.cut a n 0=n:=by simp[Toward.cut,Nat.mod_one]
def dec{n:Int}(z:n≠0)(h:n.natAbs<8192):FloatKind.f64.decode (F n)=dat n:=by
 have c:n.natAbs≠0:=by omega
 generalize f:n.natAbs=a at*;have A:a.log2<13:=(Nat.log2_lt c).2 h;have p:2^a.log2<=a:=Nat.log2_self_le c;have q:a<2^ (a.log2+1):=Nat.lt_log2_self;generalize g:a.log2=k at*;have i:2^ (52 - k)*2^k=2^52:=by rw[<-Nat.pow_add];congr 1;omega
 have r:2^ (k+1)=2*2^k:=by rw[Nat.pow_succ];omega
 have B:2^52<=a*2^ (52 - k):=by rw[<-i,Nat.mul_comm];exact Y0 _ p
 have C:a*2^ (52 - k)<2*2^52:=by have j:=Nat.mul_lt_mul_of_pos_right q (show 0<2^ (52 - k) from Nat.pow_pos oM);rw[r,Nat.mul_assoc,Nat.mul_comm (2^k),i] at j;exact j
 have s:F n=Ieee.double.word (decide (n<0)) ((k+1022)*2^52+a*2^ (52 - k)):=by
  show Ieee.double.nearest (decide (n<0)) n.natAbs 0=_;rw[f];unfold Format.nearest;rw[tr c,g];have t:max ((0:Int)+ (k:Int) - (Ieee.double.fractionBits:Int)) Ieee.double.leastPlace=(k:Int) - 52:=by
   have b:Ieee.double.leastPlace= -1074:=by decide
   have u:(Ieee.double.fractionBits:Int)=52:=rfl;rw[b,u];omega
  rw[t];have v:((k:Int) - 52 - 0).toNat=0:=by omega
  have w:((0:Int) - ((k:Int) - 52)).toNat=52 - k:=by omega
  simp only[v,w,Ov,Nat.shiftLeft_eq];have x:((k:Int) - 52 - Ieee.double.leastPlace).toNat=k+1022:=by
   have b:Ieee.double.leastPlace= -1074:=by decide
   rw[b];omega
  have d:Ieee.double.binade=2^52:=rfl;have e:Ieee.double.infRung=2047*2^52:=rfl;rw[x,d,e,Nat.min_eq_left oM]
 show Ieee.double.read (F n)=_;rw[s];generalize y:a*2^ (52 - k)=X at*;have d:Ieee.double.binade=2^52:=rfl;have e:Ieee.double.infRung=2047*2^52:=rfl;have l:Ieee.double.signWeight=2^63:=rfl;have b:Ieee.double.leastPlace= -1074:=by decide
 have m:(Ieee.double.word (decide (n<0)) ((k+1022)*2^52+X) / 2^63%2==1)=decide (n<0)/\Ieee.double.word (decide (n<0)) ((k+1022)*2^52+X)%2^63=(k+1022)*2^52+X:=by
  unfold Format.word;rw[l];by_cases o:n<0
  .rw[aP o,Vb rfl];refine⟨?_,by omega⟩;rw[W8];omega
  rw[aW o,tr V_];refine⟨?_,by omega⟩;rw[WN];omega
 unfold Format.read;simp only[l,m.1,m.2,d,e,b];rw[tr oM,Vb oM];unfold dat;rw[f,g,y];congr 1
 .omega
 omega
def sgn(n:Int)(a:Nat):signed (decide (n<0)) (n.natAbs*2^a) 0=n*2^a:=by
 unfold signed;rw[Nat.shiftLeft_eq,Nat.pow_zero,Nat.mul_one];by_cases h:n<0
 .rw[aP h,Vb rfl];rw[Y_,<-Int.neg_mul];congr 1;omega
 rw[aW h,tr V_,Y_];congr 1;omega
def plc(n:Int):Int:=if n=0 then -1074 else(n.natAbs.log2:Int) - 52
def mag(n:Int):Nat:=if n=0 then 0 else n.natAbs*2^ (52 - n.natAbs.log2)
def qA5{n:Int}(h:n.natAbs<8192):FloatKind.f64.decode (F n)=.number (decide (n<0)) (mag n) (plc n):=by
 by_cases a:n=0
 .subst a;rw[qP0];rfl
 rw[dec a h];unfold dat mag plc;rw[tr a,tr a]
def qL4{n base:Int}(h:n.natAbs<8192)(b:base<=plc n):signed (decide (n<0)) (mag n) (plc n - base).toNat=n*2^ (-base).toNat:=by
 by_cases a:n=0
 .subst a;simp[signed,mag]
 have f:n.natAbs.log2<13:=by rcases Ac h with c|c;exact c;omega
 have d:52 - n.natAbs.log2+ (plc n - base).toNat=(-base).toNat:=by unfold plc at b |-;rw[tr a] at b |-;omega
 have e:signed (decide (n<0)) (mag n) (plc n - base).toNat=signed (decide (n<0)) (n.natAbs*2^ (-base).toNat) 0:=by unfold signed mag;rw[tr a,<-d,Nat.pow_add];simp only[Nat.shiftLeft_eq,Nat.pow_zero,Nat.mul_one,Nat.mul_assoc]
 rw[e,sgn]
def Q5{a b k:Int}(c:0<k):compare (a*k) (b*k)=compare a b:=by simp only[compare,compareOfLessAndEq];have d:a*k<b*k↔a<b:=Int.mul_lt_mul_right c;have e:a*k=b*k↔a=b:=Int.mul_eq_mul_right_iff oM;simp only[d,e]
def ord{a b:Int}(c:a.natAbs<8192)(d:b.natAbs<8192):FloatKind.f64.format.order (F a) (F b)=some (compare a b):=by have e:FloatKind.f64.format.read (F a)=_:=qA5 c;have f:FloatKind.f64.format.read (F b)=_:=qA5 d;unfold Format.order;rw[e,f];unfold Datum.order;simp only;have g:min (plc a) (plc b)<=plc a:=Int.min_le_left ..;have h:min (plc a) (plc b)<=plc b:=Int.min_le_right ..;rw[qL4 c g,qL4 d h,Q5];exact Int.pow_pos oM
def qP6{a:Int}(h:a.natAbs<8192):(FloatKind.f64.decode (F a)).toInt .zero=some a:=by
 rw[qA5 h];by_cases b:a=0
 .subst b;rfl
 have j:a.natAbs.log2<13:=by rcases Ac h with c|c;exact c;omega
 unfold Datum.toInt Datum.integral;simp only;have d:plc a=(a.natAbs.log2:Int) - 52:=by unfold plc;rw[tr b]
 have e:mag a=a.natAbs*2^ (52 - a.natAbs.log2):=by unfold mag;rw[tr b]
 rw[d,e];have f:((a.natAbs.log2:Int) - 52).toNat=0:=by omega
 have g:(-((a.natAbs.log2:Int) - 52)).toNat=52 - a.natAbs.log2:=by omega
 rw[f,g,Nat.shiftLeft_zero];have i:(a.natAbs*2^ (52 - a.natAbs.log2)).log2+2≥52 - a.natAbs.log2:=by have:2^ (52 - a.natAbs.log2)<=a.natAbs*2^ (52 - a.natAbs.log2):=Nat.le_mul_of_pos_left _ oM;have l:=(Nat.le_log2 (n:=a.natAbs*2^ (52 - a.natAbs.log2)) (k:=52 - a.natAbs.log2) (by have:=Nat.pow_pos (a:=2) (n:=52 - a.natAbs.log2) oM;omega)).2 this;omega
 unfold Toward.cut;simp only;rw[Nat.min_eq_left i,Nat.shiftLeft_eq,Nat.one_mul,Nat.mul_div_cancel _ (Nat.pow_pos oM)];have:=sgn a 0;rw[Nat.pow_zero,Nat.mul_one] at this;simp only[Bool.toNat_false,XL];rw[this];simp
end Go.Flo
namespace Go.Sx
open Go Go.Flo
def fl(n:Int):hU:=.float .f64 (F n)
def cx(a b:Int):hU:=.complex .f64 (F a) (F b)
section
variable {P:h_} {w0:hW} {f:Fr} {L:aA} {N:Fr->aA->Prop} {ops:Array Oper} {rest:List Oper} {md:Md}
 {d:Option Tmp} {ty:h7} {ps:String} {af:Array Edge} {g:Option (Nat×Bool)}
def Ow.qe6{s a:h7}{x:Operand}{n:Int}{b:Md}(c:md.WM=some b)(e:ay ops f ⟨d,.convert s a x,ty,ps,af,g⟩=false)
  (h:Z_ P s a=.no) (i:P.underlying s=some (.int .i64)) (j:P.underlying a=some (.float .f64)) (k:ev f x=vi n)
  (l:Ow P w0 ops b rest (aa f d (fl n)) L N):Ow P w0 ops md (⟨d,.convert s a x,ty,ps,af,g⟩::rest) f L N:=by
 refine Ow.step c (by simp[eF,h]) e fun w m=>.inl ⟨fl n,w,L,?_,m,l⟩;have o:(convert s a (vi n)).run P w=.ok (fl n) w:=by
  unfold convert;simp only[vi,Vp,Wn i w,Wn j w,VT]
  rfl
 simp only[execOp,Vp,k,o]
 rfl
def Ow.qA4{s a:h7}{x:Operand}{n:Int}{b:Md}(c:md.WM=some b)(e:ay ops f ⟨d,.convert s a x,ty,ps,af,g⟩=false)
  (h:Z_ P s a=.no) (i:P.underlying s=some (.float .f64)) (j:P.underlying a=some (.int .i64)) (k:ev f x=fl n) (l:n.natAbs<8192)
  (m:Ow P w0 ops b rest (aa f d (vi n)) L N):Ow P w0 ops md (⟨d,.convert s a x,ty,ps,af,g⟩::rest) f L N:=by
 refine Ow.step c (by simp[eF,h]) e fun w o=>.inl ⟨vi n,w,L,?_,o,m⟩;have p:(convert s a (fl n)).run P w=.ok (vi n) w:=by
  unfold convert;simp only[fl,Vp,Wn i w,Wn j w,VT];show(Conv.floatToInt .f64 (F n) .i64).run P w=_;unfold Conv.floatToInt;simp only[qP6 l];have q:IntKind.i64.min= -9223372036854775808:=rfl;have r:IntKind.i64.max=9223372036854775807:=rfl;rw[Vb (by rw[q,r];omega)]
  rfl
 simp only[execOp,Vp,k,p]
 rfl
def Ru(a b:Int):(some (compare a b)==some Ordering.lt||some (compare a b)==some Ordering.eq)=decide (a<=b):=by
 simp only[compare,compareOfLessAndEq];by_cases c:a<b
 .rw[Vb c,aP oM];rfl
 by_cases d:a=b
 .rw[tr c,Vb d,aP oM];rfl
 rw[tr c,tr d,aW oM];rfl
def Qc(a b:Int):(some (compare a b)==some Ordering.gt||some (compare a b)==some Ordering.eq)=decide (b<=a):=by
 simp only[compare,compareOfLessAndEq];by_cases c:a<b
 .rw[Vb c,aW oM];rfl
 by_cases d:a=b
 .rw[tr c,Vb d,aP oM];rfl
 rw[tr c,tr d,aP oM];rfl
def QC(a b:Int):(some (compare a b)==some Ordering.eq)=(a==b):=by
 simp only[compare,compareOfLessAndEq];by_cases d:a<b
 .have:(a==b)=false:=by rw[WN];omega
  rw[Vb d,this];rfl
 by_cases c:a=b
 .rw[tr d,Vb c,c];simp
 have:(a==b)=false:=by rw[WN];exact c
 rw[tr d,tr c,this];rfl
def Ow.qP4{t t':h7}{x y:Operand}{a b:Int}(c:ay ops f ⟨d,.binOp .leq t x y t',ty,ps,af,g⟩=false)(e:ev f x=fl a)(h:ev f y=fl b)(i:a.natAbs<8192)(j:b.natAbs<8192)
  (k:Ow P w0 ops md.next rest (aa f d (.bool (decide (a<=b)))) L N):Ow P w0 ops md (⟨d,.binOp .leq t x y t',ty,ps,af,g⟩::rest) f L N:=by
 refine Ow.qi1 rfl c (fun w=>?_) k;simp only[execOp,Vp,e,h];have l:(eqGuard .leq t x y (fl a) (fl b)).run P w=.ok () w:=rfl;have m:(binOp .leq t (fl a) (fl b)).run P w=.ok (.bool (decide (a<=b))) w:=by show Result.ok (Value.bool (FloatKind.f64.format.order (F a) (F b)==some .lt||FloatKind.f64.format.order (F a) (F b)==some .eq)) w=_;rw[ord i j,Ru]
 rw[l,VT,m]
 rfl
def Ow.qP3{t t':h7}{x y:Operand}{a b:Int}(c:ay ops f ⟨d,.binOp .geq t x y t',ty,ps,af,g⟩=false)(e:ev f x=fl a)(h:ev f y=fl b)(i:a.natAbs<8192)(j:b.natAbs<8192)
  (k:Ow P w0 ops md.next rest (aa f d (.bool (decide (b<=a)))) L N):Ow P w0 ops md (⟨d,.binOp .geq t x y t',ty,ps,af,g⟩::rest) f L N:=by
 refine Ow.qi1 rfl c (fun w=>?_) k;simp only[execOp,Vp,e,h];have l:(eqGuard .geq t x y (fl a) (fl b)).run P w=.ok () w:=rfl;have m:(binOp .geq t (fl a) (fl b)).run P w=.ok (.bool (decide (b<=a))) w:=by show Result.ok (Value.bool (FloatKind.f64.format.order (F a) (F b)==some .gt||FloatKind.f64.format.order (F a) (F b)==some .eq)) w=_;rw[ord i j,Qc]
 rw[l,VT,m]
 rfl
def Ow.qA6{t t':h7}{x y:Operand}{a b:Int}(c:ay ops f ⟨d,.binOp .eql t x y t',ty,ps,af,g⟩=false)(e:ev f x=fl a)(h:ev f y=fl b)(i:a.natAbs<8192)(j:b.natAbs<8192)
  (k:Ow P w0 ops md.next rest (aa f d (.bool (a==b))) L N):Ow P w0 ops md (⟨d,.binOp .eql t x y t',ty,ps,af,g⟩::rest) f L N:=by
 refine Ow.qi1 rfl c (fun w=>?_) k;simp only[execOp,Vp,e,h];have l:(eqGuard .eql t x y (fl a) (fl b)).run P w=.ok () w:=rfl;have m:(binOp .eql t (fl a) (fl b)).run P w=.ok (.bool (a==b)) w:=by show Result.ok (Value.bool (FloatKind.f64.format.order (F a) (F b)==some .eq)) w=_;rw[ord i j,QC]
 rw[l,VT,m]
 rfl
theorem Ow.real{x:Operand}{ts:Array h7}{a b:Int}(c:ay ops f ⟨d,.call ⟨.builtin .real,#[x],ts⟩,ty,ps,af,g⟩=false)(e:ev f x=cx a b)
  (h:Ow P w0 ops md.next rest (aa f d (fl a)) L N):Ow P w0 ops md (⟨d,.call ⟨.builtin .real,#[x],ts⟩,ty,ps,af,g⟩::rest) f L N:=by
 refine Ow.calm rfl rfl c (fun w i=>.inl ⟨fl a,w,L,?_,i,rfl,rfl⟩) h;simp only[execOp,resolve,Vp,Wm,VT,invoke,builtin,XM,VY,Wr,e]
 rfl
theorem Ow.imag{x:Operand}{ts:Array h7}{a b:Int}(c:ay ops f ⟨d,.call ⟨.builtin .imag,#[x],ts⟩,ty,ps,af,g⟩=false)(e:ev f x=cx a b)
  (h:Ow P w0 ops md.next rest (aa f d (fl b)) L N):Ow P w0 ops md (⟨d,.call ⟨.builtin .imag,#[x],ts⟩,ty,ps,af,g⟩::rest) f L N:=by
 refine Ow.calm rfl rfl c (fun w i=>.inl ⟨fl b,w,L,?_,i,rfl,rfl⟩) h;simp only[execOp,resolve,Vp,Wm,VT,invoke,builtin,XM,VY,Wr,e]
 rfl
def Ow.qo7{x y:Operand}{ts:Array h7}{a b:Int}(c:ay ops f ⟨d,.call ⟨.builtin .complex,#[x,y],ts⟩,ty,ps,af,g⟩=false)(e:ev f x=fl a)(h:ev f y=fl b)
  (i:Ow P w0 ops md.next rest (aa f d (cx a b)) L N):Ow P w0 ops md (⟨d,.call ⟨.builtin .complex,#[x,y],ts⟩,ty,ps,af,g⟩::rest) f L N:=by
 refine Ow.calm rfl rfl c (fun w j=>.inl ⟨cx a b,w,L,?_,j,rfl,rfl⟩) i;simp only[execOp,resolve,Vp,Wm,VT,invoke,builtin,XM,VY,Wr,e,h]
 rfl
end
end Go.Sx
namespace Go.Sx
open Go Go.Flo
def Mt(P:h_)(t:h7)(a b:Int):ak P .eql t (fl a) (fl b)=none:=by
 show(cg (P.underlying t) (fl a) (fl b)).map _=none;unfold cg fl
 split<;>simp_all
def NN(P:h_)(t:h7)(a b c d:Int):ak P .eql t (cx a b) (cx c d)=none:=by
 show(cg (P.underlying t) (cx a b) (cx c d)).map _=none;unfold cg cx
 split<;>simp_all
section
variable {P:h_} {w0:hW} {st:Bool} {f:Fr} {L:aA} {md:Md} {d:Option Tmp} {ty:h7} {ps:String} {af:Array Edge} {g:Option (Nat×Bool)} {go:Fr->aA->Prop} {stop:Prop}
def OM(a:Array Operand)(t:Array h7):YD P w0 st md ⟨d,.call ⟨.builtin .real,a,t⟩,ty,ps,af,g⟩ f L go stop=stop:=(rfl)
def Nb(a:Array Operand)(t:Array h7):YD P w0 st md ⟨d,.call ⟨.builtin .imag,a,t⟩,ty,ps,af,g⟩ f L go stop=stop:=(rfl)
def Ub(a:Array Operand)(t:Array h7):YD P w0 st md ⟨d,.call ⟨.builtin .complex,a,t⟩,ty,ps,af,g⟩ f L go stop=stop:=(rfl)
end
end Go.Sx
section
open Go Go.Proofs Go.Sx Go.StP Go.Flo
namespace Go.Proofs
structure Yv where
 a:Nat
 n:Nat
 x:No
def ZX:Yv:=⟨0,0,[]⟩
def Zv(p:Yv):List hU:=[cx p.a p.n,vs p.x]
def PcB(p:Yv):Prop:=p.a<=4099/\p.n<=4099
def mf(p:Yv):(Zv p).length=2:=rfl
def A4(p:Yv):(Zv p).all Value.oneCell'=true:=rfl
def cpV(p:Yv)(b:Int):Option (Nat×Nat):=if 1<=p.n/\p.n<=4099/\p.x=[]/\(p.a:Int)<=b - p.n then some (p.a,p.n) else none
def dp(p:Yv)(b:Int):Nat:=if p.a=0/\p.n=0/\p.x.length<=4099 then p.x.length else match cpV p b with|some a=>a.2|none=>0
def uN(p:Yv)(b:Int):dp p b<=4099:=by
 unfold dp
 split
 .rename_i h;exact h.2.2
 unfold cpV
 split
 .rename_i c h
  split at h
  .rename_i a;cases h;exact a.2.1
  cases h
 omega
def c_(b:Int)(l:List Yv):Nat:=(l.map fun p=>dp p b).sum
def NJ(b:Int)(l:List Yv)(p:Yv):c_ b (l++[p])=c_ b l+dp p b:=by unfold c_;rw[We,List.sum_append];simp
def Nm(b:Int)(l m:List Yv):c_ b (l++m)=c_ b l+c_ b m:=by unfold c_;rw[We,List.sum_append]
def Z1(b:Int)(l:List Yv):Bool:=l.any fun p=>dp p b==0
def ZC(b:Int)(l:List Yv):Int×Int:=if b<0\/4099<b then(0,1) else if Z1 b l=true then(0,1) else if 4099<c_ b l then(0,19) else((c_ b l:Nat),0)
theorem wM(b:Int):∀ (l:List Yv),Z1 b l=false->l.length<=c_ b l
 | [],_=>aR _
 |p::l,h=>by
  unfold Z1 at h;rw[List.any_cons,Zz] at h;have a:=wM b l h.2;have c:dp p b≠0:=by simpa using h.1
  unfold c_ at a |-;rw[VY,List.sum_cons,Wt];omega
def oG{b m:Int}{l:List Yv}(h:ZC b l=(m,0)):0<=b/\b<=4099/\Z1 b l=false/\c_ b l<=4099/\m=(c_ b l:Nat)/\l.length<=4099:=by
 unfold ZC at h
 split at h
 .cases h
 rename_i d
 split at h
 .cases h
 rename_i c
 split at h
 .cases h
 rename_i e;have a:Z1 b l=false:=by simpa using c
 have:=wM b l a;cases h;exact⟨by omega,by omega,a,by omega,rfl,by omega⟩
def pcT(base:No)(p:Yv):No:=match cpV p base.length with|some a=>(base.drop a.1).take a.2++p.x|none=>p.x
def qf2(base:No)(l:List Yv):No:=(l.map (pcT base)).flatten
def pcR(d:No)(a:Nat):Yv×Nat×Int:=
 if(aE d a 0 8199).1%2=1 then
  (⟨(aE d (aE d a 0 8199).2.1 (aE d a 0 8199).2.2 4099).1.toNat,((aE d a 0 8199).1 / 2).toNat,[]⟩,(aE d (aE d a 0 8199).2.1 (aE d a 0 8199).2.2 4099).2)
 else(⟨0,0,(aw d (aE d a 0 8199).2.1 (aE d a 0 8199).2.2 ((aE d a 0 8199).1 / 2)).1⟩,(aw d (aE d a 0 8199).2.1 (aE d a 0 8199).2.2 ((aE d a 0 8199).1 / 2)).2)
def oY{d:No}{a:Nat}(f:a<=d.length):a<= (pcR d a).2.1/\(pcR d a).2.1<=d.length:=by
 have c:=fO (s:=d) (a:=a) (e:=0) (most:=8199) f;unfold pcR
 split
 .have b:=fO (s:=d) (a:=(aE d a 0 8199).2.1) (e:=(aE d a 0 8199).2.2) (most:=4099) c.2;exact⟨Xq c.1 b.1,b.2⟩
 have b:=qy (s:=d) (a:=(aE d a 0 8199).2.1) (e:=(aE d a 0 8199).2.2) (n:=(aE d a 0 8199).1 / 2) c.2;exact⟨Xq c.1 b.1,b.2⟩
def oS{d:No}{a:Nat}(i:a<=d.length)(h:(pcR d a).2.2=0):a< (pcR d a).2.1:=by
 have f:=fO (s:=d) (a:=a) (e:=0) (most:=8199) i;have j:(aE d a 0 8199).2.2=0:=by
  by_cases b:(aE d a 0 8199).2.2=0
  .exact b
  unfold pcR at h
  split at h
  .have:=oq (s:=d) (a:=(aE d a 0 8199).2.1) (most:=4099) b;simp only[this] at h;exact Vx h b
  have:=lT (s:=d) (a:=(aE d a 0 8199).2.1) (n:=(aE d a 0 8199).1 / 2) b;simp only[this] at h;exact Vx h b
 have g:=wt j;unfold pcR
 split
 .have c:=fO (s:=d) (a:=(aE d a 0 8199).2.1) (e:=(aE d a 0 8199).2.2) (most:=4099) f.2;exact Zx g c.1
 have c:=qy (s:=d) (a:=(aE d a 0 8199).2.1) (e:=(aE d a 0 8199).2.2) (n:=(aE d a 0 8199).1 / 2) f.2;exact Zx g c.1
def qf8(d:No):Nat->Nat->List Yv×Nat×Int
 |0,a=>([],a,0)
 |k+1,a=>if a<d.length then(if(pcR d a).2.2=0 then((pcR d a).1::(qf8 d k (pcR d a).2.1).1,(qf8 d k (pcR d a).2.1).2) else([(pcR d a).1],(pcR d a).2)) else([],a,0)
theorem tY{d:No}:∀ (k j a:Nat),a<=d.length->d.length - a<=k->d.length - a<=j->qf8 d k a=qf8 d j a
 |0,j,a,c,e,_=>by
  have:¬a<d.length:=by omega
  cases j with
  |zero=>rfl
  |succ j=>unfold qf8;rw[tr this]
 |k+1,0,a,c,_,f=>by
  have:¬a<d.length:=by omega
  unfold qf8;rw[tr this]
 |k+1,j+1,a,c,e,f=>by
  unfold qf8;by_cases h:a<d.length
  .rw[Vb h,Vb h];by_cases b:(pcR d a).2.2=0
   .have i:=oS c b;have g:=oY c;rw[Vb b,Vb b,tY k j (pcR d a).2.1 g.2 oM oM]
   rw[tr b,tr b]
  rw[tr h,tr h]
def pcs(d:No)(a:Nat):List Yv×Nat×Int:=qf8 d (d.length - a) a
def S9{d:No}{a:Nat}(h:¬a<d.length):pcs d a=([],a,0):=by unfold pcs;rw[show d.length - a=0 by omega];rfl
def Sw{d:No}{a:Nat}(h:a<d.length)(b:(pcR d a).2.2=0):pcs d a=((pcR d a).1::(pcs d (pcR d a).2.1).1,(pcs d (pcR d a).2.1).2):=by
 have f:=oS (Nat.le_of_lt h) b;have c:=oY (Nat.le_of_lt h);unfold pcs;obtain⟨k,e⟩:∃k,d.length - a=k+1:=⟨d.length - a - 1,by omega⟩;rw[e]
 conv=>lhs;unfold qf8
 rw[Vb h,Vb b,tY k (d.length - (pcR d a).2.1) (pcR d a).2.1 c.2 oM (aj _)]
def Pt{d:No}{a:Nat}(h:a<d.length)(b:(pcR d a).2.2≠0):pcs d a=([(pcR d a).1],(pcR d a).2):=by unfold pcs;obtain⟨k,c⟩:∃k,d.length - a=k+1:=⟨d.length - a - 1,by omega⟩;rw[c];unfold qf8;rw[Vb h,tr b]
def iu(d:No):Option (Nat×List Yv):=
 if(aE d (aE d 0 0 4099).2.1 (aE d 0 0 4099).2.2 4099).2.2≠0 then none
 else if(pcs d (aE d (aE d 0 0 4099).2.1 (aE d 0 0 4099).2.2 4099).2.1).2.2≠0 then none
 else if ZC (aE d 0 0 4099).1 (pcs d (aE d (aE d 0 0 4099).2.1 (aE d 0 0 4099).2.2 4099).2.1).1=((aE d (aE d 0 0 4099).2.1 (aE d 0 0 4099).2.2 4099).1,0) then some ((aE d 0 0 4099).1.toNat,(pcs d (aE d (aE d 0 0 4099).2.1 (aE d 0 0 4099).2.2 4099).2.1).1)
 else none
def ga(base d:No):No×Int:=
 match iu d with
 |none=>([],2)
 |some p=>if p.1≠base.length then([],19) else(qf2 base p.2,0)
def qp0:Z_ prog 3 308=.no:=id kR
def qO9:Z_ prog 308 3=.no:=id kR
def nQ(p:Yv)(E:h7)(n:Nat):aF (some (false,n)) (some (.cells (Zv p).toArray E (0,0))) 0=some (cx p.a p.n):=(rfl)
def nT(p:Yv)(E:h7)(n:Nat):aF (some (false,n)) (some (.cells (Zv p).toArray E (0,0))) 1=some (vs p.x):=(rfl)
def oB(p:Yv)(E:h7):aF (some (true,2)) (some (.cells (Zv p).toArray E (0,0))) 0=some (.agg (Zv p).toArray):=jN _ E (0,0) 2 rfl
def CA(p:Yv):Value.cells (.agg (Zv p).toArray)=(Zv p).toArray:=ag _
def qz2:ac prog 307=some (.agg (Zv ZX).toArray):=id kR
def OF(p q:Yv)(E:h7):aZ (some (true,2)) (some (.cells (Zv q).toArray E (0,0))) 0 (.agg (Zv p).toArray)=some (.cells (Zv p).toArray E (0,0)):=by have:=mc (Zv p) (n:=2) true (Zv q).toArray E rfl (A4 p) rfl;exact this
def cxz:(Value.complex FloatKind.f64 0 0)=cx 0 0:=id kR
abbrev qF6(w:hW)(v:hU)(l:List Yv):Prop:=Xz 2 Zv ZX w v l
def ql2(l:List Yv):Prop:= ∀g,g<l.length->PcB (l.getD g ZX)/\(l.getD g ZX).x.length<9223372036854775808
def LB{b:Int}{l:List Yv}{g:Nat}(h:g<l.length):c_ b (l.take (g+1))=c_ b (l.take g)+dp (l.getD g ZX) b:=by rw[WJ (z:=ZX) h,NJ]
def Kn{b:Int}{l:List Yv}{g:Nat}(h:g<l.length):Z1 b (l.take (g+1))=(Z1 b (l.take g) ||dp (l.getD g ZX) b==0):=by rw[WJ (z:=ZX) h];unfold Z1;rw[List.any_append];simp
def nU{b:Int}{l:List Yv}{g:Nat}(h:g<l.length)(a:dp (l.getD g ZX) b=0):Z1 b l=true:=by unfold Z1;rw[List.any_eq_true];exact⟨_,W9 (z:=ZX) h,by rw[W8];exact a⟩
def qy7(p:Yv)(b:Int):Nat×Nat:=match cpV p b with|some a=>a|none=>(0,0)
def Q9(p:Yv)(base:No):(qy7 p base.length).1+ (qy7 p base.length).2<=base.length:=by
 unfold qy7 cpV
 split
 .rename_i a h
  split at h
  .rename_i b;cases h;simp only;omega
  cases h
 simp
def QT(base:No)(p:Yv)(h:dp p base.length≠0):(pcT base p).length=dp p base.length:=by
 have b:=Q9 p base;unfold dp at h |-;unfold pcT;unfold qy7 at b
 split at h
 .rename_i c;rw[Vb c];have d:cpV p base.length=none:=by unfold cpV;rw[tr oM]
  rw[d]
 rename_i c;rw[tr c];cases a:cpV p base.length with
 |none=>rw[a] at h;exact Vx rfl h
 |some g=>
  rw[a] at b;simp only at b |-;have e:p.x=[]:=by
   unfold cpV at a
   split at a
   .rename_i f;exact f.2.2.1
   cases a
  rw[e,VX,W3,XC];omega
def K7{base:No}{l:List Yv}{g:Nat}(h:g<l.length):qf2 base (l.take (g+1))=qf2 base (l.take g)++pcT base (l.getD g ZX):=by rw[WJ (z:=ZX) h];unfold qf2;simp
theorem ng{base:No}:∀ {l:List Yv},Z1 base.length l=false->(qf2 base l).length=c_ base.length l
 | [],_=>rfl
 |p::l,h=>by unfold Z1 at h;rw[List.any_cons,Zz] at h;have a:=ng (base:=base) (l:=l) h.2;have b:=QT base p (by simpa using h.1);unfold qf2 c_ at a |-;rw[VY,Ya,VV,VY,List.sum_cons,a,b]
def T'{b:Int}{l:List Yv}{g:Nat}:c_ b (l.take g)<=c_ b l:=by have:=Nm b (l.take g) (l.drop g);rw[Y1] at this;omega
def Qo{b:Int}{l:List Yv}{g:Nat}(h:Z1 b l=false):Z1 b (l.take g)=false:=by unfold Z1 at h |-;rw[List.any_eq_false] at h |-;exact fun x a=>h x (List.mem_of_mem_take a)
end Go.Proofs
end
namespace Go.Sx
open Go
section
variable {α:Type} {m:Nat} {enc:α->List hU} {z:α}
end
section
variable {P:h_} {w0:hW} {f:Fr} {L:aA} {N:Fr->aA->Prop} {ops:Array Oper} {rest:List Oper} {md:Md} {d:Option Tmp} {ty:h7} {ps:String} {af:Array Edge} {g:Option (Nat×Bool)}
theorem Ow.makeSlice{t e:h7}{m:Bool×Nat}{z:hU}{x y:Operand}{n c:Nat}{o:Md}(q:md.WM=some o)(r:ay ops f ⟨d,.makeSlice t x y,ty,ps,af,g⟩=false)
  (s:P.underlying t=some (.slice e)) (a:aU P e=some m) (u:kD P e=true) (h:ac P e=some z) (v:ev f x=vi n) (A:ev f y=vi c) (H:n<=c) (B:c<=2^38)
  (C:∀b,cy L b->w0.heap.size<=b->Ow P w0 ops o rest (aa f d (Xr b 0 n c)) (L++[(b,.cells (madeCells z.cells (c*m.2)) e (0,0))]) N):
  Ow P w0 ops md (⟨d,.makeSlice t x y,ty,ps,af,g⟩::rest) f L N:=by
 refine Ow.step q rfl r fun w j=>.inl ⟨Xr w.heap.size 0 n c,w.alloc (.cells (madeCells z.cells (c*m.2)) e (0,0)),_,?_,j.alloc _,C _ (ef fun b k=>j.lt k) j.size⟩;obtain⟨i,l,-,k⟩:=Dg u B;have D:i.zero=some z:=by unfold ac at h;rw[l] at h;exact h
 have E:i.size=m.2:=by
  unfold aU at a;rw[l] at a
  split at a
  .rename_i I F;cases F;cases a
   rfl
  cases a
 have G:(i.bytes:Int)* (c:Int)<=281474976710656:=by
  have:((i.bytes*c:Nat):Int)<=281474976710656:=by rw[Nat.mul_comm];exact Int.ofNat_le.2 k
  rwa [Y_] at this
 have p:=run_make (P:=P) w t e i z s l D .i64 .i64 (n:Int) (c:Int) oM oM G oM;simp only[WX,E] at p;show(execOp (ev f) _).run P w=_;simp only[execOp,Vp];rw[v,A];show((Instr.makeSlice t (.int .i64 (n:Int)) (.int .i64 (c:Int))).run P w).andThen _=_;rw[p]
 rfl
def Ow.W2{ts r e:h7}{m:Bool×Nat}{z:hU}{s x:Operand}{n k:Nat}{cs new:List hU}{J:TypeDesc}{y:Md}{X Y:aA}(t:hU)(hL:L=X++Y)(za:ev f s=t)(he:md.WM=some y)
  (hs:ay ops f ⟨d,.call ⟨.builtin .append,#[s,x],#[ts,r]⟩,ty,ps,af,g⟩=false)
  (K:P.underlying ts=some (.slice e)) (M:aU P e=some m) (O:kD P e=true) (Q:ac P e=some z) (R:z.cells.size=m.2) (S:P.underlying r=some J) (T:∀k,J≠ .int k)
  (A:Gr X e m.2 t n cs) (C:∀w,Hp w0 L w->W0 P w m.2 (ev f x) k new) (U:2* (n+k)+768<=2^38)
  (hn:∀B h D,cy L B->w0.heap.size<=B->Gr D e m.2 h (n+k) (cs++new)->(∀c,c∈keys X->c∈keys D)->(∀c,c∈keys D->c∈keys X\/B<=c)->(∀c o,Xy t≠some c->look X c=some o->look D c=some o)->Ow P w0 ops y rest (aa f d h) (D++Y) N):
  Ow P w0 ops md (⟨d,.call ⟨.builtin .append,#[s,x],#[ts,r]⟩,ty,ps,af,g⟩::rest) f L N:=by
 subst hL;refine Ow.step he rfl hs fun w j=>?_;have E:=j.part;have hA:cy (X++Y) w.heap.size:=ef fun b l=>j.lt l;have F:∀h i D,(Builtin.append_ #[ts,r] ty #[t,ev f x]).run P w=.ok h i->Hp w D i->Gr D e m.2 h (n+k) (cs++new)->(∀c,c∈keys X->c∈keys D)->(∀c,c∈keys D->c∈keys X\/w.heap.size<=c)->(∀c o,Xy t≠some c->look X c=some o->look D c=some o)->
   (∃v i V,(execOp (ev f) ⟨d,.call ⟨.builtin .append,#[s,x],#[ts,r]⟩,ty,ps,af,g⟩).run P w=.ok (.value v) i/\Hp w0 V i/\Ow P w0 ops y rest (aa f d v) V N):=by
  intro h i D p u l W Z h3;refine⟨h,i,D++Y,?_,j.join u W Z,hn w.heap.size h D hA j.size l W Z h3⟩;simp only[execOp,resolve,Vp,Wm,VT,invoke,builtin,XM,VY,Wr,za];rw[p]
  rfl
 rcases A with A| ⟨rfl,rfl,b,rfl,zb⟩
 .obtain⟨h,i,D,p,u,l,q,-⟩:=Br (w0:=w) (L:=X) (ty:=ty) (x:=ev f x) E K M O Q R S T A (fun G H=>C G (by
   refine j.join H (fun c a=>a) (fun c a=>.inl a))) U
  exact .inl (F h i D p u (.inl l) q.keys (fun c a=>(q.new c a).imp id And.right) q.look)
 rcases De (w0:=w) (L:=X) (ty:=ty) (b:=b) (x:=ev f x) E K M O Q R S T (fun G H=>C G (by refine j.join H (fun c a=>a) (fun c a=>.inl a))) U with⟨h0,p⟩ | ⟨-,h,i,D,p,u,l,q,-⟩
 .subst h0;have zc:=(C w j).size;obtain rfl:new=[]:=Zm (by rw[zc,Nat.zero_mul]);exact .inl (F _ w X p E (.inr ⟨rfl,rfl,b,rfl,zb⟩) (fun c a=>a) (fun c a=>.inl a) (fun c o _ I=>I))
 exact .inl (F h i D p u (.inl l) q.keys (fun c a=>(q.new c a).imp id And.right) (fun c o _ I=>q.look c o (by simp[Xy]) I))
end
def Vq.perm{n:Nat}{D D':aA}(h:Vq n D)(a:D.Perm D'):Vq n D':=Vq.of_le fun c b=>h.le c ((a.map Prod.fst).mem_iff.2 b)
end Go.Sx
section
open Go Go.Proofs Go.Sx Go.StP Go.Flo
namespace Go.Proofs
def dB(d:No):Int×Nat×Int:=aE d 0 0 4099
def dM(d:No):Int×Nat×Int:=aE d (dB d).2.1 (dB d).2.2 4099
def tw(d:No):iu d=if(dM d).2.2≠0 then none else if(pcs d (dM d).2.1).2.2≠0 then none else if ZC (dB d).1 (pcs d (dM d).2.1).1=((dM d).1,0) then some ((dB d).1.toNat,(pcs d (dM d).2.1).1) else none:=rfl
def Pv(p:Yv):kK prog 292 1 [(0,.agg (Zv p).toArray)]=some (307,(Zv p).toArray):=
 fa underlying292 (id kR) qz2 WT (mf p)
def rh{d:No}{p:Nat×List Yv}(h:iu d=some p):∃m,ZC (p.1:Nat) p.2=(m,0):=by
 rw[tw] at h
 split at h
 .cases h
 split at h
 .cases h
 split at h
 .rename_i b;cases h;have c:=j' (s:=d) (a:=0) (e:=0) (most:=4099) oM;change 0<= (dB d).1/\(dB d).1<=4099 at c;refine⟨(dM d).1,?_⟩;rw[show(((dB d).1.toNat:Nat):Int)=(dB d).1 by omega];exact b
 cases h
structure WE where
 d:Bool
 b:Int
 x:No
def eE:WE:=⟨false,0,[]⟩
def cH(p:WE):List hU:=[.bool p.d,vi p.b,vs p.x]
def E5(p:WE):(cH p).length=3:=rfl
def t8(p:WE):(cH p).all Value.oneCell'=true:=rfl
def gi(l:List WE):Nat->Nat->Except Int (List Nat)
 |0,_=>.error 11
 |k+1,at_=>
  if(l.getD at_ eE).d=true then
   (if(l.getD at_ eE).b<0\/(at_:Int)<= (l.getD at_ eE).b then .error 2
   else if k=0 then .error 11
   else(gi l k (l.getD at_ eE).b.toNat).map (at_:: ·))
  else if(l.getD at_ eE).b≠0 then .error 2 else .ok [at_]
def fo(l:List WE)(at_:Int):Except Int (List Nat):=
 if 200<l.length\/at_<0\/(l.length:Int)<=at_ then .error 1 else gi l 5 at_.toNat
def e_(p:WE)(base:No):No×Int:=if p.d=true then ga base p.x else if 4099<p.x.length then([],19) else(p.x,0)
def fp(l:List WE):List Nat->Except Int No
 | []=>.ok []
 |a::p=>(fp l p).bind fun s=>if(e_ (l.getD a eE) s).2=0 then .ok (e_ (l.getD a eE) s).1 else .error (e_ (l.getD a eE) s).2
def Xj(l:List WE)(at_:Int):Except Int No:=(fo l at_).bind (fp l)
def Az(l:List WE):Nat->Except Int (List No)
 |0=>.ok []
 |k+1=>(Az l k).bind fun ts=>(Xj l (k:Nat)).map fun s=>ts++[s]
def qO7(l:List WE):Except Int (List No):=if 200<l.length then .error 1 else Az l l.length
def qf0(n:Nat):List hU:=[vi n]
def wB(n:Nat):(qf0 n).length=1:=rfl
abbrev AH(w:hW)(v:hU)(l:List WE):Prop:=Xz 3 cH eE w v l
def Ji(p:WE)(E:h7)(n:Nat):aF (some (false,n)) (some (.cells (cH p).toArray E (0,0))) 0=some (.bool p.d):=(rfl)
def Ih(p:WE)(E:h7)(n:Nat):aF (some (false,n)) (some (.cells (cH p).toArray E (0,0))) 1=some (vi p.b):=(rfl)
def Ij(p:WE)(E:h7)(n:Nat):aF (some (false,n)) (some (.cells (cH p).toArray E (0,0))) 2=some (vs p.x):=(rfl)
def EX(p:WE):Value.cells (.agg (cH p).toArray)=(cH p).toArray:=ag _
def jh:ac prog 261=some (.agg (cH eE).toArray):=id kR
def sP(p q:WE)(E:h7):aZ (some (true,3)) (some (.cells (cH q).toArray E (0,0))) 0 (.agg (cH p).toArray)=some (.cells (cH p).toArray E (0,0)):=
 mc (cH p) (n:=3) true (cH q).toArray E rfl (t8 p) rfl
def gN(l:List WE)(a:Int)(v:hU)(D:aA):Prop:=match fo l a with
 | .ok p=> ∃x,v=.tuple #[x,vi 0]/\p.length<=5/\Yq D 3 1 x p.length (p.map qf0).flatten
 | .error e=>v=.tuple #[Vj,vi e]
theorem s7{l:List WE}:∀ (k a:Nat) (e:Int),gi l k a=.error e->e≠0
 |0,_,e,h=>by cases h;decide
 |k+1,a,e,h=>by
  unfold gi at h
  split at h
  .split at h
   .cases h;decide
   split at h
   .cases h;decide
   cases b:gi l k (l.getD a eE).b.toNat with
   |error x=>rw[b] at h;cases h;exact s7 k _ _ b
   |ok c=>rw[b] at h;cases h
  split at h
  .cases h;decide
  cases h
def sg{l:List WE}{a:Int}{e:Int}(h:fo l a=.error e):e≠0:=by
 unfold fo at h
 split at h
 .cases h;decide
 exact s7 _ _ _ h
theorem sw{l:List WE}:∀ (k a:Nat) (p:List Nat),a<l.length->gi l k a=.ok p-> ∀x,x∈p->x<l.length
 |0,_,_,_,h=>by cases h
 |k+1,a,p,d,h=>by
  unfold gi at h
  split at h
  .split at h
   .cases h
   rename_i f
   split at h
   .cases h
   cases c:gi l k (l.getD a eE).b.toNat with
   |error x=>rw[c] at h;cases h
   |ok e=>
    rw[c] at h;cases h;intro x b;rcases Vw.1 b with rfl|b
    .exact d
    exact sw k _ e oM c x b
  split at h
  .cases h
  cases h;intro x b;rw[VZ] at b;omega
def O_{l:List WE}{a:Int}{p:List Nat}(h:fo l a=.ok p):∀x,x∈p->x<l.length:=by
 unfold fo at h
 split at h
 .cases h
 exact sw _ _ _ oM h
theorem DQ{l:List WE}{e:Int}:∀ (p:List Nat) (i:Nat),fp l (p.drop i)=.error e->fp l p=.error e
 | [],i,h=>by rw[List.drop_nil] at h;exact h
 |a::p,0,h=>h
 |a::p,i+1,h=>by have:=DQ p i h;unfold fp;rw[this];rfl
def OV{E:h7}{rest:List hU}{l:List Nat}(n i:Nat)(b:i<l.length):aF (some (false,n)) (some (bW qf0 E rest l)) i=some (vi (l.getD i 0)):=by
 unfold bW aF;have e:(l.map qf0).flatten=l.map fun n=>vi (n:Nat):=by
  clear b
  induction l with
  |nil=>rfl
  |cons a l c=>rw[VY,Ya,VY,c];rfl
 simp only[e];rw[List.getElem?_toArray,List.getElem?_append_left (by simpa using b),List.getElem?_map,List.getElem?_eq_getElem b,List.getD_eq_getElem?_getD,List.getElem?_eq_getElem b]
 rfl
def j1(r:Except Int No):hU:=match r with
 | .ok s=>.tuple #[vs s,vi 0]
 | .error e=>.tuple #[vs [],vi e]
theorem uG{l:List WE}{e:Int}:∀ (p:List Nat),fp l p=.error e->e≠0
 | [],h=>by cases h
 |a::p,h=>by
  unfold fp at h;cases b:fp l p with
  |error x=>rw[b] at h;cases h;exact uG p b
  |ok s=>
   rw[b] at h;change(if(e_ (l.getD a eE) s).2=0 then _ else _)=_ at h
   split at h
   .cases h
   rename_i c;cases h;exact c
def Mr{l:List WE}{a e:Int}(h:Xj l a=.error e):e≠0:=by
 unfold Xj at h;cases b:fo l a with
 |error x=>rw[b] at h;cases h;exact sg b
 |ok p=>rw[b] at h;exact uG p h
def qq6(s:No):List hU:=[vs s]
def vI(s:No):(qq6 s).length=1:=rfl
end Go.Proofs
end
section
open Go Go.Proofs Go.Sx Go.StP
namespace Go.Proofs
structure qi5 where
 id:Xl
 kind:Int
def Gr.rows{α:Type}{L:aA}{E:h7}{m:Nat}{v:hU}{enc:α->List hU}{l:List α}(h:Gr L E m v l.length (l.map enc).flatten)(e:0<l.length):∃b c rest,v=Xr b 0 l.length c/\Sx.look L b=some (bW enc E rest l):=by
 rcases h with h| ⟨h,-⟩
 .rcases h.inv with⟨-,h,-⟩ | ⟨b,c,rest,a,d,-⟩
  .omega
  exact⟨b,c,rest,a,d⟩
 omega
def qb0(b:Nat)(D E:aA):Prop:= ∀c,c∈keys E->b<c/\ ∀d,d∈keys D->d<c
def qb0.nil{b:Nat}{D:aA}:qb0 b D []:=fun c a=>by cases a
def qb0.cons{b c:Nat}{o:Obj}{D E:aA}(h:qb0 b D E)(e:b<c)(f:∀d,d∈keys D->d<c):qb0 b D ((c,o)::E):=fun x a=>by
 simp only[keys,VY,Vw] at a;rcases a with rfl|a
 .exact⟨e,f⟩
 exact h x a
def qb0.app{b:Nat}{D E F:aA}(h:qb0 b D E)(c:qb0 b D F):qb0 b D (E++F):=fun x a=>by
 rw[aV,Wu] at a;rcases a with a|a
 .exact h x a
 exact c x a
def qb0.grow{b B:Nat}{D E F:aA}(h:qb0 b D E)(e:∀c,c∈keys F->c∈keys E\/B<=c)(j:b<B)(f:∀d,d∈keys D->d<B):qb0 b D F:=fun x g=>by
 rcases e x g with a|a
 .exact h x a
 exact⟨by omega,fun d i=>by have:=f d i;omega⟩
theorem qb0.look{b:Nat}{D E:aA}{c:Nat}{o x:Obj}(h:qb0 b D E)(a:Sx.look E c=some o):Sx.look ((b,x)::(D++E)) c=some o:=by have:=h c (bO a);rw[jL _ _ _ _ oM,cu (fun d=>by have:=this.2 c d;omega)];exact a
end Go.Proofs
end
namespace Go.Dig
open Go.Sx
def oy(b:Vf):Int:=if 48<=b.toNat/\b.toNat<=57 then(b.toNat:Int) - 48 else if 97<=b.toNat/\b.toNat<=102 then(b.toNat:Int) - 97+10 else -1
def qj4(l:No)(i k:Nat):Vf:=
 if 2*k+1<i then UInt8.ofInt (oy (l.getD (2*k) 0)*16+oy (l.getD (2*k+1) 0)) else if 2*k<i then UInt8.ofInt (oy (l.getD (2*k) 0)) else 0
def rgt(x:UInt32)(n:UInt64):UInt32:=fA x n.toNat|||mL x (32 - n).toNat
def S1(e:UInt32):UInt32:=rgt e 6^^^rgt e 11^^^rgt e 25
def S0(a:UInt32):UInt32:=rgt a 2^^^rgt a 13^^^rgt a 22
def s1(y:UInt32):UInt32:=rgt y 17^^^rgt y 19^^^fA y 10
def s0(x:UInt32):UInt32:=rgt x 7^^^rgt x 18^^^fA x 3
def kL:List UInt32:=[1116352408,1899447441,3049323471,3921009573,961987163,1508970993,2453635748,2870763221,3624381080,310598401,607225278,1426881987,1925078388,2162078206,2614888103,3248222580,3835390401,4022224774,264347078,604807628,770255983,1249150122,1555081692,1996064986,2554220882,2821834349,2952996808,3210313671,3336571891,3584528711,113926993,338241895,666307205,773529912,1294757372,1396182291,1695183700,1986661051,2177026350,2456956037,2730485921,2820302411,3259730800,3345764771,3516065817,3600352804,4094571909,275423344,430227734,506948616,659060556,883997877,958139571,1322822218,1537002063,1747873779,1955562222,2024104815,2227730452,2361852424,2428436474,2756734187,3204031479,3329325298]
def YX:List UInt32:=[1779033703,3144134277,1013904242,2773480762,1359893119,2600822924,528734635,1541459225]
def Aw(b:No)(i:Nat):UInt32:=
 UInt32.ofNat (b.getD (4*i) 0).toNat*16777216+UInt32.ofNat (b.getD (4*i+1) 0).toNat*65536+UInt32.ofNat (b.getD (4*i+2) 0).toNat*256+UInt32.ofNat (b.getD (4*i+3) 0).toNat
def qa7(b:No)(i:Nat):List UInt32:=(List.range 64).map fun j=>if j<i then Aw b j else 0
def DB(b:No)(i:Nat):(qa7 b i).length=64:=by simp[qa7]
def Ki(b:No)(i:Nat):(qa7 b i).set i (Aw b i)=qa7 b (i+1):=by
 apply List.ext_getElem
 .simp[qa7]
 intro k d c;have e:k<64:=by simpa [qa7] using c
 rw[List.getElem_set];by_cases h:i=k
 .subst h;simp[qa7]
 rw[tr h];simp only[qa7,List.getElem_map,List.getElem_range];by_cases a:k<i
 .rw[Vb a,Vb oM]
 rw[tr a,tr oM]
def Kc(b:No):qa7 b 0=List.replicate 64 0:=by
 apply List.ext_getElem
 .simp[qa7]
 intro k a c;simp only[qa7,List.getElem_map,List.getElem_range,List.getElem_replicate];rw[tr oM]
def lu(w:List UInt32)(g:Nat):List UInt32:=w.set g (s1 (w.getD (g - 2) 0)+w.getD (g - 7) 0+s0 (w.getD (g - 15) 0)+w.getD (g - 16) 0)
def wGo(w:List UInt32):Nat->List UInt32
 |0=>w
 |n+1=>lu (wGo w n) (16+n)
def rz(w:List UInt32)(n:Nat):(wGo w n).length=w.length:=by
 induction n with
 |zero=>rfl
 |succ n a=>simp[wGo,lu,a]
def qr0(b:No):List UInt32:=wGo (qa7 b 16) 48
def Gx(b:No):(qr0 b).length=64:=by rw[qr0,rz,DB]
def TZ(s:List UInt32)(k w:UInt32):List UInt32:=
 let t:=s.getD 7 0+S1 (s.getD 4 0)+ (s.getD 4 0&&&s.getD 5 0||| ~~~ s.getD 4 0&&&s.getD 6 0)+k+w
 let a:=S0 (s.getD 0 0)+ (s.getD 0 0&&&s.getD 1 0|||s.getD 0 0&&&s.getD 2 0|||s.getD 1 0&&&s.getD 2 0)
 [t+a,s.getD 0 0,s.getD 1 0,s.getD 2 0,s.getD 3 0+t,s.getD 4 0,s.getD 5 0,s.getD 6 0]
def rGo(st w:List UInt32):Nat->List UInt32
 |0=>st
 |n+1=>TZ (rGo st w n) (kL.getD n 0) (w.getD n 0)
def jl(st s:List UInt32)(i:Nat):List UInt32:=(List.range 8).map fun j=>if j<i then st.getD j 0+s.getD j 0 else st.getD j 0
def Fy(st s:List UInt32)(i:Nat):(jl st s i).length=8:=by simp[jl]
def comp(st:List UInt32)(b:No):List UInt32:=jl st (rGo st (qr0 b) 64) 8
def DI(st:List UInt32)(b:No):(comp st b).length=8:=Fy _ _ _
def iI(st:List UInt32)(m:No):Nat->List UInt32
 |0=>st
 |n+1=>comp (iI st m n) ((m.drop (64*n)).take 64)
def GC(st:List UInt32)(m:No)(n:Nat)(h:st.length=8):(iI st m n).length=8:=by
 cases n with
 |zero=>exact h
 |succ n=>exact DI _ _
def G4(st:List UInt32)(m x:No)(n:Nat)(h:64*n<=m.length):iI st (m++x) n=iI st m n:=by
 induction n with
 |zero=>rfl
 |succ n a=>simp only[iI];rw[a oM,List.drop_append_of_le_length oM,List.take_append_of_le_length (by simp;omega)]
section
variable {bg:Bool} {st:List UInt32} {rest:No} {many:Int} {taken:UInt64} {E:h7}
end
def acc(b:No)(i:Nat):Nat->UInt32
 |0=>0
 |k+1=>mL (acc b i k) 8|||UInt32.ofNat (b.getD (4*i+k) 0).toNat
def Tt{α:Type}(l:List α)(i:Nat)(x d:α)(h:i<l.length):(l.set i x).getD i d=x:=by simp[List.getD_eq_getElem?_getD,h]
def wG(b:No)(g:Nat):List UInt32:=wGo (qa7 b 16) (g - 16)
def MU(b:No)(g:Nat):(wG b g).length=64:=by rw[wG,rz,DB]
def QK(b:No)(g:Nat)(h:16<=g):wG b (g+1)=lu (wG b g) g:=by
 unfold wG;have:g+1 - 16=(g - 16)+1:=by omega
 rw[this];show lu _ (16+ (g - 16))=_;rw[show 16+ (g - 16)=g from by omega]
def SZ(b:No):wG b 64=qr0 b:=rfl
def Nd(b:No):qa7 b 16=wG b 16:=rfl
def qA1(w:hW):Prop:= ∃a b c d,w.heap[0]? =some (.cells (a32 YX) a c)/\w.heap[1]? =some (.cells (a32 kL) b d)
def qA1.of{w0 w:hW}{L:aA}(f:qA1 w0)(h:Hp w0 L w)(c:∀b,b∈keys L->1<b):qA1 w:=by
 obtain⟨g,i,j,k,d,e⟩:=f;refine⟨g,i,j,k,?_,?_⟩
 .rw[h.Wo 0 (Array.getElem?_eq_some_iff.1 d).1 (fun a=>by have:=c 0 a;omega)];exact d
 rw[h.Wo 1 (Array.getElem?_eq_some_iff.1 e).1 (fun a=>by have:=c 1 a;omega)];exact e
structure Hs where
 st:List UInt32
 rest:No
 many:Nat
structure Hs.Ok(s:Hs):Prop where
 st:s.st.length=8
 rest:s.rest.length=64
 many:s.many<64
def qf7(s:Hs)(x:Vf):Hs:=
 if s.many+1=64 then⟨comp s.st (s.rest.set s.many x),s.rest.set s.many x,0⟩ else⟨s.st,s.rest.set s.many x,s.many+1⟩
def QJ{s:Hs}(x:Vf)(h:s.Ok):(qf7 s x).Ok:=by
 unfold qf7
 split
 .exact⟨DI _ _,by simp[h.rest],by show(0:Nat)<64;omega⟩
 exact⟨h.st,by simp[h.rest],by show s.many+1<64;have:=h.many;omega⟩
def YU(cs:Array hU)(E:h7)(fz:Nat×Nat)(n i:Nat):aF (some (false,n)) (some (.cells cs E fz)) i=cs[i]? :=(rfl)
end Go.Dig
section
open Go Go.Proofs Go.Sx Go.Dig
namespace Go.Proofs
def kh(x:UInt32)(n:UInt64)(w:hW):Va prog 171 #[v32 x,v64 n] w (fun v D=>v=v32 (rgt x n)/\D=[]):=by
 refine Va.Vr func171 rfl (rs:=[.tmp 4]) results171 ntmps171 ?_;refine kf ?_;refine ky @Nat.add_zero ?_;refine⟨_,(ke @Nat.add_zero),trivial,?_⟩
 rfl
def Gz(w:hW):Va prog 172 #[] w (fun v D=>v=.agg (a32 kL)/\D=[]):=by
 refine Va.Vr func172 rfl (rs:=[.cell 0 266]) results172 ntmps172 ?_;refine kf ?_;refine ky @Nat.add_zero ?_;have b:kL.length=64:=rfl;refine Ow.alloc rfl rfl qr5 fun c _ a=>?_;refine ko @Nat.add_zero ?_;refine ky @Nat.add_zero ?_;refine Ow.build (.agg (a32 kL)) rfl kR ?_;refine ko @Nat.add_zero ?_;refine ky @Nat.add_zero ?_;refine⟨_,(ke @Nat.add_zero),⟨a,trivial⟩,?_⟩
 rfl
def tf(n:Nat):UInt64.ofInt (n:Int)=UInt64.ofNat n:=by apply UInt64.toNat.inj;rw[show UInt64.ofInt (n:Int)=UInt64.ofNat ((n:Int)%2^64).toNat from rfl,UInt64.toNat_ofNat',UInt64.toNat_ofNat'];omega
end Go.Proofs
end
namespace Go.Dig
open Go.Sx
def fv(m:Nat):Nat:=(120 - m)%64
def qQ7(t:UInt64)(g:Nat):Vf:=UInt8.ofNat (ku (8*t) (56 - 8*g)).toNat
def len8(t:UInt64):No:=(List.range 8).map (qQ7 t)
def qK9(st:List UInt32)(j:Nat):Vf:=UInt8.ofNat (fA (st.getD (j / 4) 0) (24 - 8* (j%4))).toNat
def j6(st:List UInt32)(k:Nat):No:=(List.range 32).map fun j=>if j<k then qK9 st j else 0
def H0:Hs:=⟨YX,List.replicate 64 0,0⟩
def Tj:H0.Ok:=⟨rfl,by simp[H0],by show(0:Nat)<64;omega⟩
def qa0(st:List UInt32)(k:Nat):(j6 st k).length=32:=by simp[j6]
def Hk(st:List UInt32):j6 st 0=List.replicate 32 0:=by
 apply List.ext_getElem
 .simp[j6]
 intro k a b;simp only[j6,List.getElem_map,List.getElem_range,List.getElem_replicate];rw[tr oM]
def IJ(st:List UInt32)(k:Nat):(j6 st k).set k (qK9 st k)=j6 st (k+1):=by
 apply List.ext_getElem
 .simp[j6]
 intro j b c;rw[List.getElem_set];by_cases h:k=j
 .subst h;simp[j6]
 rw[tr h];simp only[j6,List.getElem_map,List.getElem_range];by_cases a:j<k
 .rw[Vb a,Vb oM]
 rw[tr a,tr oM]
def G_(t:UInt64):(len8 t).length=8:=by simp[len8]
end Go.Dig
section
open Go Go.Proofs Go.Sx Go.Dig
namespace Go.Proofs
end Go.Proofs
end
