/-
  Part 3 of the walk: contracts of the functions that the law reaches, and the calculus they stand on.
  No conditions.
-/
import Derived.Test.YtldgnkgllhmnbaaGreatDoorH2
set_option linter.unusedVariables false
set_option maxRecDepth 10000
set_option maxHeartbeats 4000000
set_option linter.unusedSimpArgs false
set_option linter.defProp false
open Go.Proofs.Tryz
section
open Go Go.Proofs Go.Sx Go.StP
namespace Go.Proofs
def Zf(d:Bool)(r:W_)(x:No×Nat):W_:=if d=true then bl r x.1 else ZP (bl r x.1) x
def QD{l:W_}{k:Nat}(h:k<l.length)(d:Bool)(x:No×Nat)(a:(l.getD k ([],0)).1=x.1):Zf d (l.drop k) x=Zf d (l.drop (k+1)) x:=by unfold Zf;rw[qk h,Vb a];rfl
def SV{l:W_}{k:Nat}(h:k<l.length)(x:No×Nat)(a:(l.getD k ([],0)).1≠x.1):Zf true (l.drop k) x=l.getD k ([],0)::Zf true (l.drop (k+1)) x:=by unfold Zf;rw[qk h,tr a];rfl
def SP{l:W_}{k:Nat}(h:k<l.length)(x:No×Nat)(a:(l.getD k ([],0)).1≠x.1)(b:Ys x.1 (l.getD k ([],0)).1=true):Zf false (l.drop k) x=x::l.getD k ([],0)::Zf true (l.drop (k+1)) x:=by
 unfold Zf;rw[qk h,tr a];have e:ZP (l.getD k ([],0)::bl (l.drop (k+1)) x.1) x=if Ys x.1 (l.getD k ([],0)).1=true then x::l.getD k ([],0)::bl (l.drop (k+1)) x.1 else l.getD k ([],0)::ZP (bl (l.drop (k+1)) x.1) x:=rfl
 show ZP (l.getD k ([],0)::bl (l.drop (k+1)) x.1) x=_;rw[e,Vb b];rfl
def SF{l:W_}{k:Nat}(h:k<l.length)(x:No×Nat)(a:(l.getD k ([],0)).1≠x.1)(b:Ys x.1 (l.getD k ([],0)).1=false):Zf false (l.drop k) x=l.getD k ([],0)::Zf false (l.drop (k+1)) x:=by
 unfold Zf;rw[qk h,tr a];have e:ZP (l.getD k ([],0)::bl (l.drop (k+1)) x.1) x=if Ys x.1 (l.getD k ([],0)).1=true then x::l.getD k ([],0)::bl (l.drop (k+1)) x.1 else l.getD k ([],0)::ZP (bl (l.drop (k+1)) x.1) x:=rfl
 show ZP (l.getD k ([],0)::bl (l.drop (k+1)) x.1) x=_;rw[e,tr (by rw[b];simp)];rfl
structure PuG where
 k:Nat
 d:Bool
 o:W_
 v:hU
 D:aA
 DG:aA
def dH:=aN (qS1 @bA @b9 @AC) (qS1 @w3 @wD @kT)
def Do(v:hU)(l:W_)(x:No×Nat)(w:hW)(hv:qr9 w v l)(hl:l.length<1000000000):Va prog 37 #[v,.agg (Xi (ae x)).toArray] w (XS w [] (fun r D=>NdG D r (dU l x))):=by
 have Q:=hv.len;rw[Wx] at Q;obtain⟨K,off,arr,E,fz,L⟩:=hv.row;refine Va.Vs func37 rfl (rs:=[.tmp 4]) results37 ntmps37 (fun p hp=>by cases hp) Wg ?_;refine kf ?_;refine ky @dH ?_;refine Ow.box rfl rfl fun b zt Z=>?_;refine Yx ?_;refine ko @dH ?_;refine ky @dH ?_;refine Cw.Vd (M:=(b,.cells (Xi (ae x)).toArray 94 (0,0))::([]++[])) (WW _) ?_;refine Cw.VU (G:=PuG) [8,9,10,11,14,15,16,17,18,19,20,21,22,23,24,25,26,27,28,29,30,31,32,33,34,35,36,37,5,6,38,39,40,41,42,43,44,12,13,7] (fun g=>[(5,g.v),(6,.bool g.d),(7,vi g.k)]) (fun g=>(b,.cells (Xi (ae x)).toArray 94 (0,0))::(g.D++g.DG)) (fun g=>g.k<=l.length/\((g.d=false->g.o.length<=g.k)/\g.o.length<=g.k+1)/\Vq w.heap.size g.D/\Vq w.heap.size g.DG/\g.o++Zf g.d (l.drop g.k) x=dU l x/\Gr g.D 94 2 g.v (g.o.map ae).length ((g.o.map ae).map Xi).flatten) (fun g=>l.length - g.k) ⟨0,false,[], Vj,[],[]⟩ rfl rfl ?_ ?_
 .exact⟨aR _,⟨fun _=>aR _,aR _⟩,trivial,trivial,rfl,Gr.nl⟩
 intro g j hg;refine kv ?_;obtain⟨k,d,o,N,D,DG⟩:=g;simp only at hg |-;obtain⟨hk,⟨R,zk⟩,F,H,i,I⟩:=hg;have zh:Vq w.heap.size ((b,Obj.cells (Xi (ae x)).toArray 94 (0,0))::(D++DG)):=⟨Z,F.app H⟩;have zu:(o.map ae).length<=k+1:=by rw[Wx];exact zk
 by_cases q:k<l.length
 .have S:decide ((k:Int)< (l.length:Int))=true:=aP oM;have za:k< (l.map ae).length:=by rw[Wx];exact q
  have J:=L.idx true k za;have zi:∀Y,Vq w.heap.size Y->aG w Y K=some (.cells arr E fz):=fun Y hY=>by rw[dr (hY.not (L.lt oM))];exact L.has oM
  have O:=zi _ zh;have T:∀n,aF (some (false,n)) (some (.cells arr E fz)) (off+k*2)=some (vs ((l.map ae).getD k nd0).s):=fun n=>by have:=o0 L za n;rwa [XL] at this
  have U:=oX L za;rw[ir] at T U;have i1:=QD q (x:=x);have i2:=SV q (x:=x);have i3:=SP q (x:=x);have i4:=SF q (x:=x);generalize l.getD k ([],0)=a at*;refine kz [5] (qS1 @dH @Q @S) ?_;refine Cw.Vu [K,b] [0,1,2,3,5,4,6,7] [] kR kR kR ?_;refine WQ ?_;refine kq (qS2 @dH @J @O @T) ?_;by_cases y:a.1=x.1
  .have z:((ae a).s==(ae x).s)=true:=W8.2 y;rw[i1 d y] at i;refine ky (aN @dH @z) ?_;refine ky @dH ?_;exact Vo.mk ⟨k+1,d,o,N,D,DG⟩ (by show l.length - (k+1)<l.length - k;omega) ⟨q,⟨(fun h=>by have:=R h;show o.length<=k+1;omega),by show o.length<=k+1+1;omega⟩,F,H,i,I⟩ rfl rfl
  have z:((ae a).s==(ae x).s)=false:=WN.2 y;cases d with
  |true=>
   rw[i2 y] at i;rw[show o++a::Zf true (l.drop (k+1)) x=(o++[a])++Zf true (l.drop (k+1)) x by simp] at i;refine kz [5] (aN @dH @z) ?_;refine Cw.Vu [K,b] [0,1,2,3,4,5,6,8,7,9,10,11] [] kR kR kR ?_;refine WQ ?_;refine kq @dH ?_;refine kz [5] (qS2 @dH @J @O @U) ?_;refine Ow.buildSlice (e:=94) (Xi (ae a)).toArray rfl rfl (fa underlying83 qc4 qd0 WT (dY _)) fun c zb A=>?_;refine ko @dH ?_;refine Ow.Vd (M:=D++((b,.cells (Xi (ae x)).toArray 94 (0,0))::(DG++[(c,.cells (Xi (ae a)).toArray 94 (0,0))]))) Xm ?_;refine Ow.W2 (e:=94) (k:=1) (new:=Xi (ae a)) (X:=D) N rfl rfl rfl rfl underlying83 qc4 kR qd0 (by rw[kT,Wd,dY]) underlying83 (by intro k h;cases h) I (fun V s=>W0.X6 (s.has c (.cells (Xi (ae a)).toArray 94 (0,0)) V_) (dY _) (me _)) oM (fun B5 t f zc zd B ze C zf=>?_);have u:Vq w.heap.size f:=Vq.of_le fun a m=>by
    rcases C a m with h|h
    .exact F.le a h
    omega
   refine ko @dH ?_;refine Cw.Vd (M:=(b,.cells (Xi (ae x)).toArray 94 (0,0))::(f++(DG++[(c,.cells (Xi (ae a)).toArray 94 (0,0))]))) Xm ?_;refine ky @dH ?_;exact Vo.mk ⟨k+1,true,o++[a],t,f,DG++[(c,.cells (Xi (ae a)).toArray 94 (0,0))]⟩ (by show l.length - (k+1)<l.length - k;omega) ⟨q,⟨(fun h=>by have:=R h;rw[VV];simp;omega),by rw[VV];simp;omega⟩,u,H.app ⟨A,trivial⟩,i,by simpa using B⟩ rfl rfl
  |false=>
   cases W:Ys x.1 a.1 with
   |true=>
    have e2:Op.bytesLess (ae a).s (ae x).s=false:=Cc W;rw[i3 y W] at i;rw[show o++x::a::Zf true (l.drop (k+1)) x=((o++[x])++[a])++Zf true (l.drop (k+1)) x by simp] at i;refine kz [5] (aN @dH @z) ?_;refine Cw.Vu [K,b] [0,1,2,3,4,5,6,8,7,9,10,11] [] kR kR kR ?_;refine WQ ?_;refine kq (qS4 @dH @J @O @T @e2 @z) ?_;refine kz [5] @dH ?_;refine Ow.buildSlice (e:=94) (Xi (ae x)).toArray rfl rfl (fa underlying83 qc4 qd0 WT (dY _)) fun c zb A=>?_;refine ko @dH ?_;refine Ow.Vd (M:=D++((b,.cells (Xi (ae x)).toArray 94 (0,0))::(DG++[(c,.cells (Xi (ae x)).toArray 94 (0,0))]))) Xm ?_;refine Ow.W2 (e:=94) (k:=1) (new:=Xi (ae x)) (X:=D) N rfl rfl rfl rfl underlying83 qc4 kR qd0 (by rw[kT,Wd,dY]) underlying83 (by intro k h;cases h) I (fun V s=>W0.X6 (s.has c (.cells (Xi (ae x)).toArray 94 (0,0)) V_) (dY _) (me _)) oM (fun B5 t f zc zd B ze C zf=>?_);have u:Vq w.heap.size f:=Vq.of_le fun a m=>by
     rcases C a m with h|h
     .exact F.le a h
     omega
    have zj:Vq w.heap.size (DG++[(c,Obj.cells (Xi (ae x)).toArray 94 (0,0))]):=H.app ⟨A,trivial⟩;generalize DG++[(c,Obj.cells (Xi (ae x)).toArray 94 (0,0))]=P at*;have zg:Gr f 94 2 t ((o++[x]).map ae).length (((o++[x]).map ae).map Xi).flatten:=by simpa using B
    have zl:Vq w.heap.size ((b,Obj.cells (Xi (ae x)).toArray 94 (0,0))::(f++P)):=⟨Z,u.app zj⟩;have zm:=zi _ zl;refine Ow.Vd (M:=(b,.cells (Xi (ae x)).toArray 94 (0,0))::(f++P)) Xm ?_;refine ko (qS2 @dH @J @zm @U) ?_;have zv:((o++[x]).map ae).length<=k+2:=by rw[Wx,VV];simp;omega
    refine Ow.buildSlice (e:=94) (Xi (ae a)).toArray rfl rfl (fa underlying83 qc4 qd0 WT (dY _)) fun bd zw zn=>?_;refine ko @dH ?_;refine Ow.Vd (M:=f++((b,.cells (Xi (ae x)).toArray 94 (0,0))::(P++[(bd,.cells (Xi (ae a)).toArray 94 (0,0))]))) Xm ?_;refine Ow.W2 (e:=94) (k:=1) (new:=Xi (ae a)) (X:=f) t rfl rfl rfl rfl underlying83 qc4 kR qd0 (by rw[kT,Wd,dY]) underlying83 (by intro k h;cases h) zg (fun V s=>W0.X6 (s.has bd (.cells (Xi (ae a)).toArray 94 (0,0)) V_) (dY _) (me _)) oM (fun B6 v6 D6 zx zy zo zz zq zA=>?_);have zr:Vq w.heap.size D6:=Vq.of_le fun a m=>by
     rcases zq a m with h|h
     .exact u.le a h
     omega
    refine ko @dH ?_;refine Cw.Vd (M:=(b,.cells (Xi (ae x)).toArray 94 (0,0))::(D6++(P++[(bd,.cells (Xi (ae a)).toArray 94 (0,0))]))) Xm ?_;refine ky @dH ?_;exact Vo.mk ⟨k+1,true,(o++[x])++[a],v6,D6,P++[(bd,.cells (Xi (ae a)).toArray 94 (0,0))]⟩ (by show l.length - (k+1)<l.length - k;omega) ⟨q,⟨(fun h=>by cases h),by have:=R rfl;rw[VV,VV];simp;omega⟩,zr,zj.app ⟨zn,trivial⟩,i,by simpa using zo⟩ rfl rfl
   |false=>
    have e2:Op.bytesLess (ae a).s (ae x).s=true:=mS W (Wq y);rw[i4 y W] at i;rw[show o++a::Zf false (l.drop (k+1)) x=(o++[a])++Zf false (l.drop (k+1)) x by simp] at i;refine kz [5] (aN @dH @z) ?_;refine Cw.Vu [K,b] [0,1,2,3,4,5,6,8,7,9,10,11] [] kR kR kR ?_;refine WQ ?_;refine kq (qS4 @dH @J @O @T @e2 @z) ?_;refine kz [5] (qS2 @dH @J @O @U) ?_;refine Ow.buildSlice (e:=94) (Xi (ae a)).toArray rfl rfl (fa underlying83 qc4 qd0 WT (dY _)) fun c zb A=>?_;refine ko @dH ?_;refine Ow.Vd (M:=D++((b,.cells (Xi (ae x)).toArray 94 (0,0))::(DG++[(c,.cells (Xi (ae a)).toArray 94 (0,0))]))) Xm ?_;refine Ow.W2 (e:=94) (k:=1) (new:=Xi (ae a)) (X:=D) N rfl rfl rfl rfl underlying83 qc4 kR qd0 (by rw[kT,Wd,dY]) underlying83 (by intro k h;cases h) I (fun V s=>W0.X6 (s.has c (.cells (Xi (ae a)).toArray 94 (0,0)) V_) (dY _) (me _)) oM (fun B5 t f zc zd B ze C zf=>?_);have u:Vq w.heap.size f:=Vq.of_le fun a m=>by
     rcases C a m with h|h
     .exact F.le a h
     omega
    refine ko @dH ?_;refine Cw.Vd (M:=(b,.cells (Xi (ae x)).toArray 94 (0,0))::(f++(DG++[(c,.cells (Xi (ae a)).toArray 94 (0,0))]))) Xm ?_;refine ky @dH ?_;exact Vo.mk ⟨k+1,false,o++[a],t,f,DG++[(c,.cells (Xi (ae a)).toArray 94 (0,0))]⟩ (by show l.length - (k+1)<l.length - k;omega) ⟨q,⟨(fun h=>by have:=R h;rw[VV];simp;omega),by rw[VV];simp;omega⟩,u,H.app ⟨A,trivial⟩,i,by simpa using B⟩ rfl rfl
 obtain rfl:k=l.length:=by omega
 have S:decide ((l.length:Int)< (l.length:Int))=false:=aW oM;rw[List.drop_length] at i;cases d with
 |true=>rw[show Zf true [] x=[] from rfl,VX] at i;refine ky (qS1 @dH @Q @S) ?_;refine⟨_,(ke @dH),?_⟩;rw[<-i];exact⟨Ext.Vt zh,I.i fun a m=>ah _ (aq _ m)⟩
 |false=>
  rw[show Zf false [] x=[x] from rfl] at i;refine ky (qS1 @dH @Q @S) ?_;refine Ow.buildSlice (e:=94) (Xi (ae x)).toArray rfl rfl (fa underlying83 qc4 qd0 WT (dY _)) fun c zb A=>?_;refine ko @dH ?_;refine Ow.Vd (M:=D++((b,.cells (Xi (ae x)).toArray 94 (0,0))::(DG++[(c,.cells (Xi (ae x)).toArray 94 (0,0))]))) Xm ?_;refine Ow.W2 (e:=94) (k:=1) (new:=Xi (ae x)) (X:=D) N rfl rfl rfl rfl underlying83 qc4 kR qd0 (by rw[kT,Wd,dY]) underlying83 (by intro k h;cases h) I (fun V s=>W0.X6 (s.has c (.cells (Xi (ae x)).toArray 94 (0,0)) V_) (dY _) (me _)) oM (fun B5 t f zc zd B ze C zf=>?_);have u:Vq w.heap.size f:=Vq.of_le fun a m=>by
   rcases C a m with h|h
   .exact F.le a h
   omega
  refine ko @dH ?_;refine ky @dH ?_;refine⟨_,(ke @dH),?_⟩;rw[<-i];have zg:Gr f 94 2 t ((o++[x]).map ae).length (((o++[x]).map ae).map Xi).flatten:=by simpa using B
  exact⟨Ext.Vt (u.app (show Vq w.heap.size ((b,_)::(DG++[(c,_)])) from⟨Z,H.app ⟨A,trivial⟩⟩)),zg.i fun a m=>aq _ m⟩
def gk:=aN (aN (aN @bA @b9) (aN @A9 @uO)) (aN (aN @ux @vP) (aN @ul @nV))
def EH(x:No×Nat):cL (bP prog 94) (ac prog 94) [(0,vs x.1),(1,vi (x.2:Int))]=some (.agg (Xi (ae x)).toArray):=by rw[show bP prog 94=some [(0,1),(1,1)] from id kR,qR9];rfl
def sa(v:hU)(l:W_)(c:Wy)(w:hW)(m:qr9 w v l)(O:l.length<999999999)(F:c.kind=1->aL l c.a≠none):Va prog 61 #[v,.agg (Yc (Zg c)).toArray] w (XS w [] (fun r D=>NdG D r (bY l c))):=by
 have s:(Zg c).kind=(c.kind:Int):=rfl;have o:(Zg c).a=c.a:=rfl;have G:(Zg c).b=c.b:=rfl;have H:(Zg c).n=(c.n:Int):=rfl;refine Va.Vs func61 rfl (rs:=[.tmp 4]) results61 ntmps61 (fun p I=>by cases I) Wg ?_;refine kf ?_;refine ky @gk ?_;refine Ow.box rfl rfl fun e P t=>?_;refine Yx ?_;have f:Vq w.heap.size [(e,Obj.cells (Yc (Zg c)).toArray 134 (0,0))]:=⟨t,trivial⟩;refine ko @gk ?_;by_cases A:c.kind=0
 .have q:(((c.kind:Nat):Int)==0)=true:=by rw[A];rfl
  have g:bY l c=dU l (c.a,c.n):=by unfold bY;rw[A];rfl
  refine ky (qS3 @gk @s @q @o @H) ?_;refine Ow.build (.agg (Xi (ae (c.a,c.n))).toArray) rfl (EH (c.a,c.n)) ?_;refine ko @gk ?_;refine Ow.Wf rfl rfl call37 (fun a b=>Do v l (c.a,c.n) a (m.WO b f) oM) (fun B v1 D1 C i j k=>?_);refine ko @gk ?_;refine⟨_,(ke @gk),?_⟩;rw[g];exact⟨Ext.Vt (show Vq w.heap.size ((e,_)::D1) from⟨t,j.mono i⟩),k.mono fun u d=>ah _ d⟩
 have q:(((c.kind:Nat):Int)==0)=false:=WN.2 oM;by_cases x:c.kind=1
 .have y:(((c.kind:Nat):Int)==1)=true:=by rw[x];rfl
  obtain⟨n,E⟩:∃n,aL l c.a=some n:=by
   cases h:aL l c.a with
   |none=>exact Vx h (F x)
   |some n=>exact⟨n,rfl⟩
  have g:bY l c=dU (bl l c.a) (c.b,n):=by unfold bY;rw[x,E];rfl
  have J:gH l c.a=(n:Int):=by unfold gH;rw[E]
  have Q:=CP l c.a;refine kz [6] (qS3 @gk @s @q @y @o) ?_;refine Ow.Vc rfl call87 (fun a b=>DW v l c.a a (m.WO b f) oM) ?_;rw[J];refine ko @gk ?_;refine Cw.Vu [e] [0,1,4,6,2,5,7,3,8,9] [] kR kR kR ?_;refine WQ ?_;refine kq (qS1 @gk @o @G) ?_;refine Ow.build (.agg (Xi (ae (c.b,n))).toArray) rfl (EH (c.b,n)) ?_;refine kq @gk ?_;refine Ow.WV ?_;refine Ow.Wf rfl rfl call110 (fun a b=>UF v l c.a a (m.WO b f) oM) (fun B v1 D1 C i j k=>?_);have K:Vq w.heap.size ([(e,Obj.cells (Yc (Zg c)).toArray 134 (0,0))]++D1):=f.app (j.mono i);refine Ow.nil ?_;refine⟨fC Wg,?_⟩;refine kq @gk ?_;refine Ow.WV ?_;refine Ow.Wf rfl rfl call37 (fun a b=>Do v1 (bl l c.a) (c.b,n) a ((k.mono (fun u d=>by simp[d])).slV (z:=nd0) b rfl rfl dY) oM) (fun R v2 D2 S L M N=>?_);refine Ow.nil ?_;refine⟨fC Wg,?_⟩;refine kq @gk ?_;refine⟨_,(ke @gk),?_⟩;rw[g];exact⟨Ext.Vt (K.app (M.mono L)),N.mono fun u d=>by simp[d]⟩
 have y:(((c.kind:Nat):Int)==1)=false:=WN.2 oM;have g:bY l c=bl l c.a:=by
  unfold bY
  split
  .omega
  .omega
  rfl
 refine ky (qS3 @gk @s @q @y @o) ?_;refine Ow.Wf rfl rfl call110 (fun a b=>UF v l c.a a (m.WO b f) oM) (fun B v1 D1 C i j k=>?_);refine ko @gk ?_;refine⟨_,(ke @gk),?_⟩;rw[g];exact⟨Ext.Vt (show Vq w.heap.size ((e,_)::D1) from⟨t,j.mono i⟩),k.mono fun u d=>ah _ d⟩
structure Yd where
 bd:Nat
 s:Nat->hU
 t:Nat->hU
 p:Nat->hU
 f:hU
def el(S:h8):Int:=if S.fused=true then S.Wv else -1
def Xe(G:Yd)(S:h8):Obj:=.cells #[G.s 0,G.t 0,G.p 0,G.s 1,G.t 1,G.p 1,G.s 2,G.t 2,G.p 2,G.f,vi S.max,vi (el S),.bool S.off] 89 (0,0)
def fD(c:Wy):Wy:=if c.kind=0 then⟨0,c.a,[],c.n⟩ else if c.kind=1 then⟨1,c.a,c.b,0⟩ else⟨2,c.a,[],0⟩
def Dm(l:W_)(c:Wy):bY l (fD c)=bY l c:=by
 obtain⟨k,a,b,n⟩:=c;unfold fD
 match k with
 |0=>rfl
 |1=>rfl
 |k+2=>rw[tr V_,tr V_];rfl
def NdP(X:aA)(v:hU)(l:W_):Prop:=Gr X 94 2 v (l.map ae).length ((l.map ae).map Xi).flatten
def KcP(X:aA)(v:hU)(l:List Wy):Prop:=Gr X 134 4 v (l.map Zg).length ((l.map Zg).map Yc).flatten
def FdP(X:aA)(v:hU)(l:List WR):Prop:=Gr X 91 2 v (l.map bu).length ((l.map bu).map Ye).flatten
structure XT(X:aA)(G:Yd)(S:h8):Prop where
 disk:Sx.look X G.bd=some (Xe G S)
 seen:∀k,k<3->NdP X (G.s k) (S.dir k).seen
 stl:∀k,k<3->NdP X (G.t k) (S.dir k).stl
 Vl:∀k,k<3-> ∃pl:List Wy,pl.map fD=(S.dir k).Vl.map fD/\KcP X (G.p k) pl
 files:FdP X G.f S.files
 pdis:∀i j,i<3->j<3->i≠j-> ∀b,Xy (G.p i)=some b->Xy (G.p j)≠some b
def DcW(w:hW)(G:Yd)(S:h8):Prop:= ∃X,(∀b o,Sx.look X b=some o->w.heap[b]? =some o)/\XT X G S
def Gr.YO{X L:aA}{E:h7}{m n:Nat}{v:hU}{cs:List hU}(h:Gr X E m v n cs){c:Nat}{a:Obj}(e:Sx.look X c=some a)(f:Xo a≠some E)(Vn:∀b o,b≠c->Sx.look X b=some o->Sx.look L b=some o):Gr L E m v n cs:=h.Vn fun b o g i=>Vn b o (by rintro rfl;obtain⟨arr,d⟩:=fE h g;rw[e] at d;cases d;exact f rfl) i
def XT.mono{X X':aA}{G:Yd}{S:h8}(h:XT X G S)(c:∀b o,Sx.look X b=some o->Sx.look X' b=some o):XT X' G S where
 disk:=c _ _ h.disk
 seen k BE:=(h.seen k BE).Vn fun b o _ a=>c b o a
 stl k BE:=(h.stl k BE).Vn fun b o _ a=>c b o a
 Vl k BE:=by obtain⟨d,e,f⟩:=h.Vl k BE;exact⟨d,e,f.Vn fun b o _ a=>c b o a⟩
 files:=h.files.Vn fun b o _ a=>c b o a
 pdis:=h.pdis
def XT.world{X:aA}{G:Yd}{S:h8}{w0 w:hW}(h:XT X G S)(a:Hp w0 X w):DcW w G S:=⟨X,fun _ _ b=>a.has _ _ (bU b),h⟩
def XT.qr1{X:aA}{G:Yd}{S:h8}{w:hW}(h:XT X G S)(a:∀p,p∈X->w.heap[p.1]? =some p.2):DcW w G S:=⟨X,fun _ _ b=>a _ (bU b),h⟩
theorem DcW.Wo{w a:hW}{L:aA}{G:Yd}{S:h8}(h:DcW w G S)(f:Hp w L a)(g:Vq w.heap.size L):DcW a G S:=by obtain⟨X,c,i⟩:=h;refine⟨X,fun b o d=>?_,i⟩;have e:=(Array.getElem?_eq_some_iff.1 (c b o d)).1;exact(f.Wo b e (g.not e)).trans (c b o d)
def dy(G:Yd)(S:h8):Xo (Xe G S)=some 89:=rfl
def jG:(some 89:Option h7)≠some 94:=by decide
def ik:(some 89:Option h7)≠some 134:=by decide
def jY:(some 89:Option h7)≠some 91:=by decide
def XT.upd{X L:aA}{G d:Yd}{S S':h8}(h:XT X G S)(g:d.bd=G.bd)(Vn:∀b o,b≠G.bd->Sx.look X b=some o->Sx.look L b=some o)(l:Sx.look L G.bd=some (Xe d S'))
  (m:∀k,k<3->(d.s k=G.s k/\(S'.dir k).seen=(S.dir k).seen)\/NdP L (d.s k) (S'.dir k).seen)
  (n:∀k,k<3->(d.t k=G.t k/\(S'.dir k).stl=(S.dir k).stl)\/NdP L (d.t k) (S'.dir k).stl)
  (e:∀k,k<3->(d.p k=G.p k/\(S'.dir k).Vl=(S.dir k).Vl)\/(d.p k= Vj/\(S'.dir k).Vl=[]))
  (f:d.f=G.f/\S'.files=S.files):XT L d S' where
 disk:=by rw[g];exact l
 seen k hk:=by
  rcases m k hk with⟨a,c⟩ |a
  .rw[a,c];exact Gr.YO (h.seen k hk) h.disk (by rw[dy];exact jG) Vn
  exact a
 stl k hk:=by
  rcases n k hk with⟨a,c⟩ |a
  .rw[a,c];exact Gr.YO (h.stl k hk) h.disk (by rw[dy];exact jG) Vn
  exact a
 Vl k hk:=by
  rcases e k hk with⟨a,c⟩ | ⟨a,c⟩
  .obtain⟨p,q,r⟩:=h.Vl k hk;exact⟨p,by rw[c];exact q,by rw[a];exact Gr.YO r h.disk (by rw[dy];exact ik) Vn⟩
  exact⟨[],by rw[c],by rw[a];exact Gr.nl⟩
 files:=by rw[f.1,f.2];exact Gr.YO h.files h.disk (by rw[dy];exact jY) Vn
 pdis i j hi hj Cp b:=by
  rcases e i hi with⟨a,-⟩ | ⟨a,-⟩
  .rcases e j hj with⟨c,-⟩ | ⟨c,-⟩
   .rw[a,c];exact h.pdis i j hi hj Cp b
   rw[c];intro _ h;cases h
  rw[a];intro h;cases h
def XT.qy9{X:aA}{G:Yd}{S:h8}(h:XT X G S)(S':h8)(a:S'.dir=S.dir)(c:S'.files=S.files):XT (Vh X G.bd (Xe G S')) G S':=
 h.upd rfl (fun b o d e=>by rw[bE (Wq d)];exact e) (cY h.disk) (fun k _=>.inl ⟨rfl,by rw[a]⟩) (fun k _=>.inl ⟨rfl,by rw[a]⟩) (fun k _=>.inl ⟨rfl,by rw[a]⟩) ⟨rfl,c⟩
def kS(G:Yd)(S:h8){k:Nat}(a:k<3)(n:Nat):aF (some (false,n)) (some (Xe G S)) (k*3)=some (G.s k):=by
 have:k=0\/k=1\/k=2:=by omega
 rcases this with rfl|rfl|rfl<;>rfl
def Nk(G:Yd)(S:h8){k:Nat}(a:k<3)(n:Nat):aF (some (false,n)) (some (Xe G S)) (k*3+1)=some (G.t k):=by
 have:k=0\/k=1\/k=2:=by omega
 rcases this with rfl|rfl|rfl<;>rfl
def vA(G:Yd)(S:h8){k:Nat}(a:k<3)(n:Nat):aF (some (false,n)) (some (Xe G S)) (k*3+2)=some (G.p k):=by
 have:k=0\/k=1\/k=2:=by omega
 rcases this with rfl|rfl|rfl<;>rfl
def px(G:Yd)(S:h8)(n:Nat):aF (some (false,n)) (some (Xe G S)) 9=some G.f:=(rfl)
def p'(G:Yd)(S:h8)(n:Nat):aF (some (false,n)) (some (Xe G S)) 10=some (vi S.max):=(rfl)
def po(G:Yd)(S:h8)(n:Nat):aF (some (false,n)) (some (Xe G S)) 11=some (vi (el S)):=(rfl)
def pc(G:Yd)(S:h8)(n:Nat):aF (some (false,n)) (some (Xe G S)) 12=some (.bool S.off):=(rfl)
def bQ(G:Yd)(k:Nat)(v:hU):Yd:={G with s:=fun j=>if j=k then v else G.s j}
def dC(G:Yd)(k:Nat)(v:hU):Yd:={G with t:=fun j=>if j=k then v else G.t j}
def cV(G:Yd)(k:Nat)(v:hU):Yd:={G with p:=fun j=>if j=k then v else G.p j}
def EQ(G:Yd)(S:h8){k:Nat}(b:k<3)(x:Bool){q:hU}(a:Value.oneCell' q=true/\q.cells=#[q]):aZ (some (x,1)) (some (Xe G S)) (k*3) q=some (Xe (bQ G k q) S):=by
 have:k=0\/k=1\/k=2:=by omega
 rcases this with rfl|rfl|rfl
 .exact cP [] [G.s 0] [q] [G.t 0,G.p 0,G.s 1,G.t 1,G.p 1,G.s 2,G.t 2,G.p 2,G.f,vi S.max,vi (el S),.bool S.off] x _ 89 rfl rfl a.2 rfl (by simp[a.1])
 .exact cP [G.s 0,G.t 0,G.p 0] [G.s 1] [q] [G.t 1,G.p 1,G.s 2,G.t 2,G.p 2,G.f,vi S.max,vi (el S),.bool S.off] x _ 89 rfl rfl a.2 rfl (by simp[a.1])
 exact cP [G.s 0,G.t 0,G.p 0,G.s 1,G.t 1,G.p 1] [G.s 2] [q] [G.t 2,G.p 2,G.f,vi S.max,vi (el S),.bool S.off] x _ 89 rfl rfl a.2 rfl (by simp[a.1])
def nH(G:Yd)(S:h8){k:Nat}(b:k<3)(x:Bool){q:hU}(a:Value.oneCell' q=true/\q.cells=#[q]):aZ (some (x,1)) (some (Xe G S)) (k*3+1) q=some (Xe (dC G k q) S):=by
 have:k=0\/k=1\/k=2:=by omega
 rcases this with rfl|rfl|rfl
 .exact cP [G.s 0] [G.t 0] [q] [G.p 0,G.s 1,G.t 1,G.p 1,G.s 2,G.t 2,G.p 2,G.f,vi S.max,vi (el S),.bool S.off] x _ 89 rfl rfl a.2 rfl (by simp[a.1])
 .exact cP [G.s 0,G.t 0,G.p 0,G.s 1] [G.t 1] [q] [G.p 1,G.s 2,G.t 2,G.p 2,G.f,vi S.max,vi (el S),.bool S.off] x _ 89 rfl rfl a.2 rfl (by simp[a.1])
 exact cP [G.s 0,G.t 0,G.p 0,G.s 1,G.t 1,G.p 1,G.s 2] [G.t 2] [q] [G.p 2,G.f,vi S.max,vi (el S),.bool S.off] x _ 89 rfl rfl a.2 rfl (by simp[a.1])
def EK(G:Yd)(S:h8){k:Nat}(b:k<3)(x:Bool){q:hU}(a:Value.oneCell' q=true/\q.cells=#[q]):aZ (some (x,1)) (some (Xe G S)) (k*3+2) q=some (Xe (cV G k q) S):=by
 have:k=0\/k=1\/k=2:=by omega
 rcases this with rfl|rfl|rfl
 .exact cP [G.s 0,G.t 0] [G.p 0] [q] [G.s 1,G.t 1,G.p 1,G.s 2,G.t 2,G.p 2,G.f,vi S.max,vi (el S),.bool S.off] x _ 89 rfl rfl a.2 rfl (by simp[a.1])
 .exact cP [G.s 0,G.t 0,G.p 0,G.s 1,G.t 1] [G.p 1] [q] [G.s 2,G.t 2,G.p 2,G.f,vi S.max,vi (el S),.bool S.off] x _ 89 rfl rfl a.2 rfl (by simp[a.1])
 exact cP [G.s 0,G.t 0,G.p 0,G.s 1,G.t 1,G.p 1,G.s 2,G.t 2] [G.p 2] [q] [G.f,vi S.max,vi (el S),.bool S.off] x _ 89 rfl rfl a.2 rfl (by simp[a.1])
def tC(G:Yd)(S:h8)(x:Bool){q:hU}(a:Value.oneCell' q=true/\q.cells=#[q]):aZ (some (x,1)) (some (Xe G S)) 9 q=some (Xe {G with f:=q} S):=
 cP [G.s 0,G.t 0,G.p 0,G.s 1,G.t 1,G.p 1,G.s 2,G.t 2,G.p 2] [G.f] [q] [vi S.max,vi (el S),.bool S.off] x _ 89 rfl rfl a.2 rfl (by simp[a.1])
def dcL(G:Yd)(S:h8)(n:Int)(b:Bool):Obj:=.cells #[G.s 0,G.t 0,G.p 0,G.s 1,G.t 1,G.p 1,G.s 2,G.t 2,G.p 2,G.f,vi S.max,vi n,.bool b] 89 (0,0)
def lO(G:Yd)(S S':h8){n:Int}{b:Bool}(a:S'.max=S.max)(c:el S'=n)(d:S'.off=b):dcL G S n b=Xe G S':=by unfold dcL Xe;rw[a,c,d]
def CT(G:Yd)(S:h8)(n:Int)(a:Bool):aZ (some (a,1)) (some (Xe G S)) 11 (vi n)=some (dcL G S n S.off):=cP [G.s 0,G.t 0,G.p 0,G.s 1,G.t 1,G.p 1,G.s 2,G.t 2,G.p 2,G.f,vi S.max] [vi (el S)] [vi n] [.bool S.off] a _ 89 rfl rfl rfl rfl rfl
def DM(G:Yd)(S:h8)(m n:Int)(b a:Bool):aZ (some (a,1)) (some (dcL G S m b)) 11 (vi n)=some (dcL G S n b):=cP [G.s 0,G.t 0,G.p 0,G.s 1,G.t 1,G.p 1,G.s 2,G.t 2,G.p 2,G.f,vi S.max] [vi m] [vi n] [.bool b] a _ 89 rfl rfl rfl rfl rfl
def CQ(G:Yd)(S:h8)(x a:Bool):aZ (some (a,1)) (some (Xe G S)) 12 (.bool x)=some (Xe G {S with off:=x}):=cP [G.s 0,G.t 0,G.p 0,G.s 1,G.t 1,G.p 1,G.s 2,G.t 2,G.p 2,G.f,vi S.max,vi (el S)] [.bool S.off] [.bool x] [] a _ 89 rfl rfl rfl rfl rfl
def Dy(G:Yd)(S:h8)(x:Int)(a:Bool):aZ (some (a,1)) (some (Xe G S)) 10 (vi x)=some (Xe G {S with max:=x}):=cP [G.s 0,G.t 0,G.p 0,G.s 1,G.t 1,G.p 1,G.s 2,G.t 2,G.p 2,G.f] [vi S.max] [vi x] [vi (el S),.bool S.off] a _ 89 rfl rfl rfl rfl rfl
def O0(q:Int):cL (bP prog 89) (ac prog 89) [(2,vi q),(3,vi (-1))]=some (.agg #[Vj, Vj, Vj, Vj, Vj, Vj, Vj, Vj, Vj, Vj,vi q,vi (-1),.bool false]):=by rw[show bP prog 89=some [(0,9),(9,1),(10,1),(11,1),(12,1)] from id kR,qR7];rfl
def qt4(b:Nat):Yd:=⟨b,fun _=> Vj,fun _=> Vj,fun _=> Vj, Vj⟩
def Q1(b:Nat)(q:Int):XT [(b,Xe (qt4 b) (dN q))] (qt4 b) (dN q) where
 disk:=by simp[Sx.look,qt4]
 seen _ _:=Gr.nl
 stl _ _:=Gr.nl
 Vl _ _:=⟨[],rfl,Gr.nl⟩
 files:=Gr.nl
 pdis _ _ _ _ _ _ h:=by cases h
def iZ:=aN (aN (aN @bA @b9) (qS1 @px @p' @po)) (aN (aN @pc @CT) (qS1 @DM @CQ @Dy))
def LZ(q:Int)(w:hW):Va prog 34 #[vi q] w (XS w [] (fun v D=> ∃G,v=vp G.bd 0/\XT D G (dN q))):=by refine Va.Vs func34 rfl (rs:=[.tmp 2]) results34 ntmps34 (fun p b=>by cases b) Wg ?_;refine kf ?_;refine ky @iZ ?_;refine Ow.build _ rfl (O0 q) ?_;refine Ow.box rfl rfl fun a d c=>?_;simp only[ag,Vy];refine ko @iZ ?_;refine ky @iZ ?_;refine⟨_,(ke @iZ),?_⟩;exact⟨Ext.Vt ⟨c,trivial⟩,qt4 a,rfl,Q1 a q⟩
def IR(G:Yd)(S:h8)(w:hW)(f: -9223372036854775808<=S.Wv/\S.Wv<9223372036854775808/\(S.fused=true->0<=S.Wv))(g:w.heap[G.bd]? =some (Xe G S)):
  Va prog 104 #[vp G.bd 0] w (fun v D=> ∃o,D=[(G.bd,o)]/\v=vi (aD S).2/\o=Xe G (aD S).1):=by
 refine Va.XV func104 rfl (rs:=[.tmp 2]) results104 ntmps104 g ?_;refine kf ?_;unfold aD;rcases Bool.eq_false_or_eq_true S.fused with a|a
 case inr=>
  have c:el S= -1:=by unfold el;rw[a];rfl
  have b:((-1:Int)==0)=false:=rfl;have e:decide ((0:Int)< -1)=false:=rfl;rw[tr (fun h=>by rw[a] at h;cases h.1),tr (fun h=>by rw[a] at h;cases h)];refine ky (qS2 @iZ @c @b @e) ?_;refine⟨_,_,_,(ke @iZ),rfl,trivial,?_⟩;exact⟨rfl,rfl⟩
 case inl=>
  have c:el S=S.Wv:=by unfold el;rw[a];rfl
  have j:=f.2.2 a;by_cases d:S.Wv=0
  .have b:(S.Wv==0)=true:=W8.2 d;rw[Vb ⟨a,d⟩];refine ky (qS1 @iZ @c @b) ?_;refine⟨_,_,_,(ke @iZ),rfl,trivial,?_⟩;exact⟨rfl,rfl⟩
  have b:(S.Wv==0)=false:=WN.2 d;have e:decide ((0:Int)<S.Wv)=true:=aP oM;have i:el {S with Wv:=S.Wv - 1}=S.Wv - 1:=by unfold el;rw[Vb a]
  rw[tr (fun h=>d h.2),Vb a];refine ky (qS2 @iZ @c @b @e) ?_;refine⟨_,_,_,(ke @iZ),rfl,trivial,?_⟩;exact⟨rfl,lO G S {S with Wv:=S.Wv - 1} rfl i rfl⟩
def Gq(G:Yd)(S:h8)(n:Int)(w:hW)(d: -9223372036854775808<=n/\n<9223372036854775808)(c:w.heap[G.bd]? =some (Xe G S)):
  Va prog 21 #[vp G.bd 0,vi n] w (fun v D=> ∃o,D=[(G.bd,o)]/\v=bS []/\o=Xe G {S with Wv:=n,fused:=decide (0<=n)}):=by
 refine Va.XV func21 rfl (rs:=[]) results21 ntmps21 c ?_;refine kf ?_;by_cases b:n<0
 .have a:decide (n<0)=true:=aP b;refine ky (aN @iZ @a) ?_;refine⟨_,_,_,(ke @iZ),rfl,trivial,?_⟩;exact⟨rfl,lO G S {S with Wv:=n,fused:=decide (0<=n)} rfl (by unfold el;rw[show decide (0<=n)=false from aW oM];rfl) rfl⟩
 have a:decide (n<0)=false:=aW b;refine ky (aN @iZ @a) ?_;refine⟨_,_,_,(ke @iZ),rfl,trivial,?_⟩;exact⟨rfl,lO G S {S with Wv:=n,fused:=decide (0<=n)} rfl (by unfold el;rw[show decide (0<=n)=true from aP oM];rfl) rfl⟩
def Gr.slW{α:Type}{m:Nat}{enc:α->List hU}{z:α}{X:aA}{E:h7}{v:hU}{l:List α}{w:hW}(h:Gr X E m v l.length (l.map enc).flatten)(i:∀b o,Sx.look X b=some o->w.heap[b]? =some o)(c:∀x,(enc x).length=m):Xz m enc z w v l:=by
 cases d:Xy v with
 |none=>exact Gr.slM (h.Vn (L':=[]) fun b o a=>by rw[d] at a;cases a) (fun b o c=>by cases c) rfl rfl c
 |some b=>
  obtain⟨arr,e⟩:=fE h d;refine Gr.slM (h.Vn (L':=[(b,.cells arr E (0,0))]) fun j o a f=>?_) (fun j o g=>?_) rfl rfl c
  .rw[d] at a;cases a;rw[e] at f;cases f;simp[Sx.look]
  simp only[VZ,Xp] at g;obtain⟨rfl,rfl⟩:=g;exact i _ _ e
def pG{S:h8}{dir x:No}(h:al dir=none\/bF x=false):bX S dir x=([],1):=by
 have a:bi S dir [x]=1:=by
  unfold bi;rw[Vb];rcases h with h|h
  .exact .inl h
  right;simp[h]
 unfold bX;rw[Vb (by rw[a];simp),a]
def eO:=aN (aN (aN @bA @b9) (aN @px @p')) (aN (aN @po @pc) (aN @Sx.Wk @Sx.Wl))
def sB(w:hW)(G:Yd)(S:h8)(dir name:No)(y:DcW w G S)(ok:XK S)(A:DkB S)(B:name.length<1099511627776):
  Va prog 42 #[vp G.bd 0,vs dir,vs name] w (fun v D=>v=.tuple #[vs (bX S dir name).1,vi ((bX S dir name).2:Nat)]/\D=[]):=by
 obtain⟨X,f,g⟩:=y;have h:=f _ _ g.disk;refine Va.Vr func42 rfl (rs:=[.tmp 6,.tmp 7]) results42 ntmps42 ?_;refine kf ?_;refine ky @eO ?_;refine Ow.Vc rfl call35 (fun b i=>DS dir b) ?_;cases a:al dir with
 |none=>
  have j:iB dir= -1:=by unfold iB;rw[a]
  have l:decide ((-1:Int)<0)=true:=rfl;rw[j];refine ko @eO ?_;refine ky (aN @eO @l) ?_;refine⟨_,(ke @eO),trivial,?_⟩
  (rw[pG (.inl a)];rfl)
 |some k=>
  have e:=(cN a).1;have j:iB dir=(k:Int):=by unfold iB;rw[a]
  have l:decide ((k:Int)<0)=false:=aW oM;rw[j];refine ko @eO ?_;refine ky (aN @eO @l) ?_;refine Ow.Vc rfl call36 (fun b i=>Cj name b B) ?_;cases r:bF name with
  |false=>
   refine ko @eO ?_;refine ky @eO ?_;refine⟨_,(ke @eO),trivial,?_⟩
   (rw[pG (.inr r)];rfl)
  |true=>
   refine ko @eO ?_;have m:bi S dir [name]=if S.off=true then 9 else 0:=by unfold bi;rw[tr (by rw[a];simp[r])]
   have C:((al dir).bind fun k=>aL (S.dir k).seen name)=aL (S.dir k).seen name:=by rw[a];rfl
   rcases Bool.eq_false_or_eq_true S.off with c|c
   .refine ky (qS1 @eO @h @c) ?_;refine⟨_,(ke @eO),trivial,?_⟩
    (unfold bX;rw[m,Vb c,Vb V_];rfl)
   have F:=Gr.slW (z:=nd0) (g.seen k e) f dY;have H:=fun n=>kS G S e n;have I:=Gr.slW (z:=YQ) g.files f g5;obtain⟨M,off,arr,E,fz,o⟩:=I.row;rw[tr (by rw[c];simp)] at m;have s:bX S dir name=match aL (S.dir k).seen name with|none=>([],6) |some n=>((aC S n).data,0):=by unfold bX;rw[m,tr V_,C];cases aL (S.dir k).seen name<;>rfl
   refine ky (qS2 @eO @h @c @H) ?_;refine Ow.Vc rfl call87 (fun b i=>DW (G.s k) (S.dir k).seen name b (F.WO i trivial) (by have:=(A k e).1;omega)) ?_;cases d:aL (S.dir k).seen name with
   |none=>
    have p:gH (S.dir k).seen name= -1:=by unfold gH;rw[d]
    have q:decide ((-1:Int)<0)=true:=rfl;rw[p];refine ko @eO ?_;refine ky (aN @eO @q) ?_;refine⟨_,(ke @eO),trivial,?_⟩
    (rw[s,d];rfl)
   |some n=>
    have p:gH (S.dir k).seen name=(n:Int):=by unfold gH;rw[d]
    have q:decide ((n:Int)<0)=false:=aW oM;have J:=ok.seenN k e _ (eY d);have t:n< (S.files.map bu).length:=by rw[Wx];exact J
    have K:=o.idx true n t;have L:=o.has oM;have u:∀x,aF (some (false,x)) (some (.cells arr E fz)) (off+n*2)=some (vs ((S.files.map bu).getD n YQ).data):=fun x=>by have:=o6 o t x;rwa [XL] at this
    rw[kj] at u;rw[p];refine ko @eO ?_;refine ky (qS4 @eO @q @h @K @L @u) ?_;refine⟨_,(ke @eO),trivial,?_⟩
    (rw[s,d];rfl)
structure LcG where
 k:Nat
 v:hU
 D:aA
 DG:aA
def jS{w:hW}{b:Nat}{o:Obj}(a:w.heap[b]? =some o){Y:aA}(c:Vq w.heap.size Y):aG w Y b=some o:=by rw[dr (c.not (Array.getElem?_eq_some_iff.1 a).1)];exact a
def gR(S:h8):Nat->Nat
 |0=>0
 |k+1=>gR S k+dK S (S.dir k).seen
def PQ(S:h8){k:Nat}(a:k<3):gR S k+dK S (S.dir k).seen<=ej S:=by
 have:k=0\/k=1\/k=2:=by omega
 rcases this with rfl|rfl|rfl<;>(simp only[gR,ej];omega)
def Ks(S:h8){l:W_}{i:Nat}(h:i<l.length):dK S (l.take (i+1))=dK S (l.take i)+ (aC S (l.getD i ([],0)).2).data.length:=by unfold dK;rw[StP.WJ (z:=([],0)) h,We,List.sum_append,List.map_singleton,List.sum_singleton];rfl
def GG(S:h8)(l:W_)(i:Nat):dK S (l.take i)<=dK S l:=by
 have:dK S l=dK S (l.take i)+dK S (l.drop i):=by unfold dK;rw[<-List.sum_append,<-We,Y1]
 omega
structure UkG where
 k:Nat
 n:Nat
def Jn(w:hW)(G:Yd)(S:h8)(L:DcW w G S)(ok:XK S)(M:DkB S)(hb:ej S<4611686018427387904):
  Va prog 103 #[vp G.bd 0] w (fun v D=>v=vi (ej S:Nat)/\D=[]):=by
 obtain⟨X,f,h⟩:=L;have l:=f _ _ h.disk;have N:=Gr.slW (z:=YQ) h.files f g5;obtain⟨O,A,B,C,F,o⟩:=N.row;refine Va.Vr func103 rfl (rs:=[.tmp 2]) results103 ntmps103 ?_;refine kf ?_;refine ky @eO ?_;refine Cw.VU (G:=UkG) [6,7,5,10,11,12,13,14,15,16,17,18,19,22,23,24,25,26,27,28,29,30,31,32,33,34,35,36,37,38,39,40,41,42,3,20,21,8,9,4] (fun g=>[(3,vi g.n),(4,vi g.k)]) (fun g=>[]) (fun g=>g.k<=3/\g.n=gR S g.k) (fun g=>3 - g.k) ⟨0,0⟩ rfl rfl ?_ ?_
 .exact⟨aR _,rfl⟩
 intro g j d;refine kv ?_;obtain⟨k,n⟩:=g;simp only at d |-;obtain⟨hk,P⟩:=d;by_cases c:k<3
 .have p:decide ((k:Int)<3)=true:=aP oM;have H:=Gr.slW (z:=nd0) (h.seen k c) f dY;have q:=fun n=>kS G S c n;have r:=H.len;rw[Wx] at r;obtain⟨Q,off,arr,E,fz,s⟩:=H.row;have zc:=PQ S c;have R:=ok.seenN k c;have zd:=(M k c).1;have ze:gR S (k+1)=gR S k+dK S (S.dir k).seen:=rfl;generalize (S.dir k).seen=a at*;refine ky (aN @eO @p) ?_;refine Cw.VU (G:=UkG) [10,11,12,13,14,15,16,17,18,19,22,23,24,25,26,27,28,29,30,31,32,33,34,35,36,37,38,39,40,41,42,3,20,21,5] (fun g=>[(3,vi g.n),(5,vi g.k)]) (fun g=>[]) (fun g=>g.k<=a.length/\g.n=n+dK S (a.take g.k)) (fun g=>a.length - g.k) ⟨0,n⟩ rfl rfl ?_ ?_
  .exact⟨aR _,rfl⟩
  intro g j d;refine kv ?_;obtain⟨i,m⟩:=g;simp only at d |-;obtain⟨hi,T⟩:=d;by_cases e:i<a.length
  .have t:decide ((i:Int)< (a.length:Int))=true:=aP oM;have I:i< (a.map ae).length:=by rw[Wx];exact e
   have U:=s.idx true i I;have V:=s.has oM;have u:∀n,aF (some (false,n)) (some (.cells arr E fz)) (off+i*2+1)=some (vi ((a.map ae).getD i nd0).n):=fun n=>A3 s I n;rw[ir] at u;have W:=Ks S e;have zf:=GG S a (i+1);have J:=R (a.getD i ([],0)) (W9 (z:=([],0)) e);generalize a.getD i ([],0)=Y at*;obtain⟨qs,b⟩:=Y;simp only[ae] at u J W;have K:b< (S.files.map bu).length:=by rw[Wx];exact J
   have Z:=o.idx true b K;have za:=o.has oM;have y:∀x,aF (some (false,x)) (some (.cells B C F)) (A+b*2)=some (vs ((S.files.map bu).getD b YQ).data):=fun x=>by have:=o6 o K x;rwa [XL] at this
   rw[kj] at y;have zb:∀x,aF (some (false,x)) (some (.cells B C F)) (A+b*2)=some (vs (aC S b).data):=y;clear y;have es:(m:Int)+ ((aC S b).data.length:Int)=((m+ (aC S b).data.length:Nat):Int):=by omega
   refine ky (qS3 @eO @l @q @r @t) ?_;refine Cw.Vu [G.bd,O,Q] [0,1,2,3,5,6,7,8,9,10,12,4,11,13,14,15,16,17,18,19,20,21] [] kR kR kR ?_;refine WQ ?_;refine kq (aN @eO (aN @l (qS6 @q @U @V @u @Z @za @zb @es))) ?_;refine ky @eO ?_;exact Vo.mk ⟨i+1,m+ (aC S b).data.length⟩ (by show a.length - (i+1)<a.length - i;omega) ⟨e,by show m+ (aC S b).data.length=n+dK S (a.take (i+1));omega⟩ rfl rfl
  obtain rfl:i=a.length:=by omega
  have t:decide ((a.length:Int)< (a.length:Int))=false:=aW oM;rw[WH] at T;refine ky (qS3 @eO @l @q @r @t) ?_;exact Vo.mk ⟨k+1,m⟩ (by show 3 - (k+1)<3 - k;omega) ⟨c,by show m=gR S (k+1);omega⟩ rfl rfl
 obtain rfl:k=3:=by omega
 have p:decide (((3:Nat):Int)<3)=false:=rfl;refine ky (aN @eO @p) ?_;refine⟨_,(ke @eO),trivial,?_⟩
 (rw[P];show vi _=vi _;congr 2;simp[gR,ej])
def Ld{S:h8}(h:S.off=true):kr S=[]:=by unfold kr er er er er ey;simp[h]
def gg:=aN (aN (qS1 @bA @b9 @px) (qS1 @p' @po @pc)) (aN (qS1 @Sx.Wk @Sx.Wl @w3) (aN (aN @wD @MD) (aN @kT @q')))
def Ma(w:hW)(G:Yd)(S:h8)(hD:DcW w G S)(ok:XK S)(I:DkB S):
  Va prog 26 #[vp G.bd 0] w (XS w [] (fun v D=>Yq D 67 3 v (kr S).length ((kr S).map XI).flatten)):=by
 obtain⟨X,J,K⟩:=hD;have m:=J _ _ K.disk;have zq:=Gr.slW (z:=YQ) K.files J g5;obtain⟨rf,V,W,Y,Z,q⟩:=zq.row;refine Va.Vs func26 rfl (rs:=[.tmp 2]) results26 ntmps26 (fun p L=>by cases L) Wg ?_;refine kf ?_;rcases Bool.eq_false_or_eq_true S.off with t|t
 .refine ky (qS1 @gg @m @t) ?_;refine⟨_,(ke @gg),?_⟩;rw[Ld t];exact⟨Ext.refl w [],Gr.nl.i fun _ h=>h⟩
 refine ky (qS1 @gg @m @t) ?_;refine Ow.Wf rfl rfl call62 (fun w' za=>u1 w') (fun B1 v1 D1 zI zr zt zu=>?_);obtain⟨a,rfl,rfl⟩:=zu;have A:w.heap.size<=a:=(zt.mono zr).1;rw[Vy];refine ko @gg ?_;refine ky @gg ?_;refine Cw.Vd (M:=(a,gb)::([]++[])) (WW _) ?_;refine Cw.VU (G:=LcG) [13,14,6,17,18,19,20,21,22,23,24,25,26,29,30,31,32,33,34,35,36,37,38,7,39,40,41,42,43,44,45,46,47,48,49,50,51,52,53,54,55,56,57,3,27,28,15,16,5] (fun g=>[(3,g.v),(5,vi g.k)]) (fun g=>(a,gb)::(g.D++g.DG)) (fun g=>g.k<=3/\Vq w.heap.size g.D/\Vq w.heap.size g.DG/\Gr g.D 67 3 g.v (er S g.k).length ((er S g.k).map XI).flatten) (fun g=>3 - g.k) ⟨0, Vj,[],[]⟩ rfl rfl ?_ ?_
 .exact⟨aR _,trivial,trivial,Gr.nl⟩
 intro g j u;refine kv ?_;obtain⟨k,v,D,DG⟩:=g;simp only at u |-;obtain⟨hk,i,d,o⟩:=u;by_cases l:k<3
 .have N:decide ((k:Int)<3)=true:=aP oM;have zJ:=Bg I k hk;have zv:=Df I l;have zb:=Gr.slW (z:=nd0) (K.seen k l) J dY;have zc:=fun n=>kS G S l n;have O:=zb.len;rw[Wx] at O;obtain⟨rb,off,arr,E,fz,f⟩:=zb.row;have zw:=ok.seenN k l;have zK:=(I k l).1;have P:ey S k=(S.dir k).seen.map fun p=>⟨bT k,p.1,(S.files.getD p.2 bV).data⟩:=by unfold ey;rw[t];rfl
  generalize (S.dir k).seen=b at*;rw[P,Wx] at zv;have zx:=uR a l true;have zy:=fun n=>sx l n;refine kz [10] (aN @gg @N) ?_;refine Cw.VU (G:=LcG) [17,18,19,20,21,22,23,24,25,26,29,30,31,32,33,34,35,36,37,38,7,39,40,41,42,43,44,45,46,47,48,49,50,51,52,53,54,55,56,57,3,27,28,6] (fun g=>[(3,g.v),(6,vi g.k)]) (fun g=>(a,gb)::(g.D++g.DG)) (fun g=>g.k<=b.length/\Vq w.heap.size g.D/\Vq w.heap.size g.DG/\Gr g.D 67 3 g.v ((er S k).length+g.k) ((er S k++(ey S k).take g.k).map XI).flatten) (fun g=>b.length - g.k) ⟨0,v,D,DG⟩ rfl rfl ?_ ?_
  .exact⟨aR _,i,d,by simpa using o⟩
  intro g j u;refine kv ?_;clear i d o;obtain⟨j,v,D,DG⟩:=g;simp only at u |-;obtain⟨hj,i,d,o⟩:=u;have Q:Vq w.heap.size ((a,gb)::(D++DG)):=⟨A,i.app d⟩;have zd:=jS m Q;by_cases B:j<b.length
  .have R:decide ((j:Int)< (b.length:Int))=true:=aP oM;have ze:j< (b.map ae).length:=by rw[Wx];exact B
   have ix:=f.idx true j ze;have zz:=jS (f.has oM) Q;have zf:=oX f ze;rw[ir] at zf;have zg:(ey S k).take (j+1)=(ey S k).take j++[⟨bT k,(b.getD j ([],0)).1,(aC S (b.getD j ([],0)).2).data⟩]:=by rw[P,List.take_add_one];simp[B,aC]
   have zh:=zw (b.getD j ([],0)) (W9 (z:=([],0)) B);generalize b.getD j ([],0)=C at*;obtain⟨x,n⟩:=C;simp only at zg zh;have zi:n< (S.files.map bu).length:=by rw[Wx];exact zh
   have zA:=q.idx true n zi;have T:∀y,aF (some (false,y)) (some (.cells W Y Z)) (V+n*2)=some (vs ((S.files.map bu).getD n YQ).data):=fun y=>by have:=o6 q zi y;rwa [XL] at this
   rw[kj] at T;have zB:∀y,aF (some (false,y)) (some (.cells W Y Z)) (V+n*2)=some (vs (aC S n).data):=T;clear T;have zC:(ae (x,n)).s=x:=rfl;have zD:(ae (x,n)).n=(n:Int):=rfl;refine kz [10] (qS6 @gg @zd @zc @O @R @ix @zz @zf) ?_;refine Ow.alloc rfl rfl qd0 fun b7 zE F=>?_;simp only[ag,Vy,Wp];have zL:a<b7:=aQ zE Wg;refine Ow.Vd (M:=(b7,.cells (Xi nd0).toArray 94 (0,0))::(a,gb)::(D++DG)) Xm ?_;refine ko @gg ?_;have zj:Vq w.heap.size ((b7,Obj.cells (Xi (ae (x,n))).toArray 94 (0,0))::(a,gb)::(D++DG)):=⟨F,Q⟩;have zk:=jS m zj;have zl:=jS (q.has oM) zj;refine Cw.Vu [a,b7,G.bd,rf] [0,1,2,3,5,7,8,9,11,4,6,10,12,13,14,15,16,17,18,19] [] kR kR kR ?_;refine WQ ?_;refine kq (aN @gg (qS6 @zx @zy @zk @zl @zA @zB @zC @zD)) ?_;refine Ow.build (.agg (XI ⟨bT k,x,(aC S n).data⟩).toArray) rfl (uq ⟨bT k,x,(aC S n).data⟩) ?_;refine kq @gg ?_;refine Ow.WV ?_;refine Ow.buildSlice (e:=67) (XI ⟨bT k,x,(aC S n).data⟩).toArray rfl rfl (fa underlying22 qo1 qn3 WT (iS _)) fun c zm U=>?_;have zM:a<c:=aQ zm Wg;have zN:b7<c:=aQ zm Wg;have H:Vq w.heap.size ((b7,Obj.cells (Xi (ae (x,n))).toArray 94 (0,0))::(a,gb)::(D++(DG++[(c,Obj.cells (XI ⟨bT k,x,(aC S n).data⟩).toArray 67 (0,0))]))):=⟨F,A,i.app (d.app ⟨U,trivial⟩)⟩;refine Ow.Vd (M:=(b7,.cells (Xi (ae (x,n))).toArray 94 (0,0))::(a,gb)::(D++(DG++[(c,.cells (XI ⟨bT k,x,(aC S n).data⟩).toArray 67 (0,0))]))) Xm ?_;refine Ow.nil ?_;refine⟨fun r f=>?_,?_⟩
   .simp only[Vw,WI,WB] at f;rcases f with rfl|rfl|rfl|rfl
    .simp(disch:=omega) only[g3,j_]
    .simp(disch:=omega) only[g3,j_]
    .exact(jS m H).trans zk.symm
    exact(jS (q.has oM) H).trans zl.symm
   refine kq @gg ?_;refine Ow.WV ?_;refine Ow.Vd (M:=D++((b7,.cells (Xi (ae (x,n))).toArray 94 (0,0))::(a,gb)::(DG++[(c,.cells (XI ⟨bT k,x,(aC S n).data⟩).toArray 67 (0,0))]))) Xm ?_;refine Ow.W2 (e:=67) (k:=1) (new:=XI ⟨bT k,x,(aC S n).data⟩) (X:=D) v rfl rfl rfl rfl underlying22 qo1 kR qn3 (by rw[q',Wd,iS]) underlying22 (by intro k h;cases h) o (fun w' za=>W0.X6 (za.has c (.cells (XI ⟨bT k,x,(aC S n).data⟩).toArray 67 (0,0)) V_) (iS _) (oA _)) oM (fun B4 v4 s zO zP zF zQ zG zR=>?_);have zn:Vq w.heap.size s:=Vq.of_le fun C hq=>by
    rcases zG C hq with h|h
    .exact i.le C h
    omega
   have zo:Vq w.heap.size ((b7,Obj.cells (Xi (ae (x,n))).toArray 94 (0,0))::(a,gb)::(s++(DG++[(c,Obj.cells (XI ⟨bT k,x,(aC S n).data⟩).toArray 67 (0,0))]))):=⟨F,A,zn.app (d.app ⟨U,trivial⟩)⟩;refine Ow.Vd (M:=(b7,.cells (Xi (ae (x,n))).toArray 94 (0,0))::(a,gb)::(s++(DG++[(c,.cells (XI ⟨bT k,x,(aC S n).data⟩).toArray 67 (0,0))]))) Xm ?_;refine Ow.nil ?_;refine⟨fun r f=>?_,?_⟩
   .simp only[Vw,WI,WB] at f;rcases f with rfl|rfl|rfl|rfl
    .simp(disch:=omega) only[g3,j_]
    .simp(disch:=omega) only[g3,j_]
    .exact(jS m zo).trans (jS m H).symm
    exact(jS (q.has oM) zo).trans (jS (q.has oM) H).symm
   refine kq @gg ?_;refine Cw.Vd (M:=(a,gb)::(s++(DG++[(c,.cells (XI ⟨bT k,x,(aC S n).data⟩).toArray 67 (0,0)),(b7,.cells (Xi (ae (x,n))).toArray 94 (0,0))]))) Xm ?_;refine ky @gg ?_;refine Vo.mk ⟨j+1,v4,s,DG++[(c,.cells (XI ⟨bT k,x,(aC S n).data⟩).toArray 67 (0,0)),(b7,.cells (Xi (ae (x,n))).toArray 94 (0,0))]⟩ (by show b.length - (j+1)<b.length - j;omega) ⟨B,zn,d.app ⟨U,F,trivial⟩,?_⟩ rfl rfl;show Gr s 67 3 v4 ((er S k).length+j+1) ((er S k++(ey S k).take (j+1)).map XI).flatten;rw[zg];simpa only[We,VY,Wr,Yu,Ya,List.flatten_nil,VX,Wb] using zF
  obtain rfl:j=b.length:=by omega
  have R:decide ((b.length:Int)< (b.length:Int))=false:=aW oM;have zH:(ey S k).length=b.length:=by rw[P,Wx]
  rw[<-zH,WH] at o;refine ky (qS3 @gg @zd @zc @O @R) ?_;refine Vo.mk ⟨k+1,v,D,DG⟩ (by show 3 - (k+1)<3 - k;omega) ⟨l,i,d,?_⟩ rfl rfl;show Gr D 67 3 v (er S k++ey S k).length ((er S k++ey S k).map XI).flatten;rw[VV];exact o
 obtain rfl:k=3:=by omega
 have N:decide (((3:Nat):Int)<3)=false:=rfl;refine ky (aN @gg @N) ?_;refine⟨_,(ke @gg),?_⟩;exact⟨Ext.Vt (show Vq w.heap.size ((a,gb)::(D++DG)) from⟨A,i.app d⟩),o.i fun p L=>ah _ (aq _ L)⟩
def Zk(S:h8)(kind:Int)(dir name s:No):Nat:=
 if al dir=none\/(kind≠3/\bF name=false)\/(kind=4/\bF s=false) then 1
 else if S.off=true then 9
 else match atD S dir name with
  |some n=>if kind=0 then 7 else if kind=1/\fF S n s=true then 8 else 0
  |none=>if kind≠0/\kind≠3 then 6 else 0
def ZM(S:h8)(kind:Int)(dir name s:No):h8:=
 if kind=0 then b_ (ci (aD S).1 bV) ((al dir).getD 0) ⟨0,name,[],S.files.length⟩
 else if kind=1 then dJ (aD S).1 ((atD S dir name).getD 0) ⟨(aC S ((atD S dir name).getD 0)).data++s,(aC S ((atD S dir name).getD 0)).stl⟩
 else if kind=2 then dJ (aD S).1 ((atD S dir name).getD 0) ⟨(aC S ((atD S dir name).getD 0)).data,(aC S ((atD S dir name).getD 0)).data.length⟩
 else if kind=3 then eW (aD S).1 ((al dir).getD 0)
 else if kind=4 then(if name=s then(aD S).1 else b_ (aD S).1 ((al dir).getD 0) ⟨1,name,s,0⟩)
 else b_ (aD S).1 ((al dir).getD 0) ⟨2,name,[],0⟩
def Bo(S:h8)(dir name:No):bi S dir [name]=if al dir=none\/bF name=false then 1 else if S.off=true then 9 else 0:=by unfold bi;simp
def JZ(S:h8)(dir name a:No):bi S dir [name,a]=if al dir=none\/bF name=false\/bF a=false then 1 else if S.off=true then 9 else 0:=by unfold bi;cases b:bF name<;>cases c:bF a<;>simp[b,c]
def Qk{S:h8}{kind:Int}(j:0<=kind/\kind<6)(dir name s:No):
  (Zk S kind dir name s≠0->doV S kind dir name s=(S,Zk S kind dir name s))/\
  (Zk S kind dir name s=0->doV S kind dir name s=if(aD S).2≠0 then aD S else(ZM S kind dir name s,0)):=by
 have g:kind=0\/kind=1\/kind=2\/kind=3\/kind=4\/kind=5:=by omega
 rcases g with rfl|rfl|rfl|rfl|rfl|rfl
 .unfold doV Zk ZM cC;rw[Bo];by_cases a:al dir=none\/bF name=false
  .simp[a]
  by_cases b:S.off=true
  .simp[a,b]
  cases c:atD S dir name<;>simp[a,b]
 .unfold doV Zk ZM bD;rw[Bo];by_cases a:al dir=none\/bF name=false
  .simp[a]
  by_cases b:S.off=true
  .simp[a,b]
  cases c:atD S dir name with
  |none=>simp[a,b]
  |some n=>
   by_cases d:fF S n s=true
   .simp[a,b,d]
   simp[a,b,d]
 .unfold doV Zk ZM az;rw[Bo];by_cases a:al dir=none\/bF name=false
  .simp[a]
  by_cases b:S.off=true
  .simp[a,b]
  cases c:atD S dir name<;>simp[a,b]
 .unfold doV Zk ZM dZ bi;by_cases a:al dir=none
  .simp[a]
  by_cases b:S.off=true
  .simp[a,b]
  cases c:atD S dir name<;>simp[a,b]
 .unfold doV Zk ZM cO;rw[JZ];by_cases a:al dir=none\/bF name=false\/bF s=false
  .simp[a]
  by_cases b:S.off=true
  .simp[a,b]
  cases c:atD S dir name with
  |none=>simp[a,b]
  |some n=>
   have e:¬al dir=none:=fun h=>a (.inl h);have f:¬bF name=false:=fun h=>a (.inr (.inl h));have i:¬bF s=false:=fun h=>a (.inr (.inr h));by_cases d:name=s
   .subst d;simp[e,f,b];exact fun h=>Prod.ext rfl h
   simp[e,f,i,b,d]
 unfold doV Zk ZM d5;rw[Bo];by_cases a:al dir=none\/bF name=false
 .simp[a]
 by_cases b:S.off=true
 .simp[a,b]
 cases c:atD S dir name<;>simp[a,b]
def Gr.upd{α:Type}{X:aA}{E:h7}{m:Nat}{v:hU}{enc:α->List hU}{l:List α}(h:Gr X E m v l.length (l.map enc).flatten)(d:∀x,(enc x).length=m){k:Nat}(q:k<l.length)(x:α):
  ∃b rest c,v=Xr b 0 l.length c/\Sx.look X b=some (bW enc E rest l)/\ ∀L,Sx.look L b=some (bW enc E rest (l.set k x))->Gr L E m v (l.set k x).length ((l.set k x).map enc).flatten:=by
 rcases h with h| ⟨h,-⟩
 .generalize a:l.length=n at h;generalize e:(l.map enc).flatten=f at h;cases h with
  |nl=>omega
  | @at_ b n c f rest g r i j o=>subst e;refine⟨b,rest,c,rfl,g,fun L p=>.inl ?_⟩;rw[X8,a];exact .at_ p (by rw[qc d,X8,a]) i j o
 omega
def UA{E:h7}{rest:List hU}{l:List FdR}(k:Nat)(b:k<l.length)(y:No)(a:Bool):aZ (some (a,1)) (some (bW Ye E rest l)) (k*2) (vs y)=some (bW Ye E rest (l.set k {l.getD k YQ with data:=y})):=by obtain⟨A,C,e,c,d⟩:=qZ (z:=YQ) (rest:=rest) g5 b;unfold bW;rw[e,d {l.getD k YQ with data:=y}];exact cP A [vs (l.getD k YQ).data] [vs y] ([vi (l.getD k YQ).stl]++C) a _ E c rfl rfl rfl rfl
def UL{E:h7}{rest:List hU}{l:List FdR}(k:Nat)(b:k<l.length)(y:Int)(a:Bool):aZ (some (a,1)) (some (bW Ye E rest l)) (k*2+1) (vi y)=some (bW Ye E rest (l.set k {l.getD k YQ with stl:=y})):=by obtain⟨A,C,e,c,d⟩:=qZ (z:=YQ) (rest:=rest) g5 b;unfold bW;rw[e,d {l.getD k YQ with stl:=y}];have:=cP (A++[vs (l.getD k YQ).data]) [vi (l.getD k YQ).stl] [vi y] C (o:=k*2+1) (n:=1) a (vi y) E (by rw[VV,c];rfl) rfl rfl rfl rfl;rw[Wb,Wb] at this;exact this
def BJ{E:h7}{rest:List hU}{l:List FdR}(k:Nat)(a:k<l.length)(n:Nat):aF (some (false,n)) (some (bW Ye E rest l)) (k*2)=some (vs (l.getD k YQ).data):=by obtain⟨A,C,e,b,-⟩:=qZ (z:=YQ) (rest:=rest) g5 a;unfold bW;rw[e];exact fR A ([vi (l.getD k YQ).stl]++C) _ n E (0,0) b
def Gt{E:h7}{rest:List hU}{l:List FdR}(k:Nat)(a:k<l.length)(n:Nat):aF (some (false,n)) (some (bW Ye E rest l)) (k*2+1)=some (vi (l.getD k YQ).stl):=by obtain⟨A,C,e,b,-⟩:=qZ (z:=YQ) (rest:=rest) g5 a;unfold bW;rw[e];have:=fR (A++[vs (l.getD k YQ).data]) C (vi (l.getD k YQ).stl) n E (0,0) (o:=k*2+1) (by rw[VV,b];rfl);rw[Wb] at this;exact this
def AW:(some 91:Option h7)≠some 94:=by decide
def RV:(some 91:Option h7)≠some 134:=by decide
def oT:(some 134:Option h7)≠some 94:=by decide
def Aj:(some 134:Option h7)≠some 91:=by decide
def Gr.qe7{X L:aA}{E F:h7}{m n i j:Nat}{v d:hU}{cs k:List hU}(h:Gr X E m v n cs)(l:Gr X F i d j k)(p:(some F:Option h7)≠some E){c:Nat}{f:Obj}(q:Sx.look X c=some f)(r:Xo f≠some E)(Vn:∀b o,b≠c->Xy d≠some b->Sx.look X b=some o->Sx.look L b=some o):Gr L E m v n cs:=h.Vn fun b o s t=>by
 obtain⟨arr,a⟩:=fE h s;refine Vn b o ?_ ?_ t
 .rintro rfl;rw[q] at a;cases a;exact r rfl
 intro e;obtain⟨u,g⟩:=fE l e;rw[a] at g;cases g;exact p rfl
def XT.qq9{X L:aA}{G:Yd}{S:h8}(h:XT X G S){v:hU}{fl:List WR}(Vn:∀b o,b≠G.bd->Xy G.f≠some b->Sx.look X b=some o->Sx.look L b=some o)(a:Sx.look L G.bd=some (Xe {G with f:=v} {S with files:=fl}))(c:FdP L v fl):XT L {G with f:=v} {S with files:=fl} where
 disk:=a
 seen k hk:=Gr.qe7 (h.seen k hk) h.files AW h.disk (by rw[dy];exact jG) Vn
 stl k hk:=Gr.qe7 (h.stl k hk) h.files AW h.disk (by rw[dy];exact jG) Vn
 Vl k hk:=by obtain⟨d,e,g⟩:=h.Vl k hk;exact⟨d,e,Gr.qe7 g h.files RV h.disk (by rw[dy];exact ik) Vn⟩
 files:=c
 pdis:=h.pdis
def XT.qR5{X L:aA}{G:Yd}{S:h8}(h:XT X G S){k:Nat}(u:k<3){f d:hU}{n:W_}{pl pl':List Wy}{p:List Wy}(q:KcP X (G.p k) pl)
  (Vn:∀b o,b≠G.bd->Xy (G.p k)≠some b->Sx.look X b=some o->Sx.look L b=some o)
  (v:Sx.look L G.bd=some (Xe (cV (bQ G k f) k d) S)) (w:NdP L f n) (x:KcP L d pl') (y:pl'.map fD=p.map fD)
  (z:∀b,Xy d=some b->Xy (G.p k)=some b\/b∉keys X):
  XT L (cV (bQ G k f) k d) (cT S k ⟨n,(S.dir k).stl,p⟩) where
 disk:=v
 seen j hj:=by
  by_cases e:j=k
  .subst e;rw[dt,show(cV (bQ G j f) j d).s j=f by simp[cV,bQ]];exact w
  rw[e7 _ _ e,show(cV (bQ G k f) k d).s j=G.s j by simp[cV,bQ,e]];exact Gr.qe7 (h.seen j hj) q oT h.disk (by rw[dy];exact jG) Vn
 stl j hj:=by
  have A:((cT S k ⟨n,(S.dir k).stl,p⟩).dir j).stl=(S.dir j).stl:=by
   by_cases e:j=k
   .subst e;rw[dt]
   rw[e7 _ _ e]
  rw[A];exact Gr.qe7 (h.stl j hj) q oT h.disk (by rw[dy];exact jG) Vn
 Vl j hj:=by
  by_cases e:j=k
  .subst e;rw[dt,show(cV (bQ G j f) j d).p j=d by simp[cV,bQ]];exact⟨pl',y,x⟩
  rw[e7 _ _ e,show(cV (bQ G k f) k d).p j=G.p j by simp[cV,bQ,e]];obtain⟨B,C,m⟩:=h.Vl j hj;refine⟨B,C,m.Vn fun b o g D=>?_⟩;obtain⟨arr,r⟩:=fE m g;refine Vn b o ?_ (fun E=>h.pdis k j u hj (Wq e) b E g) D;rintro rfl;rw[h.disk] at r;have:=Wc Xo (XD r);rw[dy] at this;exact ik this
 files:=Gr.qe7 h.files q Aj h.disk (by rw[dy];exact jY) Vn
 pdis i j l hj Cp b:=by
  have key:∀ {i},i<3-> ∀ {b},Xy ((cV (bQ G k f) k d).p i)=some b->Xy (G.p i)=some b\/(i=k/\b∉keys X):=fun{i} l {b} g=>by
   by_cases e:i=k
   .subst e;rw[show(cV (bQ G i f) i d).p i=d by simp[cV,bQ]] at g;exact(z b g).imp id fun h=>⟨rfl,h⟩
   rw[show(cV (bQ G k f) k d).p i=G.p i by simp[cV,bQ,e]] at g;exact .inl g
  intro F s;have t:∀ {i},i<3->Xy (G.p i)=some b->b∈keys X:=fun{i} l e=>by obtain⟨pl,-,m⟩:=h.Vl i l;exact m.key e
  rcases key l F with a| ⟨rfl,a⟩
  .rcases key hj s with c| ⟨rfl,c⟩
   .exact h.pdis i j l hj Cp b a c
   exact c (t l a)
  rcases key hj s with c| ⟨rfl,-⟩
  .exact a (t hj c)
  exact Cp rfl
structure PkL where
 v:hU
 l:List UInt16
 h:Value.oneCell' v=true/\v.cells=#[v]
def pk0:PkL:=⟨Vj,[],rfl,rfl⟩
structure qF1 where
 kind:Int
 n:Int
 dir:No
 name:No
 s:No
 picks:PkL
structure qn4(w:hW)(a:qF1):Prop where
 pk:PkS w a.picks.v a.picks.l
 n: -9223372036854775808<=a.n/\a.n<9223372036854775808
def PkS.blk{w:hW}{v:hU}{l:List UInt16}(h:PkS w v l)(a:l≠ []){b:Nat}(d:Xy v=some b):b<w.heap.size:=by
 obtain⟨g,off,c,arr,E,fz,i,j,⟨rfl,rfl,rfl⟩ | ⟨rfl,f,-⟩⟩:=h.resolve_right fun e=>a e.1
 .exact Vx rfl a
 cases d;exact(Array.getElem?_eq_some_iff.1 f).1
structure Yp(X:aA)(G:XE)(S:h8)(N:Nat):Prop where
 P:XG X G S
 H:dw S
 B:Zo N S
theorem Yp.Vl{X:aA}{G:XE}{S:h8}{N:Nat}(h:Yp X G S N)(a:N<1000000):∀k,k<3->(S.dir k).Vl.length<1000000:=fun k _=>by have:=(h.B k).stl;omega
def Yp.used{X:aA}{G:XE}{S:h8}{N:Nat}(h:Yp X G S N)(a:N<1000000):ej S<4611686018427387904:=by have:=w5 h.P.ok h.B;omega
theorem Yp.mono{X X':aA}{G:XE}{S:h8}{N:Nat}(h:Yp X G S N)(a:∀b o,Sx.look X b=some o->Sx.look X' b=some o):Yp X' G S N:=⟨h.P.mono a,h.H,h.B⟩
theorem Yp.b{X:aA}{G:XE}{S:h8}{N:Nat}(h:Yp X G S N)(a:N<1000000):DkB S:=h.B.b oM
def OR{w:hW}{X D:aA}{b:Nat}{o:Obj}(h:Ext w X D)(d:w.heap.size<=b):Ext w X ((b,o)::D):=
 ⟨fun c a=>by
  rcases Vw.1 a with rfl|a
  .exact .inr d
  exact h.new c a,fun c a=>ah _ (h.all c a)⟩
def L8(c:Int)(a b:No):cL (bP prog 134) (ac prog 134) [(0,vi c),(1,vs a),(2,vs b)]=some (.agg (Yc ⟨c,a,b,0⟩).toArray):=by rw[show bP prog 134=some [(0,1),(1,1),(2,1),(3,1)] from id kR,qL6];rfl
def LO:cL (bP prog 91) (ac prog 91) []=some (.agg (Ye YQ).toArray):=by rw[show bP prog 91=some [(0,1),(1,1)] from id kR,qR8];rfl
structure DoG where
 c:KcR
 S:h8
 G:Yd
 X:aA
def DoS(G:Yd)(R:h8×Nat)(v:hU)(D:aA):Prop:=v=vi (R.2:Nat)/\ ∃a,a.bd=G.bd/\XT D a R.1
def DoJ(S0 T:h8)(k:Nat)(c:KcR)(S:h8):Prop:=(c.kind= -1/\S=T)\/S.dir=S0.dir/\ ∃d:Wy,c=Zg d/\T=b_ S k (fD d)/\d.kind<3/\(d.kind=1->aL (S.dir k).seen d.a≠none)
def ao:=aN (aN (aN (aN @bA @b9) (qS1 @px @p' @po)) (aN (qS1 @pc @CT @DM) (qS1 @CQ @Dy @A9))) (aN (aN (aN @uO @ux) (qS1 @vP @ul @LS)) (aN (qS1 @Jv @Lx @MT) (qS1 @ML @nV @Bw)))
def Kf(c:Wy):fD (fD c)=fD c:=by
 unfold fD;by_cases a:c.kind=0
 .simp[a]
 by_cases b:c.kind=1
 .simp[b]
 simp[a,b]
def Ni(X:aA)(G:Yd)(S:h8)(kind:Int)(dir name s:No)(w:hW)(hX:∀p,p∈X->w.heap[p.1]? =some p.2)(hn:(keys X).Nodup)(D:XT X G S)(ok:XK S)(hB:DkB S)(hK:0<=kind/\kind<6)(yv:name.length<1099511627776)(yw:s.length<1099511627776)(yx:∀k,k<3->(S.dir k).Vl.length<1000000)(xr:S.files.length<1000000000)(yy:ej S<4611686018427387904):
  Va prog 51 #[vp G.bd 0,vi kind,vs dir,vs name,vs s] w (XS w X (DoS G (doV S kind dir name s))):=by
 obtain⟨zb,yz⟩:=Qk (S:=S) hK dir name s;have xs:=D.qr1 hX;have zh:=aO (w0:=w) D.disk;refine Va.Vs func51 rfl (rs:=[.tmp 10]) results51 ntmps51 hX hn ?_;refine kf ?_;refine kz [1000002,1000008,1000010,1000012,1000018,1000035] @ao ?_;refine Ow.Vc rfl call35 (fun H J=>DS dir H) ?_;cases hw:al dir with
 |none=>
  have zN:iB dir= -1:=by unfold iB;rw[hw]
  have e1:decide ((-1:Int)<0)=true:=rfl;have z:Zk S kind dir name s=1:=by unfold Zk;rw[Vb (.inl hw)]
  rw[zN];refine ko @ao ?_;refine ky (aN @ao @e1) ?_;refine⟨_,(ke @ao),?_⟩;rw[zb (by rw[z];simp),z];exact⟨Ext.refl w X,rfl,G,rfl,D⟩
 |some k=>
  have C:=(cN hw).1;have zN:iB dir=(k:Int):=by unfold iB;rw[hw]
  have e1:decide ((k:Int)<0)=false:=aW oM;have zv:atD S dir name=aL (S.dir k).seen name:=by unfold atD;rw[hw];rfl
  rw[zN];refine ko @ao ?_;refine Cw.ZO (G:=Unit) [18,19,20,21,22,23,24,25,26,27,28,29,30,31,32,33,34,35,36,37] (fun g=>[]) (fun g=>X) (fun g=>(kind≠3->bF name=true)/\(kind=4->bF s=true)) ?_ ?_
  .by_cases Z:kind=3
   .have e3:(kind !=3)=false:=by rw[Z];rfl
    have e4:(kind==4)=false:=by rw[Z];rfl
    refine ky (qS2 @ao @e1 @e3 @e4) ?_;exact WY.mk () ⟨fun h=>Vx Z h,fun h=>by omega⟩ rfl rfl
   have e3:(kind !=3)=true:=Yb.2 Z;refine ky (qS1 @ao @e1 @e3) ?_;refine Ow.Vc rfl call36 (fun H J=>Cj name H yv) ?_;cases P:bF name with
   |false=>
    have z:Zk S kind dir name s=1:=by unfold Zk;rw[Vb (.inr (.inl ⟨Z,P⟩))]
    refine ko @ao ?_;refine ky @ao ?_;refine⟨_,(ke @ao),?_⟩;rw[zb (by rw[z];simp),z];exact⟨Ext.refl w X,rfl,G,rfl,D⟩
   |true=>
    by_cases k4:kind=4
    .have e4:(kind==4)=true:=W8.2 k4;refine ko (aN @ao @e4) ?_;refine Ow.Vc rfl call36 (fun H J=>Cj s H yw) ?_;cases zO:bF s with
     |false=>
      have z:Zk S kind dir name s=1:=by unfold Zk;rw[Vb (.inr (.inr ⟨k4,zO⟩))]
      refine ko @ao ?_;refine ky @ao ?_;refine⟨_,(ke @ao),?_⟩;rw[zb (by rw[z];simp),z];exact⟨Ext.refl w X,rfl,G,rfl,D⟩
     |true=>refine ko @ao ?_;refine ky @ao ?_;exact WY.mk () ⟨fun _=>rfl,fun _=>rfl⟩ rfl rfl
    have e4:(kind==4)=false:=WN.2 k4;refine ko (aN @ao @e4) ?_;refine ky @ao ?_;exact WY.mk () ⟨fun _=>rfl,fun h=>Vx h k4⟩ rfl rfl
  intro gu xt yA;refine kv ?_;obtain⟨yB,zO⟩:=yA;have z:Zk S kind dir name s=if S.off=true then 9 else match aL (S.dir k).seen name with
    |some n=>if kind=0 then 7 else if kind=1/\fF S n s=true then 8 else 0
    |none=>if kind≠0/\kind≠3 then 6 else 0:=by
   unfold Zk;rw[tr (by
    rintro(h| ⟨h,h'⟩ | ⟨h,h'⟩)
    .rw[hw] at h;cases h
    .rw[yB h] at h';cases h'
    rw[zO h] at h';cases h'),zv]<;>rfl
  have yC:=fun n=>kS G S C n;rcases Bool.eq_false_or_eq_true S.off with t|t
  .rw[Vb t] at z;refine ky (qS1 @ao @zh @t) ?_;refine⟨_,(ke @ao),?_⟩;rw[zb (by rw[z];simp),z];exact⟨Ext.refl w X,rfl,G,rfl,D⟩
  rw[tr (by rw[t];simp)] at z;have xu:=(hB k C).1;refine kz [12,21,22,24,26,29,36,37,1000008,1000010,1000012,1000018,1000035] (qS2 @ao @zh @t @yC) ?_;refine Ow.Vc rfl call87 (fun H J=>DW (G.s k) (S.dir k).seen name H (Gr.slW (D.seen k C) (fun b o h=>J.has b o (bU h)) dY) oM) ?_;refine ko @ao ?_;have zw:∀n,aL (S.dir k).seen name=some n->gH (S.dir k).seen name=(n:Int):=fun n h=>by unfold gH;rw[h]
  have yc:aL (S.dir k).seen name=none->gH (S.dir k).seen name= -1:=fun h=>by unfold gH;rw[h]
  refine Cw.ZO (G:=Unit) [53,54,55,56,57,58] (fun g=>[]) (fun g=>X) (fun g=>kind=0->aL (S.dir k).seen name=none) ?_ ?_
  .by_cases Q:kind=0
   .have e0:(kind==0)=true:=W8.2 Q;cases B:aL (S.dir k).seen name with
    |some n=>
     have L:decide ((0:Int)<=gH (S.dir k).seen name)=true:=by rw[zw n B];exact aP oM
     rw[B] at z;simp only[Q,↓reduceIte] at z;refine ky (qS1 @ao @e0 @L) ?_;refine⟨_,(ke @ao),?_⟩;rw[zb (by rw[Q,z];simp),Q,z];exact⟨Ext.refl w X,rfl,G,rfl,D⟩
    |none=>
     have L:decide ((0:Int)<=gH (S.dir k).seen name)=false:=by rw[yc B];rfl
     refine ky (qS1 @ao @e0 @L) ?_;exact WY.mk () (fun _=>rfl) rfl rfl
   have e0:(kind==0)=false:=WN.2 Q;refine ky (aN @ao @e0) ?_;exact WY.mk () (fun h=>Vx h Q) rfl rfl
  intro gv xv yD;refine kv ?_;refine Cw.ZO (G:=Unit) [59,60,61,62,63,64,65,66,67,68] (fun g=>[]) (fun g=>X) (fun g=>kind≠0->kind≠3->aL (S.dir k).seen name≠none) ?_ ?_
  .by_cases Q:kind=0
   .have e0:(kind !=0)=false:=by rw[Q];rfl
    refine ky (aN @ao @e0) ?_;exact WY.mk () (fun h=>Vx Q h) rfl rfl
   have e0:(kind !=0)=true:=Yb.2 Q;by_cases Z:kind=3
   .have e3:(kind !=3)=false:=by rw[Z];rfl
    refine ky (qS1 @ao @e0 @e3) ?_;exact WY.mk () (fun _ h=>Vx Z h) rfl rfl
   have e3:(kind !=3)=true:=Yb.2 Z;cases B:aL (S.dir k).seen name with
   |none=>
    have L:decide (gH (S.dir k).seen name<0)=true:=by rw[yc B];rfl
    rw[B] at z;simp only[Q,Z,ne_eq,not_false_eq_true,and_self,↓reduceIte] at z;refine ky (qS2 @ao @e0 @e3 @L) ?_;refine⟨_,(ke @ao),?_⟩;rw[zb (by rw[z];simp),z];exact⟨Ext.refl w X,rfl,G,rfl,D⟩
   |some n=>
    have L:decide (gH (S.dir k).seen name<0)=false:=by rw[zw n B];exact aW oM
    refine ky (qS2 @ao @e0 @e3 @L) ?_;exact WY.mk () (fun _ _=>by simp) rfl rfl
  intro gx xw zx;refine kv ?_;refine Cw.ZO (G:=Unit) [69,70,71,72,73,74,75,76,77,78,79,80,81,82,83,84,85,86,87,88,89,90,91,92,93,94,95,96,97] (fun g=>[]) (fun g=>X) (fun g=>kind=1-> ∀n,aL (S.dir k).seen name=some n->fF S n s=false) ?_ ?_
  .by_cases k1:kind=1
   .subst k1;have zB:((1:Int)==1)=true:=rfl;obtain⟨n,B⟩:∃n,aL (S.dir k).seen name=some n:=by
     cases h:aL (S.dir k).seen name with
     |none=>exact Vx h (zx oM oM)
     |some n=>exact⟨n,rfl⟩
    have zy:=zw n B;have zc:n<S.files.length:=ok.seenN k C _ (eY B);have za:n< (S.files.map bu).length:=by rw[Wx];exact zc
    obtain⟨N,rest,cf,hv,R,-⟩:=Gr.upd D.files g5 za YQ;have zi:=aO (w0:=w) R;have zj:ez (.sl (true,2)) G.f (some (n:Int))=some (vp N (n*2)):=by rw[hv,j5 _ _ _ _ _ _ oM];simp
    have T:=fun y=>BJ (E:=91) (rest:=rest) n za y;rw[kj] at T;have zk:∀y,aF (some (false,y)) (some (bW Ye 91 rest (S.files.map bu))) (n*2)=some (vs (aC S n).data):=T;clear T;obtain⟨yd,ye⟩:=kW ok zc;have zf:fF S n s=(decide ((1048576:Int)< ((aC S n).data.length:Int)+ (s.length:Int)) ||decide (S.max< (ej S:Int)+ (s.length:Int))):=by unfold fF;rw[YZ];simp only[Bool.or_eq_true,XN];omega
    rw[zy];refine kz [12] @ao ?_;cases I:decide ((1048576:Int)< ((aC S n).data.length:Int)+ (s.length:Int)) with
    |true=>
     rw[I,Bool.true_or] at zf;have z:Zk S 1 dir name s=8:=by rw[z,B];simp[zf]
     refine Cw.Vu [G.bd,N] [0,1,2,3,4,5,7,12,13,6,8,9,10,11,14,15,16,17,19,20,22,23,24,25,18,21,26,27,28] [] kR kR kR ?_;refine WQ ?_;refine kq (qS5 @ao @zB @zh @zi @zj @zk @I) ?_;refine ky @ao ?_;refine⟨_,(ke @ao),?_⟩;rw[zb (by rw[z];simp),z];exact⟨Ext.refl w X,rfl,G,rfl,D⟩
    |false=>
     rw[I,XW] at zf;refine Cw.Vu [G.bd,N] [0,1,2,3,4,5,7,12,13,6,8,9,10,11,14,15,16,17,19,20,22,23,24,25,18,21,26,27,28] [] kR kR kR ?_;refine WQ ?_;refine kq (qS5 @ao @zB @zh @zi @zj @zk @I) ?_;refine Ow.WV ?_;refine Ow.Vc rfl call103 (fun H J=>Jn H G S (D.world J) ok hB yy) ?_
     with_reducible refine Ow.ZQ ?_
     cases l:decide (S.max< (ej S:Int)+ (s.length:Int)) with
     |true=>
      rw[l] at zf;have z:Zk S 1 dir name s=8:=by rw[z,B];simp[zf]
      refine kq (qS1 @ao @zh @l) ?_;refine ky @ao ?_;refine⟨_,(ke @ao),?_⟩;rw[zb (by rw[z];simp),z];exact⟨Ext.refl w X,rfl,G,rfl,D⟩
     |false=>rw[l] at zf;refine kq (qS1 @ao @zh @l) ?_;refine ky @ao ?_;exact WY.mk () (fun _ m hm=>by rw[B] at hm;cases hm;exact zf) rfl rfl
   have zB:(kind==1)=false:=WN.2 k1;refine kz [12] @ao ?_;refine Cw.Vu [G.bd] [0,1,2,3,4,5,7,12,13,6,8,9,10,11,14,15,16,17,19,20,22,23,24,25,18,21,26,27,28] [] kR kR kR ?_;refine WQ ?_;refine kq (aN @ao @zB) ?_;refine ky @ao ?_;exact WY.mk () (fun h=>Vx h k1) rfl rfl
  intro gy xx yE;refine kv ?_;have yF:Zk S kind dir name s=0:=by
   rw[z];cases B:aL (S.dir k).seen name with
   |none=>have:¬(kind≠0/\kind≠3):=fun h=>zx h.1 h.2 B;simp only[this,↓reduceIte]
   |some n=>
    have h0:¬kind=0:=fun h=>by rw[yD h] at B;cases B
    have h1:¬ (kind=1/\fF S n s=true):=fun h=>by rw[yE h.1 n B] at h;cases h.2
    simp only[h0,h1,↓reduceIte]
  rw[yz yF];refine kz [21,22,24,26,29,36,37,1000018,1000035] @ao ?_;refine Ow.WA rfl rfl call104 (bO D.disk) (fun H J=>IR G S H ok.Wv (J.has _ _ (bU D.disk))) ?_;obtain⟨zl,zm,xy⟩:=d7 S;have zd:=D.qy9 (aD S).1 zl zm;have zP:=(Ext.refl w X).Vh (b:=G.bd) (o:=Xe G (aD S).1);have xz:keys (Vh X G.bd (Xe G (aD S).1))=keys X:=fc _ _ _;generalize zC:Vh X G.bd (Xe G (aD S).1)=U at*;by_cases zD:(aD S).2=0
  .have L:(((aD S).2:Int) !=0)=false:=by rw[zD];rfl
   rw[tr (by rw[zD];simp)];refine ko (aN @ao @L) ?_;refine kz [21,22,24,26,29,36,37,1000018,1000035] (aN @ao @L) ?_;refine Ow.build (.agg (Yc ⟨-1,name,s,0⟩).toArray) rfl (L8 (-1) name s) ?_;refine ko @ao ?_;refine Ow.alloc rfl rfl qF0 fun u zn yG=>?_;simp only[ag,Vy,Wp];have zo:u∉keys U:=fun hm=>by have:=aQ zn hm;omega
   refine Ow.Vd (M:=(u,.cells (Yc kc0).toArray 134 (0,0))::U) Xm ?_;refine ko @ao ?_;have F:XT ((u,Obj.cells (Yc ⟨-1,name,s,0⟩).toArray 134 (0,0))::U) G (aD S).1:=zd.mono fun b o h=>qR zn h;have ze:Ext w X ((u,Obj.cells (Yc ⟨-1,name,s,0⟩).toArray 134 (0,0))::U):=OR zP yG;have V:Sx.look ((u,Obj.cells (Yc ⟨-1,name,s,0⟩).toArray 134 (0,0))::U) u=some (.cells (Yc ⟨-1,name,s,0⟩).toArray 134 (0,0)):=by simp[Sx.look]
   have zQ:∀ {E m n v cs},Gr U E m v n cs->Xy v≠some u:=fun h e=>zo (h.key e);have zq:Xy (G.p k)≠some u:=by obtain⟨pl,-,h⟩:=zd.Vl k C;exact zQ h
   have zr:G.bd≠u:=fun e=>zo (e▸bO zd.disk);have yf:∀x b o,Sx.look U b=some o->Sx.look (Vh ((u,Obj.cells (Yc ⟨-1,name,s,0⟩).toArray 134 (0,0))::U) u x) b=some o:=fun x b o h=>by rw[bE (by rintro rfl;exact zo (bO h))];exact qR zn h
   generalize zR:(u,Obj.cells (Yc ⟨-1,name,s,0⟩).toArray 134 (0,0))::U=W at*;have zS:∀x,XT (Vh W u x) G (aD S).1:=fun x=>zd.mono (yf x);have xA:(aD S).1.dir=S.dir/\(aD S).1.files=S.files:=⟨zl,zm⟩;have xB:∀zT,ZM S kind dir name s=zT->DoS G (ZM S kind dir name s,0)=DoS G (zT,0):=fun zT h=>by rw[h]
   refine Cw.ZO (G:=DoG) [106,107,108,109,110,111,112,113,114,115,116,117,118,119,120,121,122,123,124,125,126,127,128,129,130,131,132,133,134,135,136,137,138,139,140,141,142,143,144,145,146,147,148,149,150,151,152,153,154,155,156,157,158,159,160,161,162,163,164,165,166,167,168,169,170,171,172,173,174,175,176,177,178,179,180,181,182,183,184] (fun g=>[]) (fun g=>g.X) (fun g=>g.G.bd=G.bd/\XT g.X g.G g.S/\Sx.look g.X u=some (.cells (Yc g.c).toArray 134 (0,0))/\DoJ S (ZM S kind dir name s) k g.c g.S/\Ext w X g.X/\Xy (g.G.p k)≠some u) ?_ ?_
   .have h6:kind=0\/kind=1\/kind=2\/kind=3\/kind=4\/kind=5:=by omega
    have zE:=aO (w0:=w) F.disk;have yg:=aO (w0:=w) V;have zF:(al dir).getD 0=k:=by rw[hw];rfl
    rcases h6 with rfl|rfl|rfl|rfl|rfl|rfl
    .have O:((0:Int)==0)=true:=rfl;have yH:(S.files.map bu).length=S.files.length:=Wx ..;have zU:Gr W 91 2 G.f ((aD S).1.files.map bu).length (((aD S).1.files.map bu).map Ye).flatten:=F.files;rw[zm,yH] at zU;have yI:Xy G.f≠some G.bd:=fun e=>by
      obtain⟨arr,I⟩:=fE zU e;rw[F.disk] at I;have:=Wc Xo (XD I);rw[dy] at this;exact jY this
     have yJ:Xy G.f≠some u:=zQ zd.files;refine kz [21,22,36,37] (qS1 @ao @O @zE) ?_;refine Ow.build (.agg (Ye YQ).toArray) rfl LO ?_;refine ko @ao ?_;refine Ow.buildSlice (e:=91) (Ye YQ).toArray rfl rfl (fa underlying82 qo2 qr6 WT (g5 _)) fun ba xC yK=>?_;refine ko @ao ?_;refine Ow.ZV (e:=91) (k:=1) (new:=Ye YQ) G.f rfl rfl rfl underlying82 qo2 kR qr6 (by rw[Bw,Wd,g5]) underlying82 (by intro k h;cases h) zU.app (fun H J=>W0.X6 (J.has ba (.cells (Ye YQ).toArray 91 (0,0)) V_) (g5 _) (ww _)) (g5 _) oM (fun v2 L2 zV _ zG xD=>?_);have zH:Sx.look L2 G.bd=some (Xe G (aD S).1):=zG.look _ _ yI (a_ F.disk);have yh:Sx.look L2 u=some (.cells (Yc ⟨-1,name,s,0⟩).toArray 134 (0,0)):=zG.look _ _ yJ (a_ V);have yL:=aO (w0:=w) zH;have st:=fun x=>tC G (aD S).1 x zV.cell;have zz:=(ze.app (o:=.cells (Ye YQ).toArray 91 (0,0)) yK).qm5 zG;refine ko (qS3 @ao @zH @yL @st @dq) ?_;have zW:Sx.look (Vh L2 G.bd (Xe {G with f:=v2} (aD S).1)) G.bd=some (Xe {G with f:=v2} (aD S).1):=cY zH;have zX:Sx.look (Vh L2 G.bd (Xe {G with f:=v2} (aD S).1)) u=some (.cells (Yc ⟨-1,name,s,0⟩).toArray 134 (0,0)):=by rw[bE zr];exact yh
     have yM:=aO (w0:=w) zX;have zt:∀b o,b≠G.bd->Sx.look L2 b=some o->Sx.look (Vh L2 G.bd (Xe {G with f:=v2} (aD S).1)) b=some o:=fun b o l t=>by rw[bE (Wq l)];exact t
     have yN:=zz.Vh (b:=G.bd) (o:=Xe {G with f:=v2} (aD S).1);generalize Vh L2 G.bd (Xe {G with f:=v2} (aD S).1)=L3 at*;refine kz [22,36,37] (qS2 @ao @zX @yM @dq) ?_;have yO:Sx.look (Vh L3 u (.cells (Yc ⟨0,name,s,0⟩).toArray 134 (0,0))) G.bd=some (Xe {G with f:=v2} (aD S).1):=by rw[bE (Wq zr)];exact zW
     have zY:Sx.look (Vh L3 u (.cells (Yc ⟨0,name,s,0⟩).toArray 134 (0,0))) u=some (.cells (Yc ⟨0,name,s,0⟩).toArray 134 (0,0)):=cY zX;have yP:=aO (w0:=w) yO;have yQ:=aO (w0:=w) zY;have yR:=zV.len;have es:((S.files.length+1:Nat):Int) - 1=(S.files.length:Int):=by omega
     refine ky (qS5 @ao @yP @yR @es @zY @yQ @dq) ?_;refine WY.mk ⟨⟨0,name,s,(S.files.length:Int)⟩,ci (aD S).1 bV,{G with f:=v2},Vh (Vh L3 u (.cells (Yc ⟨0,name,s,0⟩).toArray 134 (0,0))) u (.cells (Yc ⟨0,name,s,(S.files.length:Int)⟩).toArray 134 (0,0))⟩ ⟨rfl,?_,cY zY,.inr ⟨zl,⟨0,name,s,S.files.length⟩,rfl,by unfold ZM;simp[zF,fD],(by show(0:Nat)<3;decide),fun h=>by cases h⟩,yN.Vh.Vh,zq⟩ rfl rfl;have zZ:∀b o,b≠u->Sx.look L3 b=some o->Sx.look (Vh (Vh L3 u (.cells (Yc ⟨0,name,s,0⟩).toArray 134 (0,0))) u (.cells (Yc ⟨0,name,s,(S.files.length:Int)⟩).toArray 134 (0,0))) b=some o:=fun b o l t=>by rw[bE (Wq l),bE (Wq l)];exact t
     refine XT.qq9 (G:=G) zd (v:=v2) (fl:=(aD S).1.files++[bV]) (fun b o l P t=>?_) ?_ ?_
     .exact zZ b o (by rintro rfl;exact zo (bO t)) (zt b o l (zG.look _ _ P (a_ (by rw[<-zR];exact qR zn t))))
     .exact zZ _ _ zr zW
     have yi:Gr L2 91 2 v2 (((aD S).1.files++[bV]).map bu).length ((((aD S).1.files++[bV]).map bu).map Ye).flatten:=by have yS:bu bV=YQ:=rfl;rw[zm];simpa [yS] using zV
     refine yi.Vn fun b o l t=>?_;obtain⟨arr,I⟩:=fE yi l;refine zZ b o ?_ (zt b o ?_ t)
     .rintro rfl;rw[yh] at I;have:=Wc Xo (XD I);exact Aj this
     rintro rfl;rw[zH] at I;have:=Wc Xo (XD I);rw[dy] at this;exact jY this
    .have O:((1:Int)==0)=false:=rfl;have z1:((1:Int)==1)=true:=rfl;obtain⟨n,B⟩:∃n,aL (S.dir k).seen name=some n:=by
      cases h:aL (S.dir k).seen name with
      |none=>exact Vx h (zx WT WT)
      |some n=>exact⟨n,rfl⟩
     have zy:=zw n B;rw[B] at zv;have zc:n<S.files.length:=ok.seenN k C _ (eY B);have za:n< (S.files.map bu).length:=by rw[Wx];exact zc
     obtain⟨yd,ye⟩:=kW ok zc;obtain⟨N,rest,cf,hv,R,z6⟩:=Gr.upd D.files g5 za (bu ⟨(aC S n).data++s,(aC S n).stl⟩);have Y:Sx.look W N=some (bW Ye 91 rest (S.files.map bu)):=by
      have h1:Sx.look U N=some (bW Ye 91 rest (S.files.map bu)):=by rw[<-zC,bE (by rintro rfl;rw[D.disk] at R;have:=Wc Xo (XD R);rw[dy] at this;exact jY this)];exact R
      rw[<-zR];exact qR zn h1
     have zi:=aO (w0:=w) Y;have zj:ez (.sl (true,2)) G.f (some (n:Int))=some (vp N (n*2)):=by rw[hv,j5 _ _ _ _ _ _ oM];simp
     have T:=fun y=>BJ (E:=91) (rest:=rest) n za y;rw[kj] at T;have zk:∀y,aF (some (false,y)) (some (bW Ye 91 rest (S.files.map bu))) (n*2)=some (vs (aC S n).data):=T;clear T;have st:=fun(a:Bool)=>UA (E:=91) (rest:=rest) n za ((aC S n).data++s) a;rw[kj] at st;have z7:∀a,aZ (some (a,1)) (some (bW Ye 91 rest (S.files.map bu))) (n*2) (vs ((aC S n).data++s))=some (bW Ye 91 rest ((S.files.map bu).set n (bu ⟨(aC S n).data++s,(aC S n).stl⟩))):=st;clear st;rw[zy];refine kz [21,22,24,26,29,36,37] (qS1 @ao @O @z1) ?_;refine Cw.WU [0,1,2,4,5,6,7,9,13,3,8,10,11,12,14,15,16,17] [17] rfl kR kR ?_;refine WQ ?_;refine kq (aN @ao (aN @zE (aN @zi (aN @zj (@zk))))) ?_;refine Ow.store rfl rfl rfl (ke (aN @ao (aN @Y (@z7)))) ?_;refine ko @ao ?_;refine ky @ao ?_;refine WY.mk ⟨⟨-1,name,s,0⟩,dJ (aD S).1 n ⟨(aC S n).data++s,(aC S n).stl⟩,G,Vh W N (bW Ye 91 rest ((S.files.map bu).set n (bu ⟨(aC S n).data++s,(aC S n).stl⟩)))⟩ ⟨rfl,?_,?_,.inl ⟨rfl,by unfold ZM;simp[zv]⟩,ze.Vh,zq⟩ rfl rfl
     .have yT:G.f=G.f:=rfl;refine XT.qq9 (G:=G) F (v:=G.f) (fun b o l P t=>?_) ?_ ?_
      .rw[bE (by rintro rfl;exact P (by rw[hv];rfl))];exact t
      .rw[bE (by rintro e;rw[e,F.disk] at Y;have:=Wc Xo (XD Y);rw[dy] at this;exact jY this)];exact F.disk
      show Gr _ _ _ _ _ _;rw[zm,List.map_set];exact z6 _ (cY Y)
     rw[bE (fun e=>zo (by rw[<-e,<-zC,fc];exact bO R))];exact V
    .have O:((2:Int)==0)=false:=rfl;have z1:((2:Int)==1)=false:=rfl;have z2:((2:Int)==2)=true:=rfl;obtain⟨n,B⟩:∃n,aL (S.dir k).seen name=some n:=by
      cases h:aL (S.dir k).seen name with
      |none=>exact Vx h (zx WT WT)
      |some n=>exact⟨n,rfl⟩
     have zy:=zw n B;rw[B] at zv;have zc:n<S.files.length:=ok.seenN k C _ (eY B);have za:n< (S.files.map bu).length:=by rw[Wx];exact zc
     obtain⟨yd,ye⟩:=kW ok zc;obtain⟨N,rest,cf,hv,R,z6⟩:=Gr.upd D.files g5 za (bu ⟨(aC S n).data,(aC S n).data.length⟩);have Y:Sx.look W N=some (bW Ye 91 rest (S.files.map bu)):=by
      have h1:Sx.look U N=some (bW Ye 91 rest (S.files.map bu)):=by rw[<-zC,bE (by rintro rfl;rw[D.disk] at R;have:=Wc Xo (XD R);rw[dy] at this;exact jY this)];exact R
      rw[<-zR];exact qR zn h1
     have zi:=aO (w0:=w) Y;have zj:ez (.sl (true,2)) G.f (some (n:Int))=some (vp N (n*2)):=by rw[hv,j5 _ _ _ _ _ _ oM];simp
     have T:=fun y=>BJ (E:=91) (rest:=rest) n za y;rw[kj] at T;have zk:∀y,aF (some (false,y)) (some (bW Ye 91 rest (S.files.map bu))) (n*2)=some (vs (aC S n).data):=T;clear T;have st:=fun(a:Bool)=>UL (E:=91) (rest:=rest) n za ((aC S n).data.length:Int) a;rw[kj] at st;have z7:∀a,aZ (some (a,1)) (some (bW Ye 91 rest (S.files.map bu))) (n*2+1) (vi ((aC S n).data.length:Int))=some (bW Ye 91 rest ((S.files.map bu).set n (bu ⟨(aC S n).data,(aC S n).data.length⟩))):=st;clear st;rw[zy];refine kz [21,22,24,26,29,36,37] (qS2 @ao @O @z1 @z2) ?_;refine Cw.WU [0,1,2,4,5,6,7,9,3,8,10,11,12,13,14,15,16] [16] rfl kR kR ?_;refine WQ ?_;refine kq (aN @ao (aN @zE (aN @zi (aN @zj (@zk))))) ?_;refine Ow.store rfl rfl rfl (ke (aN @ao (aN @Y (@z7)))) ?_;refine ko @ao ?_;refine ky @ao ?_;refine WY.mk ⟨⟨-1,name,s,0⟩,dJ (aD S).1 n ⟨(aC S n).data,(aC S n).data.length⟩,G,Vh W N (bW Ye 91 rest ((S.files.map bu).set n (bu ⟨(aC S n).data,(aC S n).data.length⟩)))⟩ ⟨rfl,?_,?_,.inl ⟨rfl,by unfold ZM;simp[zv]⟩,ze.Vh,zq⟩ rfl rfl
     .have yT:G.f=G.f:=rfl;refine XT.qq9 (G:=G) F (v:=G.f) (fun b o l P t=>?_) ?_ ?_
      .rw[bE (by rintro rfl;exact P (by rw[hv];rfl))];exact t
      .rw[bE (by rintro e;rw[e,F.disk] at Y;have:=Wc Xo (XD Y);rw[dy] at this;exact jY this)];exact F.disk
      show Gr _ _ _ _ _ _;rw[zm,List.map_set];exact z6 _ (cY Y)
     rw[bE (fun e=>zo (by rw[<-e,<-zC,fc];exact bO R))];exact V
    .have O:((3:Int)==0)=false:=rfl;have z1:((3:Int)==1)=false:=rfl;have z2:((3:Int)==2)=false:=rfl;have z3:((3:Int)==3)=true:=rfl;have yU:=fun n=>kS G (aD S).1 C n;have yV:=fun x=>nH G (aD S).1 C x (Gr.cell (F.seen k C));have z8:Sx.look (Vh W G.bd (Xe (dC G k (G.s k)) (aD S).1)) G.bd=some (Xe (dC G k (G.s k)) (aD S).1):=cY F.disk;have yW:=aO (w0:=w) z8;have yX:=fun x=>EK (dC G k (G.s k)) (aD S).1 C x (q:= Vj) ⟨rfl,rfl⟩;refine kz [21,22,29,36,37] (aN @ao (aN @O (qS6 @z1 @z2 @z3 F.disk @zE @yU @yV @dq))) ?_;refine ky (qS3 @ao @z8 @yW @yX @dq) ?_;refine WY.mk ⟨⟨-1,name,s,0⟩,eW (aD S).1 k,cV (dC G k (G.s k)) k Vj,Vh (Vh W G.bd (Xe (dC G k (G.s k)) (aD S).1)) G.bd (Xe (cV (dC G k (G.s k)) k Vj) (aD S).1)⟩ ⟨rfl,?_,?_,.inl ⟨rfl,by unfold ZM;simp[zF]⟩,ze.Vh.Vh,(by show Xy ((cV (dC G k (G.s k)) k Vj).p k)≠some u;simp[cV,Xy])⟩ rfl rfl
     .refine F.upd rfl (fun b o l t=>by rw[bE (Wq l),bE (Wq l)];exact t) (cY z8) (fun j hj=>.inl ⟨rfl,pJ _ _ _⟩) (fun j hj=>?_) (fun j hj=>?_) ⟨rfl,rfl⟩
      .by_cases e:j=k
       .subst e;refine .inr ?_;rw[show(cV (dC G j (G.s j)) j Vj).t j=G.s j by simp[cV,dC],show((eW (aD S).1 j).dir j).stl=((aD S).1.dir j).seen by unfold eW;rw[dt]];exact Gr.YO (F.seen j hj) F.disk (by rw[dy];exact jG) fun b o l t=>by rw[bE (Wq l),bE (Wq l)];exact t
       exact .inl ⟨by simp[cV,dC,e],by unfold eW;rw[e7 _ _ e]⟩
      by_cases e:j=k
      .subst e;exact .inr ⟨by simp[cV],by unfold eW;rw[dt]⟩
      exact .inl ⟨by simp[cV,dC,e],by unfold eW;rw[e7 _ _ e]⟩
     rw[bE zr,bE zr];exact V
    .have O:((4:Int)==0)=false:=rfl;have z1:((4:Int)==1)=false:=rfl;have z2:((4:Int)==2)=false:=rfl;have z3:((4:Int)==3)=false:=rfl;have z4:((4:Int)==4)=true:=rfl;by_cases zI:name=s
     .have e5:(name !=s)=false:=by rw[zI];exact qi4 _
      refine ky (qS5 @ao @O @z1 @z2 @z3 @z4 @e5) ?_;exact WY.mk ⟨⟨-1,name,s,0⟩,(aD S).1,G,W⟩ ⟨rfl,F,V,.inl ⟨rfl,by unfold ZM;simp[zI]⟩,ze,zq⟩ rfl rfl
     have e5:(name !=s)=true:=Yb.2 zI;refine ky (aN @ao (qS6 @O @z1 @z2 @z3 @z4 @e5 @V @yg)) ?_;exact WY.mk ⟨⟨1,name,s,0⟩,(aD S).1,G,Vh W u (.cells (Yc ⟨1,name,s,0⟩).toArray 134 (0,0))⟩ ⟨rfl,zS _,cY V,.inr ⟨zl,⟨1,name,s,0⟩,rfl,by unfold ZM;simp[zI,zF,fD],(by show(1:Nat)<3;decide),fun _=>by show aL ((aD S).1.dir k).seen name≠none;rw[zl];exact zx WT WT⟩,ze.Vh,zq⟩ rfl rfl
    have O:((5:Int)==0)=false:=rfl;have z1:((5:Int)==1)=false:=rfl;have z2:((5:Int)==2)=false:=rfl;have z3:((5:Int)==3)=false:=rfl;have z4:((5:Int)==4)=false:=rfl;have z5:((5:Int)==5)=true:=rfl;refine ky (aN @ao (qS6 @O @z1 @z2 @z3 @z4 @z5 @V @yg)) ?_;exact WY.mk ⟨⟨2,name,s,0⟩,(aD S).1,G,Vh W u (.cells (Yc ⟨2,name,s,0⟩).toArray 134 (0,0))⟩ ⟨rfl,zS _,cY V,.inr ⟨zl,⟨2,name,s,0⟩,rfl,by unfold ZM;simp[zF,fD],(by show(2:Nat)<3;decide),fun h=>by cases h⟩,ze.Vh,zq⟩ rfl rfl
   intro g j hg;refine kv ?_;clear zd zP F ze V zS yf zQ;obtain⟨c,A,i,K⟩:=g;simp only at hg |-;obtain⟨zJ,zg,zt,hJ,zz,yY⟩:=hg;have z9:=aO (w0:=w) zt;rcases hJ with⟨hc,hT⟩ | ⟨yj,d,rfl,hT,zW,yZ⟩
   .have e5:decide ((0:Int)<=c.kind)=false:=by rw[hc];rfl
    refine ky (qS1 @ao @z9 @e5) ?_;refine⟨_,(ke @ao),?_⟩;rw[<-hT];exact⟨zz,rfl,i,zJ,zg⟩
   have y0:(Zg d).kind=(d.kind:Int):=rfl;have e5:decide ((0:Int)<= (d.kind:Int))=true:=aP oM;have y1:=aO (w0:=w) zg.disk;have y2:=fun n=>kS i A C n;have y3:(A.dir k).seen.length<999999999:=by rw[yj];omega
   have xE:(A.dir k).Vl.length<1000000:=by rw[yj];exact yx k C
   rw[<-zJ];refine kz [36,37] (qS2 @ao @z9 @y0 @e5) ?_;refine Cw.Yh [i.bd,u] [9] 10 kR rfl ?_;refine kyc ?_;refine Xx.run [0,1,2,3,4,5] [true,true,true,true,true,true,false,false,false,false] 4 rfl kR kR fun k C=>?_;refine WQ ?_;refine kp (qS3 @ao @Md.Ww @y1 @y2 @z9) ?_
   (with_reducible refine C _ _ _ ?_);clear C k
   refine Xx.one 6 _ kR rfl ?_;refine Ow.Wf rfl rfl call61 (fun H J=>sa (i.s k) (A.dir k).seen d H (Gr.slW (zg.seen k C) (fun b o h=>J.has b o (bU h)) dY) y3 yZ) (fun B6 v6 D6 xF y4 y5 yk=>?_);have y6:=y5.mono y4;have zA:Sx.look (K++D6) i.bd=some (Xe i A):=a_ zg.disk;have y7:=fun x=>EQ i A C x (u_ yk);refine Ow.nil ?_;refine⟨(fC (fun r hr=>by simp only[Vw,WI,WB] at hr;rcases hr with rfl|rfl;exact bO zg.disk;exact bO zt)),?_⟩;refine kyb ?_;refine Xx.rest [7,8,9] rfl kR kR ?_;refine WQ ?_;refine kq @ao ?_;refine Ow.store rfl rfl rfl (ke (qS1 @ao @zA @y7)) ?_;refine ko @ao ?_;refine Cw.world fun wz yl=>?_;have ya:=yl.nodup;clear yl wz;rw[fc] at ya;obtain⟨Xs,ym,yn⟩:=yk;have yo:NdP (K++D6) v6 (bY (A.dir k).seen d):=yn.Vn fun b o _ t=>gE ya (cJ _ (ym _ (bU t)));obtain⟨pl,yp,yq⟩:=zg.Vl k C;have y8:pl.length=(A.dir k).Vl.length:=by have:=Wc List.length yp;simpa using this
   have yr:KcP (K++D6) (i.p k) pl:=yq.Vn fun b o _ t=>a_ t;have ys:Sx.look (K++D6) u=some (.cells (Yc (Zg d)).toArray 134 (0,0)):=a_ zt;have y9:Ext w X (Vh (K++D6) i.bd (Xe (bQ i k v6) A)):=Ext.Vh ⟨fun c hc=>by
    rw[aV] at hc;rcases Wu.1 hc with hc|hc
    .exact zz.new c hc
    exact .inr (y6.le c hc),fun c hc=>by rw[aV];exact aq _ (zz.all c hc)⟩
   have zu:Sx.look (Vh (K++D6) i.bd (Xe (bQ i k v6) A)) i.bd=some (Xe (bQ i k v6) A):=cY zA;have zK:Sx.look (Vh (K++D6) i.bd (Xe (bQ i k v6) A)) u=some (.cells (Yc (Zg d)).toArray 134 (0,0)):=by rw[bE (fun e=>zr (zJ.symm.trans e))];exact ys
   have xa:NdP (Vh (K++D6) i.bd (Xe (bQ i k v6) A)) v6 (bY (A.dir k).seen d):=Gr.YO yo zA (by rw[dy];exact jG) fun b o l t=>by rw[bE (Wq l)];exact t
   have yb:KcP (Vh (K++D6) i.bd (Xe (bQ i k v6) A)) (i.p k) pl:=Gr.YO yr zA (by rw[dy];exact ik) fun b o l t=>by rw[bE (Wq l)];exact t
   have xb:∀b o,b≠i.bd->Sx.look K b=some o->Sx.look (Vh (K++D6) i.bd (Xe (bQ i k v6) A)) b=some o:=fun b o l t=>by rw[bE (Wq l)];exact a_ t
   have xc:∀b,b∈keys K->b∈keys (Vh (K++D6) i.bd (Xe (bQ i k v6) A)):=fun b l=>by rw[fc,aV];exact aq _ l
   clear ya yo yr ys zA yn ym;generalize Vh (K++D6) i.bd (Xe (bQ i k v6) A)=L4 at*;have xd:=aO (w0:=w) zu;have xe:=aO (w0:=w) zK;have xf:∀n,aF (some (false,n)) (some (Xe (bQ i k v6) A)) (k*3+2)=some (i.p k):=fun n=>vA (bQ i k v6) A C n;refine kz [37] @ao ?_;refine Cw.Yh [i.bd,u] [10] 11 kR rfl ?_;refine kyc ?_;refine Xx.run [0,1,2,3,4,5] [true,true,true,true,true,true,false,false,false,false,false] 5 rfl kR kR fun k C=>?_;refine WQ ?_;refine kp (qS3 @ao @Md.Ww @xd @xf @xe) ?_
   (with_reducible refine C _ _ _ ?_);clear C k
   refine Xx.one 6 _ kR rfl ?_;refine Ow.buildSlice (e:=134) (Yc (Zg d)).toArray rfl rfl (fa underlying84 qn8 qF0 WT (kx _)) fun bp xG xg=>?_;have xh:∀r,r∈ [i.bd,u]->r∈keys L4:=fun r hr=>by simp only[Vw,WI,WB] at hr;rcases hr with rfl|rfl;exact bO zu;exact bO zK
   refine Ow.nil ?_;refine⟨(fC xh),?_⟩;refine kyb ?_;refine Xx.one 7 _ kR rfl ?_;refine Ow.ZV (e:=134) (k:=1) (new:=Yc (Zg d)) (i.p k) rfl rfl rfl underlying84 qn8 kR qF0 (by rw[nV,Wd,kx]) underlying84 (by intro k h;cases h) yb.app (fun H J=>W0.X6 (J.has bp (.cells (Yc (Zg d)).toArray 134 (0,0)) V_) (kx _) (wL _)) (kx _) (by rw[Wx,y8];omega) (fun v7 L5 yt _ zL xi=>?_);have xj:Xy (i.p k)≠some i.bd:=fun e=>by obtain⟨arr,I⟩:=fE yb e;rw[zu] at I;have:=Wc Xo (XD I);rw[dy] at this;exact ik this
   have zM:Sx.look L5 i.bd=some (Xe (bQ i k v6) A):=zL.look _ _ xj (a_ zu);have xk:=aO (w0:=w) zM;have xl:=fun x=>EK (bQ i k v6) A C x yt.cell;have xm:Sx.look L5 u=some (.cells (Yc (Zg d)).toArray 134 (0,0)):=zL.look _ _ (fun e=>by exact yY e) (a_ zK);refine Ow.nil ?_;refine⟨(fun r hr=>by simp only[Vw,WI,WB] at hr;rcases hr with rfl|rfl;exact xk.trans (aO (a_ zu)).symm;exact(aO xm).trans (aO (a_ zK)).symm),?_⟩;refine kyb ?_;refine Xx.rest [8,9,10] rfl kR kR ?_;refine WQ ?_;refine kq @ao ?_;refine Ow.store rfl rfl rfl (ke (qS1 @ao @zM @xl)) ?_;refine ko @ao ?_;refine ky @ao ?_;refine⟨_,(ke @ao),?_⟩;rw[hT];have xn:=((y9.app (o:=.cells (Yc (Zg d)).toArray 134 (0,0)) xg).qm5 zL).Vh (b:=i.bd) (o:=Xe (cV (bQ i k v6) k v7) A);have yu:∀b o,b≠i.bd->Xy (i.p k)≠some b->Sx.look L4 b=some o->Sx.look (Vh L5 i.bd (Xe (cV (bQ i k v6) k v7) A)) b=some o:=fun b o l P t=>by rw[bE (Wq l)];exact zL.look _ _ P (a_ t)
   have xo:XT (Vh L5 i.bd (Xe (cV (bQ i k v6) k v7) A)) (cV (bQ i k v6) k v7) (cT A k ⟨bY (A.dir k).seen d,(A.dir k).stl,(A.dir k).Vl++[fD d]⟩):=by
    refine zg.qR5 C (pl:=pl) (pl':=pl++[d]) yq (fun b o l P t=>yu b o l P (xb b o l t)) (cY zM) ?_ ?_ ?_ ?_
    .exact Gr.qe7 xa yb oT zu (by rw[dy];exact jG) yu
    .have xp:KcP L5 v7 (pl++[d]):=by
      unfold KcP;simpa using yt
     exact Gr.YO xp zM (by rw[dy];exact ik) fun b o l t=>by rw[bE (Wq l)];exact t
    .rw[We,We,yp];simp[Kf]
    intro b l;rcases xi with h| ⟨c,h,xq⟩
    .exact .inl (by rw[<-h];exact l)
    right
    rw[h] at l;cases l;intro hm;have:=aQ xq (b:=b) (by rw[aV];exact aq _ (xc _ hm));omega
   refine⟨xn,rfl,cV (bQ i k v6) k v7,zJ,?_⟩;unfold b_;rw[Dm];exact xo
  have L:=iT zD;rw[Vb zD];refine ko (aN @ao @L) ?_;refine ky (aN @ao @L) ?_;refine⟨_,(ke @ao),?_⟩;exact⟨zP,rfl,G,rfl,zd⟩
structure OcG where
 i:Nat
 S:h8
 G:Yd
 X:aA
def ofN(l:List XU)(q:Int)(i:Nat):h8:=(l.take i).foldl bx (dN q)
def uu(l:List XU)(q:Int){i:Nat}(h:i<l.length):ofN l q (i+1)=bx (ofN l q i) (l.getD i XH):=by unfold ofN;rw[StP.WJ (z:=XH) h,List.foldl_append];rfl
def rX(S:h8)(f:XU){n:Nat}(h:S.files.length<=n/\ ∀k,(S.dir k).seen.length<=n):(bx S f).files.length<=n+1/\ ∀k,((bx S f).dir k).seen.length<=n+1:=by
 unfold bx
 split
 .rename_i k _
  split
  .refine⟨?_,fun j=>?_⟩
   .show(S.files++[_]).length<=n+1;rw[VV];simp;exact h.1
   by_cases e:j=k
   .subst e;rw[dt];have:=Bv (S.dir j).seen (f.name,S.files.length);have:=h.2 j;show(dU _ _).length<=n+1;omega
   rw[e7 _ _ e];have:=h.2 j;show(S.dir j).seen.length<=n+1;omega
  exact⟨ZA h.1,fun k=>ZA (h.2 k)⟩
 exact⟨ZA h.1,fun k=>ZA (h.2 k)⟩
def Y6(S:h8)(k:Nat):h8:={S with dir:=fun j=>if j<k then⟨(S.dir j).seen,(S.dir j).seen,[]⟩ else S.dir j}
def TR(S:h8):Y6 S 0=S:=by unfold Y6;simp
def TU{S:h8}(h:∀k,(S.dir k).Vl=[]/\(S.dir k).stl=[]):Y6 S 3=ZE S [0,1,2]:=by
 unfold Y6 ZE;congr 1
 funext j
 by_cases e:j<3
 .rw[Vb e,Vb (by
   have:j=0\/j=1\/j=2:=by omega
   rcases this with rfl|rfl|rfl<;>simp)]
 rw[tr e,tr (by simp;omega)]
def Lc{S:h8}(h:∀k,(S.dir k).Vl=[]/\(S.dir k).stl=[])(k j:Nat):((Y6 S (k+1)).dir j).seen=((Y6 S k).dir j).seen/\((Y6 S (k+1)).dir j).Vl=((Y6 S k).dir j).Vl/\(j≠k->((Y6 S (k+1)).dir j).stl=((Y6 S k).dir j).stl)/\((Y6 S (k+1)).dir k).stl=((Y6 S k).dir k).seen:=by
 have a:=(h j).1;unfold Y6;simp only;refine⟨?_,?_,fun e=>?_,?_⟩
 .split<;>split<;>first|rfl|omega
 .split<;>split<;>first|rfl|omega| (rw[a])
 .split<;>split<;>first|rfl|omega
 rw[Vb (Nat.lt_succ_self k),tr (Xk k)]
def XT.qR6{X L:aA}{G:Yd}{S:h8}(h:XT X G S){k:Nat}(i:k<3){a:hU}{c:W_}(Vn:∀b o,b≠G.bd->Sx.look X b=some o->Sx.look L b=some o)(f:Sx.look L G.bd=some (Xe (bQ G k a) S))(g:NdP L a c):XT L (bQ G k a) (cT S k ⟨c,(S.dir k).stl,(S.dir k).Vl⟩):=
 h.upd rfl Vn f (fun j d=>by
  by_cases e:j=k
  .subst e
   right
   rw[dt,show(bQ G j a).s j=a by simp[bQ]];exact g
  exact .inl ⟨by simp[bQ,e],by rw[e7 _ _ e]⟩) (fun j d=>.inl ⟨rfl,by
  by_cases e:j=k
  .subst e;rw[dt]
  .rw[e7 _ _ e]⟩) (fun j d=>.inl ⟨rfl,by
  by_cases e:j=k
  .subst e;rw[dt]
  rw[e7 _ _ e]⟩) ⟨rfl,rfl⟩
def di:=aN (aN (aN @bA @b9) (aN @px @p')) (aN (aN @po @pc) (aN @Bw @kT))
def N_(y:Int)(v:hU)(l:List XU)(w:hW)(hq: -9223372036854775808<=y/\y<9223372036854775808)(hv:qg4 w v l)(hl:l.length<1000000)(t:FiB l):
  Va prog 7 #[vi y,v] w (XS w [] (fun v D=> ∃G,v=vp G.bd 0/\XT D G (ofD y l))):=by
 have ln:=hv.len;obtain⟨rb,off,arr,E,fz,q⟩:=hv.row;refine Va.Vs func7 rfl (rs:=[.tmp 4]) results7 ntmps7 (fun p hp=>by cases hp) Wg ?_;refine kf ?_;refine kz [7,8,12,1000002] @di ?_;refine Ow.Wf rfl rfl call34 (fun B K=>LZ y B) (fun B1 v1 X0 z0 zy zz zA=>?_);obtain⟨G0,rfl,zB⟩:=zA;have zC:=zz.mono zy;rw[Vy];refine ko @di ?_;refine kz [4,7,8,12] @di ?_;refine Cw.VU (G:=OcG) [11,12,13,14,17,18,19,20,21,22,7,23,24,25,26,27,28,29,30,31,32,33,34,35,36,37,38,39,40,41,42,43,44,45,46,47,48,49,50,51,52,53,54,55,56,57,58,59,60,61,62,63,64,65,66,67,68,69,70,71,72,73,74,75,76,77,78,79,80,81,82,83,84,85,86,87,88,89,15,16,6] (fun g=>[(6,vi g.i)]) (fun g=>g.X) (fun g=>g.i<=l.length/\g.S=ofN l y g.i/\XT g.X g.G g.S/\g.G.bd=G0.bd/\Vq w.heap.size g.X/\(g.S.files.length<=g.i/\ ∀k,(g.S.dir k).seen.length<=g.i)) (fun g=>l.length - g.i) ⟨0,dN y,G0,X0⟩ rfl rfl ?_ ?_
 .exact⟨aR _,rfl,zB,rfl,zC,aR _,fun _=>aR _⟩
 intro g j Q;refine kv ?_;obtain⟨i,S,G,X⟩:=g;simp only at Q |-;obtain⟨hi,hS,d,V,A,C⟩:=Q;rw[<-V];by_cases s:i<l.length
 .have d1:decide ((i:Int)< (l.length:Int))=true:=aP oM;have L:=q.idx true i s;have M:∀Y,Vq w.heap.size Y->aG w Y rb=some (.cells arr E fz):=fun Y hY=>by rw[dr (hY.not (q.lt oM))];exact q.has oM
  have N:=M X A;have l0:∀n,aF (some (false,n)) (some (.cells arr E fz)) (off+i*3)=some (vs (l.getD i XH).dir):=fun n=>by have:=R6 q s n;rwa [XL] at this
  have l1:=fun n=>wS q s n;have l2:=fun n=>ny q s n;have zD:=t (l.getD i XH) (W9 s);have R:=uu l y s;rw[<-hS] at R;have zE:=rX S (l.getD i XH) C;generalize l.getD i XH=f at*;have zj:=aO (w0:=w) d.disk;refine kz [4,7,8] (qS4 @di @ln @d1 @L @N @l0) ?_;refine Ow.Vc rfl call35 (fun B K=>DS f.dir B) ?_;cases H:al f.dir with
  |none=>
   have zf:iB f.dir= -1:=by unfold iB;rw[H]
   have e1:decide ((-1:Int)<0)=true:=rfl;have I:bx S f=S:=by unfold bx;rw[H]
   rw[zf];refine ko (aN @di @e1) ?_;refine ky @di ?_;exact Vo.mk ⟨i+1,S,G,X⟩ (by show l.length - (i+1)<l.length - i;omega) ⟨s,by rw[R,I],d,rfl,A,ZA C.1,fun k=>ZA (C.2 k)⟩ rfl rfl
  |some k=>
   have z:=(cN H).1;have zf:iB f.dir=(k:Int):=by unfold iB;rw[H]
   have e1:decide ((k:Int)<0)=false:=aW oM;rw[zf];refine ko (qS3 @di @e1 @L @N @l1) ?_;refine Ow.Vc rfl call36 (fun B K=>Cj f.name B zD.1) ?_;cases T:bF f.name with
   |false=>
    have I:bx S f=S:=by unfold bx;rw[H];simp only[T,VW,false_and,↓reduceIte]
    refine ko @di ?_;refine ky @di ?_;exact Vo.mk ⟨i+1,S,G,X⟩ (by show l.length - (i+1)<l.length - i;omega) ⟨s,by rw[R,I],d,rfl,A,ZA C.1,fun k=>ZA (C.2 k)⟩ rfl rfl
   |true=>
    cases W:decide ((1048576:Int)< (f.data.length:Int)) with
    |true=>
     have zF:=Zu W;have I:bx S f=S:=by unfold bx;rw[H];simp only[T,true_and];rw[tr oM]
     refine ko (qS3 @di @L @N @l2 @W) ?_;refine ky @di ?_;exact Vo.mk ⟨i+1,S,G,X⟩ (by show l.length - (i+1)<l.length - i;omega) ⟨s,by rw[R,I],d,rfl,A,ZA C.1,fun k=>ZA (C.2 k)⟩ rfl rfl
    |false=>
     have zF:=Z8 W;have I:bx S f=cT (ci S ⟨f.data,f.data.length⟩) k ⟨dU (S.dir k).seen (f.name,S.files.length),(S.dir k).stl,(S.dir k).Vl⟩:=by unfold bx;rw[H];simp only[T,true_and];rw[Vb oM]
     refine ko (qS3 @di @L @N @l2 @W) ?_;refine kz [4,7,8] @di ?_;refine Cw.Yh [G.bd,rb] [21] 22 kR rfl ?_;refine kyc ?_;refine Xx.run [0,1,2,3,4,5,6,7,8,9,10,11,12,13,14,15] [true,true,true,true,true,true,true,true,true,true,true,true,true,true,true,true,false,false,false,false,false,false] 6 rfl kR kR fun k z=>?_;refine WQ ?_;refine kp (qS4 @di @Md.Ww @zj @L @N @l2) ?_
     (with_reducible refine z _ _ _ ?_);clear z k
     refine Xx.one 16 _ kR rfl ?_;refine Ow.build (.agg (Ye ⟨f.data,(f.data.length:Int)⟩).toArray) rfl (Oo ⟨f.data,(f.data.length:Int)⟩) ?_;refine Ow.nil ?_;refine⟨(fun _ _=>rfl),?_⟩;refine kyb ?_;refine Xx.one 17 _ kR rfl ?_;refine Ow.buildSlice (e:=91) (Ye ⟨f.data,(f.data.length:Int)⟩).toArray rfl rfl (fa underlying82 qo2 qr6 WT (g5 _)) fun bp z1 zG=>?_;have zk:Gr X 91 2 G.f S.files.length ((S.files.map bu).map Ye).flatten:=by
      have:=d.files;unfold FdP at this
      rwa [Wx] at this
     have zH:Xy G.f≠some G.bd:=fun e=>by obtain⟨arr,ha⟩:=fE zk e;rw[d.disk] at ha;have:=Wc Xo (XD ha);rw[dy] at this;exact jY this
     have Z:Vq w.heap.size (X++[(bp,Obj.cells (Ye ⟨f.data,(f.data.length:Int)⟩).toArray 91 (0,0))]):=A.app ⟨zG,trivial⟩;have za:Sx.look (X++[(bp,Obj.cells (Ye ⟨f.data,(f.data.length:Int)⟩).toArray 91 (0,0))]) G.bd=some (Xe G S):=a_ d.disk;refine Ow.nil ?_;refine⟨(fun r q=>by simp only[Vw,WI,WB] at q;rcases q with rfl|rfl;exact(aO za).trans zj.symm;exact(M _ Z).trans N.symm),?_⟩;refine kyb ?_;refine Xx.one 18 _ kR rfl ?_;refine Ow.ZV (e:=91) (k:=1) (new:=Ye ⟨f.data,(f.data.length:Int)⟩) G.f rfl rfl rfl underlying82 qo2 kR qr6 (by rw[Bw,Wd,g5]) underlying82 (by intro k h;cases h) zk.app (fun B K=>W0.X6 (K.has bp (.cells (Ye ⟨f.data,(f.data.length:Int)⟩).toArray 91 (0,0)) V_) (g5 _) (ww _)) (g5 _) oM (fun v2 O zg _ zb zI=>?_);have U:Sx.look O G.bd=some (Xe G S):=zb.look _ _ zH za;have zl:=aO (w0:=w) U;have zh:Vq w.heap.size O:=Vq.of_le fun c J=>by
      rcases zb.new c J with h| ⟨-,h⟩
      .exact Z.le c h
      exact h
     have zm:=fun x=>tC G S x zg.cell;refine Ow.nil ?_;refine⟨(fun r q=>by simp only[Vw,WI,WB] at q;rcases q with rfl|rfl;exact zl.trans (aO za).symm;exact(M _ zh).trans (M _ Z).symm),?_⟩;refine kyb ?_;refine Xx.rest [19,20,21] rfl kR kR ?_;refine WQ ?_;refine kq @di ?_;refine Ow.store rfl rfl rfl (ke (qS1 @di @U @zm)) ?_;refine ko @di ?_;have P:XT (Vh O G.bd (Xe {G with f:=v2} S)) {G with f:=v2} (ci S ⟨f.data,f.data.length⟩):=by
      refine XT.qq9 (G:=G) d (v:=v2) (fl:=S.files++[⟨f.data,f.data.length⟩]) (fun b o t T u=>by rw[bE (Wq t)];exact zb.look _ _ T (a_ u)) (cY U) ?_;have zJ:FdP O v2 (S.files++[⟨f.data,f.data.length⟩]):=by have zK:bu ⟨f.data,f.data.length⟩=⟨f.data,(f.data.length:Int)⟩:=rfl;unfold FdP;simpa [zK] using zg
      exact Gr.YO zJ U (by rw[dy];exact jY) fun b o t u=>by rw[bE (Wq t)];exact u
     have zn:Vq w.heap.size (Vh O G.bd (Xe {G with f:=v2} S)):=Vq.of_le fun c J=>zh.le c (by rwa [fc] at J);generalize Vh O G.bd (Xe {G with f:=v2} S)=L6 at*;obtain⟨a,zo⟩:∃a:Yd,a={G with f:=v2}:=⟨_,rfl⟩;rw[<-zo] at P;have zL:G.bd=a.bd:=by rw[zo]
     rw[zL];clear zb zI zg zm U zl zh za Z;have zq:=aO (w0:=w) P.disk;have zM:=fun n=>kS a (ci S ⟨f.data,f.data.length⟩) z n;have zN:∀m,Yw (.sl m) a.f=some (vi ((S.files.length+1:Nat):Int)):=fun m=>by have:=(P.files).len m;rw[Wx] at this;rw[this];show some (vi (((S.files++[_]).length:Nat):Int))=_;rw[VV];rfl
     have es:((S.files.length+1:Nat):Int) - 1=(S.files.length:Int):=by omega
     have zr:=M _ zn;have z2:=C.2 k;refine kz [4,8] @di ?_;refine Cw.Yh [a.bd,rb] [26] 27 kR rfl ?_;refine kyc ?_;refine Xx.run [0,1,2,3,4,5,6,7,8,9,10,11,12,13,14,15,16,17,18,19,22,23] [true,true,true,true,true,true,true,true,true,true,true,true,true,true,true,true,true,true,true,true,false,false,true,true,false,false,false] 5 rfl kR kR fun k z=>?_;refine WQ ?_;refine kp (aN @di (qS6 @Md.Ww @zq @zM @L @zr @l1 @zN @es)) ?_
     (with_reducible refine z _ _ _ ?_);clear z k
     refine Xx.one 20 _ kR rfl ?_;refine Ow.build (.agg (Xi (ae (f.name,S.files.length))).toArray) rfl (EH (f.name,S.files.length)) ?_;refine Ow.nil ?_;refine⟨(fun _ _=>rfl),?_⟩;refine kyb ?_;refine Xx.one 21 _ kR rfl ?_;refine Ow.Wf rfl rfl call37 (fun B K=>Do (a.s k) (S.dir k).seen (f.name,S.files.length) B (Gr.slW (P.seen k z) (fun b o h=>K.has b o (bU h)) dY) oM) (fun B7 v7 D7 z3 zO zP zt=>?_);have zQ:=zP.mono zO;have zu:=zn.app zQ;have zc:Sx.look (L6++D7) a.bd=some (Xe a (ci S ⟨f.data,f.data.length⟩)):=a_ P.disk;have zR:=fun x=>EQ a (ci S ⟨f.data,f.data.length⟩) z x (u_ zt);refine Ow.nil ?_;refine⟨(fun r q=>by simp only[Vw,WI,WB] at q;rcases q with rfl|rfl;exact(aO zc).trans zq.symm;exact(M _ zu).trans zr.symm),?_⟩;refine kyb ?_;refine Xx.rest [24,25,26] rfl kR kR ?_;refine WQ ?_;refine kq @di ?_;refine Ow.store rfl rfl rfl (ke (qS1 @di @zc @zR)) ?_;refine ko @di ?_;refine Cw.world fun wz zv=>?_;have zw:=zv.nodup;clear zv wz;rw[fc] at zw;obtain⟨Xs,zS,zT⟩:=zt;have zU:NdP (L6++D7) v7 (dU (S.dir k).seen (f.name,S.files.length)):=zT.Vn fun b o _ u=>gE zw (cJ _ (zS _ (bU u)));have zV:XT (Vh (L6++D7) a.bd (Xe (bQ a k v7) (ci S ⟨f.data,f.data.length⟩))) (bQ a k v7) (bx S f):=by rw[I];exact P.qR6 z (fun b o t u=>by rw[bE (Wq t)];exact a_ u) (cY zc) (Gr.YO zU zc (by rw[dy];exact jG) fun b o t u=>by rw[bE (Wq t)];exact u)
     refine ky @di ?_;exact Vo.mk ⟨i+1,bx S f,bQ a k v7,Vh (L6++D7) a.bd (Xe (bQ a k v7) (ci S ⟨f.data,f.data.length⟩))⟩ (by show l.length - (i+1)<l.length - i;omega) ⟨s,R.symm,zV,rfl,Vq.of_le (fun c J=>zu.le c (by rwa [fc] at J)),zE⟩ rfl rfl
 obtain rfl:i=l.length:=by omega
 have d1:decide ((l.length:Int)< (l.length:Int))=false:=aW oM;have hT:S=l.foldl bx (dN y):=by rw[hS];unfold ofN;rw[WH]
 have zi:=rQ l (dN y) (fun _=>⟨rfl,rfl⟩);rw[<-hT] at zi;have zx:ofD y l=ZE S [0,1,2]:=by rw[hT];rfl
 rw[zx];clear hS hT zx;rw[<-TU zi];refine kz [12] (qS1 @di @ln @d1) ?_;refine Cw.VU (G:=OcG) [90,91,94,95,96,97,98,99,100,101,102,103,104,105,106,92,93,8] (fun g=>[(8,vi g.i)]) (fun g=>g.X) (fun g=>g.i<=3/\g.S=Y6 S g.i/\XT g.X g.G g.S/\g.G.bd=G.bd/\Vq w.heap.size g.X) (fun g=>3 - g.i) ⟨0,S,G,X⟩ rfl rfl ?_ ?_
 .exact⟨aR _,(TR S).symm,d,rfl,A⟩
 intro g j Q;refine kv ?_;clear d A V;obtain⟨k,F,a,X2⟩:=g;simp only at Q |-;obtain⟨z,zd,d,V,A⟩:=Q;rw[<-V];by_cases s:k<3
 .have d2:decide ((k:Int)<3)=true:=aP oM;have zW:=aO (w0:=w) d.disk;have zX:=fun n=>kS a F s n;have st:=fun x=>nH a F s x (Gr.cell (d.seen k s));have ze:∀j,((Y6 S (k+1)).dir j).seen=(F.dir j).seen/\((Y6 S (k+1)).dir j).Vl=(F.dir j).Vl/\(j≠k->((Y6 S (k+1)).dir j).stl=(F.dir j).stl)/\((Y6 S (k+1)).dir k).stl=(F.dir k).seen:=fun j=>by
   rw[zd];exact Lc zi k j
  have zY:(Y6 S (k+1)).files=F.files:=by rw[zd];rfl
  have zZ:Xe (dC a k (a.s k)) F=Xe (dC a k (a.s k)) (Y6 S (k+1)):=by rw[zd];rfl
  refine ky (aN @di @d2) ?_;refine Cw.WU [0,1,2,3,4,5,6,7,9,10,8,11,12,13] [13] rfl kR kR ?_;refine WQ ?_;refine kq (qS1 @di @zW @zX) ?_;refine Ow.store rfl rfl rfl (ke (qS1 @di d.disk @st)) ?_;refine ko @di ?_;rw[zZ];refine ky @di ?_;refine Vo.mk ⟨k+1,Y6 S (k+1),dC a k (a.s k),Vh X2 a.bd (Xe (dC a k (a.s k)) (Y6 S (k+1)))⟩ (by show 3 - (k+1)<3 - k;omega) ⟨s,rfl,?_,rfl,Vq.of_le (fun c J=>A.le c (by rwa [fc] at J))⟩ rfl rfl;refine d.upd rfl (fun b o t u=>by rw[bE (Wq t)];exact u) (cY d.disk) (fun j hj=>.inl ⟨rfl,(ze j).1⟩) (fun j hj=>?_) (fun j hj=>.inl ⟨rfl,(ze j).2.1⟩) ⟨rfl,zY⟩;by_cases e:j=k
  .subst e
   right
   rw[(ze j).2.2.2,show(dC a j (a.s j)).t j=a.s j by simp[dC]];exact Gr.YO (d.seen j hj) d.disk (by rw[dy];exact jG) fun b o t u=>by rw[bE (Wq t)];exact u
  exact .inl ⟨by simp[dC,e],(ze j).2.2.1 e⟩
 obtain rfl:k=3:=by omega
 have d2:decide (((3:Nat):Int)<3)=false:=rfl;refine ky (aN @di @d2) ?_;refine⟨_,(ke @di),?_⟩;rw[<-zd];exact⟨Ext.Vt A,a,rfl,d⟩
def Pl{c d:Wy}(h:fD c=fD d)(e:c.kind=1):d.kind=1/\c.a=d.a:=by
 unfold fD at h;rw[tr oM,Vb e] at h;by_cases b:d.kind=0
 .rw[Vb b] at h;cases h
 rw[tr b] at h;by_cases a:d.kind=1
 .rw[Vb a] at h;exact⟨a,by have:=Wc Wy.a h;exact this⟩
 rw[tr a] at h;cases h
def NO{pl a:List Wy}(h:pl.map fD=a.map fD){i:Nat}(b:i<a.length):fD (pl.getD i ⟨0,[],[],0⟩)=fD (a.getD i fV):=by
 have c:pl.length=a.length:=by have:=Wc List.length h;simpa using this
 have:=Wc (fun l=>l[i]?) h;simp only[List.getElem?_map] at this;rw[List.getD_eq_getElem?_getD,List.getD_eq_getElem?_getD];rw[List.getElem?_eq_getElem oM,List.getElem?_eq_getElem b] at this |-;simpa using this
def PH{S:h8}{N:Nat}(h:Zo N S)(k i:Nat):(bj S k i).length<=N:=by have a:=(o5 ((S.dir k).Vl.take i) (h k).stlB fun c b=>(h k).pendB c (List.mem_of_mem_take b)).2;have d:=(h k).stl;unfold bj;rw[W3] at a;omega
def H_{E:h7}{rest:List hU}{l:List NdR}(k:Nat)(a:k<l.length)(n:Nat):aF (some (false,n)) (some (bW Xi E rest l)) (k*2+1)=some (vi (l.getD k nd0).n):=by obtain⟨A,C,e,b,-⟩:=qZ (z:=nd0) (rest:=rest) dY a;unfold bW;rw[e];have:=fR (A++[vs (l.getD k nd0).s]) C (vi (l.getD k nd0).n) n E (0,0) (o:=k*2+1) (by rw[VV,b];rfl);rw[Wb] at this;exact this
def qA0(S:h8):Prop:= ∀n,n<S.files.length->(aC S n).data.length<=1048576/\(aC S n).stl<= (aC S n).data.length
structure CrG where
 k:Nat
 at_:Nat
 S:h8
 G:Yd
 X:aA
structure CkG where
 at_:Nat
 n:Nat
structure CiG where
 i:Nat
 v:hU
 X:aA
def eA:=aN (aN (aN @bA @b9) (qS1 @gd @px @p')) (aN (qS1 @po @pc @CT) (qS1 @DM @CQ @Dy))
def Gi(H:aA)(G0:Yd)(S0:h8)(N:Nat)(pv:hU)(pl:List UInt16)(w:hW)(hX:∀p,p∈H->w.heap[p.1]? =some p.2)(hn:(keys H).Nodup)(yo:XT H G0 S0)(ok:XK S0)(yp:XK (du S0 pl))(hH:dw S0)(hN:Zo N S0)(y4:N<900000)(hp:PkS w pv pl)(zJ:PkB w H pl pv)(y5:pl.length<1000000):
  Va prog 23 #[vp G0.bd 0,pv] w (XS w H (fun _ D=> ∃G',G'.bd=G0.bd/\XT D G' (du S0 pl))):=by
 have zi:=hp.len;refine Va.Vs func23 rfl (rs:=[]) results23 ntmps23 hX hn ?_;refine kf ?_;have zK:pl=[]\/ ∃Q off arr E fz,WL 1 qj9 0 w pv pl Q off arr E fz/\Q<w.heap.size/\Q∉keys H:=by
  by_cases R:pl=[]
  .exact .inl R
  right
  obtain⟨b',off,c,arr,E,fz,T,U,⟨rfl,rfl,rfl⟩ | ⟨rfl,hh,-⟩⟩:=hp.resolve_right fun e=>R e.1
  .exact Vx rfl R
  exact⟨b',off,arr,E,fz,T,(zJ R b' rfl).1,(zJ R b' rfl).2⟩
 refine kz [7,25,28,30,31,1000006,1000027] @eA ?_;refine Cw.VU (G:=CrG) [14,15,18,19,20,21,22,6,7,23,24,25,26,27,28,29,30,31,32,33,34,35,36,37,38,39,40,4,41,42,43,44,8,9,45,46,47,50,51,52,53,54,55,56,57,58,48,49,59,60,61,62,63,64,65,66,67,68,69,16,17,5] (fun g=>[(4,vi g.at_),(5,vi g.k)]) (fun g=>g.X) (fun g=>g.k<=3/\(g.S,pl.drop g.at_)=cS (S0,pl) g.k/\g.at_<=pl.length/\XT g.X g.G g.S/\g.G.bd=G0.bd/\Ext w H g.X) (fun g=>3 - g.k) ⟨0,0,S0,G0,H⟩ rfl rfl ?_ ?_
 .exact⟨aR _,rfl,aR _,yo,rfl,Ext.refl w H⟩
 intro g j t;refine kv ?_;obtain⟨k,at_,S,G,X⟩:=g;simp only at t |-;obtain⟨hk,hS,V,r,yq,u⟩:=t;rw[<-yq];by_cases I:k<3
 .have d1:decide ((k:Int)<3)=true:=aP oM;have zL:S.dir k=S0.dir k:=by
   have:=Wc (fun W=>W.1.dir k) hS;simp only at this;rw[this];exact Bj (S0,pl) (aj k)
  have zj:Zo N S:=by have:=qL (q:=(S0,pl)) hN k;rw[<-hS] at this;exact this
  have zk:cS (S0,pl) (k+1)=gs (S,pl.drop at_) k:=by show gs (cS (S0,pl) k) k=_;rw[<-hS]
  obtain⟨qd,zM,zc⟩:=r.Vl k I;have yr:qd.length=(S.dir k).Vl.length:=by have:=Wc List.length zM;simpa using this
  have y6:=(zj k).stl;have ys:∀m,Yw (.sl m) (G.p k)=some (vi ((S.dir k).Vl.length:Int)):=fun m=>by have:=zc.len m;rw[Wx,yr] at this;exact this
  have Y:=aO (w0:=w) r.disk;have zl:=fun n=>kS G S I n;have yt:=fun n=>Nk G S I n;have zN:=fun n=>vA G S I n;refine kz [7,1000006] (aN @eA @d1) ?_;refine Cw.ZO (G:=CkG) [4,7,23,24,25,26,27,28,29,30,31,32,33,34,35,36,37,38,39,40] (fun g=>[(4,vi g.at_),(7,vi g.n)]) (fun g=>X) (fun g=>g.n=fG (pl.drop at_) (S.dir k).Vl.length/\pl.drop g.at_=(pl.drop at_).drop 1/\g.at_<=pl.length) ?_ ?_
  .by_cases F:at_<pl.length
   .have J:decide ((at_:Int)< (pl.length:Int))=true:=aP oM;obtain R| ⟨Q,off,arr,E,fz,T,zm,zo⟩:=zK
    .rw[R] at F;simp at F
    have zq:aG w X Q=some (.cells arr E fz):=u.Wo (T.has oM) zo;have ix:=T.idx false at_ F;have ld:=fun n=>ni T F n;have K:pl.drop at_=pl.getD at_ 0::pl.drop (at_+1):=by rw[qc1 F,List.getD_eq_getElem?_getD,List.getElem?_eq_getElem F];rfl
    generalize pl.getD at_ 0=x at*;have em:(x.toNat:Int)% (((S.dir k).Vl.length:Int)+1)=((x.toNat% ((S.dir k).Vl.length+1):Nat):Int):=by rw[Int.natCast_emod];rfl
    have hx:=x.toNat_lt;refine kz [7] (qS1 @eA @zi @J) ?_;refine Cw.Vu [Q,G.bd] [0,1,2,5,6,7,3,4,8,9,10,11,12] [] kR kR kR ?_;refine WQ ?_;refine kq (qS6 @eA @ix @zq @ld @Y @zN @ys @em) ?_;refine ky @eA ?_;exact WY.mk ⟨at_+1,x.toNat% ((S.dir k).Vl.length+1)⟩ ⟨by rw[K];rfl,by rw[K];rfl,F⟩ rfl rfl
   have J:decide ((at_:Int)< (pl.length:Int))=false:=aW oM;have K:pl.drop at_=[]:=List.drop_eq_nil_of_le oM;refine ky (qS1 @eA @zi @J) ?_;exact WY.mk ⟨at_,0⟩ ⟨by rw[K];rfl,by rw[K];rfl,V⟩ rfl rfl
  intro g j t;refine kv ?_;obtain⟨yu,m⟩:=g;simp only at t |-;obtain⟨hm,yv,zr⟩:=t;have zt:=rD (pl.drop at_) (S.dir k).Vl.length;rw[<-hm] at zt;refine kz [12] (qS1 @eA @Y @yt) ?_;refine Cw.VU (G:=CiG) [45,46,47,50,51,52,53,54,55,56,57,58,8,48,49,9] (fun g=>[(8,g.v),(9,vi g.i)]) (fun g=>g.X) (fun g=>g.i<=m/\XT g.X G S/\NdP g.X g.v (bj S k g.i)/\KcP g.X (G.p k) qd/\Ext w H g.X) (fun g=>m - g.i) ⟨0,G.t k,X⟩ rfl rfl ?_ ?_
  .refine⟨aR _,r,?_,zc,u⟩;show NdP X (G.t k) (bj S k 0);exact r.stl k I
  intro g j t;refine kv ?_;clear r zc u Y;obtain⟨i,v,X⟩:=g;simp only at t |-;obtain⟨hi,r,zu,zc,u⟩:=t;have Y:=aO (w0:=w) r.disk;by_cases zd:i<m
  .have J:decide ((i:Int)< (m:Int))=true:=aP oM;have zv:i< (S.dir k).Vl.length:=by omega
   have zO:i< (qd.map Zg).length:=by rw[Wx];omega
   obtain⟨rq,rest,cq,hv,zw,-⟩:=Gr.upd zc kx zO kc0;have yw:=aO (w0:=w) zw;have yx:ez (.sl (true,4)) (G.p k) (some (i:Int))=some (vp rq (i*4)):=by rw[hv,j5 _ _ _ _ _ _ oM];simp
   have zP:=r0 (E:=134) (rest:=rest) (z:=kc0) kx i zO;rw[SB] at zP;have zQ:=NO zM zv;have zR:=(hH k).2 i (by rw[<-zL];exact zv);rw[<-zL] at zR;have yy:=rj zv;have yz:bY (bj S k i) (qd.getD i ⟨0,[],[],0⟩)=bj S k (i+1):=by rw[yy,<-Dm,zQ,Dm]
   have yA:(qd.getD i ⟨0,[],[],0⟩).kind=1->aL (bj S k i) (qd.getD i ⟨0,[],[],0⟩).a≠none:=fun h=>by obtain⟨h1,h2⟩:=Pl zQ h;rw[h2];exact(zR h1).1
   have y7:=PH zj k i;generalize qd.getD i ⟨0,[],[],0⟩=c at*;refine kz [12] (qS5 @eA @J @Y @zN @yx @yw @zP) ?_;refine Ow.Wf rfl rfl call61 (fun w' yB=>sa v (bj S k i) c w' (Gr.slW zu (fun b o h=>yB.has b o (bU h)) dY) oM yA) (fun B6 v6 D6 y8 yC yD zS=>?_);have yE:=yD.mono yC;rw[yz] at zS;refine ko @eA ?_;refine Cw.world fun wz zT=>?_;have yF:=zT.nodup;clear zT wz;obtain⟨Xs,yG,yH⟩:=zS;refine ky @eA ?_;have yI:Ext w H (X++D6):=⟨fun c U=>by
    rw[aV] at U;rcases Wu.1 U with U|U
    .exact u.new c U
    exact .inr (yE.le c U),fun c U=>by rw[aV];exact aq _ (u.all c U)⟩
   have yJ:NdP (X++D6) v6 (bj S k (i+1)):=yH.Vn fun b o _ ho=>gE yF (cJ _ (yG _ (bU ho)));exact Vo.mk ⟨i+1,v6,X++D6⟩ (by show m - (i+1)<m - i;omega) ⟨zd,r.mono fun b o h=>a_ h,yJ,zc.Vn (fun b o _ h=>a_ h),yI⟩ rfl rfl
  obtain rfl:i=m:=by omega
  have J:decide ((i:Int)< (i:Int))=false:=aW oM;have zU:=Gr.cell zu;have zx:=fun x=>EQ G S I x zU;have yK:=fun x=>nH (bQ G k v) S I x zU;have yL:=fun x=>EK (dC (bQ G k v) k v) S I x (q:= Vj) ⟨rfl,rfl⟩;have zV:Sx.look (Vh X G.bd (Xe (bQ G k v) S)) G.bd=some (Xe (bQ G k v) S):=cY r.disk;have zW:Sx.look (Vh (Vh X G.bd (Xe (bQ G k v) S)) G.bd (Xe (dC (bQ G k v) k v) S)) G.bd=some (Xe (dC (bQ G k v) k v) S):=cY zV;refine ky (aN @eA (qS6 @J r.disk @zV @zW @zx @yK @yL @dq)) ?_;have zX:∀b o,b≠G.bd->Sx.look X b=some o->Sx.look (Vh (Vh (Vh X G.bd (Xe (bQ G k v) S)) G.bd (Xe (dC (bQ G k v) k v) S)) G.bd (Xe (cV (dC (bQ G k v) k v) k Vj) S)) b=some o:=fun b o hb ho=>by rw[bE (Wq hb),bE (Wq hb),bE (Wq hb)];exact ho
  have zY:=Gr.YO zu r.disk (by rw[dy];exact jG) zX;refine Vo.mk ⟨k+1,yu,cT S k ⟨bj S k i,bj S k i,[]⟩,cV (dC (bQ G k v) k v) k Vj,Vh (Vh (Vh X G.bd (Xe (bQ G k v) S)) G.bd (Xe (dC (bQ G k v) k v) S)) G.bd (Xe (cV (dC (bQ G k v) k v) k Vj) S)⟩ (by show 3 - (k+1)<3 - k;omega) ⟨I,?_,zr,?_,rfl,u.Vh.Vh.Vh⟩ rfl rfl
  .rw[zk];unfold gs;simp only;rw[<-hm,yv]
  refine r.upd rfl zX (cY zW) (fun j hj=>?_) (fun j hj=>?_) (fun j hj=>?_) ⟨rfl,rfl⟩
  .by_cases e:j=k
   .subst e
    right
    rw[dt,show(cV (dC (bQ G j v) j v) j Vj).s j=v by simp[cV,dC,bQ]];exact zY
   exact .inl ⟨by simp[cV,dC,bQ,e],by rw[e7 _ _ e]⟩
  .by_cases e:j=k
   .subst e
    right
    rw[dt,show(cV (dC (bQ G j v) j v) j Vj).t j=v by simp[cV,dC,bQ]];exact zY
   exact .inl ⟨by simp[cV,dC,bQ,e],by rw[e7 _ _ e]⟩
  by_cases e:j=k
  .subst e;exact .inr ⟨by simp[cV],by rw[dt]⟩
  exact .inl ⟨by simp[cV,dC,bQ,e],by rw[e7 _ _ e]⟩
 obtain rfl:k=3:=by omega
 have d1:decide (((3:Nat):Int)<3)=false:=rfl;have zj:Zo N S:=by have:=qL (q:=(S0,pl)) hN 3;rw[<-hS] at this;exact this
 have zZ:S.files=S0.files:=by have:=Cs (S0,pl) 3;rw[<-hS] at this;exact this
 have zn:du S0 pl=(dF (dQ S,pl.drop at_) 3).1:=by unfold du;rw[<-hS]
 have z0:(du S0 pl).dir=S.dir:=by rw[zn,pI];rfl
 have z1:∀W:h8×List UInt16,∀l:W_,(l.foldl ct W).1.files.length=W.1.files.length:=fun W l=>by
  induction l generalizing W with
  |nil=>rfl
  |cons a l ih=>rw[List.foldl_cons,ih];show(W.1.files.set _ _).length=_;rw[X8]
 have z2:∀k,(dF (dQ S,pl.drop at_) k).1.files.length=S.files.length:=fun k=>by
  induction k with
  |zero=>rfl
  |succ k ih=>show(List.foldl ct _ _).1.files.length=_;rw[z1,ih]
 have yM:∀k,k<3-> ∀p,p∈ (S.dir k).seen->p.2<S.files.length:=fun k hk p hp=>by have:=yp.seenN k hk p (by rw[z0];exact hp);rw[zn,z2] at this;exact this
 have Z:qA0 (dQ S):=fun n hn=>by
  have:=kW ok (n:=n) (by rw[<-zZ];exact hn);have e:aC (dQ S) n=aC S0 n:=by unfold aC dQ;rw[zZ]
  rw[e];exact this
 rw[zn];clear zn z2 z1 z0;have za:=r.disk;have so:=fun x=>CQ G S false x;have z3:Sx.look (Vh X G.bd (Xe G {S with off:=false})) G.bd=some (Xe G {S with off:=false}):=cY za;have sl:=fun x=>CT G {S with off:=false} (-1) x;have z4:dcL G {S with off:=false} (-1) false=Xe G (dQ S):=lO G {S with off:=false} (dQ S) rfl rfl rfl;refine kz [25,28,30,31,1000027] (qS5 @eA @d1 @za @so @z3 @sl @dq) ?_;have z5:XT (Vh (Vh X G.bd (Xe G {S with off:=false})) G.bd (Xe G (dQ S))) G (dQ S):=(r.qy9 {S with off:=false} rfl rfl).qy9 (dQ S) rfl rfl;have z6:Ext w H (Vh (Vh X G.bd (Xe G {S with off:=false})) G.bd (Xe G (dQ S))):=u.Vh.Vh;refine Cw.Vd (M:=Vh (Vh X G.bd (Xe G {S with off:=false})) G.bd (Xe G (dQ S))) (by rw[<-z4]) ?_;generalize Vh (Vh X G.bd (Xe G {S with off:=false})) G.bd (Xe G (dQ S))=Xw at*;clear za so z3 sl z4 r u;have y9:(dQ S).files.length=S.files.length:=rfl;refine Cw.VU (G:=CrG) [76,77,11,80,81,82,83,84,85,86,87,88,89,92,93,94,95,96,97,98,99,100,101,102,103,104,105,106,107,12,13,108,109,110,111,112,113,114,115,116,117,118,119,120,121,122,123,124,125,126,127,128,129,130,4,131,132,133,134,135,136,137,138,139,140,141,142,143,144,145,146,147,148,149,150,151,152,90,91,78,79,10] (fun g=>[(4,vi g.at_),(10,vi g.k)]) (fun g=>g.X) (fun g=>g.k<=3/\(g.S,pl.drop g.at_)=dF (dQ S,pl.drop at_) g.k/\g.at_<=pl.length/\XT g.X g.G g.S/\g.G.bd=G.bd/\Ext w H g.X/\g.S.dir=S.dir/\g.S.files.length=S.files.length/\qA0 g.S) (fun g=>3 - g.k) ⟨0,at_,dQ S,G,Xw⟩ rfl rfl ?_ ?_
 .exact⟨aR _,rfl,V,z5,rfl,z6,rfl,rfl,Z⟩
 intro g j t;refine kv ?_;clear z5 z6 Z V;obtain⟨k,zg,S3,G3,X3⟩:=g;simp only at t |-;obtain⟨hk,z7,V,r,yN,u,z8,z9,Z⟩:=t;rw[<-yN];by_cases I:k<3
 .have J:decide ((k:Int)<3)=true:=aP oM;have ya:=yM k I;have yO:=(zj k).seen;have zk:dF (dQ S,pl.drop at_) (k+1)=(S.dir k).seen.foldl ct (S3,pl.drop zg):=by
   show((dQ S).dir k).seen.foldl ct (dF (dQ S,pl.drop at_) k)=_;rw[<-z7];rfl
  obtain⟨s,yb⟩:∃s,(S.dir k).seen=s:=⟨_,rfl⟩;rw[yb] at ya yO zk;refine kz [25,28,30,31,1000027] (aN @eA @J) ?_;refine Cw.VU (G:=CrG) [80,81,82,83,84,85,86,87,88,89,92,93,94,95,96,97,98,99,100,101,102,103,104,105,106,107,12,13,108,109,110,111,112,113,114,115,116,117,118,119,120,121,122,123,124,125,126,127,128,129,130,4,131,132,133,134,135,136,137,138,139,140,141,142,143,144,145,146,147,148,149,150,151,152,90,91,11] (fun g=>[(4,vi g.at_),(11,vi g.k)]) (fun g=>g.X) (fun g=>g.k<=s.length/\(g.S,pl.drop g.at_)=(s.take g.k).foldl ct (S3,pl.drop zg)/\g.at_<=pl.length/\XT g.X g.G g.S/\g.G.bd=G3.bd/\Ext w H g.X/\g.S.dir=S.dir/\g.S.files.length=S.files.length/\qA0 g.S) (fun g=>s.length - g.k) ⟨0,zg,S3,G3,X3⟩ rfl rfl ?_ ?_
  .exact⟨aR _,rfl,V,r,rfl,u,z8,z9,Z⟩
  intro g j t;refine kv ?_;clear r u Z V z8 z9;obtain⟨i,B,A,O,X4⟩:=g;simp only at t |-;obtain⟨hi,zy,V,r,yP,u,zz,yc,Z⟩:=t;rw[<-yP];have Y:=aO (w0:=w) r.disk;have zl:=fun n=>kS O A I n;have yd:NdP X4 (O.s k) s:=by have:=r.seen k I;rw[zz,yb] at this;exact this
  have zA:=yd.len;rw[Wx] at zA;by_cases zd:i<s.length
  .have d3:decide ((i:Int)< (s.length:Int))=true:=aP oM;have ye:i< (s.map ae).length:=by rw[Wx];exact zd
   obtain⟨rs,rest,cs,hv,zw,-⟩:=Gr.upd yd dY ye nd0;have yQ:=aO (w0:=w) zw;have yR:ez (.sl (true,2)) (O.s k) (some (i:Int))=some (vp rs (i*2)):=by rw[hv,j5 _ _ _ _ _ _ oM];simp
   have zB:=fun n=>H_ (E:=94) (rest:=rest) i ye n;rw[ir] at zB;have yf:(s.take (i+1)).foldl ct (S3,pl.drop zg)=ct ((s.take i).foldl ct (S3,pl.drop zg)) (s.getD i ([],0)):=by rw[StP.WJ (z:=([],0)) zd,List.foldl_append];rfl
   rw[<-zy] at yf;have yS:=ya _ (W9 (z:=([],0)) zd);generalize s.getD i ([],0)=W at*;obtain⟨qs,n⟩:=W;simp only[ae] at zB yS;have zC:n<A.files.length:=by omega
   have zb:n< (A.files.map bu).length:=by rw[Wx];exact zC
   obtain⟨yT,yU⟩:=Z n zC;obtain⟨f,hf⟩:∃f,aC A n=f:=⟨_,rfl⟩;rw[hf] at yT yU;have zh:(A.files.map bu).getD n YQ=bu f:=by rw[kj,<-hf];rfl
   have zt:=rD (pl.drop B) (f.data.length - f.stl);obtain⟨m,ze⟩:∃m,fG (pl.drop B) (f.data.length - f.stl)=m:=⟨_,rfl⟩;rw[ze] at zt;obtain⟨L,C,cf,yg,zf,yh⟩:=Gr.upd r.files g5 zb (bu ⟨f.data.take (f.stl+m),(f.data.take (f.stl+m)).length⟩);have zD:=aO (w0:=w) zf;have yV:ez (.sl (true,2)) O.f (some (n:Int))=some (vp L (n*2)):=by rw[yg,j5 _ _ _ _ _ _ oM];simp
   have zE:=fun y=>BJ (E:=91) (rest:=C) n zb y;have zF:=fun y=>Gt (E:=91) (rest:=C) n zb y;rw[zh] at zE zF;have zG:∀y,aF (some (false,y)) (some (bW Ye 91 C (A.files.map bu))) (n*2)=some (vs f.data):=zE;have zH:∀y,aF (some (false,y)) (some (bW Ye 91 C (A.files.map bu))) (n*2+1)=some (vi (f.stl:Int)):=zF;clear zE zF;refine kz [25,28,30,31,1000027] (qS3 @eA @Y @zl @zA @d3) ?_;refine Cw.Vu [O.bd,rs] [0,1,2,4,5,6,7,8,9,11,3,10,12,13,14,15,16] [] kR kR kR ?_;refine WQ ?_;refine kq (qS5 @eA @Y @zl @yR @yQ @zB @yV) ?_;refine kz [28,30,31,1000027] @eA ?_;refine Cw.ZO (G:=CkG) [4,13,108,109,110,111,112,113,114,115,116,117,118,119,120,121,122,123,124,125,126,127,128,129,130] (fun g=>[(4,vi g.at_),(13,vi g.n)]) (fun g=>X4) (fun g=>g.n=m/\pl.drop g.at_=(pl.drop B).drop 1/\g.at_<=pl.length) ?_ ?_
   .by_cases F:B<pl.length
    .have d4:decide ((B:Int)< (pl.length:Int))=true:=aP oM;obtain R| ⟨Q,off,arr,E,fz,T,zm,zo⟩:=zK
     .rw[R] at F;simp at F
     have zq:aG w X4 Q=some (.cells arr E fz):=u.Wo (T.has oM) zo;have ix:=T.idx false B F;have ld:=fun n=>ni T F n;have K:pl.drop B=pl.getD B 0::pl.drop (B+1):=by rw[qc1 F,List.getD_eq_getElem?_getD,List.getElem?_eq_getElem F];rfl
     generalize pl.getD B 0=x at*;have es:(f.data.length:Int) - (f.stl:Int)=((f.data.length - f.stl:Nat):Int):=by omega
     have em:(x.toNat:Int)% (((f.data.length - f.stl:Nat):Int)+1)=((x.toNat% (f.data.length - f.stl+1):Nat):Int):=by rw[Int.natCast_emod];rfl
     have hx:=x.toNat_lt;rw[K] at ze;refine kz [28] (qS1 @eA @zi @d4) ?_;refine Cw.Vu [Q,L] [0,1,2,5,6,7,10,11,12,3,4,8,9,13,14,15,16,17] [] kR kR kR ?_;refine WQ ?_;refine kq (aN @eA (qS6 @ix @zq @ld @zD @zG @zH @es @em)) ?_;refine ky @eA ?_;exact WY.mk ⟨B+1,x.toNat% (f.data.length - f.stl+1)⟩ ⟨ze,by rw[K];rfl,F⟩ rfl rfl
    have d4:decide ((B:Int)< (pl.length:Int))=false:=aW oM;have K:pl.drop B=[]:=List.drop_eq_nil_of_le oM;rw[K] at ze;refine ky (qS1 @eA @zi @d4) ?_;exact WY.mk ⟨B,0⟩ ⟨ze,by rw[K];rfl,V⟩ rfl rfl
   intro g j t;refine kv ?_;obtain⟨yi,d⟩:=g;simp only at t |-;obtain⟨rfl,yW,zr⟩:=t;have yX:(f.stl:Int)+ (d:Int)=((f.stl+d:Nat):Int):=by omega
   have xa:f.stl+d<=f.data.length:=by omega
   obtain⟨l0,yj⟩:∃l0,A.files.map bu=l0:=⟨_,rfl⟩;rw[yj] at zb zh zD zG zH zf yh;have yk:∀a:Bool,aZ (some (a,1)) (some (bW Ye 91 C l0)) (n*2) (vs (f.data.take (f.stl+d)))=some (bW Ye 91 C (l0.set n ⟨f.data.take (f.stl+d),(f.stl:Int)⟩)):=fun a=>by rw[UA n zb _ a,zh];rfl
   obtain⟨P,za⟩:∃P,l0.set n ⟨f.data.take (f.stl+d),(f.stl:Int)⟩=P:=⟨_,rfl⟩;have yl:P.getD n YQ=⟨f.data.take (f.stl+d),(f.stl:Int)⟩:=by rw[<-za,List.getD_eq_getElem?_getD,List.getElem?_set_self zb];rfl
   have ym:n<P.length:=by rw[<-za,X8];exact zb
   rw[za] at yk;have zI:Sx.look (Vh X4 L (bW Ye 91 C P)) L=some (bW Ye 91 C P):=cY zf;have yY:=aO (w0:=w) zI;have yZ:∀y,aF (some (false,y)) (some (bW Ye 91 C P)) (n*2)=some (vs (f.data.take (f.stl+d))):=fun y=>by rw[BJ n ym y,yl]
   have zx:∀a:Bool,aZ (some (a,1)) (some (bW Ye 91 C P)) (n*2+1) (vi ((f.data.take (f.stl+d)).length:Int))=some (bW Ye 91 C (l0.set n (bu ⟨f.data.take (f.stl+d),(f.data.take (f.stl+d)).length⟩))):=fun a=>by rw[UL n ym _ a,yl,<-za,List.set_set];rfl
   have y0:(f.data.take (f.stl+d)).length<=1048576:=by rw[W3];omega
   have xb:(f.data.take (f.stl+d)).length=f.stl+d:=by rw[W3];omega
   refine kz [30,31] @eA ?_;refine Cw.WU [0,1,2,3,5,6,7,9,4,8,10,11,12,13,14] [14] rfl kR kR ?_;refine WQ ?_;refine kq (qS3 @eA @zD @zG @zH @yX) ?_;refine Ow.store rfl rfl rfl (ke (qS1 @eA @zf @yk)) ?_;refine ko @eA ?_;refine ky (qS4 @eA @yY @yZ @zI @zx @dq) ?_;have y1:Sx.look (Vh (Vh X4 L (bW Ye 91 C P)) L (bW Ye 91 C (l0.set n (bu ⟨f.data.take (f.stl+d),(f.data.take (f.stl+d)).length⟩)))) L=some (bW Ye 91 C (l0.set n (bu ⟨f.data.take (f.stl+d),(f.data.take (f.stl+d)).length⟩))):=cY zI;have y2:ct (A,pl.drop B) (qs,n)=(dJ A n ⟨f.data.take (f.stl+d),(f.data.take (f.stl+d)).length⟩,pl.drop yi):=by unfold ct;simp only;rw[hf,ze,yW]
   refine Vo.mk ⟨i+1,yi,dJ A n ⟨f.data.take (f.stl+d),(f.data.take (f.stl+d)).length⟩,O,Vh (Vh X4 L (bW Ye 91 C P)) L (bW Ye 91 C (l0.set n (bu ⟨f.data.take (f.stl+d),(f.data.take (f.stl+d)).length⟩)))⟩ (by show s.length - (i+1)<s.length - i;omega) ⟨zd,by rw[yf,y2],zr,?_,rfl,u.Vh.Vh,zz,(by show(A.files.set _ _).length=_;rw[X8];exact yc),?_⟩ rfl rfl
   .have zm:L≠O.bd:=fun e=>by
     rw[e,r.disk] at zf;have:=Wc Xo (XD zf);rw[dy] at this;exact jY this
    refine XT.qq9 (G:=O) r (v:=O.f) (fun b o hb zh ho=>?_) ?_ ?_
    .have yn:L≠b:=by rintro rfl;exact zh (by rw[yg];rfl)
     rw[bE yn,bE yn];exact ho
    .rw[bE zm,bE zm];exact r.disk
    show Gr _ _ _ _ _ _;rw[List.map_set,yj];exact yh _ y1
   intro j hj;have y3:j<A.files.length:=by have:(A.files.set n ⟨f.data.take (f.stl+d),(f.data.take (f.stl+d)).length⟩).length=A.files.length:=X8 ..;have h2:j< (A.files.set n ⟨f.data.take (f.stl+d),(f.data.take (f.stl+d)).length⟩).length:=hj;omega
   rw[iQ _ _ zC];by_cases e:j=n
   .rw[Vb e];exact⟨y0,aj _⟩
   rw[tr e];exact Z j y3
  obtain rfl:i=s.length:=by omega
  have d3:decide ((s.length:Int)< (s.length:Int))=false:=aW oM;rw[WH,<-zk] at zy;refine ky (qS3 @eA @Y @zl @zA @d3) ?_;exact Vo.mk ⟨k+1,B,A,O,X4⟩ (by show 3 - (k+1)<3 - k;omega) ⟨I,zy,V,r,rfl,u,zz,yc,Z⟩ rfl rfl
 obtain rfl:k=3:=by omega
 have J:decide (((3:Nat):Int)<3)=false:=rfl;refine ky (aN @eA @J) ?_;refine⟨_,(ke @eA),?_⟩;rw[<-z7];exact⟨u,G3,rfl,r⟩
end Go.Proofs
end
section
open Go Go.Proofs Go.Sx Go.StP Go.Flo
namespace Go.Proofs
def gl:=qS1 @bA @b9 @Mt
def tE(x a b:Int)(w:hW)(e:x.natAbs<8192)(f:a.natAbs<8192)(g:b.natAbs<8192):
  Va prog 226 #[fl x,vi a,vi b] w (fun v D=>v=.tuple #[vi (if a<=x/\x<=b then x else 0),.bool (decide (a<=x/\x<=b))]/\D=[]):=by
 refine Va.Vr func226 rfl (rs:=[.tmp 6,.tmp 7]) results226 ntmps226 ?_;refine kf ?_;refine ky @gl ?_;refine Ow.qe6 rfl rfl qp0 underlying3 underlying308 rfl ?_;refine Ow.qP3 rfl rfl rfl e f ?_;by_cases c:a<=x
 .rw[aP c];refine ko @gl ?_;refine Ow.qe6 rfl rfl qp0 underlying3 underlying308 rfl ?_;refine Ow.qP4 rfl rfl rfl e g ?_;by_cases d:x<=b
  .rw[aP d,aP (show a<=x/\x<=b from⟨c,d⟩),Vb ⟨c,d⟩];refine ko @gl ?_;refine ky @gl ?_;refine Ow.qA4 rfl rfl qO9 underlying308 underlying3 rfl e ?_;refine ko @gl ?_;refine ky @gl ?_;refine Ow.qe6 rfl rfl qp0 underlying3 underlying308 rfl ?_;refine ko @gl ?_;refine Ow.qA6 rfl rfl rfl e e ?_;rw[show(x==x)=true by simp];refine ko @gl ?_;refine ky @gl ?_;refine⟨_,(ke @gl),trivial,?_⟩
   rfl
  rw[aW d,aW (show¬ (a<=x/\x<=b) from fun h=>d h.2),tr (fun h=>d h.2)];refine ko @gl ?_;refine ky @gl ?_;refine⟨_,(ke @gl),trivial,?_⟩
  rfl
 rw[aW c,aW (show¬ (a<=x/\x<=b) from fun h=>c h.1),tr (fun h=>c h.1)];refine ko @gl ?_;refine ky @gl ?_;refine⟨_,(ke @gl),trivial,?_⟩
 rfl
def cpR(p:Yv)(b:Int):hU:=match cpV p b with
 |some a=>.tuple #[vi a.1,vi a.2,.bool true]
 |none=>if(1<=p.n/\p.n<=4099)/\p.x=[]/\(p.n:Int)<=b then .tuple #[vi 0,vi p.n,.bool false] else .tuple #[vi 0,vi 0,.bool false]
def Rr{p:Yv}{b:Int}(h:1<=p.n/\p.n<=4099/\p.x=[]/\(p.a:Int)<=b - p.n):cpV p b=some (p.a,p.n):=by unfold cpV;rw[Vb h]
def io{p:Yv}{b:Int}(h:¬ (1<=p.n/\p.n<=4099/\p.x=[]/\(p.a:Int)<=b - p.n)):cpV p b=none:=by unfold cpV;rw[tr h]
def cK:=aN (aN (aN (aN @bA @b9) (aN @nQ @nT)) (aN (aN @oB @CA) (aN @NN @cxz))) (aN (aN (aN @OM @Nb) (aN @Ub @Sx.Wk)) (aN (aN @Sx.Wl @Sx.Yk) (aN @Sx.Yl @Sx.Ym)))
def Bm(p:Yv)(b:Int)(w:hW)(l:PcB p)(n:0<=b)(o:b<=4099):
  Va prog 220 #[.agg (Zv p).toArray,vi b] w (fun v D=>v=cpR p b/\D=[]):=by
 obtain⟨q,i⟩:=l;refine Va.Vr func220 rfl (rs:=[.tmp 4,.tmp 5,.tmp 6]) results220 ntmps220 ?_;refine kf ?_;refine ky @cK ?_;refine Ow.box rfl rfl fun r s c=>?_;refine Yx ?_;refine Ow.go rfl ?_;simp(disch:=first|exact dD|fail) only[↓Sx.S0,Sx.S1,fx,cK,Nat.reduceAdd,Nat.reducePow,Int.reducePow,Nat.reduceBEq,↓reduceIte,UInt8.reduceToNat,UInt16.reduceToNat,UInt32.reduceToNat,UInt64.reduceToNat,Int.reduceToNat];refine ky @cK ?_;refine Ow.imag rfl rfl ?_;refine Ow.Vc rfl call226 (fun f m=>tE (p.n:Int) 1 4099 f oM oM oM) ?_;unfold cpR;by_cases d:1<=p.n
 .rw[aP (show(1:Int)<= (p.n:Int)/\(p.n:Int)<=4099 by omega),Vb (show(1:Int)<= (p.n:Int)/\(p.n:Int)<=4099 by omega)];by_cases a:p.x=[]
  .have e:decide (0< (p.x.length:Int))=false:=by rw[a];rfl
   by_cases j:(p.n:Int)<=b
   .have g:decide (b< (p.n:Int))=false:=aW oM;refine ko (qS1 @cK @e @g) ?_;refine ky @cK ?_;refine Ow.real rfl rfl ?_;refine ko @cK ?_;refine Ow.Vc rfl call226 (fun f m=>tE (p.a:Int) 0 (b - p.n) f oM oM oM) ?_;by_cases k:(p.a:Int)<=b - p.n
    .rw[aP (show(0:Int)<= (p.a:Int)/\(p.a:Int)<=b - p.n by omega),Vb (show(0:Int)<= (p.a:Int)/\(p.a:Int)<=b - p.n by omega),Rr ⟨d,i,a,k⟩];refine ko @cK ?_;refine ky @cK ?_;refine⟨_,(ke @cK),⟨c,trivial⟩,?_⟩
     rfl
    rw[aW (show¬ ((0:Int)<= (p.a:Int)/\(p.a:Int)<=b - p.n) by omega),tr (show¬ ((0:Int)<= (p.a:Int)/\(p.a:Int)<=b - p.n) by omega),io (fun h=>k h.2.2.2)];simp only;rw[Vb ⟨⟨d,i⟩,a,j⟩];refine ko @cK ?_;refine ky @cK ?_;refine⟨_,(ke @cK),⟨c,trivial⟩,?_⟩
    rfl
   have g:decide (b< (p.n:Int))=true:=aP oM;rw[io (fun h=>by have:=h.2.2.2;omega)];simp only;rw[tr (fun h=>j h.2.2)];refine ko (qS1 @cK @e @g) ?_;refine ky @cK ?_;refine⟨_,(ke @cK),⟨c,trivial⟩,?_⟩
   rfl
  have e:decide (0< (p.x.length:Int))=true:=aP (by have:=List.length_pos_iff.2 a;omega);rw[io (fun h=>a h.2.2.1)];simp only;rw[tr (fun h=>a h.2.1)];refine ko (aN @cK @e) ?_;refine ky @cK ?_;refine⟨_,(ke @cK),⟨c,trivial⟩,?_⟩
  rfl
 rw[aW (show¬ ((1:Int)<= (p.n:Int)/\(p.n:Int)<=4099) by omega),tr (show¬ ((1:Int)<= (p.n:Int)/\(p.n:Int)<=4099) by omega),io (fun h=>d h.1)];simp only;rw[tr (fun h=>d h.1.1)];refine ko @cK ?_;refine ky @cK ?_;refine⟨_,(ke @cK),⟨c,trivial⟩,?_⟩
 rfl
def Uf{p:Yv}{b:Int}(h:dp p b≠0):dp p b=(match cpV p b with|some a=>a.2|none=>p.x.length):=by
 unfold dp at h |-
 split
 .rename_i c;rw[io (fun d=>by omega)]
 rename_i c;rw[tr c] at h;cases d:cpV p b with
 |none=>rw[d] at h;exact Vx rfl h
 |some a=>rfl
def Q6{p:Yv}{b:Int}{q:Nat×Nat}(h:cpV p b=some q):q=(p.a,p.n)/\1<=p.n:=by
 unfold cpV at h
 split at h
 .rename_i a;cases h;exact⟨rfl,a.1⟩
 cases h
def Hd(p:Yv)(b:Int)(w:hW)(i:PcB p)(n:0<=b)(o:b<=4099):
  Va prog 225 #[.agg (Zv p).toArray,vi b] w (fun v D=>v=.bool (decide (dp p b≠0))/\D=[]):=by
 have t:=i;obtain⟨C,E⟩:=t;have q:¬ (p.a=0/\p.n=0)->(cpV p b).isSome=decide (dp p b≠0):=by
  intro u;unfold dp;rw[tr (fun h=>u ⟨h.1,h.2.1⟩)];cases j:cpV p b with
  |none=>rfl
  |some z=>
   obtain⟨rfl,c⟩:=Q6 j;rw[aP (show p.n≠0 by omega)]
   rfl
 refine Va.Vr func225 rfl (rs:=[.tmp 4]) results225 ntmps225 ?_;refine kf ?_;refine kz [3] @cK ?_;refine Ow.box rfl rfl fun F G d=>?_;refine Yx ?_;refine Ow.go rfl ?_;simp(disch:=first|exact dD|fail) only[↓Sx.S0,Sx.S1,fx,cK,Nat.reduceAdd,Nat.reducePow,Int.reducePow,Nat.reduceBEq,↓reduceIte,UInt8.reduceToNat,UInt16.reduceToNat,UInt32.reduceToNat,UInt64.reduceToNat,Int.reduceToNat];refine ky @cK ?_;refine Ow.real rfl rfl ?_;refine Ow.qA6 (b:=0) rfl rfl rfl oM oM ?_;have A:∀v,v=cpR p b-> ∃x y,v=.tuple #[x,y,.bool (cpV p b).isSome]:=by
  rintro v rfl;unfold cpR;cases cpV p b with
  |some z=>exact⟨_,_,rfl⟩
  |none=>
   simp only
   split
   .exact⟨_,_,rfl⟩
   exact⟨_,_,rfl⟩
 obtain⟨x,y,r⟩:=A _ rfl;by_cases g:p.a=0
 .have k:(((p.a:Nat):Int)==0)=true:=by rw[g];rfl
  rw[k];refine ko @cK ?_;refine Ow.imag rfl rfl ?_;refine Ow.qA6 (b:=0) rfl rfl rfl oM oM ?_;by_cases c:p.n=0
  .have l:(((p.n:Nat):Int)==0)=true:=by rw[c];rfl
   rw[l];have j:cpV p b=none:=io (fun h=>by omega);by_cases H:1<=p.x.length
   .have a:decide ((1:Int)<= (p.x.length:Int))=true:=aP oM;by_cases s:p.x.length<=4099
    .have e:decide ((p.x.length:Int)<=4099)=true:=aP oM;have f:decide (dp p b≠0)=true:=aP (by unfold dp;rw[Vb ⟨g,c,s⟩];omega);rw[f];refine ko (qS1 @cK @a @e) ?_;refine ky (qS1 @cK @a @e) ?_;refine⟨_,(ke @cK),⟨d,trivial⟩,?_⟩
     rfl
    have e:decide ((p.x.length:Int)<=4099)=false:=aW oM;have f:decide (dp p b≠0)=false:=aW (by unfold dp;rw[tr (fun h=>s h.2.2),j];simp);rw[f];refine ko (qS1 @cK @a @e) ?_;refine ky (qS1 @cK @a @e) ?_;refine⟨_,(ke @cK),⟨d,trivial⟩,?_⟩
    rfl
   have a:decide ((1:Int)<= (p.x.length:Int))=false:=aW oM;have f:decide (dp p b≠0)=false:=aW (by unfold dp;rw[Vb ⟨g,c,by omega⟩];omega);rw[f];refine ko (aN @cK @a) ?_;refine ky (aN @cK @a) ?_;refine⟨_,(ke @cK),⟨d,trivial⟩,?_⟩
   rfl
  have l:(((p.n:Nat):Int)==0)=false:=WN.2 oM;rw[l,<-q (fun h=>c h.2)];refine ko @cK ?_;refine ky @cK ?_;refine Ow.Vc rfl call220 (fun m B=>Bm p b m i n o) ?_;rw[r];refine ko @cK ?_;refine ky @cK ?_;refine⟨_,(ke @cK),⟨d,trivial⟩,?_⟩
  rfl
 have k:(((p.a:Nat):Int)==0)=false:=WN.2 oM;rw[k,<-q (fun h=>g h.1)];refine ko @cK ?_;refine ky @cK ?_;refine Ow.Vc rfl call220 (fun m B=>Bm p b m i n o) ?_;rw[r];refine ko @cK ?_;refine ky @cK ?_;refine⟨_,(ke @cK),⟨d,trivial⟩,?_⟩
 rfl
def vF{p:Yv}{b:Int}{q:Nat×Nat}(h:cpV p b=some q):cpR p b=.tuple #[vi q.1,vi q.2,.bool true]:=by unfold cpR;rw[h]
def vQ{p:Yv}{b:Int}(h:cpV p b=none):∃y:Int,cpR p b=.tuple #[vi 0,vi y,.bool false]:=by
 unfold cpR;rw[h];simp only
 split
 .exact⟨_,rfl⟩
 exact⟨_,rfl⟩
def cA:=aN (aN (aN @bA @b9) (qS1 @nQ @nT @oB)) (aN (qS1 @CA @Sx.Wk @Sx.Wl) (qS1 @Sx.Yk @Sx.Yl @Sx.Ym))
def Un(b:Int)(v:hU)(l:List Yv)(w:hW)(J:qF6 w v l)(K:ql2 l)(Y:l.length<1000000000):
  Va prog 219 #[vi b,v] w (fun v D=>v=.tuple #[vi (ZC b l).1,vi (ZC b l).2]/\D=[]):=by
 obtain⟨Z,off,arr,E,fz,c⟩:=J.row;have q:=J.len;refine Va.Vr func219 rfl (rs:=[.tmp 4,.tmp 5]) results219 ntmps219 ?_;refine kf ?_;unfold ZC;by_cases x:b<0
 .have r:decide (b<0)=true:=aP x;rw[Vb (.inl x)];refine ky (aN @cA @r) ?_;refine⟨_,(ke @cA),trivial,?_⟩
  rfl
 have r:decide (b<0)=false:=aW x;by_cases z:4099<b
 .have A:decide (4099<b)=true:=aP z;rw[Vb (.inr z)];refine ky (qS1 @cA @r @A) ?_;refine⟨_,(ke @cA),trivial,?_⟩
  rfl
 have A:decide (4099<b)=false:=aW z;rw[tr oM];refine ky (qS1 @cA @r @A) ?_;refine Cw.VU (G:=Nat) [18,19,20,21,24,25,26,27,28,29,30,4,5,22,23,6] (fun g=>[(6,vi g)]) (fun g=>[]) (fun g=>g<=l.length/\Z1 b (l.take g)=false) (fun g=>l.length - g) 0 rfl rfl ?_ ?_
 .exact⟨aR _,rfl⟩
 intro k jk L;refine kv ?_;obtain⟨L,e⟩:=L;by_cases a:k<l.length
 .have B:decide ((k:Int)< (l.length:Int))=true:=aP oM;have s:=c.has oM;have t:=c.idx true k a;have C:=c.load mf oM a;obtain⟨F,P⟩:=K k a;have Q:=Kn (b:=b) a;have R:=nU (b:=b) a;generalize l.getD k ZX=p at*;refine ky (qS4 @cA @q @B @t @s @C) ?_;refine Ow.Vc rfl call225 (fun H S=>Hd p b H F oM oM) ?_;by_cases f:dp p b=0
  .rw[aW (show¬ (dp p b≠0) by omega),Vb (R f)];refine ko @cA ?_;refine ky @cA ?_;refine⟨_,(ke @cA),trivial,?_⟩
   rfl
  rw[aP (show dp p b≠0 from f)];refine ko @cA ?_;refine ky @cA ?_;refine Vo.mk (k+1) oM ⟨a,?_⟩ rfl rfl;rw[Q,e,XW];exact WN.2 f
 obtain rfl:k=l.length:=by omega
 have B:decide ((l.length:Int)< (l.length:Int))=false:=aW oM;rw[WH] at e;rw[tr (by rw[e];decide)];refine ky (qS1 @cA @q @B) ?_;refine Cw.VU (G:=Nat) [31,32,33,34,38,39,40,41,42,43,37,44,45,46,9,10,11,47,48,49,50,51,52,53,54,55,56,57,7,58,59,4,5,35,36,8] (fun g=>[(7,vi (c_ b (l.take g):Nat)),(8,vi g)]) (fun g=>[]) (fun g=>g<=l.length/\c_ b (l.take g)<=4099) (fun g=>l.length - g) 0 rfl rfl ?_ ?_
 .exact⟨aR _,by simp[c_]⟩
 intro m jm M;refine kv ?_;obtain⟨M,T⟩:=M;by_cases a:m<l.length
 .have I:decide ((m:Int)< (l.length:Int))=true:=aP oM;have s:=c.has oM;have t:=c.idx true m a;have C:=c.load mf oM a;have U:aF (some (false,1)) (some (.cells arr E fz)) (off+m*2+1)=some (vs (l.getD m ZX).x):=c.cell (j:=1) (n:=1) a oM;obtain⟨F,P⟩:=K m a;have V:=LB (b:=b) a;have za:=T' (b:=b) (l:=l) (g:=m+1);have f:dp (l.getD m ZX) b≠0:=fun h=>by rw[nU a h] at e;cases e
  have i:=Uf f;have zb:=uN (l.getD m ZX) b;generalize l.getD m ZX=p at*;refine kz [15] (qS4 @cA @q @I @t @s @C) ?_;refine Ow.Vc rfl call220 (fun H S=>Bm p b H F oM oM) ?_;have O:∀N:Nat,c_ b (l.take (m+1))=c_ b (l.take m)+N->((c_ b (l.take m):Nat):Int)+ (N:Int)=((c_ b (l.take (m+1)):Nat):Int):=fun N h=>by omega
  cases u:cpV p b with
  |some zc=>
   rw[u] at i;simp only at i;rw[vF u,<-i];generalize dp p b=N at*;have o:=O N V;refine ko @cA ?_;by_cases W:4099<c_ b (l.take (m+1))
   .have d:decide ((4099:Int)< ((c_ b (l.take (m+1)):Nat):Int))=true:=aP oM;rw[Vb (show 4099<c_ b l by omega)];refine ky (qS1 @cA @o @d) ?_;refine⟨_,(ke @cA),trivial,?_⟩
    rfl
   have d:decide ((4099:Int)< ((c_ b (l.take (m+1)):Nat):Int))=false:=aW oM;refine ky (qS1 @cA @o @d) ?_;exact Vo.mk (m+1) oM ⟨a,by omega⟩ rfl rfl
  |none=>
   rw[u] at i;simp only at i;obtain⟨y,X⟩:=vQ u;rw[X];have o:=O p.x.length oM;refine ko (qS2 @cA @t @s @U) ?_;by_cases W:4099<c_ b (l.take (m+1))
   .have d:decide ((4099:Int)< ((c_ b (l.take (m+1)):Nat):Int))=true:=aP oM;rw[Vb (show 4099<c_ b l by omega)];refine ky (qS1 @cA @o @d) ?_;refine⟨_,(ke @cA),trivial,?_⟩
    rfl
   have d:decide ((4099:Int)< ((c_ b (l.take (m+1)):Nat):Int))=false:=aW oM;refine ky (qS1 @cA @o @d) ?_;exact Vo.mk (m+1) oM ⟨a,by omega⟩ rfl rfl
 obtain rfl:m=l.length:=by omega
 have I:decide ((l.length:Int)< (l.length:Int))=false:=aW oM;rw[WH] at T;rw[tr oM,WH];refine ky (qS1 @cA @q @I) ?_;refine⟨_,(ke @cA),trivial,?_⟩
 rfl
def T0{p:Yv}{b:Int}{q:Nat×Nat}(h:cpV p b=some q):q=(p.a,p.n)/\1<=p.n/\p.n<=4099/\p.x=[]/\(p.a:Int)<=b - p.n:=by
 unfold cpV at h
 split at h
 .rename_i a;cases h;exact⟨rfl,a⟩
 cases h
def HX(base:No)(v:hU)(l:List Yv)(w:hW)(i:qF6 w v l)(x:ql2 l)(I:l.length<1000000000):
  Va prog 205 #[vs base,v] w (fun J D=>J=.tuple #[vs (if(ZC base.length l).2=0 then qf2 base l else []),vi (ZC base.length l).2]/\D=[]):=by
 obtain⟨S,off,arr,E,fz,e⟩:=i.row;have z:=i.len;refine Va.Vr func205 rfl (rs:=[.tmp 4,.tmp 5]) results205 ntmps205 ?_;refine kf ?_;refine ky @cA ?_;refine Ow.Vc rfl call219 (fun o A=>Un (base.length:Int) v l o (i.WO A trivial) x I) ?_;by_cases f:(ZC base.length l).2=0
 .obtain⟨m,B⟩:∃m,ZC base.length l=(m,0):=⟨(ZC base.length l).1,by rw[<-f]⟩;obtain⟨-,T,q,U,-,V⟩:=oG B;rw[Vb f,B];have r:((0:Int) !=0)=false:=rfl;refine ko @cA ?_;refine ky (aN @cA @r) ?_;refine Cw.VU (G:=Nat) [23,24,25,26,30,31,32,33,34,35,36,29,37,38,39,10,11,12,40,41,42,43,44,45,46,47,48,8,49,50,51,52,53,54,55,27,28,9] (fun g=>[(8,vs (qf2 base (l.take g))),(9,vi g)]) (fun g=>[]) (fun g=>g<=l.length) (fun g=>l.length - g) 0 rfl rfl ?_ ?_
  .exact aR _
  intro k W X;refine kv ?_;by_cases d:k<l.length
  .have s:decide ((k:Int)< (l.length:Int))=true:=aP oM;have C:=e.has oM;have F:=e.idx true k d;have K:=e.load mf oM d;have L:aF (some (false,1)) (some (.cells arr E fz)) (off+k*2+1)=some (vs (l.getD k ZX).x):=e.cell (j:=1) (n:=1) d oM;obtain⟨M,Y⟩:=x k d;have H:=K7 (base:=base) d;have a:pcT base (l.getD k ZX)=(match cpV (l.getD k ZX) base.length with|some t=>(base.drop t.1).take t.2++(l.getD k ZX).x|none=>(l.getD k ZX).x):=rfl;have Z:(qf2 base (l.take k)).length<=4099:=by
    rw[ng (base:=base) (Qo (g:=k) q)];have:=T' (b:=(base.length:Int)) (l:=l) (g:=k);omega
   have N:cpV (l.getD k ZX) base.length=none->(l.getD k ZX).x.length<=4099:=fun c=>by
    have O:dp (l.getD k ZX) base.length≠0:=fun h=>by rw[nU d h] at q;cases q
    have u:=Uf O;have P:=uN (l.getD k ZX) base.length;rw[c] at u;simp only at u;omega
   generalize l.getD k ZX=p at*;refine ky (qS4 @cA @z @s @F @C @K) ?_;refine Ow.Vc rfl call220 (fun o A=>Bm p (base.length:Int) o M oM oM) ?_;cases c:cpV p base.length with
   |some t=>
    rw[c] at a;simp only at a;obtain⟨rfl,u,P,Q,h4⟩:=T0 c;rw[vF c];rw[Q,VX] at a;simp only at a |-;refine ko @cA ?_;refine ky @cA ?_;refine Vo.mk (k+1) oM oM rfl ?_;rw[H,a,<-show(base.take (p.a+p.n)).drop p.a=(base.drop p.a).take p.n by rw[List.drop_take,Nat.add_sub_cancel_left]]
    rfl
   |none=>
    rw[c] at a;simp only at a;obtain⟨y,R⟩:=vQ c;have za:=N c;rw[R];refine ko @cA ?_;refine ky (qS2 @cA @F @C @L) ?_;refine Vo.mk (k+1) oM oM rfl ?_;rw[H,a]
    rfl
  obtain rfl:k=l.length:=by omega
  have s:decide ((l.length:Int)< (l.length:Int))=false:=aW oM;rw[WH];refine ky (qS1 @cA @z @s) ?_;refine⟨_,(ke @cA),trivial,?_⟩
  rfl
 rw[tr f];have r:((ZC base.length l).2 !=0)=true:=Yb.2 f;refine ko @cA ?_;refine ky (aN @cA @r) ?_;refine⟨_,(ke @cA),trivial,?_⟩
 rfl
def rrO(s:No)(a:Nat)(e:Int):Obj:= Vz (vs s) (vi a) (vi e)
def vj(s:No)(a:Nat)(e:Int)(n:Nat):aF (some (false,n)) (some (rrO s a e)) 0=some (vs s):=(rfl)
def wC(s:No)(a:Nat)(e:Int)(n:Nat):aF (some (false,n)) (some (rrO s a e)) 1=some (vi a):=(rfl)
def ud(s:No)(a:Nat)(e:Int)(n:Nat):aF (some (false,n)) (some (rrO s a e)) 2=some (vi e):=(rfl)
def Fi(b:Nat)(s:No)(a:Nat)(e n:Int)(w:hW)(c:a<=s.length)(d:s.length<1099511627776)(f:w.heap[b]? =some (rrO s a e)):
  Va prog 134 #[vp b 0,vi n] w (fun v D=> ∃o,D=[(b,o)]/\v=vs (aw s a e n).1/\o=rrO s (aw s a e n).2.1 (aw s a e n).2.2):=Cz b s a e n w c d f
def qD(b:Nat)(s:No)(a:Nat)(e most:Int)(w:hW)(c:a<=s.length)(d:s.length<1099511627776)(f:w.heap[b]? =some (rrO s a e)):
  Va prog 95 #[vp b 0,vi most] w (fun v D=> ∃o,D=[(b,o)]/\v=vi (aE s a e most).1/\o=rrO s (aE s a e most).2.1 (aE s a e most).2.2):=BS b s a e most w c d f
def U0(b:Nat)(s:No)(a:Nat)(e:Int)(w:hW)(c:w.heap[b]? =some (rrO s a e)):
  Va prog 98 #[vp b 0] w (fun v D=>v=vi (dE s a e)/\D=[]):=BH b s a e w c
def qM1:ac prog 179=some (.agg #[vs [],vi 0,vi 0]):=id kR
def O5(s:No):cL (bP prog 179) (ac prog 179) [(0,vs s)]=some (.agg #[vs s,vi 0,vi 0]):=by rw[show bP prog 179=some [(0,1),(1,1),(2,1)] from id kR,qM1];rfl
def Ly:cL (bP prog 307) (ac prog 307) []=some (.agg (Zv ZX).toArray):=by rw[show bP prog 307=some [(0,1),(1,1)] from id kR,qz2];rfl
def Kt(x n:Nat)(E:h7)(a:Bool):aZ (some (a,1)) (some (.cells (Zv ZX).toArray E (0,0))) 0 (cx x n)=some (.cells (Zv ⟨x,n,[]⟩).toArray E (0,0)):=(rfl)
def Lb(x:No)(E:h7)(a:Bool):aZ (some (a,1)) (some (.cells (Zv ZX).toArray E (0,0))) 1 (vs x)=some (.cells (Zv ⟨0,0,x⟩).toArray E (0,0)):=(rfl)
structure RrG where
 a:Nat
 e:Int
 out:List Yv
 v:hU
 D:aA
 DG:aA
def RrJ(d:No)(a:Nat)(b:Int)(c:Nat)(g:RrG):Prop:=
 Vq c g.D/\Vq c g.DG/\Gr g.D 307 2 g.v g.out.length (g.out.map Zv).flatten/\g.a<=d.length/\ql2 g.out/\g.out.length<=g.a+1/\(g.e=0->g.out.length<=g.a)/\
  ((b≠0/\g.e≠0)\/(b=0/\((g.e=0/\pcs d a=(g.out++(pcs d g.a).1,(pcs d g.a).2))\/(g.e≠0/\pcs d a=(g.out,g.a,g.e)))))
def lW(d:No)(v:hU)(D:aA):Prop:=match iu d with
 |some p=> ∃x,v=.tuple #[vi p.1,x,.bool true]/\ql2 p.2/\p.2.length<=4099/\p.1<=4099/\Yq D 307 2 x p.2.length (p.2.map Zv).flatten
 |none=>v=.tuple #[vi 0, Vj,.bool false]
def NH{out:List Yv}{p:Yv}(h:ql2 out)(c:PcB p/\p.x.length<9223372036854775808):ql2 (out++[p]):=by
 intro g a;by_cases b:g<out.length
 .rw[re b];exact h g b
 rw[VV] at a;rw[rp oM,show g - out.length=0 by simp at a;omega];exact c
def cr:=aN (aN (qS1 @bA @b9 @vj) (aN (aN @wC @ud) (aN @nQ @nT))) (aN (aN (aN @oB @CA) (aN @Sx.Wk @Sx.Wl)) (aN (aN @Sx.Yk @Sx.Yl) (aN @Sx.Ym @Ub)))
def Hh(d:No)(w:hW)(hd:d.length<100000000):Va prog 204 #[vs d] w (XS w [] (lW d)):=by
 refine Va.Vs func204 rfl (rs:=[.tmp 2,.tmp 3,.tmp 4]) results204 ntmps204 (fun p hp=>by cases hp) Wg ?_;refine kf ?_;refine ky @cr ?_;refine Ow.build (.agg #[vs d,vi 0,vi 0]) rfl (O5 d) ?_;refine ko @cr ?_;refine Ow.box rfl rfl fun br zB zi=>?_;simp only[dS,cz,dL,ag,Vy];refine Ow.Vd (M:=[(br,rrO d 0 0)]) (WW _) ?_;refine ko @cr ?_;refine ky @cr ?_;have l1:=fO (s:=d) (a:=0) (e:=0) (most:=4099) (aR _);have m1:=j' (s:=d) (a:=0) (e:=0) (most:=4099) oM;refine Ow.WA rfl rfl call95 Wg (fun l i=>qD br d 0 0 4099 l (aR _) oM (i.has _ _ aX)) ?_;refine kn ?_;refine ko @cr ?_;refine ky @cr ?_;have U:=fO (s:=d) (a:=(aE d 0 0 4099).2.1) (e:=(aE d 0 0 4099).2.2) (most:=4099) l1.2;refine Ow.WA rfl rfl call95 Wg (fun l i=>qD br d (aE d 0 0 4099).2.1 (aE d 0 0 4099).2.2 4099 l l1.2 oM (i.has _ _ aX)) ?_;have t:=tw d;rw[show aE d 0 0 4099=dB d from rfl] at U m1 |-;rw[show aE d (dB d).2.1 (dB d).2.2 4099=dM d from rfl] at U |-;refine kn ?_;refine ko @cr ?_;refine ky @cr ?_;refine Cw.Vd (M:=(br,rrO d (dM d).2.1 (dM d).2.2)::([]++[])) (WW _) ?_;refine Cw.VU (G:=RrG) [20,21,22,23,24,25,26,27,28,29,30,31,32,33,34,35,9,36,10,37,38,39,40,41,42,43,44,45,46,47,48,49,50,51,52,53,54,55,56,8] (fun g=>[(8,g.v)]) (fun g=>(br,rrO d g.a g.e)::(g.D++g.DG)) (fun g=>RrJ d (dM d).2.1 (dM d).2.2 w.heap.size g) (fun g=>(if g.e=0 then d.length - g.a+1 else 0)) ⟨(dM d).2.1,(dM d).2.2,[], Vj,[],[]⟩ rfl rfl ?_ ?_
 .refine⟨trivial,trivial,Gr.nl,U.2,fun g C=>by simp at C,by simp,fun _=>aR _,?_⟩;by_cases c:(dM d).2.2=0
  .exact .inr ⟨c,.inl ⟨c,rfl⟩⟩
  exact .inl ⟨c,c⟩
 intro g j C;refine kv ?_;obtain⟨a,e,out,v,D,DG⟩:=g;obtain⟨V,W,K,F,L,zj,Y,O⟩:=C;simp only at V W K F L zj Y O |-;by_cases Z:e=0/\a<d.length
 .obtain⟨rfl,zf⟩:=Z;have H:((0:Int)==0)=true:=rfl;have d1:decide ((a:Int)< (d.length:Int))=true:=aP oM;have za:=fO (s:=d) (a:=a) (e:=0) (most:=8199) F;have zk:=j' (s:=d) (a:=a) (e:=0) (most:=8199) oM;have q:pcR d a=pcR d a:=rfl
  conv at q=>rhs;unfold pcR
  refine kz [1000008] (qS1 @cr @H @d1) ?_;refine Ow.WA rfl rfl call95 Wg (fun l i=>qD br d a 0 8199 l F oM (i.has _ _ aX)) ?_;generalize aE d a 0 8199=I at*;obtain⟨q1,u,y⟩:=I;simp only at za zk q |-;obtain⟨Q,rfl⟩:∃Q:Nat,q1=(Q:Int):=⟨q1.toNat,by omega⟩;have hQ:Q<=8199:=by omega
  refine kn ?_;refine ko @cr ?_;refine ky @cr ?_;refine Ow.build (.agg (Zv ZX).toArray) rfl Ly ?_;refine ko @cr ?_;refine Ow.alloc rfl rfl qz2 fun z zl zm=>?_;simp only[ag,Vy,Wp];have zC:br<z:=aQ zl Wg;have zn:=OF ZX ZX 307;refine Ow.Vd (M:=(z,.cells (Zv ZX).toArray 307 (0,0))::(br,rrO d u y)::(D++DG)) Xm ?_;refine ko (aN @cr @zn) ?_;refine Cw.ZO (G:=(Yv×Nat×Int)) [37,38,39,40,41,42,43,44,45,46,47,48,49,50,51,52] (fun g=>[]) (fun g=>(z,.cells (Zv g.1).toArray 307 (0,0))::(br,rrO d g.2.1 g.2.2)::(D++DG)) (fun g=>pcR d a=g/\(PcB g.1/\g.1.x.length<9223372036854775808)) ?_ ?_
  .by_cases P:(Q:Int)%2=1
   .have d2:(((Q:Nat):Int)%2==1)=true:=by rw[W8];exact P
    rw[Vb P] at q;have zo:=j' (s:=d) (a:=u) (e:=y) (most:=4099) oM;refine ky (aN @cr @d2) ?_;refine Ow.WA rfl rfl call95 Wg (fun l i=>qD br d u y 4099 l za.2 oM (i.has _ _ (ah _ aX))) ?_;generalize aE d u y 4099=x at*;obtain⟨A,n,r⟩:=x;simp only at zo q |-;obtain⟨X,rfl⟩:∃X:Nat,A=(X:Int):=⟨A.toNat,by omega⟩;rw[WX,show((Q:Int) / 2).toNat=Q / 2 by omega] at q;refine kn ?_;refine Ow.qe6 rfl rfl qp0 underlying3 underlying308 rfl ?_;refine ko @cr ?_;rw[show(Q:Int) / 2=((Q / 2:Nat):Int) by omega];refine Ow.qe6 rfl rfl qp0 underlying3 underlying308 rfl ?_;refine Ow.qo7 (a:=(X:Nat)) (b:=(Q / 2:Nat)) rfl rfl rfl ?_;have zb:=fun a=>Kt X (Q / 2) 307 a;refine ko (aN @cr @zb) ?_;refine WY.mk (⟨X,Q / 2,[]⟩,n,r) ⟨q,⟨by show X<=4099;omega,by show Q / 2<=4099;omega⟩,by show 0<9223372036854775808;omega⟩ rfl rfl
   have d2:(((Q:Nat):Int)%2==1)=false:=by rw[WN];exact P
   rw[tr P] at q;refine ky (aN @cr @d2) ?_;refine Ow.WA rfl rfl call134 Wg (fun l i=>Fi br d u y ((Q:Int) / 2) l za.2 oM (i.has _ _ (ah _ aX))) ?_;have zq:(aw d u y ((Q:Int) / 2)).1.length<=d.length:=by
    unfold aw
    split
    .simp
    split
    .simp
    split
    .simp
    simp only[W3,XC];omega
   generalize aw d u y ((Q:Int) / 2)=x at*;obtain⟨A,n,r⟩:=x;simp only at zq q |-;refine kn ?_;have zb:=fun a=>Lb A 307 a;refine ko (aN @cr @zb) ?_;refine WY.mk (⟨0,0,A⟩,n,r) ⟨q,⟨aR _,aR _⟩,by show A.length<9223372036854775808;omega⟩ rfl rfl
  intro g j C;refine kv ?_;obtain⟨p,n,r⟩:=g;obtain⟨zr,zg⟩:=C;simp only at zg |-;have zc:=oY F;have R:=oS F;have zd:=Sw zf;have ze:=Pt zf;rw[zr] at zc R zd ze;simp only at zc R zd ze;refine ky @cr ?_;refine Ow.buildSlice (e:=307) (Zv p).toArray rfl rfl (Pv p) fun S zD zt=>?_;refine ko @cr ?_;refine Ow.Vd (M:=D++((z,.cells (Zv p).toArray 307 (0,0))::(br,rrO d n r)::(DG++[(S,.cells (Zv p).toArray 307 (0,0))]))) Xm ?_;refine Ow.W2 (e:=307) (k:=1) (new:=Zv p) (X:=D) v rfl rfl rfl rfl underlying292 (id kR:aU prog 307=some (true,2)) kR qz2 (by rw[CA];rfl) underlying292 (by intro k h;cases h) K (fun l i=>W0.X6 (i.has S (.cells (Zv p).toArray 307 (0,0)) V_) (mf p) (A4 p)) oM (fun B3 v3 D3 zE zF zu zG zv zH=>?_);have zw:Vq w.heap.size D3:=Vq.of_le fun I hq=>by
   rcases zv I hq with h|h
   .exact V.le I h
   omega
  refine Ow.Vd (M:=(br,rrO d n r)::(D3++((z,.cells (Zv p).toArray 307 (0,0))::(DG++[(S,.cells (Zv p).toArray 307 (0,0))])))) Xm ?_;refine ko @cr ?_;refine Vo.mk ⟨n,r,out++[p],v3,D3,(z,.cells (Zv p).toArray 307 (0,0))::(DG++[(S,.cells (Zv p).toArray 307 (0,0))])⟩ ?_ ⟨zw,⟨zm,W.app ⟨zt,trivial⟩⟩,by simpa using zu,zc.2,NH L zg,?_,?_,?_⟩ rfl rfl
  .show(if r=0 then d.length - n+1 else 0)< (if(0:Int)=0 then d.length - a+1 else 0);rw[Vb rfl]
   split
   .rename_i c;have:=R c;omega
   omega
  .show(out++[p]).length<=n+1;have:=Y rfl;rw[VV];simp;omega
  .intro c;show(out++[p]).length<=n;have:=Y rfl;have:=R c;rw[VV];simp;omega
  rcases O with⟨m,f⟩ | ⟨m,f|f⟩
  .exact Vx rfl f
  .refine .inr ⟨m,?_⟩;by_cases c:r=0
   .refine .inl ⟨c,?_⟩;rw[f.2,zd c];simp
   refine .inr ⟨c,?_⟩;rw[f.2,ze c]
  exact Vx rfl f.1
 have zI:(e==0&&decide ((a:Int)< (d.length:Int)))=false:=by
  rw[Bool.and_eq_false_iff];by_cases c:e=0
  .right;exact aW (fun h=>Z ⟨c,by omega⟩)
  left;exact WN.2 c
 have T:Vq w.heap.size ((br,rrO d a e)::(D++DG)):=⟨zi,V.app W⟩;by_cases c:e=0
 .subst c;have zx:¬a<d.length:=fun h=>Z ⟨rfl,h⟩;have H:((0:Int)==0)=true:=rfl;have d1:decide ((a:Int)< (d.length:Int))=false:=aW oM;have hE:dE d a 0=0:=by unfold dE;rw[tr V_,tr oM]
  have n0:((0:Int) !=0)=false:=rfl;obtain⟨m,f⟩:(dM d).2.2=0/\pcs d (dM d).2.1=(out,a,0):=by
   rcases O with⟨m,f⟩ | ⟨m,f|f⟩
   .exact Vx rfl f
   .rw[S9 zx] at f;exact⟨m,by rw[f.2,VX]⟩
   exact Vx rfl f.1
  rw[f] at t;rw[tr (by rw[m];simp),tr V_] at t;simp only at t;refine ky (qS1 @cr @H @d1) ?_;refine Ow.Vc rfl call98 (fun l i=>U0 br d a 0 l (i.has _ _ aX)) ?_;rw[hE];refine ko (aN @cr @n0) ?_;refine ky (aN @cr @n0) ?_;refine Ow.Vc rfl call219 (fun l i=>Un (dB d).1 v out l (K.slM (fun b o hm=>i.has b o (by simp[hm])) rfl rfl mf) L oM) ?_;unfold lW;by_cases B:ZC (dB d).1 out=((dM d).1,0)
  .rw[Vb B] at t;rw[t,B];obtain⟨-,-,-,-,-,zy⟩:=oG B;have J:((dM d).1 !=(dM d).1)=false:=qi4 _;refine ko @cr ?_;refine ky (qS1 @cr @n0 @J) ?_;refine⟨_,(ke @cr),?_⟩;refine⟨Ext.Vt T,v,?_,L,zy,by show(dB d).1.toNat<=4099;omega,Gr.i K fun I hq=>by simp[hq]⟩;show Value.tuple #[vi (dB d).1,v,.bool true]=.tuple #[vi ((dB d).1.toNat:Nat),v,.bool true];rw[show(((dB d).1.toNat:Nat):Int)=(dB d).1 by omega]
  rw[tr B] at t;rw[t];obtain⟨N,E,zz⟩:∃N E,ZC (dB d).1 out=(N,E):=⟨_,_,rfl⟩;rw[zz] at B |-;by_cases zh:E=0
  .subst zh;have J:(N !=(dM d).1)=true:=Yb.2 (fun h=>B (by rw[h]));refine ko @cr ?_;refine ky (qS1 @cr @n0 @J) ?_;refine⟨_,(ke @cr),?_⟩;exact⟨Ext.Vt T,rfl⟩
  have J:(E !=0)=true:=Yb.2 zh;refine ko @cr ?_;refine ky (aN @cr @J) ?_;refine⟨_,(ke @cr),?_⟩;exact⟨Ext.Vt T,rfl⟩
 have H:(e==0)=false:=WN.2 c;have hE:dE d a e=e:=by unfold dE;rw[Vb c]
 have n0:(e !=0)=true:=Yb.2 c;have zA:iu d=none:=by
  rw[t];rcases O with⟨m,f⟩ | ⟨m,f|f⟩
  .rw[Vb m]
  .exact Vx f.1 c
  rw[f.2,tr (by rw[m];simp),Vb c]
 refine ky (aN @cr @H) ?_;refine Ow.Vc rfl call98 (fun l i=>U0 br d a e l (i.has _ _ aX)) ?_;rw[hE];refine ko (aN @cr @n0) ?_;refine ky (aN @cr @n0) ?_;refine⟨_,(ke @cr),?_⟩;refine⟨Ext.Vt T,?_⟩;unfold lW;rw[zA]
 rfl
def I9(base d:No)(w:hW)(k:d.length<100000000):
  Va prog 169 #[vs base,vs d] w (fun v D=>v=.tuple #[vs (ga base d).1,vi (ga base d).2]/\D=[]):=by
 refine Va.Vr func169 rfl (rs:=[.tmp 4,.tmp 5]) results169 ntmps169 ?_;refine kf ?_;refine ky @cA ?_;refine Ow.Wf rfl rfl call204 (fun f i=>Hh d f k) (fun t v1 D1 u l n b=>?_);have g:=n.mono l;unfold lW at b;cases a:iu d with
 |none=>
  rw[a] at b;have o:v1=.tuple #[vi 0, Vj,.bool false]:=b;subst o;have c:ga base d=([],2):=by unfold ga;rw[a]
  refine ko @cA ?_;refine ky @cA ?_;refine⟨_,(ke @cA),g,?_⟩;rw[c];rfl
 |some p=>
  rw[a] at b;obtain⟨x,rfl,q,y,z,r⟩:=b;by_cases e:p.1=base.length
  .have h:(((p.1:Nat):Int) !=((base.length:Nat):Int))=false:=by rw[e];exact qi4 _
   obtain⟨m,j⟩:=rh a;rw[e] at j;have c:ga base d=(qf2 base p.2,0):=by unfold ga;rw[a];simp only;rw[tr (by simp[e])]
   refine ko @cA ?_;refine ky (aN @cA @h) ?_;refine Ow.Vc rfl call205 (fun f i=>HX base x p.2 f (Yq.slV (r.mono fun A s=>by simp[s]) i rfl rfl mf) q oM) ?_;rw[j,Vb rfl];refine ko @cA ?_;refine ky @cA ?_;refine⟨_,(ke @cA),g,?_⟩;rw[c];rfl
  have h:(((p.1:Nat):Int) !=((base.length:Nat):Int))=true:=by rw[Yb];omega
  have c:ga base d=([],19):=by unfold ga;rw[a];simp only;rw[Vb e]
  refine ko @cA ?_;refine ky (aN @cA @h) ?_;refine⟨_,(ke @cA),g,?_⟩;rw[c];rfl
structure PrG where
 at_:Nat
 out:List Nat
 v:hU
 D:aA
 DG:aA
def cI:=aN (aN (aN @bA @b9) (aN @Ji @Ih)) (aN (aN @Ij @EX) (aN @Sx.Wk @Sx.Wl))
def J6(V:hU)(l:List WE)(f:Int)(w:hW)(W:AH w V l):
  Va prog 168 #[V,vi f] w (XS w [] (gN l f)):=by
 obtain⟨bb,off,arr,E,fz,B⟩:=W.row;have I:=W.len;refine Va.Vs func168 rfl (rs:=[.tmp 4,.tmp 5]) results168 ntmps168 (fun p hp=>by cases hp) Wg ?_;refine kf ?_;by_cases t:200<l.length\/f<0\/(l.length:Int)<=f
 .have N:fo l f=.error 1:=by unfold fo;rw[Vb t]
  unfold gN;rw[N];by_cases h1:200<l.length
  .have u:decide ((200:Int)< (l.length:Int))=true:=aP oM;refine ky (qS1 @cI @I @u) ?_;refine⟨_,(ke @cI),?_⟩;exact⟨Ext.refl _ _,rfl⟩
  have u:decide ((200:Int)< (l.length:Int))=false:=aW oM;by_cases Y:f<0
  .have C:decide (f<0)=true:=aP Y;refine ky (qS2 @cI @I @u @C) ?_;refine⟨_,(ke @cI),?_⟩;exact⟨Ext.refl _ _,rfl⟩
  have C:decide (f<0)=false:=aW Y;have O:decide ((l.length:Int)<=f)=true:=aP oM;refine ky (qS3 @cI @I @u @C @O) ?_;refine⟨_,(ke @cI),?_⟩;exact⟨Ext.refl _ _,rfl⟩
 have u:decide ((200:Int)< (l.length:Int))=false:=aW oM;have C:decide (f<0)=false:=aW oM;have O:decide ((l.length:Int)<=f)=false:=aW oM;obtain⟨A,rfl⟩:∃A:Nat,f=(A:Int):=⟨f.toNat,by omega⟩;have N:fo l (A:Int)=(gi l 5 A).map ([]++ ·):=by unfold fo;rw[tr t,WX];cases gi l 5 A<;>rfl
 refine ky (qS3 @cI @I @u @C @O) ?_;refine Cw.VU (G:=PrG) [21,22,25,26,4,5,27,28,29,30,6,31,32,33,34,35,36,37,38,39,40,41,42,43,44,45,46,47,48,49,50,51,52,53,54,55,56,57,58,59,60,61,62,63,1,23,24,7] (fun g=>[(1,vi g.at_),(6,g.v),(7,vi g.out.length)]) (fun g=>g.D++g.DG) (fun g=>Vq w.heap.size g.D/\Vq w.heap.size g.DG/\Gr g.D 3 1 g.v g.out.length (g.out.map qf0).flatten/\g.at_<l.length/\g.out.length<=5/\fo l (A:Int)=(gi l (5 - g.out.length) g.at_).map (g.out++ ·)) (fun g=>6 - g.out.length) ⟨A,[], Vj,[],[]⟩ rfl rfl ?_ ?_
 .exact⟨trivial,trivial,Gr.nl,by show A<l.length;omega,by simp,N⟩
 intro g j hg;refine kv ?_;obtain⟨a,out,v,D,DG⟩:=g;obtain⟨P,Q,Z,J,ze,b⟩:=hg;simp only at P Q Z J ze b |-;have d4:decide ((out.length:Int)<6)=true:=aP oM;by_cases h5:out.length=5
 .have R:((out.length:Int)==5)=true:=by rw[h5];rfl
  rw[h5] at b;have s:fo l (A:Int)=.error 11:=b;refine ky (qS1 @cI @d4 @R) ?_;refine⟨_,(ke @cI),?_⟩;refine⟨Ext.Vt (P.app Q),?_⟩;unfold gN;rw[s]
  rfl
 have R:((out.length:Int)==5)=false:=WN.2 oM;have zf:gi l (5 - out.length) a=gi l (4 - out.length+1) a:=by congr 1;omega
 rw[zf,gi] at b;refine ky (qS1 @cI @d4 @R) ?_;refine Ow.buildSlice (e:=3) #[vi a] rfl rfl kR fun K zn zg=>?_;refine ko @cI ?_;refine Ow.Vd (M:=D++(DG++[(K, Xu (vi a))])) Xm ?_;refine Ow.W2 (e:=3) (k:=1) (new:=qf0 a) (X:=D) v rfl rfl rfl rfl underlying212 (id kR:aU prog 3=some (false,1)) kR (id kR:ac prog 3=some (vi 0)) rfl underlying212 (by intro k h;cases h) Z (fun w' zh=>W0.X6 (zh.has K (Xu (vi a)) V_) (wB a) rfl) oM (fun B3 S F zo zq zi zr zj zt=>?_);have za:Vq w.heap.size F:=Vq.of_le fun c t=>by
  rcases zj c t with h|h
  .exact P.le c h
  omega
 have zb:Gr F 3 1 S (out++[a]).length ((out++[a]).map qf0).flatten:=by simpa using zi
 have zk:(out++[a]).length=out.length+1:=by simp
 have zc:Vq w.heap.size (DG++[(K, Xu (vi a))]):=Q.app ⟨zg,trivial⟩;generalize DG++[(K,Xu (vi a))]=T at*;have H:Vq w.heap.size (F++T):=za.app zc;have zd:0<l.length:=by omega
 have zl:=B.lt zd;have o:aG w (F++T) bb=some (.cells arr E fz):=by rw[dr (H.not zl)];exact B.has zd
 have q:=B.idx true a J;have i:aF (some (false,1)) (some (.cells arr E fz)) (off+a*3)=some (.bool (l.getD a eE).d):=B.cell (j:=0) (n:=1) J oM;have m:aF (some (false,1)) (some (.cells arr E fz)) (off+a*3+1)=some (vi (l.getD a eE).b):=B.cell (j:=1) (n:=1) J oM;generalize l.getD a eE=p at*;cases L:p.d with
 |false=>
  rw[L,tr V_] at b;rw[L] at i;by_cases r:p.b=0
  .have d:(p.b !=0)=false:=by rw[r];rfl
   rw[tr (by simp[r])] at b;refine ko (qS4 @cI @q @o @i @m @d) ?_;refine ky (qS4 @cI @q @o @i @m @d) ?_;refine⟨_,(ke @cI),?_⟩;refine⟨Ext.Vt H,?_⟩;unfold gN;rw[b];exact⟨S,rfl,by show(out++[a]).length<=5;omega,Gr.i zb fun c t=>by simp[t]⟩
  have d:(p.b !=0)=true:=by rw[Yb];exact r
  rw[Vb r] at b;have s:fo l (A:Int)=.error 2:=b;refine ko (qS4 @cI @q @o @i @m @d) ?_;refine ky (qS4 @cI @q @o @i @m @d) ?_;refine⟨_,(ke @cI),?_⟩;refine⟨Ext.Vt H,?_⟩;unfold gN;rw[s];rfl
 |true=>
  rw[L,Vb rfl] at b;rw[L] at i;by_cases r:p.b<0
  .have d:decide (p.b<0)=true:=aP r;rw[Vb (.inl r)] at b;have s:fo l (A:Int)=.error 2:=b;refine ko (qS4 @cI @q @o @i @m @d) ?_;refine ky (qS4 @cI @q @o @i @m @d) ?_;refine⟨_,(ke @cI),?_⟩;refine⟨Ext.Vt H,?_⟩;unfold gN;rw[s];rfl
  have d:decide (p.b<0)=false:=aW r;by_cases U:(a:Int)<=p.b
  .have y:decide ((a:Int)<=p.b)=true:=aP U;rw[Vb (.inr U)] at b;have s:fo l (A:Int)=.error 2:=b;refine ko (qS5 @cI @q @o @i @m @d @y) ?_;refine ky (qS5 @cI @q @o @i @m @d @y) ?_;refine⟨_,(ke @cI),?_⟩;refine⟨Ext.Vt H,?_⟩;unfold gN;rw[s];rfl
  have y:decide ((a:Int)<=p.b)=false:=aW U;rw[tr oM] at b;obtain⟨z,zm⟩:∃z:Nat,p.b=(z:Int):=⟨p.b.toNat,by omega⟩;rw[zm] at m d y b;rw[WX] at b;refine ko (qS5 @cI @q @o @i @m @d @y) ?_;refine ky (qS5 @cI @q @o @i @m @d @y) ?_;refine Vo.mk ⟨z,out++[a],S,F,T⟩ (by show 6 - (out++[a]).length<6 - out.length;omega) ⟨za,zc,zb,by show z<l.length;omega,by show(out++[a]).length<=5;omega,?_⟩ rfl (by simp only[zk];rfl);show fo l (A:Int)=(gi l (5 - (out++[a]).length) z).map ((out++[a])++ ·);rw[b,show 5 - (out++[a]).length=4 - out.length by omega]
  split
  .rename_i h4;rw[h4];rfl
  cases gi l (4 - out.length) z with
  |error x=>rfl
  |ok x=>show Except.ok _=Except.ok _;simp
def qr8(l:List WE):Prop:= ∀g,g<l.length->(l.getD g eE).x.length<100000000
def r2{α:Type}{enc:α->List hU}{m:Nat}{D:aA}{E:h7}{v:hU}{l:List α}(h:Yq D E m v l.length (l.map enc).flatten)(g:(keys D).Nodup):l.length=0\/ ∃b c rest,v=Xr b 0 l.length c/\b∈keys D/\Sx.look D b=some (bW enc E rest l):=by
 obtain⟨X,d,h| ⟨a,-⟩⟩:=h
 .rcases h.inv with⟨-,a,-⟩ | ⟨b,c,rest,rfl,e,i,j,k,n⟩
  .exact .inl a
  exact .inr ⟨b,c,rest,rfl,List.mem_map_of_mem (f:=Prod.fst) (d _ (bU e)),gE g (d _ (bU e))⟩
 exact .inl a
structure TrG where
 n:Nat
 s:No
 DG:aA
def IF(y:hU)(l:List WE)(i:Int)(w:hW)(N:AH w y l)(W:qr8 l):
  Va prog 144 #[y,vi i] w (fun v D=>v=j1 (Xj l i)/\D=[]):=by
 obtain⟨X,off,arr,E,fz,k⟩:=N.row;refine Va.Vr func144 rfl (rs:=[.tmp 4,.tmp 5]) results144 ntmps144 ?_;refine kf ?_;refine ky @cI ?_;refine Ow.Wf rfl rfl call168 (fun A O=>J6 y l i A (N.WO O trivial)) (fun B1 v1 D1 zj Y Z f=>?_);have P:=Z.mono Y;unfold gN at f;unfold Xj;cases o:fo l i with
 |error e=>
  rw[o] at f;have za:v1=.tuple #[Vj,vi e]:=f;subst za;have B:(e !=0)=true:=by rw[Yb];exact sg o
  refine ko @cI ?_;refine ky (aN @cI @B) ?_;refine⟨_,(ke @cI),P,?_⟩
  rfl
 |ok p=>
  rw[o] at f;obtain⟨x,rfl,zk,Q⟩:=f;have zb:=O_ o;have B:((0:Int) !=0)=false:=rfl;have zc:∀m,Yw (.sl m) x=some (vi p.length):=fun m=>kE Q m;rw[Vy];refine ko (qS1 @cI @B @zc) ?_;refine ky @cI ?_;refine Cw.world fun wz R=>?_;have zd:=R.nodup;clear R wz;refine Cw.Vd (M:=D1++[]) (by rw[VX]) ?_;refine Cw.VU (G:=TrG) [25,26,29,30,31,32,33,34,35,10,36,37,38,39,40,41,42,4,5,43,44,8,46,47,48,49,45,50,51,11,12,52,53,54,55,27,28,9] (fun g=>[(8,vs g.s),(9,vi ((g.n:Int) - 1))]) (fun g=>D1++g.DG) (fun g=>g.n<=p.length/\fp l (p.drop g.n)=.ok g.s/\Vq w.heap.size g.DG) (fun g=>g.n) ⟨p.length,[],[]⟩ rfl rfl ?_ ?_
  .exact⟨aj _,by rw[List.drop_length];rfl,trivial⟩
  intro g j S;refine kv ?_;obtain⟨n,s,DG⟩:=g;simp only at S |-;obtain⟨zl,C,F⟩:=S;have q:Vq w.heap.size (D1++DG):=P.app F;cases n with
  |zero=>have H:decide ((0:Int)<= ((0:Nat):Int) - 1)=false:=rfl;refine ky (aN @cI @H) ?_;refine⟨_,(ke @cI),q,?_⟩;rw[YM] at C;show _=j1 ((Except.ok p).bind (fp l));rw[show(Except.ok p).bind (fp l)=fp l p from rfl,C];rfl
  |succ n=>
   have en:((n+1:Nat):Int) - 1=(n:Int):=by omega
   rw[en];have H:decide ((0:Int)<= (n:Int))=true:=aP oM;obtain h0| ⟨bp,cp,T,rfl,zm,ze⟩:=r2 Q zd
   .omega
   have I:n<p.length:=by omega
   have zf:aG w (D1++DG) bp=some (bW qf0 3 T p):=aO (a_ ze);have lp:=OV (E:=3) (rest:=T) 1 n I;have J:p.getD n 0<l.length:=zb _ (W9 I);have zg:p.drop n=p.getD n 0::p.drop (n+1):=drop_cons (z:=0) I;have b:fp l (p.drop n)=if(e_ (l.getD (p.getD n 0) eE) s).2=0 then .ok (e_ (l.getD (p.getD n 0) eE) s).1 else .error (e_ (l.getD (p.getD n 0) eE) s).2:=by rw[zg,fp,C];rfl
   generalize p.getD n 0=a at*;have U:0<l.length:=by omega
   have zh:=k.lt U;have rd:aG w (D1++DG) X=some (.cells arr E fz):=by rw[dr (q.not zh)];exact k.has U
   have i2:=k.idx true a J;have ld:=k.load E5 oM J;have zi:=W a J;generalize l.getD a eE=pt at*;have K:=sP pt eE 261;refine kz [7] (qS5 @cI @H @lp @zf @rd @i2 @ld) ?_;refine Ow.alloc rfl rfl jh fun d zn r=>?_;simp only[ag,Vy,Wp];refine Ow.Vd (M:=(d,.cells (cH eE).toArray 261 (0,0))::(D1++DG)) Xm ?_;cases c:pt.d with
   |false=>
    by_cases V:4099<pt.x.length
    .have t:decide ((4099:Int)< (pt.x.length:Int))=true:=aP oM;have h:e_ pt s=([],19):=by unfold e_;rw[tr (by rw[c];decide),Vb V]
     rw[h,tr WT] at b;refine ko (qS2 @cI @K @c @t) ?_;refine ky (qS1 @cI @c @t) ?_;refine⟨_,(ke @cI),(show Vq w.heap.size ((d,_)::(D1++DG)) from⟨r,q⟩),?_⟩;show _=j1 (fp l p);rw[DQ p n b];rfl
    have t:decide ((4099:Int)< (pt.x.length:Int))=false:=aW oM;have h:e_ pt s=(pt.x,0):=by unfold e_;rw[tr (by rw[c];decide),tr V]
    rw[h,Vb rfl] at b;refine ko (qS2 @cI @K @c @t) ?_;refine Cw.Vd (M:=D1++((d,.cells (cH pt).toArray 261 (0,0))::DG)) Xm ?_;refine ky @cI ?_;exact Vo.mk ⟨n,pt.x,(d,.cells (cH pt).toArray 261 (0,0))::DG⟩ (by show n<n+1;omega) ⟨by show n<=p.length;omega,b,⟨r,F⟩⟩ rfl rfl
   |true=>
    have h:e_ pt s=ga s pt.x:=by unfold e_;rw[Vb c]
    rw[h] at b;refine ko (qS1 @cI @K @c) ?_;refine ky (aN @cI @c) ?_;refine Ow.Vc rfl call169 (fun A O=>I9 s pt.x A zi) ?_;by_cases u:(ga s pt.x).2=0
    .have L:((ga s pt.x).2 !=0)=false:=by rw[u];rfl
     rw[Vb u] at b;refine ko (aN @cI @L) ?_;refine Cw.Vd (M:=D1++((d,.cells (cH pt).toArray 261 (0,0))::DG)) Xm ?_;refine ky @cI ?_;exact Vo.mk ⟨n,(ga s pt.x).1,(d,.cells (cH pt).toArray 261 (0,0))::DG⟩ (by show n<n+1;omega) ⟨by show n<=p.length;omega,b,⟨r,F⟩⟩ rfl rfl
    have L:((ga s pt.x).2 !=0)=true:=by rw[Yb];exact u
    rw[tr u] at b;refine ko @cI ?_;refine ky (aN @cI @L) ?_;refine⟨_,(ke @cI),(show Vq w.heap.size ((d,_)::(D1++DG)) from⟨r,q⟩),?_⟩;show _=j1 (fp l p);rw[DQ p n b];rfl
def Uq(s:No)(a:Nat)(e most:Int):aE s (a+1) e most=((aE (s.drop 1) a e most).1,(aE (s.drop 1) a e most).2.1+1,(aE (s.drop 1) a e most).2.2):=by
 unfold aE;rw[List.drop_drop,Nat.add_comm 1 a];by_cases b:e≠0
 .rw[Vb b,Vb b]
 rw[tr b,tr b];cases bR most (List.drop (a+1) s) 0 0 with
 |error x=>rfl
 |ok p=>simp only[Xp,true_and];exact⟨by omega,trivial⟩
def rR(s:No)(a:Nat)(e n:Int)(g:1<=s.length):aw s (a+1) e n=((aw (s.drop 1) a e n).1,(aw (s.drop 1) a e n).2.1+1,(aw (s.drop 1) a e n).2.2):=by
 unfold aw;rw[XC,List.drop_drop,Nat.add_comm 1 a];have f:((s.length:Int) - ((a+1:Nat):Int)<n)=(((s.length - 1:Nat):Int) - (a:Int)<n):=by rw[eq_iff_iff];omega
 simp only[f];by_cases b:e≠0
 .simp only[Vb b]
 simp only[tr b];by_cases c:n<0
 .simp only[Vb c]
 simp only[tr c];by_cases d:((s.length - 1:Nat):Int) - (a:Int)<n
 .simp only[Vb d]
 simp only[tr d,Xp,true_and];exact⟨by omega,trivial⟩
def DZ(s:No)(a:Nat)(e most:Int)(b:1<=s.length):aS s (a+1) e most=((aS (s.drop 1) a e most).1,(aS (s.drop 1) a e most).2.1+1,(aS (s.drop 1) a e most).2.2):=by
 unfold aS;simp only[Uq];rw[rR _ _ _ _ b];simp only
 split<;>rfl
def vo(c:Vf)(r:No):frR (c::r)=([c],1,0):=by
 unfold frR aw;rw[tr V_,tr WT,tr (by simp only[Wt];omega)]
 rfl
def ui(c:Vf)(r:No):frT (c::r)=((lfT r).1,(lfT r).2.1+1,(lfT r).2.2):=by unfold frT;rw[vo];exact DZ (c::r) 0 0 4096 V_
def ME(c:Vf)(r:No)(a:Nat)(e:Int):dE (c::r) (a+1) e=dE r a e:=by
 unfold dE;rw[Wt];have:((((a+1:Nat):Int)< ((r.length+1:Nat):Int))=((a:Int)< (r.length:Int))):=by rw[eq_iff_iff];omega
 simp only[this]
def Mh(c:Vf)(r:No):(fkC c=0/\¬ (1<=frK (c::r)/\frK (c::r)<=3))\/(fkC c≠0/\frK (c::r)=fkC c/\Av (fkC c)=[c]):=by
 have e:frK (c::r)=Lib.indexByte qK5 c:=by unfold frK;rw[vo];rfl
 rw[e];by_cases a:c=98
 .subst a;exact .inr ⟨by decide,rfl,rfl⟩
 by_cases b:c=116
 .subst b;exact .inr ⟨by decide,rfl,rfl⟩
 by_cases d:c=99
 .subst d;exact .inr ⟨by decide,rfl,rfl⟩
 refine .inl ⟨by unfold fkC;rw[tr a,tr b,tr d],?_⟩;have f:((98:Vf)==c)=false:=WN.2 (Wq a);have g:((116:Vf)==c)=false:=WN.2 (Wq b);have h:((99:Vf)==c)=false:=WN.2 (Wq d);simp only[Lib.indexByte,f,g,h,VW,↓reduceIte]
 split<;>simp
def wx{k:Int}{t:No}(h:¬ (1<=k/\k<=3)):qg6 k t=false:=by unfold qg6;rw[tr (fun a=>h ⟨a.1,a.2.1⟩)]
def p4(s:No):Z3 s=qe1 s/\(Z3 s=true->frK s=lfK s/\(frT s).1=(lfT (s.drop 1)).1):=by
 cases s with
 |nil=>
  have h:Z3 []=false:=by unfold Z3;rw[wx (k:=frK []) WT,Bool.and_false]
  exact⟨by rw[h];rfl,fun d=>by rw[h] at d;cases d⟩
 |cons c r=>
  have e:Z3 (c::r)=(dE r (lfT r).2.1 (lfT r).2.2==0&&qg6 (frK (c::r)) (lfT r).1):=by unfold Z3;rw[ui,ME]
  have f:qe1 (c::r)=(fkC c !=0&&dE r (lfT r).2.1 (lfT r).2.2==0&&XF (fkC c) (lfT r).1):=rfl;rcases Mh c r with⟨a,b⟩ | ⟨a,b,-⟩
  .rw[e,f,wx b,a,Bool.and_false];exact⟨rfl,fun h=>by cases h⟩
  have g:(fkC c !=0)=true:=by simpa using a
  rw[e,f,b,g,ri,XA];refine⟨rfl,fun _=>⟨rfl,?_⟩⟩;rw[ui];rfl
def CF(s:No):gK s=⟨if qe1 s then lfK s else 0,if qe1 s then(lfT (s.drop 1)).1 else []⟩:=by
 unfold gK;have h:=p4 s;rw[<-h.1];cases a:Z3 s
 .rfl
 rw[(h.2 a).1,(h.2 a).2]
def O9{k:Int}{t:No}(h:qg6 k t=true):t.length<=4096:=by
 unfold qg6 at h
 split at h
 .rename_i a;exact a.2.2
 cases h
theorem EV(l:List WE):∀k,(j7 l k).length<=k
 |0=>aj _
 |k+1=>by
  have:=EV l k;unfold j7
  split
  .split
   .simp;omega
   omega
  omega
def BC(k a:Int)(t t':No):ak prog .eql 143 (obV k t) (obV a t')=some (.bool (decide ((⟨k,t⟩:Y8)=⟨a,t'⟩))):=T5 ⟨k,t⟩ ⟨a,t'⟩
end Go.Proofs
end
namespace Go.Sx
def kB(c:Bool):BitVec 32:=bif c then 3988292384#32 else 0#32
def ZZ(x:BitVec 32):BitVec 32:=(x>>>1)^^^kB (x.getLsbD 0)
def Rd(c:Bool)(j:Nat)(h:j<5):(kB c).getLsbD j=false:=by
 have:j=0\/j=1\/j=2\/j=3\/j=4:=by omega
 rcases this with rfl|rfl|rfl|rfl|rfl<;>cases c<;>decide
def pm(x:BitVec 32)(j:Nat)(h:j<5):(ZZ x).getLsbD j=x.getLsbD (j+1):=by unfold ZZ;rw[BitVec.getLsbD_xor,Rd _ _ h,BitVec.getLsbD_ushiftRight,Bool.xor_false,Nat.add_comm]
def qR3(x:BitVec 32):ZZ (ZZ (ZZ (ZZ x)))=(x>>>4)^^^ (kB (x.getLsbD 0)>>>3^^^kB (x.getLsbD 1)>>>2^^^kB (x.getLsbD 2)>>>1^^^kB (x.getLsbD 3)):=by
 have a:(ZZ x).getLsbD 0=x.getLsbD 1:=pm x 0 oM;have b:(ZZ (ZZ x)).getLsbD 0=x.getLsbD 2:=by rw[pm _ 0 oM,pm _ 1 oM]
 have c:(ZZ (ZZ (ZZ x))).getLsbD 0=x.getLsbD 3:=by rw[pm _ 0 oM,pm _ 1 oM,pm _ 2 oM]
 have d:ZZ (ZZ (ZZ (ZZ x)))=(ZZ (ZZ (ZZ x))>>>1)^^^kB (x.getLsbD 3):=by rw[<-c];rfl
 have e:ZZ (ZZ (ZZ x))=(ZZ (ZZ x)>>>1)^^^kB (x.getLsbD 2):=by rw[<-b];rfl
 have f:ZZ (ZZ x)=(ZZ x>>>1)^^^kB (x.getLsbD 1):=by rw[<-a];rfl
 have g:ZZ x=(x>>>1)^^^kB (x.getLsbD 0):=rfl;rw[d,e,f,g];simp only[BitVec.ushiftRight_xor_distrib,<-BitVec.shiftRight_add,BitVec.xor_assoc]
def hvB:List (BitVec 32):=[0x00000000,0x1db71064,0x3b6e20c8,0x26d930ac,0x76dc4190,0x6b6b51f4,0x4db26158,0x5005713c,0xedb88320,0xf00f9344,0xd6d6a3e8,0xcb61b38c,0x9b64c2b0,0x86d3d2d4,0xa00ae278,0xbdbdf21c]
def ZS:∀a b c d:Bool,(kB a>>>3^^^kB b>>>2^^^kB c>>>1^^^kB d)=hvB.getD (a.toNat+2*b.toNat+4*c.toNat+8*d.toNat) 0:=by decide
def qQ8(x:BitVec 32):x.toNat%16=(x.getLsbD 0).toNat+2* (x.getLsbD 1).toNat+4* (x.getLsbD 2).toNat+8* (x.getLsbD 3).toNat:=by
 have e:∀i,(x.getLsbD i).toNat=x.toNat / 2^i%2:=by
  intro i;rw[BitVec.getLsbD,Nat.testBit_eq_decide_div_mod_eq];have:=Nat.mod_lt (x.toNat / 2^i) (show 0<2 by omega);by_cases h:x.toNat / 2^i%2=1
  .simp[h]
  have a:x.toNat / 2^i%2=0:=by omega
  simp[a]
 rw[e 0,e 1,e 2,e 3];omega
def TH(x:BitVec 32):ZZ (ZZ (ZZ (ZZ x)))=(x>>>4)^^^hvB.getD (x.toNat%16) 0:=by rw[qR3,ZS,qQ8]
end Go.Sx
section
open Go Go.Proofs Go.Sx
namespace Go.Proofs
def gF(n:UInt32):UInt32:=if n%2==1 then n / 2^^^3988292384 else n / 2
def l8(n:UInt32):(gF n).toBitVec=ZZ n.toBitVec:=by
 have a:(n / 2).toBitVec=n.toBitVec>>>1:=by
  apply BitVec.eq_of_toNat_eq;rw[UInt32.toBitVec_div,BitVec.toNat_udiv,BitVec.toNat_ushiftRight]
  rfl
 have b:(n%2==1)=n.toBitVec.getLsbD 0:=by
  rw[BitVec.getLsbD,Nat.testBit_eq_decide_div_mod_eq,Nat.pow_zero,Nat.div_one,YZ,W8,XN,<-UInt32.toNat_inj,UInt32.toNat_mod]
  rfl
 unfold gF ZZ;rw[b];cases n.toBitVec.getLsbD 0
 .rw[tr WT,a];simp[kB]
 rw[Vb rfl,UInt32.toBitVec_xor,a];rfl
def tP(n:UInt32):jd n=gF (gF (gF (gF n))):=by
 apply UInt32.toBitVec_inj.1;rw[l8,l8,l8,l8,TH];unfold jd;rw[UInt32.toBitVec_xor];congr 1
 .apply BitVec.eq_of_toNat_eq;unfold fA;rw[BitVec.toNat_ushiftRight,Nat.shiftRight_eq_div_pow];have:=n.toNat_lt;simp only[UInt32.toNat_toBitVec,UInt32.toNat_ofNat'];omega
 have e:(n&&&15).toNat=n.toBitVec.toNat%16:=by
  rw[UInt32.toNat_and,show(15:UInt32).toNat=2^4 - 1 from rfl,Nat.and_two_pow_sub_one_eq_mod]
  rfl
 rw[e];have a:n.toBitVec.toNat%16<16:=Nat.mod_lt _ oM;generalize n.toBitVec.toNat%16=m at a;have:∀m,m<16->(hvL.getD m 0).toBitVec=hvB.getD m 0:=by decide
 exact this m a
def lw(n:UInt32):Nat->UInt32
 |0=>n
 |k+1=>gF (lw n k)
def JE(n:UInt32):lw n 8=i' n 2:=by show gF (gF (gF (gF (gF (gF (gF (gF n)))))))=jd (jd n);rw[tP,tP]
def Le(n:UInt32)(w:hW):Va prog 184 #[v32 n] w (fun v D=>v=v32 (gF n)/\D=[]):=by
 have b:aM .rem (v32 n) (v32 2)=some (v32 (n%2)):=BL _ _ WT;have a:aM .quo (v32 n) (v32 2)=some (v32 (n / 2)):=BI _ _ WT;refine Va.Vr func184 rfl (rs:=[.tmp 2]) results184 ntmps184 ?_;refine kf ?_;unfold gF;refine ky (qS1 @aY @b @a) ?_;cases h:(n%2==1)
 .refine ky (aN @aY @a) ?_;refine⟨_,(ke @aY),trivial,?_⟩
  rfl
 refine ky (aN @aY @a) ?_;refine⟨_,(ke @aY),trivial,?_⟩
 rfl
def Mc(n:UInt32)(b:Vf)(w:hW):Va prog 161 #[v32 n,v8 b] w (fun v D=>v=v32 (iy n b)/\D=[]):=by
 refine Va.Vr func161 rfl (rs:=[.tmp 4]) results161 ntmps161 ?_;refine kf ?_;refine ky @aY ?_;unfold iy;generalize n^^^UInt32.ofNat b.toNat=m;rw[<-JE,show v32 m=v32 (lw m 0) from rfl];refine Cw.VU (G:=Nat) [10,11,14,15,0,12,13,5] (fun g=>[(0,v32 (lw m g)),(5,vi g)]) (fun g=>[]) (fun g=>g<=8) (fun g=>8 - g) 0 rfl rfl ?_ ?_
 .omega
 intro g j c;refine kv ?_;by_cases d:g<8
 .refine ky @aY ?_;refine Ow.Vc rfl call184 (fun a e=>Le _ a) ?_;refine ko @aY ?_;refine ky @aY ?_;refine Vo.mk (g+1) oM oM rfl rfl
 obtain rfl:g=8:=by omega
 refine ky @aY ?_;refine⟨_,(ke @aY),trivial,?_⟩
 rfl
def R5(n:UInt32):4294967295 - n= ~~~ n:=by
 apply UInt32.toBitVec_inj.1;rw[UInt32.toBitVec_sub,UInt32.toBitVec_not,<-BitVec.allOnes_sub_eq_not]
 rfl
def Hw(s:No)(w:hW)(c:s.length<1099511627776):Va prog 132 #[vs s] w (fun v D=>v=v32 (qm0 s)/\D=[]):=by
 refine Va.Vr func132 rfl (rs:=[.tmp 2]) results132 ntmps132 ?_;refine kf ?_;refine ky @aY ?_;rw[show v32 4294967295=v32 (fw (~~~ (0:UInt32)) (s.take 0)) from rfl];refine Cw.VU (G:=Nat) [5,6,7,8,11,12,13,14,15,3,9,10,4] (fun g=>[(3,v32 (fw (~~~ (0:UInt32)) (s.take g))),(4,vi g)]) (fun g=>[]) (fun g=>g<=s.length) (fun g=>s.length - g) 0 rfl rfl ?_ ?_
 .omega
 intro g j d;refine kv ?_;by_cases a:g<s.length
 .refine ky @aY ?_;refine Ow.Vc rfl call161 (fun b e=>Mc _ _ b) ?_;refine ko @aY ?_;refine ky @aY ?_;refine Vo.mk (g+1) oM oM rfl ?_;rw[rY _ _ _ a]
  rfl
 obtain rfl:g=s.length:=by omega
 refine ky @aY ?_;rw[WH];rw[R5];refine⟨_,(ke @aY),trivial,?_⟩
 rfl
def Pq(n:UInt32):qE9 n=[UInt8.ofNat (n%256).toNat,UInt8.ofNat (n / 256%256).toNat,UInt8.ofNat (n / 65536%256).toNat,UInt8.ofNat (n / 16777216).toNat]:=by
 show [UInt8.ofNat (fA n 0).toNat,UInt8.ofNat (fA n 8).toNat,UInt8.ofNat (fA n 16).toNat,UInt8.ofNat (fA n 24).toNat]=_;have a:=n.toNat_lt;congr 1
 .apply UInt8.toNat_inj.1;simp[fA]
 congr 1
 .apply UInt8.toNat_inj.1;simp[fA]
 congr 1
 .apply UInt8.toNat_inj.1;simp[fA]
 congr 1;apply UInt8.toNat_inj.1;simp[fA]
def Ea(s:No)(w:hW)(f:s.length<1099511627776):
  Va prog 91 #[vs s] w (fun v D=>v=vs (dx s)/\D=[]):=by
 refine Va.Vr func91 rfl (rs:=[.tmp 2]) results91 ntmps91 ?_;refine kf ?_;refine ky @aY ?_;refine Ow.Vc rfl call132 (fun g q=>Hw s g f) ?_;refine ko @aY ?_;unfold dx;rw[Pq];generalize qm0 s=n;have h:aM .rem (v32 n) (v32 256)=some (v32 (n%256)):=BL _ _ WT;have i:aM .quo (v32 n) (v32 256)=some (v32 (n / 256)):=BI _ _ WT;have j:aM .rem (v32 (n / 256)) (v32 256)=some (v32 (n / 256%256)):=BL _ _ WT;have k:aM .quo (v32 n) (v32 65536)=some (v32 (n / 65536)):=BI _ _ WT;have l:aM .rem (v32 (n / 65536)) (v32 256)=some (v32 (n / 65536%256)):=BL _ _ WT;have m:aM .quo (v32 n) (v32 16777216)=some (v32 (n / 16777216)):=BI _ _ WT;refine ky (qS5 @aY @h @i @j @k @l @m) ?_;generalize UInt8.ofNat (n%256).toNat=a;generalize UInt8.ofNat (n / 256%256).toNat=b;generalize UInt8.ofNat (n / 65536%256).toNat=c;generalize UInt8.ofNat (n / 16777216).toNat=d;refine Ow.buildSlice (e:=5) #[v8 a,v8 b,v8 c,v8 d] rfl rfl kR fun r t o=>?_;rw[show(#[v8 a,v8 b,v8 c,v8 d]:Array hU)=a8 [a,b,c,d] from rfl];have u:[a,b,c,d].length=4:=rfl;have p:List.take 4 (List.drop 0 [a,b,c,d])=[a,b,c,d]:=rfl;generalize [a,b,c,d]=x at*;refine ko (aN @aY @p) ?_;refine ky @aY ?_;refine⟨_,(ke @aY),⟨o,trivial⟩,?_⟩
 rfl
def Tv(s:No)(w:hW)(f:s.length<1099511627776):
  Va prog 111 #[vs s] w (fun v D=>v=.tuple #[vs (eG s).1,.bool (eG s).2]/\D=[]):=by
 refine Va.Vr func111 rfl (rs:=[.tmp 2,.tmp 3]) results111 ntmps111 ?_;refine kf ?_;refine ky @aY ?_;unfold eG;by_cases c:s.length<4
 .have b:decide ((s.length:Int)<4)=true:=aP oM;rw[Vb c];refine ky (aN @aY @b) ?_;refine⟨_,(ke @aY),trivial,?_⟩
  rfl
 have b:decide ((s.length:Int)<4)=false:=aW oM;have d:((s.length:Int) - 4).toNat=s.length - 4:=by omega
 rw[tr c];refine ky (qS1 @aY @b @d) ?_;refine Ow.Vc rfl call91 (fun e g=>Ea (s.take (s.length - 4)) e (by rw[W3];omega)) ?_;refine ko @aY ?_;cases a:(dx (s.take (s.length - 4)) !=s)
 .rw[Vb (by simpa using a)];refine ky (qS1 @aY @a @d) ?_;refine⟨_,(ke @aY),trivial,?_⟩
  rfl
 rw[tr (by simpa using a)];refine ky (aN @aY @a) ?_;refine⟨_,(ke @aY),trivial,?_⟩
 rfl
end Go.Proofs
end
section
open Go Go.Proofs Go.Sx Go.StP Go.Flo
namespace Go.Proofs
def rT{s:No}(h:s.length<4\/s.take 4≠qy2):fH s=(0,false,(aw s 0 0 4).2):=by
 unfold fH;rw[tr];unfold aw;rw[tr WT,tr WT]
 split
 .decide
 rename_i a;rcases h with h|h
 .omega
 exact h
def M1{s:No}(a:4<=s.length)(h:s.take 4=qy2):fH s=((aE s 4 0 200).1,(aE s 4 0 200).2.2==0,(aE s 4 0 200).2):=by
 have e:aw s 0 0 4=(s.take 4,4,0):=by
  unfold aw;rw[tr WT,tr WT,tr oM]
  rfl
 unfold fH;rw[e];simp only;rw[Vb h]
def mu(s:No)(v:hU)(D:aA):Prop:=
 if(fH s).2.1=true then∃x y n A,v=.tuple #[x,y,vi n,vi A,.bool true]/\n=(fH s).1/\0<=n/\n<=200/\Yq D 261 3 x (fh s).1.length ((fh s).1.map cH).flatten/\Yq D 3 1 y (fh s).2.1.length ((fh s).2.1.map qf0).flatten/\
  (((fh s).2.2.2=0/\A=(fh s).2.2.1/\((fh s).1.length:Int)=n)\/((fh s).2.2.2≠0/\((fh s).1.length:Int)<n))
 else v=.tuple #[Vj, Vj,vi 0,vi 0,.bool false]
structure qM8 where
 l:List WE
 sp:List Nat
 a:Nat
 v1:hU
 v2:hU
 D1:aA
 D2:aA
 DG:aA
def K'(s:No):cL (bP prog 179) (ac prog 179) [(0,vs s),(1,vi 4)]=some (.agg #[vs s,vi 4,vi 0]):=by rw[show bP prog 179=some [(0,1),(1,1),(2,1)] from id kR,qM1];rfl
def Fp(b:Nat)(s:No)(a:Nat)(e most:Int)(w:hW)(c:a<=s.length)(d:s.length<1099511627776)(f:w.heap[b]? =some (rrO s a e)):
  Va prog 96 #[vp b 0,vi most] w (fun v D=> ∃o,D=[(b,o)]/\v=vs (aS s a e most).1/\o=rrO s (aS s a e most).2.1 (aS s a e most).2.2):=pY b s a e most w c d f
def dG:=aN (qS1 @bA @b9 @vj) (aN (aN @wC @ud) (aN @EX @Jr))
def Fh(s:No)(w:hW)(hs:s.length<1099511627776):Va prog 143 #[vs s] w (XS w [] (mu s)):=by
 refine Va.Vs func143 rfl (rs:=[.tmp 2,.tmp 3,.tmp 4,.tmp 5,.tmp 6]) results143 ntmps143 (fun p r=>by cases r) Wg ?_;refine kf ?_;by_cases h4:s.length<4
 .have A:decide ((s.length:Int)<4)=true:=aP oM;refine ky (aN @dG @A) ?_;refine⟨_,(ke @dG),?_⟩;refine⟨Ext.Vt trivial,?_⟩;unfold mu;rw[rT (.inl h4)]
  rfl
 have A:decide ((s.length:Int)<4)=false:=aW oM;have zz:decide ((0:Int)<=4/\(4:Int)<= (s.length:Int))=true:=aP oM;by_cases B:s.take 4=qy2
 .have J:(s.take 4 !=[83,80,75,49])=false:=bne_eq_false_iff_eq.2 B;have u:=M1 oM B;refine ky (qS1 @dG @A @J) ?_;refine Ow.build (.agg #[vs s,vi 4,vi 0]) rfl (K' s) ?_;refine ko @dG ?_;refine Ow.box rfl rfl fun br zA K=>?_;simp only[dS,cz,dL,ag,Vy];refine Ow.Vd (M:=[(br,rrO s 4 0)]) (WW _) ?_;refine ko @dG ?_;refine ky @dG ?_;have l1:=fO (s:=s) (a:=4) (e:=0) (most:=200) oM;have m1:=j' (s:=s) (a:=4) (e:=0) (most:=200) oM;refine Ow.WA rfl rfl call95 Wg (fun i d=>qD br s 4 0 200 i oM oM (d.has _ _ aX)) ?_;have C:fh s=gn s (fH s).1.toNat 0 (fH s).2.2.1 (fH s).2.2.2:=rfl;rw[u] at C;generalize aE s 4 0 200=m at*;obtain⟨n0,a0,e0⟩:=m;simp only at l1 m1 u C |-;obtain⟨n,rfl⟩:∃n:Nat,n0=(n:Int):=⟨n0.toNat,by omega⟩;rw[WX] at C;refine kn ?_;refine ko @dG ?_;by_cases L:e0=0
  .subst L;have N:((0:Int) !=0)=false:=rfl;have D:(fH s).2.1=true:=by rw[u];rfl
   have za:(fH s).1=(n:Int):=by rw[u]
   clear u;refine kz [11] (aN @dG @N) ?_;refine Cw.Vd (M:=(br,rrO s a0 0)::([]++([]++[]))) (WW _) ?_;refine Cw.VU (G:=qM8) [34,35,36,39,40,41,42,12,43,44,13,45,46,14,47,48,49,50,51,52,53,54,55,2,3,4,5,6,56,57,15,58,59,60,61,62,63,64,65,66,67,68,9,69,70,71,72,10,37,38,11] (fun g=>[(9,g.v1),(10,g.v2),(11,vi g.l.length)]) (fun g=>(br,rrO s g.a 0)::(g.D1++(g.D2++g.DG))) (fun g=>g.l.length<=n/\g.sp.length=g.l.length/\g.a<=s.length/\Vq w.heap.size g.D1/\Vq w.heap.size g.D2/\Vq w.heap.size g.DG/\Gr g.D1 261 3 g.v1 g.l.length (g.l.map cH).flatten/\Gr g.D2 3 1 g.v2 g.sp.length (g.sp.map qf0).flatten/\fh s=(g.l++(gn s (n - g.l.length) g.l.length g.a 0).1,g.sp++(gn s (n - g.l.length) g.l.length g.a 0).2.1,(gn s (n - g.l.length) g.l.length g.a 0).2.2)) (fun g=>n - g.l.length) ⟨[],[],a0, Vj, Vj,[],[],[]⟩ rfl rfl ?_ ?_
   .exact⟨aR _,rfl,l1.2,trivial,trivial,trivial,Gr.nl,Gr.nl,by rw[C];rfl⟩
   intro g j E;refine kv ?_;obtain⟨l,sp,a,v1,v2,D1,D2,DG⟩:=g;simp only at E |-;obtain⟨zB,zC,zb,zc,zd,ze,O,P,b⟩:=E;have zf:Vq w.heap.size (D1++(D2++DG)):=zc.app (zd.app ze);by_cases zD:l.length<n
   .have Q:decide ((l.length:Int)< (n:Int))=true:=aP oM;have hk:n - l.length=(n - (l.length+1))+1:=by omega
    rw[hk] at b;have R:=fO (s:=s) (a:=a) (e:=0) (most:=200) zb;have zi:=j' (s:=s) (a:=a) (e:=0) (most:=200) oM;have S:mG s l.length a 0=(⟨decide (0< (aE s a 0 200).1),if 0< (aE s a 0 200).1 then((l.length:Nat):Int) - (aE s a 0 200).1 else 0,(aS s (aE s a 0 200).2.1 (aE s a 0 200).2.2 65536).1⟩,(aS s (aE s a 0 200).2.1 (aE s a 0 200).2.2 65536).2):=rfl;refine kz [1000018] (aN @dG @Q) ?_;refine Ow.WA rfl rfl call95 Wg (fun i d=>qD br s a 0 200 i zb oM (d.has _ _ aX)) ?_;generalize aE s a 0 200=x at*;obtain⟨F,T,U⟩:=x;simp only at R zi S |-;have zg:=gA (s:=s) (a:=T) (e:=U) (most:=65536) R.2;refine kn ?_;refine ko @dG ?_;refine ky @dG ?_;refine Ow.WA rfl rfl call96 Wg (fun i d=>Fp br s T U 65536 i R.2 hs (d.has _ _ aX)) ?_;generalize aS s T U 65536=x at*;obtain⟨t,o,e2⟩:=x;simp only at zg S |-;refine kn ?_;refine ko @dG ?_;rw[gn,S] at b;simp only at b;by_cases H:e2=0
    .subst H;rw[Vb rfl] at b;have V:((0:Int) !=0)=false:=rfl;refine ky (aN @dG @V) ?_;refine Ow.build (.agg (cH ⟨false,0,t⟩).toArray) rfl (HT t) ?_;refine ko @dG ?_;refine Ow.alloc rfl rfl jh fun f zj zk=>?_;simp only[ag,Vy,Wp];have zE:br<f:=aQ zj Wg;have zl:=sP ⟨false,0,t⟩ eE 261;refine Ow.Vd (M:=(f,.cells (cH eE).toArray 261 (0,0))::(br,rrO s o 0)::(D1++(D2++DG))) Xm ?_;refine ko (aN @dG @zl) ?_;obtain⟨p,r⟩:∃p,p=(⟨decide (0<F),if 0<F then((l.length:Nat):Int) - F else 0,t⟩:WE):=⟨_,rfl⟩;rw[<-r] at b;refine Cw.ZO (G:=WE) [58,59,60,61,62,63,64] (fun g=>[]) (fun g=>(f,.cells (cH g).toArray 261 (0,0))::(br,rrO s o 0)::(D1++(D2++DG))) (fun g=>g=p) ?_ ?_
     .by_cases v:0<F
      .have W:decide ((0:Int)<F)=true:=aP v;have zm:=I8 ⟨false,0,t⟩ 261;have zn:=HE ⟨true,0,t⟩ 261;refine ky (qS2 @dG @W @zm @zn) ?_;refine WY.mk _ ?_ rfl rfl;rw[r,aP v,Vb v]
      have W:decide ((0:Int)<F)=false:=aW v;refine ky (aN @dG @W) ?_;refine WY.mk _ ?_ rfl rfl;rw[r,aW v,tr v]
     intro g j E;refine kv ?_;obtain rfl:=E;clear r;refine ky @dG ?_;refine Ow.buildSlice (e:=261) (cH g).toArray rfl rfl (fa (cs:=cH g) underlying234 qo0 jh WT rfl) fun y zF zo=>?_;refine ko @dG ?_;refine Ow.Vd (M:=D1++((f,.cells (cH g).toArray 261 (0,0))::(br,rrO s o 0)::(D2++(DG++[(y,.cells (cH g).toArray 261 (0,0))])))) Xm ?_;refine Ow.W2 (e:=261) (k:=1) (new:=cH g) (X:=D1) v1 rfl rfl rfl rfl underlying234 qo0 kR jh (by rw[EX];rfl) underlying234 (by intro k h;cases h) O (fun i d=>W0.X6 (d.has y (.cells (cH g).toArray 261 (0,0)) V_) (E5 _) (t8 _)) oM (fun B4 v4 z zG zH zq zI zr zJ=>?_);have zt:Vq w.heap.size z:=Vq.of_le fun m Y=>by
      rcases zr m Y with h|h
      .exact zc.le m h
      omega
     refine Ow.Vd (M:=(br,rrO s o 0)::(z++(D2++((f,.cells (cH g).toArray 261 (0,0))::(DG++[(y,.cells (cH g).toArray 261 (0,0))]))))) Xm ?_;refine ko @dG ?_;refine ky @dG ?_;refine Ow.buildSlice (e:=3) #[vi a] rfl rfl kR fun I zK zu=>?_;refine ko @dG ?_;refine Ow.Vd (M:=D2++((br,rrO s o 0)::(z++((f,.cells (cH g).toArray 261 (0,0))::(DG++[(y,.cells (cH g).toArray 261 (0,0)),(I, Xu (vi a))]))))) Xm ?_;refine Ow.W2 (e:=3) (k:=1) (new:=qf0 a) (X:=D2) v2 rfl rfl rfl rfl underlying212 (id kR:aU prog 3=some (false,1)) kR (id kR:ac prog 3=some (vi 0)) rfl underlying212 (by intro k h;cases h) P (fun i d=>W0.X6 (d.has I (Xu (vi a)) V_) (wB a) rfl) oM (fun B5 v5 Z zL zM zv zN zw zO=>?_);have zx:Vq w.heap.size Z:=Vq.of_le fun m Y=>by
      rcases zw m Y with h|h
      .exact zd.le m h
      omega
     refine Ow.Vd (M:=(br,rrO s o 0)::(z++(Z++((f,.cells (cH g).toArray 261 (0,0))::(DG++[(y,.cells (cH g).toArray 261 (0,0)),(I, Xu (vi a))]))))) Xm ?_;refine ko @dG ?_;refine ky @dG ?_;have zh:(l++[g]).length=l.length+1:=by simp
     have zP:(sp++[a]).length=sp.length+1:=by simp
     refine Vo.mk ⟨l++[g],sp++[a],o,v4,v5,z,Z,(f,.cells (cH g).toArray 261 (0,0))::(DG++[(y,.cells (cH g).toArray 261 (0,0)),(I, Xu (vi a))])⟩ (by show n - (l++[g]).length<n - l.length;omega) ⟨by show(l++[g]).length<=n;omega,by show(sp++[a]).length=(l++[g]).length;omega,zg.2,zt,zx,⟨zk,ze.app ⟨zo,zu,trivial⟩⟩,by simpa using zq,by simpa using zv,?_⟩ rfl (by simp only[zh];rfl);show fh s=_;rw[b,zh];simp
    have V:(e2 !=0)=true:=Yb.2 H;rw[tr H] at b;refine ky (aN @dG @V) ?_;refine⟨_,(ke @dG),?_⟩;refine⟨Ext.Vt ⟨K,zf⟩,?_⟩;unfold mu;rw[Vb D,b,za];simp only[VX];exact⟨v1,v2,_,_,rfl,rfl,by omega,by omega,Gr.i O fun c q=>by simp[q],Gr.i P fun c q=>by simp[q],.inr ⟨H,by omega⟩⟩
   obtain zy:l.length=n:=by omega
   have Q:decide ((l.length:Int)< (n:Int))=false:=aW oM;rw[zy,Nat.sub_self] at b;refine ky (aN @dG @Q) ?_;refine Cw.Vu [br] [0,1,2,3,4,5,7,8,9,6,10,11] [] kR kR kR ?_;refine WQ ?_;refine kq @dG ?_;refine ky @dG ?_;refine⟨_,(ke @dG),?_⟩;refine⟨Ext.Vt ⟨K,zf⟩,?_⟩;unfold mu;rw[Vb D,b,za];simp only[gn,VX];exact⟨v1,v2,_,_,rfl,rfl,by omega,by omega,Gr.i O fun c q=>by simp[q],Gr.i P fun c q=>by simp[q],.inl ⟨trivial,rfl,by omega⟩⟩
  have N:(e0 !=0)=true:=Yb.2 L;have D:(fH s).2.1=false:=by rw[u];exact WN.2 L
  refine ky (aN @dG @N) ?_;refine⟨_,(ke @dG),?_⟩;refine⟨Ext.Vt ⟨K,trivial⟩,?_⟩;unfold mu;rw[D]
  rfl
 have J:(s.take 4 !=[83,80,75,49])=true:=Yb.2 B;refine ky (qS1 @dG @A @J) ?_;refine⟨_,(ke @dG),?_⟩;refine⟨Ext.Vt trivial,?_⟩;unfold mu;rw[rT (.inr B)]
 rfl
def qr8.qy6{l:List WE}(h:AP l):qr8 l:=fun g a=>by have:=h g a;omega
def Sf(a b c d e:hU):#[a,b,c,d,e][0]? =some a:=rfl
def Rk(a b c d e:hU):#[a,b,c,d,e][1]? =some b:=rfl
def Sq(a b c d e:hU):#[a,b,c,d,e][2]? =some c:=rfl
def zSW(a b c d e:hU):#[a,b,c,d,e][3]? =some d:=rfl
def Rm(a b c d e:hU):#[a,b,c,d,e][4]? =some e:=rfl
structure SaG where
 k:Nat
 out:List Y8
 v:hU
 D:aA
 DG:aA
def Ux{o:Y8}{l:List Y8}{j:Nat}(h:j<l.length):decide (o∈l.take (j+1))=(decide (o∈l.take j) ||decide (l.getD j Z5=o)):=by
 rw[StP.WJ (z:=Z5) h];by_cases a:o∈l.take j
 .rw[aP a,aP (aq _ a)];rfl
 by_cases b:l.getD j Z5=o
 .rw[aP b,Bool.or_true];exact aP (cJ _ (by rw[b];exact VZ.2 rfl))
 rw[aW a,aW b];exact aW fun h=>by
  rcases Wu.1 h with h|h
  .exact a h
  exact b (VZ.1 h).symm
def dj:=aN (aN (qS1 @bA @b9 @Sx.Wk) (aN (aN @Sx.Wl @Sf) (aN @Rk @Sq))) (aN (qS1 @zSW @Rm @pe) (aN (aN @pa @pz) (aN @pq @BC)))
def IT(b:No)(w:hW)(hb:b.length<1099511627776):
  Va prog 113 #[vs b] w (XS w [] (fun v D=>Yq D 143 2 v (fu b).length ((fu b).map obC).flatten)):=by
 have zx:=(u7 b).1;have zg:=Hv b;refine Va.Vs func113 rfl (rs:=[.tmp 2]) results113 ntmps113 (fun p c=>by cases c) Wg ?_;refine kf ?_;refine ky @dj ?_;refine Ow.Wf rfl rfl call143 (fun t B=>Fh b t hb) (fun B1 v1 D1 zy zh zi C=>?_);have Y:Vq w.heap.size D1:=zi.mono zh;unfold mu at C;unfold fu;rw[Vy];cases Z:(fH b).2.1 with
 |false=>rw[Z,tr V_] at C;rw[tr V_];subst C;refine ko @dj ?_;refine ky @dj ?_;refine⟨_,(ke @dj),?_⟩;exact⟨Ext.Vt Y,Gr.i (X:=[]) Gr.nl fun p c=>by cases c⟩
 |true=>
  rw[Z,Vb rfl] at C;rw[Vb rfl];obtain⟨x,y,n,A,rfl,-,-,-,za,zz,-⟩:=C;generalize (fh b).1=l at*;have O:=kE za;refine ko @dj ?_;refine ky (aN @dj @O) ?_;refine Cw.Vd (M:=D1++([]++[])) V_ ?_;refine Cw.VU (G:=SaG) [26,27,28,29,33,34,35,32,36,37,10,11,38,39,41,42,40,43,44,12,13,14,15,45,46,47,48,51,52,53,54,55,56,57,58,59,49,50,60,61,62,63,64,65,66,67,68,8,30,31,9] (fun g=>[(8,g.v),(9,vi g.k)]) (fun g=>D1++(g.D++g.DG)) (fun g=>g.k<=l.length/\g.out=j7 l g.k/\Vq w.heap.size g.D/\Vq w.heap.size g.DG/\Gr g.D 143 2 g.v g.out.length (g.out.map obC).flatten) (fun g=>l.length - g.k) ⟨0,[], Vj,[],[]⟩ rfl rfl ?_ ?_
  .exact⟨aR _,rfl,trivial,trivial,Gr.nl⟩
  intro g j hg;refine kv ?_;obtain⟨k,out,v6,D6,DG⟩:=g;simp only at hg |-;obtain⟨hk,P,F,H,i⟩:=hg;have zj:=EV l k;rw[<-P] at zj;have zb:Vq w.heap.size (D1++(D6++DG)):=Y.app (F.app H);by_cases J:k<l.length
  .have Q:decide ((k:Int)< (l.length:Int))=true:=aP oM;have f:j7 l (k+1)=match Xj l (k:Nat) with
    | .ok s=>if Z3 s=true/\gK s∉j7 l k then j7 l k++[gK s] else j7 l k
    | .error _=>j7 l k:=rfl
   refine kz [7] (qS1 @dj @Q @O) ?_;refine Ow.Vc rfl call144 (fun t B=>IF x l (k:Int) t ((za.mono (fun R S=>by simp[S])).slV B rfl rfl E5) (qr8.qy6 zg)) ?_;rw[<-P] at f;cases c:Xj l (k:Nat) with
   |error e2=>rw[c] at f;simp only at f;have T:(e2 !=0)=true:=Yb.2 (Mr c);unfold j1;refine ko @dj ?_;refine ky (aN @dj @T) ?_;refine ky @dj ?_;exact Vo.mk ⟨k+1,out,v6,D6,DG⟩ (by show l.length - (k+1)<l.length - k;omega) ⟨J,by exact f.symm,F,H,i⟩ rfl rfl
   |ok s=>
    rw[c] at f;simp only at f;have zA:=Jy c;have T:((0:Int) !=0)=false:=rfl;have zk:(if qe1 s then lfK s else 0)=(gK s).k:=by rw[CF]
    have zl:(if qe1 s then(lfT (s.drop 1)).1 else [])=(gK s).t:=by rw[CF]
    have zm:=(p4 s).1;unfold j1;refine ko @dj ?_;refine ky (aN @dj @T) ?_;refine Ow.Vc rfl call112 (fun t B=>rU s t oM) ?_;rw[zk,zl,<-zm];refine ko @dj ?_;refine Ow.alloc rfl rfl qd1 fun d zB K=>?_;simp only[ag,Vy,Wp];refine Ow.Vd (M:=(d, Wh (vi 0) (vs []))::(D1++(D6++DG))) Xm ?_;refine ko @dj ?_;generalize zC:gK s=o at*;obtain⟨ok,a⟩:=o;have zD:Vq w.heap.size ((d,Wh (vi ok) (vs a))::(D1++(D6++DG))):=⟨K,zb⟩;refine Cw.world fun wz zc=>?_;have u:=zc.nodup;clear zc wz;have U:∀m,Yw (.sl m) v6=some (vi out.length):=fun m=>kE (Gr.i i (fun p c=>c)) m;refine ky (aN @dj @U) ?_;refine Cw.VU (G:=Nat) [45,46,47,48,51,52,53,54,55,56,57,58,59,14,49,50,15] (fun g=>[(14,.bool (decide ((⟨ok,a⟩:Y8)∈out.take g))),(15,vi g)]) (fun g=>(d, Wh (vi ok) (vs a))::(D1++(D6++DG))) (fun g=>g<=out.length) (fun g=>out.length - g) 0 rfl rfl ?_ ?_
    .exact aR _
    intro j jj hj;refine kv ?_;by_cases zd:j<out.length
    .have V:decide ((j:Int)< (out.length:Int))=true:=aP oM;have L:=Ux (o:=⟨ok,a⟩) zd;have zn:(keys D6).Nodup:=by
      simp only[keys,VY,We,Xd,XR] at u;exact u.2.2.1.1
     obtain h0| ⟨q,rc,rest,rfl,ze,zo⟩:=r2 (Gr.i i (fun p c=>c)) zn
     .omega
     have zq:q≠d:=by rintro rfl;simp only[keys,VY,We,Xd,Wu,not_or] at u;exact u.1.2.1 ze
     have zf:aG w ((d, Wh (vi ok) (vs a))::(D1++(D6++DG))) q=some (bW obC 143 rest out):=by
      have zr:q∉keys D1:=by simp only[keys,VY,We,Xd,XR,Wu] at u;intro hm;exact u.2.2.2 q hm q (.inl ze) rfl
      exact aO (by rw[jL _ _ _ _ (Wq zq),cu zr];exact a_ zo)
     have ld:aF (some (true,2)) (some (bW obC 143 rest out)) (j*2)=some (obV (out.getD j Z5).k (out.getD j Z5).t):=r0 (E:=143) (rest:=rest) (z:=Z5) k_ j zd;generalize out.getD j Z5=p at*;refine ky (qS1 @dj @V @U) ?_;cases r:decide ((⟨ok,a⟩:Y8)∈out.take j) with
     |true=>rw[r,Bool.true_or] at L;refine Cw.Vu [q,d] [0,1,2,3,4,5,6,7,8,9] [] kR kR kR ?_;refine WQ ?_;refine kq (qS1 @dj @zf @ld) ?_;refine ky @dj ?_;exact Vo.mk (j+1) oM oM rfl (by rw[L];rfl)
     |false=>rw[r,XW] at L;refine Cw.Vu [q,d] [0,1,2,3,4,5,6,7,8,9] [] kR kR kR ?_;refine WQ ?_;refine kq (qS1 @dj @zf @ld) ?_;refine ky @dj ?_;exact Vo.mk (j+1) oM oM rfl (by rw[L];rfl)
    obtain rfl:j=out.length:=by omega
    have V:decide ((out.length:Int)< (out.length:Int))=false:=aW oM;rw[WH];refine ky (qS1 @dj @V @U) ?_;cases I:Z3 s with
    |false=>rw[tr (fun h=>by rw[I] at h;cases h.1)] at f;refine ky (aN @dj @I) ?_;refine Cw.Vd (M:=D1++(D6++((d, Wh (vi ok) (vs a))::DG))) Xm ?_;refine ky @dj ?_;exact Vo.mk ⟨k+1,out,v6,D6,(d, Wh (vi ok) (vs a))::DG⟩ (by show l.length - (k+1)<l.length - k;omega) ⟨J,by exact f.symm,F,⟨K,H⟩,i⟩ rfl rfl
    |true=>
     cases r:decide ((⟨ok,a⟩:Y8)∈out) with
     |true=>rw[tr (fun h=>h.2 (Zu r))] at f;refine ky (qS1 @dj @I @r) ?_;refine Cw.Vd (M:=D1++(D6++((d, Wh (vi ok) (vs a))::DG))) Xm ?_;refine ky @dj ?_;exact Vo.mk ⟨k+1,out,v6,D6,(d, Wh (vi ok) (vs a))::DG⟩ (by show l.length - (k+1)<l.length - k;omega) ⟨J,by exact f.symm,F,⟨K,H⟩,i⟩ rfl rfl
     |false=>
      rw[Vb ⟨I,Z8 r⟩] at f;refine ky (qS1 @dj @I @r) ?_;refine Ow.buildSlice (e:=143) #[vi ok,vs a] rfl rfl (fa (cs:=obC ⟨ok,a⟩) underlying65 qb1 qd1 WT rfl) fun N zE zt=>?_;refine ko @dj ?_;refine Ow.Vd (M:=D6++((d, Wh (vi ok) (vs a))::(D1++(DG++[(N, Wh (vi ok) (vs a))])))) Xm ?_;refine Ow.W2 (e:=143) (k:=1) (new:=obC ⟨ok,a⟩) (X:=D6) v6 rfl rfl rfl rfl underlying65 qb1 kR qd1 (by rw[obV,ag];rfl) underlying65 (by intro k h;cases h) i (fun t B=>W0.X6 (B.has N (.cells (obC ⟨ok,a⟩).toArray 143 (0,0)) (by simp[obC])) (k_ _) (qv _)) oM (fun B5 v5 W zF zG zu zH zv zI=>?_);have zw:Vq w.heap.size W:=Vq.of_le fun R S=>by
       rcases zv R S with h|h
       .exact F.le R h
       omega
      refine ko @dj ?_;refine Cw.Vd (M:=D1++(W++((d, Wh (vi ok) (vs a))::(DG++[(N, Wh (vi ok) (vs a))])))) Xm ?_;refine ky @dj ?_;exact Vo.mk ⟨k+1,out++[⟨ok,a⟩],v5,W,(d, Wh (vi ok) (vs a))::(DG++[(N, Wh (vi ok) (vs a))])⟩ (by show l.length - (k+1)<l.length - k;omega) ⟨J,by exact f.symm,zw,⟨K,H.app ⟨zt,trivial⟩⟩,by simpa using zu⟩ rfl rfl
  obtain rfl:k=l.length:=by omega
  have Q:decide ((l.length:Int)< (l.length:Int))=false:=aW oM;refine ky (qS1 @dj @Q @O) ?_;refine⟨_,(ke @dj),?_⟩;refine⟨Ext.Vt zb,?_⟩;rw[<-P];exact Gr.i i fun p c=>by simp[c]
def qE3:No:=[83,76,79,49]
def jf(b:No):List Y8:=if(eG b).2=true/\4<= (eG b).1.length/\(eG b).1.take 4=qE3/\Z3 ((eG b).1.drop 4)=true then [gK ((eG b).1.drop 4)] else []
def ju(b:No):List Y8:=jf b++fu b
def gq(l:List XU):List Y8:=(l.map fun f=>ju f.data).flatten
def sm(b:No):(fu b).length<=200:=by
 unfold fu
 split
 .exact Xq (EV _ _) (u7 b).1
 exact aR _
def EN(b:No):(ju b).length<=201:=by
 have:=sm b;unfold ju jf
 split
 .simp;omega
 simp;omega
def r'(l:List XU){k:Nat}(h:k<l.length):gq (l.take (k+1))=gq (l.take k)++ju (l.getD k XH).data:=by unfold gq;rw[StP.WJ (z:=XH) h,We,Yu];simp
theorem EF(l:List XU):∀k,k<=l.length->(gq (l.take k)).length<=k*201
 |0,_=>by simp[gq]
 |k+1,h=>by have a:=EF l k oM;have b:=EN (l.getD k XH).data;rw[r' l oM,VV];omega
def C4(s:No):(eG s).1.length<=s.length:=by
 unfold eG
 split
 .simp
 split
 .simp only[W3];omega
 simp
structure qM2 where
 os:List Y8
 v:hU
 D:aA
 DG:aA
structure qM3 where
 k:Nat
 v:hU
 D:aA
 DG:aA
def fY:=aN (aN (aN @bA @b9) (aN @Sx.Wk @Sx.Wl)) (aN (aN @pe @pa) (aN @pz @pq))
def GS(v:hU)(l:List XU)(w:hW)(T:qg4 w v l)(hl:l.length<=1000)(hb:FiB l):
  Va prog 65 #[v] w (XS w [] (fun v D=> ∃D1 D2,D=D1++D2/\Gr D1 143 2 v (gq l).length ((gq l).map obC).flatten)):=by
 have B:=T.len;obtain⟨rb,off,arr,E,fz,C⟩:=T.row;refine Va.Vs func65 rfl (rs:=[.tmp 2]) results65 ntmps65 (fun p hp=>by cases hp) Wg ?_;refine kf ?_;refine ky (aN @fY @B) ?_;refine Cw.Vd (M:=[]++[]) (WW _) ?_;refine Cw.VU (G:=qM3) [9,10,11,12,16,17,18,19,20,21,15,22,23,5,6,24,25,26,27,28,29,30,31,32,33,34,36,37,38,35,39,40,7,8,41,42,43,44,45,3,46,47,48,49,50,51,52,53,13,14,4] (fun g=>[(3,g.v),(4,vi g.k)]) (fun g=>g.D++g.DG) (fun g=>g.k<=l.length/\Vq w.heap.size g.D/\Vq w.heap.size g.DG/\Gr g.D 143 2 g.v (gq (l.take g.k)).length ((gq (l.take g.k)).map obC).flatten) (fun g=>l.length - g.k) ⟨0, Vj,[],[]⟩ rfl rfl ?_ ?_
 .exact⟨aR _,trivial,trivial,Gr.nl⟩
 intro g j t;refine kv ?_;obtain⟨k,u,D,DG⟩:=g;simp only at t |-;obtain⟨hk,d,f,i⟩:=t;have zD:=EF l k hk;by_cases x:k<l.length
 .have J:decide ((k:Int)< (l.length:Int))=true:=aP oM;have zg:=C.lt oM;have U:=C.idx true k x;have V:∀n,aF (some (false,n)) (some (.cells arr E fz)) (off+k*3+2)=some (vs (l.getD k XH).data):=fun n=>ny C x n;have zh:=C.has (show 0<l.length by omega);have W:∀L,Vq w.heap.size L->aG w L rb=some (.cells arr E fz):=fun L hL=>by rw[dr (hL.not zg)];exact zh
  have Y:=(hb (l.getD k XH) (by rw[List.getD_eq_getElem?_getD,List.getElem?_eq_getElem x];exact Y3 _)).2;have zi:=r' l x;have zE:=EN (l.getD k XH).data;generalize (l.getD k XH).data=b at*;generalize zF:gq (l.take k)=os at*;have zj:=W _ (d.app f);have zk:=C4 b;have Z:ju b=jf b++fu b:=rfl;have a:jf b=if(eG b).2=true/\4<= (eG b).1.length/\(eG b).1.take 4=qE3/\Z3 ((eG b).1.drop 4)=true then [gK ((eG b).1.drop 4)] else []:=rfl
  have zG:=sm b;refine kz [8,1000006] (qS4 @fY @J @B @U @zj @V) ?_;refine Ow.Vc rfl call111 (fun m q=>Tv b m Y) ?_;generalize eG b=zl at*;obtain⟨s,ok⟩:=zl;simp only at zk a |-;refine ko @fY ?_;refine Cw.ZO (G:=qM2) [3,7,8,24,25,26,27,28,29,30,31,32,33,34,35,36,37,38,39,40,41,42,43,44,45] (fun g=>[(3,g.v)]) (fun g=>g.D++g.DG) (fun g=>Vq w.heap.size g.D/\Vq w.heap.size g.DG/\Gr g.D 143 2 g.v g.os.length (g.os.map obC).flatten/\g.os=os++jf b) ?_ ?_
  .cases ok with
   |false=>rw[tr V_] at a;refine ky @fY ?_;exact WY.mk ⟨os,u,D,DG⟩ ⟨d,f,i,by rw[a,VX]⟩ rfl rfl
   |true=>
    by_cases h4:4<=s.length
    .have F:decide ((4:Int)<= (s.length:Int))=true:=aP oM;have za:decide ((0:Int)<=4/\(4:Int)<= (s.length:Int))=true:=aP oM;have zH:decide ((4:Int)<= (s.length:Int)/\(s.length:Int)<= (s.length:Int))=true:=aP oM;by_cases H:s.take 4=qE3
     .have K:(s.take 4==[83,76,79,49])=true:=W8.2 H;refine kz [8] (qS2 @fY @F @za @K) ?_;refine Ow.Vc rfl call112 (fun m q=>rU (s.drop 4) m (by rw[XC];omega)) ?_;have zm:(if qe1 (s.drop 4) then lfK (s.drop 4) else 0)=(gK (s.drop 4)).k:=by rw[CF]
      have zn:(if qe1 (s.drop 4) then(lfT ((s.drop 4).drop 1)).1 else [])=(gK (s.drop 4)).t:=by rw[CF]
      have zo:=(p4 (s.drop 4)).1;rw[zm,zn,<-zo];refine ko @fY ?_;refine Ow.alloc rfl rfl qd1 fun b7 zI zb=>?_;simp only[ag,Vy,Wp];refine Ow.Vd (M:=(b7, Wh (vi 0) (vs []))::(D++DG)) Xm ?_;refine ko @fY ?_;generalize gK (s.drop 4)=o at*;obtain⟨ok,c⟩:=o;cases I:Z3 (s.drop 4) with
      |false=>rw[tr (fun h=>by rw[I] at h;cases h.2.2.2)] at a;refine Cw.Vd (M:=D++((b7, Wh (vi ok) (vs c))::DG)) Xm ?_;refine ky (aN @fY @I) ?_;exact WY.mk ⟨os,u,D,(b7, Wh (vi ok) (vs c))::DG⟩ ⟨d,⟨zb,f⟩,i,by rw[a,VX]⟩ rfl rfl
      |true=>
       rw[Vb ⟨rfl,h4,H,I⟩] at a;refine ky (aN @fY @I) ?_;refine Ow.buildSlice (e:=143) #[vi ok,vs c] rfl rfl (fa (cs:=obC ⟨ok,c⟩) underlying65 qb1 qd1 WT rfl) fun N zJ zq=>?_;refine ko @fY ?_;refine Ow.Vd (M:=D++((b7, Wh (vi ok) (vs c))::(DG++[(N, Wh (vi ok) (vs c))]))) Xm ?_;refine Ow.W2 (e:=143) (k:=1) (new:=obC ⟨ok,c⟩) (X:=D) u rfl rfl rfl rfl underlying65 qb1 kR qd1 (by rw[obV,ag];rfl) underlying65 (by intro k h;cases h) i (fun m q=>W0.X6 (q.has N (.cells (obC ⟨ok,c⟩).toArray 143 (0,0)) (by simp[obC])) (k_ _) (qv _)) oM (fun B5 O y zr zt P zu Q zv=>?_);have R:Vq w.heap.size y:=Vq.of_le fun r A=>by
        rcases Q r A with h|h
        .exact d.le r h
        omega
       refine ko @fY ?_;refine ky @fY ?_;exact WY.mk ⟨os++[⟨ok,c⟩],O,y,(b7, Wh (vi ok) (vs c))::(DG++[(N, Wh (vi ok) (vs c))])⟩ ⟨R,⟨zb,f.app ⟨zq,trivial⟩⟩,by simpa using P,by rw[a]⟩ rfl rfl
     have K:(s.take 4==[83,76,79,49])=false:=WN.2 H;rw[tr (fun h=>H h.2.2.1)] at a;refine ky (qS2 @fY @F @za @K) ?_;exact WY.mk ⟨os,u,D,DG⟩ ⟨d,f,i,by rw[a,VX]⟩ rfl rfl
    have F:decide ((4:Int)<= (s.length:Int))=false:=aW oM;rw[tr (fun h=>h4 h.2.1)] at a;refine ky (aN @fY @F) ?_;exact WY.mk ⟨os,u,D,DG⟩ ⟨d,f,i,by rw[a,VX]⟩ rfl rfl
  intro g j t;refine kv ?_;obtain⟨zw,v4,D4,zc⟩:=g;simp only at t |-;obtain⟨zd,ze,zx,zf⟩:=t;have zK:zw.length<=k*201+201:=by have:=EN b;rw[Z,VV] at this;rw[zf,VV];omega
  have zy:=W _ (zd.app ze);refine ky (qS3 @fY @B @U @zy @V) ?_;refine Ow.Wf rfl rfl call113 (fun m q=>IT b m Y) (fun B9 v9 S zL zz zA zB=>?_);have zC:Vq w.heap.size S:=zA.mono zz;refine ko @fY ?_;refine Ow.Vd (M:=D4++(zc++S)) Xm ?_;refine Ow.W2 (e:=143) (k:=(fu b).length) (new:=((fu b).map obC).flatten) (X:=D4) v4 rfl rfl rfl rfl underlying65 qb1 kR qd1 (by rw[obV,ag];rfl) underlying65 (by intro k h;cases h) zx (fun m q=>((zB.mono (fun r A=>by simp[A])).slV (z:=Z5) q rfl rfl k_).ql8 k_ qv) oM (fun B5 O y zr zt P zu Q zv=>?_);have R:Vq w.heap.size y:=Vq.of_le fun r A=>by
   rcases Q r A with h|h
   .exact zd.le r h
   omega
  refine ko @fY ?_;refine ky @fY ?_;exact Vo.mk ⟨k+1,O,y,zc++S⟩ (by show l.length - (k+1)<l.length - k;omega) ⟨x,R,ze.app zC,by rw[zi,Z,<-Wb,<-zf,VV,We,Yu];exact P⟩ rfl rfl
 obtain rfl:k=l.length:=by omega
 have J:decide ((l.length:Int)< (l.length:Int))=false:=aW oM;rw[WH] at i;refine ky (qS1 @fY @J @B) ?_;refine⟨_,(ke @fY),?_⟩;exact⟨Ext.Vt (d.app f),D,DG,rfl,i⟩
def idQ(o:Y8):Xl:=⟨Dig.qj7 (mE o.k o.t),nL _⟩
def jW(all:List Y8):Nat->Option (List Y8)
 |0=>some []
 |i+1=>match jW all i with
  |none=>none
  |some had=>if XF (all.getD i Z5).k (all.getD i Z5).t=true/\all.getD i Z5∉had then(if had.any (fun h=>(idQ h).l==(idQ (all.getD i Z5)).l)=true then none else some (had++[all.getD i Z5])) else some had
def jg(all:List Y8):Bool:=(jW all all.length).isNone
theorem Ud{all:List Y8}:∀ {j i:Nat},jW all i=none->i<=j->jW all j=none
 |0,i,h,a=>by
  obtain rfl:i=0:=by omega
  exact h
 |j+1,i,h,a=>by
  by_cases e:i=j+1
  .subst e;exact h
  have:=Ud (j:=j) h oM;unfold jW;rw[this]
theorem sF{all:List Y8}:∀ {i:Nat} {had:List Y8},jW all i=some had->had.length<=i
 |0,had,h=>by cases h;exact aj _
 |i+1,had,h=>by
  unfold jW at h;cases a:jW all i with
  |none=>rw[a] at h;cases h
  |some b=>
   have c:=sF a;rw[a] at h;simp only at h
   split at h
   .split at h
    .cases h
    cases h;rw[VV];simp;omega
   cases h;omega
structure ThG where
 j:Nat
 c:Bool
structure ClG where
 i:Nat
 had:List Y8
 v6:hU
 v7:hU
 D6:aA
 D7:aA
 DG:aA
def dW:=aN (aN (aN @bA @b9) (qS1 @Sx.Wk @Sx.Wl @pe)) (aN (qS1 @pa @pz @pq) (qS1 @BC @As @CC))
def JJ(v1 v2:hU)(l:List XU)(more:List Y8)(w:hW)(hv:qg4 w v1 l)(hl:l.length<=1000)(hb:FiB l)(n:qF4 w v2 more)(z6:more.length<=1000000):
  Va prog 31 #[v1,v2] w (fun v D=>v=.bool (jg (gq l++more))/\D=[]):=by
 have z7:=n.len;have zA:=EF l l.length (aj _);rw[WH] at zA;refine Va.Vr func31 rfl (rs:=[.tmp 4]) results31 ntmps31 ?_;refine kf ?_;refine ky @dW ?_;refine Ow.Wf rfl rfl call65 (fun A s=>GS v1 l A (hv.WO s trivial) hl hb) (fun B1 v4 D0 z8 zB zC zD=>?_);obtain⟨D1,zb,rfl,zE⟩:=zD;have zc:=zC.mono zB;rw[Vy];refine ko @dW ?_;refine Ow.W2 (e:=143) (k:=more.length) (new:=(more.map obC).flatten) (X:=D1) v4 rfl rfl rfl rfl underlying65 qb1 kR qd1 (by rw[obV,ag];rfl) underlying65 (by intro k h;cases h) zE (fun A s=>(n.WO s zc).ql8 k_ qv) oM (fun B5 v5 b z9 ya zo yb zF yc=>?_);have zG:Vq w.heap.size b:=Vq.of_le fun q f=>by
  rcases zF q f with h|h
  .exact zc.le q (by rw[aV];exact aq _ h)
  omega
 rw[<-Yu,<-We,<-VV] at zo;have yd:(gq l++more).length<=1300000:=by rw[VV];omega
 have zH:Vq w.heap.size zb:=Vq.of_le fun q f=>zc.le q (by rw[aV];exact cJ _ f);generalize gq l++more=all at*;have zq:=Gr.i zo (fun p u=>u);have zd:∀m,Yw (.sl m) v5=some (vi all.length):=fun m=>kE zq m;refine ko @dW ?_;refine ky (aN @dW @zd) ?_;refine Cw.Vd (M:=b++([]++([]++zb))) Xm ?_;refine Cw.VU (G:=ClG) [18,19,20,21,24,25,26,27,28,29,9,10,30,31,32,33,34,35,36,37,40,41,42,43,44,45,46,47,48,38,39,49,50,51,52,53,54,11,12,55,56,57,58,61,62,63,64,65,66,4,59,60,67,68,69,70,71,72,73,6,74,75,76,77,7,22,23,8] (fun g=>[(6,g.v6),(7,g.v7),(8,vi g.i)]) (fun g=>b++(g.D6++(g.D7++g.DG))) (fun g=>g.i<=all.length/\jW all g.i=some g.had/\Vq w.heap.size g.D6/\Vq w.heap.size g.D7/\Vq w.heap.size g.DG/\Gr g.D6 143 2 g.v6 g.had.length (g.had.map obC).flatten/\Gr g.D7 38 32 g.v7 g.had.length ((g.had.map idQ).map Ze).flatten) (fun g=>all.length - g.i) ⟨0,[], Vj, Vj,[],[],zb⟩ rfl rfl ?_ ?_
 .exact⟨aR _,rfl,trivial,trivial,zH,Gr.nl,Gr.nl⟩
 intro g j I;refine kv ?_;obtain⟨i,had,v6,v7,D6,D7,DG⟩:=g;simp only at I |-;obtain⟨hi,ze,T,U,V,J,K⟩:=I;have ye:=sF ze;have zr:Vq w.heap.size (b++(D6++(D7++DG))):=zG.app (T.app (U.app V));by_cases W:i<all.length
 .have d1:decide ((i:Int)< (all.length:Int))=true:=aP oM;have r:jW all (i+1)=if XF (all.getD i Z5).k (all.getD i Z5).t=true/\all.getD i Z5∉had then(if had.any (fun h=>(idQ h).l==(idQ (all.getD i Z5)).l)=true then none else some (had++[all.getD i Z5])) else some had:=by
   show(match jW all i with|none=>none|some had=>_)=_;rw[ze]
  refine Cw.world fun wz zt=>?_;have B:=zt.nodup;clear zt wz;simp only[aV,XR,Wu] at B;obtain h0| ⟨Z,ca,za,rfl,zI,zu⟩:=r2 zq B.1
  .omega
  have zf:∀Y,aG w (b++Y) Z=some (bW obC 143 za all):=fun Y=>aO (a_ zu);have L:aF (some (true,2)) (some (bW obC 143 za all)) (i*2)=some (obV (all.getD i Z5).k (all.getD i Z5).t):=r0 (E:=143) (rest:=za) (z:=Z5) k_ i W;have N:∀m,Yw (.sl m) v6=some (vi had.length):=fun m=>kE (Gr.i J (fun p u=>u)) m;have zg:∀m,Yw (.sl m) v7=some (vi had.length):=fun m=>kE (Gr.i K (fun p u=>u)) m;generalize all.getD i Z5=o at*;obtain⟨ok,a⟩:=o;simp only at L r;refine kz [7] (qS3 @dW @d1 @zd @L @zf) ?_;refine Ow.Vc rfl call66 (fun A s=>UT ok a A) ?_;refine ko @dW ?_;refine ky (aN @dW @N) ?_;refine Cw.VU (G:=ThG) [30,31,32,33,34,35,36,37,40,41,42,43,44,45,46,47,48,9,38,39,10] (fun g=>[(9,.bool g.c),(10,vi g.j)]) (fun g=>b++(D6++(D7++DG))) (fun g=>g.j<=had.length/\g.c=(!XF ok a||decide ((⟨ok,a⟩:Y8)∈had.take g.j))) (fun g=>had.length - g.j) ⟨0, !XF ok a⟩ rfl rfl ?_ ?_
  .exact⟨aR _,by simp⟩
  intro g j I;refine kv ?_;obtain⟨j,c⟩:=g;simp only at I |-;obtain⟨hj,C⟩:=I;by_cases zh:j<had.length
  .have O:decide ((j:Int)< (had.length:Int))=true:=aP oM;cases c with
   |true=>
    have zi:¬ (XF ok a=true/\(⟨ok,a⟩:Y8)∉had):=by rintro⟨h1,h2⟩;rw[h1,aW (fun h=>h2 (List.mem_of_mem_take h))] at C;cases C
    refine ky (qS1 @dW @O @N) ?_;rw[tr zi] at r;refine ky @dW ?_;exact Vo.mk ⟨i+1,had,v6,v7,D6,D7,DG⟩ (by show all.length - (i+1)<all.length - i;omega) ⟨W,r,T,U,V,J,K⟩ rfl rfl
   |false=>
    have F:=C.symm;rw[Zz] at F;have P:=Ux (o:=⟨ok,a⟩) zh;rw[F.2,XW] at P;obtain h0| ⟨Q,ch,zj,rfl,zJ,zK⟩:=r2 (Gr.i J (fun p u=>u)) B.2.1.1
    .omega
    have zk:Q∉keys b:=fun n=>B.2.2 Q n Q (.inl zJ) rfl;have zL:aG w (b++(D6++(D7++DG))) Q=some (bW obC 143 zj had):=aO (by rw[cu zk];exact a_ zK);have zM:aF (some (true,2)) (some (bW obC 143 zj had)) (j*2)=some (obV (had.getD j Z5).k (had.getD j Z5).t):=r0 (E:=143) (rest:=zj) (z:=Z5) k_ j zh;generalize had.getD j Z5=p at*;refine ky (qS1 @dW @O @N) ?_;refine Cw.Vu [Q,Z] [0,1,2,4,5,6,3,7,8,9] [] kR kR kR ?_;refine WQ ?_;refine kq (qS3 @dW @zL @zM @zf @L) ?_;refine ky @dW ?_;exact Vo.mk ⟨j+1,_⟩ (by show had.length - (j+1)<had.length - j;omega) ⟨zh,by rw[F.1,XW];exact P.symm⟩ rfl rfl
  obtain rfl:j=had.length:=by omega
  have O:decide ((had.length:Int)< (had.length:Int))=false:=aW oM;rw[WH] at C;cases c with
  |true=>
   have zi:¬ (XF ok a=true/\(⟨ok,a⟩:Y8)∉had):=by rintro⟨h1,h2⟩;rw[h1,aW h2] at C;cases C
   refine ky (qS1 @dW @O @N) ?_;rw[tr zi] at r;refine ky @dW ?_;exact Vo.mk ⟨i+1,had,v6,v7,D6,D7,DG⟩ (by show all.length - (i+1)<all.length - i;omega) ⟨W,r,T,U,V,J,K⟩ rfl rfl
  |false=>
   have F:=C.symm;rw[Zz] at F;have zv:XF ok a=true:=by simpa using F.1
   have zN:a.length<100000:=by have:=O9 (k:=ok) (t:=a) (by rw[ri];exact zv);omega
   rw[Vb ⟨zv,Z8 F.2⟩] at r;refine ky (qS3 @dW @O @N @zf @L) ?_;refine Ow.Vc rfl call67 (fun A s=>Oj ok a A zN) ?_;have zO:Dig.qj7 (mE ok a)=(idQ ⟨ok,a⟩).l:=rfl;rw[zO] at*;have yf:=(idQ ⟨ok,a⟩).h;have yg:=XY.h;generalize hx:idQ ⟨ok,a⟩=x at*;refine ko @dW ?_;refine Ow.alloc rfl rfl i_ fun d zw zx=>?_;simp only[ag,Vy,Wp];refine Ow.Vd (M:=(d, Vm XY.l)::(b++(D6++(D7++DG)))) Xm ?_;refine ko @dW ?_;refine ky (aN @dW @zg) ?_;refine Cw.VU (G:=Nat) [55,56,57,58,61,62,63,64,65,66,4,59,60,12] (fun g=>[(12,vi g)]) (fun g=>(d, Vm x.l)::(b++(D6++(D7++DG)))) (fun g=>g<=had.length/\(had.take g).any (fun h=>(idQ h).l==x.l)=false) (fun g=>had.length - g) 0 rfl rfl ?_ ?_
   .exact⟨aR _,rfl⟩
   intro m jm n;refine kv ?_;obtain⟨yh,zl⟩:=n;by_cases R:m<had.length
   .have d3:decide ((m:Int)< (had.length:Int))=true:=aP oM;obtain h0| ⟨y,cq,zm,rfl,zn,zP⟩:=r2 (l:=had.map idQ) (enc:=Ze) (by rw[Wx];exact Gr.i K (fun p u=>u)) B.2.1.2.1.1
    .rw[Wx] at h0;omega
    rw[Wx] at*;have zk:y∉keys b:=fun n=>B.2.2 y n y (.inr (.inl zn)) rfl;have zQ:y∉keys D6:=fun n=>B.2.1.2.2 y n y (.inl zn) rfl;have yi:y<d:=aQ zw (by simp only[aV,Wu];exact .inr (.inr (.inl zn)));have zR:aG w ((d, Vm x.l)::(b++(D6++(D7++DG)))) y=some (bW Ze 38 zm (had.map idQ)):=aO (by rw[jL _ _ _ _ oM,cu zk,cu zQ];exact a_ zP);have zS:aF (some (true,32)) (some (bW Ze 38 zm (had.map idQ))) (m*32)=some (.agg (a8 (idQ (had.getD m Z5)).l)):=by have:=r0 (E:=38) (rest:=zm) (z:=XY) pw m (show m< (had.map idQ).length by rw[Wx];exact R);rw[qt,show(had.map idQ).getD m XY=idQ (had.getD m Z5) from by rw[List.getD_eq_getElem?_getD,List.getD_eq_getElem?_getD,List.getElem?_map,List.getElem?_eq_getElem R];rfl] at this;exact this
    have zT:had.getD m Z5∈had:=W9 R;have P:(had.take (m+1)).any (fun h=>(idQ h).l==x.l)=((idQ (had.getD m Z5)).l==x.l):=by rw[StP.WJ (z:=Z5) R,List.any_append,zl];simp
    generalize had.getD m Z5=p at*;refine ky (qS1 @dW @d3 @zg) ?_;refine Cw.Vu [y,d] [0,1,2,3,4,5] [] kR kR kR ?_;refine WQ ?_;refine kq (qS1 @dW @zR @zS) ?_;cases f:((idQ p).l==x.l) with
    |true=>
     have zU:had.any (fun h=>(idQ h).l==x.l)=true:=List.any_eq_true.2 ⟨p,zT,f⟩;rw[Vb zU] at r;have zV:=Ud r (show i+1<=all.length by omega);refine ky (aN @dW @f) ?_;refine⟨_,(ke @dW),(show Vq w.heap.size ((d,_)::(b++(D6++(D7++DG)))) from⟨zx,zr⟩),?_⟩
     (unfold jg;rw[zV];rfl)
    |false=>rw[f] at P;refine ky (aN @dW @f) ?_;exact Vo.mk (m+1) oM ⟨R,P⟩ rfl rfl
   obtain rfl:m=had.length:=by omega
   have d3:decide ((had.length:Int)< (had.length:Int))=false:=aW oM;rw[WH] at zl;rw[tr (by rw[zl];simp)] at r;have yj:Z<d:=aQ zw (by simp only[aV,Wu];exact .inl zI);have zW:∀zy Y,aG w ((d,zy)::(b++Y)) Z=some (bW obC 143 za all):=fun zy Y=>aO (by rw[jL _ _ _ _ oM];exact a_ zu);refine ky (qS3 @dW @d3 @zg @zW @L) ?_;refine Ow.buildSlice (e:=143) #[vi ok,vs a] rfl rfl (fa (cs:=obC ⟨ok,a⟩) underlying65 qb1 qd1 WT rfl) fun H yk zX=>?_;refine ko @dW ?_;refine Ow.Vd (M:=D6++((d, Vm x.l)::(b++(D7++(DG++[(H, Wh (vi ok) (vs a))]))))) Xm ?_;refine Ow.W2 (e:=143) (k:=1) (new:=obC ⟨ok,a⟩) (X:=D6) v6 rfl rfl rfl rfl underlying65 qb1 kR qd1 (by rw[obV,ag];rfl) underlying65 (by intro k h;cases h) J (fun A s=>W0.X6 (s.has H (.cells (obC ⟨ok,a⟩).toArray 143 (0,0)) (by simp[obC])) (k_ _) (qv _)) oM (fun B8 zY S yl ym zZ yn z0 yo=>?_);have z1:Vq w.heap.size S:=Vq.of_le fun q f=>by
    rcases z0 q f with h|h
    .exact T.le q h
    omega
   refine Ow.Vd (M:=(d, Vm x.l)::(b++(S++(D7++(DG++[(H, Wh (vi ok) (vs a))]))))) Xm ?_;refine ko @dW ?_;refine ky @dW ?_;refine Ow.buildSlice (e:=38) (a8 x.l) rfl rfl (fa (cs:=x.l.map v8) underlying140 ql7 i_ WT (by simp[x.h])) fun ba yp z2=>?_;refine ko @dW ?_;refine Ow.Vd (M:=D7++((d, Vm x.l)::(b++(S++(DG++[(H, Wh (vi ok) (vs a)),(ba, Vm x.l)]))))) Xm ?_;refine Ow.W2 (e:=38) (k:=1) (new:=Ze x) (X:=D7) v7 rfl rfl rfl rfl underlying140 ql7 kR i_ (by rw[ag,mi,XY.h]) underlying140 (by intro k h;cases h) K (fun A s=>W0.X6 (by rw[qt];exact s.has ba (Vm x.l) V_) (pw _) (sr _)) oM (fun B9 z3 D9 yq yr zz ys z4 yt=>?_);have z5:Vq w.heap.size D9:=Vq.of_le fun q f=>by
    rcases z4 q f with h|h
    .exact U.le q h
    omega
   refine ko @dW ?_;refine Cw.Vd (M:=b++(S++(D9++((d, Vm x.l)::(DG++[(H, Wh (vi ok) (vs a)),(ba, Vm x.l)]))))) Xm ?_;refine ky @dW ?_;have yu:(had++[(⟨ok,a⟩:Y8)]).length=had.length+1:=by simp
   exact Vo.mk ⟨i+1,had++[⟨ok,a⟩],zY,z3,S,D9,(d, Vm x.l)::(DG++[(H, Wh (vi ok) (vs a)),(ba, Vm x.l)])⟩ (by show all.length - (i+1)<all.length - i;omega) ⟨W,r,z1,z5,⟨zx,V.app ⟨zX,z2,trivial⟩⟩,by simpa using zZ,by rw[<-hx] at zz;simpa using zz⟩ rfl rfl
 obtain rfl:i=all.length:=by omega
 have d1:decide ((all.length:Int)< (all.length:Int))=false:=aW oM;refine ky (qS1 @dW @d1 @zd) ?_;refine⟨_,(ke @dW),zr,?_⟩
 (unfold jg;rw[ze];rfl)
def Z7(l:List XU):Nat:=(l.map fun f=>f.data.length / 100+f.name.length).sum
def mw(l:List XU)(more:List Y8):Bool:=decide (60<l.length) ||decide (1000<Z7 l) ||jg (gq l++more)
def LI(l:List XU){k:Nat}(h:k<l.length):Z7 (l.take (k+1))=Z7 (l.take k)+ (l.getD k XH).data.length / 100+ (l.getD k XH).name.length:=by unfold Z7;rw[StP.WJ (z:=XH) h,We,List.sum_append,List.map_singleton,List.sum_singleton,Nat.add_assoc]
def Ph(l:List XU)(k:Nat):Z7 (l.take k)<=Z7 l:=by
 have:Z7 l=Z7 (l.take k)+Z7 (l.drop k):=by unfold Z7;rw[<-List.sum_append,<-We,Y1]
 omega
def OB{l:List XU}{f:XU}(h:f∈l):f.data.length / 100+f.name.length<=Z7 l:=by
 unfold Z7
 induction l with
 |nil=>cases h
 |cons g l a=>
  rw[VY,List.sum_cons];rcases Vw.1 h with rfl|h
  .omega
  have:=a h;omega
def ND{l:List XU}{more:List Y8}(h:mw l more=false):l.length<=60/\jg (gq l++more)=false/\ ∀f,f∈l->f.name.length<=1000/\f.data.length<100100:=by unfold mw at h;simp only[Zz,qc9] at h;refine⟨by omega,h.2,fun f a=>?_⟩;have:=OB a;omega
structure GfG where
 n:Nat
 k:Nat
def jF:=aN @bA @b9
def F_(v1 v2:hU)(l:List XU)(more:List Y8)(w:hW)(d:qg4 w v1 l)(i:FiB l)(q:qF4 w v2 more)(s:more.length<=1000000):
  Va prog 5 #[v1,v2] w (fun v D=>v=.bool (mw l more)/\D=[]):=by
 have b:=d.len;obtain⟨t,off,arr,E,fz,c⟩:=d.row;refine Va.Vr func5 rfl (rs:=[.tmp 4]) results5 ntmps5 ?_;refine kf ?_;by_cases m:60<l.length
 .have e:decide ((60:Int)< (l.length:Int))=true:=aP oM;refine ky (qS1 @jF @b @e) ?_;refine⟨_,(ke @jF),trivial,?_⟩
  (unfold mw;rw[aP m];rfl)
 have e:decide ((60:Int)< (l.length:Int))=false:=aW oM;refine ky (qS1 @jF @b @e) ?_;refine Cw.VU (G:=GfG) [10,11,12,13,16,17,18,19,20,21,22,23,24,25,26,27,28,29,30,31,5,32,33,4,14,15,6] (fun g=>[(5,vi g.n),(6,vi g.k)]) (fun g=>[]) (fun g=>g.k<=l.length/\g.n<=1000/\g.n=Z7 (l.take g.k)) (fun g=>l.length - g.k) ⟨0,0⟩ rfl rfl ?_ ?_
 .exact⟨aR _,aR _,rfl⟩
 intro g j o;refine kv ?_;obtain⟨n,k⟩:=g;simp only at o |-;obtain⟨H,I,u⟩:=o;by_cases a:k<l.length
 .have f:decide ((k:Int)< (l.length:Int))=true:=aP oM;have x:=c.idx true k a;have y:=c.has oM;have z:∀n,aF (some (false,n)) (some (.cells arr E fz)) (off+k*3+1)=some (vs (l.getD k XH).name):=fun n=>wS c a n;have A:∀n,aF (some (false,n)) (some (.cells arr E fz)) (off+k*3+2)=some (vs (l.getD k XH).data):=fun n=>ny c a n;have J:=i (l.getD k XH) (by rw[List.getD_eq_getElem?_getD,List.getElem?_eq_getElem a];exact Y3 _);have K:=LI l a;have L:=Ph l (k+1);generalize l.getD k XH=r at*;have B:((n:Int)+ (r.data.length:Int).tdiv 100)+ (r.name.length:Int)=((n+r.data.length / 100+r.name.length:Nat):Int):=by
   rw[Int.tdiv_eq_ediv_of_nonneg oM];omega
  have C:((n:Int)+ (r.data.length:Int) / 100)+ (r.name.length:Int)=((n+r.data.length / 100+r.name.length:Nat):Int):=by omega
  refine ky (qS1 @jF @b @f) ?_;refine Cw.Vu [t] [0,1,2,3,4,9,10,11,12,5,6,7,8,13,14,15,16] [] kR kR kR ?_;refine WQ ?_;refine kq (qS6 @jF @b @x @y @z @A @B @C) ?_;by_cases M:1000<n+r.data.length / 100+r.name.length
  .have h:decide ((1000:Int)< ((n+r.data.length / 100+r.name.length:Nat):Int))=true:=aP oM;refine ky (aN @jF @h) ?_;refine⟨_,(ke @jF),trivial,?_⟩
   (unfold mw;rw[aP (show 1000<Z7 l by omega),Bool.or_true];rfl)
  have h:decide ((1000:Int)< ((n+r.data.length / 100+r.name.length:Nat):Int))=false:=aW oM;refine ky (aN @jF @h) ?_;exact Vo.mk ⟨n+r.data.length / 100+r.name.length,k+1⟩ (by show l.length - (k+1)<l.length - k;omega) ⟨a,by show n+r.data.length / 100+r.name.length<=1000;omega,by show n+r.data.length / 100+r.name.length=Z7 (l.take (k+1));omega⟩ rfl rfl
 have f:decide ((k:Int)< (l.length:Int))=false:=aW oM;rw[show l.take k=l from Yo oM] at u;refine ky (qS1 @jF @b @f) ?_;refine Ow.Vc rfl call31 (fun F p=>JJ v1 v2 l more F (d.WO p trivial) oM i (q.WO p trivial) s) ?_;refine ko @jF ?_;refine ky @jF ?_;refine⟨_,(ke @jF),trivial,?_⟩
 (unfold mw;rw[aW m,aW (show¬1000<Z7 l by omega)];rfl)
instance:DecidableEq XU:=fun a b=>if h:a.dir=b.dir/\a.name=b.name/\a.data=b.data then .isTrue (by cases a;cases b;simp only at h;obtain⟨rfl,rfl,rfl⟩:=h;rfl) else .isFalse (fun e=>h (by rw[e];exact⟨rfl,rfl,rfl⟩))
def kJ:=aN (aN @bA @b9) (aN @wH @qQ9)
def FC(v1 v2:hU)(a b:List XU)(w:hW)(q:qg4 w v1 a)(r:qg4 w v2 b)(L:a.length<1000000000):
  Va prog 24 #[v1,v2] w (fun v D=>v=.bool (decide (a=b))/\D=[]):=by
 have d:=q.len;have s:=r.len;obtain⟨t,M,N,O,P,i⟩:=q.row;obtain⟨u,Q,R,S,T,j⟩:=r.row;refine Va.Vr func24 rfl (rs:=[.tmp 4]) results24 ntmps24 ?_;refine kf ?_;by_cases l:a.length=b.length
 .have m:((a.length:Int) !=(b.length:Int))=false:=by rw[l];exact qi4 _
  refine ky (qS2 @kJ @d @s @m) ?_;refine Cw.VU (G:=Nat) [11,12,13,14,17,18,19,20,21,22,23,24,25,4,15,16,5] (fun g=>[(5,vi g)]) (fun g=>[]) (fun g=>g<=a.length/\a.take g=b.take g) (fun g=>a.length - g) 0 rfl rfl ?_ ?_
  .exact⟨aR _,rfl⟩
  intro k U A;refine kv ?_;obtain⟨V,n⟩:=A;by_cases f:k<a.length
  .have o:k<b.length:=by omega
   have p:decide ((k:Int)< (a.length:Int))=true:=aP oM;have B:=i.idx true k f;have C:=j.idx true k o;have E:=i.has (show 0<a.length by omega);have F:=j.has (show 0<b.length by omega);have H:=Ab i f;have I:=Ab j o;have J:a.take (k+1)=b.take (k+1)↔a.getD k XH=b.getD k XH:=by
    rw[StP.WJ (z:=XH) f,StP.WJ (z:=XH) o,n]
    constructor
    .intro h;simpa using h
    intro h;rw[h]
   have K:a=b->a.getD k XH=b.getD k XH:=fun h=>by rw[h]
   generalize a.getD k XH=x at*;generalize b.getD k XH=y at*;refine ky (qS1 @kJ @d @p) ?_;refine Cw.Vu [t,u] [0,1,2,4,5,6,3,7,8] [] kR kR kR ?_;refine WQ ?_;refine kq (qS5 @kJ @B @C @E @F @H @I) ?_;cases c:(x.dir==y.dir&&x.name==y.name&&x.data==y.data) with
   |true=>
    have e:x=y:=by simp only[WK,W8] at c;cases x;cases y;simp only at c;obtain⟨⟨rfl,rfl⟩,rfl⟩:=c;rfl
    refine ky (aN @kJ @c) ?_;exact Vo.mk (k+1) oM ⟨f,J.2 e⟩ rfl rfl
   |false=>
    refine ky (aN @kJ @c) ?_;refine⟨_,(ke @kJ),trivial,?_⟩
    (rw[aW (fun h=>by have e:=K h;rw[e] at c;simp at c)];rfl)
  obtain rfl:k=a.length:=by omega
  have p:decide ((a.length:Int)< (a.length:Int))=false:=aW oM;refine ky (qS1 @kJ @d @p) ?_;refine⟨_,(ke @kJ),trivial,?_⟩
  (rw[WH,l,WH] at n;rw[aP n];rfl)
 have m:((a.length:Int) !=(b.length:Int))=true:=Yb.2 oM;refine ky (qS2 @kJ @d @s @m) ?_;refine⟨_,(ke @kJ),trivial,?_⟩
 (rw[aW (fun h=>l (by rw[h]))];rfl)
end Go.Proofs
end
section
open Go Go.Proofs Go.Sx Go.StP
namespace Go.Proofs
def na{w:hW}{L:aA}(a:jT w)(b:Vq w.heap.size L):0∉keys L:=by obtain⟨e,fz,c⟩:=a;exact b.not (Array.getElem?_eq_some_iff.1 c).1
def kY{w a:hW}{L:aA}(b:jT w)(h:Hp w L a)(d:Vq w.heap.size L):jT a:=by have f:=na b d;obtain⟨e,fz,c⟩:=b;exact⟨e,fz,(h.Wo _ (Array.getElem?_eq_some_iff.1 c).1 f).trans c⟩
end Go.Proofs
end
section
open Go Go.Proofs Go.Sx Go.StP Go.Flo
namespace Go.Proofs
theorem qn4.Wo{w c:hW}{L:aA}{a:qF1}(h:qn4 w a)(d:Hp w L c)(e:Vq w.heap.size L):qn4 c a:=
 ⟨h.pk.Wo d fun f b g=>e.not (h.pk.blk f g),h.n⟩
def Nz{S S':h8}{kind:Int}{dir name s:No}{e:Nat}(h:Xc S kind dir name s S' e):S'.files.length<=S.files.length+1:=by
 obtain⟨-,a,-⟩:=d7 S;cases h with
 |same=>exact Nat.le_succ _
 |Y5=>rw[a];exact Nat.le_succ _
 |create=>show((aD S).1.files++[bV]).length<=_;rw[a,VV];exact aj _
 |append=>show((aD S).1.files.set _ _).length<=_;rw[X8,a];exact Nat.le_succ _
 |sync=>show((aD S).1.files.set _ _).length<=_;rw[X8,a];exact Nat.le_succ _
 |syncDir=>show(aD S).1.files.length<=_;rw[a];exact Nat.le_succ _
 |rename=>show(aD S).1.files.length<=_;rw[a];exact Nat.le_succ _
 |remove=>show(aD S).1.files.length<=_;rw[a];exact Nat.le_succ _
def LQ(S:h8)(pl:List UInt16):(du S pl).files.length=S.files.length:=by
 have d:∀ (l:W_) (b:h8×List UInt16),(l.foldl ct b).1.files.length=b.1.files.length:=fun l=>by
  induction l with
  |nil=>exact fun _=>rfl
  |cons a l c=>intro b;rw[List.foldl_cons,c];show(b.1.files.set _ _).length=_;rw[X8]
 have e:∀ (b:h8×List UInt16) k,(dF b k).1.files.length=b.1.files.length:=fun b k=>by
  induction k with
  |zero=>rfl
  |succ k c=>show(List.foldl ct _ _).1.files.length=_;rw[d,c]
 unfold du;rw[e];show(cS (S,pl) 3).1.files.length=_;rw[Cs]
def Qi(q:Int)(l:List XU):(ofD q l).files.length<=l.length:=by
 have:∀i,i<=l.length->(ofN l q i).files.length<=i/\ ∀k,((ofN l q i).dir k).seen.length<=i:=fun i=>by
  induction i with
  |zero=>exact fun _=>⟨aj _,fun _=>aj _⟩
  |succ i a=>exact fun h=>by rw[uu l q oM];exact rX _ _ (a oM)
 have h:=(this l.length (aj _)).1;unfold ofN at h;rw[WH] at h;exact h
def XG.qf3{X L:aA}{G:XE}{S:h8}{w0 w:hW}(h:XG X G S)(a:Hp w0 L w)(c:∀p,p∈X->p∈L):DkW w G S:=⟨X,fun b o d=>a.has b o (c _ (bU d)),h⟩
def XT.qf3{X L:aA}{G:Yd}{S:h8}{w0 w:hW}(h:XT X G S)(a:Hp w0 L w)(c:∀p,p∈X->p∈L):DcW w G S:=⟨X,fun b o d=>a.has b o (c _ (bU d)),h⟩
def IC(X:aA)(G:Yd)(S:h8)(n:Int)(w:hW)(b:∀p,p∈X->w.heap[p.1]? =some p.2)(d:(keys X).Nodup)(a:XT X G S)(e: -9223372036854775808<=n/\n<9223372036854775808):
  Va prog 21 #[vp G.bd 0,vi n] w (XS w X (fun v D=>v=bS []/\ ∃c,c.bd=G.bd/\XT D c {S with Wv:=n,fused:=decide (0<=n)})):=by
 refine Va.mono (Va.chunk b d (bO a.disk) (Gq G S n w e (b _ (bU a.disk)))) ?_;rintro v D ⟨f,o,rfl,rfl,rfl⟩;exact⟨f,rfl,G,rfl,a.qy9 {S with Wv:=n,fused:=decide (0<=n)} rfl rfl⟩
def fe{w0:hW}{L X D:aA}{b:Nat}(a:qf5 w0 L X D)(c:b∉keys X)(d:b∈keys L):b∉keys D:=fun e=>by
 rcases a.new b e with h| ⟨h,-⟩
 .exact c h
 have:=aQ h d;omega
def lY(w:hW){X Y:aA}{b:Nat}(o:Obj)(a:aA)(c:b∉keys X)(d:b∉keys Y):aG w (X++(Y++((b,o)::a))) b=some o:=aO (by rw[cu c,cu d];simp[Sx.look])
end Go.Proofs
end
section
open Go Go.Proofs Go.Sx Go.StP
namespace Go.Proofs
def bB(S:h8)(j:Nat)(x:No):Option No:=(aL (S.dir j).seen x).map fun n=>(aC S n).data
structure W1(S:h8):Prop where
 srt:∀k,k<3->YG (S.dir k).seen
 lt:LtS S
 uniq:g8 S
def XK.qa4{S:h8}(ok:XK S)(a:g8 S):W1 S:=⟨ok.seen,ok.seenN,a⟩
def U5{p:No×Nat}{l:W_}{s:No}(h:s≠p.1):aL (p::l) s=aL l s:=by unfold aL;rw[List.find?_cons,WN.2 h]
def qJ(p:No×Nat)(l:W_):aL (p::l) p.1=some p.2:=by unfold aL;rw[List.find?_cons,Yf];rfl
def aB(s:No):No:=s++[46,116,109,112]
def mF(s:No):aB s≠s:=fun h=>by have:=Wc List.length h;unfold aB at this;simp at this
def qM5(dir nm:No)(j:Nat)(x:No):Prop:=bT j=dir->x≠nm/\x≠aB nm
section
variable {S S':h8} {kind:Int} {dir name s:No} {e:Nat}
def iP(q:W1 S)(h:Xc S kind dir name s S' e):W1 S':=by
 obtain⟨r,v,-⟩:=d7 S;have b:W1 (aD S).1:=⟨fun k a=>by rw[r];exact q.srt k a,fun k a p g=>by rw[r] at g;rw[v];exact q.lt k a p g,kc q.uniq fun k _=>by rw[r]⟩;have WM:∀ {d:h8} {k:Nat} {c:Wy},W1 d->k<3->okC (d.dir k).seen c->(c.kind=0->c.n<d.files.length/\ ∀j,j<3-> ∀n,n∈ (d.dir j).seen->n.2≠c.n)->W1 (b_ d k c):=fun{d k c} l a x w=>
  ⟨fun j i=>by
   rw[mV]
   split
   .exact CI c (l.srt k a)
   .exact l.srt j i,fun j i p g=>by
   show p.2<d.files.length;rcases r3 x g with⟨t,-⟩ | ⟨rfl,t,rfl⟩ | ⟨rfl,t,m,z,rfl⟩
   .exact l.lt j i p t
   .exact(w t).1
   exact l.lt j a (c.a,m) (eY z),Bq l.uniq a x fun A=>(w A).2⟩
 have set:∀ {d:h8} (m:Nat) (f:WR),W1 d->W1 (dJ d m f):=fun{d} m f l=>⟨l.srt,fun k a p g=>by show p.2< (d.files.set m f).length;rw[X8];exact l.lt k a p g,kc l.uniq fun _ _=>rfl⟩;cases h with
 |same=>exact q
 |Y5=>exact b
 |create k a y w o=>
  refine WM (d:=ci (aD S).1 bV) ⟨b.srt,fun j i p g=>?_,kc b.uniq fun _ _=>rfl⟩ (cN a).1 (fun e=>by cases e) fun _=>⟨?_,fun j i n B=>?_⟩
  .have:=b.lt j i p g;show p.2< ((aD S).1.files++[bV]).length;rw[VV];omega
  .show S.files.length< ((aD S).1.files++[bV]).length;rw[v,VV];simp
  have:=b.lt j i n B;rw[v] at this;show n.2≠S.files.length;omega
 |append k m a u y o=>exact set m _ b
 |sync k m a u o=>exact set m _ b
 |syncDir k a o=>exact⟨fun j i=>by rw[pJ];exact b.srt j i,fun j i p g=>by rw[pJ] at g;exact b.lt j i p g,kc b.uniq fun j _=>pJ _ _ _⟩
 |rename k m D a u y C o=>exact WM b (cN a).1 (by rw[r];exact lH u C) fun e=>by cases e
 |remove k m a u o=>exact WM b (cN a).1 (fun e=>by cases e) fun e=>by cases e
def BU{S S':h8}{j:Nat}{x:No}(a:aL (S'.dir j).seen x=aL (S.dir j).seen x)(b:∀n,aL (S.dir j).seen x=some n->(aC S' n).data=(aC S n).data):bB S' j x=bB S j x:=by
 unfold bB;rw[a];cases c:aL (S.dir j).seen x with
 |none=>rfl
 |some n=>exact Wc some (b n c)
def D_(q:W1 S)(h:Xc S kind dir name s S' e){j:Nat}(r:j<3){x:No}(w:bT j=dir->x≠name/\(kind=4->x≠s)):bB S' j x=bB S j x:=by
 obtain⟨d,t,-⟩:=d7 S;have i:∀ {k},al dir=some k->j=k->x≠name/\(kind=4->x≠s):=fun a e=>w (by rw[e];exact(cN a).2.symm);have WM:∀ {l:h8} {k:Nat} {c:Wy},(∀n,n<S.files.length->aC l n=aC S n)->l.dir=S.dir->(j=k->c.a≠x/\(c.kind=1->c.b≠x))->bB (b_ l k c) j x=bB S j x:=fun{l k c} p u y=>
  BU (by
   rw[mV];by_cases e:j=k
   .rw[Vb e,sn (y e),u,e]
   .rw[tr e,u]) fun n g=>by
   show(aC l n).data=_;rw[p n (q.lt j r _ (eY g))]
 have set:∀ {k m:Nat} (f:WR),al dir=some k->aL (S.dir k).seen name=some m->bB (dJ (aD S).1 m f) j x=bB S j x:=fun{k m} f a b=>
  BU (by show aL ((aD S).1.dir j).seen x=_;rw[d]) fun n g=>by
   have z:m< (aD S).1.files.length:=by rw[t];exact q.lt k (cN a).1 _ (eY b)
   rw[iQ _ _ z,i8];by_cases e:n=m
   .subst e;have v:=q.uniq j k r (cN a).1 _ (eY g) _ (eY b) rfl;exact Vx (Wc Prod.fst v.2) (i a v.1).1
   rw[tr e]
 cases h with
 |same=>rfl
 |Y5=>exact BU (by rw[d]) fun n _=>by rw[i8]
 |create k a p g o=>exact WM (fun n g=>by rw[Dx _ _ (by rw[t];exact g),i8]) d fun e=>⟨Wq (i a e).1,fun h=>by cases h⟩
 |append k m a b p o=>exact set _ a b
 |sync k m a b o=>exact set _ a b
 |syncDir k a o=>exact BU (by rw[pJ,d]) fun n _=>by show(aC (aD S).1 n).data=_;rw[i8]
 |rename k m A a b p B o=>exact WM (fun n _=>i8 S n) d fun e=>⟨Wq (i a e).1,fun _=>Wq ((i a e).2 A)⟩
 |remove k m a b o=>exact WM (fun n _=>i8 S n) d fun e=>⟨Wq (i a e).1,fun h=>by cases h⟩
end
structure Yg where
 dir:No
 name:No
 data:No
 light:Bool
 next:Nat
 made:Bool
 ended:Bool
structure Z9 where
 did:Bool
 e:Nat
 t:Yg
 S:h8
def fy(t:Yg)(S:h8):Z9:=if(bX S t.dir (aB t.name)).2≠0 then⟨false,0,t,S⟩ else⟨true,(d5 S t.dir (aB t.name)).2,t,(d5 S t.dir (aB t.name)).1⟩
def q_(t:Yg)(S:h8):Z9:=⟨true,(cC S t.dir (aB t.name)).2,{t with made:=(cC S t.dir (aB t.name)).2==0},(cC S t.dir (aB t.name)).1⟩
def oH(t:Yg)(S:h8):Z9:=⟨true,(bD S t.dir (aB t.name) t.data).2,t,(bD S t.dir (aB t.name) t.data).1⟩
def i6(t:Yg)(S:h8):Z9:=if t.light=true then⟨false,0,t,S⟩ else⟨true,(az S t.dir (aB t.name)).2,t,(az S t.dir (aB t.name)).1⟩
def nj(t:Yg)(S:h8):Z9:=⟨true,(cO S t.dir (aB t.name) t.name).2,{t with made:=t.made&& (cO S t.dir (aB t.name) t.name).2 !=0},(cO S t.dir (aB t.name) t.name).1⟩
def mh(t:Yg)(S:h8):Z9:=if t.light=true then⟨false,0,t,S⟩ else⟨true,(dZ S t.dir).2,t,(dZ S t.dir).1⟩
def Xa(k:Nat)(t:Yg)(S:h8):Z9:=match k with
 |0=>fy t S
 |1=>q_ t S
 |2=>oH t S
 |3=>i6 t S
 |4=>nj t S
 |_=>mh t S
structure StR where
 done:Bool
 e:Nat
 t:Yg
 S:h8
def YV(r:Z9):Yg:={r.t with next:=r.t.next+1}
def eU(t:Yg):Bool:=t.next==6|| (t.light&&t.next==5)
def cc(r:Z9):StR:=if(YV r).made=true/\r.e≠9 then⟨false,r.e,{YV r with ended:=true},(d5 r.S r.t.dir (aB r.t.name)).1⟩ else⟨false,r.e,{YV r with ended:=true},r.S⟩
def ek(r:Z9):Yg:={YV r with ended:=eU (YV r)}
def dv:Nat->Yg->h8->StR
 |0,t,S=>⟨false,0,t,S⟩
 |f+1,t,S=>
  if(Xa t.next t S).e≠0 then cc (Xa t.next t S)
  else if(Xa t.next t S).did=false/\eU (YV (Xa t.next t S))=false then dv f (ek (Xa t.next t S)) (Xa t.next t S).S
  else⟨eU (YV (Xa t.next t S)),0,ek (Xa t.next t S),(Xa t.next t S).S⟩
def eB(t:Yg)(S:h8):StR:=if t.ended=true then⟨false,15,t,S⟩ else dv (6 - t.next) t S
def qf1:Nat->Yg->h8->Nat×Yg×h8
 |0,t,S=>(0,t,S)
 |f+1,t,S=>if(eB t S).done=true\/(eB t S).e≠0 then((eB t S).e,(eB t S).t,(eB t S).S) else qf1 f (eB t S).t (eB t S).S
def YK:Nat->Yg->h8->Nat×h8
 |0,_,S=>(0,S)
 |f+1,t,S=>
  if(Xa t.next t S).e≠0 then((cc (Xa t.next t S)).e,(cc (Xa t.next t S)).S)
  else if eU (YV (Xa t.next t S))=true then(0,(Xa t.next t S).S)
  else YK f (ek (Xa t.next t S)) (Xa t.next t S).S
def Ax(f:Nat)(t:Yg)(S:h8):YK (f+1) t S=(if(Xa t.next t S).e≠0 then((cc (Xa t.next t S)).e,(cc (Xa t.next t S)).S)
  else if eU (YV (Xa t.next t S))=true then(0,(Xa t.next t S).S)
  else YK f (ek (Xa t.next t S)) (Xa t.next t S).S):=rfl
def jy(k:Nat)(t:Yg)(S:h8):(Xa k t S).t.dir=t.dir/\(Xa k t S).t.name=t.name/\(Xa k t S).t.data=t.data/\(Xa k t S).t.light=t.light/\(Xa k t S).t.next=t.next/\(Xa k t S).t.ended=t.ended:=by
 unfold Xa
 split
 .unfold fy;split<;>exact⟨rfl,rfl,rfl,rfl,rfl,rfl⟩
 .exact⟨rfl,rfl,rfl,rfl,rfl,rfl⟩
 .exact⟨rfl,rfl,rfl,rfl,rfl,rfl⟩
 .unfold i6;split<;>exact⟨rfl,rfl,rfl,rfl,rfl,rfl⟩
 .exact⟨rfl,rfl,rfl,rfl,rfl,rfl⟩
 unfold mh;split<;>exact⟨rfl,rfl,rfl,rfl,rfl,rfl⟩
def lD(k:Nat)(t:Yg)(S:h8):(ek (Xa k t S)).dir=t.dir/\(ek (Xa k t S)).name=t.name/\(ek (Xa k t S)).data=t.data/\(ek (Xa k t S)).light=t.light/\(ek (Xa k t S)).next=t.next+1:=by obtain⟨a,b,c,d,e,-⟩:=jy k t S;exact⟨a,b,c,d,Wc (· +1) e⟩
def n4(r:Z9):(cc r).e=r.e/\(cc r).done=false:=by
 unfold cc
 split<;>exact⟨rfl,rfl⟩
theorem n_:∀ (f:Nat) (t:Yg) (S:h8),f+t.next=6->0<f->
  ((dv f t S).e≠0/\YK f t S=((dv f t S).e,(dv f t S).S))\/
  ((dv f t S).e=0/\(dv f t S).done=true/\YK f t S=(0,(dv f t S).S))\/
  ((dv f t S).e=0/\(dv f t S).done=false/\(dv f t S).t.ended=false/\t.next< (dv f t S).t.next/\(dv f t S).t.next<6/\YK f t S=YK (6 - (dv f t S).t.next) (dv f t S).t (dv f t S).S)
 |0,_,_,_,h=>Vx h (Xk 0)
 |f+1,t,S,o,_=>by
  obtain⟨-,-,-,-,i,-⟩:=jy t.next t S;have a:(ek (Xa t.next t S)).next=t.next+1:=(lD t.next t S).2.2.2.2;have j:(ek (Xa t.next t S)).ended=eU (YV (Xa t.next t S)):=rfl;unfold dv;rw[Ax];by_cases b:(Xa t.next t S).e≠0
  .rw[Vb b,Vb b];exact .inl ⟨by rw[(n4 _).1];exact b,rfl⟩
  rw[tr b,tr b];cases c:eU (YV (Xa t.next t S)) with
  |true=>rw[tr (fun h=>by cases h.2),Vb rfl];exact .inr (.inl ⟨rfl,rfl,rfl⟩)
  |false=>
   have k:t.next+1<6:=by have d:(YV (Xa t.next t S)).next=t.next+1:=Wc (· +1) i;unfold eU at c;rw[d] at c;simp only[Zz,WN] at c;have:=c.1;omega
   rw[tr (show¬ (false=true) by simp)];by_cases e:(Xa t.next t S).did=false
   .rw[Vb ⟨e,rfl⟩];have g:=n_ f (ek (Xa t.next t S)) (Xa t.next t S).S (by rw[a];omega) oM;rw[a] at g;rcases g with h|h| ⟨d,l,m,p,n⟩
    .exact .inl h
    .exact .inr (.inl h)
    exact .inr (.inr ⟨d,l,m,by omega,n⟩)
   rw[tr fun h=>e h.1];refine .inr (.inr ⟨rfl,rfl,j.trans c,by show t.next< (ek (Xa t.next t S)).next;rw[a];omega,by show(ek (Xa t.next t S)).next<6;rw[a];exact k,?_⟩);show YK f _ _=YK (6 - (ek (Xa t.next t S)).next) _ _;rw[a,show 6 - (t.next+1)=f by omega]
theorem AJ:∀ (n f:Nat) (t:Yg) (S:h8),6 - t.next<=n->t.next<6->t.ended=false->6 - t.next<=f->((qf1 f t S).1,(qf1 f t S).2.2)=YK (6 - t.next) t S
 |0,_,_,_,e,d,_,_=>by omega
 |n+1,0,_,_,_,d,_,g=>by omega
 |n+1,f+1,t,S,e,d,h,g=>by
  have i:eB t S=dv (6 - t.next) t S:=by unfold eB;rw[tr (by rw[h];simp)]
  unfold qf1;rw[i];rcases n_ (6 - t.next) t S oM oM with⟨a,b⟩ | ⟨a,b,c⟩ | ⟨a,b,c,l,j,k⟩
  .rw[Vb (.inr a),b]
  .rw[Vb (.inl b),c,a]
  rw[tr (by rw[a,b];simp),k];exact AJ n f _ _ oM j c oM
def tk0(dir name data:No)(light:Bool):Yg:=⟨dir,name,data,light,0,false,false⟩
def bM(S:h8)(dir name data:No)(light:Bool):Nat×h8:=YK 6 (tk0 dir name data light) S
def Qh(S:h8)(dir name data:No)(light:Bool):((qf1 6 (tk0 dir name data light) S).1,(qf1 6 (tk0 dir name data light) S).2.2)=bM S dir name data light:=AJ 6 6 (tk0 dir name data light) S (aj 6) (Nat.succ_pos 5) rfl (aj 6)
def Fa{l:W_}{s:No}(h:∀p,p∈l->p.1≠s):aL l s=none:=by
 cases a:aL l s with
 |none=>rfl
 |some n=>exact Vx rfl (h _ (eY a))
def Ty(l:W_)(s:No):aL (bl l s) s=none:=Fa fun _ a=>(qb7.1 a).2
def BF{l:W_}(h:YG l)(x:No×Nat):aL (dU l x) x.1=some x.2:=pb (qg x h).nodup (qe3.2 (.inl rfl))
def ki{S:h8}(a:eP S){dir:No}{k:Nat}(b:al dir=some k)(names:List No):bi S dir names=if names.all bF=false then 1 else 0:=by unfold bi;rw[b,a.1];cases names.all bF<;>simp
def qo{S:h8}{k:Nat}{x d:No}(h:bB S k x=some d):∃n,aL (S.dir k).seen x=some n/\(aC S n).data=d:=by
 unfold bB at h;cases a:aL (S.dir k).seen x with
 |none=>rw[a] at h;cases h
 |some n=>rw[a] at h;exact⟨n,rfl,XD h⟩
def Mf{S:h8}{k:Nat}{x:No}(h:bB S k x=none):aL (S.dir k).seen x=none:=by
 unfold bB at h;cases a:aL (S.dir k).seen x with
 |none=>rfl
 |some n=>rw[a] at h;cases h
def gr{S:h8}{dir:No}{k:Nat}(a:al dir=some k)(x:No):atD S dir x=aL (S.dir k).seen x:=by unfold atD;rw[a];rfl
def pF{S:h8}(b:eP S){dir:No}{k:Nat}(a:al dir=some k){x:No}(c:bF x=true):bX S dir x=match bB S k x with|none=>([],6) |some d=>(d,0):=by
 have e:bi S dir [x]=0:=by rw[ki b a,tr (by simp[c])]
 unfold bX;rw[tr (by rw[e];simp)];have f:((al dir).bind fun k=>aL (S.dir k).seen x)=aL (S.dir k).seen x:=by rw[a];rfl
 rw[f];unfold bB;cases aL (S.dir k).seen x<;>rfl
section
variable {S:h8} {dir x:No} {k:Nat}
def UY(c:W1 S)(b:eP S)(a:al dir=some k)(d:bF x=true)(e:bB S k x=none):(cC S dir x).2=0/\bB (cC S dir x).1 k x=some []:=by
 have f:bi S dir [x]=0:=by rw[ki b a,tr (by simp[d])]
 have g:=(cN a).1;unfold cC;rw[tr (by rw[f];simp),gr a,Mf e];simp only;rw[m2 b,tr V_,a];refine⟨rfl,?_⟩;show(aL ((b_ (ci S bV) k ⟨0,x,[],S.files.length⟩).dir k).seen x).map _=_;rw[mV,Vb rfl];show(aL (dU (S.dir k).seen (x,S.files.length)) x).map _=_;rw[BF (c.srt k g) (x,S.files.length)];show some (aC (ci S bV) S.files.length).data=_;rw[Ce];rfl
def UU(b:eP S)(a:al dir=some k)(c:bF x=true){d:No}(e:bB S k x=some d):(d5 S dir x).2=0/\bB (d5 S dir x).1 k x=none:=by
 have f:bi S dir [x]=0:=by rw[ki b a,tr (by simp[c])]
 obtain⟨n,g,-⟩:=qo e;unfold d5;rw[tr (by rw[f];simp),gr a,g];simp only;rw[m2 b,tr V_,a];refine⟨rfl,?_⟩;show(aL ((b_ S k ⟨2,x,[],0⟩).dir k).seen x).map _=_;rw[mV,Vb rfl];show(aL (bl (S.dir k).seen x) x).map _=_;rw[Ty];rfl
def Uj(f:W1 S)(c:eP S)(a:al dir=some k)(g:bF x=true){d:No}(h:bB S k x=some d)(s:No):((bD S dir x s).2=8/\(bD S dir x s).1=S)\/((bD S dir x s).2=0/\bB (bD S dir x s).1 k x=some (d++s)):=by
 have i:bi S dir [x]=0:=by rw[ki c a,tr (by simp[g])]
 obtain⟨n,b,j⟩:=qo h;have l:=f.lt k (cN a).1 _ (eY b);unfold bD;rw[tr (by rw[i];simp),gr a,b];simp only;by_cases e:fF S n s=true
 .rw[Vb e];exact .inl ⟨rfl,rfl⟩
 rw[tr e,m2 c,tr V_];refine .inr ⟨rfl,?_⟩;show(aL (S.dir k).seen x).map (fun m=>(aC (dJ S n _) m).data)=_;rw[b];show some (aC (dJ S n _) n).data=_;rw[iQ _ _ l,Vb rfl,<-j]
def tV(e:W1 S)(c:eP S)(a:al dir=some k)(f:bF x=true){d:No}(g:bB S k x=some d):(az S dir x).2=0/\bB (az S dir x).1 k x=some d:=by
 have h:bi S dir [x]=0:=by rw[ki c a,tr (by simp[f])]
 obtain⟨n,b,i⟩:=qo g;have j:=e.lt k (cN a).1 _ (eY b);unfold az;rw[tr (by rw[h];simp),gr a,b];simp only;rw[m2 c,tr V_];refine⟨rfl,?_⟩;show(aL (S.dir k).seen x).map (fun m=>(aC (dJ S n _) m).data)=_;rw[b];show some (aC (dJ S n _) n).data=_;rw[iQ _ _ j,Vb rfl,<-i]
def UJ(a:eP S)(b:al dir=some k):(dZ S dir).2=0/\ ∀j y,bB (dZ S dir).1 j y=bB S j y:=by
 have c:bi S dir []=0:=by rw[ki a b,tr V_]
 unfold dZ;rw[tr (by rw[c];simp),m2 a,tr V_,b];refine⟨rfl,fun j y=>?_⟩;unfold bB;show(aL ((eW S k).dir j).seen y).map _=_;rw[pJ];rfl
def UW(g:W1 S)(b:eP S)(a:al dir=some k)(h:bF x=true){y:No}(i:bF y=true)(c:x≠y){d:No}(j:bB S k x=some d):(cO S dir x y).2=0/\bB (cO S dir x y).1 k y=some d/\bB (cO S dir x y).1 k x=none:=by
 have l:bi S dir [x,y]=0:=by rw[ki b a,tr (by simp[h,i])]
 obtain⟨n,e,m⟩:=qo j;have o:=(cN a).1;unfold cO;rw[tr (by rw[l];simp),gr a,e];simp only;rw[tr c,m2 b,tr V_,a];have f:((b_ S k ⟨1,x,y,0⟩).dir k).seen=dU (bl (S.dir k).seen x) (y,n):=by rw[mV,Vb rfl];show dU (bl (S.dir k).seen x) (y,(aL (S.dir k).seen x).getD 0)=_;rw[e];rfl
 refine⟨rfl,?_,?_⟩
 .show(aL ((b_ S k ⟨1,x,y,0⟩).dir k).seen y).map _=_;rw[f,BF (qn _ (g.srt k o)) (y,n)];exact Wc some m
 show(aL ((b_ S k ⟨1,x,y,0⟩).dir k).seen x).map _=_;rw[f,nc (x:=(y,n)) (Wq c),Ty];rfl
def Jh(b:eP S)(c:al dir=some k){y:No}(d:bF y=false):cO S dir x y=(S,1):=by
 have a:bi S dir [x,y]=1:=by rw[ki b c,Vb (by simp[d])]
 unfold cO;rw[Vb (by rw[a];simp),a]
def JX(h:al dir=none\/bF x=false):cC S dir x=(S,1):=by
 have a:bi S dir [x]=1:=by
  unfold bi;rw[Vb];rcases h with h|h
  .exact .inl h
  right;simp[h]
 unfold cC;rw[Vb (by rw[a];simp),a]
end
def Q4(k:Nat)(t:Yg)(S:h8):∃kind s e,Xc S kind t.dir (aB t.name) s (Xa k t S).S e/\(kind=4->s=t.name):=by
 unfold Xa
 split
 .unfold fy
  split
  .exact⟨0,[],1,.same 1 (.inl WT),fun h=>by cases h⟩
  exact⟨5,[],_,kP S _ _ _,fun h=>by cases h⟩
 .exact⟨0,[],_,qF S _ _ _,fun h=>by cases h⟩
 .exact⟨1,t.data,_,kO S _ _ _,fun h=>by cases h⟩
 .unfold i6
  split
  .exact⟨0,[],1,.same 1 (.inl WT),fun h=>by cases h⟩
  exact⟨2,[],_,mT S _ _ _,fun h=>by cases h⟩
 .exact⟨4,t.name,_,qE S _ _ _,fun _=>rfl⟩
 unfold mh
 split
 .exact⟨0,[],1,.same 1 (.inl WT),fun h=>by cases h⟩
 exact⟨3,[],_,EY S _ (aB t.name) [],fun h=>by cases h⟩
def KH(r:Z9):∃e,Xc r.S 5 r.t.dir (aB r.t.name) [] (cc r).S e:=by
 unfold cc
 split
 .exact⟨_,kP r.S _ _ _⟩
 exact⟨1,.same 1 (.inl WT)⟩
theorem jc(Q:h8->Prop)(dir nm:No)(b:∀ (S S':h8) (kind:Int) (s:No) (e:Nat),Q S->Xc S kind dir (aB nm) s S' e->(kind=4->s=nm)->Q S'):
  ∀ (f:Nat) (t:Yg) (S:h8),t.dir=dir->t.name=nm->Q S->Q (YK f t S).2
 |0,_,_,_,_,h=>h
 |f+1,t,S,c,a,h=>by
  obtain⟨kind,s,e,g,i⟩:=Q4 t.next t S;rw[c,a] at g;rw[a] at i;have d:=b _ _ _ _ _ h g i;obtain⟨k,l,-⟩:=jy t.next t S;unfold YK
  split
  .obtain⟨o,j⟩:=KH (Xa t.next t S);rw[k,l,c,a] at j;exact b _ _ _ _ _ d j fun h=>by cases h
  split
  .exact d
  obtain⟨m,n,-⟩:=lD t.next t S;exact jc Q dir nm b f _ _ (m.trans c) (n.trans a) d
structure qF5(S S':h8)(dir nm:No):Prop where
 qa4:W1 S'
 view:∀j,j<3-> ∀x,qM5 dir nm j x->bB S' j x=bB S j x
def Qe{S:h8}(g:W1 S)(dir nm data:No)(light:Bool):qF5 S (bM S dir nm data light).2 dir nm:=
 jc (fun S'=>qF5 S S' dir nm) dir nm (fun A B kind s e a c i=>⟨iP a.qa4 c,fun j d x b=>(D_ a.qa4 c d fun f=>⟨(b f).2,fun h=>by rw[i h];exact(b f).1⟩).trans (a.view j d x b)⟩) 6 (tk0 dir nm data light) S rfl rfl ⟨g,fun _ _ _ _=>rfl⟩
def vC{S:h8}(a:eP S)(dir nm data:No)(light:Bool):eP (bM S dir nm data light).2:=
 jc eP dir nm (fun _ _ _ _ _ b c _=>kG b c) 6 (tk0 dir nm data light) S rfl rfl a
def eh{f:Nat}{t t':Yg}{S:h8}{r:Z9}(a:Xa t.next t S=r)(b:r.e=0)(c:eU (YV r)=false)(d:ek r=t'):YK (f+1) t S=YK f t' r.S:=by
 conv=>lhs;unfold YK
 rw[a,tr (by rw[b];simp),tr (by rw[c];simp),d]
def iO{f:Nat}{t:Yg}{S:h8}{r:Z9}(a:Xa t.next t S=r)(b:r.e≠0):YK (f+1) t S=((cc r).e,(cc r).S):=by unfold YK;rw[a,Vb b]
def qx{f:Nat}{t:Yg}{S:h8}{r:Z9}(a:Xa t.next t S=r)(b:r.e=0)(c:eU (YV r)=true):YK (f+1) t S=(0,r.S):=by unfold YK;rw[a,tr (by rw[b];simp),Vb c]
def W4(dir nm data:No)(light:Bool)(n:Nat)(made:Bool):Yg:=⟨dir,nm,data,light,n,made,false⟩
def Rs{S:h8}{dir nm:No}(data:No)(light:Bool)(h:al dir=none\/bF (aB nm)=false):bM S dir nm data light=(1,S):=by
 have b:Xa 0 (tk0 dir nm data light) S=⟨false,0,tk0 dir nm data light,S⟩:=by show fy _ S=_;unfold fy;have a:=pG (S:=S) (dir:=dir) (x:=aB nm) h;rw[Vb (by show(bX S dir (aB nm)).2≠0;rw[a];simp)]
 have c:Xa 1 (W4 dir nm data light 1 false) S=⟨true,1,W4 dir nm data light 1 false,S⟩:=by show q_ _ S=_;have a:=JX (S:=S) (dir:=dir) (x:=aB nm) h;unfold q_;show Z9.mk true (cC S dir (aB nm)).2 {W4 dir nm data light 1 false with made:=(cC S dir (aB nm)).2==0} (cC S dir (aB nm)).1=_;rw[a];rfl
 unfold bM;rw[eh (t':=W4 dir nm data light 1 false) b rfl (by cases light<;>rfl) (by cases light<;>rfl),iO c V_]
 rfl
def OZ{S:h8}(t:W1 S)(n:eP S){dir nm:No}{k:Nat}(g:al dir=some k)(i:bF (aB nm)=true)(data:No)(light:Bool):
  (∃S',bM S dir nm data light=(8,S')/\ ∀x,x≠aB nm->bB S' k x=bB S k x)\/
  (∃S',bM S dir nm data light=YK 2 (W4 dir nm data light 4 true) S'/\W1 S'/\eP S'/\bB S' k (aB nm)=some data/\ ∀x,x≠aB nm->bB S' k x=bB S k x):=by
 have W:bT k=dir:=(cN g).2.symm;have N:=(cN g).1;have j:∀ {A B:h8} {kind:Int} {s:No} {e:Nat},W1 A->Xc A kind dir (aB nm) s B e->kind≠4-> ∀x,x≠aB nm->bB B k x=bB A k x:=fun O P Q x c=>D_ O P N fun _=>⟨c,fun h=>Vx h Q⟩;obtain⟨S1,u,v,G,v1,H⟩:∃S1,(∃b,Xa 0 (tk0 dir nm data light) S=⟨b,0,tk0 dir nm data light,S1⟩)/\W1 S1/\eP S1/\bB S1 k (aB nm)=none/\ ∀x,x≠aB nm->bB S1 k x=bB S k x:=by
  have o:=pF n g i;show∃S1,(∃b,fy (tk0 dir nm data light) S=_)/\_;unfold fy;cases p:bB S k (aB nm) with
  |none=>rw[p] at o;exact⟨S,⟨false,by rw[Vb (by show(bX S dir (aB nm)).2≠0;rw[o];simp)]⟩,t,n,p,fun _ _=>rfl⟩
  |some d=>rw[p] at o;obtain⟨w,y⟩:=UU n g i p;have st:=kP S dir (aB nm) [];refine⟨(d5 S dir (aB nm)).1,⟨true,?_⟩,iP t st,kG n st,y,j t st WT⟩;rw[tr (by show¬ (bX S dir (aB nm)).2≠0;rw[o];simp)];show Z9.mk true (d5 S dir (aB nm)).2 _ _=_;rw[w];rfl
 obtain⟨X,u⟩:=u;obtain⟨w,y⟩:=UY v G g i v1;have z:=qF S1 dir (aB nm) [];have q:=iP v z;have I:=kG G z;have J:=j v z WT;have R:Xa 1 (W4 dir nm data light 1 false) S1=⟨true,0,W4 dir nm data light 1 true,(cC S1 dir (aB nm)).1⟩:=by show Z9.mk true (cC S1 dir (aB nm)).2 {W4 dir nm data light 1 false with made:=(cC S1 dir (aB nm)).2==0} _=_;rw[w];rfl
 generalize (cC S1 dir (aB nm)).1=a at*;have C:=kO a dir (aB nm) data;have r:=iP q C;have D:=kG I C;have T:=j q C WT;have K:Xa 2 (W4 dir nm data light 2 true) a=⟨true,(bD a dir (aB nm) data).2,W4 dir nm data light 2 true,(bD a dir (aB nm) data).1⟩:=rfl;have L:bM S dir nm data light=YK 4 (W4 dir nm data light 2 true) a:=by unfold bM;rw[eh (t':=W4 dir nm data light 1 false) u rfl (by cases light<;>rfl) (by cases light<;>rfl),eh (t':=W4 dir nm data light 2 true) R rfl (by cases light<;>rfl) (by cases light<;>rfl)]
 rcases Uj q I g i y data with⟨l,m⟩ | ⟨l,m⟩
 .left
  have U:=kP a dir (aB nm) [];refine⟨(d5 a dir (aB nm)).1,?_,fun x c=>(j q U WT x c).trans ((J x c).trans (H x c))⟩;rw[L,iO K (by show(bD a dir (aB nm) data).2≠0;rw[l];simp)];unfold cc;rw[Vb ⟨rfl,by show(bD a dir (aB nm) data).2≠9;rw[l];simp⟩];show((bD a dir (aB nm) data).2,(d5 (bD a dir (aB nm) data).1 dir (aB nm)).1)=_;rw[l,m]
 right
 rw[Vy] at m;rw[L,eh (t':=W4 dir nm data light 3 true) K l (by cases light<;>rfl) (by cases light<;>rfl)];show∃S',YK 3 _ (bD a dir (aB nm) data).1=_/\_;generalize (bD a dir (aB nm) data).1=f at*;have M:∀x,x≠aB nm->bB f k x=bB S k x:=fun x c=>(T x c).trans ((J x c).trans (H x c));cases light with
 |true=>have E:Xa 3 (W4 dir nm data true 3 true) f=⟨false,0,W4 dir nm data true 3 true,f⟩:=rfl;exact⟨f,by rw[eh (t':=W4 dir nm data true 4 true) E rfl rfl rfl],r,D,m,M⟩
 |false=>
  obtain⟨s1,V⟩:=tV r D g i m;have F:=mT f dir (aB nm) [];have E:Xa 3 (W4 dir nm data false 3 true) f=⟨true,0,W4 dir nm data false 3 true,(az f dir (aB nm)).1⟩:=by show Z9.mk true (az f dir (aB nm)).2 _ _=_;rw[s1];rfl
  exact⟨_,by rw[eh (t':=W4 dir nm data false 4 true) E rfl rfl rfl],iP r F,kG D F,V,fun x c=>(j r F WT x c).trans (M x c)⟩
def M7{S:h8}(o:W1 S)(i:eP S)(dir nm data:No):
  ((bM S dir nm data false).1≠0->bX (bM S dir nm data false).2 dir nm=bX S dir nm)/\
  ((bM S dir nm data false).1=0->bX (bM S dir nm data false).2 dir nm=(data,0)/\(bX (bM S dir nm data false).2 dir (aB nm)).2≠0):=by
 have c:=vC i dir nm data false;by_cases h:al dir=none\/bF (aB nm)=false
 .rw[Rs data false h];exact⟨fun _=>rfl,fun h=>by cases h⟩
 obtain⟨k,a⟩:∃k,al dir=some k:=by
  cases a:al dir with
  |none=>exact Vx (.inl a) h
  |some k=>exact⟨k,rfl⟩
 have f:bF (aB nm)=true:=by
  cases f:bF (aB nm) with
  |true=>rfl
  |false=>exact Vx (.inr f) h
 have same:∀S':h8,eP S'->bB S' k nm=bB S k nm->bX S' dir nm=bX S dir nm:=fun S' p q=>by
  cases b:bF nm with
  |true=>rw[pF p a b,pF i a b,q]
  |false=>rw[pG (.inr b),pG (.inr b)]
 rcases OZ o i a f data false with⟨S',g,r⟩ | ⟨S',g,s,j,t,D⟩
 .rw[g] at c |-;exact⟨fun _=>same S' c (r nm (Wq (mF nm))),fun h=>by cases h⟩
 have u:=mF nm;cases b:bF nm with
 |false=>
  have v:=Jh (x:=aB nm) j a b;have l:Xa 4 (W4 dir nm data false 4 true) S'=⟨true,1,W4 dir nm data false 4 true,S'⟩:=by show Z9.mk true (cO S' dir (aB nm) nm).2 {W4 dir nm data false 4 true with made:=true&& (cO S' dir (aB nm) nm).2 !=0} (cO S' dir (aB nm) nm).1=_;rw[v];rfl
  have m:bM S dir nm data false=(1,(d5 S' dir (aB nm)).1):=by rw[g,iO l V_];rfl
  rw[m] at c |-;exact⟨fun _=>by rw[pG (.inr b),pG (.inr b)],fun h=>by cases h⟩
 |true=>
  obtain⟨w,y,z⟩:=UW s j a f b u t;have st:=qE S' dir (aB nm) nm;have A:=kG j st;have l:Xa 4 (W4 dir nm data false 4 true) S'=⟨true,0,W4 dir nm data false 4 false,(cO S' dir (aB nm) nm).1⟩:=by show Z9.mk true (cO S' dir (aB nm) nm).2 {W4 dir nm data false 4 true with made:=true&& (cO S' dir (aB nm) nm).2 !=0} _=_;rw[w];rfl
  generalize (cO S' dir (aB nm) nm).1=e at*;obtain⟨B,n⟩:=UJ A a;have C:Xa 5 (W4 dir nm data false 5 false) e=⟨true,0,W4 dir nm data false 5 false,(dZ e dir).1⟩:=by show Z9.mk true (dZ e dir).2 _ _=_;rw[B];rfl
  have m:bM S dir nm data false=(0,(dZ e dir).1):=by rw[g,eh (t':=W4 dir nm data false 5 false) l rfl rfl rfl,qx C rfl rfl]
  rw[m] at c |-;refine⟨fun h=>Vx rfl h,fun _=>⟨?_,?_⟩⟩
  .rw[pF c a b];show(match bB (dZ e dir).1 k nm with|none=>([],6) |some d=>(d,0))=_;rw[n,y]
  rw[pF c a f];show(match bB (dZ e dir).1 k (aB nm) with|none=>(([],6):No×Nat) |some d=>(d,0)).2≠0;rw[n,z];simp
end Go.Proofs
end
