/-
  Part 4 of the walk: contracts of the functions that the law reaches, and the calculus they stand on.
  No conditions.
-/
import Derived.Test.YtldgnkgllhmnbaaGreatDoorH3
set_option linter.unusedVariables false
set_option maxRecDepth 10000
set_option maxHeartbeats 4000000
set_option linter.unusedSimpArgs false
set_option linter.defProp false
open Go.Proofs.Tryz
section
open Go Go.Proofs Go.Sx Go.StP
namespace Go.Proofs
def oI{S:h8}(ok:XK S){k:Nat}(a:k<3){c:Wy}(f:okC (S.dir k).seen c)(e:c.kind=0->c.n<S.files.length):XK (b_ S k c):=
 qa ok _ (CI c (ok.seen k a)) (ok.stl k a) (CE (ok.seenN k a) f e) (ok.stlN k a) (fun d b=>by
  rcases Wu.1 b with b|b
  .exact ok.pendN k a d b
  rw[VZ.1 b];exact e)
def y_{S S':h8}{kind:Int}{dir name s:No}{e:Nat}(ok:XK S)(h:Xc S kind dir name s S' e):XK S':=by
 obtain⟨o,p,-⟩:=d7 S;have a:=kA ok;cases h with
 |same=>exact ok
 |Y5=>exact a
 |create k b f u g=>refine oI (vv a ⟨aR _,aj _⟩) (cN b).1 (fun e=>by cases e) fun _=>?_;show S.files.length< ((aD S).1.files++[bV]).length;rw[p,VV];exact Nat.lt_succ_self _
 |append k m b d f g=>
  have j:=ok.seenN k (cN b).1 _ (eY d);obtain⟨l,q⟩:=kW ok (n:=m) j;refine qB a ⟨?_,?_⟩
  .rw[VV];unfold fF at f;simp only[Zz,qc9] at f;have:=f.1.1;show(aC S m).data.length+s.length<=1048576;omega
  rw[VV];show(aC S m).stl<= (aC S m).data.length+s.length;omega
 |sync k m b d g=>have j:=ok.seenN k (cN b).1 _ (eY d);obtain⟨l,q⟩:=kW ok (n:=m) j;exact qB a ⟨l,aj _⟩
 |syncDir k b g=>have i:=(cN b).1;exact qa a _ (a.seen k i) (a.seen k i) (a.seenN k i) (a.seenN k i) fun c r=>by cases r
 |rename k m v b d f t g=>exact oI a (cN b).1 (by rw[o];exact lH d t) fun e=>by cases e
 |remove k m b d g=>exact oI a (cN b).1 (fun e=>by cases e) fun e=>by cases e
structure ZH(S:h8)(N:Nat):Prop where
 ok:XK S
 B:Zo N S
 fl:S.files.length<=N
def ZH.step{S S':h8}{N:Nat}{kind:Int}{dir name s:No}{e:Nat}(h:ZH S N)(a:Xc S kind dir name s S' e)(b:name.length<=1000000)(c:s.length<=1000000):ZH S' (N+1):=
 ⟨y_ h.ok a,uf h.B b c a,Xq (Nz a) (Nat.succ_le_succ h.fl)⟩
theorem ZH.mono{S:h8}{N M:Nat}(h:ZH S N)(a:N<=M):ZH S M:=⟨h.ok,h.B.mono a,Xq h.fl a⟩
def ZH.do{S:h8}{N:Nat}(h:ZH S N)(c:N<900000)(kind:Int)(dir name s:No)(a:name.length<=1000000)(b:s.length<=1000000):ZH (doV S kind dir name s).1 (N+1):=h.step (Qs S kind dir name s) a b
def m5(X:aA)(G:Yd)(S:h8)(N:Nat)(kind:Int)(dir name s:No)(w:hW)(b:∀p,p∈X->w.heap[p.1]? =some p.2)(c:(keys X).Nodup)(d:XT X G S)(a:ZH S N)(f:N<900000)(e:0<=kind/\kind<6)(g:name.length<=1000000)(h:s.length<=1000000):
  Va prog 51 #[vp G.bd 0,vi kind,vs dir,vs name,vs s] w (XS w X (DoS G (doV S kind dir name s))):=
 Ni X G S kind dir name s w b c d a.ok (a.B.b oM) e oM oM (fun k _=>by have:=(a.B k).stl;omega) (by have:=a.fl;omega) (by have:=w5 a.ok a.B;omega)
def bc(light:Bool):List Nat:=if light=true then [1,2,3,5] else [1,2,3,4,5,6]
def ax(s:Nat)(dir nm data:No)(S:h8):h8×Nat:=
 if s=1 then d5 S dir (aB nm) else if s=2 then cC S dir (aB nm) else if s=3 then bD S dir (aB nm) data else if s=4 then az S dir (aB nm) else if s=5 then cO S dir (aB nm) nm else dZ S dir
def eS(s:Nat)(made:Bool)(e:Nat):Bool:=if s=2 then e==0 else if s=5 then made&&e !=0 else made
structure DsR where
 done:Bool
 e:Nat
 k:Nat
 made:Bool
 S:h8
def atK(k:Nat)(dir nm:No)(S:h8):Nat:=if k=0/\(bX S dir (aB nm)).2≠0 then 1 else k
def dR(light:Bool)(k:Nat)(made:Bool)(dir nm data:No)(S:h8):DsR:=
 let a:=atK k dir nm S
 let s:=(bc light).getD a 0
 let r:=ax s dir nm data S
 let m:=eS s made r.2
 if r.2≠0 then⟨false,r.2,a+1,m,if m=true/\r.2≠9 then(d5 r.1 dir (aB nm)).1 else r.1⟩ else⟨a+1==(bc light).length,0,a+1,m,r.1⟩
def df:Nat->Bool->Nat->Bool->No->No->No->h8->Nat×h8
 |0,_,_,_,_,_,_,S=>(0,S)
 |f+1,light,k,made,dir,nm,data,S=>if(dR light k made dir nm data S).done=true\/(dR light k made dir nm data S).e≠0 then((dR light k made dir nm data S).e,(dR light k made dir nm data S).S) else df f light (dR light k made dir nm data S).k (dR light k made dir nm data S).made dir nm data (dR light k made dir nm data S).S
def mn(f:Nat)(light:Bool)(k:Nat)(made:Bool)(dir nm data:No)(S:h8):df (f+1) light k made dir nm data S=(if(dR light k made dir nm data S).done=true\/(dR light k made dir nm data S).e≠0 then((dR light k made dir nm data S).e,(dR light k made dir nm data S).S) else df f light (dR light k made dir nm data S).k (dR light k made dir nm data S).made dir nm data (dR light k made dir nm data S).S):=rfl
section
variable {dir nm data:No}
def kl{p s:Nat}{light made:Bool}(f:Nat)(S:h8)(d:Xa p (W4 dir nm data light p made) S=⟨true,(ax s dir nm data S).2,W4 dir nm data light p (eS s made (ax s dir nm data S).2),(ax s dir nm data S).1⟩):
  YK (f+1) (W4 dir nm data light p made) S=if(ax s dir nm data S).2≠0 then((ax s dir nm data S).2,if eS s made (ax s dir nm data S).2=true/\(ax s dir nm data S).2≠9 then(d5 (ax s dir nm data S).1 dir (aB nm)).1 else(ax s dir nm data S).1) else if eU (W4 dir nm data light (p+1) made)=true then(0,(ax s dir nm data S).1) else YK f (W4 dir nm data light (p+1) (eS s made (ax s dir nm data S).2)) (ax s dir nm data S).1:=by
 by_cases a:(ax s dir nm data S).2≠0
 .rw[iO d a,Vb a];by_cases b:eS s made (ax s dir nm data S).2=true/\(ax s dir nm data S).2≠9
  .rw[Vb b];have e:=Wc (fun r:StR=>(r.e,r.S)) (show cc ⟨true,(ax s dir nm data S).2,W4 dir nm data light p (eS s made (ax s dir nm data S).2),(ax s dir nm data S).1⟩=_ from Vb b);exact e
  rw[tr b];have e:=Wc (fun r:StR=>(r.e,r.S)) (show cc ⟨true,(ax s dir nm data S).2,W4 dir nm data light p (eS s made (ax s dir nm data S).2),(ax s dir nm data S).1⟩=_ from tr b);exact e
 rw[tr a];by_cases c:eU (W4 dir nm data light (p+1) made)=true
 .rw[qx d (by simpa using a) (by exact c),Vb c]
 have g:eU (W4 dir nm data light (p+1) made)=false:=by simpa using c
 rw[eh (t':=W4 dir nm data light (p+1) (eS s made (ax s dir nm data S).2)) d (by simpa using a) (by exact g) ?_,tr c];show Yg.mk _ _ _ _ _ _ (eU (W4 dir nm data light (p+1) made))=_;rw[g];rfl
def mb(f:Nat)(light:Bool){k:Nat}(g:k≠0)(made:Bool)(S:h8){s:Nat}(d:(bc light).getD k 0=s):
  df (f+1) light k made dir nm data S=if(ax s dir nm data S).2≠0 then((ax s dir nm data S).2,if eS s made (ax s dir nm data S).2=true/\(ax s dir nm data S).2≠9 then(d5 (ax s dir nm data S).1 dir (aB nm)).1 else(ax s dir nm data S).1) else if(k+1==(bc light).length)=true then(0,(ax s dir nm data S).1) else df f light (k+1) (eS s made (ax s dir nm data S).2) dir nm data (ax s dir nm data S).1:=by
 have e:atK k dir nm S=k:=by unfold atK;rw[tr (fun h=>g h.1)]
 by_cases a:(ax s dir nm data S).2≠0
 .have c:dR light k made dir nm data S=⟨false,(ax s dir nm data S).2,k+1,eS s made (ax s dir nm data S).2,if eS s made (ax s dir nm data S).2=true/\(ax s dir nm data S).2≠9 then(d5 (ax s dir nm data S).1 dir (aB nm)).1 else(ax s dir nm data S).1⟩:=by
   unfold dR;simp only;rw[e,d,Vb a]
  rw[mn,c,Vb (.inr a),Vb a]
 have c:dR light k made dir nm data S=⟨k+1==(bc light).length,0,k+1,eS s made (ax s dir nm data S).2,(ax s dir nm data S).1⟩:=by unfold dR;simp only;rw[e,d,tr a]
 rw[mn,c,tr a];by_cases b:(k+1==(bc light).length)=true
 .rw[Vb (.inl b),Vb b]
 rw[tr (fun h=>by rcases h with h|h;exact b h;exact h rfl),tr b]
def Me(f:Nat)(light made:Bool)(S:h8)(h:(bX S dir (aB nm)).2≠0):df (f+1) light 0 made dir nm data S=df (f+1) light 1 made dir nm data S:=by
 have a:atK 0 dir nm S=1:=by unfold atK;rw[Vb ⟨rfl,h⟩]
 have b:atK 1 dir nm S=1:=by unfold atK;rw[tr (fun h=>by cases h.1)]
 have:dR light 0 made dir nm data S=dR light 1 made dir nm data S:=by unfold dR;simp only;rw[a,b]
 rw[mn,mn,this]
def Jp(f:Nat)(light made:Bool)(S:h8)(h:(bX S dir (aB nm)).2=0):
  df (f+1) light 0 made dir nm data S=if(ax 1 dir nm data S).2≠0 then((ax 1 dir nm data S).2,if eS 1 made (ax 1 dir nm data S).2=true/\(ax 1 dir nm data S).2≠9 then(d5 (ax 1 dir nm data S).1 dir (aB nm)).1 else(ax 1 dir nm data S).1) else df f light 1 (eS 1 made (ax 1 dir nm data S).2) dir nm data (ax 1 dir nm data S).1:=by
 have c:atK 0 dir nm S=0:=by unfold atK;rw[tr (fun e=>e.2 h)]
 have d:(bc light).getD 0 0=1:=by cases light<;>rfl
 have g:(0+1==(bc light).length)=false:=by cases light<;>rfl
 by_cases a:(ax 1 dir nm data S).2≠0
 .have b:dR light 0 made dir nm data S=⟨false,(ax 1 dir nm data S).2,0+1,eS 1 made (ax 1 dir nm data S).2,if eS 1 made (ax 1 dir nm data S).2=true/\(ax 1 dir nm data S).2≠9 then(d5 (ax 1 dir nm data S).1 dir (aB nm)).1 else(ax 1 dir nm data S).1⟩:=by
   unfold dR;simp only;rw[c,d,Vb a]
  rw[mn,b,Vb (.inr a),Vb a]
 have b:dR light 0 made dir nm data S=⟨0+1==(bc light).length,0,0+1,eS 1 made (ax 1 dir nm data S).2,(ax 1 dir nm data S).1⟩:=by unfold dR;simp only;rw[c,d,tr a]
 rw[mn,b,tr a,tr (fun h=>by rcases h with h|h;rw[g] at h;cases h;exact h rfl)]
def SC(f:Nat)(made:Bool)(S:h8):df (f+1) false 5 made dir nm data S=YK 1 (W4 dir nm data false 5 made) S:=by
 rw[mb f false WT made S (s:=6) rfl,kl (s:=6) 0 S rfl]
 rfl
def RZ(f:Nat)(made:Bool)(S:h8):df (f+2) false 4 made dir nm data S=YK 2 (W4 dir nm data false 4 made) S:=by
 rw[mb (f+1) false WT made S (s:=5) rfl,kl (s:=5) 1 S rfl,SC]
 rfl
def Ra(f:Nat)(made:Bool)(S:h8):df (f+3) false 3 made dir nm data S=YK 3 (W4 dir nm data false 3 made) S:=by
 rw[mb (f+2) false WT made S (s:=4) rfl,kl (s:=4) 2 S rfl,RZ]
 rfl
def SE(f:Nat)(made:Bool)(S:h8):df (f+4) false 2 made dir nm data S=YK 4 (W4 dir nm data false 2 made) S:=by
 rw[mb (f+3) false WT made S (s:=3) rfl,kl (s:=3) 3 S rfl,Ra]
 rfl
def TV(f:Nat)(made:Bool)(S:h8):df (f+5) false 1 made dir nm data S=YK 5 (W4 dir nm data false 1 made) S:=by
 rw[mb (f+4) false WT made S (s:=2) rfl,kl (s:=2) 4 S rfl,SE]
 rfl
def Ro(f:Nat)(made:Bool)(S:h8):df (f+1) true 3 made dir nm data S=YK 3 (W4 dir nm data true 3 made) S:=by
 rw[eh (t':=W4 dir nm data true 4 made) (r:=⟨false,0,W4 dir nm data true 3 made,S⟩) rfl rfl rfl rfl];show _=YK 2 (W4 dir nm data true 4 made) S;rw[mb f true WT made S (s:=5) rfl,kl (s:=5) 1 S rfl]
 rfl
def S_(f:Nat)(made:Bool)(S:h8):df (f+2) true 2 made dir nm data S=YK 4 (W4 dir nm data true 2 made) S:=by
 rw[mb (f+1) true WT made S (s:=3) rfl,kl (s:=3) 3 S rfl,Ro]
 rfl
def Ss(f:Nat)(made:Bool)(S:h8):df (f+3) true 1 made dir nm data S=YK 5 (W4 dir nm data true 1 made) S:=by
 rw[mb (f+2) true WT made S (s:=2) rfl,kl (s:=2) 4 S rfl,S_]
 rfl
def BA(f:Nat)(light made:Bool)(S:h8):df (f+5) light 1 made dir nm data S=YK 5 (W4 dir nm data light 1 made) S:=by
 cases light with
 |true=>exact Ss (f+2) made S
 |false=>exact TV f made S
def N'(light:Bool)(S:h8):df 10 light 0 false dir nm data S=bM S dir nm data light:=by
 unfold bM;by_cases h:(bX S dir (aB nm)).2≠0
 .rw[show df 10 light 0 false dir nm data S=df (9+1) light 0 false dir nm data S from rfl,Me 9 light false S h,show df (9+1) light 1 false dir nm data S=df (5+5) light 1 false dir nm data S from rfl,BA];exact(show YK 6 (tk0 dir nm data light) S=YK 5 (W4 dir nm data light 1 false) S from eh (r:=⟨false,0,tk0 dir nm data light,S⟩) (by show fy _ _=_;unfold fy;exact Vb h) rfl (by cases light<;>rfl) (by cases light<;>rfl)).symm
 have b:(bX S dir (aB nm)).2=0:=by simpa using h
 rw[show df 10 light 0 false dir nm data S=df (9+1) light 0 false dir nm data S from rfl,Jp 9 light false S b];have c:Xa 0 (W4 dir nm data light 0 false) S=⟨true,(ax 1 dir nm data S).2,W4 dir nm data light 0 (eS 1 false (ax 1 dir nm data S).2),(ax 1 dir nm data S).1⟩:=by show fy _ _=_;unfold fy;rw[tr (by exact h)];rfl
 rw[show YK 6 (tk0 dir nm data light) S=YK (5+1) (W4 dir nm data light 0 false) S from rfl,kl (s:=1) 5 S c];have d:eU (W4 dir nm data light (0+1) false)=false:=by cases light<;>rfl
 by_cases a:(ax 1 dir nm data S).2≠0
 .rw[Vb a,Vb a]
 rw[tr a,tr a,tr (by rw[d];simp),show df 9 light 1 (eS 1 false (ax 1 dir nm data S).2) dir nm data (ax 1 dir nm data S).1=df (4+5) light 1 (eS 1 false (ax 1 dir nm data S).2) dir nm data (ax 1 dir nm data S).1 from rfl,BA]
end
end Go.Proofs
end
namespace Go.Sx
open Go
def Ext.perm{w:hW}{X D D':aA}(h:Ext w X D)(b:D'.Perm D):Ext w X D':=
 ⟨fun c a=>h.new c ((b.map Prod.fst).mem_iff.1 a),fun c a=>(b.map Prod.fst).mem_iff.2 (h.all c a)⟩
section
variable {P:h_} {w0:hW} {f:Fr} {L:aA} {N:Fr->aA->Prop} {ops:Array Oper} {rest:List Oper} {md:Md} {d:Option Tmp} {ty:h7} {ps:String} {af:Array Edge} {g:Option (Nat×Bool)}
def Ow.qo4{x y m:Operand}{b b2:hU}{ts:Array h7}{k:FuncId}{X Y:aA}{S:hU->aA->Prop}{s:Md}(C:L=X++Y)(o:md.WM=some s)
  (E:ay ops f ⟨d,.call ⟨.value x,#[y,m],ts⟩,ty,ps,af,g⟩=false)
  (j:ev f x=.func (.func k) #[] #[]) (F:ev f y=b) (G:ev f m=b2)
  (H:∀a w,(callFunc k a).run P w=.ok (.enter k a) w)
  (i:∀w,Hp w0 L w->(∀p,p∈X->w.heap[p.1]? =some p.2)->(keys X).Nodup->Va P k #[b,b2] w (XS w X S))
  (I:∀v D,qf5 w0 L X D->S v D->Ow P w0 ops s rest (aa f d v) (D++Y) N):
  Ow P w0 ops md (⟨d,.call ⟨.value x,#[y,m],ts⟩,ty,ps,af,g⟩::rest) f L N:=by
 subst C;have t:∀w,Hp w0 (X++Y) w->(keys X).Nodup/\ ∀c,c∈keys Y->c∉keys X:=by intro w l;have:=l.nodup;rw[aV,XR] at this;exact⟨this.1,fun c i j=>this.2.2 c j c i rfl⟩
 refine Ow.call (S:=fun B v D=>((∀c,c∈keys D->c∈keys X\/B<=c)/\(∀c,c∈keys X->c∈keys D)/\S v D)/\ ∃w,Hp w0 (X++Y) w/\w.heap.size=B) o E j H (fun w l=>?_) ?_
 .show Va P k (#[]++ #[y,m].map (ev f)++ #[]) w _;rw[show(#[]++ #[y,m].map (ev f)++ #[]:Array hU)=#[b,b2] by simp[F,G]];refine Calls.mono (i w l (fun p n=>l.has _ _ (aq _ n)) (t w l).1) ?_;rintro e J ⟨v,D,o,n,q⟩;exact⟨v,D,o,n,⟨q.1.new,q.1.all,q.2⟩,w,l,rfl⟩
 rintro B v D U V ⟨⟨u,z,K⟩,W,A,Z⟩;refine⟨D++Y,?_,I v D ⟨fun c i=>(u c i).imp id fun h=>⟨ef fun b M=>by have:=A.lt M;omega,by have:=A.size;omega⟩,z⟩ K⟩;intro w J za h k;have r:=h.trans k;have O:∀c,c∈keys Y->c∉keys D:=by
  intro c i Q;rcases u c Q with j|j
  .exact(t w h).2 c i j
  have:=h.lt (b:=c) (by rw[aV];exact cJ _ i);omega
 have R:X.filter (fun p=> !(keys D).contains p.1)=[]:=by rw[List.filter_eq_nil_iff];intro p n;have:=z p.1 (List.mem_map.2 ⟨p,n,rfl⟩);simpa using this
 have T:Y.filter (fun p=> !(keys D).contains p.1)=Y:=BT O;rw[List.filter_append,R,T,Vy] at r;refine r.same (fun p=>by simp[or_comm]) ?_;have:=r.nodup;rw[aV] at this |-;exact(Y4.nodup_iff).1 this
end
end Go.Sx
section
open Go Go.Proofs Go.Sx Go.StP
namespace Go.Proofs
def YE(dir nm data:No)(v:hU)(made:Bool):Obj:=.cells #[vs dir,vs nm,vs data,v,.bool made] 228 (0,0)
def YS(light:Bool):Obj:=.cells ((bc light).map fun n:Nat=>vi (n:Int)).toArray 3 (0,0)
def YC(light:Bool)(k bs:Nat):hU:=Xr bs (if(bc light).length<=k then(bc light).length - 1 else k) ((bc light).length - k) ((bc light).length - k)
section
variable {dir nm data:No} {v:hU} {made:Bool}
def uK(n:Nat):aF (some (false,n)) (some (YE dir nm data v made)) 0=some (vs dir):=(rfl)
def uc(n:Nat):aF (some (false,n)) (some (YE dir nm data v made)) 1=some (vs nm):=(rfl)
def w8(n:Nat):aF (some (false,n)) (some (YE dir nm data v made)) 2=some (vs data):=(rfl)
def w6(n:Nat):aF (some (false,n)) (some (YE dir nm data v made)) 3=some v:=(rfl)
def uX(n:Nat):aF (some (false,n)) (some (YE dir nm data v made)) 4=some (.bool made):=(rfl)
def rL(a:Bool){q:hU}(b:Value.oneCell' q=true/\q.cells=#[q]):aZ (some (a,1)) (some (YE dir nm data v made)) 3 q=some (YE dir nm data q made):=cP [vs dir,vs nm,vs data] [v] [q] [.bool made] a _ 228 rfl rfl b.2 rfl (by simp[b.1])
def BX(a b:Bool):aZ (some (a,1)) (some (YE dir nm data v made)) 4 (.bool b)=some (YE dir nm data v b):=cP [vs dir,vs nm,vs data,v] [.bool made] [.bool b] [] a _ 228 rfl rfl rfl rfl rfl
end
def TO(light:Bool)(k bs:Nat)(m:Bool×Nat):Yw (.sl m) (YC light k bs)=some (vi (((bc light).length - k:Nat):Int)):=(rfl)
def Ai{light:Bool}{k:Nat}(bs:Nat)(b:k< (bc light).length)(a:Bool):ez (.sl (a,1)) (YC light k bs) (some 0)=some (vp bs k):=by have h:=j5 (a,1) bs k ((bc light).length - k) ((bc light).length - k) 0 oM;unfold YC;rw[tr oM];simpa using h
def EA(light:Bool):(bc light).length<=6:=by cases light<;>decide
def wR{light:Bool}{k:Nat}(b:k< (bc light).length)(n:Nat):aF (some (false,n)) (some (YS light)) k=some (vi (((bc light).getD k 0:Nat):Int)):=by
 have c:=EA light;have a:k=0\/k=1\/k=2\/k=3\/k=4\/k=5:=by omega
 cases light with
 |true=>rcases a with rfl|rfl|rfl|rfl|rfl|rfl<;>first|rfl|exact Vx b WT
 |false=>rcases a with rfl|rfl|rfl|rfl|rfl|rfl<;>rfl
def uo{light:Bool}{k:Nat}(bs:Nat)(c:k< (bc light).length)(a:Bool):eN (.sl (a,1)) (YC light k bs) (some (some 1)) none=some (YC light (k+1) bs):=by
 have b:(0:Int)<= ((1:Nat):Int)/\((1:Nat):Int)<= (((bc light).length - k:Nat):Int):=⟨by omega,by omega⟩;unfold YC;rw[tr oM];show eN (.sl (a,1)) (Xr bs k ((bc light).length - k) ((bc light).length - k)) (some (some ((1:Nat):Int))) none=_;unfold eN Xr;simp only[og _ _ _ b,WX];by_cases h:(bc light).length - k=1
 .rw[Vb h,Vb oM];simp only[h,Nat.sub_self];rw[show(bc light).length - 1=k by omega,show(bc light).length - (k+1)=0 by omega]<;>rfl
 rw[tr h,tr oM];simp only[ic,Ws];rw[show(bc light).length - (k+1)=(bc light).length - k - 1 by omega]<;>rfl
def tD{light:Bool}{k:Nat}(b:k< (bc light).length):((((bc light).getD k 0:Nat):Int)==1)=decide (k=0):=by
 have c:=EA light;have a:k=0\/k=1\/k=2\/k=3\/k=4\/k=5:=by omega
 cases light with
 |true=>rcases a with rfl|rfl|rfl|rfl|rfl|rfl<;>first|rfl|exact Vx b WT
 |false=>rcases a with rfl|rfl|rfl|rfl|rfl|rfl<;>rfl
def oK(light:Bool)(k bs:Nat):Value.oneCell' (YC light k bs)=true/\(YC light k bs).cells=#[YC light k bs]:=⟨rfl,rfl⟩
def vg(dir nm data:No)(bs n c:Nat):cL (bP prog 228) (ac prog 228) [(0,vs dir),(1,vs nm),(2,vs data),(3,Xr bs 0 n c)]=some (.agg #[vs dir,vs nm,vs data,Xr bs 0 n c,.bool false]):=by
 rw[show bP prog 228=some [(0,1),(1,1),(2,1),(3,1),(4,1)] from id kR,qL8]
 rfl
def jn:=aN (aN (aN @bA @b9) (qS1 @Sx.Wk @Sx.Wl @uK)) (aN (aN @uc @w8) (qS1 @w6 @uX @BX))
def Iu(C:Yd)(S:h8)(N bt:Nat)(dir nm data:No)(v:hU)(made:Bool)(w:hW)(b:DcW w C S)(a:ZH S N)(i:N<900000)(c:w.heap[bt]? =some (YE dir nm data v made))(j:nm.length<=900000):
  Va prog 162 #[vp C.bd 0,vp bt 0] w (fun r D=>r=.bool ((bX S dir (aB nm)).2==0)/\D=[]):=by
 have k:(aB nm).length<=900004:=by unfold aB;rw[VV];simp;omega
 have d:∀e:Nat,((e:Int)==0)=(e==0):=fun e=>by cases e<;>rfl
 refine Va.Vr func162 rfl (rs:=[.tmp 4]) results162 ntmps162 ?_;refine kf ?_;refine kz [1] @jn ?_;refine Cw.Vu [bt] [0,1,2,3,5,6,7,4,8,9,10,11,12,13,14,15] [] kR kR kR ?_;refine WQ ?_;refine kq (aN @jn @c) ?_;refine Ow.WV ?_;refine Ow.Vc rfl call42 (fun f g=>sB f C S dir (aB nm) (b.Wo g trivial) a.ok (a.B.b oM) oM) ?_
 with_reducible refine Ow.ZQ ?_
 refine kq @jn ?_;have h:=d (bX S dir (aB nm)).2;refine ky (aN @jn @h) ?_;refine⟨_,(ke @jn),trivial,?_⟩
 rfl
def LW{light:Bool}{k:Nat}(b:k< (bc light).length):1<= (bc light).getD k 0/\(bc light).getD k 0<=6:=by
 have c:=EA light;have a:k=0\/k=1\/k=2\/k=3\/k=4\/k=5:=by omega
 cases light with
 |true=>rcases a with rfl|rfl|rfl|rfl|rfl|rfl<;>first|decide|exact Vx b WT
 |false=>rcases a with rfl|rfl|rfl|rfl|rfl|rfl<;>decide
def StC(C:Yd)(bt bs:Nat)(light:Bool)(dir nm data:No)(N:Nat)(R:DsR)(v:hU)(D:aA):Prop:=
 v=.tuple #[.bool R.done,vi (R.e:Nat)]/\ ∃b c a,(b++[(bt,YE dir nm data a R.made),(bs,YS light)]).Perm D/\c.bd=C.bd/\XT b c R.S/\ZH R.S N/\((R.e=0->a=YC light R.k bs)/\(R.e≠0->a= Vj))
def Au{X:aA}{bt bs:Nat}{O1 O2:Obj}(a:bt∉keys X)(b:bs∉keys X)(c:bt≠bs)(w:hW):aG w (X++[(bt,O1),(bs,O2)]) bt=some O1/\aG w (X++[(bt,O1),(bs,O2)]) bs=some O2:=
 ⟨aO (by rw[cu a];simp[Sx.look]),aO (by rw[cu b];simp[Sx.look,c])⟩
def ut{X:aA}{bt bs:Nat}{O1 O2:Obj}(a:bt∉keys X):Sx.look (X++[(bt,O1),(bs,O2)]) bt=some O1:=by rw[cu a];simp[Sx.look]
def Ah{X:aA}{bt bs:Nat}{b O1 O2:Obj}(a:bt∉keys X):Vh (X++[(bt,O1),(bs,O2)]) bt b=X++[(bt,b),(bs,O2)]:=by
 induction X with
 |nil=>simp[Vh]
 |cons p X d=>obtain⟨c,o⟩:=p;simp only[keys,VY,Vw,not_or] at a;rw[Wp,Vh,tr (fun h=>a.1 h.symm),d a.2,Wp]
section
variable {S:h8} {dir nm data:No}
def Q_:doV S 5 dir (aB nm) []=ax 1 dir nm data S:=(rfl)
def Q7:doV S 0 dir (aB nm) []=ax 2 dir nm data S:=(rfl)
def QL:doV S 1 dir (aB nm) data=ax 3 dir nm data S:=(rfl)
def Pz:doV S 2 dir (aB nm) []=ax 4 dir nm data S:=(rfl)
def PZ:doV S 4 dir (aB nm) nm=ax 5 dir nm data S:=(rfl)
def R1:doV S 3 dir [] []=ax 6 dir nm data S:=(rfl)
def Am{made:Bool}{e:Nat}:eS 5 made e=(made&&e !=0):=(rfl)
end
structure SbG where
 C:Yd
 X:aA
def cR:=aN (aN (aN @bA @b9) (qS1 @Sx.Wk @Sx.Wl @uK)) (aN (qS1 @uc @w8 @w6) (qS1 @uX @BX @TO))
def GO(X:aA)(C:Yd)(S:h8)(N bt bs k:Nat)(light made:Bool)(dir nm data:No)(w:hW)(hX:∀p,p∈X++[(bt,YE dir nm data (YC light k bs) made),(bs,YS light)]->w.heap[p.1]? =some p.2)(hn:(keys (X++[(bt,YE dir nm data (YC light k bs) made),(bs,YS light)])).Nodup)(i:XT X C S)(u:ZH S N)(hN:N<800000)(T:k< (bc light).length)(zj:k=0->1< (bc light).length)(zl:nm.length<=900000)(zu:data.length<=1000000):
  Va prog 133 #[vp bt 0,vp C.bd 0] w (XS w (X++[(bt,YE dir nm data (YC light k bs) made),(bs,YS light)]) (StC C bt bs light dir nm data (N+2) (dR light k made dir nm data S))):=by
 obtain⟨R,D⟩:∃R,dR light k made dir nm data S=R:=⟨_,rfl⟩;rw[D];refine Va.Vs func133 rfl (rs:=[.tmp 4,.tmp 5]) results133 ntmps133 hX hn ?_;refine kf ?_;have zm:Ext w (X++[(bt,YE dir nm data (YC light k bs) made),(bs,YS light)]) ((bt,YE dir nm data (YC light k bs) made)::(bs,YS light)::X):=(Ext.refl w (X++[(bt,YE dir nm data (YC light k bs) made),(bs,YS light)])).perm Xm;have zn:(keys X).Nodup/\bt∉keys X/\bs∉keys X/\bt≠bs:=by have h:=hn;rw[aV] at h;obtain⟨h1,h2,h3⟩:=XR.1 h;simp only[keys,VY,Wr,Vw,WI,WB] at h2 h3;refine⟨h1,fun x=>h3 _ x bt (.inl rfl) rfl,fun x=>h3 _ x bs (.inr rfl) rfl,?_⟩;simpa using h2
 obtain⟨zv,L,O,ze⟩:=zn;have zk:((((bc light).length - k:Nat):Int)==0)=false:=by rw[WN];omega
 refine Cw.Vd (M:=(bt,YE dir nm data (YC light k bs) made)::(bs,YS light)::X) Xm ?_;have zf:∀o w,aG w ((bt,o)::(bs,YS light)::X) bs=some (YS light):=fun o w=>aO (by simp[Sx.look,ze]);have ix:=fun a=>Ai (light:=light) bs T a;have ld:=fun n=>wR (light:=light) T n;have sl:=fun a=>uo (light:=light) bs T a;refine kz [1000003] (aN @cR @zk) ?_;refine Cw.ZO (G:=Unit) [14,15,16,17,18,19,20,21,22,23,24,25,26,27,28,29,30,31,32,33,34] (fun g=>[]) (fun g=>(bt,YE dir nm data (YC light (atK k dir nm S) bs) made)::(bs,YS light)::X) (fun g=>True) ?_ ?_
 .by_cases zg:k=0
  .subst zg;have s1:((((bc light).getD 0 0:Nat):Int)==1)=true:=by rw[tD T];rfl
   refine kz [4] (qS3 @cR @zf @ix @ld @s1) ?_;refine Ow.Vc rfl call162 (fun f P=>Iu C S N bt dir nm data (YC light 0 bs) made f (i.qf3 P (fun p hp=>by simp[hp])) u oM (P.has _ _ (aX ..)) zl) ?_;cases hr:((bX S dir (aB nm)).2==0) with
   |true=>
    have ha:atK 0 dir nm S=0:=by unfold atK;rw[tr (fun h=>h.2 (by simpa using hr))]
    refine ko @cR ?_;refine ky @cR ?_;rw[ha];exact WY.mk () trivial rfl rfl
   |false=>
    have ha:atK 0 dir nm S=1:=by unfold atK;rw[Vb ⟨rfl,by simpa using hr⟩]
    have st:=fun a=>rL (dir:=dir) (nm:=nm) (data:=data) (v:=YC light 0 bs) (made:=made) a (oK light 1 bs);refine ko @cR ?_;refine ky (qS1 @cR @sl @st) ?_;rw[ha];exact WY.mk () trivial rfl rfl
  have s1:((((bc light).getD k 0:Nat):Int)==1)=false:=by rw[tD T];simpa using zg
  have ha:atK k dir nm S=k:=by unfold atK;rw[tr (fun h=>zg h.1)]
  refine ky (qS3 @cR @zf @ix @ld @s1) ?_;rw[ha];exact WY.mk () trivial rfl rfl
 intro g j hg;refine kv ?_;have zb:atK k dir nm S< (bc light).length:=by
  unfold atK
  split
  .rename_i h;exact zj h.1
  exact T
 have H:Ext w (X++[(bt,YE dir nm data (YC light k bs) made),(bs,YS light)]) (X++[(bt,YE dir nm data (YC light (atK k dir nm S) bs) made),(bs,YS light)]):=(Ext.refl w _).keys Wg;unfold dR at D;simp only at D;generalize zo:X++[(bt,YE dir nm data (YC light k bs) made),(bs,YS light)]=X0 at*;clear hX hn zm ix ld sl zo zj T zk;generalize atK k dir nm S=k at*;obtain⟨zw,zx⟩:=LW zb;generalize zq:(bc light).getD k 0=s at*;have zy:(aB nm).length<=900004:=by unfold aB;rw[VV];simp;omega
 have ix:=fun a=>Ai (light:=light) bs zb a;have ld:∀n,aF (some (false,n)) (some (YS light)) k=some (vi (s:Int)):=fun n=>by rw[wR (light:=light) zb n,zq]
 have sl:=fun a=>uo (light:=light) bs zb a;refine kz [1000007] @cR ?_;refine Cw.ZO (G:=SbG) [7,40,41,42,43,44,45,46,47,48,49,50,51,52,53,54,55,56,57,58,59,60,61,62,63,64,65,66,67,68,69,70,71,72,73,74,75,76,77,78,79,80,81,82,83,84,85,86,87,88,89,90,91,92,93,94,95,96,97,98,99,100,101,102,103,104,105,106,107,108,109,110,111,112,113,114,115,116] (fun g=>[(7,vi ((ax s dir nm data S).2:Nat))]) (fun g=>g.X++[(bt,YE dir nm data (YC light k bs) (eS s made (ax s dir nm data S).2)),(bs,YS light)]) (fun g=>XT g.X g.C (ax s dir nm data S).1/\g.C.bd=C.bd/\bt∉keys g.X/\bs∉keys g.X/\Ext w X0 (g.X++[(bt,YE dir nm data (YC light k bs) made),(bs,YS light)])) ?_ ?_
 .refine kz [8] (qS2 @cR @zf @ix @ld) ?_;have zr:=Au (O1:=YE dir nm data (YC light k bs) made) (O2:=YS light) L O ze w;obtain⟨y,-⟩:=zr;have i0:∀e:Nat,((e:Int)==0)=(e==0):=fun e=>by cases e<;>rfl
  refine Cw.Vd (M:=X++[(bt,YE dir nm data (YC light k bs) made),(bs,YS light)]) Xm ?_;rcases(by omega:s=1\/s=2\/s=3\/s=4\/s=5\/s=6) with rfl|rfl|rfl|rfl|rfl|rfl
  .have I:((((1:Nat):Int))==1)=true:=rfl;refine ky (qS1 @cR @I @y) ?_;refine kq (aN @cR @y) ?_;refine Ow.Wa (X:=X) (Y:=[(bt,YE dir nm data (YC light k bs) made),(bs,YS light)]) rfl rfl rfl call51 (fun f P z A=>m5 X C S N 5 dir (aB nm) [] f z A i u oM ⟨by decide,by decide⟩ oM (aR _)) (fun V l b B=>?_);obtain⟨rfl,r,t,c⟩:=B;rw[Q_ (data:=data)] at c |-;have d:=fe b L Wg;have E:=fe b O Wg;have F:=H.X1 b;refine kq @cR ?_;exact WY.mk ⟨r,l⟩ ⟨c,t,d,E,F⟩ rfl rfl
  .have I:((((2:Nat):Int))==1)=false:=rfl;have Q:((((2:Nat):Int))==2)=true:=rfl;refine ky (qS2 @cR @I @Q @y) ?_;refine kq (aN @cR @y) ?_;refine Ow.Wa (X:=X) (Y:=[(bt,YE dir nm data (YC light k bs) made),(bs,YS light)]) rfl rfl rfl call51 (fun f P z A=>m5 X C S N 0 dir (aB nm) [] f z A i u oM ⟨by decide,by decide⟩ oM (aR _)) (fun V l b B=>?_);obtain⟨rfl,r,t,c⟩:=B;rw[Q7 (data:=data)] at c |-;have d:=fe b L Wg;have E:=fe b O Wg;have F:=H.X1 b;refine kq @cR ?_;generalize ax 2 dir nm data S=q at*;obtain⟨S1,e⟩:=q;simp only at c |-;have W:=i0 e;have lk:=ut (O1:=YE dir nm data (YC light k bs) made) (bs:=bs) (O2:=YS light) d;have st:=fun a=>BX (dir:=dir) (nm:=nm) (data:=data) (v:=YC light k bs) (made:=made) a (e==0);refine ky (qS3 @cR @W @lk @st @dq) ?_;exact WY.mk ⟨r,l⟩ ⟨c,t,d,E,F⟩ (Ah d) rfl
  .have I:((((3:Nat):Int))==1)=false:=rfl;have Q:((((3:Nat):Int))==2)=false:=rfl;have U:((((3:Nat):Int))==3)=true:=rfl;refine kz [14] (qS2 @cR @I @Q @U) ?_;refine Cw.WU [0,1,2,3,5,6,7,8,4,9,10,11] [10] rfl kR kR ?_;refine WQ ?_;refine kq (aN @cR @y) ?_;refine Ow.Wa (X:=X) (Y:=[(bt,YE dir nm data (YC light k bs) made),(bs,YS light)]) rfl rfl rfl call51 (fun f P z A=>m5 X C S N 1 dir (aB nm) data f z A i u oM ⟨by decide,by decide⟩ oM oM) (fun V l b B=>?_);obtain⟨rfl,r,t,c⟩:=B;rw[QL] at c |-;have d:=fe b L Wg;have E:=fe b O Wg;have F:=H.X1 b;refine kq @cR ?_;exact WY.mk ⟨r,l⟩ ⟨c,t,d,E,F⟩ rfl rfl
  .have I:((((4:Nat):Int))==1)=false:=rfl;have Q:((((4:Nat):Int))==2)=false:=rfl;have U:((((4:Nat):Int))==3)=false:=rfl;have q4:((((4:Nat):Int))==4)=true:=rfl;refine ky (qS4 @cR @I @Q @U @q4 @y) ?_;refine kq (aN @cR @y) ?_;refine Ow.Wa (X:=X) (Y:=[(bt,YE dir nm data (YC light k bs) made),(bs,YS light)]) rfl rfl rfl call51 (fun f P z A=>m5 X C S N 2 dir (aB nm) [] f z A i u oM ⟨by decide,by decide⟩ oM (aR _)) (fun V l b B=>?_);obtain⟨rfl,r,t,c⟩:=B;rw[Pz (data:=data)] at c |-;have d:=fe b L Wg;have E:=fe b O Wg;have F:=H.X1 b;refine kq @cR ?_;exact WY.mk ⟨r,l⟩ ⟨c,t,d,E,F⟩ rfl rfl
  .have I:((((5:Nat):Int))==1)=false:=rfl;have Q:((((5:Nat):Int))==2)=false:=rfl;have U:((((5:Nat):Int))==3)=false:=rfl;have q4:((((5:Nat):Int))==4)=false:=rfl;have q5:((((5:Nat):Int))==5)=true:=rfl;refine kz [18] (qS4 @cR @I @Q @U @q4 @q5) ?_;refine Cw.WU [0,1,2,3,5,6,7,8,4,9,10,11] [10] rfl kR kR ?_;refine WQ ?_;refine kq (aN @cR @y) ?_;refine Ow.Wa (X:=X) (Y:=[(bt,YE dir nm data (YC light k bs) made),(bs,YS light)]) rfl rfl rfl call51 (fun f P z A=>m5 X C S N 4 dir (aB nm) nm f z A i u oM ⟨by decide,by decide⟩ oM oM) (fun V l b B=>?_);obtain⟨rfl,r,t,c⟩:=B;rw[PZ (data:=data)] at c |-;have d:=fe b L Wg;have E:=fe b O Wg;have F:=H.X1 b;refine kq @cR ?_;generalize ax 5 dir nm data S=q at*;obtain⟨S1,e⟩:=q;simp only at c |-;have W:=i0 e;cases J:(e==0) with
   |true=>
    rw[J] at W;have x:eS 5 made e=false:=by rw[Am,bne,J];simp
    rw[x];have lk:=ut (O1:=YE dir nm data (YC light k bs) made) (bs:=bs) (O2:=YS light) d;have st:=fun a=>BX (dir:=dir) (nm:=nm) (data:=data) (v:=YC light k bs) (made:=made) a false;refine ky (qS3 @cR @W @lk @st @dq) ?_;exact WY.mk ⟨r,l⟩ ⟨c,t,d,E,F⟩ (Ah d) rfl
   |false=>
    rw[J] at W;have x:eS 5 made e=made:=by rw[Am,bne,J];simp
    rw[x];refine ky (aN @cR @W) ?_;exact WY.mk ⟨r,l⟩ ⟨c,t,d,E,F⟩ rfl rfl
  have I:((((6:Nat):Int))==1)=false:=rfl;have Q:((((6:Nat):Int))==2)=false:=rfl;have U:((((6:Nat):Int))==3)=false:=rfl;have q4:((((6:Nat):Int))==4)=false:=rfl;have q5:((((6:Nat):Int))==5)=false:=rfl;have q6:((((6:Nat):Int))==6)=true:=rfl;refine ky (qS6 @cR @I @Q @U @q4 @q5 @q6 @y) ?_;refine kq (aN @cR @y) ?_;refine Ow.Wa (X:=X) (Y:=[(bt,YE dir nm data (YC light k bs) made),(bs,YS light)]) rfl rfl rfl call51 (fun f P z A=>m5 X C S N 3 dir [] [] f z A i u oM ⟨by decide,by decide⟩ (aR _) (aR _)) (fun V l b B=>?_);obtain⟨rfl,r,t,c⟩:=B;rw[R1 (nm:=nm) (data:=data)] at c |-;have d:=fe b L Wg;have E:=fe b O Wg;have F:=H.X1 b;refine kq @cR ?_;exact WY.mk ⟨r,l⟩ ⟨c,t,d,E,F⟩ rfl rfl
 intro g j hg;refine kv ?_;clear i L O H;obtain⟨C1,K⟩:=g;simp only at hg |-;obtain⟨i,za,L,O,H⟩:=hg;rw[<-za];have Z:ZH (ax s dir nm data S).1 (N+1):=by
  rcases(by omega:s=1\/s=2\/s=3\/s=4\/s=5\/s=6) with rfl|rfl|rfl|rfl|rfl|rfl
  .exact u.do oM 5 dir (aB nm) [] oM (aR _)
  .exact u.do oM 0 dir (aB nm) [] oM (aR _)
  .exact u.do oM 1 dir (aB nm) data oM oM
  .exact u.do oM 2 dir (aB nm) [] oM (aR _)
  .exact u.do oM 4 dir (aB nm) nm oM oM
  exact u.do oM 3 dir [] [] (aR _) (aR _)
 generalize ax s dir nm data S=q at*;obtain⟨S1,e⟩:=q;simp only at D i Z |-;generalize eS s made e=m at*;refine Cw.Vd (M:=(bt,YE dir nm data (YC light k bs) m)::(bs,YS light)::K) Xm ?_;have zc:=fun a=>rL (dir:=dir) (nm:=nm) (data:=data) (v:=YC light k bs) (made:=m) a (oK light (k+1) bs);by_cases J:e=0
 .have e0:((e:Int) !=0)=false:=by rw[J];rfl
  rw[tr (fun h=>h J)] at D;have hl:((((bc light).length - (k+1):Nat):Int)==0)=(k+1==(bc light).length):=by rw[YZ,W8,W8];omega
  refine ky (qS3 @cR @sl @zc @e0 @hl) ?_;refine⟨_,(ke @cR),?_⟩;rw[<-D];exact⟨(H.keys (D':=K++[(bt,YE dir nm data (YC light (k+1) bs) m),(bs,YS light)]) Wg).perm Xm,rfl,K,C1,YC light (k+1) bs,Xm,za,i,Z.mono oM,fun _=>rfl,fun h=>Vx rfl h⟩
 have e0:((e:Int) !=0)=true:=by rw[Yb];omega
 rw[Vb J] at D;have zh:=fun a=>rL (dir:=dir) (nm:=nm) (data:=data) (v:=YC light (k+1) bs) (made:=m) a (q:= Vj) ⟨rfl,rfl⟩;by_cases x:m=true/\e≠9
 .rw[Vb x] at D;have m1:=x.1;have e9:((e:Int) !=9)=true:=by
   rw[Yb];have:=x.2;omega
  subst m1;refine kz [27] (qS4 @cR @sl @zc @zh @e0 @e9) ?_;refine Cw.Vd (M:=K++[(bt,YE dir nm data Vj true),(bs,YS light)]) Xm ?_;obtain⟨y,-⟩:=Au (O1:=YE dir nm data Vj true) (O2:=YS light) L O ze w;refine ky (aN @cR @y) ?_;refine kq (aN @cR @y) ?_;refine Ow.Wa (X:=K) (Y:=[(bt,YE dir nm data Vj true),(bs,YS light)]) rfl rfl rfl call51 (fun f P z A=>m5 K C1 S1 (N+1) 5 dir (aB nm) [] f z A i Z oM ⟨by decide,by decide⟩ oM (aR _)) (fun V l b B=>?_);obtain⟨rfl,r,t,c⟩:=B;have zt:=Z.do oM 5 dir (aB nm) [] oM (aR _);have zd:Ext w X0 (K++[(bt,YE dir nm data Vj true),(bs,YS light)]):=H.keys Wg;refine kq @cR ?_;refine ky @cR ?_;refine⟨_,(ke @cR),?_⟩;rw[<-D];exact⟨zd.X1 b,rfl,l,r,_,WW _,t.trans za,c,zt,fun h=>Vx h J,fun _=>rfl⟩
 rw[tr x] at D;have zd:Ext w X0 ((bt,YE dir nm data Vj m)::(bs,YS light)::K):=(H.keys (D':=K++[(bt,YE dir nm data Vj m),(bs,YS light)]) Wg).perm Xm;by_cases zi:m=true
 .have e9:((e:Int) !=9)=false:=by
   have h9:e=9:=Za fun h=>x ⟨zi,h⟩;rw[h9];rfl
  subst zi;refine ky (qS4 @cR @sl @zc @zh @e0 @e9) ?_;refine⟨_,(ke @cR),?_⟩;rw[<-D];exact⟨zd,rfl,K,C1, Vj,Xm,za,i,Z.mono oM,fun h=>Vx h J,fun _=>rfl⟩
 obtain rfl:m=false:=by simpa using zi
 refine ky (qS3 @cR @sl @zc @zh @e0) ?_;refine⟨_,(ke @cR),?_⟩;rw[<-D];exact⟨zd,rfl,K,C1, Vj,Xm,za,i,Z.mono oM,fun h=>Vx h J,fun _=>rfl⟩
def JN{light:Bool}{k:Nat}{made:Bool}{dir nm data:No}{S:h8}(c:k< (bc light).length)(a:(dR light k made dir nm data S).done=false)(b:(dR light k made dir nm data S).e=0):(dR light k made dir nm data S).k< (bc light).length:=by
 have d:atK k dir nm S< (bc light).length:=by
  unfold atK
  split
  .cases light<;>decide
  exact c
 unfold dR at a b |-;simp only at a b |-
 split at a
 .rename_i h;rw[Vb h] at b;exact Vx b h
 rename_i h;rw[tr h];have:¬atK k dir nm S+1=(bc light).length:=WN.1 a;show atK k dir nm S+1<_;omega
def fK:=aN (aN @bA @b9) (aN @Sx.Wk @Sx.Wl)
structure RkG where
 f:Nat
 k:Nat
 made:Bool
 S:h8
 C:Yd
 X:aA
def RkS(C:Yd)(R:Nat×h8)(N:Nat)(v:hU)(D:aA):Prop:=v=vi (R.1:Nat)/\ ∃a,a.bd=C.bd/\XT D a R.2/\ZH R.2 N
def Gw(X:aA)(C:Yd)(S:h8)(N bt bs:Nat)(light:Bool)(dir nm data:No)(w:hW)(F:∀p,p∈X++[(bt,YE dir nm data (YC light 0 bs) false),(bs,YS light)]->w.heap[p.1]? =some p.2)(H:(keys (X++[(bt,YE dir nm data (YC light 0 bs) false),(bs,YS light)])).Nodup)(c:XT X C S)(d:ZH S N)(hN:N<700000)(I:nm.length<=900000)(J:data.length<=1000000):
  Va prog 92 #[vp C.bd 0,vp bt 0] w (XS w (X++[(bt,YE dir nm data (YC light 0 bs) false),(bs,YS light)]) (RkS C (df 10 light 0 false dir nm data S) (N+20))):=by
 obtain⟨R,a⟩:∃R,df 10 light 0 false dir nm data S=R:=⟨_,rfl⟩;rw[a];have K:1< (bc light).length:=by cases light<;>decide
 refine Va.Vs func92 rfl (rs:=[.tmp 4]) results92 ntmps92 F H ?_;refine kf ?_;refine ky @fK ?_;refine Cw.VU (G:=RkG) [8,9,13,14,15,12,16,17,6,7,18,19,20,21,22,23,4,10,11,5] (fun g=>[(5,vi ((10 - g.f:Nat):Int))]) (fun g=>g.X++[(bt,YE dir nm data (YC light g.k bs) g.made),(bs,YS light)]) (fun g=>df g.f light g.k g.made dir nm data g.S=R/\g.k< (bc light).length/\g.C.bd=C.bd/\XT g.X g.C g.S/\ZH g.S (N+2* (10 - g.f))/\g.f<=10/\Ext w (X++[(bt,YE dir nm data (YC light 0 bs) false),(bs,YS light)]) (g.X++[(bt,YE dir nm data (YC light g.k bs) g.made),(bs,YS light)])) (fun g=>g.f) ⟨10,0,false,S,C,X⟩ rfl rfl ?_ ?_
 .exact⟨a,by show 0<_;omega,rfl,c,d,aj 10,Ext.refl w _⟩
 intro g j L;refine kv ?_;clear a c d;obtain⟨f,k,made,S,z,A⟩:=g;obtain⟨a,q,e,c,d,O,s⟩:=L;simp only at a q e c d O s |-;rw[<-e];cases f with
 |zero=>have t:decide (((10 - 0:Nat):Int)<10)=false:=rfl;refine ky (aN @fK @t) ?_;refine⟨_,(ke @fK),?_⟩;exact⟨s,by rw[<-a];rfl,z,e,by rw[<-a];exact c.mono fun b o h=>a_ h,by rw[<-a];exact d.mono oM⟩
 |succ f=>
  have t:decide (((10 - (f+1):Nat):Int)<10)=true:=aP oM;rw[mn] at a;refine ky (aN @fK @t) ?_;refine Ow.Wa (X:=A++[(bt,YE dir nm data (YC light k bs) made),(bs,YS light)]) (Y:=[]) (VX _).symm rfl rfl call133 (fun P zc Q T=>GO A z S (N+2* (10 - (f+1))) bt bs k light made dir nm data P Q T c d oM q (fun _=>K) I J) (fun v4 D4 U V=>?_);obtain⟨rfl,W,u,zd,B,v,x,D,Z⟩:=V;rw[VX];have y:=(s.Xt U).perm B;have za:=JN (light:=light) (made:=made) (dir:=dir) (nm:=nm) (data:=data) (S:=S) q;refine Ow.Vd B ?_;generalize dR light k made dir nm data S=r at*;have E:=D.mono (M:=N+20) oM;by_cases i:r.done=true
  .rw[Vb (.inl i)] at a;refine ko (aN @fK @i) ?_;refine ky (aN @fK @i) ?_;refine⟨_,(ke @fK),?_⟩;rw[<-a];exact⟨y,rfl,u,v.trans e,x.mono fun b o h=>a_ h,E⟩
  have l:r.done=false:=by simpa using i
  by_cases m:r.e=0
  .have n:((r.e:Int) !=0)=false:=by rw[m];rfl
   rw[tr (fun h=>by rcases h with h|h;exact i h;exact h m)] at a;obtain rfl:=Z.1 m;have zb:((10 - (f+1):Nat):Int)+1=((10 - f:Nat):Int):=by omega
   refine ko (qS1 @fK @l @n) ?_;refine ky (qS2 @fK @l @n @zb) ?_;exact Vo.mk ⟨f,r.k,r.made,r.S,u,W⟩ (Nat.lt_succ_self f) ⟨a,za l m,v,x,D.mono (by show _<=N+2* (10 - f);omega),by show f<=10;omega,y⟩ rfl rfl
  have n:((r.e:Int) !=0)=true:=by rw[Yb];omega
  rw[Vb (.inr m)] at a;refine ko (qS1 @fK @l @n) ?_;refine ky (qS1 @fK @l @n) ?_;refine⟨_,(ke @fK),?_⟩;rw[<-a];exact⟨y,rfl,u,v.trans e,x.mono fun b o h=>a_ h,E⟩
def NtS(dir nm data:No)(light:Bool)(v:hU)(D:aA):Prop:= ∃bt a b,v=vp bt 0/\(b++[(bt,YE dir nm data (YC light 0 a) false),(a,YS light)]).Perm D
def gh:=aN (aN @bA @b9) (qS1 @Sx.Wk @Sx.Wl @rL)
def Gn(dir nm data:No)(light:Bool)(w:hW):
  Va prog 93 #[vs dir,vs nm,vs data,.bool light] w (XS w [] (NtS dir nm data light)):=by
 cases light with
 |false=>refine Va.Vs func93 rfl (rs:=[.tmp 8]) results93 ntmps93 (fun p d=>by cases d) Wg ?_;refine kf ?_;refine ky @gh ?_;refine Ow.buildSlice (e:=3) ((bc false).map fun n:Nat=>vi (n:Int)).toArray rfl rfl kR fun b j f=>?_;refine ko @gh ?_;refine Ow.build _ rfl (vg dir nm data b 6 6) ?_;refine Ow.box rfl rfl fun c k g=>?_;simp only[ag,Vy,Wp];refine ko @gh ?_;refine ky @gh ?_;refine⟨_,(ke @gh),?_⟩;exact⟨Ext.Vt ⟨f,g,trivial⟩,c,b,[],rfl,List.Perm.swap _ _ []⟩
 |true=>
  refine Va.Vs func93 rfl (rs:=[.tmp 8]) results93 ntmps93 (fun p d=>by cases d) Wg ?_;refine kf ?_;refine ky @gh ?_;refine Ow.buildSlice (e:=3) ((bc false).map fun n:Nat=>vi (n:Int)).toArray rfl rfl kR fun b j f=>?_;refine ko @gh ?_;refine Ow.build _ rfl (vg dir nm data b 6 6) ?_;refine Ow.box rfl rfl fun c k g=>?_;simp only[ag,Vy,Wp];refine ko @gh ?_;refine ky @gh ?_;refine Ow.buildSlice (e:=3) ((bc true).map fun n:Nat=>vi (n:Int)).toArray rfl rfl kR fun h q l=>?_;refine Ow.Vd (M:=(c,YE dir nm data (YC false 0 b) false)::(b,YS false)::[(h,YS true)]) (List.Perm.swap _ _ _) ?_;have st:=fun a=>rL (dir:=dir) (nm:=nm) (data:=data) (v:=YC false 0 b) (made:=false) a (oK true 0 h);have m:∀o i L,Vh ((c,o)::L) c i=(c,i)::L:=fun _ _ _=>by simp[Vh]
  refine ko (aN @gh @st) ?_;refine ky @gh ?_;refine⟨_,(ke @gh),?_⟩;rw[m];exact⟨Ext.Vt ⟨g,f,l,trivial⟩,c,h,[(b,YS false)],rfl,List.Perm.swap _ _ _⟩
def Np{w:hW}{X D:aA}(h:Vq w.heap.size D):Ext w X (X++D):=
 ⟨fun c a=>by rw[aV] at a;exact(Wu.1 a).imp id (h.le c),fun c a=>by rw[aV];exact aq _ a⟩
def DL(X:aA)(C:Yd)(S:h8)(N:Nat)(dir nm data:No)(w:hW)(j:∀p,p∈X->w.heap[p.1]? =some p.2)(k:(keys X).Nodup)(l:XT X C S)(m:ZH S N)(n:N<700000)(q:nm.length<=900000)(r:data.length<=1000000):
  Va prog 44 #[vp C.bd 0,vs dir,vs nm,vs data] w (XS w X (RkS C (bM S dir nm data false) (N+20))):=by
 refine Va.Vs func44 rfl (rs:=[.tmp 8]) results44 ntmps44 j k ?_;refine kf ?_;refine ky @gh ?_;refine Ow.Wf rfl rfl call93 (fun e s=>Gn dir nm data false e) ?_;rintro B v D J t u ⟨c,a,d,rfl,f⟩;have x:Ext w X ((X++d)++[(c,YE dir nm data (YC false 0 a) false),(a,YS false)]):=by rw[Wb];exact(Np (u.mono t)).perm (f.append_left X)
 refine Ow.Vd (M:=(X++d)++[(c,YE dir nm data (YC false 0 a) false),(a,YS false)]) (by rw[Wb];exact f.append_left X) ?_;refine Ow.Wa (X:=(X++d)++[(c,YE dir nm data (YC false 0 a) false),(a,YS false)]) (Y:=[]) (VX _).symm rfl rfl call92 (fun e s y z=>Gw (X++d) C S N c a false dir nm data e y z (l.mono fun b o h=>a_ h) m n q r) (fun K L A E=>?_);obtain⟨rfl,F,G,g,i⟩:=E;rw[VX];have H:=x.Xt A;have I:df 10 false 0 false dir nm data S=bM S dir nm data false:=N' false S;rw[I] at g i |-;refine ko @gh ?_;refine ky @gh ?_;refine⟨_,(ke @gh),?_⟩;exact⟨H,rfl,F,G,g,i⟩
def W5(t:Yg):Obj:=.cells #[vs t.dir,vs t.name,vs t.data,.bool t.light,vi (t.next:Int),.bool t.made,.bool t.ended] 218 (0,0)
def vO(t:Yg)(n:Nat):aF (some (false,n)) (some (W5 t)) 0=some (vs t.dir):=(rfl)
def vw(t:Yg)(n:Nat):aF (some (false,n)) (some (W5 t)) 1=some (vs t.name):=(rfl)
def vB(t:Yg)(n:Nat):aF (some (false,n)) (some (W5 t)) 2=some (vs t.data):=(rfl)
def v'(t:Yg)(n:Nat):aF (some (false,n)) (some (W5 t)) 3=some (.bool t.light):=(rfl)
def vJ(t:Yg)(n:Nat):aF (some (false,n)) (some (W5 t)) 4=some (vi (t.next:Int)):=(rfl)
def v_(t:Yg)(n:Nat):aF (some (false,n)) (some (W5 t)) 5=some (.bool t.made):=(rfl)
def vV(t:Yg)(n:Nat):aF (some (false,n)) (some (W5 t)) 6=some (.bool t.ended):=(rfl)
def t7(t:Yg)(x:Nat)(a:Bool):aZ (some (a,1)) (some (W5 t)) 4 (vi (x:Int))=some (W5 {t with next:=x}):=cP [vs t.dir,vs t.name,vs t.data,.bool t.light] [vi (t.next:Int)] [vi (x:Int)] [.bool t.made,.bool t.ended] a _ 218 rfl rfl rfl rfl rfl
def LY(t:Yg)(x:Bool)(a:Bool):aZ (some (a,1)) (some (W5 t)) 5 (.bool x)=some (W5 {t with made:=x}):=cP [vs t.dir,vs t.name,vs t.data,.bool t.light,vi (t.next:Int)] [.bool t.made] [.bool x] [.bool t.ended] a _ 218 rfl rfl rfl rfl rfl
def EL(t:Yg)(x:Bool)(a:Bool):aZ (some (a,1)) (some (W5 t)) 6 (.bool x)=some (W5 {t with ended:=x}):=cP [vs t.dir,vs t.name,vs t.data,.bool t.light,vi (t.next:Int),.bool t.made] [.bool t.ended] [.bool x] [] a _ 218 rfl rfl rfl rfl rfl
structure TkB(t:Yg):Prop where
 name:t.name.length<=900000
 data:t.data.length<=1000000
def nB{t:Yg}(h:TkB t):(aB t.name).length<=900004:=by unfold aB;rw[VV];have:=h.name;simp;omega
def Yp.step{X X':aA}{G a:XE}{S S':h8}{N:Nat}{kind:Int}{dir name s:No}{e:Nat}(h:Yp X G S N)(c:XG X' a S')(b:Xc S kind dir name s S' e)(d:name.length<=1000000)(f:s.length<=1000000):Yp X' a S' (N+1):=⟨c,pL h.H b,uf h.B d f b⟩
def Yp.up{X:aA}{G:XE}{S:h8}{N:Nat}(h:Yp X G S N):Yp X G S (N+1):=⟨h.P,h.H,h.B.mono (Nat.le_succ N)⟩
def PhS(G:XE)(bt:Nat)(r:Z9)(N:Nat)(v:hU)(D:aA):Prop:=v=.tuple #[.bool r.did,vi (r.e:Nat)]/\ ∃a b,(a++[(bt,W5 r.t)]).Perm D/\b.bd=G.bd/\Yp a b r.S N
def Tb(b o:Nat):ak prog .eql 162 (vp b o) (.pointer none)=some (.bool false):=by simp[ak,Zq,cm,cg,underlying162,vp]
def iR{X:aA}{bt:Nat}{t:Yg}(b:(keys (X++[(bt,W5 t)])).Nodup):bt∉keys X/\ ∀a o,bt∉keys a-> ∀w,aG w (a++[(bt,o)]) bt=some o:=by rw[aV,XR] at b;refine⟨fun c=>b.2.2 bt c bt Wg rfl,fun a o h w=>aO (@DA _ [] _ _ h)⟩
def cW:=aN (aN (qS1 @bA @b9 @vO) (aN (aN @vw @vB) (aN @v' @vJ))) (aN (qS1 @v_ @vV @t7) (aN (aN @LY @EL) (aN @Sx.Wk @Sx.Wl)))
def Ia(X:aA)(G:XE)(S:h8)(N bt:Nat)(t:Yg)(w:hW)(j:∀p,p∈X++[(bt,W5 t)]->w.heap[p.1]? =some p.2)(d:(keys (X++[(bt,W5 t)])).Nodup)(a:Yp X G S N)(A:N<900000)(e:TkB t):
  Va prog 175 #[vp bt 0,vp G.bd 0] w (XS w (X++[(bt,W5 t)]) (PhS G bt (fy t S) (N+1))):=by
 refine Va.Vs func175 rfl (rs:=[.tmp 4,.tmp 5]) results175 ntmps175 j d ?_;refine kf ?_;have k:=(iR d).1;have h:=(iR d).2 X (W5 t) k w;have B:=nB e;have C:t.name.length<=900000:=e.name;have D:=e.data;have l:=a.Vl oM;have E:=a.used oM;unfold fy;refine ky @cW ?_;refine Cw.WU [0,1,2,3,5,6,7,4,8,9,10,11,12,13,14,15] [] rfl kR kR ?_;refine WQ ?_;refine kq (aN @cW @h) ?_;refine Ow.Vc rfl call38 (fun f i=>sD f G S t.dir (aB t.name) ⟨X,fun b o m=>i.has b o (aq _ (bU m)),a.P⟩ oM) ?_;refine kq @cW ?_;by_cases c:(bX S t.dir (aB t.name)).2≠0
 .have g:=iT c;rw[Vb c];refine ky (aN @cW @g) ?_;refine⟨_,(ke @cW),?_⟩;exact⟨Ext.refl w _,rfl,X,G,WW _,rfl,a.up⟩
 have n:(bX S t.dir (aB t.name)).2=0:=by simpa using c
 have g:(((bX S t.dir (aB t.name)).2:Int) !=0)=false:=by rw[n];rfl
 rw[tr c];refine ky (aN @cW @g) ?_;refine Cw.WU [0,1,2,3,5,6,7,4,8,9,10,11,12] [10] rfl kR kR ?_;refine WQ ?_;refine kq (aN @cW @h) ?_;refine Ow.Wa (X:=X) (Y:=[(bt,W5 t)]) rfl rfl rfl call158 (fun f i q r=>UD X G S t.dir (aB t.name) f q r a.P oM l) (fun F s u v=>?_);obtain⟨rfl,x,y,z⟩:=v;refine kq @cW ?_;refine ky @cW ?_;refine⟨_,(ke @cW),?_⟩;exact⟨(Ext.refl w _).X1 u,rfl,s,x,WW _,y,a.step z (kP S _ _ []) oM (aR _)⟩
def Fu(X:aA)(G:XE)(S:h8)(N bt:Nat)(t:Yg)(w:hW)(g:∀p,p∈X++[(bt,W5 t)]->w.heap[p.1]? =some p.2)(c:(keys (X++[(bt,W5 t)])).Nodup)(a:Yp X G S N)(z:N<900000)(d:TkB t):
  Va prog 176 #[vp bt 0,vp G.bd 0] w (XS w (X++[(bt,W5 t)]) (PhS G bt (q_ t S) (N+1))):=by
 refine Va.Vs func176 rfl (rs:=[.tmp 4,.tmp 5]) results176 ntmps176 g c ?_;refine kf ?_;have h:=(iR c).1;have i:=(iR c).2 X (W5 t) h w;have A:=nB d;have B:t.name.length<=900000:=d.name;have C:=d.data;have j:=a.Vl oM;have D:=a.used oM;unfold q_;refine kz [2] @cW ?_;refine Cw.WU [0,1,2,3,5,6,7,4,8,9,10,11] [10] rfl kR kR ?_;refine WQ ?_;refine kq (aN @cW @i) ?_;refine Ow.Wa (X:=X) (Y:=[(bt,W5 t)]) rfl rfl rfl call207 (fun k E l m=>F' X G S t.dir (aB t.name) k l m a.P oM j) (fun F b o q=>?_);obtain⟨rfl,r,s,u⟩:=q;refine kq @cW ?_;refine Cw.Vd (M:=(bt,W5 t)::b) Xm ?_;have f:=a.step u (qF S _ _ []) oM (aR _);have v:=(Ext.refl w (X++[(bt,W5 t)])).X1 o;generalize cC S t.dir (aB t.name)=x at*;obtain⟨S',e⟩:=x;simp only at f |-;have y:((e:Int)==0)=(e==0):=by
  cases e with
  |zero=>rfl
  |succ n=>rfl
 refine ky (aN @cW @y) ?_;refine⟨_,(ke @cW),?_⟩;exact⟨(v.perm (Y4 (l₁:=[(bt,W5 t)]) (l₂:=b))).keys rfl,rfl,b,r,Y4 (l₁:=b) (l₂:=[_]),s,f⟩
def Fx(X:aA)(G:XE)(S:h8)(N bt:Nat)(t:Yg)(w:hW)(d:∀p,p∈X++[(bt,W5 t)]->w.heap[p.1]? =some p.2)(b:(keys (X++[(bt,W5 t)])).Nodup)(a:Yp X G S N)(o:N<900000)(c:TkB t):
  Va prog 177 #[vp bt 0,vp G.bd 0] w (XS w (X++[(bt,W5 t)]) (PhS G bt (oH t S) (N+1))):=by
 refine Va.Vs func177 rfl (rs:=[.tmp 4,.tmp 5]) results177 ntmps177 d b ?_;refine kf ?_;have e:=(iR b).1;have f:=(iR b).2 X (W5 t) e w;have q:=nB c;have r:t.name.length<=900000:=c.name;have s:=c.data;have u:=a.Vl oM;have g:=a.used oM;unfold oH;refine ky @cW ?_;refine Cw.WU [0,1,2,3,5,6,7,10,11,12,4,8,9,13,14,15,16] [14] rfl kR kR ?_;refine WQ ?_;refine kq (aN @cW @f) ?_;refine Ow.Wa (X:=X) (Y:=[(bt,W5 t)]) rfl rfl rfl call47 (fun h v i j=>U6 X G S t.dir (aB t.name) t.data h i j a.P oM oM g) (fun x k l m=>?_);obtain⟨rfl,n⟩:=m;refine kq @cW ?_;refine ky @cW ?_;refine⟨_,(ke @cW),?_⟩;exact⟨(Ext.refl w _).X1 l,rfl,k,G,WW _,rfl,a.step n (kO S _ _ _) oM oM⟩
def Hq(X:aA)(G:XE)(S:h8)(N bt:Nat)(t:Yg)(w:hW)(f:∀p,p∈X++[(bt,W5 t)]->w.heap[p.1]? =some p.2)(c:(keys (X++[(bt,W5 t)])).Nodup)(a:Yp X G S N)(q:N<900000)(d:TkB t):
  Va prog 178 #[vp bt 0,vp G.bd 0] w (XS w (X++[(bt,W5 t)]) (PhS G bt (i6 t S) (N+1))):=by
 refine Va.Vs func178 rfl (rs:=[.tmp 4,.tmp 5]) results178 ntmps178 f c ?_;refine kf ?_;have g:=(iR c).1;have e:=(iR c).2 X (W5 t) g w;have r:=nB d;have s:t.name.length<=900000:=d.name;have u:=d.data;have v:=a.Vl oM;have x:=a.used oM;unfold i6;by_cases b:t.light=true
 .rw[Vb b];refine ky (qS1 @cW @e @b) ?_;refine⟨_,(ke @cW),?_⟩;exact⟨Ext.refl w _,rfl,X,G,WW _,rfl,a.up⟩
 rw[tr b];have h:t.light=false:=by simpa using b
 refine ky (aN @cW (aN @e (@h))) ?_;refine Cw.WU [0,1,2,3,5,6,7,4,8,9,10,11,12] [10] rfl kR kR ?_;refine WQ ?_;refine kq (aN @cW @e) ?_;refine Ow.Wa (X:=X) (Y:=[(bt,W5 t)]) rfl rfl rfl call55 (fun i y j k=>sK X G S t.dir (aB t.name) i j k a.P oM) (fun z l m n=>?_);obtain⟨rfl,o⟩:=n;refine kq @cW ?_;refine ky @cW ?_;refine⟨_,(ke @cW),?_⟩;exact⟨(Ext.refl w _).X1 m,rfl,l,G,WW _,rfl,a.step o (mT S _ _ []) oM (aR _)⟩
def Fq(X:aA)(G:XE)(S:h8)(N bt:Nat)(t:Yg)(w:hW)(f:∀p,p∈X++[(bt,W5 t)]->w.heap[p.1]? =some p.2)(c:(keys (X++[(bt,W5 t)])).Nodup)(a:Yp X G S N)(s:N<900000)(d:TkB t):
  Va prog 180 #[vp bt 0,vp G.bd 0] w (XS w (X++[(bt,W5 t)]) (PhS G bt (mh t S) (N+1))):=by
 refine Va.Vs func180 rfl (rs:=[.tmp 4,.tmp 5]) results180 ntmps180 f c ?_;refine kf ?_;have g:=(iR c).1;have e:=(iR c).2 X (W5 t) g w;have u:=nB d;have v:t.name.length<=900000:=d.name;have x:=d.data;have y:=a.Vl oM;have z:=a.used oM;unfold mh;by_cases b:t.light=true
 .rw[Vb b];refine ky (qS1 @cW @e @b) ?_;refine⟨_,(ke @cW),?_⟩;exact⟨Ext.refl w _,rfl,X,G,WW _,rfl,a.up⟩
 rw[tr b];have h:t.light=false:=by simpa using b
 refine ky (aN @cW (aN @e (@h))) ?_;refine kq (aN @cW @e) ?_;refine Ow.Wa (X:=X) (Y:=[(bt,W5 t)]) rfl rfl rfl call209 (fun i A j k=>FM X G S t.dir i j k a.P) (fun B l m n=>?_);obtain⟨rfl,o,q,r⟩:=n;refine kq @cW ?_;refine ky @cW ?_;refine⟨_,(ke @cW),?_⟩;exact⟨(Ext.refl w _).X1 m,rfl,l,o,WW _,q,a.step r (EY S _ [] []) (aR _) (aR _)⟩
def FN(X:aA)(G:XE)(S:h8)(N bt:Nat)(t:Yg)(w:hW)(l:∀p,p∈X++[(bt,W5 t)]->w.heap[p.1]? =some p.2)(c:(keys (X++[(bt,W5 t)])).Nodup)(b:Yp X G S N)(A:N<900000)(d:TkB t):
  Va prog 179 #[vp bt 0,vp G.bd 0] w (XS w (X++[(bt,W5 t)]) (PhS G bt (nj t S) (N+1))):=by
 refine Va.Vs func179 rfl (rs:=[.tmp 4,.tmp 5]) results179 ntmps179 l c ?_;refine kf ?_;have m:=(iR c).1;have o:=(iR c).2 X (W5 t) m w;have B:=nB d;have C:t.name.length<=900000:=d.name;have D:=d.data;have q:=b.Vl oM;have E:=b.used oM;unfold nj;refine kz [2] @cW ?_;refine Cw.WU [0,1,2,3,5,6,7,10,11,12,4,8,9,13,14,15] [14] rfl kR kR ?_;refine WQ ?_;refine kq (aN @cW @o) ?_;refine Ow.Wa (X:=X) (Y:=[(bt,W5 t)]) rfl rfl rfl call208 (fun r F s u=>GT X G S t.dir (aB t.name) t.name r s u b.P oM oM q) (fun H a v x=>?_);obtain⟨rfl,g,h,y⟩:=x;refine kq @cW ?_;refine Cw.Vd (M:=(bt,W5 t)::a) Xm ?_;have f:=b.step y (qE S _ _ _) oM oM;have i:=(Ext.refl w (X++[(bt,W5 t)])).X1 v;generalize cO S t.dir (aB t.name) t.name=z at*;obtain⟨S',e⟩:=z;simp only at f |-;have j:((e:Int) !=0)=(e !=0):=by
  cases e with
  |zero=>rfl
  |succ n=>rfl
 cases k:t.made with
 |true=>rw[XA];refine ky (qS1 @cW @j @k) ?_;refine⟨_,(ke @cW),?_⟩;exact⟨(i.perm (Y4 (l₁:=[(bt,W5 t)]) (l₂:=a))).keys rfl,rfl,a,g,Y4 (l₁:=a) (l₂:=[_]),h,f⟩
 |false=>rw[Xv];refine ky (qS1 @cW @j @k) ?_;refine⟨_,(ke @cW),?_⟩;exact⟨(i.perm (Y4 (l₁:=[(bt,W5 t)]) (l₂:=a))).keys rfl,rfl,a,g,Y4 (l₁:=a) (l₂:=[_]),h,f⟩
def phF(n:Nat):FuncId:=match n with
 |0=>175
 |1=>176
 |2=>177
 |3=>178
 |4=>179
 |_=>180
def stV:List hU:=[.func (.func (phF 0)) #[] #[],.func (.func (phF 1)) #[] #[],.func (.func (phF 2)) #[] #[],.func (.func (phF 3)) #[] #[],.func (.func (phF 4)) #[] #[],.func (.func (phF 5)) #[] #[]]
def Zi:Obj:=.cells stV.toArray 252 (0,0)
def RE(n m:Nat)(h:n<6):aF (some (false,m)) (some Zi) n=some (.func (.func (phF n)) #[] #[]):=by rcases(by omega:n=0\/n=1\/n=2\/n=3\/n=4\/n=5) with rfl|rfl|rfl|rfl|rfl|rfl<;>rfl
def Pd(n:Nat)(h:n<6)(X:aA)(G:XE)(S:h8)(N bt:Nat)(t:Yg)(w:hW)(a:∀p,p∈X++[(bt,W5 t)]->w.heap[p.1]? =some p.2)(b:(keys (X++[(bt,W5 t)])).Nodup)(c:Yp X G S N)(d:N<900000)(e:TkB t):
  Va prog (phF n) #[vp bt 0,vp G.bd 0] w (XS w (X++[(bt,W5 t)]) (PhS G bt (Xa n t S) (N+1))):=by
 rcases(by omega:n=0\/n=1\/n=2\/n=3\/n=4\/n=5) with rfl|rfl|rfl|rfl|rfl|rfl
 .exact Ia X G S N bt t w a b c d e
 .exact Fu X G S N bt t w a b c d e
 .exact Fx X G S N bt t w a b c d e
 .exact Hq X G S N bt t w a b c d e
 .exact FN X G S N bt t w a b c d e
 exact Fq X G S N bt t w a b c d e
def Rv(n:Nat)(h:n<6):∀a w,(callFunc (phF n) a).run prog w=.ok (.enter (phF n) a) w:=by
 rcases(by omega:n=0\/n=1\/n=2\/n=3\/n=4\/n=5) with rfl|rfl|rfl|rfl|rfl|rfl
 .exact call175
 .exact call176
 .exact call177
 .exact call178
 .exact call179
 exact call180
def FO(bt:Nat)(t:Yg)(w:hW)(a:w.heap[bt]? =some (W5 t)):Va prog 156 #[vp bt 0] w (fun v D=>v=.bool t.ended/\D=[]):=by
 have b:=Tb bt 0;refine Va.Vr func156 rfl (rs:=[.tmp 2]) results156 ntmps156 ?_;refine kf ?_;refine ky (aN @a @b) ?_;refine⟨_,(ke @Nat.add_zero),trivial,?_⟩
 rfl
def O7:cL (bP prog 252) (ac prog 252) [(0,.func (.func (phF 0)) #[] #[]),(1,.func (.func (phF 1)) #[] #[]),(2,.func (.func (phF 2)) #[] #[]),(3,.func (.func (phF 3)) #[] #[]),(4,.func (.func (phF 4)) #[] #[]),(5,.func (.func (phF 5)) #[] #[])]=some (.agg stV.toArray):=by rw[show bP prog 252=some [(0,1),(1,1),(2,1),(3,1),(4,1),(5,1)] from id kR,qr4];rfl
def Dw:aZ (some (true,6)) (some (.cells #[.nilFunc,.nilFunc,.nilFunc,.nilFunc,.nilFunc,.nilFunc] 252 (0,0))) 0 (.agg stV.toArray)=some Zi:=(rfl)
def Ip(w:hW):Va prog 157 #[] w (fun v D=>v=.agg stV.toArray/\D=[]):=by
 refine Va.Vr func157 rfl (rs:=[.cell 0 252]) results157 ntmps157 ?_;refine kf ?_;refine ky @Nat.add_zero ?_;refine Ow.alloc rfl rfl qr4 fun b c a=>?_;refine ko @Nat.add_zero ?_;refine Ow.build (.agg stV.toArray) rfl O7 ?_;refine ko @Dw ?_;refine ky @Dw ?_;refine⟨_,(ke @Nat.add_zero),⟨a,trivial⟩,?_⟩
 rfl
def cQ:=aN (aN (aN @bA @b9) (qS1 @vO @vw @vB)) (aN (qS1 @v' @vJ @v_) (qS1 @vV @Sx.Wk @Sx.Wl))
def qI7(n k:Nat):((n:Int)==(k:Int))=(n==k):=by rw[YZ,W8,W8];omega
structure SG where
 lab:Nat
 did:Bool
 e:Nat
 t:Yg
 S:h8
 G:XE
 X:aA
 b8:Nat
 c:Nat
def SJ(w:hW)(a:aA)(n bd bt N:Nat)(R:StR)(g:SG):Prop:=
 Ext w a ((bt,W5 g.t)::(g.b8,Zi)::g.X)/\(keys ((bt,W5 g.t)::(g.b8,Zi)::g.X)).Nodup/\n<=g.b8/\g.G.bd=bd/\Yp g.X g.G g.S (N+g.c)/\TkB g.t/\
 ((g.lab=0/\g.c+ (6 - g.t.next)<=6/\g.t.next<6/\dv (6 - g.t.next) g.t g.S=R)\/
 (g.lab=1/\g.c<=6/\ ∃r:Z9,g.t=YV r/\g.S=r.S/\g.e=r.e/\cc r=R))
def SL(g:SG):Nat:=match g.lab with
 |0=>0
 |_=>1
def SL0(a b c d e f g h):SL ⟨0,a,b,c,d,e,f,g,h⟩=0:=rfl
def SS(g:SG):List (Nat×hU):=[(6,.bool g.did),(7,vi (g.e:Nat)),(8,vp g.b8 0)]
def SH(bt:Nat)(g:SG):aA:=(bt,W5 g.t)::(g.b8,Zi)::g.X
def StS(G:XE)(bt:Nat)(R:StR)(N:Nat)(v:hU)(D:aA):Prop:=v=.tuple #[.bool R.done,vi (R.e:Nat)]/\ ∃a b,(a++[(bt,W5 R.t)]).Perm D/\b.bd=G.bd/\Yp a b R.S N
set_option maxHeartbeats 12000000 in
def KQ(X:aA)(G:XE)(S:h8)(N bt:Nat)(t:Yg)(w:hW)(hX:∀p,p∈X++[(bt,W5 t)]->w.heap[p.1]? =some p.2)(hn:(keys (X++[(bt,W5 t)])).Nodup)(hA:Yp X G S N)(hN:N<800000)(hB:TkB t)(zx:t.ended=false->t.next<6):
  Va prog 125 #[vp bt 0,vp G.bd 0] w (XS w (X++[(bt,W5 t)]) (StS G bt (eB t S) (N+7))):=by
 refine Va.Vs func125 rfl (rs:=[.tmp 4,.tmp 5]) results125 ntmps125 hX hn ?_;refine kf ?_;have zy:=(iR hn).1;have zM:=(iR hn).2 X (W5 t) zy w;unfold eB;refine ky @cQ ?_;refine Cw.qj6 (G:=SG) (fun g=>SL g) [9,10,4,5,6,7,11,8,13,14,15,16,17,18,19,20,21,12,22,23,24,25,26,27,28,29,30,31,32,33,34,35,36,37,38,39,40,41,42,43,44,45,46,47,48,49,50,51,52,53,54,55,56,57,58,59,60,61,62,63,64,65,66,67,68,69,70,71,72,73,74,75,76,77,78,79,80,81,82,83,84,85,86,87,88,89] (fun g=>SS g) (fun g=>SH bt g) (fun g=>SJ w (X++[(bt,W5 t)]) w.heap.size G.bd bt N (if t.ended=true then⟨false,15,t,S⟩ else dv (6 - t.next) t S) g) (fun g=>(if g.lab=0 then 6 - g.t.next+1 else 0)) ?_ ?_ ?_
 .intro g;unfold SL
  split<;>rfl
 .intro g j hg;obtain⟨lab,did,e,d,S1,R,k,b8,c⟩:=g;obtain⟨T,zd,U,n,I,L,hg⟩:=hg;simp only at T zd U n I L hg;rcases hg with⟨rfl,hc,ze,f⟩ | ⟨rfl,hc,r,rfl,rfl,rfl,f⟩
  .simp only[SL,SS,SH];simp only[fi,YW,YN,XW,Bool.or_true,Bool.true_or,Nat.reduceBEq,Yf,↓reduceIte,VW];refine kv ?_
   try with_reducible refine pX ?_
   have A:=zd;simp only[keys,VY,Xd,Vw,not_or] at A;have zf:bt≠b8:=A.1.1;have zq:bt∉keys k:=A.1.2;have zz:b8∉keys k:=A.2.1;have zr:∀o w,aG w ((bt,o)::(b8,Zi)::k) b8=some Zi:=fun o w=>aO (by simp[Sx.look,zf]);have zA:∀m,ez (.arr 6 m) (vp b8 0) (some (d.next:Int))=some (vp b8 (d.next*m.2)):=fun m=>by rw[Ts _ _ _ _ _ ⟨by omega,by omega⟩];simp
   have zB:∀m,aF (some (false,m)) (some Zi) d.next=some (.func (.func (phF d.next)) #[] #[]):=fun m=>RE _ m ze;refine ky (qS2 @cQ @zr @zA @zB) ?_;refine Ow.Vd (M:=(k++[(bt,W5 d)])++[(b8,Zi)]) Xm ?_;refine Ow.qo4 (X:=k++[(bt,W5 d)]) (Y:=[(b8,Zi)]) (b:=vp bt 0) (b2:=vp G.bd 0) rfl rfl rfl rfl rfl rfl (Rv d.next ze) (fun u za V W=>by rw[<-n];exact Pd d.next ze k R S1 (N+c) bt d u V W I oM L) (fun v4 D4 zg zh=>?_);obtain⟨rfl,l,v,zC,B,O⟩:=zh;obtain⟨zN,zD,zE,zO,zP,zQ⟩:=jy d.next d S1;have zb:TkB (Xa d.next d S1).t:=⟨by rw[zD];exact L.name,by rw[zE];exact L.data⟩;have zF:TkB (YV (Xa d.next d S1)):=⟨zb.name,zb.data⟩;have zt:TkB (ek (Xa d.next d S1)):=⟨zb.name,zb.data⟩;obtain⟨Z,hq⟩:∃Z,6 - d.next=Z+1:=⟨5 - d.next,by omega⟩;rw[hq] at f;replace f:(if(Xa d.next d S1).e≠0 then cc (Xa d.next d S1)
    else if(Xa d.next d S1).did=false/\eU (YV (Xa d.next d S1))=false then dv Z (ek (Xa d.next d S1)) (Xa d.next d S1).S
    else⟨eU (YV (Xa d.next d S1)),0,ek (Xa d.next d S1),(Xa d.next d S1).S⟩)=_:=f
   generalize Xa d.next d S1=r at*;have zu:((bt,W5 r.t)::(b8,Zi)::l).Perm (D4++[(b8,Zi)]):=(by simpa using(Y4 (l₁:=[(bt,W5 r.t),(b8,Zi)]) (l₂:=l)):((bt,W5 r.t)::(b8,Zi)::l).Perm (l++[(bt,W5 r.t),(b8,Zi)])).trans (by simpa using zC.append_right [(b8,Zi)]);have zi:Ext w (X++[(bt,W5 t)]) ((k++[(bt,W5 d)])++[(b8,Zi)]):=T.perm Xm;have C:Ext w (X++[(bt,W5 t)]) ((bt,W5 r.t)::(b8,Zi)::l):=(Ext.X1 zi zg).perm zu;refine Ow.Vd zu ?_;refine Ow.world fun w9 zj=>?_;have zk:(keys ((bt,W5 r.t)::(b8,Zi)::l)).Nodup:=zj.nodup;have D:∀a,aZ (some (a,1)) (some (W5 r.t)) 4 (vi ((r.t.next:Int)+1))=some (W5 (YV r)):=fun a=>t7 r.t (r.t.next+1) a;have zR:r.t.next<6:=by omega
   have E:Yp (l++[(b8,Zi)]) v r.S (N+7):=⟨O.P.mono (X':=l++[(b8,Zi)]) fun b o h=>a_ h,O.H,O.B.mono oM⟩;refine ko @cQ ?_;by_cases he:r.e=0
   .have x:((r.e:Int) !=0)=false:=by rw[he];rfl
    rw[tr (fun h=>h he)] at f;have q:∀a,aZ (some (a,1)) (some (W5 (YV r))) 6 (.bool (eU (YV r)))=some (W5 (ek r)):=fun a=>EL (YV r) _ a;have s:(ek r).ended=eU (YV r):=rfl;have zc:eU (YV r)=((YV r).next==6|| ((YV r).light&& (YV r).next==5)):=rfl;have y:(((YV r).next:Int)==6)=((YV r).next==6):=qI7 _ 6;have P:(((YV r).next:Int)==5)=((YV r).next==5):=qI7 _ 5;cases J:((YV r).next==6) with
    |true=>
     have F:eU (YV r)=true:=by rw[zc,J];rfl
     rw[J] at y;rw[F] at q s f;rw[tr (fun h=>by cases h.2)] at f;cases K:r.did with
     |true=>refine ky (qS4 @cQ @D @x @q @y @s) ?_;refine⟨_,(ke @cQ),?_⟩;rw[<-f];exact⟨C.keys rfl,rfl,l++[(b8,Zi)],v,Xm,B.trans n,E⟩
     |false=>refine ky (qS4 @cQ @D @x @q @y @s) ?_;refine⟨_,(ke @cQ),?_⟩;rw[<-f];exact⟨C.keys rfl,rfl,l++[(b8,Zi)],v,Xm,B.trans n,E⟩
    |false=>
     have zS:r.t.next+1≠6:=WN.1 J;rw[J] at y;cases H:(YV r).light with
     |false=>
      have F:eU (YV r)=false:=by rw[zc,J,H];rfl
      rw[F] at q s f;cases K:r.did with
      |true=>rw[K,tr (fun h=>by cases h.1)] at f;refine ky (qS5 @cQ @D @x @q @y @H @s) ?_;refine⟨_,(ke @cQ),?_⟩;rw[<-f];exact⟨C.keys rfl,rfl,l++[(b8,Zi)],v,Xm,B.trans n,E⟩
      |false=>rw[K,Vb ⟨rfl,rfl⟩] at f;refine ky (qS5 @cQ @D @x @q @y @H @s) ?_;exact Jump.mk ⟨0,false,r.e,ek r,r.S,v,l,b8,c+1⟩ rfl (by show 6 - (r.t.next+1)+1<6 - d.next+1;omega) ⟨C.keys rfl,zk,U,B.trans n,O,zt,.inl ⟨rfl,by show c+1+ (6 - (r.t.next+1))<=6;omega,by show r.t.next+1<6;omega,by show dv (6 - (r.t.next+1)) _ _=_;rw[show 6 - (r.t.next+1)=Z by omega];exact f⟩⟩ rfl rfl
     |true=>
      cases c5:((YV r).next==5) with
      |true=>
       have F:eU (YV r)=true:=by rw[zc,J,H,c5];rfl
       rw[c5] at P;rw[F] at q s f;rw[tr (fun h=>by cases h.2)] at f;cases K:r.did with
       |true=>refine ky (qS6 @cQ @D @x @q @y @P @H @s) ?_;refine⟨_,(ke @cQ),?_⟩;rw[<-f];exact⟨C.keys rfl,rfl,l++[(b8,Zi)],v,Xm,B.trans n,E⟩
       |false=>refine ky (qS6 @cQ @D @x @q @y @P @H @s) ?_;refine⟨_,(ke @cQ),?_⟩;rw[<-f];exact⟨C.keys rfl,rfl,l++[(b8,Zi)],v,Xm,B.trans n,E⟩
      |false=>
       have F:eU (YV r)=false:=by rw[zc,J,H,c5];rfl
       rw[c5] at P;rw[F] at q s f;cases K:r.did with
       |true=>rw[K,tr (fun h=>by cases h.1)] at f;refine ky (qS6 @cQ @D @x @q @y @P @H @s) ?_;refine⟨_,(ke @cQ),?_⟩;rw[<-f];exact⟨C.keys rfl,rfl,l++[(b8,Zi)],v,Xm,B.trans n,E⟩
       |false=>rw[K,Vb ⟨rfl,rfl⟩] at f;refine ky (qS6 @cQ @D @x @q @y @P @H @s) ?_;exact Jump.mk ⟨0,false,r.e,ek r,r.S,v,l,b8,c+1⟩ rfl (by show 6 - (r.t.next+1)+1<6 - d.next+1;omega) ⟨C.keys rfl,zk,U,B.trans n,O,zt,.inl ⟨rfl,by show c+1+ (6 - (r.t.next+1))<=6;omega,by show r.t.next+1<6;omega,by show dv (6 - (r.t.next+1)) _ _=_;rw[show 6 - (r.t.next+1)=Z by omega];exact f⟩⟩ rfl rfl
   have x:((r.e:Int) !=0)=true:=by rw[Yb];omega
   rw[Vb he] at f;refine ky (qS1 @cQ @D @x) ?_;exact Jump.mk ⟨1,r.did,r.e,YV r,r.S,v,l,b8,c+1⟩ rfl (by show 0<6 - d.next+1;omega) ⟨C.keys rfl,zk,U,B.trans n,O,zF,.inr ⟨rfl,by show c+1<=6;omega,r,rfl,rfl,rfl,f⟩⟩ rfl rfl
  simp only[SL,SS,SH];simp only[fi,YW,YN,XW,Bool.or_true,Bool.true_or,Nat.reduceBEq,Yf,↓reduceIte,VW];refine kv ?_
  try with_reducible refine pX ?_
  have A:=zd;simp only[keys,VY,Xd,Vw,not_or] at A;have zf:bt≠b8:=A.1.1;have zq:bt∉keys k:=A.1.2;have zz:b8∉keys k:=A.2.1;have zr:∀o w,aG w ((bt,o)::(b8,Zi)::k) b8=some Zi:=fun o w=>aO (by simp[Sx.look,zf]);obtain⟨i,Q⟩:∃i,i=({YV r with ended:=true}:Yg):=⟨_,rfl⟩;have zl:∀a,aZ (some (a,1)) (some (W5 (YV r))) 6 (.bool true)=some (W5 i):=fun a=>by rw[Q];exact EL (YV r) true a
  have d1:i.dir=r.t.dir:=by rw[Q];rfl
  have d2:i.name=r.t.name:=by rw[Q];rfl
  have d3:i.made=(YV r).made:=by rw[Q]
  have zT:i.name.length<=900000:=by rw[d2];exact L.name
  have zU:(aB i.name).length<=900004:=by rw[d2];exact nB (t:=YV r) L
  have E:Yp (k++[(b8,Zi)]) R r.S (N+7):=⟨I.P.mono (X':=k++[(b8,Zi)]) fun b o h=>a_ h,I.H,I.B.mono oM⟩;by_cases hm:(YV r).made=true/\r.e≠9
  .have m1:i.made=true:=d3.trans hm.1;have e9:((r.e:Int) !=9)=true:=by
    rw[Yb];have:=hm.2;omega
   have hw:cc r=⟨false,r.e,i,(d5 r.S i.dir (aB i.name)).1⟩:=by unfold cc;rw[Vb hm,d1,d2,Q]
   refine ky (qS2 @cQ @zl @m1 @e9) ?_;refine Cw.Vd (M:=k++[(bt,W5 i),(b8,Zi)]) Xm ?_;have zG:aG w (k++[(bt,W5 i),(b8,Zi)]) bt=some (W5 i):=aO (by rw[cu zq];simp[Sx.look]);have zv:=fun(u:hW) (V:∀p,p∈k->u.heap[p.1]? =some p.2) (W:(keys k).Nodup)=>UD k R r.S i.dir (aB i.name) u V W I.P oM (I.Vl oM);simp only[n] at zv;refine Cw.WU [0,1,2,3,5,6,7,4,8,9,10] [10] rfl kR kR ?_;refine WQ ?_;refine kq (aN @cQ @zG) ?_;refine Ow.Wa (X:=k) (Y:=[(bt,W5 i),(b8,Zi)]) rfl rfl rfl call158 (fun u za V W=>zv u V W) (fun v4 D4 zg zh=>?_);obtain⟨rfl,G',zH,zI⟩:=zh;refine kq @cQ ?_;refine ky @cQ ?_;refine⟨_,(ke @cQ),?_⟩;rw[<-f,hw];have zm:=I.step zI (kP r.S i.dir (aB i.name) []) oM (aR _);have zi:Ext w (X++[(bt,W5 t)]) (k++[(bt,W5 i),(b8,Zi)]):=(T.keys (D':=(bt,W5 i)::(b8,Zi)::k) rfl).perm Xm;exact⟨zi.X1 zg,rfl,D4++[(b8,Zi)],G',Xm,zH,zm.P.mono (X':=D4++[(b8,Zi)]) fun b o h=>a_ h,zm.H,zm.B.mono oM⟩
  have hw:cc r=⟨false,r.e,i,r.S⟩:=by unfold cc;rw[tr hm,Q]
  by_cases zn:(YV r).made=true
  .have F:r.e=9:=Za fun h=>hm ⟨zn,h⟩;have m1:i.made=true:=d3.trans zn;have e9:((r.e:Int) !=9)=false:=by rw[F];rfl
   refine ky (qS2 @cQ @zl @m1 @e9) ?_;refine⟨_,(ke @cQ),?_⟩;rw[<-f,hw];exact⟨T.keys rfl,rfl,k++[(b8,Zi)],R,Xm,n,E⟩
  have m1:i.made=false:=d3.trans (by simpa using zn);refine ky (qS1 @cQ @zl @m1) ?_;refine⟨_,(ke @cQ),?_⟩;rw[<-f,hw];exact⟨T.keys rfl,rfl,k++[(b8,Zi)],R,Xm,n,E⟩
 intro key
 repeat first|with_reducible refine ks [999999] @cQ ?_|refine kw @cQ ?_
 refine Ow.Vc rfl call156 (fun u za=>FO bt t u (za.has _ _ (cJ _ (VZ.2 rfl)))) ?_;have zJ:t.ended=true\/t.ended=false:=by cases t.ended<;>simp
 rcases zJ with z|z
 .refine ko (aN @cQ @z) ?_
  repeat first|with_reducible refine ks [999999] (aN @cQ @z) ?_|refine kw (aN @cQ @z) ?_
  refine⟨_,(ke @cQ),?_⟩;rw[Vb z];exact⟨Ext.refl w _,rfl,X,G,WW _,rfl,hA.P,hA.H,hA.B.mono oM⟩
 have zK:(if t.ended=true then(⟨false,15,t,S⟩:StR) else dv (6 - t.next) t S)=dv (6 - t.next) t S:=by rw[tr (by rw[z];simp)]
 refine ko (aN @cQ @z) ?_
 repeat first|with_reducible refine ks [999999] (aN @cQ @z) ?_|refine kw (aN @cQ @z) ?_
 refine Ow.Vc rfl call157 (fun u za=>Ip u) ?_;refine ko @cQ ?_
 repeat first|with_reducible refine ks [999999] @cQ ?_|refine kw @cQ ?_
 refine Ow.alloc rfl rfl qr4 fun b8 U zw=>?_;rw[ag];refine Ow.Vd (M:=(b8,.cells #[.nilFunc,.nilFunc,.nilFunc,.nilFunc,.nilFunc,.nilFunc] 252 (0,0))::(X++[(bt,W5 t)])) Xm ?_;refine ko (aN @cQ @Dw) ?_
 repeat first|with_reducible refine ks [999999] @cQ ?_|refine kw @cQ ?_
 refine Cw.Vd (M:=(bt,W5 t)::(b8,Zi)::X) Xm ?_;refine Cw.world fun w9 zj=>?_;have zL:=zj.nodup;have zo:=fun f'=>key (⟨0,false,0,t,S,G,X,b8,0⟩) f';simp only[fi,YW,YN,XW,Bool.or_true,Bool.true_or,Nat.reduceBEq,Yf,↓reduceIte,VW] at zo;clear key;simp only[SL0,fi,YW,YN,XW,Bool.or_true,Bool.true_or,Nat.reduceBEq,Yf,↓reduceIte,VW] at zo;refine Cw.label ?_;refine zo _ ?_ ?_
 .refine⟨(((Ext.refl w (X++[(bt,W5 t)])).app (o:=Zi) zw).perm Xm),zL,zw,rfl,hA,hB,.inl ⟨rfl,by show 0+ (6 - t.next)<=6;omega,zx z,zK.symm⟩⟩
 rfl
theorem oE:∀ (f:Nat) (t:Yg) (S:h8),(dv f t S).t.name=t.name/\(dv f t S).t.data=t.data
 |0,_,_=>⟨rfl,rfl⟩
 |f+1,t,S=>by
  obtain⟨-,d,e,-⟩:=jy t.next t S;have g:(cc (Xa t.next t S)).t.name=t.name/\(cc (Xa t.next t S)).t.data=t.data:=by
   unfold cc
   split<;>exact⟨d,e⟩
  obtain⟨-,a,b,-⟩:=lD t.next t S;have c:=oE f (ek (Xa t.next t S)) (Xa t.next t S).S;rw[a,b] at c;unfold dv
  split
  .exact g
  split
  .exact c
  exact⟨a,b⟩
def RF{t:Yg}(h:TkB t)(S:h8):TkB (eB t S).t:=by
 unfold eB
 split
 .exact h
 exact⟨by rw[(oE _ t S).1];exact h.name,by rw[(oE _ t S).2];exact h.data⟩
def MP{t:Yg}{S:h8}(a:t.ended=false)(h:t.next<6):((eB t S).done=true\/(eB t S).e≠0)\/((eB t S).t.ended=false/\t.next< (eB t S).t.next/\(eB t S).t.next<6):=by
 have b:eB t S=dv (6 - t.next) t S:=by unfold eB;rw[tr (by rw[a];simp)]
 rw[b];rcases n_ (6 - t.next) t S oM oM with⟨c,-⟩ | ⟨-,d,-⟩ | ⟨-,-,e,f,g,-⟩
 .exact .inl (.inr c)
 .exact .inl (.inl d)
 exact .inr ⟨e,f,g⟩
def SU(f:Nat)(t:Yg)(S:h8):qf1 (f+1) t S=(if(eB t S).done=true\/(eB t S).e≠0 then((eB t S).e,(eB t S).t,(eB t S).S) else qf1 f (eB t S).t (eB t S).S):=rfl
structure RnG where
 f:Nat
 t:Yg
 S:h8
 G:XE
 X:aA
def RnS(G:XE)(bt:Nat)(R:Nat×Yg×h8)(N:Nat)(v:hU)(D:aA):Prop:=v=vi (R.1:Nat)/\ ∃a b,(a++[(bt,W5 R.2.1)]).Perm D/\b.bd=G.bd/\Yp a b R.2.2 N
def P5(X:aA)(G:XE)(S:h8)(N bt:Nat)(t:Yg)(w:hW)(H:∀p,p∈X++[(bt,W5 t)]->w.heap[p.1]? =some p.2)(I:(keys (X++[(bt,W5 t)])).Nodup)(J:Yp X G S N)(hN:N<700000)(K:TkB t)(L:t.ended=false)(M:t.next<6):
  Va prog 79 #[vp G.bd 0,vp bt 0] w (XS w (X++[(bt,W5 t)]) (RnS G bt (qf1 6 t S) (N+42))):=by
 refine Va.Vs func79 rfl (rs:=[.tmp 4]) results79 ntmps79 H I ?_;refine kf ?_;refine ky @fK ?_;refine Cw.VU (G:=RnG) [8,9,10,7,11,12,5,6,13,14,15,16,17,18,4] (fun g=>[]) (fun g=>g.X++[(bt,W5 g.t)]) (fun g=>qf1 g.f g.t g.S=qf1 6 t S/\6 - g.t.next<=g.f/\g.t.ended=false/\g.t.next<6/\g.G.bd=G.bd/\Yp g.X g.G g.S (N+7* (6 - g.f))/\TkB g.t/\g.f<=6/\Ext w (X++[(bt,W5 t)]) (g.X++[(bt,W5 g.t)])) (fun g=>g.f) ⟨6,t,S,G,X⟩ rfl rfl ?_ ?_
 .exact⟨rfl,by show 6 - t.next<=6;omega,L,M,rfl,J,K,aj 6,Ext.refl w _⟩
 intro g j O;refine kv ?_;obtain⟨f,d,S1,P,k⟩:=g;obtain⟨a,Q,A,s,e,B,u,R,C⟩:=O;simp only at a Q A s e B u R C;obtain⟨f,rfl⟩:∃T,f=T+1:=⟨f - 1,by omega⟩;rw[SU] at a;refine ky @fK ?_;have D:=fun(l:hW) (v:∀p,p∈k++[(bt,W5 d)]->l.heap[p.1]? =some p.2) (x:(keys (k++[(bt,W5 d)])).Nodup)=>KQ k P S1 (N+7* (6 - (f+1))) bt d l v x B oM u (fun _=>s);simp only[e] at D;refine Ow.Wa (X:=k++[(bt,W5 d)]) (Y:=[]) (VX _).symm rfl rfl call125 (fun l za v x=>D l v x) (fun v4 D4 U V=>?_);obtain⟨rfl,m,n,E,y,b⟩:=V;rw[VX];have z:=(C.Xt U).perm E;have W:=MP (S:=S1) A s;have Z:=RF u S1;refine Ow.Vd E ?_;generalize eB d S1=r at*;have F:Yp m n r.S (N+42):=⟨b.P,b.H,b.B.mono oM⟩;by_cases c:r.done=true
 .rw[Vb (.inl c)] at a;refine ko (aN @fK @c) ?_;refine ky (aN @fK @c) ?_;refine⟨_,(ke @fK),?_⟩;rw[<-a];exact⟨z,rfl,m,n,WW _,y.trans e,F⟩
 have o:r.done=false:=by simpa using c
 by_cases q:r.e=0
 .have i:((r.e:Int) !=0)=false:=by rw[q];rfl
  rw[tr (fun h=>by rcases h with h|h;exact c h;exact h q)] at a;obtain⟨s1,s2,s3⟩:=W.resolve_left (fun h=>by rcases h with h|h;exact c h;exact h q);refine ko (qS1 @fK @o @i) ?_;refine ky (qS1 @fK @o @i) ?_;exact Vo.mk ⟨f,r.t,r.S,n,m⟩ (Nat.lt_succ_self f) ⟨a,by show 6 - r.t.next<=f;omega,s1,s3,y.trans e,⟨b.P,b.H,b.B.mono (by show _<=N+7* (6 - f);omega)⟩,Z,by show f<=6;omega,z⟩ rfl rfl
 have i:((r.e:Int) !=0)=true:=by rw[Yb];omega
 rw[Vb (.inr q)] at a;refine ko (qS1 @fK @o @i) ?_;refine ky (qS1 @fK @o @i) ?_;refine⟨_,(ke @fK),?_⟩;rw[<-a];exact⟨z,rfl,m,n,WW _,y.trans e,F⟩
def P1(dir name data:No)(light:Bool):cL (bP prog 218) (ac prog 218) [(0,vs dir),(1,vs name),(2,vs data),(3,.bool light)]=some (.agg #[vs dir,vs name,vs data,.bool light,vi 0,.bool false,.bool false]):=by rw[show bP prog 218=some [(0,1),(1,1),(2,1),(3,1),(4,1),(5,1),(6,1)] from id kR,qL7];rfl
def If(dir name data:No)(light:Bool)(w:hW):
  Va prog 80 #[vs dir,vs name,vs data,.bool light] w (fun v D=> ∃b,w.heap.size<=b/\v=vp b 0/\D=[(b,W5 (tk0 dir name data light))]):=by
 refine Va.enter func80 rfl (rs:=[.tmp 8]) results80 ntmps80 ?_;refine kf ?_;refine ky @Nat.add_zero ?_;refine Ow.build (.agg #[vs dir,vs name,vs data,.bool light,vi 0,.bool false,.bool false]) rfl (P1 dir name data light) ?_;refine Ow.box rfl rfl fun a d c=>?_;refine ko @Nat.add_zero ?_;refine ky @Nat.add_zero ?_;exact⟨_,rfl,a,c,rfl,rfl⟩
def qM7(G:XE)(R:Nat×h8)(N:Nat)(v:hU)(D:aA):Prop:=v=vi (R.1:Nat)/\ ∃a,a.bd=G.bd/\Yp D a R.2 N
def EW(X:aA)(G:XE)(S:h8)(N:Nat)(dir name data:No)(w:hW)(g:∀p,p∈X->w.heap[p.1]? =some p.2)(i:(keys X).Nodup)(j:Yp X G S N)(k:N<700000)(l:name.length<=900000)(m:data.length<=1000000):
  Va prog 40 #[vp G.bd 0,vs dir,vs name,vs data] w (XS w X (qM7 G (bM S dir name data false) (N+42))):=by
 have n:TkB (tk0 dir name data false):=⟨l,m⟩;refine Va.Vs func40 rfl (rs:=[.tmp 8]) results40 ntmps40 g i ?_;refine kf ?_;refine ky @Nat.add_zero ?_;refine Ow.qb2 rfl rfl call80 (S:=fun B v D=> ∃a,B<=a/\v=vp a 0/\D=[(a,W5 (tk0 dir name data false))]) (fun c q=>If dir name data false c) ?_;rintro B v D E F ⟨e,H,rfl,rfl⟩;refine⟨_,Mrg.fresh (by intro I r;simp only[keys,VY,Wr,VZ] at r;omega),?_⟩;refine Ow.Wa (X:=X++[(e,W5 (tk0 dir name data false))]) (Y:=[]) (VX _).symm rfl rfl call79 (fun c q s t=>P5 X G S N e (tk0 dir name data false) c s t j k n rfl (Nat.succ_pos 5)) (fun J K u x=>?_);obtain⟨rfl,L,y,f,z,d⟩:=x;rw[VX];have A:=(((Ext.refl w X).app (o:=W5 (tk0 dir name data false)) oM).Xt u).perm f;refine Ow.Vd f ?_;have C:=Qh S dir name data false;rw[<-C];refine ko @Nat.add_zero ?_;refine ky @Nat.add_zero ?_;refine⟨_,(ke @Nat.add_zero),?_⟩;exact⟨A,rfl,y,z,d.P.mono fun b o h=>a_ h,d.H,d.B⟩
end Go.Proofs
end
section
open Go Go.Proofs Go.Sx
namespace Go.Proofs
def F2(s p:No)(w:hW)(b:s.length<1099511627776):Va prog 183 #[vs s,vs p] w (fun v D=>v=.bool (decide (p.length<=s.length)&& (s.take p.length==p))/\D=[]):=by
 refine Va.Vr func183 rfl (rs:=[.tmp 4]) results183 ntmps183 ?_;refine kf ?_;by_cases h:p.length<=s.length
 .have a:decide ((p.length:Int)<= (s.length:Int))=true:=aP oM;refine ky (aN @aY @a) ?_;refine⟨_,(ke @aY),trivial,?_⟩;simp[bS,h]
 have a:decide ((p.length:Int)<= (s.length:Int))=false:=aW oM;refine ky (aN @aY @a) ?_;refine⟨_,(ke @aY),trivial,?_⟩;simp[bS,h]
def qd7(s p:No):No×Bool:=if(decide (p.length<=s.length)&& (s.take p.length==p))=true then(s.drop p.length,true) else(s,false)
def VB(s p:No)(w:hW)(a:s.length<1099511627776):Va prog 160 #[vs s,vs p] w (fun v D=>v=.tuple #[vs (qd7 s p).1,.bool (qd7 s p).2]/\D=[]):=by
 refine Va.Vr func160 rfl (rs:=[.tmp 4,.tmp 5]) results160 ntmps160 ?_;refine kf ?_;refine ky @aY ?_;refine Ow.Vc rfl call183 (fun b c=>F2 s p b a) ?_;refine ko @aY ?_;unfold qd7;cases h:(decide (p.length<=s.length)&& (s.take p.length==p))
 .refine ky @aY ?_;refine⟨_,(ke @aY),trivial,?_⟩
  rfl
 have d:p.length<=s.length:=by rw[WK,XN] at h;exact h.1
 refine ky @aY ?_;refine⟨_,(ke @aY),trivial,?_⟩
 rfl
def FF(s p:No)(w:hW)(a:s.length<1099511627776):Va prog 128 #[vs s,vs p] w (fun v D=>v=.tuple #[vs (qd7 s p).1,.bool (qd7 s p).2]/\D=[]):=by
 refine Va.Vr func128 rfl (rs:=[.tmp 4,.tmp 5]) results128 ntmps128 ?_;refine kf ?_;refine ky @aY ?_;refine Ow.Vc rfl call160 (fun b c=>VB s p b a) ?_;refine ko (qS1 @aY @Sx.Wk @Sx.Wl) ?_;refine ky @aY ?_;refine⟨_,(ke @aY),trivial,?_⟩
 rfl
def F3(c:Int)(w:hW):Va prog 135 #[Zh c] w (fun v D=>v=.bool (qe5 c)/\D=[]):=by
 refine Va.Vr func135 rfl (rs:=[.tmp 2]) results135 ntmps135 ?_;refine kf ?_;unfold qe5;cases a:decide (c<33)
 .cases b:decide (126<c)
  .refine ky (qS1 @bN @a @b) ?_;refine⟨_,(ke @bN),trivial,?_⟩;simp[bS]
  refine ky (qS1 @bN @a @b) ?_;refine⟨_,(ke @bN),trivial,?_⟩;simp[bS]
 refine ky (aN @bN @a) ?_;refine⟨_,(ke @bN),trivial,?_⟩;simp[bS]
def Fz(s:No)(w:hW)(e:s.length<1099511627776):
  Va prog 99 #[vs s] w (fun v D=>v=.bool (!(s==[])&&decide (s.length<=32)&& !(s.any cv))/\D=[]):=by
 refine Va.Vr func99 rfl (rs:=[.tmp 2]) results99 ntmps99 ?_;refine kf ?_;cases a:(s !=[])
 .have b:(s==[])=true:=by simpa using a
  refine ky (aN @bN @a) ?_;refine⟨_,(ke @bN),trivial,?_⟩;simp[bS,b]
 have b:(s==[])=false:=by simpa using a
 cases c:decide ((s.length:Int)<=32)
 .have d:decide (s.length<=32)=false:=aW (by have:=Z8 c;omega);refine ky (qS1 @bN @a @c) ?_;refine⟨_,(ke @bN),trivial,?_⟩;simp only[bS,b,d,W6,XA,Xv,Bool.and_false]
 have d:decide (s.length<=32)=true:=aP (by have:=Zu c;omega);refine ky (qS1 @bN @a @c) ?_;refine Ow.Vc rfl call68 (fun f g=>V0 s 135 call135 F3 f e) ?_;refine ko @bN ?_;refine ky @bN ?_;refine⟨_,(ke @bN),trivial,?_⟩;simp only[bS,b,d,W6,XA]
def F1(s:No)(w:hW)(A:s.length<1099511627776):
  Va prog 49 #[vs s] w (fun v D=>v=.bool (bG s)/\D=[]):=by
 refine Va.Vr func49 rfl (rs:=[.tmp 2]) results49 ntmps49 ?_;refine kf ?_;refine ky @aY ?_;refine Cw.VU (G:=Nat) [4,5,6,7,10,11,12,13,14,15,16,17,18,19,20,21,22,23,24,25,2,8,9,3] (fun g=>[(3,vi g)]) (fun g=>[]) (fun g=>g<=s.length/\ ∀i,i<g->cv (s.getD i 0)=false) (fun g=>s.length - g) 0 rfl rfl ?_ ?_
 .exact⟨by omega,fun i d=>by omega⟩
 intro g j p;refine kv ?_;obtain⟨B,n⟩:=p;by_cases o:g<s.length
 .have e:=o8 (s.getD g 0);have l:cv (s.getD g 0)=true->bG s=false:=by
   intro h;have:s.any cv=true:=List.any_eq_true.2 ⟨s.getD g 0,by rw[List.getD_eq_getElem?_getD,List.getElem?_eq_getElem o];exact Y3 o,h⟩;unfold bG;rw[this];simp
  have q:cv (s.getD g 0)=false-> ∀i,i<g+1->cv (s.getD i 0)=false:=fun h i d=>by
   by_cases t:i=g
   .rw[t];exact h
   exact n i oM
  generalize f:s.getD g 0=c at*;cases a:decide (c<33)
  .cases b:decide (126<c)
   .cases k:(c==47)
    .refine ky (qS3 @aY @f @a @b @k) ?_;refine Vo.mk (g+1) oM ⟨by omega,q (by rw[e,a,b,k];rfl)⟩ rfl rfl
    refine ky (qS3 @aY @f @a @b @k) ?_;rw[l (by rw[e,a,b,k];rfl)];refine⟨_,(ke @aY),trivial,?_⟩
    rfl
   refine ky (qS2 @aY @f @a @b) ?_;rw[l (by rw[e,a,b];rfl)];refine⟨_,(ke @aY),trivial,?_⟩
   rfl
  refine ky (qS1 @aY @f @a) ?_;rw[l (by rw[e,a];simp)];refine⟨_,(ke @aY),trivial,?_⟩
  rfl
 obtain rfl:g=s.length:=by omega
 have u:s.any cv=false:=by rw[List.any_eq_false];intro x y;obtain⟨i,d,rfl⟩:=List.getElem_of_mem y;have:=n i d;rw[List.getD_eq_getElem?_getD,List.getElem?_eq_getElem d] at this;simpa using this
 unfold bG;rw[u];cases a:decide (1<= (s.length:Int))
 .have m:(s==[])=true:=by
   have:=Z8 a;rw[Zm (show s.length=0 by omega)];rfl
  refine ky (aN @aY @a) ?_;refine⟨_,(ke @aY),trivial,?_⟩;simp only[bS,m,YT,Xv]
 have m:(s==[])=false:=by
  have:=Zu a;cases s with
  |nil=>simp at this
  |cons x r=>rfl
 have z:decide ((s.length:Int)<=32)=decide (s.length<=32):=decide_eq_decide.2 oM;refine ky (aN @aY @a) ?_;refine⟨_,(ke @aY),trivial,?_⟩;simp only[bS,m,z,W6,XA,Bool.and_true]
structure Vk where
 name:No
 id:Xl
def aI(r:Vk):List hU:=vs r.name::r.id.l.map v8
abbrev Ve(r:Vk):Obj:=.cells (aI r).toArray 114 (0,0)
open Classical in
def YA{α:Type}{l m:List α}(h:∀ a:α,l.count a=m.count a:=by intro a;simp only[List.count_append,List.count_cons,List.count_nil,Vm,Ve,Vi,Wh,Wi,Vz,Vg,Xu,iU,Vv,VS,Vj]<;>omega):l.Perm m:=List.perm_iff_count.2 h
def bK(r:Vk):(aI r).length=33:=by simp[aI,r.id.h]
def kZ(r:Vk)(E:h7)(n:Nat):aF (some (false,n)) (some (.cells (aI r).toArray E (0,0))) 0=some (vs r.name):=(rfl)
def kg(r:Vk)(E:h7):aF (some (true,32)) (some (.cells (aI r).toArray E (0,0))) 1=some (.agg (a8 r.id.l)):=by
 have a:1+32<= (aI r).toArray.size:=by rw[Wd,bK];decide
 simp only[aF,a,↓reduceIte];congr 2;show(aI r).toArray.extract 1 33=(r.id.l.map v8).toArray;rw[List.extract_toArray];congr 1;unfold aI;rw[List.extract_eq_take_drop,List.drop_succ_cons,YM,Yo (by simp[r.id.h])]
def eI(r:Vk):Value.cells (.agg (aI r).toArray)=(aI r).toArray:=ag _
def qt5(l l':No)(h:l.length=32/\l'.length=32):ak prog .eql 38 (.agg (a8 l)) (.agg (a8 l'))=some (.bool (l==l')):=
 wP underlying38 underlying5 ag5 kR l l' h
def dl:=aN (aN (aN @bA @gd) (aN @iG @iF)) (aN (aN @b9 @kZ) (qS1 @kg @eI @qt5))
def lZ(r:Vk)(m:ab):ab:=if r.id.l==z32 then qd9 r.name (Zt r.name r.id.l m) else Zt r.name r.id.l m
def nM(b:Nat)(o:Obj)(m:ab)(r:Vk)(w:hW)(c:w.heap[b]? =some o)(g:qa2 o m):
  Va prog 136 #[vm b,.agg (aI r).toArray] w (fun v D=> ∃d,D=[(b,d)]/\v=.bool (decide ((lZ r m).length<=16))/\qa2 d (lZ r m)):=by
 have i:=(Array.getElem?_eq_some_iff.1 c).1;refine Va.XV func136 rfl (rs:=[.tmp 4]) results136 ntmps136 c ?_;refine kf ?_;refine ky @dl ?_;refine Ow.box rfl rfl fun j h e=>?_;obtain⟨k,-⟩:=h;refine ko @dl ?_;refine ky @dl ?_;refine Ow.mapUpdate rfl rfl underlying182 underlying9 rfl rfl rfl (eJ _ _ _) g (fun l a=>?_);rw[iN];have n:=r.id.h;have p:=show z32.length=32 by simp[z32]
 refine ko @dl ?_;refine ky @dl ?_;refine Ow.build (.agg (a8 z32)) rfl kR ?_;refine ko @dl ?_;unfold lZ;cases q:(r.id.l==z32)
 .rw[tr Bool.false_ne_true];refine ky @dl ?_;refine Ow.qp4 rfl rfl underlying182 rfl (g3 _ _ _ _) a ?_;refine ko @dl ?_;refine ky @dl ?_;refine⟨_,_,_,(by simp(disch:=omega) only[Bl,Bb,CJ,cz,dL,Bp];rfl),rfl,⟨e,trivial⟩,?_,a⟩;exact Wc Value.bool (decide_eq_decide.2 oM)
 rw[Vb rfl];refine ky @dl ?_;refine Ow.qm8 rfl rfl underlying182 underlying9 rfl rfl (eJ _ _ _) a (fun s f=>?_);rw[iN];refine ko @dl ?_;refine ky @dl ?_;refine Ow.qp4 rfl rfl underlying182 rfl (g3 _ _ _ _) f ?_;refine ko @dl ?_;refine ky @dl ?_;refine⟨_,_,_,(by simp(disch:=omega) only[Bl,Bb,CJ,cz,dL,Bp];rfl),rfl,⟨e,trivial⟩,?_,f⟩;exact Wc Value.bool (decide_eq_decide.2 oM)
def rI(n:No)(id:Xl):cL (bP prog 114) (ac prog 114) [(0,vs n),(1,.agg (a8 id.l))]=some (.agg (aI ⟨n,id⟩).toArray):=by
 have c:ac prog 114=some (.agg (vs []::(List.replicate 32 (0:Vf)).map v8).toArray):=qz7;rw[qL1,c];have d:(Value.cells (vs n))=#[vs n]:=rfl;have e:Value.cells (.agg (a8 id.l))=(id.l.map v8).toArray:=ag _;have b:cU (vs []::(List.replicate 32 (0:Vf)).map v8).toArray 0 [vs n]=(vs n::(List.replicate 32 (0:Vf)).map v8).toArray:=rfl;have a:=r4 (id.l.map v8) [vs n] ((List.replicate 32 (0:Vf)).map v8) (by simp[id.h]);simp only[Wp,Vy,Wt,W7,Xg] at a;have f:List.drop (id.l.map v8).length ((List.replicate 32 (0:Vf)).map v8)=[]:=List.drop_eq_nil_of_le (by simp[id.h]);rw[f,VX] at a;have s1:(vs []::(List.replicate 32 (0:Vf)).map v8).toArray.size=33:=by simp
 have g:(vs n::(List.replicate 32 (0:Vf)).map v8).toArray.size=33:=by simp
 have h:(id.l.map v8).toArray.size=32:=by simp[id.h]
 simp only[cL,Sx.YR,List.getElem?_cons_zero,List.getElem?_cons_succ,d,e,h];rw[Vb ⟨rfl,by rw[s1];decide⟩,Vb ⟨trivial,by rw[b,g];decide⟩,b,a]
 rfl
def pj{s:No}{a:Nat}{e:Int}(b:a<=s.length):(X5 s a e).1.length=32:=by
 unfold X5;simp only
 split
 .assumption
 simp[z32]
def NI(Wo:Array hU)(r:Vk)(E:h7)(h:Wo.size=33):aZ (some (true,33)) (some (.cells Wo E (0,0))) 0 (.agg (aI r).toArray)=some (.cells (aI r).toArray E (0,0)):=by
 have b:Value.cells (.agg (aI r).toArray)=(aI r).toArray:=ag _;have a:=r4 (aI r) [] Wo.toList (by rw[bK,Array.length_toList,h];exact aj _);simp only[Vy,W7,Array.toArray_toList] at a;have c:List.drop (aI r).length Wo.toList=[]:=List.drop_eq_nil_of_le (by rw[bK,Array.length_toList,h];exact aj _);rw[c,VX] at a;have d:(aI r).all Value.oneCell'=true:=by unfold aI;rw[List.all_cons,List.all_map,WK];exact⟨rfl,XX.2 fun x _=>rfl⟩
 unfold aZ;simp only[b];rw[Vb ⟨by rw[Wd,bK],by omega,.inl (aj 0),d⟩,a]
def mY(r:Vk)(E:h7):aF (some (true,33)) (some (.cells (aI r).toArray E (0,0))) 0=some (.agg (aI r).toArray):=jN _ E (0,0) 33 (by rw[Wd,bK])
def ma(r a:Vk)(E:h7):aZ (some (true,33)) (some (.cells (aI a).toArray E (0,0))) 0 (.agg (aI r).toArray)=some (.cells (aI r).toArray E (0,0)):=NI _ _ _ (by rw[Wd,bK])
def ar:Vk:=⟨[],XY⟩
def eR:ac prog 114=some (.agg (aI ar).toArray):=qz7
def qm9(s:No)(a:Nat)(e:Int)(b:a<=s.length):Vk×Nat×Int:=
 (⟨(aS s a e 32).1,⟨(X5 s (aS s a e 32).2.1 (aS s a e 32).2.2).1,pj (gA b).2⟩⟩,(X5 s (aS s a e 32).2.1 (aS s a e 32).2.2).2)
def pW:=aN (aN (aN @bA @gd) (qS1 @iG @iF @b9)) (aN (qS1 @kZ @kg @eI) (qS1 @qt5 @ma @mY))
def uy(b:Nat)(s:No)(a:Nat)(e:Int)(w:hW)(c:a<=s.length)(k:s.length<1099511627776)(g:w.heap[b]? =some (Vg (vs s) (vi a) (vi e))):
  Va prog 84 #[vp b 0] w (fun v D=> ∃o,D=[(b,o)]/\v=.agg (aI (qm9 s a e c).1).toArray/\o=(Vg (vs s) (vi (qm9 s a e c).2.1) (vi (qm9 s a e c).2.2))):=by
 have l:=(Array.getElem?_eq_some_iff.1 g).1;have h:=gA (e:=e) (most:=32) c;unfold qm9;refine Va.XV func84 rfl (rs:=[.cell 2 114]) results84 ntmps84 g ?_;refine kf ?_;refine ky @pW ?_;refine Ow.alloc rfl rfl eR fun m i j=>?_;rw[eI];obtain⟨n,-⟩:=i;refine ko @pW ?_;refine ky @pW ?_;refine Ow.WA rfl rfl call127 Wg (fun d f=>sG b s a e 32 d c oM (f.has _ _ aX)) ?_;refine ko @pW ?_;refine Ow.WA rfl rfl call131 Wg (fun d f=>NZ b s _ _ d h.2 oM (f.has _ _ aX)) ?_;rw[iN];refine Ow.build _ rfl (rI (aS s a e 32).1 ⟨(X5 s (aS s a e 32).2.1 (aS s a e 32).2.2).1,pj (gA c).2⟩) ?_;generalize (⟨(aS s a e 32).1,⟨(X5 s (aS s a e 32).2.1 (aS s a e 32).2.2).1,pj (gA c).2⟩⟩:Vk)=r;generalize p:(X5 s (aS s a e 32).2.1 (aS s a e 32).2.2).2=q;refine ko @pW ?_;refine ky @pW ?_;refine⟨_,_,_,(ke @pW),rfl,⟨j,trivial⟩,?_⟩;exact⟨rfl,rfl⟩
def bw(s:No)(a:Nat)(e:Int)(p:No):Option No×Nat×Int:=
 let t:=aS s a e 65536
 let b:=eG t.1
 let c:=qd7 b.1 p
 (if b.2=true/\c.2=true/\t.2.2=0 then some c.1 else none,t.2)
def gD:=aN (aN (aN (aN @bA @gd) (aN @iG @iF)) (aN (aN @b9 @m_) (aN @n8 @mz))) (aN (aN (aN @pQ @pK) (aN @qE6 @p3)) (aN (aN @Ar @AK) (aN @Sx.Wk @Sx.Wl)))
def qh{s:No}{a:Nat}{e most:Int}(c:s.length<1099511627776):(aS s a e most).1.length<1099511627776:=by
 have:∀ (b:Nat) (e n:Int),(aw s b e n).1.length<=s.length:=by
  intro b e n;unfold aw
  split
  .simp
  split
  .simp
  split
  .simp
  simp only[W3,XC];omega
 unfold aS;simp only
 split
 .simp
 exact Nat.lt_of_le_of_lt (this _ _ _) c
def qF7(s:No)(a:Nat)(e:Int)(p:No)(b n:Nat)(v:hU)(D:aA):Prop:=
 ((bw s a e p).1=none/\v=.pointer none/\D=[(b, Vg (vs s) (vi (bw s a e p).2.1) (vi (bw s a e p).2.2))])\/
 ∃d c,(bw s a e p).1=some c/\v=vp d 0/\n<=d/\b≠d/\D=[(b, Vg (vs s) (vi (bw s a e p).2.1) (vi (bw s a e p).2.2)),(d, Vg (vs c) (vi 0) (vi 0))]
def vz{s:No}{a:Nat}{e:Int}{p c:No}(b:s.length<1099511627776)(h:(bw s a e p).1=some c):c.length<1099511627776:=by
 have d:=qh (a:=a) (e:=e) (most:=65536) b;have f:=C4 (aS s a e 65536).1;unfold bw at h;simp only at h
 split at h
 .simp only[WD] at h;subst h;unfold qd7
  split
  .simp only[XC];omega
  simp only;omega
 cases h
def uw{s:No}{a:Nat}{e:Int}{p c:No}(h:(bw s a e p).1=some c):(bw s a e p).2.2=0:=by
 unfold bw at h |-;simp only at h |-
 split at h
 .rename_i b;exact b.2.2
 cases h
def Uu(b:Nat)(s:No)(a:Nat)(e:Int)(p:No)(w:hW)(q:Wz w)(C:b≠1)(r:a<=s.length)(u:s.length<1099511627776)(l:w.heap[b]? =some (Vg (vs s) (vi a) (vi e))):
  Va prog 82 #[vp b 0,vs p] w (XS w [(b, Vg (vs s) (vi a) (vi e))] (qF7 s a e p b 0)):=by
 have E:=(Array.getElem?_eq_some_iff.1 l).1;have m:=qh (a:=a) (e:=e) (most:=65536) u;have n:=C4 (aS s a e 65536).1;have x:bw s a e p=(if(eG (aS s a e 65536).1).2=true/\(qd7 (eG (aS s a e 65536).1).1 p).2=true/\(aS s a e 65536).2.2=0 then some (qd7 (eG (aS s a e 65536).1).1 p).1 else none,(aS s a e 65536).2):=rfl;unfold qF7;rw[x];have y:∀g,g∈ [(b,Vg (vs s) (vi a) (vi e))]->w.heap[g.1]? =some g.2:=by intro g j;obtain rfl:=VZ.1 j;exact l
 refine Va.Vs func82 rfl (rs:=[.tmp 4]) results82 ntmps82 y Wg ?_;refine kf ?_;refine ky @gD ?_;refine Ow.WA rfl rfl call127 Wg (fun d f=>sG b s a e 65536 d r oM (f.has _ _ aX)) ?_;rw[iN];generalize aS s a e 65536=t at*;obtain⟨t,z,k⟩:=t;simp only at m n |-;refine ko @gD ?_;refine Ow.Vc rfl call126 (fun d f=>GI t d (Wz.of q f (by simp[keys];omega)) m) ?_;generalize eG t=i at*;obtain⟨i,ok⟩:=i;simp only at n |-;refine ko @gD ?_;refine ky @gD ?_;refine Ow.Vc rfl call128 (fun d f=>FF i p d oM) ?_;generalize qd7 i p=c at*;obtain⟨c,is⟩:=c;simp only;refine ko @gD ?_;refine ky @gD ?_;cases ok
 .refine ky @gD ?_;refine⟨_,(ke @gD),?_⟩;exact⟨Ext.refl _ _|>.keys rfl,.inl ⟨by simp,rfl,rfl⟩⟩
 cases is
 .refine ky @gD ?_;refine⟨_,(ke @gD),?_⟩;exact⟨Ext.refl _ _|>.keys rfl,.inl ⟨by simp,rfl,rfl⟩⟩
 refine ky @gD ?_;refine Ow.Vc rfl call129 (fun d f=>rJ b s _ k d (f.has _ _ aX)) ?_;refine ko @gD ?_;by_cases o:k=0
 .refine ky @gD ?_;refine Ow.qb2 rfl rfl call81 (S:=fun B v D=> ∃h,B<=h/\v=vp h 0/\D=[(h, Vg (vs c) (vi 0) (vi 0))]) (fun d f=>tM c d) ?_;rintro B v D A F ⟨h,G,rfl,rfl⟩;refine⟨_,Mrg.fresh (by intro g j;simp only[keys,VY,Wr,VZ] at j;omega),?_⟩;obtain⟨H,-⟩:=A;refine ko @gD ?_;refine ky @gD ?_;refine⟨_,(ke @gD),?_⟩;refine⟨?_,.inr ⟨h,c,by simp[o],rfl,by omega,by omega,rfl⟩⟩;exact(Ext.refl _ _|>.keys rfl:Ext w [(b,Vg (vs s) (vi a) (vi e))] [(b,Vg (vs s) (vi z) (vi k))]).app oM
 refine ky @gD ?_;refine⟨_,(ke @gD),?_⟩;exact⟨Ext.refl _ _|>.keys rfl,.inl ⟨by simp[o],rfl,rfl⟩⟩
def gU(r:Vk):(aI r).all Value.oneCell'=true:=by unfold aI;rw[List.all_cons,List.all_map,WK];exact⟨rfl,XX.2 fun x _=>rfl⟩
abbrev cj(w:hW)(v:hU)(l:List Vk):Prop:=Xz 33 aI ar w v l
def su(b o n c:Nat):ak prog .eql 57 (Xr b o n c) Vj=some (.bool false):=by simp[ak,Zq,cm,cg,underlying57,Xr]
def UX:ak prog .eql 57 Vj Vj=some (.bool true):=by simp[ak,Zq,cm,cg,underlying57]
def lz(v:hU)(ls:List Vk)(w:hW)(a:cj w v ls)(t:ls.length<1000000):
  Va prog 64 #[v] w (XS w [] (fun v D=>Gr D 114 33 v ls.length (ls.map aI).flatten)):=by
 obtain⟨b,off,c,arr,E,fz,l,m,⟨rfl,rfl,rfl⟩ | ⟨rfl,f,n⟩⟩:=a
 .refine Va.Vs func64 rfl (rs:=[.tmp 2]) results64 ntmps64 (fun p d=>by cases d) Wg ?_;refine kf ?_;refine ky (qS1 @aY @su @UX) ?_;refine⟨_,(ke @aY),?_⟩;exact⟨Ext.refl _ _,Gr.nl⟩
 have u:=(Array.getElem?_eq_some_iff.1 f).1;have a:cj w (Xr b off ls.length c) ls:=⟨b,off,c,arr,E,fz,l,m,.inr ⟨rfl,f,n⟩⟩;refine Va.Vs func64 rfl (rs:=[.tmp 2]) results64 ntmps64 (fun p d=>by cases d) Wg ?_;refine kf ?_;refine ky (qS1 @aY @su @UX) ?_;refine Ow.buildSlice (e:=114) #[] rfl rfl kR fun g q i=>?_;refine ko @aY ?_;refine Ow.ZV (e:=114) (k:=ls.length) (new:=(ls.map aI).flatten) (Xr g 0 0 0) rfl rfl rfl underlying57 YI kR eR (by rw[eI,Wd,bK]) underlying57 (by intro k h;cases h) (.inr ⟨rfl,rfl,g,rfl,fX q⟩) (fun x r=>(a.WO r ⟨i,trivial⟩).ql8 bK gU) (qc bK ls) oM (fun v2 y j z s A=>?_);rw[Xg,Vy] at j;refine ko @aY ?_;refine ky @aY ?_;refine⟨_,(ke @aY),?_⟩;exact⟨((Ext.refl w []).app (o:=Obj.cells #[] 114 (0,0)) i).qm5 s,j⟩
def Wz.ofE{w a:hW}{X L:aA}(h:Wz w)(b:Ext w X L)(c:Hp w L a)(d:(1:Nat)∉keys X):Wz a:=by
 have g:(1:Nat)<w.heap.size:=by obtain⟨e,f,h⟩:=h;exact(Array.getElem?_eq_some_iff.1 h).1
 exact Wz.of h c (b.not g d)
def WC.zero(b:Nat){L:aA}(h:Sx.look L b=some (Wi (.pointer none) Vj)):WC b [] L:=
 ⟨_,_,h,.inl rfl,.nl,fun h=>by cases h⟩
def bh(l:No):No:=c9 (dx l)
def Ua(b:Nat)(X:aA)(l:No)(w:hW)(r:Wz w)(s:(1:Nat)∉keys X)(t:WC b l X)(c:∀p,p∈X->w.heap[p.1]? =some p.2)(d:(keys X).Nodup)(M:l.length<1073741824):
  Va prog 77 #[vp b 0] w (XS w X (fun v _=>v=vs (bh l))):=by
 refine Va.Vs func77 rfl (rs:=[.tmp 2]) results77 ntmps77 c d ?_;refine kf ?_;refine ky @Nat.add_zero ?_;refine Ow.alloc rfl rfl qr3 fun a u x=>?_;refine ko @Nat.add_zero ?_;have y:=(Ext.refl w X).app (o:=(Wi (.pointer none) Vj)) x;refine ky @Nat.add_zero ?_;refine Ow.Wa (Y:=[(a, Wi (.pointer none) Vj)]) V_ rfl rfl call124 (fun f g c d=>UK b X l f t c d oM) (fun v2 D2 k z=>?_);subst z;have m:=y.X1 k;have A:a∉keys D2:=fun j=>by
  rcases k.new a j with h| ⟨h,-⟩
  .exact Xk _ (aQ u h)
  exact Xk _ (aQ h (by rw[aV];exact cJ _ aX))
 have B:WC a [] (D2++[(a, Wi (.pointer none) Vj)]):=WC.zero a (by rw[cu A];exact eJ _ _ _);generalize D2++[(a,Wi (.pointer none) Vj)]=C at*;refine ko @Nat.add_zero ?_;refine Ow.Vc rfl call123 (fun f g=>rv l f (Wz.ofE r m g s) oM) ?_;refine ko @Nat.add_zero ?_;have N:=mU l;refine Ow.buildSlice (e:=9) #[vs (dx l)] rfl rfl kR fun i D E=>?_;refine ko @Nat.add_zero ?_;have n:(gY [dx l])=bh l:=by simp[gY,bh]
 have O:=eL ((dx l).length:Int);have P:(bh l).length=(co (cb (dx l).length)).length+ (dx l).length:=by unfold bh c9;rw[VV]
 refine Ow.Wa (Y:=[(i, VS (vs (dx l)))]) V_ rfl rfl call75 (fun f g c d=>DO a C [] _ i 0 [dx l] _ _ _ f B c d (Zb.lit [dx l] rfl rfl (g.has _ _ (cJ _ aX))) (fun _ j=>Xk _ (aQ D j)) (by rw[n];simp only[W7];omega) V_) (fun Q F G H=>?_);obtain⟨rfl,q⟩:=H;rw[n,Vy] at q;have I:=(m.app (o:=(VS (vs (dx l)))) E).X1 G;have J:=WC.app (Y:=[(i, VS (vs (dx l)))]) q;generalize F++[(i,VS (vs (dx l)))]=D6 at*;refine ko @Nat.add_zero ?_;refine ky @Nat.add_zero ?_;refine Ow.Wa (Y:=[]) V_ rfl rfl call124 (fun f g c d=>UK a D6 (bh l) f J c d oM) (fun v7 D7 K L=>?_);subst L;rw[VX];refine ko @Nat.add_zero ?_;refine ky @Nat.add_zero ?_;refine⟨_,(ke @Nat.add_zero),?_⟩;exact⟨I.Xt K,rfl⟩
def Cw.perm{P:h_}{w0:hW}{c:Code}{f:Fr}{L:aA}{K:bz}(M:aA)(a:∀p,p∈M↔p∈L)(b:(keys M).Nodup)(h:Cw P w0 c f M K):Cw P w0 c f L K:=fun w d=>h w (d.same a b)
def w7(id:Xl):kK prog 140 1 [(0,.agg (a8 id.l))]=some (38,a8 id.l):=by
 have c:Value.cells (.agg (a8 id.l))=(id.l.map v8).toArray:=ag _;have a:ac prog 38=some (.agg ((List.replicate 32 (0:Vf)).map v8).toArray):=qc2;have d:(id.l.map v8).toArray.size=32:=by simp[id.h]
 have b:=r4 (id.l.map v8) [] ((List.replicate 32 (0:Vf)).map v8) (by simp[id.h]);have e:List.drop (id.l.map v8).length ((List.replicate 32 (0:Vf)).map v8)=[]:=List.drop_eq_nil_of_le (by simp[id.h]);rw[e,VX,Vy] at b;have f:((Array.range (1*32)).map fun x=>(Value.cells (.agg ((List.replicate 32 (0:Vf)).map v8).toArray))[x% (Value.cells (.agg ((List.replicate 32 (0:Vf)).map v8).toArray)).size]!)=((List.replicate 32 (0:Vf)).map v8).toArray:=by kernel_rfl
 simp only[kK,underlying140,ql7,a,Ws];rw[tr WT,tr WT];simp only;rw[f];have g:Instr.fill (fun i=>some (i*32,32)) ((List.replicate 32 (0:Vf)).map v8).toArray [(0,Value.agg (a8 id.l))]=some (a8 id.l):=by
  have h:(((List.replicate 32 (0:Vf)).map v8).toArray).size=32:=by simp
  unfold Instr.fill;simp only[c,d,h,Nat.zero_mul,ne_eq,not_true_eq_false,decide_false,XW,Xg,Xk,gt_iff_lt,VW,↓reduceIte];unfold Instr.fill;congr 1;have a:=Bd (id.l.map v8) 0 0 ((List.replicate 32 (0:Vf)).map v8).toArray;have j:cU ((List.replicate 32 (0:Vf)).map v8).toArray 0 (id.l.map v8)=(id.l.map v8).toArray:=b;rw[XL,j] at a;simp only[Xg] at a;rw[<-Array.foldl_toList,Array.toList_zipIdx];exact a
 rw[g]
 rfl
def bq(r:Vk):No:=[69]++c9 r.name++r.id.l
def U_(r:Vk)(w:hW)(x:Wz w)(hr:r.name.length<1000000):
  Va prog 78 #[.agg (aI r).toArray] w (XS w [] (fun v _=>v=vs (bh (bq r)))):=by
 have F:(1:Nat)<w.heap.size:=by obtain⟨e,f,h⟩:=x;exact(Array.getElem?_eq_some_iff.1 h).1
 refine Va.Vs func78 rfl (rs:=[.tmp 2]) results78 ntmps78 (fun p G=>by cases G) Wg ?_;refine kf ?_;refine ky @dl ?_;refine Ow.box rfl rfl fun a zj H=>?_;simp only[dS,cz,eI,Vy];refine ko @dl ?_;refine ky @dl ?_;refine Ow.alloc rfl rfl qr3 fun b I J=>?_;obtain⟨zk,-⟩:=I;refine ko @dl ?_;refine Ow.Vd (List.Perm.swap _ _ _) ?_;have K:Ext w [] [(b,Wi (.pointer none) Vj),(a,Ve r)]:=
  ((Ext.refl w []).app J).app H
 have L:WC b [] [(b, Wi (.pointer none) Vj)]:=WC.zero b (eJ _ _ _);refine ky @dl ?_;refine Ow.buildSlice (e:=9) #[vs [69]] rfl rfl kR fun d M N=>?_;obtain⟨zl,zm,-⟩:=M;have O:=K.app (o:=(VS (vs [69]))) N;refine ko @dl ?_;refine Ow.Wa (Y:=[(a, Ve r),(d, VS (vs [69]))]) V_ rfl rfl call73 (fun c l m n=>CW b [(b, Wi (.pointer none) Vj)] [] _ d 0 [[69]] _ _ _ c L m n (Zb.lit [[69]] rfl rfl (l.has _ _ (ah _ (ah _ aX)))) (fun _ g=>by simp[keys] at g;omega) V_ V_) (fun v3 q t P=>?_);obtain⟨rfl,y⟩:=P;have Q:=Ext.X1 (D:=[(b,Wi (.pointer none) Vj)]) (Y:=[(a,Ve r),(d, VS (vs [69]))]) O t;have z:a∉keys q:=fun g=>by
  rcases t.new a g with h| ⟨h,-⟩
  .simp[keys] at h;omega
  exact Xk _ (aQ h Wg)
 simp only[Ya,List.flatten_nil,VX,Vy] at y;have R:aG w (q++[(a,Ve r),(d, VS (vs [69]))]) a=some (Ve r):=aO (by rw[cu z];exact eJ _ _ _);refine ko @dl ?_;refine ky (aN @dl @R) ?_;refine Ow.buildSlice (e:=9) #[vs r.name] rfl rfl kR fun i S T=>?_;have zn:=eL (r.name.length:Int);have A:gY [r.name]=c9 r.name:=by simp[gY]
 have zo:(c9 r.name).length=(co (cb r.name.length)).length+r.name.length:=by unfold c9;rw[VV]
 have zq:b∈keys q:=t.all b Wg;have U:=Q.app (o:=(VS (vs r.name))) T;refine ko @dl ?_;refine Ow.Wa (Y:=[(a, Ve r),(d, VS (vs [69])),(i, VS (vs r.name))]) V_ rfl rfl call75 (fun c l m n=>DO b q [69] _ i 0 [r.name] _ _ _ c y m n (Zb.lit [r.name] rfl rfl (l.has _ _ (cJ _ aX))) (fun _ g=>Xk _ (aQ S (by rw[aV];exact aq _ g))) (by rw[A];simp only[Wt,W7];omega) V_) (fun v5 s B V=>?_);obtain⟨rfl,C⟩:=V;rw[A] at C;have W:=Ext.X1 (D:=q) (Y:=[(a,Ve r),(d, VS (vs [69])),(i, VS (vs r.name))]) (by simpa using U) B;have X:a∉keys s:=fun g=>by
  rcases B.new a g with h| ⟨h,-⟩
  .exact z h
  exact Xk _ (aQ h Wg)
 have Z:aG w (s++[(a,Ve r),(d, VS (vs [69])),(i, VS (vs r.name))]) a=some (Ve r):=aO (by rw[cu X];exact eJ _ _ _);refine ko @dl ?_;refine ky (aN @dl @Z) ?_;refine Ow.buildSlice (e:=38) (a8 r.id.l) rfl rfl (w7 r.id) fun b6 za zb=>?_;have zc:=W.app (o:= Vm r.id.l) zb;have zd:∀c,c.heap[b6]? =some (Vm r.id.l)->WL 32 Ze XY c (Xr b6 0 1 1) [r.id] b6 0 (a8 r.id.l) 38 (0,0):=fun c h=>WL.sl rfl h (by
  intro k hk j hj;obtain rfl:k=0:=by simpa using hk
  simp only[Nat.zero_mul,Xg,List.getD_cons_zero];rw[<-qt,List.getElem?_toArray])
 have zr:=nP [r.id];refine ko @dl ?_;refine Ow.Wa (Y:=[(a, Ve r),(d, VS (vs [69])),(i, VS (vs r.name)),(b6, Vm r.id.l)]) V_ rfl rfl call76 (fun c l m n=>uS b s _ _ b6 0 [r.id] _ _ _ c C m n (zd c (l.has _ _ (cJ _ aX))) (fun _ g=>Xk _ (aQ za (by rw[aV];exact aq _ g))) (by simp only[VV,Wt,W7];omega)) (fun v7 D7 ze zf=>?_);obtain⟨rfl,zg⟩:=zf;have u:=Ext.X1 (D:=s) (Y:=[(a,Ve r),(d, VS (vs [69])),(i, VS (vs r.name)),(b6, Vm r.id.l)]) (by simpa using zc) ze;have E:=WC.app (Y:=[(a,Ve r),(d, VS (vs [69])),(i, VS (vs r.name)),(b6, Vm r.id.l)]) zg;rw[show [69]++c9 r.name++qc7 [r.id]=bq r by simp[qc7,bq]] at E;have zt:(bq r).length=1+ (c9 r.name).length+r.id.l.length:=by simp[bq];omega
 have zu:=r.id.h;generalize D7++[(a,Ve r),(d, VS (vs [69])),(i, VS (vs r.name)),(b6, Vm r.id.l)]=D8 at*;refine ko @dl ?_;refine ky @dl ?_;refine Ow.Wa (Y:=[]) V_ rfl rfl call77 (fun c l m n=>Ua b D8 (bq r) c (Wz.ofE x u l Wg) (u.not F Wg) E m n oM) (fun v9 D9 zh zi=>?_);subst zi;rw[VX];refine ko @dl ?_;refine ky @dl ?_;refine⟨_,(ke @dl),?_⟩;exact⟨u.Xt zh,rfl⟩
def A7(r:Vk):(aI r).toArray.extract 1 33=a8 r.id.l:=by show(aI r).toArray.extract 1 33=(r.id.l.map v8).toArray;rw[List.extract_toArray];congr 1;unfold aI;rw[List.extract_eq_take_drop,List.drop_succ_cons,YM,Yo (by simp[r.id.h])]
def P8:Tryz.prog.stoodInHeld 114=false:=by kernel_rfl
def OD:Tryz.prog.eqGuardType Tryz.prog.depth 114=false:=by kernel_rfl
def Sg:aU prog 9=some (false,1):=by kernel_rfl
def TF:aU prog 38=some (true,32):=by kernel_rfl
def SM(r a:Vk):eqD prog 8 114 (.agg (aI r).toArray) (.agg (aI a).toArray)=some (r.name==a.name&&r.id.l==a.id.l):=by
 have b:eqD prog 7 9 (vs r.name) (vs a.name)=some (r.name==a.name):=by unfold eqD;rw[underlying9];simp only[vs,mq]
 have c:eqD prog 7 38 (.agg (a8 r.id.l)) (.agg (a8 a.id.l))=some (r.id.l==a.id.l):=
  lQ (d:=5) underlying38 underlying5 ag5 _ _ r.id.h a.id.h
 unfold eqD;rw[underlying114];simp only;rw[P8];have e:∀ (r:Vk),Sx.Xj (false,1) (aI r).toArray 0=some (vs r.name):=fun r=>rfl;have f:∀ (r:Vk),Sx.Xj (true,32) (aI r).toArray 1=some (.agg (a8 r.id.l)):=fun r=>by show some (Value.agg ((aI r).toArray.extract 1 33))=_;rw[A7]
 simp only[VW,↓reduceIte,pS,Sg,TF,kV,e,f,b,c];cases(r.name==a.name)<;>cases(r.id.l==a.id.l)<;>simp
def Tl(r a:Vk):ak prog .neq 114 (.agg (aI r).toArray) (.agg (aI a).toArray)=some (.bool (!(r.name==a.name&&r.id.l==a.id.l))):=by unfold ak Zq;rw[OD];simp[cm,SM]
def qy1(r:Vk):No×No:=(r.name,r.id.l)
def ii(a b:List Vk):Bool:=a.map qy1==b.map qy1
def NW{a b:List Vk}{i:Nat}(c:i<a.length)(d:i<b.length)(h:(((a.getD i ar).name==(b.getD i ar).name)&& ((a.getD i ar).id.l==(b.getD i ar).id.l))=false):ii a b=false:=by unfold ii;rw[WN];intro e;have:=Wc (·[i]?) e;simp only[List.getElem?_map,List.getElem?_eq_getElem c,List.getElem?_eq_getElem d,Ws,WD,qy1,Xp] at this;rw[List.getD_eq_getElem?_getD,List.getD_eq_getElem?_getD,List.getElem?_eq_getElem c,List.getElem?_eq_getElem d] at h;simp[this.1,this.2] at h
def K_{a b:List Vk}(e:a.length=b.length)(h:∀i,i<a.length->(((a.getD i ar).name==(b.getD i ar).name)&& ((a.getD i ar).id.l==(b.getD i ar).id.l))=true):ii a b=true:=by
 unfold ii;rw[W8];apply List.ext_getElem?;intro i;rw[List.getElem?_map,List.getElem?_map];by_cases c:i<a.length
 .have d:i<b.length:=by omega
  have:=h i c;rw[List.getD_eq_getElem?_getD,List.getD_eq_getElem?_getD,List.getElem?_eq_getElem c,List.getElem?_eq_getElem d] at this;simp only[Option.getD_some,WK,W8] at this;rw[List.getElem?_eq_getElem c,List.getElem?_eq_getElem d];simp[qy1,this.1,this.2]
 rw[List.getElem?_eq_none oM,List.getElem?_eq_none oM]
def k9:=aN (qS1 @bA @gd @iG) (qS1 @iF @b9 @Tl)
def FY(x y:hU)(d n b2 o:Nat)(a l2:List Vk)(p q:Array hU)(r s:h7)(t u:Nat×Nat)(w:hW)(b:WL 33 aI ar w x a d n p r t)(c:WL 33 aI ar w y l2 b2 o q s u)(I:a.length<1000000)(J:l2.length<1000000):
  Va prog 63 #[x,y] w (fun v D=>v=.bool (ii a l2)/\D=[]):=by
 refine Va.Vr func63 rfl (rs:=[.tmp 4]) results63 ntmps63 ?_;refine kf ?_;refine ky (aN @k9 (aN b.len (c.len))) ?_;by_cases f:a.length=l2.length
 .refine ky (aN @k9 (aN b.len (c.len))) ?_;refine Cw.VU (G:=Nat) [11,12,13,14,17,18,19,20,21,22,23,24,25,4,15,16,5] (fun g=>[(5,vi g)]) (fun g=>[]) (fun g=>g<=a.length/\ ∀i,i<g->(((a.getD i ar).name==(l2.getD i ar).name)&& ((a.getD i ar).id.l==(l2.getD i ar).id.l))=true) (fun g=>a.length - g) 0 rfl rfl ?_ ?_
  .exact⟨by omega,fun i z=>by omega⟩
  intro g j A;refine kv ?_;obtain⟨K,h⟩:=A;by_cases k:g<a.length
  .have l:g<l2.length:=by omega
   have B:=b.has oM;have C:=c.has oM;have E:=b.load bK oM k;have F:=c.load bK oM l;refine ky (aN @k9 b.len) ?_;refine Cw.Vu [d,b2] [0,1,2,4,5,6,3,7,8] [] kR kR kR ?_;refine WQ ?_;refine kq (qS5 @k9 b.idx c.idx @B @C @E @F) ?_
   try with_reducible refine Ow.nil ?_
   cases m:(((a.getD g ar).name==(l2.getD g ar).name)&& ((a.getD g ar).id.l==(l2.getD g ar).id.l))
   .refine ky @k9 ?_;refine⟨_,(ke @k9),trivial,?_⟩;rw[NW k l m];rfl
   refine ky @k9 ?_;refine Vo.mk (g+1) oM ⟨by omega,fun i z=>?_⟩ rfl rfl;by_cases H:i=g
   .rw[H];exact m
   exact h i oM
  obtain rfl:g=a.length:=by omega
  refine ky (aN @k9 b.len) ?_;rw[K_ f h];refine⟨_,(ke @k9),trivial,?_⟩
  rfl
 refine ky @k9 ?_;have:ii a l2=false:=by unfold ii;rw[WN];intro e;exact f (by simpa using Wc List.length e)
 rw[this];refine⟨_,(ke @k9),trivial,?_⟩
 rfl
end Go.Proofs
end
namespace Go.RefP
open Go Go.Sx
abbrev Pr:=No×No
def zp:Pr:=([],[])
def dm(z:No)(r:Pr)(m:ab):ab:=if r.2==z then qd9 r.1 (Zt r.1 r.2 m) else Zt r.1 r.2 m
def ig(x:Pr):ab->Bool->ab
 | [],dn=>if dn then [] else [x]
 |p::r,dn=>if p.1==x.1 then ig x r dn else if !dn&& !(Ys p.1 x.1||p.1==x.1) then x::p::ig x r true else p::ig x r dn
def qg9(z:No)(l:ab)(x:Pr):ab:=ig x l (x.2==z)
def Yi(l:ab):Prop:=l.Pairwise fun a b=>Ys a.1 b.1=true
def iA(m:ab):Prop:=(m.map Prod.fst).Nodup
def Yi.nd{l:ab}(h:Yi l):iA l:=by unfold iA List.Nodup;rw[List.pairwise_map];exact List.Pairwise.imp (fun a=>oR a) h
def but(k:No)(m:ab):ab:=m.filter fun p=> !(p.1==k)
def nS{k:No}{m:ab}(h:k∉m.map Prod.fst):but k m=m:=by unfold but;refine List.filter_eq_self.2 fun p a=>?_;have:p.1≠k:=fun e=>h (List.mem_map.2 ⟨p,a,e⟩);simp[this]
def se(k:No)(m:ab):k∉ (but k m).map Prod.fst:=by intro h;obtain⟨p,a,rfl⟩:=List.mem_map.1 h;simp[but] at a
theorem CY{k v:No}:∀ {m:ab},iA m->(Zt k v m).Perm ((k,v)::but k m)
 | [],_=>WW _
 |p::r,h=>by
  simp only[iA,VY,Xd] at h;unfold Zt;cases a:(k==p.1)
  .simp only[VW,↓reduceIte];have c:(p.1==k)=false:=by
    rw[WN] at a |-;exact fun e=>a e.symm
   have d:=CY (k:=k) (v:=v) (m:=r) h.2;have:but k (p::r)=p::but k r:=by unfold but;rw[X_];simp[c]
   rw[this];exact(List.Perm.cons p d).trans (List.Perm.swap _ _ _)
  simp only[↓reduceIte];have e:k=p.1:=by simpa using a
  subst e;have:but p.1 (p::r)=r:=by have b:=nS h.1;unfold but at b |-;rw[X_];simp[b]
  rw[this]
def RB{k v:No}{m:ab}(h:iA m):iA (Zt k v m):=by have a:=(CY (k:=k) (v:=v) h).map Prod.fst;refine(List.Perm.nodup_iff a).2 ?_;simp only[VY,Xd];refine⟨se k m,?_⟩;exact List.Nodup.sublist (List.Sublist.map _ List.filter_sublist) h
theorem A5{k:No}:∀ {m:ab},iA m->qd9 k m=but k m
 | [],_=>rfl
 |p::r,h=>by
  simp only[iA,VY,Xd] at h;unfold qd9;cases a:(k==p.1)
  .have c:(p.1==k)=false:=by
    rw[WN] at a |-;exact fun e=>a e.symm
   simp only[VW,↓reduceIte,A5 h.2];unfold but;rw[X_];simp[c]
  have e:k=p.1:=by simpa using a
  subst e;simp only[↓reduceIte];have b:=nS h.1;unfold but at b |-;rw[X_];simp[b]
def QN{k v:No}{m:ab}(h:iA m):(but k (Zt k v m)).Perm (but k m):=by
 have a:=(CY (k:=k) (v:=v) h).filter fun p=> !(p.1==k);have b:List.filter (fun p=> !(p.1==k)) ((k,v)::but k m)=but k m:=by rw[X_];simp only[Yf,YT,VW,↓reduceIte];exact nS (se k m)
 rw[b] at a;exact a
def M9{z:No}{r:Pr}{m:ab}(h:iA m):(dm z r m).Perm (if r.2==z then but r.1 m else r::but r.1 m):=by
 unfold dm
 split
 .rw[A5 (RB h)];exact QN h
 exact CY h
theorem qK(x:Pr):∀ (l:ab),ig x l true=but x.1 l
 | []=>rfl
 |p::r=>by
  unfold ig;cases h:(p.1==x.1)
  .simp only[VW,↓reduceIte,YT,Xv,qK x r];unfold but;rw[X_];simp[h]
  simp only[↓reduceIte,qK x r];unfold but;rw[X_];simp[h]
theorem Bh(x:Pr):∀ (l:ab),(ig x l false).Perm (x::but x.1 l)
 | []=>WW _
 |p::r=>by
  unfold ig;cases h:(p.1==x.1)
  .have e:but x.1 (p::r)=p::but x.1 r:=by unfold but;rw[X_];simp[h]
   simp only[VW,↓reduceIte,W6,XA,YN];rw[e]
   split
   .rw[qK]
   exact(List.Perm.cons p (Bh x r)).trans (List.Perm.swap _ _ _)
  have e:but x.1 (p::r)=but x.1 r:=by unfold but;rw[X_];simp[h]
  simp only[↓reduceIte];rw[e];exact Bh x r
def MS(z:No)(l:ab)(x:Pr):(qg9 z l x).Perm (if x.2==z then but x.1 l else x::but x.1 l):=by
 unfold qg9;cases x.2==z
 .exact Bh x l
 rw[qK];exact WW _
def sM{k:No}{l:ab}(h:Yi l):Yi (but k l):=List.Pairwise.sublist List.filter_sublist h
def K1{x p:Pr}{l:ab}(h:p∈ig x l false):p=x\/p∈l:=by
 have:=(Bh x l).mem_iff.1 h;rcases Vw.1 this with rfl|a
 .exact .inl rfl
 exact .inr (List.mem_filter.1 a).1
theorem EZ(x:Pr):∀ {l:ab},Yi l->Yi (ig x l false)
 | [],_=>qc0 _ _
 |p::r,h=>by
  have b:=List.pairwise_cons.1 h;unfold ig;cases f:(p.1==x.1)
  .simp only[VW,↓reduceIte,W6,XA,YN];have g:p.1≠x.1:=by simpa using f
   cases d:Ys p.1 x.1
   .have e:=mS d g;simp only[W6,↓reduceIte];rw[qK];refine List.pairwise_cons.2 ⟨?_,List.pairwise_cons.2 ⟨?_,sM b.2⟩⟩
    .intro c a;rcases Vw.1 a with rfl|a
     .exact e
     exact pR e (b.1 c (List.mem_filter.1 a).1)
    intro c a;exact b.1 c (List.mem_filter.1 a).1
   simp only[YT,VW,↓reduceIte];refine List.pairwise_cons.2 ⟨?_,EZ x b.2⟩;intro c a;rcases K1 a with rfl|a
   .exact d
   exact b.1 c a
  simp only[↓reduceIte];exact EZ x b.2
def IE{z:No}{l:ab}{x:Pr}(h:Yi l):Yi (qg9 z l x):=by
 unfold qg9;cases x.2==z
 .exact EZ x h
 rw[qK];exact sM h
def Rel(m l:ab):Prop:=m.Perm l/\Yi l
theorem Rel.nd{m l:ab}(h:Rel m l):iA m:=(List.Perm.nodup_iff (h.1.map Prod.fst)).2 h.2.nd
def Rel.set{z:No}{m l:ab}{x:Pr}(h:Rel m l):Rel (dm z x m) (qg9 z l x):=by
 refine⟨?_,IE h.2⟩;have a:(but x.1 m).Perm (but x.1 l):=h.1.filter _;refine(M9 h.nd).trans (List.Perm.trans ?_ (MS z l x).symm)
 split
 .exact a
 exact List.Perm.cons _ a
def dI(nm:No->Bool)(z:No)(t:ab)(g:Nat):Bool:=
 nm (t.getD g zp).1&& !((t.getD g zp).2==z)&& (g==0||Ys (t.getD (g - 1) zp).1 (t.getD g zp).1)
def ZF(nm:No->Bool)(z:No)(t:ab):Nat->Option ab
 |0=>some []
 |g+1=>(ZF nm z t g).bind fun m=>if(dI nm z t g&&decide ((dm z (t.getD g zp) m).length<=16))=true then some (dm z (t.getD g zp) m) else none
def et(nm:No->Bool)(z:No)(l:ab)(a:ab):Nat->Option ab
 |0=>some a
 |g+1=>(et nm z l a g).bind fun m=>if(nm (l.getD g zp).1&&decide ((dm z (l.getD g zp) m).length<=16))=true then some (dm z (l.getD g zp) m) else none
def ofM(nm:No->Bool)(z:No)(t l:ab)(k:Nat):Option ab:=(ZF nm z t t.length).bind fun m=>et nm z l m k
def qj0(nm:No->Bool)(z:No)(l:ab)(a:ab):Nat->Option ab
 |0=>some a
 |g+1=>(qj0 nm z l a g).bind fun m=>if(nm (l.getD g zp).1&&decide ((qg9 z m (l.getD g zp)).length<=16))=true then some (qg9 z m (l.getD g zp)) else none
def mr(nm:No->Bool)(z:No)(t:ab):Bool:=(List.range t.length).all (dI nm z t)
def ofL(nm:No->Bool)(z:No)(t l:ab)(k:Nat):Option ab:=
 if t.length<=16/\l.length<=100/\mr nm z t=true then qj0 nm z l t k else none
def t1{nm:No->Bool}{z:No}{l a:ab}{g:Nat}(h:et nm z l a g=none):∀k,g<=k->et nm z l a k=none:=by
 intro k b
 induction b with
 |refl=>exact h
 |step _ c=>unfold et;rw[c];rfl
def Jt{nm:No->Bool}{z:No}{t:ab}{g:Nat}(h:ZF nm z t g=none):∀k,g<=k->ZF nm z t k=none:=by
 intro k a
 induction a with
 |refl=>exact h
 |step _ b=>unfold ZF;rw[b];rfl
theorem DE{nm:No->Bool}{z:No}{t:ab}:∀ (g:Nat),g<=t.length->(∀i,i<g->dI nm z t i=true)->Yi (t.take g)/\(0<g-> ∀p,p∈t.take (g - 1)->Ys p.1 (t.getD (g - 1) zp).1=true)
 |0,_,_=>⟨by simp[Yi],fun h=>by omega⟩
 |g+1,s,h=>by
  have j:=DE (nm:=nm) (z:=z) (t:=t) g oM (fun i u=>h i oM);have l:g<t.length:=by omega
  have e:t.take (g+1)=t.take g++[t.getD g zp]:=by rw[List.take_add_one,List.getElem?_eq_getElem l,List.getD_eq_getElem?_getD,List.getElem?_eq_getElem l];rfl
  have key:∀p,p∈t.take g->Ys p.1 (t.getD g zp).1=true:=by
   intro p c;cases g with
   |zero=>simp at c
   |succ k=>
    have m:k<t.length:=by omega
    have d:=h (k+1) oM;unfold dI at d;simp only[WK,Bool.or_eq_true,Nat.add_sub_cancel] at d;have n:Ys (t.getD k zp).1 (t.getD (k+1) zp).1=true:=by
     rcases d.2 with f|f
     .simp at f
     exact f
    have o:t.take (k+1)=t.take k++[t.getD k zp]:=by rw[List.take_add_one,List.getElem?_eq_getElem m,List.getD_eq_getElem?_getD,List.getElem?_eq_getElem m];rfl
    rw[o] at c;rcases Wu.1 c with c|c
    .exact pR (j.2 oM p c) n
    rw[VZ.1 c];exact n
  refine⟨?_,fun _=>key⟩;rw[e];refine List.pairwise_append.2 ⟨j.1,qc0 _ _,?_⟩;intro a q b r;rw[VZ.1 r];exact key a q
theorem vN{k v:No}:∀ {m:ab},k∉m.map Prod.fst->Zt k v m=m++[(k,v)]
 | [],_=>rfl
 |p::r,h=>by simp only[VY,Vw,not_or] at h;unfold Zt;rw[tr (by simpa using h.1),vN h.2];rfl
theorem lE{nm:No->Bool}{z:No}{t:ab}:∀ (g:Nat),g<=t.length->ZF nm z t g=if g<=16/\(∀i,i<g->dI nm z t i=true) then some (t.take g) else none
 |0,_=>by simp[ZF]
 |g+1,j=>by
  have d:g<t.length:=by omega
  have k:=lE (nm:=nm) (z:=z) (t:=t) g oM;unfold ZF;rw[k];by_cases h:g<=16/\(∀i,i<g->dI nm z t i=true)
  .rw[Vb h,Yn];cases a:dI nm z t g
   .rw[Xv,tr V_,tr];intro b;rw[b.2 g oM] at a;cases a
   have f:∀i,i<g+1->dI nm z t i=true:=by
    intro i l;by_cases e:i=g
    .rw[e];exact a
    exact h.2 i oM
   have m:=DE (nm:=nm) (z:=z) (t:=t) (g+1) j f;have n:(t.getD g zp).1∉ (t.take g).map Prod.fst:=by intro o;obtain⟨p,q,e⟩:=List.mem_map.1 o;exact oR (m.2 oM p q) e
   have r:((t.getD g zp).2==z)=false:=by unfold dI at a;simp only[WK,Zy] at a;exact a.1.2
   have s:dm z (t.getD g zp) (t.take g)=t.take (g+1):=by unfold dm;rw[r,tr V_,vN n,List.take_add_one,List.getElem?_eq_getElem d,List.getD_eq_getElem?_getD,List.getElem?_eq_getElem d];rfl
   rw[s,XA];have u:(t.take (g+1)).length=g+1:=by simp;omega
   rw[u];by_cases c:g+1<=16
   .rw[Vb (by simpa using c),Vb ⟨c,f⟩]
   rw[tr (by simpa using c),tr (fun b=>c b.1)]
  rw[tr h,tr]
  .rfl
  intro b;exact h ⟨by omega,fun i l=>b.2 i oM⟩
theorem us{nm:No->Bool}{z:No}{l a b:ab}(h:Rel a b):∀ (k:Nat),(et nm z l a k=none/\qj0 nm z l b k=none)\/ ∃m d,et nm z l a k=some m/\qj0 nm z l b k=some d/\Rel m d
 |0=>.inr ⟨_,_,rfl,rfl,h⟩
 |k+1=>by
  unfold et qj0;rcases us h k with⟨c,e⟩ | ⟨m,d,c,e,g⟩
  .rw[c,e];exact .inl ⟨rfl,rfl⟩
  rw[c,e];simp only[Yn];have f:Rel (dm z (l.getD k zp) m) (qg9 z d (l.getD k zp)):=g.set;rw[f.1.length_eq]
  split
  .exact .inr ⟨_,_,rfl,rfl,f⟩
  exact .inl ⟨rfl,rfl⟩
def AX(nm:No->Bool)(z:No)(t l:ab)(e:l.length<=100)(k:Nat):
  (ofM nm z t l k=none/\ofL nm z t l k=none)\/ ∃m d,ofM nm z t l k=some m/\ofL nm z t l k=some d/\Rel m d:=by
 unfold ofM ofL;rw[lE t.length (aj _)];have a:mr nm z t=true↔ ∀i,i<t.length->dI nm z t i=true:=by unfold mr;rw[XX];simp
 by_cases h:t.length<=16/\(∀i,i<t.length->dI nm z t i=true)
 .rw[Vb h,Vb ⟨h.1,e,a.2 h.2⟩,Yn,WH];have b:=(DE t.length (aj _) h.2).1;rw[WH] at b;exact us ⟨WW _,b⟩ k
 rw[tr h,tr (fun c=>h ⟨c.1,a.1 c.2.2⟩)];exact .inl ⟨rfl,rfl⟩
def mp(nm:No->Bool)(z:No)(t l:ab):Bool:=(ofM nm z t l l.length).isSome&&decide (l.length<=100)
def XF(nm:No->Bool)(z:No)(t l:ab):Bool:=(ofL nm z t l l.length).isSome
def NX(nm:No->Bool)(z:No)(t l:ab):mp nm z t l=XF nm z t l:=by
 unfold mp XF;by_cases a:l.length<=100
 .rcases AX nm z t l a l.length with⟨b,c⟩ | ⟨m,d,b,c,-⟩<;>rw[b,c]<;>simp[a]
 rw[show ofL nm z t l l.length=none by unfold ofL;rw[tr (fun h=>a h.2.1)]];simp[a]
theorem nK{k v:No}:∀ {m:ab} {p:Pr},p∈Zt k v m->p.2=v\/p∈m
 | [],p,h=>by simp only[Zt,VZ] at h;exact .inl (by rw[h])
 |q::r,p,h=>by
  unfold Zt at h
  split at h
  .rcases Vw.1 h with rfl|h
   .exact .inl rfl
   exact .inr (ah _ h)
  rcases Vw.1 h with rfl|h
  .exact .inr aX
  rcases nK h with h|h
  .exact .inl h
  exact .inr (ah _ h)
theorem vS{k:No}:∀ {m:ab} {p:Pr},p∈qd9 k m->p∈m
 | [],_,h=>h
 |q::r,p,h=>by
  unfold qd9 at h
  split at h
  .exact ah _ h
  rcases Vw.1 h with rfl|h
  .exact aX
  exact ah _ (vS h)
def NV{z:No}{r p:Pr}{m:ab}(h:p∈dm z r m):p.2=r.2\/p∈m:=by
 unfold dm at h
 split at h
 .exact nK (vS h)
 exact nK h
def ZI(m:ab):Prop:= ∀p,p∈m->p.2.length=32
def ZI.set{z:No}{r:Pr}{m:ab}(h:ZI m)(a:r.2.length=32):ZI (dm z r m):=by
 intro p b;rcases NV b with e|c
 .rw[e];exact a
 exact h p c
theorem uM{nm:No->Bool}{z:No}{t:ab}(b:∀g,g<t.length->(t.getD g zp).2.length=32):∀ (g:Nat) (m:ab),g<=t.length->ZF nm z t g=some m->ZI m
 |0,m,_,h=>by cases h;intro p c;cases c
 |g+1,m,e,h=>by
  unfold ZF at h;cases a:ZF nm z t g with
  |none=>rw[a] at h;cases h
  |some d=>
   rw[a,Yn] at h
   split at h
   .cases h;exact(uM b g d oM a).set (b g oM)
   cases h
theorem vk{nm:No->Bool}{z:No}{l a:ab}(c:∀g,g<l.length->(l.getD g zp).2.length=32)(d:ZI a):∀ (g:Nat) (m:ab),g<=l.length->et nm z l a g=some m->ZI m
 |0,m,_,h=>by cases h;exact d
 |g+1,m,f,h=>by
  unfold et at h;cases b:et nm z l a g with
  |none=>rw[b] at h;cases h
  |some e=>
   rw[b,Yn] at h
   split at h
   .cases h;exact(vk c d g e oM b).set (c g oM)
   cases h
def x'{nm:No->Bool}{z:No}{t l:ab}{k:Nat}{m:ab}(b:∀g,g<t.length->(t.getD g zp).2.length=32)(c:∀g,g<l.length->(l.getD g zp).2.length=32)(d:k<=l.length)(h:ofM nm z t l k=some m):ZI m:=by
 unfold ofM at h;cases a:ZF nm z t t.length with
 |none=>rw[a] at h;cases h
 |some e=>rw[a,Yn] at h;exact vk c (uM b _ _ (aj _) a) k m d h
end Go.RefP
section
open Go Go.Proofs Go.Sx Go.RefP
namespace Go.Proofs
def sd(s:No)(a:Nat)(e:Int)(b:1<=s.length):X5 s (a+1) e=((X5 (s.drop 1) a e).1,(X5 (s.drop 1) a e).2.1+1,(X5 (s.drop 1) a e).2.2):=by unfold X5;simp only[rR _ _ _ _ b]
def l3{l:No}(h:l.length=32):fj l=⟨l,h⟩:=by unfold fj;rw[dif_pos h]
def eT(s:No)(a:Nat)(e:Int):Vk×Nat×Int:=
 (⟨(aS s a e 32).1,fj (X5 s (aS s a e 32).2.1 (aS s a e 32).2.2).1⟩,(X5 s (aS s a e 32).2.1 (aS s a e 32).2.2).2)
def x_(s:No)(a:Nat)(e:Int)(b:a<=s.length):qm9 s a e b=eT s a e:=by unfold qm9 eT;rw[l3 (pj (gA b).2)]
def wZ{s:No}{a:Nat}{e:Int}(b:a<=s.length):a<= (eT s a e).2.1/\(eT s a e).2.1<=s.length:=by have c:=gA (e:=e) (most:=32) b;have d:=ip (e:=(aS s a e 32).2.2) c.2;unfold eT;exact⟨by simp only;omega,d.2⟩
def ai(s:No)(a:Nat)(e:Int):Nat->List Vk×Nat×Int
 |0=>([],a,e)
 |g+1=>((ai s a e g).1++[(eT s (ai s a e g).2.1 (ai s a e g).2.2).1],(eT s (ai s a e g).2.1 (ai s a e g).2.2).2)
theorem nI{s:No}{a:Nat}{e:Int}(b:a<=s.length):∀g,a<= (ai s a e g).2.1/\(ai s a e g).2.1<=s.length
 |0=>⟨aj _,b⟩
 |g+1=>by have c:=nI (e:=e) b g;have h:=wZ (e:=(ai s a e g).2.2) c.2;unfold ai;exact⟨by simp only;omega,h.2⟩
theorem pZ(s:No)(a:Nat)(e:Int):∀g,(ai s a e g).1.length=g
 |0=>rfl
 |g+1=>by unfold ai;simp[pZ s a e g]
def Zc(s:No)(a:Nat)(e:Int):Int:=if e≠0 then e else if(a:Int)<s.length then 5 else 0
def sQ(s:No)(a:Nat)(e:Int)(b:1<=s.length):Zc s (a+1) e=Zc (s.drop 1) a e:=by
 unfold Zc;rw[XC];have:(((a+1:Nat):Int)< (s.length:Int))=((a:Int)< ((s.length - 1:Nat):Int)):=by rw[eq_iff_iff];omega
 simp only[this]
def Xn(l:List Vk):ab:=l.map fun r=>(r.name,r.id.l)
def ew(l:List Vk):(Xn l).length=l.length:=by simp[Xn]
def jB(l:List Vk)(g:Nat)(h:g<l.length):(Xn l).getD g zp=((l.getD g ar).name,(l.getD g ar).id.l):=by unfold Xn;rw[List.getD_eq_getElem?_getD,List.getD_eq_getElem?_getD,List.getElem?_map,List.getElem?_eq_getElem h];rfl
def am(t l:List Vk):Bool:=mp bG z32 (Xn t) (Xn l)
def j3(s:No):Option (List Vk×Nat):=
 match bw s 0 0 [72] with
 | (none,_)=>none
 | (some c,at_,_)=>
  let n:=aE c 0 0 16
  let tb:=ai c n.2.1 n.2.2 n.1.toNat
  if Zc c tb.2.1 tb.2.2=0/\am tb.1 []=true then some (tb.1,at_) else none
def gI(s:No)(tb:List Vk)(log:List Vk)(at_:Nat):Option (List Vk×Nat):=
 match bw s at_ 0 [69] with
 | (none,_)=>none
 | (some c,a,_)=>if Zc c (eT c 0 0).2.1 (eT c 0 0).2.2=0/\am tb (log++[(eT c 0 0).1])=true then some (log++[(eT c 0 0).1],a) else none
def eo(s:No)(tb:List Vk):Nat->List Vk->Nat->List Vk×Nat
 |0,log,at_=>(log,at_)
 |n+1,log,at_=>match gI s tb log at_ with
  |none=>(log,at_)
  |some p=>eo s tb n p.1 p.2
def fm(s:No):Option (List Vk×List Vk×Nat):=(j3 s).map fun h=>(h.1,eo s h.1 101 [] h.2)
def Bi{t l:List Vk}(h:am t l=true):l.length<=100:=by unfold am mp at h;rw[WK,XN,ew] at h;exact h.2
def LA{s:No}{tb log:List Vk}{at_:Nat}{p:List Vk×Nat}(h:gI s tb log at_=some p):p.1.length=log.length+1/\p.1.length<=100:=by
 unfold gI at h
 split at h
 .cases h
 split at h
 .rename_i a;cases h;exact⟨by simp,Bi a.2⟩
 cases h
theorem rg(s:No)(tb:List Vk):∀ (n m:Nat) (log:List Vk) (at_:Nat),101<=n+log.length->101<=m+log.length->log.length<=100->eo s tb n log at_=eo s tb m log at_
 |0,_,log,at_,b,_,a=>by omega
 |n+1,0,log,at_,_,c,a=>by omega
 |n+1,m+1,log,at_,b,c,a=>by
  unfold eo;cases d:gI s tb log at_ with
  |none=>rfl
  |some p=>have:=LA d;exact rg s tb n m p.1 p.2 oM oM this.2
def Mp(l:List Vk)(k:Nat):Xn (l.take k)=(Xn l).take k:=by unfold Xn;rw[List.map_take]
def oF(r:Vk)(m:ab):lZ r m=dm z32 (r.name,r.id.l) m:=rfl
def mX(a b:hU)(E:h7)(n:Nat):aF (some (false,n)) (some (.cells #[a,b] E (0,0))) 0=some a:=(rfl)
def k8(a b:hU)(E:h7)(n:Nat):aF (some (false,n)) (some (.cells #[a,b] E (0,0))) 1=some b:=(rfl)
def i5(l:No)(h:l.length=32):ak prog .eql 38 (.agg (a8 l)) (.agg (a8 z32))=some (.bool (l==z32)):=qt5 l z32 ⟨h,by simp[z32]⟩
def N8:cL (bP prog 38) (ac prog 38) []=some (.agg (a8 z32)):=id kR
def Tq(s:No)(w:hW)(a:s.length<1099511627776):
  Va prog 99 #[vs s] w (fun v D=>v=.bool (bG s)/\D=[]):=Fz s w a
structure OG where
 g:Nat
 m:ab
 o:Obj
theorem ss{nm:No->Bool}{z:No}{l a:ab}{n:Nat}:∀k,k<=n->et nm z (l.take n) a k=et nm z l a k
 |0,_=>rfl
 |k+1,h=>by
  unfold et;rw[ss k oM];have:(l.take n).getD k zp=l.getD k zp:=by rw[List.getD_eq_getElem?_getD,List.getD_eq_getElem?_getD,List.getElem?_take_of_lt oM]
  rw[this]
def cD:=aN (aN (qS1 @bA @gd @iG) (qS1 @iF @b9 @kZ)) (aN (qS1 @kg @eI @i5) (aN (aN @ma @mY) (aN @mX @k8)))
def XO(n:Nat)(t l:List Vk)(k:Nat)(v:hU)(D:aA):Prop:=
 match ofM bG z32 (Xn t) (Xn l) k with
 |some m=> ∃b o,v=.tuple #[vm b,.bool (decide (l.length<=100))]/\D=[(b,o)]/\qa2 o m/\n<=b
 |none=>v=.tuple #[.map none,.bool false]/\Vq n D
def pU{nm:No->Bool}{z:No}{t m:ab}{g:Nat}(h:ZF nm z t g=some m):ZF nm z t (g+1)=if(dI nm z t g&&decide ((dm z (t.getD g zp) m).length<=16))=true then some (dm z (t.getD g zp) m) else none:=by rw[ZF,h];rfl
def E4{nm:No->Bool}{z:No}{l a m:ab}{g:Nat}(h:et nm z l a g=some m):et nm z l a (g+1)=if(nm (l.getD g zp).1&&decide ((dm z (l.getD g zp) m).length<=16))=true then some (dm z (l.getD g zp) m) else none:=by rw[et,h];rfl
def XO.tab{n:Nat}{t l:List Vk}{k g:Nat}(h:ZF bG z32 (Xn t) (g+1)=none)(a:g<t.length){D:aA}(b:Vq n D):XO n t l k (.tuple #[.map none,.bool false]) D:=by unfold XO ofM;rw[Jt h _ (by rw[ew];exact a)];exact⟨rfl,b⟩
def XO.log{n:Nat}{t l:List Vk}{k g:Nat}{m:ab}(a:ZF bG z32 (Xn t) t.length=some m)(h:et bG z32 (Xn l) m (g+1)=none)(b:g<k){D:aA}(c:Vq n D):XO n t l k (.tuple #[.map none,.bool false]) D:=by unfold XO ofM;rw[ew,a,Yn,RefP.t1 h _ b];exact⟨rfl,c⟩
def XO.new{n:Nat}{t l:List Vk}{k:Nat}{v:hU}{D:aA}(h:XO n t l k v D):Vq n D:=by
 unfold XO at h
 split at h
 .obtain⟨b,o,-,rfl,-,a⟩:=h;exact⟨a,trivial⟩
 exact h.2
def nw(vt vl:hU)(t l:List Vk)(k:Nat)(w:hW)(K:cj w vt t)(F:cj w vl l)(zw:t.length<1000000)(zx:l.length<1000000)(hk:k<=l.length)
  (zf:∀g,g<t.length->(t.getD g ar).name.length<1099511627776) (zg:∀g,g<l.length->(l.getD g ar).name.length<1099511627776):
  Va prog 102 #[.agg #[vt,vl],vi k] w (XO w.heap.size t l k):=by
 refine Va.enter func102 rfl (rs:=[.tmp 4,.tmp 5]) results102 ntmps102 ?_;refine kf ?_;obtain⟨W,X,a1,E1,f1,D⟩:=K.row;refine kz [1000014] @cD ?_;refine Ow.box rfl rfl fun A zy f=>?_;refine Yx ?_;refine Ow.go rfl ?_;simp(disch:=first|exact dD|fail) only[↓Sx.S0,Sx.S1,fx,cD,Nat.reduceAdd,Nat.reducePow,Int.reducePow,Nat.reduceBEq,↓reduceIte,UInt8.reduceToNat,UInt16.reduceToNat,UInt32.reduceToNat,UInt64.reduceToNat,Int.reduceToNat];refine ky @cD ?_;refine Ow.makeMap rfl rfl fun bm o zh d zi=>?_;obtain⟨zz,-⟩:=zh;rw[Wp,Vy];refine ko @cD ?_;refine ky (aN @cD K.len) ?_;refine Cw.VU (G:=OG) [16,17,18,19,8,7,20,21,22,23,24,25,26,27,28,29,30,31,32,33,34,35,36,37,38,39,40,41,42,43,44,45,46,47,48,49,50,51,4,5,52,15] (fun g=>[(15,vi g.g)]) (fun g=>[(A, iU vt vl),(bm,g.o)]) (fun g=>g.g<=t.length/\ZF bG z32 (Xn t) g.g=some g.m/\qa2 g.o g.m) (fun g=>t.length - g.g) ⟨0,[],o⟩ rfl rfl ?_ ?_
 .exact⟨aR _,rfl,zi⟩
 intro g j H;refine kv ?_;obtain⟨g,m,o⟩:=g;simp only at H |-;obtain⟨zA,i,Q⟩:=H;by_cases q:g<t.length
 .have R:=D.has oM;have zB:=D.lt oM;have zj:=D.load bK oM q;refine kz [7] (qS3 @cD K.len D.idx @R @zj) ?_;refine Ow.alloc rfl rfl eR fun Y S h=>?_;simp only[ag,Vy,Wp];obtain⟨zk,zl,-⟩:=S;refine ko @cD ?_;refine ky @cD ?_;have zm:=(t.getD g ar).id.h;have T:=zf g q;have e:=jB t g q;generalize hr:t.getD g ar=r at*;refine Cw.Vu [A,W,Y] [0,1,2,3,4,5,7,6,8,9,10,11,12,13,14,16,17,21,15,18,19,20,22,23,24,25,26,27,28,29,30,31] [] kR kR kR ?_;refine WQ ?_;refine kq @cD ?_;refine Ow.Vc rfl call99 (fun s B=>Tq r.name s T) ?_;cases E:bG r.name
  .have u:dI bG z32 (Xn t) g=false:=by unfold dI;rw[e];simp only[E,Xv]
   refine kq @cD ?_
   try with_reducible refine Ow.nil ?_
   refine ky @cD ?_;refine⟨_,(ke @cD),?_⟩;exact XO.tab (by rw[pU i,u];rfl) q ⟨f,d,h,trivial⟩
  refine kq @cD ?_;refine Ow.build (.agg (a8 z32)) rfl kR ?_;cases C:(r.id.l==z32)
  .by_cases U:g=0
   .have L:decide ((0:Int)< (g:Int))=false:=by simp[U]
    have u:dI bG z32 (Xn t) g=true:=by unfold dI;rw[e];simp only[E,C,U,Yf,Bool.true_or,W6,Bool.and_self]
    refine kq (qS1 @cD @C @L) ?_;refine Ow.WV ?_;refine Ow.qk1 rfl rfl call136 Wg (fun s B=>nM bm o m r s (B.has _ _ (ah _ aX)) Q) (fun v x I=>?_);refine Ow.nil ?_;refine⟨fun b V=>qI (by simp only[Vw,WI,WB] at V;omega),?_⟩;refine kn ?_;obtain⟨rfl,y⟩:=I;rw[oF] at y |-;by_cases z:(dm z32 (r.name,r.id.l) m).length<=16
    .have c:decide ((dm z32 (r.name,r.id.l) m).length<=16)=true:=by simpa using z
     refine kq (aN @cD @c) ?_
     try with_reducible refine Ow.nil ?_
     refine Cw.qe2 [(A, iU vt vl),(bm,x)] (by exact⟨f,d,h,trivial⟩) (by intro p a;simp only[Vw,WI,WB] at a |-;all_goals (first| (rcases a with rfl|a<;>simp_all) | (subst a;simp) |simp_all)) (by simp[keys]<;>omega) ?_;refine ky @cD ?_;refine Vo.mk ⟨g+1,dm z32 (r.name,r.id.l) m,x⟩ (by simp only;omega) ⟨q,?_,y⟩ rfl rfl;rw[pU i,u,e,XA,c,Vb rfl]
    have c:decide ((dm z32 (r.name,r.id.l) m).length<=16)=false:=by simpa using z
    refine kq (aN @cD @c) ?_
    try with_reducible refine Ow.nil ?_
    refine ky @cD ?_;refine⟨_,(ke @cD),?_⟩;exact XO.tab (by rw[pU i,e,c,Bool.and_false];rfl) q ⟨f,d,h,trivial⟩
   have L:decide ((0:Int)< (g:Int))=true:=by simp;omega
   have Z:aF (some (false,1)) (some (.cells a1 E1 f1)) (X+ (g - 1)*33)=some (vs (t.getD (g - 1) ar).name):=D.cell (j:=0) (n:=1) (show g - 1<t.length by omega) oM;have za:ez (.sl (true,33)) vt (some ((g:Int) - 1))=some (vp W (X+ (g - 1)*33)):=by have:=D.idx true (g - 1) oM;rw[show((g - 1:Nat):Int)=(g:Int) - 1 by omega] at this;exact this
   have zn:=jB t (g - 1) (show g - 1<t.length by omega);have zo:(g==0)=false:=by simpa using U
   have u:dI bG z32 (Xn t) g=Ys (t.getD (g - 1) ar).name r.name:=by unfold dI;rw[e,zn];simp only[E,C,zo,XW,W6,XA]
   cases M:Op.bytesLess (t.getD (g - 1) ar).name r.name
   .refine kq (qS5 @cD @C @L @za @R @Z @M) ?_
    try with_reducible refine Ow.nil ?_
    refine ky @cD ?_;refine⟨_,(ke @cD),?_⟩;exact XO.tab (by rw[pU i,u,show Ys (t.getD (g - 1) ar).name r.name=false from M];rfl) q ⟨f,d,h,trivial⟩
   refine kq (qS5 @cD @C @L @za @R @Z @M) ?_;refine Ow.WV ?_;refine Ow.qk1 rfl rfl call136 Wg (fun s B=>nM bm o m r s (B.has _ _ (ah _ aX)) Q) (fun v x I=>?_);refine Ow.nil ?_;refine⟨fun b V=>qI (by simp only[Vw,WI,WB] at V;omega),?_⟩;refine kn ?_;obtain⟨rfl,y⟩:=I;rw[oF] at y |-;by_cases z:(dm z32 (r.name,r.id.l) m).length<=16
   .have c:decide ((dm z32 (r.name,r.id.l) m).length<=16)=true:=by simpa using z
    refine kq (aN @cD @c) ?_
    try with_reducible refine Ow.nil ?_
    refine Cw.qe2 [(A, iU vt vl),(bm,x)] (by exact⟨f,d,h,trivial⟩) (by intro p a;simp only[Vw,WI,WB] at a |-;all_goals (first| (rcases a with rfl|a<;>simp_all) | (subst a;simp) |simp_all)) (by simp[keys]<;>omega) ?_;refine ky @cD ?_;refine Vo.mk ⟨g+1,dm z32 (r.name,r.id.l) m,x⟩ (by simp only;omega) ⟨q,?_,y⟩ rfl rfl;rw[pU i,u,e,c,Bool.and_true];exact Vb M
   have c:decide ((dm z32 (r.name,r.id.l) m).length<=16)=false:=by simpa using z
   refine kq (aN @cD @c) ?_
   try with_reducible refine Ow.nil ?_
   refine ky @cD ?_;refine⟨_,(ke @cD),?_⟩;exact XO.tab (by rw[pU i,e,c,Bool.and_false];rfl) q ⟨f,d,h,trivial⟩
  have u:dI bG z32 (Xn t) g=false:=by unfold dI;rw[e];simp only[C,YT,Bool.and_false,Xv]
  refine kq (aN @cD @C) ?_
  try with_reducible refine Ow.nil ?_
  refine ky @cD ?_;refine⟨_,(ke @cD),?_⟩;exact XO.tab (by rw[pU i,u];rfl) q ⟨f,d,h,trivial⟩
 obtain rfl:g=t.length:=by omega
 obtain⟨b2,o2,a2,E2,f2,h2⟩:=F.row;obtain⟨zC,zq,zb,-⟩:=F.take hk true;obtain⟨b3,o3,a3,E3,f3,N⟩:=zb.row;have zr:(l.take k).length=k:=by simp;omega
 have zc:=zb.len;rw[zr] at zc;refine ky (qS3 @cD K.len F.len @zq @zc) ?_;refine Cw.VU (G:=OG) [59,60,61,10,62,63,64,65,66,67,68,69,70,71,4,5,72,58] (fun g=>[(58,vi g.g)]) (fun g=>[(A, iU vt vl),(bm,g.o)]) (fun g=>g.g<=k/\et bG z32 (Xn l) m g.g=some g.m/\qa2 g.o g.m) (fun g=>k - g.g) ⟨0,m,o⟩ rfl rfl ?_ ?_
 .exact⟨aR _,rfl,Q⟩
 intro g j H;refine kv ?_;obtain⟨g,J,o⟩:=g;simp only at H |-;obtain⟨zD,O,zd⟩:=H;by_cases P:g<k
 .have zt:=N.has oM;have zE:=N.lt oM;have ze:=N.load bK oM (show g< (l.take k).length by omega);have zu:(l.take k).getD g ar=l.getD g ar:=by rw[List.getD_eq_getElem?_getD,List.getD_eq_getElem?_getD,List.getElem?_take_of_lt P]
  rw[zu] at ze;have zv:=N.idx true g oM;have zm:=(l.getD g ar).id.h;have T:=zg g oM;have e:=jB l g oM;generalize hr:l.getD g ar=r at*;refine kz [13] (qS2 @cD @zv @zt @ze) ?_;refine Ow.alloc rfl rfl eR fun Y S h=>?_;simp only[ag,Vy,Wp];obtain⟨zk,zl,-⟩:=S;refine ko @cD ?_;refine ky @cD ?_;refine Ow.Vc rfl call99 (fun s B=>Tq r.name s T) ?_;cases E:bG r.name
  .refine ko @cD ?_
   try with_reducible refine Ow.nil ?_
   refine ky @cD ?_;refine⟨_,(ke @cD),?_⟩;exact XO.log i (by rw[E4 O,e];simp only[E,Xv,VW,↓reduceIte]) P ⟨f,d,h,trivial⟩
  refine ko @cD ?_;refine Ow.qk1 rfl rfl call136 Wg (fun s B=>nM bm o J r s (B.has _ _ (ah _ aX)) zd) (fun v x I=>?_);refine kn ?_;obtain⟨rfl,y⟩:=I;rw[oF] at y |-;by_cases z:(dm z32 (r.name,r.id.l) J).length<=16
  .have c:decide ((dm z32 (r.name,r.id.l) J).length<=16)=true:=by simpa using z
   refine ko (aN @cD @c) ?_
   try with_reducible refine Ow.nil ?_
   refine Cw.qe2 [(A, iU vt vl),(bm,x)] (by exact⟨f,d,h,trivial⟩) (by intro p a;simp only[Vw,WI,WB] at a |-;all_goals (first| (rcases a with rfl|a<;>simp_all) | (subst a;simp) |simp_all)) (by simp[keys]<;>omega) ?_;refine ky @cD ?_;refine Vo.mk ⟨g+1,dm z32 (r.name,r.id.l) J,x⟩ (by simp only;omega) ⟨P,?_,y⟩ rfl rfl;rw[E4 O,e];simp only[E,c,Bool.and_true,↓reduceIte]
  have c:decide ((dm z32 (r.name,r.id.l) J).length<=16)=false:=by simpa using z
  refine ko (aN @cD @c) ?_
  try with_reducible refine Ow.nil ?_
  refine ky @cD ?_;refine⟨_,(ke @cD),?_⟩;exact XO.log i (by rw[E4 O,e];simp only[c,Bool.and_false,VW,↓reduceIte]) P ⟨f,d,h,trivial⟩
 obtain rfl:g=k:=by omega
 refine kz [1000014] (aN @cD F.len) ?_;refine Cw.seq ?_;refine Cw.Vu [A] [0,1,5,2,3,4,6] [] kR kR kR ?_;refine WQ ?_;refine kq (aN @cD F.len) ?_
 try with_reducible refine Ow.nil ?_
 refine Cw.qe2 [(bm,o)] (by exact⟨f,d,trivial⟩) (by intro p a;simp only[Vw,WI,WB] at a |-;all_goals (first| (rcases a with rfl|a<;>simp_all) | (subst a;simp) |simp_all)) (by simp[keys]<;>omega) ?_;refine ky @cD ?_;refine⟨_,(ke @cD),?_⟩;unfold XO ofM;rw[ew,i,Yn,O];exact⟨bm,o,Wc (fun b=>Value.tuple #[vm bm,.bool b]) (decide_eq_decide.2 oM),rfl,zd,d⟩
def eK:=aN (aN (qS1 @bA @gd @iG) (aN (aN @iF @b9) (aN @kZ @kg))) (aN (aN (aN @eI @i5) (aN @ma @mY)) (aN (aN @mX @k8) (aN @Wk @Wl)))
def d_(a b:hU)(E:h7):aF (some (true,2)) (some (.cells #[a,b] E (0,0))) 0=some (.agg #[a,b]):=jN _ E (0,0) 2 rfl
def dX(l:List Vk):Prop:= ∀g,g<l.length->(l.getD g ar).name.length<1099511627776
def qM(vt vl:hU)(t l:List Vk)(w:hW)(i:cj w vt t)(d:cj w vl l)(j:t.length<1000000)(k:l.length<1000000)(n:dX t)(p:dX l):
  Va prog 72 #[.agg #[vt,vl]] w (fun v D=>v=.bool (am t l)/\D=[]):=by
 unfold am mp;rw[ew];refine Va.Vr func72 rfl (rs:=[.tmp 2]) results72 ntmps72 ?_;refine kf ?_;refine ky @eK ?_;refine Ow.box rfl rfl fun u x c=>?_;refine Yx ?_;refine Ow.go rfl ?_;simp(disch:=first|exact dD|fail) only[↓Sx.S0,Sx.S1,fx,eK,Nat.reduceAdd,Nat.reducePow,Int.reducePow,Nat.reduceBEq,↓reduceIte,UInt8.reduceToNat,UInt16.reduceToNat,UInt32.reduceToNat,UInt64.reduceToNat,Int.reduceToNat];refine ky (qS1 @eK d.len @d_) ?_;refine Ow.qk3 rfl rfl call102 (S:=(fun B v D=>XO B t l l.length v D)) (fun q e=>nw vt vl t l l.length q (i.WO e ⟨c,trivial⟩) (d.WO e ⟨c,trivial⟩) j k (aj _) n p) (fun B v D h=>h.new) (fun B v D y f a=>?_);have r:=a.new;unfold XO at a;cases g:ofM bG z32 (Xn t) (Xn l) l.length with
 |none=>
  rw[g] at a;obtain⟨rfl,z⟩:=a;refine ko @eK ?_;refine ky @eK ?_;refine⟨_,(ke @eK),⟨c,r.mono f⟩,?_⟩
  rfl
 |some m=>rw[g] at a;obtain⟨b,o,rfl,rfl,A,s⟩:=a;refine ko @eK ?_;refine ky @eK ?_;refine⟨_,(ke @eK),⟨c,Xq f s,trivial⟩,?_⟩;simp[bS]
def uP{m:ab}{n z:No}(h:ZI m)(a:z.length=32):(ZD n z m).length=32:=by
 unfold ZD;cases b:m.find? fun p=>n==p.1 with
 |none=>exact a
 |some p=>exact h p (List.mem_of_find?_eq_some b)
def lA(l:List Vk):∀g,g< (Xn l).length->((Xn l).getD g zp).2.length=32:=by intro g a;rw[ew] at a;rw[jB l g a];exact(l.getD g ar).id.h
def fI(t l:List Vk)(n:No):No:=
 match ofM bG z32 (Xn t) (Xn l) l.length with
 |some m=>if l.length<=100 then ZD n z32 m else z32
 |none=>z32
def Jb(vt vl:hU)(t l:List Vk)(n:No)(w:hW)(r:cj w vt t)(j:cj w vl l)(s:t.length<1000000)(u:l.length<1000000)(y:dX t)(z:dX l):
  Va prog 48 #[.agg #[vt,vl],vs n] w (fun v D=>v=.agg (a8 (fI t l n))/\D=[]):=by
 refine Va.Vr func48 rfl (rs:=[.cell 4 38]) results48 ntmps48 ?_;refine kf ?_;refine ky @eK ?_;refine Ow.box rfl rfl fun J K c=>?_;refine Yx ?_;refine Ow.go rfl ?_;simp(disch:=first|exact dD|fail) only[↓Sx.S0,Sx.S1,fx,eK,Nat.reduceAdd,Nat.reducePow,Int.reducePow,Nat.reduceBEq,↓reduceIte,UInt8.reduceToNat,UInt16.reduceToNat,UInt32.reduceToNat,UInt64.reduceToNat,Int.reduceToNat];have f:ac prog 38=some (.agg (a8 (List.replicate 32 0))):=qc2;rw[show(List.replicate 32 (0:Vf))=z32 from rfl] at f;have A:z32.length=32:=by simp[z32]
 refine Ow.alloc rfl rfl f fun L C d=>?_;simp only[ag,Vy,Wp];obtain⟨M,-⟩:=C;refine ko @eK ?_;refine ky (qS1 @eK j.len @d_) ?_;refine Ow.qk3 rfl rfl call102 (S:=(fun B v D=>XO B t l l.length v D)) (fun E k=>nw vt vl t l l.length E (r.WO k ⟨c,d,trivial⟩) (j.WO k ⟨c,d,trivial⟩) s u (aj _) y z) (fun B v D h=>h.new) (fun B v D F p a=>?_);have G:=a.new;unfold XO at a;unfold fI;cases g:ofM bG z32 (Xn t) (Xn l) l.length with
 |none=>
  rw[g] at a;obtain⟨rfl,N⟩:=a;refine ko @eK ?_;refine ky @eK ?_;refine Ow.build (.agg (a8 z32)) rfl kR ?_;refine ko @eK ?_;refine ky @eK ?_;refine⟨_,(ke @eK),⟨c,d,G.mono p⟩,?_⟩
  rfl
 |some m=>
  rw[g] at a;obtain⟨b,o,rfl,rfl,H,I⟩:=a;obtain⟨O,P,-⟩:=F;have q:=Xq p I;by_cases e:l.length<=100
  .have i:decide (l.length<=100)=true:=by simpa using e
   refine ko @eK ?_;refine ky (aN @eK @i) ?_;refine Ow.qE4 rfl rfl underlying182 underlying9 f rfl rfl (aO (by rw[jL _ _ _ _ oM,jL _ _ _ _ oM];exact eJ _ _ _)) H ?_;have Q:=uP (n:=n) (x' (lA t) (lA l) (by rw[ew];exact aj _) g) A;refine ko @eK ?_;refine ky @eK ?_;refine⟨_,(ke @eK),⟨c,d,q,trivial⟩,?_⟩;exact Wc (fun x=>Value.agg (a8 x)) (Vb e).symm
  have i:decide (l.length<=100)=false:=by simpa using e
  refine ko @eK ?_;refine ky (aN @eK @i) ?_;refine Ow.build (.agg (a8 z32)) rfl kR ?_;refine ko @eK ?_;refine ky @eK ?_;refine⟨_,(ke @eK),⟨c,d,q,trivial⟩,?_⟩;exact Wc (fun x=>Value.agg (a8 x)) (tr e).symm
def Y7:ac prog 59=some (.agg #[Vj, Vj]):=id kR
def JC(l:No)(E:h7)(h:l.length=32):aF (some (true,32)) (some (.cells (a8 l) E (0,0))) 0=some (.agg (a8 l)):=qp l E (0,0) 32 h
def gT(p q x y:hU)(E:h7)(a:Value.oneCell' x=true)(b:Value.oneCell' y=true):aZ (some (true,2)) (some (.cells #[p,q] E (0,0))) 0 (.agg #[x,y])=some (.cells #[x,y] E (0,0)):=
 BV 2 true #[x,y] #[p,q] E ⟨rfl,rfl⟩ (by simp[a,b])
def tS(p q:hU)(E:h7):aZ (some (true,2)) (some (.cells #[p,q] E (0,0))) 0 (.agg #[Vj, Vj])=some (.cells #[Vj, Vj] E (0,0)):=gT _ _ _ _ E rfl rfl
def ZB(n:Nat)(t l:List Vk)(nm:No)(id:Xl)(v:hU)(D:aA):Prop:=
 if am t l=true/\bG nm=true then
  (if am t (l++[⟨nm,id⟩])=true then∃vt vl,v=.tuple #[.agg #[vt,vl],vs (bh (bq ⟨nm,id⟩)),vi 0]/\Yq D 114 33 vt t.length (t.map aI).flatten/\Yq D 114 33 vl (l.length+1) ((l++[(⟨nm,id⟩:Vk)]).map aI).flatten
  else v=.tuple #[.agg #[Vj, Vj],vs [],vi 18])
 else v=.tuple #[.agg #[Vj, Vj],vs [],vi 1]
def ZB.arg{n:Nat}{t l:List Vk}{nm:No}{id:Xl}{D:aA}(h:¬ (am t l=true/\bG nm=true)):ZB n t l nm id (.tuple #[.agg #[Vj, Vj],vs [],vi 1]) D:=by unfold ZB;rw[tr h]
def ZB.full{n:Nat}{t l:List Vk}{nm:No}{id:Xl}{D:aA}(h:am t l=true/\bG nm=true)(a:am t (l++[(⟨nm,id⟩:Vk)])=false):ZB n t l nm id (.tuple #[.agg #[Vj, Vj],vs [],vi 18]) D:=by unfold ZB;rw[Vb h,tr (by rw[a];simp)]
def ZB.ok{n:Nat}{t l:List Vk}{nm:No}{id:Xl}{D:aA}{vt vl:hU}(h:am t l=true/\bG nm=true)(a:am t (l++[(⟨nm,id⟩:Vk)])=true)(b:Yq D 114 33 vt t.length (t.map aI).flatten)(c:Yq D 114 33 vl (l.length+1) ((l++[(⟨nm,id⟩:Vk)]).map aI).flatten):
  ZB n t l nm id (.tuple #[.agg #[vt,vl],vs (bh (bq ⟨nm,id⟩)),vi 0]) D:=by
 unfold ZB;rw[Vb h,Vb a];exact⟨vt,vl,rfl,b,c⟩
def n9(x y:hU)(a:x.cells=#[x])(b:y.cells=#[y]):cL (bP prog 59) (ac prog 59) [(0,x),(1,y)]=some (.agg #[x,y]):=by have c:bP prog 59=some [(0,1),(1,1)]:=id kR;rw[c,Y7];simp[cL,Sx.YR,a,b,cU]
def ia(r:Vk):kK prog 57 1 [(0,.agg (aI r).toArray)]=some (114,(aI r).toArray):=
 fa underlying57 (id kR) eR WT (bK r)
def qg8{z:Obj}{n:Nat}{E:aA}{p:Nat->Prop}(h:E=[]\/ ∃b,E=[(b,z)]/\n<=b/\p b):Vq n E:=by
 rcases h with rfl| ⟨b,rfl,a,-⟩
 .trivial
 exact⟨a,trivial⟩
structure AG where
 D1:aA
 D2:aA
 v1:hU
 v2:hU
 b7:Nat
def aH:=aN (aN (aN (aN @bA @gd) (aN @iG @iF)) (aN (aN @b9 @kZ) (aN @kg @eI))) (aN (aN (aN @i5 @ma) (aN @mY @mX)) (aN (aN @k8 @d_) (qS1 @Wk @Wl @tS)))
def OK(vt vl:hU)(t l:List Vk)(nm:No)(id:Xl)(w:hW)(hG:Wz w)(ht:cj w vt t)(hl:cj w vl l)(zO:t.length<1000)(zP:l.length<1000)(zl:dX t)(zm:dX l)(zy:nm.length<1000000):
  Va prog 46 #[.agg #[vt,vl],vs nm,.agg (a8 id.l)] w (XS w [] (ZB w.heap.size t l nm id)):=by
 have zQ:=id.h;have zz:(1:Nat)<w.heap.size:=by obtain⟨e,f,h⟩:=hG;exact(Array.getElem?_eq_some_iff.1 h).1
 refine Va.Vs func46 rfl (rs:=[.cell 6 59,.tmp 7,.tmp 8]) results46 ntmps46 (fun p Q=>by cases Q) Wg ?_;refine kf ?_;refine kz [5] @aH ?_;refine Ow.box rfl rfl fun q zR C=>?_;refine Yx ?_;refine Ow.go rfl ?_;simp(disch:=first|exact dD|fail) only[↓Sx.S0,Sx.S1,fx,aH,Nat.reduceAdd,Nat.reducePow,Int.reducePow,Nat.reduceBEq,↓reduceIte,UInt8.reduceToNat,UInt16.reduceToNat,UInt32.reduceToNat,UInt64.reduceToNat,Int.reduceToNat];refine Ow.box rfl rfl fun N zA F=>?_;refine Yx ?_;refine Ow.go rfl ?_;simp(disch:=first|exact dD|fail) only[↓Sx.S0,Sx.S1,fx,aH,Nat.reduceAdd,Nat.reducePow,Int.reducePow,Nat.reduceBEq,↓reduceIte,UInt8.reduceToNat,UInt16.reduceToNat,UInt32.reduceToNat,UInt64.reduceToNat,Int.reduceToNat];obtain⟨zS,-⟩:=zA;refine Ow.alloc rfl rfl Y7 fun br zB H=>?_;simp only[ag,Vy,Wp];obtain⟨zT,zU,-⟩:=zB;refine ko @aH ?_;refine ky @aH ?_;refine Ow.Vc rfl call72 (fun j i=>qM vt vl t l j (ht.WO i ⟨C,F,H,trivial⟩) (hl.WO i ⟨C,F,H,trivial⟩) oM oM zl zm) ?_;cases a:am t l
 .refine ko @aH ?_;refine ky @aH ?_;refine Ow.build (.agg #[Vj, Vj]) rfl kR ?_;refine ko @aH ?_;refine ky @aH ?_;refine⟨_,(ke @aH),?_⟩;refine⟨Ext.Vt ⟨C,F,H,trivial⟩,?_⟩;exact ZB.arg (by simp[a])
 refine ko @aH ?_;refine Ow.Vc rfl call99 (fun j i=>Tq nm j oM) ?_;cases hn:bG nm
 .refine ko @aH ?_;refine ky @aH ?_;refine Ow.build (.agg #[Vj, Vj]) rfl kR ?_;refine ko @aH ?_;refine ky @aH ?_;refine⟨_,(ke @aH),?_⟩;refine⟨Ext.Vt ⟨C,F,H,trivial⟩,?_⟩;exact ZB.arg (by simp[hn])
 refine ko @aH ?_;refine ky @aH ?_;refine Ow.build _ rfl (rI nm id) ?_;refine ko @aH ?_;refine Ow.alloc rfl rfl eR fun d zC zc=>?_;simp only[ag,Vy,Wp];obtain⟨zV,zW,zX,-⟩:=zC;generalize R:(⟨nm,id⟩:Vk)=r;refine ko @aH ?_;refine ky @aH ?_;refine Cw.qk6 [q,d] [11] 10 10 59 11 _ rfl kR kR rfl kR Y7 (fun v=>?_);refine kyc ?_;refine YF.run [0,3,1,4,6] [true,true,false,true,true,false,true,false,false,false,false,false] 6 rfl v kR fun k hk=>?_;refine WQ ?_;simp(disch:=first|exact dD|fail) only[↓Sx.S0,Sx.S1,fx,aH,Nat.reduceAdd,Nat.reducePow,Int.reducePow,Nat.reduceBEq,↓reduceIte,UInt8.reduceToNat,UInt16.reduceToNat,UInt32.reduceToNat,UInt64.reduceToNat,Int.reduceToNat,Md.Ww,Md.Ww]
 (with_reducible refine hk _ _ _ ?_);clear hk k
 generalize S:[(q,iU vt vl),(N,Vm id.l),(br,iU Vj Vj),(d,Ve r)]=x;have T:Vq w.heap.size x:=by rw[<-S];exact⟨C,F,H,zc,trivial⟩
 have zY:q∈keys x:=by rw[<-S];simp[keys]
 have z:d∈keys x:=by rw[<-S];simp[keys]
 have zD:∀c,c∈keys x->c<=d:=by rw[<-S];intro c hc;simp only[keys,VY,Wr,Vw,WI,WB] at hc;omega
 have u:∀r,r∈ [q,d]->r∈keys x:=by intro r a;simp only[Vw,WI,WB] at a;rcases a with rfl|rfl<;>assumption
 refine YF.via (G:=AG) (fun g=>[Value.agg #[vt,vl],vs nm,Value.agg (a8 id.l),vp q 0,undef,vp N 0,vp br 0,vs [],vi 0,vp d 0,undef,Value.agg #[vt,vl],Value.bool true,Value.bool false,Value.bool false,vs nm,Value.bool true,Value.bool false,Value.bool false,undef,vs nm,Value.agg (a8 id.l),Value.agg (aI r).toArray,vp q 0,vt,g.v1,vp q 1,vl,g.v2,Value.agg (aI r).toArray,Xr g.b7 0 1 1,undef,undef,undef,undef,undef,undef,undef,undef,undef]) (fun g=>x++g.D1++g.D2++[(g.b7,Ve r)]) (fun g=>Vq (d+1) g.D1/\Vq (d+1) g.D2/\d<g.b7/\Gr g.D1 114 33 g.v1 t.length (t.map aI).flatten/\Gr g.D2 114 33 g.v2 l.length (l.map aI).flatten) 3 [true,true,true,true,true,true,true,true,false,false,false,false] (fun key=>?_) (fun g hg=>?_)
 .refine YF.two 2 7 _ _ v rfl rfl kR (fun E m=>?_) (fun E m=>?_)
  .have s:Vq w.heap.size E:=qg8 m;refine Ow.Wf rfl rfl call64 (fun j i=>lz vt t j (ht.WO i (T.app s)) oM) (fun B1 v1 D1 zh zd O ze=>?_);have zf:Vq (d+1) D1:=O.mono (aQ zh (by simp[aV,z]));refine Ow.nil ?_;refine⟨_,m7,fC (fun r a=>by simp[aV,u r a]),?_⟩;refine qf4 ?_;refine YF.two 5 7 _ _ v rfl rfl kR (fun E m=>?_) (fun E m=>?_)
   .have s:Vq w.heap.size E:=qg8 m;refine Ow.Wf rfl rfl call64 (fun j i=>lz vl l j (hl.WO i ((T.app (O.mono zd)).app s)) oM) (fun B2 v2 D2 U zn V W=>?_);have Y:Vq (d+1) D2:=V.mono (aQ U (by simp[aV,z]));refine Ow.nil ?_;refine⟨_,m7,fC (fun r a=>by simp[aV,u r a]),?_⟩;refine qf4 ?_;refine YF.soft 7 _ v rfl kR (fun E m=>?_);refine Ow.buildSlice (e:=114) (aI r).toArray rfl rfl (ia r) fun b7 K Z=>?_;have za:d<b7:=aQ K (by simp[aV,z]);refine Ow.nil ?_;refine⟨_,m7,fC (fun r a=>by simp[aV,u r a]),?_⟩;refine qf4 ?_;exact key ⟨D1,D2,v1,v2,b7⟩ _ _ ⟨zf,Y,za,ze,W⟩ rfl YA
   have s:Vq w.heap.size E:=qg8 m;refine Ow.buildSlice (e:=114) (aI r).toArray rfl rfl (ia r) fun b7 K Z=>?_;have za:d<b7:=aQ K (by simp[aV,z]);refine Ow.nil ?_;refine⟨_,m7,fC (fun r a=>by simp[aV,u r a]),?_⟩;refine qf4 ?_;refine YF.soft 5 _ v rfl kR (fun E m=>?_);have s:Vq w.heap.size E:=qg8 m;refine Ow.Wf rfl rfl call64 (fun j i=>lz vl l j (hl.WO i (((T.app (O.mono zd)).app (show Vq w.heap.size [(b7,Ve r)] from⟨Z,trivial⟩)).app s)) oM) (fun B2 v2 D2 U zn V W=>?_);have Y:Vq (d+1) D2:=V.mono (aQ U (by simp[aV,z]));refine Ow.nil ?_;refine⟨_,m7,fC (fun r a=>by simp[aV,u r a]),?_⟩;refine qf4 ?_;exact key ⟨D1,D2,v1,v2,b7⟩ _ _ ⟨zf,Y,za,ze,W⟩ rfl YA
  have s:Vq w.heap.size E:=qg8 m;refine Ow.buildSlice (e:=114) (aI r).toArray rfl rfl (ia r) fun b7 K Z=>?_;have za:d<b7:=aQ K (by simp[aV,z]);refine Ow.nil ?_;refine⟨_,m7,fC (fun r a=>by simp[aV,u r a]),?_⟩;refine qf4 ?_;refine YF.soft 2 _ v rfl kR (fun E m=>?_);have s:Vq w.heap.size E:=qg8 m;refine Ow.Wf rfl rfl call64 (fun j i=>lz vt t j (ht.WO i ((T.app (show Vq w.heap.size [(b7,Ve r)] from⟨Z,trivial⟩)).app s)) oM) (fun B1 v1 D1 zh zd O ze=>?_);have zf:Vq (d+1) D1:=O.mono (aQ zh (by simp[aV,z]));refine Ow.nil ?_;refine⟨_,m7,fC (fun r a=>by simp[aV,u r a]),?_⟩;refine qf4 ?_;refine YF.soft 5 _ v rfl kR (fun E m=>?_);have s:Vq w.heap.size E:=qg8 m;refine Ow.Wf rfl rfl call64 (fun j i=>lz vl l j (hl.WO i (((T.app (show Vq w.heap.size [(b7,Ve r)] from⟨Z,trivial⟩)).app (O.mono zd)).app s)) oM) (fun B2 v2 D2 U zn V W=>?_);have Y:Vq (d+1) D2:=V.mono (aQ U (by simp[aV,z]));refine Ow.nil ?_;refine⟨_,m7,fC (fun r a=>by simp[aV,u r a]),?_⟩;refine qf4 ?_;exact key ⟨D1,D2,v1,v2,b7⟩ _ _ ⟨zf,Y,za,ze,W⟩ rfl YA
 obtain⟨D1,D2,v1,v2,b7⟩:=g;obtain⟨zo,zq,K,P,zr⟩:=hg;simp only at zo zq K P zr |-;refine YF.soft 8 _ v rfl kR (fun E m=>?_);have s:=qg8 m;refine Ow.Vd (M:=D2++(x++D1++[(b7,Ve r)]++E)) YA ?_;refine Ow.XP (e:=114) (k:=1) (new:=aI r) (X:=D2) v2 rfl rfl rfl rfl underlying57 YI kR eR (by rw[eI,Wd,bK]) underlying57 (by intro k h;cases h) zr (fun j i=>W0.X6 (i.has b7 (Ve r) V_) (bK r) (gU r)) oM oM (fun B y A zE zZ zb z0 zF z1=>?_);have z2:d<B:=aQ zE (by simp[aV,z]);have zt:Vq (d+1) A:=Vq.of_le fun c hc=>by
  rcases zF c hc with h|h
  .exact zq.le c h
  omega
 have zG:∀r,r∈ [q,d]->r∉keys A:=fun r a hm=>by have:=zt.le r hm;have:=zD r (u r a);omega
 refine Ow.nil ?_;refine⟨A++(x++D1++[(b7,Ve r)]),YA,fun r a=>?_,?_⟩
 .have I:=u r a;rw[e8 (zG r a),mR (by simp[aV,I]),mR I,mR (by simp[aV,I]),mR (by simp[aV,I]),mR I]
 refine qf4 ?_;refine YF.soft 9 _ v rfl kR (fun E2 z3=>?_);refine Ow.build (.agg #[v1,y]) rfl (n9 v1 y P.cell.2 zb.cell.2) ?_;refine Ow.nil ?_;refine⟨A++(x++D1++[(b7,Ve r)]),WW _,fun _ _=>rfl,?_⟩;refine qf4 ?_;refine YF.real [11] rfl v kR kR kR kR (fun r a=>.inl (by simp[aV,u r a])) ?_;refine WQ ?_;intro J zi zg;simp only[mM,mO];refine Ow.store rfl rfl rfl (L':=(A++(x++D1++[(b7,Ve r)]))++[(J,iU v1 y)]) ?_ ?_
 .simp only[dS,cz,dL];rw[qs0,qS,DA zg,ag,gT _ _ _ _ _ P.cell.1 zb.cell.1,pp,DU zg];exact []
 subst S;refine kq @aH ?_;refine Cw.Vd (M:=[(q,iU vt vl),(N,Vm id.l),(br,iU Vj Vj),(d,Ve r),(J,iU v1 y),(b7,Ve r)]++(D1++A)) YA ?_;simp only[Wp,Vy];have zj:w.heap.size<=b7:=by omega
 have zH:=zo.mono (show w.heap.size<=d+1 by omega);have zI:=zt.mono (show w.heap.size<=d+1 by omega);have zk:=zH.app zI;have zJ:q≠J/\N≠J/\br≠J/\d≠J:=by simp only[aV,Wu,not_or] at zg;obtain⟨-,⟨I,-⟩,-⟩:=zg;simp only[keys,VY,Wr,Vw,WI,WB,not_or] at I;obtain⟨h1,h2,h3,h4⟩:=I;exact⟨Wq h1,Wq h2,Wq h3,Wq h4⟩
 obtain⟨z4,z5,z6,z7⟩:=zJ;have zK:(l.map aI).flatten++aI r=((l++[r]).map aI).flatten:=by simp
 rw[zK] at zb;have zu:Gr A 114 33 y (l.length+1) ((l++[r]).map aI).flatten:=.inl zb;have zL:r.name.length<1000000:=by rw[<-R];exact zy
 have zM:dX (l++[r]):=by
  intro g hg;by_cases zv:g<l.length
  .have:=zm g zv
   rwa [List.getD_eq_getElem?_getD,List.getElem?_append_left zv,<-List.getD_eq_getElem?_getD]
  have:g=l.length:=by simp at hg;omega
  subst this;rw[List.getD_eq_getElem?_getD,List.getElem?_append_right (aj _)];simp;omega
 refine ky (aN @aH @d_) ?_;refine Ow.Vc rfl call72 (fun j i=>qM v1 y t (l++[r]) j (P.slM (fun b o hm=>i.has b o (by simp[hm])) rfl rfl bK) (zu.slM (fun b o hm=>i.has b o (by simp[hm])) V_ rfl bK) oM (by simp;omega) zl zM) ?_;cases zw:am t (l++[r])
 .refine ko @aH ?_;refine ky @aH ?_;refine Ow.build (.agg #[Vj, Vj]) rfl kR ?_;refine ko @aH ?_;refine ky @aH ?_;refine⟨_,(ke @aH),?_⟩;refine⟨Ext.Vt ⟨C,F,H,zc,zi,zj,zk⟩,?_⟩;exact ZB.full ⟨a,hn⟩ (by rw[R];exact zw)
 refine ko @aH ?_;refine ky @aH ?_;refine Cw.WU [0,1,2,3,4,5] [3] rfl kR kR ?_;refine WQ ?_;refine kq (aN @aH @d_) ?_;refine Ow.Vc rfl call78 (fun j i=>(U_ r j (Wz.of hG i (Vq.not (L:=(q,iU vt vl)::(N,Vm id.l)::(br,iU Vj Vj)::(d,Ve r)::(J,iU v1 y)::(b7,Ve r)::(D1++A)) ⟨C,F,H,zc,zi,zj,zk⟩ zz)) zL).quiet) ?_;have zN:=gT Vj Vj v1 y 59 P.cell.1 zb.cell.1;refine Ow.store rfl rfl rfl (ke (aN @aH @zN)) ?_;refine kq @aH ?_
 try with_reducible refine Ow.nil ?_
 refine ky @aH ?_;refine⟨_,(ke @aH),?_⟩;refine⟨Ext.Vt ⟨C,F,H,zc,zi,zj,zk⟩,?_⟩;have zx:=ZB.ok (n:=w.heap.size) (D:=(q,iU vt vl)::(N,Vm id.l)::(br,iU v1 y)::(d,Ve r)::(J,iU v1 y)::(b7,Ve r)::(D1++A)) ⟨a,hn⟩ (by rw[R];exact zw) (P.i fun p Q=>by simp[Q]) (by rw[R];exact zu.i fun p Q=>by simp[Q]);rw[R] at zx;exact zx
def T3(id:Xl):∀k,k< [id].length-> ∀j,j<32->(a8 id.l)[0+k*32+j]? =(Ze ([id].getD k XY))[j]? :=by
 intro k a j b;obtain rfl:k=0:=by simpa using a
 simp only[Nat.zero_mul,Xg,List.getD_cons_zero];rw[<-qt,List.getElem?_toArray]
def qj4(r:Vk):No:=c9 r.name++r.id.l
def ZS(t:List Vk):No:=(t.map qj4).flatten
def eQ(t:List Vk):No:=[72]++co (cb t.length)++ZS t
def qa5(l:List Vk):No:=(l.map fun r=>bh (bq r)).flatten
def bL(t l:List Vk):No:=bh (eQ t)++qa5 l
def WZ(l:List Vk):Prop:= ∀g,g<l.length->(l.getD g ar).name.length<1000
def WZ.short{l:List Vk}(h:WZ l):dX l:=fun g a=>Nat.lt_trans (h g a) oM
def vL{r:Vk}(h:r.name.length<1000):(qj4 r).length<1100:=by have:=eL (r.name.length:Int);have:=r.id.h;simp only[qj4,c9,VV];omega
def uv(t:List Vk)(g:Nat)(h:g<t.length):t.take (g+1)=t.take g++[t.getD g ar]:=by rw[List.take_add_one,List.getElem?_eq_getElem h,List.getD_eq_getElem?_getD,List.getElem?_eq_getElem h];rfl
def EO(t:List Vk)(g:Nat)(h:g<t.length):ZS (t.take (g+1))=ZS (t.take g)++qj4 (t.getD g ar):=by unfold ZS;rw[uv t g h,We,Yu];simp only[VY,Wr,Ya,List.flatten_nil,VX]
def EG(t:List Vk)(g:Nat)(h:g<t.length):qa5 (t.take (g+1))=qa5 (t.take g)++bh (bq (t.getD g ar)):=by unfold qa5;rw[uv t g h,We,Yu];simp only[VY,Wr,Ya,List.flatten_nil,VX]
theorem qA{t:List Vk}(h:WZ t):∀g,g<=t.length->(ZS (t.take g)).length<=g*1100
 |0,_=>by simp[ZS]
 |g+1,a=>by rw[EO t g a,VV];have:=qA h g oM;have:=vL (h g a);omega
def nZ{r:Vk}(h:r.name.length<1000):(bh (bq r)).length<1200:=by have c:=eL (r.name.length:Int);have d:=r.id.h;have a:=eL ((dx (bq r)).length:Int);have b:=mU (bq r);simp only[bh,c9,VV] at a |-;rw[b] at a |-;simp only[bq,c9,VV,Wt,W7] at a |-;omega
theorem CD{t:List Vk}(h:WZ t):∀g,g<=t.length->(qa5 (t.take g)).length<=g*1200
 |0,_=>by simp[qa5]
 |g+1,a=>by rw[EG t g a,VV];have:=CD h g oM;have:=nZ (h g a);omega
def pr{w0:hW}{L X D:aA}(a:qf5 w0 L X D){b:Nat}(c:b∈keys L)(d:b∉keys X):b∉keys D:=fun e=>by
 rcases a.new b e with h| ⟨h,-⟩
 .exact d h
 exact Xk _ (aQ h c)
def ad:=aN (aN (aN (aN @bA @gd) (aN @iG @iF)) (aN (aN @b9 @kZ) (aN @kg @eI))) (aN (aN (aN @i5 @ma) (aN @mY @mX)) (aN (aN @k8 @d_) (aN @Wk @Wl)))
def sN(vt vl:hU)(t l:List Vk)(w:hW)(Q:Wz w)(E:cj w vt t)(R:cj w vl l)(S:t.length<1000)(ya:l.length<1000)(F:WZ t)(H:WZ l):
  Va prog 39 #[.agg #[vt,vl]] w (fun v D=>v=(if am t l=true then .tuple #[vs (bL t l),vi 0] else .tuple #[vs [],vi 1])/\D=[]):=by
 have T:(1:Nat)<w.heap.size:=by obtain⟨e,f,h⟩:=Q;exact(Array.getElem?_eq_some_iff.1 h).1
 refine Va.Vr func39 rfl (rs:=[.tmp 2,.tmp 3]) results39 ntmps39 ?_;refine kf ?_;refine ky @ad ?_;refine Ow.box rfl rfl fun a yb u=>?_;refine Yx ?_;refine Ow.go rfl ?_;simp(disch:=first|exact dD|fail) only[↓Sx.S0,Sx.S1,fx,ad,Nat.reduceAdd,Nat.reducePow,Int.reducePow,Nat.reduceBEq,↓reduceIte,UInt8.reduceToNat,UInt16.reduceToNat,UInt32.reduceToNat,UInt64.reduceToNat,Int.reduceToNat];refine ky (aN @ad @d_) ?_;refine Ow.Vc rfl call72 (fun i d=>qM vt vl t l i (E.WO d ⟨u,trivial⟩) (R.WO d ⟨u,trivial⟩) oM oM F.short H.short) ?_;cases hr:am t l
 .refine ko @ad ?_;refine ky @ad ?_;refine⟨_,(ke @ad),⟨u,trivial⟩,?_⟩
  rfl
 refine ko @ad ?_;refine ky @ad ?_;refine Ow.alloc rfl rfl qr3 fun k zt zu=>?_;obtain⟨yc,-⟩:=zt;refine ko @ad ?_;refine Ow.Vd (M:=[(k, Wi (.pointer none) Vj)]++[(a, iU vt vl)]) YA ?_;rw[Wp,Vy];have hZ:WC k [] [(k, Wi (.pointer none) Vj)]:=WC.zero k (eJ _ _ _);refine ky @ad ?_;refine Ow.buildSlice (e:=9) #[vs [72]] rfl rfl kR fun q zv zw=>?_;obtain⟨yd,ye,-⟩:=zv;refine ko @ad ?_;refine Ow.Wa (Y:=[(a, iU vt vl),(q, VS (vs [72]))]) V_ rfl rfl call73 (fun i d n p=>CW k [(k, Wi (.pointer none) Vj)] [] _ q 0 [[72]] _ _ _ i hZ n p (Zb.lit [[72]] rfl rfl (d.has _ _ (ah _ (ah _ aX)))) (fun _ c=>by simp[keys] at c;omega) V_ V_) (fun v6 D6 zc zx=>?_);obtain⟨rfl,zd⟩:=zx;simp only[Ya,List.flatten_nil,VX,Vy] at zd;have U:a∉keys D6:=pr zc Wg (by simp[keys];omega);have zy:Vq w.heap.size D6:=fd zc ⟨zu,trivial⟩;have zz:aG w (D6++[(a, iU vt vl),(q, VS (vs [72]))]) a=some (iU vt vl):=aO (by rw[cu U];exact eJ _ _ _);refine ko @ad ?_;refine ky (aN @ad (aN @zz (E.len))) ?_;refine Ow.buildSlice (e:=3) #[vi t.length] rfl rfl kR fun b7 ze zA=>?_;refine ko @ad ?_;refine Ow.Wa (Y:=[(a, iU vt vl),(q, VS (vs [72])),(b7, Xu (vi t.length))]) V_ rfl rfl call74 (fun i d n p=>U2 k D6 _ _ b7 0 [(t.length:Int)] _ _ _ i zd n p (qh3.lit [(t.length:Int)] rfl rfl (d.has _ _ (cJ _ aX))) (fun _ c=>Xk _ (aQ ze (by rw[aV];exact aq _ c))) V_) (fun v8 z zf zB=>?_);obtain⟨rfl,zg⟩:=zB;rw[tn] at zg;have yf:a<b7:=aQ ze (by simp[aV,keys]);have zh:a∉keys z:=pr zf (by simp[aV,keys]) U;have zC:Vq w.heap.size z:=fd zf zy;have zD:aG w (z++[(a, iU vt vl),(q, VS (vs [72])),(b7, Xu (vi t.length))]) a=some (iU vt vl):=aO (by rw[cu zh];exact eJ _ _ _);refine ko @ad ?_;refine ky (aN @ad (aN @zD (E.len))) ?_;refine Cw.Vd (M:=(z++[(q, VS (vs [72])),(b7, Xu (vi t.length))])++[(a, iU vt vl)]) YA ?_;obtain⟨b1,o1,a1,E1,f1,I⟩:=E.row;refine Cw.VU (G:=WG) [24,25,26,6,27,28,29,30,31,32,33,34,35,23] (fun g=>[(23,vi g.g)]) (fun g=>g.D++[(a, iU vt vl)]) (fun g=>g.g<=t.length/\Vq w.heap.size g.D/\a∉keys g.D/\WC k ([72]++co (cb t.length)++ZS (t.take g.g)) g.D) (fun g=>t.length - g.g) ⟨0,z++[(q, VS (vs [72])),(b7, Xu (vi t.length))]⟩ rfl rfl ?_ ?_
 .exact⟨aR _,zC.app ⟨zw,zA,trivial⟩,by intro c;rw[aV] at c;exact(Wu.1 c).elim zh (fun h=>by simp[keys] at h;omega),by simpa [ZS] using WC.app zg⟩
 intro g j A;refine kv ?_;obtain⟨g,D⟩:=g;simp only at A |-;obtain⟨V,m,zi,W⟩:=A;by_cases s:g<t.length
 .have zE:=I.has oM;have zF:=I.lt oM;have zG:=I.load bK oM s;have zH:Vq w.heap.size (D++[(a, iU vt vl)]):=m.app ⟨u,trivial⟩;have zI:aG w (D++[(a, iU vt vl)]) b1=some (.cells a1 E1 f1):=by rw[dr (zH.not zF)];exact zE
  have zj:=F g s;have X:=EO t g s;have S:=qA F g V;generalize zJ:t.getD g ar=r at*;refine kz [11] (qS2 @ad I.idx @zI @zG) ?_;refine Ow.alloc rfl rfl eR fun b6 J zK=>?_;simp only[ag,Vy,Wp];have U:a<b6:=aQ J (by simp[aV,keys]);have Z:∀o,Sx.look (D++[(a,iU vt vl)]++[(b6,o)]) b6=some o:=fun o=>fX J;have zk:∀o x,Vh (D++[(a,iU vt vl)]++[(b6,o)]) b6 x=D++[(a,iU vt vl)]++[(b6,x)]:=fun o x=>nA J;have zL:∀o,aG w (D++[(a,iU vt vl)]++[(b6,o)]) b6=some o:=fun o=>aO (Z o);refine ko (qS2 @ad @Z @zk @dq) ?_;refine ky (qS3 @ad @Z @zk @zL @dq) ?_;refine Ow.buildSlice (e:=9) #[vs r.name] rfl rfl kR fun b B K=>?_;have H:=eL (r.name.length:Int);have zl:gY [r.name]=c9 r.name:=by simp[gY]
  have yg:(c9 r.name).length=(co (cb r.name.length)).length+r.name.length:=by unfold c9;rw[VV]
  have zM:=eL (t.length:Int);rw[Wb,Wb];simp only[Wp,Vy];refine ko @ad ?_;refine Ow.Wa (Y:=[(a,iU vt vl),(b6, Ve r),(b, VS (vs r.name))]) V_ rfl rfl call75 (fun i d n p=>DO k D _ _ b 0 [r.name] _ _ _ i W n p (Zb.lit [r.name] rfl rfl (d.has _ _ (cJ _ (ah _ (ah _ aX))))) (fun _ c=>Xk _ (aQ B (by simp[aV,c]))) (by rw[zl];simp only[VV,Wt,W7];omega) V_) (fun yh C za zN=>?_);obtain⟨rfl,zm⟩:=zN;rw[zl] at zm;have zO:a∉keys C:=pr za (by simp[aV,keys]) zi;have zP:b6∉keys C:=pr za (by simp[aV,keys]) (fun c=>Xk _ (aQ J (by simp[aV,c])));have zQ:Vq w.heap.size C:=fd za m;have zR:aG w (C++[(a,iU vt vl),(b6, Ve r),(b, VS (vs r.name))]) b6=some (Ve r):=aO (by rw[cu zP,jL _ _ _ _ oM];exact eJ _ _ _);refine ko @ad ?_;refine ky (aN @ad @zR) ?_;refine Ow.buildSlice (e:=38) (a8 r.id.l) rfl rfl (w7 r.id) fun y zn zS=>?_;have yi:=nP [r.id];have yj:=r.id.h;have zT:qc7 [r.id]=r.id.l:=by simp[qc7]
  have yk:a<b:=aQ B (by simp[aV,keys]);have yl:a<y:=aQ zn (by simp[aV,keys]);rw[Wb];simp only[Wp,Vy];refine ko @ad ?_;refine Ow.Wa (Y:=[(a,iU vt vl),(b6, Ve r),(b, VS (vs r.name)),(y, Vm r.id.l)]) V_ rfl rfl call76 (fun i d n p=>uS k C _ _ y 0 [r.id] _ _ _ i zm n p (WL.sl rfl (d.has y (Vm r.id.l) (cJ _ (ah _ (ah _ (ah _ aX))))) (T3 r.id)) (fun _ c=>Xk _ (aQ zn (by simp[aV,c]))) (by simp only[VV,Wt,W7];omega)) (fun ym N zo zU=>?_);obtain⟨rfl,zb⟩:=zU;rw[zT] at zb;have zV:a∉keys N:=pr zo (by simp[aV,keys]) zO;have zW:Vq w.heap.size N:=fd zo zQ;refine ko @ad ?_
  try with_reducible refine Ow.nil ?_
  refine Cw.Vd (M:=(N++[(b6, Ve r),(b, VS (vs r.name)),(y, Vm r.id.l)])++[(a, iU vt vl)]) YA ?_;refine ky @ad ?_;refine Vo.mk (WG.mk (g+1) (N++[(b6, Ve r),(b, VS (vs r.name)),(y, Vm r.id.l)])) (by show t.length - (g+1)<t.length - g;omega) ⟨by show g+1<=t.length;omega,zW.app ⟨zK,K,zS,trivial⟩,?_,?_⟩ rfl rfl
  .intro c;rw[aV] at c;exact(Wu.1 c).elim zV (fun h=>by simp[keys] at h;omega)
  show WC k ([72]++co (cb t.length)++ZS (t.take (g+1))) _;rw[X,qj4];simp only[Wb] at zb |-;exact WC.app zb
 obtain rfl:g=t.length:=by omega
 have S:=qA F t.length (aj _);rw[WH] at S W;have zM:=eL (t.length:Int);refine ky @ad ?_;refine Ow.Wa (Y:=[(a,iU vt vl)]) V_ rfl rfl call77 (fun i d n p=>Ua k D _ i (Wz.of Q d (Vq.not (L:=D++[(a,iU vt vl)]) (m.app ⟨u,trivial⟩) T)) (m.not T) W n p (by simp only[VV,Wt,W7];omega)) (fun zX O zq zY=>?_);have zZ:zX=vs (bh (eQ t)):=zY;subst zZ;have yn:(bh (eQ t)).length<1200000:=by have h3:=eL ((dx (eQ t)).length:Int);have h4:=mU (eQ t);simp only[bh,c9,VV];rw[h4] at h3 |-;simp only[eQ,VV,Wt,W7] at h3 |-;omega
 have yo:∀x,bh (eQ t)++x=bh (eQ t)++x:=fun _=>rfl;generalize z0:bh (eQ t)=hd at*;have z1:a∉keys O:=pr zq (by simp[aV,keys]) zi;have z2:Vq w.heap.size O:=fd zq m;have z3:aG w (O++[(a, iU vt vl)]) a=some (iU vt vl):=aO (by rw[cu z1];exact eJ _ _ _);refine ko @ad ?_;refine ky (aN @ad (aN @z3 (R.len))) ?_;obtain⟨b2,o2,a2,E2,f2,P⟩:=R.row;rw[show hd=hd++qa5 (l.take 0) by simp[qa5]];refine Cw.VU (G:=WG) [41,42,43,9,44,45,46,47,7,48,40] (fun g=>[(40,vi g.g),(7,vs (hd++qa5 (l.take g.g)))]) (fun g=>g.D) (fun g=>g.g<=l.length/\Vq w.heap.size g.D) (fun g=>l.length - g.g) ⟨0,O++[(a, iU vt vl)]⟩ rfl rfl ?_ ?_
 .exact⟨aR _,z2.app ⟨u,trivial⟩⟩
 intro g j A;refine kv ?_;obtain⟨g,D⟩:=g;simp only at A |-;obtain⟨V,m⟩:=A;have yp:=CD H g V;by_cases s:g<l.length
 .have z4:=P.has oM;have z5:=P.lt oM;have z6:=P.load bK oM s;have z7:aG w D b2=some (.cells a2 E2 f2):=by rw[dr (m.not z5)];exact z4
  have zj:=H g s;have X:=EG l g s;have yq:=nZ zj;generalize zJ:l.getD g ar=r at*;refine kz [17] (qS2 @ad P.idx @z7 @z6) ?_;refine Ow.alloc rfl rfl eR fun b B K=>?_;simp only[ag,Vy,Wp];have zr:∀o,Sx.look (D++[(b,o)]) b=some o:=fun o=>fX B;have z8:∀o x,Vh (D++[(b,o)]) b x=D++[(b,x)]:=fun o x=>nA B;have z9:∀o,aG w (D++[(b,o)]) b=some o:=fun o=>aO (zr o);refine ko (qS2 @ad @zr @z8 @dq) ?_;refine ky (aN @ad @z9) ?_;refine Ow.Vc rfl call78 (fun i d=>(U_ r i (Wz.of Q d (Vq.not (L:=D++[(b,Ve r)]) (m.app ⟨K,trivial⟩) T)) oM).quiet) ?_;refine ko @ad ?_;refine ky @ad ?_;refine Vo.mk (WG.mk (g+1) (D++[(b,Ve r)])) (by show l.length - (g+1)<l.length - g;omega) ⟨by show g+1<=l.length;omega,m.app ⟨K,trivial⟩⟩ rfl ?_;rw[X,<-Wb]
  rfl
 obtain rfl:g=l.length:=by omega
 refine ky @ad ?_;refine⟨_,(ke @ad),m,?_⟩
 (rw[WH];simp only[bL,z0,↓reduceIte];rfl)
def OJ(w:hW):Va prog 85 #[.pointer none] w (fun v D=>v=vi 3/\D=[]):=by
 refine Va.Vr func85 rfl (rs:=[.tmp 2]) results85 ntmps85 ?_;refine kf ?_;refine ky @aH ?_;refine Ow.Vc rfl call129 (fun a b=>vR a) ?_;refine ko @aH ?_;refine ky @aH ?_;refine⟨_,(ke @aH),trivial,?_⟩
 rfl
def Gf(m:Int)(w:hW):Va prog 83 #[.pointer none,vi m] w (fun v D=>v=vi 0/\D=[]):=by
 refine Va.Vr func83 rfl (rs:=[.tmp 4]) results83 ntmps83 ?_;refine kf ?_;refine ky @aH ?_;refine Cw.qq4 ?_;refine ky @aH ?_;refine Ow.Vc rfl call129 (fun a b=>vR a) ?_;refine ko @aH ?_;refine ky @aH ?_;refine⟨_,(ke @aH),trivial,?_⟩
 rfl
def Cm{s:No}{a:Nat}{e:Int}(b:s.length<1099511627776):(eT s a e).1.name.length<1099511627776:=qh (e:=e) (most:=32) b
theorem DK{s:No}{a:Nat}{e:Int}(b:s.length<1099511627776):∀g,dX (ai s a e g).1
 |0=>fun g d=>by simp[ai] at d
 |g+1=>by
  intro i f;rw[pZ] at f;unfold ai;simp only;by_cases c:i<g
  .rw[List.getD_eq_getElem?_getD,List.getElem?_append_left (by rw[pZ];exact c),<-List.getD_eq_getElem?_getD];exact DK b g i (by rw[pZ];exact c)
  have:i=(ai s a e g).1.length:=by rw[pZ];omega
  subst this;rw[List.getD_eq_getElem?_getD,List.getElem?_append_right (aj _)];simp only[Nat.sub_self,List.getElem?_cons_zero,Option.getD_some];exact Cm b
def lJ(s:No)(v:hU)(D:aA):Prop:=
 match fm s with
 |some (tb,log,at_)=> ∃vt vl,v=.tuple #[.agg #[vt,vl],vi at_,vi 0]/\Yq D 114 33 vt tb.length (tb.map aI).flatten/\Yq D 114 33 vl log.length (log.map aI).flatten
 |none=>v=.tuple #[.agg #[Vj, Vj],vi 0,vi 2]
def rl(b:Nat)(s:No)(a:Nat)(e:Int)(w:hW)(c:w.heap[b]? =some (Vg (vs s) (vi a) (vi e))):
  Va prog 85 #[vp b 0] w (fun v D=>v=vi (Zc s a e)/\D=[]):=K2 b s a e w c
def rW{l:List Vk}{r:Vk}(h:dX l)(b:r.name.length<1099511627776):dX (l++[r]):=by
 intro g c;by_cases a:g<l.length
 .have:=h g a
  rwa [List.getD_eq_getElem?_getD,List.getElem?_append_left a,<-List.getD_eq_getElem?_getD]
 have:g=l.length:=by simp at c;omega
 subst this;rw[List.getD_eq_getElem?_getD,List.getElem?_append_right (aj _)];simpa using b
def Ca{s:No}(h:(bw s 0 0 [72]).1=none):fm s=none:=by
 unfold fm j3;generalize bw s 0 0 [72]=p at h |-;obtain⟨o,a⟩:=p;simp only at h;subst h
 rfl
def tG{s c:No}(h:(bw s 0 0 [72]).1=some c):
  j3 s=if Zc c (ai c (aE c 0 0 16).2.1 (aE c 0 0 16).2.2 (aE c 0 0 16).1.toNat).2.1 (ai c (aE c 0 0 16).2.1 (aE c 0 0 16).2.2 (aE c 0 0 16).1.toNat).2.2=0/\am (ai c (aE c 0 0 16).2.1 (aE c 0 0 16).2.2 (aE c 0 0 16).1.toNat).1 []=true then some ((ai c (aE c 0 0 16).2.1 (aE c 0 0 16).2.2 (aE c 0 0 16).1.toNat).1,(bw s 0 0 [72]).2.1) else none:=by
 unfold j3;generalize bw s 0 0 [72]=p at h |-;obtain⟨o,a,e⟩:=p;simp only at h;subst h
 rfl
def l4{s:No}(h:j3 s=none):fm s=none:=by unfold fm;rw[h];rfl
def AU{s:No}{a:Nat}{e:Int}{p:No}(b:a<=s.length):a<= (bw s a e p).2.1/\(bw s a e p).2.1<=s.length:=gA b
def BW{s:No}{tb log:List Vk}{at_:Nat}(h:(bw s at_ 0 [69]).1=none):gI s tb log at_=none:=by
 unfold gI;generalize bw s at_ 0 [69]=p at h |-;obtain⟨o,a⟩:=p;simp only at h;subst h
 rfl
def td{s:No}{tb log:List Vk}{at_:Nat}{c:No}(h:(bw s at_ 0 [69]).1=some c):
  gI s tb log at_=if Zc c (eT c 0 0).2.1 (eT c 0 0).2.2=0/\am tb (log++[(eT c 0 0).1])=true then some (log++[(eT c 0 0).1],(bw s at_ 0 [69]).2.1) else none:=by
 unfold gI;generalize bw s at_ 0 [69]=p at h |-;obtain⟨o,a,e⟩:=p;simp only at h;subst h
 rfl
def Du{s:No}{tb log:List Vk}{at_ a:Nat}(b:j3 s=some (tb,a))(c:∀k,101<=k+log.length->eo s tb k log at_=eo s tb 101 [] a)(d:gI s tb log at_=none):fm s=some (tb,log,at_):=by unfold fm;rw[b,Ws,<-c 101 oM];unfold eo;rw[d]
structure RG where
 lab:Nat
 br:Nat
 b6:Nat
 b7:Nat
 vt:hU
 vl:hU
 x:hU
 y:hU
 tb:List Vk
 log:List Vk
 at_:Nat
 D:aA
structure HG where
 g:Nat
 vt:hU
 D:aA
def bkO(x y:hU):Obj:= iU x y
def rdO(s:No)(a e:Int):Obj:= Vg (vs s) (vi a) (vi e)
def nlV:hU:= Vj
def RJ(s:No)(n b2:Nat)(g:RG):Prop:=
 (g.lab=1/\n<=g.br/\n<=g.b6/\n<=g.b7/\b2≠g.br/\b2≠g.b6/\b2≠g.b7/\g.br≠g.b6/\g.br≠g.b7/\g.b6≠g.b7/\Vq n g.D/\
  Yq g.D 114 33 g.vt g.tb.length (g.tb.map aI).flatten/\Yq g.D 114 33 g.vl g.log.length (g.log.map aI).flatten/\
  Value.oneCell' g.x=true/\Value.oneCell' g.y=true/\dX g.tb/\dX g.log/\g.tb.length<1000/\g.log.length<=100/\g.at_<=s.length/\
  ∃a,j3 s=some (g.tb,a)/\ ∀k,101<=k+g.log.length->eo s g.tb k g.log g.at_=eo s g.tb 101 [] a)\/
 (g.lab=2/\n<=g.b6/\b2≠g.b6/\Vq n g.D/\
  Yq g.D 114 33 g.vt g.tb.length (g.tb.map aI).flatten/\Yq g.D 114 33 g.vl g.log.length (g.log.map aI).flatten/\fm s=some (g.tb,g.log,g.at_))\/
 (g.lab=0/\Vq n g.D/\fm s=none)
def RH(s:No)(b2:Nat)(g:RG):aA:=
 match g.lab with
 |1=>(b2,bkO nlV nlV)::(g.br,rdO s g.at_ 0)::(g.b6,bkO g.vt g.vl)::(g.b7,bkO g.x g.y)::g.D
 |2=>(b2,bkO nlV nlV)::(g.b6,bkO g.vt g.vl)::g.D
 |_=>(b2,bkO nlV nlV)::g.D
def RSl(g:RG):List (Nat×hU):=
 match g.lab with
 |1=>[(5,vp g.br 0),(6,vp g.b6 0),(7,vp g.b7 0)]
 |2=>[(6,vp g.b6 0),(8,vi g.at_)]
 |_=>[]
def RL(g:RG):Nat:=
 match g.lab with
 |1=>1
 |2=>2
 |_=>0
def d9{D:aA}{E:h7}{m n:Nat}{v:hU}{cs:List hU}(h:Yq D E m v n cs):Value.oneCell' v=true/\v.cells=#[v]:=by obtain⟨X,-,h⟩:=h;exact h.cell
def He(s:No)(w:hW)(hG:Wz w)(hs:s.length<1000000):
  Va prog 41 #[vs s] w (XS w [] (lJ s)):=by
 have zy:(1:Nat)<w.heap.size:=by obtain⟨e,f,h⟩:=hG;exact(Array.getElem?_eq_some_iff.1 h).1
 refine Va.Vs func41 rfl (rs:=[.cell 2 59,.tmp 3,.tmp 4]) results41 ntmps41 (fun p n=>by cases n) Wg ?_;refine kf ?_;refine ky @aH ?_;refine Ow.alloc rfl rfl Y7 fun q yk ze=>?_;simp only[ag,Vy,Wp];refine ko @aH ?_;refine ky @aH ?_;refine Cw.qj6 (G:=RG) (fun g=>RL g) [10,11,5,6,7,8,12,13,9,14,15,16,17,18,19,20,21,22,23,24,25,26,27,28,29,30,31,32,33,34,35,36,37,38,39,40,41,42,43,44,45,46,47,48,49,50,51,52,53,54,55,56,57,58,59,60,3,4,61] (fun g=>RSl g) (fun g=>RH s q g) (fun g=>RJ s w.heap.size q g) (fun g=>(if g.lab=1 then 102 - g.log.length else 0)) ?_ ?_ ?_
 .intro g;unfold RL
  split<;>rfl
 .intro g j z;rcases z with z|z|z
  .obtain⟨lab,br,b6,b7,vt,vl,x,y,tb,log,at_,D⟩:=g;obtain⟨Q,z⟩:=z;simp only at Q;subst Q;simp only[RL,RSl,RH] at z |-;obtain⟨zf,J,R,zU,Z,zz,zA,zB,zC,T,H,U,yl,ym,zD,zV,zW,yn,zE,a0,I,zg⟩:=z;simp only[bkO,rdO,nlV];simp only[fi,YW,YN,XW,Bool.or_true,Bool.true_or,Nat.reduceBEq,Yf,↓reduceIte,VW];refine kv ?_
   try with_reducible refine pX ?_
   refine kz [14] @aH ?_;refine Ow.Vc rfl call86 (fun m t=>uV br s at_ 0 m (t.has _ _ (ah _ aX))) ?_;refine ko @aH ?_;refine ky @aH ?_;refine Ow.Vd (M:=[(br, Vg (vs s) (vi at_) (vi 0))]++((q, iU Vj Vj)::(b6, iU vt vl)::(b7, iU x y)::D)) YA ?_;refine Ow.Wa (Y:=((q, iU Vj Vj)::(b6, iU vt vl)::(b7, iU x y)::D)) V_ rfl rfl call82 (fun m t hX hn=>Uu br s at_ 0 [69] m (Wz.of hG t (Vq.not (L:=[(br, Vg (vs s) (vi at_) (vi 0))]++((q, iU Vj Vj)::(b6, iU vt vl)::(b7, iU x y)::D)) (by exact⟨zf,ze,J,R,T⟩) zy)) oM zE oM (hX _ aX)) (fun v1 D1 zk zl=>?_);rcases zl with⟨zm,rfl,rfl⟩ | ⟨d,c,V,rfl,zX,zY,rfl⟩
   .refine Ow.Vd (M:=(q, iU Vj Vj)::(b6, iU vt vl)::(br, Vg (vs s) (vi (bw s at_ 0 [69]).2.1) (vi (bw s at_ 0 [69]).2.2))::(b7, iU x y)::D) YA ?_;refine ko @aH ?_;refine ky (aN @aH @p3) ?_;refine Jump.mk ⟨2,br,b6,b7,vt,vl,x,y,tb,log,at_,(br, Vg (vs s) (vi (bw s at_ 0 [69]).2.1) (vi (bw s at_ 0 [69]).2.2))::(b7, iU x y)::D⟩ rfl (by show 0<102 - log.length;omega) (.inr (.inl ⟨rfl,J,Z,⟨zf,R,T⟩,H.mono fun p n=>by simp[n],U.mono fun p n=>by simp[n],?_⟩)) rfl rfl;exact Du I zg (BW zm)
   have zn:q<d/\br<d/\b6<d/\b7<d:=by
    rcases zk.new d Wg with h| ⟨h,-⟩
    .simp[keys] at h;omega
    obtain⟨q1,q2,q3,q4,-⟩:=h;exact⟨q2,q1,q3,q4⟩
   obtain⟨zZ,z0,z1,z2⟩:=zn;have zh:=vz oM V;have zo:=uw V;rw[zo];have zq:=AU (p:=[69]) (e:=0) zE;generalize zF:(bw s at_ 0 [69]).2.1=u at*;refine ko @aH ?_;refine ky (aN @aH @qE6) ?_;refine Cw.Vu [b6] [0,2,5,1,3,4,6,7,8,9,10] [10] kR kR kR ?_;refine WQ ?_;refine kq @aH ?_;refine Ow.WV ?_;refine Ow.Wf rfl rfl call64 (fun m t=>lz vl log m (Yq.slV (U.mono (fun p n=>by simp[n])) t rfl rfl bK) oM) (fun B1 v3 Dc z3 yo zG z4=>?_);have zH:=z3
   try simp only[Wp,Vy] at zH
   obtain⟨qr,qb,q2,q6,q7,-⟩:=zH;refine Ow.nil ?_;refine⟨fC Wg,?_⟩
   try simp only[Wp,Vy]
   refine Ow.WV ?_;refine Ow.WA rfl rfl call84 Wg (fun m t=>uy d c 0 0 m (aR _) oM (t.has _ _ (ah _ aX))) ?_;refine Ow.nil ?_;refine⟨fun b K=>qI (by simp only[Vw,WI,WB] at K;omega),?_⟩;rw[x_];have zi:=Cm (s:=c) (a:=0) (e:=0) zh;have z5:=wZ (s:=c) (a:=0) (e:=0) (aR _);have za:=td (tb:=tb) (log:=log) V;rw[zF] at za;generalize eT c 0 0=rr at*;obtain⟨r,i,l⟩:=rr;simp only at zi z5 za |-;refine kn ?_
   try simp only[Wp,Vy]
   refine Ow.WV ?_;refine Ow.buildSlice (e:=114) (aI r).toArray rfl rfl (ia r) fun b8 W zr=>?_;have yp:b6<b8:=aQ W Wg;have yq:b7<b8:=aQ W Wg;have yr:q<b8:=aQ W Wg;have ys:br<b8:=aQ W Wg;have z6:d<b8:=aQ W Wg;refine Ow.nil ?_;refine⟨fC Wg,?_⟩
   try simp only[Wp,Vy]
   refine Ow.WV ?_;refine Ow.Vd (M:=Dc++(((br, Vg (vs s) (vi u) (vi 0))::(d, Vg (vs c) (vi i) (vi l))::(q, iU Vj Vj)::(b6, iU vt vl)::(b7, iU x y)::D)++[(b8, Ve r)])) YA ?_;refine Ow.XP (e:=114) (k:=1) (new:=aI r) (X:=Dc) v3 rfl rfl rfl rfl underlying57 YI kR eR (by rw[eI,Wd,bK]) underlying57 (by intro k h;cases h) z4 (fun m t=>W0.X6 (t.has b8 (Ve r) V_) (bK r) (gU r)) oM oM (fun B A E zt z7 O z8 zj z9=>?_);have ya:b8<B:=aQ zt (by simp[aV,keys]);have zI:∀F,F<B1->F<B->F∉keys E:=fun F h1 h2 hm=>by
    rcases zj F hm with h|h
    .have:=zG.le F h;omega
    omega
   have zc:=zI b6 q6 oM;have zJ:=zI b7 q7 oM;refine Ow.nil ?_;refine⟨fun F N=>?_,?_⟩
   .rw[VZ] at N;subst N;rw[e8 zc];simp(disch:=omega) only[Wp,Vy,g3,j_]
   try simp only[Wp,Vy]
   refine Ow.build (.agg #[vt,A]) rfl (n9 vt A (d9 H).2 O.cell.2) ?_;have yb:kQ (aU prog 59) (E++(((br, Vg (vs s) (vi u) (vi 0))::(d, Vg (vs c) (vi i) (vi l))::(q, iU Vj Vj)::(b6, iU vt vl)::(b7, iU x y)::D)++[(b8, Ve r)])) (vp b7 0) (.agg #[vt,A])=some (E++(((br, Vg (vs s) (vi u) (vi 0))::(d, Vg (vs c) (vi i) (vi l))::(q, iU Vj Vj)::(b6, iU vt vl)::(b7, iU vt A)::D)++[(b8, Ve r)])):=by rw[qs0,qS,cu zJ];simp(disch:=omega) only[Wp,eJ,jL];rw[gT _ _ _ _ _ (d9 H).1 O.cell.1,pp,pT zJ];simp(disch:=omega) only[iN,mP]
   refine Ow.store rfl rfl rfl yb ?_;refine kq @aH ?_;refine Cw.Vd (M:=(q, iU Vj Vj)::(br, Vg (vs s) (vi u) (vi 0))::(b6, iU vt vl)::(b7, iU vt A)::(d, Vg (vs c) (vi i) (vi l))::(b8, Ve r)::(D++E)) YA ?_
   try simp only[Cq,u0,mM,mO]
   have zb:Vq w.heap.size (D++E):=T.app (Vq.of_le fun F N=>by
    rcases zj F N with h|h
    .have:=zG.le F h;omega
    omega)
   have zK:Vq w.heap.size ((br, Vg (vs s) (vi u) (vi 0))::(b7, iU vt A)::(d, Vg (vs c) (vi i) (vi l))::(b8, Ve r)::(D++E)):=⟨zf,R,oM,zr,zb⟩;have yc:(log.map aI).flatten++aI r=((log++[r]).map aI).flatten:=by simp
   rw[yc] at O;have zL:Gr E 114 33 A (log.length+1) ((log++[r]).map aI).flatten:=.inl O;have zM:dX (log++[r]):=rW zV zi;refine ky @aH ?_;refine Ow.Vc rfl call85 (fun m t=>rl d c i l m (t.has _ _ V_)) ?_;by_cases P:Zc c i l=0
   .have K:(Zc c i l !=0)=false:=by simp[P]
    refine ko (aN @aH @K) ?_;refine ky (aN @aH @d_) ?_;refine Ow.Vc rfl call72 (fun m t=>qM vt A tb (log++[r]) m (Yq.slV (H.mono (fun p n=>by simp[n])) t rfl rfl bK) (zL.slM (fun b o hm=>t.has b o (by simp[hm])) V_ rfl bK) oM (by simp;omega) zD zM) ?_;cases hr:am tb (log++[r])
    .refine Ow.Vd (M:=(q, iU Vj Vj)::(b6, iU vt vl)::((br, Vg (vs s) (vi u) (vi 0))::(b7, iU vt A)::(d, Vg (vs c) (vi i) (vi l))::(b8, Ve r)::(D++E))) YA ?_;refine ko @aH ?_;refine ky @aH ?_;refine Jump.mk ⟨2,br,b6,b7,vt,vl,x,y,tb,log,at_,((br, Vg (vs s) (vi u) (vi 0))::(b7, iU vt A)::(d, Vg (vs c) (vi i) (vi l))::(b8, Ve r)::(D++E))⟩ rfl (by show 0<102 - log.length;omega) (.inr (.inl ⟨rfl,J,Z,zK,H.mono fun p n=>by simp[n],U.mono fun p n=>by simp[n],?_⟩)) rfl rfl;exact Du I zg (by rw[za,tr (by simp[hr])])
    rw[Vb ⟨P,hr⟩] at za;have yd:=Bi hr;have zu:=gT vt vl vt A 59 (d9 H).1 O.cell.1;refine ko @aH ?_;refine ky (qS1 @aH @d_ @zu) ?_;have ye:Yq ((d, Vg (vs c) (vi i) (vi l))::(b8, Ve r)::(D++E)) 114 33 A (log++[r]).length ((log++[r]).map aI).flatten:=by rw[VV];exact zL.i fun p n=>by simp[n]
    refine Jump.mk ⟨1,br,b6,b7,vt,A,vt,A,tb,log++[r],u,(d, Vg (vs c) (vi i) (vi l))::(b8, Ve r)::(D++E)⟩ rfl (by show 102 - (log++[r]).length<102 - log.length;rw[VV,List.length_singleton];omega) (.inl ⟨rfl,zf,J,R,zU,Z,zz,zA,zB,zC,⟨oM,zr,zb⟩,H.mono fun p n=>by simp[n],ye,(d9 H).1,O.cell.1,zD,zM,zW,yd,zq.2,a0,I,?_⟩) rfl rfl;intro k hk;simp only at hk |-;rw[VV,List.length_singleton] at hk;rw[<-zg (k+1) oM,eo,za]
   have K:(Zc c i l !=0)=true:=by simpa using P
   refine Ow.Vd (M:=(q, iU Vj Vj)::(b6, iU vt vl)::((br, Vg (vs s) (vi u) (vi 0))::(b7, iU vt A)::(d, Vg (vs c) (vi i) (vi l))::(b8, Ve r)::(D++E))) YA ?_;refine ko (aN @aH @K) ?_;refine ky @aH ?_;refine Jump.mk ⟨2,br,b6,b7,vt,vl,x,y,tb,log,at_,((br, Vg (vs s) (vi u) (vi 0))::(b7, iU vt A)::(d, Vg (vs c) (vi i) (vi l))::(b8, Ve r)::(D++E))⟩ rfl (by show 0<102 - log.length;omega) (.inr (.inl ⟨rfl,J,Z,zK,H.mono fun p n=>by simp[n],U.mono fun p n=>by simp[n],?_⟩)) rfl rfl;exact Du I zg (by rw[za,tr (fun h=>P h.1)])
  .obtain⟨lab,br,b6,b7,vt,vl,x,y,tb,log,at_,D⟩:=g;obtain⟨Q,z⟩:=z;simp only at Q;subst Q;simp only[RL,RSl,RH] at z |-;obtain⟨J,Z,T,H,U,zv⟩:=z;simp only[bkO,rdO,nlV];simp only[fi,YW,YN,XW,Bool.or_true,Bool.true_or,Nat.reduceBEq,Yf,↓reduceIte,VW];refine kv ?_
   try with_reducible refine pX ?_
   have yf:=gT Vj Vj vt vl 59 (d9 H).1 (d9 U).1;refine ky (qS1 @aH @d_ @yf) ?_;refine⟨_,(ke @aH),?_⟩;refine⟨Ext.Vt ⟨ze,J,T⟩,?_⟩;unfold lJ;rw[zv];exact⟨vt,vl,rfl,H.mono fun p n=>by simp[n],U.mono fun p n=>by simp[n]⟩
  obtain⟨lab,br,b6,b7,vt,vl,x,y,tb,log,at_,D⟩:=g;obtain⟨Q,z⟩:=z;simp only at Q;subst Q;simp only[RL,RSl,RH] at z |-;obtain⟨T,zv⟩:=z;simp only[bkO,rdO,nlV];simp only[fi,YW,YN,XW,Bool.or_true,Bool.true_or,Nat.reduceBEq,Yf,↓reduceIte,VW];refine kv ?_
  try with_reducible refine pX ?_
  refine ky @aH ?_;refine Ow.build (.agg #[Vj, Vj]) rfl kR ?_;refine ko @aH ?_;refine ky @aH ?_;refine⟨_,(ke @aH),?_⟩;refine⟨Ext.Vt ⟨ze,T⟩,?_⟩;unfold lJ;rw[zv];rfl
 intro key
 repeat first|with_reducible refine ks [999999] @aH ?_|refine kw @aH ?_
 refine Ow.qb2 rfl rfl call81 (S:=fun B v D=> ∃d,B<=d/\v=vp d 0/\D=[(d, Vg (vs s) (vi 0) (vi 0))]) (fun m t=>tM s m) ?_;rintro B v D yg hB ⟨br,yt,rfl,rfl⟩;obtain⟨yu,-⟩:=yg;refine⟨_,Mrg.fresh (by intro F N;simp only[keys,VY,Wr,VZ] at N;omega),?_⟩;simp only[Wp,Vy];refine ko @aH ?_
 repeat first|with_reducible refine ks [999999] @aH ?_|refine kw @aH ?_
 refine Ow.alloc rfl rfl Y7 fun b6 yh J=>?_;simp only[ag,Vy,Wp];obtain⟨Z,zA,-⟩:=yh;refine ko @aH ?_;refine Ow.alloc rfl rfl Y7 fun b7 yi R=>?_;simp only[ag,Vy,Wp];obtain⟨zz,zB,zC,-⟩:=yi;refine ko @aH ?_
 repeat first|with_reducible refine ks [999999] @aH ?_|refine kw @aH ?_
 refine Ow.Vd (M:=[(br, Vg (vs s) (vi 0) (vi 0))]++[(q, iU Vj Vj),(b6, iU Vj Vj),(b7, iU Vj Vj)]) YA ?_;refine Ow.Wa (Y:=[(q, iU Vj Vj),(b6, iU Vj Vj),(b7, iU Vj Vj)]) V_ rfl rfl call82 (fun m t hX hn=>Uu br s 0 0 [72] m (Wz.of hG t (Vq.not (L:=[(br, Vg (vs s) (vi 0) (vi 0))]++[(q, iU Vj Vj),(b6, iU Vj Vj),(b7, iU Vj Vj)]) (by exact⟨oM,ze,J,R,trivial⟩) zy)) oM (aR _) oM (hX _ aX)) (fun v1 D1 zk zl=>?_);rcases zl with⟨zm,rfl,rfl⟩ | ⟨d,c,V,rfl,zX,zY,rfl⟩
 .refine ko @aH ?_
  repeat first|with_reducible refine ks [999999] @aH ?_|refine kw @aH ?_
  refine Ow.Vc rfl call83 (fun m t=>Gf 16 m) ?_;refine ko @aH ?_
  repeat first|with_reducible refine ks [999999] @aH ?_|refine kw @aH ?_
  refine Cw.VU (G:=Unit) [17,18,19,20,21,22,23,24,25,16] (fun g=>[(16,vi 0)]) (fun g=>[(br, Vg (vs s) (vi (bw s 0 0 [72]).2.1) (vi (bw s 0 0 [72]).2.2)),(q, iU Vj Vj),(b6, iU Vj Vj),(b7, iU Vj Vj)]) (fun g=>True) (fun g=>0) () rfl rfl ?_ ?_
  .trivial
  intro g j z;refine kv ?_
  repeat first|with_reducible refine ks [999999] @aH ?_|refine kw @aH ?_
  have yj:((3:Int) !=0)=true:=rfl;refine Ow.Vc rfl call85 (fun m t=>OJ m) ?_;refine Ow.Vd (M:=(q, iU Vj Vj)::[(br, Vg (vs s) (vi (bw s 0 0 [72]).2.1) (vi (bw s 0 0 [72]).2.2)),(b6, iU Vj Vj),(b7, iU Vj Vj)]) YA ?_;refine ko (aN @aH @yj) ?_
  repeat first|with_reducible refine ks [999999] @aH ?_|refine kw @aH ?_
  exact Jump.mk ⟨0,br,b6,b7,nlV,nlV,nlV,nlV,[],[],0,[(br, Vg (vs s) (vi (bw s 0 0 [72]).2.1) (vi (bw s 0 0 [72]).2.2)),(b6, iU Vj Vj),(b7, iU Vj Vj)]⟩ rfl trivial (.inr (.inr ⟨rfl,⟨oM,J,R,trivial⟩,Ca zm⟩)) rfl rfl
 have zn:q<d/\br<d/\b6<d/\b7<d:=by
  rcases zk.new d Wg with h| ⟨h,-⟩
  .simp[keys] at h;omega
  obtain⟨q1,q2,q3,q4,-⟩:=h;exact⟨q2,q1,q3,q4⟩
 obtain⟨zZ,z0,z1,z2⟩:=zn;have zh:=vz oM V;have zo:=uw V;have I:=tG V;rw[zo];have zq:=AU (s:=s) (a:=0) (p:=[72]) (e:=0) (aR _);generalize zF:(bw s 0 0 [72]).2.1=u at*;simp only[Wp,Vy];refine ko @aH ?_
 repeat first|with_reducible refine ks [999999] @aH ?_|refine kw @aH ?_
 refine Ow.WA rfl rfl call83 Wg (fun m t=>U9 d c 0 0 16 m (aR _) oM (t.has _ _ (ah _ aX))) ?_;have zN:=j' (s:=c) (a:=0) (e:=0) (most:=16) oM;have zO:=fO (s:=c) (a:=0) (e:=0) (most:=16) (aR _);generalize aE c 0 0 16=nn at*;obtain⟨n1,C,ne⟩:=nn;simp only at zN zO I |-;obtain⟨k,rfl⟩:=ZT zN.1;have yv:k<=16:=by omega
 refine kn ?_;refine ko @aH ?_
 repeat first|with_reducible refine ks [999999] @aH ?_|refine kw @aH ?_
 refine Cw.Vd (M:=(d, Vg (vs c) (vi C) (vi ne))::(b6, iU Vj Vj)::(br, Vg (vs s) (vi u) (vi 0))::(q, iU Vj Vj)::(b7, iU Vj Vj)::[]) YA ?_;refine Cw.VU (G:=HG) [17,18,19,20,21,22,23,24,25,16] (fun g=>[(16,vi g.g)]) (fun g=>(d, Vg (vs c) (vi (ai c C ne g.g).2.1) (vi (ai c C ne g.g).2.2))::(b6, iU g.vt Vj)::(br, Vg (vs s) (vi u) (vi 0))::(q, iU Vj Vj)::(b7, iU Vj Vj)::g.D) (fun g=>g.g<=k/\Vq (d+1) g.D/\Gr g.D 114 33 g.vt g.g ((ai c C ne g.g).1.map aI).flatten) (fun g=>k - g.g) ⟨0, Vj,[]⟩ rfl rfl ?_ ?_
 .exact⟨aR _,trivial,Gr.nl⟩
 intro g j z;refine kv ?_;obtain⟨g,vt,D⟩:=g;simp only at z |-;obtain⟨yw,zb,zd⟩:=z;have zP:=nI (e:=ne) zO.2 g;by_cases yx:g<k
 .repeat first|with_reducible refine ks [999999] @aH ?_|refine kw @aH ?_
  refine Cw.Vu [b6] [0,2,1,3,4,5,6,7] [7] kR kR kR ?_;refine WQ ?_;refine kq @aH ?_;refine Ow.WV ?_;refine Ow.WA rfl rfl call84 Wg (fun m t=>uy d c (ai c C ne g).2.1 (ai c C ne g).2.2 m zP.2 oM (t.has _ _ aX)) ?_;refine Ow.nil ?_;refine⟨fun b K=>qI (by simp only[Vw,WI,WB] at K;omega),?_⟩;rw[x_];have zi:=Cm (s:=c) (a:=(ai c C ne g).2.1) (e:=(ai c C ne g).2.2) zh;have zw:ai c C ne (g+1)=((ai c C ne g).1++[(eT c (ai c C ne g).2.1 (ai c C ne g).2.2).1],(eT c (ai c C ne g).2.1 (ai c C ne g).2.2).2):=rfl;generalize eT c (ai c C ne g).2.1 (ai c C ne g).2.2=rr at*;obtain⟨r,i,l⟩:=rr;simp only at zi zw |-;refine kn ?_;refine Ow.WV ?_;refine Ow.buildSlice (e:=114) (aI r).toArray rfl rfl (ia r) fun b8 W zr=>?_;have z6:d<b8:=aQ W Wg;refine Ow.nil ?_;refine⟨fC Wg,?_⟩
  try simp only[Wp,Vy]
  refine Ow.WV ?_;refine Ow.Vd (M:=D++((d, Vg (vs c) (vi i) (vi l))::(b6, iU vt Vj)::(br, Vg (vs s) (vi u) (vi 0))::(q, iU Vj Vj)::(b7, iU Vj Vj)::[(b8, Ve r)])) YA ?_;refine Ow.XP (e:=114) (k:=1) (new:=aI r) (X:=D) vt rfl rfl rfl rfl underlying57 YI kR eR (by rw[eI,Wd,bK]) underlying57 (by intro k h;cases h) zd (fun m t=>W0.X6 (t.has b8 (Ve r) V_) (bK r) (gU r)) oM oM (fun B A E zt z7 O z8 zj z9=>?_);have ya:d<B:=aQ zt (by simp[aV,keys]);have zQ:Vq (d+1) E:=Vq.of_le fun F N=>by
   rcases zj F N with h|h
   .exact zb.le F h
   omega
  have zc:b6∉keys E:=zQ.not oM;refine Ow.nil ?_;refine⟨fun F N=>?_,?_⟩
  .rw[VZ] at N;subst N;rw[e8 zc];simp(disch:=omega) only[Wp,Vy,g3,j_]
  try simp only[Wp,Vy]
  have zu:kQ (aU prog 57) (E++((d, Vg (vs c) (vi i) (vi l))::(b6, iU vt Vj)::(br, Vg (vs s) (vi u) (vi 0))::(q, iU Vj Vj)::(b7, iU Vj Vj)::[(b8, Ve r)])) (vp b6 0) A=some (E++((d, Vg (vs c) (vi i) (vi l))::(b6, iU A Vj)::(br, Vg (vs s) (vi u) (vi 0))::(q, iU Vj Vj)::(b7, iU Vj Vj)::[(b8, Ve r)])):=by rw[qI3,qS,cu zc];simp(disch:=omega) only[eJ,jL];rw[nO _ _ _ _ O.cell,pp,pT zc];simp(disch:=omega) only[iN,mP]
  refine kq @aH ?_;refine Ow.store rfl rfl rfl zu ?_
  try with_reducible refine Ow.nil ?_
  refine Cw.Vd (M:=(d, Vg (vs c) (vi i) (vi l))::(b6, iU A Vj)::(br, Vg (vs s) (vi u) (vi 0))::(q, iU Vj Vj)::(b7, iU Vj Vj)::(E++[(b8, Ve r)])) YA ?_
  repeat first|with_reducible refine ks [999999] @aH ?_|refine kw @aH ?_
  refine Vo.mk (HG.mk (g+1) A (E++[(b8, Ve r)])) (by show k - (g+1)<k - g;omega) ⟨by show g+1<=k;omega,zQ.app ⟨by omega,trivial⟩,?_⟩ ?_ rfl
  .show Gr (E++[(b8, Ve r)]) 114 33 A (g+1) ((ai c C ne (g+1)).1.map aI).flatten;rw[zw];have e:(((ai c C ne g).1++[r]).map aI).flatten=((ai c C ne g).1.map aI).flatten++aI r:=by simp
   rw[e];exact Gr.app (.inl O)
  simp only[zw]
 obtain rfl:g=k:=by omega
 have zx:=DK (a:=C) (e:=ne) zh g;have zR:=pZ c C ne g;rw[WX] at I;generalize ai c C ne g=tt at*;obtain⟨tb,i,l⟩:=tt;simp only at I zx zR zd zP |-;have zS:Vq w.heap.size ((br, Vg (vs s) (vi u) (vi 0))::(d, Vg (vs c) (vi i) (vi l))::(b6, iU vt Vj)::(b7, iU Vj Vj)::D):=⟨by omega,by omega,by omega,by omega,zb.mono oM⟩;rw[<-zR] at zd
 repeat first|with_reducible refine ks [999999] @aH ?_|refine kw @aH ?_
 refine Ow.Vc rfl call85 (fun m t=>rl d c i l m (t.has _ _ aX)) ?_;by_cases P:Zc c i l=0
 .have K:(Zc c i l !=0)=false:=by simp[P]
  refine ko (aN @aH @K) ?_
  repeat first|with_reducible refine ks [999999] (aN @aH @d_) ?_|refine kw (aN @aH @d_) ?_
  refine Ow.Vc rfl call72 (fun m t=>qM vt Vj tb [] m (zd.slM (fun b o hm=>t.has b o (by simp[hm])) rfl rfl bK) (Xz.nil m) oM V_ zx (fun g z=>by simp at z)) ?_;cases hr:am tb []
  .refine Ow.Vd (M:=(q, iU Vj Vj)::((br, Vg (vs s) (vi u) (vi 0))::(d, Vg (vs c) (vi i) (vi l))::(b6, iU vt Vj)::(b7, iU Vj Vj)::D)) YA ?_;refine ko @aH ?_
   repeat first|with_reducible refine ks [999999] @aH ?_|refine kw @aH ?_
   exact Jump.mk ⟨0,br,b6,b7,nlV,nlV,nlV,nlV,[],[],0,((br, Vg (vs s) (vi u) (vi 0))::(d, Vg (vs c) (vi i) (vi l))::(b6, iU vt Vj)::(b7, iU Vj Vj)::D)⟩ rfl trivial (.inr (.inr ⟨rfl,zS,l4 (by rw[I,tr (by simp[hr])])⟩)) rfl rfl
  rw[Vb ⟨P,hr⟩] at I;refine Ow.Vd (M:=(q, iU Vj Vj)::(br, Vg (vs s) (vi u) (vi 0))::(b6, iU vt Vj)::(b7, iU Vj Vj)::((d, Vg (vs c) (vi i) (vi l))::D)) YA ?_;refine ko @aH ?_;have zT:=fun f'=>key (⟨1,br,b6,b7,vt, Vj, Vj, Vj,tb,[],u,((d, Vg (vs c) (vi i) (vi l))::D)⟩) f';simp only[fi,YW,YN,XW,Bool.or_true,Bool.true_or,Nat.reduceBEq,Yf,↓reduceIte,VW] at zT;clear key
  repeat first|with_reducible refine ks [999999] @aH ?_|refine kw @aH ?_
  refine Cw.label ?_;refine zT _ (.inl ⟨rfl,(by simp only;omega),J,R,(by simp only;omega),(by simp only;omega),(by simp only;omega),(by simp only;omega),(by simp only;omega),(by simp only;omega),⟨by omega,zb.mono oM⟩,zd.i fun p n=>by simp[n],Gr.nl.i (X:=[]) fun p n=>(by cases n),rfl,rfl,zx,fun g z=>(by simp at z),by simp only;omega,by simp,zq.2,u,I,?_⟩) ?_
  .intro k hk;exact rg s tb k 101 [] u (by simpa using hk) V_ V_
  rfl
 have K:(Zc c i l !=0)=true:=by simpa using P
 refine Ow.Vd (M:=(q, iU Vj Vj)::((br, Vg (vs s) (vi u) (vi 0))::(d, Vg (vs c) (vi i) (vi l))::(b6, iU vt Vj)::(b7, iU Vj Vj)::D)) YA ?_;refine ko (aN @aH @K) ?_
 repeat first|with_reducible refine ks [999999] @aH ?_|refine kw @aH ?_
 exact Jump.mk ⟨0,br,b6,b7,nlV,nlV,nlV,nlV,[],[],0,((br, Vg (vs s) (vi u) (vi 0))::(d, Vg (vs c) (vi i) (vi l))::(b6, iU vt Vj)::(b7, iU Vj Vj)::D)⟩ rfl trivial (.inr (.inr ⟨rfl,zS,l4 (by rw[I,tr (fun h=>P h.1)])⟩)) rfl rfl
end Go.Proofs
end
section
open Go Go.Proofs Go.Sx Go.StP
namespace Go.Proofs
def aK:No:=[98,111,111,107]
structure Xh where
 t:List Vk
 l:List Vk
 n:Nat
def ck(S:h8):No×Nat×h8:=
 if(bX S aJ aK).2=6 then(bL [] [],bM S aJ aK (bL [] []) false) else((bX S aJ aK).1,(bX S aJ aK).2,S)
def qe0(S:h8)(s:No)(p:List Vk×List Vk×Nat):Option Xh×Nat×h8:=
 let a:Nat×h8:=if p.2.2<s.length then bM S aJ aK (s.take p.2.2) false else(0,S)
 if a.1≠0 then(none,a) else
 if(az a.2 aJ aK).2≠0 then(none,(az a.2 aJ aK).2,(az a.2 aJ aK).1) else(some ⟨p.1,p.2.1,p.2.1.length⟩,0,(az a.2 aJ aK).1)
def g6(S:h8):Option Xh×Nat×h8:=
 if(ck S).2.1≠0 then(none,(ck S).2) else match fm (ck S).1 with
  |none=>(none,17,(ck S).2.2)
  |some p=>qe0 (ck S).2.2 (ck S).1 p
structure BoA(bo:Nat)(G:XE)(S:h8)(N:Nat)(B:Xh)(vt vl:hU)(D K X:aA):Prop where
 perm:X.Perm ((bo, Vi (vp G.bd 0) vt vl (vi (B.n:Nat)))::(D++K))
 D:Yp D G S N
 t:Yq K 114 33 vt B.t.length (B.t.map aI).flatten
 l:Yq K 114 33 vl B.l.length (B.l.map aI).flatten
def BoP(a bd:Nat)(S:h8)(N:Nat)(B:Xh)(X:aA):Prop:= ∃G vt vl D K,G.bd=bd/\BoA a G S N B vt vl D K X
def Yp.perm{X Y:aA}{G:XE}{S:h8}{N:Nat}(h:Yp X G S N)(c:(keys X).Nodup)(a:X.Perm Y):Yp Y G S N:=⟨h.P.mono fun b o d=>gE (((a.map Prod.fst).nodup_iff).1 c) (a.mem_iff.1 (bU d)),h.H,h.B⟩
def Yp.app{X Y:aA}{G:XE}{S:h8}{N:Nat}(h:Yp X G S N):Yp (X++Y) G S N:=⟨h.P.mono fun b o a=>a_ a,h.H,h.B⟩
def Yp.le{X:aA}{G:XE}{S:h8}{N M:Nat}(h:Yp X G S N)(a:N<=M):Yp X G S M:=⟨h.P,h.H,h.B.mono a⟩
end Go.Proofs
end
section
open Go Go.Proofs Go.Sx Go.StP Go.RefP
namespace Go.Proofs
def gL(a b c d:hU)(n:Nat)(E:h7)(fz:Nat×Nat):aF (some (false,n)) (some (.cells #[a,b,c,d] E fz)) 0=some a:=(rfl)
def gQ(a b c d:hU)(n:Nat)(E:h7)(fz:Nat×Nat):aF (some (false,n)) (some (.cells #[a,b,c,d] E fz)) 1=some b:=(rfl)
def gP(a b c d:hU)(n:Nat)(E:h7)(fz:Nat×Nat):aF (some (false,n)) (some (.cells #[a,b,c,d] E fz)) 2=some c:=(rfl)
def gM(a b c d:hU)(n:Nat)(E:h7)(fz:Nat×Nat):aF (some (false,n)) (some (.cells #[a,b,c,d] E fz)) 3=some d:=(rfl)
def gS(a b c d:hU)(E:h7)(fz:Nat×Nat):aF (some (true,2)) (some (.cells #[a,b,c,d] E fz)) 1=some (.agg #[b,c]):=(rfl)
def gO(a b c d:hU)(n:Int)(E:h7):aZ (some (false,1)) (some (.cells #[a,b,c,d] E (0,0))) 3 (vi n)=some (.cells #[a,b,c,vi n] E (0,0)):=by have h:Value.oneCell' (vi n)=true/\(vi n).cells=#[vi n]:=⟨rfl,rfl⟩;simp[aZ,h,cU]
def lc(a b c d x y:hU)(E:h7)(e:Value.oneCell' x=true)(f:Value.oneCell' y=true):aZ (some (true,2)) (some (.cells #[a,b,c,d] E (0,0))) 1 (.agg #[x,y])=some (.cells #[a,x,y,d] E (0,0)):=by simp[aZ,e,f,cU,ag]
def j0(b o:Nat):ak prog .eql 30 (vp b o) (.pointer none)=some (.bool false):=by simp[ak,Zq,cm,cg,underlying30,vp]
def Si:ak prog .eql 30 (.pointer none) (.pointer none)=some (.bool true):=by simp[ak,Zq,cm,cg,underlying30]
def gB{D:aA}{v:hU}{l:List Vk}{w:hW}(h:Yq D 114 33 v l.length (l.map aI).flatten)(a:∀b o,(b,o)∈D->w.heap[b]? =some o):cj w v l:=by obtain⟨X,c,h⟩:=h;exact h.slM (fun b o d=>a b o (c _ d)) rfl rfl bK
def cw(S:h8)(B:Xh):Nat×h8×Xh:=if(az S aJ aK).2≠0 then((az S aJ aK).2,(az S aJ aK).1,B) else(0,(az S aJ aK).1,{B with n:=B.l.length})
def fq(n:Nat):((n:Int) !=0)=decide (n≠0):=by rw[YZ,Yb,XN];omega
def ec:=aN (aN (aN @bA @b9) (qS1 @Sx.Wk @Sx.Wl @gL)) (aN (qS1 @gQ @gP @gM) (qS1 @gS @gO @j0))
def C'(a bd:Nat)(S:h8)(N:Nat)(B:Xh)(X:aA)(w:hW)(h:∀p,p∈X->w.heap[p.1]? =some p.2)(i:(keys X).Nodup)(j:BoP a bd S N B X):
  Va prog 16 #[vp a 0] w (XS w X (fun v D=>v=vi ((cw S B).1:Nat)/\BoP a bd (cw S B).2.1 N (cw S B).2.2 D)):=by
 obtain⟨G,vt,vl,D,K,rfl,b⟩:=j;have k:Ext w X (D++((a,Vi (vp G.bd 0) vt vl (vi (B.n:Nat)))::K)):=(Ext.refl w X).perm ((b.perm.trans YA).symm);refine Va.Vs func16 rfl (rs:=[.tmp 2]) results16 ntmps16 h i ?_;refine kf ?_;refine Cw.Vd b.perm.symm ?_;refine ky @ec ?_;refine Ow.Vd (M:=D++((a, Vi (vp G.bd 0) vt vl (vi (B.n:Nat)))::K)) YA ?_;refine Ow.Wa (X:=D) (Y:=(a, Vi (vp G.bd 0) vt vl (vi (B.n:Nat)))::K) rfl rfl rfl call55 (fun l u m n=>sK D G S aJ aK l m n b.D.P WT) (fun v2 D2 o q=>?_);obtain⟨rfl,r⟩:=q;have e:Yp D2 G (az S aJ aK).1 N:=⟨r,Lm b.D.H _ _,O6 b.D.B _ _⟩;have f:=k.X1 o;refine Ow.Vd (M:=(a, Vi (vp G.bd 0) vt vl (vi (B.n:Nat)))::(D2++K)) YA ?_;have g:((a,Vi (vp G.bd 0) vt vl (vi (B.n:Nat)))::(D2++K)).Perm (D2++((a, Vi (vp G.bd 0) vt vl (vi (B.n:Nat)))::K)):=YA;have c:=fq (az S aJ aK).2;have s:=kE b.l;unfold cw;by_cases d:(az S aJ aK).2=0
 .rw[tr (by simpa using d)];rw[aW (by simpa using d)] at c;refine ko (aN @ec @c) ?_;refine ky (qS1 @ec @c @s) ?_;refine⟨_,(ke @ec),?_⟩;have t:Ext w X ((a, Vi (vp G.bd 0) vt vl (vi (B.l.length:Nat)))::(D2++K)):=(f.perm g).keys rfl;exact⟨t,rfl,G,vt,vl,D2,K,rfl,⟨WW _,e,b.t,b.l⟩⟩
 rw[Vb d];rw[aP d] at c;refine ko (aN @ec @c) ?_;refine ky (aN @ec @c) ?_;refine⟨_,(ke @ec),?_⟩;exact⟨f.perm g,rfl,G,vt,vl,D2,K,rfl,⟨WW _,e,b.t,b.l⟩⟩
def BoW(w:hW)(a bd:Nat)(B:Xh):Prop:= ∃vt vl,w.heap[a]? =some (Vi (vp bd 0) vt vl (vi (B.n:Nat)))/\cj w vt B.t/\cj w vl B.l
def BoP.W{w:hW}{c bd:Nat}{S:h8}{N:Nat}{B:Xh}{X:aA}(h:BoP c bd S N B X)(f:∀b o,(b,o)∈X->w.heap[b]? =some o):BoW w c bd B:=by obtain⟨G,vt,vl,D,K,rfl,d⟩:=h;have e:∀b o,(b,o)∈ ((c,Vi (vp G.bd 0) vt vl (vi (B.n:Nat)))::(D++K))->w.heap[b]? =some o:=fun b o a=>f b o (d.perm.mem_iff.2 a);exact⟨vt,vl,e _ _ aX,gB d.t fun b o a=>e b o (ah _ (cJ _ a)),gB d.l fun b o a=>e b o (ah _ (cJ _ a))⟩
theorem BoW.WO{w c:hW}{L:aA}{d bd:Nat}{B:Xh}(h:BoW w d bd B)(a:Hp w L c)(b:Vq w.heap.size L):BoW c d bd B:=by obtain⟨vt,vl,e,g,i⟩:=h;have f:=(Array.getElem?_eq_some_iff.1 e).1;exact⟨vt,vl,(a.Wo _ f (b.not f)).trans e,g.WO a b,i.WO a b⟩
def Tz(a bd:Nat)(B:Xh)(w:hW)(c:BoW w a bd B):Va prog 29 #[vp a 0] w (fun v D=>v=vi (B.n:Nat)/\D=[]):=by
 obtain⟨vt,vl,b,-,-⟩:=c;have d:=(Array.getElem?_eq_some_iff.1 b).1;refine Va.Vr func29 rfl (rs:=[.tmp 2]) results29 ntmps29 ?_;refine kf ?_;refine ky (aN @ec @b) ?_;refine⟨_,(ke @ec),trivial,?_⟩
 rfl
def tW:cL (bP prog 59) (ac prog 59) []=some (.agg #[Vj, Vj]):=id kR
def kb(a b x y:hU)(E:h7)(c:Value.oneCell' x=true)(d:Value.oneCell' y=true):aZ (some (true,2)) (some (.cells #[a,b] E (0,0))) 0 (.agg #[x,y])=some (.cells #[x,y] E (0,0)):=by simp[aZ,c,d,cU,ag]
def pV(a b:hU)(E:h7):aF (some (true,2)) (some (.cells #[a,b] E (0,0))) 0=some (.agg #[a,b]):=(rfl)
def UV(b bd:Nat)(B:Xh)(w:hW)(x:BoW w b bd B)(y:B.t.length<1000000)(z:B.l.length<1000000):Va prog 28 #[vp b 0] w (XS w [] (fun v D=> ∃vt vl,v=.agg #[vt,vl]/\Yq D 114 33 vt B.t.length (B.t.map aI).flatten/\Yq D 114 33 vl B.l.length (B.l.map aI).flatten)):=by
 obtain⟨vt,vl,m,A,C⟩:=x;have E:=(Array.getElem?_eq_some_iff.1 m).1;refine Va.Vs func28 rfl (rs:=[.cell 2 59]) results28 ntmps28 (fun p a=>by cases a) Wg ?_;refine kf ?_;refine ky @ec ?_;refine Ow.alloc rfl rfl Y7 fun F P n=>?_;simp only[ag,Vy,Wp];have d:Vq w.heap.size [(F,iU Vj Vj)]:=⟨n,trivial⟩;have e:∀L:aA,Vq w.heap.size L->aG w L b=some (Vi (vp bd 0) vt vl (vi (B.n:Nat))):=fun L G=>by rw[dr (G.not E)];exact m
 have o:=e _ d;refine ko @ec ?_;refine ky @ec ?_;refine Cw.Yh [b] [13] 14 kR rfl ?_;refine kyc ?_;refine Xx.run [0,1,2,3,4,6,7,8,9,10] [true,true,true,true,true,false,true,true,true,true,true,false,false,false] 4 rfl kR kR fun k q=>?_;refine WQ ?_;refine kp (qS1 @ec @Md.Ww @o) ?_
 (with_reducible refine q _ _ _ ?_);clear q k
 refine Xx.one 5 _ kR rfl ?_;refine Ow.Wf rfl rfl call64 (fun f g=>lz vt B.t f (A.WO g d) y) (fun Q v1 D1 R H I h=>?_);have s:=I.mono H;have i:=d.app s;have t:=e _ i;refine Ow.nil ?_;refine⟨(fun r j=>by rw[VZ.1 j];exact t.trans o.symm),?_⟩;refine kyb ?_;refine Xx.one 11 _ kR rfl ?_;refine Ow.Wf rfl rfl call64 (fun f g=>lz vl B.l f (C.WO g i) z) (fun S c T U J K l=>?_);have u:=K.mono J;have M:=i.app u;have N:=e _ M;refine Ow.nil ?_;refine⟨(fun r j=>by rw[VZ.1 j];exact N.trans t.symm),?_⟩;refine kyb ?_;refine Xx.rest [12,13] rfl kR kR ?_;refine WQ ?_;refine kq @ec ?_;refine Ow.build (.agg #[v1,c]) rfl (n9 v1 c h.cell.2 l.cell.2) ?_;have O:=kb Vj Vj v1 c 59 h.cell.1 l.cell.1;refine kq @ec ?_;refine Ow.store rfl rfl rfl (ke (aN @ec @O)) ?_;refine ko @ec ?_;refine ky (aN @ec @pV) ?_;refine⟨_,(ke @ec),?_⟩;exact⟨Ext.Vt ⟨n,s.app u⟩,v1,c,rfl,h.i fun p a=>ah _ (aq _ a),l.i fun p a=>ah _ (cJ _ a)⟩
def rN(t l:List Vk)(n:No):(fI t l n).length=32:=by
 have a:z32.length=32:=by simp[z32]
 unfold fI;cases b:ofM bG z32 (Xn t) (Xn l) l.length with
 |none=>exact a
 |some m=>
  simp only
  split
  .exact uP (n:=n) (x' (lA t) (lA l) (by rw[ew];exact aj _) b) a
  exact a
def Db(c bd:Nat)(B:Xh)(n:No)(w:hW)(f:BoW w c bd B)(g:B.t.length<1000000)(h:B.l.length<1000000)(j:dX B.t)(k:dX B.l):Va prog 13 #[vp c 0,vs n] w (XS w [] (fun v D=>v=.agg (a8 (fI B.t B.l n)))):=by have l:=f;obtain⟨vt,vl,m,A,C⟩:=f;have E:=(Array.getElem?_eq_some_iff.1 m).1;refine Va.Vs func13 rfl (rs:=[.cell 4 38]) results13 ntmps13 (fun p q=>by cases q) Wg ?_;refine kf ?_;refine ky @ec ?_;refine Ow.alloc rfl rfl qc2 fun F G i=>?_;simp only[ag,Vy,Wp];refine ko @ec ?_;have H:=rN B.t B.l n;have I:(List.replicate 32 (0:Vf)).length=32:=rfl;refine Ow.Wf rfl rfl call28 (fun d a=>UV c bd B d (l.WO a ⟨i,trivial⟩) g h) (fun J v1 D1 K r s t=>?_);obtain⟨u,x,rfl,y,z⟩:=t;refine ko @ec ?_;refine Ow.Vc rfl call48 (fun d a=>Jb u x B.t B.l n d (gB y fun b o e=>a.has b o (ah _ e)) (gB z fun b o e=>a.has b o (ah _ e)) g h j k) ?_;refine ko @ec ?_;refine ky @ec ?_;refine⟨_,(ke @ec),?_⟩;exact⟨Ext.Vt ⟨i,s.mono r⟩,rfl⟩
def Sm:am [] []=true:=by rfl
def Kh(b o:Nat)(x y:hU):cL (bP prog 102) (ac prog 102) [(0,vp b o),(1,.agg #[x,y])]=some (.agg #[vp b o,x,y,vi 0]):=by rw[show bP prog 102=some [(0,1),(1,2),(3,1)] from id kR,show ac prog 102=some (.agg #[.pointer none, Vj, Vj,vi 0]) from id kR];have h:(vp b o).cells=#[vp b o]:=rfl;simp[cL,Sx.YR,h,ag,cU]
def qg5(bd:Nat)(R:Option Xh×Nat×h8)(N:Nat)(v:hU)(D:aA):Prop:=
 match R.1 with
 |none=>v=.tuple #[.pointer none,vi (R.2.1:Nat)]/\ ∃G,G.bd=bd/\Yp D G R.2.2 N
 |some B=> ∃a,v=.tuple #[vp a 0,vi 0]/\BoP a bd R.2.2 N B D
def mI{w a:hW}{X L:aA}(h:Wz w)(b:Ext w X L)(c:Hp w L a)(d:(1:Nat)∉keys X):Wz a:=h.ofE b c d
def pf:(bL [] []).length<=1000:=by decide+kernel
def BoP.dk{b bd:Nat}{S:h8}{N:Nat}{B:Xh}{X:aA}(h:BoP b bd S N B X)(c:(keys X).Nodup):∃G,G.bd=bd/\Yp X G S N:=by obtain⟨G,vt,vl,D,K,d,a⟩:=h;refine⟨G,d,Yp.perm (X:=D++((b, Vi (vp G.bd 0) vt vl (vi (B.n:Nat)))::K)) a.D.app ?_ ((a.perm.trans YA).symm)⟩;exact(((a.perm.trans YA).map Prod.fst).nodup_iff).1 c
def eX{w:hW}{X D E:aA}(h:Ext w X D)(b:Vq w.heap.size E):Ext w X (D++E):=⟨fun c a=>by rw[aV] at a;exact(Wu.1 a).elim (h.new c) fun a=>.inr (b.le c a),fun c a=>by rw[aV];exact aq _ (h.all c a)⟩
structure BnG where
 s:No
 e:Nat
 S:h8
 G:XE
 X:aA
def bH:=aN (aN (qS1 @bA @b9 @Sx.Wk) (aN (aN @Sx.Wl @Yk) (aN @Yl @Ym))) (aN (qS1 @gL @gQ @gP) (aN (aN @gM @gS) (aN @gO @pV)))
def Bc(X:aA)(G:XE)(S:h8)(N:Nat)(w:hW)(hX:∀p,p∈X->w.heap[p.1]? =some p.2)(hn:(keys X).Nodup)(c:Yp X G S N)(hN:N<600000)(hC:Wz w)(zd:(1:Nat)∉keys X)(hs:(bX S aJ aK).1.length<1000000):
  Va prog 8 #[vp G.bd 0] w (XS w X (qg5 G.bd (g6 S) (N+84))):=by
 have d:=Ext.refl w X;refine Va.Vs func8 rfl (rs:=[.tmp 2,.tmp 3]) results8 ntmps8 hX hn ?_;refine kf ?_;refine kz [1000002,1000010] @bH ?_;refine Ow.Vc rfl call38 (fun a i=>sD a G S aJ aK (c.P.world i) WT) ?_;refine ko @bH ?_;refine Cw.ZO (G:=BnG) [4,5,17,18,19,20,21,22,23,24,25,26] (fun g=>[(4,vs g.s),(5,vi (g.e:Nat))]) (fun g=>g.X) (fun g=>Ext w X g.X/\g.G.bd=G.bd/\Yp g.X g.G g.S (N+42)/\ck S=(g.s,g.e,g.S)/\g.s.length<1000000) ?_ ?_
 .by_cases J:(bX S aJ aK).2=6
  .have e6:(((bX S aJ aK).2:Nat):Int)=6:=by rw[J];rfl
   have K:((((bX S aJ aK).2:Nat):Int)==6)=true:=by rw[e6];rfl
   refine ky (aN @bH @K) ?_;refine Ow.build (.agg #[Vj, Vj]) rfl tW ?_;refine ko @bH ?_;refine Ow.Vc rfl call39 (fun a i=>sN Vj Vj [] [] a (mI hC d i zd) (Xz.nil a) (Xz.nil a) WT WT (fun g h=>Vx h (Yy g)) (fun g h=>Vx h (Yy g))) ?_;rw[Vb Sm];refine ko @bH ?_;refine ky @bH ?_;refine Ow.Wa (X:=X) (Y:=[]) (VX _).symm rfl rfl call40 (fun a i u v=>EW X G S N aJ aK (bL [] []) a u v c oM WT (by have:=pf;omega)) (fun v1 D1 zl zm=>?_);rw[VX];obtain⟨rfl,l,zn,zo⟩:=zm;refine ko @bH ?_;exact WY.mk ⟨bL [] [],(bM S aJ aK (bL [] []) false).1,(bM S aJ aK (bL [] []) false).2,l,D1⟩ ⟨d.Xt zl,zn,zo,by unfold ck;rw[Vb J],by have:=pf;show(bL [] []).length<_;omega⟩ rfl rfl
  have K:((((bX S aJ aK).2:Nat):Int)==6)=false:=WN.2 oM;refine ky (aN @bH @K) ?_;exact WY.mk ⟨(bX S aJ aK).1,(bX S aJ aK).2,S,G,X⟩ ⟨d,rfl,c.le oM,by unfold ck;rw[tr J],hs⟩ rfl rfl
 intro g j h;refine kv ?_;clear hX hn c d;obtain⟨s,e,S1,l,y⟩:=g;simp only at h |-;obtain⟨d,z,c,zq,zr⟩:=h;rw[<-z];clear z;have F:=fq e;unfold g6;rw[zq];simp only;by_cases m:e=0
 .rw[tr (by simpa using m)];rw[aW (by simpa using m)] at F;refine kz [1000010] (aN @bH @F) ?_;refine Ow.Wf rfl rfl call41 (fun a i=>He s a (mI hC d i zd) zr) (fun B2 v2 D2 zD zt zu A=>?_);have ze:=zu.mono zt;unfold lJ at A;cases hr:fm s with
  |none=>rw[hr] at A;subst A;refine ko @bH ?_;refine Ow.alloc rfl rfl Y7 fun b6 B L=>?_;simp only[ag,Vy,Wp];have O:=fun o=>fX (o:=o) B;have P:=fun o x=>nA (o:=o) (x:=x) B;have Q:=kb Vj Vj Vj Vj 59 rfl rfl;have R:((2:Int) !=0)=true:=rfl;refine ko (qS3 @bH @O @P @Q @dq) ?_;refine kz [1000010] (aN @bH @R) ?_;refine⟨_,(ke @bH),?_⟩;exact⟨(eX (eX d ze) ⟨L,trivial⟩),rfl,l,rfl,(c.le oM).app.app⟩
  |some p=>
   obtain⟨tb,log,at_⟩:=p;rw[hr] at A;obtain⟨vt,vl,rfl,zf,zg⟩:=A;refine ko @bH ?_;refine Ow.alloc rfl rfl Y7 fun b6 B L=>?_;simp only[ag,Vy,Wp];have O:=fun o=>fX (o:=o) B;have P:=fun o x=>nA (o:=o) (x:=x) B;have Q:=kb Vj Vj vt vl 59 (d9 zf).1 (d9 zg).1;have R:((0:Int) !=0)=false:=rfl;refine ko (qS3 @bH @O @P @Q @dq) ?_;refine kz [1000010] (aN @bH @R) ?_;have zv:Vq w.heap.size (D2++[(b6,iU vt vl)]):=ze.app ⟨L,trivial⟩;refine Cw.Vd (M:=y++(D2++[(b6, iU vt vl)])) YA ?_;have T:Ext w X (y++(D2++[(b6,iU vt vl)])):=eX d zv;refine Cw.ZO (G:=BnG) [9,38,39,40,41,42,43,44,45,46,47,48,49] (fun g=>[]) (fun g=>g.X++(D2++[(b6, iU vt vl)])) (fun g=>Ext w X (g.X++(D2++[(b6,iU vt vl)]))/\g.G.bd=l.bd/\Yp g.X g.G g.S (N+84)/\(if at_<s.length then bM S1 aJ aK (s.take at_) false else(0,S1))=(0,g.S)) ?_ ?_
   .by_cases U:at_<s.length
    .have dat:decide ((at_:Int)< (s.length:Int))=true:=aP oM;have zE:(s.take at_).length<1000000:=by rw[W3];omega
     refine ky (aN @bH @dat) ?_;refine Ow.Wa (X:=y) (Y:=D2++[(b6, iU vt vl)]) rfl rfl rfl call40 (fun a i u v=>EW y l S1 (N+42) aJ aK (s.take at_) a u v c oM WT oM) (fun v7 D7 zw zh=>?_);obtain⟨n,H⟩:∃n,n=bM S1 aJ aK (s.take at_) false:=⟨_,rfl⟩;rw[<-H] at zh;have m:n.1≠0->qe0 S1 s (tb,log,at_)=(none,n):=fun q=>by unfold qe0;simp only[Vb U];rw[<-H,Vb q]
     have hJ:(if at_<s.length then bM S1 aJ aK (s.take at_) false else(0,S1))=n:=by rw[Vb U,H]
     clear H;obtain⟨qe,qs⟩:=n;obtain⟨rfl,G7,zi,V⟩:=zh;simp only at m V |-;have zj:=T.X1 zw;have r:=fq qe;by_cases q:qe=0
     .rw[aW (by simpa using q)] at r;refine ko (aN @bH @r) ?_;refine ky (aN @bH @r) ?_;exact WY.mk ⟨[],0,qs,G7,D7⟩ ⟨zj,zi,V,by rw[hJ,q]⟩ rfl rfl
     rw[aP q] at r;refine ko (aN @bH @r) ?_;refine ky (aN @bH @r) ?_;refine⟨_,(ke @bH),?_⟩;refine⟨zj,?_⟩;rw[m q];exact⟨rfl,G7,zi,V.app⟩
    have dat:decide ((at_:Int)< (s.length:Int))=false:=aW oM;refine ky (aN @bH @dat) ?_;exact WY.mk ⟨[],0,S1,l,y⟩ ⟨T,rfl,c.le oM,by rw[tr U]⟩ rfl rfl
   intro g j h;refine kv ?_;clear d T c;obtain⟨s3,e3,b,f,t⟩:=g;simp only at h |-;obtain⟨d,z,c,hq⟩:=h;rw[<-z];clear z;have zx:qe0 S1 s (tb,log,at_)=if(az b aJ aK).2≠0 then(none,(az b aJ aK).2,(az b aJ aK).1) else(some ⟨tb,log,log.length⟩,0,(az b aJ aK).1):=by unfold qe0;simp only[hq];rw[tr V_]
   rw[zx];refine Cw.world fun W C=>?_;have r6:aG w (t++(D2++[(b6,iU vt vl)])) b6=some (iU vt vl):=aO (gE C.nodup V_);clear C W;refine ky (aN @bH @r6) ?_;refine Ow.build (.agg #[vp f.bd 0,vt,vl,vi 0]) rfl (Kh f.bd 0 vt vl) ?_;refine ko @bH ?_;refine Ow.box rfl rfl fun k zF zy=>?_;simp only[dS,cz,dL,ag];refine Ow.Vd (M:=(k, Vi (vp f.bd 0) vt vl (vi 0))::(t++(D2++[(b6, iU vt vl)]))) YA ?_;have zz:Ext w X ((k, Vi (vp f.bd 0) vt vl (vi 0))::(t++(D2++[(b6, iU vt vl)]))):=(eX d (E:=[(k,Vi (vp f.bd 0) vt vl (vi 0))]) ⟨zy,trivial⟩).perm YA;have zA:BoP k f.bd b (N+84) ⟨tb,log,0⟩ ((k, Vi (vp f.bd 0) vt vl (vi 0))::(t++(D2++[(b6, iU vt vl)]))):=⟨f,vt,vl,t,D2++[(b6, iU vt vl)],rfl,⟨WW _,c,zf.mono fun p Z=>aq _ Z,zg.mono fun p Z=>aq _ Z⟩⟩;generalize (k,Vi (vp f.bd 0) vt vl (vi 0))::(t++(D2++[(b6, iU vt vl)]))=L0 at*;refine ko @bH ?_;refine ky @bH ?_;refine Ow.Wa (X:=L0) (Y:=[]) (VX _).symm rfl rfl call16 (fun a i u v=>C' k f.bd b (N+84) ⟨tb,log,0⟩ L0 a u v zA) (fun v5 D5 zB I=>?_);rw[VX];have zk:=zz.Xt zB;by_cases D:(az b aJ aK).2=0
   .have za:cw b ⟨tb,log,0⟩=(0,(az b aJ aK).1,⟨tb,log,log.length⟩):=by
     unfold cw;rw[tr (by simpa using D)]
    rw[za] at I;obtain⟨rfl,zb⟩:=I;rw[tr (by simpa using D)];have e0:(((0:Nat):Int) !=0)=false:=rfl;refine ko (aN @bH @e0) ?_;refine ky (aN @bH @e0) ?_;refine⟨_,(ke @bH),?_⟩;exact⟨zk,k,rfl,zb⟩
   have za:cw b ⟨tb,log,0⟩=((az b aJ aK).2,(az b aJ aK).1,⟨tb,log,0⟩):=by unfold cw;rw[Vb D]
   rw[za] at I;obtain⟨rfl,zb⟩:=I;rw[Vb D];refine Ow.world fun W C=>?_;have zC:=C.nodup;clear C W;have zc:=fq (az b aJ aK).2;rw[aP D] at zc;refine ko (aN @bH @zc) ?_;refine ky (aN @bH @zc) ?_;refine⟨_,(ke @bH),?_⟩;exact⟨zk,rfl,zb.dk zC⟩
 rw[Vb m];rw[aP m] at F;refine kz [1000010] (aN @bH @F) ?_;refine⟨_,(ke @bH),?_⟩;exact⟨d,rfl,l,rfl,c.le oM⟩
def eC(S:h8)(B:Xh)(nm:No)(Wo id:Xl):Nat×h8×Xh:=
 if fI B.t B.l nm≠Wo.l then(12,S,B) else
 if¬ (am B.t B.l=true/\bG nm=true) then(1,S,B) else
 if am B.t (B.l++[⟨nm,id⟩])=false then(18,S,B) else
 if(bD S aJ aK (bh (bq ⟨nm,id⟩))).2≠0 then((bD S aJ aK (bh (bq ⟨nm,id⟩))).2,(bD S aJ aK (bh (bq ⟨nm,id⟩))).1,B) else
 (0,(bD S aJ aK (bh (bq ⟨nm,id⟩))).1,{B with l:=B.l++[⟨nm,id⟩]})
def A'(l l':No)(h:l.length=32/\l'.length=32):ak prog .neq 38 (.agg (a8 l)) (.agg (a8 l'))=some (.bool (!(l==l'))):=
 ub underlying38 underlying5 ag5 kR l l' h
def Yp.qO8{X X':aA}{G a:XE}{S:h8}{N:Nat}{nm s:No}(h:Yp X G S N)(b:XG X' a (bD S aJ nm s).1):Yp X' a (bD S aJ nm s).1 N:=⟨b,Gv h.H _ _ _,Jf h.B _ _ _⟩
def ZB.form{n:Nat}{t l:List Vk}{nm:No}{id:Xl}{v:hU}{D:aA}(h:ZB n t l nm id v D):∃c d s,∃e:Nat,v=.tuple #[.agg #[c,d],vs s,vi (e:Nat)]/\Value.oneCell' c=true/\Value.oneCell' d=true/\
  ((¬ (am t l=true/\bG nm=true)/\e=1)\/((am t l=true/\bG nm=true)/\am t (l++[⟨nm,id⟩])=false/\e=18)\/
   ((am t l=true/\bG nm=true)/\am t (l++[⟨nm,id⟩])=true/\e=0/\s=bh (bq ⟨nm,id⟩)/\Yq D 114 33 c t.length (t.map aI).flatten/\Yq D 114 33 d (l++[(⟨nm,id⟩:Vk)]).length ((l++[(⟨nm,id⟩:Vk)]).map aI).flatten)):=by
 unfold ZB at h;by_cases a:am t l=true/\bG nm=true
 .rw[Vb a] at h;by_cases b:am t (l++[⟨nm,id⟩])=true
  .rw[Vb b] at h;obtain⟨vt,vl,rfl,f,g⟩:=h;exact⟨vt,vl,_,0,rfl,(d9 f).1,(d9 g).1,.inr (.inr ⟨a,b,rfl,rfl,f,by rw[VV];exact g⟩)⟩
  rw[tr b] at h;exact⟨_,_,_,18,h,rfl,rfl,.inr (.inl ⟨a,by simpa using b,rfl⟩)⟩
 rw[tr a] at h;exact⟨_,_,_,1,h,rfl,rfl,.inl ⟨a,rfl⟩⟩
def Ln{r:Vk}(h:r.name.length<1000000):(bh (bq r)).length<1001000:=by have c:=eL (r.name.length:Int);have d:=r.id.h;have a:=eL ((dx (bq r)).length:Int);have b:=mU (bq r);simp only[bh,c9,VV] at a |-;rw[b] at a |-;simp only[bq,c9,VV,Wt,W7] at a |-;omega
def TX{n:Nat}{E:aA}{o:Obj}{Q:Nat->Prop}(h:E=[]\/ ∃b,E=[(b,o)]/\n<=b/\Q b):Vq n E:=by
 rcases h with rfl| ⟨b,rfl,h,-⟩
 .trivial
 exact⟨h,trivial⟩
def eb:=aN (aN (aN (aN @bA @b9) (aN @Sx.Wk @Sx.Wl)) (aN (aN @Yk @Yl) (aN @Ym @gL))) (aN (aN (aN @gQ @gP) (aN @gM @gS)) (aN (aN @gO @pV) (qS1 @CC @A' @j0)))
def Eb(a bd:Nat)(S:h8)(N:Nat)(B:Xh)(nm:No)(Wo id:Xl)(X:aA)(w:hW)(hX:∀p,p∈X->w.heap[p.1]? =some p.2)(hn:(keys X).Nodup)(Z:BoP a bd S N B X)(hN:N<600000)(hC:Wz w)(zt:(1:Nat)∉keys X)
  (zu:B.t.length<1000) (zv:B.l.length<1000) (za:dX B.t) (zb:dX B.l) (zc:nm.length<1000000):
  Va prog 11 #[vp a 0,vs nm,.agg (a8 Wo.l),.agg (a8 id.l)] w (XS w X (fun v D=>v=vi ((eC S B nm Wo id).1:Nat)/\BoP a bd (eC S B nm Wo id).2.1 N (eC S B nm Wo id).2.2 D)):=by
 have zw:=Z;obtain⟨G,vt,vl,D,K,rfl,g⟩:=Z;have zx:=Wo.h;have z2:=id.h;have zy:=rN B.t B.l nm;have z3:X.Perm (D++((a,Vi (vp G.bd 0) vt vl (vi (B.n:Nat)))::K)):=g.perm.trans YA;refine Va.Vs func11 rfl (rs:=[.tmp 8]) results11 ntmps11 hX hn ?_;refine kf ?_;refine ky @eb ?_;refine Ow.box rfl rfl fun b6 z4 zz=>?_;simp only[dS,cz,dL,ag];refine ko @eb ?_;refine Ow.box rfl rfl fun b7 z5 zA=>?_;simp only[dS,cz,dL,ag];have zd:(X++[(b6,Vm Wo.l)]++[(b7,Vm id.l)]).Perm ((b7, Vm id.l)::(b6, Vm Wo.l)::(a, Vi (vp G.bd 0) vt vl (vi (B.n:Nat)))::(D++K)):=((g.perm.append_right _).append_right _).trans YA;refine Ow.Vd zd.symm ?_;refine Ow.world fun R A=>?_;have m:=A.nodup;clear A R;have zB:b7≠b6/\b7≠a/\b6≠a/\b7∉keys K/\b6∉keys K/\b7∉keys D/\b6∉keys D:=by simp only[keys,VY,We,Xd,Vw,Wu,not_or] at m |-;exact⟨m.1.1,m.1.2.1,m.2.1.1,m.1.2.2.2,m.2.1.2.2,m.1.2.2.1,m.2.1.2.1⟩
 obtain⟨z6,z7,z8,z9,x,ya,yb⟩:=zB;refine ko @eb ?_;refine ky @eb ?_;have zC:∀j T,Hp w T j->(∀p,p∈ ((a,Vi (vp G.bd 0) vt vl (vi (B.n:Nat)))::(D++K))->p∈T)->BoW j a G.bd B:=fun j T q zD=>zw.W fun b o C=>q.has b o (zD _ (g.perm.mem_iff.1 C));unfold eC;refine Cw.Vu [b6] [0,1,3,2,4,5] [] kR kR kR ?_;refine WQ ?_;refine kq @eb ?_;refine Ow.WV ?_;refine Ow.Wf rfl rfl call13 (fun j q=>Db a G.bd B nm j (zC j _ q (fun p c=>ah _ (ah _ c))) oM oM za zb) (fun B1 v1 D1 yc zE zF zG=>?_);subst zG;have zH:=zF.mono zE;refine Ow.nil ?_;refine⟨fC (fun b F=>by rw[VZ.1 F];simp[keys]),?_⟩;have yd:(fI B.t B.l nm).length=32/\Wo.l.length=32:=⟨zy,zx⟩;refine kq @eb ?_;have zI:Ext w X ((b7, Vm id.l)::(b6, Vm Wo.l)::(a, Vi (vp G.bd 0) vt vl (vi (B.n:Nat)))::(D++K)):=(eX (eX (Ext.refl w X) (E:=[(b6,Vm Wo.l)]) ⟨zz,trivial⟩) (E:=[(b7,Vm id.l)]) ⟨zA,trivial⟩).perm zd.symm;have ze:=eX zI zH;by_cases J:fI B.t B.l nm=Wo.l
 .have F:(!(fI B.t B.l nm==Wo.l))=false:=by rw[J];simp
  rw[tr (by simpa using J)];refine ky (aN @eb @F) ?_;have zf:Ext w X ((b7, Vm id.l)::(b6, Vm Wo.l)::(a, Vi (vp G.bd 0) vt vl (vi (B.n:Nat)))::(D++K++D1)):=ze.perm YA;have zg:(b7,Vm id.l)∈ (b7,Vm id.l)::(b6, Vm Wo.l)::(a, Vi (vp G.bd 0) vt vl (vi (B.n:Nat)))::(D++K++D1):=by simp
  have zh:(a,Vi (vp G.bd 0) vt vl (vi (B.n:Nat)))∈ (b7,Vm id.l)::(b6, Vm Wo.l)::(a, Vi (vp G.bd 0) vt vl (vi (B.n:Nat)))::(D++K++D1):=by simp
  have zJ:∀p,p∈K->p∈ (b7,Vm id.l)::(b6, Vm Wo.l)::(a, Vi (vp G.bd 0) vt vl (vi (B.n:Nat)))::(D++K++D1):=fun p c=>by simp[c]
  have zK:((b7,Vm id.l)::(b6, Vm Wo.l)::(a, Vi (vp G.bd 0) vt vl (vi (B.n:Nat)))::(D++K++D1)).Perm ((a, Vi (vp G.bd 0) vt vl (vi (B.n:Nat)))::(D++(K++((b7, Vm id.l)::(b6, Vm Wo.l)::D1)))):=YA;refine Cw.world fun R A=>?_;have zi:=A.nodup;clear A R;generalize (b7,Vm id.l)::(b6, Vm Wo.l)::(a, Vi (vp G.bd 0) vt vl (vi (B.n:Nat)))::(D++K++D1)=t at*;have r7:aG w t b7=some (Vm id.l):=aO (gE zi zg);have ro:aG w t a=some (Vi (vp G.bd 0) vt vl (vi (B.n:Nat))):=aO (gE zi zh);have zj:b7∈keys t:=List.mem_map_of_mem zg;have L:a∈keys t:=List.mem_map_of_mem zh;refine Cw.qk6 [a,b7] [12] 11 9 59 14 _ rfl kR kR rfl kR Y7 (fun M=>?_);refine kyc ?_;refine YF.run [0,1,2,3,4,5] [true,true,true,true,true,true,false,false,false,false,false,false,false,false,false] 8 rfl M kR fun k H=>?_;refine WQ ?_;simp(disch:=first|exact dD|fail) only[↓Sx.S0,Sx.S1,fx,eb,Nat.reduceAdd,Nat.reducePow,Int.reducePow,Nat.reduceBEq,↓reduceIte,UInt8.reduceToNat,UInt16.reduceToNat,UInt32.reduceToNat,UInt64.reduceToNat,Int.reduceToNat,Md.Ww,ro,r7]
  (with_reducible refine H _ _ _ ?_);clear H k
  refine YF.soft 6 _ M rfl kR (fun E O=>?_);have zL:=eX zf (TX O);have zk:∀p,p∈K->p∈t++E:=fun p c=>aq _ (zJ p c);refine Ow.Wf rfl rfl call46 (fun j q=>OK vt vl B.t B.l nm id j (mI hC zL q zt) (gB g.t fun b o C=>q.has b o (zk _ C)) (gB g.l fun b o C=>q.has b o (zk _ C)) zu zv za zb zc) (fun B3 v3 y ye zM zN zO=>?_);have zP:=zN.mono zM;obtain⟨d,f,s,e,rfl,zl,zm,zQ⟩:=ZB.form (n:=0) zO;refine Ow.nil ?_;refine⟨_,m7,fC (fun r i=>by simp only[Vw,WI,WB] at i;rcases i with rfl|rfl;exact L;exact zj),?_⟩;refine qf4 ?_;refine YF.run [7,8,9,10] [true,true,true,true,true,true,true,true,true,true,true,false,false,false,false] 3 rfl M kR fun k H=>?_;refine WQ ?_;simp(disch:=first|exact dD|fail) only[↓Sx.S0,Sx.S1,fx,eb,Nat.reduceAdd,Nat.reducePow,Int.reducePow,Nat.reduceBEq,↓reduceIte,UInt8.reduceToNat,UInt16.reduceToNat,UInt32.reduceToNat,UInt64.reduceToNat,Int.reduceToNat,Md.Ww,Yk,Yl,Ym]
  (with_reducible refine H _ _ _ ?_);clear H k
  refine YF.real [12,13,14] rfl M kR kR kR kR (fun r i=>by simp only[Vw,WI,WB] at i;rw[aV];rcases i with rfl|rfl;exact .inl (aq _ L);exact .inl (aq _ zj)) ?_;refine WQ ?_;intro h zR U;simp only[mM,mO];refine Ow.store rfl rfl rfl (L':=t++y++[(h, iU d f)]) ?_ ?_
  .simp only[dS,cz,dL];have zS:aZ (some (true,2)) (some (Obj.cells (Value.cells (.agg #[Vj, Vj])) 59 (0,0))) 0 (.agg #[d,f])=some (iU d f):=by
    rw[ag];exact kb _ _ _ _ _ zl zm
   rw[qs0,qS,DA U,zS,pp,DU U];exact []
  have z:(t++y++[(h,iU d f)]).Perm ((a, Vi (vp G.bd 0) vt vl (vi (B.n:Nat)))::(h, iU d f)::(D++(K++(((b7, Vm id.l)::(b6, Vm Wo.l)::D1)++y)))):=((zK.append_right _).append_right _).trans YA;have P:=(eX (eX zf zP) (E:=[(h,iU d f)]) ⟨zR,trivial⟩).perm z.symm;have V:∀p,p∈y->p∈ ((b7,Vm id.l)::(b6, Vm Wo.l)::D1)++y:=fun p c=>cJ _ c;generalize ((b7,Vm id.l)::(b6, Vm Wo.l)::D1)++y=l at z P V;have yf:a≠h:=fun e=>U (by rw[aV];exact aq _ (e▸L));have zn:aG w (t++y++[(h,iU d f)]) a=some (Vi (vp G.bd 0) vt vl (vi (B.n:Nat))):=by rw[Wb,mR L];exact ro
  rcases zQ with⟨i,rfl⟩ | ⟨i,W,rfl⟩ | ⟨i,W,rfl,rfl,zT,zU⟩
  .have u:(((1:Nat):Int) !=0)=true:=rfl;rw[Vb i];refine ko (aN @eb @u) ?_;refine ky (aN @eb @u) ?_;refine⟨_,(ke @eb),?_⟩;exact⟨P.perm z,rfl,G,vt,vl,D,(h, iU d f)::(K++l),rfl,⟨z.trans YA,g.D,g.t.mono fun p c=>ah _ (aq _ c),g.l.mono fun p c=>ah _ (aq _ c)⟩⟩
  .have u:(((18:Nat):Int) !=0)=true:=rfl;rw[tr (by simpa using i),Vb W];refine ko (aN @eb @u) ?_;refine ky (aN @eb @u) ?_;refine⟨_,(ke @eb),?_⟩;exact⟨P.perm z,rfl,G,vt,vl,D,(h, iU d f)::(K++l),rfl,⟨z.trans YA,g.D,g.t.mono fun p c=>ah _ (aq _ c),g.l.mono fun p c=>ah _ (aq _ c)⟩⟩
  have u:(((0:Nat):Int) !=0)=false:=rfl;rw[tr (by simpa using i),tr (by rw[W];decide)];refine ko (qS1 @eb @u @zn) ?_;refine ky (qS1 @eb @u @zn) ?_;have zo:(D++((a,Vi (vp G.bd 0) vt vl (vi (B.n:Nat)))::(h, iU d f)::(K++l))).Perm ((a, Vi (vp G.bd 0) vt vl (vi (B.n:Nat)))::(h, iU d f)::(D++(K++l))):=YA;refine Ow.Vd (zo.trans z.symm) ?_;have yg:=Ln (r:=⟨nm,id⟩) zc;refine Ow.Wa (X:=D) (Y:=(a, Vi (vp G.bd 0) vt vl (vi (B.n:Nat)))::(h, iU d f)::(K++l)) rfl rfl rfl call47 (fun j q zV zW=>U6 D G S aJ aK (bh (bq ⟨nm,id⟩)) j zV zW g.D.P WT oM (g.D.used oM)) (fun v5 I zX zY=>?_);obtain⟨rfl,zZ⟩:=zY;have zq:=g.D.qO8 zZ;have z0:=(P.perm zo).X1 zX;have zr:(I++((a,Vi (vp G.bd 0) vt vl (vi (B.n:Nat)))::(h, iU d f)::(K++l))).Perm ((a, Vi (vp G.bd 0) vt vl (vi (B.n:Nat)))::(h, iU d f)::(I++(K++l))):=YA;refine Ow.Vd zr.symm ?_;have O:=z0.perm zr.symm;have x:=fq (bD S aJ aK (bh (bq ⟨nm,id⟩))).2;by_cases Q:(bD S aJ aK (bh (bq ⟨nm,id⟩))).2=0
  .rw[tr (by simpa using Q)];rw[aW (by simpa using Q)] at x;have st:=lc (vp G.bd 0) vt vl (vi (B.n:Nat)) d f 102 zl zm;refine ko (aN @eb @x) ?_;refine ky (qS1 @eb @x @st) ?_;refine⟨_,(ke @eb),?_⟩;have z1:Ext w X ((a, Vi (vp G.bd 0) d f (vi (B.n:Nat)))::(h, iU d f)::(I++(K++l))):=O.keys rfl;exact⟨z1,rfl,G,d,f,I,(h, iU d f)::(K++l),rfl,⟨YA,zq,zT.mono fun p c=>ah _ (cJ _ (V p c)),zU.mono fun p c=>ah _ (cJ _ (V p c))⟩⟩
  rw[Vb Q];rw[aP Q] at x;refine ko (aN @eb @x) ?_;refine ky (aN @eb @x) ?_;refine⟨_,(ke @eb),?_⟩;exact⟨O,rfl,G,vt,vl,I,(h, iU d f)::(K++l),rfl,⟨YA,zq,g.t.mono fun p c=>ah _ (aq _ c),g.l.mono fun p c=>ah _ (aq _ c)⟩⟩
 have F:(!(fI B.t B.l nm==Wo.l))=true:=by simpa using J
 rw[Vb J];refine ky (aN @eb @F) ?_;refine⟨_,(ke @eb),?_⟩;exact⟨ze,rfl,G,vt,vl,D,K++((b7, Vm id.l)::(b6, Vm Wo.l)::D1),rfl,⟨YA,g.D,g.t.mono fun p c=>aq _ c,g.l.mono fun p c=>aq _ c⟩⟩
def Zj:No:=[109,97,105,110]
def idO(k:Vf):Xl:=⟨k::List.replicate 31 0,rfl⟩
def ka0:h8:=dN 1000
def ka1:h8:=(g6 ka0).2.2
def kb1:Xh:=⟨[],[],0⟩
def ka2:h8:=(eC ka1 kb1 Zj (idO 0) (idO 1)).2.1
def kb2:Xh:=⟨[],[⟨Zj,idO 1⟩],0⟩
def ka3:h8:=(cw ka2 kb2).2.1
def kb3:Xh:=⟨[],[⟨Zj,idO 1⟩],1⟩
def ka4:h8:=du ka3 []
def T8:(bX ka0 aJ aK).1.length<1000000:=by decide+kernel
def TC:(g6 ka0).1=some kb1:=by kernel_rfl
def TJ:eC ka1 kb1 Zj (idO 0) (idO 1)=(0,ka2,kb2):=by kernel_rfl
def Tf:cw ka2 kb2=(0,ka3,kb3):=by kernel_rfl
def To:eC ka3 kb3 Zj (idO 0) (idO 2)=(12,ka3,kb3):=by kernel_rfl
def TK:(bX ka4 aJ aK).1.length<1000000:=by decide+kernel
def Tm:(g6 ka4).1=some kb3:=by kernel_rfl
def T9:fI [] [⟨Zj,idO 1⟩] Zj=(idO 1).l:=by kernel_rfl
def A2:cL (bP prog 38) (ac prog 38) []=some (.agg (a8 (idO 0).l)):=id kR
def wO:cL (bP prog 38) (ac prog 38) [(0,v8 1)]=some (.agg (a8 (idO 1).l)):=id kR
def Qn:cL (bP prog 38) (ac prog 38) [(0,v8 2)]=some (.agg (a8 (idO 2).l)):=id kR
theorem qg5.some{bd:Nat}{R:Option Xh×Nat×h8}{N:Nat}{v:hU}{D:aA}{B:Xh}(h:R.1=some B)(a:qg5 bd R N v D):∃b,v=.tuple #[vp b 0,vi 0]/\BoP b bd R.2.2 N B D:=by unfold qg5 at a;rw[h] at a;exact a
def gV{w:hW}{L:aA}(h:Wz w)(a:Vq w.heap.size L):(1:Nat)∉keys L:=by obtain⟨e,f,h⟩:=h;exact a.not (Array.getElem?_eq_some_iff.1 h).1
def lU:dX []:=fun g a=>Vx a (Yy g)
def Al:dX [⟨Zj,idO 1⟩]:=fun g a=>by
 obtain rfl:g=0:=by simpa using a
 show Zj.length<_
 decide
def T2:ak prog .eql 38 (.agg (a8 (idO 1).l)) (.agg (a8 (idO 1).l))=some (.bool true):=by rw[qt5 _ _ ⟨(idO 1).h,(idO 1).h⟩];simp
def ex:=aN (aN (aN @bA @b9) (aN @Sx.Wk @Sx.Wl)) (aN (aN @Yk @Yl) (aN @Ym @j0))
def BM(w:hW)(y:jT w)(j:Wz w):Va prog 4 #[] w (fun v D=>v=.bool true/\D=[]):=by
 refine Va.Vr func4 rfl (rs:=[.tmp 0]) results4 ntmps4 ?_;refine kf ?_;refine ky @ex ?_;refine Ow.Wf rfl rfl call30 (fun a d=>sf 1000 a WT (kY y d trivial)) (fun B0 v0 r I T U V=>?_);obtain⟨m,rfl,W⟩:=V;rw[Vy];have z:Ext w [] r:=Ext.Vt (U.mono T);have I:Yp r m ka0 0:=⟨W,NQ 1000,wQ 1000⟩;refine ko @ex ?_;refine ky @ex ?_;refine Ow.Wa (X:=r) (Y:=[]) (VX _).symm rfl rfl call8 (fun a d e f=>Bc r m ka0 0 a e f I oM (mI j z d Wg) (gV j z.qj1) T8) (fun v1 D1 Z za=>?_);rw[VX];have A:=z.Xt Z;obtain⟨g,rfl,B⟩:=za.some TC;replace B:BoP g m.bd ka1 84 kb1 D1:=B;have J:((0:Int) !=0)=false:=rfl;refine ko (aN @ex @J) ?_;refine ky (aN @ex @J) ?_;refine Ow.build (.agg (a8 (idO 0).l)) rfl A2 ?_;refine ko @ex ?_;refine Ow.build (.agg (a8 (idO 1).l)) rfl wO ?_;refine ko @ex ?_;refine Ow.Wa (X:=D1) (Y:=[]) (VX _).symm rfl rfl call11 (fun a d e f=>Eb g m.bd ka1 84 kb1 Zj (idO 0) (idO 1) D1 a e f B oM (mI j A d Wg) (gV j A.qj1) WT WT lU lU WT) (fun v2 D2 zb L=>?_);rw[VX];have zc:=A.Xt zb;rw[TJ] at L;obtain⟨rfl,zd⟩:=L;refine ko @ex ?_;refine Ow.Wa (X:=D2) (Y:=[]) (VX _).symm rfl rfl call16 (fun a d e f=>C' g m.bd ka2 84 kb2 D2 a e f zd) (fun v3 M ze N=>?_);rw[VX];have C:=zc.Xt ze;rw[Tf] at N;obtain⟨rfl,zf⟩:=N;refine ko @ex ?_;refine ky @ex ?_;refine Ow.build (.agg (a8 (idO 0).l)) rfl A2 ?_;refine ko @ex ?_;refine Ow.build (.agg (a8 (idO 2).l)) rfl Qn ?_;refine ko @ex ?_;refine Ow.Wa (X:=M) (Y:=[]) (VX _).symm rfl rfl call11 (fun a d e f=>Eb g m.bd ka3 84 kb3 Zj (idO 0) (idO 2) M a e f zf oM (mI j C d Wg) (gV j C.qj1) WT WT lU Al WT) (fun v4 D4 zg O=>?_);rw[VX];have zh:=C.Xt zg;rw[To] at O;obtain⟨rfl,E,vt,vl,D,K,zi,i⟩:=O;have P:D4.Perm (D++((g,Vi (vp E.bd 0) vt vl (vi (kb3.n:Nat)))::K)):=i.perm.trans YA;have Q:=zh.perm P.symm;have R:=Q.qj1;rw[<-zi];refine ko @ex ?_;refine ky @ex ?_;refine Ow.Vd P.symm ?_;refine Ow.Wa (X:=D) (Y:=(g, Vi (vp E.bd 0) vt vl (vi (kb3.n:Nat)))::K) rfl rfl rfl call22 (fun a d e f=>UQ D E ka3 Vj [] a e f i.D.P (kY y d R) (fun h=>na y R (by rw[aV];exact aq _ h)) ((qL (q:=(ka3,[])) i.D.B 3).b oM) (.inl (Xz.nil a)) (fun h=>Vx rfl h) WT (fun k hk=>⟨(i.D.H k).2,i.D.Vl oM k hk⟩)) (fun v6 D6 zj zk=>?_);obtain⟨l,zl,zm⟩:=zk;have s:=Q.X1 zj;have zn:Yp D6 l ka4 84:=⟨zm,EU i.D.H _,Dq i.D.B _⟩;rw[<-zl] at s |-;have zo:Ext w [] D6:=⟨fun c F=>s.new c (by rw[aV];exact aq _ F),fun c F=>by cases F⟩;refine ko @ex ?_;refine ky @ex ?_;refine Ow.Wa (X:=D6) (Y:=(g, Vi (vp l.bd 0) vt vl (vi (kb3.n:Nat)))::K) rfl rfl rfl call8 (fun a d e f=>Bc D6 l ka4 84 a e f zn oM (mI j s d Wg) (gV j zo.qj1) TK) (fun v7 D7 zq zr=>?_);have zt:=s.X1 zq;obtain⟨zu,rfl,zv⟩:=zr.some Tm;have zw:=zt.qj1;have zx:∀a G,Hp w G a->(∀p,p∈ ((g,Vi (vp l.bd 0) vt vl (vi (kb3.n:Nat)))::K)->p∈G)->BoW a g l.bd kb3:=fun a G d H=>⟨vt,vl,d.has _ _ (H _ aX),gB i.t fun b o n=>d.has b o (H _ (ah _ n)),gB i.l fun b o n=>d.has b o (H _ (ah _ n))⟩;have t:(((0:Nat):Int)==0)=true:=rfl;have u:(((12:Nat):Int)==12)=true:=rfl;have x:((0:Int)==0)=true:=rfl;have c3:(((1:Nat):Int)==1)=true:=rfl;refine ko (qS2 @ex @t @u @x) ?_;refine ky (qS2 @ex @t @u @x) ?_;refine Ow.Wf rfl rfl call13 (fun a d=>Db zu l.bd kb3 Zj a (zv.W fun b o n=>d.has b o (aq _ n)) WT WT lU Al) (fun B8 v8 D8 zB zy zz zA=>?_);subst zA;rw[show fI kb3.t kb3.l Zj=(idO 1).l from T9];refine ko (qS2 @ex @t @u @x) ?_;refine Ow.build (.agg (a8 (idO 1).l)) rfl wO ?_;refine ko (qS3 @ex @T2 @t @u @x) ?_;refine Ow.Vc rfl call29 (fun a d=>Tz g l.bd kb3 a (zx a _ d (fun p hp=>by simp only[Wu];exact .inl (.inr hp)))) ?_;have S:(((kb3.n:Nat):Int)==1)=true:=rfl;refine ko (aN @ex @S) ?_;refine ky (aN @ex @S) ?_;refine⟨_,(ke @ex),zw.app (zz.mono zy),?_⟩
 rfl
end Go.Proofs
end
section
open Go Go.Proofs Go.Sx Go.RefP
namespace Go.Proofs
def g9(x:Vk):List Vk->Bool->List Vk
 | [],dn=>if dn then [] else [x]
 |p::r,dn=>if p.name==x.name then g9 x r dn else if !dn&& !(Ys p.name x.name||p.name==x.name) then x::p::g9 x r true else p::g9 x r dn
def Zs(l:List Vk)(x:Vk):List Vk:=g9 x l (x.id.l==z32)
theorem Cl(x:Vk):∀ (l:List Vk) (dn:Bool),Xn (g9 x l dn)=ig (x.name,x.id.l) (Xn l) dn
 | [],dn=>by cases dn<;>rfl
 |p::r,dn=>by
  unfold g9;have e:Xn (p::r)=(p.name,p.id.l)::Xn r:=rfl;rw[e,ig];simp only
  split
  .exact Cl x r dn
  split
  .show _::_::Xn _=_;rw[Cl x r true]
  show _::Xn _=_;rw[Cl x r dn]
def NP(l:List Vk)(x:Vk):Xn (Zs l x)=qg9 z32 (Xn l) (x.name,x.id.l):=Cl x l _
structure qn7 where
 g:Nat
 dn:Bool
 v:hU
 o:List Vk
 D:aA
def OQ(vl:hU)(l:List Vk)(x:Vk)(w:hW)(hl:cj w vl l)(zz:l.length<1000):
  Va prog 105 #[vl,.agg (aI x).toArray] w (XS w [] (fun v D=>Yq D 114 33 v (Zs l x).length ((Zs l x).map aI).flatten)):=by
 have zA:=x.id.h;obtain⟨t,o1,T,U,V,m⟩:=hl.row;refine Va.Vs func105 rfl (rs:=[.tmp 4]) results105 ntmps105 (fun p hp=>by cases hp) Wg ?_;refine kf ?_;refine ky @ad ?_;refine Ow.box rfl rfl fun a zB zf=>?_;refine Yx ?_;refine Ow.go rfl ?_;simp(disch:=first|exact dD|fail) only[↓Sx.S0,Sx.S1,fx,ad,Nat.reduceAdd,Nat.reducePow,Int.reducePow,Nat.reduceBEq,↓reduceIte,UInt8.reduceToNat,UInt16.reduceToNat,UInt32.reduceToNat,UInt64.reduceToNat,Int.reduceToNat];refine ky @ad ?_;refine Ow.build (.agg (a8 z32)) rfl kR ?_;refine ko @ad ?_;refine ky @ad ?_;refine Cw.VU (G:=qn7) [12,13,14,15,18,19,20,21,22,23,24,25,26,27,28,29,30,31,32,33,34,35,36,37,38,39,40,41,5,6,42,43,44,45,46,47,48,16,17,7] (fun g=>[(5,g.v),(6,.bool g.dn),(7,vi g.g)]) (fun g=>(a, Ve x)::g.D) (fun g=>g.g<=l.length/\Vq (a+1) g.D/\Gr g.D 114 33 g.v g.o.length (g.o.map aI).flatten/\Zs l x=g.o++g9 x (l.drop g.g) g.dn/\g.o.length<=g.g+ (if g.dn=true then 1 else 0)) (fun g=>l.length - g.g) ⟨0,x.id.l==z32, Vj,[],[]⟩ rfl rfl ?_ ?_
 .exact⟨aR _,trivial,Gr.nl,rfl,by simp⟩
 intro g j hg;refine kv ?_;obtain⟨g,dn,v,o,D⟩:=g;simp only at hg |-;obtain⟨zC,u,y,c,L⟩:=hg;by_cases N:g<l.length
 .have zg:=m.has oM;have zD:=m.lt oM;have zo:t∉keys D:=u.not oM;have z:aG w ((a,Ve x)::D) t=some (.cells T U V):=by
   rw[j_ _ _ _ _ _ oM,dr zo];exact zg
  have O:aF (some (false,1)) (some (.cells T U V)) (o1+g*33)=some (vs (l.getD g ar).name):=m.cell (j:=0) (n:=1) N oM;have P:=m.load bK oM N;have zq:l.drop g=l.getD g ar::l.drop (g+1):=by rw[qc1 N,List.getD_eq_getElem?_getD,List.getElem?_eq_getElem N];rfl
  rw[zq,g9] at c;generalize zE:l.getD g ar=p at*;refine ky (aN @ad m.len) ?_;refine Cw.Vu [t,a] [0,1,2,3,5,4,6,7] [] kR kR kR ?_;refine WQ ?_;refine kq (qS2 @ad m.idx @z @O) ?_
  try with_reducible refine Ow.nil ?_
  cases d:(p.name==x.name)
  .rw[d] at c;simp only[VW,↓reduceIte,YN] at c;refine ky @ad ?_;have zr:aG w ((a,Ve x)::D) a=some (Ve x):=g3 _ _ _ _;cases dn
   .simp only[W6,XA] at c;simp only[VW,↓reduceIte] at L;cases Q:Ys p.name x.name
    .have W:Op.bytesLess p.name x.name=false:=Q;rw[Q] at c;simp only[W6,↓reduceIte] at c;refine Cw.Vu [t,a] [0,1,2,3,4,5,6,8,7,9,10,11] [] kR kR kR ?_;refine WQ ?_;refine kq (aN @ad (aN m.idx (aN @z (aN @O (aN @d (@W)))))) ?_
     try with_reducible refine Ow.nil ?_
     refine ky @ad ?_;refine Ow.buildSlice (e:=114) (aI x).toArray rfl rfl (ia x) fun b8 Y zt=>?_;have zu:a<b8:=aQ Y Wg;refine Ow.Vd (M:=D++((a,Ve x)::[(b8,Ve x)])) YA ?_;refine Ow.XP (e:=114) (k:=1) (new:=aI x) (X:=D) v rfl rfl rfl rfl underlying57 YI kR eR (by rw[eI,Wd,bK]) underlying57 (by intro k h;cases h) y (fun R r=>W0.X6 (r.has b8 (Ve x) V_) (bK x) (gU x)) oM oM (fun Z v2 D2 za zv zb zw zc zx=>?_);have zy:a<Z:=aQ za (by simp[aV,keys]);have zd:Vq (a+1) D2:=Vq.of_le fun i d=>by
      rcases zc i d with h|h
      .exact u.le i h
      omega
     refine Ow.Vd (M:=(a,Ve x)::(D2++[(b8,Ve x)])) YA ?_;have ze:Gr (D2++[(b8,Ve x)]) 114 33 v2 _ _:=Gr.app (.inl zb);have S:Vq (a+1) (D2++[(b8,Ve x)]):=zd.app ⟨by omega,trivial⟩;generalize D2++[(b8,Ve x)]=A at*;have zh:aG w ((a,Ve x)::A) t=some (.cells T U V):=by rw[j_ _ _ _ _ _ oM,dr (S.not oM)];exact zg
     refine ko (qS2 @ad m.idx @zh @P) ?_;refine ky (qS2 @ad m.idx @zh @P) ?_;refine Ow.buildSlice (e:=114) (aI p).toArray rfl rfl (ia p) fun b B zi=>?_;have zj:a<b:=aQ B Wg;refine Ow.Vd (M:=A++((a,Ve x)::[(b,Ve p)])) YA ?_;refine Ow.XP (e:=114) (k:=1) (new:=aI p) (X:=A) v2 rfl rfl rfl rfl underlying57 YI kR eR (by rw[eI,Wd,bK]) underlying57 (by intro k h;cases h) ze (fun R r=>W0.X6 (r.has b (Ve p) V_) (bK p) (gU p)) oM oM (fun C q f E zk F zl H zm=>?_);have zn:a<C:=aQ E (by simp[aV,keys]);have I:Vq (a+1) f:=Vq.of_le fun i d=>by
      rcases H i d with h|h
      .exact S.le i h
      omega
     refine Ow.Vd (M:=(a,Ve x)::(f++[(b,Ve p)])) YA ?_;have J:Gr (f++[(b,Ve p)]) 114 33 q _ _:=Gr.app (.inl F);have K:Vq (a+1) (f++[(b,Ve p)]):=I.app ⟨by omega,trivial⟩;generalize f++[(b,Ve p)]=s at*;refine ko @ad ?_;refine ky @ad ?_;refine Vo.mk (qn7.mk (g+1) true q (o++[x]++[p]) s) (by show l.length - (g+1)<l.length - g;omega) ⟨by show g+1<=l.length;omega,K,?_,by show Zs l x=o++[x]++[p]++g9 x (l.drop (g+1)) true;rw[c];simp,by simp;omega⟩ rfl rfl;show Gr s 114 33 q (o++[x]++[p]).length (((o++[x]++[p])).map aI).flatten;simpa using J
    have W:Op.bytesLess p.name x.name=true:=Q;rw[Q] at c;simp only[YT,VW,↓reduceIte] at c;refine Cw.Vu [t,a] [0,1,2,3,4,5,6,8,7,9,10,11] [] kR kR kR ?_;refine WQ ?_;refine kq (aN @ad (aN m.idx (aN @z (aN @O (aN @d (@W)))))) ?_
    try with_reducible refine Ow.nil ?_
    refine ky (qS2 @ad m.idx @z @P) ?_;refine Ow.buildSlice (e:=114) (aI p).toArray rfl rfl (ia p) fun b B zi=>?_;have zj:a<b:=aQ B Wg;refine Ow.Vd (M:=D++((a,Ve x)::[(b,Ve p)])) YA ?_;refine Ow.XP (e:=114) (k:=1) (new:=aI p) (X:=D) v rfl rfl rfl rfl underlying57 YI kR eR (by rw[eI,Wd,bK]) underlying57 (by intro k h;cases h) y (fun R r=>W0.X6 (r.has b (Ve p) V_) (bK p) (gU p)) oM oM (fun C q f E zk F zl H zm=>?_);have zn:a<C:=aQ E (by simp[aV,keys]);have I:Vq (a+1) f:=Vq.of_le fun i d=>by
     rcases H i d with h|h
     .exact u.le i h
     omega
    refine Ow.Vd (M:=(a,Ve x)::(f++[(b,Ve p)])) YA ?_;have J:Gr (f++[(b,Ve p)]) 114 33 q _ _:=Gr.app (.inl F);have K:Vq (a+1) (f++[(b,Ve p)]):=I.app ⟨by omega,trivial⟩;generalize f++[(b,Ve p)]=s at*;refine ko @ad ?_;refine ky @ad ?_;refine Vo.mk (qn7.mk (g+1) false q (o++[p]) s) (by show l.length - (g+1)<l.length - g;omega) ⟨by show g+1<=l.length;omega,K,?_,by show Zs l x=o++[p]++g9 x (l.drop (g+1)) false;rw[c];simp,by simp;omega⟩ rfl rfl;show Gr s 114 33 q (o++[p]).length (((o++[p])).map aI).flatten;simpa using J
   simp only[YT,Xv,VW,↓reduceIte] at c;simp only[↓reduceIte] at L;refine Cw.Vu [t,a] [0,1,2,3,4,5,6,8,7,9,10,11] [] kR kR kR ?_;refine WQ ?_;refine kq (qS3 @ad m.idx @z @O @d) ?_
   try with_reducible refine Ow.nil ?_
   refine ky (qS2 @ad m.idx @z @P) ?_;refine Ow.buildSlice (e:=114) (aI p).toArray rfl rfl (ia p) fun b B zi=>?_;have zj:a<b:=aQ B Wg;refine Ow.Vd (M:=D++((a,Ve x)::[(b,Ve p)])) YA ?_;refine Ow.XP (e:=114) (k:=1) (new:=aI p) (X:=D) v rfl rfl rfl rfl underlying57 YI kR eR (by rw[eI,Wd,bK]) underlying57 (by intro k h;cases h) y (fun R r=>W0.X6 (r.has b (Ve p) V_) (bK p) (gU p)) oM oM (fun C q f E zk F zl H zm=>?_);have zn:a<C:=aQ E (by simp[aV,keys]);have I:Vq (a+1) f:=Vq.of_le fun i d=>by
    rcases H i d with h|h
    .exact u.le i h
    omega
   refine Ow.Vd (M:=(a,Ve x)::(f++[(b,Ve p)])) YA ?_;have J:Gr (f++[(b,Ve p)]) 114 33 q _ _:=Gr.app (.inl F);have K:Vq (a+1) (f++[(b,Ve p)]):=I.app ⟨by omega,trivial⟩;generalize f++[(b,Ve p)]=s at*;refine ko @ad ?_;refine ky @ad ?_;refine Vo.mk (qn7.mk (g+1) true q (o++[p]) s) (by show l.length - (g+1)<l.length - g;omega) ⟨by show g+1<=l.length;omega,K,?_,by show Zs l x=o++[p]++g9 x (l.drop (g+1)) true;rw[c];simp,by simp;omega⟩ rfl rfl;show Gr s 114 33 q (o++[p]).length (((o++[p])).map aI).flatten;simpa using J
  rw[d] at c;simp only[↓reduceIte] at c;refine ky @ad ?_;exact Vo.mk (qn7.mk (g+1) dn v o D) (by show l.length - (g+1)<l.length - g;omega) ⟨by show g+1<=l.length;omega,u,y,c,Xq L (Nat.add_le_add_right (Nat.le_succ g) _)⟩ rfl rfl
 obtain rfl:g=l.length:=by omega
 rw[List.drop_length,g9] at c;have zr:aG w ((a,Ve x)::D) a=some (Ve x):=g3 _ _ _ _;refine ky (aN @ad m.len) ?_;have zF:o.length<=l.length+1:=by cases dn<;>simp at L<;>omega
 cases dn
 .simp only[VW,↓reduceIte] at c;refine ky @ad ?_;refine Ow.buildSlice (e:=114) (aI x).toArray rfl rfl (ia x) fun b8 Y zt=>?_;have zu:a<b8:=aQ Y Wg;refine Ow.Vd (M:=D++((a,Ve x)::[(b8,Ve x)])) YA ?_;refine Ow.XP (e:=114) (k:=1) (new:=aI x) (X:=D) v rfl rfl rfl rfl underlying57 YI kR eR (by rw[eI,Wd,bK]) underlying57 (by intro k h;cases h) y (fun R r=>W0.X6 (r.has b8 (Ve x) V_) (bK x) (gU x)) oM oM (fun Z v2 D2 za zv zb zw zc zx=>?_);have zy:a<Z:=aQ za (by simp[aV,keys]);have zd:Vq (a+1) D2:=Vq.of_le fun i d=>by
   rcases zc i d with h|h
   .exact u.le i h
   omega
  refine Ow.Vd (M:=(a,Ve x)::(D2++[(b8,Ve x)])) YA ?_;have ze:Gr (D2++[(b8,Ve x)]) 114 33 v2 _ _:=Gr.app (.inl zb);have S:Vq (a+1) (D2++[(b8,Ve x)]):=zd.app ⟨by omega,trivial⟩;generalize D2++[(b8,Ve x)]=A at*;refine ko @ad ?_;refine ky @ad ?_;refine⟨_,(ke @ad),?_⟩;refine⟨Ext.Vt ⟨zf,S.mono oM⟩,?_⟩;rw[c];refine Gr.i (X:=A) ?_ (fun i d=>by simp[d]);simpa [bS] using ze
 simp only[↓reduceIte,VX] at c;refine ky @ad ?_;refine⟨_,(ke @ad),?_⟩;refine⟨Ext.Vt ⟨zf,u.mono oM⟩,?_⟩;rw[c];exact y.i fun i d=>by simp[d]
end Go.Proofs
end
