/-
  Part 6 of the walk: contracts of the functions that the law reaches, and the calculus they stand on.
  No conditions.
-/
import Derived.Test.YtldgnkgllhmnbaaGreatDoorH5
set_option linter.unusedVariables false
set_option maxRecDepth 10000
set_option maxHeartbeats 1000000
set_option linter.unusedSimpArgs false
set_option linter.defProp false
open Go.Proofs.Tryz
section
open Go Go.Proofs Go.Sx Go.StP Go.RefP
namespace Go.Proofs
def BoO(o:hU)(bd:Nat)(S:h8)(N:Nat)(P:Option Xh)(X:aA):Prop:=
 match P with
 |none=>o=.pointer none/\ ∃G,G.bd=bd/\Yp X G S N
 |some B=> ∃a,o=vp a 0/\BoP a bd S N B X
def RoO(o:hU)(a:Nat)(S:h8)(N:Nat)(P:Option Xh)(X:aA):Prop:=
 match P with
 |none=>o=.pointer none/\ ∃C,C.bd=a/\XT X C S/\ZH S N
 |some B=> ∃b,o=vp b 0/\RoP b a S N B X
def qt6(R:Option Xh×Nat×h8):Nat:=match R.1 with|none=>R.2.1|some _=>0
theorem qg5.o{bd:Nat}{R:Option Xh×Nat×h8}{N:Nat}{v:hU}{D:aA}(h:qg5 bd R N v D):∃o,v=.tuple #[o,vi (qt6 R:Nat)]/\BoO o bd R.2.2 N R.1 D:=by
 obtain⟨P,e,S⟩:=R;cases P with
 |none=>obtain⟨a,b⟩:=h;exact⟨_,a,rfl,b⟩
 |some B=>obtain⟨c,a,b⟩:=h;exact⟨_,a,c,rfl,b⟩
theorem qi6.o{c:Nat}{R:Option Xh×Nat×h8}{N:Nat}{v:hU}{D:aA}(h:qi6 c R N v D):∃o,v=.tuple #[o,vi (qt6 R:Nat)]/\RoO o c R.2.2 N R.1 D:=by
 obtain⟨P,e,S⟩:=R;cases P with
 |none=>obtain⟨a,b⟩:=h;exact⟨_,a,rfl,b⟩
 |some B=>obtain⟨d,a,b⟩:=h;exact⟨_,a,d,rfl,b⟩
def RoP.le{b c:Nat}{S:h8}{N M:Nat}{B:Xh}{X:aA}(h:RoP b c S N B X)(d:N<=M):RoP b c S M B X:=by obtain⟨C,vt,vl,D,K,e,a⟩:=h;exact⟨C,vt,vl,D,K,e,⟨a.perm,a.D,a.A.mono d,a.t,a.l⟩⟩
theorem BoO.le{o:hU}{bd:Nat}{S:h8}{N M:Nat}{P:Option Xh}{X:aA}(h:BoO o bd S N P X)(c:N<=M):BoO o bd S M P X:=by
 cases P with
 |none=>obtain⟨a,G,b,d⟩:=h;exact⟨a,G,b,d.le c⟩
 |some B=>obtain⟨e,a,b⟩:=h;exact⟨e,a,b.le c⟩
theorem RoO.le{o:hU}{c:Nat}{S:h8}{N M:Nat}{P:Option Xh}{X:aA}(h:RoO o c S N P X)(d:N<=M):RoO o c S M P X:=by
 cases P with
 |none=>obtain⟨a,C,b,e,f⟩:=h;exact⟨a,C,b,e,f.mono d⟩
 |some B=>obtain⟨g,a,b⟩:=h;exact⟨g,a,b.le d⟩
theorem BoO.dk{o:hU}{bd:Nat}{S:h8}{N:Nat}{P:Option Xh}{X:aA}(h:BoO o bd S N P X)(a:(keys X).Nodup):∃G,G.bd=bd/\Yp X G S N:=by
 cases P with
 |none=>exact h.2
 |some B=>obtain⟨c,-,b⟩:=h;exact b.dk a
def RoP.dc{b c:Nat}{S:h8}{N:Nat}{B:Xh}{X:aA}(h:RoP b c S N B X)(d:(keys X).Nodup):∃C,C.bd=c/\XT X C S/\ZH S N:=by obtain⟨C,vt,vl,D,K,e,a⟩:=h;refine⟨C,e,vY (X:=D++((b, Vv (vp C.bd 0) vt vl (vi (B.n:Nat)))::K)) (qw a.D) ?_ ((a.perm.trans XJ).symm),a.A⟩;exact(((a.perm.trans XJ).map Prod.fst).nodup_iff).1 d
theorem RoO.dc{o:hU}{a:Nat}{S:h8}{N:Nat}{P:Option Xh}{X:aA}(h:RoO o a S N P X)(b:(keys X).Nodup):∃C,C.bd=a/\XT X C S/\ZH S N:=by
 cases P with
 |none=>exact h.2
 |some B=>obtain⟨d,-,c⟩:=h;exact c.dc b
def BoO.nl{o:hU}{bd:Nat}{S:h8}{N:Nat}{P:Option Xh}{X:aA}(h:BoO o bd S N P X):ak prog .eql 30 o (.pointer none)=some (.bool P.isNone):=by
 cases P with
 |none=>obtain⟨rfl,-⟩:=h;exact Si
 |some B=>obtain⟨a,rfl,-⟩:=h;exact j0 a 0
def Aq(b o:Nat):ak prog .eql 34 (vp b o) (.pointer none)=some (.bool false):=by simp[ak,Zq,cm,cg,underlying34,vp]
def Rg:ak prog .eql 34 (.pointer none) (.pointer none)=some (.bool true):=by simp[ak,Zq,cm,cg,underlying34]
def Sa(b o:Nat):ak prog .neq 34 (vp b o) (.pointer none)=some (.bool true):=by simp[ak,Zq,cm,cg,underlying34,vp]
def Qa:ak prog .neq 34 (.pointer none) (.pointer none)=some (.bool false):=by simp[ak,Zq,cm,cg,underlying34]
def RoO.nl{o:hU}{a:Nat}{S:h8}{N:Nat}{P:Option Xh}{X:aA}(h:RoO o a S N P X):ak prog .eql 34 o (.pointer none)=some (.bool P.isNone):=by
 cases P with
 |none=>obtain⟨rfl,-⟩:=h;exact Rg
 |some B=>obtain⟨b,rfl,-⟩:=h;exact Aq b 0
def Ad(b:Bool):ak prog .neq 4 (.bool b) (.bool b)=some (.bool false):=by cases b<;>rfl
def Uc{S:h8}:∀B,(g6 S).1=some B->am B.t B.l=true:=fun _ h=>(J3 h).1
def jle{i n:Nat}(h:n<=1200+200*i:=by omega):n<=1000+200* (i+1):=by omega
def jlw{i n:Nat}(h:n<=151000+1000*i:=by omega):n<=150000+1000* (i+1):=by omega
structure BpG where
 i:Nat
 o:hU
 p:hU
 P:Option Xh
 S:h8
 X:aA
 Y:aA
 DG:aA
structure BqG where
 e:Nat
 o:hU
 p:hU
 P:Option Xh
 S:h8
 X:aA
 Y:aA
 DG:aA
def bC:=aN (aN (aN (qS1 @bA @b9 @Sx.Wk) (qS1 @Sx.Wl @Yk @Yl)) (aN (qS1 @Ym @wv @w2) (qS1 @un @vK @vM))) (aN (aN (qS1 @um @uk @ve) (qS1 @K8 @j0 @Aq)) (aN (qS1 @Sa @Qa @gL) (aN (aN @gQ @gP) (aN @gM @gS))))
def Ef(N:Int)(v1 v2:hU)(l:List XU)(A:List Z0)(w:hW)(hG:jT w)(y:Wz w)(hq: -9223372036854775808<=N/\N<9223372036854775808)(hv:qg4 w v1 l)(hb:FiB l)(yl:qF2 w v2 A)(yX:∀a,a∈A->PkS w a.picks.v a.picks.l)(yY:∀a,a∈A-> -9223372036854775808<=a.n/\a.n<9223372036854775808):
  Va prog 3 #[vi N,v1,v2] w (fun v D=>v=.bool true/\D=[]):=by
 have ln:=yl.len;obtain⟨rb,off,arr,Er,fz,W⟩:=yl.row;have zH:Vq w.heap.size ([]:aA):=trivial;refine Va.Vr func3 rfl (rs:=[.tmp 6]) results3 ntmps3 ?_;refine kf ?_;refine ky @bC ?_;refine Ow.Vc rfl call4 (fun m d=>BM m (kY hG d zH) (Wz.of y d (gV y zH))) ?_;refine ko @bC ?_;refine ky @bC ?_;refine Ow.Vc rfl call5 (fun m d=>F_ v1 Vj l [] m (hv.WO d trivial) hb (Xz.nil m) V_) ?_;cases yZ:mw l [] with
 |true=>
  refine ko @bC ?_;refine ky @bC ?_;refine Ow.Vc rfl call4 (fun m d=>BM m (kY hG d zH) (Wz.of y d (gV y zH))) ?_;refine ko @bC ?_;refine ky @bC ?_;refine⟨_,(ke @bC),zH,?_⟩
  rfl
 |false=>
  obtain⟨xI,-,ym⟩:=ND yZ;refine ko @bC ?_;refine ky @bC ?_;refine Ow.Wf rfl rfl call6 (fun m d=>OH N v1 l m hq (kY hG d trivial) (hv.WO d trivial) oM hb) (fun B0 v0 D0 y0 yn yo y1=>?_);obtain⟨G0,rfl,zQ⟩:=y1;rw[Vy];have zI:Vq w.heap.size D0:=yo.mono yn;have z1:Yp D0 G0 (ofD N l) l.length:=⟨zQ,wJ N l,Sb N l fun f hf=>by have:=(ym f hf).1;omega⟩;refine ko @bC ?_;refine Ow.Wf rfl rfl call7 (fun m d=>N_ N v1 l m hq (hv.WO d zI) oM hb) (fun B1 xJ E0 y2 yp yq y3=>?_);obtain⟨C0,rfl,yr⟩:=y3;have z2:Vq w.heap.size E0:=yq.mono yp;have ys:=zI.app z2;have zJ:ZH (ofD N l) l.length:=⟨zQ.ok,z1.B,Qi N l⟩;have O:WlS 150000 (ofD N l):=⟨Yj.of zQ.ok,Rl N l fun f hf=>by have:=(ym f hf).2;omega⟩;have yt:=O.read;have zR:=O.open (aj _);have zS:=Uc (S:=ofD N l);refine ko @bC ?_;refine ky @bC ?_;refine Ow.Wa (X:=D0) (Y:=E0) rfl rfl rfl call8 (fun m d t u=>Bc D0 G0 (ofD N l) l.length m t u z1 oM (Wz.of y d (gV y ys)) (gV y zI) oM) (fun xK X yu yv=>?_);have F:=fd yu zI;obtain⟨o,rfl,hO⟩:=yv.o;refine ko @bC ?_;refine ky @bC ?_;refine Ow.Vd (M:=E0++X) XJ ?_;refine Ow.Wa (X:=E0) (Y:=X) rfl rfl rfl call9 (fun m d t u=>rk E0 C0 (ofD N l) l.length m t u yr zJ oM oM) (fun xL Y yw yx=>?_);have J:=fd yw z2;obtain⟨q,rfl,hR⟩:=yx.o;generalize g6 (ofD N l)=R at*;have hz:=qi4 (qt6 R:Int);have zT:=hO.nl;have zU:=hR.nl;have zV:=Ad R.1.isNone;refine ko @bC ?_;refine ky (qS3 @bC @hz @zT @zU @zV) ?_;generalize G0.bd=bd at*;generalize C0.bd=cd at*;refine Cw.Vd (M:=X++(Y++[])) XJ ?_;refine Cw.VU (G:=BpG) [46,47,48,49,50,51,52,53,54,55,56,57,60,61,62,63,14,64,65,10,12,66,67,68,70,69,71,72,73,74,75,76,77,78,79,80,81,82,83,84,85,86,87,88,89,90,91,92,93,94,96,95,97,98,99,100,102,101,103,104,105,106,107,108,109,110,112,111,113,114,115,116,117,118,119,120,122,121,123,124,125,126,127,128,129,130,132,133,131,134,135,9,137,138,136,139,140,11,141,142,143,144,145,6,146,147,148,149,150,151,152,153,154,155,156,157,158,159,160,161,162,163,164,165,166,167,168,169,170,171,172,173,174,175,176,177,58,59,13] (fun g=>[(9,g.o),(11,g.p),(13,vi (g.i:Nat))]) (fun g=>g.X++(g.Y++g.DG)) (fun g=>g.i<=A.length/\g.i<=30/\BoO g.o bd g.S (1000+200*g.i) g.P g.X/\RoO g.p cd g.S (1000+200*g.i) g.P g.Y/\(∀B,g.P=some B->am B.t B.l=true)/\WlS (150000+1000*g.i) g.S/\Vq w.heap.size g.X/\Vq w.heap.size g.Y/\Vq w.heap.size g.DG) (fun g=>A.length - g.i) ⟨0,o,q,R.1,R.2.2,X,Y,[]⟩ rfl rfl ?_ ?_
  .exact⟨aR _,aR _,hO.le oM,hR.le oM,zS,zR,F,J,trivial⟩
  intro g j hg;refine kv ?_;clear hO hR zS zR F J hz zT zU zV yv yx yu yw yo yq zI z2 ys z1 zJ O yt yr zQ y0 y2 yn yp X Y;obtain⟨i,o,q,P,S,X,Y,DG⟩:=g;simp only at hg |-;obtain⟨hi,xM,hO,hR,ze,O,F,J,U⟩:=hg;have V:Vq w.heap.size (X++(Y++DG)):=F.app (J.app U);by_cases zf:i<A.length/\i<30
  .have d1:decide ((i:Int)< (A.length:Int))=true:=aP oM;have d2:decide ((i:Int)<30)=true:=aP oM;cases P with
   |none=>
    obtain⟨rfl,-⟩:=hR;refine ky (qS2 @bC @ln @d1 @d2) ?_;refine Ow.Vc rfl call4 (fun m d=>BM m (kY hG d V) (Wz.of y d (gV y V))) ?_;refine ko @bC ?_;refine ky @bC ?_;refine⟨_,(ke @bC),V,?_⟩
    rfl
   |some B=>
    obtain⟨n,rfl,zg⟩:=hO;obtain⟨s,rfl,zh⟩:=hR;have zi:=ze B rfl;have za:=BkR.of zi;have y4:=za.tl;have y5:=za.ll;have ix:=W.idx true i zf.1;have yy:aG w (X++(Y++DG)) rb=some (.cells arr Er fz):=by rw[dr (V.not (W.lt oM))];exact W.has oM
    have y6:=Ri W zf.1;have yz:A.getD i at0∈A:=StP.W9 zf.1;generalize A.getD i at0=a at*;have zj:=yX a yz;have yA:=yY a yz;have xN:=a.id.h;refine kz [12,1000017] (qS5 @bC @ln @d1 @d2 @ix @yy @y6) ?_;refine Ow.alloc rfl rfl qS0 fun c yB zo=>?_;simp only[ag,Vy,Wp];refine Ow.Vd (M:=(c, Wj at0)::(X++(Y++DG))) XJ ?_;have yC:Vq w.heap.size ((c,Wj a)::(X++(Y++DG))):=⟨zo,V⟩;have z3:Vq w.heap.size ((c,Wj a)::DG):=⟨zo,U⟩;refine ko @bC ?_;refine kz [12,1000017] @bC ?_;refine Ow.Vc rfl call10 (fun m d=>Gl a m (zj.WO d yC)) ?_;cases z4:iq a with
    |true=>refine ko @bC ?_;refine Cw.Vd (M:=X++(Y++((c, Wj a)::DG))) XJ ?_;refine ky @bC ?_;exact Vo.mk ⟨i+1,vp n 0,vp s 0,some B,S,X,Y,(c, Wj a)::DG⟩ (by show A.length - (i+1)<A.length - i;omega) ⟨zf.1,zf.2,⟨n,rfl,zg.le jle⟩,⟨s,rfl,zh.le jle⟩,ze,O.le jlw,F,J,z3⟩ rfl rfl
    |false=>
     obtain⟨g1,g2⟩:=Ko z4;have zq:=T6 a.kind;refine ko @bC ?_;refine Cw.Vd (M:=Y++(X++((c, Wj a)::DG))) XJ ?_;refine Cw.world fun wz Z=>?_;have zz:=Z.nodup;clear Z wz;have zA:c∉keys X:=fun H=>by have:=aQ yB (b:=c) (by rw[aV];exact aq _ H);omega
     have zr:c∉keys Y:=fun H=>by have:=aQ yB (b:=c) (by rw[aV,aV];exact cJ _ (aq _ H));omega
     have zt:=lY w (Wj a) DG zr zA;have yD:=lY w (Wj a) DG zA zr;have zW:Vq w.heap.size (X++(Y++((c,Wj a)::DG))):=F.app (J.app z3);refine kz [12,1000017] @bC ?_;refine Cw.ZO (G:=BqG) [9,10,11,12,66,67,68,69,70,71,72,73,74,75,76,77,78,79,80,81,82,83,84,85,86,87,88,89,90,91,92,93,94,95,96,97,98,99,100,101,102,103,104,105,106,107,108,109,110,111,112,113,114,115,116,117,118,119,120,121,122,123,124,125,126,127,128,129,130,131,132,133,134,135,136,137,138,139,140,141,142,143,144,145] (fun g=>[(9,g.o),(10,vi (g.e:Nat)),(11,g.p),(12,vi (g.e:Nat))]) (fun g=>g.Y++(g.X++((c, Wj a)::g.DG))) (fun g=>BoO g.o bd g.S (1000+200* (i+1)) g.P g.X/\RoO g.p cd g.S (1000+200* (i+1)) g.P g.Y/\(∀B,g.P=some B->am B.t B.l=true)/\WlS (150000+1000* (i+1)) g.S/\Vq w.heap.size g.X/\Vq w.heap.size g.Y/\Vq w.heap.size g.DG) ?_ ?_
     .by_cases k0:a.kind.tmod 5=0
      .have e0:(a.kind.tmod 5==0)=true:=W8.2 k0;refine ky (qS2 @bC @zt @zq @e0) ?_;refine Cw.Vd (M:=X++(Y++((c, Wj a)::DG))) XJ ?_;have yE:c∈keys (X++(Y++((c,Wj a)::DG))):=by simp[keys]
       refine Cw.Yh [c] [] 13 kR rfl ?_;refine kyc ?_;refine Xx.run [0,1,2,3,4,5,6,9,10] [true,true,true,true,true,true,true,false,false,true,true,false,false] 4 rfl kR kR fun k hk=>?_;refine WQ ?_;refine kp (qS1 @bC @Md.Ww @yD) ?_
       (with_reducible refine hk _ _ _ ?_);clear hk k
       refine Xx.one 7 _ kR rfl ?_;refine Ow.Wf rfl rfl call13 (fun m d=>Db n bd B a.name m (zg.W fun b o H=>d.has b o (aq _ H)) oM oM za.t.short za.l.short) (fun B7 v7 D7 yF y7 zB z5=>?_);have yG:=zB.mono y7;refine Ow.nil ?_;refine⟨(fC (fun r W=>by rw[VZ.1 W];exact yE)),?_⟩;refine kyb ?_;refine Xx.one 8 _ kR rfl ?_;subst z5;refine Ow.Vc rfl call12 (fun m d=>sb a (qi3 B a.name) m) ?_
       with_reducible refine Ow.ZQ ?_
       refine kyb ?_;refine Xx.one 11 _ kR rfl ?_;have y8:=zW.app yG;refine Ow.Wa (X:=X) (Y:=(Y++((c, Wj a)::DG))++D7) (Wb _ _ _) rfl rfl call11 (fun m d t u=>Eb n bd S (1000+200*i) B a.name (qi0 a (qi3 B a.name)) a.id X m t u zg oM (Wz.of y d (gV y y8)) (gV y F) oM oM za.t.short za.l.short oM) (fun v9 D9 zb zk=>?_);obtain⟨rfl,zu⟩:=zk;have zl:=fd zb F;have zX:c∉keys D9:=fe zb zA (by rw[aV];exact aq _ yE);refine Ow.nil ?_;refine⟨(fun r W=>by rw[VZ.1 W];refine(e8 zX).trans ?_;rw[Wb X];exact(e8 zA).symm),?_⟩;refine kyb ?_;refine Xx.rest [12] rfl kR kR ?_;refine WQ ?_;refine kq @bC ?_;refine Cw.Vd (M:=Y++(D9++((c, Wj a)::(DG++D7)))) XJ ?_;have yH:c∈keys (Y++(D9++((c,Wj a)::(DG++D7)))):=by simp[keys]
       have y9:=lY w (Wj a) (DG++D7) zr zX;refine Cw.Yh [c] [] 13 kR rfl ?_;refine kyc ?_;refine Xx.run [0,1,2,3,4,5,6,9,10] [true,true,true,true,true,true,true,false,false,true,true,false,false] 4 rfl kR kR fun k hk=>?_;refine WQ ?_;refine kp (qS1 @bC @Md.Ww @y9) ?_
       (with_reducible refine hk _ _ _ ?_);clear hk k
       refine Xx.one 7 _ kR rfl ?_;refine Ow.Wf rfl rfl call15 (fun m d=>UE s cd B a.name m (zh.W fun b o H=>d.has b o (aq _ H)) zi oM oM za.t.short za.l.short) (fun B8 v8 D8 xO xa z6 zK=>?_);have xb:=z6.mono xa;refine Ow.nil ?_;refine⟨(fC (fun r W=>by rw[VZ.1 W];exact yH)),?_⟩;refine kyb ?_;refine Xx.one 8 _ kR rfl ?_;subst zK;refine Ow.Vc rfl call12 (fun m d=>sb a (qi3 B a.name) m) ?_
       with_reducible refine Ow.ZQ ?_
       refine kyb ?_;refine Xx.one 11 _ kR rfl ?_;refine Ow.Wa (X:=Y) (Y:=(D9++((c, Wj a)::(DG++D7)))++D8) (Wb _ _ _) rfl rfl call14 (fun m d t u=>FU s cd S (1000+200*i) B a.name (qi0 a (qi3 B a.name)) a.id Y m t u zh oM zi za oM) (fun z7 zC zm zv=>?_);obtain⟨rfl,zL⟩:=zv;have zw:=fd zm J;have xc:c∉keys zC:=fe zm zr (by rw[aV];exact aq _ yH);refine Ow.nil ?_;refine⟨(fun r W=>by rw[VZ.1 W];refine(e8 xc).trans ?_;rw[Wb Y];exact(e8 zr).symm),?_⟩;refine kyb ?_;refine Xx.rest [12] rfl kR kR ?_;refine WQ ?_;have zM:=LC (S:=S) a.name (qi0 a (qi3 B a.name)) a.id zi;have zd:=O.upd B a.name (qi0 a (qi3 B a.name)) a.id;generalize eC S B a.name (qi0 a (qi3 B a.name)) a.id=zc at*;refine kq @bC ?_;exact WY.mk ⟨zc.1,vp n 0,vp s 0,some zc.2.2,zc.2.1,D9,zC,DG++(D7++D8)⟩ ⟨⟨n,rfl,zu.le jle⟩,⟨s,rfl,zL.le jle⟩,(fun B' h=>by cases h;exact zM),zd.le jlw,zl,zw,U.app (yG.app xb)⟩ V_ rfl
      have e0:(a.kind.tmod 5==0)=false:=WN.2 k0;by_cases k1:a.kind.tmod 5=1
      .have e1:(a.kind.tmod 5==1)=true:=W8.2 k1;refine ky (qS3 @bC @zt @zq @e0 @e1) ?_;refine Ow.Vd (M:=X++(Y++((c, Wj a)::DG))) XJ ?_;refine Ow.Wa (X:=X) (Y:=Y++((c, Wj a)::DG)) rfl rfl rfl call16 (fun m d t u=>C' n bd S (1000+200*i) B X m t u zg) (fun v9 D9 zb zk=>?_);obtain⟨rfl,zu⟩:=zk;have zl:=fd zb F;refine ko @bC ?_;refine ky @bC ?_;refine Ow.Vd (M:=Y++(D9++((c, Wj a)::DG))) XJ ?_;refine Ow.Wa (X:=Y) (Y:=D9++((c, Wj a)::DG)) rfl rfl rfl call17 (fun m d t u=>US s cd S (1000+200*i) B Y m t u zh oM) (fun z7 zC zm zv=>?_);obtain⟨rfl,zL⟩:=zv;have zw:=fd zm J;have zM:=KG (S:=S) zi;have zd:=O.sync B;generalize cw S B=zc at*;refine ko @bC ?_;exact WY.mk ⟨zc.1,vp n 0,vp s 0,some zc.2.2,zc.2.1,D9,zC,DG⟩ ⟨⟨n,rfl,zu.le jle⟩,⟨s,rfl,zL.le jle⟩,(fun B' h=>by cases h;exact zM),zd.le jlw,zl,zw,U⟩ rfl rfl
      have e1:(a.kind.tmod 5==1)=false:=WN.2 k1;by_cases k2:a.kind.tmod 5=2
      .have e2:(a.kind.tmod 5==2)=true:=W8.2 k2;refine ky (qS4 @bC @zt @zq @e0 @e1 @e2) ?_;refine Ow.Vd (M:=X++(Y++((c, Wj a)::DG))) XJ ?_;refine Ow.Wa (X:=X) (Y:=Y++((c, Wj a)::DG)) rfl rfl rfl call18 (fun m d t u=>Hl n bd S (1000+200*i) B a.n X m t u zg oM (Wz.of y d (gV y zW)) (gV y F) oM oM za.t za.l) (fun v9 D9 zb zk=>?_);obtain⟨rfl,zu⟩:=zk;have zl:=fd zb F;have zX:c∉keys D9:=fe zb zA Wg;have xd:=lY w (Wj a) DG zX zr;refine ko @bC ?_;refine ky (aN @bC @xd) ?_;refine Ow.Vd (M:=Y++(D9++((c, Wj a)::DG))) XJ ?_;refine Ow.Wa (X:=Y) (Y:=D9++((c, Wj a)::DG)) rfl rfl rfl call19 (fun m d t u=>Ho s cd S (1000+200*i) B a.n Y m t u zh oM zi za) (fun z7 zC zm zv=>?_);obtain⟨rfl,zL⟩:=zv;have zw:=fd zm J;have zM:=KX (S:=S) a.n zi;have zd:=O.trim oM zi a.n;generalize fJ S B a.n=zc at*;refine ko @bC ?_;exact WY.mk ⟨zc.1,vp n 0,vp s 0,some zc.2.2,zc.2.1,D9,zC,DG⟩ ⟨⟨n,rfl,zu.le jle⟩,⟨s,rfl,zL.le jle⟩,(fun B' h=>by cases h;exact zM),zd.le jlw,zl,zw,U⟩ rfl rfl
      have e2:(a.kind.tmod 5==2)=false:=WN.2 k2;by_cases k3:a.kind.tmod 5=3
      .have e3:(a.kind.tmod 5==3)=true:=W8.2 k3;obtain⟨G,vt,vl,D,K,rfl,x⟩:=zg;obtain⟨C,Q,T,E,L,rfl,I⟩:=zh;refine ky (qS5 @bC @zt @zq @e0 @e1 @e2 @e3) ?_;have zx:=F.perm x.perm;have zy:=J.perm I.perm;have zN:(X++(Y++((c, Wj a)::DG))).Perm (D++((n, Vi (vp G.bd 0) vt vl (vi (B.n:Nat)))::(K++(Y++((c, Wj a)::DG))))):=(x.perm.append_right _).trans XJ;refine Ow.Vd (M:=X++(Y++((c, Wj a)::DG))) XJ ?_;refine Ow.Vd zN.symm ?_;refine Ow.Wa (X:=D) (Y:=(n, Vi (vp G.bd 0) vt vl (vi (B.n:Nat)))::(K++(Y++((c, Wj a)::DG)))) rfl rfl rfl call20 (fun m d t u=>Im D G S a.n m t u x.D.P yA) (fun v8 D8 zY zK=>?_);obtain⟨-,G8,yI,z8⟩:=zK;have z6:Vq w.heap.size D8:=fd zY (CH (Y:=K) zx.2);have xe:ZH {S with Wv:=a.n,fused:=decide (0<=a.n)} (1000+200*i):=⟨z8.ok,kC I.A.B rfl,I.A.fl⟩;obtain⟨XB,xf,xg,xh⟩:∃XB,(D8++((n,Vi (vp G.bd 0) vt vl (vi (B.n:Nat)))::(K++(Y++((c, Wj a)::DG))))).Perm (Y++(XB++((c, Wj a)::DG)))/\BoP n G.bd {S with Wv:=a.n,fused:=decide (0<=a.n)} (1000+200*i) B XB/\Vq w.heap.size XB:=
        ⟨(n, Vi (vp G.bd 0) vt vl (vi (B.n:Nat)))::(D8++K),XJ,⟨G8,vt,vl,D8,K,yI,⟨by rw[yI],⟨z8,jO x.D.H rfl,kC x.D.B rfl⟩,x.t,x.l⟩⟩,⟨zx.1,z6.app (Cf zx.2)⟩⟩
       refine Ow.Vd xf.symm ?_;refine Ow.world fun wz Z=>?_;have zD:aG w (Y++(XB++((c, Wj a)::DG))) c=some (Wj a):=aO (gE Z.nodup V_);clear Z wz;refine ko (aN @bC @zD) ?_;refine ky (aN @bC @zD) ?_;have zO:(Y++(XB++((c, Wj a)::DG))).Perm (E++((s, Vv (vp C.bd 0) Q T (vi (B.n:Nat)))::(L++(XB++((c, Wj a)::DG))))):=(I.perm.append_right _).trans XJ;refine Ow.Vd zO.symm ?_;refine Ow.Wa (X:=E) (Y:=(s, Vv (vp C.bd 0) Q T (vi (B.n:Nat)))::(L++(XB++((c, Wj a)::DG)))) rfl rfl rfl call21 (fun m d t u=>IC E C S a.n m t u I.D yA) (fun v9 E9 zb zk=>?_);obtain⟨rfl,C9,yJ,zu⟩:=zk;have zl:Vq w.heap.size E9:=fd zb (CH (Y:=L) zy.2);obtain⟨YB,xi,xj,xk⟩:∃YB,(E9++((s,Vv (vp C.bd 0) Q T (vi (B.n:Nat)))::(L++(XB++((c, Wj a)::DG))))).Perm (YB++(XB++((c, Wj a)::DG)))/\RoP s C.bd {S with Wv:=a.n,fused:=decide (0<=a.n)} (1000+200*i) B YB/\Vq w.heap.size YB:=
        ⟨(s, Vv (vp C.bd 0) Q T (vi (B.n:Nat)))::(E9++L),XJ,⟨C9,Q,T,E9,L,yJ,⟨by rw[yJ],zu,xe,I.t,I.l⟩⟩,⟨zy.1,zl.app (Cf zy.2)⟩⟩
       refine Ow.Vd xi.symm ?_;have zd:=O.Wv z8.ok;refine ko @bC ?_;exact WY.mk ⟨0,vp n 0,vp s 0,some B,{S with Wv:=a.n,fused:=decide (0<=a.n)},XB,YB,DG⟩ ⟨⟨n,rfl,xg.le jle⟩,⟨s,rfl,xj.le jle⟩,ze,zd.le jlw,xh,xk,U⟩ rfl rfl
      have e3:(a.kind.tmod 5==3)=false:=WN.2 k3;by_cases k4:a.kind.tmod 5=4
      .have e4:(a.kind.tmod 5==4)=true:=W8.2 k4;obtain⟨G,vt,vl,D,K,rfl,x⟩:=zg;obtain⟨C,Q,T,E,L,rfl,I⟩:=zh;refine ky (qS6 @bC @zt @zq @e0 @e1 @e2 @e3 @e4) ?_;have zx:=F.perm x.perm;have zy:=J.perm I.perm;have z9:Vq w.heap.size D:=CH (Y:=K) zx.2;have yK:Vq w.heap.size E:=CH (Y:=L) zy.2;have zZ:Vq w.heap.size ((n,Vi (vp G.bd 0) vt vl (vi (B.n:Nat)))::K):=⟨zx.1,Cf zx.2⟩;have ya:Vq w.heap.size ((s,Vv (vp C.bd 0) Q T (vi (B.n:Nat)))::L):=⟨zy.1,Cf zy.2⟩;have zN:(X++(Y++((c, Wj a)::DG))).Perm (D++((n, Vi (vp G.bd 0) vt vl (vi (B.n:Nat)))::(K++(Y++((c, Wj a)::DG))))):=(x.perm.append_right _).trans XJ;have yb:=zW.perm zN;refine Ow.Vd (M:=X++(Y++((c, Wj a)::DG))) XJ ?_;refine Ow.Vd zN.symm ?_;refine Ow.Wa (X:=D) (Y:=(n, Vi (vp G.bd 0) vt vl (vi (B.n:Nat)))::(K++(Y++((c, Wj a)::DG)))) rfl rfl rfl call22 (fun m d t u=>UQ D G S a.picks.v a.picks.l m t u x.D.P (kY hG d yb) (na hG z9) ((qL (q:=(S,a.picks.l)) x.D.B 3).b oM) (zj.Wo d fun hl b hb=>Vq.not yb (zj.blk hl hb)) (fun hl b hb=>⟨Zx (zj.blk hl hb) d.size,Vq.not z9 (zj.blk hl hb)⟩) oM (fun k hk=>⟨(x.D.H k).2,x.D.Vl oM k hk⟩)) (fun v7 D7 yL z5=>?_);obtain⟨G7,xl,zP⟩:=z5;have zB:Vq w.heap.size D7:=fd yL z9;refine Ow.Vd (M:=Y++(D7++((c, Wj a)::(DG++((n, Vi (vp G.bd 0) vt vl (vi (B.n:Nat)))::K))))) XJ ?_;refine Ow.world fun wz Z=>?_;have zD:aG w (Y++(D7++((c, Wj a)::(DG++((n, Vi (vp G.bd 0) vt vl (vi (B.n:Nat)))::K))))) c=some (Wj a):=aO (gE Z.nodup V_);clear Z wz;refine ko (aN @bC @zD) ?_;refine ky (aN @bC @zD) ?_;have zO:(Y++(D7++((c, Wj a)::(DG++((n, Vi (vp G.bd 0) vt vl (vi (B.n:Nat)))::K))))).Perm (E++((s, Vv (vp C.bd 0) Q T (vi (B.n:Nat)))::(L++(D7++((c, Wj a)::(DG++((n, Vi (vp G.bd 0) vt vl (vi (B.n:Nat)))::K))))))):=(I.perm.append_right _).trans XJ;have yM:Vq w.heap.size (E++((s,Vv (vp C.bd 0) Q T (vi (B.n:Nat)))::(L++(D7++((c, Wj a)::(DG++((n, Vi (vp G.bd 0) vt vl (vi (B.n:Nat)))::K))))))):=(J.app (zB.app (show Vq w.heap.size ((c,Wj a)::(DG++((n, Vi (vp G.bd 0) vt vl (vi (B.n:Nat)))::K))) from⟨zo,U.app zZ⟩))).perm zO;refine Ow.Vd zO.symm ?_;refine Ow.Wa (X:=E) (Y:=(s, Vv (vp C.bd 0) Q T (vi (B.n:Nat)))::(L++(D7++((c, Wj a)::(DG++((n, Vi (vp G.bd 0) vt vl (vi (B.n:Nat)))::K)))))) rfl rfl rfl call23 (fun m d t u=>Gi E C S (1000+200*i) a.picks.v a.picks.l m t u I.D x.D.P.ok zP.ok x.D.H x.D.B oM (zj.Wo d fun hl b hb=>Vq.not yM (zj.blk hl hb)) (fun hl b hb=>⟨Zx (zj.blk hl hb) d.size,Vq.not yK (zj.blk hl hb)⟩) oM) (fun v8 E7 zY zK=>?_);obtain⟨C7,xm,xn⟩:=zK;have yN:Vq w.heap.size E7:=fd zY yK;have yF:Yp D7 G7 (du S a.picks.l) (1000+200*i):=⟨zP,EU x.D.H _,Dq x.D.B _⟩;have xo:ZH (du S a.picks.l) (1000+200*i):=⟨zP.ok,Dq I.A.B _,by rw[LQ];exact I.A.fl⟩;have zd:=O.qo9 zP.ok;have yt:=zd.read;have zR:=zd.open oM;have zS:=Uc (S:=du S a.picks.l);refine Ow.Vd (M:=D7++(E7++((c, Wj a)::(DG++(((n, Vi (vp G.bd 0) vt vl (vi (B.n:Nat)))::K)++((s, Vv (vp C.bd 0) Q T (vi (B.n:Nat)))::L)))))) XJ ?_;rw[<-xl] at zZ |-;rw[<-xm] at ya |-;have xp:Vq w.heap.size ((c,Wj a)::(DG++(((n,Vi (vp G7.bd 0) vt vl (vi (B.n:Nat)))::K)++((s,Vv (vp C7.bd 0) Q T (vi (B.n:Nat)))::L)))):=⟨zo,U.app (zZ.app ya)⟩;have xq:=zB.app (yN.app xp);clear x I zP zN zO yb yM yL zY O zD;generalize du S a.picks.l=S7 at*;refine ko @bC ?_;refine ky @bC ?_;refine Ow.Wa (X:=D7) (Y:=E7++((c, Wj a)::(DG++(((n, Vi (vp G7.bd 0) vt vl (vi (B.n:Nat)))::K)++((s, Vv (vp C7.bd 0) Q T (vi (B.n:Nat)))::L))))) rfl rfl rfl call8 (fun m d t u=>Bc D7 G7 S7 (1000+200*i) m t u yF oM (Wz.of y d (gV y xq)) (gV y zB) oM) (fun v9 X9 zb zk=>?_);have zl:=fd zb zB;obtain⟨o9,rfl,yO⟩:=zk.o;refine ko @bC ?_;refine ky @bC ?_;refine Ow.Vd (M:=E7++(X9++((c, Wj a)::(DG++(((n, Vi (vp G7.bd 0) vt vl (vi (B.n:Nat)))::K)++((s, Vv (vp C7.bd 0) Q T (vi (B.n:Nat)))::L)))))) XJ ?_;refine Ow.Wa (X:=E7) (Y:=X9++((c, Wj a)::(DG++(((n, Vi (vp G7.bd 0) vt vl (vi (B.n:Nat)))::K)++((s, Vv (vp C7.bd 0) Q T (vi (B.n:Nat)))::L))))) rfl rfl rfl call9 (fun m d t u=>rk E7 C7 S7 (1000+200*i) m t u xn xo oM oM) (fun z7 Y9 zm zv=>?_);have zw:=fd zm yN;obtain⟨q9,rfl,yP⟩:=zv.o;generalize g6 S7=R at*;have zT:=yO.nl;have zU:=yP.nl;have zV:=Ad R.1.isNone;refine ko @bC ?_;refine ky (qS2 @bC @zT @zU @zV) ?_;exact WY.mk ⟨qt6 R,o9,q9,R.1,R.2.2,X9,Y9,DG++(((n, Vi (vp G7.bd 0) vt vl (vi (B.n:Nat)))::K)++((s, Vv (vp C7.bd 0) Q T (vi (B.n:Nat)))::L))⟩ ⟨yO.le jle,yP.le jle,zS,zR.le jlw,zl,zw,U.app (zZ.app ya)⟩ rfl rfl
      have e4:(a.kind.tmod 5==4)=false:=WN.2 k4;refine ky (qS6 @bC @zt @zq @e0 @e1 @e2 @e3 @e4) ?_;exact WY.mk ⟨0,vp n 0,vp s 0,some B,S,X,Y,DG⟩ ⟨⟨n,rfl,zg.le jle⟩,⟨s,rfl,zh.le jle⟩,ze,O.le jlw,F,J,U⟩ rfl rfl
     intro g j hg;refine kv ?_;clear zg zh zi za y4 y5 ze O F J U z3 zW yD zt zA zr zz yC V yy zq;obtain⟨e,o,q,P,S2,X2,Y2,zn⟩:=g;simp only at hg |-;obtain⟨hO,hR,ze,O,F,J,U⟩:=hg;have hz:=qi4 (e:Int);have xr:Vq w.heap.size ((c,Wj a)::zn):=⟨zo,U⟩;have V:Vq w.heap.size (Y2++(X2++((c,Wj a)::zn))):=J.app (F.app xr);refine Cw.world fun wz Z=>?_;have zz:=Z.nodup;clear Z wz;obtain⟨G,yc,x⟩:=hO.dk (by rw[aV,aV] at zz;exact(XR.1 (XR.1 zz).2.1).1);obtain⟨C,yd,hP,zJ⟩:=hR.dc (by rw[aV] at zz;exact(XR.1 zz).1);have xP:(kr S2).length<=3000000:=Bg (x.b oM) 3 (aj _);rw[<-yc,<-yd];refine kz [12] (aN @bC @hz) ?_;refine Ow.Wf rfl rfl call25 (fun m d=>HZ m G S2 (x.P.qf3 d (fun p hp=>by simp[hp])) (kY hG d V) (x.b oM)) (fun xQ xs zE xR xt xu xv=>?_);have ye:=xu.mono xt;refine ko @bC ?_;refine Ow.Wf rfl rfl call26 (fun m d=>Ma m C S2 (hP.qf3 d (fun p hp=>by simp[hp])) zJ.ok (zJ.B.b oM)) (fun xS xw zF xT xx xy xz=>?_);have yf:=xy.mono xx;refine ko @bC ?_;refine Ow.Vc rfl call24 (fun m d=>FC xs xw (kr S2) (kr S2) m ((xv.mono (fun q hq=>by simp[hq])).slV (z:=XH) d rfl rfl iS) ((xz.mono (fun q hq=>by simp[hq])).slV (z:=XH) d rfl rfl iS) oM) ?_;rw[aP rfl];refine ko @bC ?_;have xA:Vq w.heap.size ((c,Wj a)::(zn++(zE++zF))):=⟨zo,U.app (ye.app yf)⟩;cases P with
     |none=>have yg:=hR;have yh:=hO;obtain⟨rfl,-⟩:=hR;obtain⟨rfl,-⟩:=hO;refine Cw.Vu [] [0,1,2,3,5,6,7,8,4,9,10,11,12,14,15,16,17,13,18,19,20] [] kR kR kR ?_;refine WQ ?_;refine kq @bC ?_;refine Cw.Vd (M:=X2++(Y2++((c, Wj a)::(zn++(zE++zF))))) XJ ?_;refine ky @bC ?_;exact Vo.mk ⟨i+1,.pointer none,.pointer none,none,S2,X2,Y2,(c, Wj a)::(zn++(zE++zF))⟩ (by show A.length - (i+1)<A.length - i;omega) ⟨zf.1,zf.2,by rw[yc];exact yh,by rw[yd];exact yg,ze,O,F,J,xA⟩ rfl rfl
     |some B2=>
      have yg:=hR;have yh:=hO;obtain⟨yi,rfl,yQ⟩:=hO;obtain⟨zG,rfl,C2,vt,vl,DD,KK,xU,I⟩:=hR;have yR:=BkR.of (ze B2 rfl);have xV:=yR.tl;have xW:=yR.ll;have yS:(zG,Vv (vp C2.bd 0) vt vl (vi (B2.n:Nat)))∈Y2:=I.perm.mem_iff.2 aX;have yT:∀p,p∈KK->p∈Y2:=fun p hp=>I.perm.mem_iff.2 (ah _ (cJ _ hp));refine Cw.world fun wz Z=>?_;have xB:=Z.nodup;clear Z wz;generalize hL:Y2++(X2++((c,Wj a)::zn))++zE++zF=L at*;have z0:∀p,p∈Y2->p∈L:=fun p hp=>by rw[<-hL];simp[hp]
      have yU:∀p,p∈X2->p∈L:=fun p hp=>by rw[<-hL];simp[hp]
      have xX:Vq w.heap.size L:=by rw[<-hL];exact(V.app ye).app yf
      have yV:aG w L zG=some (Vv (vp C2.bd 0) vt vl (vi (B2.n:Nat))):=aO (gE xB (z0 _ yS));have yW:zG∈keys L:=List.mem_map_of_mem (z0 _ yS);refine Cw.Vu [zG] [0,1,2,3,5,6,7,8,4,9,10,11,12,14,15,16,17,13,18,19,20] [] kR kR kR ?_;refine WQ ?_;refine kq (aN @bC @yV) ?_;refine Ow.WV ?_;refine Ow.Wf rfl rfl call28 (fun m d=>UV yi bd B2 m (yQ.W fun b o H=>d.has b o (yU _ H)) oM oM) (fun xY xZ yj x0 xC xD xE=>?_);obtain⟨va,vb,rfl,z4,xF⟩:=xE;have xG:=xD.mono xC;refine Ow.nil ?_;refine⟨fC (fun r W=>by rw[VZ.1 W];exact yW),?_⟩;have yk:aG w (L++yj) zG=some (Vv (vp C2.bd 0) vt vl (vi (B2.n:Nat))):=by rw[mR yW];exact yV
      refine kq (aN @bC @yk) ?_;have xH:=qi4 (((B2.n:Nat):Int));refine Ow.WV ?_;refine Ow.Vc rfl call27 (fun m d=>M6 va vb vt vl B2.t B2.l B2.t B2.l m (gB z4 fun b o H=>d.has b o (by simp[H])) (gB xF fun b o H=>d.has b o (by simp[H])) (I.t.2.2 m fun b o H=>d.has b o (aq _ (z0 _ (yT _ H)))) (I.l.2.2 m fun b o H=>d.has b o (aq _ (z0 _ (yT _ H)))) oM oM oM oM) ?_
      with_reducible refine Ow.ZQ ?_
      rw[Up,Up,Bool.and_self];refine kq (qS1 @bC @yk @Bool.not_true) ?_;refine Ow.WV ?_;refine Ow.Vc rfl call29 (fun m d=>Tz yi bd B2 m (yQ.W fun b o H=>d.has b o (aq _ (yU _ H)))) ?_
      with_reducible refine Ow.ZQ ?_
      refine kq (qS1 @bC @yk @xH) ?_;subst hL;refine Cw.Vd (M:=X2++(Y2++((c, Wj a)::(zn++(zE++(zF++yj)))))) XJ ?_;refine ky @bC ?_;exact Vo.mk ⟨i+1,vp yi 0,vp zG 0,some B2,S2,X2,Y2,(c, Wj a)::(zn++(zE++(zF++yj)))⟩ (by show A.length - (i+1)<A.length - i;omega) ⟨zf.1,zf.2,by rw[yc];exact yh,by rw[yd];exact yg,ze,O,F,J,⟨zo,U.app (ye.app (yf.app xG))⟩⟩ rfl rfl
  have dd:(decide ((i:Int)< (A.length:Int))=true/\decide ((i:Int)<30)=false)\/decide ((i:Int)< (A.length:Int))=false:=by
   by_cases h1:i<A.length
   .exact .inl ⟨aP oM,aW oM⟩
   exact .inr (aW oM)
  rcases dd with⟨d1,d2⟩ |d1
  .refine ky (qS2 @bC @ln @d1 @d2) ?_;refine Ow.Vc rfl call4 (fun m d=>BM m (kY hG d V) (Wz.of y d (gV y V))) ?_;refine ko @bC ?_;refine ky @bC ?_;refine⟨_,(ke @bC),V,?_⟩
   rfl
  refine ky (qS1 @bC @ln @d1) ?_;refine Ow.Vc rfl call4 (fun m d=>BM m (kY hG d V) (Wz.of y d (gV y V))) ?_;refine ko @bC ?_;refine ky @bC ?_;refine⟨_,(ke @bC),V,?_⟩
  rfl
end Go.Proofs
end
section
open Go Go.Proofs Go.Sx Go.StP
open Go.ChangeShapes Go.WideShapes Go.ChangeAt Go.RowKit Go.ChangeMaps
namespace Go.Proofs
def H2{H:Type}{enc:h7×hU->H}{W:hW}{r:Reach}{g base:Nat}{sp:Nat->Bool}{j:Bool}{v:hU}{d:DataW H}{p:List MemPlace}
  (b:Value.okWide prog W r g 23 v) (k:DataW.Trod enc prog W base sp j 23 v d p):
  ∃l,qF2 W v l/\ ∀a,a∈l->PkS W a.picks.v a.picks.l/\(-9223372036854775808<=a.n/\a.n<9223372036854775808):=by
 obtain⟨u,len,w,rfl⟩:=WideShapes.okWide_slice underlying23 b;obtain⟨x,m⟩:=k;obtain⟨l,o,q⟩:=vx (z:=at0) (R:=fun a _=>PkS W a.picks.v a.picks.l/\(-9223372036854775808<=a.n/\a.n<9223372036854775808)) underlying23 kR WT qq b (fun n s y h=>RP n s y h) m;refine⟨l,o,fun a c=>?_⟩;rcases q with rfl| ⟨A,B,-,t⟩
 .cases c
 obtain⟨i,e,rfl⟩:=List.getElem_of_mem c;obtain⟨-,-,f⟩:=t i e;rw[List.getD_eq_getElem?_getD,List.getElem?_eq_getElem e] at f;exact f
end Go.Proofs
end
namespace Go.Sx
open Go
def Mv{P:h_}{f:FuncId}{a:Func}{s:ChangeSpec}{c:OpenClaim}
  (b:(c.wf (OpenSpec.ofChange s))=true)
  (d:(laidOutB P)=true)
  (e:(mapsRowed P)=true)
  (g:(a.params.all (P.readableRec ·))=true)
  (h:(namedTie P c.named s.vars)=true)
  (i:((c.stops==[]))=true)
  (j:((P.stops==[]))=true)
  (l:((c.knobs==[]))=true)
  (m:((P.stopKnobs==[]))=true)
  (n:((c.inPlace==P.inPlace f))=true)
  (o:((c.unfollowed==P.unfollowed f))=true)
  (p:((c.recurses==P.recurses f))=true)
  (q:((c.named==P.varsNamed f))=true)
  (r:((c.maps==(a.params.toList++s.plain.varTypes P).any (P.mapsRec ·)))=true)
  (u:((c.ifaces==(a.params.toList++s.plain.varTypes P).any (P.ifacesRec ·)))=true)
  (v:((c.mapsOut==P.mapsAmong a.resultTypes.toList))=true)
  (w:((c.loops==(a.params.toList++s.plain.varTypes P).any (P.loopsFrom ·)))=true)
  (x:((c.wideKeys==(a.params.toList++s.plain.varTypes P++a.resultTypes.toList).any (P.wideKeysFrom ·)))=true)
  (y:(s.vars.all (P.varReadable ·))=true)
  (z:(a.resultTypes.all (fun t=>P.readableRec t&&decide (t<P.types.size)))=true)
  (A:((c.ifacesOut==a.resultTypes.toList.any (P.ifacesRec ·)))=true)
  (B:((c.loopsOut==a.resultTypes.toList.any (P.loopsFrom ·)))=true)
  (C:((c.plainKeys==P.plainKeys))=true)
  (D:(c.shortTexts.isNone)=true)
  (E:(P.stopsHeard)=true)
  (F:(P.mayEnter)=true)
  (G:((c.lifted==P.liftsFinal))=true)
  (H:((P.make==some c.make))=true)
  (I:((c.kinds==(if c.domain.isEmpty then [] else a.params.toList.map fun t=>match P.underlying t with|some (.int k)=>some k|_=>none)))=true)
  (J:((c.pinned==c.pinnedBy))=true)
  (K:((c.veiled==(a.params.toList++s.plain.varTypes P++a.resultTypes.toList).any (P.veiledRec ·)))=true)
  (L:(c.veiledFits P a.params.toList (a.params.toList++s.plain.varTypes P++a.resultTypes.toList))=true):
  joinedFacts P f a s c=true:=by
 unfold joinedFacts;exact(Bool.and_eq_true_iff.2 ⟨(Bool.and_eq_true_iff.2 ⟨(Bool.and_eq_true_iff.2 ⟨(Bool.and_eq_true_iff.2 ⟨(Bool.and_eq_true_iff.2 ⟨(Bool.and_eq_true_iff.2 ⟨(Bool.and_eq_true_iff.2 ⟨(Bool.and_eq_true_iff.2 ⟨(Bool.and_eq_true_iff.2 ⟨(Bool.and_eq_true_iff.2 ⟨(Bool.and_eq_true_iff.2 ⟨(Bool.and_eq_true_iff.2 ⟨(Bool.and_eq_true_iff.2 ⟨(Bool.and_eq_true_iff.2 ⟨(Bool.and_eq_true_iff.2 ⟨(Bool.and_eq_true_iff.2 ⟨(Bool.and_eq_true_iff.2 ⟨(Bool.and_eq_true_iff.2 ⟨(Bool.and_eq_true_iff.2 ⟨(Bool.and_eq_true_iff.2 ⟨(Bool.and_eq_true_iff.2 ⟨(Bool.and_eq_true_iff.2 ⟨(Bool.and_eq_true_iff.2 ⟨(Bool.and_eq_true_iff.2 ⟨(Bool.and_eq_true_iff.2 ⟨(Bool.and_eq_true_iff.2 ⟨(Bool.and_eq_true_iff.2 ⟨(Bool.and_eq_true_iff.2 ⟨(Bool.and_eq_true_iff.2 ⟨(Bool.and_eq_true_iff.2 ⟨(Bool.and_eq_true_iff.2 ⟨b,d⟩),e⟩),g⟩),h⟩),i⟩),j⟩),l⟩),m⟩),n⟩),o⟩),p⟩),q⟩),r⟩),u⟩),v⟩),w⟩),x⟩),y⟩),z⟩),A⟩),B⟩),C⟩),D⟩),E⟩),F⟩),G⟩),H⟩),I⟩),J⟩),K⟩),L⟩)
end Go.Sx
