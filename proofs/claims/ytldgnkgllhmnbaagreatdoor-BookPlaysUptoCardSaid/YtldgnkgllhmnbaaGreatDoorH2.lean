/-
  Part 2 of the walk: contracts of the functions that the law reaches, and the calculus they stand on.
  No conditions.
-/
import Derived.Test.YtldgnkgllhmnbaaGreatDoorH1
import Derived.Shelf.SlIter.Nil
import Derived.Shelf.SortM.Plain
import Derived.Shelf.SortM.SortNone
import Derived.Ground.GgzProg
import Derived.Ground.SlgmProg
set_option linter.unusedVariables false
set_option maxRecDepth 100000
set_option maxHeartbeats 4000000
set_option linter.unusedSimpArgs false
set_option linter.defProp false
open Go.Proofs.Tryz
namespace Go.Dig
open Go.Sx
def qj3(t:UInt64):Nat->UInt64
 |0=>t
 |n+1=>qj3 t n / 256
def KR(t:UInt64)(n:Nat):(qj3 t n).toNat=t.toNat / 256^n:=by
 induction n with
 |zero=>simp[qj3]
 |succ n a=>show(qj3 t n / 256).toNat=_;rw[UInt64.toNat_div,a,Nat.pow_succ,Nat.div_div_eq_div_mul];rfl
def pD(t:UInt64)(j:Nat):Vf:=UInt8.ofNat (ku t (56 - 8*j)).toNat
def PB(t:UInt64)(i:Nat)(h:i<8):UInt8.ofNat (qj3 t i%256).toNat=pD t (7 - i):=by
 apply UInt8.toNat.inj;unfold pD;rw[UInt8.toNat_ofNat',UInt8.toNat_ofNat',UInt64.toNat_mod,KR,ku,UInt64.toNat_ofNat'];have e:56 - 8* (7 - i)=8*i:=by omega
 have c:=t.toNat_lt;have d:t.toNat / 2^ (8*i)<=t.toNat:=Nat.div_le_self _ _;rw[e,X7 (a:=t.toNat / 2^ (8*i)) oM];have b:256^i=2^ (8*i):=by rw[Nat.pow_mul]
 rw[b,show(256:UInt64).toNat=256 from rfl];omega
def gm(t:UInt64)(i:Nat):No:=(List.range 8).map fun j=>if 8<=j+i then pD t j else 0
def Ee(t:UInt64)(i:Nat):(gm t i).length=8:=by simp[gm]
def GU(t:UInt64):gm t 0=List.replicate 8 0:=by
 apply List.ext_getElem
 .simp[gm]
 intro k a b;have:k<8:=by simpa [gm] using a
 simp only[gm,List.getElem_map,List.getElem_range,List.getElem_replicate];rw[tr oM]
def Gc(t:UInt64)(i:Nat)(h:i<8):(gm t i).set (7 - i) (UInt8.ofNat (qj3 t i%256).toNat)=gm t (i+1):=by
 rw[PB t i h];apply List.ext_getElem
 .simp[gm]
 intro j d c;have e:j<8:=by simpa [gm] using c
 rw[List.getElem_set];by_cases a:7 - i=j
 .rw[Vb a];simp only[gm,List.getElem_map,List.getElem_range];rw[Vb oM,a]
 rw[tr a];simp only[gm,List.getElem_map,List.getElem_range];by_cases b:8<=j+i
 .rw[Vb b,Vb oM]
 rw[tr b,tr oM]
def Gs(t:UInt64):gm (8*t) 8=len8 t:=by unfold gm len8;apply List.map_congr_left;intro j a;rw[Vb oM];rfl
def qj2(m:No):No:=m++[128]++List.replicate (fv ((m.length+1)%64)) 0++len8 (UInt64.ofNat m.length)
def sC(n:Nat):(n+fv (n%64))%64=56/\fv (n%64)<64:=by unfold fv;omega
def HL(m:No):(qj2 m).length%64=0/\(qj2 m).length<=m.length+72:=by have:=sC (m.length+1);simp only[qj2,VV,List.length_replicate,G_,Wt,W7];omega
def qj7(m:No):No:=j6 (iI YX (qj2 m) ((qj2 m).length / 64)) 32
def KD(st s:List UInt32):jl st s 8=[st.getD 0 0+s.getD 0 0,st.getD 1 0+s.getD 1 0,st.getD 2 0+s.getD 2 0,st.getD 3 0+s.getD 3 0,st.getD 4 0+s.getD 4 0,st.getD 5 0+s.getD 5 0,st.getD 6 0+s.getD 6 0,st.getD 7 0+s.getD 7 0]:=rfl
end Go.Dig
section
open Go Go.Proofs Go.Sx Go.Dig
namespace Go.Proofs
def be:= @Tt
def F7(m:No)(k:m.length<1099511627776)(w:hW):
  Va prog 149 #[vs m] w (fun v D=>v=vs (qj2 m)/\D=[]):=by
 refine Va.Vr func149 rfl (rs:=[.tmp 2]) results149 ntmps149 ?_;refine kf ?_;refine ky @be ?_;have l:=sC (m.length+1);rw[show m++[128]=m++[128]++List.replicate 0 0 from(VX _).symm];refine Cw.VU (G:=Nat) [9,10,11,12,13,14,3] (fun g=>[(3,vs (m++[128]++List.replicate g 0))]) (fun g=>[]) (fun g=>g<=fv ((m.length+1)%64)) (fun g=>fv ((m.length+1)%64) - g) 0 rfl rfl ?_ ?_
 .omega
 intro g j n;refine kv ?_;have a:(m++[128]++List.replicate g 0).length=m.length+1+g:=by simp;omega
 by_cases o:g<fv ((m.length+1)%64)
 .have p:(m.length+1+g)%64≠56:=by unfold fv at*;omega
  refine ky (aN @be @a) ?_;refine Vo.mk (g+1) oM oM rfl ?_;rw[show m++[128]++List.replicate (g+1) 0=m++[128]++List.replicate g 0++[0] from by rw[List.replicate_succ'];simp]
  rfl
 have b:g=fv ((m.length+1)%64):=by omega
 subst b;refine ky (aN @be @a) ?_;refine Ow.alloc rfl rfl qM0 fun c q d=>?_;rw[show UInt64.ofInt (m.length:Int)=UInt64.ofNat m.length from tf _];refine ko @be ?_;refine ky @be ?_;generalize e:UInt64.ofNat m.length*8=t;rw[<-GU t];refine Cw.VU (G:=Nat) [19,20,23,24,25,26,27,28,29,30,4,21,22,6] (fun i=>[(4,v64 (qj3 t i)),(6,vi i)]) (fun i=>[(c,.cells (a8 (gm t i)) 265 (0,0))]) (fun i=>i<=8) (fun i=>8 - i) 0 rfl rfl ?_ ?_
 .omega
 intro i r s;refine kv ?_;have u:=Ee t i;by_cases f:i<8
 .refine ky @be ?_;refine Vo.mk (i+1) oM oM ?_ rfl;rw[Gc t i f]
 have h:i=8:=by omega
 subst h;refine ky @be ?_;rw[YM,Yo (show(gm t 8).length<=8 by omega),<-e,UInt64.mul_comm,Gs];refine⟨_,(ke @be),⟨d,trivial⟩,?_⟩
 rfl
def IP(st:List UInt32)(blk:No)(z:st.length=8)(A:blk.length=64)(w:hW):
  Va prog 150 #[.agg (a32 st),vs blk] w (fun v D=>v=.agg (a32 (comp st blk))/\D=[]):=by
 have B:kL.length=64:=rfl;refine Va.Vr func150 rfl (rs:=[.cell 4 244]) results150 ntmps150 ?_;refine kf ?_;refine ky @be ?_;refine Ow.box rfl rfl fun c C k=>?_;refine ko @be ?_;refine Ow.alloc rfl rfl qz8 fun d l m=>?_;obtain⟨E,-⟩:=l;refine ko @be ?_;refine ky @be ?_;refine Ow.alloc rfl rfl qr5 fun e n o=>?_;obtain⟨F,H,-⟩:=n;refine ko @be ?_;refine ky @be ?_;rw[<-Kc blk];refine Cw.VU (G:=Nat) [22,23,26,27,28,29,30,31,32,33,34,35,36,37,38,39,40,41,42,43,44,45,46,47,48,49,50,51,52,53,54,55,56,24,25,6] (fun g=>[(6,vi g)]) (fun g=>[(c,.cells (a32 st) 244 (0,0)),(d,.cells (a32 (List.replicate 8 0)) 244 (0,0)),(e,.cells (a32 (qa7 blk g)) 266 (0,0))]) (fun g=>g<=16) (fun g=>16 - g) 0 rfl rfl ?_ ?_
 .omega
 intro g j f;refine kv ?_;have p:=DB blk g;by_cases i:g<16
 .refine ky @be ?_;refine Cw.WU [0,1,2,3,4,5,6,7,8,9,10,11,12,13,14,15,16,17,18,19,20,21,22,23,24,25,26,27,28,29,30,31] [31] rfl kR kR ?_;refine WQ ?_;refine kq @be ?_;refine Ow.store rfl rfl rfl (ke @be) ?_;refine ko @be ?_;refine ky @be ?_;exact Vo.mk (g+1) oM oM (by rw[<-Ki];rfl) rfl
 have q:g=16:=by omega
 subst q;refine ky @be ?_;rw[Nd];refine Cw.VU (G:=Nat) [57,58,61,62,63,64,65,66,67,68,8,9,69,70,71,72,73,74,75,76,77,78,79,80,81,82,83,84,85,86,87,88,89,90,91,92,93,94,95,96,97,59,60,7] (fun g=>[(7,vi g)]) (fun g=>[(c,.cells (a32 st) 244 (0,0)),(d,.cells (a32 (List.replicate 8 0)) 244 (0,0)),(e,.cells (a32 (wG blk g)) 266 (0,0))]) (fun g=>16<=g/\g<=64) (fun g=>64 - g) 16 rfl rfl ?_ ?_
 .omega
 intro g j f;refine kv ?_;obtain⟨r,I⟩:=f;have p:=MU blk g;by_cases i:g<64
 .refine ky @be ?_;refine Cw.WU [0,1,2,4,5,6,3,8,7,9] [] rfl kR kR ?_;refine WQ ?_;refine kq @be ?_;refine ky @be ?_;refine Cw.WU [0,1,3,6,7,9,10,11,14,16,19,20,23,24,25,12,26,2,4,5,8,13,15,17,18,21,22,27,28,29] [29] rfl kR kR ?_;refine WQ ?_;refine kq @be ?_;refine Ow.Vc rfl call171 (fun a b=>kh _ 17 a) ?_;refine kq @be ?_;refine Ow.Vc rfl call171 (fun a b=>kh _ 19 a) ?_;refine kq @be ?_;refine Ow.Vc rfl call171 (fun a b=>kh _ 7 a) ?_;refine kq @be ?_;refine Ow.Vc rfl call171 (fun a b=>kh _ 18 a) ?_;refine kq @be ?_;refine Ow.store rfl rfl rfl (ke @be) ?_;refine ko @be ?_;refine ky @be ?_;exact Vo.mk (g+1) oM oM (by rw[QK blk g r];rfl) rfl
 have h:g=64:=by omega
 subst h;rw[SZ];have J:=Gx blk;refine ky @be ?_;refine Ow.Vc rfl call172 (fun a b=>Gz a) ?_;refine ko @be ?_;refine Ow.alloc rfl rfl qr5 fun s t u=>?_;obtain⟨K,L,M,-⟩:=t;refine ko @be ?_;refine ky @be ?_;refine Cw.WU [0,2,4,6,1,8,3,9,5,10,7,11] [] rfl kR kR ?_;refine WQ ?_;refine kq @be ?_;refine ky @be ?_;refine Cw.WU [0,2,4,6,1,8,3,9,5,10,7,11] [] rfl kR kR ?_;refine WQ ?_;refine kq @be ?_;refine ky @be ?_;generalize x:qr0 blk=W at*;refine Cw.VU (G:=Nat) [115,116,119,120,121,122,123,124,125,126,127,128,129,130,131,132,133,134,135,136,137,138,139,140,141,142,143,144,145,20,146,147,148,149,150,151,152,153,154,155,156,157,158,159,160,161,162,163,164,165,21,166,18,167,17,168,16,169,170,171,15,172,14,173,13,174,12,175,176,177,11,117,118,19] (fun g=>[(19,vi g),(11,v32 ((rGo st W g).getD 0 0)),(12,v32 ((rGo st W g).getD 1 0)),(13,v32 ((rGo st W g).getD 2 0)),(14,v32 ((rGo st W g).getD 3 0)),(15,v32 ((rGo st W g).getD 4 0)),(16,v32 ((rGo st W g).getD 5 0)),(17,v32 ((rGo st W g).getD 6 0)),(18,v32 ((rGo st W g).getD 7 0))]) (fun g=>[(c,.cells (a32 st) 244 (0,0)),(d,.cells (a32 (List.replicate 8 0)) 244 (0,0)),(e,.cells (a32 W) 266 (0,0)),(s,.cells (a32 kL) 266 (0,0))]) (fun g=>g<=64) (fun g=>64 - g) 0 rfl rfl ?_ ?_
 .omega
 intro g j f;refine kv ?_;by_cases i:g<64
 .refine ky @be ?_;refine Cw.WU [0,1,3,6,10,11,12,13,14,15,16,17,19,20,23,24,21,25,2,4,5,7,8,9,18,22,26,27] [] rfl kR kR ?_;refine WQ ?_;refine kq @be ?_;refine Ow.Vc rfl call171 (fun a b=>kh _ 6 a) ?_;refine kq @be ?_;refine Ow.Vc rfl call171 (fun a b=>kh _ 11 a) ?_;refine kq @be ?_;refine Ow.Vc rfl call171 (fun a b=>kh _ 25 a) ?_;refine kq @be ?_;refine ky @be ?_;refine Ow.Vc rfl call171 (fun a b=>kh _ 2 a) ?_;refine ko @be ?_;refine Ow.Vc rfl call171 (fun a b=>kh _ 13 a) ?_;refine ko @be ?_;refine Ow.Vc rfl call171 (fun a b=>kh _ 22 a) ?_;refine ko @be ?_;refine ky @be ?_;exact Vo.mk (g+1) oM oM rfl rfl
 have h:g=64:=by omega
 subst h;refine ky @be ?_;have y:comp st blk=jl st (rGo st W 64) 8:=by rw[<-x];rfl
 rw[y];generalize rGo st W 64=R at*;rw[KD];refine Ow.build (.agg (a32 [st.getD 0 0+R.getD 0 0,st.getD 1 0+R.getD 1 0,st.getD 2 0+R.getD 2 0,st.getD 3 0+R.getD 3 0,st.getD 4 0+R.getD 4 0,st.getD 5 0+R.getD 5 0,st.getD 6 0+R.getD 6 0,st.getD 7 0+R.getD 7 0])) rfl kR ?_;refine ko @be ?_;refine ky @be ?_;refine⟨_,(ke @be),⟨k,m,o,u,trivial⟩,?_⟩
 rfl
def fZ:= @Tt
def IH(m:No)(f:m.length<1099511627776)(w:hW):
  Va prog 116 #[vs m] w (fun v D=>v=.agg (a8 (qj7 m))/\D=[]):=by
 refine Va.Vr func116 rfl (rs:=[.cell 2 38]) results116 ntmps116 ?_;refine kf ?_;refine ky @fZ ?_;refine Ow.alloc rfl rfl qc2 fun a x h=>?_;refine ko @fZ ?_;refine ky @fZ ?_;refine Ow.Vc rfl call149 (fun c i=>F7 m f c) ?_;have y:=HL m;unfold qj7;generalize qj2 m=p at*;refine ko @fZ ?_;refine ky @fZ ?_;refine Ow.build (.agg (a32 YX)) rfl kR ?_;refine ko @fZ ?_;refine Ow.alloc rfl rfl qz8 fun b l n=>?_;obtain⟨z,-⟩:=l;have A:YX.length=8:=rfl;refine ko @fZ ?_;refine ky @fZ ?_;rw[show a32 YX=a32 (iI YX p 0) from rfl];refine Cw.VU (G:=Nat) [11,12,13,14,17,18,19,20,21,22,23,15,16,5] (fun g=>[(5,vi (64*g))]) (fun g=>[(a, Vm (List.replicate 32 0)),(b,.cells (a32 (iI YX p g)) 244 (0,0))]) (fun g=>64*g<=p.length) (fun g=>p.length - 64*g) 0 rfl rfl ?_ ?_
 .omega
 intro g j B;refine kv ?_;have o:=GC YX p g rfl;by_cases C:64*g<p.length
 .refine ky @fZ ?_;refine Cw.WU [1,2,3,4,5,0,6,7] [7] rfl kR kR ?_;refine WQ ?_;refine kq @fZ ?_;rw[show List.drop (64*g) (List.take (64*g+64) p)=(p.drop (64*g)).take 64 from by rw[List.drop_take];congr 1;omega];refine Ow.Vc rfl call150 (fun c i=>IP _ _ o (by simp;omega) c) ?_;have E:=DI (iI YX p g) ((p.drop (64*g)).take 64);refine kq @fZ ?_;refine Ow.store rfl rfl rfl (ke @fZ) ?_;refine ko @fZ ?_;refine ky @fZ ?_;exact Vo.mk (g+1) oM oM rfl (by rw[show 64* ((g+1:Nat):Int)=64* (g:Int)+64 from by omega];rfl)
 have q:g=p.length / 64:=by omega
 refine ky @fZ ?_;rw[<-q];refine Ow.alloc rfl rfl qc2 fun d r s=>?_;obtain⟨F,H,-⟩:=r;refine ko @fZ ?_;refine ky @fZ ?_;generalize iI YX p g=S at*;rw[show [(a,Vm (List.replicate 32 0)),(b,.cells (a32 S) 244 (0,0)),(d, Vm (List.replicate 32 0))]=[(a,Vm (List.replicate 32 0)),(b,.cells (a32 S) 244 (0,0)),(d, Vm (j6 S 0))] from by rw[Hk]];refine Cw.VU (G:=Nat) [24,25,28,29,30,31,32,33,34,35,36,37,38,39,40,26,27,7] (fun k=>[(7,vi k)]) (fun k=>[(a, Vm (List.replicate 32 0)),(b,.cells (a32 S) 244 (0,0)),(d, Vm (j6 S k))]) (fun k=>k<=32) (fun k=>32 - k) 0 rfl rfl ?_ ?_
 .omega
 intro k I t;refine kv ?_;have J:=qa0 S k;by_cases t:k<32
 .refine ky @fZ ?_;refine Vo.mk (k+1) oM oM ?_ rfl;have e:(UInt64.ofInt (24 - 8* ((k:Int)%4))).toNat=24 - 8* (k%4):=by
   rw[show(24 - 8* ((k:Int)%4))=((24 - 8* (k%4):Nat):Int) from by omega,tf,UInt64.toNat_ofNat',X7 oM]
  rw[e,<-IJ];rfl
 have u:k=32:=by omega
 subst u;refine ky @fZ ?_;refine⟨_,(ke @fZ),⟨h,n,s,trivial⟩,?_⟩
 rfl
end Go.Proofs
end
namespace Go.Dig
open Go.Sx
structure Inv(s:Hs)(p:No):Prop where
 ok:s.Ok
 st:s.st=iI YX p (p.length / 64)
 many:s.many=p.length%64
 rest:s.rest.take s.many=p.drop (64* (p.length / 64))
def Inv.put{s:Hs}{p:No}(h:Inv s p)(x:Vf):Inv (qf7 s x) (p++[x]):=by
 obtain⟨c,g,q,m⟩:=h;have i:=QJ x c;have n:=c.many;have j:=c.rest;have d:64* (p.length / 64)<=p.length:=by omega
 have k:(s.rest.set s.many x).take (s.many+1)=p.drop (64* (p.length / 64))++[x]:=by
  rw[List.take_add_one,List.take_set,<-m];congr 1
  .rw[List.set_eq_of_length_le (by simp only[W3];exact Nat.min_le_left _ _)]
  simp[j,n]
 have a:(p++[x]).length=p.length+1:=by simp
 have l:iI YX (p++[x]) (p.length / 64)=iI YX p (p.length / 64):=G4 _ _ _ _ d;by_cases f:s.many+1=64
 .have e:qf7 s x=⟨comp s.st (s.rest.set s.many x),s.rest.set s.many x,0⟩:=by unfold qf7;rw[Vb f]
  have b:(p.length+1) / 64=p.length / 64+1:=by omega
  have o:(s.rest.set s.many x)=p.drop (64* (p.length / 64))++[x]:=by rw[<-k,f,Yo (by simp[j])]
  refine⟨i,?_,?_,?_⟩
  .rw[e,a,b];show comp s.st _=comp (iI YX (p++[x]) (p.length / 64)) _;rw[l,<-g,o,List.drop_append_of_le_length d,Yo (by simp;omega)]
  .rw[e,a];show 0=_;omega
  rw[e,a];show List.take 0 _=_;rw[List.take_zero,List.drop_of_length_le (by rw[a];omega)]
 have e:qf7 s x=⟨s.st,s.rest.set s.many x,s.many+1⟩:=by unfold qf7;rw[tr f]
 have b:(p.length+1) / 64=p.length / 64:=by omega
 refine⟨i,?_,?_,?_⟩
 .rw[e,a,b,l];exact g
 .rw[e,a];show s.many+1=_;omega
 rw[e,a,b];show List.take (s.many+1) (s.rest.set s.many x)=_;rw[k,List.drop_append_of_le_length d]
def Inv.zero:Inv H0 []:=⟨Tj,rfl,rfl,rfl⟩
end Go.Dig
section
open Go Go.Proofs Go.Sx Go.StP
namespace Go.Proofs
def nL(m:No):(Dig.qj7 m).length=32:=Dig.qa0 _ _
def f4:=aN (aN (aN @pe @pa) (aN @pz @pq)) (aN (aN @Sx.Wk @Sx.Wl) (aN @bA @b9))
def idV(k:Int)(t:No):Xl:=if qg6 k t then⟨Dig.qj7 (TT k t),nL _⟩ else XY
def mE(k:Int)(t:No):No:=(if k=3 then [99] else if k=2 then [116] else [98])++c9 t
def Hz(k:Int)(t:No)(w:hW)(h:t.length<100000):Va prog 117 #[obV k t] w (fun v D=>v=vs (mE k t)/\D=[]):=by
 have tl:=ql (s:=t) oM;refine Va.Vr func117 rfl (rs:=[.tmp 2]) results117 ntmps117 ?_;refine kf ?_;refine ky @f4 ?_;refine Ow.box rfl rfl fun i j f=>?_;simp only[dS,cz,dL,ag,Vy];unfold mE;by_cases d:k=3
 .have a:(k==2)=false:=WN.2 oM;have b:(k==3)=true:=by simp[d]
  rw[Vb d];refine ko (qS1 @f4 @a @b) ?_;refine ky (qS1 @f4 @a @b) ?_;refine Ow.Vc rfl call89 (fun c g=>m9 t c oM) ?_;refine ko @f4 ?_;refine ky @f4 ?_;refine⟨_,(ke @f4),⟨f,trivial⟩,?_⟩
  rfl
 have b:(k==3)=false:=by simpa using d
 rw[tr d];by_cases e:k=2
 .have a:(k==2)=true:=by simp[e]
  rw[Vb e];refine ko (qS1 @f4 @a @b) ?_;refine ky (qS1 @f4 @a @b) ?_;refine Ow.Vc rfl call89 (fun c g=>m9 t c oM) ?_;refine ko @f4 ?_;refine ky @f4 ?_;refine⟨_,(ke @f4),⟨f,trivial⟩,?_⟩
  rfl
 have a:(k==2)=false:=by simpa using e
 rw[tr e];refine ko (qS1 @f4 @a @b) ?_;refine ky (qS1 @f4 @a @b) ?_;refine Ow.Vc rfl call89 (fun c g=>m9 t c oM) ?_;refine ko @f4 ?_;refine ky @f4 ?_;refine⟨_,(ke @f4),⟨f,trivial⟩,?_⟩
 rfl
def Oj(k:Int)(t:No)(w:hW)(b:t.length<100000):Va prog 67 #[obV k t] w (fun v D=>v=.agg (a8 (Dig.qj7 (mE k t)))/\D=[]):=by
 have tl:=ql (s:=t) oM;have fl:(mE k t).length<1099511627776:=by
  have nl:=eL (t.length:Int);unfold mE c9;rw[VV,VV];have:((if k=3 then [99] else if k=2 then [116] else [98]:No)).length=1:=by split<;>(try split)<;>rfl
  omega
 have i:=nL (mE k t);refine Va.Vr func67 rfl (rs:=[.cell 2 38]) results67 ntmps67 ?_;refine kf ?_;refine ky @f4 ?_;refine Ow.box rfl rfl fun c j d=>?_;simp only[dS,cz,dL,ag,Vy];refine ko @f4 ?_;refine Ow.alloc rfl rfl i_ fun e f g=>?_;simp only[ag,Vy,Wp];have l:c<e:=aQ f Wg;have m:=XY.h;refine ko @f4 ?_;refine Ow.Vc rfl call117 (fun a h=>Hz k t a b) ?_;refine ko @f4 ?_;refine Ow.Vc rfl call116 (fun a h=>IH _ fl a) ?_;refine ko @f4 ?_;refine ky @f4 ?_;refine⟨_,(ke @f4),⟨d,g,trivial⟩,?_⟩
 rfl
instance:DecidableEq qi5:=fun a b=>if h:a.id.l=b.id.l/\a.kind=b.kind then .isTrue (by cases a;cases b;simp only at h;obtain⟨h3,rfl⟩:=h;rw[Xl.ext' h3]) else .isFalse (fun e=>h (by rw[e];exact⟨rfl,rfl⟩))
theorem qi5.ext'{a b:qi5}(h:(a.id.l==b.id.l&&a.kind==b.kind)=true):a=b:=by simp only[WK,W8] at h;cases a;cases b;simp only at h;obtain⟨c,rfl⟩:=h;rw[Xl.ext' c]
end Go.Proofs
end
section
open Go Go.Proofs Go.Sx Go.StP Go.Flo
namespace Go.Proofs
structure Y8 where
 k:Int
 t:No
def Z5:Y8:=⟨0,[]⟩
def obC(o:Y8):List hU:=[vi o.k,vs o.t]
def k_(o:Y8):(obC o).length=2:=rfl
def qv(o:Y8):(obC o).all Value.oneCell'=true:=rfl
def gK(s:No):Y8:=⟨if Z3 s then frK s else 0,if Z3 s then(frT s).1 else []⟩
def qI8(s:No):Xl:=idV (gK s).k (gK s).t
def Aa:List No->List Xl->List Y8->Option (List Xl×List Y8)
 | [],a,os=>some (a,os)
 |s::r,a,os=>if Z3 s=true/\(a.any fun y=>(qI8 s).l==y.l)=false then Aa r (a++[qI8 s]) (os++[gK s]) else none
def YR(l:List WE):Option (List Xl×List Y8):=match qO7 l with
 | .ok ts=>Aa ts [] []
 | .error _=>none
end Go.Proofs
end
section
open Go Go.Proofs Go.Sx
namespace Go.Proofs
def hvL:List UInt32:=[0x00000000,0x1db71064,0x3b6e20c8,0x26d930ac,0x76dc4190,0x6b6b51f4,0x4db26158,0x5005713c,0xedb88320,0xf00f9344,0xd6d6a3e8,0xcb61b38c,0x9b64c2b0,0x86d3d2d4,0xa00ae278,0xbdbdf21c]
def jd(n:UInt32):UInt32:=fA n 4^^^hvL.getD (n&&&15).toNat 0
def i'(n:UInt32):Nat->UInt32
 |0=>n
 |k+1=>jd (i' n k)
def iy(n:UInt32)(b:Vf):UInt32:=i' (n^^^UInt32.ofNat b.toNat) 2
def Kp(n:UInt32):(n&&&15).toNat<16:=by rw[UInt32.toNat_and];exact Nat.lt_of_le_of_lt Nat.and_le_right WT
def Wz(w:hW):Prop:= ∃e f,w.heap[(1:Nat)]? =some (.cells (a32 hvL) e f)
def Wz.of{w a:hW}{L:aA}(h:Wz w)(b:Hp w L a)(c:(1:Nat)∉keys L):Wz a:=by obtain⟨e,f,h⟩:=h;exact⟨e,f,by rw[b.Wo _ (Array.getElem?_eq_some_iff.1 h).1 c];exact h⟩
def Pg:hvL.length=16:=rfl
def K9(n:UInt32)(b:Vf)(w:hW)(a:Wz w):
  Va prog 206 #[v32 n,v8 b] w (fun v D=>v=v32 (iy n b)/\D=[]):=by
 obtain⟨e,f,c⟩:=a;refine Va.Vr func206 rfl (rs:=[.tmp 4]) results206 ntmps206 ?_;refine kf ?_;refine ky @aY ?_;unfold iy;generalize n^^^UInt32.ofNat b.toNat=m;rw[show v32 m=v32 (i' m 0) from rfl];refine Cw.VU (G:=Nat) [10,11,12,13,14,15,16,17,0,18,9] (fun g=>[(0,v32 (i' m g)),(9,vi g)]) (fun g=>[]) (fun g=>g<=2) (fun g=>2 - g) 0 rfl rfl ?_ ?_
 .omega
 intro g j d;refine kv ?_;by_cases h:g<2
 .have i:=Kp (i' m g);have k:=Pg;refine ky (aN @aY @c) ?_;refine Vo.mk (g+1) oM oM rfl rfl
 obtain rfl:g=2:=by omega
 refine ky @aY ?_;refine⟨_,(ke @aY),trivial,?_⟩
 rfl
def fw(n:UInt32)(s:No):UInt32:=s.foldl iy n
def rY(n:UInt32)(s:No)(g:Nat)(h:g<s.length):fw n (s.take (g+1))=iy (fw n (s.take g)) (s.getD g 0):=by
 unfold fw;rw[qd4 h,List.foldl_append,List.getD_eq_getElem?_getD,List.getElem?_eq_getElem h]
 rfl
def Km(n:UInt32)(s:No)(w:hW)(a:Wz w)(e:s.length<1099511627776):
  Va prog 174 #[v32 n,vs s] w (fun v D=>v=v32 (~~~ (fw (~~~ n) s))/\D=[]):=by
 refine Va.Vr func174 rfl (rs:=[.tmp 4]) results174 ntmps174 ?_;refine kf ?_;refine ky @aY ?_;rw[show v32 (~~~ n)=v32 (fw (~~~ n) (s.take 0)) from rfl];refine Cw.VU (G:=Nat) [12,13,6,14,15,16,17,18,5,19,11] (fun g=>[(5,v32 (fw (~~~ n) (s.take g))),(11,vi g)]) (fun g=>[]) (fun g=>g<=s.length) (fun g=>s.length - g) 0 rfl rfl ?_ ?_
 .omega
 intro g j f;refine kv ?_;by_cases b:g<s.length
 .refine ky @aY ?_;refine Ow.Vc rfl call206 (fun c d=>K9 _ _ c (Wz.of a d Wg)) ?_;refine ko @aY ?_;refine ky @aY ?_;refine Vo.mk (g+1) oM oM rfl ?_;rw[rY _ _ _ b]
  rfl
 obtain rfl:g=s.length:=by omega
 refine ky @aY ?_;rw[WH];refine⟨_,(ke @aY),trivial,?_⟩
 rfl
def qm0(s:No):UInt32:= ~~~ (fw (~~~ (0:UInt32)) s)
def MW(b:Nat)(s:No)(E:h7)(w:hW)(c:Wz w)(d:s.length<1099511627776)(e:w.heap[b]? =some (.cells #[vs s] E (0,0))):
  Va prog 154 #[Xr b 0 1 1] w (fun v D=>v=v32 (qm0 s)/\D=[]):=by
 have a:Zb w (Xr b 0 1 1) [s] b 0 #[vs s] E (0,0):=Zb.lit [s] rfl rfl e;refine Va.Vr func154 rfl (rs:=[.tmp 2]) results154 ntmps154 ?_;refine kf ?_;refine ky @aY ?_;refine Cw.VU (G:=Nat) [9,10,11,5,12,13,14,3,15,8] (fun g=>[(3,v32 (if g=0 then 0 else qm0 s)),(8,vi g)]) (fun g=>[]) (fun g=>g<=1) (fun g=>1 - g) 0 rfl rfl ?_ ?_
 .omega
 intro g j n;refine kv ?_;by_cases o:g<1
 .obtain rfl:g=0:=by omega
  have f:=a.get 0 V_;have h:=a.has V_;have i:=fun m=>a.idx m 0 V_;refine ky (qS3 @aY @Sx.YU @h @f @i) ?_;refine Ow.Vc rfl call174 (fun k l=>Km 0 s k (Wz.of c l Wg) d) ?_;refine ko @aY ?_;refine ky @aY ?_;refine Vo.mk 1 oM oM rfl rfl
 obtain rfl:g=1:=by omega
 refine ky @aY ?_;refine⟨_,(ke @aY),trivial,?_⟩
 rfl
def gw(n:UInt32)(g:Nat):No:=(List.range 4).map fun j=>if j<g then UInt8.ofNat (fA n (8*j)).toNat else 0
def qE9(n:UInt32):No:=gw n 4
def sI(n:UInt32)(g:Nat):(gw n g).length=4:=by simp[gw]
def H1(n:UInt32)(g:Nat)(h:g<4):(gw n g).set g (UInt8.ofNat (fA n (8*g)).toNat)=gw n (g+1):=by
 have:g=0\/g=1\/g=2\/g=3:=by omega
 rcases this with rfl|rfl|rfl|rfl<;>rfl
def dx(s:No):No:=s++qE9 (qm0 s)
def rv(s:No)(w:hW)(a:Wz w)(d:s.length<1099511627776):
  Va prog 123 #[vs s] w (fun v D=>v=vs (dx s)/\D=[]):=by
 have q:(1:Nat)<w.heap.size:=by obtain⟨e,f,h⟩:=a;exact(Array.getElem?_eq_some_iff.1 h).1
 refine Va.Vr func123 rfl (rs:=[.tmp 2]) results123 ntmps123 ?_;refine kf ?_;refine ky @aY ?_;refine Ow.buildSlice (e:=9) #[vs s] rfl rfl kR fun b r i=>?_;refine ko @aY ?_;refine Ow.Vc rfl call154 (fun k c=>MW b s _ k (Wz.of a c (by simp[keys];omega)) d (c.has _ _ aX)) ?_;refine ko @aY ?_;refine ky @aY ?_;unfold dx;generalize qm0 s=n;refine Ow.alloc rfl rfl qL9 fun l m o=>?_;obtain⟨t,-⟩:=m;refine ko @aY ?_;refine ky @aY ?_;rw[show a8 (List.replicate 4 0)=a8 (gw n 0) from rfl];refine Cw.VU (G:=Nat) [10,11,5,12,13,14,15,16,17,18,19,9] (fun g=>[(9,vi g)]) (fun g=>[(b, VS (vs s)),(l,.cells (a8 (gw n g)) 250 (0,0))]) (fun g=>g<=4) (fun g=>4 - g) 0 rfl rfl ?_ ?_
 .omega
 intro g j u;refine kv ?_;have x:=sI n g;by_cases p:g<4
 .refine ky @aY ?_;refine Vo.mk (g+1) oM oM ?_ rfl;rw[H1 n g p]
 obtain rfl:g=4:=by omega
 refine ky @aY ?_;refine⟨_,(ke @aY),⟨i,o,trivial⟩,?_⟩;rw[YM,Yo oM];rfl
def eG(s:No):No×Bool:=
 if s.length<4 then([],false) else if dx (s.take (s.length - 4))=s then(s.take (s.length - 4),true) else([],false)
def mU(s:No):(dx s).length=s.length+4:=by unfold dx qE9;rw[VV,sI]
def GI(s:No)(w:hW)(e:Wz w)(h:s.length<1099511627776):
  Va prog 126 #[vs s] w (fun v D=>v=.tuple #[vs (eG s).1,.bool (eG s).2]/\D=[]):=by
 refine Va.Vr func126 rfl (rs:=[.tmp 2,.tmp 3]) results126 ntmps126 ?_;refine kf ?_;refine ky @aY ?_;unfold eG;by_cases c:s.length<4
 .have b:decide ((s.length:Int)<4)=true:=aP oM;rw[Vb c];refine ky (aN @aY @b) ?_;refine⟨_,(ke @aY),trivial,?_⟩
  rfl
 have b:decide ((s.length:Int)<4)=false:=aW oM;have d:((s.length:Int) - 4).toNat=s.length - 4:=by omega
 rw[tr c];refine ky (qS1 @aY @b @d) ?_;refine Ow.Vc rfl call123 (fun f g=>rv (s.take (s.length - 4)) f (Wz.of e g Wg) (by rw[W3];omega)) ?_;refine ko @aY ?_;cases a:(dx (s.take (s.length - 4)) !=s)
 .rw[Vb (by simpa using a)];refine ky (qS1 @aY @a @d) ?_;refine⟨_,(ke @aY),trivial,?_⟩
  rfl
 rw[tr (by simpa using a)];refine ky (aN @aY @a) ?_;refine⟨_,(ke @aY),trivial,?_⟩
 rfl
end Go.Proofs
end
section
open Go Go.Proofs Go.Sx Go.StP Go.Flo
namespace Go.Proofs
def qy2:No:=[83,80,75,49]
def mG(s:No)(i a:Nat)(e:Int):WE×Nat×Int:=
 (⟨decide (0< (aE s a e 200).1),if 0< (aE s a e 200).1 then(i:Int) - (aE s a e 200).1 else 0,(aS s (aE s a e 200).2.1 (aE s a e 200).2.2 65536).1⟩,(aS s (aE s a e 200).2.1 (aE s a e 200).2.2 65536).2)
def gn(s:No):Nat->Nat->Nat->Int->List WE×List Nat×Nat×Int
 |0,_,a,e=>([],[],a,e)
 |k+1,i,a,e=>if(mG s i a e).2.2=0 then((mG s i a e).1::(gn s k (i+1) (mG s i a e).2.1 0).1,a::(gn s k (i+1) (mG s i a e).2.1 0).2.1,(gn s k (i+1) (mG s i a e).2.1 0).2.2) else([],[],(mG s i a e).2)
def fH(s:No):Int×Bool×Nat×Int:=
 if(aw s 0 0 4).1=qy2 then((aE s (aw s 0 0 4).2.1 (aw s 0 0 4).2.2 200).1,(aE s (aw s 0 0 4).2.1 (aw s 0 0 4).2.2 200).2.2==0,(aE s (aw s 0 0 4).2.1 (aw s 0 0 4).2.2 200).2) else(0,false,(aw s 0 0 4).2)
def fh(s:No):List WE×List Nat×Nat×Int:=gn s (fH s).1.toNat 0 (fH s).2.2.1 (fH s).2.2.2
instance:DecidableEq Y8:=fun a b=>if h:a.k=b.k/\a.t=b.t then .isTrue (by cases a;cases b;simp only at h;obtain⟨rfl,rfl⟩:=h;rfl) else .isFalse (fun e=>h (by rw[e];exact⟨rfl,rfl⟩))
def j7(l:List WE):Nat->List Y8
 |0=>[]
 |k+1=>match Xj l (k:Nat) with
  | .ok s=>if Z3 s=true/\gK s∉j7 l k then j7 l k++[gK s] else j7 l k
  | .error _=>j7 l k
def fu(b:No):List Y8:=if(fH b).2.1=true then j7 (fh b).1 (fh b).1.length else []
theorem Uh{s:No}:∀ (k i a:Nat) (e:Int),(gn s k i a e).1.length<=k/\(gn s k i a e).2.1.length=(gn s k i a e).1.length
 |0,i,a,e=>⟨aj _,rfl⟩
 |k+1,i,a,e=>by
  have:=Uh (s:=s) k (i+1) (mG s i a e).2.1 0;unfold gn
  split
  .simp only[Wt];omega
  simp
def J4{b d:No}(i:(ga b d).2=0):(ga b d).1.length<=4099:=by
 unfold ga
 split
 .simp
 rename_i p f
 split
 .simp
 rename_i j;obtain⟨m,a⟩:=rh f;rw[show p.1=b.length by omega] at a;have g:ZC (b.length:Nat) p.2=(((c_ (b.length:Nat) p.2:Nat):Int),(0:Int)):=by
  unfold ZC at a |-
  split at a
  .cases a
  rename_i c;rw[tr c]
  split at a
  .cases a
  rename_i e;rw[tr e]
  split at a
  .cases a
  rename_i h;rw[tr h]
 obtain⟨-,-,c,e,-⟩:=oG g;show(qf2 b p.2).length<=4099;rw[ng c];exact e
def Jy{l:List WE}{a:Int}{s:No}(h:Xj l a=.ok s):s.length<=4099:=by
 unfold Xj at h;cases c:fo l a with
 |error e=>rw[c] at h;cases h
 |ok p=>
  rw[c] at h;change fp l p=.ok s at h;cases p with
  |nil=>cases h;simp
  |cons x p=>
   unfold fp at h;cases d:fp l p with
   |error e=>rw[d] at h;cases h
   |ok t=>
    rw[d] at h;change(if(e_ (l.getD x eE) t).2=0 then _ else _)=_ at h
    split at h
    .rename_i b;cases h;unfold e_ at b |-
     split
     .rename_i f;rw[Vb f] at b;exact J4 b
     rename_i f
     split
     .simp
     show(l.getD x eE).x.length<=4099;omega
    cases h
def kE{D:aA}{E:h7}{m n:Nat}{v:hU}{cs:List hU}(h:Yq D E m v n cs)(x:Bool×Nat):Yw (.sl x) v=some (vi n):=by obtain⟨X,-,h⟩:=h;exact h.len x
def I8(p:WE)(E:h7)(a:Bool)(x:Bool):aZ (some (a,1)) (some (.cells (cH p).toArray E (0,0))) 0 (.bool x)=some (.cells (cH ⟨x,p.b,p.x⟩).toArray E (0,0)):=(rfl)
def HE(p:WE)(E:h7)(a:Bool)(x:Int):aZ (some (a,1)) (some (.cells (cH p).toArray E (0,0))) 1 (vi x)=some (.cells (cH ⟨p.d,x,p.x⟩).toArray E (0,0)):=(rfl)
def Jr(p:WE)(E:h7):aF (some (true,3)) (some (.cells (cH p).toArray E (0,0))) 0=some (.agg (cH p).toArray):=r9 (n:=3) [] (cH p) [] E (0,0) rfl rfl
def HT(t:No):cL (bP prog 261) (ac prog 261) [(2,vs t)]=some (.agg (cH ⟨false,0,t⟩).toArray):=by rw[show bP prog 261=some [(0,1),(1,1),(2,1)] from id kR,jh];rfl
abbrev qF4(w:hW)(v:hU)(l:List Y8):Prop:=Xz 2 obC Z5 w v l
def fd{w0:hW}{L X D:aA}(a:qf5 w0 L X D)(b:Vq w0.heap.size X):Vq w0.heap.size D:=Vq.of_le fun c d=>by
 rcases a.new c d with h| ⟨-,h⟩
 .exact b.le c h
 exact h
def AP(l:List WE):Prop:= ∀g,g<l.length->(l.getD g eE).x.length<=17000000
def qP1(a b:Int):eqD prog 7 3 (vi a) (vi b)=some (a==b):=by unfold eqD;rw[underlying3];rfl
def qP2(a b:No):eqD prog 7 9 (vs a) (vs b)=some (a==b):=by unfold eqD;rw[underlying9];simp only[vs,mq]
def agI:aU prog 3=some (false,1):=id kR
def agS:aU prog 9=some (false,1):=id kR
def Tg(a b:Y8):eqD prog 8 143 (obV a.k a.t) (obV b.k b.t)=some (decide (a=b)):=by
 have f:∀o:Y8,Sx.Xj (false,1) #[vi o.k,vs o.t] 0=some (vi o.k):=fun _=>rfl;have g:∀o:Y8,Sx.Xj (false,1) #[vi o.k,vs o.t] 1=some (vs o.t):=fun _=>rfl;unfold eqD obV;rw[underlying143];simp only;rw[show Tryz.prog.stoodInHeld 143=false by kernel_rfl];simp only[VW,↓reduceIte,pS,kV,agI,agS,f,g,qP1,qP2];obtain⟨k,t⟩:=a;obtain⟨c,d⟩:=b;have e:decide ((⟨k,t⟩:Y8)=⟨c,d⟩)=((k==c)&& (t==d)):=by rw[YZ];simp
 rw[e];cases(k==c)<;>cases(t==d)<;>rfl
def T5(a b:Y8):ak prog .eql 143 (obV a.k a.t) (obV b.k b.t)=some (.bool (decide (a=b))):=by have h:=Tg a b;unfold ak Zq obV at*;rw[show Tryz.prog.eqGuardType Tryz.prog.depth 143=false by kernel_rfl];simp[cm,h]
instance:DecidableEq WE:=fun a b=>if h:a.d=b.d/\a.b=b.b/\a.x=b.x then .isTrue (by cases a;cases b;simp only at h;obtain⟨rfl,rfl,rfl⟩:=h;rfl) else .isFalse (fun e=>h (by rw[e];exact⟨rfl,rfl,rfl⟩))
def Pk(s:No):∃n:Nat,(fH s).1=n/\n<=200:=by
 unfold fH
 split
 .have:=j' (s:=s) (a:=(aw s 0 0 4).2.1) (e:=(aw s 0 0 4).2.2) (most:=200) oM;exact⟨(aE s (aw s 0 0 4).2.1 (aw s 0 0 4).2.2 200).1.toNat,by simp only;omega,by omega⟩
 exact⟨0,rfl,by omega⟩
def Jl(s:No)(a:Nat)(e most:Int)(d:0<=most):((aS s a e most).1.length:Int)<=most:=by
 have f:=j' (s:=s) (a:=a) (e:=e) (most:=most) d;have g:∀ (b:Nat) (e n:Int),0<=n->((aw s b e n).1.length:Int)<=n:=by
  intro b e n c;unfold aw
  split
  .simpa using c
  split
  .simpa using c
  split
  .simpa using c
  simp only[W3,XC];omega
 unfold aS;simp only
 split
 .simpa using d
 have:=g (aE s a e most).2.1 (aE s a e most).2.2 (aE s a e most).1 f.1;omega
theorem sq{s:No}:∀ (k i a:Nat) (e:Int) (p:WE),p∈ (gn s k i a e).1->p.x.length<=65536
 |0,i,a,e,p,h=>by cases h
 |k+1,i,a,e,p,h=>by
  unfold gn at h
  split at h
  .rcases Vw.1 h with rfl|h
   .have:=Jl s (aE s a e 200).2.1 (aE s a e 200).2.2 65536 oM;show(aS s (aE s a e 200).2.1 (aE s a e 200).2.2 65536).1.length<=65536;omega
   exact sq k _ _ _ p h
  cases h
def Hv(s:No):AP (fh s).1:=fun g a=>Xq (sq _ _ _ _ _ (W9 a)) oM
def u7(s:No):(fh s).1.length<=200/\(fh s).2.1.length=(fh s).1.length:=by obtain⟨n,a,b⟩:=Pk s;have:=Uh (s:=s) (fH s).1.toNat 0 (fH s).2.2.1 (fH s).2.2.2;unfold fh;rw[a,WX] at this |-;omega
def u_{D:aA}{E:h7}{m n:Nat}{v:hU}{cs:List hU}(h:Yq D E m v n cs):Value.oneCell' v=true/\v.cells=#[v]:=by obtain⟨X,a,h⟩:=h;exact h.cell
end Go.Proofs
end
section
open Go Go.Proofs Go.Sx Go.Dig
namespace Go.Proofs
end Go.Proofs
end
section
open Go Go.Proofs Go.Sx Go.StP Go.Flo Go.Dig
namespace Go.Proofs
section
variable {P:h_} {w0:hW} {f:Fr} {L:aA} {N:Fr->aA->Prop} {ops:Array Oper} {rest:List Oper} {md:Md} {d:Option Tmp} {ty:h7} {ps:String} {af:Array Edge} {g:Option (Nat×Bool)}
end
end Go.Proofs
end
section
open Go Go.Proofs Go.Sx Go.StP Go.Flo
namespace Go.Proofs
abbrev jw(w:hW)(v:hU)(l:List No):Prop:=Xz 1 qq6 [] w v l
def ns{w:hW}{v:hU}{l:List No}{b off:Nat}{arr:Array hU}{E:h7}{fz:Nat×Nat}(h:WL 1 qq6 [] w v l b off arr E fz){k:Nat}(a:k<l.length)(n:Nat):
  aF (some (false,n)) (some (.cells arr E fz)) (off+k)=some (vs (l.getD k [])):=by
 have:=h.cell (j:=0) (n:=n) a oM
 rwa [Nat.mul_one,XL] at this
end Go.Proofs
end
section
open Go Go.Proofs Go.Sx Go.StP
namespace Go.Proofs
def bF(s:No):Bool:= !(s==[])&&decide (s.length<=80)&& !(s.any cv)
def GZ(c:Int)(w:hW):Va prog 69 #[Zh c] w (fun v D=>v=.bool (qe5 c)/\D=[]):=by
 refine Va.Vr func69 rfl (rs:=[.tmp 2]) results69 ntmps69 ?_;refine kf ?_;unfold qe5;cases a:decide (c<33)
 .cases b:decide (126<c)
  .refine ky (qS1 @bN @a @b) ?_;refine⟨_,(ke @bN),trivial,?_⟩;simp[bS]
  refine ky (qS1 @bN @a @b) ?_;refine⟨_,(ke @bN),trivial,?_⟩;simp[bS]
 refine ky (aN @bN @a) ?_;refine⟨_,(ke @bN),trivial,?_⟩;simp[bS]
def UI(s:No)(w:hW)(e:s.length<1099511627776):
  Va prog 32 #[vs s] w (fun v D=>v=.bool (bF s)/\D=[]):=by
 refine Va.Vr func32 rfl (rs:=[.tmp 2]) results32 ntmps32 ?_;refine kf ?_;cases a:(s !=[])
 .have b:(s==[])=true:=by simpa using a
  refine ky (aN @bN @a) ?_;refine⟨_,(ke @bN),trivial,?_⟩;simp[bS,bF,b]
 have b:(s==[])=false:=by simpa using a
 cases c:decide ((s.length:Int)<=80)
 .have d:decide (s.length<=80)=false:=aW (by have:=Z8 c;omega);refine ky (qS1 @bN @a @c) ?_;refine⟨_,(ke @bN),trivial,?_⟩;simp only[bS,bF,b,d,W6,XA,Xv,Bool.and_false]
 have d:decide (s.length<=80)=true:=aP (by have:=Zu c;omega);refine ky (qS1 @bN @a @c) ?_;refine Ow.Vc rfl call68 (fun f g=>V0 s 69 call69 GZ f e) ?_;refine ko @bN ?_;refine ky @bN ?_;refine⟨_,(ke @bN),trivial,?_⟩;simp only[bS,bF,b,d,W6,XA]
def KZ(s:No)(w:hW)(a:s.length<1099511627776):Va prog 120 #[vs s] w (fun v D=>v=.bool (!bF s)/\D=[]):=by
 refine Va.Vr func120 rfl (rs:=[.tmp 2]) results120 ntmps120 ?_;refine kf ?_;refine ky @bN ?_;refine Ow.Vc rfl call32 (fun b c=>UI s b a) ?_;refine ko @bN ?_;refine ky @bN ?_;refine⟨_,(ke @bN),trivial,?_⟩
 rfl
def VD(v:hU)(l:List No)(w:hW)(e:jw w v l)(x:l.length<1000000)(j:∀s,s∈l->s.length<1099511627776):Va prog 152 #[v,.func (.func 120) #[] #[]] w (fun v D=>(∃i:Int,v=vi i/\decide (0<=i)= !(l.all bF))/\D=[]):=by
 obtain⟨y,off,arr,E,fz,b⟩:=e.row;have m:=e.len;refine Va.Vr func152 rfl (rs:=[.tmp 4]) results152 ntmps152 ?_;refine kf ?_;refine ky (aN @bN @m) ?_;refine Cw.VU (G:=Nat) [9,10,5,11,12,13,14,15,16,17,4,18,8] (fun k=>[(4,vi 0),(8,vi k)]) (fun k=>[]) (fun k=>k<=l.length/\(l.take k).all bF=true) (fun k=>l.length - k) 0 rfl rfl ?_ ?_
 .exact⟨aR _,rfl⟩
 intro k A f;refine kv ?_;obtain⟨f,c⟩:=f;by_cases a:k<l.length
 .have d:decide ((k:Int)< (l.length:Int))=true:=aP oM;have o:=b.has oM;have p:=b.idx false k a;have q:=fun n=>ns b a n;have r:=StP.WJ (z:=([]:No)) a;have g:l.getD k []∈l:=by rw[List.getD_eq_getElem?_getD,List.getElem?_eq_getElem a];exact Y3 a
  have t:=j _ g;generalize l.getD k []=s at*;refine ky (qS3 @bN @d @o @p @q) ?_;refine Ow.qk2 (v:=.bool (!bF s)) rfl rfl rfl call120 (fun u B=>KZ s u t) ?_;cases h:bF s with
  |true=>refine ko @bN ?_;refine Vo.mk (G:=Nat) (k+1) (by show l.length - (k+1)<l.length - k;omega) ⟨a,?_⟩ rfl rfl;rw[r,List.all_append,c,List.all_cons,h];rfl
  |false=>refine ko @bN ?_;refine ky @bN ?_;refine⟨_,(ke @bN),trivial,?_⟩;refine⟨(k:Int),rfl,?_⟩;rw[aP (show(0:Int)<= (k:Int) by omega),show l.all bF=false from List.all_eq_false.2 ⟨s,g,by rw[h];simp⟩];rfl
 obtain rfl:k=l.length:=by omega
 have d:decide ((l.length:Int)< (l.length:Int))=false:=aW oM;rw[WH] at c;refine ky (aN @bN @d) ?_;refine⟨_,(ke @bN),trivial,?_⟩;exact⟨-1,rfl,by rw[c];rfl⟩
def F5(v:hU)(l:List No)(w:hW)(a:jw w v l)(b:l.length<1000000)(c:∀s,s∈l->s.length<1099511627776):Va prog 119 #[v,.func (.func 120) #[] #[]] w (fun v D=>v=.bool (!(l.all bF))/\D=[]):=by
 refine Va.Vr func119 rfl (rs:=[.tmp 4]) results119 ntmps119 ?_;refine kf ?_;refine ky @bN ?_;refine Ow.Wf rfl rfl call152 (fun d e=>Va.toX (VD v l d (a.WO e trivial) b c)) (fun h v1 D1 j k m f=>?_);obtain⟨rfl,i,rfl,g⟩:=f;refine ko (aN @bN @g) ?_;refine ky @bN ?_;refine⟨_,(ke @bN),trivial,?_⟩
 rfl
structure WR where
 data:No
 stl:Nat
def bV:WR:=⟨[],0⟩
structure Wy where
 kind:Nat
 a:No
 b:No
 n:Nat
def fV:Wy:=⟨2,[],[],0⟩
abbrev W_:=List (No×Nat)
structure Yz where
 seen:W_
 stl:W_
 Vl:List Wy
structure h8 where
 dir:Nat->Yz
 files:List WR
 max:Int
 Wv:Int
 fused:Bool
 off:Bool
def aL(l:W_)(s:No):Option Nat:=(l.find? fun p=>s==p.1).map Prod.snd
def bl(l:W_)(s:No):W_:=l.filter fun p=> !(s==p.1)
def ZP:W_->No×Nat->W_
 | [],x=>[x]
 |p::r,x=>if Ys x.1 p.1=true then x::p::r else p::ZP r x
def dU(l:W_)(x:No×Nat):W_:=ZP (bl l x.1) x
def YG(l:W_):Prop:=l.Pairwise fun p a=>Ys p.1 a.1=true
def YG.nodup{l:W_}(h:YG l):(l.map Prod.fst).Nodup:=by refine List.pairwise_map.2 (List.Pairwise.imp ?_ h);intro a b c e;rw[e,rO] at c;cases c
theorem l_(x:No×Nat):∀l:W_,(ZP l x).Perm (x::l)
 | []=>WW _
 |p::r=>by
  unfold ZP
  split
  .exact WW _
  exact((l_ x r).cons p).trans (List.Perm.swap x p r)
theorem w4{x:No×Nat}:∀ {l:W_},YG l->(∀p,p∈l->p.1≠x.1)->YG (ZP l x)
 | [],_,_=>qc0 _ _
 |p::r,h,hx=>by
  unfold YG at h;rw[List.pairwise_cons] at h;unfold ZP
  split
  .rename_i c;refine List.pairwise_cons.2 ⟨fun b a=>?_,List.pairwise_cons.2 h⟩;rcases Vw.1 a with rfl|a
   .exact c
   exact pR c (h.1 b a)
  rename_i c;refine List.pairwise_cons.2 ⟨fun b a=>?_,w4 h.2 fun b a=>hx b (ah _ a)⟩;rcases Vw.1 ((l_ x r).mem_iff.1 a) with rfl|a
  .have d:Ys b.1 p.1=false:=by simpa using c
   exact mS d (fun e=>hx p aX e.symm)
  exact h.1 b a
def qn{l:W_}(s:No)(h:YG l):YG (bl l s):=List.Pairwise.filter _ h
def Of{l:W_}{s:No}{p:No×Nat}(h:p∈bl l s):p.1≠s:=by have:=(List.mem_filter.1 h).2;intro e;rw[e] at this;simp at this
def qg{l:W_}(x:No×Nat)(h:YG l):YG (dU l x):=w4 (qn _ h) fun _ a=>Of a
def eY{l:W_}{s:No}{n:Nat}(h:aL l s=some n):(s,n)∈l:=by
 unfold aL at h;cases c:l.find? fun p=>s==p.1 with
 |none=>rw[c] at h;cases h
 |some p=>rw[c] at h;have d:=List.find?_some c;have e:=List.mem_of_find?_eq_some c;obtain⟨a,b⟩:=p;cases h;rw[show s=a from by simpa using d];exact e
def ry{l:W_}{s:No}(h:aL l s=none):∀p,p∈l->p.1≠s:=by
 intro p b e;unfold aL at h;cases a:l.find? fun p=>s==p.1 with
 |none=>have:=List.find?_eq_none.1 a p b;rw[e] at this;simp at this
 |some c=>rw[a] at h;cases h
def uA{α β:Type}{m:List (α×β)}(e:(m.map Prod.fst).Nodup){k:α}{a b:β}(d:(k,a)∈m)(c:(k,b)∈m):a=b:=by
 induction m with
 |nil=>cases d
 |cons p r h=>
  rw[VY,Xd] at e;rcases Vw.1 d with g|d
  .rcases Vw.1 c with f|c
   .rw[<-g] at f;exact(Wc Prod.snd f).symm
   exact Vx (by rw[<-g];exact List.mem_map.2 ⟨_,c,rfl⟩) e.1
  rcases Vw.1 c with f|c
  .exact Vx (by rw[<-f];exact List.mem_map.2 ⟨_,d,rfl⟩) e.1
  exact h e.2 d c
def pb{l:W_}(b:(l.map Prod.fst).Nodup){s:No}{n:Nat}(h:(s,n)∈l):aL l s=some n:=by
 cases a:aL l s with
 |none=>exact Vx rfl (ry a _ h)
 |some m=>rw[uA b (eY a) h]
section
variable {α β:Type} [BEq α] [LawfulBEq α]
def Rz{m:List (α×β)}(d:(m.map Prod.fst).Nodup){k:α}{v z:β}(h:(k,v)∈m):Z4 k z m=v:=by
 unfold Z4;cases c:m.find? fun p=>k==p.1 with
 |none=>have:=List.find?_eq_none.1 c _ h;exact Vx (Yf k) this
 |some f=>have g:=List.find?_some c;have i:=List.mem_of_find?_eq_some c;obtain⟨a,b⟩:=f;have e:k=a:=eq_of_beq g;subst e;exact uA d i h
def R2{m:List (α×β)}{k:α}{z:β}(h:∀p,p∈m->p.1≠k):Z4 k z m=z:=by
 unfold Z4;cases a:m.find? fun p=>k==p.1 with
 |none=>rfl
 |some b=>have c:=List.find?_some a;exact Vx (eq_of_beq c).symm (h b (List.mem_of_find?_eq_some a))
def sk{m:List (α×β)}{k:α}(h:∀p,p∈m->p.1≠k):m.filter (fun p=> !(k==p.1))=m:=
 List.filter_eq_self.2 fun p a=>by
  have:=h p a;cases e:k==p.1 with
  |false=>rfl
  |true=>exact Vx (eq_of_beq e).symm this
theorem tA(k:α)(v:β):∀ {m:List (α×β)},(m.map Prod.fst).Nodup->(qb9 k v m).Perm ((k,v)::m.filter fun p=> !(k==p.1))
 | [],_=>WW _
 |p::r,hn=>by
  rw[VY,Xd] at hn;unfold qb9;cases a:(k==p.1) with
  |true=>rw[Vb rfl,X_,a];have e:k=p.1:=eq_of_beq a;have b:r.filter (fun p=> !(k==p.1))=r:=sk fun c d f=>hn.1 (List.mem_map.2 ⟨c,d,by rw[f,e]⟩);simp only[YT,VW,↓reduceIte,b];rw[e]
  |false=>rw[tr V_,X_,a];simp only[W6,↓reduceIte];exact((tA k v hn.2).cons p).trans (List.Perm.swap _ _ _)
theorem wy(k:α):∀ {m:List (α×β)},(m.map Prod.fst).Nodup->qd8 k m=m.filter fun p=> !(k==p.1)
 | [],_=>rfl
 |p::r,hn=>by
  rw[VY,Xd] at hn;unfold qd8;cases a:(k==p.1) with
  |true=>rw[Vb rfl,X_,a];have e:k=p.1:=eq_of_beq a;have b:r.filter (fun p=> !(k==p.1))=r:=sk fun c d f=>hn.1 (List.mem_map.2 ⟨c,d,by rw[f,e]⟩);simp only[YT,VW,↓reduceIte,b]
  |false=>rw[tr V_,X_,a,wy k hn.2];simp only[W6,↓reduceIte]
end
def au:Option Nat->hU
 |none=>.pointer none
 |some b=>vp b 0
def qc8(fb:List Nat)(p:No×Nat):No×Option Nat:=(p.1,some (fb.getD p.2 0))
def NmP(fb:List Nat)(l:W_)(m:List (No×Option Nat)):Prop:=m.Perm (l.map (qc8 fb))
def NmP.keys{fb:List Nat}{l:W_}{m:List (No×Option Nat)}(h:NmP fb l m)(a:(l.map Prod.fst).Nodup):(m.map Prod.fst).Nodup:=by refine((h.map Prod.fst).nodup_iff).2 ?_;rw[List.map_map];exact a
def NmP.get{fb:List Nat}{l:W_}{m:List (No×Option Nat)}(h:NmP fb l m)(b:(l.map Prod.fst).Nodup)(s:No):Z4 s none m=(aL l s).map fun n=>fb.getD n 0:=by
 cases a:aL l s with
 |none=>refine R2 fun p c e=>?_;obtain⟨d,f,rfl⟩:=List.mem_map.1 (h.mem_iff.1 c);exact ry a d f e
 |some n=>exact Rz (h.keys b) (h.mem_iff.2 (List.mem_map.2 ⟨_,eY a,rfl⟩))
def wA(fb:List Nat)(l:W_)(s:No):(l.map (qc8 fb)).filter (fun p=> !(s==p.1))=(bl l s).map (qc8 fb):=by unfold bl;rw[List.filter_map];rfl
def NmP.qL5{fb:List Nat}{l:W_}{m:List (No×Option Nat)}(h:NmP fb l m)(a:(l.map Prod.fst).Nodup)(s:No):NmP fb (bl l s) (qd8 s m):=by unfold NmP;rw[wy s (h.keys a),<-wA];exact h.filter _
def NmP.put{fb:List Nat}{l:W_}{m:List (No×Option Nat)}(h:NmP fb l m)(a:(l.map Prod.fst).Nodup)(s:No)(n:Nat):NmP fb (dU l (s,n)) (qb9 s (some (fb.getD n 0)) m):=by refine(tA s _ (h.keys a)).trans ?_;unfold dU;refine List.Perm.trans ?_ ((l_ (s,n) (bl l s)).map (qc8 fb)).symm;rw[VY,<-wA];exact(h.filter _).cons _
def NmP.mono{fb a:List Nat}{l:W_}{m:List (No×Option Nat)}(h:NmP fb l m)(b:∀p,p∈l->a.getD p.2 0=fb.getD p.2 0):NmP a l m:=by unfold NmP at h |-;rw[show l.map (qc8 a)=l.map (qc8 fb) from List.map_congr_left fun p c=>by unfold qc8;rw[b p c]];exact h
def gZ:No:=[108,111,111,115,101]
def gG:No:=[112,97,99,107]
def aJ:No:=[114,101,102]
def bT(k:Nat):No:=match k with|0=>gZ|1=>gG|_=>aJ
def al(s:No):Option Nat:=if s==gZ then some 0 else if s==gG then some 1 else if s==aJ then some 2 else none
def cN{s:No}{k:Nat}(h:al s=some k):k<3/\s=bT k:=by
 unfold al at h
 split at h
 .rename_i e;cases h;exact⟨by omega,eq_of_beq e⟩
 split at h
 .rename_i e;cases h;exact⟨by omega,eq_of_beq e⟩
 split at h
 .rename_i e;cases h;exact⟨by omega,eq_of_beq e⟩
 cases h
def jP{k:Nat}(h:k<3):al (bT k)=some k:=by
 have:k=0\/k=1\/k=2:=by omega
 rcases this with rfl|rfl|rfl<;>rfl
def bY(l:W_)(c:Wy):W_:=match c.kind with
 |0=>dU l (c.a,c.n)
 |1=>dU (bl l c.a) (c.b,(aL l c.a).getD 0)
 |_=>bl l c.a
def cT(S:h8)(k:Nat)(d:Yz):h8:={S with dir:=fun j=>if j=k then d else S.dir j}
def bi(S:h8)(dir:No)(names:List No):Nat:=if al dir=none\/names.all bF=false then 1 else if S.off=true then 9 else 0
def aD(S:h8):h8×Nat:=if S.fused=true/\S.Wv=0 then({S with off:=true},9) else if S.fused=true then({S with Wv:=S.Wv - 1},0) else(S,0)
def dK(S:h8)(l:W_):Nat:=(l.map fun p=>(S.files.getD p.2 bV).data.length).sum
def ej(S:h8):Nat:=dK S (S.dir 0).seen+dK S (S.dir 1).seen+dK S (S.dir 2).seen
structure XK(S:h8):Prop where
 seen:∀k,k<3->YG (S.dir k).seen
 stl:∀k,k<3->YG (S.dir k).stl
 seenN:∀k,k<3-> ∀p,p∈ (S.dir k).seen->p.2<S.files.length
 stlN:∀k,k<3-> ∀p,p∈ (S.dir k).stl->p.2<S.files.length
 pendN:∀k,k<3-> ∀c,c∈ (S.dir k).Vl->c.kind=0->c.n<S.files.length
 file:∀f,f∈S.files->f.data.length<=1048576/\f.stl<=f.data.length
 Wv: -9223372036854775808<=S.Wv/\S.Wv<9223372036854775808/\(S.fused=true->0<=S.Wv)
 max: -9223372036854775808<=S.max/\S.max<9223372036854775808
def cG(f:WR):Obj:=.cells #[vs f.data,vi (f.stl:Int)] 75 (0,0)
def c1(a b:Nat)(v:hU):Obj:=.cells #[vm a,vm b,v] 79 (0,0)
def bJ(bm:Nat)(S:h8):Obj:=.cells #[vm bm,vi S.max,vi S.Wv,.bool S.fused,.bool S.off] 71 (0,0)
def ce(s:No):Obj:= VS (vs s)
def Zl(b:Nat):Obj:=.cells #[vp b 0] 73 (0,0)
structure XE where
 bd:Nat
 bm:Nat
 d:Nat->Nat
 s:Nat->Nat
 t:Nat->Nat
 p:Nat->hU
 fb:List Nat
def jD(G:XE):List (No×Option Nat):=[(gZ,some (G.d 0)),(gG,some (G.d 1)),(aJ,some (G.d 2))]
def FnP(X:aA)(fb:List Nat)(v:hU)(c:Wy):Prop:=match c.kind with
 |0=> ∃a b,v=.func (.func 227) #[] #[vp a 0,vp b 0]/\Sx.look X a=some (Zl (fb.getD c.n 0))/\Sx.look X b=some (ce c.a)
 |1=> ∃a b,v=.func (.func 222) #[] #[vp a 0,vp b 0]/\Sx.look X a=some (ce c.a)/\Sx.look X b=some (ce c.b)
 |_=> ∃a,v=.func (.func 210) #[] #[vp a 0]/\Sx.look X a=some (ce c.a)
def NmM(X:aA)(fb:List Nat)(b:Nat)(l:W_):Prop:= ∃o m,Sx.look X b=some o/\dO vs au o m/\NmP fb l m
structure XG(X:aA)(G:XE)(S:h8):Prop where
 disk:Sx.look X G.bd=some (bJ G.bm S)
 dirs:∃o,Sx.look X G.bm=some o/\dO vs au o (jD G)
 dir:∀k,k<3->Sx.look X (G.d k)=some (c1 (G.s k) (G.t k) (G.p k))
 seen:∀k,k<3->NmM X G.fb (G.s k) (S.dir k).seen
 stl:∀k,k<3->NmM X G.fb (G.t k) (S.dir k).stl
 Vl:∀k,k<3-> ∃vals:List hU,vals.length=(S.dir k).Vl.length/\Gr X 127 1 (G.p k) vals.length vals/\ ∀i,i<vals.length->FnP X G.fb (vals.getD i undef) ((S.dir k).Vl.getD i fV)
 file:∀n,n<S.files.length->Sx.look X (G.fb.getD n 0)=some (cG (S.files.getD n bV))
 len:G.fb.length=S.files.length
 nodf:G.fb.Nodup
 nodm:[G.s 0,G.s 1,G.s 2,G.t 0,G.t 1,G.t 2].Nodup
 nodd:[G.d 0,G.d 1,G.d 2].Nodup
 nodb:∀k,k<3->G.bm≠G.s k/\G.bm≠G.t k
 nodp:∀i j,i<3->j<3->i≠j-> ∀b,Xy (G.p i)=some b->Xy (G.p j)≠some b
 ok:XK S
def DkW(w:hW)(G:XE)(S:h8):Prop:= ∃X,(∀b o,Sx.look X b=some o->w.heap[b]? =some o)/\XG X G S
def FnP.Vn{X X':aA}{fb:List Nat}{v:hU}{c:Wy}(h:FnP X fb v c)(d:∀b o,Sx.look X b=some o->((∃s,o=ce s)\/ ∃a,o=Zl a)->Sx.look X' b=some o):FnP X' fb v c:=by
 unfold FnP at h |-
 split at h
 .obtain⟨e,i,f,g,j⟩:=h;exact⟨e,i,f,d _ _ g (.inr ⟨_,rfl⟩),d _ _ j (.inl ⟨_,rfl⟩)⟩
 .obtain⟨e,i,f,g,j⟩:=h;exact⟨e,i,f,d _ _ g (.inl ⟨_,rfl⟩),d _ _ j (.inl ⟨_,rfl⟩)⟩
 obtain⟨e,f,g⟩:=h;exact⟨e,f,d _ _ g (.inl ⟨_,rfl⟩)⟩
def NmM.Vn{X X':aA}{fb:List Nat}{b:Nat}{l:W_}(h:NmM X fb b l)(a:∀o,Sx.look X b=some o->Sx.look X' b=some o):NmM X' fb b l:=by obtain⟨o,m,c,d,e⟩:=h;exact⟨o,m,a _ c,d,e⟩
def fE{L:aA}{E:h7}{m n:Nat}{v:hU}{cs:List hU}(h:Gr L E m v n cs){b:Nat}(a:Xy v=some b):∃arr,Sx.look L b=some (.cells arr E (0,0)):=by
 rcases h with h| ⟨-,-,c,rfl,h⟩
 .cases h with
  |nl=>cases a
  |at_ d=>cases a;exact⟨_,d⟩
 cases a;exact⟨_,h⟩
def Xo:Obj->Option h7
 | .cells _ t _=>some t
 |_=>none
def fW{α β:Type}{encK:α->hU}{encV:β->hU}{o:Obj}{m:List (α×β)}(h:dO encK encV o m):Xo o=none:=by obtain⟨a,c,rfl,-⟩:=h;rfl
def eV{X:aA}{c b:Nat}{d x o:Obj}(e:Sx.look X c=some d)(a:Sx.look X b=some o)(f:Xo o≠Xo d):Sx.look (Vh X c x) b=some o:=by rw[bE (by rintro rfl;rw[e] at a;cases a;exact f rfl)];exact a
def XG.mono{X X':aA}{G:XE}{S:h8}(h:XG X G S)(a:∀b o,Sx.look X b=some o->Sx.look X' b=some o):XG X' G S where
 disk:=a _ _ h.disk
 dirs:=by obtain⟨o,c,d⟩:=h.dirs;exact⟨o,a _ _ c,d⟩
 dir k dg:=a _ _ (h.dir k dg)
 seen k dg:=(h.seen k dg).Vn fun o=>a _ o
 stl k dg:=(h.stl k dg).Vn fun o=>a _ o
 Vl k dg:=by obtain⟨e,c,d,f⟩:=h.Vl k dg;exact⟨e,c,d.Vn fun b o _=>a b o,fun i g=>(f i g).Vn fun b o j _=>a b o j⟩
 file n hn:=a _ _ (h.file n hn)
 len:=h.len
 nodf:=h.nodf
 nodm:=h.nodm
 nodd:=h.nodd
 nodb:=h.nodb
 nodp:=h.nodp
 ok:=h.ok
def XG.Yt{X:aA}{G:XE}{S:h8}(h:XG X G S)(S':h8)(j:S'.dir=S.dir)(l:S'.files=S.files)(ok:XK S'):XG (Vh X G.bd (bJ G.bm S')) G S' where
 disk:=cY h.disk
 dirs:=by obtain⟨o,d,c⟩:=h.dirs;exact⟨o,eV h.disk d (by rw[fW c];intro e;cases e),c⟩
 dir k dg:=eV h.disk (h.dir k dg) (by simp[Xo,c1,bJ])
 seen k dg:=by rw[j];obtain⟨o,m,d,c,f⟩:=h.seen k dg;exact⟨o,m,eV h.disk d (by rw[fW c];intro e;cases e),c,f⟩
 stl k dg:=by rw[j];obtain⟨o,m,d,c,f⟩:=h.stl k dg;exact⟨o,m,eV h.disk d (by rw[fW c];intro e;cases e),c,f⟩
 Vl k dg:=by
  rw[j];obtain⟨q,d,c,f⟩:=h.Vl k dg;refine⟨q,d,c.Vn fun b o r g=>?_,fun i t=>(f i t).Vn fun b o g u=>eV h.disk g ?_⟩
  .obtain⟨arr,p⟩:=fE c r;rw[g] at p;cases p;exact eV h.disk g (by simp[Xo,bJ])
  rcases u with⟨s,rfl⟩ | ⟨a,rfl⟩<;>simp[Xo,bJ,ce,Zl]
 file n hn:=by rw[l] at hn |-;exact eV h.disk (h.file n hn) (by simp[Xo,bJ,cG])
 len:=by rw[l];exact h.len
 nodf:=h.nodf
 nodm:=h.nodm
 nodd:=h.nodd
 nodb:=h.nodb
 nodp:=h.nodp
 ok:=ok
def XG.qe4{X:aA}{G:XE}{S:h8}(h:XG X G S){n:Nat}(d:n<S.files.length)(f:WR)(ok:XK {S with files:=S.files.set n f}):XG (Vh X (G.fb.getD n 0) (cG f)) G {S with files:=S.files.set n f} where
 disk:=eV (h.file n d) h.disk (by simp[Xo,bJ,cG])
 dirs:=by obtain⟨o,g,c⟩:=h.dirs;exact⟨o,eV (h.file n d) g (by rw[fW c];intro e;cases e),c⟩
 dir k dg:=eV (h.file n d) (h.dir k dg) (by simp[Xo,c1,cG])
 seen k dg:=by obtain⟨o,m,g,c,j⟩:=h.seen k dg;exact⟨o,m,eV (h.file n d) g (by rw[fW c];intro e;cases e),c,j⟩
 stl k dg:=by obtain⟨o,m,g,c,j⟩:=h.stl k dg;exact⟨o,m,eV (h.file n d) g (by rw[fW c];intro e;cases e),c,j⟩
 Vl k dg:=by
  obtain⟨u,g,c,j⟩:=h.Vl k dg;refine⟨u,g,c.Vn fun b o v l=>?_,fun i p=>(j i p).Vn fun b o l w=>eV (h.file n d) l ?_⟩
  .obtain⟨arr,t⟩:=fE c v;rw[l] at t;cases t;exact eV (h.file n d) l (by simp[Xo,cG])
  rcases w with⟨s,rfl⟩ | ⟨a,rfl⟩<;>simp[Xo,cG,ce,Zl]
 file i p:=by
  simp only[X8] at p;by_cases e:i=n
  .subst e;rw[cY (h.file i d),List.getD_eq_getElem?_getD,List.getElem?_set_self d];rfl
  have y:=h.len;have x:G.fb.getD i 0≠G.fb.getD n 0:=by
   intro q;rw[List.getD_eq_getElem?_getD,List.getD_eq_getElem?_getD,List.getElem?_eq_getElem oM,List.getElem?_eq_getElem oM] at q;simp only[Option.getD_some] at q;rcases Nat.lt_or_gt_of_ne e with r|r
   .exact(List.pairwise_iff_getElem.1 h.nodf) i n oM oM r q
   exact(List.pairwise_iff_getElem.1 h.nodf) n i oM oM r q.symm
  rw[bE (Wq x),h.file i p,List.getD_eq_getElem?_getD,List.getD_eq_getElem?_getD,List.getElem?_set_ne (Wq e)]
 len:=by rw[X8];exact h.len
 nodf:=h.nodf
 nodm:=h.nodm
 nodd:=h.nodd
 nodb:=h.nodb
 nodp:=h.nodp
 ok:=ok
def XG.world{X:aA}{G:XE}{S:h8}{w0 w:hW}(h:XG X G S)(a:Hp w0 X w):DkW w G S:=⟨X,fun _ _ b=>a.has _ _ (bU b),h⟩
def XG.qr1{X:aA}{G:XE}{S:h8}{w:hW}(h:XG X G S)(a:∀p,p∈X->w.heap[p.1]? =some p.2):DkW w G S:=⟨X,fun _ _ b=>a _ (bU b),h⟩
theorem DkW.Wo{w a:hW}{L:aA}{G:XE}{S:h8}(h:DkW w G S)(f:Hp w L a)(g:Vq w.heap.size L):DkW a G S:=by obtain⟨X,c,i⟩:=h;refine⟨X,fun b o d=>?_,i⟩;have e:=(Array.getElem?_eq_some_iff.1 (c b o d)).1;rw[f.Wo b e (g.not e)];exact c b o d
def j2(bm:Nat)(S:h8)(n:Nat):aF (some (false,n)) (some (bJ bm S)) 0=some (vm bm):=(rfl)
def rK(bm:Nat)(S:h8)(n:Nat):aF (some (false,n)) (some (bJ bm S)) 1=some (vi S.max):=(rfl)
def tL(bm:Nat)(S:h8)(n:Nat):aF (some (false,n)) (some (bJ bm S)) 2=some (vi S.Wv):=(rfl)
def uD(bm:Nat)(S:h8)(n:Nat):aF (some (false,n)) (some (bJ bm S)) 3=some (.bool S.fused):=(rfl)
def u5(bm:Nat)(S:h8)(n:Nat):aF (some (false,n)) (some (bJ bm S)) 4=some (.bool S.off):=(rfl)
def JY(bm:Nat)(S:h8)(x:Int)(a:Bool):aZ (some (a,1)) (some (bJ bm S)) 1 (vi x)=some (bJ bm {S with max:=x}):=cP [vm bm] [vi S.max] [vi x] [vi S.Wv,.bool S.fused,.bool S.off] a _ 71 rfl rfl rfl rfl rfl
def Jk(bm:Nat)(S:h8)(x:Int)(a:Bool):aZ (some (a,1)) (some (bJ bm S)) 2 (vi x)=some (bJ bm {S with Wv:=x}):=cP [vm bm,vi S.max] [vi S.Wv] [vi x] [.bool S.fused,.bool S.off] a _ 71 rfl rfl rfl rfl rfl
def ru(bm:Nat)(S:h8)(x:Bool)(a:Bool):aZ (some (a,1)) (some (bJ bm S)) 3 (.bool x)=some (bJ bm {S with fused:=x}):=cP [vm bm,vi S.max,vi S.Wv] [.bool S.fused] [.bool x] [.bool S.off] a _ 71 rfl rfl rfl rfl rfl
def sA(bm:Nat)(S:h8)(x:Bool)(a:Bool):aZ (some (a,1)) (some (bJ bm S)) 4 (.bool x)=some (bJ bm {S with off:=x}):=cP [vm bm,vi S.max,vi S.Wv,.bool S.fused] [.bool S.off] [.bool x] [] a _ 71 rfl rfl rfl rfl rfl
def kF(a b:Nat)(v:hU)(n:Nat):aF (some (false,n)) (some (c1 a b v)) 0=some (vm a):=(rfl)
def kH(a b:Nat)(v:hU)(n:Nat):aF (some (false,n)) (some (c1 a b v)) 1=some (vm b):=(rfl)
def kI(a b:Nat)(v:hU)(n:Nat):aF (some (false,n)) (some (c1 a b v)) 2=some v:=(rfl)
def qT(f:WR)(n:Nat):aF (some (false,n)) (some (cG f)) 0=some (vs f.data):=(rfl)
def qW(f:WR)(n:Nat):aF (some (false,n)) (some (cG f)) 1=some (vi (f.stl:Int)):=(rfl)
def sY(f:WR)(x:No)(a:Bool):aZ (some (a,1)) (some (cG f)) 0 (vs x)=some (cG {f with data:=x}):=cP [] [vs f.data] [vs x] [vi (f.stl:Int)] a _ 75 rfl rfl rfl rfl rfl
def rZ(f:WR)(x:Nat)(a:Bool):aZ (some (a,1)) (some (cG f)) 1 (vi (x:Int))=some (cG {f with stl:=x}):=cP [vs f.data] [vi (f.stl:Int)] [vi (x:Int)] [] a _ 75 rfl rfl rfl rfl rfl
def lm(b o:Nat):ak prog .eql 26 (vp b o) (.pointer none)=some (.bool false):=by simp[ak,Zq,cm,cg,underlying26,vp]
def AM(b o:Nat):ak prog .neq 26 (vp b o) (.pointer none)=some (.bool true):=by simp[ak,Zq,cm,cg,underlying26,vp]
def jo(b o:Nat):ak prog .eql 68 (vp b o) (.pointer none)=some (.bool false):=by simp[ak,Zq,cm,cg,underlying68,vp]
def je:ak prog .eql 68 (.pointer none) (.pointer none)=some (.bool true):=by simp[ak,Zq,cm,cg,underlying68]
def ly(b o:Nat):ak prog .eql 73 (vp b o) (.pointer none)=some (.bool false):=by simp[ak,Zq,cm,cg,underlying73,vp]
def lX:ak prog .eql 73 (.pointer none) (.pointer none)=some (.bool true):=by simp[ak,Zq,cm,cg,underlying73]
def qr7:ac prog 68=some (au none):=id kR
def qg0:ac prog 73=some (au none):=id kR
def fQ:ZK prog 9 vs:=ZK.str underlying9
def rA(G:XE)(s:No):Z4 s none (jD G)=(al s).map G.d:=by
 unfold Z4 jD al;rw[List.find?_cons,List.find?_cons,List.find?_cons,List.find?_nil];cases a:s==gZ
 .cases b:s==gG
  .cases c:s==aJ<;>rfl
  rfl
 rfl
def mB:=aN (aN (qS1 @bA @b9 @j2) (qS1 @rK @tL @uD)) (aN (qS1 @u5 @JY @Jk) (aN (aN @ru @sA) (aN @lm @AM)))
def BP(b bm:Nat)(S:h8)(w:hW)(e: -9223372036854775808<=S.Wv/\S.Wv<9223372036854775808/\(S.fused=true->0<=S.Wv))(f:w.heap[b]? =some (bJ bm S)):
  Va prog 101 #[vp b 0] w (fun v D=> ∃o,D=[(b,o)]/\v=vi (aD S).2/\o=bJ bm (aD S).1):=by
 refine Va.XV func101 rfl (rs:=[.tmp 2]) results101 ntmps101 f ?_;refine kf ?_;unfold aD;cases a:S.fused with
 |false=>rw[tr V_,tr V_];refine ky (aN @mB @a) ?_;refine⟨_,_,_,(ke @mB),rfl,trivial,?_⟩;exact⟨rfl,rfl⟩
 |true=>
  by_cases c:S.Wv=0
  .have d:(S.Wv==0)=true:=W8.2 c;rw[Vb ⟨rfl,c⟩];refine ky (qS1 @mB @a @d) ?_;refine⟨_,_,_,(ke @mB),rfl,trivial,?_⟩;exact⟨rfl,rfl⟩
  have d:(S.Wv==0)=false:=WN.2 c;have g:=e.2.2 a;rw[tr (fun h=>c h.2),Vb rfl];refine ky (qS1 @mB @a @d) ?_;refine⟨_,_,_,(ke @mB),rfl,trivial,?_⟩;exact⟨rfl,rfl⟩
def IQ(b bm:Nat)(S:h8)(n:Int)(w:hW)(a:w.heap[b]? =some (bJ bm S)):
  Va prog 20 #[vp b 0,vi n] w (fun v D=> ∃o,D=[(b,o)]/\v=bS []/\o=bJ bm {S with Wv:=n,fused:=decide (0<=n)}):=by
 refine Va.XV func20 rfl (rs:=[]) results20 ntmps20 a ?_;refine kf ?_;refine ky @mB ?_;refine⟨_,_,_,(ke @mB),rfl,trivial,?_⟩;exact⟨rfl,rfl⟩
def Ap(G:XE)(S:h8)(dir:No)(names:List No)(v:hU):Prop:=
 (bi S dir names≠0/\v=.tuple #[.pointer none,vi (bi S dir names:Nat)])\/(bi S dir names=0/\ ∃k,al dir=some k/\v=.tuple #[vp (G.d k) 0,vi 0])
def iL:=aN (aN (aN @bA @b9) (qS1 @j2 @rK @tL)) (aN (qS1 @uD @u5 @lm) (qS1 @AM @jo @je))
def mQ(w:hW)(G:XE)(S:h8)(dir:No)(v:hU)(names:List No)(f:DkW w G S)(g:jw w v names)(h:names.length<1000000)(i:∀s,s∈names->s.length<1099511627776):
  Va prog 71 #[vp G.bd 0,vs dir,v] w (fun v D=>Ap G S dir names v/\D=[]):=by
 obtain⟨X,b,c⟩:=f;have a:=b _ _ c.disk;obtain⟨r,j,l⟩:=c.dirs;have m:=b _ _ j;refine Va.Vr func71 rfl (rs:=[.tmp 6,.tmp 7]) results71 ntmps71 ?_;refine kf ?_;refine ky (aN @iL @a) ?_;refine Ow.XQ (encK:=vs) (encV:=au) (k:=dir) (z:=none) rfl rfl underlying69 fQ qr7 rfl rfl m l ?_;rw[rA];unfold Ap bi;cases t:al dir with
 |none=>rw[Vb (.inl rfl)];have n:au none=.pointer none:=rfl;refine ko (aN @iL @n) ?_;refine ky @iL ?_;refine⟨_,(ke @iL),trivial,?_⟩;exact .inl ⟨by decide,rfl⟩
 |some k=>
  have o:∀d:Nat,au (some d)=vp d 0:=fun _=>rfl;refine ko (aN @iL @o) ?_;refine Ow.Vc rfl call119 (fun p q=>F5 v names p (g.WO q trivial) h i) ?_;cases u:names.all bF with
  |false=>rw[Vb (.inr rfl)];refine ko @iL ?_;refine ky @iL ?_;refine⟨_,(ke @iL),trivial,?_⟩;exact .inl ⟨by decide,rfl⟩
  |true=>
   rw[tr V_];cases e:S.off with
   |true=>rw[Vb rfl];refine ko @iL ?_;refine ky (qS1 @iL @a @e) ?_;refine⟨_,(ke @iL),trivial,?_⟩;exact .inl ⟨by decide,rfl⟩
   |false=>rw[tr V_];refine ko @iL ?_;refine ky (qS1 @iL @a @e) ?_;refine⟨_,(ke @iL),trivial,?_⟩;exact .inr ⟨rfl,k,rfl,rfl⟩
def ji{w:hW}{b:Nat}{s:No}{E:h7}(h:w.heap[b]? =some (.cells #[vs s] E (0,0))):jw w (Xr b 0 1 1) [s]:=
 Xz.sl (l:=[s]) h (fun k a j c=>by
  obtain rfl:k=0:=by simpa using a
  obtain rfl:j=0:=by omega
  rfl) (aj _) V_
def SO{w:hW}{b:Nat}{s a:No}{E:h7}(h:w.heap[b]? =some (.cells #[vs s,vs a] E (0,0))):jw w (Xr b 0 2 2) [s,a]:=
 Xz.sl (l:=[s,a]) h (fun k c j d=>by
  obtain rfl:j=0:=by omega
  have:k=0\/k=1:=by simp at c;omega
  rcases this with rfl|rfl<;>rfl) (aj _) V_
def Je{S:h8}{dir:No}{names:List No}(h:bi S dir names=0):al dir≠none/\names.all bF=true/\S.off=false:=by
 unfold bi at h
 split at h
 .cases h
 split at h
 .cases h
 rename_i a b;refine⟨fun e=>a (.inl e),?_,by simpa using b⟩;cases e:names.all bF with
 |true=>rfl
 |false=>exact Vx (.inr e) a
def bX(S:h8)(dir name:No):No×Nat:=
 if bi S dir [name]≠0 then([],bi S dir [name]) else match(al dir).bind fun k=>aL (S.dir k).seen name with
  |none=>([],6)
  |some n=>((S.files.getD n bV).data,0)
def iT{n:Nat}(h:n≠0):((n:Int) !=0)=true:=Yb.2 oM
def ij:=aN (aN (aN (aN @bA @b9) (aN @j2 @kF)) (aN (aN @kH @kI) (qS1 @qT @qW @jo))) (aN (aN (aN @je @ly) (aN @lX @Sx.Wk)) (aN (aN @Sx.Wl @mv) (qS1 @Sx.Yk @Sx.Yl @Sx.Ym)))
def sD(w:hW)(G:XE)(S:h8)(dir name:No)(p:DkW w G S)(u:name.length<1099511627776):
  Va prog 38 #[vp G.bd 0,vs dir,vs name] w (fun v D=>v=.tuple #[vs (bX S dir name).1,vi ((bX S dir name).2:Nat)]/\D=[]):=by
 have x:=p;obtain⟨X,g,b⟩:=p;refine Va.Vr func38 rfl (rs:=[.tmp 6,.tmp 7]) results38 ntmps38 ?_;refine kf ?_;refine ky @ij ?_;refine Ow.buildSlice (e:=9) #[vs name] rfl rfl kR fun c P y=>?_;refine ko @ij ?_;have a:Vq w.heap.size [(c,VS (vs name))]:=⟨y,trivial⟩;refine Ow.Wf rfl rfl call71 (fun A q=>Va.toX (mQ A G S dir (Xr c 0 1 1) [name] (x.Wo q a) (ji (q.has _ _ aX)) V_ (by simpa using u))) (fun Q v2 D2 R T U h=>?_);obtain⟨rfl,h⟩:=h;rw[VX];unfold bX;rcases h with⟨d,rfl⟩ | ⟨d,k,r,rfl⟩
 .rw[Vb d];have i:=iT d;refine ko @ij ?_;refine ky (aN @ij @i) ?_;refine⟨_,(ke @ij),a,?_⟩
  rfl
 rw[tr (by rw[d];simp),r];have f:=(cN r).1;have j:=g _ _ (b.dir k f);obtain⟨os,V,B,C,E⟩:=b.seen k f;have s:=g _ _ B;have F:=(Array.getElem?_eq_some_iff.1 j).1;have H:=(Array.getElem?_eq_some_iff.1 s).1;have I:aG w [(c,VS (vs name))] (G.d k)=some (c1 (G.s k) (G.t k) (G.p k)):=by rw[dr (a.not F)];exact j
 have J:aG w [(c,VS (vs name))] (G.s k)=some os:=by rw[dr (a.not H)];exact s
 have i:((0:Int) !=0)=false:=rfl;refine ko @ij ?_;refine ky (qS2 @ij @i @j @I) ?_;refine Ow.XQ (encK:=vs) (encV:=au) (k:=name) (z:=none) rfl rfl underlying76 fQ qg0 rfl rfl J C ?_;rw[E.get (b.ok.seen k f).nodup];show Ow _ _ _ _ _ _ _ _;cases l:aL (S.dir k).seen name with
 |none=>
  have m:(some k).bind (fun k=>aL (S.dir k).seen name)=none:=l;rw[m];have K:au none=.pointer none:=rfl;refine ko (aN @ij @K) ?_;refine ky @ij ?_;refine⟨_,(ke @ij),a,?_⟩
  rfl
 |some n=>
  have m:(some k).bind (fun k=>aL (S.dir k).seen name)=some n:=l;rw[m];have L:=b.ok.seenN k f _ (eY l);have o:=g _ _ (b.file n L);have M:=(Array.getElem?_eq_some_iff.1 o).1;have N:aG w [(c,VS (vs name))] (G.fb.getD n 0)=some (cG (S.files.getD n bV)):=by rw[dr (a.not M)];exact o
  have O:∀t:Nat,au (some t)=vp t 0:=fun _=>rfl;refine ko (aN @ij @O) ?_;refine ky (qS1 @ij @o @N) ?_;refine⟨_,(ke @ij),a,?_⟩
  rfl
def qf9(S:h8)(p:No×Option Nat):Nat:=match al p.1 with|some k=>dK S (S.dir k).seen|none=>0
def ie(S:h8)(l:W_)(p:No×Option Nat):Nat:=match aL l p.1 with|some n=>(S.files.getD n bV).data.length|none=>0
def OS(S:h8)(G:XE):((jD G).map (qf9 S)).sum=ej S:=by unfold jD ej;simp only[VY,Wr,List.sum_cons,List.sum_nil];show dK S (S.dir 0).seen+ (dK S (S.dir 1).seen+ (dK S (S.dir 2).seen+0))=_;omega
def MI(S:h8){fb:List Nat}{l:W_}{m:List (No×Option Nat)}(h:NmP fb l m)(a:(l.map Prod.fst).Nodup):(m.map (ie S l)).sum=dK S l:=by rw[(h.map (ie S l)).sum_nat,List.map_map];unfold dK;congr 1;refine List.map_congr_left fun p b=>?_;show ie S l (qc8 fb p)=_;unfold ie qc8;rw[pb a b]
def uL{α:Type}(f:α->Nat){a b m:List α}(h:(a++b).Perm m):(a.map f).sum<= (m.map f).sum:=by rw[<- (h.map f).sum_nat,We,List.sum_append];omega
def mW{α β:Type}{encK:α->hU}{encV:β->hU}{o:Obj}{bm:Nat}{a:Obj}{m dn lf:List (α×β)}(h:ItG encK encV o bm a m dn lf):(dn++lf).Perm m:=by obtain⟨c,d,e,-,-,-,-,-,-,b⟩:=h;exact b
def tN{G:XE}{p:No×Option Nat}(h:p∈jD G):∃k,k<3/\p=(bT k,some (G.d k)):=by
 unfold jD at h;simp only[Vw,WI,WB] at h;rcases h with rfl|rfl|rfl
 .exact⟨0,by omega,rfl⟩
 .exact⟨1,by omega,rfl⟩
 exact⟨2,by omega,rfl⟩
structure UsG where
 dn:List (No×Option Nat)
 lf:List (No×Option Nat)
 it:Obj
 DG:aA
def f_:=aN (aN (aN (aN @bA @b9) (aN @j2 @kF)) (aN (aN @kH @kI) (qS1 @qT @qW @lm))) (aN (aN (aN @jo @je) (qS1 @ly @lX @Sx.Wk)) (aN (aN @Sx.Wl @mv) (qS1 @Sx.Yk @Sx.Yl @Sx.Ym)))
def sW(w:hW)(G:XE)(S:h8)(hD:DkW w G S)(C:ej S<4611686018427387904):Va prog 100 #[vp G.bd 0] w (fun v D=>v=vi (ej S:Nat)/\D=[]):=by
 obtain⟨X,i,e⟩:=hD;have hd:=i _ _ e.disk;obtain⟨om,zf,hM⟩:=e.dirs;have t:=i _ _ zf;have zu:=(Array.getElem?_eq_some_iff.1 t).1;have K:=OS S G;have Wo:∀b o,w.heap[b]? =some o-> ∀Y,Vq w.heap.size Y->aG w Y b=some o:=fun b o C Y hY=>by rw[dr (hY.not (Array.getElem?_eq_some_iff.1 C).1)];exact C
 refine Va.Vr func100 rfl (rs:=[.tmp 2]) results100 ntmps100 ?_;refine kf ?_;refine ky (aN @f_ @hd) ?_;refine Ow.ZY (encK:=vs) (encV:=au) rfl rfl underlying69 rfl t hM fun f oi zv zg l=>?_;rw[Vy];refine ko @f_ ?_;refine ky @f_ ?_;refine Cw.VU (G:=UsG) [15,16,17,18,5,19,20,21,22,23,24,25,26,27,7,28,29,30,31,32,33,34,3] (fun g=>[(3,vi ((g.dn.map (qf9 S)).sum:Nat))]) (fun g=>(f,g.it)::g.DG) (fun g=>ItG vs au g.it G.bm om (jD G) g.dn g.lf/\Vq w.heap.size g.DG) (fun g=>g.lf.length) ⟨[],jD G,oi,[]⟩ rfl rfl ?_ ?_
 .exact⟨l,trivial⟩
 intro g j L;refine kv ?_;clear l;obtain⟨dn,lf,it,DG⟩:=g;simp only at L |-;obtain⟨l,u⟩:=L;have c:∀x,Vq w.heap.size ((f,x)::DG):=fun x=>⟨zg,u⟩;refine ky @f_ ?_;refine Ow.qb8 rfl rfl rfl (eJ _ _ _) (Wo _ _ t _ (c it)) l (fun E=>?_) (fun p a N zw F=>?_)
 .subst E;have d:=mW l;rw[VX] at d;rw[(d.map (qf9 S)).sum_nat,K];refine ko @f_ ?_;refine ky @f_ ?_;refine⟨_,(ke @f_),c it,?_⟩
  rfl
 refine kn ?_;refine ko @f_ ?_;refine ky @f_ ?_;refine Ow.ZW (encK:=vs) (encV:=au) rfl rfl rfl (g3 _ _ _ _) (Wo _ _ t _ (c a)) F ?_;have d:=mW F;obtain⟨k,h,rfl⟩:=tN (d.mem_iff.1 (aq _ (cJ _ aX)));have O:=uL (qf9 S) d;rw[K,We,List.sum_append] at O;have P:([(bT k,some (G.d k))].map (qf9 S)).sum=dK S (S.dir k).seen:=by show qf9 S (bT k,some (G.d k))+0=_;unfold qf9;simp only[jP h,XL]
 rw[P] at O;have zh:((dn++[(bT k,some (G.d k))]).map (qf9 S)).sum=(dn.map (qf9 S)).sum+dK S (S.dir k).seen:=by rw[We,List.sum_append,P]
 generalize (dn.map (qf9 S)).sum=A at*;have Q:=i _ _ (e.dir k h);obtain⟨os,R,zi,zj,T⟩:=e.seen k h;have H:=i _ _ zi;have U:=MI S T (e.ok.seen k h).nodup;have zk:=Wo _ _ Q _ (c a);have zl:=Wo _ _ Q _ u;have V:∀W:Nat,au (some W)=vp W 0:=fun _=>rfl;refine ko (qS2 @f_ @V @zk @zl) ?_;refine Ow.ZY (encK:=vs) (encV:=au) rfl rfl underlying76 rfl (Wo _ _ H _ (c a)) zj fun m Z zx y hJ=>?_;refine Ow.Vd (M:=(m,Z)::(f,a)::DG) Xm ?_;refine ko @f_ ?_;refine ky @f_ ?_;refine Cw.VU (G:=UsG) [24,25,26,27,7,28,29,30,31,32,33,34,3] (fun p=>[(3,vi ((A+ (p.dn.map (ie S (S.dir k).seen)).sum:Nat):Int))]) (fun p=>(m,p.it)::(f,a)::DG) (fun p=>ItG vs au p.it (G.s k) os R p.dn p.lf) (fun p=>p.lf.length) ⟨[],R,Z,[]⟩ rfl rfl ?_ ?_
 .exact hJ
 intro p jp d;refine kv ?_;clear hJ;obtain⟨z,zm,jt,DX⟩:=p;simp only at d |-;refine ky @f_ ?_;refine Ow.qb8 rfl rfl rfl (eJ _ _ _) (Wo _ _ H _ ⟨y,c a⟩) d (fun E=>?_) (fun p za zb zy q=>?_)
 .subst E;have r:=mW d;rw[VX] at r;rw[(r.map (ie S (S.dir k).seen)).sum_nat,U];refine Ow.Vd (M:=(f,a)::(m,jt)::DG) Xm ?_;refine ko @f_ ?_;refine ky @f_ ?_;exact Vo.mk ⟨dn++[(bT k,some (G.d k))],N,a,(m,jt)::DG⟩ (by show N.length<lf.length;omega) ⟨F,y,u⟩ rfl (by simp only[zh];rfl)
 refine kn ?_;refine ko @f_ ?_;refine ky @f_ ?_;have r:=mW q;have zc:=uL (ie S (S.dir k).seen) r;rw[U] at zc;have zn:p∈ (S.dir k).seen.map (qc8 G.fb):=T.mem_iff.1 (r.mem_iff.1 (aq _ (cJ _ aX)));obtain⟨⟨s,n⟩,zd,rfl⟩:=List.mem_map.1 zn;have ze:([qc8 G.fb (s,n)].map (ie S (S.dir k).seen)).sum=(S.files.getD n bV).data.length:=by show ie S (S.dir k).seen (s,some (G.fb.getD n 0))+0=_;unfold ie;simp only[pb (e.ok.seen k h).nodup zd,XL]
 rw[We,List.sum_append,ze] at zc;have I:((z++[qc8 G.fb (s,n)]).map (ie S (S.dir k).seen)).sum=(z.map (ie S (S.dir k).seen)).sum+ (S.files.getD n bV).data.length:=by rw[We,List.sum_append,ze]
 have J:=i _ _ (e.file n (e.ok.seenN k h _ zd));have zo:=Wo _ _ J _ (show Vq w.heap.size ((m,za)::(f,a)::DG) from⟨y,c a⟩);have zq:=Wo _ _ J _ (c a);have zr:=Wo _ _ J _ u;generalize (z.map (ie S (S.dir k).seen)).sum=B at*;refine Ow.ZW (encK:=vs) (encV:=au) rfl rfl rfl (g3 _ _ _ _) (Wo _ _ H _ ⟨y,c a⟩) q ?_;unfold qc8 at q I |-;simp only at q I |-;generalize G.fb.getD n 0=zt at*;generalize S.files.getD n bV=fl at*;refine ko (qS3 @f_ @V @zo @zq @zr) ?_;refine ky @f_ ?_;exact Vo.mk ⟨z++[(s,some zt)],zb,za,DX⟩ (by show zb.length<zm.length;omega) q rfl (by simp only[I,<-Nat.add_assoc,Int.natCast_add];rfl)
def atD(S:h8)(dir name:No):Option Nat:=(al dir).bind fun k=>aL (S.dir k).seen name
def aC(S:h8)(n:Nat):WR:=S.files.getD n bV
def dJ(S:h8)(n:Nat)(f:WR):h8:={S with files:=S.files.set n f}
def az(S:h8)(dir name:No):h8×Nat:=
 if bi S dir [name]≠0 then(S,bi S dir [name]) else match atD S dir name with
  |none=>(S,6)
  |some n=>if(aD S).2≠0 then aD S else(dJ (aD S).1 n ⟨(aC S n).data,(aC S n).data.length⟩,0)
def d7(S:h8):(aD S).1.dir=S.dir/\(aD S).1.files=S.files/\(aD S).1.max=S.max:=by
 unfold aD
 split
 .exact⟨rfl,rfl,rfl⟩
 split
 .exact⟨rfl,rfl,rfl⟩
 exact⟨rfl,rfl,rfl⟩
def kA{S:h8}(h:XK S):XK (aD S).1:=by
 obtain⟨a,b,f⟩:=d7 S;refine⟨by rw[a];exact h.seen,by rw[a];exact h.stl,by rw[a,b];exact h.seenN,by rw[a,b];exact h.stlN,by rw[a,b];exact h.pendN,by rw[b];exact h.file,?_,by rw[f];exact h.max⟩;have c:=h.Wv;unfold aD
 split
 .exact c
 split
 .rename_i g d;have:=c.2.2 d;have i:S.Wv≠0:=fun e=>g ⟨d,e⟩;exact⟨by show _<=S.Wv - 1;omega,by show S.Wv - 1<_;omega,fun _=>by show 0<=S.Wv - 1;omega⟩
 exact c
def qB{S:h8}(h:XK S){n:Nat}{f:WR}(e:f.data.length<=1048576/\f.stl<=f.data.length):XK (dJ S n f):=by
 refine⟨h.seen,h.stl,fun k a p b=>by show p.2< (S.files.set n f).length;rw[X8];exact h.seenN k a p b,fun k a p b=>by show p.2< (S.files.set n f).length;rw[X8];exact h.stlN k a p b,fun k a c i j=>by show c.n< (S.files.set n f).length;rw[X8];exact h.pendN k a c i j,fun g d=>?_,h.Wv,h.max⟩;rcases List.mem_or_eq_of_mem_set d with d|rfl
 .exact h.file g d
 exact e
def kW{S:h8}(h:XK S){n:Nat}(a:n<S.files.length):(aC S n).data.length<=1048576/\(aC S n).stl<= (aC S n).data.length:=by unfold aC;rw[List.getD_eq_getElem?_getD,List.getElem?_eq_getElem a];exact h.file _ (Y3 a)
def c0:=aN (aN (aN (aN @bA @b9) (aN @j2 @rK)) (aN (aN @kF @kH) (aN @kI @qT))) (aN (aN (aN @qW @sY) (aN @rZ @jo)) (aN (aN @je @ly) (qS1 @lX @Sx.Wk @Sx.Wl)))
def sK(X:aA)(G:XE)(S:h8)(dir name:No)(w:hW)(L:∀p,p∈X->w.heap[p.1]? =some p.2)(M:(keys X).Nodup)(c:XG X G S)(N:name.length<1099511627776):
  Va prog 55 #[vp G.bd 0,vs dir,vs name] w (XS w X (fun v D=>v=vi ((az S dir name).2:Nat)/\XG D G (az S dir name).1)):=by
 refine Va.Vs func55 rfl (rs:=[.tmp 6]) results55 ntmps55 L M ?_;refine kf ?_;refine ky @c0 ?_;refine Ow.buildSlice (e:=9) #[vs name] rfl rfl kR fun d C O=>?_;have a:=c.mono (X':=X++[(d,VS (vs name))]) fun b o h=>a_ h;have m:=(Ext.refl w X).app (o:=(VS (vs name))) O;have E:(d,VS (vs name))∈X++[(d,VS (vs name))]:=by simp
 generalize X++[(d,VS (vs name))]=F at*;refine ko @c0 ?_;refine Ow.Wf rfl rfl call71 (fun q f=>Va.toX (mQ q G S dir (Xr d 0 1 1) [name] (a.world f) (ji (f.has _ _ E)) V_ (by simpa using N))) (fun B2 v2 D2 P ze Q r=>?_);obtain⟨rfl,r⟩:=r;rw[VX];clear E P Q;unfold az atD;rcases r with⟨g,rfl⟩ | ⟨g,k,H,rfl⟩
 .rw[Vb g];have s:=iT g;refine ko @c0 ?_;refine ky (aN @c0 @s) ?_;refine⟨_,(ke @c0),?_⟩;exact⟨m,rfl,a⟩
 rw[tr (by rw[g];simp),H];have i:=(cN H).1;have R:=aO (w0:=w) (a.dir k i);obtain⟨os,ms,T,U,V⟩:=a.seen k i;have W:=aO (w0:=w) T;have s:((0:Int) !=0)=false:=rfl;refine ko @c0 ?_;refine ky (qS1 @c0 @s @R) ?_;refine Ow.XQ (encK:=vs) (encV:=au) (k:=name) (z:=none) rfl rfl underlying76 fQ qg0 rfl rfl W U ?_;rw[V.get (c.ok.seen k i).nodup];show Ow _ _ _ _ _ _ _ _;cases t:aL (S.dir k).seen name with
 |none=>have u:(some k).bind (fun k=>aL (S.dir k).seen name)=none:=t;rw[u];have Y:au none=.pointer none:=rfl;refine ko (aN @c0 @Y) ?_;refine ky @c0 ?_;refine⟨_,(ke @c0),?_⟩;exact⟨m,rfl,a⟩
 |some n=>
  have u:(some k).bind (fun k=>aL (S.dir k).seen name)=some n:=t;rw[u];have x:=c.ok.seenN k i _ (eY t);have Z:∀I:Nat,au (some I)=vp I 0:=fun _=>rfl;have za:G.bd∈keys F:=bO a.disk;refine ko (aN @c0 @Z) ?_;refine ky @c0 ?_;refine Ow.WA rfl rfl call101 za (fun q f=>BP G.bd G.bm S q c.ok.Wv (f.has _ _ (bU a.disk))) ?_;obtain⟨C,j,zf⟩:=d7 S;have y:=a.Yt (aD S).1 C j (kA c.ok);have J:=m.Vh (b:=G.bd) (o:=bJ G.bm (aD S).1);generalize Vh F G.bd (bJ G.bm (aD S).1)=L2 at*;by_cases l:(aD S).2=0
  .have A:=y.file n (by rw[j];exact x);have K:=aO (w0:=w) A;have B:(((aD S).2:Int) !=0)=false:=by rw[l];rfl
   rw[tr (by rw[l];simp)];have zb:=kW c.ok x;have zc:=y.qe4 (n:=n) (by rw[j];exact x) ⟨(aC S n).data,(aC S n).data.length⟩ (qB (kA c.ok) ⟨zb.1,aj _⟩);have zd:(aD S).1.files.getD n bV=aC S n:=by rw[j];rfl
   rw[zd] at A K;refine ko (aN @c0 @B) ?_;refine ky (qS1 @c0 @K @A) ?_;refine⟨_,(ke @c0),?_⟩;exact⟨J.Vh,rfl,zc⟩
  have B:=iT l;rw[Vb l];refine ko (aN @c0 @B) ?_;refine ky @c0 ?_;refine⟨_,(ke @c0),?_⟩;exact⟨J,rfl,y⟩
def fF(S:h8)(n:Nat)(s:No):Bool:=decide ((1048576:Int) - ((aC S n).data.length:Int)< (s.length:Int)) ||decide (S.max< (ej S:Int)) ||decide (S.max - (ej S:Int)< (s.length:Int))
def bD(S:h8)(dir name s:No):h8×Nat:=
 if bi S dir [name]≠0 then(S,bi S dir [name]) else match atD S dir name with
  |none=>(S,6)
  |some n=>if fF S n s=true then(S,8) else if(aD S).2≠0 then aD S else(dJ (aD S).1 n ⟨(aC S n).data++s,(aC S n).stl⟩,0)
def U6(X:aA)(G:XE)(S:h8)(dir name s:No)(w:hW)(U:∀p,p∈X->w.heap[p.1]? =some p.2)(V:(keys X).Nodup)(c:XG X G S)(W:name.length<1099511627776)(zl:s.length<1099511627776)(L:ej S<4611686018427387904):
  Va prog 47 #[vp G.bd 0,vs dir,vs name,vs s] w (XS w X (fun v D=>v=vi ((bD S dir name s).2:Nat)/\XG D G (bD S dir name s).1)):=by
 refine Va.Vs func47 rfl (rs:=[.tmp 8]) results47 ntmps47 U V ?_;refine kf ?_;refine ky @c0 ?_;refine Ow.buildSlice (e:=9) #[vs name] rfl rfl kR fun l M Y=>?_;have a:=c.mono (X':=X++[(l,VS (vs name))]) fun b o h=>a_ h;have i:=(Ext.refl w X).app (o:=(VS (vs name))) Y;have N:(l,VS (vs name))∈X++[(l,VS (vs name))]:=by simp
 generalize X++[(l,VS (vs name))]=B at*;refine ko @c0 ?_;refine Ow.Wf rfl rfl call71 (fun f d=>Va.toX (mQ f G S dir (Xr l 0 1 1) [name] (a.world d) (ji (d.has _ _ N)) V_ (by simpa using W))) (fun B2 v2 D2 Z zm za C=>?_);obtain⟨rfl,C⟩:=C;rw[VX];clear N Z za;unfold bD atD;rcases C with⟨r,rfl⟩ | ⟨r,k,O,rfl⟩
 .rw[Vb r];have E:=iT r;refine ko @c0 ?_;refine ky (aN @c0 @E) ?_;refine⟨_,(ke @c0),?_⟩;exact⟨i,rfl,a⟩
 rw[tr (by rw[r];simp),O];have t:=(cN O).1;have zb:=aO (w0:=w) (a.dir k t);obtain⟨os,ms,zc,zd,ze⟩:=a.seen k t;have zf:=aO (w0:=w) zc;have E:((0:Int) !=0)=false:=rfl;refine ko @c0 ?_;refine ky (qS1 @c0 @E @zb) ?_;refine Ow.XQ (encK:=vs) (encV:=au) (k:=name) (z:=none) rfl rfl underlying76 fQ qg0 rfl rfl zf zd ?_;rw[ze.get (c.ok.seen k t).nodup];show Ow _ _ _ _ _ _ _ _;cases F:aL (S.dir k).seen name with
 |none=>have H:(some k).bind (fun k=>aL (S.dir k).seen name)=none:=F;rw[H];have zg:au none=.pointer none:=rfl;refine ko (aN @c0 @zg) ?_;refine ky @c0 ?_;refine⟨_,(ke @c0),?_⟩;exact⟨i,rfl,a⟩
 |some n=>
  have H:(some k).bind (fun k=>aL (S.dir k).seen name)=some n:=F;rw[H];have u:n<S.files.length:=c.ok.seenN k t _ (eY F);have zn:=kW c.ok u;have hp:∀P:Nat,au (some P)=vp P 0:=fun _=>rfl;have zh:G.bd∈keys B:=bO a.disk;have zi:=aO (w0:=w) (a.file n u);have j:=aO (w0:=w) a.disk;have Q:aG w B (G.fb.getD n 0)=some (cG (aC S n)):=zi;have zo:=c.ok.max;refine ko (aN @c0 @hp) ?_;refine ky @c0 ?_;refine Cw.Vu [G.fb.getD n 0,G.bd] [0,1,2,3,4,5,6,7,8,9,10,12,13,14,15,11,16,17,18,19,20,21,22,23,25,24,26,27,28,29,30] [] kR kR kR ?_;refine WQ ?_;cases m:decide ((1048576:Int) - ((aC S n).data.length:Int)< (s.length:Int)) with
  |true=>
   refine kq (qS2 @c0 @Q @j @m) ?_;have g:fF S n s=true:=by unfold fF;rw[m];simp
   rw[Vb g]
   try with_reducible refine Ow.nil ?_
   refine ky @c0 ?_;refine⟨_,(ke @c0),?_⟩;exact⟨i,rfl,a⟩
  |false=>
   refine kq (qS2 @c0 @Q @j @m) ?_;refine Ow.WV ?_;refine Ow.Vc rfl call100 (fun f d=>sW f G S (a.world d) L) ?_
   with_reducible refine Ow.ZQ ?_
   cases q:decide (S.max< (ej S:Int)) with
   |true=>
    refine kq (qS1 @c0 @j @q) ?_;have g:fF S n s=true:=by unfold fF;rw[q];simp
    rw[Vb g]
    try with_reducible refine Ow.nil ?_
    refine ky @c0 ?_;refine⟨_,(ke @c0),?_⟩;exact⟨i,rfl,a⟩
   |false=>
    have zq:=Z8 q;refine kq (qS1 @c0 @j @q) ?_;refine Ow.WV ?_;refine Ow.Vc rfl call100 (fun f d=>sW f G S (a.world d) L) ?_
    with_reducible refine Ow.ZQ ?_
    cases x:decide (S.max - (ej S:Int)< (s.length:Int)) with
    |true=>
     refine kq (qS1 @c0 @j @x) ?_;have g:fF S n s=true:=by unfold fF;rw[x];simp
     rw[Vb g]
     try with_reducible refine Ow.nil ?_
     refine ky @c0 ?_;refine⟨_,(ke @c0),?_⟩;exact⟨i,rfl,a⟩
    |false=>
     have g:fF S n s=false:=by unfold fF;rw[m,q,x];rfl
     rw[tr (by rw[g];simp)];have zr:=Z8 m;refine kq (qS1 @c0 @j @x) ?_
     try with_reducible refine Ow.nil ?_
     refine ky @c0 ?_;refine Ow.WA rfl rfl call101 zh (fun f d=>BP G.bd G.bm S f c.ok.Wv (d.has _ _ (bU a.disk))) ?_;obtain⟨M,y,zt⟩:=d7 S;have I:=a.Yt (aD S).1 M y (kA c.ok);have R:=i.Vh (b:=G.bd) (o:=bJ G.bm (aD S).1);generalize Vh B G.bd (bJ G.bm (aD S).1)=L2 at*;by_cases A:(aD S).2=0
     .have J:=I.file n (by rw[y];exact u);have T:=aO (w0:=w) J;have K:(((aD S).2:Int) !=0)=false:=by rw[A];rfl
      rw[tr (by rw[A];simp)];have zj:=I.qe4 (n:=n) (by rw[y];exact u) ⟨(aC S n).data++s,(aC S n).stl⟩ (qB (kA c.ok) ⟨by simp only[VV];omega,by simp only[VV];omega⟩);have zk:(aD S).1.files.getD n bV=aC S n:=by rw[y];rfl
      rw[zk] at J T;refine ko (aN @c0 @K) ?_;refine ky (qS1 @c0 @T @J) ?_;refine⟨_,(ke @c0),?_⟩;exact⟨R.Vh,rfl,zj⟩
     have K:=iT A;rw[Vb A];refine ko (aN @c0 @K) ?_;refine ky @c0 ?_;refine⟨_,(ke @c0),?_⟩;exact⟨R,rfl,I⟩
structure ZL(X D:aA)(bs:Nat)(o:Obj):Prop where
 keys:Sx.keys D=Sx.keys X
 at_:Sx.look D bs=some o
 rest:∀b,b≠bs->Sx.look D b=Sx.look X b
def ZL.set{X:aA}{bs:Nat}{o a:Obj}(h:Sx.look X bs=some o):ZL X (Vh X bs a) bs a:=⟨fc _ _ _,cY h,fun _ b=>bE (Wq b)⟩
theorem ZL.trans{X D D':aA}{bs:Nat}{o c:Obj}(h:ZL X D bs o)(a:ZL D D' bs c):ZL X D' bs c:=⟨a.keys.trans h.keys,a.at_,fun b d=>(a.rest b d).trans (h.rest b d)⟩
def sz(s:No)(n:Nat):aF (some (false,n)) (some (ce s)) 0=some (vs s):=(rfl)
def Mq(b:Nat)(n:Nat):aF (some (false,n)) (some (Zl b)) 0=some (vp b 0):=(rfl)
def jC:=aN (aN @bA @b9) (aN @sz @Mq)
def FQ(X:aA)(d b2 bs c:Nat)(a:No)(o:Obj)(m:List (No×Option Nat))(w:hW)(f:∀p,p∈X->w.heap[p.1]? =some p.2)(g:(keys X).Nodup)
  (h:Sx.look X d=some (Zl c)) (i:Sx.look X b2=some (ce a)) (e:Sx.look X bs=some o) (j:dO vs au o m):
  Va prog 227 #[vm bs,vp d 0,vp b2 0] w (XS w X (fun v D=>v=bS []/\ ∃b,ZL X D bs b/\dO vs au b (qb9 a (some c) m))):=by
 have l:=aO (w0:=w) h;have n:=aO (w0:=w) i;refine Va.Vs func227 rfl (rs:=[]) results227 ntmps227 f g ?_;refine kf ?_;refine ky (qS1 @jC @l @n) ?_;refine Ow.YY (encK:=vs) (encV:=au) (k:=a) (v:=some c) rfl rfl underlying76 fQ rfl rfl rfl e j (fun b q=>?_);refine ko @jC ?_;refine⟨_,(ke @jC),?_⟩;exact⟨(Ext.refl w X).Vh,rfl,b,ZL.set e,q⟩
def FS(X:aA)(c bs:Nat)(a:No)(o:Obj)(m:List (No×Option Nat))(w:hW)(e:∀p,p∈X->w.heap[p.1]? =some p.2)(f:(keys X).Nodup)
  (g:Sx.look X c=some (ce a)) (d:Sx.look X bs=some o) (h:dO vs au o m):
  Va prog 210 #[vm bs,vp c 0] w (XS w X (fun v D=>v=bS []/\ ∃b,ZL X D bs b/\dO vs au b (qd8 a m))):=by
 have i:=aO (w0:=w) g;refine Va.Vs func210 rfl (rs:=[]) results210 ntmps210 e f ?_;refine kf ?_;refine ky (aN @jC @i) ?_;refine Ow.qe9 (encK:=vs) (encV:=au) (k:=a) rfl rfl underlying76 fQ rfl rfl d h (fun b j=>?_);refine ko @jC ?_;refine⟨_,(ke @jC),?_⟩;exact⟨(Ext.refl w X).Vh,rfl,b,ZL.set d,j⟩
def GW(X:aA)(d b2 bs:Nat)(a b:No)(o:Obj)(m:List (No×Option Nat))(w:hW)(n:∀p,p∈X->w.heap[p.1]? =some p.2)(q:(keys X).Nodup)
  (e:Sx.look X d=some (ce a)) (r:Sx.look X b2=some (ce b)) (f:Sx.look X bs=some o) (l:dO vs au o m):
  Va prog 222 #[vm bs,vp d 0,vp b2 0] w (XS w X (fun v D=>v=bS []/\ ∃g,ZL X D bs g/\dO vs au g (qd8 a (qb9 b (Z4 a none m) m)))):=by
 have s:=aO (w0:=w) e;have t:=aO (w0:=w) r;refine Va.Vs func222 rfl (rs:=[]) results222 ntmps222 n q ?_;refine kf ?_;refine ky (qS1 @jC @s @t) ?_;refine Ow.XQ (encK:=vs) (encV:=au) (k:=a) (z:=none) rfl rfl underlying76 fQ qg0 rfl rfl (aO f) l ?_;refine ko @jC ?_;refine Ow.YY (encK:=vs) (encV:=au) (k:=b) (v:=Z4 a none m) rfl rfl underlying76 fQ rfl rfl rfl f l (fun i u=>?_);have j:ZL X (Vh X bs i) bs i:=ZL.set f;have x:d≠bs:=by rintro rfl;rw[f] at e;cases e;obtain⟨C,c,h,-⟩:=l;cases h
 have y:=aO (w0:=w) ((j.rest d x).trans e);have A:=(Ext.refl w X).Vh (b:=bs) (o:=i);generalize Vh X bs i=E at*;refine ko @jC ?_;refine ky (aN @jC @y) ?_;refine Ow.qe9 (encK:=vs) (encV:=au) (k:=a) rfl rfl underlying76 fQ rfl rfl j.at_ u (fun g B=>?_);refine ko @jC ?_;refine⟨_,(ke @jC),?_⟩;exact⟨A.Vh,rfl,g,j.trans (ZL.set j.at_),B⟩
def okC(l:W_)(c:Wy):Prop:=c.kind=1->aL l c.a≠none/\c.a≠c.b
def NmP.ren{fb:List Nat}{l:W_}{m:List (No×Option Nat)}(h:NmP fb l m)(c:YG l){a b:No}{n:Nat}(d:a≠b):NmP fb (dU (bl l a) (b,n)) (qd8 a (qb9 b (some (fb.getD n 0)) m)):=by have f:=h.put c.nodup b n;have g:=f.qL5 (qg (b,n) c).nodup a;refine g.trans (List.Perm.map _ ?_);unfold dU;refine(List.Perm.filter _ (l_ (b,n) (bl l b))).trans ?_;refine List.Perm.trans ?_ (l_ (b,n) (bl (bl l a) b)).symm;have e:(a==b)=false:=WN.2 d;rw[X_];simp only[e,W6,↓reduceIte];unfold bl;rw[List.filter_filter,List.filter_filter];refine List.Perm.cons _ (List.Perm.of_eq (List.filter_congr fun p _=>Bool.and_comm _ _))
def CI{l:W_}(c:Wy)(h:YG l):YG (bY l c):=by
 unfold bY
 split
 .exact qg _ h
 .exact qg _ (qn _ h)
 exact qn _ h
def Dp{X:aA}{fb:List Nat}{v:hU}{c:Wy}{bs:Nat}{l:W_}(f:FnP X fb v c)(F:NmM X fb bs l)(u:YG l)(G:okC l c):
  ∃k E,v=.func (.func k) #[] E/\(∀a w,(callFunc k a).run prog w=.ok (.enter k a) w)/\ ∀w,(∀p,p∈X->w.heap[p.1]? =some p.2)->(keys X).Nodup->Va prog k (#[vm bs]++E) w (XS w X (fun r D=>r=bS []/\ ∃b,ZL X D bs b/\NmM D fb bs (bY l c))):=by
 obtain⟨o,m,z,A,x⟩:=F;unfold FnP at f
 split at f
 .rename_i y;obtain⟨g,B,rfl,h,C⟩:=f;refine⟨_,_,rfl,call227,fun w i j=>Va.mono (FQ X g B bs _ c.a o m w i j h C z A) ?_⟩;rintro r D ⟨q,s,b,d,t⟩;refine⟨q,s,b,d,b,_,d.at_,t,?_⟩;unfold bY;rw[y];exact x.put u.nodup c.a c.n
 .rename_i y;obtain⟨g,B,rfl,h,C⟩:=f;obtain⟨H,I⟩:=G y;refine⟨_,_,rfl,call222,fun w i j=>Va.mono (GW X g B bs c.a c.b o m w i j h C z A) ?_⟩;rintro r D ⟨q,s,b,d,t⟩;refine⟨q,s,b,d,b,_,d.at_,t,?_⟩;unfold bY;rw[y,x.get u.nodup];cases e:aL l c.a with
  |none=>exact Vx e H
  |some n=>exact x.ren u I
 rename_i J K;obtain⟨g,rfl,h⟩:=f;refine⟨_,_,rfl,call210,fun w i j=>Va.mono (FS X g bs c.a o m w i j h z A) ?_⟩;rintro r D ⟨q,s,b,d,t⟩;refine⟨q,s,b,d,b,_,d.at_,t,?_⟩;have e:bY l c=bl l c.a:=by
  unfold bY
  split
  .rename_i e;exact Vx e J
  .rename_i e;exact Vx e K
  rfl
 rw[e];exact x.qL5 u.nodup c.a
def ph{α:Type}{a b:List α}(z:α)(k:Nat)(h:k<a.length):(a++b).getD k z=a.getD k z:=by rw[List.getD_eq_getElem?_getD,List.getElem?_append_left h,<-List.getD_eq_getElem?_getD]
def mj{α:Type}{a:List α}(z x:α){k:Nat}(h:a.length=k):(a++[x]).getD k z=x:=by subst h;rw[List.getD_eq_getElem?_getD,List.getElem?_append_right (aj _),Nat.sub_self];rfl
def qq5(G:XE)(k:Nat)(v:hU):XE:={G with p:=fun j=>if j=k then v else G.p j}
def CE{l:W_}{c:Wy}{n:Nat}(b:∀p,p∈l->p.2<n)(g:okC l c)(h:c.kind=0->c.n<n):∀p,p∈bY l c->p.2<n:=by
 intro p a;have qf7:∀ {l:W_} {x:No×Nat},(∀p,p∈l->p.2<n)->x.2<n->p∈dU l x->p.2<n:=by
  intro l x i j d;rcases Vw.1 ((l_ x (bl l x.1)).mem_iff.1 d) with rfl|d
  .exact j
  exact i _ ((List.mem_filter.1 d).1)
 unfold bY at a
 split at a
 .rename_i f;exact qf7 b (h f) a
 .rename_i f;refine qf7 (fun k o=>b k ((List.mem_filter.1 o).1)) ?_ a;cases e:aL l c.a with
  |none=>exact Vx e (g f).1
  |some m=>have:=b _ (eY e);exact this
 exact b _ ((List.mem_filter.1 a).1)
def qa{S:h8}(h:XK S){k:Nat}(d:Yz)(b:YG d.seen)(f:YG d.stl)(g:∀p,p∈d.seen->p.2<S.files.length)(i:∀p,p∈d.stl->p.2<S.files.length)(l:∀c,c∈d.Vl->c.kind=0->c.n<S.files.length):XK (cT S k d):=by
 refine⟨fun j a=>?_,fun j a=>?_,fun j a=>?_,fun j a=>?_,fun j a=>?_,h.file,h.Wv,h.max⟩<;>unfold cT<;>simp only<;>by_cases e:j=k
 .rw[Vb e];exact b
 .rw[tr e];exact h.seen j a
 .rw[Vb e];exact f
 .rw[tr e];exact h.stl j a
 .rw[Vb e];exact g
 .rw[tr e];exact h.seenN j a
 .rw[Vb e];exact i
 .rw[tr e];exact h.stlN j a
 .rw[Vb e];exact l
 rw[tr e];exact h.pendN j a
def jR{G:XE}(h:[G.s 0,G.s 1,G.s 2,G.t 0,G.t 1,G.t 2].Nodup){i j:Nat}(d:i<3)(e:j<3):(i≠j->G.s i≠G.s j)/\(i≠j->G.t i≠G.t j)/\G.s i≠G.t j:=by
 simp only[Xd,Vw,WI,not_or,WB,List.nodup_nil,and_true,not_false_eq_true] at h;have a:i=0\/i=1\/i=2:=by omega
 have b:j=0\/j=1\/j=2:=by omega
 rcases a with rfl|rfl|rfl<;>rcases b with rfl|rfl|rfl<;>refine⟨fun c=>?_,fun c=>?_,?_⟩<;>first|omega| (exact Vx rfl c)
def AI{G:XE}(h:[G.d 0,G.d 1,G.d 2].Nodup){i j:Nat}(d:i<3)(e:j<3):i≠j->G.d i≠G.d j:=by
 simp only[Xd,Vw,WI,not_or,WB,List.nodup_nil,and_true,not_false_eq_true] at h;have a:i=0\/i=1\/i=2:=by omega
 have b:j=0\/j=1\/j=2:=by omega
 rcases a with rfl|rfl|rfl<;>rcases b with rfl|rfl|rfl<;>intro c<;>first|omega| (exact Vx rfl c)
structure XG.qM9(X L:aA)(G:XE)(k:Nat):Prop where
 Vn:∀b o,Sx.look X b=some o->b≠G.s k->b≠G.d k->Xy (G.p k)≠some b->Sx.look L b=some o
def XG.WM{X L:aA}{G:XE}{S:h8}(h:XG X G S){k:Nat}(p:k<3){c:Wy}{v v2:hU}{vals:List hU}(B:XG.qM9 X L G k)
  (W:NmM L G.fb (G.s k) (bY (S.dir k).seen c)) (u:Sx.look L (G.d k)=some (c1 (G.s k) (G.t k) v2)) (R:vals.length=(S.dir k).Vl.length)
  (Y:∀i,i<vals.length->FnP X G.fb (vals.getD i undef) ((S.dir k).Vl.getD i fV)) (Z:Gr X 127 1 (G.p k) vals.length vals)
  (za:Gr L 127 1 v2 (vals.length+1) (vals++[v])) (zb:FnP X G.fb v c) (T:Xy v2=Xy (G.p k)\/ ∃b,Xy v2=some b/\b∉keys X) (zc:okC (S.dir k).seen c) (U:c.kind=0->c.n<S.files.length):
  XG L (qq5 G k v2) (cT S k ⟨bY (S.dir k).seen c,(S.dir k).stl,(S.dir k).Vl++[c]⟩):=by
 have F:∀b o,Sx.look X b=some o->Xo o≠some 127->Xy (G.p k)≠some b:=by intro b o f A e;obtain⟨arr,x⟩:=fE Z e;rw[f] at x;cases x;exact A rfl
 obtain⟨zf,zg,zd,ze,-⟩:=h.seen k p;have H:∀b o,Sx.look X b=some o->Xo o≠none->b≠G.s k:=by rintro b o f A rfl;rw[zd] at f;cases f;exact A (fW ze)
 have I:∀b o,Sx.look X b=some o->Xo o≠some 79->b≠G.d k:=by rintro b o f A rfl;rw[h.dir k p] at f;cases f;exact A rfl
 have K:∀b o,Sx.look X b=some o->Xo o≠none->Xo o≠some 79->Xo o≠some 127->Sx.look L b=some o:=fun b o f q l y=>B.Vn b o f (H b o f q) (I b o f l) (F b o f y);have J:∀b o,Sx.look X b=some o->Xo o=none->b≠G.s k->Sx.look L b=some o:=fun b o f q l=>B.Vn b o f l (I b o f (by rw[q];intro e;cases e)) (F b o f (by rw[q];intro e;cases e));have M:∀ {w c},FnP X G.fb w c->FnP L G.fb w c:=fun hw=>hw.Vn fun b o f N=>K b o f (by rcases N with⟨s,rfl⟩ | ⟨a,rfl⟩<;>simp[Xo,ce,Zl]) (by rcases N with⟨s,rfl⟩ | ⟨a,rfl⟩<;>simp[Xo,ce,Zl]) (by rcases N with⟨s,rfl⟩ | ⟨a,rfl⟩<;>simp[Xo,ce,Zl]);refine⟨?_,?_,?_,?_,?_,?_,?_,h.len,h.nodf,h.nodm,h.nodd,h.nodb,?_,?_⟩
 .exact K _ _ h.disk (by simp[Xo,bJ]) (by simp[Xo,bJ]) (by simp[Xo,bJ])
 .obtain⟨o,q,l⟩:=h.dirs;exact⟨o,J _ _ q (fW l) (h.nodb k p).1,l⟩
 .intro j g;by_cases e:j=k
  .subst e;show Sx.look L (G.d j)=some (c1 (G.s j) (G.t j) (if j=j then v2 else G.p j));rw[Vb rfl];exact u
  show Sx.look L (G.d j)=some (c1 (G.s j) (G.t j) (if j=k then v2 else G.p j));rw[tr e];exact B.Vn _ _ (h.dir j g) (H _ _ (h.dir j g) (by simp[Xo,c1])) (AI h.nodd g p e) (F _ _ (h.dir j g) (by simp[Xo,c1]))
 .intro j g;show NmM L G.fb (G.s j) (if j=k then _ else S.dir j).seen;by_cases e:j=k
  .subst e;rw[Vb rfl];exact W
  rw[tr e];obtain⟨o,m,q,l,y⟩:=h.seen j g;exact⟨o,m,J _ _ q (fW l) ((jR h.nodm g p).1 e),l,y⟩
 .intro j g;show NmM L G.fb (G.t j) (if j=k then _ else S.dir j).stl;have e2:(if j=k then⟨bY (S.dir k).seen c,(S.dir k).stl,(S.dir k).Vl++[c]⟩ else S.dir j:Yz).stl=(S.dir j).stl:=by
   by_cases e:j=k
   .subst e;rw[Vb rfl]
   rw[tr e]
  rw[e2];obtain⟨o,m,q,l,y⟩:=h.stl j g;exact⟨o,m,J _ _ q (fW l) (Wq (jR h.nodm p g).2.2),l,y⟩
 .intro j g;by_cases e:j=k
  .subst e;refine⟨vals++[v],?_,?_,?_⟩
   .show(vals++[v]).length=(if j=j then _ else S.dir j:Yz).Vl.length;rw[Vb rfl,VV,VV,R];rfl
   .show Gr L _ 1 (if j=j then v2 else G.p j) (vals++[v]).length (vals++[v]);rw[Vb rfl,VV];exact za
   intro i r;show FnP L G.fb ((vals++[v]).getD i undef) ((if j=j then _ else S.dir j:Yz).Vl.getD i fV);rw[Vb rfl];rw[VV,List.length_singleton] at r;by_cases C:i=vals.length
   .subst C;rw[mj _ _ rfl,mj _ _ R.symm];exact M zb
   rw[ph _ _ oM,ph _ _ oM];exact M (Y i oM)
  obtain⟨z,q,l,y⟩:=h.Vl j g;refine⟨z,?_,?_,?_⟩
  .show z.length=(if j=k then _ else S.dir j:Yz).Vl.length;rw[tr e];exact q
  .show Gr L _ 1 (if j=k then v2 else G.p j) z.length z;rw[tr e];refine l.Vn fun b o f D=>?_;obtain⟨arr,x⟩:=fE l f;rw[D] at x;cases x;exact B.Vn _ _ D (H _ _ D (by simp[Xo])) (I _ _ D (by simp[Xo])) (h.nodp j k g p e b f)
  intro i r;show FnP L G.fb (z.getD i undef) ((if j=k then _ else S.dir j:Yz).Vl.getD i fV);rw[tr e];exact M (y i r)
 .intro n hn;exact K _ _ (h.file n hn) (by simp[Xo,cG]) (by simp[Xo,cG]) (by simp[Xo,cG])
 .intro i j r g E b f;have key:∀j,j<3-> ∀b,Xy (G.p j)=some b->b∈keys X:=fun j g b f=>by
   obtain⟨z,-,l,-⟩:=h.Vl j g;obtain⟨arr,x⟩:=fE l f;exact bO x
  show Xy (if j=k then v2 else G.p j)≠some b;have t:Xy (if i=k then v2 else G.p i)=some b:=f;by_cases C:i=k
  .subst C;rw[Vb rfl] at t;rw[tr (Wq E)];rcases T with e| ⟨b',e,O⟩
   .exact h.nodp i j r g E b (by rw[<-e];exact t)
   rw[e] at t;cases t;exact fun P=>O (key j g _ P)
  rw[tr C] at t;by_cases V:j=k
  .subst V;rw[Vb rfl];rcases T with e| ⟨b',e,O⟩
   .rw[e];exact h.nodp i j r g E b t
   rw[e];intro P;cases P;exact O (key i r _ t)
  rw[tr V];exact h.nodp i j r g E b t
 exact qa h.ok _ (CI c (h.ok.seen k p)) (h.ok.stl k p) (CE (h.ok.seenN k p) zc U) (h.ok.stlN k p) (fun d u Q=>by
  rcases Wu.1 u with u|u
  .exact h.ok.pendN k p d u Q
  rw[VZ.1 u] at Q |-;exact U Q)
def b_(S:h8)(k:Nat)(c:Wy):h8:=cT S k ⟨bY (S.dir k).seen c,(S.dir k).stl,(S.dir k).Vl++[c]⟩
def DT(a b:Nat)(v q:hU)(x:Bool)(c:Value.oneCell' q=true/\q.cells=#[q]):aZ (some (x,1)) (some (c1 a b v)) 2 q=some (c1 a b q):=cP [vm a,vm b] [v] [q] [] x _ 79 rfl rfl c.2 rfl (by simp[c.1])
def jE:=aN (qS1 @bA @b9 @j2) (aN (aN @rK @kF) (aN @kH @kI))
def C_(X:aA)(G:XE)(S:h8)(k:Nat)(c:Wy)(v:hU)(w:hW)(hX:∀p,p∈X->w.heap[p.1]? =some p.2)(hn:(keys X).Nodup)(i:XG X G S)(f:k<3)(M:FnP X G.fb v c)(N:okC (S.dir k).seen c)(ze:c.kind=0->c.n<S.files.length)(zy:(S.dir k).Vl.length<1000000):
  Va prog 181 #[vp G.bd 0,vp (G.d k) 0,v] w (XS w X (fun r D=>r=vi ((aD S).2:Nat)/\if(aD S).2≠0 then D=Vh X G.bd (bJ G.bm (aD S).1) else∃v2,XG D (qq5 G k v2) (b_ (aD S).1 k c))):=by
 obtain⟨n,j,rfl,-,-⟩:=Dp M (i.seen k f) (i.ok.seen k f) N;refine Va.Vs func181 rfl (rs:=[.tmp 6]) results181 ntmps181 hX hn ?_;refine kf ?_;refine ky @jE ?_;refine Ow.WA rfl rfl call101 (bO i.disk) (fun t u=>BP G.bd G.bm S t i.ok.Wv (u.has _ _ (bU i.disk))) ?_;obtain⟨C,O,zz⟩:=d7 S;have g:=i.Yt (aD S).1 C O (kA i.ok);have P:=(Ext.refl w X).Vh (b:=G.bd) (o:=bJ G.bm (aD S).1);have Q:FnP (Vh X G.bd (bJ G.bm (aD S).1)) G.fb (.func (.func n) #[] j) c:=M.Vn fun b o l hx=>eV i.disk l (by rcases hx with⟨s,rfl⟩ | ⟨a,rfl⟩<;>simp[Xo,bJ,ce,Zl]);generalize zA:Vh X G.bd (bJ G.bm (aD S).1)=E at*;by_cases q:(aD S).2=0
 .have F:(((aD S).2:Int) !=0)=false:=by rw[q];rfl
  have zf:YG ((aD S).1.dir k).seen:=g.ok.seen k f;have R:okC ((aD S).1.dir k).seen c:=by rw[C];exact N
  obtain⟨zB,zC,he,zg,zh⟩:=Dp Q (g.seen k f) zf R;cases he;have zi:=aO (w0:=w) (g.dir k f);obtain⟨os,ms,H,I,-⟩:=g.seen k f;have T:G.d k≠G.s k:=by intro e;have y:=g.dir k f;rw[e,H] at y;cases y;obtain⟨U,V,h,-⟩:=I;cases h
  obtain⟨J,W,z,hF⟩:=g.Vl k f;refine ko (aN @jE @F) ?_;refine ky (aN @jE @zi) ?_;refine Ow.qb3 (b:=vm (G.s k)) (cap:=j) (ars:=#[vm (G.s k)]++j) rfl (X:=E) (Y:=[]) (VX _).symm rfl rfl rfl rfl zg (fun t u zj zk=>zh t zj zk) (fun r D hC hS=>?_);rw[VX];obtain⟨rfl,o',A,zl⟩:=hS;have zm:=P.Xt hC;have K:Sx.look D (G.d k)=some (c1 (G.s k) (G.t k) (G.p k)):=(A.rest _ T).trans (g.dir k f);have zn:=aO (w0:=w) K;have Z:Gr D 127 1 (G.p k) J.length J:=z.Vn fun b o m l=>by obtain⟨arr,d⟩:=fE z m;rw[l] at d;cases d;refine(A.rest b ?_).trans l;rintro rfl;rw[H] at l;cases l;obtain⟨U,V,h,-⟩:=I;cases h
  refine ko @jE ?_;refine ky (aN @jE @zn) ?_;refine Ow.buildSlice (e:=127) #[.func (.func n) #[] j] rfl rfl kR fun ba zD zo=>?_;refine ko @jE ?_;refine Ow.ZV (e:=127) (k:=1) (new:=[.func (.func n) #[] j]) (G.p k) rfl rfl rfl underlying77 (id kR:aU prog 127=some (false,1)) kR (id kR:ac prog 127=some .nilFunc) rfl underlying77 (by intro k h;cases h) Z.app (fun t u=>W0.X6 (u.has _ _ (cJ _ aX)) rfl rfl) rfl (by rw[W,C];omega) (fun v2 L2 za _ B zb=>?_);have zq:=(zm.app (o:=.cells #[.func (.func n) #[] j] 127 (0,0)) zo).qm5 B;have zc:Xy (G.p k)≠some (G.d k):=fun e=>by obtain⟨arr,d⟩:=fE Z e;rw[K] at d;simp[c1] at d
  have L:Sx.look L2 (G.d k)=some (c1 (G.s k) (G.t k) (G.p k)):=B.look _ _ zc (a_ K);have zE:=aO (w0:=w) L;have st:=fun x=>DT (G.s k) (G.t k) (G.p k) v2 x za.cell;refine ko @jE ?_;refine ky (qS1 @jE @L @st) ?_;refine⟨_,(ke @jE),?_⟩;refine⟨zq.Vh,by rw[q];rfl,?_⟩;rw[tr (by rw[q];simp)];have zd:∀b,cy (D++[(ba,.cells #[.func (.func n) #[] j] 127 (0,0))]) b->b∉keys E:=fun b m hm=>by have:=aQ m (b:=b) (by rw[aV,A.keys];exact aq _ hm);omega
  have zr:∀b o,Sx.look E b=some o->b≠G.s k->b≠G.d k->Xy (G.p k)≠some b->Sx.look (Vh L2 (G.d k) (c1 (G.s k) (G.t k) v2)) b=some o:=fun b o m y h2 h3=>by rw[bE (Wq h2)];exact B.look _ _ h3 (a_ ((A.rest b y).trans m))
  obtain⟨oN,mN,zt,zu,zv⟩:=zl;have zw:Xy (G.p k)≠some (G.s k):=fun e=>by obtain⟨arr,d⟩:=fE z e;rw[H] at d;cases d;obtain⟨U,V,h,-⟩:=I;cases h
  have zx:Xy v2≠some (G.d k):=fun e=>by
   rcases zb with h| ⟨b',h,d⟩
   .exact zc (by rw[<-h];exact e)
   rw[h] at e;cases e;exact zd _ d (bO (g.dir k f))
  refine⟨v2,g.WM f (c:=c) (v:=.func (.func n) #[] j) (v2:=v2) (vals:=J) ⟨zr⟩ ⟨oN,mN,?_,zu,zv⟩ (cY L) W hF z (za.Vn fun b o m l=>?_) Q (zb.imp id fun⟨b',h,d⟩=>⟨b',h,zd _ d⟩) R (by rw[O];exact ze)⟩
  .rw[bE T];exact B.look _ _ zw (a_ zt)
  rw[bE (by rintro rfl;exact zx m)];exact l
 have F:=iT q;refine ko (aN @jE @F) ?_;refine ky @jE ?_;refine⟨_,(ke @jE),?_⟩;refine⟨P,rfl,?_⟩;rw[Vb q]
def ql6(G:XE)(bf:Nat):XE:={G with fb:=G.fb++[bf]}
def ci(S:h8)(f:WR):h8:={S with files:=S.files++[f]}
def vv{S:h8}(h:XK S){f:WR}(i:f.data.length<=1048576/\f.stl<=f.data.length):XK (ci S f):=by
 have e:(ci S f).files.length=S.files.length+1:=by unfold ci;simp
 refine⟨h.seen,h.stl,fun k a p d=>by rw[e];exact Nat.lt_succ_of_lt (h.seenN k a p d),fun k a p d=>by rw[e];exact Nat.lt_succ_of_lt (h.stlN k a p d),fun k a c j l=>by rw[e];exact Nat.lt_succ_of_lt (h.pendN k a c j l),fun g b=>?_,h.Wv,h.max⟩;rcases Wu.1 b with b|b
 .exact h.file g b
 rw[VZ.1 b];exact i
def AV{fb:List Nat}{bf n:Nat}(h:n<fb.length):(fb++[bf]).getD n 0=fb.getD n 0:=ph 0 n h
def XG.qk0{X:aA}{G:XE}{S:h8}(h:XG X G S){bf:Nat}{f:WR}(v:Sx.look X bf=some (cG f))(w:bf∉G.fb)(x:f.data.length<=1048576/\f.stl<=f.data.length):XG X (ql6 G bf) (ci S f):=by
 have s:=h.len;have t:∀ {b:Nat} {l:W_},(∀p,p∈l->p.2<S.files.length)->NmM X G.fb b l->NmM X (G.fb++[bf]) b l:=by rintro b l y ⟨o,m,j,q,r⟩;exact⟨o,m,j,q,r.mono fun p z=>AV (by have:=y p z;omega)⟩
 refine⟨h.disk,h.dirs,h.dir,fun k d=>t (h.ok.seenN k d) (h.seen k d),fun k d=>t (h.ok.stlN k d) (h.stl k d),fun k d=>?_,fun n H=>?_,?_,?_,h.nodm,h.nodd,h.nodb,h.nodp,vv h.ok x⟩
 .obtain⟨u,j,q,r⟩:=h.Vl k d;refine⟨u,j,q,fun i A=>?_⟩;have g:=r i A;have B:((S.dir k).Vl.getD i fV)∈ (S.dir k).Vl:=by
   rw[List.getD_eq_getElem?_getD,List.getElem?_eq_getElem oM];exact Y3 _
  have C:=h.ok.pendN k d _ B;show FnP X (G.fb++[bf]) (u.getD i undef) ((S.dir k).Vl.getD i fV);generalize (S.dir k).Vl.getD i fV=c at*;unfold FnP at g |-
  split at g
  .rename_i D;rw[AV (by have:=C D;omega)];exact g
  .exact g
  exact g
 .have I:n<S.files.length+1:=by
   have:(ci S f).files.length=S.files.length+1:=by unfold ci;simp
   omega
  show Sx.look X ((G.fb++[bf]).getD n 0)=some (cG ((S.files++[f]).getD n bV));by_cases e:n=S.files.length
  .subst e;rw[mj _ _ s,mj _ _ rfl];exact v
  rw[ph _ _ oM,ph _ _ oM];exact h.file n oM
 .show(G.fb++[bf]).length=(S.files++[f]).length;rw[VV,VV,s];rfl
 show(G.fb++[bf]).Nodup;refine XR.2 ⟨h.nodf,by simp,fun a E b F=>?_⟩;rw[VZ.1 F];rintro rfl;exact w E
def Ls:cL (bP prog 75) (ac prog 75) []=some (.agg #[vs [],vi 0]):=by rw[show bP prog 75=some [(0,1),(1,1)] from id kR,show ac prog 75=some (.agg #[vs [],vi 0]) from id kR];rfl
def Tk:ac prog 73=some (.pointer none):=qg0
def Lg(b:Nat)(a:Bool):aZ (some (a,1)) (some (.cells (Value.pointer none).cells 73 (0,0))) 0 (vp b 0)=some (Zl b):=
 cP [] [.pointer none] [vp b 0] [] a _ 73 rfl rfl rfl rfl rfl
def jK:=qS1 @bA @b9 @Lg
def F0(name:No)(w:hW):Va prog 221 #[vs name] w (XS w [] (fun v D=> ∃a b bf,v=.func (.func 227) #[] #[vp a 0,vp b 0]/\Sx.look D a=some (Zl bf)/\Sx.look D b=some (ce name)/\Sx.look D bf=some (cG bV))):=by
 refine Va.Vs func221 rfl (rs:=[.tmp 2]) results221 ntmps221 (fun p d=>by cases d) Wg ?_;refine kf ?_;refine ky @jK ?_;refine Ow.box rfl rfl fun b i e=>?_;simp only[dS,cz,dL,Vy];refine ko @jK ?_;refine ky @jK ?_;refine Ow.build (.agg #[vs [],vi 0]) rfl Ls ?_;refine ko @jK ?_;refine Ow.box rfl rfl fun bf f g=>?_;simp only[dS,cz,dL,ag];refine ko @jK ?_;refine Ow.alloc rfl rfl Tk fun a c h=>?_;have j:b<bf:=aQ f Wg;have k:b<a:=aQ c Wg;have l:bf<a:=aQ c Wg;refine Ow.Vd (M:=[(a,.cells (Value.pointer none).cells 73 (0,0)),(bf,.cells #[vs [],vi 0] 75 (0,0)),(b,.cells (vs name).cells 9 (0,0))]) Xm ?_;refine ko @jK ?_;refine ky @jK ?_;refine⟨_,(ke @jK),?_⟩;refine⟨Ext.Vt ⟨h,g,e,trivial⟩,a,b,bf,?_,?_,?_,?_⟩
 .simp only[bS,XM,VY,Wr,dS,cz,dL]
 .simp[Sx.look]
 .simp[Sx.look,show a≠b by omega,show bf≠b by omega];rfl
 simp[Sx.look,show a≠bf by omega];rfl
def Em(name:No)(w:hW):Va prog 182 #[vs name] w (XS w [] (fun v D=> ∃a,v=.func (.func 210) #[] #[vp a 0]/\Sx.look D a=some (ce name))):=by refine Va.Vs func182 rfl (rs:=[.tmp 2]) results182 ntmps182 (fun p b=>by cases b) Wg ?_;refine kf ?_;refine ky @jK ?_;refine Ow.box rfl rfl fun a d c=>?_;simp only[dS,cz,dL,Vy];refine ko @jK ?_;refine ky @jK ?_;refine⟨_,(ke @jK),?_⟩;exact⟨Ext.Vt ⟨c,trivial⟩,a,by simp only[bS,XM,VY,Wr,dS,cz,dL],by simp[Sx.look];rfl⟩
def cC(S:h8)(dir name:No):h8×Nat:=
 if bi S dir [name]≠0 then(S,bi S dir [name]) else match atD S dir name with
  |some _=>(S,7)
  |none=>if(aD S).2≠0 then aD S else(b_ (ci (aD S).1 bV) ((al dir).getD 0) ⟨0,name,[],S.files.length⟩,0)
def d5(S:h8)(dir name:No):h8×Nat:=
 if bi S dir [name]≠0 then(S,bi S dir [name]) else match atD S dir name with
  |none=>(S,6)
  |some _=>if(aD S).2≠0 then aD S else(b_ (aD S).1 ((al dir).getD 0) ⟨2,name,[],0⟩,0)
def cO(S:h8)(dir name a:No):h8×Nat:=
 if bi S dir [name,a]≠0 then(S,bi S dir [name,a]) else match atD S dir name with
  |none=>(S,6)
  |some _=>if name=a then aD S else if(aD S).2≠0 then aD S else(b_ (aD S).1 ((al dir).getD 0) ⟨1,name,a,0⟩,0)
def J5(S:h8)(f:WR):aD (ci S f)=(ci (aD S).1 f,(aD S).2):=by
 unfold aD;by_cases a:S.fused=true/\S.Wv=0
 .rw[Vb a,Vb (by exact a)];rfl
 rw[tr a,tr (by exact a)];by_cases b:S.fused=true
 .rw[Vb b,Vb (by exact b)];rfl
 rw[tr b,tr (by exact b)]
def Rj(b o:Nat):ak prog .neq 73 (vp b o) (.pointer none)=some (.bool true):=by simp[ak,Zq,cm,cg,underlying73,vp]
def Ry:ak prog .neq 73 (.pointer none) (.pointer none)=some (.bool false):=by simp[ak,Zq,cm,cg,underlying73]
def CU{L D:aA}{B:Nat}(a:cy L B)(c:Vq B D){b:Nat}{o:Obj}(h:Sx.look D b=some o):Sx.look (L++D) b=some o:=by rw[cu (fun d=>by have:=aQ a d;have:=c.le b (bO h);omega)];exact h
def XG.qp2{X:aA}{G:XE}{S:h8}(h:XG X G S){b:Nat}(c:b∈G.fb):b∈keys X:=by obtain⟨n,a,rfl⟩:=List.getElem_of_mem c;have:=h.file n (by rw[<-h.len];exact a);rw[List.getD_eq_getElem?_getD,List.getElem?_eq_getElem a] at this;exact bO this
def bZ:=aN (aN (aN (aN @bA @b9) (aN @j2 @rK)) (aN (aN @kF @kH) (qS1 @kI @qT @qW))) (aN (aN (aN @sz @jo) (aN @je @ly)) (aN (aN @lX @Rj) (qS1 @Ry @Sx.Wk @Sx.Wl)))
def F'(X:aA)(G:XE)(S:h8)(dir name:No)(w:hW)(T:∀p,p∈X->w.heap[p.1]? =some p.2)(U:(keys X).Nodup)(r:XG X G S)(V:name.length<1099511627776)(W:∀k,k<3->(S.dir k).Vl.length<1000000):
  Va prog 207 #[vp G.bd 0,vs dir,vs name] w (XS w X (fun v D=>v=vi ((cC S dir name).2:Nat)/\ ∃H,H.bd=G.bd/\XG D H (cC S dir name).1)):=by
 refine Va.Vs func207 rfl (rs:=[.tmp 6]) results207 ntmps207 T U ?_;refine kf ?_;refine ky @bZ ?_;refine Ow.buildSlice (e:=9) #[vs name] rfl rfl kR fun i I Z=>?_;have g:=r.mono (X':=X++[(i,VS (vs name))]) fun b o h=>a_ h;have s:=(Ext.refl w X).app (o:=(VS (vs name))) Z;have J:(i,VS (vs name))∈X++[(i,VS (vs name))]:=by simp
 generalize X++[(i,VS (vs name))]=y at*;refine ko @bZ ?_;refine Ow.Wf rfl rfl call71 (fun j t=>Va.toX (mQ j G S dir (Xr i 0 1 1) [name] (g.world t) (ji (t.has _ _ J)) V_ (by simpa using V))) (fun B2 v2 D2 za zz zb A=>?_);obtain⟨rfl,A⟩:=A;rw[VX];clear J za zb;unfold cC atD;rcases A with⟨u,rfl⟩ | ⟨u,k,B,rfl⟩
 .have C:=iT u;refine ko @bZ ?_;refine ky (aN @bZ @C) ?_;refine⟨_,(ke @bZ),?_⟩;rw[Vb u];exact⟨s,rfl,G,rfl,g⟩
 have K:¬ (bi S dir [name]≠0):=by rw[u];simp
 have l:=(cN B).1;have zc:=aO (w0:=w) (g.dir k l);obtain⟨os,ms,zd,ze,zf⟩:=g.seen k l;have zg:=aO (w0:=w) zd;have C:((0:Int) !=0)=false:=rfl;refine ko @bZ ?_;refine ky (qS1 @bZ @C @zc) ?_;refine Ow.XQ (encK:=vs) (encV:=au) (k:=name) (z:=none) rfl rfl underlying76 fQ qg0 rfl rfl zg ze ?_;rw[zf.get (r.ok.seen k l).nodup];show Ow _ _ _ _ _ _ _ _;have L:(al dir).bind (fun k=>aL (S.dir k).seen name)=aL (S.dir k).seen name:=by rw[B];rfl
 cases M:aL (S.dir k).seen name with
 |some n=>have hp:∀N:Nat,au (some N)=vp N 0:=fun _=>rfl;refine ko (aN @bZ @hp) ?_;refine ky @bZ ?_;refine⟨_,(ke @bZ),?_⟩;rw[tr K,L,M];exact⟨s,rfl,G,rfl,g⟩
 |none=>
  have zh:au none=.pointer none:=rfl;refine ko (aN @bZ @zh) ?_;refine ky @bZ ?_;refine Ow.Wf rfl rfl call221 (fun j t=>F0 name j) (fun B3 v3 E x zi m zj=>?_);obtain⟨O,bn,bf,rfl,zk,zl,P⟩:=zj;have Q:=g.mono (X':=y++E) fun b o h=>a_ h;have zm:=CU x m zk;have zn:=CU x m zl;have zo:=CU x m P;have zq:bf∉G.fb:=fun hm=>by have h1:=aQ x (g.qp2 hm);have h2:=m.le bf (bO P);omega
  have zr:=Q.qk0 zo zq (f:=bV) ⟨by decide,by decide⟩;have zt:Ext w X (y++E):=⟨fun c a=>by
   rw[aV] at a;rcases Wu.1 a with a|a
   .exact s.new c a
   exact .inr (Xq zi (m.le c a)),fun c a=>by rw[aV];exact aq _ (s.all c a)⟩
  generalize y++E=F at*;refine ko @bZ ?_;refine Ow.Wa (X:=F) (Y:=[]) (VX _).symm rfl rfl call181 (fun j t zu zv=>C_ F (ql6 G bf) (ci S bV) k ⟨0,name,[],S.files.length⟩ _ j zu zv zr l ⟨O,bn,rfl,by show Sx.look F O=some (Zl ((G.fb++[bf]).getD S.files.length 0));rw[mj _ _ r.len];exact zm,zn⟩ (fun h=>by cases h) (fun _=>by show S.files.length< (S.files++[bV]).length;simp) (W k l)) (fun v4 D4 zw d=>?_);rw[J5] at d;obtain⟨rfl,d⟩:=d;simp only at d;have R:=zt.Xt zw;rw[VX];refine ko @bZ ?_;refine ky @bZ ?_;refine⟨_,(ke @bZ),?_⟩;rw[tr K,L,M];simp only;by_cases q:(aD S).2=0
  .rw[tr (by rw[q];simp)] at d;rw[tr (by rw[q];simp)];obtain⟨v5,zx⟩:=d;rw[B];exact⟨R,by rw[q];rfl,qq5 (ql6 G bf) k v5,rfl,zx⟩
  rw[Vb q] at d;rw[Vb q];subst d;obtain⟨I,zy,zA⟩:=d7 S;exact⟨R,rfl,G,rfl,Q.Yt (aD S).1 I zy (kA r.ok)⟩
def UD(X:aA)(G:XE)(S:h8)(dir name:No)(w:hW)(O:∀p,p∈X->w.heap[p.1]? =some p.2)(P:(keys X).Nodup)(s:XG X G S)(Q:name.length<1099511627776)(R:∀k,k<3->(S.dir k).Vl.length<1000000):
  Va prog 158 #[vp G.bd 0,vs dir,vs name] w (XS w X (fun v D=>v=vi ((d5 S dir name).2:Nat)/\ ∃B,B.bd=G.bd/\XG D B (d5 S dir name).1)):=by
 refine Va.Vs func158 rfl (rs:=[.tmp 6]) results158 ntmps158 O P ?_;refine kf ?_;refine ky @bZ ?_;refine Ow.buildSlice (e:=9) #[vs name] rfl rfl kR fun g C T=>?_;have d:=s.mono (X':=X++[(g,VS (vs name))]) fun b o h=>a_ h;have m:=(Ext.refl w X).app (o:=(VS (vs name))) T;have E:(g,VS (vs name))∈X++[(g,VS (vs name))]:=by simp
 generalize X++[(g,VS (vs name))]=t at*;refine ko @bZ ?_;refine Ow.Wf rfl rfl call71 (fun i q=>Va.toX (mQ i G S dir (Xr g 0 1 1) [name] (d.world q) (ji (q.has _ _ E)) V_ (by simpa using Q))) (fun B2 v2 D2 U zq V u=>?_);obtain⟨rfl,u⟩:=u;rw[VX];clear E U V;unfold d5 atD;rcases u with⟨r,rfl⟩ | ⟨r,k,x,rfl⟩
 .have y:=iT r;refine ko @bZ ?_;refine ky (aN @bZ @y) ?_;refine⟨_,(ke @bZ),?_⟩;rw[Vb r];exact⟨m,rfl,G,rfl,d⟩
 have F:¬ (bi S dir [name]≠0):=by rw[r];simp
 have j:=(cN x).1;have W:=aO (w0:=w) (d.dir k j);obtain⟨os,ms,Z,za,zb⟩:=d.seen k j;have zc:=aO (w0:=w) Z;have y:((0:Int) !=0)=false:=rfl;refine ko @bZ ?_;refine ky (qS1 @bZ @y @W) ?_;refine Ow.XQ (encK:=vs) (encV:=au) (k:=name) (z:=none) rfl rfl underlying76 fQ qg0 rfl rfl zc za ?_;rw[zb.get (s.ok.seen k j).nodup];show Ow _ _ _ _ _ _ _ _;have H:(al dir).bind (fun k=>aL (S.dir k).seen name)=aL (S.dir k).seen name:=by rw[x];rfl
 cases I:aL (S.dir k).seen name with
 |none=>have zd:au none=.pointer none:=rfl;refine ko (aN @bZ @zd) ?_;refine ky @bZ ?_;refine⟨_,(ke @bZ),?_⟩;rw[tr F,H,I];exact⟨m,rfl,G,rfl,d⟩
 |some n=>
  have hp:∀J:Nat,au (some J)=vp J 0:=fun _=>rfl;refine ko (aN @bZ @hp) ?_;refine ky @bZ ?_;refine Ow.Wf rfl rfl call182 (fun i q=>Em name i) (fun B3 v3 A ze zf K zg=>?_);obtain⟨bn,rfl,zh⟩:=zg;have L:=d.mono (X':=t++A) fun b o h=>a_ h;have zi:=CU ze K zh;have zj:Ext w X (t++A):=⟨fun c a=>by
   rw[aV] at a;rcases Wu.1 a with a|a
   .exact m.new c a
   exact .inr (Xq zf (K.le c a)),fun c a=>by rw[aV];exact aq _ (m.all c a)⟩
  generalize t++A=M at*;refine ko @bZ ?_;refine Ow.Wa (X:=M) (Y:=[]) (VX _).symm rfl rfl call181 (fun i q zk zl=>C_ M G S k ⟨2,name,[],0⟩ _ i zk zl L j ⟨bn,rfl,zi⟩ (fun h=>by cases h) (fun h=>by cases h) (R k j)) (fun v4 D4 zm f=>?_);obtain⟨rfl,f⟩:=f;have N:=zj.Xt zm;rw[VX];refine ko @bZ ?_;refine ky @bZ ?_;refine⟨_,(ke @bZ),?_⟩;rw[tr F,H,I];simp only;by_cases l:(aD S).2=0
  .rw[tr (by rw[l];simp)] at f;rw[tr (by rw[l];simp)];obtain⟨v5,zn⟩:=f;rw[x];exact⟨N,by rw[l];rfl,qq5 G k v5,rfl,zn⟩
  rw[Vb l] at f;rw[Vb l];subst f;obtain⟨C,zo,zr⟩:=d7 S;exact⟨N,rfl,G,rfl,L.Yt (aD S).1 C zo (kA s.ok)⟩
def GT(X:aA)(G:XE)(S:h8)(dir name a:No)(w:hW)(W:∀p,p∈X->w.heap[p.1]? =some p.2)(Z:(keys X).Nodup)(g:XG X G S)(za:name.length<1099511627776)(zb:a.length<1099511627776)(zc:∀k,k<3->(S.dir k).Vl.length<1000000):
  Va prog 208 #[vp G.bd 0,vs dir,vs name,vs a] w (XS w X (fun v D=>v=vi ((cO S dir name a).2:Nat)/\ ∃O,O.bd=G.bd/\XG D O (cO S dir name a).1)):=by
 refine Va.Vs func208 rfl (rs:=[.tmp 8]) results208 ntmps208 W Z ?_;refine kf ?_;refine ky @bZ ?_;refine Ow.box rfl rfl fun b6 zd ze=>?_;simp only[dS,cz,dL];refine ko @bZ ?_;refine Ow.box rfl rfl fun b7 zf zg=>?_;simp only[dS,cz,dL];refine Ow.Vd (M:=X++[(b6,ce name)]++[(b7,ce a)]) (WW _) ?_;have zh:=g.mono (X':=X++[(b6,ce name)]++[(b7,ce a)]) fun b o h=>a_ (a_ h);have zi:=((Ext.refl w X).app (o:=ce name) ze).app (o:=ce a) zg;have i:Sx.look (X++[(b6,ce name)]++[(b7,ce a)]) b6=some (ce name):=a_ (fX zd);have j:Sx.look (X++[(b6,ce name)]++[(b7,ce a)]) b7=some (ce a):=fX zf;generalize X++[(b6,ce name)]++[(b7,ce a)]=F at*;have l:=aO (w0:=w) i;have x:=aO (w0:=w) j;refine ko @bZ ?_;refine ky (qS1 @bZ @l @x) ?_;refine Ow.buildSlice (e:=9) #[vs name,vs a] rfl rfl kR fun d H zj=>?_;have c:=zh.mono (X':=F++[(d,Obj.cells #[vs name,vs a] 9 (0,0))]) fun b o h=>a_ h;have y:=zi.app (o:=Obj.cells #[vs name,vs a] 9 (0,0)) zj;have P:(d,Obj.cells #[vs name,vs a] 9 (0,0))∈F++[(d,Obj.cells #[vs name,vs a] 9 (0,0))]:=by simp
 have i:=a_ (M:=[(d,Obj.cells #[vs name,vs a] 9 (0,0))]) i;have j:=a_ (M:=[(d,Obj.cells #[vs name,vs a] 9 (0,0))]) j;generalize F++[(d,Obj.cells #[vs name,vs a] 9 (0,0))]=A at*;have l:=aO (w0:=w) i;have x:=aO (w0:=w) j;have Q:∀s,s∈ [name,a]->s.length<1099511627776:=by
  intro s R;simp only[Vw,WI,WB] at R;rcases R with rfl|rfl
  .exact za
  exact zb
 refine ko @bZ ?_;refine Ow.Wf rfl rfl call71 (fun m q=>Va.toX (mQ m G S dir (Xr d 0 2 2) [name,a] (c.world q) (SO (q.has _ _ P)) V_ Q)) (fun B2 v2 D2 zk zB zl I=>?_);obtain⟨rfl,I⟩:=I;rw[VX];clear P zk zl Q;unfold cO atD;rcases I with⟨B,rfl⟩ | ⟨B,k,J,rfl⟩
 .have K:=iT B;refine ko @bZ ?_;refine ky (aN @bZ @K) ?_;refine⟨_,(ke @bZ),?_⟩;rw[Vb B];exact⟨y,rfl,G,rfl,c⟩
 have L:¬ (bi S dir [name,a]≠0):=by rw[B];simp
 have r:=(cN J).1;have zm:=aO (w0:=w) (c.dir k r);obtain⟨os,ms,zn,zo,zq⟩:=c.seen k r;have zr:=aO (w0:=w) zn;have K:((0:Int) !=0)=false:=rfl;have N:(al dir).bind (fun k=>aL (S.dir k).seen name)=aL (S.dir k).seen name:=by rw[J];rfl
 refine ko @bZ ?_;refine ky (aN @bZ @K) ?_;refine Cw.Vu [G.d k,b6] [0,1,2,3,4,5,6,7] [] kR kR kR ?_;refine WQ ?_;refine kq (qS1 @bZ @zm @l) ?_;refine Ow.WV ?_;refine Ow.XQ (encK:=vs) (encV:=au) (k:=name) (z:=none) rfl rfl underlying76 fQ qg0 rfl rfl zr zo ?_
 with_reducible refine Ow.ZQ ?_
 rw[zq.get (g.ok.seen k r).nodup];show Ow _ _ _ _ _ _ _ _;cases C:aL (S.dir k).seen name with
 |none=>
  have zt:au none=.pointer none:=rfl;refine kq (aN @bZ @zt) ?_
  try with_reducible refine Ow.nil ?_
  refine ky @bZ ?_;refine⟨_,(ke @bZ),?_⟩;rw[tr L,N,C];exact⟨y,rfl,G,rfl,c⟩
 |some n=>
  have hp:∀T:Nat,au (some T)=vp T 0:=fun _=>rfl;have zu:G.bd∈keys A:=bO c.disk;obtain⟨H,U,zC⟩:=d7 S;refine kq (aN @bZ @hp) ?_
  try with_reducible refine Ow.nil ?_
  cases t:(name==a) with
  |true=>have E:name=a:=eq_of_beq t;refine ky (qS2 @bZ @l @x @t) ?_;refine Ow.WA rfl rfl call101 zu (fun m q=>BP G.bd G.bm S m g.ok.Wv (q.has _ _ (bU c.disk))) ?_;have zv:=c.Yt (aD S).1 H U (kA g.ok);have zw:=y.Vh (b:=G.bd) (o:=bJ G.bm (aD S).1);generalize Vh A G.bd (bJ G.bm (aD S).1)=L2 at*;refine ko @bZ ?_;refine ky @bZ ?_;refine⟨_,(ke @bZ),?_⟩;rw[tr L,N,C];simp only;rw[Vb E];exact⟨zw,rfl,G,rfl,zv⟩
  |false=>
   have E:name≠a:=fun e=>by rw[e] at t;simp at t
   refine ky (qS2 @bZ @l @x @t) ?_;simp only[XM,VY,Wr,dS,cz,dL];refine Ow.Wa (X:=A) (Y:=[]) (VX _).symm rfl rfl call181 (fun m q zx zy=>C_ A G S k ⟨1,name,a,0⟩ (.func (.func 222) #[] #[vp b6 0,vp b7 0]) m zx zy c r ⟨b6,b7,rfl,i,j⟩ (fun _=>⟨by rw[C];simp,E⟩) (fun h=>by cases h) (zc k r)) (fun v4 D4 zz f=>?_);obtain⟨rfl,f⟩:=f;have V:=y.Xt zz;rw[VX];refine ko @bZ ?_;refine ky @bZ ?_;refine⟨_,(ke @bZ),?_⟩;rw[tr L,N,C];simp only;rw[tr E];by_cases u:(aD S).2=0
   .rw[tr (by rw[u];simp)] at f;rw[tr (by rw[u];simp)];obtain⟨v5,zA⟩:=f;rw[J];exact⟨V,by rw[u];rfl,qq5 G k v5,rfl,zA⟩
   rw[Vb u] at f;rw[Vb u];subst f;exact⟨V,rfl,G,rfl,c.Yt (aD S).1 H U (kA g.ok)⟩
structure CpG where
 L:aA
 it:Obj
 o:Obj
 dn:List (No×Option Nat)
 lf:List (No×Option Nat)
theorem Dl{α β:Type}[BEq α][LawfulBEq α]{k:α}{v:β}:∀ {m:List (α×β)},(∀p,p∈m->p.1≠k)->qb9 k v m=m++[(k,v)]
 | [],_=>rfl
 |p::r,h=>by have a:(k==p.1)=false:=WN.2 fun e=>h p aX e.symm;unfold qb9;rw[tr (by rw[a];simp),Dl fun b c=>h b (ah _ c)];rfl
def j8:=aN (aN (aN @bA @b9) (aN @Sx.Wk @Sx.Wl)) (aN (aN @mv @Sx.Yk) (aN @Sx.Yl @Sx.Ym))
def KP(X:aA)(bt bs:Nat)(n os:Obj)(m:List (No×Option Nat))(w:hW)(U:∀p,p∈X->w.heap[p.1]? =some p.2)(V:(keys X).Nodup)
  (y:Sx.look X bt=some n) (W:dO vs au n ([]:List (No×Option Nat))) (q:Sx.look X bs=some os) (Y:dO vs au os m) (Z:bt≠bs) (za:(m.map Prod.fst).Nodup):
  Va prog 70 #[vm bt,vm bs] w (XS w X (fun v D=>v=bS []/\(∀b o,b≠bt->Sx.look X b=some o->Sx.look D b=some o)/\ ∃z A,Sx.look D bt=some z/\dO vs au z A/\A.Perm m)):=by
 refine Va.Vs func70 rfl (rs:=[]) results70 ntmps70 U V ?_;refine kf ?_;refine ky @j8 ?_;refine Ow.ZY (encK:=vs) (encV:=au) rfl rfl underlying76 rfl (aO q) Y fun a B C zb f=>?_;have r:∀b o,Sx.look X b=some o->b≠a:=fun b o c e=>by have:=aQ C (bO c);omega
 refine ko @j8 ?_;refine ky @j8 ?_;refine Cw.VU (G:=CpG) [8,9,10,11,12,4,5,13,14,15] (fun g=>[]) (fun g=>g.L) (fun g=>Sx.look g.L a=some g.it/\Sx.look g.L bt=some g.o/\dO vs au g.o g.dn/\(∀b o,b≠bt->Sx.look X b=some o->Sx.look g.L b=some o)/\Ext w X g.L/\ItG vs au g.it bs os m g.dn g.lf) (fun g=>g.lf.length) ⟨X++[(a,B)],B,n,[],m⟩ rfl rfl ?_ ?_
 .exact⟨fX C,a_ y,W,fun b o _ c=>a_ c,(Ext.refl w X).app zb,f⟩
 intro g j E;refine kv ?_;clear f;obtain⟨L,it,o,dn,lf⟩:=g;simp only at E |-;obtain⟨F,H,I,t,J,f⟩:=E;have K:=t bs os (Wq Z) q;have M:bt≠a:=r _ _ y;have zc:bs≠a:=r _ _ q;refine ky @j8 ?_;refine Ow.qb8 rfl rfl rfl F (aO K) f (fun zd=>?_) (fun p d N zh u=>?_)
 .subst zd;have h:=mW f;rw[VX] at h;refine ko @j8 ?_;refine ky @j8 ?_;refine⟨_,(ke @j8),?_⟩;exact⟨J,rfl,t,o,dn,H,I,h⟩
 have O:Sx.look (Vh L a d) a=some d:=cY F;have P:Sx.look (Vh L a d) bt=some o:=by rw[bE (Wq M)];exact H
 have h3:Sx.look (Vh L a d) bs=some os:=by rw[bE (Wq zc)];exact K
 have h4:∀b o,b≠bt->Sx.look X b=some o->Sx.look (Vh L a d) b=some o:=fun b o c i=>by rw[bE (Wq (r _ _ i))];exact t b o c i
 have ze:=J.Vh (b:=a) (o:=d);generalize Vh L a d=x at*;refine ko @j8 ?_;refine ky @j8 ?_;refine Ow.ZW (encK:=vs) (encV:=au) rfl rfl rfl (aO O) (aO h3) u ?_;obtain⟨s,Q⟩:=p;have h:=mW u;have zf:∀p,p∈dn->p.1≠s:=by have R:=((h.map Prod.fst).nodup_iff).2 za;rw[We,We,XR] at R;have S:=R.1;rw[XR] at S;intro p zg e;exact S.2.2 p.1 (List.mem_map_of_mem zg) s V_ e
 refine ko @j8 ?_;refine ky @j8 ?_;refine Ow.YY (encK:=vs) (encV:=au) (k:=s) (v:=Q) rfl rfl underlying76 fQ rfl rfl rfl P I (fun l T=>?_);rw[Dl zf] at T;refine ko @j8 ?_;refine ky @j8 ?_;exact Vo.mk ⟨Vh x bt l,d,l,dn++[(s,Q)],N⟩ (by show N.length<lf.length;omega) ⟨by show Sx.look (Vh x bt l) a=_;rw[bE M];exact O,cY P,T,fun b o c i=>by show Sx.look (Vh x bt l) b=_;rw[bE (Wq c)];exact h4 b o c i,ze.Vh,u⟩ rfl rfl
def jv(G:XE)(k s':Nat):XE:={G with s:=fun j=>if j=k then s' else G.s j,p:=fun j=>if j=k then Vj else G.p j}
def XG.calm{X L:aA}{G:XE}{S:h8}(h:XG X G S){k:Nat}(r:k<3){s':Nat}(d:Yz)(H:d.Vl=[])
  (Vn:∀b o,Sx.look X b=some o->b≠G.t k->b≠G.d k->Sx.look L b=some o) (T:NmM L G.fb s' d.seen) (z:NmM L G.fb (G.t k) d.stl)
  (U:Sx.look L (G.d k)=some (c1 s' (G.t k) Vj)) (E:s'=G.s k\/s'∉keys X) (q:YG d.seen) (l:YG d.stl) (v:∀p,p∈d.seen->p.2<S.files.length) (V:∀p,p∈d.stl->p.2<S.files.length):
  XG L (jv G k s') (cT S k d):=by
 obtain⟨ze,zf,W,Y,-⟩:=h.stl k r;have I:∀b o,Sx.look X b=some o->Xo o≠none->b≠G.t k:=by rintro b o g z rfl;rw[W] at g;cases g;exact z (fW Y)
 have J:∀b o,Sx.look X b=some o->Xo o≠some 79->b≠G.d k:=by rintro b o g z rfl;rw[h.dir k r] at g;cases g;exact z rfl
 have K:∀b o,Sx.look X b=some o->Xo o≠none->Xo o≠some 79->Sx.look L b=some o:=fun b o g q l=>Vn b o g (I b o g q) (J b o g l);have F:∀b o,Sx.look X b=some o->Xo o=none->b≠G.t k->Sx.look L b=some o:=fun b o g q l=>Vn b o g l (J b o g (by rw[q];intro e;cases e));have Z:∀ {w c},FnP X G.fb w c->FnP L G.fb w c:=fun hw=>hw.Vn fun b o g M=>K b o g (by rcases M with⟨s,rfl⟩ | ⟨a,rfl⟩<;>simp[Xo,ce,Zl]) (by rcases M with⟨s,rfl⟩ | ⟨a,rfl⟩<;>simp[Xo,ce,Zl]);have y:∀j,j<3->j≠k->s'≠G.s j:=fun j f za=>by
  rcases E with e|e
  .rw[e];exact(jR h.nodm r f).1 (Wq za)
  obtain⟨o,m,u,-⟩:=h.seen j f;rintro rfl;exact e (bO u)
 have t:∀j,j<3->s'≠G.t j:=fun j f=>by
  rcases E with e|e
  .rw[e];exact(jR h.nodm r f).2.2
  obtain⟨o,m,u,-⟩:=h.stl j f;rintro rfl;exact e (bO u)
 have zb:G.bm≠s':=by
  rcases E with e|e
  .rw[e];exact(h.nodb k r).1
  obtain⟨o,u,-⟩:=h.dirs;rintro rfl;exact e (bO u)
 refine⟨?_,?_,?_,?_,?_,?_,?_,h.len,h.nodf,?_,h.nodd,?_,?_,?_⟩
 .exact K _ _ h.disk (by simp[Xo,bJ]) (by simp[Xo,bJ])
 .obtain⟨o,q,l⟩:=h.dirs;exact⟨o,F _ _ q (fW l) (h.nodb k r).2,l⟩
 .intro j f;show Sx.look L (G.d j)=some (c1 (if j=k then s' else G.s j) (G.t j) (if j=k then Vj else G.p j));by_cases e:j=k
  .subst e;rw[Vb rfl,Vb rfl];exact U
  rw[tr e,tr e];exact Vn _ _ (h.dir j f) (I _ _ (h.dir j f) (by simp[Xo,c1])) (AI h.nodd f r e)
 .intro j f;show NmM L G.fb (if j=k then s' else G.s j) (if j=k then d else S.dir j).seen;by_cases e:j=k
  .subst e;rw[Vb rfl,Vb rfl];exact T
  rw[tr e,tr e];obtain⟨o,m,q,l,v⟩:=h.seen j f;exact⟨o,m,F _ _ q (fW l) (jR h.nodm f r).2.2,l,v⟩
 .intro j f;show NmM L G.fb (G.t j) (if j=k then d else S.dir j).stl;by_cases e:j=k
  .subst e;rw[Vb rfl];exact z
  rw[tr e];obtain⟨o,m,q,l,v⟩:=h.stl j f;exact⟨o,m,F _ _ q (fW l) ((jR h.nodm f r).2.1 e),l,v⟩
 .intro j f;by_cases e:j=k
  .subst e;refine⟨[],?_,?_,fun i A=>Vx A (Yy _)⟩
   .show 0=(if j=j then d else S.dir j:Yz).Vl.length;rw[Vb rfl,H];rfl
   show Gr L _ 1 (if j=j then Vj else G.p j) 0 [];rw[Vb rfl];exact Gr.nl
  obtain⟨B,q,l,v⟩:=h.Vl j f;refine⟨B,?_,?_,?_⟩
  .show B.length=(if j=k then _ else S.dir j:Yz).Vl.length;rw[tr e];exact q
  .show Gr L _ 1 (if j=k then Vj else G.p j) B.length B;rw[tr e];refine l.Vn fun b o g u=>?_;obtain⟨arr,N⟩:=fE l g;rw[u] at N;cases N;exact K _ _ u (by simp[Xo]) (by simp[Xo])
  intro i A;show FnP L G.fb (B.getD i undef) ((if j=k then _ else S.dir j:Yz).Vl.getD i fV);rw[tr e];exact Z (v i A)
 .intro n C;exact K _ _ (h.file n C) (by simp[Xo,cG]) (by simp[Xo,cG])
 .have C:=h.nodm;have zc:k=0\/k=1\/k=2:=by omega
  rcases zc with rfl|rfl|rfl
  .show [s',G.s 1,G.s 2,G.t 0,G.t 1,G.t 2].Nodup;exact Xd.2 ⟨by simp only[Vw,WI,WB,not_or];exact⟨y 1 oM oM,y 2 oM oM,t 0 oM,t 1 oM,t 2 oM⟩,(Xd.1 C).2⟩
  .show [G.s 0,s',G.s 2,G.t 0,G.t 1,G.t 2].Nodup;refine(List.Perm.swap (G.s 0) s' _).nodup_iff.1 ?_;exact Xd.2 ⟨by simp only[Vw,WI,WB,not_or];exact⟨y 0 oM oM,y 2 oM oM,t 0 oM,t 1 oM,t 2 oM⟩,(Xd.1 ((List.Perm.swap (G.s 0) (G.s 1) _).nodup_iff.2 C)).2⟩
  show [G.s 0,G.s 1,s',G.t 0,G.t 1,G.t 2].Nodup;have O:∀x:Nat,(x::[G.s 0,G.s 1,G.t 0,G.t 1,G.t 2]).Perm [G.s 0,G.s 1,x,G.t 0,G.t 1,G.t 2]:=fun x=>((List.perm_middle (l₁:=[G.s 0,G.s 1]) (a:=x) (l₂:=[G.t 0,G.t 1,G.t 2]))).symm;refine(O s').nodup_iff.1 ?_;exact Xd.2 ⟨by simp only[Vw,WI,WB,not_or];exact⟨y 0 oM oM,y 1 oM oM,t 0 oM,t 1 oM,t 2 oM⟩,(Xd.1 ((O (G.s 2)).nodup_iff.2 C)).2⟩
 .intro j f;show G.bm≠ (if j=k then s' else G.s j)/\G.bm≠G.t j;by_cases e:j=k
  .rw[Vb e];exact⟨zb,(h.nodb j f).2⟩
  rw[tr e];exact h.nodb j f
 .intro i j A f zd b g;show Xy (if j=k then Vj else G.p j)≠some b;have D:Xy (if i=k then Vj else G.p i)=some b:=g;by_cases P:i=k
  .rw[Vb P] at D;cases D
  rw[tr P] at D;by_cases Q:j=k
  .rw[Vb Q];intro e;cases e
  rw[tr Q];exact h.nodp i j A f zd b D
 exact qa h.ok _ q l v V (fun c R=>by rw[H] at R;cases R)
def fP:=aN (aN (aN @bA @b9) (aN @j2 @kF)) (aN (aN @kH @kI) (aN @Sx.Wk @Sx.Wl))
def eW(S:h8)(k:Nat):h8:=cT S k ⟨(S.dir k).seen,(S.dir k).seen,[]⟩
def UR(X:aA)(G:XE)(S:h8)(k:Nat)(w:hW)(I:∀p,p∈X->w.heap[p.1]? =some p.2)(J:(keys X).Nodup)(c:XG X G S)(a:k<3):
  Va prog 33 #[vp (G.d k) 0] w (XS w X (fun v D=>v=bS []/\XG D (jv G k (G.s k)) (eW S k)/\ ∀b o,Sx.look X b=some o->b≠G.t k->b≠G.d k->Sx.look D b=some o)):=by
 obtain⟨ot,mt,i,u,ze⟩:=c.stl k a;obtain⟨os,y,z,j,l⟩:=c.seen k a;have n:=c.dir k a;have q:G.s k≠G.t k:=(jR c.nodm a a).2.2;have A:∀ {b:Nat} {o:Obj} {m:List (No×Option Nat)},Sx.look X b=some o->dO vs au o m->G.d k≠b:=by rintro b o m d K rfl;rw[n] at d;cases d;obtain⟨es,cl,h,-⟩:=K;cases h
 have r:=A i u;refine Va.Vs func33 rfl (rs:=[]) results33 ntmps33 I J ?_;refine kf ?_
 ((try with_reducible refine Cw.go [] ?_);(try simp(disch:=first|exact dD|fail) only[↓Sx.S0,Sx.S1,fx,fP,Nat.reduceAdd,Nat.reducePow,Int.reducePow,Nat.reduceBEq,↓reduceIte,UInt8.reduceToNat,UInt16.reduceToNat,UInt32.reduceToNat,UInt64.reduceToNat,Int.reduceToNat,(aO (w0:=w) n)]))
 refine Ow.qm7 (encK:=vs) (encV:=au) rfl rfl underlying76 rfl i u (fun e L=>?_);have f:ZL X (Vh X (G.t k) e) (G.t k) e:=ZL.set i;have M:=(Ext.refl w X).Vh (b:=G.t k) (o:=e);generalize Vh X (G.t k) e=g at*;have B:Sx.look g (G.d k)=some (c1 (G.s k) (G.t k) (G.p k)):=(f.rest _ r).trans n;have C:Sx.look g (G.s k)=some os:=(f.rest _ q).trans z;have E:=aO (w0:=w) B;refine ko @fP ?_;refine ky @fP ?_;refine Cw.Vu [G.d k] [0,1,2,4,5,6,3,7,8] [] kR kR kR ?_;refine WQ ?_;refine kq (aN @fP @E) ?_;refine Ow.WV ?_;refine Ow.Wa (X:=g) (Y:=[]) (VX _).symm rfl rfl call70 (fun N zf O P=>KP g (G.t k) (G.s k) e os y N O P f.at_ L C j (Wq q) (l.keys (c.ok.seen k a).nodup)) (fun v4 Q R T=>?_);obtain⟨rfl,s,U,V,W,Z,za⟩:=T;have zb:=M.Xt R;rw[VX];have t:=s _ _ r B;have zc:=aO (w0:=w) t;refine Ow.nil ?_;refine⟨fun b d=>by rw[VZ] at d;subst d;rw[E,zc],?_⟩;refine kq @fP ?_
 try with_reducible refine Ow.nil ?_
 have st:=fun x=>DT (G.s k) (G.t k) (G.p k) Vj x ⟨rfl,rfl⟩;refine ky (qS1 @fP @t @st) ?_;refine⟨_,(ke @fP),?_⟩;have F:∀b o,Sx.look X b=some o->b≠G.t k->b≠G.d k->Sx.look (Vh Q (G.d k) (c1 (G.s k) (G.t k) Vj)) b=some o:=fun b o d H h2=>by rw[bE (Wq h2)];exact s _ _ H ((f.rest _ H).trans d)
 refine⟨zb.Vh,rfl,?_,F⟩;have zd:=s _ _ q C;refine c.calm a ⟨(S.dir k).seen,(S.dir k).seen,[]⟩ rfl F ⟨os,y,?_,j,l⟩ ⟨U,V,?_,Z,za.trans l⟩ (cY t) (.inl rfl) (c.ok.seen k a) (c.ok.seen k a) (c.ok.seenN k a) (c.ok.seenN k a)
 .rw[bE (A z j)];exact zd
 rw[bE r];exact W
def dZ(S:h8)(dir:No):h8×Nat:=
 if bi S dir []≠0 then(S,bi S dir []) else if(aD S).2≠0 then aD S else(eW (aD S).1 ((al dir).getD 0),0)
def FM(X:aA)(G:XE)(S:h8)(dir:No)(w:hW)(u:∀p,p∈X->w.heap[p.1]? =some p.2)(x:(keys X).Nodup)(a:XG X G S):
  Va prog 209 #[vp G.bd 0,vs dir] w (XS w X (fun v D=>v=vi ((dZ S dir).2:Nat)/\ ∃l,l.bd=G.bd/\XG D l (dZ S dir).1)):=by
 refine Va.Vs func209 rfl (rs:=[.tmp 4]) results209 ntmps209 u x ?_;refine kf ?_;refine ky @fP ?_;refine Ow.Wf rfl rfl call71 (fun c d=>Va.toX (mQ c G S dir Vj [] (a.world d) (Xz.nil c) V_ (fun s y=>by cases y))) (fun I v2 D2 J K L g=>?_);obtain⟨rfl,g⟩:=g;rw[VX];unfold dZ;rcases g with⟨e,rfl⟩ | ⟨e,k,m,rfl⟩
 .have h:=iT e;refine ko @fP ?_;refine ky (aN @fP @h) ?_;refine⟨_,(ke @fP),?_⟩;rw[Vb e];exact⟨Ext.refl w X,rfl,G,rfl,a⟩
 have n:¬ (bi S dir []≠0):=by rw[e];simp
 have z:=(cN m).1;have h:((0:Int) !=0)=false:=rfl;obtain⟨A,B,M⟩:=d7 S;refine ko @fP ?_;refine ky (aN @fP @h) ?_;refine Ow.WA rfl rfl call101 (bO a.disk) (fun c d=>BP G.bd G.bm S c a.ok.Wv (d.has _ _ (bU a.disk))) ?_;have q:=a.Yt (aD S).1 A B (kA a.ok);have r:=(Ext.refl w X).Vh (b:=G.bd) (o:=bJ G.bm (aD S).1);generalize Vh X G.bd (bJ G.bm (aD S).1)=t at*;by_cases f:(aD S).2=0
 .have i:(((aD S).2:Int) !=0)=false:=by rw[f];rfl
  refine ko (aN @fP @i) ?_;refine ky @fP ?_;refine Ow.Wa (X:=t) (Y:=[]) (VX _).symm rfl rfl call33 (fun c d C E=>UR t G (aD S).1 k c C E q z) (fun N O F j=>?_);obtain⟨rfl,j,-⟩:=j;have H:=r.Xt F;rw[VX];refine ko @fP ?_;refine ky @fP ?_;refine⟨_,(ke @fP),?_⟩;rw[tr n,tr (by rw[f];simp),m];exact⟨H,rfl,jv G k (G.s k),rfl,j⟩
 have i:=iT f;refine ko (aN @fP @i) ?_;refine ky @fP ?_;refine⟨_,(ke @fP),?_⟩;rw[tr n,Vb f];exact⟨r,rfl,G,rfl,q⟩
def jT(w:hW):Prop:= ∃e fz,w.heap[0]? =some (.cells #[vs gZ,vs gG,vs aJ] e fz)
def dN(a:Int):h8:=⟨fun _=>⟨[],[],[]⟩,[],a,0,false,false⟩
def Lz(b:Nat)(q:Int):cL (bP prog 71) (ac prog 71) [(0,vm b),(1,vi q)]=some (.agg #[vm b,vi q,vi 0,.bool false,.bool false]):=by rw[show bP prog 71=some [(0,1),(1,1),(2,1),(3,1),(4,1)] from id kR,show ac prog 71=some (.agg #[.map none,vi 0,vi 0,.bool false,.bool false]) from id kR];rfl
def NC(a b:Nat):cL (bP prog 79) (ac prog 79) [(0,vm a),(1,vm b)]=some (.agg #[vm a,vm b, Vj]):=by rw[show bP prog 79=some [(0,1),(1,1),(2,1)] from id kR,show ac prog 79=some (.agg #[.map none,.map none, Vj]) from id kR];rfl
def Cx(e:h7)(fz:Nat×Nat):aF (some (true,3)) (some (.cells #[vs gZ,vs gG,vs aJ] e fz)) 0=some (.agg #[vs gZ,vs gG,vs aJ]):=jN _ e fz 3 rfl
def Cd{k:Nat}(a:k<3):j9 (.arr 3 (false,1)) (.agg #[vs gZ,vs gG,vs aJ]) (some (k:Int))=some (vs (bT k)):=by
 have:k=0\/k=1\/k=2:=by omega
 rcases this with rfl|rfl|rfl<;>rfl
def mC(d:Nat->Nat):Nat->List (No×Option Nat)
 |0=>[]
 |k+1=>mC d k++[(bT k,some (d k))]
theorem Um{d a:Nat->Nat}:∀ {k:Nat},(∀j,j<k->a j=d j)->mC a k=mC d k
 |0,_=>rfl
 |k+1,h=>by unfold mC;rw[Um fun j b=>h j oM,h k oM]
theorem uJ{d:Nat->Nat}{j:Nat}(b:j<3):∀ {k:Nat},k<=j-> ∀p,p∈mC d k->p.1≠bT j
 |0,_,_,a=>by cases a
 |k+1,h,p,a=>by
  rcases Wu.1 a with a|a
  .exact uJ b oM p a
  rw[VZ.1 a];intro e;have c:=jP (k:=k) oM;have f:=jP b;have g:bT k=bT j:=e;rw[g,f] at c;cases c;omega
structure NwG where
 L:aA
 o:Obj
 k:Nat
 d:Nat->Nat
 s:Nat->Nat
 t:Nat->Nat
def mtM(L:aA)(b:Nat):Prop:= ∃o,Sx.look L b=some o/\dO vs au o ([]:List (No×Option Nat))
def iM:=aN (qS1 @bA @b9 @j2) (qS1 @kF @kH @kI)
def sf(l:Int)(w:hW)(Q: -9223372036854775808<=l/\l<9223372036854775808)(hG:jT w):
  Va prog 30 #[vi l] w (XS w [] (fun v D=> ∃G,v=vp G.bd 0/\XG D G (dN l))):=by
 obtain⟨e,fz,H⟩:=hG;refine Va.Vs func30 rfl (rs:=[.tmp 2]) results30 ntmps30 (fun p I=>by cases I) Wg ?_;refine kf ?_;refine ky @iM ?_;refine Ow.qe8 (encK:=vs) (encV:=au) rfl rfl (fun bm u zq zb J=>?_);rw[Vy];refine ko @iM ?_;refine Ow.build (.agg #[vm bm,vi l,vi 0,.bool false,.bool false]) rfl (Lz bm l) ?_;refine ko @iM ?_;refine Ow.box rfl rfl fun bd T zc=>?_;simp only[dS,cz,dL,ag];have zr:bm<bd:=aQ T Wg;refine Ow.Vd (M:=[(bm,u)]++[(bd,bJ bm (dN l))]) (WW _) ?_;have U:Sx.look ([(bm,u)]++[(bd,bJ bm (dN l))]) bm=some u:=by simp[Sx.look]
 have K:Sx.look ([(bm,u)]++[(bd,bJ bm (dN l))]) bd=some (bJ bm (dN l)):=fX T;have C:Vq w.heap.size ([(bm,u)]++[(bd,bJ bm (dN l))]):=⟨zb,zc,trivial⟩;generalize [(bm,u)]++[(bd,bJ bm (dN l))]=V at*;have zd:=(Array.getElem?_eq_some_iff.1 H).1;have W:aG w V 0=some (.cells #[vs gZ,vs gG,vs aJ] e fz):=by rw[dr (C.not zd)];exact H
 refine ko @iM ?_;refine ky (qS1 @iM @W @Cx) ?_;refine Cw.VU (G:=NwG) [12,13,5,14,15,16,17,18,19,20,21,22,23,11] (fun g=>[(11,vi g.k)]) (fun g=>g.L) (fun g=>g.k<=3/\Sx.look g.L bm=some g.o/\dO vs au g.o (mC g.d g.k)/\Sx.look g.L bd=some (bJ bm (dN l))/\Vq w.heap.size g.L/\ ∀j,j<g.k->Sx.look g.L (g.d j)=some (c1 (g.s j) (g.t j) Vj)/\mtM g.L (g.s j)/\mtM g.L (g.t j)/\g.s j<g.t j/\g.t j<g.d j/\bd<g.s j/\ ∀i,i<j->g.d i<g.s j) (fun g=>3 - g.k) ⟨V,u,0,fun _=>0,fun _=>0,fun _=>0⟩ rfl rfl ?_ ?_
 .exact⟨aR _,U,J,K,C,fun j A=>Vx A (Yy _)⟩
 intro g j H;refine kv ?_;clear U J K C W;obtain⟨L,o,k,d,s,t⟩:=g;simp only at H |-;obtain⟨q,N,J,O,C,r⟩:=H;by_cases R:k<3
 .have S:decide ((k:Int)<3)=true:=aP oM;have ze:=Cd R;have zf:=aO (w0:=w) O;refine ky (qS2 @iM @S @ze @zf) ?_;refine Ow.qe8 (encK:=vs) (encV:=au) rfl rfl (fun a os P zg zh=>?_);refine ko @iM ?_;refine Ow.qe8 (encK:=vs) (encV:=au) rfl rfl (fun bt m X zi zj=>?_);refine ko @iM ?_;refine Ow.build (.agg #[vm a,vm bt, Vj]) rfl (NC a bt) ?_;refine ko @iM ?_;refine Ow.box rfl rfl fun br Y zk=>?_;simp only[dS,cz,dL,ag];refine Ow.Vd (M:=L++[(a,os)]++[(bt,m)]++[(br,c1 a bt Vj)]) (WW _) ?_;have up:∀b x,Sx.look L b=some x->Sx.look (L++[(a,os)]++[(bt,m)]++[(br,c1 a bt Vj)]) b=some x:=fun b x h=>a_ (a_ (a_ h));have ls:Sx.look (L++[(a,os)]++[(bt,m)]++[(br,c1 a bt Vj)]) a=some os:=a_ (a_ (fX P));have lt:Sx.look (L++[(a,os)]++[(bt,m)]++[(br,c1 a bt Vj)]) bt=some m:=a_ (fX X);have lr:Sx.look (L++[(a,os)]++[(bt,m)]++[(br,c1 a bt Vj)]) br=some (c1 a bt Vj):=fX Y;have zl:Vq w.heap.size (L++[(a,os)]++[(bt,m)]++[(br,c1 a bt Vj)]):=((C.app (show Vq w.heap.size [(a,os)] from⟨zg,trivial⟩)).app (show Vq w.heap.size [(bt,m)] from⟨zi,trivial⟩)).app (show Vq w.heap.size [(br,c1 a bt Vj)] from⟨zk,trivial⟩);have Z:a<bt:=aQ X (by rw[aV];simp[keys]);have c2:bt<br:=aQ Y (by rw[aV];simp[keys]);have c3:bd<a:=aQ P (bO O);have c4:∀j,j<k->d j<a:=fun j A=>aQ P (bO (r j A).1);have c5:bm<a:=aQ P (bO N);generalize L++[(a,os)]++[(bt,m)]++[(br,c1 a bt Vj)]=E at*;refine ko @iM ?_;refine Ow.YY (encK:=vs) (encV:=au) (k:=bT k) (v:=some br) rfl rfl underlying69 fQ rfl rfl rfl (up _ _ N) J (fun B za=>?_);rw[Dl (uJ R (aj _))] at za;have ne:∀b x,b≠bm->Sx.look E b=some x->Sx.look (Vh E bm B) b=some x:=fun b x K h2=>by rw[bE (Wq K)];exact h2
  refine ko @iM ?_;refine ky @iM ?_;refine Vo.mk ⟨Vh E bm B,B,k+1,fun j=>if j=k then br else d j,fun j=>if j=k then a else s j,fun j=>if j=k then bt else t j⟩ (by show 3 - (k+1)<3 - k;omega) ⟨R,cY (up _ _ N),?_,ne _ _ oM (up _ _ O),Vq.of_le fun zm Q=>zl.le zm (by rwa [fc] at Q),fun j A=>?_⟩ rfl rfl
  .show dO vs au B (mC (fun j=>if j=k then br else d j) (k+1));unfold mC;rw[Um (d:=d) fun j A=>tr oM,Vb rfl];exact za
  show Sx.look (Vh E bm B) (if j=k then br else d j)=some (c1 (if j=k then a else s j) (if j=k then bt else t j) Vj)/\mtM (Vh E bm B) (if j=k then a else s j)/\mtM (Vh E bm B) (if j=k then bt else t j)/\(if j=k then a else s j)< (if j=k then bt else t j)/\(if j=k then bt else t j)< (if j=k then br else d j)/\bd< (if j=k then a else s j)/\ ∀i,i<j->(if i=k then br else d i)< (if j=k then a else s j);by_cases e:j=k
  .subst e;simp only[Vb];refine⟨ne _ _ oM lr,⟨os,ne _ _ oM ls,zh⟩,⟨m,ne _ _ oM lt,zj⟩,Z,c2,c3,fun i F=>?_⟩;rw[tr oM];exact c4 i F
  simp only[tr e];have zn:j<k:=by have:j<k+1:=A;omega
  obtain⟨q1,⟨oo,q2,q3⟩,⟨zo,q4,q5⟩,q6,q7,q8,q9⟩:=r j zn;refine⟨ne _ _ oM (up _ _ q1),⟨oo,ne _ _ oM (up _ _ q2),q3⟩,⟨zo,ne _ _ oM (up _ _ q4),q5⟩,q6,q7,q8,fun i F=>?_⟩;rw[tr oM];exact q9 i F
 obtain rfl:k=3:=by omega
 have S:decide (((3:Nat):Int)<3)=false:=rfl;refine ky (aN @iM @S) ?_;refine⟨_,(ke @iM),?_⟩;obtain⟨a1,a2,a3,a4,a5,a6,a7⟩:=r 0 oM;obtain⟨b1,b2,b3,b4,b5,b6,b7⟩:=r 1 oM;obtain⟨Z,c2,c3,c4,c5,c6,c7⟩:=r 2 oM;have b8:=b7 0 oM;have c8:=c7 1 oM;refine⟨Ext.Vt C,⟨bd,bm,d,s,t,fun _=> Vj,[]⟩,rfl,O,⟨o,N,J⟩,fun k q=>(r k q).1,fun k q=>?_,fun k q=>?_,fun k q=>⟨[],rfl,Gr.nl,fun i F=>Vx F (Yy _)⟩,fun n hn=>Vx hn (Yy _),rfl,List.nodup_nil,?_,?_,fun k q=>?_,fun i j F A zt b hb=>(by cases hb),?_⟩
 .obtain⟨x,y,z⟩:=(r k q).2.1;exact⟨x,[],y,z,List.Perm.nil⟩
 .obtain⟨x,y,z⟩:=(r k q).2.2.1;exact⟨x,[],y,z,List.Perm.nil⟩
 .show [s 0,s 1,s 2,t 0,t 1,t 2].Nodup;simp only[Xd,Vw,WI,not_or,WB,List.nodup_nil,and_true,not_false_eq_true];refine⟨⟨?_,?_,?_,?_,?_⟩,⟨?_,?_,?_,?_⟩,⟨?_,?_,?_⟩,⟨?_,?_⟩,?_⟩<;>omega
 .show [d 0,d 1,d 2].Nodup;simp only[Xd,Vw,WI,not_or,WB,List.nodup_nil,and_true,not_false_eq_true];refine⟨⟨?_,?_⟩,?_⟩<;>omega
 .have:=(r k q).2.2.2;show bm≠s k/\bm≠t k;omega
 exact⟨fun _ _=>List.Pairwise.nil,fun _ _=>List.Pairwise.nil,fun _ _ p I=>(by cases I),fun _ _ p I=>(by cases I),fun _ _ c hc=>(by cases hc),fun f hf=>(by cases hf),⟨show(-9223372036854775808:Int)<=0 by decide,show(0:Int)<9223372036854775808 by decide,fun _=>show(0:Int)<=0 by decide⟩,Q⟩
structure XU where
 dir:No
 name:No
 data:No
def XI(r:XU):List hU:=[vs r.dir]++([vs r.name]++([vs r.data]))
def XH:XU:=⟨[],[],[]⟩
def iS(r:XU):(XI r).length=3:=by simp[XI]
def q'(r:XU):Value.cells (.agg (XI r).toArray)=(XI r).toArray:=ag _
def oA(r:XU):(XI r).all Value.oneCell'=true:=by
 unfold XI;simp only[List.all_append,List.all_cons,List.all_nil,jX,Bool.and_true,XA]
 rfl
def qn3:ac prog 67=some (.agg (XI XH).toArray):=id kR
def oU(r:XU):XI r=([]:List hU)++(([vs r.dir])++([vs r.name]++([vs r.data]))):=by unfold XI;simp only[Wb,Vy,VX]
def Ta(r:XU):Sx.Xj (false,1) (XI r).toArray 0=some (vs r.dir):=by rw[oU];exact nY _ _ _ V_
def Oc(r:XU)(n:Nat)(E:h7)(fz:Nat×Nat):aF (some (false,n)) (some (.cells (XI r).toArray E fz)) 0=some (vs r.dir):=by rw[oU];exact fR _ _ _ n E fz V_
def R6{w:hW}{v:hU}{l:List XU}{b off:Nat}{arr:Array hU}{E:h7}{fz:Nat×Nat}(h:WL 3 XI XH w v l b off arr E fz){k:Nat}(a:k<l.length)(n:Nat):aF (some (false,n)) (some (.cells arr E fz)) (off+k*3+0)=some (vs (l.getD k XH).dir):=by rw[WL.cell h a oM];generalize l.getD k XH=r;rw[oU];exact mZ _ _ _ V_
def oP(r:XU):XI r=(([vs r.dir]))++(([vs r.name])++([vs r.data])):=by unfold XI;simp only[Wb,Vy,VX]
def Ti(r:XU):Sx.Xj (false,1) (XI r).toArray 1=some (vs r.name):=by rw[oP];exact nY _ _ _ V_
def Ox(r:XU)(n:Nat)(E:h7)(fz:Nat×Nat):aF (some (false,n)) (some (.cells (XI r).toArray E fz)) 1=some (vs r.name):=by rw[oP];exact fR _ _ _ n E fz V_
def wS{w:hW}{v:hU}{l:List XU}{b off:Nat}{arr:Array hU}{E:h7}{fz:Nat×Nat}(h:WL 3 XI XH w v l b off arr E fz){k:Nat}(a:k<l.length)(n:Nat):aF (some (false,n)) (some (.cells arr E fz)) (off+k*3+1)=some (vs (l.getD k XH).name):=by rw[WL.cell h a oM];generalize l.getD k XH=r;rw[oP];exact mZ _ _ _ V_
def oW(r:XU):XI r=(([vs r.dir])++([vs r.name]))++(([vs r.data])++(([]:List hU))):=by unfold XI;simp only[Wb,Vy,VX]
def TE(r:XU):Sx.Xj (false,1) (XI r).toArray 2=some (vs r.data):=by rw[oW];exact nY _ _ _ V_
def PR(r:XU)(n:Nat)(E:h7)(fz:Nat×Nat):aF (some (false,n)) (some (.cells (XI r).toArray E fz)) 2=some (vs r.data):=by rw[oW];exact fR _ _ _ n E fz V_
def ny{w:hW}{v:hU}{l:List XU}{b off:Nat}{arr:Array hU}{E:h7}{fz:Nat×Nat}(h:WL 3 XI XH w v l b off arr E fz){k:Nat}(a:k<l.length)(n:Nat):aF (some (false,n)) (some (.cells arr E fz)) (off+k*3+2)=some (vs (l.getD k XH).data):=by rw[WL.cell h a oM];generalize l.getD k XH=r;rw[oW];exact mZ _ _ _ V_
def wH(r:XU)(E:h7)(fz:Nat×Nat):aF (some (true,3)) (some (.cells (XI r).toArray E fz)) 0=some (.agg (XI r).toArray):=jN _ E fz 3 (by rw[Wd,iS])
def Oy(Wo:Array hU)(r:XU)(a:Bool)(E:h7)(h:Wo.size=3):aZ (some (a,3)) (some (.cells Wo E (0,0))) 0 (.agg (XI r).toArray)=some (.cells (XI r).toArray E (0,0)):=mc _ a Wo E (iS r) (oA r) h
def MY(r b:XU)(a:Bool)(E:h7):aZ (some (a,3)) (some (.cells (XI b).toArray E (0,0))) 0 (.agg (XI r).toArray)=some (.cells (XI r).toArray E (0,0)):=Oy _ r a E (by rw[Wd,iS])
def Ab{w:hW}{v:hU}{l:List XU}{b off:Nat}{arr:Array hU}{E:h7}{fz:Nat×Nat}(h:WL 3 XI XH w v l b off arr E fz){k:Nat}(a:k<l.length):aF (some (true,3)) (some (.cells arr E fz)) (off+k*3)=some (.agg (XI (l.getD k XH)).toArray):=WL.load h iS oM a
def R8:Tryz.prog.stoodInHeld 67=false:=by kernel_rfl
def R7:Tryz.prog.eqGuardType Tryz.prog.depth 67=false:=by kernel_rfl
def Tn(r c:XU):eqD prog 8 67 (.agg (XI r).toArray) (.agg (XI c).toArray)=some ((r.dir==c.dir)&& (r.name==c.name)&& (r.data==c.data)):=by
 have d:∀ (a b:No),eqD prog 7 9 (vs a) (vs b)=some (a==b):=by intro a b;unfold eqD;rw[underlying9];simp only[vs,mq]
 have e:aU prog 9=some (false,1):=id kR;unfold eqD;rw[underlying67];simp only;rw[R8];simp only[VW,↓reduceIte,pS,kV,e,Ta,Ti,TE,d];cases(r.dir==c.dir)<;>cases(r.name==c.name)<;>cases(r.data==c.data)<;>simp
def qQ9(r a:XU):ak prog .neq 67 (.agg (XI r).toArray) (.agg (XI a).toArray)=some (.bool (!((r.dir==a.dir)&& (r.name==a.name)&& (r.data==a.data)))):=by unfold ak Zq;rw[R7];simp[cm,Tn]
def uq(r:XU):cL (bP prog 67) (ac prog 67) [(0,vs r.dir),(1,vs r.name),(2,vs r.data)]=some (.agg (XI r).toArray):=by
 have d:bP prog 67=some [(0,1),(1,1),(2,1)]:=id kR;rw[d,qn3];have e:(XI XH).toArray=(([]:List hU)++(([vs XH.dir])++([vs XH.name]++([vs XH.data])))).toArray:=by congr 1<;>simp only[XI,Wb,Vy,VX]
 have f:cU (([]:List hU)++(([vs XH.dir])++([vs XH.name]++([vs XH.data])))).toArray 0 ([vs r.dir])=(([]:List hU)++(([vs r.dir])++([vs XH.name]++([vs XH.data])))).toArray:=qz _ _ _ _ V_ (rfl);have s0:(([]:List hU)++(([vs XH.dir])++([vs XH.name]++([vs XH.data])))).toArray.size=3:=by simp
 have a:(Value.cells (vs r.dir)).toList=[vs r.dir]:=by rfl
 have g:(Value.cells (vs r.dir)).size=1:=by rw[<-Array.length_toList,a];simp
 have h:(([]:List hU)++(([vs r.dir])++([vs XH.name]++([vs XH.data])))).toArray=((([vs r.dir]))++(([vs XH.name])++([vs XH.data]))).toArray:=by congr 1<;>simp only[XI,Wb,Vy,VX]
 have i:cU ((([vs r.dir]))++(([vs XH.name])++([vs XH.data]))).toArray 1 ([vs r.name])=((([vs r.dir]))++(([vs r.name])++([vs XH.data]))).toArray:=qz _ _ _ _ V_ (rfl);have s1:((([vs r.dir]))++(([vs XH.name])++([vs XH.data]))).toArray.size=3:=by simp
 have b:(Value.cells (vs r.name)).toList=[vs r.name]:=by rfl
 have j:(Value.cells (vs r.name)).size=1:=by rw[<-Array.length_toList,b];simp
 have k:((([vs r.dir]))++(([vs r.name])++([vs XH.data]))).toArray=((([vs r.dir])++([vs r.name]))++(([vs XH.data])++(([]:List hU)))).toArray:=by congr 1<;>simp only[XI,Wb,Vy,VX]
 have l:cU ((([vs r.dir])++([vs r.name]))++(([vs XH.data])++(([]:List hU)))).toArray 2 ([vs r.data])=((([vs r.dir])++([vs r.name]))++(([vs r.data])++(([]:List hU)))).toArray:=qz _ _ _ _ V_ (rfl);have m:((([vs r.dir])++([vs r.name]))++(([vs XH.data])++(([]:List hU)))).toArray.size=3:=by simp
 have c:(Value.cells (vs r.data)).toList=[vs r.data]:=by rfl
 have n:(Value.cells (vs r.data)).size=1:=by rw[<-Array.length_toList,c];simp
 have o:((([vs r.dir])++([vs r.name]))++(([vs r.data])++(([]:List hU)))).toArray=(XI r).toArray:=by congr 1<;>simp only[XI,Wb,Vy,VX]
 simp only[cL];rw[e];unfold Sx.YR;simp only[List.getElem?_cons_zero,List.getElem?_cons_succ,a,g];rw[Vb ⟨trivial,by rw[s0];decide⟩,f];rw[h];unfold Sx.YR;simp only[List.getElem?_cons_zero,List.getElem?_cons_succ,b,j];rw[Vb ⟨trivial,by rw[s1];decide⟩,i];rw[k];unfold Sx.YR;simp only[List.getElem?_cons_zero,List.getElem?_cons_succ,c,n];rw[Vb ⟨trivial,by rw[m];decide⟩,l];rw[o];rfl
abbrev qg4(w:hW)(v:hU)(l:List XU):Prop:=Xz 3 XI XH w v l
def XG.qL3{X L:aA}{G:XE}{S:h8}(h:XG X G S){k:Nat}(g:k<3){l':W_}(Vn:∀b o,Sx.look X b=some o->b≠G.s k->Sx.look L b=some o)(v:NmM L G.fb (G.s k) l')(c:YG l')(l:∀p,p∈l'->p.2<S.files.length):
  XG L G (cT S k ⟨l',(S.dir k).stl,(S.dir k).Vl⟩):=by
 obtain⟨H,I,w,x,-⟩:=h.seen k g;have y:∀b o,Sx.look X b=some o->Xo o≠none->b≠G.s k:=by rintro b o q z rfl;rw[w] at q;cases q;exact z (fW x)
 have K:∀b o,Sx.look X b=some o->Xo o≠none->Sx.look L b=some o:=fun b o q c=>Vn b o q (y b o q c);have t:∀j,(cT S k ⟨l',(S.dir k).stl,(S.dir k).Vl⟩).dir j=if j=k then⟨l',(S.dir k).stl,(S.dir k).Vl⟩ else S.dir j:=fun _=>rfl
 have A:∀j,((cT S k ⟨l',(S.dir k).stl,(S.dir k).Vl⟩).dir j).stl=(S.dir j).stl:=fun j=>by
  rw[t];by_cases e:j=k
  .subst e;rw[Vb rfl]
  rw[tr e]
 have B:∀j,((cT S k ⟨l',(S.dir k).stl,(S.dir k).Vl⟩).dir j).Vl=(S.dir j).Vl:=fun j=>by
  rw[t];by_cases e:j=k
  .subst e;rw[Vb rfl]
  rw[tr e]
 refine⟨K _ _ h.disk (by simp[Xo,bJ]),?_,fun j d=>K _ _ (h.dir j d) (by simp[Xo,c1]),fun j d=>?_,fun j d=>?_,fun j d=>?_,fun n C=>K _ _ (h.file n C) (by simp[Xo,cG]),h.len,h.nodf,h.nodm,h.nodd,h.nodb,h.nodp,qa h.ok _ c (h.ok.stl k g) l (h.ok.stlN k g) (h.ok.pendN k g)⟩
 .obtain⟨o,c,f⟩:=h.dirs;exact⟨o,Vn _ _ c (h.nodb k g).1,f⟩
 .rw[t];by_cases e:j=k
  .subst e;rw[Vb rfl];exact v
  rw[tr e];obtain⟨o,m,c,f,l⟩:=h.seen j d;exact⟨o,m,Vn _ _ c ((jR h.nodm d g).1 e),f,l⟩
 .rw[A];obtain⟨o,m,c,f,l⟩:=h.stl j d;exact⟨o,m,Vn _ _ c (Wq (jR h.nodm g d).2.2),f,l⟩
 rw[B];obtain⟨D,c,f,l⟩:=h.Vl j d;refine⟨D,c,f.Vn fun b o q r=>?_,fun i E=>(l i E).Vn fun b o r F=>K b o r ?_⟩
 .obtain⟨arr,u⟩:=fE f q;rw[r] at u;cases u;exact K _ _ r (by simp[Xo])
 rcases F with⟨s,rfl⟩ | ⟨a,rfl⟩<;>simp[Xo,ce,Zl]
def bx(S:h8)(f:XU):h8:=match al f.dir with
 |some k=>if bF f.name=true/\f.data.length<=1048576 then cT (ci S ⟨f.data,f.data.length⟩) k ⟨dU (S.dir k).seen (f.name,S.files.length),(S.dir k).stl,(S.dir k).Vl⟩ else S
 |none=>S
def ZE(S:h8)(vis:List Nat):h8:={S with dir:=fun k=>if k∈vis then⟨(S.dir k).seen,(S.dir k).seen,[]⟩ else S.dir k}
def N0(S:h8):ZE S []=S:=by unfold ZE;simp
def I5(S:h8)(vis:List Nat)(k:Nat):eW (ZE S vis) k=ZE S (vis++[k]):=by
 unfold eW cT ZE;simp only;congr 1
 funext j
 by_cases e:j=k
 .subst e;rw[Vb rfl,Vb (cJ _ (VZ.2 rfl))];by_cases h:j∈vis
  .rw[Vb h]
  rw[tr h]
 rw[tr e];by_cases h:j∈vis
 .rw[Vb h,Vb (aq _ h)]
 rw[tr h,tr (fun a=>by
  rcases Wu.1 a with a|a
  .exact h a
  exact e (VZ.1 a))]
def KO(S:h8){a b:List Nat}(h:∀k,k∈a↔k∈b):ZE S a=ZE S b:=by
 unfold ZE;congr 1
 funext j
 by_cases e:j∈a
 .rw[Vb e,Vb ((h j).1 e)]
 rw[tr e,tr (fun c=>e ((h j).2 c))]
def ofD(a:Int)(l:List XU):h8:=ZE (l.foldl bx (dN a)) [0,1,2]
def Sh(b o:Nat):ak prog .neq 68 (vp b o) (.pointer none)=some (.bool true):=by simp[ak,Zq,cm,cg,underlying68,vp]
def Pa:ak prog .neq 68 (.pointer none) (.pointer none)=some (.bool false):=by simp[ak,Zq,cm,cg,underlying68]
def JQ(s:No)(n:Nat):cL (bP prog 75) (ac prog 75) [(0,vs s),(1,vi (n:Int))]=some (.agg #[vs s,vi (n:Int)]):=by rw[show bP prog 75=some [(0,1),(1,1)] from id kR,show ac prog 75=some (.agg #[vs [],vi 0]) from id kR];rfl
def qR{X:aA}{c:Nat}{x:Obj}(h:cy X c){b:Nat}{o:Obj}(a:Sx.look X b=some o):Sx.look ((c,x)::X) b=some o:=by have:=aQ h (bO a);simp only[Sx.look];rw[tr oM];exact a
structure qM4 where
 i:Nat
 G:XE
 X:aA
structure qM6 where
 vis:List Nat
 dn:List (No×Option Nat)
 lf:List (No×Option Nat)
 it:Obj
 G:XE
 X:aA
def FiB(l:List XU):Prop:= ∀f,f∈l->f.name.length<1099511627776/\f.data.length<1099511627776
def c':=aN (aN (aN (aN @bA @b9) (qS1 @j2 @kF @kH)) (aN (aN @kI @Sh) (qS1 @Pa @Sx.Wk @Sx.Wl))) (aN (aN (aN @q' @wH) (qS1 @Oc @Ox @PR)) (aN (aN @MY @mv) (qS1 @Sx.Yk @Sx.Yl @Sx.Ym)))
def OH(d:Int)(v:hU)(l:List XU)(w:hW)(hq: -9223372036854775808<=d/\d<9223372036854775808)(hG:jT w)(hv:qg4 w v l)(hl:l.length<1000000)(q:FiB l):
  Va prog 6 #[vi d,v] w (XS w [] (fun v D=> ∃G,v=vp G.bd 0/\XG D G (ofD d l))):=by
 have ln:=hv.len;obtain⟨rb,off,arr,E,fz,W⟩:=hv.row;refine Va.Vs func6 rfl (rs:=[.tmp 4]) results6 ntmps6 (fun p u=>by cases u) Wg ?_;refine kf ?_;refine ky @c' ?_;refine Ow.Wf rfl rfl call30 (fun K zg=>sf d K hq (by obtain⟨e,f,y⟩:=hG;exact⟨e,f,by rw[zg.Wo _ (Array.getElem?_eq_some_iff.1 y).1 Wg];exact y⟩)) (fun B2 v2 D2 z9 zE zh zF=>?_);obtain⟨G0,rfl,zm⟩:=zF;rw[Vy];have zn:Vq w.heap.size D2:=zh.mono zE;refine ko @c' ?_;refine ky (aN @c' @ln) ?_;refine Cw.VU (G:=qM4) [16,17,18,7,19,20,21,22,23,24,25,8,26,27,28,29,30,31,32,33,34,35,36,37,38,39,40,41,42,43,44,45,46,47,48,49,50,51,52,15] (fun g=>[(15,vi g.i)]) (fun g=>g.X) (fun g=>g.i<=l.length/\XG g.X g.G ((l.take g.i).foldl bx (dN d))/\g.G.bd=G0.bd/\Vq w.heap.size g.X) (fun g=>l.length - g.i) ⟨0,G0,D2⟩ rfl rfl ?_ ?_
 .exact⟨aR _,zm,rfl,zn⟩
 intro g j y;refine kv ?_;clear zm zn;obtain⟨i,G,X⟩:=g;simp only at y |-;obtain⟨hi,m,zG,F⟩:=y;rw[<-zG];by_cases A:i<l.length
 .have d1:decide ((i:Int)< (l.length:Int))=true:=aP oM;have zH:=W.lt oM;have zI:=W.idx true i A;have zJ:=W.load iS oM A;have zK:aG w X rb=some (.cells arr E fz):=by rw[dr (F.not zH)];exact W.has oM
  have Z:(l.take (i+1)).foldl bx (dN d)=bx ((l.take i).foldl bx (dN d)) (l.getD i XH):=by rw[StP.WJ (z:=XH) A,List.foldl_append];rfl
  have zL:=q (l.getD i XH) (by rw[List.getD_eq_getElem?_getD,List.getElem?_eq_getElem A];exact Y3 _);generalize l.getD i XH=r at*;generalize (l.take i).foldl bx (dN d)=S at*;refine ky (qS3 @c' @d1 @zI @zK @zJ) ?_;refine Ow.alloc rfl rfl qn3 fun b7 zM zN=>?_;simp only[ag,Vy,Wp];refine Ow.Vd (M:=(b7,.cells (XI XH).toArray 67 (0,0))::X) Xm ?_;refine ko @c' ?_;have s:XG ((b7,.cells (XI r).toArray 67 (0,0))::X) G S:=m.mono fun b o h=>qR zM h;have zo:Sx.look ((b7,Obj.cells (XI r).toArray 67 (0,0))::X) b7=some (.cells (XI r).toArray 67 (0,0)):=by simp[Sx.look]
  have za:Vq w.heap.size ((b7,Obj.cells (XI r).toArray 67 (0,0))::X):=⟨zN,F⟩;generalize (b7,Obj.cells (XI r).toArray 67 (0,0))::X=t at*;have J:=aO (w0:=w) zo;have zb:=aO (w0:=w) s.disk;obtain⟨om,zc,hM⟩:=s.dirs;refine ky @c' ?_;refine Cw.Vu [G.bd,b7] [0,1,2,4,3,5,6,7] [] kR kR kR ?_;refine WQ ?_;refine kq (qS1 @c' @zb @J) ?_;refine Ow.WV ?_;refine Ow.XQ (encK:=vs) (encV:=au) (k:=r.dir) (z:=none) rfl rfl underlying69 fQ qr7 rfl rfl (aO zc) hM ?_
  with_reducible refine Ow.ZQ ?_
  rw[rA];cases zd:al r.dir with
  |none=>
   have zO:au none=.pointer none:=rfl;refine kq (aN @c' @zO) ?_
   try with_reducible refine Ow.nil ?_
   refine ky @c' ?_;exact Vo.mk ⟨i+1,G,t⟩ (by show l.length - (i+1)<l.length - i;omega) ⟨A,by show XG t G ((l.take (i+1)).foldl bx (dN d));rw[Z];unfold bx;rw[zd];exact s,rfl,za⟩ rfl rfl
  |some k=>
   have u:∀H:Nat,au (some H)=vp H 0:=fun _=>rfl;have a:=(cN zd).1;refine kq (aN @c' @u) ?_
   try with_reducible refine Ow.nil ?_
   refine ky (aN @c' @J) ?_;refine Ow.Vc rfl call32 (fun K zg=>UI r.name K zL.1) ?_;have zq:¬ (bF r.name=true/\r.data.length<=1048576)->bx S r=S:=fun h=>by unfold bx;rw[zd];simp only;rw[tr h]
   cases zr:bF r.name with
   |false=>refine ko @c' ?_;refine ky @c' ?_;exact Vo.mk ⟨i+1,G,t⟩ (by show l.length - (i+1)<l.length - i;omega) ⟨A,by show XG t G ((l.take (i+1)).foldl bx (dN d));rw[Z,zq (fun h=>by rw[zr] at h;cases h.1)];exact s,rfl,za⟩ rfl rfl
   |true=>
    by_cases zi:r.data.length<=1048576
    .have d2:decide ((r.data.length:Int)<=1048576)=true:=aP oM;have zt:=aO (w0:=w) (s.dir k a);obtain⟨os,ms,ya,yb,yc⟩:=s.seen k a;refine ko (qS1 @c' @J @d2) ?_;refine ky @c' ?_;refine Cw.Vu [G.d k,b7] [0,1,2,4,6,8,3,5,7,9,10,11,12,13] [13] kR kR kR ?_;refine WQ ?_;refine kq (qS1 @c' @zt @J) ?_;refine Ow.build (.agg #[vs r.data,vi (r.data.length:Int)]) rfl (JQ r.data r.data.length) ?_;refine kq @c' ?_;refine Ow.WV ?_;refine Ow.box rfl rfl fun b8 zu zP=>?_;simp only[dS,cz,dL,ag];have N:=(s.mono (X':=t++[(b8,cG ⟨r.data,r.data.length⟩)]) fun b o h=>a_ h).qk0 (fX zu) (fun B=>by have:=aQ zu (s.qp2 B);omega) ⟨zi,aj _⟩;have zh:Vq w.heap.size (t++[(b8,cG ⟨r.data,r.data.length⟩)]):=za.app (show Vq w.heap.size [(b8,cG ⟨r.data,r.data.length⟩)] from⟨zP,trivial⟩);refine Ow.Vd (M:=t++[(b8,cG ⟨r.data,r.data.length⟩)]) (WW _) ?_;have zQ:=aO (w0:=w) (a_ (M:=[(b8,cG ⟨r.data,r.data.length⟩)]) (s.dir k a));have zR:=aO (w0:=w) (a_ (M:=[(b8,cG ⟨r.data,r.data.length⟩)]) zo);generalize t++[(b8,cG ⟨r.data,r.data.length⟩)]=L2 at*;refine Ow.nil ?_;refine⟨fun b q=>by
      simp only[Vw,WI,WB] at q;rcases q with rfl|rfl
      .rw[zQ,zt]
      rw[zR,J],?_⟩
     obtain⟨yd,ye,zv,zS,zT⟩:=N.seen k a;refine kq @c' ?_;refine Ow.YY (encK:=vs) (encV:=au) (k:=r.name) (v:=some b8) rfl rfl underlying76 fQ rfl rfl rfl zv zS (fun O zU=>?_);have zw:=zT.put (N.ok.seen k a).nodup r.name S.files.length;have zV:(ql6 G b8).fb.getD S.files.length 0=b8:=mj _ _ m.len;rw[zV] at zw;have zW:=N.qL3 (L:=Vh L2 (G.s k) O) a (l':=dU (S.dir k).seen (r.name,S.files.length)) (fun b o q I=>(bE (Wq I)).trans q) ⟨O,_,cY zv,zU,zw⟩ (qg _ (N.ok.seen k a)) (CE (c:=⟨0,r.name,[],S.files.length⟩) (N.ok.seenN k a) (fun h=>by cases h) (fun _=>by show S.files.length< (S.files++[_]).length;simp));have zX:Vq w.heap.size (Vh L2 (G.s k) O):=Vq.of_le fun H hq=>zh.le H (by rwa [fc] at hq);refine ko @c' ?_;refine ky @c' ?_;exact Vo.mk ⟨i+1,ql6 G b8,Vh L2 (G.s k) O⟩ (by show l.length - (i+1)<l.length - i;omega) ⟨A,by show XG (Vh L2 (G.s k) O) (ql6 G b8) ((l.take (i+1)).foldl bx (dN d));rw[Z];unfold bx;rw[zd];simp only;rw[Vb ⟨zr,zi⟩];exact zW,rfl,zX⟩ rfl rfl
    have d2:decide ((r.data.length:Int)<=1048576)=false:=aW oM;refine ko (qS1 @c' @J @d2) ?_;refine ky @c' ?_;exact Vo.mk ⟨i+1,G,t⟩ (by show l.length - (i+1)<l.length - i;omega) ⟨A,by show XG t G ((l.take (i+1)).foldl bx (dN d));rw[Z,zq (fun h=>zi h.2)];exact s,rfl,za⟩ rfl rfl
 obtain rfl:i=l.length:=by omega
 have d1:decide ((l.length:Int)< (l.length:Int))=false:=aW oM;rw[WH] at m;unfold ofD;generalize l.foldl bx (dN d)=S at*;have zb:=aO (w0:=w) m.disk;obtain⟨om,zc,hM⟩:=m.dirs;refine ky (qS1 @c' @d1 @zb) ?_;refine Ow.ZY (encK:=vs) (encV:=au) rfl rfl underlying69 rfl (aO zc) hM fun n oi zY zZ P=>?_;refine Ow.Vd (M:=(n,oi)::X) Xm ?_;have Q:n∉keys X:=fun B=>by have:=aQ zY B;omega
 refine ko @c' ?_;refine ky @c' ?_;refine Cw.VU (G:=qM6) [58,59,60,61,10,62,63] (fun g=>[]) (fun g=>(n,g.it)::g.X) (fun g=>ItG vs au g.it G.bm om (jD G) g.dn g.lf/\XG g.X g.G (ZE S g.vis)/\g.dn.map Prod.fst=g.vis.map bT/\(∀k,k∈g.vis->k<3)/\n∉keys g.X/\g.G.d=G.d/\g.G.bm=G.bm/\g.G.bd=G.bd/\Sx.look g.X G.bm=some om/\Vq w.heap.size g.X) (fun g=>g.lf.length) ⟨[],[],jD G,oi,G,X⟩ rfl rfl ?_ ?_
 .exact⟨P,by rw[N0];exact m,rfl,fun k R=>(by cases R),Q,rfl,rfl,rfl,zc,F⟩
 intro g j y;refine kv ?_;clear P m F Q zb;obtain⟨vis,dn,lf,it,T,U⟩:=g;simp only at y |-;obtain⟨P,m,zx,zj,Q,zy,zz,zA,ze,F⟩:=y;have zk:∀x b o,Sx.look U b=some o->Sx.look ((n,x)::U) b=some o:=fun x b o q=>by simp only[Sx.look];rw[tr (fun e=>Q (by have e':b=n:=oM;rw[<-e'];exact bO q))];exact q
 refine ky @c' ?_;refine Ow.qb8 rfl rfl rfl (eJ _ _ _) (aO (zk _ _ _ ze)) P (fun z0=>?_) (fun p zf zB yf zl=>?_)
 .subst z0;have u:=mW P;rw[VX] at u;refine ko @c' ?_;refine ky @c' ?_;refine⟨_,(ke @c'),?_⟩;refine⟨Ext.Vt ⟨zZ,F⟩,T,by rw[zA];rfl,?_⟩;rw[show ZE S [0,1,2]=ZE S vis from KO S fun k=>⟨fun R=>?_,fun R=>?_⟩]
  .exact m.mono fun b o q=>zk _ _ _ q
  .have a:k<3:=by simp only[Vw,WI,WB] at R;omega
   have B:bT k∈dn.map Prod.fst:=by
    refine List.mem_map.2 ⟨(bT k,some (G.d k)),u.mem_iff.2 ?_,rfl⟩;have:k=0\/k=1\/k=2:=by omega
    rcases this with rfl|rfl|rfl<;>simp[jD,bT]
   rw[zx] at B;obtain⟨j,C,e⟩:=List.mem_map.1 B;have I:=jP (zj j C);rw[e,jP a] at I;cases I;exact C
  have:=zj k R;simp only[Vw,WI,WB];omega
 refine kn ?_;refine ko @c' ?_;refine ky @c' ?_;refine Ow.ZW (encK:=vs) (encV:=au) rfl rfl rfl (g3 _ _ _ _) (aO (zk _ _ _ ze)) zl ?_;have u:=mW zl;obtain⟨k,a,rfl⟩:=tN (u.mem_iff.1 (aq _ (cJ _ aX)));have z1:∀H:Nat,au (some H)=vp H 0:=fun _=>rfl;refine ko (aN @c' @z1) ?_;refine ky @c' ?_;refine Ow.Vd (M:=U++[(n,zf)]) Xm ?_;refine Ow.Wa (X:=U) (Y:=[(n,zf)]) rfl rfl rfl call33 (fun K zg z2 z3=>by rw[show vp (G.d k) 0=vp (T.d k) 0 by rw[zy]];exact UR U T (ZE S vis) k K z2 z3 m a) (fun v4 V zC z4=>?_);obtain⟨rfl,zD,z5⟩:=z4;rw[I5] at zD;have yg:=m.dirs;have z6:Sx.look V G.bm=some om:=z5 _ _ ze (by rw[<-zz];exact(m.nodb k a).2) (fun e=>by have I:=m.dir k a;rw[<-e,ze] at I;cases I;obtain⟨es,cl,h,-⟩:=hM;cases h);have z7:n∉keys V:=fun B=>by
  rcases zC.new n B with h| ⟨h,-⟩
  .exact Q h
  have:=aQ h (b:=n) (by rw[aV];simp[keys]);omega
 have z8:Vq w.heap.size V:=fd zC F;refine Ow.Vd (M:=(n,zf)::V) Xm ?_;refine ko @c' ?_;refine ky @c' ?_;exact Vo.mk ⟨vis++[k],dn++[(bT k,some (G.d k))],zB,zf,jv T k (T.s k),V⟩ (by show zB.length<lf.length;omega) ⟨zl,zD,by show(dn++[_]).map Prod.fst=(vis++[k]).map bT;rw[We,We,zx];rfl,fun j C=>by
  rcases Wu.1 C with C|C
  .exact zj j C
  rw[VZ.1 C];exact a,z7,zy,zz,zA,z6,z8⟩ rfl rfl
end Go.Proofs
end
section
namespace Go.Proofs
open Go Go.Sx Go.StP Go.Shelf
def qg1:Go.Shelf.Ren:=⟨fun|7=>109|10=>142|n=>n,fun|23=>76|26=>9|3=>73|28=>190|0=>0|27=>189|33=>72|4=>4|n=>n,fun|n=>n⟩
def qK4:Go.Proofs.SlLaysZ.n7 prog qg1:={
 mixed:=by kernel_rfl
 f7:=⟨Tryz.f109.name,by decide,Tryz.func109.trans (Wc some kR)⟩
 f10:=⟨Tryz.f142.name,by decide,Tryz.func142.trans (Wc some kR)⟩
 t0:=underlying0
 a0:=isAgg0
 z0:=sizeOf0
 v0:=zeroValue0
 t4:=underlying4
 a4:=isAgg4
 z4:=sizeOf4
 v4:=zeroValue4
 t23:=underlying76
 a23:=isAgg76
 z23:=sizeOf76
 v23:=zeroValue76
 t26:=underlying9
 a26:=isAgg9
 z26:=sizeOf9
 v26:=zeroValue9
 t27:=underlying189
 a27:=isAgg189
 z27:=sizeOf189
 v27:=zeroValue189
 t28:=underlying190
 a28:=isAgg190
 z28:=sizeOf190
 v28:=zeroValue190
 t33:=underlying72
 a33:=isAgg72
 z33:=sizeOf72
 v33:=zeroValue72}
def qd3:Go.Shelf.Ren:=⟨fun|6=>108|8=>140|9=>141|11=>166|13=>164|12=>167|23=>193|24=>194|14=>195|15=>196|16=>197|17=>198|18=>199|19=>200|20=>201|21=>202|22=>203|25=>216|26=>212|27=>213|28=>217|29=>218|30=>165|31=>224|n=>n,fun|26=>9|28=>190|24=>129|0=>0|3=>3|37=>246|48=>223|50=>264|4=>4|40=>279|39=>278|45=>283|5=>5|9=>9|51=>297|55=>301|57=>314|58=>309|33=>72|n=>n,fun|n=>n⟩
def qz1:Go.Proofs.SlLaysZ.n6 prog qd3:={
 mixed:=by kernel_rfl
 f6:=⟨Tryz.f108.name,by decide,Tryz.func108.trans (Wc some kR)⟩
 f8:=⟨Tryz.f140.name,by decide,Tryz.func140.trans (Wc some kR)⟩
 f11:=⟨Tryz.f166.name,by decide,Tryz.func166.trans (Wc some kR)⟩
 t0:=underlying0
 a0:=isAgg0
 z0:=sizeOf0
 v0:=zeroValue0
 t24:=underlying129
 a24:=isAgg129
 z24:=sizeOf129
 v24:=zeroValue129
 t26:=underlying9
 a26:=isAgg9
 z26:=sizeOf9
 v26:=zeroValue9
 t28:=underlying190
 a28:=isAgg190
 z28:=sizeOf190
 v28:=zeroValue190
 i26:=by kernel_rfl}
def qn2:Go.Shelf.Ren:=⟨fun|6=>141|8=>164|9=>167|19=>193|20=>194|21=>195|22=>196|23=>197|24=>198|25=>199|26=>200|27=>201|28=>202|29=>203|36=>216|31=>212|32=>213|37=>217|38=>218|39=>165|41=>224|n=>n,fun|27=>129|29=>9|3=>3|32=>246|26=>129|0=>0|44=>223|46=>264|4=>4|36=>279|35=>278|41=>283|5=>5|9=>9|53=>297|57=>301|63=>314|64=>309|n=>n,fun|n=>n⟩
def qz6:Go.Proofs.SlLaysM.n6 prog qn2:={
 mixed:=by kernel_rfl
 f6:=⟨Tryz.f141.name,by decide,Tryz.func141.trans (Wc some kR)⟩
 f8:=Tryz.func164.trans (Wc some kR)
 f9:=⟨Tryz.f167.name,by decide,Tryz.func167.trans (Wc some kR)⟩
 f19:=Tryz.func193.trans (Wc some kR)
 f20:=Tryz.func194.trans (Wc some kR)
 f21:=⟨Tryz.f195.name,by decide,Tryz.func195.trans (Wc some kR)⟩
 f22:=⟨Tryz.f196.name,by decide,Tryz.func196.trans (Wc some kR)⟩
 f23:=⟨Tryz.f197.name,by decide,Tryz.func197.trans (Wc some kR)⟩
 f24:=⟨Tryz.f198.name,by decide,Tryz.func198.trans (Wc some kR)⟩
 f25:=⟨Tryz.f199.name,by decide,Tryz.func199.trans (Wc some kR)⟩
 f26:=⟨Tryz.f200.name,by decide,Tryz.func200.trans (Wc some kR)⟩
 f27:=⟨Tryz.f201.name,by decide,Tryz.func201.trans (Wc some kR)⟩
 f28:=⟨Tryz.f202.name,by decide,Tryz.func202.trans (Wc some kR)⟩
 f29:=⟨Tryz.f203.name,by decide,Tryz.func203.trans (Wc some kR)⟩
 f31:=Tryz.func212.trans (Wc some kR)
 f32:=Tryz.func213.trans (Wc some kR)
 f36:=⟨Tryz.f216.name,by decide,Tryz.func216.trans (Wc some kR)⟩
 f37:=⟨Tryz.f217.name,by decide,Tryz.func217.trans (Wc some kR)⟩
 f38:=⟨Tryz.f218.name,by decide,Tryz.func218.trans (Wc some kR)⟩
 f39:=⟨Tryz.f165.name,by decide,Tryz.func165.trans (Wc some kR)⟩
 f41:=⟨Tryz.f224.name,by decide,Tryz.func224.trans (Wc some kR)⟩
 t0:=underlying0
 a0:=isAgg0
 z0:=sizeOf0
 v0:=zeroValue0
 t3:=underlying3
 a3:=isAgg3
 z3:=sizeOf3
 v3:=zeroValue3
 t4:=underlying4
 a4:=isAgg4
 z4:=sizeOf4
 v4:=zeroValue4
 t5:=underlying5
 a5:=isAgg5
 z5:=sizeOf5
 v5:=zeroValue5
 t9:=underlying9
 a9:=isAgg9
 z9:=sizeOf9
 v9:=zeroValue9
 t26:=underlying129
 a26:=isAgg129
 z26:=sizeOf129
 v26:=zeroValue129
 t27:=underlying129
 a27:=isAgg129
 z27:=sizeOf129
 v27:=zeroValue129
 t29:=underlying9
 a29:=isAgg9
 z29:=sizeOf9
 v29:=zeroValue9
 t32:=underlying246
 a32:=isAgg246
 z32:=sizeOf246
 v32:=zeroValue246
 t35:=underlying278
 a35:=isAgg278
 z35:=sizeOf278
 v35:=zeroValue278
 t36:=underlying279
 a36:=isAgg279
 z36:=sizeOf279
 v36:=zeroValue279
 t41:=underlying283
 a41:=isAgg283
 z41:=sizeOf283
 v41:=zeroValue283
 t44:=underlying223
 a44:=isAgg223
 z44:=sizeOf223
 v44:=zeroValue223
 t46:=underlying264
 a46:=isAgg264
 z46:=sizeOf264
 v46:=zeroValue264
 t53:=underlying297
 a53:=isAgg297
 z53:=sizeOf297
 v53:=zeroValue297
 t57:=underlying301
 a57:=isAgg301
 z57:=sizeOf301
 v57:=zeroValue301
 t63:=underlying314
 a63:=isAgg314
 z63:=sizeOf314
 v63:=zeroValue314
 t64:=underlying309
 a64:=isAgg309
 z64:=sizeOf309
 v64:=zeroValue309}
open Go.RowKit Go.Maps Go.Sort
def Sy(m:Nat):AnyZ.SortsIn prog qd3 Fence.wide m:=
 ⟨fun blk off a b W c d e=>callsIn_wide.2 (AnyM.slices_Sort_string qz6 blk off a b W c d e),
 fun p a W=>callsIn_wide.2 (AnyM.slices_Sort_string_none qz6 p a W)⟩
def KF{a b:No}(h:Ys a b=true):leB a b=true:=by rw[iv,XN] at h;simp only[leB,XN];exact List.le_of_lt h
def LN{l:W_}(h:YG l){a:List No}(b:a.Perm (l.map Prod.fst)):a.mergeSort (fun x y=>decide (x<=y))=l.map Prod.fst:=by show a.mergeSort leB=_;rw[mergeSort_of_perm b];refine List.mergeSort_of_pairwise ?_;exact List.pairwise_map.2 (h.imp fun h=>KF h)
def Se{W:hW}{base n:Nat}{T:h7}{v:hU}{xs:List hU}(h:W.ownsRow base T 1 v n xs):∃D:aA,(∀p,p∈D->W.heap[p.1]? =some p.2/\base<=p.1)/\(keys D).Nodup/\Gr D T 1 v n xs:=by
 obtain⟨b,h⟩:=h;rcases h with⟨rfl,rfl⟩ | ⟨g,d,c,rfl,f,i,j,m,e,k⟩
 .obtain rfl:xs=[]:=Zm (by simpa using b);exact⟨[],fun p a=>(by cases a),List.nodup_nil,Gr.nl⟩
 refine⟨[(g,.cells c T (0,0))],?_,by simp[keys],?_⟩
 .intro p a;simp only[VZ] at a;subst a;exact⟨i,f⟩
 by_cases l:0<d
 .refine .inl (Zn.at_ (rest:=c.toList.drop (n*1)) ?_ b ?_ j l)
  .rw[<-k,Y1];simp[Sx.look]
  rw[XC,Array.length_toList,e];omega
 obtain rfl:d=0:=by omega
 obtain rfl:n=0:=by omega
 refine .inr ⟨rfl,Zm (by simpa using b),g,rfl,?_⟩;have:c=#[]:=Array.eq_empty_of_size_eq_zero (by simpa using e);simp[Sx.look,this]
def RN(a:hU):Option (DataW Unit×List MemPlace):=some (.nil,[])
def QE{w:hW}{b:Nat}{o:Obj}{m:List (No×Option Nat)}(u:w.heap[b]? =some o)(v:dO vs au o m)(y:(m.map Prod.fst).Nodup)(z:∀p,p∈m->p.1.length<=1000000)(f:m.length<=1000000):
  ∃g:DataW Unit,w.ownsMap prog 9 RN b m.length g/\Maps.size g<=1000000/\(strKeys g).Perm (m.map Prod.fst):=by
 obtain⟨c,j,rfl,l,A⟩:=v;have n:c.size=m.length:=by have:=Wc List.length l;simpa using this
 have i:c.toList.map (·.key)=m.map fun p=>vs p.1:=by have:=Wc (List.map Prod.fst) l;simpa [Sx.f0,Function.comp_def] using this
 have q:∀x,x∈c.toList-> ∃s:No,x.key=vs s/\s.length<=1000000:=by
  intro x a;have:x.key∈m.map fun p=>vs p.1:=by rw[<-i];exact List.mem_map.2 ⟨x,a,rfl⟩
  obtain⟨p,B,e⟩:=List.mem_map.1 this;exact⟨p.1,e.symm,z p B⟩
 have r:∀x,x∈c.toList-> ∀s:No,x.key=vs s->s.length<=1000000->WideElems.rd prog 9 RN x=some (.string s,.nil):=by intro x a s f d;have C:s.length<=maxLen:=Xq d WT;have D:(ByteArray.mk s.toArray).size<=maxLen:=C;simp[WideElems.rd,keyOf,underlying9,mapKey,f,RN,vs,D]
 have t:=List.pairwise_append.1 A;refine⟨_,⟨c,j,u,⟨?_,⟨?_,?_,?_⟩,?_⟩,by omega,rfl⟩,?_,?_⟩
 .rw[n];exact Xq f WT
 .intro x a;exact t.2.2 x.born (List.mem_map.2 ⟨x,a,rfl⟩) j V_
 .exact t.1.imp fun h=>Nat.ne_of_lt h
 .rw[i];have:(m.map Prod.fst).map vs=m.map fun p=>vs p.1:=by simp[Function.comp_def]
  rw[<-this];refine List.pairwise_map.2 (y.imp fun h e=>h ?_);simpa [vs] using e
 .intro x a;obtain⟨s,e,d⟩:=q x a;exact⟨_,r x a s e d⟩
 .rw[Maps.size_eq,(WideShapes.sorted_perm _).length_eq,Wx,Array.length_toList,n];exact f
 show(List.map (fun p:Lit×DataW Unit=>strOf p.1) _).Perm _;refine((WideShapes.sorted_perm _).map _).trans (List.Perm.of_eq ?_);rw[List.map_map];refine List.map_congr_left ?_|>.trans (?_:c.toList.map (fun x=>match x.key with| .string s=>s.data.toList|_=>[])=_)
 .intro x a;obtain⟨s,e,d⟩:=q x a;simp only[Function.comp];rw[WideElems.rg_of (r x a s e d),e]
  rfl
 have:c.toList.map (fun x=>match x.key with| .string s=>s.data.toList|_=>[])=(c.toList.map (·.key)).map (fun k=>match k with| .string s=>s.data.toList|_=>[]):=by rw[List.map_map];rfl
 rw[this,i,List.map_map]
 rfl
def GA(X:aA)(G:XE)(S:h8)(k c:Nat)(w:hW)(j:XG X G S)(u:∀b o,Sx.look X b=some o->w.heap[b]? =some o)(l:k<3)(T:(S.dir k).seen.length<=1000000)(z:∀p,p∈ (S.dir k).seen->p.1.length<=1000000)
  (r:w.heap[c]? =some (.cells #[vm (G.s k)] 76 (0,0))):
  Va prog 108 #[.func (.func 142) #[] #[vp c 0]] w (XS w [] (fun v D=>Yq D 9 1 v (S.dir k).seen.length ((S.dir k).seen.map fun p=>vs p.1))):=by
 obtain⟨o,m,A,B,f⟩:=j.seen k l;have C:=u _ _ A;have U:m.length=(S.dir k).seen.length:=by have:=f.length_eq;simpa using this
 have E:∀p,p∈m->p.1.length<=1000000:=by intro p n;have:=f.mem_iff.1 n;obtain⟨F,H,e⟩:=List.mem_map.1 this;rw[<-e];exact z F H
 obtain⟨g,I,J,K⟩:=QE C B (f.keys (j.ok.seen k l).nodup) E oM;have L:=(Array.getElem?_eq_some_iff.1 r).1;have M:SeqGives Fence.wide 2 prog 142 #[.pointer (some ⟨c,0,none⟩)] encStr (fun i=>i.Perm (strKeys g)) (Maps.size g) w:=
  AnyZ.keys_gives (ρ:=qg1) {qK4 with} Fence.wide _ trivial rfl oM c (G.s k) m.length g _ L (by simp[World.cell?,r,vm]) I
 have h:=AnyZ.sorted_in qz1 Fence.wide 5 trivial trivial trivial trivial rfl oM (Sy _) (enters_of func141 kR rfl) 142 #[.pointer (some ⟨c,0,none⟩)] trivial (enters_of func142 kR rfl) _ (Maps.size g) (Xq J WT) oM w M;refine Calls.mono (callsIn_wide.1 h) ?_;rintro e V ⟨v,i,rfl,N,O,-,a⟩;obtain⟨D,s,P,q⟩:=Se O;have t:i.mergeSort (fun x y=>decide (x<=y))=(S.dir k).seen.map Prod.fst:=by refine LN (j.ok.seen k l) ((N.trans K).trans ?_);have:=f.map Prod.fst;refine this.trans (List.Perm.of_eq ?_);rw[List.map_map];rfl
 have Q:i.length=(S.dir k).seen.length:=by have:=Wc List.length t;simpa using this
 refine⟨v,D,rfl,⟨fun b o R=>(s _ R).1,P,fun b d _=>a.block b d,a.size,a.tape,a.os,a.output⟩,⟨fun b d=>?_,fun b d=>(by cases d)⟩,⟨D,fun _ h=>h,?_⟩⟩
 .obtain⟨p,n,rfl⟩:=List.mem_map.1 d;exact .inr (s p n).2
 rw[t,Q] at q;have:((S.dir k).seen.map Prod.fst).map encStr=(S.dir k).seen.map fun p=>vs p.1:=by rw[List.map_map];rfl
 rw[this] at q;exact q
end Go.Proofs
end
section
open Go Go.Proofs Go.Sx Go.StP
namespace Go.Proofs
def Iw(b:Nat)(w:hW):
  Va prog 109 #[vm b] w (XS w [] (fun e D=> ∃a,e=.func (.func 142) #[] #[vp a 0]/\D=[(a,.cells #[vm b] 76 (0,0))])):=by
 refine Va.enter func109 rfl (rs:=[.tmp 2]) results109 ntmps109 ?_;refine kf ?_;refine ky @Nat.add_zero ?_;refine Ow.box rfl rfl fun a g f=>?_;simp only[dS,cz,vm,Vy];refine ko @Nat.add_zero ?_;refine⟨_,(ke @Nat.add_zero),?_⟩;exact⟨⟨fun c d=>(by simp only[keys,VY,Wr,VZ] at d;exact .inr (d▸f)),fun c d=>(by cases d)⟩,a,by simp[bS,ev,dA],rfl⟩
def DkB(S:h8):Prop:= ∀k,k<3->(S.dir k).seen.length<=1000000/\ ∀p,p∈ (S.dir k).seen->p.1.length<=1000000
def jr(S:h8)(dir:No):List No:=if bi S dir []≠0 then [] else(S.dir ((al dir).getD 0)).seen.map Prod.fst
def kk:=aN (aN (aN @bA @b9) (aN @j2 @kF)) (aN (aN @kH @kI) (qS1 @Sx.Wk @Sx.Wl @mv))
def s8(w:hW)(G:XE)(S:h8)(dir:No)(j:DkW w G S)(l:DkB S):
  Va prog 60 #[vp G.bd 0,vs dir] w (XS w [] (fun v D=>Yq D 9 1 v (jr S dir).length ((jr S dir).map vs))):=by
 have r:=j;obtain⟨X,d,m⟩:=j;refine Va.enter func60 rfl (rs:=[.tmp 4]) results60 ntmps60 ?_;refine kf ?_;refine ky @kk ?_;have t:Vq w.heap.size ([]:aA):=trivial;refine Ow.Wf rfl rfl call71 (fun a c=>Va.toX (mQ a G S dir Vj [] (r.Wo c t) (Xz.nil a) V_ (fun s u=>by cases u))) (fun I v2 D2 J K L g=>?_);obtain⟨rfl,g⟩:=g;rw[VX];unfold jr;rcases g with⟨e,rfl⟩ | ⟨e,k,n,rfl⟩
 .rw[Vb e];have i:=iT e;refine ko @kk ?_;refine ky (aN @kk @i) ?_;refine⟨_,(ke @kk),?_⟩;exact⟨Ext.refl w [],Gr.nl.i fun _ h=>h⟩
 rw[tr (by rw[e];simp),n];have f:=(cN n).1;have x:=d _ _ (m.dir k f);have i:((0:Int) !=0)=false:=rfl;refine ko @kk ?_;refine ky (qS1 @kk @i @x) ?_;refine Ow.Wf rfl rfl call109 (fun a c=>Iw (G.s k) a) (fun M N O P y z A=>?_);obtain⟨B,rfl,rfl⟩:=A;rw[Vy];have q:=z.mono y;refine ko @kk ?_;refine Ow.Wf rfl rfl call108 (fun a c=>GA X G S k B a m (fun b o h=>(c.Wo b (Array.getElem?_eq_some_iff.1 (d b o h)).1 (q.not (Array.getElem?_eq_some_iff.1 (d b o h)).1)).trans (d b o h)) f (l k f).1 (l k f).2 (c.has _ _ aX)) (fun Q R T U C E F=>?_);refine ko @kk ?_;refine⟨_,(ke @kk),?_⟩;refine⟨Ext.Vt (q.app (E.mono C)),?_⟩;rw[Wx,List.map_map];exact F.mono fun p H=>ah _ H
def ey(S:h8)(k:Nat):List XU:=(if S.off=true then [] else(S.dir k).seen).map fun p=>⟨bT k,p.1,(S.files.getD p.2 bV).data⟩
def er(S:h8):Nat->List XU
 |0=>[]
 |k+1=>er S k++ey S k
def kr(S:h8):List XU:=er S 3
def tT{S:h8}{k:Nat}(a:k<3):jr S (bT k)=(if S.off=true then [] else(S.dir k).seen).map Prod.fst:=by unfold jr bi;rw[jP a];cases S.off<;>simp
def sj(l:List No):(l.map qq6).flatten=l.map vs:=by
 induction l with
 |nil=>rfl
 |cons x l a=>simp[qq6,a]
def Df{S:h8}(a:DkB S){k:Nat}(b:k<3):(ey S k).length<=1000000:=by
 unfold ey;rw[Wx]
 split
 .simp
 exact(a k b).1
theorem Bg{S:h8}(a:DkB S):∀k,k<=3->(er S k).length<=k*1000000
 |0,_=>aR _
 |k+1,b=>by have c:=Bg a k oM;have d:=Df a (k:=k) oM;show(er S k++ey S k).length<=_;rw[VV];omega
structure FlG where
 k:Nat
 v:hU
 D1:aA
 DG:aA
structure FjG where
 j:Nat
 v:hU
 D1:aA
 DG:aA
def iW:=aN (aN (qS1 @bA @b9 @j2) (qS1 @kF @kH @kI)) (aN (qS1 @qT @qW @Sx.Wk) (qS1 @Sx.Wl @mv @q'))
def HZ(w:hW)(G:XE)(S:h8)(N:DkW w G S)(zc:jT w)(C:DkB S):
  Va prog 25 #[vp G.bd 0] w (XS w [] (fun v D=>Yq D 67 3 v (kr S).length ((kr S).map XI).flatten)):=by
 have zd:=N;obtain⟨X,s,l⟩:=N;obtain⟨eg,zI,ze⟩:=zc;have hd:=s _ _ l.disk;obtain⟨om,zf,hM⟩:=l.dirs;have zg:=s _ _ zf;have Wo:∀b o,w.heap[b]? =some o-> ∀Y,Vq w.heap.size Y->aG w Y b=some o:=fun b o O Y hY=>by rw[dr (hY.not (Array.getElem?_eq_some_iff.1 O).1)];exact O
 refine Va.Vs func25 rfl (rs:=[.tmp 2]) results25 ntmps25 (fun p c=>by cases c) Wg ?_;refine kf ?_;refine ky (qS1 @iW @ze @Cx) ?_;refine Cw.Vd (M:=[]++[]) (WW _) ?_;refine Cw.VU (G:=FlG) [10,11,5,12,13,14,15,16,17,18,19,7,20,21,22,23,24,25,26,27,28,29,30,31,32,33,34,35,36,37,38,39,3,40,41,9] (fun g=>[(3,g.v),(9,vi g.k)]) (fun g=>g.D1++g.DG) (fun g=>g.k<=3/\Vq w.heap.size g.D1/\Vq w.heap.size g.DG/\Gr g.D1 67 3 g.v (er S g.k).length ((er S g.k).map XI).flatten) (fun g=>3 - g.k) ⟨0, Vj,[],[]⟩ rfl rfl ?_ ?_
 .exact⟨aR _,trivial,trivial,Gr.nl⟩
 intro g j t;refine kv ?_;obtain⟨k,v,D1,DG⟩:=g;simp only at t |-;obtain⟨hk,m,q,r⟩:=t;by_cases d:k<3
 .have F:decide ((k:Int)<3)=true:=aP oM;have zh:=Cd d;have zJ:=Bg C k hk;have zi:=Df C d;refine kz [10] (qS1 @iW @F @zh) ?_;refine Ow.Wf rfl rfl call60 (fun P H=>s8 P G S (bT k) (zd.Wo H (m.app q)) C) (fun B3 v3 f zK zj zk y=>?_);rw[tT d,<-sj] at y;obtain⟨a,I⟩:∃a,(if S.off=true then [] else(S.dir k).seen)=a:=⟨_,rfl⟩;have J:ey S k=a.map fun p=>⟨bT k,p.1,(S.files.getD p.2 bV).data⟩:=by unfold ey;rw[I]
  have zl:∀p,p∈a->p∈ (S.dir k).seen:=by
   intro p c;rw[<-I] at c
   split at c
   .cases c
   exact c
  rw[I] at y;rw[J,Wx] at zi;have Q:Vq w.heap.size f:=zk.mono zj;have R:=kE y;rw[Wx] at R;refine ko (aN @iW @R) ?_;refine Cw.world fun w1 T=>?_;obtain⟨rb,off,arr,E,fz,U,V⟩:=y.qE7 (z:=[]) (by rw[Wx]) ((T.perm (M:=f++(D1++DG)) Y4).part) vI;have zm:∀ (G:aA),0<a.length->aG w (f++G) rb=some (.cells arr E fz):=by intro G h0;exact aO (a_ (V (by rw[Wx];exact h0)))
  clear T V;refine Cw.Vd (M:=f++(D1++DG)) Y4 ?_;refine Cw.VU (G:=FjG) [17,18,19,7,20,21,22,23,24,25,26,27,28,29,30,31,32,33,34,35,36,37,38,39,3,40,16] (fun g=>[(3,g.v),(16,vi g.j)]) (fun g=>f++(g.D1++g.DG)) (fun g=>g.j<=a.length/\Vq w.heap.size g.D1/\Vq w.heap.size g.DG/\Gr g.D1 67 3 g.v ((er S k).length+g.j) ((er S k++(ey S k).take g.j).map XI).flatten) (fun g=>a.length - g.j) ⟨0,v,D1,DG⟩ rfl rfl ?_ ?_
  .exact⟨aR _,m,q,by simpa using r⟩
  intro g j t;refine kv ?_;clear r m q;obtain⟨j,v,D1,DG⟩:=g;simp only at t |-;obtain⟨hj,m,q,r⟩:=t;by_cases i:j<a.length
  .have K:decide ((j:Int)< (a.length:Int))=true:=aP oM;have W:j< (a.map Prod.fst).length:=by rw[Wx];exact i
   have zn:=U.idx false j W;have L:=fun n=>ns U W n;have zo:=zm (D1++DG) oM;have c:a[j]'i∈ (S.dir k).seen:=zl _ (Y3 _);have zq:(a.map Prod.fst).getD j []=(a[j]'i).1:=by simp[List.getD_eq_getElem?_getD,i]
   have Z:(ey S k).take (j+1)=(ey S k).take j++[⟨bT k,(a[j]'i).1,(S.files.getD (a[j]'i).2 bV).data⟩]:=by rw[J,List.take_add_one];simp[i]
   rw[zq] at L;generalize a[j]'i=p at*;obtain⟨x,n⟩:=p;simp only at c Z L;have zr:aL (S.dir k).seen x=some n:=pb (l.ok.seen k d).nodup c;have zt:n<S.files.length:=l.ok.seenN k d _ c;have u:Vq w.heap.size (f++(D1++DG)):=Q.app (m.app q);have za:=Wo _ _ hd _ u;have zu:=Wo _ _ zg _ u;have zv:=Wo _ _ (s _ _ (l.dir k d)) _ u;obtain⟨os,ms,zw,zx,zy⟩:=l.seen k d;have zz:=Wo _ _ (s _ _ zw) _ u;have zA:=Wo _ _ (s _ _ (l.file n zt)) _ u;refine ky (qS4 @iW @K @zn @L @zo @za) ?_;refine kq (aN @iW @za) ?_;refine Ow.XQ (encK:=vs) (encV:=au) (k:=bT k) (z:=none) rfl rfl underlying69 fQ qr7 rfl rfl zu hM ?_;rw[rA,jP d];show Ow _ _ _ _ _ _ _ _;have zB:au (some (G.d k))=vp (G.d k) 0:=rfl;refine ko (qS1 @iW @zB @zv) ?_;refine Ow.XQ (encK:=vs) (encV:=au) (k:=x) (z:=none) rfl rfl underlying76 fQ qg0 rfl rfl zz zx ?_;rw[zy.get (l.ok.seen k d).nodup,zr];show Ow _ _ _ _ _ _ _ _;have zC:au (some (G.fb.getD n 0))=vp (G.fb.getD n 0) 0:=rfl;refine ko (qS1 @iW @zC @zA) ?_;refine Ow.build (.agg (XI ⟨bT k,x,(S.files.getD n bV).data⟩).toArray) rfl (uq ⟨bT k,x,(S.files.getD n bV).data⟩) ?_;refine ko @iW ?_;refine Ow.buildSlice (e:=67) (XI ⟨bT k,x,(S.files.getD n bV).data⟩).toArray rfl rfl (fa underlying22 qo1 qn3 WT (iS _)) fun A zL zD=>?_;refine Ow.Vd (M:=D1++(f++(DG++[(A,.cells (XI ⟨bT k,x,(S.files.getD n bV).data⟩).toArray 67 (0,0))]))) Xm ?_;refine Ow.W2 (e:=67) (k:=1) (new:=XI ⟨bT k,x,(S.files.getD n bV).data⟩) (X:=D1) v rfl rfl rfl rfl underlying22 qo1 kR qn3 (by rw[q',Wd,iS]) underlying22 (by intro k h;cases h) r (fun P H=>W0.X6 (H.has A (.cells (XI ⟨bT k,x,(S.files.getD n bV).data⟩).toArray 67 (0,0)) V_) (iS _) (oA _)) oM (fun B4 v4 B zM zN zE zO zF zP=>?_);have zG:Vq w.heap.size B:=Vq.of_le fun zb hq=>by
    rcases zF zb hq with h|h
    .exact m.le zb h
    omega
   refine Ow.Vd (M:=f++(B++(DG++[(A,.cells (XI ⟨bT k,x,(S.files.getD n bV).data⟩).toArray 67 (0,0))]))) Xm ?_;refine ko @iW ?_;refine ky @iW ?_;refine Vo.mk ⟨j+1,v4,B,DG++[(A,.cells (XI ⟨bT k,x,(S.files.getD n bV).data⟩).toArray 67 (0,0))]⟩ (by show a.length - (j+1)<a.length - j;omega) ⟨i,zG,q.app ⟨zD,trivial⟩,?_⟩ rfl rfl;show Gr B 67 3 v4 ((er S k).length+j+1) ((er S k++(ey S k).take (j+1)).map XI).flatten;rw[Z];simpa only[We,VY,Wr,Yu,Ya,List.flatten_nil,VX,Wb] using zE
  obtain rfl:j=a.length:=by omega
  have K:decide ((a.length:Int)< (a.length:Int))=false:=aW oM;have zH:(ey S k).length=a.length:=by rw[J,Wx]
  rw[<-zH,WH] at r;refine kz [10] (aN @iW @K) ?_;refine Cw.Vd (M:=D1++(f++DG)) Xm ?_;refine ky @iW ?_;refine Vo.mk ⟨k+1,v,D1,f++DG⟩ (by show 3 - (k+1)<3 - k;omega) ⟨d,m,Q.app q,?_⟩ rfl rfl;show Gr D1 67 3 v (er S k++ey S k).length ((er S k++ey S k).map XI).flatten;rw[VV];exact r
 obtain rfl:k=3:=by omega
 have F:decide (((3:Nat):Int)<3)=false:=rfl;refine ky (aN @iW @F) ?_;refine⟨_,(ke @iW),?_⟩;exact⟨Ext.Vt (m.app q),r.i fun p c=>aq _ c⟩
def Th(b:Nat):ak prog .eql 76 (vm b) (.map none)=some (.bool false):=by simp[ak,Zq,cm,cg,underlying76,vm]
def I7(b:Nat)(o:Obj)(m:List (No×Option Nat))(w:hW)(f:w.heap[b]? =some o)(g:dO vs au o m):
  Va prog 59 #[vm b] w (XS w [] (fun v D=> ∃c d,v=vm c/\D=[(c,d)]/\dO vs au d m)):=by
 refine Va.Vs func59 rfl (rs:=[.tmp 2]) results59 ntmps59 (fun p h=>by cases h) Wg ?_;refine kf ?_;have i:=Th b;refine ky @i ?_;refine Ow.qp3 rfl underlying76 rfl ?_;refine Ow.qo6 (encK:=vs) (encV:=au) rfl rfl (fun a w=>run_callFunc_extern func107 kR kR kR (e:=Extern.MapsClone.clone) kR #[a] w) rfl (by rw[dr Wg];exact f) g fun c d l j k=>?_;refine Ow.ql9 rfl underlying76 rfl ?_;refine ko @Nat.add_zero ?_;refine⟨_,(ke @Nat.add_zero),?_⟩;exact⟨(Ext.refl w []).app j,c,d,rfl,rfl,k⟩
def qj9(x:UInt16):List hU:=[v16 x]
def P7(x:UInt16):(qj9 x).length=1:=rfl
abbrev pB(w:hW)(v:hU)(l:List UInt16):Prop:=Xz 1 qj9 0 w v l
def PkS(w:hW)(v:hU)(l:List UInt16):Prop:=pB w v l\/(l=[]/\ ∃a c,v=.slice (some a) 0 c)
theorem PkS.len{w:hW}{v:hU}{l:List UInt16}(h:PkS w v l)(x:Bool×Nat):Yw (.sl x) v=some (vi l.length):=by
 rcases h with h| ⟨rfl,a,c,rfl⟩
 .exact Xz.len h x
 rfl
def PkS.cell{w:hW}{v:hU}{l:List UInt16}(h:PkS w v l):Value.oneCell' v=true/\v.cells=#[v]:=by
 rcases h with⟨b,off,c,arr,E,fz,d,e,⟨rfl,-,-⟩ | ⟨rfl,-,-⟩⟩ | ⟨rfl,a,c,rfl⟩
 .exact⟨rfl,rfl⟩
 .exact⟨rfl,rfl⟩
 exact⟨rfl,rfl⟩
theorem PkS.Wo{w a:hW}{L:aA}{v:hU}{l:List UInt16}(h:PkS w v l)(f:Hp w L a)(g:l≠ []-> ∀b,Xy v=some b->b∉keys L):PkS a v l:=by
 by_cases d:l=[]
 .subst d;rcases h with⟨b,off,c,arr,E,fz,j,k,⟨rfl,-,-⟩ | ⟨rfl,-,-⟩⟩ |h
  .exact .inl (Xz.nil a)
  .exact .inr ⟨rfl,_,_,rfl⟩
  exact .inr h
 exact .inl ((h.resolve_right fun e=>d e.1).Wo f fun b i _=>g d b i)
def PkB(w:hW)(X:aA)(l:List UInt16)(v:hU):Prop:=l≠ []-> ∀b,Xy v=some b->b<w.heap.size/\b∉keys X
def ni{w:hW}{v:hU}{l:List UInt16}{b off:Nat}{arr:Array hU}{E:h7}{fz:Nat×Nat}(h:WL 1 qj9 0 w v l b off arr E fz){k:Nat}(a:k<l.length)(n:Nat):
  aF (some (false,n)) (some (.cells arr E fz)) (off+k)=some (v16 (l.getD k 0)):=by
 have:=h.cell (j:=0) (n:=n) a oM
 rwa [Nat.mul_one,XL] at this
def fG(l:List UInt16)(n:Nat):Nat:=match l with
 | []=>0
 |x::_=>x.toNat% (n+1)
def cM(v:hU):Obj:=.cells #[v] 39 (0,0)
def u'(v:hU)(n:Nat):aF (some (false,n)) (some (cM v)) 0=some v:=(rfl)
def NF(v x:hU)(a:Bool)(b:Value.oneCell' x=true/\x.cells=#[x]):aZ (some (a,1)) (some (cM v)) 0 x=some (cM x):=
 cP [] [v] [x] [] a _ 39 rfl rfl b.2 rfl (by simp[b.1])
def Qj{m:Nat}{α:Type}{enc:α->List hU}{z:α}{w:hW}{v:hU}{l:List α}(h:Xz m enc z w v l):Value.oneCell' v=true/\v.cells=#[v]:=by
 obtain⟨b,off,c,arr,E,fz,a,d,⟨rfl,-,-⟩ | ⟨rfl,-,-⟩⟩:=h
 .exact⟨rfl,rfl⟩
 exact⟨rfl,rfl⟩
def la:=qS1 @bA @b9 @u'
def s5(n:Nat)(b:Nat)(v:hU)(l:List UInt16)(w:hW)(G:n<4611686018427387904)(d:PkS w v l)(H:l.length<1000000)(s:l≠ []->Xy v≠some b)(t:w.heap[b]? =some (cM v)):
  Va prog 58 #[vi n,vp b 0] w (fun r D=> ∃o,D=[(b,o)]/\r=vi (fG l n:Nat)/\ ∃f,o=cM f/\(l=[]->f=v)/\(l≠ []->eN (.sl (false,1)) v (some (some 1)) none=some f)):=by
 refine Va.XV func58 rfl (rs:=[.tmp 3]) results58 ntmps58 t ?_;refine kf ?_;have j:=d.len;cases l with
 |nil=>refine ky (aN @la @j) ?_;refine⟨_,_,_,(ke @la),rfl,trivial,?_⟩;exact⟨rfl,v,rfl,fun _=>rfl,fun h=>Vx rfl h⟩
 |cons x l=>
  have d:pB w v (x::l):=d.resolve_right fun e=>by cases e.1
  obtain⟨v1,g,u,-⟩:=d.qh7 (k:=1) V_ false;have y:=Qj u;have st:=fun a=>NF v v1 a y;obtain⟨i,off,c,arr,E,fz,m,I,⟨J,z,K⟩ | ⟨rfl,A,-⟩⟩:=d
  .exact Vx z V_
  have B:i≠b:=fun e=>s V_ (by rw[e];rfl);have p:=m.idx false 0 V_;have q:=fun n=>ni m (k:=0) V_ n;have C:((((x::l).length:Nat):Int)==0)=false:=WN.2 (by simp;omega);have F:aG w [(b,cM (Xr i off (x::l).length c))] i=some (.cells arr E fz):=by rw[dr (by simpa [keys] using B)];exact A
  rw[Nat.zero_mul,XL] at p;rw[show((1:Nat):Int)=1 from rfl] at g;simp only[XL] at q;refine ky (qS6 @la @j @C @p @q @F @g @st) ?_;refine⟨_,_,_,(ke @la),rfl,trivial,?_⟩;refine⟨?_,v1,rfl,fun h=>Vx h V_,fun _=>g⟩;show vi _=vi _;congr 1
def XG.qR4{X L:aA}{G:XE}{S:h8}(h:XG X G S){k:Nat}(g:k<3){l':W_}(Vn:∀b o,Sx.look X b=some o->b≠G.t k->Sx.look L b=some o)(v:NmM L G.fb (G.t k) l')(c:YG l')(l:∀p,p∈l'->p.2<S.files.length):
  XG L G (cT S k ⟨(S.dir k).seen,l',(S.dir k).Vl⟩):=by
 obtain⟨H,I,w,x,-⟩:=h.stl k g;have y:∀b o,Sx.look X b=some o->Xo o≠none->b≠G.t k:=by rintro b o q z rfl;rw[w] at q;cases q;exact z (fW x)
 have K:∀b o,Sx.look X b=some o->Xo o≠none->Sx.look L b=some o:=fun b o q c=>Vn b o q (y b o q c);have t:∀j,(cT S k ⟨(S.dir k).seen,l',(S.dir k).Vl⟩).dir j=if j=k then⟨(S.dir k).seen,l',(S.dir k).Vl⟩ else S.dir j:=fun _=>rfl
 have A:∀j,((cT S k ⟨(S.dir k).seen,l',(S.dir k).Vl⟩).dir j).seen=(S.dir j).seen:=fun j=>by
  rw[t];by_cases e:j=k
  .subst e;rw[Vb rfl]
  rw[tr e]
 have B:∀j,((cT S k ⟨(S.dir k).seen,l',(S.dir k).Vl⟩).dir j).Vl=(S.dir j).Vl:=fun j=>by
  rw[t];by_cases e:j=k
  .subst e;rw[Vb rfl]
  rw[tr e]
 refine⟨K _ _ h.disk (by simp[Xo,bJ]),?_,fun j d=>K _ _ (h.dir j d) (by simp[Xo,c1]),fun j d=>?_,fun j d=>?_,fun j d=>?_,fun n C=>K _ _ (h.file n C) (by simp[Xo,cG]),h.len,h.nodf,h.nodm,h.nodd,h.nodb,h.nodp,qa h.ok _ (h.ok.seen k g) c (h.ok.seenN k g) l (h.ok.pendN k g)⟩
 .obtain⟨o,c,f⟩:=h.dirs;exact⟨o,Vn _ _ c (h.nodb k g).2,f⟩
 .rw[A];obtain⟨o,m,c,f,l⟩:=h.seen j d;exact⟨o,m,Vn _ _ c (jR h.nodm d g).2.2,f,l⟩
 .rw[t];by_cases e:j=k
  .subst e;rw[Vb rfl];exact v
  rw[tr e];obtain⟨o,m,c,f,l⟩:=h.stl j d;exact⟨o,m,Vn _ _ c ((jR h.nodm d g).2.1 e),f,l⟩
 rw[B];obtain⟨D,c,f,l⟩:=h.Vl j d;refine⟨D,c,f.Vn fun b o q r=>?_,fun i E=>(l i E).Vn fun b o r F=>K b o r ?_⟩
 .obtain⟨arr,u⟩:=fE f q;rw[r] at u;cases u;exact K _ _ r (by simp[Xo])
 rcases F with⟨s,rfl⟩ | ⟨a,rfl⟩<;>simp[Xo,ce,Zl]
def dt(S:h8)(k:Nat)(d:Yz):(cT S k d).dir k=d:=by unfold cT;simp
def e7(S:h8){k j:Nat}(d:Yz)(h:j≠k):(cT S k d).dir j=S.dir j:=by unfold cT;simp[h]
def sX(S:h8)(k:Nat)(d a:Yz):cT (cT S k d) k a=cT S k a:=by
 unfold cT;simp only;congr 1
 funext j
 by_cases e:j=k
 .rw[Vb e,Vb e]
 rw[tr e,tr e,tr e]
def p9(d:Yz):Prop:= ∀i,i<d.Vl.length->okC ((d.Vl.take i).foldl bY d.stl) (d.Vl.getD i fV)
def bj(S:h8)(k i:Nat):W_:=((S.dir k).Vl.take i).foldl bY (S.dir k).stl
def gs(q:h8×List UInt16)(k:Nat):h8×List UInt16:=
 (cT q.1 k ⟨bj q.1 k (fG q.2 (q.1.dir k).Vl.length),bj q.1 k (fG q.2 (q.1.dir k).Vl.length),[]⟩,q.2.drop 1)
def cS(q:h8×List UInt16):Nat->h8×List UInt16
 |0=>q
 |k+1=>gs (cS q k) k
def rD(l:List UInt16)(n:Nat):fG l n<=n:=by
 unfold fG
 split
 .exact aR _
 have:=Nat.mod_lt ‹UInt16›.toNat (show 0<n+1 by omega);omega
def rj{S:h8}{k i:Nat}(h:i< (S.dir k).Vl.length):bj S k (i+1)=bY (bj S k i) ((S.dir k).Vl.getD i fV):=by unfold bj;rw[StP.WJ (z:=fV) h,List.foldl_append];rfl
def XG.qI4{X:aA}{G:XE}{S:h8}(h:XG X G S){b:Nat}{v:hU}(d:Sx.look X b=some (cM v))(x:Obj):XG (Vh X b x) G S where
 disk:=eV d h.disk (by simp[Xo,bJ,cM])
 dirs:=by obtain⟨o,f,c⟩:=h.dirs;exact⟨o,eV d f (by rw[fW c];intro e;cases e),c⟩
 dir k dg:=eV d (h.dir k dg) (by simp[Xo,c1,cM])
 seen k dg:=by obtain⟨o,m,f,c,g⟩:=h.seen k dg;exact⟨o,m,eV d f (by rw[fW c];intro e;cases e),c,g⟩
 stl k dg:=by obtain⟨o,m,f,c,g⟩:=h.stl k dg;exact⟨o,m,eV d f (by rw[fW c];intro e;cases e),c,g⟩
 Vl k dg:=by
  obtain⟨p,f,c,g⟩:=h.Vl k dg;refine⟨p,f,c.Vn fun b o q j=>?_,fun i r=>(g i r).Vn fun b o j t=>eV d j ?_⟩
  .obtain⟨arr,l⟩:=fE c q;rw[j] at l;cases l;exact eV d j (by simp[Xo,cM])
  rcases t with⟨s,rfl⟩ | ⟨a,rfl⟩<;>simp[Xo,cM,ce,Zl]
 file n hn:=eV d (h.file n hn) (by simp[Xo,cG,cM])
 len:=h.len
 nodf:=h.nodf
 nodm:=h.nodm
 nodd:=h.nodd
 nodb:=h.nodb
 nodp:=h.nodp
 ok:=h.ok
def tZ{w:hW}{v a:hU}{q:List UInt16}(c:PkS w v q)(f:q=[]->a=v)(g:q≠ []->eN (.sl (false,1)) v (some (some 1)) none=some a):PkS w a (q.drop 1)/\ ∀ {X:aA},PkB w X q v->PkB w X (q.drop 1) a:=by
 cases q with
 |nil=>rw[f rfl];exact⟨c,fun h=>h⟩
 |cons x l=>
  have c:pB w v (x::l):=c.resolve_right fun e=>by cases e.1
  obtain⟨v2,d,i,j⟩:=c.qh7 (k:=1) V_ false;have:=g V_;rw[show((1:Nat):Int)=1 from rfl,this] at d;cases d;exact⟨.inl i,fun h _ b m=>h V_ b (j b m)⟩
def Q'{w d:hW}{L:aA}{T:h7}{v:hU}{vals:List hU}(h:Gr L T 1 v vals.length vals)(f:Hp w L d){n:Nat}(e:n<=vals.length):
  ∃a g off arr E fz,eN (.sl (false,1)) v none (some (some (n:Int)))=some a/\WL 1 (fun v:hU=>[v]) undef d a (vals.take n) g off arr E fz/\(0<n->Sx.look L g=some (.cells arr E fz)):=by
 have p:vals=(vals.map fun v:hU=>[v]).flatten:=by
  clear h e
  induction vals with
  |nil=>rfl
  |cons x l q=>simp[<-q]
 have r:Xz 1 (fun v:hU=>[v]) undef d v vals:=h.slV f rfl p (fun _=>rfl);obtain⟨a,i,s,t⟩:=r.take e false;obtain⟨b,off,c,arr,E,fz,j,B,⟨k,u,C⟩ | ⟨k,y,D⟩⟩:=s
 .refine⟨a,b,off,arr,E,fz,i,j,fun z=>?_⟩;have:=Wc List.length u;rw[W3,W7,Nat.min_eq_left e] at this;omega
 refine⟨a,b,off,arr,E,fz,i,j,fun z=>?_⟩;have A:=h.key (t b (by rw[k];rfl));obtain⟨o,m⟩:=CM A;have:=f.has _ _ (bU m);rw[y] at this;rw[m,this]
def Pb{w:hW}{v:hU}{l:List hU}{b off:Nat}{arr:Array hU}{E:h7}{fz:Nat×Nat}(h:WL 1 (fun v:hU=>[v]) undef w v l b off arr E fz){k:Nat}(a:k<l.length)(n:Nat):
  aF (some (false,n)) (some (.cells arr E fz)) (off+k)=some (l.getD k undef):=by
 have:=h.cell (j:=0) (n:=n) a oM
 rwa [Nat.mul_one,XL] at this
def KV(a b y:Nat)(v:hU)(x:Bool):aZ (some (x,1)) (some (c1 a b v)) 0 (vm y)=some (c1 y b v):=cP [] [vm a] [vm y] [vm b,v] x _ 79 rfl rfl rfl rfl rfl
def Hr(S:h8)(k:Nat):cT S k (S.dir k)=S:=by
 unfold cT;cases S;simp only;congr 1
 funext j
 by_cases e:j=k
 .subst e;simp
 simp[e]
def ct(q:h8×List UInt16)(p:No×Nat):h8×List UInt16:=
 (dJ q.1 p.2 ⟨(aC q.1 p.2).data.take ((aC q.1 p.2).stl+fG q.2 ((aC q.1 p.2).data.length - (aC q.1 p.2).stl)),((aC q.1 p.2).data.take ((aC q.1 p.2).stl+fG q.2 ((aC q.1 p.2).data.length - (aC q.1 p.2).stl))).length⟩,q.2.drop 1)
def dF(q:h8×List UInt16):Nat->h8×List UInt16
 |0=>q
 |k+1=>(q.1.dir k).seen.foldl ct (dF q k)
def dQ(S:h8):h8:={S with off:=false,fused:=false}
def du(S:h8)(pl:List UInt16):h8:=(dF (dQ (cS (S,pl) 3).1,(cS (S,pl) 3).2) 3).1
def sO(q:h8×List UInt16)(l:W_):(l.foldl ct q).1.dir=q.1.dir:=by
 induction l generalizing q with
 |nil=>rfl
 |cons p l a=>rw[List.foldl_cons,a];rfl
theorem pI(q:h8×List UInt16):∀k,(dF q k).1.dir=q.1.dir
 |0=>rfl
 |k+1=>by show(List.foldl ct (dF q k) _).1.dir=_;rw[sO,pI q k]
def JP(q:h8×List UInt16)(l:W_):(l.foldl ct q).1.off=q.1.off:=by
 induction l generalizing q with
 |nil=>rfl
 |cons p l a=>rw[List.foldl_cons,a];rfl
theorem sH(q:h8×List UInt16):∀k,(dF q k).1.off=q.1.off
 |0=>rfl
 |k+1=>by show(List.foldl ct (dF q k) _).1.off=_;rw[JP,sH q k]
structure C3G where
 k:Nat
 L:aA
 v:hU
structure C4G where
 j:Nat
 L:aA
 v:hU
structure C1G where
 k:Nat
 G:XE
 L:aA
 v:hU
structure C2G where
 j:Nat
 L:aA
theorem Bj(q:h8×List UInt16):∀ {k j:Nat},k<=j->(cS q k).1.dir j=q.1.dir j
 |0,_,_=>rfl
 |k+1,j,h=>by show(cT _ k _).dir j=_;rw[e7 _ _ oM];exact Bj q oM
def dh:=aN (aN (aN @bA @b9) (qS1 @j2 @kF @kH)) (aN (aN @kI @qT) (qS1 @qW @u' @lm))
def UQ(X:aA)(G0:XE)(S:h8)(O:hU)(pl:List UInt16)(w:hW)(hX:∀p,p∈X->w.heap[p.1]? =some p.2)(hn:(keys X).Nodup)(yV:XG X G0 S)(yW:jT w)(yX:0∉keys X)(hB:DkB (cS (S,pl) 3).1)
  (yh:PkS w O pl) (yY:PkB w X pl O) (yZ:pl.length<1000000) (yi:∀k,k<3->p9 (S.dir k)/\(S.dir k).Vl.length<1000000):
  Va prog 22 #[vp G0.bd 0,O] w (XS w X (fun v D=> ∃G',G'.bd=G0.bd/\XG D G' (du S pl))):=by
 obtain⟨eg,y0,y1⟩:=yW;refine Va.Vs func22 rfl (rs:=[]) results22 ntmps22 hX hn ?_;refine kf ?_;refine kz [3] @dh ?_;refine Ow.box rfl rfl fun bk y2 y3=>?_;simp only[dS,cz,dL,yh.cell.2];refine Ow.Vd (M:=X++[(bk,cM O)]) (WW _) ?_;refine ko @dh ?_;refine kz [3] @dh ?_;simp only[XM,VY,Wr,dS,cz,dL];have zJ:∀L,Ext w X L->aG w L 0=some (.cells #[vs gZ,vs gG,vs aJ] eg y0):=fun L hE=>hE.Wo y1 yX;have zK:Ext w X (X++[(bk,cM O)]):=(Ext.refl w X).app y3;have zL:=zJ _ zK;have yj:Sx.look (X++[(bk,cM O)]) bk=some (cM O):=fX y2;have P:XG (X++[(bk,cM O)]) G0 S:=yV.mono fun b o h=>a_ h;generalize X++[(bk,cM O)]=L0 at*;refine kz [5,8,12,16] (qS1 @dh @zL @Cx) ?_;refine Cw.VU (G:=C1G) [20,21,6,22,23,24,25,26,27,7,28,29,30,31,32,33,34,35,36,37,38,39,40,41,42,43,44,9,45,46,47,48,49,50,51,52,53,54,55,56,57,58,59,60,61,62,63,19] (fun g=>[(19,vi g.k)]) (fun g=>g.L) (fun g=>g.k<=3/\XG g.L g.G (cS (S,pl) g.k).1/\g.G.bd=G0.bd/\Sx.look g.L bk=some (cM g.v)/\PkS w g.v (cS (S,pl) g.k).2/\PkB w X (cS (S,pl) g.k).2 g.v/\Ext w X g.L/\(cS (S,pl) g.k).2.length<1000000) (fun g=>3 - g.k) ⟨0,G0,L0,O⟩ rfl rfl ?_ ?_
 .exact⟨aR _,P,rfl,yj,yh,yY,zK,yZ⟩
 intro g j K;refine kv ?_;clear zL yj P zK;obtain⟨k,G,L,v⟩:=g;simp only at K |-;obtain⟨hk,q,y4,zc,hv,zo,hE,yk⟩:=K;rw[<-y4];by_cases y:k<3
 .have d1:decide ((k:Int)<3)=true:=aP oM;have zM:=Cd y;obtain⟨om,zN,hM⟩:=q.dirs;have y5:=aO (w0:=w) q.disk;have yl:=aO (w0:=w) (q.dir k y);have zO:au (some (G.d k))=vp (G.d k) 0:=rfl;have zd:=Bj (S,pl) (aj k);simp only at zd;obtain⟨F,ym,zP,hF⟩:=q.Vl k y;rw[zd] at ym hF;have wg:=(yi k y).2;have y6:=zP.len (false,1);refine ky (qS2 @dh @d1 @zM @y5) ?_;refine Ow.XQ (encK:=vs) (encV:=au) (k:=bT k) (z:=none) rfl rfl underlying69 fQ qr7 rfl rfl (aO zN) hM ?_;rw[rA,jP y];show Ow _ _ _ _ _ _ _ _;refine ko (aN @dh @zO) ?_;refine ky @dh ?_;refine Cw.Vu [G.d k] [0,1,2,4,5,6,7,13,3,8,9,10,11,12] [] kR kR kR ?_;refine WQ ?_;refine kq (qS1 @dh @yl @y6) ?_;refine Ow.WV ?_;refine Ow.qb3 (b:=vi F.length) (ars:=#[vi F.length,vp bk 0]) rfl (X:=L) (Y:=[]) (VX _).symm rfl rfl rfl rfl call58 (fun R za ze zq=>Va.chunk ze zq (bO zc) (s5 F.length bk v (cS (S,pl) k).2 R oM (hv.Wo za fun T b l=>hE.not (zo T b l).1 (zo T b l).2) yk (fun T e=>by have:=(zo T bk e).1;omega) (ze _ (bU zc)))) (fun r D hC hS=>?_);obtain⟨o,rfl,rfl,U,rfl,zQ,zR⟩:=hS;rw[VX];obtain⟨zS,zT⟩:=tZ hv zQ zR;have P:=q.qI4 zc (cM U);have y7:=hE.Xt hC;have yn:∀b o,Sx.look L b=some o->Xo o≠some 39->Sx.look (Vh L bk (cM U)) b=some o:=fun b o l ht=>eV zc l ht;have zU:Sx.look (Vh L bk (cM U)) bk=some (cM U):=cY zc;have y8:=aO (w0:=w) (P.dir k y);have y9:Gr (Vh L bk (cM U)) 127 1 (G.p k) F.length F:=zP.Vn fun b o l ho=>by
   obtain⟨arr,ha⟩:=fE zP l;rw[ho] at ha;cases ha;exact yn _ _ ho (by simp[Xo])
  have xa:∀i,i<F.length->FnP (Vh L bk (cM U)) G.fb (F.getD i undef) ((S.dir k).Vl.getD i fV):=fun i hi=>(hF i hi).Vn fun b o ho hx=>yn _ _ ho (by rcases hx with⟨s,rfl⟩ | ⟨a,rfl⟩<;>simp[Xo,ce,Zl]);have zV:=rD (cS (S,pl) k).2 F.length;have zh:cS (S,pl) (k+1)=gs (cS (S,pl) k) k:=rfl;unfold gs at zh;rw[zd,<-ym] at zh;generalize fG (cS (S,pl) k).2 F.length=n at*;have zW:bk≠G.d k:=fun e=>by have zr:=P.dir k y;rw[<-e,zU] at zr;simp[c1,cM] at zr
  generalize Vh L bk (cM U)=L1 at*;refine Ow.world fun w1 zt=>?_;obtain⟨vc,Q,off,arr,E,fz,xb,zX,yo⟩:=Q' y9 zt zV;clear zt;have yp:=zX.len (false,1);rw[W3,Nat.min_eq_left zV] at yp;refine Ow.nil ?_;refine⟨fun b l=>by rw[VZ] at l;subst l;rw[yl,y8],?_⟩;refine kq (qS1 @dh @xb @yp) ?_;have xc:cT (cS (S,pl) k).1 k ⟨((cS (S,pl) k).1.dir k).seen,bj (cS (S,pl) k).1 k 0,((cS (S,pl) k).1.dir k).Vl⟩=(cS (S,pl) k).1:=Hr _ _;have xd:∀j,bj (cS (S,pl) k).1 k j=bj S k j:=fun j=>by unfold bj;rw[zd]
  have wh:(cS (S,pl) (k+1)).2=(cS (S,pl) k).2.drop 1:=rfl;generalize cS (S,pl) k=zY at*;obtain⟨N,pk⟩:=zY;simp only at*;refine Cw.VU (G:=C2G) [42,43,44,9,45,46,47,48,49,50,51,41] (fun g=>[(41,vi g.j)]) (fun g=>g.L) (fun g=>g.j<=n/\XG g.L G (cT N k ⟨(N.dir k).seen,bj N k g.j,(N.dir k).Vl⟩)/\Sx.look g.L bk=some (cM U)/\Ext w X g.L/\(∀b o,Sx.look L1 b=some o->b≠G.t k->Sx.look g.L b=some o)) (fun g=>n - g.j) ⟨0,L1⟩ rfl rfl ?_ ?_
  .exact⟨aR _,by rw[xc];exact P,zU,y7,fun _ _ h _=>h⟩
  intro g j K;refine kv ?_;obtain⟨j,I⟩:=g;simp only at K |-;obtain⟨hj,C,zu,zi,zZ⟩:=K;by_cases J:j<n
  .have d2:decide ((j:Int)< (n:Int))=true:=aP oM;have zv:j< (F.take n).length:=by rw[W3,Nat.min_eq_left zV];exact J
   have zw:=zX.idx false j zv;rw[Nat.mul_one] at zw;have zf:=fun n=>Pb zX zv n;have xe:(F.take n).getD j undef=F.getD j undef:=by rw[List.getD_eq_getElem?_getD,List.getD_eq_getElem?_getD,List.getElem?_take_of_lt J]
   rw[xe] at zf;have z0:j< (S.dir k).Vl.length:=by omega
   have z1:∀ {b:Nat} {o:Obj},Sx.look L1 b=some o->Xo o≠none->b≠G.t k:=by intro b o l ht e;obtain⟨ot,mt,zj,zk,-⟩:=P.stl k y;rw[e,zj] at l;cases l;exact ht (fW zk)
   have xf:FnP I G.fb (F.getD j undef) ((S.dir k).Vl.getD j fV):=(xa j oM).Vn fun b o ho hx=>zZ b o ho (z1 ho (by rcases hx with⟨s,rfl⟩ | ⟨a,rfl⟩<;>simp[Xo,ce,Zl]));have zx:=C.stl k y;have zg:=C.ok.stl k y;have zb:=C.ok.stlN k y;have yq:=C.ok.pendN k y;rw[dt] at zx zg zb yq;have yr:okC (bj N k j) ((S.dir k).Vl.getD j fV):=by rw[xd];exact(yi k y).1 j z0
   obtain⟨fk,ys,xg,z2,xh⟩:=Dp xf zx zg yr;rw[xg] at zf;have xi:=zZ Q _ (yo oM) (z1 (yo oM) (by simp[Xo]));have z3:=aO (w0:=w) xi;have z4:=aO (w0:=w) (C.dir k y);have xj:=z1 zU (by simp[Xo,cM]);refine ky (qS4 @dh @d2 @zw @zf @z3 @z4) ?_;refine Ow.qb3 (b:=vm (G.t k)) (cap:=ys) (ars:=#[vm (G.t k)]++ys) rfl (X:=I) (Y:=[]) (VX _).symm rfl rfl rfl rfl z2 (fun R za ze zq=>xh R ze zq) (fun r D hC hS=>?_);rw[VX];obtain⟨rfl,o',hO,xk⟩:=hS;have z5:=zi.Xt hC;have yt:=C.qR4 y (l':=bY (bj N k j) ((S.dir k).Vl.getD j fV)) (fun b o l V=>(hO.rest b V).trans l) xk (CI _ zg) (CE zb yr fun h0=>yq _ (by show _∈ (N.dir k).Vl;rw[zd,List.getD_eq_getElem?_getD,List.getElem?_eq_getElem z0];exact Y3 _) h0);rw[dt,sX] at yt;have xl:bj N k (j+1)=bY (bj N k j) ((S.dir k).Vl.getD j fV):=by rw[rj (by rw[zd];exact z0),zd]
   refine ko @dh ?_;refine ky @dh ?_;exact Vo.mk ⟨j+1,D⟩ (by show n - (j+1)<n - j;omega) ⟨J,by rw[xl];exact yt,(hO.rest bk xj).trans zu,z5,fun b o l V=>(hO.rest b V).trans (zZ b o l V)⟩ rfl rfl
  obtain rfl:j=n:=by omega
  have d2:decide ((j:Int)< (j:Int))=false:=aW oM;have zx:=C.stl k y;have zg:=C.ok.stl k y;have zb:=C.ok.stlN k y;rw[dt] at zx zg zb;obtain⟨ot,mt,zj,zk,zy⟩:=zx;have zE:=C.dir k y;have z4:=aO (w0:=w) zE;refine kz [13] (qS1 @dh @d2 @z4) ?_;refine Ow.Wf rfl rfl call59 (fun R za=>I7 (G.t k) ot mt R (za.has _ _ (bU zj)) zk) (fun B4 v4 D4 xm wi yu xn=>?_);obtain⟨c,o4,rfl,rfl,xo⟩:=xn;have yv:cy I c:=ef fun b l=>by have h1:=aQ xm l;have h2:=yu.le c Wg;omega
  have yw:c∉keys I:=fun hm=>by have:=aQ yv hm;omega
  have z6:Sx.look (I++[(c,o4)]) (G.d k)=some (c1 (G.s k) (G.t k) (G.p k)):=a_ zE;have xp:Sx.look (I++[(c,o4)]) c=some o4:=fX yv;have xq:∀b o,Sx.look I b=some o->Sx.look (I++[(c,o4)]) b=some o:=fun b o h=>a_ h;have z5:=zi.app (o:=o4) (b:=c) (by have:=yu.le c Wg;omega);generalize I++[(c,o4)]=L3 at*;have wj:=aO (w0:=w) z6;have z7:=fun x=>KV (G.s k) (G.t k) c (G.p k) x;have yx:c≠G.d k:=fun e=>yw (by rw[e];exact bO zE);have z8:Sx.look (Vh L3 (G.d k) (c1 c (G.t k) (G.p k))) (G.d k)=some (c1 c (G.t k) (G.p k)):=cY z6;have xr:Sx.look (Vh L3 (G.d k) (c1 c (G.t k) (G.p k))) c=some o4:=by rw[bE (Wq yx)];exact xp
  have z9:∀b o,Sx.look I b=some o->b≠G.d k->Sx.look (Vh L3 (G.d k) (c1 c (G.t k) (G.p k))) b=some o:=fun b o h V=>by rw[bE (Wq V)];exact xq b o h
  have xs:=z5.Vh (b:=G.d k) (o:=c1 c (G.t k) (G.p k));refine ko (qS2 @dh @z6 @z7 @dq) ?_;generalize Vh L3 (G.d k) (c1 c (G.t k) (G.p k))=L4 at*;have xt:=aO (w0:=w) z8;have xu:=fun x=>DT c (G.t k) (G.p k) Vj x ⟨rfl,rfl⟩;refine ky (qS3 @dh @z8 @xt @xu @dq) ?_;have xv:∀b o,Sx.look I b=some o->b≠G.t k->b≠G.d k->Sx.look (Vh L4 (G.d k) (c1 c (G.t k) Vj)) b=some o:=fun b o h _ V=>by rw[bE (Wq V)];exact z9 b o h V
  have yy:∀ {b:Nat} {o:Obj} {m:List (No×Option Nat)},Sx.look I b=some o->dO vs au o m->b≠G.d k:=by intro b o m l hm e;rw[e,zE] at l;cases l;obtain⟨es,cl,h,-⟩:=hm;cases h
  have zF:=C.calm y (s':=c) ⟨bj N k j,bj N k j,[]⟩ rfl xv ⟨o4,mt,by rw[bE (Wq yx)];exact xr,xo,zy⟩ ⟨ot,mt,by rw[bE (Wq (yy zj zk))];exact z9 _ _ zj (yy zj zk),zk,zy⟩ (cY z8) (.inr yw) zg zg zb zb;rw[sX] at zF;have wk:bk≠G.d k:=fun e=>zW e;exact Vo.mk ⟨k+1,jv G k c,Vh L4 (G.d k) (c1 c (G.t k) Vj),U⟩ (by show 3 - (k+1)<3 - k;omega) ⟨y,by rw[zh];exact zF,rfl,by rw[bE (Wq zW)];exact z9 _ _ zu zW,by rw[zh];exact zS,by rw[zh];exact zT zo,xs.Vh,by rw[zh];show(pk.drop 1).length<1000000;rw[XC];omega⟩ rfl rfl
 obtain rfl:k=3:=by omega
 have d1:decide (((3:Nat):Int)<3)=false:=rfl;unfold du;generalize cS (S,pl) 3=zY at*;obtain⟨t,A⟩:=zY;simp only at*;have xw:XK {t with off:=false}:=⟨q.ok.seen,q.ok.stl,q.ok.seenN,q.ok.stlN,q.ok.pendN,q.ok.file,q.ok.Wv,q.ok.max⟩;have P:=q.Yt {t with off:=false} rfl rfl xw;have xx:XK (dQ t):=⟨q.ok.seen,q.ok.stl,q.ok.seenN,q.ok.stlN,q.ok.pendN,q.ok.file,⟨q.ok.Wv.1,q.ok.Wv.2.1,fun h=>by cases h⟩,q.ok.max⟩;have C:=P.Yt (dQ t) rfl rfl xx;have zL:=aO (w0:=w) q.disk;have xy:=q.disk;have zb:=P.disk;have xz:=fun x=>sA G.bm t false x;have xA:=fun x=>ru G.bm {t with off:=false} false x;have wl:=zJ;have yz:bk≠G.bd:=fun e=>by have zr:=q.disk;rw[<-e,zc] at zr;simp[bJ,cM] at zr
 have zu:Sx.look (Vh (Vh L G.bd (bJ G.bm {t with off:=false})) G.bd (bJ G.bm (dQ t))) bk=some (cM v):=by rw[bE (Wq yz),bE (Wq yz)];exact zc
 have zi:=(hE.Vh (b:=G.bd) (o:=bJ G.bm {t with off:=false})).Vh (b:=G.bd) (o:=bJ G.bm (dQ t));have yA:=zJ _ zi;have xB:aG w (Vh (Vh L G.bd (bJ G.bm {t with off:=false})) G.bd (bJ G.bm {t with off:=false,fused:=false})) 0=_:=yA;have xC:Sx.look (Vh (Vh L G.bd (bJ G.bm {t with off:=false})) G.bd (bJ G.bm {t with off:=false,fused:=false})) bk=some (cM v):=zu;have xD:Ext w X (Vh (Vh L G.bd (bJ G.bm {t with off:=false})) G.bd (bJ G.bm {t with off:=false,fused:=false})):=zi;have zF:XG (Vh (Vh L G.bd (bJ G.bm {t with off:=false})) G.bd (bJ G.bm {t with off:=false,fused:=false})) G (dQ t):=C;clear yA zu zi C;refine kz [17] (aN @dh (qS6 @d1 @xy @zb @xz @xA @dq @xB @Cx)) ?_;generalize wm:Vh (Vh L G.bd (bJ G.bm {t with off:=false})) G.bd (bJ G.bm {t with off:=false,fused:=false})=L5 at*;have xE:(dQ t).dir=t.dir:=rfl;have xF:(dQ t).off=false:=rfl;generalize dQ t=u at*;refine Cw.VU (G:=C3G) [72,73,11,74,75,76,77,78,79,80,81,13,82,83,84,85,86,87,88,89,90,91,92,14,93,94,95,96,97,98,99,100,101,102,103,104,105,106,107,108,109,110,111,112,113,114,115,116,117,118,119,120,121,122,123,124,125,126,127,71] (fun g=>[(71,vi g.k)]) (fun g=>g.L) (fun g=>g.k<=3/\XG g.L G (dF (u,A) g.k).1/\Sx.look g.L bk=some (cM g.v)/\PkS w g.v (dF (u,A) g.k).2/\PkB w X (dF (u,A) g.k).2 g.v/\Ext w X g.L/\(dF (u,A) g.k).2.length<1000000) (fun g=>3 - g.k) ⟨0,L5,v⟩ rfl rfl ?_ ?_
 .exact⟨aR _,zF,xC,hv,zo,xD,yk⟩
 intro g j K;refine kv ?_;obtain⟨k,L6,v6⟩:=g;simp only at K |-;obtain⟨wn,zl,yB,xG,xH,ya,xI⟩:=K;by_cases W:k<3
 .have d6:decide ((k:Int)<3)=true:=aP oM;have zM:=Cd W;have zG:=pI (u,A) k;have yC:=sH (u,A) k;simp only at zG yC;have yD:DkB (dF (u,A) k).1:=by
   intro i hi;rw[zG,xE];exact hB i hi
  have zz:dF (u,A) (k+1)=((u.dir k).seen).foldl ct (dF (u,A) k):=rfl;refine kz [26] (qS1 @dh @d6 @zM) ?_;refine Ow.Wf rfl rfl call60 (fun R za=>s8 R G (dF (u,A) k).1 (bT k) (zl.world za) yD) (fun B7 v7 D7 xJ xK yE zA=>?_);rw[tT W,zG,yC,xF,tr V_,<-sj] at zA;obtain⟨d,yb⟩:∃d,(u.dir k).seen=d:=⟨_,rfl⟩;rw[yb] at zz zA;have yF:=kE zA;rw[Wx] at yF;refine ko (aN @dh @yF) ?_;refine Cw.world fun w1 zt=>?_;obtain⟨Q,off,arr,E,fz,yG,yc⟩:=zA.qE7 (z:=[]) (by rw[Wx]) ((zt.perm (M:=D7++L6) Y4).part) vI;clear zt;have yd:=zl.ok.seen k W;have xL:=(yD k W).1;rw[zG,yb] at yd xL;have ye:∀c,c∈keys L6->0<d.length->Q≠c:=fun c hc h0 e=>by have h1:=aQ xJ hc;have h2:=yE.le Q (bO (yc (by rw[Wx];exact h0)));omega
  have xM:0<d.length->Sx.look (L6++D7) Q=some (.cells arr E fz):=fun h0=>by rw[cu (fun hm=>ye Q hm h0 rfl)];exact yc (by rw[Wx];exact h0)
  have xN:XG (L6++D7) G (dF (u,A) k).1:=zl.mono fun b o h=>a_ h;have xO:Sx.look (L6++D7) bk=some (cM v6):=a_ yB;have xP:Ext w X (L6++D7):=⟨fun c hc=>by
   rw[aV] at hc;rcases Wu.1 hc with h|h
   .exact ya.new c h
   exact .inr (Xq xK (yE.le c h)),fun c hc=>by rw[aV];exact aq _ (ya.all c hc)⟩
  have z2:∀n,n< (dF (u,A) k).1.files.length->G.fb.getD n 0∈keys L6:=fun n hn=>bO (zl.file n hn);have xQ:=bO yB;clear yc zA;generalize L6++D7=L7 at*;refine Cw.VU (G:=C4G) [79,80,81,13,82,83,84,85,86,87,88,89,90,91,92,14,93,94,95,96,97,98,99,100,101,102,103,104,105,106,107,108,109,110,111,112,113,114,115,116,117,118,119,120,121,122,123,124,125,126,78] (fun g=>[(78,vi g.j)]) (fun g=>g.L) (fun g=>g.j<=d.length/\XG g.L G ((d.take g.j).foldl ct (dF (u,A) k)).1/\Sx.look g.L bk=some (cM g.v)/\PkS w g.v ((d.take g.j).foldl ct (dF (u,A) k)).2/\PkB w X ((d.take g.j).foldl ct (dF (u,A) k)).2 g.v/\Ext w X g.L/\((d.take g.j).foldl ct (dF (u,A) k)).2.length<1000000/\(0<d.length->Sx.look g.L Q=some (.cells arr E fz))) (fun g=>d.length - g.j) ⟨0,L7,v6⟩ rfl rfl ?_ ?_
  .exact⟨aR _,xN,xO,xG,xH,xP,xI,xM⟩
  intro g j K;refine kv ?_;obtain⟨j,Z,v8⟩:=g;simp only at K |-;obtain⟨hj,H,zm,zB,zn,yf,zH,xR⟩:=K;by_cases J:j<d.length
  .have d2:decide ((j:Int)< (d.length:Int))=true:=aP oM;have zv:j< (d.map Prod.fst).length:=by rw[Wx];exact J
   have zw:=yG.idx false j zv;rw[Nat.mul_one] at zw;have zf:=fun n=>ns yG zv n;have yH:=xR oM;have z3:=aO (w0:=w) yH;have hp:d[j]'J∈d:=Y3 _;have xS:(d.map Prod.fst).getD j []=(d[j]'J).1:=by simp[List.getD_eq_getElem?_getD,J]
   have xT:d.take (j+1)=d.take j++[d[j]'J]:=by rw[List.take_add_one];simp[J]
   rw[xS] at zf;generalize d[j]'J=p at*;obtain⟨x,n⟩:=p;have yI:((d.take j).foldl ct (dF (u,A) k)).1.dir=u.dir:=by rw[sO,pI]
   have zC:((d.take (j+1)).foldl ct (dF (u,A) k))=ct ((d.take j).foldl ct (dF (u,A) k)) (x,n):=by rw[xT,List.foldl_append];rfl
   generalize (d.take j).foldl ct (dF (u,A) k)=q8 at*;obtain⟨B,p8⟩:=q8;simp only at H zB zH yI zf;have yJ:(B.dir k).seen=d:=by rw[yI];exact yb
   obtain⟨om,zN,hM⟩:=H.dirs;obtain⟨os,ms,xU,xV,zy⟩:=H.seen k W;rw[yJ] at zy;have xW:aL d x=some n:=pb yd.nodup hp;have zI:n<B.files.length:=H.ok.seenN k W _ (by rw[yJ];exact hp);have yK:=aO (w0:=w) H.disk;have xX:=aO (w0:=w) (H.dir k W);have yg:=H.file n zI;have yL:=aO (w0:=w) yg;have zO:au (some (G.d k))=vp (G.d k) 0:=rfl;have xY:au (some (G.fb.getD n 0))=vp (G.fb.getD n 0) 0:=rfl;refine ky (qS4 @dh @d2 @zw @zf @z3 @yK) ?_;refine kq (aN @dh @yK) ?_;refine Ow.XQ (encK:=vs) (encV:=au) (k:=bT k) (z:=none) rfl rfl underlying69 fQ qr7 rfl rfl (aO zN) hM ?_;rw[rA,jP W];show Ow _ _ _ _ _ _ _ _;refine ko (qS1 @dh @zO @xX) ?_;refine Ow.XQ (encK:=vs) (encV:=au) (k:=x) (z:=none) rfl rfl underlying76 fQ qg0 rfl rfl (aO xU) xV ?_;rw[zy.get yd.nodup,xW];show Ow _ _ _ _ _ _ _ _;refine ko (aN @dh @xY) ?_;have yM:=kW H.ok zI;have yN:aG w Z (G.fb.getD n 0)=some (cG (aC B n)):=yL;have xZ:B.files.getD n bV=aC B n:=rfl;rw[xZ] at yg;clear yL;have x0:ct (B,p8) (x,n)=(dJ B n ⟨(aC B n).data.take ((aC B n).stl+fG p8 ((aC B n).data.length - (aC B n).stl)),((aC B n).data.take ((aC B n).stl+fG p8 ((aC B n).data.length - (aC B n).stl))).length⟩,p8.drop 1):=rfl;rw[x0] at zC;have wo:=rD p8 ((aC B n).data.length - (aC B n).stl);generalize aC B n=f at*;have x1:(f.data.length:Int) - (f.stl:Int)=((f.data.length - f.stl:Nat):Int):=by omega
   refine Cw.Yh [G.fb.getD n 0] [25] 26 kR rfl ?_;refine kyc ?_;refine Xx.run [0,1,2,3,4,5,6,7,8,9,10,11,12,13,14,15,16,17,18,19] [true,true,true,true,true,true,true,true,true,true,true,true,true,true,true,true,true,true,true,true,false,false,false,false,false,false] 6 rfl kR kR fun k hk=>?_;refine WQ ?_;refine kp (qS2 @dh @Md.Ww @yN @x1) ?_
   (with_reducible refine hk _ _ _ ?_);clear hk k
   refine Xx.one 20 _ kR rfl ?_;refine Ow.qb3 (b:=vi ((f.data.length - f.stl:Nat):Int)) (ars:=#[vi ((f.data.length - f.stl:Nat):Int),vp bk 0]) rfl (X:=Z) (Y:=[]) (VX _).symm rfl rfl rfl rfl call58 (fun R za ze zq=>Va.chunk ze zq (bO zm) (s5 (f.data.length - f.stl) bk v8 p8 R oM (zB.Wo za fun T b l=>yf.not (zn T b l).1 (zn T b l).2) zH (fun T e=>by have:=(zn T bk e).1;omega) (ze _ (bU zm)))) (fun r D hC hS=>?_);rw[VX];obtain⟨o,rfl,rfl,v9,rfl,zQ,zR⟩:=hS;obtain⟨zS,zT⟩:=tZ zB zQ zR;have x2:=yf.Xt hC;have x3:=H.qI4 zm (cM v9);have x4:∀b o,Sx.look Z b=some o->Xo o≠some 39->Sx.look (Vh Z bk (cM v9)) b=some o:=fun b o l ht=>eV zm l ht;have zD:Sx.look (Vh Z bk (cM v9)) (G.fb.getD n 0)=some (cG f):=x4 _ _ yg (by simp[Xo,cG]);have yO:Sx.look (Vh Z bk (cM v9)) bk=some (cM v9):=cY zm;have x5:Sx.look (Vh Z bk (cM v9)) Q=some (.cells arr E fz):=by rw[bE (fun e=>ye bk xQ oM e.symm)];exact yH
   have x6:=aO (w0:=w) zD;generalize fG p8 (f.data.length - f.stl)=m at*;have x7:(f.stl:Int)+ (m:Int)=((f.stl+m:Nat):Int):=by omega
   have yP:bk≠G.fb.getD n 0:=fun e=>by rw[<-e,yO] at zD;simp[cG,cM] at zD
   generalize Vh Z bk (cM v9)=L9 at*;have z7:=fun x=>sY f (f.data.take (f.stl+m)) x;refine Ow.nil ?_;refine⟨(fun b l=>by rw[VZ] at l;subst l;rw[yN,x6]),?_⟩;refine kyb ?_;refine Xx.rest [21,22,23,24,25] rfl kR kR ?_;refine WQ ?_;refine kq (aN @dh @x7) ?_;refine Ow.store rfl rfl rfl (ke (qS1 @dh @zD @z7)) ?_;have yQ:(f.data.take (f.stl+m)).length<=f.data.length:=by rw[W3];omega
   have x8:f.stl<= (f.data.take (f.stl+m)).length:=by rw[W3];omega
   have yR:Sx.look (Vh L9 (G.fb.getD n 0) (cG ⟨f.data.take (f.stl+m),f.stl⟩)) (G.fb.getD n 0)=some (cG ⟨f.data.take (f.stl+m),f.stl⟩):=cY zD;have x9:=aO (w0:=w) yR;have wa:=fun x=>rZ ⟨f.data.take (f.stl+m),f.stl⟩ (f.data.take (f.stl+m)).length x;have yS:=qB (n:=n) (f:=⟨f.data.take (f.stl+m),f.stl⟩) H.ok ⟨Xq yQ yM.1,x8⟩;have wb:=x3.qe4 zI ⟨f.data.take (f.stl+m),f.stl⟩ yS;have wc:=qB (n:=n) (f:=⟨f.data.take (f.stl+m),(f.data.take (f.stl+m)).length⟩) yS ⟨Xq yQ yM.1,aj _⟩;have yT:=wb.qe4 (by rw[X8];exact zI) ⟨f.data.take (f.stl+m),(f.data.take (f.stl+m)).length⟩ wc;simp only[List.set_set] at yT;have wd:=(x2.Vh (b:=G.fb.getD n 0) (o:=cG ⟨f.data.take (f.stl+m),f.stl⟩)).Vh (b:=G.fb.getD n 0) (o:=cG ⟨f.data.take (f.stl+m),(f.data.take (f.stl+m)).length⟩);have yU:Q≠G.fb.getD n 0:=ye _ (z2 n (by have:=zl.len;have:=H.len;omega)) oM;have we:Sx.look (Vh (Vh L9 (G.fb.getD n 0) (cG ⟨f.data.take (f.stl+m),f.stl⟩)) (G.fb.getD n 0) (cG ⟨f.data.take (f.stl+m),(f.data.take (f.stl+m)).length⟩)) bk=some (cM v9):=by rw[bE (Wq yP),bE (Wq yP)];exact yO
   have wf:Sx.look (Vh (Vh L9 (G.fb.getD n 0) (cG ⟨f.data.take (f.stl+m),f.stl⟩)) (G.fb.getD n 0) (cG ⟨f.data.take (f.stl+m),(f.data.take (f.stl+m)).length⟩)) Q=some (.cells arr E fz):=by rw[bE (Wq yU),bE (Wq yU)];exact x5
   refine ko (qS3 @dh @dq @x9 @yR @wa) ?_;refine ky @dh ?_;exact Vo.mk ⟨j+1,Vh (Vh L9 (G.fb.getD n 0) (cG ⟨f.data.take (f.stl+m),f.stl⟩)) (G.fb.getD n 0) (cG ⟨f.data.take (f.stl+m),(f.data.take (f.stl+m)).length⟩),v9⟩ (by show d.length - (j+1)<d.length - j;omega) ⟨J,by rw[zC];exact yT,we,by rw[zC];exact zS,by rw[zC];exact zT zn,wd,by rw[zC];show(p8.drop 1).length<1000000;rw[XC];omega,fun _=>wf⟩ rfl rfl
  obtain rfl:j=d.length:=by omega
  have d2:decide ((d.length:Int)< (d.length:Int))=false:=aW oM;rw[WH] at H zB zn zH;refine ky (aN @dh @d2) ?_;refine ky @dh ?_;exact Vo.mk ⟨k+1,Z,v8⟩ (by show 3 - (k+1)<3 - k;omega) ⟨W,by rw[zz];exact H,zm,by rw[zz];exact zB,by rw[zz];exact zn,yf,by rw[zz];exact zH⟩ rfl rfl
 obtain rfl:k=3:=by omega
 have d6:decide (((3:Nat):Int)<3)=false:=rfl;refine ky (aN @dh @d6) ?_;refine⟨_,(ke @dh),?_⟩;exact⟨ya,G,rfl,zl⟩
def iz(d:Yz):Prop:=d.Vl.foldl bY d.stl=d.seen/\p9 d
def dw(S:h8):Prop:= ∀k,iz (S.dir k)
def rH(l:W_):iz ⟨l,l,[]⟩:=⟨rfl,fun i a=>Vx a (Yy i)⟩
def K4{d:Yz}{c:Wy}(h:iz d)(a:okC d.seen c):iz ⟨bY d.seen c,d.stl,d.Vl++[c]⟩:=by
 refine⟨by show(d.Vl++[c]).foldl bY d.stl=_;rw[List.foldl_append,h.1];rfl,fun i b=>?_⟩;have f:i< (d.Vl++[c]).length:=b;show okC (((d.Vl++[c]).take i).foldl bY d.stl) ((d.Vl++[c]).getD i fV);by_cases e:i<d.Vl.length
 .rw[List.take_append_of_le_length oM,List.getD_eq_getElem?_getD,List.getElem?_append_left e,<-List.getD_eq_getElem?_getD];exact h.2 i e
 rw[VV,List.length_singleton] at f;obtain rfl:i=d.Vl.length:=by omega
 rw[List.take_append_of_le_length (aj _),WH,h.1,List.getD_eq_getElem?_getD,List.getElem?_append_right (aj _),Nat.sub_self];exact a
def jO{S S':h8}(h:dw S)(e:S'.dir=S.dir):dw S':=fun k=>by rw[e];exact h k
def DF{S:h8}(h:dw S){k:Nat}{d:Yz}(a:iz d):dw (cT S k d):=fun j=>by
 by_cases e:j=k
 .subst e;rw[dt];exact a
 rw[e7 _ _ e];exact h j
def DP{S:h8}(h:dw S){k:Nat}{c:Wy}(a:okC (S.dir k).seen c):dw (b_ S k c):=DF h (K4 (h k) a)
def rG{S:h8}(h:dw S):dw (aD S).1:=jO h (d7 S).1
def NQ(q:Int):dw (dN q):=fun _=>rH []
def Gv{S:h8}(h:dw S)(dir name s:No):dw (bD S dir name s).1:=by
 unfold bD
 split
 .exact h
 split
 .exact h
 split
 .exact h
 split
 .exact rG h
 exact jO (rG h) rfl
def Lm{S:h8}(h:dw S)(dir name:No):dw (az S dir name).1:=by
 unfold az
 split
 .exact h
 split
 .exact h
 split
 .exact rG h
 exact jO (rG h) rfl
theorem Ur{q:h8×List UInt16}(h:dw q.1):∀k,dw (cS q k).1
 |0=>h
 |k+1=>DF (Ur h k) (rH _)
def EU{S:h8}(h:dw S)(pl:List UInt16):dw (du S pl):=by unfold du;refine jO (S:=dQ (cS (S,pl) 3).1) ?_ (pI _ 3);exact jO (Ur (q:=(S,pl)) h 3) rfl
def NmB(l:W_):Prop:= ∀p,p∈l->p.1.length<=1000000
def jz(c:Wy):Prop:=c.a.length<=1000000/\c.b.length<=1000000
structure qh2(N:Nat)(d:Yz):Prop where
 seen:d.seen.length<=N
 stl:d.stl.length+d.Vl.length<=N
 seenB:NmB d.seen
 stlB:NmB d.stl
 pendB:∀c,c∈d.Vl->jz c
def Zo(N:Nat)(S:h8):Prop:= ∀k,qh2 N (S.dir k)
def Zo.b{N:Nat}{S:h8}(h:Zo N S)(a:N<=1000000):DkB S:=fun k _=>⟨Xq (h k).seen a,(h k).seenB⟩
def qh2.mono{N M:Nat}{d:Yz}(h:qh2 N d)(a:N<=M):qh2 M d:=⟨Xq h.seen a,Xq h.stl a,h.seenB,h.stlB,h.pendB⟩
theorem Zo.mono{N M:Nat}{S:h8}(h:Zo N S)(a:N<=M):Zo M S:=fun k=>(h k).mono a
def CP(l:W_)(s:No):(bl l s).length<=l.length:=List.length_filter_le _ _
def Bv(l:W_)(x:No×Nat):(dU l x).length<=l.length+1:=by have a:=(l_ x (bl l x.1)).length_eq;have b:=CP l x.1;rw[Wt] at a;show(ZP (bl l x.1) x).length<=_;omega
def uE(l:W_)(c:Wy):(bY l c).length<=l.length+1:=by
 unfold bY
 split
 .exact Bv l _
 .have a:=Bv (bl l c.a) (c.b,(aL l c.a).getD 0);have b:=CP l c.a;omega
 exact ZA (CP l _)
def oD{l:W_}(h:NmB l)(s:No):NmB (bl l s):=fun p a=>h p (List.mem_filter.1 a).1
def oz{l:W_}(h:NmB l){x:No×Nat}(a:x.1.length<=1000000):NmB (dU l x):=fun p b=>by
 have:=(l_ x (bl l x.1)).mem_iff.1 b;rcases Vw.1 this with rfl|c
 .exact a
 exact oD h _ p c
def z'{l:W_}(h:NmB l){c:Wy}(a:jz c):NmB (bY l c):=by
 unfold bY
 split
 .exact oz h a.1
 .exact oz (oD h _) a.2
 exact oD h _
theorem o5:∀ (a:List Wy) {l:W_},NmB l->(∀c,c∈a->jz c)->NmB (a.foldl bY l)/\(a.foldl bY l).length<=l.length+a.length
 | [],l,h,_=>⟨h,aj _⟩
 |c::a,l,h,hc=>by have b:=o5 a (z' h (hc c aX)) (fun d e=>hc d (ah _ e));have f:=uE l c;refine⟨b.1,?_⟩;have g:=b.2;rw[Wt];show(List.foldl bY (bY l c) a).length<=_;omega
def NK{N:Nat}{d:Yz}{c:Wy}(h:qh2 N d)(b:jz c):qh2 (N+1) ⟨bY d.seen c,d.stl,d.Vl++[c]⟩ where
 seen:=by have:=uE d.seen c;have:=h.seen;show(bY d.seen c).length<=_;omega
 stl:=by have:=h.stl;show d.stl.length+ (d.Vl++[c]).length<=_;rw[VV,List.length_singleton];omega
 seenB:=z' h.seenB b
 stlB:=h.stlB
 pendB:=fun e a=>by
  rcases Wu.1 a with a|a
  .exact h.pendB e a
  rw[VZ.1 a];exact b
def Ck{N:Nat}{l:W_}(h:l.length<=N)(a:NmB l):qh2 N ⟨l,l,[]⟩:=⟨h,h,a,a,fun c b=>by cases b⟩
def Bu{N:Nat}{S:h8}(h:Zo N S){k:Nat}{d:Yz}(a:qh2 N d):Zo N (cT S k d):=fun j=>by
 by_cases e:j=k
 .subst e;rw[dt];exact a
 rw[e7 _ _ e];exact h j
def kC{N:Nat}{S S':h8}(h:Zo N S)(e:S'.dir=S.dir):Zo N S':=fun k=>by rw[e];exact h k
def nC{N:Nat}{S:h8}(h:Zo N S){k:Nat}{c:Wy}(a:jz c):Zo (N+1) (b_ S k c):=Bu (h.mono (Nat.le_succ N)) (NK (h k) a)
theorem qL{N:Nat}{q:h8×List UInt16}(h:Zo N q.1):∀k,Zo N (cS q k).1
 |0=>h
 |k+1=>by have b:=qL h k;have a:=b k;show Zo N (gs (cS q k) k).1;generalize cS q k=r at*;refine Bu b ?_;have d:=o5 ((r.1.dir k).Vl.take (fG r.2 (r.1.dir k).Vl.length)) a.stlB (fun c e=>a.pendB c (List.mem_of_mem_take e));refine Ck ?_ d.1;have f:=d.2;rw[W3] at f;have g:=a.stl;show(List.foldl bY _ _).length<=N;omega
def Dq{N:Nat}{S:h8}(h:Zo N S)(pl:List UInt16):Zo N (du S pl):=by unfold du;refine kC (S:=dQ (cS (S,pl) 3).1) ?_ (pI _ 3);exact kC (qL (q:=(S,pl)) h 3) rfl
def wQ(q:Int):Zo 0 (dN q):=fun _=>Ck (aj 0) fun _ h=>by cases h
def Im(X:aA)(G:XE)(S:h8)(n:Int)(w:hW)(b:∀p,p∈X->w.heap[p.1]? =some p.2)(e:(keys X).Nodup)(a:XG X G S)(c: -9223372036854775808<=n/\n<9223372036854775808):
  Va prog 20 #[vp G.bd 0,vi n] w (XS w X (fun v D=>v=bS []/\ ∃d,d.bd=G.bd/\XG D d {S with Wv:=n,fused:=decide (0<=n)})):=by
 refine Va.mono (Va.chunk b e (bO a.disk) (IQ G.bd G.bm S n w (b _ (bU a.disk)))) ?_;rintro v D ⟨f,o,rfl,rfl,rfl⟩;exact⟨f,rfl,G,rfl,a.Yt {S with Wv:=n,fused:=decide (0<=n)} rfl rfl ⟨a.ok.seen,a.ok.stl,a.ok.seenN,a.ok.stlN,a.ok.pendN,a.ok.file,⟨c.1,c.2,fun h=>by simpa using h⟩,a.ok.max⟩⟩
def Hn(S:h8)(f:XU)(h:∀k,(S.dir k).Vl=[]/\(S.dir k).stl=[]):∀k,((bx S f).dir k).Vl=[]/\((bx S f).dir k).stl=[]:=by
 intro k;unfold bx
 split
 .rename_i j a
  split
  .by_cases e:k=j
   .subst e;rw[dt];exact⟨(h k).1,(h k).2⟩
   rw[e7 _ _ e];exact h k
  exact h k
 exact h k
def rQ(l:List XU):∀ (S:h8),(∀k,(S.dir k).Vl=[]/\(S.dir k).stl=[])-> ∀k,((l.foldl bx S).dir k).Vl=[]/\((l.foldl bx S).dir k).stl=[]:=by
 induction l with
 |nil=>exact fun _ h=>h
 |cons f l a=>exact fun S h=>a _ (Hn S f h)
def Ol{N:Nat}{S:h8}(h:Zo N S)(f:XU)(a:f.name.length<=1000000):Zo (N+1) (bx S f):=by
 unfold bx
 split
 .split
  .rename_i k b c;refine Bu (kC (h.mono (Nat.le_succ N)) rfl) ⟨?_,ZA (h k).stl,oz (h k).seenB a,(h k).stlB,(h k).pendB⟩;have d:=Bv (S.dir k).seen (f.name,S.files.length);have e:=(h k).seen;show(dU (S.dir k).seen (f.name,S.files.length)).length<=N+1;omega
  exact h.mono (Nat.le_succ N)
 exact h.mono (Nat.le_succ N)
theorem uW:∀ (l:List XU) {N:Nat} {S:h8},Zo N S->(∀f,f∈l->f.name.length<=1000000)->Zo (N+l.length) (l.foldl bx S)
 | [],_,_,h,_=>h
 |f::l,N,S,h,hf=>by have a:=uW l (Ol h f (hf f aX)) (fun g b=>hf g (ah _ b));rw[Wt,show N+ (l.length+1)=N+1+l.length by omega];exact a
def Jd(S:h8)(f:XU)(h:∀k,3<=k->(S.dir k).seen=[]):∀k,3<=k->((bx S f).dir k).seen=[]:=by
 intro k a;unfold bx
 split
 .rename_i j b
  split
  .have c:=(cN b).1;rw[e7 _ _ oM];exact h k a
  exact h k a
 exact h k a
def KS(l:List XU):∀ (S:h8),(∀k,3<=k->(S.dir k).seen=[])-> ∀k,3<=k->((l.foldl bx S).dir k).seen=[]:=by
 induction l with
 |nil=>exact fun _ h=>h
 |cons f l a=>exact fun S h=>a _ (Jd S f h)
def C3(S:h8)(k:Nat):(ZE S [0,1,2]).dir k=if k∈ [0,1,2] then⟨(S.dir k).seen,(S.dir k).seen,[]⟩ else S.dir k:=rfl
def wJ(q:Int)(l:List XU):dw (ofD q l):=fun k=>by
 have e:=rQ l (dN q) (fun _=>⟨rfl,rfl⟩) k;have g:=KS l (dN q) (fun _ _=>rfl) k;unfold ofD;rw[C3];generalize l.foldl bx (dN q)=S at*
 split
 .exact rH _
 rename_i h;have i:3<=k:=by simp only[Vw,WI,WB,not_or] at h;omega
 have f:=g i;generalize S.dir k=d at*;obtain⟨a,b,c⟩:=d;simp only at e f;obtain⟨rfl,rfl⟩:=e;subst f;exact rH []
def Sb(q:Int)(l:List XU)(b:∀f,f∈l->f.name.length<=1000000):Zo l.length (ofD q l):=fun k=>by
 have a:=uW l (wQ q) b k;rw[Xg] at a;unfold ofD;rw[C3]
 split
 .exact Ck a.seen a.seenB
 exact a
def qf{N:Nat}{S:h8}(h:Zo N S):Zo N (aD S).1:=kC h (d7 S).1
def jb{N:Nat}{S:h8}(h:Zo N S):Zo (N+1) S:=h.mono (Nat.le_succ N)
def Jf{N:Nat}{S:h8}(h:Zo N S)(dir name s:No):Zo N (bD S dir name s).1:=by
 unfold bD
 split
 .exact h
 split
 .exact h
 split
 .exact h
 split
 .exact qf h
 exact kC (qf h) rfl
def O6{N:Nat}{S:h8}(h:Zo N S)(dir name:No):Zo N (az S dir name).1:=by
 unfold az
 split
 .exact h
 split
 .exact h
 split
 .exact qf h
 exact kC (qf h) rfl
theorem Bx{S:h8}(ok:XK S):∀ (l:W_),(∀p,p∈l->p.2<S.files.length)->dK S l<=l.length*1048576
 | [],_=>aR _
 |p::l,h=>by have c:=Bx ok l fun a b=>h a (ah _ b);have d:=(kW ok (h p aX)).1;unfold dK aC at*;rw[VY,List.sum_cons,Wt];omega
def w5{N:Nat}{S:h8}(ok:XK S)(h:Zo N S):ej S<=3* (N*1048576):=by have a:=Bx ok _ (ok.seenN 0 oM);have b:=Bx ok _ (ok.seenN 1 oM);have c:=Bx ok _ (ok.seenN 2 oM);have d:=Y0 1048576 (h 0).seen;have e:=Y0 1048576 (h 1).seen;have f:=Y0 1048576 (h 2).seen;unfold ej;omega
def qb7{l:W_}{s:No}{p:No×Nat}:p∈bl l s↔p∈l/\p.1≠s:=by
 unfold bl;rw[List.mem_filter]
 constructor
 .rintro⟨b,a⟩;exact⟨b,fun e=>by rw[e] at a;simp at a⟩
 rintro⟨b,a⟩;exact⟨b,by simpa using Wq a⟩
def qe3{l:W_}{x p:No×Nat}:p∈dU l x↔p=x\/(p∈l/\p.1≠x.1):=by unfold dU;rw[(l_ x _).mem_iff,Vw,qb7]
def vr{l:W_}{c:Wy}{p:No×Nat}(i:okC l c)(h:p∈bY l c):(c.kind=0/\p=(c.a,c.n))\/(c.kind=1/\ ∃m,aL l c.a=some m/\p=(c.b,m))\/(p∈l/\p.1≠c.a/\(c.kind=1->p.1≠c.b)):=by
 unfold bY at h
 split at h
 .rename_i a;rcases qe3.1 h with rfl| ⟨b,f⟩
  .exact .inl ⟨a,rfl⟩
  exact .inr (.inr ⟨b,f,fun e=>by rw[a] at e;cases e⟩)
 .rename_i a;cases g:aL l c.a with
  |none=>exact Vx g (i a).1
  |some m=>
   rw[g] at h;rcases qe3.1 h with rfl| ⟨b,f⟩
   .exact .inr (.inl ⟨a,m,rfl,rfl⟩)
   have d:=qb7.1 b;exact .inr (.inr ⟨d.1,d.2,fun _=>f⟩)
 rename_i j b;have d:=qb7.1 h;exact .inr (.inr ⟨d.1,d.2,fun e=>Vx e b⟩)
def g8(S:h8):Prop:= ∀j k,j<3->k<3-> ∀p,p∈ (S.dir j).seen-> ∀a,a∈ (S.dir k).seen->p.2=a.2->j=k/\p=a
def kc{S S':h8}(h:g8 S)(e:∀k,k<3->(S'.dir k).seen=(S.dir k).seen):g8 S':=fun j k a b p c f d=>by rw[e j a] at c;rw[e k b] at d;exact h j k a b p c f d
def mV(S:h8)(k j:Nat)(c:Wy):((b_ S k c).dir j).seen=if j=k then bY (S.dir k).seen c else(S.dir j).seen:=by
 unfold b_;by_cases e:j=k
 .subst e;rw[dt,Vb rfl]
 rw[e7 _ _ e,tr e]
def r3{S:h8}{k j:Nat}{c:Wy}{p:No×Nat}(d:okC (S.dir k).seen c)(h:p∈ ((b_ S k c).dir j).seen):
  (p∈ (S.dir j).seen/\(j=k->p.1≠c.a/\(c.kind=1->p.1≠c.b)))\/(j=k/\c.kind=0/\p=(c.a,c.n))\/(j=k/\c.kind=1/\ ∃m,aL (S.dir k).seen c.a=some m/\p=(c.b,m)):=by
 rw[mV] at h;by_cases e:j=k
 .rw[Vb e] at h;subst e;rcases vr d h with⟨a,b⟩ | ⟨a,b⟩ | ⟨a,b⟩
  .exact .inr (.inl ⟨rfl,a,b⟩)
  .exact .inr (.inr ⟨rfl,a,b⟩)
  exact .inl ⟨a,fun _=>b⟩
 rw[tr e] at h;exact .inl ⟨h,fun f=>Vx f e⟩
def Bq{S:h8}(h:g8 S){k:Nat}{c:Wy}(w:k<3)(l:okC (S.dir k).seen c)(s:c.kind=0-> ∀j,j<3-> ∀d,d∈ (S.dir j).seen->d.2≠c.n):g8 (b_ S k c):=by
 intro i j n o p u d q e;rcases r3 l u with⟨b,v⟩ | ⟨rfl,b,rfl⟩ | ⟨rfl,b,m,t,rfl⟩
 .rcases r3 l q with⟨a,r⟩ | ⟨rfl,a,rfl⟩ | ⟨rfl,a,m,f,rfl⟩
  .exact h i j n o p b d a e
  .exact Vx e (s a i n p b)
  have g:=h i j n o p b _ (eY f) e;exact Vx (by rw[g.2]) (v g.1).1
 .rcases r3 l q with⟨a,r⟩ | ⟨rfl,a,rfl⟩ | ⟨rfl,a,m,f,rfl⟩
  .exact Vx e.symm (s b j o d a)
  .exact⟨rfl,rfl⟩
  rw[b] at a;cases a
 rcases r3 l q with⟨a,r⟩ | ⟨rfl,a,rfl⟩ | ⟨rfl,a,x,f,rfl⟩
 .have g:=h j i o n d a _ (eY t) e.symm;exact Vx (by rw[g.2]) (r g.1).1
 .rw[b] at a;cases a
 rw[t] at f;cases f;exact⟨rfl,rfl⟩
def LtS(S:h8):Prop:= ∀k,k<3-> ∀p,p∈ (S.dir k).seen->p.2<S.files.length
def Mk{S:h8}(h:g8 S)(m:LtS S){k:Nat}(u:k<3)(s:No)(f:WR){d:Yz}(r:d.seen=dU (S.dir k).seen (s,S.files.length)):g8 (cT (ci S f) k d)/\LtS (cT (ci S f) k d):=by
 have b:∀j p,p∈ ((cT (ci S f) k d).dir j).seen->p∈ (S.dir j).seen\/(j=k/\p=(s,S.files.length)):=fun j p a=>by
  by_cases e:j=k
  .subst e;rw[dt,r] at a;rcases qe3.1 a with rfl|t
   .exact .inr ⟨rfl,rfl⟩
   exact .inl t.1
  rw[e7 _ _ e] at a;exact .inl a
 constructor
 .intro i j o c p a g q e;rcases b i p a with l| ⟨rfl,rfl⟩
  .rcases b j g q with n| ⟨rfl,rfl⟩
   .exact h i j o c p l g n e
   have:=m i o p l;simp only at e;omega
  rcases b j g q with n| ⟨rfl,rfl⟩
  .have:=m j c g n;simp only at e;omega
  exact⟨rfl,rfl⟩
 intro j c p a;show p.2< (S.files++[f]).length;rw[VV,List.length_singleton];rcases b j p a with l| ⟨-,rfl⟩
 .have:=m j c p l;omega
 simp
def HU{S:h8}(h:g8 S/\LtS S)(f:XU):g8 (bx S f)/\LtS (bx S f):=by
 unfold bx
 split
 .rename_i k a
  split
  .exact Mk h.1 h.2 (cN a).1 _ _ rfl
  exact h
 exact h
def I6(l:List XU):∀ {S:h8},g8 S/\LtS S->g8 (l.foldl bx S)/\LtS (l.foldl bx S):=by
 induction l with
 |nil=>exact fun h=>h
 |cons f l a=>exact fun h=>a (HU h f)
def Lq(S:h8)(k:Nat):((ZE S [0,1,2]).dir k).seen=(S.dir k).seen:=by
 rw[C3]
 split
 .rfl
 rfl
def oC(q:Int)(l:List XU):g8 (ofD q l):=
 kc (I6 l (S:=dN q) ⟨fun _ _ _ _ p a=>(by cases a),fun _ _ p a=>(by cases a)⟩).1 fun k _=>Lq _ k
def doV(S:h8)(kind:Int)(dir name s:No):h8×Nat:=
 if kind=0 then cC S dir name else if kind=1 then bD S dir name s else if kind=2 then az S dir name else if kind=3 then dZ S dir else if kind=4 then cO S dir name s else if kind=5 then d5 S dir name else(S,0)
inductive Xc (S:h8) (kind:Int) (dir name s:No):h8->Nat->Prop
 |same (e:Nat) (h:e≠0\/(kind≠2/\kind≠3)):Xc S kind dir name s S e
 |Y5 (h:kind≠2/\kind≠3\/(aD S).2≠0):Xc S kind dir name s (aD S).1 (aD S).2
 |create (k:Nat) (hk:al dir=some k) (hf:bF name=true) (hn:aL (S.dir k).seen name=none) (hb:(aD S).2=0):Xc S kind dir name s (b_ (ci (aD S).1 bV) k ⟨0,name,[],S.files.length⟩) 0
 |append (k m:Nat) (hk:al dir=some k) (hm:aL (S.dir k).seen name=some m) (hf:fF S m s=false) (hb:(aD S).2=0):Xc S kind dir name s (dJ (aD S).1 m ⟨(aC S m).data++s,(aC S m).stl⟩) 0
 |sync (k m:Nat) (hk:al dir=some k) (hm:aL (S.dir k).seen name=some m) (hb:(aD S).2=0):Xc S kind dir name s (dJ (aD S).1 m ⟨(aC S m).data,(aC S m).data.length⟩) 0
 |syncDir (k:Nat) (hk:al dir=some k) (hb:(aD S).2=0):Xc S kind dir name s (eW (aD S).1 k) 0
 |rename (k m:Nat) (h4:kind=4) (hk:al dir=some k) (hm:aL (S.dir k).seen name=some m) (hf:bF s=true) (VR:name≠s) (hb:(aD S).2=0):Xc S kind dir name s (b_ (aD S).1 k ⟨1,name,s,0⟩) 0
 |remove (k m:Nat) (hk:al dir=some k) (hm:aL (S.dir k).seen name=some m) (hb:(aD S).2=0):Xc S kind dir name s (b_ (aD S).1 k ⟨2,name,[],0⟩) 0
def l6{S:h8}{dir name:No}{m:Nat}(h:atD S dir name=some m):∃k,al dir=some k/\aL (S.dir k).seen name=some m:=by
 unfold atD at h;cases a:al dir with
 |none=>rw[a] at h;cases h
 |some k=>rw[a] at h;exact⟨k,rfl,h⟩
def QA{S:h8}{dir name:No}{k:Nat}(a:al dir=some k)(h:atD S dir name=none):aL (S.dir k).seen name=none:=by unfold atD at h;rw[a] at h;exact h
def Cb{S:h8}{dir:No}{names:List No}(h:bi S dir names=0):∃k,al dir=some k/\names.all bF=true:=by
 obtain⟨a,b,-⟩:=Je h;cases c:al dir with
 |none=>exact Vx c a
 |some k=>exact⟨k,rfl,b⟩
def qF(S:h8)(dir name s:No):Xc S 0 dir name s (cC S dir name).1 (cC S dir name).2:=by
 unfold cC
 split
 .exact .same _ (.inr ⟨by decide,by decide⟩)
 rename_i b
 split
 .exact .same _ (.inr ⟨by decide,by decide⟩)
 rename_i c
 split
 .exact .Y5 (.inl ⟨by decide,by decide⟩)
 rename_i d;obtain⟨k,a,e⟩:=Cb (S:=S) (dir:=dir) (names:=[name]) (by simpa using b);rw[a];exact .create k a (by simpa using e) (QA a c) (by simpa using d)
def kP(S:h8)(dir name s:No):Xc S 5 dir name s (d5 S dir name).1 (d5 S dir name).2:=by
 unfold d5
 split
 .exact .same _ (.inr ⟨by decide,by decide⟩)
 split
 .exact .same _ (.inr ⟨by decide,by decide⟩)
 rename_i m b
 split
 .exact .Y5 (.inl ⟨by decide,by decide⟩)
 rename_i c;obtain⟨k,a,d⟩:=l6 b;rw[a];exact .remove k m a d (by simpa using c)
def qE(S:h8)(dir name s:No):Xc S 4 dir name s (cO S dir name s).1 (cO S dir name s).2:=by
 unfold cO
 split
 .exact .same _ (.inr ⟨by decide,by decide⟩)
 rename_i c
 split
 .exact .same _ (.inr ⟨by decide,by decide⟩)
 rename_i m d
 split
 .exact .Y5 (.inl ⟨by decide,by decide⟩)
 rename_i e
 split
 .exact .Y5 (.inl ⟨by decide,by decide⟩)
 rename_i f;obtain⟨k,a,g⟩:=l6 d;obtain⟨-,-,b⟩:=Cb (S:=S) (dir:=dir) (names:=[name,s]) (by simpa using c);simp only[List.all_cons,List.all_nil,Bool.and_true,WK] at b;rw[a];exact .rename k m rfl a g b.2 e (by simpa using f)
def kO(S:h8)(dir name s:No):Xc S 1 dir name s (bD S dir name s).1 (bD S dir name s).2:=by
 unfold bD
 split
 .exact .same _ (.inr ⟨by decide,by decide⟩)
 split
 .exact .same _ (.inr ⟨by decide,by decide⟩)
 rename_i m a
 split
 .exact .same _ (.inr ⟨by decide,by decide⟩)
 rename_i b
 split
 .exact .Y5 (.inl ⟨by decide,by decide⟩)
 rename_i c;obtain⟨k,d,e⟩:=l6 a;exact .append k m d e (by simpa using b) (by simpa using c)
def mT(S:h8)(dir name s:No):Xc S 2 dir name s (az S dir name).1 (az S dir name).2:=by
 unfold az
 split
 .rename_i b;exact .same _ (.inl b)
 split
 .exact .same _ (.inl (Nat.succ_ne_zero 5))
 rename_i m c
 split
 .rename_i a;exact .Y5 (.inr a)
 rename_i a;obtain⟨k,d,e⟩:=l6 c;exact .sync k m d e (by simpa using a)
def EY(S:h8)(dir name s:No):Xc S 3 dir name s (dZ S dir).1 (dZ S dir).2:=by
 unfold dZ
 split
 .rename_i a;exact .same _ (.inl a)
 rename_i a
 split
 .rename_i b;exact .Y5 (.inr b)
 rename_i b;obtain⟨k,c,-⟩:=Cb (S:=S) (dir:=dir) (names:=[]) (by simpa using a);rw[c];exact .syncDir k c (by simpa using b)
def Qs(S:h8)(kind:Int)(dir name s:No):Xc S kind dir name s (doV S kind dir name s).1 (doV S kind dir name s).2:=by
 unfold doV
 split
 .rename_i h;subst h;exact qF S dir name s
 split
 .rename_i h;subst h;exact kO S dir name s
 split
 .rename_i h;subst h;exact mT S dir name s
 split
 .rename_i h;subst h;exact EY S dir name s
 split
 .rename_i h;subst h;exact qE S dir name s
 split
 .rename_i h;subst h;exact kP S dir name s
 rename_i c d a b e f;exact .same 0 (.inr ⟨a,b⟩)
def lH{l:W_}{a b:No}{m:Nat}(h:aL l a=some m)(c:a≠b):okC l ⟨1,a,b,0⟩:=fun _=>⟨by rw[h];simp,c⟩
section
variable {S S':h8} {kind:Int} {dir name s:No} {e:Nat}
def nJ(h:Xc S kind dir name s S' e):S'.max=S.max:=by have a:=(d7 S).2.2;cases h<;>first|rfl|exact a
def pJ(S:h8)(k j:Nat):((eW S k).dir j).seen=(S.dir j).seen:=by
 unfold eW;by_cases e:j=k
 .subst e;rw[dt]
 rw[e7 _ _ e]
def MQ(ok:XK S)(i:g8 S)(h:Xc S kind dir name s S' e):g8 S':=by
 obtain⟨f,r,-⟩:=d7 S;have b:g8 (aD S).1:=kc i fun k _=>by rw[f]
 cases h with
 |same=>exact i
 |Y5=>exact b
 |create k a l t c=>
  refine Bq (kc b fun _ _=>rfl) (cN a).1 (fun e=>by cases e) (fun _ j n g o=>?_);have p:g∈ (S.dir j).seen:=by rw[<-f];exact o
  have:=ok.seenN j n g p;show g.2≠S.files.length;omega
 |append k m a d l c=>exact kc b fun _ _=>rfl
 |sync k m a d c=>exact kc b fun _ _=>rfl
 |syncDir k a c=>exact kc b fun j _=>pJ _ _ _
 |rename k m u a d l q c=>exact Bq b (cN a).1 (by rw[f];exact lH d q) (fun e=>by cases e)
 |remove k m a d c=>exact Bq b (cN a).1 (fun e=>by cases e) (fun e=>by cases e)
def pL(f:dw S)(h:Xc S kind dir name s S' e):dw S':=by
 obtain⟨i,l,-⟩:=d7 S;have a:=rG f;cases h with
 |same=>exact f
 |Y5=>exact a
 |create k b g n c=>exact DP (jO a rfl) (fun e=>by cases e)
 |append k m b d g c=>exact jO a rfl
 |sync k m b d c=>exact jO a rfl
 |syncDir k b c=>exact DF a (rH _)
 |rename k m o b d g j c=>exact DP a (by rw[i];exact lH d j)
 |remove k m b d c=>exact DP a (fun e=>by cases e)
def uf{N:Nat}(g:Zo N S)(d:name.length<=1000000)(j:s.length<=1000000)(h:Xc S kind dir name s S' e):Zo (N+1) S':=by
 have a:=qf g;cases h with
 |same=>exact jb g
 |Y5=>exact jb a
 |create k b i l c=>exact nC (kC a rfl) ⟨d,aR _⟩
 |append k m b f i c=>exact jb (kC a rfl)
 |sync k m b f c=>exact jb (kC a rfl)
 |syncDir k b c=>exact jb (Bu a (Ck (a k).seen (a k).seenB))
 |rename k m n b f i o c=>exact nC a ⟨d,j⟩
 |remove k m b f c=>exact nC a ⟨d,aR _⟩
end
def EB(S:h8)(p:No×Nat)(l:W_):dK S (p::l)=(aC S p.2).data.length+dK S l:=by unfold dK aC;rw[VY,List.sum_cons]
def iQ(S:h8){m:Nat}(f:WR)(a:m<S.files.length)(n:Nat):aC (dJ S m f) n=if n=m then f else aC S n:=by
 unfold aC dJ;simp only;rw[List.getD_eq_getElem?_getD,List.getD_eq_getElem?_getD];by_cases e:n=m
 .subst e;rw[Vb rfl,List.getElem?_set_self a];rfl
 rw[tr e,List.getElem?_set_ne (Wq e)]
def Dx(S:h8)(f:WR){n:Nat}(a:n<S.files.length):aC (ci S f) n=aC S n:=by unfold aC ci;exact ph _ _ a
def Ce(S:h8)(f:WR):aC (ci S f) S.files.length=f:=by unfold aC ci;exact mj _ _ rfl
def i8(S:h8)(n:Nat):aC (aD S).1 n=aC S n:=by unfold aC;rw[(d7 S).2.1]
section
variable {S S':h8} {kind:Int} {dir name s:No} {e:Nat}
end
theorem Cs(q:h8×List UInt16):∀k,(cS q k).1.files=q.1.files
 |0=>rfl
 |k+1=>Cs q k
theorem t_(q:h8×List UInt16){j:Nat}:∀ {k:Nat},j<k-> ∃i,i<= (q.1.dir j).Vl.length/\(cS q k).1.dir j=⟨bj q.1 j i,bj q.1 j i,[]⟩
 |k+1,h=>by
  show∃i,i<=_/\(cT (cS q k).1 k _).dir j=_;by_cases e:j=k
  .subst e;rw[dt];have a:=Bj q (aj j);refine⟨fG (cS q j).2 ((cS q j).1.dir j).Vl.length,?_,?_⟩
   .rw[a];exact rD _ _
   unfold bj;rw[a]
  rw[e7 _ _ e];exact t_ q oM
def CZ(S:h8)(pl:List UInt16){k:Nat}(a:k<3):∃i,i<= (S.dir k).Vl.length/\(du S pl).dir k=⟨bj S k i,bj S k i,[]⟩:=by obtain⟨i,b,c⟩:=t_ (S,pl) a;exact⟨i,b,by unfold du;rw[pI];exact c⟩
def qa8(f g:WR):Prop:=(∃t,g.data=f.data.take t)/\(f.stl=f.data.length->g.data=f.data/\g.stl=g.data.length)
def qa8.refl(f:WR):qa8 f f:=⟨⟨f.data.length,(WH).symm⟩,fun h=>⟨rfl,h⟩⟩
theorem qa8.trans{f g h:WR}(c:qa8 f g)(d:qa8 g h):qa8 f h:=by obtain⟨⟨t,i⟩,a⟩:=c;obtain⟨⟨j,k⟩,b⟩:=d;refine⟨⟨min j t,by rw[k,i,List.take_take]⟩,fun e=>?_⟩;obtain⟨l,m⟩:=a e;obtain⟨n,o⟩:=b m;exact⟨n.trans l,o⟩
def tB(S:h8){n:Nat}(h:S.files.length<=n):aC S n=bV:=by unfold aC;rw[List.getD_eq_getElem?_getD,List.getElem?_eq_none h];rfl
def EM(S:h8){m:Nat}(h:S.files.length<=m)(f:WR):dJ S m f=S:=by unfold dJ;rw[List.set_eq_of_length_le h]
def Io(q:h8×List UInt16)(p:No×Nat)(n:Nat):qa8 (aC q.1 n) (aC (ct q p).1 n):=by
 unfold ct;simp only;by_cases a:p.2<q.1.files.length
 .rw[iQ _ _ a];by_cases e:n=p.2
  .subst e;rw[Vb rfl];refine⟨⟨_,rfl⟩,fun h=>?_⟩;have b:(aC q.1 p.2).data.take ((aC q.1 p.2).stl+fG q.2 ((aC q.1 p.2).data.length - (aC q.1 p.2).stl))=(aC q.1 p.2).data:=Yo (by rw[<-h];omega);exact⟨b,rfl⟩
  rw[tr e];exact qa8.refl _
 rw[EM _ oM];exact qa8.refl _
def sZ(q:h8×List UInt16)(p:No×Nat)(n:Nat)(h:n=p.2\/(aC q.1 n).stl=(aC q.1 n).data.length):(aC (ct q p).1 n).stl=(aC (ct q p).1 n).data.length:=by
 unfold ct;simp only;by_cases a:p.2<q.1.files.length
 .rw[iQ _ _ a];by_cases e:n=p.2
  .rw[Vb e]
  rw[tr e];exact h.resolve_left e
 rw[EM _ oM];rcases h with h|h
 .rw[tB _ oM];rfl
 exact h
theorem sL(n:Nat):∀ (l:W_) (a:h8×List UInt16),qa8 (aC a.1 n) (aC (l.foldl ct a).1 n)/\(n∈l.map Prod.snd\/(aC a.1 n).stl=(aC a.1 n).data.length->(aC (l.foldl ct a).1 n).stl=(aC (l.foldl ct a).1 n).data.length)
 | [],a=>⟨qa8.refl _,fun h=>h.resolve_left V_⟩
 |p::l,a=>by
  obtain⟨b,c⟩:=sL n l (ct a p);refine⟨(Io a p n).trans b,fun h=>c ?_⟩;rcases h with h|h
  .rw[VY] at h;rcases Vw.1 h with h|h
   .exact .inr (sZ a p n (.inl h))
   exact .inl h
  exact .inr (sZ a p n (.inr h))
theorem sR(n:Nat)(q:h8×List UInt16):∀k,qa8 (aC q.1 n) (aC (dF q k).1 n)/\((∃j,j<k/\n∈ (q.1.dir j).seen.map Prod.snd)\/(aC q.1 n).stl=(aC q.1 n).data.length->(aC (dF q k).1 n).stl=(aC (dF q k).1 n).data.length)
 |0=>⟨qa8.refl _,fun h=>h.resolve_left (by rintro⟨j,c,-⟩;omega)⟩
 |k+1=>by
  obtain⟨d,a⟩:=sR n q k;obtain⟨f,g⟩:=sL n (q.1.dir k).seen (dF q k);refine⟨d.trans f,fun h=>g ?_⟩;rcases h with⟨j,c,b⟩ |h
  .by_cases e:j=k
   .subst e;exact .inl b
   exact .inr (a (.inl ⟨j,by omega,b⟩))
  exact .inr (a (.inr h))
def LU(S:h8)(pl:List UInt16)(n:Nat):qa8 (aC S n) (aC (du S pl) n):=by
 have h:=(sR n (dQ (cS (S,pl) 3).1,(cS (S,pl) 3).2) 3).1;have e:aC (dQ (cS (S,pl) 3).1) n=aC S n:=by unfold aC dQ;rw[Cs]
 rw[<-e];exact h
def qa3(d:Yz)(n:Nat):Prop:=(∃p,p∈d.stl/\p.2=n)\/ ∃c,c∈d.Vl/\c.kind=0/\c.n=n
theorem r1{d:Yz}(h:p9 d):∀i,i<=d.Vl.length-> ∀p,p∈ (d.Vl.take i).foldl bY d.stl->qa3 d p.2
 |0,_,p,a=>.inl ⟨p,a,rfl⟩
 |i+1,g,p,a=>by
  have c:=h i oM;rw[StP.WJ (z:=fV) oM,List.foldl_append] at a;have e:d.Vl.getD i fV∈d.Vl:=W9 oM;rcases vr c a with⟨b,rfl⟩ | ⟨b,m,f,rfl⟩ | ⟨b,-⟩
  .exact .inr ⟨_,e,b,rfl⟩
  .exact r1 h i oM ((d.Vl.getD i fV).a,m) (eY f)
  exact r1 h i oM p b
def NY{d:Yz}(h:iz d){p:No×Nat}(a:p∈d.seen):qa3 d p.2:=by refine r1 h.2 d.Vl.length (aj _) p ?_;rw[WH,h.1];exact a
def p7(S:h8):Prop:= ∀j k,j<3->k<3-> ∀n,qa3 (S.dir j) n->qa3 (S.dir k) n->j=k
def AF{S:h8}(ok:XK S){k n:Nat}(a:k<3)(h:qa3 (S.dir k) n):n<S.files.length:=by
 rcases h with⟨p,b,rfl⟩ | ⟨c,d,e,rfl⟩
 .exact ok.stlN k a p b
 exact ok.pendN k a c d e
def By{S:h8}{k j n:Nat}{c:Wy}(h:qa3 ((b_ S k c).dir j) n):qa3 (S.dir j) n\/(j=k/\c.kind=0/\c.n=n):=by
 by_cases e:j=k
 .subst e;unfold b_ at h;rw[dt] at h;rcases h with h| ⟨d,a,b,f⟩
  .exact .inl (.inl h)
  rcases Wu.1 a with a|a
  .exact .inl (.inr ⟨d,a,b,f⟩)
  rw[VZ.1 a] at b f;exact .inr ⟨rfl,b,f⟩
 unfold b_ at h;rw[e7 _ _ e] at h;exact .inl h
def eP(S:h8):Prop:=S.off=false/\S.fused=false
def m2{S:h8}(h:eP S):aD S=(S,0):=by unfold aD;rw[tr (by rw[h.2];simp),tr (by rw[h.2];simp)]
section
variable {S S':h8} {kind:Int} {dir name s:No} {e:Nat}
def kG(a:eP S)(h:Xc S kind dir name s S' e):eP S':=by
 have b:=m2 a;have c:eP (aD S).1:=by rw[b];exact a
 cases h<;>first|exact a|exact c
end
def AR(q:Int)(l:List XU){k:Nat}(a:k<3):((ofD q l).dir k).stl=((ofD q l).dir k).seen/\((ofD q l).dir k).Vl=[]:=by unfold ofD;rw[C3,Vb (by simp;omega)];exact⟨rfl,rfl⟩
def Ag{q:Int}{l:List XU}{k:Nat}(b:k<3){n:Nat}(h:qa3 ((ofD q l).dir k) n):∃p,p∈ ((ofD q l).dir k).seen/\p.2=n:=by
 obtain⟨d,e⟩:=AR q l b;rcases h with h| ⟨c,a,-⟩
 .rw[d] at h;exact h
 rw[e] at a;cases a
def R'(q:Int)(l:List XU):p7 (ofD q l):=fun j k c d n a b=>by obtain⟨p,f,rfl⟩:=Ag c a;obtain⟨g,h,e⟩:=Ag d b;exact(oC q l j k c d p f g h e.symm).1
structure qz3(S:h8)(k:Nat)(nm:No)(n:Nat)(data:No):Prop where
 lt:n<S.files.length
 data:(aC S n).data=data
 stl:(aC S n).stl=(aC S n).data.length
 at_:aL (S.dir k).stl nm=some n
 Vl:∀c,c∈ (S.dir k).Vl->c.a≠nm/\(c.kind=1->c.b≠nm)
theorem si{x:No×Nat}{s:No}(a:x.1≠s):∀l:W_,aL (ZP l x) s=aL l s
 | []=>by have:(s==x.1)=false:=WN.2 (Wq a);unfold ZP aL;rw[List.find?_cons,this]
 |p::l=>by
  have e:(s==x.1)=false:=WN.2 (Wq a);have b:=si a l;unfold ZP
  split
  .unfold aL;rw[List.find?_cons,e]
  unfold aL at b |-;rw[List.find?_cons,List.find?_cons]
  split
  .rfl
  exact b
theorem BY{a s:No}(c:a≠s):∀l:W_,aL (bl l a) s=aL l s
 | []=>rfl
 |p::l=>by
  have b:=BY c l;unfold bl at b |-;rw[X_];by_cases e:a=p.1
  .have d:(s==p.1)=false:=WN.2 (fun h=>c (by rw[e,h]));rw[tr (by rw[e];simp),b];unfold aL;rw[List.find?_cons,d]
  rw[Vb (by simpa using e)];unfold aL at b |-;rw[List.find?_cons,List.find?_cons]
  split
  .rfl
  exact b
def nc{x:No×Nat}{s:No}(a:x.1≠s)(l:W_):aL (dU l x) s=aL l s:=by unfold dU;rw[si a,BY a]
def sn{l:W_}{c:Wy}{s:No}(h:c.a≠s/\(c.kind=1->c.b≠s)):aL (bY l c) s=aL l s:=by
 unfold bY
 split
 .exact nc h.1 l
 .rename_i a;rw[nc (h.2 a),BY h.1]
 exact BY h.1 l
theorem Dh{s:No}:∀ (a:List Wy) (l:W_),(∀c,c∈a->c.a≠s/\(c.kind=1->c.b≠s))->aL (a.foldl bY l) s=aL l s
 | [],_,_=>rfl
 |c::a,l,h=>by rw[List.foldl_cons,Dh a _ fun d b=>h d (ah _ b),sn (h c aX)]
section
variable {S S':h8} {kind:Int} {dir name s:No} {e k n:Nat} {nm data:No}
theorem qz3.seen(h:qz3 S k nm n data)(a:dw S):aL (S.dir k).seen nm=some n:=by rw[<- (a k).1,Dh _ _ h.Vl,h.at_]
end
structure NdR where
 s:No
 n:Int
def Xi(r:NdR):List hU:=[vs r.s]++([vi r.n])
def nd0:NdR:=⟨[],0⟩
def dY(r:NdR):(Xi r).length=2:=by simp[Xi]
def kT(r:NdR):Value.cells (.agg (Xi r).toArray)=(Xi r).toArray:=ag _
def me(r:NdR):(Xi r).all Value.oneCell'=true:=by
 unfold Xi;simp only[List.all_append,List.all_cons,List.all_nil,jX,Bool.and_true,XA]
 rfl
def qd0:ac prog 94=some (.agg (Xi nd0).toArray):=id kR
def Ae(r:NdR):Xi r=([]:List hU)++(([vs r.s])++([vi r.n])):=by unfold Xi;simp only[Wb,Vy,VX]
def w3(r:NdR)(n:Nat)(E:h7)(fz:Nat×Nat):aF (some (false,n)) (some (.cells (Xi r).toArray E fz)) 0=some (vs r.s):=by rw[Ae];exact fR _ _ _ n E fz V_
def o0{w:hW}{v:hU}{l:List NdR}{b off:Nat}{arr:Array hU}{E:h7}{fz:Nat×Nat}(h:WL 2 Xi nd0 w v l b off arr E fz){k:Nat}(a:k<l.length)(n:Nat):aF (some (false,n)) (some (.cells arr E fz)) (off+k*2+0)=some (vs (l.getD k nd0).s):=by rw[WL.cell h a oM];generalize l.getD k nd0=r;rw[Ae];exact mZ _ _ _ V_
def AN(r:NdR):Xi r=(([vs r.s]))++(([vi r.n])++(([]:List hU))):=by unfold Xi;simp only[Wb,Vy,VX]
def wD(r:NdR)(n:Nat)(E:h7)(fz:Nat×Nat):aF (some (false,n)) (some (.cells (Xi r).toArray E fz)) 1=some (vi r.n):=by rw[AN];exact fR _ _ _ n E fz V_
def A3{w:hW}{v:hU}{l:List NdR}{b off:Nat}{arr:Array hU}{E:h7}{fz:Nat×Nat}(h:WL 2 Xi nd0 w v l b off arr E fz){k:Nat}(a:k<l.length)(n:Nat):aF (some (false,n)) (some (.cells arr E fz)) (off+k*2+1)=some (vi (l.getD k nd0).n):=by rw[WL.cell h a oM];generalize l.getD k nd0=r;rw[AN];exact mZ _ _ _ V_
def AC(r:NdR)(E:h7)(fz:Nat×Nat):aF (some (true,2)) (some (.cells (Xi r).toArray E fz)) 0=some (.agg (Xi r).toArray):=jN _ E fz 2 (by rw[Wd,dY])
def PU(Wo:Array hU)(r:NdR)(a:Bool)(E:h7)(h:Wo.size=2):aZ (some (a,2)) (some (.cells Wo E (0,0))) 0 (.agg (Xi r).toArray)=some (.cells (Xi r).toArray E (0,0)):=mc _ a Wo E (dY r) (me r) h
def MD(r b:NdR)(a:Bool)(E:h7):aZ (some (a,2)) (some (.cells (Xi b).toArray E (0,0))) 0 (.agg (Xi r).toArray)=some (.cells (Xi r).toArray E (0,0)):=PU _ r a E (by rw[Wd,dY])
def oX{w:hW}{v:hU}{l:List NdR}{b off:Nat}{arr:Array hU}{E:h7}{fz:Nat×Nat}(h:WL 2 Xi nd0 w v l b off arr E fz){k:Nat}(a:k<l.length):aF (some (true,2)) (some (.cells arr E fz)) (off+k*2)=some (.agg (Xi (l.getD k nd0)).toArray):=WL.load h dY oM a
structure KcR where
 kind:Int
 a:No
 b:No
 n:Int
def Yc(r:KcR):List hU:=[vi r.kind]++([vs r.a]++([vs r.b]++([vi r.n])))
def kc0:KcR:=⟨0,[],[],0⟩
def kx(r:KcR):(Yc r).length=4:=by simp[Yc]
def nV(r:KcR):Value.cells (.agg (Yc r).toArray)=(Yc r).toArray:=ag _
def wL(r:KcR):(Yc r).all Value.oneCell'=true:=by
 unfold Yc;simp only[List.all_append,List.all_cons,List.all_nil,jX,Bool.and_true,XA]
 rfl
def qF0:ac prog 134=some (.agg (Yc kc0).toArray):=id kR
def od(r:KcR):Yc r=([]:List hU)++(([vi r.kind])++([vs r.a]++([vs r.b]++([vi r.n])))):=by unfold Yc;simp only[Wb,Vy,VX]
def uO(r:KcR)(n:Nat)(E:h7)(fz:Nat×Nat):aF (some (false,n)) (some (.cells (Yc r).toArray E fz)) 0=some (vi r.kind):=by rw[od];exact fR _ _ _ n E fz V_
def Jv(r:KcR)(x:Int)(a:Bool)(E:h7):aZ (some (a,1)) (some (.cells (Yc r).toArray E (0,0))) 0 (vi x)=some (.cells (Yc {r with kind:=x}).toArray E (0,0)):=by rw[od r,od {r with kind:=x}];exact cP _ _ _ _ a _ E V_ rfl (rfl) rfl (rfl)
def ou(r:KcR):Yc r=(([vi r.kind]))++(([vs r.a])++([vs r.b]++([vi r.n]))):=by unfold Yc;simp only[Wb,Vy,VX]
def ux(r:KcR)(n:Nat)(E:h7)(fz:Nat×Nat):aF (some (false,n)) (some (.cells (Yc r).toArray E fz)) 1=some (vs r.a):=by rw[ou];exact fR _ _ _ n E fz V_
def Lx(r:KcR)(x:No)(a:Bool)(E:h7):aZ (some (a,1)) (some (.cells (Yc r).toArray E (0,0))) 1 (vs x)=some (.cells (Yc {r with a:=x}).toArray E (0,0)):=by rw[ou r,ou {r with a:=x}];exact cP _ _ _ _ a _ E V_ rfl (rfl) rfl (rfl)
def oO(r:KcR):Yc r=(([vi r.kind])++([vs r.a]))++(([vs r.b])++([vi r.n])):=by unfold Yc;simp only[Wb,Vy,VX]
def vP(r:KcR)(n:Nat)(E:h7)(fz:Nat×Nat):aF (some (false,n)) (some (.cells (Yc r).toArray E fz)) 2=some (vs r.b):=by rw[oO];exact fR _ _ _ n E fz V_
def MT(r:KcR)(x:No)(a:Bool)(E:h7):aZ (some (a,1)) (some (.cells (Yc r).toArray E (0,0))) 2 (vs x)=some (.cells (Yc {r with b:=x}).toArray E (0,0)):=by rw[oO r,oO {r with b:=x}];exact cP _ _ _ _ a _ E V_ rfl (rfl) rfl (rfl)
def oZ(r:KcR):Yc r=(([vi r.kind])++([vs r.a])++([vs r.b]))++(([vi r.n])++(([]:List hU))):=by unfold Yc;simp only[Wb,Vy,VX]
def ul(r:KcR)(n:Nat)(E:h7)(fz:Nat×Nat):aF (some (false,n)) (some (.cells (Yc r).toArray E fz)) 3=some (vi r.n):=by rw[oZ];exact fR _ _ _ n E fz V_
def ML(r:KcR)(x:Int)(a:Bool)(E:h7):aZ (some (a,1)) (some (.cells (Yc r).toArray E (0,0))) 3 (vi x)=some (.cells (Yc {r with n:=x}).toArray E (0,0)):=by rw[oZ r,oZ {r with n:=x}];exact cP _ _ _ _ a _ E V_ rfl (rfl) rfl (rfl)
def A9(r:KcR)(E:h7)(fz:Nat×Nat):aF (some (true,4)) (some (.cells (Yc r).toArray E fz)) 0=some (.agg (Yc r).toArray):=jN _ E fz 4 (by rw[Wd,kx])
def Oe(Wo:Array hU)(r:KcR)(a:Bool)(E:h7)(h:Wo.size=4):aZ (some (a,4)) (some (.cells Wo E (0,0))) 0 (.agg (Yc r).toArray)=some (.cells (Yc r).toArray E (0,0)):=mc _ a Wo E (kx r) (wL r) h
def LS(r b:KcR)(a:Bool)(E:h7):aZ (some (a,4)) (some (.cells (Yc b).toArray E (0,0))) 0 (.agg (Yc r).toArray)=some (.cells (Yc r).toArray E (0,0)):=Oe _ r a E (by rw[Wd,kx])
structure FdR where
 data:No
 stl:Int
def Ye(r:FdR):List hU:=[vs r.data]++([vi r.stl])
def YQ:FdR:=⟨[],0⟩
def g5(r:FdR):(Ye r).length=2:=by simp[Ye]
def Bw(r:FdR):Value.cells (.agg (Ye r).toArray)=(Ye r).toArray:=ag _
def ww(r:FdR):(Ye r).all Value.oneCell'=true:=by
 unfold Ye;simp only[List.all_append,List.all_cons,List.all_nil,jX,Bool.and_true,XA]
 rfl
def qr6:ac prog 91=some (.agg (Ye YQ).toArray):=id kR
def Sc(r:FdR):Ye r=([]:List hU)++(([vs r.data])++([vi r.stl])):=by unfold Ye;simp only[Wb,Vy,VX]
def o6{w:hW}{v:hU}{l:List FdR}{b off:Nat}{arr:Array hU}{E:h7}{fz:Nat×Nat}(h:WL 2 Ye YQ w v l b off arr E fz){k:Nat}(a:k<l.length)(n:Nat):aF (some (false,n)) (some (.cells arr E fz)) (off+k*2+0)=some (vs (l.getD k YQ).data):=by rw[WL.cell h a oM];generalize l.getD k YQ=r;rw[Sc];exact mZ _ _ _ V_
def Oo(r:FdR):cL (bP prog 91) (ac prog 91) [(0,vs r.data),(1,vi r.stl)]=some (.agg (Ye r).toArray):=by
 have c:bP prog 91=some [(0,1),(1,1)]:=id kR;rw[c,qr6];have d:(Ye YQ).toArray=(([]:List hU)++(([vs YQ.data])++([vi YQ.stl]))).toArray:=by congr 1<;>simp only[Ye,Wb,Vy,VX]
 have e:cU (([]:List hU)++(([vs YQ.data])++([vi YQ.stl]))).toArray 0 ([vs r.data])=(([]:List hU)++(([vs r.data])++([vi YQ.stl]))).toArray:=qz _ _ _ _ V_ (rfl);have s0:(([]:List hU)++(([vs YQ.data])++([vi YQ.stl]))).toArray.size=2:=by simp
 have a:(Value.cells (vs r.data)).toList=[vs r.data]:=by rfl
 have f:(Value.cells (vs r.data)).size=1:=by rw[<-Array.length_toList,a];simp
 have g:(([]:List hU)++(([vs r.data])++([vi YQ.stl]))).toArray=((([vs r.data]))++(([vi YQ.stl])++(([]:List hU)))).toArray:=by congr 1<;>simp only[Ye,Wb,Vy,VX]
 have h:cU ((([vs r.data]))++(([vi YQ.stl])++(([]:List hU)))).toArray 1 ([vi r.stl])=((([vs r.data]))++(([vi r.stl])++(([]:List hU)))).toArray:=qz _ _ _ _ V_ (rfl);have s1:((([vs r.data]))++(([vi YQ.stl])++(([]:List hU)))).toArray.size=2:=by simp
 have b:(Value.cells (vi r.stl)).toList=[vi r.stl]:=by rfl
 have i:(Value.cells (vi r.stl)).size=1:=by rw[<-Array.length_toList,b];simp
 have j:((([vs r.data]))++(([vi r.stl])++(([]:List hU)))).toArray=(Ye r).toArray:=by congr 1<;>simp only[Ye,Wb,Vy,VX]
 simp only[cL];rw[d];unfold Sx.YR;simp only[List.getElem?_cons_zero,List.getElem?_cons_succ,a,f];rw[Vb ⟨trivial,by rw[s0];decide⟩,e];rw[g];unfold Sx.YR;simp only[List.getElem?_cons_zero,List.getElem?_cons_succ,b,i];rw[Vb ⟨trivial,by rw[s1];decide⟩,h];rw[j];rfl
def ae(p:No×Nat):NdR:=⟨p.1,(p.2:Int)⟩
def Zg(c:Wy):KcR:=⟨(c.kind:Int),c.a,c.b,(c.n:Int)⟩
def bu(f:WR):FdR:=⟨f.data,(f.stl:Int)⟩
def ir(l:W_)(k:Nat):(l.map ae).getD k nd0=ae (l.getD k ([],0)):=by rw[List.getD_eq_getElem?_getD,List.getD_eq_getElem?_getD,List.getElem?_map];cases l[k]? <;>rfl
def SB(l:List Wy)(k:Nat):(l.map Zg).getD k kc0=Zg (l.getD k ⟨0,[],[],0⟩):=by rw[List.getD_eq_getElem?_getD,List.getD_eq_getElem?_getD,List.getElem?_map];cases l[k]? <;>rfl
def kj(l:List WR)(k:Nat):(l.map bu).getD k YQ=bu (l.getD k bV):=by rw[List.getD_eq_getElem?_getD,List.getD_eq_getElem?_getD,List.getElem?_map];cases l[k]? <;>rfl
abbrev qr9(w:hW)(v:hU)(l:W_):Prop:=Xz 2 Xi nd0 w v (l.map ae)
def NdG(D:aA)(v:hU)(l:W_):Prop:=Yq D 94 2 v (l.map ae).length ((l.map ae).map Xi).flatten
def iB(s:No):Int:=match al s with|some k=>(k:Int) |none=> -1
def gb:Obj:=.cells #[vs gZ,vs gG,vs aJ] 9 (0,0)
def Nc{s:No}(h:∀j,j<3->bT j≠s):al s=none:=by
 cases a:al s with
 |none=>rfl
 |some k=>exact Vx (cN a).2.symm (h k (cN a).1)
def uR(b:Nat){k:Nat}(c:k<3)(a:Bool):ez (.sl (a,1)) (Xr b 0 3 3) (some (k:Int))=some (vp b k):=by rw[j5 _ _ _ _ _ _ oM];simp
def sx{k:Nat}(a:k<3)(n:Nat):aF (some (false,n)) (some gb) k=some (vs (bT k)):=by
 have:k=0\/k=1\/k=2:=by omega
 rcases this with rfl|rfl|rfl<;>rfl
def ep:=aN @bA @b9
def u1(w:hW):Va prog 62 #[] w (XS w [] (fun v D=> ∃b,v=Xr b 0 3 3/\D=[(b,gb)])):=by refine Va.Vs func62 rfl (rs:=[.tmp 0]) results62 ntmps62 (fun p a=>by cases a) Wg ?_;refine kf ?_;refine ky @ep ?_;refine Ow.buildSlice (e:=9) #[vs gZ,vs gG,vs aJ] rfl rfl kR fun c f d=>?_;refine ko @ep ?_;refine ky @ep ?_;refine⟨_,(ke @ep),?_⟩;exact⟨Ext.Vt ⟨d,trivial⟩,c,rfl,rfl⟩
def DS(s:No)(w:hW):Va prog 35 #[vs s] w (fun v D=>v=vi (iB s)/\D=[]):=by
 refine Va.Vr func35 rfl (rs:=[.tmp 2]) results35 ntmps35 ?_;refine kf ?_;refine ky @ep ?_;refine Ow.Wf rfl rfl call62 (fun p x=>u1 p) (fun y v1 D1 z q r t=>?_);obtain⟨e,rfl,rfl⟩:=t;have f:=r.mono q;rw[Vy];refine ko @ep ?_;refine ky @ep ?_;refine Cw.VU (G:=Nat) [6,7,10,11,12,13,14,15,16,2,8,9,4] (fun g=>[(4,vi g)]) (fun g=>[(e,gb)]) (fun g=>g<=3/\ ∀j,j<g->bT j≠s) (fun g=>3 - g) 0 rfl rfl ?_ ?_
 .exact⟨aR _,fun j k=>Vx k (Yy j)⟩
 intro i A u;refine kv ?_;obtain⟨B,l⟩:=u;by_cases a:i<3
 .have b:decide ((i:Int)<3)=true:=aP oM;have m:=uR e a true;have o:=fun n=>sx a n;by_cases c:bT i=s
  .have d:(bT i==s)=true:=W8.2 c;refine ky (qS3 @ep @b @m @o @d) ?_;refine⟨_,(ke @ep),f,?_⟩
   (unfold iB;rw[<-c,jP a];rfl)
  have d:(bT i==s)=false:=WN.2 c;refine ky (qS3 @ep @b @m @o @d) ?_;exact Vo.mk (i+1) oM ⟨a,fun j k=>by
   by_cases h:j=i
   .rw[h];exact c
   exact l j oM⟩ rfl rfl
 obtain rfl:i=3:=by omega
 have b:decide (((3:Nat):Int)<3)=false:=rfl;refine ky (aN @ep @b) ?_;refine⟨_,(ke @ep),f,?_⟩
 (unfold iB;rw[Nc l];rfl)
def Cj(s:No)(w:hW)(q:s.length<1099511627776):Va prog 36 #[vs s] w (fun v D=>v=.bool (bF s)/\D=[]):=by
 refine Va.Vr func36 rfl (rs:=[.tmp 2]) results36 ntmps36 ?_;refine kf ?_;refine ky @ep ?_;refine Cw.VU (G:=Nat) [4,5,6,7,10,11,12,13,14,15,16,17,18,19,20,21,22,23,24,25,2,8,9,3] (fun g=>[(3,vi g)]) (fun g=>[]) (fun g=>g<=s.length/\(s.take g).any cv=false) (fun g=>s.length - g) 0 rfl rfl ?_ ?_
 .exact⟨aR _,rfl⟩
 intro i r o;refine kv ?_;obtain⟨t,f⟩:=o;by_cases j:i<s.length
 .have b:decide ((i:Int)< (s.length:Int))=true:=aP oM;have k:(s.take (i+1)).any cv=cv (s.getD i 0):=by
   rw[StP.WJ (z:=0) j,List.any_append,f];simp
  have d:cv (s.getD i 0)=true->bF s=false:=fun h=>by unfold bF;rw[show s.any cv=true from List.any_eq_true.2 ⟨_,W9 (z:=0) j,h⟩];simp
  rw[o8] at k d;cases a:decide (s.getD i 0<33) with
  |true=>
   refine ky (qS1 @ep @b @a) ?_;refine⟨_,(ke @ep),trivial,?_⟩
   (rw[d (by rw[a];rfl)];rfl)
  |false=>
   cases c:decide (126<s.getD i 0) with
   |true=>
    refine ky (qS2 @ep @b @a @c) ?_;refine⟨_,(ke @ep),trivial,?_⟩
    (rw[d (by rw[a,c];rfl)];rfl)
   |false=>
    cases e:(s.getD i 0==47) with
    |true=>
     refine ky (qS3 @ep @b @a @c @e) ?_;refine⟨_,(ke @ep),trivial,?_⟩
     (rw[d (by rw[a,c,e];rfl)];rfl)
    |false=>rw[a,c,e] at k;refine ky (qS3 @ep @b @a @c @e) ?_;exact Vo.mk (i+1) oM ⟨j,k⟩ rfl rfl
 obtain rfl:i=s.length:=by omega
 have b:decide ((s.length:Int)< (s.length:Int))=false:=aW oM;rw[WH] at f;have m:bF s=(!(s==[])&&decide (s.length<=80)):=by unfold bF;rw[f];simp
 cases a:decide ((1:Int)<= (s.length:Int)) with
 |true=>
  have n:=Zu a;have l:(s==[])=false:=WN.2 (by rintro rfl;simp at n);have p:decide ((s.length:Int)<=80)=decide (s.length<=80):=by congr 1;rw[eq_iff_iff];omega
  refine ky (qS2 @ep @b @a @p) ?_;refine⟨_,(ke @ep),trivial,?_⟩
  (rw[m,l];rfl)
 |false=>
  have n:=Z8 a;have l:s=[]:=Zm oM;refine ky (qS1 @ep @b @a) ?_;refine⟨_,(ke @ep),trivial,?_⟩
  (rw[m,l];rfl)
def gH(l:W_)(s:No):Int:=match aL l s with|some n=>(n:Int) |none=> -1
def Lt{l:W_}{k:Nat}(h:k<l.length)(s:No):aL (l.drop k) s=if(l.getD k ([],0)).1=s then some (l.getD k ([],0)).2 else aL (l.drop (k+1)) s:=by
 rw[qc1 h,List.getD_eq_getElem?_getD,List.getElem?_eq_getElem h];show(List.find? _ _).map Prod.snd=_;rw[List.find?_cons];by_cases e:(l[k]).1=s
 .rw[show(s==(l[k]).1)=true from W8.2 e.symm];simp[e]
 rw[show(s==(l[k]).1)=false from WN.2 (Wq e)];simp only[Option.getD_some,e,↓reduceIte]
 rfl
def iV:=aN (aN @bA @b9) (aN @AC @kT)
def DW(v:hU)(l:W_)(s:No)(w:hW)(p:qr9 w v l)(y:l.length<1000000000):Va prog 87 #[v,vs s] w (fun r D=>r=vi (gH l s)/\D=[]):=by
 have b:=p.len;rw[Wx] at b;obtain⟨z,off,arr,E,fz,c⟩:=p.row;refine Va.Vr func87 rfl (rs:=[.tmp 4]) results87 ntmps87 ?_;refine kf ?_;refine ky @iV ?_;refine Cw.VU (G:=Nat) [6,7,8,9,12,13,14,15,16,17,18,19,20,21,22,23,4,10,11,5] (fun g=>[(5,vi g)]) (fun g=>[]) (fun g=>g<=l.length/\aL (l.drop g) s=aL l s) (fun g=>l.length - g) 0 rfl rfl ?_ ?_
 .exact⟨aR _,rfl⟩
 intro k A u;refine kv ?_;obtain⟨B,a⟩:=u;by_cases i:k<l.length
 .have d:decide ((k:Int)< (l.length:Int))=true:=aP oM;have j:k< (l.map ae).length:=by rw[Wx];exact i
  have q:=c.idx true k j;have t:=c.has oM;have e:∀n,aF (some (false,n)) (some (.cells arr E fz)) (off+k*2)=some (vs ((l.map ae).getD k nd0).s):=fun n=>by have:=o0 c j n;rwa [XL] at this
  have f:∀n,aF (some (false,n)) (some (.cells arr E fz)) (off+k*2+1)=some (vi ((l.map ae).getD k nd0).n):=fun n=>A3 c j n;rw[ir] at e f;rw[Lt i] at a;generalize l.getD k ([],0)=x at*;obtain⟨m,C⟩:=x;simp only[ae] at e f a;by_cases h:m=s
  .have o:(m==s)=true:=W8.2 h;rw[Vb h] at a;refine ky (qS6 @iV @b @d @q @t @e @f @o) ?_;refine⟨_,(ke @iV),trivial,?_⟩
   (unfold gH;rw[<-a];rfl)
  have o:(m==s)=false:=WN.2 h;rw[tr h] at a;refine ky (qS6 @iV @b @d @q @t @e @f @o) ?_;exact Vo.mk (k+1) oM ⟨i,a⟩ rfl rfl
 obtain rfl:k=l.length:=by omega
 have d:decide ((l.length:Int)< (l.length:Int))=false:=aW oM;rw[List.drop_length] at a;refine ky (qS1 @iV @b @d) ?_;refine⟨_,(ke @iV),trivial,?_⟩
 (unfold gH;rw[<-a];rfl)
structure WoG where
 k:Nat
 o:W_
 v:hU
 D:aA
 DG:aA
def qk{l:W_}{k:Nat}(h:k<l.length)(s:No):bl (l.drop k) s=(if(l.getD k ([],0)).1=s then [] else [l.getD k ([],0)])++bl (l.drop (k+1)) s:=by
 rw[qc1 h,List.getD_eq_getElem?_getD,List.getElem?_eq_getElem h];unfold bl;rw[X_];by_cases e:(l[k]).1=s
 .rw[show(s==(l[k]).1)=true from W8.2 e.symm];simp[e]
 rw[show(s==(l[k]).1)=false from WN.2 (Wq e)];simp[e]
def UF(v:hU)(l:W_)(s:No)(w:hW)(F:qr9 w v l)(Y:l.length<1000000000):Va prog 110 #[v,vs s] w (XS w [] (fun r D=>NdG D r (bl l s))):=by
 have d:=F.len;rw[Wx] at d;obtain⟨O,off,arr,E,fz,c⟩:=F.row;refine Va.Vs func110 rfl (rs:=[.tmp 4]) results110 ntmps110 (fun p P=>by cases P) Wg ?_;refine kf ?_;refine ky @iV ?_;refine Cw.Vd (M:=[]++[]) (WW _) ?_;refine Cw.VU (G:=WoG) [7,8,9,10,13,14,15,16,17,18,19,20,21,22,23,24,25,26,5,11,12,6] (fun g=>[(5,g.v),(6,vi g.k)]) (fun g=>g.D++g.DG) (fun g=>g.k<=l.length/\g.o.length<=g.k/\Vq w.heap.size g.D/\Vq w.heap.size g.DG/\g.o++bl (l.drop g.k) s=bl l s/\Gr g.D 94 2 g.v (g.o.map ae).length ((g.o.map ae).map Xi).flatten) (fun g=>l.length - g.k) ⟨0,[], Vj,[],[]⟩ rfl rfl ?_ ?_
 .exact⟨aR _,aR _,trivial,trivial,rfl,Gr.nl⟩
 intro g j H;refine kv ?_;obtain⟨k,o,I,D,DG⟩:=g;simp only at H |-;obtain⟨Z,Q,q,t,b,u⟩:=H;have J:Vq w.heap.size (D++DG):=q.app t;have za:(o.map ae).length<=k:=by rw[Wx];exact Q
 by_cases f:k<l.length
 .have i:decide ((k:Int)< (l.length:Int))=true:=aP oM;have x:k< (l.map ae).length:=by rw[Wx];exact f
  have K:=c.idx true k x;have L:aG w (D++DG) O=some (.cells arr E fz):=by rw[dr (J.not (c.lt oM))];exact c.has oM
  have y:∀n,aF (some (false,n)) (some (.cells arr E fz)) (off+k*2)=some (vs ((l.map ae).getD k nd0).s):=fun n=>by have:=o0 c x n;rwa [XL] at this
  have z:=oX c x;rw[ir] at y z;rw[qk f] at b;generalize l.getD k ([],0)=a at*;by_cases m:a.1=s
  .have A:((ae a).s !=s)=false:=by show(a.1 !=s)=false;rw[m];exact qi4 _
   rw[Vb m,Vy] at b;refine ky (qS6 @iV @d @i @K @L @y @z @A) ?_;exact Vo.mk ⟨k+1,o,I,D,DG⟩ (by show l.length - (k+1)<l.length - k;omega) ⟨f,by show o.length<=k+1;omega,q,t,b,u⟩ rfl rfl
  have A:((ae a).s !=s)=true:=Yb.2 m;rw[tr m,<-Wb] at b;refine ky (qS6 @iV @d @i @K @L @y @z @A) ?_;refine Ow.buildSlice (e:=94) (Xi (ae a)).toArray rfl rfl (fa underlying83 qc4 qd0 WT (dY _)) fun B zb R=>?_;refine ko @iV ?_;refine Ow.Vd (M:=D++(DG++[(B,.cells (Xi (ae a)).toArray 94 (0,0))])) Xm ?_;refine Ow.W2 (e:=94) (k:=1) (new:=Xi (ae a)) (X:=D) I rfl rfl rfl rfl underlying83 qc4 kR qd0 (by rw[kT,Wd,dY]) underlying83 (by intro k h;cases h) u (fun w' S=>W0.X6 (S.has B (.cells (Xi (ae a)).toArray 94 (0,0)) V_) (dY _) (me _)) oM (fun B5 T N zc zd U ze V zf=>?_);have W:Vq w.heap.size N:=Vq.of_le fun a C=>by
   rcases V a C with h|h
   .exact q.le a h
   omega
  refine ko @iV ?_;refine ky @iV ?_;exact Vo.mk ⟨k+1,o++[a],T,N,DG++[(B,.cells (Xi (ae a)).toArray 94 (0,0))]⟩ (by show l.length - (k+1)<l.length - k;omega) ⟨f,by rw[VV];simp;omega,W,t.app ⟨R,trivial⟩,b,by simpa using U⟩ rfl rfl
 obtain rfl:k=l.length:=by omega
 have i:decide ((l.length:Int)< (l.length:Int))=false:=aW oM;rw[List.drop_length,show bl [] s=[] from rfl,VX] at b;refine ky (qS1 @iV @d @i) ?_;refine⟨_,(ke @iV),?_⟩;rw[<-b];exact⟨Ext.Vt J,u.i fun a C=>aq _ C⟩
end Go.Proofs
end
