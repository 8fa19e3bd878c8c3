/-
  Part 4 of the walk: contracts of the functions that the law reaches, and the calculus they stand on.
  No conditions.
-/
import Derived.Test.YtfdphhalimbpbaaGreatDoorR3
import Derived.ProofKit
import Derived.OpenShut
import Derived.WideKeyArgs
import Derived.ChangeSame
import Derived.ChangeMaps5
import Derived.Lib.LaidTab
import Derived.SliceStrings
import Derived.DataReads
import Derived.Deep.Strs
section
open Go Go.Proofs Go.Sx Go.StP Go.RooP
namespace Go.Proofs
set_option maxRecDepth 10000
set_option maxHeartbeats 400000
set_option linter.unusedSimpArgs false
def bO:ObK:=⟨1,[97,98]⟩
def xO:IdL:=idK bO
def tE:EntL:=⟨[102],1,xO⟩
def tO:ObK:=⟨2,z7_ [tE]⟩
def yO:IdL:=idK tO
theorem ajL_:rdK bO=true:=by decide
theorem afm_:qt_ [tE]=true:=by decide+kernel
theorem ajB_:rdK tO=true:=Vn_ afm_
theorem aij_:xO≠yO:=by decide+kernel
theorem ajy_:qm_ 2 (z7_ [tE])= [⟨xO,1⟩]:=by
 unfold qm_
 rw[Vn_ afm_,if_pos rfl,if_pos rfl,Q6_ fun x hx=>by
  rw[List.mem_singleton.1 hx];decide]
 rfl
theorem alu_:qm_ 1 [97,98]= []:=by
 unfold qm_
 rw[show xA_ 1 [97,98]=true from ajL_];rfl
theorem akL_ {Z:List EntL} (h:SortOf [tE] Z):Z= [tE]:=h.eq ⟨rfl,List.pairwise_singleton _ _,StP.St.refl _ _⟩
theorem akV_ {x y:IdL} (h:x≠y): (xn_ [y,x]).length=2:=by
 show(putL x [y]).length=2
 unfold putL
 split
 ·rfl
 ·rw[if_neg (by simp only[beq_iff_eq];exact fun e=>h (IdL.ext2 e.symm))];rfl
theorem afh_ {s:j7_} {x y:IdL} (hxy:x≠y) (hy: (s y).2=true) (hx: (s x).2=true) (hk: (s x).1.k=1) (ky:jO_ s y= [⟨x,1⟩]) (kx:jO_ s x= []) {W:WkS} (h:WkI s [y] W) (hq:W.q= []): (xn_ W.ms).length=2∧xK_ W.lk= []:=by
 have fy:jN_ s ⟨y,0⟩=true:=by unfold jN_;rw[hy];rfl
 have fx:jN_ s ⟨x,1⟩=true:=by unfold jN_;rw[hx,hk];rfl
 have ry:ReachK s [y] ⟨y,0⟩:= .root (List.mem_singleton.2 rfl)
 have rx:ReachK s [y] ⟨x,1⟩:= .kid ry fy (by show _∈jO_ s y;rw[ky];exact List.mem_singleton.2 rfl)
 have hr: ∀c,ReachK s [y] c→c=⟨y,0⟩∨c=⟨x,1⟩:=by
  intro c hc
  induction hc with
  |root hi=>rw[List.mem_singleton] at hi;subst hi;exact .inl rfl
  |kid _ hf hd ih=>
   rcases ih with rfl|rfl
   ·have hd':_∈jO_ s y:=hd
    rw[ky,List.mem_singleton] at hd';exact .inr hd'
   ·have hd':_∈jO_ s x:=hd
    rw[kx] at hd';cases hd'
 constructor
 ·rw[Qg_ (b:= [y,x]) fun i=> ?_]
  ·exact akV_ hxy
  ·rw[h.marked hq]
   simp only[List.mem_cons,List.not_mem_nil,or_false]
   constructor
   ·rintro⟨c,h1,h2,rfl⟩
    rcases hr c h1 with rfl|rfl
    ·exact .inl rfl
    ·exact .inr rfl
   ·rintro(rfl|rfl)
    ·exact⟨_,ry,fy,rfl⟩
    ·exact⟨_,rx,fx,rfl⟩
 ·have:W.lk= []:=List.eq_nil_iff_forall_not_mem.2 fun c hc=>by
   obtain⟨h1,h2⟩:=(h.missing hq c).1 hc
   rcases hr c h1 with rfl|rfl
   ·rw[fy] at h2;cases h2
   ·rw[fx] at h2;cases h2
  rw[this];rfl
theorem agz_ {s:j7_} {x y:IdL} (hy: (s y).2=true) (hx: (s x).2=false) (ky:jO_ s y= [⟨x,1⟩]) {W:WkS} (h:WkI s [y] W) (hq:W.q= []): (xn_ W.ms).length=1∧xK_ W.lk= [x]:=by
 have fy:jN_ s ⟨y,0⟩=true:=by unfold jN_;rw[hy];rfl
 have fx:jN_ s ⟨x,1⟩=false:=by unfold jN_;rw[hx];rfl
 have ry:ReachK s [y] ⟨y,0⟩:= .root (List.mem_singleton.2 rfl)
 have rx:ReachK s [y] ⟨x,1⟩:= .kid ry fy (by show _∈jO_ s y;rw[ky];exact List.mem_singleton.2 rfl)
 have hr: ∀c,ReachK s [y] c→c=⟨y,0⟩∨c=⟨x,1⟩:=by
  intro c hc
  induction hc with
  |root hi=>rw[List.mem_singleton] at hi;subst hi;exact .inl rfl
  |kid _ hf hd ih=>
   rcases ih with rfl|rfl
   ·have hd':_∈jO_ s y:=hd
    rw[ky,List.mem_singleton] at hd';exact .inr hd'
   ·rw[fx] at hf;cases hf
 constructor
 ·rw[Qg_ (b:= [y]) fun i=> ?_]
  ·rfl
  ·rw[h.marked hq,List.mem_singleton]
   constructor
   ·rintro⟨c,h1,h2,rfl⟩
    rcases hr c h1 with rfl|rfl
    ·rfl
    ·rw[fx] at h2;cases h2
   ·rintro rfl
    exact⟨_,ry,fy,rfl⟩
 ·unfold xK_
  rw[Qg_ (b:= [x]) fun i=> ?_]
  ·rfl
  ·rw[List.mem_map,List.mem_singleton]
   constructor
   ·rintro⟨c,h1,rfl⟩
    obtain⟨h2,h3⟩:=(h.missing hq c).1 h1
    rcases hr c h2 with rfl|rfl
    ·rw[fy] at h3;cases h3
    ·rfl
   ·rintro rfl
    exact⟨_,(h.missing hq _).2 ⟨rx,fx⟩,rfl⟩
theorem KY_:NoCl [bO,tO]:=by
 intro a ha b hb _ _ he
 simp only[List.mem_cons,List.not_mem_nil,or_false] at ha hb
 rcases ha with rfl|rfl<;>rcases hb with rfl|rfl
 ·rfl
 ·exact absurd he aij_
 ·exact absurd he.symm aij_
 ·rfl
theorem acT_:NoCl [tO]:=by
 intro a ha b hb _ _ _
 rw[List.mem_singleton] at ha hb
 rw[ha,hb]
theorem aj8_:qe_ (jm_ [bO,tO]) xO=(bO,true)∧qe_ (jm_ [bO,tO]) yO=(tO,true):=by
 rw[Jo_ KY_]
 exact⟨abX_ KY_ (by simp) ajL_,abX_ KY_ (by simp) ajB_⟩
theorem ajM_: (qe_ (jm_ [tO]) xO).2=false∧qe_ (jm_ [tO]) yO=(tO,true):=by
 rw[Jo_ acT_]
 refine⟨?_,abX_ acT_ (by simp) ajB_⟩
 cases h: (srcD [tO] xO).2 with
 |false=>rfl
 |true=>
  obtain⟨o,h1,-,h3,-⟩:=ajN_ h
  rw[List.mem_singleton] at h1
  subst h1
  exact absurd h3.symm aij_
theorem w9_ {W:WkS} (h:WkI (qe_ (jm_ [bO,tO])) [yO] W) (hq:W.q= []): (xn_ W.ms).length=2∧xK_ W.lk= []:=by
 obtain⟨h1,h2⟩:=aj8_
 refine afh_ aij_ (by rw[h2]) (by rw[h1]) (by rw[h1];rfl) ?_ ?_ h hq
 ·unfold jO_;rw[h2];exact ajy_
 ·unfold jO_;rw[h1];exact alu_
theorem w8_ {W:WkS} (h:WkI (qe_ (jm_ [tO])) [yO] W) (hq:W.q= []): (xn_ W.ms).length=1∧xK_ W.lk= [xO]:=by
 obtain⟨h1,h2⟩:=ajM_
 refine agz_ (by rw[h2]) h1 ?_ h hq
 unfold jO_;rw[h2];exact ajy_
theorem XU_ (k k':Int) (t t':List UInt8):kb_ Tryz.prog 22 2 [(0,obV k t),(1,obV k' t')]=some (35, #[vi k,vs t,vi k',vs t']):=id (by kernel_rfl)
theorem X2_ {w:World} {b:Nat} {k k':Int} {t t':List UInt8} (h:w.heap[b]? =some (.cells #[vi k,vs t,vi k',vs t'] 35 (0,0))):RowX 2 obKC x7_ w (vsl b 0 2 2) [⟨k,t⟩,⟨k',t'⟩] []:=by
 have hs:SlV 2 obKC x7_ w (vsl b 0 2 2) [⟨k,t⟩,⟨k',t'⟩]:=SlV.sl (l:=([⟨k,t⟩,⟨k',t'⟩]:List ObK)) h (fun i hi j hj=>by
  have h2:i=0∨i=1:=by simp at hi;omega
  have h3:j=0∨j=1:=by omega
  rcases h2 with rfl|rfl<;>rcases h3 with rfl|rfl<;>rfl) (by simp) (by simp)
 exact SlV.rowX hs
theorem Kb_ {w:World} {b:Nat} {k:Int} {t:List UInt8} (h:w.heap[b]? =some (.cells #[vi k,vs t] 35 (0,0))):RowX 2 obKC x7_ w (vsl b 0 1 1) [⟨k,t⟩] []:=by
 have hs:SlV 2 obKC x7_ w (vsl b 0 1 1) [⟨k,t⟩]:=SlV.sl (l:=([⟨k,t⟩]:List ObK)) h (fun i hi j hj=>by
  obtain rfl:i=0:=by simp at hi;omega
  have h3:j=0∨j=1:=by omega
  rcases h3 with rfl|rfl<;>rfl) (by simp) (by simp)
 exact SlV.rowX hs
theorem w4_ {w:World} {b:Nat} {x:IdL} (h:w.heap[b]? =some (.cells (qd_ x).toArray 24 (0,0))):RowX 32 qd_ id0 w (vsl b 0 1 1) [x] []:=
 SlV.rowX (SlV.sl (l:= [x]) h (fun i hi j hj=>by
  obtain rfl:i=0:=by simp at hi;omega
  simp) (by simp) (by simp[qB_]))
theorem ahs_ {w:World} {b:Nat} {x:EntL} (h:w.heap[b]? =some (.cells (zI_ x).toArray 117 (0,0))):EntS w (vsl b 0 1 1) [x]:=
 SlV.sl (l:= [x]) h (fun i hi j hj=>by
  obtain rfl:i=0:=by simp at hi;omega
  simp) (by simp) (by simp[zS_])
theorem aea_ (x:EntL):kb_ Tryz.prog 122 1 [(0, .agg (zI_ x).toArray)]=some (117,(zI_ x).toArray):=qs_ Tryz.underlying122 QH_ k3_ (by decide) (zS_ x)
theorem Wk_ (k:Int) (t:List UInt8):kb_ Tryz.prog 22 1 [(0,obV k t)]=some (35, #[vi k,vs t]):=agm_ ⟨k,t⟩
set_option linter.defProp false
def jy_:=And.intro (And.intro (And.intro (@jt_) (@qH_)) (And.intro (@qC_) (And.intro (@qO_) (@Q9_)))) (And.intro (And.intro (@Sx.tup2_0) (And.intro (@Sx.tup2_1) (@zL_))) (And.intro (@zK_) (And.intro (@jH_) (@akn_))))
theorem jq_ {D:zd_} {E:TypeId} {m n:Nat} {v:Value} {cs:List Value} (h:GrI D E m v n cs) (x:Bool×Nat):Q5_ (.sl x) v=some (vi n):=by
 obtain⟨X,-,h⟩:=h;exact h.len x
def RowOne (G:zd_) (v:Value) (x:IdL):Prop:= ∃bb off arr E,(bb,Obj.cells arr E (0,0))∈G∧(∀a,zX_ (.sl (a,32)) v (some 0)=some (vp bb off))∧zv_ (some (true,32)) (some (.cells arr E (0,0))) off=some (.agg (a8 x.l))
theorem RowOne.mono {G G':zd_} {v:Value} {x:IdL} (h:RowOne G v x) (hG: ∀p,p∈G→p∈G'):RowOne G' v x:=by
 obtain⟨bb,off,arr,E,h1,h2⟩:=h
 exact⟨bb,off,arr,E,hG _ h1,h2⟩
theorem aaL_ {D:zd_} {v:Value} {x:IdL} {n:Nat} {cs:List Value} (h:GrI D 24 32 v n cs) (hn:n=1) (hc:cs=qd_ x):RowOne D v x:=by
 subst hn hc
 obtain⟨X,hX,h⟩:=h
 rcases h with h| ⟨h,-⟩
 ·rcases h.inv with⟨-,h,-⟩ | ⟨b,c,rest,rfl,hl,-⟩
  ·omega
  ·refine⟨b,0,_,_,hX _ (zA_ hl),fun a=> ?_, ?_⟩
   ·have:=qT_ (a,32) b 0 1 c 0 ⟨by omega,by omega⟩
    simpa using this
   ·have:=xS_ [] (qd_ x) rest 24 (0,0) rfl (qB_ x)
    rw[w1_] at this
    simpa using this
 ·omega
structure AlG where
 a:Value
 b:Value
 G:zd_
theorem jw_ (w:World) (hG:GlobE w):Rets Tryz.prog 13 #[] w (fun v D=>v= .bool true∧D= []):=by
 refine Rets.enterV Tryz.func13 rfl (rs:= [.tmp 0]) Tryz.results13 Tryz.ntmps13 ?_
 refine kf ?_
 first|with_reducible refine ks [1000005,1000006] @jy_ ?_|refine kp @jy_ ?_
 refine Ow.callFV rfl Tryz.call65 (fun w' hw'=>agx_ [97,98] w') ?_
 rw[show aa2_ 1 [97,98] true=1 from rfl,show aba_ 1 [97,98] true= [97,98] from rfl,show aaU_ 1 [97,98] true=0 from rfl]
 refine ko @jy_ ?_
 refine Ow.alloc rfl rfl WC_ fun b1 hb1 hw1=> ?_
 simp only[ze_,List.nil_append,List.cons_append]
 refine ko @jy_ ?_
 first|with_reducible refine ks [] @jy_ ?_|refine kp @jy_ ?_
 refine Ow.callFV rfl Tryz.call66 (fun w' hw'=>KL_ 1 [97,98] w' (hG.new hw' ⟨hw1,trivial⟩)) ?_
 rw[show idV 1 [97,98]=xO from rfl,show xA_ 1 [97,98]=true from ajL_]
 have hxh:=xO.h
 have hyh:=yO.h
 have hi0:=id0.h
 generalize hx:xO=x at*
 refine ko @jy_ ?_
 refine Ow.alloc rfl rfl ZL_ fun b3 hb3 hw3=> ?_
 simp only[ze_,List.nil_append,List.cons_append]
 have h13:b1<b3:=zf_ hb3 (by simp[keys])
 refine Ow.permL (M:= [(b3, .cells (a8 id0.l) 24 (0,0)),(b1, .cells #[vi 1,vs [97,98]] 35 (0,0))]) (by classical exact List.perm_iff_count.2 fun a=>by simp only[List.count_append,List.count_cons,List.count_nil]<;>omega) ?_
 refine ko @jy_ ?_
 have htE:tE=⟨[102],1,x⟩:=by rw[←hx];rfl
 first|with_reducible refine ks [] @jy_ ?_|refine kp @jy_ ?_
 refine Ow.build (.agg (zI_ tE).toArray) rfl (by rw[htE];exact ag4_ ⟨[102],1,x⟩) ?_
 refine ko @jy_ ?_
 refine Ow.buildSlice (e:=117) (zI_ tE).toArray rfl rfl (aea_ tE) fun be hbe hwe=> ?_
 refine ko @jy_ ?_
 refine Ow.callC rfl rfl Tryz.call67 (fun w' hw'=>ad8_ _ [tE] w' (ahs_ (hw'.has be (.cells (zI_ tE).toArray 117 (0,0)) (by simp))) (by simp) (by rw[htE];intro e he;obtain rfl:=List.mem_singleton.1 he;show 1<10000;omega)) (fun B2 v2 D2 hA2 hB2 hN2 hS2=> ?_)
 obtain⟨Z,hZ,rfl⟩:=hS2
 rw[akL_ hZ]
 obtain⟨T,hT⟩: ∃T,T=z7_ [tE]:=⟨_,rfl⟩
 rw[←hT]
 have hTr:xA_ 2 T=true:=by rw[hT];exact ajB_
 rw[show aa2_ 2 T (qt_ [tE])=2 by unfold aa2_;rw[afm_,hTr];rfl,show aba_ 2 T (qt_ [tE])=T by unfold aba_;rw[afm_,hTr];rfl,show aaU_ 2 T (qt_ [tE])=0 by unfold aaU_;rw[afm_,hTr];rfl]
 have htO:tO=⟨2,T⟩:=by rw[hT];rfl
 have hyT:idV 2 T=yO:=by rw[hT];rfl
 refine ko @jy_ ?_
 refine Ow.alloc rfl rfl WC_ fun b5 hb5 hw5=> ?_
 simp only[ze_,List.nil_append,List.cons_append]
 have h15:b1<b5:=zf_ hb5 (by simp[keys])
 have h35:b3<b5:=zf_ hb5 (by simp[keys])
 have hNg:New w.heap.size ((be,Obj.cells (zI_ tE).toArray 117 (0,0))::D2):=⟨hwe,hN2.mono hB2⟩
 refine Ow.permL (M:=(b5, .cells #[vi 0,vs []] 35 (0,0)):: (b3, .cells (a8 x.l) 24 (0,0)):: (b1, .cells #[vi 1,vs [97,98]] 35 (0,0)):: ((be,Obj.cells (zI_ tE).toArray 117 (0,0))::D2)) (by classical exact List.perm_iff_count.2 fun a=>by simp only[List.count_append,List.count_cons,List.count_nil]<;>omega) ?_
 generalize (be,Obj.cells (zI_ tE).toArray 117 (0,0))::D2=G at*
 refine ko @jy_ ?_
 first|with_reducible refine ks [] @jy_ ?_|refine kp @jy_ ?_
 refine Ow.callFV rfl Tryz.call66 (fun w' hw'=>KL_ 2 T w' (hG.new hw' ⟨hw5,hw3,hw1,hNg⟩)) ?_
 rw[hyT,hTr]
 generalize hy:yO=y at*
 refine ko @jy_ ?_
 refine Ow.alloc rfl rfl ZL_ fun b7 hb7 hw7=> ?_
 simp only[ze_,List.nil_append,List.cons_append]
 have h17:b1<b7:=zf_ hb7 (by simp[keys])
 have h37:b3<b7:=zf_ hb7 (by simp[keys])
 have h57:b5<b7:=zf_ hb7 (by simp[keys])
 refine Ow.permL (M:=(b7, .cells (a8 id0.l) 24 (0,0)):: (b5, .cells #[vi 2,vs T] 35 (0,0)):: (b3, .cells (a8 x.l) 24 (0,0)):: (b1, .cells #[vi 1,vs [97,98]] 35 (0,0))::G) (by classical exact List.perm_iff_count.2 fun a=>by simp only[List.count_append,List.count_cons,List.count_nil]<;>omega) ?_
 refine ko @jy_ ?_
 refine Cw.cutO (G:=AlG) [34,35,36,37,38,39,40,41,42,43,9,10] (fun g=> [(9,g.a),(10,g.b)]) (fun g=>(b7, .cells (a8 y.l) 24 (0,0)):: (b5, .cells #[vi 2,vs T] 35 (0,0)):: (b3, .cells (a8 x.l) 24 (0,0)):: (b1, .cells #[vi 1,vs [97,98]] 35 (0,0))::g.G) (fun g=>New w.heap.size g.G∧(∀x,Q5_ (.sl x) g.a=some (vi 2))∧(∀x,Q5_ (.sl x) g.b=some (vi 0))) ?_ ?_
 ·have hN7:New w.heap.size ((b7, .cells (a8 y.l) 24 (0,0)):: (b5, .cells #[vi 2,vs T] 35 (0,0)):: (b3, .cells (a8 x.l) 24 (0,0)):: (b1, .cells #[vi 1,vs [97,98]] 35 (0,0))::G):=⟨hw7,hw5,hw3,hw1,hNg⟩
  have m7: ∀r,r∈ [b1,b5,b7]→r∈keys ((b7, .cells (a8 y.l) 24 (0,0)):: (b5, .cells #[vi 2,vs T] 35 (0,0)):: (b3, .cells (a8 x.l) 24 (0,0)):: (b1, .cells #[vi 1,vs [97,98]] 35 (0,0))::G):=fun r hr=>by
   simp only[List.mem_cons,List.not_mem_nil,or_false] at hr
   rcases hr with rfl|rfl|rfl<;>simp[keys]
  have r1:zr_ w ((b7, .cells (a8 y.l) 24 (0,0)):: (b5, .cells #[vi 2,vs T] 35 (0,0)):: (b3, .cells (a8 x.l) 24 (0,0)):: (b1, .cells #[vi 1,vs [97,98]] 35 (0,0))::G) b1=some (.cells #[vi 1,vs [97,98]] 35 (0,0)):=by rw[zx_ _ _ _ _ _ (by omega),zx_ _ _ _ _ _ (by omega),zx_ _ _ _ _ _ (by omega)];exact zR_ _ _ _ _
  have r5:zr_ w ((b7, .cells (a8 y.l) 24 (0,0)):: (b5, .cells #[vi 2,vs T] 35 (0,0)):: (b3, .cells (a8 x.l) 24 (0,0)):: (b1, .cells #[vi 1,vs [97,98]] 35 (0,0))::G) b5=some (.cells #[vi 2,vs T] 35 (0,0)):=by rw[zx_ _ _ _ _ _ (by omega)];exact zR_ _ _ _ _
  have r7:zr_ w ((b7, .cells (a8 y.l) 24 (0,0)):: (b5, .cells #[vi 2,vs T] 35 (0,0)):: (b3, .cells (a8 x.l) 24 (0,0)):: (b1, .cells #[vi 1,vs [97,98]] 35 (0,0))::G) b7=some (.cells (a8 y.l) 24 (0,0)):=zR_ _ _ _ _
  have hp7: ∀D Z:zd_,D.Perm (((b7, .cells (a8 y.l) 24 (0,0)):: (b5, .cells #[vi 2,vs T] 35 (0,0)):: (b3, .cells (a8 x.l) 24 (0,0)):: (b1, .cells #[vi 1,vs [97,98]] 35 (0,0))::G)++Z)→(D.Perm ((b7, .cells (a8 y.l) 24 (0,0)):: (b5, .cells #[vi 2,vs T] 35 (0,0)):: (b3, .cells (a8 x.l) 24 (0,0)):: (b1, .cells #[vi 1,vs [97,98]] 35 (0,0)):: (G++Z))):=fun D Z h=>h.trans (by simp)
  obtain⟨L7,hL7⟩: ∃L7,L7=(b7, .cells (a8 y.l) 24 (0,0)):: (b5, .cells #[vi 2,vs T] 35 (0,0)):: (b3, .cells (a8 x.l) 24 (0,0)):: (b1, .cells #[vi 1,vs [97,98]] 35 (0,0))::G:=⟨_,rfl⟩
  rw[←hL7] at hN7 m7 r1 r5 r7 hp7 ⊢
  refine Cw.regionG [b1,b5,b7] [] 12 (by kernel_rfl) rfl ?_
  simp only[List.replicate_succ,List.replicate_zero]
  refine OwG.run [0,1,4] [true,true,false,false,true,false,false,false,false,false,false,false] 9 rfl (by kernel_rfl) (by kernel_rfl) fun k hk=> ?_
  simp only[zg_, ↓zc_, ↓za_, ↓zl_, ↓zk_,zb_]
  simp(disch:=(first|assumption|omega| (simp only[je_,jc_,UInt64.reduceToNat];try omega))) only[↓Sx.S0,Sx.S1,Tryz.fx,jy_,Nat.reduceAdd,Nat.reducePow,Int.reducePow,Nat.reduceBEq, ↓reduceIte,UInt8.reduceToNat,UInt16.reduceToNat,UInt32.reduceToNat,UInt64.reduceToNat,Int.reduceToNat,Md.next_sofnil,r1,r5,r7]
  (with_reducible refine hk _ _ _ ?_);clear hk k
  refine OwG.two 2 5 _ _ (by kernel_rfl) rfl rfl ?_ ?_
  ·refine Ow.buildSlice (e:=35) #[vi 1,vs [97,98],vi 2,vs T] rfl rfl (XU_ 1 2 [97,98] T) fun bo hbo hwo=> ?_
   with_reducible refine Ow.nil ?_
   refine⟨(zu_ (fun r hr=>by(try simp only[zh_,List.mem_append]);(first|exact m7 r hr|simp only[m7 r hr,true_or]))), ?_⟩
   simp only[List.set_cons_zero,List.set_cons_succ,zo_,zE_,zF_]
   have hNo:New w.heap.size [(bo,Obj.cells #[vi 1,vs [97,98],vi 2,vs T] 35 (0,0))]:=⟨hwo,trivial⟩
   refine OwG.two 3 5 _ _ (by kernel_rfl) rfl rfl ?_ ?_
   ·refine Ow.callC rfl rfl Tryz.call16 (fun w' hw'=>kJ_ _ [⟨1,[97,98]⟩,⟨2,T⟩] w' (hG.new hw' (hN7.app hNo)) (X2_ (hw'.has bo (.cells #[vi 1,vs [97,98],vi 2,vs T] 35 (0,0)) (by simp))) (by simp)) (fun B8 v8 D8 hA8 hB8 hN8 hS8=> ?_)
    have hN8':=hN8.mono hB8
    with_reducible refine Ow.nil ?_
    refine⟨(zu_ (fun r hr=>by(try simp only[zh_,List.mem_append]);(first|exact m7 r hr|simp only[m7 r hr,true_or]))), ?_⟩
    simp only[List.set_cons_zero,List.set_cons_succ,zo_,zE_,zF_]
    refine OwG.one 5 _ (by kernel_rfl) rfl ?_
    refine Ow.buildSlice (e:=24) (qd_ y).toArray rfl rfl (kz_ y) fun bi hbi hwi=> ?_
    with_reducible refine Ow.nil ?_
    refine⟨(zu_ (fun r hr=>by(try simp only[zh_,List.mem_append]);(first|exact m7 r hr|simp only[m7 r hr,true_or]))), ?_⟩
    simp only[List.set_cons_zero,List.set_cons_succ,zo_,zE_,zF_]
    have hNi:New w.heap.size [(bi,Obj.cells (qd_ y).toArray 24 (0,0))]:=⟨hwi,trivial⟩
    refine OwG.one 6 _ (by kernel_rfl) rfl ?_
    refine Ow.callC rfl rfl Tryz.call29 (fun w' hw'=>qS_ v8 (jm_ [⟨1,[97,98]⟩,⟨2,T⟩]) _ [y] w' ((hS8.mono (fun p hp=>by simp[hp])).W hw') (w4_ (hw'.has bi (.cells (qd_ y).toArray 24 (0,0)) (by simp))) (by simp) (Nat.le_trans (xz_ _) (by simp))) (fun B9 v9 D9 hA9 hB9 hN9 hS9=> ?_)
    have hN9':=hN9.mono hB9
    obtain⟨Wf,va,vb,hWf,hqf,-,-,rfl,hga,hgb⟩:=hS9
    obtain⟨hla,hlb⟩:=w9_ (by rw[hy,htO];exact hWf) hqf
    rw[hla] at hga
    rw[hlb] at hgb
    with_reducible refine Ow.nil ?_
    refine⟨(zu_ (fun r hr=>by(try simp only[zh_,List.mem_append]);(first|exact m7 r hr|simp only[m7 r hr,true_or]))), ?_⟩
    simp only[List.set_cons_zero,List.set_cons_succ,zo_,zE_,zF_]
    refine OwG.rest [7,8,9,10,11] rfl (by kernel_rfl) (by kernel_rfl) ?_
    simp only[zg_, ↓zc_, ↓za_, ↓zl_, ↓zk_,zb_]
    refine kq @jy_ ?_
    subst hL7
    exact CutO.mk ⟨va,vb,G++ [(bo,Obj.cells #[vi 1,vs [97,98],vi 2,vs T] 35 (0,0))]++D8++ [(bi,Obj.cells (qd_ y).toArray 24 (0,0))]++D9⟩ ⟨(((hNg.app hNo).app hN8').app hNi).app hN9',jq_ hga,jq_ hgb⟩ rfl rfl
   ·refine Ow.buildSlice (e:=24) (qd_ y).toArray rfl rfl (kz_ y) fun bi hbi hwi=> ?_
    with_reducible refine Ow.nil ?_
    refine⟨(zu_ (fun r hr=>by(try simp only[zh_,List.mem_append]);(first|exact m7 r hr|simp only[m7 r hr,true_or]))), ?_⟩
    simp only[List.set_cons_zero,List.set_cons_succ,zo_,zE_,zF_]
    have hNi:New w.heap.size [(bi,Obj.cells (qd_ y).toArray 24 (0,0))]:=⟨hwi,trivial⟩
    refine OwG.one 3 _ (by kernel_rfl) rfl ?_
    refine Ow.callC rfl rfl Tryz.call16 (fun w' hw'=>kJ_ _ [⟨1,[97,98]⟩,⟨2,T⟩] w' (hG.new hw' ((hN7.app hNo).app hNi)) (X2_ (hw'.has bo (.cells #[vi 1,vs [97,98],vi 2,vs T] 35 (0,0)) (by simp))) (by simp)) (fun B8 v8 D8 hA8 hB8 hN8 hS8=> ?_)
    have hN8':=hN8.mono hB8
    with_reducible refine Ow.nil ?_
    refine⟨(zu_ (fun r hr=>by(try simp only[zh_,List.mem_append]);(first|exact m7 r hr|simp only[m7 r hr,true_or]))), ?_⟩
    simp only[List.set_cons_zero,List.set_cons_succ,zo_,zE_,zF_]
    refine OwG.one 6 _ (by kernel_rfl) rfl ?_
    refine Ow.callC rfl rfl Tryz.call29 (fun w' hw'=>qS_ v8 (jm_ [⟨1,[97,98]⟩,⟨2,T⟩]) _ [y] w' ((hS8.mono (fun p hp=>by simp[hp])).W hw') (w4_ (hw'.has bi (.cells (qd_ y).toArray 24 (0,0)) (by simp))) (by simp) (Nat.le_trans (xz_ _) (by simp))) (fun B9 v9 D9 hA9 hB9 hN9 hS9=> ?_)
    have hN9':=hN9.mono hB9
    obtain⟨Wf,va,vb,hWf,hqf,-,-,rfl,hga,hgb⟩:=hS9
    obtain⟨hla,hlb⟩:=w9_ (by rw[hy,htO];exact hWf) hqf
    rw[hla] at hga
    rw[hlb] at hgb
    with_reducible refine Ow.nil ?_
    refine⟨(zu_ (fun r hr=>by(try simp only[zh_,List.mem_append]);(first|exact m7 r hr|simp only[m7 r hr,true_or]))), ?_⟩
    simp only[List.set_cons_zero,List.set_cons_succ,zo_,zE_,zF_]
    refine OwG.rest [7,8,9,10,11] rfl (by kernel_rfl) (by kernel_rfl) ?_
    simp only[zg_, ↓zc_, ↓za_, ↓zl_, ↓zk_,zb_]
    refine kq @jy_ ?_
    subst hL7
    exact CutO.mk ⟨va,vb,G++ [(bo,Obj.cells #[vi 1,vs [97,98],vi 2,vs T] 35 (0,0))]++ [(bi,Obj.cells (qd_ y).toArray 24 (0,0))]++D8++D9⟩ ⟨(((hNg.app hNo).app hNi).app hN8').app hN9',jq_ hga,jq_ hgb⟩ rfl rfl
  ·refine Ow.buildSlice (e:=24) (qd_ y).toArray rfl rfl (kz_ y) fun bi hbi hwi=> ?_
   with_reducible refine Ow.nil ?_
   refine⟨(zu_ (fun r hr=>by(try simp only[zh_,List.mem_append]);(first|exact m7 r hr|simp only[m7 r hr,true_or]))), ?_⟩
   simp only[List.set_cons_zero,List.set_cons_succ,zo_,zE_,zF_]
   have hNi:New w.heap.size [(bi,Obj.cells (qd_ y).toArray 24 (0,0))]:=⟨hwi,trivial⟩
   refine OwG.one 2 _ (by kernel_rfl) rfl ?_
   refine Ow.buildSlice (e:=35) #[vi 1,vs [97,98],vi 2,vs T] rfl rfl (XU_ 1 2 [97,98] T) fun bo hbo hwo=> ?_
   with_reducible refine Ow.nil ?_
   refine⟨(zu_ (fun r hr=>by(try simp only[zh_,List.mem_append]);(first|exact m7 r hr|simp only[m7 r hr,true_or]))), ?_⟩
   simp only[List.set_cons_zero,List.set_cons_succ,zo_,zE_,zF_]
   have hNo:New w.heap.size [(bo,Obj.cells #[vi 1,vs [97,98],vi 2,vs T] 35 (0,0))]:=⟨hwo,trivial⟩
   refine OwG.one 3 _ (by kernel_rfl) rfl ?_
   refine Ow.callC rfl rfl Tryz.call16 (fun w' hw'=>kJ_ _ [⟨1,[97,98]⟩,⟨2,T⟩] w' (hG.new hw' ((hN7.app hNi).app hNo)) (X2_ (hw'.has bo (.cells #[vi 1,vs [97,98],vi 2,vs T] 35 (0,0)) (by simp))) (by simp)) (fun B8 v8 D8 hA8 hB8 hN8 hS8=> ?_)
   have hN8':=hN8.mono hB8
   with_reducible refine Ow.nil ?_
   refine⟨(zu_ (fun r hr=>by(try simp only[zh_,List.mem_append]);(first|exact m7 r hr|simp only[m7 r hr,true_or]))), ?_⟩
   simp only[List.set_cons_zero,List.set_cons_succ,zo_,zE_,zF_]
   refine OwG.one 6 _ (by kernel_rfl) rfl ?_
   refine Ow.callC rfl rfl Tryz.call29 (fun w' hw'=>qS_ v8 (jm_ [⟨1,[97,98]⟩,⟨2,T⟩]) _ [y] w' ((hS8.mono (fun p hp=>by simp[hp])).W hw') (w4_ (hw'.has bi (.cells (qd_ y).toArray 24 (0,0)) (by simp))) (by simp) (Nat.le_trans (xz_ _) (by simp))) (fun B9 v9 D9 hA9 hB9 hN9 hS9=> ?_)
   have hN9':=hN9.mono hB9
   obtain⟨Wf,va,vb,hWf,hqf,-,-,rfl,hga,hgb⟩:=hS9
   obtain⟨hla,hlb⟩:=w9_ (by rw[hy,htO];exact hWf) hqf
   rw[hla] at hga
   rw[hlb] at hgb
   with_reducible refine Ow.nil ?_
   refine⟨(zu_ (fun r hr=>by(try simp only[zh_,List.mem_append]);(first|exact m7 r hr|simp only[m7 r hr,true_or]))), ?_⟩
   simp only[List.set_cons_zero,List.set_cons_succ,zo_,zE_,zF_]
   refine OwG.rest [7,8,9,10,11] rfl (by kernel_rfl) (by kernel_rfl) ?_
   simp only[zg_, ↓zc_, ↓za_, ↓zl_, ↓zk_,zb_]
   refine kq @jy_ ?_
   subst hL7
   exact CutO.mk ⟨va,vb,G++ [(bi,Obj.cells (qd_ y).toArray 24 (0,0))]++ [(bo,Obj.cells #[vi 1,vs [97,98],vi 2,vs T] 35 (0,0))]++D8++D9⟩ ⟨(((hNg.app hNi).app hNo).app hN8').app hN9',jq_ hga,jq_ hgb⟩ rfl rfl
 intro g j hg
 refine kv ?_
 obtain⟨va1,vb1,G1⟩:=g
 simp only at hg ⊢
 obtain⟨hNg1,hl1,hl2⟩:=hg
 refine Cw.cutO (G:=AlG) [44,45,46,47,48,49,50,51,52,11,12] (fun g=> [(11,g.a),(12,g.b)]) (fun g=>(b7, .cells (a8 y.l) 24 (0,0)):: (b5, .cells #[vi 2,vs T] 35 (0,0)):: (b3, .cells (a8 x.l) 24 (0,0)):: (b1, .cells #[vi 1,vs [97,98]] 35 (0,0))::g.G) (fun g=>New w.heap.size g.G∧(∀x,Q5_ (.sl x) g.a=some (vi 1))∧(∀x,Q5_ (.sl x) g.b=some (vi 1))∧RowOne g.G g.b x) ?_ ?_
 ·have hN7:New w.heap.size ((b7, .cells (a8 y.l) 24 (0,0)):: (b5, .cells #[vi 2,vs T] 35 (0,0)):: (b3, .cells (a8 x.l) 24 (0,0)):: (b1, .cells #[vi 1,vs [97,98]] 35 (0,0))::G1):=⟨hw7,hw5,hw3,hw1,hNg1⟩
  have m7: ∀r,r∈ [b5,b7]→r∈keys ((b7, .cells (a8 y.l) 24 (0,0)):: (b5, .cells #[vi 2,vs T] 35 (0,0)):: (b3, .cells (a8 x.l) 24 (0,0)):: (b1, .cells #[vi 1,vs [97,98]] 35 (0,0))::G1):=fun r hr=>by
   simp only[List.mem_cons,List.not_mem_nil,or_false] at hr
   rcases hr with rfl|rfl<;>simp[keys]
  have r5:zr_ w ((b7, .cells (a8 y.l) 24 (0,0)):: (b5, .cells #[vi 2,vs T] 35 (0,0)):: (b3, .cells (a8 x.l) 24 (0,0)):: (b1, .cells #[vi 1,vs [97,98]] 35 (0,0))::G1) b5=some (.cells #[vi 2,vs T] 35 (0,0)):=by rw[zx_ _ _ _ _ _ (by omega)];exact zR_ _ _ _ _
  have r7:zr_ w ((b7, .cells (a8 y.l) 24 (0,0)):: (b5, .cells #[vi 2,vs T] 35 (0,0)):: (b3, .cells (a8 x.l) 24 (0,0)):: (b1, .cells #[vi 1,vs [97,98]] 35 (0,0))::G1) b7=some (.cells (a8 y.l) 24 (0,0)):=zR_ _ _ _ _
  obtain⟨L7,hL7⟩: ∃L7,L7=(b7, .cells (a8 y.l) 24 (0,0)):: (b5, .cells #[vi 2,vs T] 35 (0,0)):: (b3, .cells (a8 x.l) 24 (0,0)):: (b1, .cells #[vi 1,vs [97,98]] 35 (0,0))::G1:=⟨_,rfl⟩
  rw[←hL7] at hN7 m7 r5 r7 ⊢
  refine Cw.regionG [b5,b7] [] 11 (by kernel_rfl) rfl ?_
  simp only[List.replicate_succ,List.replicate_zero]
  refine OwG.run [0,3] [true,false,false,true,false,false,false,false,false,false,false] 9 rfl (by kernel_rfl) (by kernel_rfl) fun k hk=> ?_
  simp only[zg_, ↓zc_, ↓za_, ↓zl_, ↓zk_,zb_]
  simp(disch:=(first|assumption|omega| (simp only[je_,jc_,UInt64.reduceToNat];try omega))) only[↓Sx.S0,Sx.S1,Tryz.fx,jy_,Nat.reduceAdd,Nat.reducePow,Int.reducePow,Nat.reduceBEq, ↓reduceIte,UInt8.reduceToNat,UInt16.reduceToNat,UInt32.reduceToNat,UInt64.reduceToNat,Int.reduceToNat,Md.next_sofnil,r5,r7]
  (with_reducible refine hk _ _ _ ?_);clear hk k
  refine OwG.two 1 4 _ _ (by kernel_rfl) rfl rfl ?_ ?_
  ·refine Ow.buildSlice (e:=35) #[vi 2,vs T] rfl rfl (Wk_ 2 T) fun bo hbo hwo=> ?_
   with_reducible refine Ow.nil ?_
   refine⟨(zu_ (fun r hr=>by(try simp only[zh_,List.mem_append]);(first|exact m7 r hr|simp only[m7 r hr,true_or]))), ?_⟩
   simp only[List.set_cons_zero,List.set_cons_succ,zo_,zE_,zF_]
   have hNo:New w.heap.size [(bo,Obj.cells #[vi 2,vs T] 35 (0,0))]:=⟨hwo,trivial⟩
   refine OwG.two 2 4 _ _ (by kernel_rfl) rfl rfl ?_ ?_
   ·refine Ow.callC rfl rfl Tryz.call16 (fun w' hw'=>kJ_ _ [⟨2,T⟩] w' (hG.new hw' (hN7.app hNo)) (Kb_ (hw'.has bo (.cells #[vi 2,vs T] 35 (0,0)) (by simp))) (by simp)) (fun B8 v8 D8 hA8 hB8 hN8 hS8=> ?_)
    have hN8':=hN8.mono hB8
    with_reducible refine Ow.nil ?_
    refine⟨(zu_ (fun r hr=>by(try simp only[zh_,List.mem_append]);(first|exact m7 r hr|simp only[m7 r hr,true_or]))), ?_⟩
    simp only[List.set_cons_zero,List.set_cons_succ,zo_,zE_,zF_]
    refine OwG.one 4 _ (by kernel_rfl) rfl ?_
    refine Ow.buildSlice (e:=24) (qd_ y).toArray rfl rfl (kz_ y) fun bi hbi hwi=> ?_
    with_reducible refine Ow.nil ?_
    refine⟨(zu_ (fun r hr=>by(try simp only[zh_,List.mem_append]);(first|exact m7 r hr|simp only[m7 r hr,true_or]))), ?_⟩
    simp only[List.set_cons_zero,List.set_cons_succ,zo_,zE_,zF_]
    have hNi:New w.heap.size [(bi,Obj.cells (qd_ y).toArray 24 (0,0))]:=⟨hwi,trivial⟩
    refine OwG.one 5 _ (by kernel_rfl) rfl ?_
    refine Ow.callC rfl rfl Tryz.call29 (fun w' hw'=>qS_ v8 (jm_ [⟨2,T⟩]) _ [y] w' ((hS8.mono (fun p hp=>by simp[hp])).W hw') (w4_ (hw'.has bi (.cells (qd_ y).toArray 24 (0,0)) (by simp))) (by simp) (Nat.le_trans (xz_ _) (by simp))) (fun B9 v9 D9 hA9 hB9 hN9 hS9=> ?_)
    have hN9':=hN9.mono hB9
    obtain⟨Wf,va,vb,hWf,hqf,-,-,rfl,hga,hgb⟩:=hS9
    obtain⟨hla,hlb⟩:=w8_ (by rw[hy,htO];exact hWf) hqf
    rw[hla] at hga
    rw[hlb] at hgb
    with_reducible refine Ow.nil ?_
    refine⟨(zu_ (fun r hr=>by(try simp only[zh_,List.mem_append]);(first|exact m7 r hr|simp only[m7 r hr,true_or]))), ?_⟩
    simp only[List.set_cons_zero,List.set_cons_succ,zo_,zE_,zF_]
    refine OwG.rest [6,7,8,9,10] rfl (by kernel_rfl) (by kernel_rfl) ?_
    simp only[zg_, ↓zc_, ↓za_, ↓zl_, ↓zk_,zb_]
    refine kq @jy_ ?_
    subst hL7
    exact CutO.mk ⟨va,vb,G1++ [(bo,Obj.cells #[vi 2,vs T] 35 (0,0))]++D8++ [(bi,Obj.cells (qd_ y).toArray 24 (0,0))]++D9⟩ ⟨(((hNg1.app hNo).app hN8').app hNi).app hN9',jq_ hga,jq_ hgb,(aaL_ hgb rfl (by simp[hx])).mono (fun p hp=>by simp[hp])⟩ rfl rfl
   ·refine Ow.buildSlice (e:=24) (qd_ y).toArray rfl rfl (kz_ y) fun bi hbi hwi=> ?_
    with_reducible refine Ow.nil ?_
    refine⟨(zu_ (fun r hr=>by(try simp only[zh_,List.mem_append]);(first|exact m7 r hr|simp only[m7 r hr,true_or]))), ?_⟩
    simp only[List.set_cons_zero,List.set_cons_succ,zo_,zE_,zF_]
    have hNi:New w.heap.size [(bi,Obj.cells (qd_ y).toArray 24 (0,0))]:=⟨hwi,trivial⟩
    refine OwG.one 2 _ (by kernel_rfl) rfl ?_
    refine Ow.callC rfl rfl Tryz.call16 (fun w' hw'=>kJ_ _ [⟨2,T⟩] w' (hG.new hw' ((hN7.app hNo).app hNi)) (Kb_ (hw'.has bo (.cells #[vi 2,vs T] 35 (0,0)) (by simp))) (by simp)) (fun B8 v8 D8 hA8 hB8 hN8 hS8=> ?_)
    have hN8':=hN8.mono hB8
    with_reducible refine Ow.nil ?_
    refine⟨(zu_ (fun r hr=>by(try simp only[zh_,List.mem_append]);(first|exact m7 r hr|simp only[m7 r hr,true_or]))), ?_⟩
    simp only[List.set_cons_zero,List.set_cons_succ,zo_,zE_,zF_]
    refine OwG.one 5 _ (by kernel_rfl) rfl ?_
    refine Ow.callC rfl rfl Tryz.call29 (fun w' hw'=>qS_ v8 (jm_ [⟨2,T⟩]) _ [y] w' ((hS8.mono (fun p hp=>by simp[hp])).W hw') (w4_ (hw'.has bi (.cells (qd_ y).toArray 24 (0,0)) (by simp))) (by simp) (Nat.le_trans (xz_ _) (by simp))) (fun B9 v9 D9 hA9 hB9 hN9 hS9=> ?_)
    have hN9':=hN9.mono hB9
    obtain⟨Wf,va,vb,hWf,hqf,-,-,rfl,hga,hgb⟩:=hS9
    obtain⟨hla,hlb⟩:=w8_ (by rw[hy,htO];exact hWf) hqf
    rw[hla] at hga
    rw[hlb] at hgb
    with_reducible refine Ow.nil ?_
    refine⟨(zu_ (fun r hr=>by(try simp only[zh_,List.mem_append]);(first|exact m7 r hr|simp only[m7 r hr,true_or]))), ?_⟩
    simp only[List.set_cons_zero,List.set_cons_succ,zo_,zE_,zF_]
    refine OwG.rest [6,7,8,9,10] rfl (by kernel_rfl) (by kernel_rfl) ?_
    simp only[zg_, ↓zc_, ↓za_, ↓zl_, ↓zk_,zb_]
    refine kq @jy_ ?_
    subst hL7
    exact CutO.mk ⟨va,vb,G1++ [(bo,Obj.cells #[vi 2,vs T] 35 (0,0))]++ [(bi,Obj.cells (qd_ y).toArray 24 (0,0))]++D8++D9⟩ ⟨(((hNg1.app hNo).app hNi).app hN8').app hN9',jq_ hga,jq_ hgb,(aaL_ hgb rfl (by simp[hx])).mono (fun p hp=>by simp[hp])⟩ rfl rfl
  ·refine Ow.buildSlice (e:=24) (qd_ y).toArray rfl rfl (kz_ y) fun bi hbi hwi=> ?_
   with_reducible refine Ow.nil ?_
   refine⟨(zu_ (fun r hr=>by(try simp only[zh_,List.mem_append]);(first|exact m7 r hr|simp only[m7 r hr,true_or]))), ?_⟩
   simp only[List.set_cons_zero,List.set_cons_succ,zo_,zE_,zF_]
   have hNi:New w.heap.size [(bi,Obj.cells (qd_ y).toArray 24 (0,0))]:=⟨hwi,trivial⟩
   refine OwG.one 1 _ (by kernel_rfl) rfl ?_
   refine Ow.buildSlice (e:=35) #[vi 2,vs T] rfl rfl (Wk_ 2 T) fun bo hbo hwo=> ?_
   with_reducible refine Ow.nil ?_
   refine⟨(zu_ (fun r hr=>by(try simp only[zh_,List.mem_append]);(first|exact m7 r hr|simp only[m7 r hr,true_or]))), ?_⟩
   simp only[List.set_cons_zero,List.set_cons_succ,zo_,zE_,zF_]
   have hNo:New w.heap.size [(bo,Obj.cells #[vi 2,vs T] 35 (0,0))]:=⟨hwo,trivial⟩
   refine OwG.one 2 _ (by kernel_rfl) rfl ?_
   refine Ow.callC rfl rfl Tryz.call16 (fun w' hw'=>kJ_ _ [⟨2,T⟩] w' (hG.new hw' ((hN7.app hNi).app hNo)) (Kb_ (hw'.has bo (.cells #[vi 2,vs T] 35 (0,0)) (by simp))) (by simp)) (fun B8 v8 D8 hA8 hB8 hN8 hS8=> ?_)
   have hN8':=hN8.mono hB8
   with_reducible refine Ow.nil ?_
   refine⟨(zu_ (fun r hr=>by(try simp only[zh_,List.mem_append]);(first|exact m7 r hr|simp only[m7 r hr,true_or]))), ?_⟩
   simp only[List.set_cons_zero,List.set_cons_succ,zo_,zE_,zF_]
   refine OwG.one 5 _ (by kernel_rfl) rfl ?_
   refine Ow.callC rfl rfl Tryz.call29 (fun w' hw'=>qS_ v8 (jm_ [⟨2,T⟩]) _ [y] w' ((hS8.mono (fun p hp=>by simp[hp])).W hw') (w4_ (hw'.has bi (.cells (qd_ y).toArray 24 (0,0)) (by simp))) (by simp) (Nat.le_trans (xz_ _) (by simp))) (fun B9 v9 D9 hA9 hB9 hN9 hS9=> ?_)
   have hN9':=hN9.mono hB9
   obtain⟨Wf,va,vb,hWf,hqf,-,-,rfl,hga,hgb⟩:=hS9
   obtain⟨hla,hlb⟩:=w8_ (by rw[hy,htO];exact hWf) hqf
   rw[hla] at hga
   rw[hlb] at hgb
   with_reducible refine Ow.nil ?_
   refine⟨(zu_ (fun r hr=>by(try simp only[zh_,List.mem_append]);(first|exact m7 r hr|simp only[m7 r hr,true_or]))), ?_⟩
   simp only[List.set_cons_zero,List.set_cons_succ,zo_,zE_,zF_]
   refine OwG.rest [6,7,8,9,10] rfl (by kernel_rfl) (by kernel_rfl) ?_
   simp only[zg_, ↓zc_, ↓za_, ↓zl_, ↓zk_,zb_]
   refine kq @jy_ ?_
   subst hL7
   exact CutO.mk ⟨va,vb,G1++ [(bi,Obj.cells (qd_ y).toArray 24 (0,0))]++ [(bo,Obj.cells #[vi 2,vs T] 35 (0,0))]++D8++D9⟩ ⟨(((hNg1.app hNi).app hNo).app hN8').app hN9',jq_ hga,jq_ hgb,(aaL_ hgb rfl (by simp[hx])).mono (fun p hp=>by simp[hp])⟩ rfl rfl
 intro g j hg
 refine kv ?_
 obtain⟨va2,vb2,G2⟩:=g
 simp only at hg ⊢
 obtain⟨hNg2,hl3,hl4,bb,off,arr,E,hbm,hbi,hbl⟩:=hg
 refine Cw.world fun wz hwz=> ?_
 have hnd:=hwz.nodup
 clear hwz wz
 have rbb:zr_ w ((b7, .cells (a8 y.l) 24 (0,0)):: (b5, .cells #[vi 2,vs T] 35 (0,0)):: (b3, .cells (a8 x.l) 24 (0,0)):: (b1, .cells #[vi 1,vs [97,98]] 35 (0,0))::G2) bb=some (.cells arr E (0,0)):=VZ_ hnd (by simp[hbm])
 have r3:zr_ w ((b7, .cells (a8 y.l) 24 (0,0)):: (b5, .cells #[vi 2,vs T] 35 (0,0)):: (b3, .cells (a8 x.l) 24 (0,0)):: (b1, .cells #[vi 1,vs [97,98]] 35 (0,0))::G2) b3=some (.cells (a8 x.l) 24 (0,0)):=VZ_ hnd (by simp)
 first|with_reducible refine ks [] @jy_ ?_|refine kp @jy_ ?_
 refine Cw.regionS [b3,bb] [0,1,2,3,4,5,6,7,8,9,10,11,12,13,14,15,16,17,18,19,20,21,22,23,24,25] [] (by kernel_rfl) (by kernel_rfl) (by kernel_rfl) ?_
 simp only[zg_, ↓zc_, ↓za_, ↓zl_, ↓zk_,zb_]
 refine kq (And.intro @jy_ (And.intro @hl1 (And.intro @hl2 (And.intro @hl3 (And.intro @hl4 (And.intro @hbi (And.intro @hbl (And.intro @rbb (@r3))))))))) ?_
 refine⟨_,(ke @jy_),⟨hw7,hw5,hw3,hw1,hNg2⟩, ?_⟩
 rfl
end Go.Proofs
end
namespace Go.Sx
open Go Go.ChangeShapes Go.WideShapes Go.RowKit
theorem Hp.same0 {W W':World} (h:Hp W [] W') {b:Nat} (hb:b<W.heap.size):W'.heap[b]? =W.heap[b]? :=h.old b hb (fun hm=>by cases hm)
theorem Hp.kept {W W':World} (h:Hp W [] W') (may:MemPlace→Prop):W.keptBut W' may:=by
 refine⟨h.os,h.output,fun i hi=> ?_⟩
 rw[h.same0 hi]
 cases ho:W.heap[i]? with
 |none=>rfl
 |some o=>
  cases o<;>first
   |exact⟨rfl,rfl,rfl,fun _ _=>rfl⟩
   |exact .inr ⟨rfl,rfl⟩
   |rfl
theorem Hp.sameAt {W W':World} (h:Hp W [] W') {p:MemPlace} (hp:p.block<W.heap.size):W.sameAt W' p:=by
 cases p with
 |cell b off=>
  have:=h.same0 (b:=b) hp
  simp only[World.sameAt,World.cell?,this]
 |map b=>exact h.same0 hp
theorem Hp.frozen {W W':World} (h:Hp W [] W') {a:Addr} (ha:a.block<W.heap.size):W'.frozen? a=W.frozen? a:=by
 simp only[World.frozen?,h.same0 ha]
section
variable {H:Type} {enc:TypeId×Value→H} {P:Program}
theorem wT_ (hl:laidOutB P=true) {W W':World} {sp:Nat→Bool} (hp:Hp W [] W'): ∀ {ts:List TypeId} {vs:List Value} {ds:List (DataW H)} {ps:List MemPlace},
  (∀t∈ts,P.readableRec t=true∧t<P.types.size)→(∀p∈ps,p.block<W.heap.size)→(∀p∈ps,sp p.block=true)→
  DataW.TrodAll enc P W 0 (fun _=>true) true ts vs ds ps→DataW.TrodAll enc P W' 0 sp true ts vs ds ps
 | [],_,_,_,_,_,_,h=>by
  obtain⟨rfl,rfl,rfl⟩:=trodAll_nil h
  exact trodAll_mk0
 |t::ts,_,_,_,ht,hlt,hs,h=>by
  obtain⟨v,vs,d,ds,p,q,rfl,rfl,rfl,h1,h2⟩:=trodAll_cons h
  have hlt1: ∀x∈p,x.block<W.heap.size:=fun x hx=>hlt x (List.mem_append_left _ hx)
  exact trodAll_cons_mk (WideElems.Trod_stays hl (ht t List.mem_cons_self).1 (ht t List.mem_cons_self).2 h1 (fun x hx=>hp.sameAt (hlt1 x hx)) (fun x hx=>hs x (List.mem_append_left _ hx)))
   (wT_ hl hp (fun u hu=>ht u (List.mem_cons_of_mem _ hu)) (fun x hx=>hlt x (List.mem_append_right _ hx)) (fun x hx=>hs x (List.mem_append_right _ hx)) h2)
theorem af5_ {f:Func} {s:ChangeSpec} {W W':World} {args:Array Value} {ds gs:List (DataW H)} {before:List MemPlace} {tb:TypeId} (hl:laidOutB P=true)
  (hW:DataW.Whole enc P f.params.toList s.vars false W args.toList ds gs before) (hv:s.vars= []) (hpar: ∀t∈f.params.toList,P.readableRec t=true∧t<P.types.size)
  (hr:f.resultTypes= #[tb]) (htb:P.underlying tb=some .bool) (hfn:s.fn H ds={results:= [.lit (.bool true)],args:=ds}) (hp:Hp W [] W'):
  s.post enc P f false true false false W args (.bool true) W':=by
 have hlt:=hW.lt
 have hW0:=hW
 obtain⟨p,q,hA,hV,rfl,hz,hn⟩:=hW
 rw[hv] at hV
 obtain⟨rfl,rfl⟩:=trodVars_none hV
 rw[List.append_nil] at hW0 hlt hz
 have hargs: ∀sp:Nat→Bool,(∀x∈p,sp x.block=true)→DataW.TrodAll enc P W' 0 sp true f.params.toList args.toList (s.fn H (ds++ [])).args p:=fun sp hs=>by
  rw[List.append_nil,hfn]
  exact wT_ hl hp hpar hlt hs hA
 have hvars: ∀sp:Nat→Bool,DataW.TrodVars enc P W' sp s.vars (s.fn H (ds++ [])).vars []:=fun sp=>by
  rw[List.append_nil,hfn,hv];rfl
 have hres: ∀ (b:Nat) (sp:Nat→Bool) (hd:Bool),DataW.TrodAll enc P W' b sp hd f.resultTypes.toList ((Value.bool true).resultList f.resultTypes.size) (s.fn H (ds++ [])).results []:=fun b sp hd=>by
  rw[List.append_nil,hfn,hr]
  exact trodAll_cons_mk (shut_bool htb true) trodAll_mk0
 have hold: ∀x∈p,(fun b=>decide (b<W.heap.size)) x.block=true:=fun x hx=>by simpa using hlt x hx
 refine⟨ds,[],p,[],p,[],hW0,hres _ _ _,hargs _ hold,hvars _,hp.kept _,fun _=> ?_⟩
 refine⟨ok_one hr rfl (okWide_bool_mk htb true),_,_,([]++p)++ [],⟨[]++p,[],trodAll_append (hargs _ (fun _ _=>rfl)) (hres _ _ _),hvars _,rfl, ?_,fun h=>by cases h⟩, ?_⟩
 ·intro b off hx
  have hx':MemPlace.cell b off∈p:=by simpa using hx
  rw[hp.frozen (hlt _ hx')]
  exact hz b off hx'
 ·intro x hx _
  simpa using hx
end
section
variable {P:Program} {W:World} {name:String} {k:IntKind} {zs:List Int}
theorem v9_ {t e:TypeId} {g n:Nat} (hg:P.globalNamed name=some g) (hty: (P.globals[g]?).map (·.type)=some t) (ht:P.underlying t=some (.array n e)) (he:P.underlying e=some (.int k)) (hce:P.cellsOf e=1) (hct:P.cellsOf t=n):
  ∀ {laid:List (String×DataW Unit)} {ps:List MemPlace},DataW.LaidVars P W laid ps→(name,Lib.tabData k zs)∈laid→Lib.TabIs P W name k zs
 | [],_,_,hm=>by cases hm
 | (n',d')::rest,ps,h,hm=>by
  obtain⟨g',t',cs,fuel,p,q,hg',ht',hvar,hd,hr,-⟩:=h
  rcases List.mem_cons.1 hm with hm|hm
  ·cases hm
   obtain rfl:=Option.some.inj (hg.symm.trans hg')
   obtain rfl:=Option.some.inj (hty.symm.trans ht')
   unfold Lib.TabIs
   rw[hvar,←Lib.cells_of_tab ht he hce hct hd]
  ·exact v9_ hg hty ht he hce hct hr hm
theorem Qp_ {g:Nat} (hg:P.globalNamed name=some g) (h:Lib.TabIs P W name k zs): ∃e f,W.heap[g]? =some (.cells (zs.map fun z=>Value.int k z).toArray e f):=by
 unfold Lib.TabIs at h
 simp only[World.var?,hg,Option.bind_some] at h
 split at h
 ·rename_i cs e f hb
  cases h
  exact⟨e,f,hb⟩
 ·cases h
end
section
variable {H:Type} {enc:TypeId×Value→H} {P:Program}
end
end Go.Sx
namespace Go.Sx
open Go
section
variable {P:Program}
theorem ahC_ {fits:TypeId→Bool} {d:Nat} {e:TypeId} {count off n:Nat} (h:rowAt P fits d e count off n=true):off≤count*P.cellsOf e:=by
 cases d with
 |zero=>simp[rowAt] at h
 |succ d=>
  unfold rowAt at h
  simp only at h
  split at h
  ·cases h
  ·rename_i hs
   have hs':0<P.cellsOf e:=Nat.pos_of_ne_zero hs
   have hd:=Nat.div_add_mod off (P.cellsOf e)
   have hm:=Nat.mod_lt off hs'
   rw[Bool.or_eq_true] at h
   rcases h with h|h
   ·simp only[Bool.and_eq_true,beq_iff_eq,decide_eq_true_eq] at h
    have:off / P.cellsOf e*P.cellsOf e≤count*P.cellsOf e:=Nat.mul_le_mul_right _ (by omega)
    rw[Nat.mul_comm (P.cellsOf e)] at hd
    omega
   ·simp only[Bool.and_eq_true,decide_eq_true_eq] at h
    have: (off / P.cellsOf e+1)*P.cellsOf e≤count*P.cellsOf e:=Nat.mul_le_mul_right _ (by omega)
    rw[Nat.add_mul,Nat.one_mul] at this
    rw[Nat.mul_comm (P.cellsOf e)] at hd
    omega
theorem Wo_ {e:TypeId} {count off:Nat}: ∀ {d:Nat} {u:TypeId} {n:Nat},liesAt P d e count off u n=true→off≤count*P.cellsOf e
 |0,u,n,h=>by simp[liesAt] at h
 |d+1,u,n,h=>by
  unfold liesAt at h
  rw[Bool.or_eq_true] at h
  rcases h with h|h
  ·exact ahC_ h
  ·split at h
   ·exact Wo_ h
   ·cases h
theorem alA_ {W:World} {r:Reach} {base:Nat} {a:Addr} {e:TypeId} {n:Nat} (h:W.has P r base a e n):a.spot=none∧ ∃arr E fz,W.heap[a.block]? =some (.cells arr E fz)∧a.off≤arr.size:=by
 obtain⟨-,hs,row,cells,hsh,hl⟩:=h
 refine⟨hs, ?_⟩
 unfold World.shape? at hsh
 split at hsh
 ·rename_i c el fz hh
  cases hsh
  refine⟨c,_,fz,hh,Nat.le_trans (Wo_ hl) ?_⟩
  exact Nat.div_mul_le_self _ _
 ·cases hsh
theorem afI_ {W:World} {r:Reach} {base:Nat} {t e:TypeId} {v:Value} (ht:P.underlying t=some (.slice e)) (h:Value.okWide P W r base t v):
  v= .slice none 0 0∨ ∃b off len cap arr E fz,v=vsl b off len cap∧len≤cap∧W.heap[b]? =some (.cells arr E fz)∧off≤arr.size:=by
 obtain⟨a,len,cap,rfl⟩:=Go.WideShapes.okWide_slice ht h
 unfold Value.okWide at h
 rw[ht] at h
 unfold Cell.okWide at h
 rw[ht] at h
 simp only at h
 unfold Cell.ok at h
 rw[ht] at h
 cases a with
 |none=>
  left
  simp only at h
  split at h
  all_goals first| (cases h;done) |simp_all
 |some a=>
  right
  simp only at h
  obtain⟨hle,-,hh⟩:=h
  obtain⟨hs,arr,E,fz,hb,ho⟩:=alA_ hh
  obtain⟨b,off,sp⟩:=a
  simp only at hs
  subst hs
  exact⟨b,off,len,cap,arr,E,fz,rfl,hle,hb,ho⟩
theorem al0_ {α:Type} {enc:α→List Value} {z:α} {m:Nat} {W:World} {base b off c:Nat} {l:List α} {arr:Array Value} {E:TypeId} {fz:Nat×Nat} (hm0:0<m) (hm: ∀x,(enc x).length=m)
  (hcells: ∀i,i<l.length→W.cells? base ((Addr.mk b off none).add (i*m)) m=some (enc (l.getD i z))) (hheap:W.heap[b]? =some (.cells arr E fz)) (hoff:off≤arr.size) (hc:l.length≤c):SlV m enc z W (vsl b off l.length c) l:=by
 have get: ∀k,k<l.length→ ∀j,j<m→arr[off+k*m+j]? =(enc (l.getD k z))[j]? :=by
  intro k hk j hj
  obtain⟨-,hl,hg⟩:=World.cells?_some (hcells k hk)
  have:=hg j (by omega)
  rw[qG_,qG_] at this
  simp only[World.cell?,hheap,Option.isSome_none,Bool.false_eq_true,if_false] at this
  exact this
 refine SlV.sl hheap get hc ?_
 by_cases h0:l.length=0
 ·rw[h0];omega
 ·have h1:=get (l.length - 1) (by omega) (m - 1) (by omega)
  rw[List.getElem?_eq_getElem (by rw[hm];omega)] at h1
  have h2:=(Array.getElem?_eq_some_iff.1 h1).1
  have h3: (l.length - 1)*m+m=l.length*m:=by
   rw[←Nat.succ_mul];congr 1;omega
  omega
theorem ac1_ {H:Type} {tell:TypeId×Value→H} {α:Type} {enc:α→List Value} {z:α} {m:Nat} {W:World} {r:Reach} {base b0:Nat} {sp:Nat→Bool} {held:Bool} {fuel:Nat} {t e:TypeId} {v:Value} {x:DataW H×List MemPlace}
  (ht:P.underlying t=some (.slice e)) (he:P.cellsOf e=m) (hm0:0<m) (hm: ∀x,(enc x).length=m) (hval:Value.okWide P W r b0 t v)
  (hdec: ∀n cs y,DataW.trod tell P W base sp held n e cs=some y→ ∃a,cs=enc a) (hd:DataW.trod tell P W base sp held fuel t [v]=some x): ∃l,SlV m enc z W v l:=by
 rcases DataW.trod_slice ht hd with⟨hcs,-⟩ | ⟨a,len,cap,elems,rest,n,-,hcs,-,-,hl,-,hlen,hel,-,-⟩
 ·simp only[List.cons.injEq,and_true] at hcs
  subst hcs
  exact⟨[],SlV.nil W⟩
 ·simp only[List.cons.injEq,and_true] at hcs
  subst hcs
  rcases afI_ ht hval with h0| ⟨b,off,len',cap',arr,E,fz,h1,-,hb,ho⟩
  ·cases h0
  ·unfold vsl at h1
   cases h1
   rw[he] at hel
   have hex: ∀i,i<len→ ∃q,W.cells? base ((Addr.mk b off none).add (i*m)) m=some (enc q):=by
    intro i hi
    have h2:=hel i hi
    rw[List.getElem?_eq_getElem (by omega)] at h2
    cases hc:W.cells? base ((Addr.mk b off none).add (i*m)) m with
    |none=>rw[hc] at h2;cases h2
    |some cs=>
     rw[hc] at h2
     obtain⟨q,rfl⟩:=hdec _ _ _ h2
     exact⟨q,rfl⟩
   obtain⟨f,hf⟩: ∃f:Nat→α,∀i,i<len→W.cells? base ((Addr.mk b off none).add (i*m)) m=some (enc (f i)):=by
    classical
    refine⟨fun i=>if h:i<len then Classical.choose (hex i h) else z,fun i hi=> ?_⟩
    simp only[dif_pos hi]
    exact Classical.choose_spec (hex i hi)
   have hll: ((List.range len).map f).length=len:=by simp
   refine⟨(List.range len).map f, ?_⟩
   have:=al0_ (W:=W) (base:=base) (b:=b) (off:=off) (c:=cap) (l:=(List.range len).map f) (z:=z) hm0 hm (fun i hi=>by
    rw[hll] at hi
    rw[hf i hi]
    congr 2
    rw[List.getD_eq_getElem?_getD,List.getElem?_map,List.getElem?_range hi];rfl) hb ho (by rw[hll];exact hl)
   rw[hll] at this
   exact this
end
end Go.Sx
section
open Go Go.Proofs Go.Sx Go.StP Go.ChangeShapes
namespace Go.Proofs
set_option maxRecDepth 10000
set_option maxHeartbeats 1000000
set_option linter.unusedSimpArgs false
theorem ahA_ {H:Type} {tell:TypeId×Value→H} {W:World} {base:Nat} {sp:Nat→Bool} {held:Bool} {n:Nat} {cs:List Value} {y:DataW H×List MemPlace}
  (h:DataW.trod tell Tryz.prog W base sp held n 24 cs=some y): ∃i:IdL,cs=i.l.map v8:=by
 obtain⟨xs,m,-,-,hlen,hxl,hel⟩:=DataW.trod_array Tryz.underlying24 h
 have hc: (Tryz.prog).cellsOf 24=32:=by kernel_rfl
 have h1: (Tryz.prog).cellsOf 5=1:=by kernel_rfl
 rw[hc] at hlen
 rw[h1] at hel
 have hex: ∀i (hi:i<cs.length),∃x:UInt8,cs[i]=v8 x:=by
  intro i hi
  have h2:=hel i (by omega)
  rw[List.getElem?_eq_getElem (by omega),Nat.mul_one,List.drop_eq_getElem_cons hi,List.take_succ_cons,List.take_zero] at h2
  obtain⟨z,hz,-,hw⟩:=DataW.trod_int Tryz.underlying5 h2
  simp only[List.cons.injEq,and_true] at hz
  rw[hz]
  simp only[Lit.wf,Bool.and_eq_true,decide_eq_true_eq] at hw
  have hw1:0≤z:=by simpa [IntKind.min,IntKind.bits,IntKind.signed] using hw.1
  have hw2:z≤255:=by simpa [IntKind.max,IntKind.bits,IntKind.signed] using hw.2
  refine⟨UInt8.ofNat z.toNat, ?_⟩
  unfold v8
  rw[UInt8.toNat_ofNat',Nat.mod_eq_of_lt (by omega)]
  congr 1;omega
 have hl: ∃l:List UInt8,cs=l.map v8:=by
  clear hel hlen hxl h
  induction cs with
  |nil=>exact⟨[],rfl⟩
  |cons c r ih=>
   obtain⟨x,hx⟩:=hex 0 (by simp)
   obtain⟨l,hl⟩:=ih (fun i hi=>by have:=hex (i+1) (by simpa using hi);simpa using this)
   exact⟨x::l,by rw[hl];simp at hx;simp[hx]⟩
 obtain⟨l,rfl⟩:=hl
 exact⟨⟨l,by simpa using hlen⟩,rfl⟩
theorem ajP_ {H:Type} {tell:TypeId×Value→H} {W:World} {base:Nat} {sp:Nat→Bool} {held:Bool} (n:Nat) (cs:List Value) (y:DataW H×List MemPlace)
  (h:DataW.trod tell Tryz.prog W base sp held n 35 cs=some y): ∃o:ObK,cs=obKC o:=by
 have hc: (Tryz.prog).cellsOf 35=2:=by kernel_rfl
 have hc3: (Tryz.prog).cellsOf 3=1:=by kernel_rfl
 have hcT: (Tryz.prog).cellsOf 9=1:=by kernel_rfl
 obtain⟨y0,y1,n',-,hlen,h0,h1⟩:=ChangeShapes.trod_struct2 Tryz.underlying35 h
 simp only at h0 h1 hlen
 rw[hc3,List.drop_zero] at h0
 rw[hcT] at h1
 rw[hc] at hlen
 obtain⟨z,hz,-,-⟩:=DataW.trod_int Tryz.underlying3 h0
 obtain⟨s,hs2,-,-⟩:=DataW.trod_string Tryz.underlying9 h1
 have hd:cs=cs.take 1++ (cs.drop 1).take 1:=by
  rw[show(cs.drop 1).take 1=cs.drop 1 from List.take_of_length_le (by rw[List.length_drop];omega),List.take_append_drop]
 rw[hz,hs2] at hd
 exact⟨⟨z,s.data.toList⟩,by rw[hd];rfl⟩
theorem afC_ {H:Type} {enc:TypeId×Value→H} {W:World} {r:Reach} {b0 base:Nat} {sp:Nat→Bool} {held:Bool} {v:Value} {d:DataW H} {p:List MemPlace}
  (hval:Value.okWide Tryz.prog W r b0 22 v) (hd:DataW.Trod enc Tryz.prog W base sp held 22 v d p): ∃l,SlV 2 obKC x7_ W v l:=by
 obtain⟨a0,len,cap,rfl⟩:=WideShapes.okWide_slice Tryz.underlying22 hval
 obtain⟨fu,hf⟩:=hd
 exact ac1_ (z:=x7_) Tryz.underlying22 (by kernel_rfl) (by decide) Kf_ hval ajP_ hf
theorem acm_ {H:Type} {enc:TypeId×Value→H} {W:World} {r:Reach} {b0 base:Nat} {sp:Nat→Bool} {held:Bool} {v:Value} {d:DataW H} {p:List MemPlace}
  (hval:Value.okWide Tryz.prog W r b0 30 v) (hd:DataW.Trod enc Tryz.prog W base sp held 30 v d p): ∃l,SlV 32 qd_ id0 W v l:=by
 obtain⟨a0,len,cap,rfl⟩:=WideShapes.okWide_slice Tryz.underlying30 hval
 obtain⟨fu,hf⟩:=hd
 exact ac1_ (z:=id0) Tryz.underlying30 (by kernel_rfl) (by decide) xG_ hval (fun n cs y h=>by obtain⟨i,hi⟩:=ahA_ h;exact⟨i,hi⟩) hf
end Go.Proofs
end
section
open Go Go.Proofs Go.Sx Go.StP Go.RooP
namespace Go.Proofs
set_option maxRecDepth 10000
set_option maxHeartbeats 400000
set_option linter.unusedSimpArgs false
theorem Jj_ {D:zd_} {v:Value} {l:List IdL} {w:World} (h:GrI D 24 32 v l.length (l.map qd_).flatten) (hD: ∀b o,(b,o)∈D→w.heap[b]? =some o):SlV 32 qd_ id0 w v l:=by
 obtain⟨X,hX,h⟩:=h
 exact h.slM (fun b o hm=>hD b o (hX _ hm)) rfl rfl qB_
set_option linter.defProp false
end Go.Proofs
end
section
open Go Go.Proofs Go.Sx Go.StP Go.RooP
namespace Go.Proofs
set_option maxRecDepth 10000
set_option maxHeartbeats 400000
set_option linter.unusedSimpArgs false
set_option linter.defProp false
end Go.Proofs
end
section
open Go Go.Proofs Go.Sx Go.StP Go.RooP
namespace Go.Proofs
set_option maxRecDepth 10000
set_option maxHeartbeats 400000
set_option linter.unusedSimpArgs false
theorem aaT_ {k:Int} {t:List UInt8} {c:ChildL} (h:c∈qm_ k t):c.kind≠0:=by
 unfold qm_ at h
 by_cases hr:xA_ k t=true
 ·rw[if_pos hr] at h
  by_cases h2:k=2
  ·subst h2
   rw[if_pos rfl] at h
   obtain⟨e,he,rfl⟩:=List.mem_map.1 h
   unfold xA_ at hr
   split at hr
   ·simp only[show¬ ((2:Int)=1) by decide, ↓reduceIte,Bool.and_eq_true] at hr
    have:=((xQ_ hr.2).2 e he).1
    show e.kind≠0
    omega
   ·simp at hr
  ·rw[if_neg h2] at h
   by_cases h3:k=3
   ·rw[if_pos h3] at h
    rcases List.mem_cons.1 h with rfl|h
    ·show(2:Int)≠0;decide
    ·obtain⟨e,-,rfl⟩:=List.mem_map.1 h
     show(3:Int)≠0;decide
   ·rw[if_neg h3] at h;cases h
 ·rw[if_neg hr] at h;cases h
theorem aia_ {s:j7_} {i:IdL} {c:ChildL} (h:c∈jO_ s i):jN_ s c=((s c.id).2&&decide ((s c.id).1.k=c.kind)):=by
 unfold jN_
 rw[beq_eq_false_iff_ne.2 (aaT_ h),Bool.false_or]
 congr 1
 rw[Bool.eq_iff_iff,beq_iff_eq,decide_eq_true_iff]
 exact eq_comm
theorem WkI.kidEnd {s:j7_} {r:List IdL} {W:WkS} (h:WkI s r W) (hq:W.q= []) {i:IdL} (hi:i∈W.ms) {c:ChildL} (hc:c∈jO_ s i): (jN_ s c=true→c.id∈xn_ W.ms)∧(jN_ s c=false→c.id∈xK_ W.lk):=by
 have hv:c∈W.vis:=by
  rcases h.kids i hi c hc with h1|h1
  ·exact h1
  ·rw[hq] at h1;cases h1
 exact⟨fun hf=>mem_srtI.2 (h.fine c hv hf),fun hf=>mem_srtI.2 (List.mem_map_of_mem (h.lack c hv hf))⟩
theorem WkI.rootEnd {s:j7_} {r:List IdL} {W:WkS} (h:WkI s r W) (hq:W.q= []) {i:IdL} (hi:i∈r):i∈xn_ W.ms∨i∈xK_ W.lk:=by
 have hv: (⟨i,0⟩:ChildL)∈W.vis:=by
  rcases h.root i hi with h1|h1
  ·exact h1
  ·rw[hq] at h1;cases h1
 cases hf:jN_ s ⟨i,0⟩ with
 |true=>exact .inl (mem_srtI.2 (h.fine _ hv hf))
 |false=>exact .inr (mem_srtI.2 (List.mem_map.2 ⟨⟨i,0⟩,h.lack _ hv hf,rfl⟩))
theorem WkI.has {s:j7_} {r:List IdL} {W:WkS} (h:WkI s r W) {i:IdL} (hi:i∈xn_ W.ms): (s i).2=true:=by
 obtain⟨c,-,hf,rfl⟩:=h.ms i (mem_srtI.1 hi)
 unfold jN_ at hf
 exact(Bool.and_eq_true _ _▸hf).1
theorem WkI.moreMs {s:j7_} {r r':List IdL} {W W':WkS} (h:WkI s r W) (hq:W.q= []) (h':WkI s r' W') (hq':W'.q= []) (hr: ∀i,i∈r→i∈r'): ∀i,i∈xn_ W.ms→i∈xn_ W'.ms:=by
 intro i hi
 obtain⟨c,h1,h2,h3⟩:=(h.marked hq i).1 (mem_srtI.1 hi)
 exact mem_srtI.2 ((h'.marked hq' i).2 ⟨c,h1.mono hr,h2,h3⟩)
theorem WkI.moreLk {s:j7_} {r r':List IdL} {W W':WkS} (h:WkI s r W) (hq:W.q= []) (h':WkI s r' W') (hq':W'.q= []) (hr: ∀i,i∈r→i∈r'): ∀i,i∈xK_ W.lk→i∈xK_ W'.lk:=by
 intro i hi
 obtain⟨c,hc,rfl⟩:=List.mem_map.1 (mem_srtI.1 hi)
 obtain⟨h1,h2⟩:=(h.missing hq c).1 hc
 exact mem_srtI.2 (List.mem_map_of_mem ((h'.missing hq' c).2 ⟨h1.mono hr,h2⟩))
theorem ajS_ {w:World} {v:Value} {l:List ChildL} {b off:Nat} {arr:Array Value} {E:TypeId} {fz:Nat×Nat} (h:RowS 33 zO_ chd0 w v l b off arr E fz) {k:Nat} (hk:k<l.length):
  zv_ (some (true,32)) (some (.cells arr E fz)) (off+k*33)=some (.agg (a8 (l.getD k chd0).id.l)):=by
 have hg:=h.get k hk
 have hlen: ∀c:ChildL,(zO_ c).length=33:=zM_
 have hi: ∀c:ChildL,(qd_ c.id).length=32:=fun c=>qB_ c.id
 have hsz:off+k*33+32≤arr.size:=by
  have h1:=hg 32 (by omega)
  rw[List.getElem?_eq_getElem (by rw[hlen];omega)] at h1
  have:=(Array.getElem?_eq_some_iff.1 h1).1
  omega
 simp only[zv_,hsz, ↓reduceIte]
 rw[show a8 (l.getD k chd0).id.l=(qd_ (l.getD k chd0).id).toArray from rfl]
 congr 2
 apply Array.ext_getElem?
 intro j
 rw[Array.getElem?_extract]
 by_cases hj:j<32
 ·rw[if_pos (by omega),hg j (by omega),List.getElem?_toArray]
  show(qd_ (l.getD k chd0).id++_)[j]? =_
  rw[List.getElem?_append_left (by rw[hi];exact hj)]
 ·rw[if_neg (by omega),List.getElem?_toArray,List.getElem?_eq_none (by rw[hi];omega)]
theorem ak8_ {w:World} {v:Value} {l:List ChildL} {b off:Nat} {arr:Array Value} {E:TypeId} {fz:Nat×Nat} (h:RowS 33 zO_ chd0 w v l b off arr E fz) {k n:Nat} (hk:k<l.length):
  zv_ (some (false,n)) (some (.cells arr E fz)) (off+k*33+32)=some (vi (l.getD k chd0).kind):=by
 rw[h.cell hk (by omega)]
 show(qd_ (l.getD k chd0).id++ [vi _])[32]? =_
 rw[List.getElem?_append_right (by rw[qB_];omega),qB_];rfl
set_option linter.defProp false
def J7_:=And.intro (@zL_) (And.intro (@zK_) (@vw_))
theorem QF_ (va vb:Value) (a b:List IdL) (w:World) (ha:SlV 32 qd_ id0 w va a) (hb:SlV 32 qd_ id0 w vb b) (hla:a.length<1000000) (hl:b.length<1000000) (h: ∀i,i∈a→i∈b):
  Rets Tryz.prog 33 #[va,vb] w (fun v' D=>v'= .bool true∧D= []):=by
 obtain⟨rb,off,arr,E,fz,hr⟩:=ha.row
 have ln:=fun x=>hr.len x
 refine Rets.enterV Tryz.func33 rfl (rs:= [.tmp 4]) Tryz.results33 Tryz.ntmps33 ?_
 refine kf ?_
 first|with_reducible refine ks [] @J7_ ?_|refine kp @J7_ ?_
 refine Cw.loopG (G:=Nat) [6,7,8,9,12,13,14,15,16,17,18,4,10,11,5] (fun g=> [(5,vi g)]) (fun g=> []) (fun g=>g≤a.length) (fun g=>a.length - g) 0 rfl rfl ?_ ?_
 ·exact Nat.zero_le _
 intro k jk hk
 refine kv ?_
 by_cases hlt:k<a.length
 ·have r2:=hr.has (by omega)
  have i2:=hr.idx true k hlt
  have l2:=Jb_ hr hlt
  have hgm:a.getD k id0∈a:=by
   rw[List.getD_eq_getElem?_getD,List.getElem?_eq_getElem hlt];exact List.getElem_mem _
  have d1:decide ((k:Int)< (a.length:Int))=true:=decide_eq_true (by omega)
  have hin:=h _ hgm
  generalize a.getD k id0=x at*
  first|with_reducible refine ks [] (And.intro @J7_ (And.intro @ln (And.intro @d1 (And.intro @i2 (And.intro @r2 (@l2)))))) ?_|refine kp (And.intro @J7_ (And.intro @ln (And.intro @d1 (And.intro @i2 (And.intro @r2 (@l2)))))) ?_
  refine Ow.callFV rfl Tryz.call31 (fun w' hw'=>vG_ vb b x w' (SlV.rowX (hb.oldN hw' trivial)) hl) ?_
  rw[decide_eq_true hin]
  refine ko @J7_ ?_
  first|with_reducible refine ks [] @J7_ ?_|refine kp @J7_ ?_
  exact Again.mk (k+1) (by omega) hlt rfl rfl
 ·obtain rfl:k=a.length:=by omega
  have d1:decide ((a.length:Int)< (a.length:Int))=false:=by simp
  first|with_reducible refine ks [] (And.intro @J7_ (And.intro @ln (@d1))) ?_|refine kp (And.intro @J7_ (And.intro @ln (@d1))) ?_
  refine⟨_,(ke @J7_),trivial, ?_⟩
  rfl
end Go.Proofs
end
section
open Go Go.Proofs Go.Sx Go.StP Go.RooP
namespace Go.Proofs
set_option maxRecDepth 10000
set_option maxHeartbeats 400000
set_option linter.unusedSimpArgs false
theorem ad0_ (P:Program) (w0:World) (f:Fr) (L:zd_) (st:Bool) (md:Md) (d:Option Tmp) (ty:TypeId) (ps:String) (af:Array Edge) (g:Option (Nat×Bool)) (go:Fr→zd_→Prop) (stop:Prop) (x:Operand) (n:String) (a:Array Operand) (t:Array TypeId):vcB P w0 st md ⟨d, .call ⟨.invoke x n,a,t⟩,ty,ps,af,g⟩ f L go stop=stop:=(rfl)
section
variable {P:Program} {w0:World} {f:Fr} {L:zd_} {N:Fr→zd_→Prop} {ops:Array Oper} {rest:List Oper}
 {d:Option Tmp} {ty:TypeId} {ps:String} {af:Array Edge} {g:Option (Nat×Bool)}
theorem _root_.Go.Sx.Ow.nilMeth {x:Operand} {name:String} {t:TypeId} {u:Value} {cap:Array Value} (hs:zn_ ops f ⟨d, .nilCheck x,ty,ps,af,g⟩=false) (hx:ev f x= .func (.method name) #[.iface t u] cap)
  (hm: ∀w,(nilAhead (P.types.size+Made.depth) t u name).run P w= .ok (some false) w) (hn:Ow P w0 ops .seq rest (qk_ f d (.func (.method name) #[.iface t u] cap)) L N):Ow P w0 ops .seq (⟨d, .nilCheck x,ty,ps,af,g⟩::rest) f L N:=by
 intro w hw
 unfold wpList
 rw[z1_,hs]
 simp only[Bool.not_false, ↓reduceIte]
 have h:OpS P w0 f L ⟨d, .nilCheck x,ty,ps,af,g⟩ (fun v L'=>v= .func (.method name) #[.iface t u] cap∧L'=L):=fun w hw=> .inl ⟨_,w,L,by
  simp only[execOp,hx]
  have e0: (#[Value.iface t u]:Array Value)[0]? =some (.iface t u):=rfl
  simp only[e0,Sem.run_bind,program]
  show Result.andThen (Result.andThen (Result.ok P w) _) _=_
  simp only[Result.andThen_ok,hm]
  rfl,hw,rfl,rfl⟩
 exact .inl (h.wp (fun v L' w' hp hm=>by obtain⟨rfl,rfl⟩:=hm;exact hn w' hp) hw)
end
theorem ac2_ (b:Nat) (w:World): (nilAhead (Tryz.prog.types.size+Made.depth) 118 (vp b 0) "Get").run Tryz.prog w= .ok (some false) w:=by kernel_rfl
set_option linter.defProp false
end Go.Proofs
end
section
open Go Go.Proofs Go.Sx Go.StP Go.RooP
namespace Go.Proofs
set_option maxRecDepth 10000
set_option maxHeartbeats 1600000
set_option linter.unusedSimpArgs false
theorem ajZ_ {α:Type} {m:Nat} {enc:α→List Value} (z:α) {w:World} {v:Value} {l:List α} {D:zd_} {E:TypeId} (h:Gr D E m v l.length (l.map enc).flatten) (hD: ∀b o,(b,o)∈D→w.heap[b]? =some o) (hm: ∀x,(enc x).length=m): ∃b off arr F fz,RowS m enc z w v l b off arr F fz∧(0<l.length→b∈keys D):=by
 obtain⟨b,off,c,arr,F,fz,hr,hc,⟨rfl,rfl,rfl⟩ | ⟨rfl,hb,hsz⟩⟩:=h.slM (z:=z) hD rfl rfl hm
 ·exact⟨b,off,arr,F,fz,hr,fun h0=>absurd h0 (by simp)⟩
 ·exact⟨b,off,arr,F,fz,hr,fun _=>h.key (b:=b) rfl⟩
theorem aiK_ {w0 w:World} {L:zd_} {b:Nat} {o:Obj} (hw:Hp w0 L w) (hk:b∈keys L) (h:w.heap[b]? =some o):zr_ w0 L b=some o:=by
 obtain⟨o',ho⟩:=acG_ hk
 have h1:=zm_ (w0:=w0) ho
 have h2:=hw.read h1
 rw[h] at h2
 cases h2
 exact h1
structure MkCkG where
 k:Nat
 DG:zd_
set_option linter.defProp false
def zi_:=And.intro (And.intro (And.intro (@zL_) (@zK_)) (And.intro (@Sx.tup2_0) (And.intro (@Sx.tup2_1) (@vw_)))) (And.intro (And.intro (@jt_) (@qH_)) (And.intro (@qC_) (And.intro (@Q9_) (@ad0_))))
theorem Ql_ (v vr vm:Value) (l:List ObK) (r mo:List IdL) (w:World) (hG:GlobE w) (hv:SlV 2 obKC x7_ w v l) (hr:SlV 32 qd_ id0 w vr r) (hmo:SlV 32 qd_ id0 w vm mo):
  Rets Tryz.prog 6 #[v,vr,vm] w (fun v' D=>v'= .bool true∧D= []):=by
 have lnr:=hr.len
 have lnm:=hmo.len
 refine Rets.enterV Tryz.func6 rfl (rs:= [.tmp 6]) Tryz.results6 Tryz.ntmps6 ?_
 refine kf ?_
 first|with_reducible refine ks [1000007] @zi_ ?_|refine kp @zi_ ?_
 refine Ow.callFV rfl Tryz.call13 (fun w' hw'=>jw_ w' (hG.new hw' trivial)) ?_
 refine ko @zi_ ?_
 first|with_reducible refine ks [] @zi_ ?_|refine kp @zi_ ?_
 refine Ow.callFV rfl Tryz.call14 (fun w' hw'=>WM_ v l w' (SlV.rowX (hv.oldN hw' trivial))) ?_
 cases hgr:Va_ l with
 |true=>
  refine ko @zi_ ?_
  first|with_reducible refine ks [] @zi_ ?_|refine kp @zi_ ?_
  refine Ow.callFV rfl Tryz.call13 (fun w' hw'=>jw_ w' (hG.new hw' trivial)) ?_
  refine ko @zi_ ?_
  first|with_reducible refine ks [] @zi_ ?_|refine kp @zi_ ?_
  refine⟨_,(ke @zi_),trivial, ?_⟩
  rfl
 |false=>
 obtain⟨h40,h25⟩:=af2_ hgr
 refine ko @zi_ ?_
 refine Ow.callC rfl rfl Tryz.call15 (fun w' hw'=>Rets.toX (Vp_ v l w' (SlV.rowX (hv.oldN hw' trivial)) (by omega) (fun o ho=>by have:=h25 o ho;omega))) (fun BC vC DC hAC hBC hNC hSC=> ?_)
 obtain⟨rfl,bc,rfl,hcl⟩:=hSC
 clear hAC hNC
 rw[List.append_nil]
 cases bc with
 |true=>
  refine ko @zi_ ?_
  first|with_reducible refine ks [] @zi_ ?_|refine kp @zi_ ?_
  refine Ow.callFV rfl Tryz.call13 (fun w' hw'=>jw_ w' (hG.new hw' trivial)) ?_
  refine ko @zi_ ?_
  first|with_reducible refine ks [] @zi_ ?_|refine kp @zi_ ?_
  refine⟨_,(ke @zi_),trivial, ?_⟩
  rfl
 |false=>
 replace hcl:=hcl rfl
 by_cases h30:30<r.length
 ·have d1:decide ((30:Int)< (r.length:Int))=true:=decide_eq_true (by omega)
  refine ko (And.intro @zi_ (And.intro @lnr (@d1))) ?_
  first|with_reducible refine ks [] @zi_ ?_|refine kp @zi_ ?_
  refine Ow.callFV rfl Tryz.call13 (fun w' hw'=>jw_ w' (hG.new hw' trivial)) ?_
  refine ko @zi_ ?_
  first|with_reducible refine ks [] @zi_ ?_|refine kp @zi_ ?_
  refine⟨_,(ke @zi_),trivial, ?_⟩
  rfl
 have d1:decide ((30:Int)< (r.length:Int))=false:=decide_eq_false (by omega)
 by_cases h31:30<mo.length
 ·have d2:decide ((30:Int)< (mo.length:Int))=true:=decide_eq_true (by omega)
  refine ko (And.intro @zi_ (And.intro @lnr (And.intro @d1 (And.intro @lnm (@d2))))) ?_
  first|with_reducible refine ks [] @zi_ ?_|refine kp @zi_ ?_
  refine Ow.callFV rfl Tryz.call13 (fun w' hw'=>jw_ w' (hG.new hw' trivial)) ?_
  refine ko @zi_ ?_
  first|with_reducible refine ks [] @zi_ ?_|refine kp @zi_ ?_
  refine⟨_,(ke @zi_),trivial, ?_⟩
  rfl
 have d2:decide ((30:Int)< (mo.length:Int))=false:=decide_eq_false (by omega)
 refine ko (And.intro @zi_ (And.intro @lnr (And.intro @d1 (And.intro @lnm (@d2))))) ?_
 first|with_reducible refine ks [] @zi_ ?_|refine kp @zi_ ?_
 refine Ow.callC rfl rfl Tryz.call16 (fun w' hw'=>kJ_ v l w' (hG.new hw' trivial) (SlV.rowX (hv.oldN hw' trivial)) (by omega)) (fun B1 v1 D1 hA1 hB1 hN1 hS1=> ?_)
 rw[List.nil_append]
 have hN1':=hN1.mono hB1
 have hes:=Jo_ hcl
 have hml:=xz_ l
 refine ko @zi_ ?_
 first|with_reducible refine ks [] @zi_ ?_|refine kp @zi_ ?_
 refine Ow.callC rfl rfl Tryz.call29 (fun w' hw'=>qS_ v1 (jm_ l) vr r w' (hS1.W hw') (SlV.rowX (hr.oldN hw' hN1')) (by omega) (by omega)) (fun B2 v2 D2 hA2 hB2 hN2 hS2=> ?_)
 obtain⟨Wa,va,vb,hWa,hqa,hm1,hm2,rfl,hga,hgb⟩:=hS2
 rw[hes] at hWa
 have hN2':=hN2.mono hB2
 have hN12:=hN1'.app hN2'
 refine ko @zi_ ?_
 refine Cw.rebaseV hN12 (by rfl) fun w1 hw1=> ?_
 have hG1:GlobE w1:=hG.new hw1 hN12
 have hSW:SrcW w1 v1 (jm_ l) []:=(hS1.mono (fun p hp=>by simp[hp])).W hw1
 have hr1:SlV 32 qd_ id0 w1 vr r:=hr.oldN hw1 hN12
 have hm1':SlV 32 qd_ id0 w1 vm mo:=hmo.oldN hw1 hN12
 have ha1:SlV 32 qd_ id0 w1 va (xn_ Wa.ms):=Jj_ hga (fun b o hm=>hw1.has b o (by simp[hm]))
 have hb1:SlV 32 qd_ id0 w1 vb (xK_ Wa.lk):=Jj_ hgb (fun b o hm=>hw1.has b o (by simp[hm]))
 have la:=Qe_ Wa.ms
 have lb: (xK_ Wa.lk).length≤41000:=by
  have:=Qe_ (Wa.lk.map ChildL.id)
  rw[List.length_map] at this
  show(xn_ _).length≤_
  omega
 clear hv hr hmo hG hw1 hga hgb hS1 hN12 hN1 hN1' hN2 hN2' hA1 hA2
 obtain⟨bx,bm,om,hA,-,-⟩:=hSW
 have hsv:=hA.sv
 subst hsv
 have hlx:=(Array.getElem?_eq_some_iff.1 hA.bx).1
 have hlm':=(Array.getElem?_eq_some_iff.1 hA.bm).1
 obtain⟨rr,offr,arr,E,fzr,hrr⟩:=hr1.row
 obtain⟨ra,offa,aar,Ea,fza,hra⟩:=ha1.row
 have lna:=ha1.len
 first|with_reducible refine ks [] @zi_ ?_|refine kp @zi_ ?_
 refine Cw.loopG (G:=Nat) [49,50,51,52,55,56,57,58,59,60,61,62,63,64,65,66,67,68,69,70,6,53,54,10] (fun g=> [(10,vi g)]) (fun g=> []) (fun g=>g≤r.length) (fun g=>r.length - g) 0 rfl rfl ?_ ?_
 ·exact Nat.zero_le _
 intro k jk hk
 refine kv ?_
 by_cases hlt:k<r.length
 ·have r2:=hrr.has (by omega)
  have i2:=hrr.idx true k hlt
  have l2:=Jb_ hrr hlt
  have hgm:r.getD k id0∈r:=by
   rw[List.getD_eq_getElem?_getD,List.getElem?_eq_getElem hlt];exact List.getElem_mem _
  have d0:decide ((k:Int)< (r.length:Int))=true:=decide_eq_true (by omega)
  have hin:=hWa.rootEnd hqa hgm
  generalize r.getD k id0=x at*
  first|with_reducible refine ks [9] (And.intro @zi_ (And.intro @lnr (And.intro @d0 (And.intro @i2 (And.intro @r2 (@l2)))))) ?_|refine kp (And.intro @zi_ (And.intro @lnr (And.intro @d0 (And.intro @i2 (And.intro @r2 (@l2)))))) ?_
  refine Ow.callFV rfl Tryz.call31 (fun w' hw'=>vG_ va (xn_ Wa.ms) x w' (SlV.rowX (ha1.oldN hw' trivial)) (by omega)) ?_
  by_cases hia:x∈xn_ Wa.ms
  ·rw[decide_eq_true hia]
   refine ko @zi_ ?_
   first|with_reducible refine ks [] @zi_ ?_|refine kp @zi_ ?_
   exact Again.mk (k+1) (by omega) hlt rfl rfl
  ·rw[decide_eq_false hia]
   refine ko (And.intro @zi_ (And.intro @i2 (And.intro @r2 (@l2)))) ?_
   refine Ow.callFV rfl Tryz.call31 (fun w' hw'=>vG_ vb (xK_ Wa.lk) x w' (SlV.rowX (hb1.oldN hw' trivial)) (by omega)) ?_
   rw[decide_eq_true (hin.resolve_left hia)]
   refine ko @zi_ ?_
   first|with_reducible refine ks [] @zi_ ?_|refine kp @zi_ ?_
   exact Again.mk (k+1) (by omega) hlt rfl rfl
 obtain rfl:k=r.length:=by omega
 have d0:decide ((r.length:Int)< (r.length:Int))=false:=by simp
 first|with_reducible refine ks [] (And.intro @zi_ (And.intro @lnr (@d0))) ?_|refine kp (And.intro @zi_ (And.intro @lnr (@d0))) ?_
 refine Cw.loopG (G:=MkCkG) [71,72,73,74,78,79,80,81,82,83,84,85,86,77,87,88,12,13,89,90,6,91,92,14,15,93,94,95,96,100,101,102,103,104,105,106,107,108,109,99,110,111,16,17,112,113,114,115,116,117,118,119,120,121,122,18,123,124,125,126,127,128,129,130,131,132,133,134,135,136,137,138,139,140,141,142,143,144,145,146,147,97,98,75,76,11] (fun g=> [(11,vi g.k)]) (fun g=>g.DG) (fun g=>g.k≤ (xn_ Wa.ms).length∧New w1.heap.size g.DG) (fun g=>(xn_ Wa.ms).length - g.k) ⟨0,[]⟩ rfl rfl ?_ ?_
 ·exact⟨Nat.zero_le _,trivial⟩
 intro g j hg
 refine kv ?_
 obtain⟨k,DG⟩:=g
 simp only at hg ⊢
 obtain⟨hk,hN⟩:=hg
 by_cases hlt:k< (xn_ Wa.ms).length
 ·have d0:decide ((k:Int)< ((xn_ Wa.ms).length:Int))=true:=decide_eq_true (by omega)
  have ix:=hra.idx true k hlt
  have ld:=Jb_ hra hlt
  have hral:=hra.lt (by omega)
  have rd0:zr_ w1 DG ra=some (.cells aar Ea fza):=by rw[qX_ (hN.not hral)];exact hra.has (by omega)
  have hgm: (xn_ Wa.ms).getD k id0∈xn_ Wa.ms:=by
   rw[List.getD_eq_getElem?_getD,List.getElem?_eq_getElem hlt];exact List.getElem_mem _
  have hkids:=fun c=>hWa.kidEnd hqa (mem_srtI.1 hgm) (c:=c)
  have hx2:=hWa.has hgm
  generalize (xn_ Wa.ms).getD k id0=x at*
  obtain⟨o,ho⟩: ∃o,o=(srcD l x).1:=⟨_,rfl⟩
  have hsx:srcD l x=(o,true):=by rw[ho,←hx2]
  first|with_reducible refine ks [14] (And.intro @zi_ (And.intro @lna (@d0))) ?_|refine kp (And.intro @zi_ (And.intro @lna (@d0))) ?_
  refine Cw.regionD [ra] [13] 12 12 35 14 _ rfl (by kernel_rfl) (by kernel_rfl) rfl (by kernel_rfl) WC_ (fun hD=> ?_)
  simp only[List.replicate_succ,List.replicate_zero]
  refine OwD.run [0,1,2,3,4,5] [true,true,true,true,true,true,false,false,false,false,false,false,false,false,false] 8 rfl hD (by kernel_rfl) fun k hk=> ?_
  simp only[zg_, ↓zc_, ↓za_, ↓zl_, ↓zk_,zb_]
  simp(disch:=(first|assumption|omega| (simp only[je_,jc_,UInt64.reduceToNat];try omega))) only[↓Sx.S0,Sx.S1,Tryz.fx,zi_,Nat.reduceAdd,Nat.reducePow,Int.reducePow,Nat.reduceBEq, ↓reduceIte,UInt8.reduceToNat,UInt16.reduceToNat,UInt32.reduceToNat,UInt64.reduceToNat,Int.reduceToNat,Md.next_sofnil,ix,ld,rd0]
  (with_reducible refine hk _ _ _ ?_);clear hk k
  refine OwD.soft 6 _ hD rfl (by kernel_rfl) (fun E2 hE2=> ?_)
  simp only[List.map_toArray,List.map_cons,List.map_nil,zV_,zT_,z6_]
  refine Ow.nilMeth rfl rfl (ac2_ bx) ?_
  with_reducible refine Ow.nil ?_
  refine⟨_,List.Perm.refl _,fun _ _=>rfl, ?_⟩
  simp only[List.set_cons_zero,List.set_cons_succ,zo_,zE_,zF_]
  refine OwD.run [7] [true,true,true,true,true,true,true,true,false,false,false,false,false,false,false] 6 rfl hD (by kernel_rfl) fun k hk=> ?_
  simp only[zg_, ↓zc_, ↓za_, ↓zl_, ↓zk_,zb_]
  simp(disch:=(first|assumption|omega| (simp only[je_,jc_,UInt64.reduceToNat];try omega))) only[↓Sx.S0,Sx.S1,Tryz.fx,zi_,Nat.reduceAdd,Nat.reducePow,Int.reducePow,Nat.reduceBEq, ↓reduceIte,UInt8.reduceToNat,UInt16.reduceToNat,UInt32.reduceToNat,UInt64.reduceToNat,Int.reduceToNat,Md.next_sofnil,Md.next_sofnil]
  (with_reducible refine hk _ _ _ ?_);clear hk k
  refine OwD.soft 8 _ hD rfl (by kernel_rfl) (fun E3 hE3=> ?_)
  refine Ow.callIV rfl rfl rfl (ab5_ bx) Tryz.call342 (fun w' hw'=>Q7_ bx bm om _ x _ w' (hA.old hw' ((hN.app (adv_ hE3)).not hlx) ((hN.app (adv_ hE3)).not hlm'))) ?_
  rw[hes,hsx]
  with_reducible refine Ow.nil ?_
  refine⟨_,List.Perm.refl _,fun _ _=>rfl, ?_⟩
  simp only[List.set_cons_zero,List.set_cons_succ,zo_,zE_,zF_]
  refine OwD.run [9,10,11] [true,true,true,true,true,true,true,true,true,true,true,true,false,false,false] 2 rfl hD (by kernel_rfl) fun k hk=> ?_
  simp only[zg_, ↓zc_, ↓za_, ↓zl_, ↓zk_,zb_]
  simp(disch:=(first|assumption|omega| (simp only[je_,jc_,UInt64.reduceToNat];try omega))) only[↓Sx.S0,Sx.S1,Tryz.fx,zi_,Nat.reduceAdd,Nat.reducePow,Int.reducePow,Nat.reduceBEq, ↓reduceIte,UInt8.reduceToNat,UInt16.reduceToNat,UInt32.reduceToNat,UInt64.reduceToNat,Int.reduceToNat,Md.next_sofnil,Sx.tup2_0,Sx.tup2_1]
  (with_reducible refine hk _ _ _ ?_);clear hk k
  refine OwD.real [13,14] rfl hD (by kernel_rfl) (by kernel_rfl) (by kernel_rfl) (by kernel_rfl) (fun r hr=>by simp only[List.mem_cons,List.not_mem_nil,or_false] at hr;subst hr;exact .inr hral) ?_
  simp only[zg_, ↓zc_, ↓za_, ↓zl_, ↓zk_,zb_]
  intro b12 hw12 hbL
  simp only[zE_,zF_]
  refine Ow.store rfl rfl rfl (L':=DG++ [(b12, .cells #[vi o.k,vs o.t] 35 (0,0))]) ?_ ?_
  ·simp only[zV_,zT_,z6_]
   have hst:zt_ (some (true,2)) (some (Obj.cells (Value.cells (obV 0 [])) 35 (0,0))) 0 (obKV o)=some (.cells #[vi o.k,vs o.t] 35 (0,0)):=rfl
   rw[Tryz.ag35,jJ_,xv_ hbL,hst,xh_,jS_ hbL]
   exact []
  have hN12:New w1.heap.size (DG++ [(b12,Obj.cells #[vi o.k,vs o.t] 35 (0,0))]):=hN.app ⟨hw12,trivial⟩
  have r12:zr_ w1 (DG++ [(b12,Obj.cells #[vi o.k,vs o.t] 35 (0,0))]) b12=some (.cells #[vi o.k,vs o.t] 35 (0,0)):=zm_ (by rw[zG_ hbL];exact zy_ _ _ _)
  refine ko @zi_ ?_
  first|with_reducible refine ks [14] (And.intro @zi_ @r12) ?_|refine kp (And.intro @zi_ @r12) ?_
  refine Ow.callC rfl rfl Tryz.call32 (fun w' hw'=>vM_ o.k o.t w') (fun B4 v4 D4 hA4 hB4 hN4 hG4=> ?_)
  refine ko @zi_ ?_
  refine Cw.world fun wz hwz=> ?_
  obtain⟨rc,offc,arc,Ec,fzc,hrc,hkc⟩:=ajZ_ chd0 hG4 (fun b o hm=>hwz.has b o (by simp[hm])) zM_
  have hN0:=hN12.app (hN4.mono hB4)
  have hkc0:0< (qm_ o.k o.t).length→rc∈keys ((DG++ [(b12,Obj.cells #[vi o.k,vs o.t] 35 (0,0))])++D4):=fun h0=>by rw[zh_];exact List.mem_append_right _ (hkc h0)
  have rdc:0< (qm_ o.k o.t).length→zr_ w1 ((DG++ [(b12,Obj.cells #[vi o.k,vs o.t] 35 (0,0))])++D4) rc=some (.cells arc Ec fzc):=fun h0=>aiK_ hwz (hkc0 h0) (hrc.has h0)
  have lnc:=hrc.len
  have hcl40: (qm_ o.k o.t).length≤40:=Zm_
  clear hwz hkc hG4 r12 hN12
  generalize (DG++ [(b12,Obj.cells #[vi o.k,vs o.t] 35 (0,0))])++D4=L0 at*
  first|with_reducible refine ks [14] @zi_ ?_|refine kp @zi_ ?_
  refine Cw.permL (M:=L0++ []) (by classical exact List.perm_iff_count.2 fun a=>by simp only[List.count_append,List.count_cons,List.count_nil]<;>omega) ?_
  refine Cw.loopG (G:=MkCkG) [93,94,95,96,100,101,102,103,104,105,106,107,108,109,99,110,111,16,17,112,113,114,115,116,117,118,119,120,121,122,18,123,124,125,126,127,128,129,130,131,132,133,134,135,136,137,138,139,140,141,142,143,144,145,146,147,6,97,98,15] (fun g=> [(15,vi g.k)]) (fun g=>L0++g.DG) (fun g=>g.k≤ (qm_ o.k o.t).length∧New w1.heap.size g.DG) (fun g=>(qm_ o.k o.t).length - g.k) ⟨0,[]⟩ rfl rfl ?_ ?_
  ·exact⟨Nat.zero_le _,trivial⟩
  intro g j hg
  refine kv ?_
  obtain⟨j,DC⟩:=g
  simp only at hg ⊢
  obtain⟨hj,hNC⟩:=hg
  have hNN:=hN0.app hNC
  by_cases hjt:j< (qm_ o.k o.t).length
  ·have d1:decide ((j:Int)< ((qm_ o.k o.t).length:Int))=true:=decide_eq_true (by omega)
   have ixc:=hrc.idx true j hjt
   have ldc:=ajS_ hrc hjt
   have ldk:=fun n=>ak8_ (n:=n) hrc hjt
   have hk0:=hkc0 (by omega)
   have hkD:rc∈keys (L0++DC):=by rw[zh_];exact List.mem_append_left _ hk0
   have rdc0:zr_ w1 (L0++DC) rc=some (.cells arc Ec fzc):=(Qq_ hk0).trans (rdc (by omega))
   have hcm: (qm_ o.k o.t).getD j chd0∈jO_ (srcD l) x:=by
    unfold jO_
    rw[hsx,List.getD_eq_getElem?_getD,List.getElem?_eq_getElem hjt];exact List.getElem_mem _
   have hkd:=hkids _ hcm
   have hfk:=aia_ hcm
   generalize (qm_ o.k o.t).getD j chd0=c at*
   obtain⟨p,hp⟩: ∃p,p=(srcD l c.id).1:=⟨_,rfl⟩
   obtain⟨is,his⟩: ∃b,b=(srcD l c.id).2:=⟨_,rfl⟩
   have hsc:srcD l c.id=(p,is):=by rw[hp,his]
   rw[←hp,←his] at hfk
   rw[hfk] at hkd
   first|with_reducible refine ks [21] (And.intro @zi_ (And.intro @lnc (@d1))) ?_|refine kp (And.intro @zi_ (And.intro @lnc (@d1))) ?_
   refine Cw.regionD [rc] [14] 13 16 35 15 _ rfl (by kernel_rfl) (by kernel_rfl) rfl (by kernel_rfl) WC_ (fun hD=> ?_)
   simp only[List.replicate_succ,List.replicate_zero]
   refine OwD.run [0,1,2,3,4,5,6] [true,true,true,true,true,true,true,false,false,false,false,false,false,false,false,false] 8 rfl hD (by kernel_rfl) fun k hk=> ?_
   simp only[zg_, ↓zc_, ↓za_, ↓zl_, ↓zk_,zb_]
   simp(disch:=(first|assumption|omega| (simp only[je_,jc_,UInt64.reduceToNat];try omega))) only[↓Sx.S0,Sx.S1,Tryz.fx,zi_,Nat.reduceAdd,Nat.reducePow,Int.reducePow,Nat.reduceBEq, ↓reduceIte,UInt8.reduceToNat,UInt16.reduceToNat,UInt32.reduceToNat,UInt64.reduceToNat,Int.reduceToNat,Md.next_sofnil,ixc,ldc,rdc0]
   (with_reducible refine hk _ _ _ ?_);clear hk k
   refine OwD.soft 7 _ hD rfl (by kernel_rfl) (fun E5 hE5=> ?_)
   simp only[List.map_toArray,List.map_cons,List.map_nil,zV_,zT_,z6_]
   refine Ow.nilMeth rfl rfl (ac2_ bx) ?_
   with_reducible refine Ow.nil ?_
   refine⟨_,List.Perm.refl _,fun _ _=>rfl, ?_⟩
   simp only[List.set_cons_zero,List.set_cons_succ,zo_,zE_,zF_]
   refine OwD.run [8] [true,true,true,true,true,true,true,true,true,false,false,false,false,false,false,false] 6 rfl hD (by kernel_rfl) fun k hk=> ?_
   simp only[zg_, ↓zc_, ↓za_, ↓zl_, ↓zk_,zb_]
   simp(disch:=(first|assumption|omega| (simp only[je_,jc_,UInt64.reduceToNat];try omega))) only[↓Sx.S0,Sx.S1,Tryz.fx,zi_,Nat.reduceAdd,Nat.reducePow,Int.reducePow,Nat.reduceBEq, ↓reduceIte,UInt8.reduceToNat,UInt16.reduceToNat,UInt32.reduceToNat,UInt64.reduceToNat,Int.reduceToNat,Md.next_sofnil,Md.next_sofnil]
   (with_reducible refine hk _ _ _ ?_);clear hk k
   refine OwD.soft 9 _ hD rfl (by kernel_rfl) (fun E6 hE6=> ?_)
   refine Ow.callIV rfl rfl rfl (ab5_ bx) Tryz.call342 (fun w' hw'=>Q7_ bx bm om _ c.id _ w' (hA.old hw' ((hNN.app (adv_ hE6)).not hlx) ((hNN.app (adv_ hE6)).not hlm'))) ?_
   rw[hes,hsc]
   with_reducible refine Ow.nil ?_
   refine⟨_,List.Perm.refl _,fun _ _=>rfl, ?_⟩
   simp only[List.set_cons_zero,List.set_cons_succ,zo_,zE_,zF_]
   refine OwD.run [10,11,12] [true,true,true,true,true,true,true,true,true,true,true,true,true,false,false,false] 2 rfl hD (by kernel_rfl) fun k hk=> ?_
   simp only[zg_, ↓zc_, ↓za_, ↓zl_, ↓zk_,zb_]
   simp(disch:=(first|assumption|omega| (simp only[je_,jc_,UInt64.reduceToNat];try omega))) only[↓Sx.S0,Sx.S1,Tryz.fx,zi_,Nat.reduceAdd,Nat.reducePow,Int.reducePow,Nat.reduceBEq, ↓reduceIte,UInt8.reduceToNat,UInt16.reduceToNat,UInt32.reduceToNat,UInt64.reduceToNat,Int.reduceToNat,Md.next_sofnil,Sx.tup2_0,Sx.tup2_1]
   (with_reducible refine hk _ _ _ ?_);clear hk k
   refine OwD.real [14,15] rfl hD (by kernel_rfl) (by kernel_rfl) (by kernel_rfl) (by kernel_rfl) (fun r hr=>by simp only[List.mem_cons,List.not_mem_nil,or_false] at hr;subst hr;exact .inl hkD) ?_
   simp only[zg_, ↓zc_, ↓za_, ↓zl_, ↓zk_,zb_]
   intro b16 hw16 hbM
   simp only[zE_,zF_]
   refine Ow.store rfl rfl rfl (L':=(L0++DC)++ [(b16, .cells #[vi p.k,vs p.t] 35 (0,0))]) ?_ ?_
   ·simp only[zV_,zT_,z6_]
    have hst:zt_ (some (true,2)) (some (Obj.cells (Value.cells (obV 0 [])) 35 (0,0))) 0 (obKV p)=some (.cells #[vi p.k,vs p.t] 35 (0,0)):=rfl
    rw[Tryz.ag35,jJ_,xv_ hbM,hst,xh_,jS_ hbM]
    exact []
   have hN16:New w1.heap.size (DC++ [(b16,Obj.cells #[vi p.k,vs p.t] 35 (0,0))]):=hNC.app ⟨hw16,trivial⟩
   have r16:zr_ w1 ((L0++DC)++ [(b16,Obj.cells #[vi p.k,vs p.t] 35 (0,0))]) b16=some (.cells #[vi p.k,vs p.t] 35 (0,0)):=zm_ (by rw[zG_ hbM];exact zy_ _ _ _)
   have r16c:zr_ w1 ((L0++DC)++ [(b16,Obj.cells #[vi p.k,vs p.t] 35 (0,0))]) rc=some (.cells arc Ec fzc):=(Qq_ hkD).trans rdc0
   have hN17:New w1.heap.size ((L0++DC)++ [(b16,Obj.cells #[vi p.k,vs p.t] 35 (0,0))]):=hNN.app ⟨hw16,trivial⟩
   refine ko @zi_ ?_
   rw[List.append_assoc] at r16 r16c hN17 ⊢
   cases is with
   |false=>
    have hin:=hkd.2 rfl
    refine Cw.regionS [rc,b16] [0,1,2,4,5,6,7,3,8,9,10,11] [] (by kernel_rfl) (by kernel_rfl) (by kernel_rfl) ?_
    simp only[zg_, ↓zc_, ↓za_, ↓zl_, ↓zk_,zb_]
    refine kq (And.intro @zi_ (And.intro @r16 (And.intro @r16c (And.intro @ixc (@ldk))))) ?_
    try with_reducible refine Ow.nil ?_
    first|with_reducible refine ks [14] (And.intro @zi_ (And.intro @ixc (And.intro @ldc (@r16c)))) ?_|refine kp (And.intro @zi_ (And.intro @ixc (And.intro @ldc (@r16c)))) ?_
    refine Ow.callFV rfl Tryz.call31 (fun w' hw'=>vG_ vb (xK_ Wa.lk) c.id w' (SlV.rowX (hb1.oldN hw' hN17)) (by omega)) ?_
    rw[decide_eq_true hin]
    refine ko @zi_ ?_
    first|with_reducible refine ks [] @zi_ ?_|refine kp @zi_ ?_
    exact Again.mk ⟨j+1,DC++ [(b16, .cells #[vi p.k,vs p.t] 35 (0,0))]⟩ (by show _ - (j+1)<_ - j;omega) ⟨hjt,hN16⟩ rfl rfl
   |true=>
    by_cases hkk:p.k=c.kind
    ·have hin:=hkd.1 (by rw[decide_eq_true hkk];rfl)
     have q1: (p.k==c.kind)=true:=by simpa using hkk
     have q2:decide (p.k=c.kind)=true:=decide_eq_true hkk
     refine Cw.regionS [rc,b16] [0,1,2,4,5,6,7,3,8,9,10,11] [] (by kernel_rfl) (by kernel_rfl) (by kernel_rfl) ?_
     simp only[zg_, ↓zc_, ↓za_, ↓zl_, ↓zk_,zb_]
     refine kq (And.intro @zi_ (And.intro @r16 (And.intro @r16c (And.intro @ixc (And.intro @ldk (And.intro @q1 (@q2))))))) ?_
     try with_reducible refine Ow.nil ?_
     first|with_reducible refine ks [14] (And.intro @zi_ (And.intro @ixc (And.intro @ldc (@r16c)))) ?_|refine kp (And.intro @zi_ (And.intro @ixc (And.intro @ldc (@r16c)))) ?_
     refine Ow.callFV rfl Tryz.call31 (fun w' hw'=>vG_ va (xn_ Wa.ms) c.id w' (SlV.rowX (ha1.oldN hw' hN17)) (by omega)) ?_
     rw[decide_eq_true hin]
     refine ko @zi_ ?_
     first|with_reducible refine ks [] @zi_ ?_|refine kp @zi_ ?_
     exact Again.mk ⟨j+1,DC++ [(b16, .cells #[vi p.k,vs p.t] 35 (0,0))]⟩ (by show _ - (j+1)<_ - j;omega) ⟨hjt,hN16⟩ rfl rfl
    ·have hin:=hkd.2 (by rw[decide_eq_false hkk];rfl)
     have q1: (p.k==c.kind)=false:=by simpa using hkk
     have q2:decide (p.k=c.kind)=false:=decide_eq_false hkk
     refine Cw.regionS [rc,b16] [0,1,2,4,5,6,7,3,8,9,10,11] [] (by kernel_rfl) (by kernel_rfl) (by kernel_rfl) ?_
     simp only[zg_, ↓zc_, ↓za_, ↓zl_, ↓zk_,zb_]
     refine kq (And.intro @zi_ (And.intro @r16 (And.intro @r16c (And.intro @ixc (And.intro @ldk (And.intro @q1 (@q2))))))) ?_
     try with_reducible refine Ow.nil ?_
     first|with_reducible refine ks [14] (And.intro @zi_ (And.intro @ixc (And.intro @ldc (@r16c)))) ?_|refine kp (And.intro @zi_ (And.intro @ixc (And.intro @ldc (@r16c)))) ?_
     refine Ow.callFV rfl Tryz.call31 (fun w' hw'=>vG_ vb (xK_ Wa.lk) c.id w' (SlV.rowX (hb1.oldN hw' hN17)) (by omega)) ?_
     rw[decide_eq_true hin]
     refine ko @zi_ ?_
     first|with_reducible refine ks [] @zi_ ?_|refine kp @zi_ ?_
     exact Again.mk ⟨j+1,DC++ [(b16, .cells #[vi p.k,vs p.t] 35 (0,0))]⟩ (by show _ - (j+1)<_ - j;omega) ⟨hjt,hN16⟩ rfl rfl
  ·obtain rfl:j=(qm_ o.k o.t).length:=by omega
   have d1:decide (((qm_ o.k o.t).length:Int)< ((qm_ o.k o.t).length:Int))=false:=by simp
   first|with_reducible refine ks [] (And.intro @zi_ (And.intro @lnc (@d1))) ?_|refine kp (And.intro @zi_ (And.intro @lnc (@d1))) ?_
   first|with_reducible refine ks [] @zi_ ?_|refine kp @zi_ ?_
   exact Again.mk ⟨k+1,L0++DC⟩ (by show _ - (k+1)<_ - k;omega) ⟨hlt,hNN⟩ rfl rfl
 ·obtain rfl:k=(xn_ Wa.ms).length:=by omega
  have d0:decide (((xn_ Wa.ms).length:Int)< ((xn_ Wa.ms).length:Int))=false:=by simp
  first|with_reducible refine ks [] (And.intro @zi_ (And.intro @lna (@d0))) ?_|refine kp (And.intro @zi_ (And.intro @lna (@d0))) ?_
  refine Ow.appendXG (e:=24) (k:=r.length) (new:=(r.map qd_).flatten) (X:= []) (n:=0) (cs:= []) (.slice none 0 0) rfl rfl rfl rfl Tryz.underlying30 Tryz.ag24 (by kernel_rfl) adK_ (by simp[ze_,a8]) Tryz.underlying30 (by intro k h;cases h) Gr.nl (fun w' hw'=>(hr1.oldN hw' hN).appX qB_ Kq_) (by omega) (fun B5 v5 D5 hA5 hB5 hG5 hk15 hk25 hlk5=> ?_)
  have hN5:New w1.heap.size D5:=New.of_le fun q hq=>by
   rcases hk25 q hq with h|h
   ·cases h
   ·omega
  rw[Nat.zero_add,List.nil_append] at hG5
  refine ko @zi_ ?_
  first|with_reducible refine ks [] @zi_ ?_|refine kp @zi_ ?_
  refine Ow.appendXG (e:=24) (k:=mo.length) (new:=(mo.map qd_).flatten) (X:=D5) v5 rfl rfl rfl rfl Tryz.underlying30 Tryz.ag24 (by kernel_rfl) adK_ (by simp[ze_,a8]) Tryz.underlying30 (by intro k h;cases h) hG5 (fun w' hw'=>(hm1'.oldN hw' (hN5.app hN)).appX qB_ Kq_) (by omega) (fun B6 v6 D6 hA6 hB6 hG6 hk16 hk26 hlk6=> ?_)
  have hN6:New w1.heap.size D6:=New.of_le fun q hq=>by
   rcases hk26 q hq with h|h
   ·exact hN5.le q h
   ·omega
  have hlm: (r++mo).length=r.length+mo.length:=List.length_append
  rw[←hlm,←List.flatten_append,←List.map_append] at hG6
  refine ko @zi_ ?_
  first|with_reducible refine ks [] @zi_ ?_|refine kp @zi_ ?_
  refine Ow.callC rfl rfl Tryz.call29 (fun w' hw'=>qS_ (.iface 118 (vp bx 0)) (jm_ l) v6 (r++mo) w' ⟨bx,bm,om,hA.old hw' ((hN6.app hN).not hlx) ((hN6.app hN).not hlm'),(fun h=>by cases h),(fun h=>by cases h)⟩ (SlV.rowX (Jj_ (hG6.i (X:=D6) fun q hq=>hq) (fun b o hm=>hw'.has b o (List.mem_append_left _ hm)))) (by omega) (by omega)) (fun B7 v7 D7 hA7 hB7 hN7 hS7=> ?_)
  obtain⟨Wc,vc,vd,hWc,hqc,hmc1,hmc2,rfl,hgc,hgd⟩:=hS7
  rw[hes] at hWc
  have hNf:=(hN6.app hN).app (hN7.mono hB7)
  have s3:=Qe_ Wc.ms
  have s4: (xK_ Wc.lk).length≤41000:=by
   have:=Qe_ (Wc.lk.map ChildL.id)
   rw[List.length_map] at this
   show(xn_ _).length≤_
   omega
  refine ko @zi_ ?_
  first|with_reducible refine ks [] @zi_ ?_|refine kp @zi_ ?_
  refine Ow.callFV rfl Tryz.call13 (fun w' hw'=>jw_ w' (hG1.new hw' hNf)) ?_
  refine ko @zi_ ?_
  refine Ow.callFV rfl Tryz.call33 (fun w' hw'=>QF_ va vc _ _ w' (ha1.oldN hw' hNf) (Jj_ hgc (fun b o hm=>hw'.has b o (by simp[hm]))) (by omega) (by omega) (hWa.moreMs hqa hWc hqc fun i h=>List.mem_append_left _ h)) ?_
  refine ko @zi_ ?_
  refine Ow.callFV rfl Tryz.call33 (fun w' hw'=>QF_ vb vd _ _ w' (hb1.oldN hw' hNf) (Jj_ hgd (fun b o hm=>hw'.has b o (by simp[hm]))) (by omega) (by omega) (hWa.moreLk hqa hWc hqc fun i h=>List.mem_append_left _ h)) ?_
  refine ko @zi_ ?_
  first|with_reducible refine ks [] @zi_ ?_|refine kp @zi_ ?_
  refine⟨_,(ke @zi_),hNf, ?_⟩
  rfl
end Go.Proofs
end
namespace Go.Proofs
end Go.Proofs
namespace Go.Sx
open Go
theorem ag8_ {P:Program} {f:FuncId} {fn:Func} {s:ChangeSpec} {c:OpenClaim}
  (h1: (c.wf (OpenSpec.ofChange s))=true)
  (h2: (laidOutB P)=true)
  (h3: (mapsRowed P)=true)
  (h4: (fn.params.all (P.readableRec ·))=true)
  (h5: (namedTie P c.named s.vars)=true)
  (h6: ((c.stops== []))=true)
  (h7: ((P.stops== []))=true)
  (h8: ((c.knobs== []))=true)
  (h9: ((P.stopKnobs== []))=true)
  (h10: ((c.inPlace==P.inPlace f))=true)
  (h11: ((c.unfollowed==P.unfollowed f))=true)
  (h12: ((c.recurses==P.recurses f))=true)
  (h13: ((c.named==P.varsNamed f))=true)
  (h14: ((c.maps==(fn.params.toList++s.plain.varTypes P).any (P.mapsRec ·)))=true)
  (h15: ((c.ifaces==(fn.params.toList++s.plain.varTypes P).any (P.ifacesRec ·)))=true)
  (h16: ((c.mapsOut==P.mapsAmong fn.resultTypes.toList))=true)
  (h17: ((c.loops==(fn.params.toList++s.plain.varTypes P).any (P.loopsFrom ·)))=true)
  (h18: ((c.wideKeys==(fn.params.toList++s.plain.varTypes P++fn.resultTypes.toList).any (P.wideKeysFrom ·)))=true)
  (h19: (s.vars.all (P.varReadable ·))=true)
  (h20: (fn.resultTypes.all (fun t=>P.readableRec t&&decide (t<P.types.size)))=true)
  (h21: ((c.ifacesOut==fn.resultTypes.toList.any (P.ifacesRec ·)))=true)
  (h22: ((c.loopsOut==fn.resultTypes.toList.any (P.loopsFrom ·)))=true)
  (h23: ((c.plainKeys==P.plainKeys))=true)
  (h24: (c.shortTexts.isNone)=true)
  (h25: (P.stopsHeard)=true)
  (h26: (P.mayEnter)=true)
  (h27: ((c.lifted==P.liftsFinal))=true)
  (h28: ((P.make==some c.make))=true)
  (h29: ((c.kinds==(if c.domain.isEmpty then [] else fn.params.toList.map fun t=>match P.underlying t with|some (.int k)=>some k|_=>none)))=true)
  (h30: ((c.pinned==c.pinnedBy))=true)
  (h31: ((c.veiled==(fn.params.toList++s.plain.varTypes P++fn.resultTypes.toList).any (P.veiledRec ·)))=true)
  (h32: (c.veiledFits P fn.params.toList (fn.params.toList++s.plain.varTypes P++fn.resultTypes.toList))=true):
  joinedFacts P f fn s c=true:=by
 unfold joinedFacts
 exact(Bool.and_eq_true_iff.2 ⟨(Bool.and_eq_true_iff.2 ⟨(Bool.and_eq_true_iff.2 ⟨(Bool.and_eq_true_iff.2 ⟨(Bool.and_eq_true_iff.2 ⟨(Bool.and_eq_true_iff.2 ⟨(Bool.and_eq_true_iff.2 ⟨(Bool.and_eq_true_iff.2 ⟨(Bool.and_eq_true_iff.2 ⟨(Bool.and_eq_true_iff.2 ⟨(Bool.and_eq_true_iff.2 ⟨(Bool.and_eq_true_iff.2 ⟨(Bool.and_eq_true_iff.2 ⟨(Bool.and_eq_true_iff.2 ⟨(Bool.and_eq_true_iff.2 ⟨(Bool.and_eq_true_iff.2 ⟨(Bool.and_eq_true_iff.2 ⟨(Bool.and_eq_true_iff.2 ⟨(Bool.and_eq_true_iff.2 ⟨(Bool.and_eq_true_iff.2 ⟨(Bool.and_eq_true_iff.2 ⟨(Bool.and_eq_true_iff.2 ⟨(Bool.and_eq_true_iff.2 ⟨(Bool.and_eq_true_iff.2 ⟨(Bool.and_eq_true_iff.2 ⟨(Bool.and_eq_true_iff.2 ⟨(Bool.and_eq_true_iff.2 ⟨(Bool.and_eq_true_iff.2 ⟨(Bool.and_eq_true_iff.2 ⟨(Bool.and_eq_true_iff.2 ⟨(Bool.and_eq_true_iff.2 ⟨h1,h2⟩),h3⟩),h4⟩),h5⟩),h6⟩),h7⟩),h8⟩),h9⟩),h10⟩),h11⟩),h12⟩),h13⟩),h14⟩),h15⟩),h16⟩),h17⟩),h18⟩),h19⟩),h20⟩),h21⟩),h22⟩),h23⟩),h24⟩),h25⟩),h26⟩),h27⟩),h28⟩),h29⟩),h30⟩),h31⟩),h32⟩)
end Go.Sx
