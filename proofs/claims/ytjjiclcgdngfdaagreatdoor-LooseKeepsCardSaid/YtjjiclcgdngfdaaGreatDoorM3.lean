/-
  Part 3 of the walk: contracts of the functions that the law reaches, and the calculus they stand on.
  No conditions.
-/
import Derived.Test.YtjjiclcgdngfdaaGreatDoorM2
import Derived.Shelf.SlIter.Nil
import Derived.Shelf.SortM.Plain
import Derived.Shelf.SortM.SortNone
import Derived.Ground.GgzProg
import Derived.Ground.SlgmProg
section
open Go Go.Proofs Go.Sx Go.StP Go.Flo
namespace Go.Proofs
set_option maxRecDepth 10000
set_option maxHeartbeats 400000
set_option linter.unusedSimpArgs false
theorem K1_ {s:List UInt8}: ∀ (k i a:Nat) (e:Int),(jR_ s k i a e).1.length≤k∧(jR_ s k i a e).2.1.length=(jR_ s k i a e).1.length
 |0,i,a,e=>⟨Nat.le_refl _,rfl⟩
 |k+1,i,a,e=>by
  have:=K1_ (s:=s) k (i+1) (Xc_ s i a e).2.1 0
  unfold jR_
  split
  ·simp only[List.length_cons];omega
  ·simp
end Go.Proofs
end
section
open Go Go.Proofs Go.Sx Go.StP Go.Flo
namespace Go.Proofs
set_option maxRecDepth 10000
set_option maxHeartbeats 400000
set_option linter.unusedSimpArgs false
end Go.Proofs
end
section
open Go Go.Proofs Go.Sx Go.StP Go.Flo
namespace Go.Proofs
set_option maxRecDepth 10000
set_option maxHeartbeats 400000
set_option linter.unusedSimpArgs false
theorem ajC_ {b d:List UInt8} (_h: (xZ_ b d).2=0): (xZ_ b d).1.length≤4099:=by
 unfold xZ_
 split
 ·simp
 ·rename_i p hp
  split
  ·simp
  ·rename_i hb
   obtain⟨m,hm⟩:=W4_ hp
   rw[show p.1=b.length by omega] at hm
   have hk:chkV (b.length:Nat) p.2=(((wT_ (b.length:Nat) p.2:Nat):Int),(0:Int)):=by
    unfold chkV at hm ⊢
    split at hm
    ·cases hm
    ·rename_i h1
     rw[if_neg h1]
     split at hm
     ·cases hm
     ·rename_i h2
      rw[if_neg h2]
      split at hm
      ·cases hm
      ·rename_i h3;rw[if_neg h3]
   obtain⟨-,-,h1,h2,-⟩:=afN_ hk
   show(txtP b p.2).length≤4099
   rw[abs_ h1]
   exact h2
theorem ake_ {l:List PartL} {a:Int} {s:List UInt8} (h:partV l a= .ok s):s.length≤4099:=by
 unfold partV at h
 cases hp:wi_ l a with
 |error e=>rw[hp] at h;cases h
 |ok p=>
  rw[hp] at h
  change wc_ l p= .ok s at h
  cases p with
  |nil=>cases h;simp
  |cons x p=>
   unfold wc_ at h
   cases hf:wc_ l p with
   |error e=>rw[hf] at h;cases h
   |ok t=>
    rw[hf] at h
    change(if(kA_ (l.getD x xD_) t).2=0 then _ else _)=_ at h
    split at h
    ·rename_i h0
     cases h
     unfold kA_ at h0 ⊢
     split
     ·rename_i hd;rw[if_pos hd] at h0;exact ajC_ h0
     ·rename_i hd
      split
      ·simp
      ·show(l.getD x xD_).x.length≤4099;omega
    ·cases h
theorem we_ {D:zb_} {E:TypeId} {m n:Nat} {v:Value} {cs:List Value} (h:GrI D E m v n cs) (x:Bool×Nat):KK_ (.sl x) v=some (vi n):=by
 obtain⟨X,-,h⟩:=h;exact h.len x
set_option linter.defProp false
end Go.Proofs
end
section
open Go Go.Proofs Go.Sx Go.StP Go.Flo
namespace Go.Proofs
set_option maxRecDepth 10000
set_option maxHeartbeats 400000
set_option linter.unusedSimpArgs false
theorem agC_ (p:PartL) (E:TypeId) (a:Bool) (x:Bool):zv_ (some (a,1)) (some (.cells (qH_ p).toArray E (0,0))) 0 (.bool x)=some (.cells (qH_ ⟨x,p.b,p.x⟩).toArray E (0,0)):=(rfl)
theorem aeF_ (p:PartL) (E:TypeId) (a:Bool) (x:Int):zv_ (some (a,1)) (some (.cells (qH_ p).toArray E (0,0))) 1 (vi x)=some (.cells (qH_ ⟨p.d,x,p.x⟩).toArray E (0,0)):=(rfl)
theorem ai2_ (p:PartL) (E:TypeId):zt_ (some (true,3)) (some (.cells (qH_ p).toArray E (0,0))) 0=some (.agg (qH_ p).toArray):=Q8_ (n:=3) [] (qH_ p) [] E (0,0) rfl rfl
theorem afR_ (t:List UInt8):q5_ (vc_ Tryz.prog 279) (zM_ Tryz.prog 279) [(2,vs t)]=some (.agg (qH_ ⟨false,0,t⟩).toArray):=by
 rw[show vc_ Tryz.prog 279=some [(0,1),(1,1),(2,1)] from id (by kernel_rfl),acF_];rfl
set_option linter.defProp false
end Go.Proofs
end
section
open Go Go.Proofs Go.Sx Go.StP Go.Flo
namespace Go.Proofs
set_option maxRecDepth 10000
set_option maxHeartbeats 400000
set_option linter.unusedSimpArgs false
abbrev ObSl (w:World) (v:Value) (l:List ObL):Prop:=SlV 2 obC ob0 w v l
theorem ae6_ {w:World} {v:Value} {l:List ObL} {b off:Nat} {arr:Array Value} {E:TypeId} {fz:Nat×Nat} (h:RowS 2 obC ob0 w v l b off arr E fz) {k:Nat} (hk:k<l.length):
  zt_ (some (true,2)) (some (.cells arr E fz)) (off+k*2)=some (obV (l.getD k ob0).k (l.getD k ob0).t):=RowS.load h jC_ (by omega) hk
set_option linter.defProp false
end Go.Proofs
end
section
open Go Go.Proofs Go.Sx Go.StP Go.Flo
namespace Go.Proofs
set_option maxRecDepth 10000
set_option maxHeartbeats 400000
set_option linter.unusedSimpArgs false
theorem adx_ {w0:World} {L X D:zb_} (hC:Came w0 L X D) (hX:New w0.heap.size X):New w0.heap.size D:=New.of_le fun c hc=>by
 rcases hC.new c hc with h| ⟨-,h⟩
 ·exact hX.le c h
 ·exact h
def apS_ (l:List PartL):Prop:= ∀g,g<l.length→(l.getD g xD_).x.length≤17000000
set_option linter.defProp false
end Go.Proofs
end
section
open Go Go.Proofs Go.Sx Go.StP Go.Flo
namespace Go.Proofs
set_option maxRecDepth 10000
set_option maxHeartbeats 400000
set_option linter.unusedSimpArgs false
set_option linter.defProp false
set_option linter.defProp false
end Go.Proofs
end
section
open Go Go.Proofs Go.Sx Go.StP Go.Flo
namespace Go.Proofs
set_option maxRecDepth 10000
set_option maxHeartbeats 400000
set_option linter.unusedSimpArgs false
theorem eqDi (a b:Int):eqD Tryz.prog 7 3 (vi a) (vi b)=some (a==b):=by unfold eqD;rw[Tryz.underlying3];rfl
theorem eqDs (a b:List UInt8):eqD Tryz.prog 7 9 (vs a) (vs b)=some (a==b):=by unfold eqD;rw[Tryz.underlying9];simp only[vs,adD_]
theorem agI:z0_ Tryz.prog 3=some (false,1):=id (by kernel_rfl)
theorem agS:z0_ Tryz.prog 9=some (false,1):=id (by kernel_rfl)
theorem atr_ (a b:ObL):eqD Tryz.prog 8 82 (obV a.k a.t) (obV b.k b.t)=some (decide (a=b)):=by
 have p0: ∀o:ObL,Sx.partV (false,1) #[vi o.k,vs o.t] 0=some (vi o.k):=fun _=>rfl
 have p1: ∀o:ObL,Sx.partV (false,1) #[vi o.k,vs o.t] 1=some (vs o.t):=fun _=>rfl
 unfold eqD obV
 rw[Tryz.underlying82]
 simp only
 rw[show Tryz.prog.stoodInHeld 82=false by kernel_rfl]
 simp only[Bool.false_eq_true, ↓reduceIte,wK_,wG_,agI,agS,p0,p1,eqDi,eqDs]
 obtain⟨k,t⟩:=a
 obtain⟨k',t'⟩:=b
 have e:decide ((⟨k,t⟩:ObL)=⟨k',t'⟩)=((k==k')&& (t==t')):=by rw[Bool.eq_iff_iff];simp
 rw[e]
 cases(k==k')<;>cases(t==t')<;>rfl
theorem aum_ (a b:ObL):qI_ Tryz.prog .eql 82 (obV a.k a.t) (obV b.k b.t)=some (.bool (decide (a=b))):=by
 have h:=atr_ a b
 unfold qI_ eqX obV at*;rw[show Tryz.prog.eqGuardType Tryz.prog.depth 82=false by kernel_rfl];simp[qz_,h]
theorem aoU_ (a b:ObL):qI_ Tryz.prog .neq 82 (obV a.k a.t) (obV b.k b.t)=some (.bool (!decide (a=b))):=by
 have h:=atr_ a b
 unfold qI_ eqX obV at*;rw[show Tryz.prog.eqGuardType Tryz.prog.depth 82=false by kernel_rfl];simp[qz_,h]
instance:DecidableEq PartL:=fun a b=>if h:a.d=b.d∧a.b=b.b∧a.x=b.x then .isTrue (by cases a;cases b;simp only at h;obtain⟨rfl,rfl,rfl⟩:=h;rfl) else .isFalse (fun e=>h (by rw[e];exact⟨rfl,rfl,rfl⟩))
set_option linter.defProp false
end Go.Proofs
end
section
open Go Go.Proofs Go.Sx Go.StP Go.Flo
namespace Go.Proofs
set_option maxRecDepth 10000
set_option maxHeartbeats 400000
set_option linter.unusedSimpArgs false
theorem aqz_ (s:List UInt8): ∃n:Nat,(kN_ s).1=n∧n≤200:=by
 unfold kN_
 split
 ·have:=jj_ (s:=s) (a:=(jw_ s 0 0 4).2.1) (e:=(jw_ s 0 0 4).2.2) (most:=200) (by omega)
  exact⟨(zD_ s (jw_ s 0 0 4).2.1 (jw_ s 0 0 4).2.2 200).1.toNat,by simp only;omega,by omega⟩
 ·exact⟨0,rfl,by omega⟩
theorem aiY_ (s:List UInt8) (a:Nat) (e most:Int) (hm:0≤most): ((zL_ s a e most).1.length:Int)≤most:=by
 have h1:=jj_ (s:=s) (a:=a) (e:=e) (most:=most) hm
 have h2: ∀ (b:Nat) (e n:Int),0≤n→((jw_ s b e n).1.length:Int)≤n:=by
  intro b e n hn
  unfold jw_
  split
  ·simpa using hn
  ·split
   ·simpa using hn
   ·split
    ·simpa using hn
    ·simp only[List.length_take,List.length_drop];omega
 unfold zL_
 simp only
 split
 ·simpa using hm
 ·have:=h2 (zD_ s a e most).2.1 (zD_ s a e most).2.2 (zD_ s a e most).1 h1.1
  omega
theorem abT_ {s:List UInt8}: ∀ (k i a:Nat) (e:Int) (p:PartL),p∈ (jR_ s k i a e).1→p.x.length≤65536
 |0,i,a,e,p,h=>by cases h
 |k+1,i,a,e,p,h=>by
  unfold jR_ at h
  split at h
  ·rcases List.mem_cons.1 h with rfl|h
   ·have:=aiY_ s (zD_ s a e 200).2.1 (zD_ s a e 200).2.2 65536 (by omega)
    show(zL_ s (zD_ s a e 200).2.1 (zD_ s a e 200).2.2 65536).1.length≤65536
    omega
   ·exact abT_ k _ _ _ p h
  ·cases h
theorem afy_ (s:List UInt8):apS_ (vD_ s).1:=fun g hg=>Nat.le_trans (abT_ _ _ _ _ _ (xQ_ hg)) (by omega)
theorem ads_ (s:List UInt8): (vD_ s).1.length≤200∧(vD_ s).2.1.length=(vD_ s).1.length:=by
 obtain⟨n,hn,hle⟩:=aqz_ s
 have:=K1_ (s:=s) (kN_ s).1.toNat 0 (kN_ s).2.2.1 (kN_ s).2.2.2
 unfold vD_
 rw[hn,Int.toNat_natCast] at this ⊢
 omega
set_option linter.defProp false
end Go.Proofs
end
section
open Go Go.Proofs Go.Sx Go.StP Go.Flo
namespace Go.Proofs
set_option maxRecDepth 10000
set_option maxHeartbeats 400000
set_option linter.unusedSimpArgs false
set_option linter.defProp false
end Go.Proofs
end
section
open Go Go.Proofs Go.Sx Go.Dig
namespace Go.Proofs
set_option maxRecDepth 10000
set_option maxHeartbeats 1000000
set_option linter.unusedSimpArgs false
set_option linter.defProp false
def je_:=And.intro (@zp_) (@zo_)
theorem apI_ (id:List UInt8) (hid:id.length=32) (w:World):Rets Tryz.prog 107 #[.agg (a8 id)] w (fun v D=>v=vs (zU_ id)∧D= []):=by
 refine Rets.enterV Tryz.func107 rfl (rs:= [.tmp 2]) Tryz.results107 Tryz.ntmps107 ?_
 refine kf ?_
 first|with_reducible refine ks [] @je_ ?_|refine kp @je_ ?_
 refine Ow.box rfl rfl fun b1 hb1 hw1=> ?_
 refine ko @je_ ?_
 first|with_reducible refine ks [] @je_ ?_|refine kp @je_ ?_
 refine Ow.alloc rfl rfl Tryz.zr218 fun b2 hb2 hw2=> ?_
 refine ko @je_ ?_
 first|with_reducible refine ks [] @je_ ?_|refine kp @je_ ?_
 obtain⟨h12,-⟩:=hb2
 refine Cw.loopG (G:=Nat) [8,9,10,4,5,11,12,13,14,15,16,17,18,19,20,21,22,23,24,7] (fun g=> [(7,vi g)]) (fun g=> [(b1, .cells (a8 id) 84),(b2, .cells (a8 (J5_ id g)) 218)]) (fun g=>g≤32) (fun g=>32 - g) 0 rfl rfl ?_ ?_
 ·omega
 intro g j hg
 refine kv ?_
 by_cases hlt:g<32
 ·have hl:=Q7_ id g hid hg
  first|with_reducible refine ks [] @je_ ?_|refine kp @je_ ?_
  have h4:=aqS_ (id.getD g 0)
  have h15:=apa_ (id.getD g 0)
  refine Cw.regionO [0,1,2,3,4,5,6,7,8,9,10,11,12,13,14] [12,14] rfl (by kernel_rfl) (by kernel_rfl) ?_
  simp only[zl_, ↓zg_, ↓zc_, ↓zx_, ↓zw_,zd_]
  refine kq @je_ ?_
  refine Ow.store rfl rfl rfl (ke @je_) ?_
  refine ko @je_ ?_
  first|with_reducible refine ks [] @je_ ?_|refine kp @je_ ?_
  refine Again.mk (g+1) (by omega) (by omega) ?_ rfl
  exact congrArg (fun l=> [(b1,Obj.cells (a8 id) 84),(b2,Obj.cells (a8 l) 218)]) (af2_ id g hid hlt _ _ (arW_ _) (aof_ _))
 ·have hg32:g=32:=by omega
  subst hg32
  have hl:=Q7_ id 32 hid (by omega)
  first|with_reducible refine ks [] @je_ ?_|refine kp @je_ ?_
  exact⟨_,rfl,⟨hw1,hw2,trivial⟩,by show vs _=_;rw[List.drop_zero,List.take_of_length_le (by omega),ajj_ id hid]⟩
theorem aeC_ (id:List UInt8) (hid:id.length=32) (w:World):Rets Tryz.prog 53 #[.agg (a8 id)] w (fun v D=>v=vs (zU_ id)∧D= []):=by
 refine Rets.enterV Tryz.func53 rfl (rs:= [.tmp 2]) Tryz.results53 Tryz.ntmps53 ?_
 refine kf ?_
 first|with_reducible refine ks [] @je_ ?_|refine kp @je_ ?_
 refine Ow.box rfl rfl fun b1 _ hw1=> ?_
 refine ko @je_ ?_
 first|with_reducible refine ks [] @je_ ?_|refine kp @je_ ?_
 refine Cw.loopG (G:=Nat) [7,8,11,12,13,14,15,16,17,18,19,20,5,6,21,22,23,24,25,26,27,28,29,30,31,3,9,10,4] (fun g=> [(4,vi g),(3,vs (zU_ (id.take g)))]) (fun g=> [(b1, .cells (a8 id) 84)]) (fun g=>g≤32) (fun g=>32 - g) 0 rfl rfl ?_ ?_
 ·omega
 intro g j hg
 refine kv ?_
 by_cases hlt:g<32
 ·have hl: (zU_ (id.take g)).length≤64:=by rw[qo_,List.length_take];omega
  have hx:=(id.getD g 0).toNat_lt
  have e1: ((hexL.take ((id.getD g 0).toNat / 16+1)).drop ((id.getD g 0).toNat / 16))=_:=amH_ _ (by omega)
  have e2: ((hexL.take ((id.getD g 0).toNat%16+1)).drop ((id.getD g 0).toNat%16))=_:=amH_ _ (by omega)
  simp only[hexL] at e1 e2
  first|with_reducible refine ks [] @je_ ?_|refine kp @je_ ?_
  refine Cw.regionO [0,1,5,6,2,3,4,10,7,8,9,11] [] rfl (by kernel_rfl) (by kernel_rfl) ?_
  simp only[zl_, ↓zg_, ↓zc_, ↓zx_, ↓zw_,zd_]
  refine kq @je_ ?_
  first|with_reducible refine ks [] @je_ ?_|refine kp @je_ ?_
  refine Cw.regionO [0,1,2,3,4,5,6,7,8,9,10,11] [] rfl (by kernel_rfl) (by kernel_rfl) ?_
  simp only[zl_, ↓zg_, ↓zc_, ↓zx_, ↓zw_,zd_]
  refine kq (And.intro @je_ (And.intro @e1 (@e2))) ?_
  first|with_reducible refine ks [] @je_ ?_|refine kp @je_ ?_
  refine Again.mk (g+1) (by omega) (by omega) rfl ?_
  rw[alR_ id g hid hlt]
  rfl
 ·have hg32:g=32:=by omega
  subst hg32
  first|with_reducible refine ks [] @je_ ?_|refine kp @je_ ?_
  exact⟨_,rfl,⟨hw1,trivial⟩,by show vs _=_;rw[List.take_of_length_le (by omega)]⟩
theorem aar_ (s p:List UInt8) (w:World) (_hs:s.length<1099511627776):Rets Tryz.prog 174 #[vs s,vs p] w (fun v D=>v= .bool (decide (p.length≤s.length)&& (s.take p.length==p))∧D= []):=by
 refine Rets.enterV Tryz.func174 rfl (rs:= [.tmp 4]) Tryz.results174 Tryz.ntmps174 ?_
 refine kf ?_
 by_cases h:p.length≤s.length
 ·have e1:decide ((p.length:Int)≤ (s.length:Int))=true:=decide_eq_true (by omega)
  first|with_reducible refine ks [] (And.intro @je_ @e1) ?_|refine kp (And.intro @je_ @e1) ?_
  refine⟨_,(ke @je_),trivial, ?_⟩
  simp[xW_,h]
 ·have e1:decide ((p.length:Int)≤ (s.length:Int))=false:=decide_eq_false (by omega)
  first|with_reducible refine ks [] (And.intro @je_ @e1) ?_|refine kp (And.intro @je_ @e1) ?_
  refine⟨_,(ke @je_),trivial, ?_⟩
  simp[xW_,h]
end Go.Proofs
end
section
open Go Go.Proofs Go.Sx Go.StP Go.Flo Go.Dig
namespace Go.Proofs
set_option maxRecDepth 10000
set_option maxHeartbeats 400000
set_option linter.unusedSimpArgs false
section
variable {P:Program} {w0:World} {f:Fr} {L:zb_} {N:Fr→zb_→Prop} {ops:Array Oper} {rest:List Oper} {md:Md} {d:Option Tmp} {ty:TypeId} {ps:String} {af:Array Edge} {g:Option (Nat×Bool)}
end
set_option linter.defProp false
set_option linter.defProp false
end Go.Proofs
end
section
open Go Go.Proofs Go.Sx Go.StP Go.Flo
namespace Go.Proofs
set_option maxRecDepth 100000
set_option maxHeartbeats 1000000
set_option linter.unusedSimpArgs false
abbrev al0_ (w:World) (v:Value) (l:List (List UInt8)):Prop:=SlV 1 strC [] w v l
theorem aeU_ {w:World} {v:Value} {l:List (List UInt8)} {b off:Nat} {arr:Array Value} {E:TypeId} {fz:Nat×Nat} (h:RowS 1 strC [] w v l b off arr E fz) {k:Nat} (hk:k<l.length) (n:Nat):
  zt_ (some (false,n)) (some (.cells arr E fz)) (off+k)=some (vs (l.getD k [])):=by
 have:=h.cell (j:=0) (n:=n) hk (by omega)
 rwa [Nat.mul_one,Nat.add_zero] at this
set_option linter.defProp false
end Go.Proofs
end
section
open Go Go.Proofs Go.Sx Go.StP
namespace Go.Proofs
set_option maxRecDepth 10000
set_option maxHeartbeats 400000
set_option linter.unusedSimpArgs false
def q7_ (s:List UInt8):Bool:= !(s== [])&&decide (s.length≤80)&& !(s.any Jm_)
set_option linter.defProp false
def qJ_:=And.intro (And.intro (And.intro (@zp_) (And.intro (@wd_) (@v4_))) (And.intro (And.intro (@vP_) (@zo_)) (And.intro (@ahE_) (@Kk_)))) (And.intro (And.intro (And.intro (@KV_) (@X0_)) (And.intro (@alv_) (@WD_))) (And.intro (And.intro (@Sx.tup3_0) (@Sx.tup3_1)) (And.intro (@Sx.tup3_2) (@eqb))))
theorem adl_ (c:Int) (w:World):Rets Tryz.prog 119 #[VC_ c] w (fun v D=>v= .bool (badR c)∧D= []):=by
 refine Rets.enterV Tryz.func119 rfl (rs:= [.tmp 2]) Tryz.results119 Tryz.ntmps119 ?_
 refine kf ?_
 unfold badR
 cases h1:decide (c<33)
 ·cases h2:decide (126<c)
  ·first|with_reducible refine ks [] (And.intro @qJ_ (And.intro @h1 (@h2))) ?_|refine kp (And.intro @qJ_ (And.intro @h1 (@h2))) ?_
   refine⟨_,(ke @qJ_),trivial, ?_⟩
   simp[xW_]
  ·first|with_reducible refine ks [] (And.intro @qJ_ (And.intro @h1 (@h2))) ?_|refine kp (And.intro @qJ_ (And.intro @h1 (@h2))) ?_
   refine⟨_,(ke @qJ_),trivial, ?_⟩
   simp[xW_]
 ·first|with_reducible refine ks [] (And.intro @qJ_ @h1) ?_|refine kp (And.intro @qJ_ @h1) ?_
  refine⟨_,(ke @qJ_),trivial, ?_⟩
  simp[xW_]
theorem aeb_ (s:List UInt8) (w:World) (hs:s.length<1099511627776):
  Rets Tryz.prog 74 #[vs s] w (fun v D=>v= .bool (q7_ s)∧D= []):=by
 refine Rets.enterV Tryz.func74 rfl (rs:= [.tmp 2]) Tryz.results74 Tryz.ntmps74 ?_
 refine kf ?_
 cases h0: (s != [])
 ·have e0: (s== [])=true:=by simpa using h0
  first|with_reducible refine ks [] (And.intro @qJ_ @h0) ?_|refine kp (And.intro @qJ_ @h0) ?_
  refine⟨_,(ke @qJ_),trivial, ?_⟩
  simp[xW_,q7_,e0]
 ·have e0: (s== [])=false:=by simpa using h0
  cases h1:decide ((s.length:Int)≤80)
  ·have e1:decide (s.length≤80)=false:=decide_eq_false (by have:=of_decide_eq_false h1;omega)
   first|with_reducible refine ks [] (And.intro @qJ_ (And.intro @h0 (@h1))) ?_|refine kp (And.intro @qJ_ (And.intro @h0 (@h1))) ?_
   refine⟨_,(ke @qJ_),trivial, ?_⟩
   simp only[xW_,q7_,e0,e1,Bool.not_false,Bool.true_and,Bool.false_and,Bool.and_false]
  ·have e1:decide (s.length≤80)=true:=decide_eq_true (by have:=of_decide_eq_true h1;omega)
   first|with_reducible refine ks [] (And.intro @qJ_ (And.intro @h0 (@h1))) ?_|refine kp (And.intro @qJ_ (And.intro @h0 (@h1))) ?_
   refine Ow.callFV rfl Tryz.call118 (fun w' hw'=>vH_ s 119 Tryz.call119 adl_ w' hs) ?_
   refine ko @qJ_ ?_
   first|with_reducible refine ks [] @qJ_ ?_|refine kp @qJ_ ?_
   refine⟨_,(ke @qJ_),trivial, ?_⟩
   simp only[xW_,q7_,e0,e1,Bool.not_false,Bool.true_and]
theorem aj4_ (s:List UInt8) (w:World) (hs:s.length<1099511627776):Rets Tryz.prog 126 #[vs s] w (fun v D=>v= .bool (!q7_ s)∧D= []):=by
 refine Rets.enterV Tryz.func126 rfl (rs:= [.tmp 2]) Tryz.results126 Tryz.ntmps126 ?_
 refine kf ?_
 first|with_reducible refine ks [] @qJ_ ?_|refine kp @qJ_ ?_
 refine Ow.callFV rfl Tryz.call74 (fun w' hw'=>aeb_ s w' hs) ?_
 refine ko @qJ_ ?_
 first|with_reducible refine ks [] @qJ_ ?_|refine kp @qJ_ ?_
 refine⟨_,(ke @qJ_),trivial, ?_⟩
 rfl
theorem KO_ (v:Value) (l:List (List UInt8)) (w:World) (hv:al0_ w v l) (hl:l.length<1000000) (hs: ∀s,s∈l→s.length<1099511627776):Rets Tryz.prog 165 #[v, .func (.func 126) #[] #[]] w (fun v D=>(∃i:Int,v=vi i∧decide (0≤i)= !(l.all q7_))∧D= []):=by
 obtain⟨rb,off,arr,E,fz,hr⟩:=hv.row
 have ln:=hv.len
 refine Rets.enterV Tryz.func165 rfl (rs:= [.tmp 4]) Tryz.results165 Tryz.ntmps165 ?_
 refine kf ?_
 first|with_reducible refine ks [] (And.intro @qJ_ @ln) ?_|refine kp (And.intro @qJ_ @ln) ?_
 refine Cw.loopG (G:=Nat) [9,10,5,11,12,13,14,15,16,17,4,18,8] (fun k=> [(4,vi 0),(8,vi k)]) (fun k=> []) (fun k=>k≤l.length∧(l.take k).all q7_=true) (fun k=>l.length - k) 0 rfl rfl ?_ ?_
 ·exact⟨Nat.zero_le _,rfl⟩
 intro k jk hk
 refine kv ?_
 obtain⟨hk,hal⟩:=hk
 by_cases hlt:k<l.length
 ·have d1:decide ((k:Int)< (l.length:Int))=true:=decide_eq_true (by omega)
  have hb:=hr.has (by omega)
  have ix:=hr.idx false k hlt
  have ld:=fun n=>aeU_ hr hlt n
  have hts:=StP.take_snoc (z:=([]:List UInt8)) hlt
  have hm:l.getD k []∈l:=by rw[List.getD_eq_getElem?_getD,List.getElem?_eq_getElem hlt];exact List.getElem_mem hlt
  have hsl:=hs _ hm
  generalize l.getD k []=s at*
  first|with_reducible refine ks [] (And.intro @qJ_ (And.intro @d1 (And.intro @hb (And.intro @ix (@ld))))) ?_|refine kp (And.intro @qJ_ (And.intro @d1 (And.intro @hb (And.intro @ix (@ld))))) ?_
  refine Ow.callFn1 (v:= .bool (!q7_ s)) rfl rfl rfl Tryz.call126 (fun w' hw'=>aj4_ s w' hsl) ?_
  cases hn:q7_ s with
  |true=>
   refine ko @qJ_ ?_
   refine Again.mk (G:=Nat) (k+1) (by show l.length - (k+1)<l.length - k;omega) ⟨hlt, ?_⟩ rfl rfl
   rw[hts,List.all_append,hal,List.all_cons,hn];rfl
  |false=>
   refine ko @qJ_ ?_
   first|with_reducible refine ks [] @qJ_ ?_|refine kp @qJ_ ?_
   refine⟨_,(ke @qJ_),trivial, ?_⟩
   refine⟨(k:Int),rfl, ?_⟩
   rw[decide_eq_true (show(0:Int)≤ (k:Int) by omega),show l.all q7_=false from List.all_eq_false.2 ⟨s,hm,by rw[hn];simp⟩];rfl
 ·obtain rfl:k=l.length:=by omega
  have d1:decide ((l.length:Int)< (l.length:Int))=false:=decide_eq_false (by omega)
  rw[List.take_length] at hal
  first|with_reducible refine ks [] (And.intro @qJ_ @d1) ?_|refine kp (And.intro @qJ_ @d1) ?_
  refine⟨_,(ke @qJ_),trivial, ?_⟩
  exact⟨-1,rfl,by rw[hal];rfl⟩
theorem VV_ (v:Value) (l:List (List UInt8)) (w:World) (hv:al0_ w v l) (hl:l.length<1000000) (hs: ∀s,s∈l→s.length<1099511627776):Rets Tryz.prog 125 #[v, .func (.func 126) #[] #[]] w (fun v D=>v= .bool (!(l.all q7_))∧D= []):=by
 refine Rets.enterV Tryz.func125 rfl (rs:= [.tmp 4]) Tryz.results125 Tryz.ntmps125 ?_
 refine kf ?_
 first|with_reducible refine ks [] @qJ_ ?_|refine kp @qJ_ ?_
 refine Ow.callC rfl rfl Tryz.call165 (fun w' hw'=>Rets.toX (KO_ v l w' (hv.oldN hw' trivial) hl hs)) (fun B1 v1 D1 hA1 hB1 hN1 hS1=> ?_)
 obtain⟨rfl,i,rfl,hi⟩:=hS1
 refine ko (And.intro @qJ_ @hi) ?_
 first|with_reducible refine ks [] @qJ_ ?_|refine kp @qJ_ ?_
 refine⟨_,(ke @qJ_),trivial, ?_⟩
 rfl
end Go.Proofs
end
section
open Go Go.Proofs Go.Sx Go.StP
namespace Go.Proofs
set_option maxRecDepth 10000
set_option maxHeartbeats 400000
set_option linter.unusedSimpArgs false
structure FileL where
 data:List UInt8
 stl:Nat
def jP_:FileL:=⟨[],0⟩
structure CallL where
 kind:Nat
 a:List UInt8
 b:List UInt8
 n:Nat
def wB_:CallL:=⟨2,[],[],0⟩
abbrev NmL:=List (List UInt8×Nat)
structure DirL where
 seen:NmL
 stl:NmL
 pend:List CallL
structure DiskL where
 dir:Nat→DirL
 files:List FileL
 max:Int
 fuse:Int
 fused:Bool
 off:Bool
def zB_ (l:NmL) (s:List UInt8):Option Nat:=(l.find? fun p=>s==p.1).map Prod.snd
def qQ_ (l:NmL) (s:List UInt8):NmL:=l.filter fun p=> !(s==p.1)
def insN:NmL→List UInt8×Nat→NmL
 | [],x=> [x]
 |p::r,x=>if ltB x.1 p.1=true then x::p::r else p::insN r x
def Xw_ (l:NmL) (x:List UInt8×Nat):NmL:=insN (qQ_ l x.1) x
def SrtN (l:NmL):Prop:=l.Pairwise fun p q=>ltB p.1 q.1=true
theorem SrtN.nodup {l:NmL} (h:SrtN l): (l.map Prod.fst).Nodup:=by
 refine List.pairwise_map.2 (List.Pairwise.imp ?_ h)
 intro a b hab e
 rw[e,JS_] at hab;cases hab
theorem jS_ (x:List UInt8×Nat): ∀l:NmL,(insN l x).Perm (x::l)
 | []=>List.Perm.refl _
 |p::r=>by
  unfold insN
  split
  ·exact List.Perm.refl _
  ·exact((jS_ x r).cons p).trans (List.Perm.swap x p r)
theorem ah9_ {x:List UInt8×Nat}: ∀ {l:NmL},SrtN l→(∀p,p∈l→p.1≠x.1)→SrtN (insN l x)
 | [],_,_=>List.pairwise_singleton _ _
 |p::r,h,hx=>by
  unfold SrtN at h
  rw[List.pairwise_cons] at h
  unfold insN
  split
  ·rename_i h1
   refine List.pairwise_cons.2 ⟨fun q hq=> ?_,List.pairwise_cons.2 h⟩
   rcases List.mem_cons.1 hq with rfl|hq
   ·exact h1
   ·exact Kl_ h1 (h.1 q hq)
  ·rename_i h1
   refine List.pairwise_cons.2 ⟨fun q hq=> ?_,ah9_ h.2 fun q hq=>hx q (List.mem_cons_of_mem _ hq)⟩
   rcases List.mem_cons.1 ((jS_ x r).mem_iff.1 hq) with rfl|hq
   ·have h1':ltB q.1 p.1=false:=by simpa using h1
    exact KG_ h1' (fun e=>hx p List.mem_cons_self e.symm)
   ·exact h.1 q hq
theorem Q5_ {l:NmL} (s:List UInt8) (h:SrtN l):SrtN (qQ_ l s):=List.Pairwise.filter _ h
theorem ape_ {l:NmL} {s:List UInt8} {p:List UInt8×Nat} (h:p∈qQ_ l s):p.1≠s:=by
 have:=(List.mem_filter.1 h).2
 intro e
 rw[e] at this;simp at this
theorem Xv_ {l:NmL} (x:List UInt8×Nat) (h:SrtN l):SrtN (Xw_ l x):=ah9_ (Q5_ _ h) fun _ hp=>ape_ hp
theorem zW_ {l:NmL} {s:List UInt8} {n:Nat} (h:zB_ l s=some n): (s,n)∈l:=by
 unfold zB_ at h
 cases hf:l.find? fun p=>s==p.1 with
 |none=>rw[hf] at h;cases h
 |some p=>
  rw[hf] at h
  have h1:=List.find?_some hf
  have h2:=List.mem_of_find?_eq_some hf
  obtain⟨a,b⟩:=p
  cases h
  rw[show s=a from by simpa using h1];exact h2
theorem WN_ {l:NmL} {s:List UInt8} (h:zB_ l s=none): ∀p,p∈l→p.1≠s:=by
 intro p hp e
 unfold zB_ at h
 cases hf:l.find? fun p=>s==p.1 with
 |none=>
  have:=List.find?_eq_none.1 hf p hp
  rw[e] at this;simp at this
 |some q=>rw[hf] at h;cases h
theorem adu_ {α β:Type} {m:List (α×β)} (hn: (m.map Prod.fst).Nodup) {k:α} {a b:β} (h1: (k,a)∈m) (h2: (k,b)∈m):a=b:=by
 induction m with
 |nil=>cases h1
 |cons p r ih=>
  rw[List.map_cons,List.nodup_cons] at hn
  rcases List.mem_cons.1 h1 with e1|h1
  ·rcases List.mem_cons.1 h2 with e2|h2
   ·rw[←e1] at e2;exact(congrArg Prod.snd e2).symm
   ·exact absurd (by rw[←e1];exact List.mem_map.2 ⟨_,h2,rfl⟩) hn.1
  ·rcases List.mem_cons.1 h2 with e2|h2
   ·exact absurd (by rw[←e2];exact List.mem_map.2 ⟨_,h1,rfl⟩) hn.1
   ·exact ih hn.2 h1 h2
theorem Ja_ {l:NmL} (hn: (l.map Prod.fst).Nodup) {s:List UInt8} {n:Nat} (h: (s,n)∈l):zB_ l s=some n:=by
 cases hf:zB_ l s with
 |none=>exact absurd rfl (WN_ hf _ h)
 |some m=>rw[adu_ hn (zW_ hf) h]
section
variable {α β:Type} [BEq α] [LawfulBEq α]
theorem asc_ {m:List (α×β)} (hn: (m.map Prod.fst).Nodup) {k:α} {v z:β} (h: (k,v)∈m):getG k z m=v:=by
 unfold getG
 cases hf:m.find? fun p=>k==p.1 with
 |none=>
  have:=List.find?_eq_none.1 hf _ h
  exact absurd (beq_self_eq_true k) this
 |some q=>
  have h1:=List.find?_some hf
  have h2:=List.mem_of_find?_eq_some hf
  obtain⟨a,b⟩:=q
  have e:k=a:=eq_of_beq h1
  subst e
  exact adu_ hn h2 h
theorem arb_ {m:List (α×β)} {k:α} {z:β} (h: ∀p,p∈m→p.1≠k):getG k z m=z:=by
 unfold getG
 cases hf:m.find? fun p=>k==p.1 with
 |none=>rfl
 |some q=>
  have h1:=List.find?_some hf
  exact absurd (eq_of_beq h1).symm (h q (List.mem_of_find?_eq_some hf))
theorem abJ_ {m:List (α×β)} {k:α} (h: ∀p,p∈m→p.1≠k):m.filter (fun p=> !(k==p.1))=m:=
 List.filter_eq_self.2 fun p hp=>by
  have:=h p hp
  cases e:k==p.1 with
  |false=>rfl
  |true=>exact absurd (eq_of_beq e).symm this
theorem acU_ (k:α) (v:β): ∀ {m:List (α×β)},(m.map Prod.fst).Nodup→(updG k v m).Perm ((k,v)::m.filter fun p=> !(k==p.1))
 | [],_=>List.Perm.refl _
 |p::r,hn=>by
  rw[List.map_cons,List.nodup_cons] at hn
  unfold updG
  cases hk: (k==p.1) with
  |true=>
   rw[if_pos rfl,List.filter_cons,hk]
   have e:k=p.1:=eq_of_beq hk
   have hr:r.filter (fun p=> !(k==p.1))=r:=abJ_ fun q hq e2=>hn.1 (List.mem_map.2 ⟨q,hq,by rw[e2,e]⟩)
   simp only[Bool.not_true,Bool.false_eq_true, ↓reduceIte,hr]
   rw[e]
  |false=>
   rw[if_neg (by simp),List.filter_cons,hk]
   simp only[Bool.not_false, ↓reduceIte]
   exact((acU_ k v hn.2).cons p).trans (List.Perm.swap _ _ _)
theorem alz_ (k:α): ∀ {m:List (α×β)},(m.map Prod.fst).Nodup→delG k m=m.filter fun p=> !(k==p.1)
 | [],_=>rfl
 |p::r,hn=>by
  rw[List.map_cons,List.nodup_cons] at hn
  unfold delG
  cases hk: (k==p.1) with
  |true=>
   rw[if_pos rfl,List.filter_cons,hk]
   have e:k=p.1:=eq_of_beq hk
   have hr:r.filter (fun p=> !(k==p.1))=r:=abJ_ fun q hq e2=>hn.1 (List.mem_map.2 ⟨q,hq,by rw[e2,e]⟩)
   simp only[Bool.not_true,Bool.false_eq_true, ↓reduceIte,hr]
  |false=>
   rw[if_neg (by simp),List.filter_cons,hk,alz_ k hn.2]
   simp only[Bool.not_false, ↓reduceIte]
end
def jA_:Option Nat→Value
 |none=> .pointer none
 |some b=>vp b 0
def ptrN (fb:List Nat) (p:List UInt8×Nat):List UInt8×Option Nat:=(p.1,some (fb.getD p.2 0))
def NmP (fb:List Nat) (l:NmL) (m:List (List UInt8×Option Nat)):Prop:=m.Perm (l.map (ptrN fb))
theorem NmP.keys {fb:List Nat} {l:NmL} {m:List (List UInt8×Option Nat)} (h:NmP fb l m) (hn: (l.map Prod.fst).Nodup): (m.map Prod.fst).Nodup:=by
 refine((h.map Prod.fst).nodup_iff).2 ?_
 rw[List.map_map]
 exact hn
theorem NmP.get {fb:List Nat} {l:NmL} {m:List (List UInt8×Option Nat)} (h:NmP fb l m) (hn: (l.map Prod.fst).Nodup) (s:List UInt8):getG s none m=(zB_ l s).map fun n=>fb.getD n 0:=by
 cases hf:zB_ l s with
 |none=>
  refine arb_ fun p hp e=> ?_
  obtain⟨q,hq,rfl⟩:=List.mem_map.1 (h.mem_iff.1 hp)
  exact WN_ hf q hq e
 |some n=>exact asc_ (h.keys hn) (h.mem_iff.2 (List.mem_map.2 ⟨_,zW_ hf,rfl⟩))
theorem aia_ (fb:List Nat) (l:NmL) (s:List UInt8): (l.map (ptrN fb)).filter (fun p=> !(s==p.1))=(qQ_ l s).map (ptrN fb):=by
 unfold qQ_
 rw[List.filter_map];rfl
theorem NmP.wipe {fb:List Nat} {l:NmL} {m:List (List UInt8×Option Nat)} (h:NmP fb l m) (hn: (l.map Prod.fst).Nodup) (s:List UInt8):NmP fb (qQ_ l s) (delG s m):=by
 unfold NmP
 rw[alz_ s (h.keys hn),←aia_]
 exact h.filter _
theorem NmP.put {fb:List Nat} {l:NmL} {m:List (List UInt8×Option Nat)} (h:NmP fb l m) (hn: (l.map Prod.fst).Nodup) (s:List UInt8) (n:Nat):NmP fb (Xw_ l (s,n)) (updG s (some (fb.getD n 0)) m):=by
 refine(acU_ s _ (h.keys hn)).trans ?_
 unfold Xw_
 refine List.Perm.trans ?_ ((jS_ (s,n) (qQ_ l s)).map (ptrN fb)).symm
 rw[List.map_cons,←aia_]
 exact(h.filter _).cons _
theorem NmP.mono {fb fb':List Nat} {l:NmL} {m:List (List UInt8×Option Nat)} (h:NmP fb l m) (hb: ∀p,p∈l→fb'.getD p.2 0=fb.getD p.2 0):NmP fb' l m:=by
 unfold NmP at h ⊢
 rw[show l.map (ptrN fb')=l.map (ptrN fb) from List.map_congr_left fun p hp=>by unfold ptrN;rw[hb p hp]]
 exact h
def zf_:List UInt8:= [108,111,111,115,101]
def Qc_:List UInt8:= [112,97,99,107]
def refD:List UInt8:= [114,101,102]
def Ky_ (k:Nat):List UInt8:=match k with|0=>zf_|1=>Qc_|_=>refD
def zN_ (s:List UInt8):Option Nat:=if s==zf_ then some 0 else if s==Qc_ then some 1 else if s==refD then some 2 else none
theorem zE_ {s:List UInt8} {k:Nat} (h:zN_ s=some k):k<3∧s=Ky_ k:=by
 unfold zN_ at h
 split at h
 ·rename_i e;cases h;exact⟨by omega,eq_of_beq e⟩
 ·split at h
  ·rename_i e;cases h;exact⟨by omega,eq_of_beq e⟩
  ·split at h
   ·rename_i e;cases h;exact⟨by omega,eq_of_beq e⟩
   ·cases h
theorem xV_ {k:Nat} (h:k<3):zN_ (Ky_ k)=some k:=by
 have:k=0∨k=1∨k=2:=by omega
 rcases this with rfl|rfl|rfl<;>rfl
def q8_ (l:NmL) (c:CallL):NmL:=match c.kind with
 |0=>Xw_ l (c.a,c.n)
 |1=>Xw_ (qQ_ l c.a) (c.b,(zB_ l c.a).getD 0)
 |_=>qQ_ l c.a
def qB_ (S:DiskL) (k:Nat) (d:DirL):DiskL:={S with dir:=fun j=>if j=k then d else S.dir j}
def qU_ (S:DiskL) (dir:List UInt8) (names:List (List UInt8)):Nat:=if zN_ dir=none∨names.all q7_=false then 1 else if S.off=true then 9 else 0
def zu_ (S:DiskL):DiskL×Nat:=if S.fused=true∧S.fuse=0 then({S with off:=true},9) else if S.fused=true then({S with fuse:=S.fuse - 1},0) else(S,0)
def qr_ (S:DiskL) (l:NmL):Nat:=(l.map fun p=>(S.files.getD p.2 jP_).data.length).sum
def qM_ (S:DiskL):Nat:=qr_ S (S.dir 0).seen+qr_ S (S.dir 1).seen+qr_ S (S.dir 2).seen
structure DkOk (S:DiskL):Prop where
 seen: ∀k,k<3→SrtN (S.dir k).seen
 stl: ∀k,k<3→SrtN (S.dir k).stl
 seenN: ∀k,k<3→ ∀p,p∈ (S.dir k).seen→p.2<S.files.length
 stlN: ∀k,k<3→ ∀p,p∈ (S.dir k).stl→p.2<S.files.length
 pendN: ∀k,k<3→ ∀c,c∈ (S.dir k).pend→c.kind=0→c.n<S.files.length
 file: ∀f,f∈S.files→f.data.length≤1048576∧f.stl≤f.data.length
 fuse: -9223372036854775808≤S.fuse∧S.fuse<9223372036854775808∧(S.fused=true→0≤S.fuse)
 max: -9223372036854775808≤S.max∧S.max<9223372036854775808
end Go.Proofs
end
section
open Go Go.Proofs Go.Sx Go.StP
namespace Go.Proofs
set_option maxRecDepth 10000
set_option maxHeartbeats 400000
set_option linter.unusedSimpArgs false
def vI_ (f:FileL):Obj:= .cells #[vs f.data,vi (f.stl:Int)] 126 (0,0)
def kl_ (a b:Nat) (v:Value):Obj:= .cells #[vm a,vm b,v] 130 (0,0)
def j2_ (bm:Nat) (S:DiskL):Obj:= .cells #[vm bm,vi S.max,vi S.fuse, .bool S.fused, .bool S.off] 123 (0,0)
def wj_ (s:List UInt8):Obj:= .cells #[vs s] 9 (0,0)
def ptrO (b:Nat):Obj:= .cells #[vp b 0] 124 (0,0)
structure DkG where
 bd:Nat
 bm:Nat
 d:Nat→Nat
 s:Nat→Nat
 t:Nat→Nat
 p:Nat→Value
 fb:List Nat
def aax_ (G:DkG):List (List UInt8×Option Nat):= [(zf_,some (G.d 0)),(Qc_,some (G.d 1)),(refD,some (G.d 2))]
def FnP (X:zb_) (fb:List Nat) (v:Value) (c:CallL):Prop:=match c.kind with
 |0=> ∃b1 b2,v= .func (.func 159) #[] #[vp b1 0,vp b2 0]∧Sx.look X b1=some (ptrO (fb.getD c.n 0))∧Sx.look X b2=some (wj_ c.a)
 |1=> ∃b1 b2,v= .func (.func 121) #[] #[vp b1 0,vp b2 0]∧Sx.look X b1=some (wj_ c.a)∧Sx.look X b2=some (wj_ c.b)
 |_=> ∃b1,v= .func (.func 161) #[] #[vp b1 0]∧Sx.look X b1=some (wj_ c.a)
def NmM (X:zb_) (fb:List Nat) (b:Nat) (l:NmL):Prop:= ∃o m,Sx.look X b=some o∧Zz_ vs jA_ o m∧NmP fb l m
structure DkP (X:zb_) (G:DkG) (S:DiskL):Prop where
 disk:Sx.look X G.bd=some (j2_ G.bm S)
 dirs: ∃o,Sx.look X G.bm=some o∧Zz_ vs jA_ o (aax_ G)
 dir: ∀k,k<3→Sx.look X (G.d k)=some (kl_ (G.s k) (G.t k) (G.p k))
 seen: ∀k,k<3→NmM X G.fb (G.s k) (S.dir k).seen
 stl: ∀k,k<3→NmM X G.fb (G.t k) (S.dir k).stl
 pend: ∀k,k<3→ ∃vals:List Value,vals.length=(S.dir k).pend.length∧Gr X 137 1 (G.p k) vals.length vals∧ ∀i,i<vals.length→FnP X G.fb (vals.getD i undef) ((S.dir k).pend.getD i wB_)
 file: ∀n,n<S.files.length→Sx.look X (G.fb.getD n 0)=some (vI_ (S.files.getD n jP_))
 len:G.fb.length=S.files.length
 nodf:G.fb.Nodup
 nodm: [G.s 0,G.s 1,G.s 2,G.t 0,G.t 1,G.t 2].Nodup
 nodd: [G.d 0,G.d 1,G.d 2].Nodup
 nodb: ∀k,k<3→G.bm≠G.s k∧G.bm≠G.t k
 nodp: ∀i j,i<3→j<3→i≠j→ ∀b,slB (G.p i)=some b→slB (G.p j)≠some b
 ok:DkOk S
def DkW (w:World) (G:DkG) (S:DiskL):Prop:= ∃X,(∀b o,Sx.look X b=some o→w.heap[b]? =some o)∧DkP X G S
theorem FnP.keep {X X':zb_} {fb:List Nat} {v:Value} {c:CallL} (h:FnP X fb v c) (hk: ∀b o,Sx.look X b=some o→((∃s,o=wj_ s)∨ ∃a,o=ptrO a)→Sx.look X' b=some o):FnP X' fb v c:=by
 unfold FnP at h ⊢
 split at h
 ·obtain⟨b1,b2,h1,h2,h3⟩:=h;exact⟨b1,b2,h1,hk _ _ h2 (.inr ⟨_,rfl⟩),hk _ _ h3 (.inl ⟨_,rfl⟩)⟩
 ·obtain⟨b1,b2,h1,h2,h3⟩:=h;exact⟨b1,b2,h1,hk _ _ h2 (.inl ⟨_,rfl⟩),hk _ _ h3 (.inl ⟨_,rfl⟩)⟩
 ·obtain⟨b1,h1,h2⟩:=h;exact⟨b1,h1,hk _ _ h2 (.inl ⟨_,rfl⟩)⟩
theorem NmM.keep {X X':zb_} {fb:List Nat} {b:Nat} {l:NmL} (h:NmM X fb b l) (hk: ∀o,Sx.look X b=some o→Sx.look X' b=some o):NmM X' fb b l:=by
 obtain⟨o,m,h1,h2,h3⟩:=h;exact⟨o,m,hk _ h1,h2,h3⟩
theorem Jq_ {L:zb_} {E:TypeId} {m n:Nat} {v:Value} {cs:List Value} (h:Gr L E m v n cs) {b:Nat} (hb:slB v=some b): ∃arr,Sx.look L b=some (.cells arr E (0,0)):=by
 rcases h with h| ⟨-,-,c,rfl,h⟩
 ·cases h with
  |nl=>cases hb
  |at_ hl=>cases hb;exact⟨_,hl⟩
 ·cases hb;exact⟨_,h⟩
def tyO:Obj→Option TypeId
 | .cells _ t _=>some t
 |_=>none
theorem q9_ {α β:Type} {encK:α→Value} {encV:β→Value} {o:Obj} {m:List (α×β)} (h:Zz_ encK encV o m):tyO o=none:=by
 obtain⟨es,c,rfl,-⟩:=h;rfl
theorem qn_ {X:zb_} {c b:Nat} {oc x o:Obj} (hc:Sx.look X c=some oc) (hb:Sx.look X b=some o) (ht:tyO o≠tyO oc):Sx.look (setB X c x) b=some o:=by
 rw[zm_ (by rintro rfl;rw[hc] at hb;cases hb;exact ht rfl)];exact hb
theorem DkP.mono {X X':zb_} {G:DkG} {S:DiskL} (h:DkP X G S) (hk: ∀b o,Sx.look X b=some o→Sx.look X' b=some o):DkP X' G S where
 disk:=hk _ _ h.disk
 dirs:=by obtain⟨o,h1,h2⟩:=h.dirs;exact⟨o,hk _ _ h1,h2⟩
 dir k hk':=hk _ _ (h.dir k hk')
 seen k hk':=(h.seen k hk').keep fun o=>hk _ o
 stl k hk':=(h.stl k hk').keep fun o=>hk _ o
 pend k hk':=by
  obtain⟨vals,h1,h2,h3⟩:=h.pend k hk'
  exact⟨vals,h1,h2.keep fun b o _=>hk b o,fun i hi=>(h3 i hi).keep fun b o ho _=>hk b o ho⟩
 file n hn:=hk _ _ (h.file n hn)
 len:=h.len
 nodf:=h.nodf
 nodm:=h.nodm
 nodd:=h.nodd
 nodb:=h.nodb
 nodp:=h.nodp
 ok:=h.ok
theorem DkP.setDisk {X:zb_} {G:DkG} {S:DiskL} (h:DkP X G S) (S':DiskL) (hd:S'.dir=S.dir) (hf:S'.files=S.files) (ok:DkOk S'):DkP (setB X G.bd (j2_ G.bm S')) G S' where
 disk:=qa_ h.disk
 dirs:=by obtain⟨o,h1,h2⟩:=h.dirs;exact⟨o,qn_ h.disk h1 (by rw[q9_ h2];intro e;cases e),h2⟩
 dir k hk':=qn_ h.disk (h.dir k hk') (by simp[tyO,kl_,j2_])
 seen k hk':=by
  rw[hd]
  obtain⟨o,m,h1,h2,h3⟩:=h.seen k hk'
  exact⟨o,m,qn_ h.disk h1 (by rw[q9_ h2];intro e;cases e),h2,h3⟩
 stl k hk':=by
  rw[hd]
  obtain⟨o,m,h1,h2,h3⟩:=h.stl k hk'
  exact⟨o,m,qn_ h.disk h1 (by rw[q9_ h2];intro e;cases e),h2,h3⟩
 pend k hk':=by
  rw[hd]
  obtain⟨vals,h1,h2,h3⟩:=h.pend k hk'
  refine⟨vals,h1,h2.keep fun b o hb ho=> ?_,fun i hi=>(h3 i hi).keep fun b o ho hx=>qn_ h.disk ho ?_⟩
  ·obtain⟨arr,ha⟩:=Jq_ h2 hb
   rw[ho] at ha;cases ha
   exact qn_ h.disk ho (by simp[tyO,j2_])
  ·rcases hx with⟨s,rfl⟩ | ⟨a,rfl⟩<;>simp[tyO,j2_,wj_,ptrO]
 file n hn:=by rw[hf] at hn ⊢;exact qn_ h.disk (h.file n hn) (by simp[tyO,j2_,vI_])
 len:=by rw[hf];exact h.len
 nodf:=h.nodf
 nodm:=h.nodm
 nodd:=h.nodd
 nodb:=h.nodb
 nodp:=h.nodp
 ok:=ok
theorem DkP.setFile {X:zb_} {G:DkG} {S:DiskL} (h:DkP X G S) {n:Nat} (hn:n<S.files.length) (f:FileL) (ok:DkOk {S with files:=S.files.set n f}):DkP (setB X (G.fb.getD n 0) (vI_ f)) G {S with files:=S.files.set n f} where
 disk:=qn_ (h.file n hn) h.disk (by simp[tyO,j2_,vI_])
 dirs:=by obtain⟨o,h1,h2⟩:=h.dirs;exact⟨o,qn_ (h.file n hn) h1 (by rw[q9_ h2];intro e;cases e),h2⟩
 dir k hk':=qn_ (h.file n hn) (h.dir k hk') (by simp[tyO,kl_,vI_])
 seen k hk':=by
  obtain⟨o,m,h1,h2,h3⟩:=h.seen k hk'
  exact⟨o,m,qn_ (h.file n hn) h1 (by rw[q9_ h2];intro e;cases e),h2,h3⟩
 stl k hk':=by
  obtain⟨o,m,h1,h2,h3⟩:=h.stl k hk'
  exact⟨o,m,qn_ (h.file n hn) h1 (by rw[q9_ h2];intro e;cases e),h2,h3⟩
 pend k hk':=by
  obtain⟨vals,h1,h2,h3⟩:=h.pend k hk'
  refine⟨vals,h1,h2.keep fun b o hb ho=> ?_,fun i hi=>(h3 i hi).keep fun b o ho hx=>qn_ (h.file n hn) ho ?_⟩
  ·obtain⟨arr,ha⟩:=Jq_ h2 hb
   rw[ho] at ha;cases ha
   exact qn_ (h.file n hn) ho (by simp[tyO,vI_])
  ·rcases hx with⟨s,rfl⟩ | ⟨a,rfl⟩<;>simp[tyO,vI_,wj_,ptrO]
 file i hi:=by
  simp only[List.length_set] at hi
  by_cases e:i=n
  ·subst e
   rw[qa_ (h.file i hn),List.getD_eq_getElem?_getD,List.getElem?_set_self hn];rfl
  ·have hl:=h.len
   have hne:G.fb.getD i 0≠G.fb.getD n 0:=by
    intro e2
    rw[List.getD_eq_getElem?_getD,List.getD_eq_getElem?_getD,List.getElem?_eq_getElem (by omega),List.getElem?_eq_getElem (by omega)] at e2
    simp only[Option.getD_some] at e2
    rcases Nat.lt_or_gt_of_ne e with hlt|hlt
    ·exact(List.pairwise_iff_getElem.1 h.nodf) i n (by omega) (by omega) hlt e2
    ·exact(List.pairwise_iff_getElem.1 h.nodf) n i (by omega) (by omega) hlt e2.symm
   rw[zm_ (Ne.symm hne),h.file i hi,List.getD_eq_getElem?_getD,List.getD_eq_getElem?_getD,List.getElem?_set_ne (Ne.symm e)]
 len:=by rw[List.length_set];exact h.len
 nodf:=h.nodf
 nodm:=h.nodm
 nodd:=h.nodd
 nodb:=h.nodb
 nodp:=h.nodp
 ok:=ok
theorem DkP.world {X:zb_} {G:DkG} {S:DiskL} {w0 w:World} (h:DkP X G S) (hw:Hp w0 X w):DkW w G S:=⟨X,fun _ _ hb=>hw.has _ _ (zy_ hb),h⟩
theorem DkW.old {w w':World} {L:zb_} {G:DkG} {S:DiskL} (h:DkW w G S) (hw:Hp w L w') (hn:New w.heap.size L):DkW w' G S:=by
 obtain⟨X,h1,h2⟩:=h
 refine⟨X,fun b o hb=> ?_,h2⟩
 have hlt:=(Array.getElem?_eq_some_iff.1 (h1 b o hb)).1
 rw[hw.old b hlt (hn.not hlt)];exact h1 b o hb
end Go.Proofs
end
section
open Go Go.Proofs Go.Sx Go.StP
namespace Go.Proofs
set_option maxRecDepth 10000
set_option maxHeartbeats 400000
set_option linter.unusedSimpArgs false
theorem qZ_ (bm:Nat) (S:DiskL) (n:Nat):zt_ (some (false,n)) (some (j2_ bm S)) 0=some (vm bm):=(rfl)
theorem vd_ (bm:Nat) (S:DiskL) (n:Nat):zt_ (some (false,n)) (some (j2_ bm S)) 1=some (vi S.max):=(rfl)
theorem acc_ (bm:Nat) (S:DiskL) (n:Nat):zt_ (some (false,n)) (some (j2_ bm S)) 2=some (vi S.fuse):=(rfl)
theorem adw_ (bm:Nat) (S:DiskL) (n:Nat):zt_ (some (false,n)) (some (j2_ bm S)) 3=some (.bool S.fused):=(rfl)
theorem adq_ (bm:Nat) (S:DiskL) (n:Nat):zt_ (some (false,n)) (some (j2_ bm S)) 4=some (.bool S.off):=(rfl)
theorem aiL_ (bm:Nat) (S:DiskL) (x:Int) (a:Bool):zv_ (some (a,1)) (some (j2_ bm S)) 1 (vi x)=some (j2_ bm {S with max:=x}):=zO_ [vm bm] [vi S.max] [vi x] [vi S.fuse, .bool S.fused, .bool S.off] a _ 123 rfl rfl rfl rfl rfl
theorem aiV_ (bm:Nat) (S:DiskL) (x:Int) (a:Bool):zv_ (some (a,1)) (some (j2_ bm S)) 2 (vi x)=some (j2_ bm {S with fuse:=x}):=zO_ [vm bm,vi S.max] [vi S.fuse] [vi x] [.bool S.fused, .bool S.off] a _ 123 rfl rfl rfl rfl rfl
theorem WJ_ (bm:Nat) (S:DiskL) (x:Bool) (a:Bool):zv_ (some (a,1)) (some (j2_ bm S)) 3 (.bool x)=some (j2_ bm {S with fused:=x}):=zO_ [vm bm,vi S.max,vi S.fuse] [.bool S.fused] [.bool x] [.bool S.off] a _ 123 rfl rfl rfl rfl rfl
theorem WW_ (bm:Nat) (S:DiskL) (x:Bool) (a:Bool):zv_ (some (a,1)) (some (j2_ bm S)) 4 (.bool x)=some (j2_ bm {S with off:=x}):=zO_ [vm bm,vi S.max,vi S.fuse, .bool S.fused] [.bool S.off] [.bool x] [] a _ 123 rfl rfl rfl rfl rfl
theorem jD_ (a b:Nat) (v:Value) (n:Nat):zt_ (some (false,n)) (some (kl_ a b v)) 0=some (vm a):=(rfl)
theorem jx_ (a b:Nat) (v:Value) (n:Nat):zt_ (some (false,n)) (some (kl_ a b v)) 1=some (vm b):=(rfl)
theorem jy_ (a b:Nat) (v:Value) (n:Nat):zt_ (some (false,n)) (some (kl_ a b v)) 2=some v:=(rfl)
theorem vu_ (f:FileL) (n:Nat):zt_ (some (false,n)) (some (vI_ f)) 0=some (vs f.data):=(rfl)
theorem vC_ (f:FileL) (n:Nat):zt_ (some (false,n)) (some (vI_ f)) 1=some (vi (f.stl:Int)):=(rfl)
theorem JQ_ (f:FileL) (x:List UInt8) (a:Bool):zv_ (some (a,1)) (some (vI_ f)) 0 (vs x)=some (vI_ {f with data:=x}):=zO_ [] [vs f.data] [vs x] [vi (f.stl:Int)] a _ 126 rfl rfl rfl rfl rfl
theorem JH_ (f:FileL) (x:Nat) (a:Bool):zv_ (some (a,1)) (some (vI_ f)) 1 (vi (x:Int))=some (vI_ {f with stl:=x}):=zO_ [vs f.data] [vi (f.stl:Int)] [vi (x:Int)] [] a _ 126 rfl rfl rfl rfl rfl
theorem app_ (b o:Nat):qI_ Tryz.prog .eql 27 (vp b o) (.pointer none)=some (.bool false):=by
 simp[qI_,eqX,qz_,qq_,Tryz.underlying27,vp]
theorem apP_ (b o:Nat):qI_ Tryz.prog .neq 27 (vp b o) (.pointer none)=some (.bool true):=by
 simp[qI_,eqX,qz_,qq_,Tryz.underlying27,vp]
theorem aiX_ (b o:Nat):qI_ Tryz.prog .eql 120 (vp b o) (.pointer none)=some (.bool false):=by
 simp[qI_,eqX,qz_,qq_,Tryz.underlying120,vp]
theorem WI_:qI_ Tryz.prog .eql 120 (.pointer none) (.pointer none)=some (.bool true):=by
 simp[qI_,eqX,qz_,qq_,Tryz.underlying120]
theorem anj_ (b o:Nat):qI_ Tryz.prog .eql 124 (vp b o) (.pointer none)=some (.bool false):=by
 simp[qI_,eqX,qz_,qq_,Tryz.underlying124,vp]
theorem ad2_:qI_ Tryz.prog .eql 124 (.pointer none) (.pointer none)=some (.bool true):=by
 simp[qI_,eqX,qz_,qq_,Tryz.underlying124]
theorem zrPd:zM_ Tryz.prog 120=some (jA_ none):=id (by kernel_rfl)
theorem zrPf:zM_ Tryz.prog 124=some (jA_ none):=id (by kernel_rfl)
theorem x0_:KeyOk Tryz.prog 9 vs:=KeyOk.str Tryz.underlying9
theorem aaD_ (G:DkG) (s:List UInt8):getG s none (aax_ G)=(zN_ s).map G.d:=by
 unfold getG aax_ zN_
 rw[List.find?_cons,List.find?_cons,List.find?_cons,List.find?_nil]
 cases h1:s==zf_
 ·cases h2:s==Qc_
  ·cases h3:s==refD<;>rfl
  ·rfl
 ·rfl
set_option linter.defProp false
def aaT_:=And.intro (And.intro (And.intro (@zp_) (And.intro (@zo_) (@qZ_))) (And.intro (@vd_) (And.intro (@acc_) (@adw_)))) (And.intro (And.intro (@adq_) (And.intro (@aiL_) (@aiV_))) (And.intro (And.intro (@WJ_) (@WW_)) (And.intro (@app_) (@apP_))))
theorem vl_ (b bm:Nat) (S:DiskL) (w:World) (hf: -9223372036854775808≤S.fuse∧S.fuse<9223372036854775808∧(S.fused=true→0≤S.fuse)) (ho:w.heap[b]? =some (j2_ bm S)):
  Rets Tryz.prog 81 #[vp b 0] w (fun v D=> ∃o,D= [(b,o)]∧v=vi (zu_ S).2∧o=j2_ bm (zu_ S).1):=by
 refine Rets.enterM Tryz.func81 rfl (rs:= [.tmp 2]) Tryz.results81 Tryz.ntmps81 ho ?_
 refine kf ?_
 unfold zu_
 cases hfd:S.fused with
 |false=>
  rw[if_neg (by simp),if_neg (by simp)]
  first|with_reducible refine ks [] (And.intro @aaT_ @hfd) ?_|refine kp (And.intro @aaT_ @hfd) ?_
  refine⟨_,_,_,(ke @aaT_),rfl,trivial, ?_⟩
  exact⟨rfl,rfl⟩
 |true=>
  by_cases h0:S.fuse=0
  ·have e0: (S.fuse==0)=true:=beq_iff_eq.2 h0
   rw[if_pos ⟨rfl,h0⟩]
   first|with_reducible refine ks [] (And.intro @aaT_ (And.intro @hfd (@e0))) ?_|refine kp (And.intro @aaT_ (And.intro @hfd (@e0))) ?_
   refine⟨_,_,_,(ke @aaT_),rfl,trivial, ?_⟩
   exact⟨rfl,rfl⟩
  ·have e0: (S.fuse==0)=false:=beq_eq_false_iff_ne.2 h0
   have h1:=hf.2.2 hfd
   rw[if_neg (fun h=>h0 h.2),if_pos rfl]
   first|with_reducible refine ks [] (And.intro @aaT_ (And.intro @hfd (@e0))) ?_|refine kp (And.intro @aaT_ (And.intro @hfd (@e0))) ?_
   refine⟨_,_,_,(ke @aaT_),rfl,trivial, ?_⟩
   exact⟨rfl,rfl⟩
def asN_ (G:DkG) (S:DiskL) (dir:List UInt8) (names:List (List UInt8)) (v:Value):Prop:=
 (qU_ S dir names≠0∧v= .tuple #[.pointer none,vi (qU_ S dir names:Nat)])∨(qU_ S dir names=0∧ ∃k,zN_ dir=some k∧v= .tuple #[vp (G.d k) 0,vi 0])
set_option linter.defProp false
def vL_:=And.intro (And.intro (And.intro (@zp_) (@zo_)) (And.intro (@qZ_) (And.intro (@vd_) (@acc_)))) (And.intro (And.intro (@adw_) (And.intro (@adq_) (@app_))) (And.intro (@apP_) (And.intro (@aiX_) (@WI_))))
theorem xd_ (w:World) (G:DkG) (S:DiskL) (dir:List UInt8) (v:Value) (names:List (List UInt8)) (hD:DkW w G S) (hv:al0_ w v names) (hl:names.length<1000000) (hs: ∀s,s∈names→s.length<1099511627776):
  Rets Tryz.prog 80 #[vp G.bd 0,vs dir,v] w (fun v D=>asN_ G S dir names v∧D= []):=by
 obtain⟨X,hX,hP⟩:=hD
 have hd:=hX _ _ hP.disk
 obtain⟨om,hom,hM⟩:=hP.dirs
 have hb:=hX _ _ hom
 refine Rets.enterV Tryz.func80 rfl (rs:= [.tmp 6, .tmp 7]) Tryz.results80 Tryz.ntmps80 ?_
 refine kf ?_
 first|with_reducible refine ks [] (And.intro @vL_ @hd) ?_|refine kp (And.intro @vL_ @hd) ?_
 refine Ow.mapGetG (encK:=vs) (encV:=jA_) (k:=dir) (z:=none) rfl rfl Tryz.underlying121 x0_ zrPd rfl rfl hb hM ?_
 rw[aaD_]
 unfold asN_ qU_
 cases hw:zN_ dir with
 |none=>
  rw[if_pos (.inl rfl)]
  have hp0:jA_ none= .pointer none:=rfl
  refine ko (And.intro @vL_ @hp0) ?_
  first|with_reducible refine ks [] @vL_ ?_|refine kp @vL_ ?_
  refine⟨_,(ke @vL_),trivial, ?_⟩
  exact .inl ⟨by decide,rfl⟩
 |some k=>
  have hp: ∀q:Nat,jA_ (some q)=vp q 0:=fun _=>rfl
  refine ko (And.intro @vL_ @hp) ?_
  refine Ow.callFV rfl Tryz.call125 (fun w' hw'=>VV_ v names w' (hv.oldN hw' trivial) hl hs) ?_
  cases hal:names.all q7_ with
  |false=>
   rw[if_pos (.inr rfl)]
   refine ko @vL_ ?_
   first|with_reducible refine ks [] @vL_ ?_|refine kp @vL_ ?_
   refine⟨_,(ke @vL_),trivial, ?_⟩
   exact .inl ⟨by decide,rfl⟩
  |true=>
   rw[if_neg (by simp)]
   cases hof:S.off with
   |true=>
    rw[if_pos rfl]
    refine ko @vL_ ?_
    first|with_reducible refine ks [] (And.intro @vL_ (And.intro @hd (@hof))) ?_|refine kp (And.intro @vL_ (And.intro @hd (@hof))) ?_
    refine⟨_,(ke @vL_),trivial, ?_⟩
    exact .inl ⟨by decide,rfl⟩
   |false=>
    rw[if_neg (by simp)]
    refine ko @vL_ ?_
    first|with_reducible refine ks [] (And.intro @vL_ (And.intro @hd (@hof))) ?_|refine kp (And.intro @vL_ (And.intro @hd (@hof))) ?_
    refine⟨_,(ke @vL_),trivial, ?_⟩
    exact .inr ⟨rfl,k,rfl,rfl⟩
end Go.Proofs
end
section
open Go Go.Proofs Go.Sx Go.StP
namespace Go.Proofs
set_option maxRecDepth 10000
set_option maxHeartbeats 400000
set_option linter.unusedSimpArgs false
theorem ad3_ {w:World} {b:Nat} {s:List UInt8} {E:TypeId} (h:w.heap[b]? =some (.cells #[vs s] E (0,0))):al0_ w (vsl b 0 1 1) [s]:=
 SlV.sl (l:= [s]) h (fun k hk j hj=>by
  obtain rfl:k=0:=by simpa using hk
  obtain rfl:j=0:=by omega
  rfl) (Nat.le_refl _) (by simp)
theorem atg_ {w:World} {b:Nat} {s u:List UInt8} {E:TypeId} (h:w.heap[b]? =some (.cells #[vs s,vs u] E (0,0))):al0_ w (vsl b 0 2 2) [s,u]:=
 SlV.sl (l:= [s,u]) h (fun k hk j hj=>by
  obtain rfl:j=0:=by omega
  have:k=0∨k=1:=by simp at hk;omega
  rcases this with rfl|rfl<;>rfl) (Nat.le_refl _) (by simp)
theorem aiT_ {S:DiskL} {dir:List UInt8} {names:List (List UInt8)} (h:qU_ S dir names=0):zN_ dir≠none∧names.all q7_=true∧S.off=false:=by
 unfold qU_ at h
 split at h
 ·cases h
 ·split at h
  ·cases h
  ·rename_i h1 h2
   refine⟨fun e=>h1 (.inl e), ?_,by simpa using h2⟩
   cases e:names.all q7_ with
   |true=>rfl
   |false=>exact absurd (.inr e) h1
def j8_ (S:DiskL) (dir name:List UInt8):List UInt8×Nat:=
 if qU_ S dir [name]≠0 then([],qU_ S dir [name]) else match(zN_ dir).bind fun k=>zB_ (S.dir k).seen name with
  |none=>([],6)
  |some n=>((S.files.getD n jP_).data,0)
theorem jQ_ {n:Nat} (h:n≠0): ((n:Int) !=0)=true:=bne_iff_ne.2 (by omega)
set_option linter.defProp false
def wn_:=And.intro (And.intro (And.intro (And.intro (@zp_) (@zo_)) (And.intro (@qZ_) (@jD_))) (And.intro (And.intro (@jx_) (@jy_)) (And.intro (@vu_) (And.intro (@vC_) (@aiX_))))) (And.intro (And.intro (And.intro (@WI_) (@anj_)) (And.intro (@ad2_) (@Sx.tup2_0))) (And.intro (And.intro (@Sx.tup2_1) (@WD_)) (And.intro (@Sx.tup3_0) (And.intro (@Sx.tup3_1) (@Sx.tup3_2)))))
theorem Wi_ (w:World) (G:DkG) (S:DiskL) (dir name:List UInt8) (hD:DkW w G S) (hn:name.length<1099511627776):
  Rets Tryz.prog 23 #[vp G.bd 0,vs dir,vs name] w (fun v D=>v= .tuple #[vs (j8_ S dir name).1,vi ((j8_ S dir name).2:Nat)]∧D= []):=by
 have hD':=hD
 obtain⟨X,hX,hP⟩:=hD
 refine Rets.enterV Tryz.func23 rfl (rs:= [.tmp 6, .tmp 7]) Tryz.results23 Tryz.ntmps23 ?_
 refine kf ?_
 first|with_reducible refine ks [] @wn_ ?_|refine kp @wn_ ?_
 refine Ow.buildSlice (e:=9) #[vs name] rfl rfl (by kernel_rfl) fun b1 hb1 hw1=> ?_
 refine ko @wn_ ?_
 have hN1:New w.heap.size [(b1,Obj.cells #[vs name] 9 (0,0))]:=⟨hw1,trivial⟩
 refine Ow.callC rfl rfl Tryz.call80 (fun w' hw'=>Rets.toX (xd_ w' G S dir (vsl b1 0 1 1) [name] (hD'.old hw' hN1) (ad3_ (hw'.has _ _ List.mem_cons_self)) (by simp) (by simpa using hn))) (fun B2 v2 D2 hA2 hB2 hN2 hS2=> ?_)
 obtain⟨rfl,hS2⟩:=hS2
 rw[List.append_nil]
 unfold j8_
 rcases hS2 with⟨he,rfl⟩ | ⟨he,k,hk,rfl⟩
 ·rw[if_pos he]
  have e1:=jQ_ he
  refine ko @wn_ ?_
  first|with_reducible refine ks [] (And.intro @wn_ @e1) ?_|refine kp (And.intro @wn_ @e1) ?_
  refine⟨_,(ke @wn_),hN1, ?_⟩
  rfl
 ·rw[if_neg (by rw[he];simp),hk]
  have hk3:=(zE_ hk).1
  have hdr:=hX _ _ (hP.dir k hk3)
  obtain⟨os,ms,hos,hms,hnp⟩:=hP.seen k hk3
  have hso:=hX _ _ hos
  have hl1:=(Array.getElem?_eq_some_iff.1 hdr).1
  have hl2:=(Array.getElem?_eq_some_iff.1 hso).1
  have hr1:zz_ w [(b1,Obj.cells #[vs name] 9 (0,0))] (G.d k)=some (kl_ (G.s k) (G.t k) (G.p k)):=by rw[qN_ (hN1.not hl1)];exact hdr
  have hr2:zz_ w [(b1,Obj.cells #[vs name] 9 (0,0))] (G.s k)=some os:=by rw[qN_ (hN1.not hl2)];exact hso
  have e1: ((0:Int) !=0)=false:=rfl
  refine ko @wn_ ?_
  first|with_reducible refine ks [] (And.intro @wn_ (And.intro @e1 (And.intro @hdr (@hr1)))) ?_|refine kp (And.intro @wn_ (And.intro @e1 (And.intro @hdr (@hr1)))) ?_
  refine Ow.mapGetG (encK:=vs) (encV:=jA_) (k:=name) (z:=none) rfl rfl Tryz.underlying127 x0_ zrPf rfl rfl hr2 hms ?_
  rw[hnp.get (hP.ok.seen k hk3).nodup]
  show Ow _ _ _ _ _ _ _ _
  cases hf:zB_ (S.dir k).seen name with
  |none=>
   have hf': (some k).bind (fun k=>zB_ (S.dir k).seen name)=none:=hf
   rw[hf']
   have hp0:jA_ none= .pointer none:=rfl
   refine ko (And.intro @wn_ @hp0) ?_
   first|with_reducible refine ks [] @wn_ ?_|refine kp @wn_ ?_
   refine⟨_,(ke @wn_),hN1, ?_⟩
   rfl
  |some n=>
   have hf': (some k).bind (fun k=>zB_ (S.dir k).seen name)=some n:=hf
   rw[hf']
   have hnl:=hP.ok.seenN k hk3 _ (zW_ hf)
   have hfl:=hX _ _ (hP.file n hnl)
   have hl3:=(Array.getElem?_eq_some_iff.1 hfl).1
   have hr3:zz_ w [(b1,Obj.cells #[vs name] 9 (0,0))] (G.fb.getD n 0)=some (vI_ (S.files.getD n jP_)):=by rw[qN_ (hN1.not hl3)];exact hfl
   have hp: ∀q:Nat,jA_ (some q)=vp q 0:=fun _=>rfl
   refine ko (And.intro @wn_ @hp) ?_
   first|with_reducible refine ks [] (And.intro @wn_ (And.intro @hfl (@hr3))) ?_|refine kp (And.intro @wn_ (And.intro @hfl (@hr3))) ?_
   refine⟨_,(ke @wn_),hN1, ?_⟩
   rfl
end Go.Proofs
end
section
open Go Go.Proofs Go.Sx Go.StP
namespace Go.Proofs
set_option maxRecDepth 10000
set_option maxHeartbeats 400000
set_option linter.unusedSimpArgs false
def uDir (S:DiskL) (p:List UInt8×Option Nat):Nat:=match zN_ p.1 with|some k=>qr_ S (S.dir k).seen|none=>0
def Jv_ (S:DiskL) (l:NmL) (p:List UInt8×Option Nat):Nat:=match zB_ l p.1 with|some n=>(S.files.getD n jP_).data.length|none=>0
theorem ao2_ (S:DiskL) (G:DkG): ((aax_ G).map (uDir S)).sum=qM_ S:=by
 unfold aax_ qM_
 simp only[List.map_cons,List.map_nil,List.sum_cons,List.sum_nil]
 show qr_ S (S.dir 0).seen+ (qr_ S (S.dir 1).seen+ (qr_ S (S.dir 2).seen+0))=_
 omega
theorem amV_ (S:DiskL) {fb:List Nat} {l:NmL} {m:List (List UInt8×Option Nat)} (h:NmP fb l m) (hn: (l.map Prod.fst).Nodup): (m.map (Jv_ S l)).sum=qr_ S l:=by
 rw[(h.map (Jv_ S l)).sum_nat,List.map_map]
 unfold qr_
 congr 1
 refine List.map_congr_left fun p hp=> ?_
 show Jv_ S l (ptrN fb p)=_
 unfold Jv_ ptrN
 rw[Ja_ hn hp]
theorem ahi_ {α:Type} (f:α→Nat) {a b m:List α} (h: (a++b).Perm m): (a.map f).sum≤ (m.map f).sum:=by
 rw[← (h.map f).sum_nat,List.map_append,List.sum_append]
 omega
theorem w8_ {α β:Type} {encK:α→Value} {encV:β→Value} {o:Obj} {bm:Nat} {om:Obj} {m dn lf:List (α×β)} (h:ItG encK encV o bm om m dn lf): (dn++lf).Perm m:=by
 obtain⟨es,clock,ds,-,-,-,-,-,-,hp⟩:=h;exact hp
theorem akV_ {G:DkG} {p:List UInt8×Option Nat} (h:p∈aax_ G): ∃k,k<3∧p=(Ky_ k,some (G.d k)):=by
 unfold aax_ at h
 simp only[List.mem_cons,List.not_mem_nil,or_false] at h
 rcases h with rfl|rfl|rfl
 ·exact⟨0,by omega,rfl⟩
 ·exact⟨1,by omega,rfl⟩
 ·exact⟨2,by omega,rfl⟩
structure UsG where
 dn:List (List UInt8×Option Nat)
 lf:List (List UInt8×Option Nat)
 it:Obj
 DG:zb_
set_option linter.defProp false
def xl_:=And.intro (And.intro (And.intro (And.intro (@zp_) (@zo_)) (And.intro (@qZ_) (@jD_))) (And.intro (And.intro (@jx_) (@jy_)) (And.intro (@vu_) (And.intro (@vC_) (@app_))))) (And.intro (And.intro (And.intro (@aiX_) (@WI_)) (And.intro (@anj_) (And.intro (@ad2_) (@Sx.tup2_0)))) (And.intro (And.intro (@Sx.tup2_1) (@WD_)) (And.intro (@Sx.tup3_0) (And.intro (@Sx.tup3_1) (@Sx.tup3_2)))))
theorem W9_ (w:World) (G:DkG) (S:DiskL) (hD:DkW w G S) (hb:qM_ S<4611686018427387904):Rets Tryz.prog 24 #[vp G.bd 0] w (fun v D=>v=vi (qM_ S:Nat)∧D= []):=by
 obtain⟨X,hX,hP⟩:=hD
 have hd:=hX _ _ hP.disk
 obtain⟨om,hom,hM⟩:=hP.dirs
 have hbm:=hX _ _ hom
 have hlm:=(Array.getElem?_eq_some_iff.1 hbm).1
 have hU:=ao2_ S G
 have old: ∀b o,w.heap[b]? =some o→ ∀Y,New w.heap.size Y→zz_ w Y b=some o:=fun b o hb Y hY=>by
  rw[qN_ (hY.not (Array.getElem?_eq_some_iff.1 hb).1)];exact hb
 refine Rets.enterV Tryz.func24 rfl (rs:= [.tmp 2]) Tryz.results24 Tryz.ntmps24 ?_
 refine kf ?_
 first|with_reducible refine ks [] (And.intro @xl_ @hd) ?_|refine kp (And.intro @xl_ @hd) ?_
 refine Ow.rangeMapG (encK:=vs) (encV:=jA_) rfl rfl Tryz.underlying121 rfl hbm hM fun bi oi hbi hwi hI=> ?_
 rw[List.nil_append]
 refine ko @xl_ ?_
 first|with_reducible refine ks [] @xl_ ?_|refine kp @xl_ ?_
 refine Cw.loopG (G:=UsG) [15,16,17,18,5,19,20,21,22,23,24,25,26,27,7,28,29,30,31,32,33,34,3] (fun g=> [(3,vi ((g.dn.map (uDir S)).sum:Nat))]) (fun g=>(bi,g.it)::g.DG) (fun g=>ItG vs jA_ g.it G.bm om (aax_ G) g.dn g.lf∧New w.heap.size g.DG) (fun g=>g.lf.length) ⟨[],aax_ G,oi,[]⟩ rfl rfl ?_ ?_
 ·exact⟨hI,trivial⟩
 intro g j hg
 refine kv ?_
 clear hI
 obtain⟨dn,lf,it,DG⟩:=g
 simp only at hg ⊢
 obtain⟨hI,hN⟩:=hg
 have hNi: ∀x,New w.heap.size ((bi,x)::DG):=fun x=>⟨hwi,hN⟩
 first|with_reducible refine ks [] @xl_ ?_|refine kp @xl_ ?_
 refine Ow.nextMapG rfl rfl rfl (z3_ _ _ _) (old _ _ hbm _ (hNi it)) hI (fun hlf=> ?_) (fun p it' lf' hl' hI'=> ?_)
 ·subst hlf
  have hp:=w8_ hI
  rw[List.append_nil] at hp
  rw[(hp.map (uDir S)).sum_nat,hU]
  refine ko @xl_ ?_
  first|with_reducible refine ks [] @xl_ ?_|refine kp @xl_ ?_
  refine⟨_,(ke @xl_),hNi it, ?_⟩
  rfl
 ·refine kn ?_
  refine ko @xl_ ?_
  first|with_reducible refine ks [] @xl_ ?_|refine kp @xl_ ?_
  refine Ow.entryMapG (encK:=vs) (encV:=jA_) rfl rfl rfl (xr_ _ _ _ _) (old _ _ hbm _ (hNi it')) hI' ?_
  have hp:=w8_ hI'
  obtain⟨k,hk3,rfl⟩:=akV_ (hp.mem_iff.1 (List.mem_append_left _ (List.mem_append_right _ List.mem_cons_self)))
  have hle:=ahi_ (uDir S) hp
  rw[hU,List.map_append,List.sum_append] at hle
  have huk: ([(Ky_ k,some (G.d k))].map (uDir S)).sum=qr_ S (S.dir k).seen:=by
   show uDir S (Ky_ k,some (G.d k))+0=_
   unfold uDir
   simp only[xV_ hk3,Nat.add_zero]
  rw[huk] at hle
  have hac: ((dn++ [(Ky_ k,some (G.d k))]).map (uDir S)).sum=(dn.map (uDir S)).sum+qr_ S (S.dir k).seen:=by rw[List.map_append,List.sum_append,huk]
  generalize (dn.map (uDir S)).sum=A at*
  have hdr:=hX _ _ (hP.dir k hk3)
  obtain⟨os,ms,hos,hms,hnp⟩:=hP.seen k hk3
  have hso:=hX _ _ hos
  have hs:=amV_ S hnp (hP.ok.seen k hk3).nodup
  have hdr1:=old _ _ hdr _ (hNi it')
  have hdr2:=old _ _ hdr _ hN
  have hp': ∀q:Nat,jA_ (some q)=vp q 0:=fun _=>rfl
  refine ko (And.intro @xl_ (And.intro @hp' (And.intro @hdr1 (@hdr2)))) ?_
  refine Ow.rangeMapG (encK:=vs) (encV:=jA_) rfl rfl Tryz.underlying127 rfl (old _ _ hso _ (hNi it')) hms fun bj oj hbj hwj hJ=> ?_
  refine Ow.permL (M:=(bj,oj):: (bi,it')::DG) (by classical exact List.perm_iff_count.2 fun a=>by simp only[List.count_append,List.count_cons,List.count_nil]<;>omega) ?_
  refine ko @xl_ ?_
  first|with_reducible refine ks [] @xl_ ?_|refine kp @xl_ ?_
  refine Cw.loopG (G:=UsG) [24,25,26,27,7,28,29,30,31,32,33,34,3] (fun p=> [(3,vi ((A+ (p.dn.map (Jv_ S (S.dir k).seen)).sum:Nat):Int))]) (fun p=>(bj,p.it):: (bi,it')::DG) (fun p=>ItG vs jA_ p.it (G.s k) os ms p.dn p.lf) (fun p=>p.lf.length) ⟨[],ms,oj,[]⟩ rfl rfl ?_ ?_
  ·exact hJ
  intro p jp hp
  refine kv ?_
  clear hJ
  obtain⟨dn2,lf2,jt,DX⟩:=p
  simp only at hp ⊢
  first|with_reducible refine ks [] @xl_ ?_|refine kp @xl_ ?_
  refine Ow.nextMapG rfl rfl rfl (z3_ _ _ _) (old _ _ hso _ ⟨hwj,hNi it'⟩) hp (fun hlf=> ?_) (fun p jt' lf2' hl2' hJ'=> ?_)
  ·subst hlf
   have hq:=w8_ hp
   rw[List.append_nil] at hq
   rw[(hq.map (Jv_ S (S.dir k).seen)).sum_nat,hs]
   refine Ow.permL (M:=(bi,it'):: (bj,jt)::DG) (by classical exact List.perm_iff_count.2 fun a=>by simp only[List.count_append,List.count_cons,List.count_nil]<;>omega) ?_
   refine ko @xl_ ?_
   first|with_reducible refine ks [] @xl_ ?_|refine kp @xl_ ?_
   exact Again.mk ⟨dn++ [(Ky_ k,some (G.d k))],lf',it',(bj,jt)::DG⟩ (by show lf'.length<lf.length;omega) ⟨hI',hwj,hN⟩ rfl (by simp only[hac];rfl)
  ·refine kn ?_
   refine ko @xl_ ?_
   first|with_reducible refine ks [] @xl_ ?_|refine kp @xl_ ?_
   have hq:=w8_ hJ'
   have hle2:=ahi_ (Jv_ S (S.dir k).seen) hq
   rw[hs] at hle2
   have hpm:p∈ (S.dir k).seen.map (ptrN G.fb):=hnp.mem_iff.1 (hq.mem_iff.1 (List.mem_append_left _ (List.mem_append_right _ List.mem_cons_self)))
   obtain⟨⟨s,n⟩,hsn,rfl⟩:=List.mem_map.1 hpm
   have huf: ([ptrN G.fb (s,n)].map (Jv_ S (S.dir k).seen)).sum=(S.files.getD n jP_).data.length:=by
    show Jv_ S (S.dir k).seen (s,some (G.fb.getD n 0))+0=_
    unfold Jv_
    simp only[Ja_ (hP.ok.seen k hk3).nodup hsn,Nat.add_zero]
   rw[List.map_append,List.sum_append,huf] at hle2
   have hac2: ((dn2++ [ptrN G.fb (s,n)]).map (Jv_ S (S.dir k).seen)).sum=(dn2.map (Jv_ S (S.dir k).seen)).sum+ (S.files.getD n jP_).data.length:=by rw[List.map_append,List.sum_append,huf]
   have hfl:=hX _ _ (hP.file n (hP.ok.seenN k hk3 _ hsn))
   have hf1:=old _ _ hfl _ (show New w.heap.size ((bj,jt'):: (bi,it')::DG) from⟨hwj,hNi it'⟩)
   have hf2:=old _ _ hfl _ (hNi it')
   have hf3:=old _ _ hfl _ hN
   generalize (dn2.map (Jv_ S (S.dir k).seen)).sum=B at*
   refine Ow.entryMapG (encK:=vs) (encV:=jA_) rfl rfl rfl (xr_ _ _ _ _) (old _ _ hso _ ⟨hwj,hNi it'⟩) hJ' ?_
   unfold ptrN at hJ' hac2 ⊢
   simp only at hJ' hac2 ⊢
   generalize G.fb.getD n 0=fbn at*
   generalize S.files.getD n jP_=fl at*
   refine ko (And.intro @xl_ (And.intro @hp' (And.intro @hf1 (And.intro @hf2 (@hf3))))) ?_
   first|with_reducible refine ks [] @xl_ ?_|refine kp @xl_ ?_
   exact Again.mk ⟨dn2++ [(s,some fbn)],lf2',jt',DX⟩ (by show lf2'.length<lf2.length;omega) hJ' rfl (by simp only[hac2,←Nat.add_assoc,Int.natCast_add];rfl)
end Go.Proofs
end
section
open Go Go.Proofs Go.Sx Go.StP
namespace Go.Proofs
set_option maxRecDepth 10000
set_option maxHeartbeats 400000
set_option linter.unusedSimpArgs false
def atD (S:DiskL) (dir name:List UInt8):Option Nat:=(zN_ dir).bind fun k=>zB_ (S.dir k).seen name
def zq_ (S:DiskL) (n:Nat):FileL:=S.files.getD n jP_
def xq_ (S:DiskL) (n:Nat) (f:FileL):DiskL:={S with files:=S.files.set n f}
def q0_ (S:DiskL) (dir name:List UInt8):DiskL×Nat:=
 if qU_ S dir [name]≠0 then(S,qU_ S dir [name]) else match atD S dir name with
  |none=>(S,6)
  |some n=>if(zu_ S).2≠0 then zu_ S else(xq_ (zu_ S).1 n ⟨(zq_ S n).data,(zq_ S n).data.length⟩,0)
theorem qv_ (S:DiskL): (zu_ S).1.dir=S.dir∧(zu_ S).1.files=S.files∧(zu_ S).1.max=S.max:=by
 unfold zu_
 split
 ·exact⟨rfl,rfl,rfl⟩
 ·split
  ·exact⟨rfl,rfl,rfl⟩
  ·exact⟨rfl,rfl,rfl⟩
theorem xJ_ {S:DiskL} (h:DkOk S):DkOk (zu_ S).1:=by
 obtain⟨h1,h2,h3⟩:=qv_ S
 refine⟨by rw[h1];exact h.seen,by rw[h1];exact h.stl,by rw[h1,h2];exact h.seenN,by rw[h1,h2];exact h.stlN,by rw[h1,h2];exact h.pendN,by rw[h2];exact h.file, ?_,by rw[h3];exact h.max⟩
 have hf:=h.fuse
 unfold zu_
 split
 ·exact hf
 ·split
  ·rename_i h4 h5
   have:=hf.2.2 h5
   have h6:S.fuse≠0:=fun e=>h4 ⟨h5,e⟩
   exact⟨by show _≤S.fuse - 1;omega,by show S.fuse - 1<_;omega,fun _=>by show 0≤S.fuse - 1;omega⟩
  ·exact hf
theorem Zn_ {S:DiskL} (h:DkOk S) {n:Nat} {f:FileL} (hf:f.data.length≤1048576∧f.stl≤f.data.length):DkOk (xq_ S n f):=by
 refine⟨h.seen,h.stl,fun k hk p hp=>by show p.2< (S.files.set n f).length;rw[List.length_set];exact h.seenN k hk p hp,fun k hk p hp=>by show p.2< (S.files.set n f).length;rw[List.length_set];exact h.stlN k hk p hp,fun k hk c hc h0=>by show c.n< (S.files.set n f).length;rw[List.length_set];exact h.pendN k hk c hc h0,fun g hg=> ?_,h.fuse,h.max⟩
 rcases List.mem_or_eq_of_mem_set hg with hg|rfl
 ·exact h.file g hg
 ·exact hf
theorem JG_ {S:DiskL} (h:DkOk S) {n:Nat} (hn:n<S.files.length): (zq_ S n).data.length≤1048576∧(zq_ S n).stl≤ (zq_ S n).data.length:=by
 unfold zq_
 rw[List.getD_eq_getElem?_getD,List.getElem?_eq_getElem hn]
 exact h.file _ (List.getElem_mem hn)
set_option linter.defProp false
def x6_:=And.intro (And.intro (And.intro (And.intro (@zp_) (@zo_)) (And.intro (@qZ_) (@vd_))) (And.intro (And.intro (@jD_) (@jx_)) (And.intro (@jy_) (@vu_)))) (And.intro (And.intro (And.intro (@vC_) (@JQ_)) (And.intro (@JH_) (@aiX_))) (And.intro (And.intro (@WI_) (@anj_)) (And.intro (@ad2_) (And.intro (@Sx.tup2_0) (@Sx.tup2_1)))))
theorem Wo_ (X:zb_) (G:DkG) (S:DiskL) (dir name:List UInt8) (w:World) (hX: ∀p,p∈X→w.heap[p.1]? =some p.2) (hn: (keys X).Nodup) (hP:DkP X G S) (hnm:name.length<1099511627776):
  Rets Tryz.prog 20 #[vp G.bd 0,vs dir,vs name] w (XS w X (fun v D=>v=vi ((q0_ S dir name).2:Nat)∧DkP D G (q0_ S dir name).1)):=by
 refine Rets.enterX Tryz.func20 rfl (rs:= [.tmp 6]) Tryz.results20 Tryz.ntmps20 hX hn ?_
 refine kf ?_
 first|with_reducible refine ks [] @x6_ ?_|refine kp @x6_ ?_
 refine Ow.buildSlice (e:=9) #[vs name] rfl rfl (by kernel_rfl) fun b1 hb1 hw1=> ?_
 have hP1:=hP.mono (X':=X++ [(b1,Obj.cells #[vs name] 9 (0,0))]) fun b o h=>zk_ h
 have hE1:=(Ext.refl w X).app (o:=Obj.cells #[vs name] 9 (0,0)) hw1
 have hm1: (b1,Obj.cells #[vs name] 9 (0,0))∈X++ [(b1,Obj.cells #[vs name] 9 (0,0))]:=by simp
 generalize X++ [(b1,Obj.cells #[vs name] 9 (0,0))]=L1 at*
 refine ko @x6_ ?_
 refine Ow.callC rfl rfl Tryz.call80 (fun w' hw'=>Rets.toX (xd_ w' G S dir (vsl b1 0 1 1) [name] (hP1.world hw') (ad3_ (hw'.has _ _ hm1)) (by simp) (by simpa using hnm))) (fun B2 v2 D2 hA2 hB2 hN2 hS2=> ?_)
 obtain⟨rfl,hS2⟩:=hS2
 rw[List.append_nil]
 clear hm1 hA2 hN2
 unfold q0_ atD
 rcases hS2 with⟨he,rfl⟩ | ⟨he,k,hk,rfl⟩
 ·rw[if_pos he]
  have e1:=jQ_ he
  refine ko @x6_ ?_
  first|with_reducible refine ks [] (And.intro @x6_ @e1) ?_|refine kp (And.intro @x6_ @e1) ?_
  refine⟨_,(ke @x6_), ?_⟩
  exact⟨hE1,rfl,hP1⟩
 ·rw[if_neg (by rw[he];simp),hk]
  have hk3:=(zE_ hk).1
  have hdr:=ze_ (w0:=w) (hP1.dir k hk3)
  obtain⟨os,ms,hos,hms,hnp⟩:=hP1.seen k hk3
  have hso:=ze_ (w0:=w) hos
  have e1: ((0:Int) !=0)=false:=rfl
  refine ko @x6_ ?_
  first|with_reducible refine ks [] (And.intro @x6_ (And.intro @e1 (@hdr))) ?_|refine kp (And.intro @x6_ (And.intro @e1 (@hdr))) ?_
  refine Ow.mapGetG (encK:=vs) (encV:=jA_) (k:=name) (z:=none) rfl rfl Tryz.underlying127 x0_ zrPf rfl rfl hso hms ?_
  rw[hnp.get (hP.ok.seen k hk3).nodup]
  show Ow _ _ _ _ _ _ _ _
  cases hf:zB_ (S.dir k).seen name with
  |none=>
   have hf': (some k).bind (fun k=>zB_ (S.dir k).seen name)=none:=hf
   rw[hf']
   have hp0:jA_ none= .pointer none:=rfl
   refine ko (And.intro @x6_ @hp0) ?_
   first|with_reducible refine ks [] @x6_ ?_|refine kp @x6_ ?_
   refine⟨_,(ke @x6_), ?_⟩
   exact⟨hE1,rfl,hP1⟩
  |some n=>
   have hf': (some k).bind (fun k=>zB_ (S.dir k).seen name)=some n:=hf
   rw[hf']
   have hnl:=hP.ok.seenN k hk3 _ (zW_ hf)
   have hp: ∀q:Nat,jA_ (some q)=vp q 0:=fun _=>rfl
   have hbk:G.bd∈keys L1:=zh_ hP1.disk
   refine ko (And.intro @x6_ @hp) ?_
   first|with_reducible refine ks [] @x6_ ?_|refine kp @x6_ ?_
   refine Ow.callM rfl rfl Tryz.call81 hbk (fun w' hw'=>vl_ G.bd G.bm S w' hP.ok.fuse (hw'.has _ _ (zy_ hP1.disk))) ?_
   obtain⟨hb1,hb2,hb3⟩:=qv_ S
   have hP2:=hP1.setDisk (zu_ S).1 hb1 hb2 (xJ_ hP.ok)
   have hE2:=hE1.setB (b:=G.bd) (o:=j2_ G.bm (zu_ S).1)
   generalize setB L1 G.bd (j2_ G.bm (zu_ S).1)=L2 at*
   by_cases hbn: (zu_ S).2=0
   ·have hlk:=hP2.file n (by rw[hb2];exact hnl)
    have hrd:=ze_ (w0:=w) hlk
    have e2: (((zu_ S).2:Int) !=0)=false:=by rw[hbn];rfl
    rw[if_neg (by rw[hbn];simp)]
    have hfo:=JG_ hP.ok hnl
    have hP3:=hP2.setFile (n:=n) (by rw[hb2];exact hnl) ⟨(zq_ S n).data,(zq_ S n).data.length⟩ (Zn_ (xJ_ hP.ok) ⟨hfo.1,Nat.le_refl _⟩)
    have hfe: (zu_ S).1.files.getD n jP_=zq_ S n:=by rw[hb2];rfl
    rw[hfe] at hlk hrd
    refine ko (And.intro @x6_ @e2) ?_
    first|with_reducible refine ks [] (And.intro @x6_ (And.intro @hrd (@hlk))) ?_|refine kp (And.intro @x6_ (And.intro @hrd (@hlk))) ?_
    refine⟨_,(ke @x6_), ?_⟩
    exact⟨hE2.setB,rfl,hP3⟩
   ·have e2:=jQ_ hbn
    rw[if_pos hbn]
    refine ko (And.intro @x6_ @e2) ?_
    first|with_reducible refine ks [] @x6_ ?_|refine kp @x6_ ?_
    refine⟨_,(ke @x6_), ?_⟩
    exact⟨hE2,rfl,hP2⟩
end Go.Proofs
end
section
open Go Go.Proofs Go.Sx Go.StP
namespace Go.Proofs
set_option maxRecDepth 10000
set_option maxHeartbeats 400000
set_option linter.unusedSimpArgs false
def Z2_ (S:DiskL) (n:Nat) (s:List UInt8):Bool:=decide ((1048576:Int) - ((zq_ S n).data.length:Int)< (s.length:Int)) ||decide (S.max< (qM_ S:Int)) ||decide (S.max - (qM_ S:Int)< (s.length:Int))
def qy_ (S:DiskL) (dir name s:List UInt8):DiskL×Nat:=
 if qU_ S dir [name]≠0 then(S,qU_ S dir [name]) else match atD S dir name with
  |none=>(S,6)
  |some n=>if Z2_ S n s=true then(S,8) else if(zu_ S).2≠0 then zu_ S else(xq_ (zu_ S).1 n ⟨(zq_ S n).data++s,(zq_ S n).stl⟩,0)
set_option linter.defProp false
def qR_:=And.intro (And.intro (And.intro (And.intro (@zp_) (@zo_)) (And.intro (@qZ_) (@vd_))) (And.intro (And.intro (@jD_) (@jx_)) (And.intro (@jy_) (@vu_)))) (And.intro (And.intro (And.intro (@vC_) (@JQ_)) (And.intro (@JH_) (@aiX_))) (And.intro (And.intro (@WI_) (@anj_)) (And.intro (@ad2_) (And.intro (@Sx.tup2_0) (@Sx.tup2_1)))))
theorem acE_ (X:zb_) (G:DkG) (S:DiskL) (dir name s:List UInt8) (w:World) (hX: ∀p,p∈X→w.heap[p.1]? =some p.2) (hn: (keys X).Nodup) (hP:DkP X G S) (hnm:name.length<1099511627776) (hsl:s.length<1099511627776) (hu:qM_ S<4611686018427387904):
  Rets Tryz.prog 73 #[vp G.bd 0,vs dir,vs name,vs s] w (XS w X (fun v D=>v=vi ((qy_ S dir name s).2:Nat)∧DkP D G (qy_ S dir name s).1)):=by
 refine Rets.enterX Tryz.func73 rfl (rs:= [.tmp 8]) Tryz.results73 Tryz.ntmps73 hX hn ?_
 refine kf ?_
 first|with_reducible refine ks [] @qR_ ?_|refine kp @qR_ ?_
 refine Ow.buildSlice (e:=9) #[vs name] rfl rfl (by kernel_rfl) fun b1 hb1 hw1=> ?_
 have hP1:=hP.mono (X':=X++ [(b1,Obj.cells #[vs name] 9 (0,0))]) fun b o h=>zk_ h
 have hE1:=(Ext.refl w X).app (o:=Obj.cells #[vs name] 9 (0,0)) hw1
 have hm1: (b1,Obj.cells #[vs name] 9 (0,0))∈X++ [(b1,Obj.cells #[vs name] 9 (0,0))]:=by simp
 generalize X++ [(b1,Obj.cells #[vs name] 9 (0,0))]=L1 at*
 refine ko @qR_ ?_
 refine Ow.callC rfl rfl Tryz.call80 (fun w' hw'=>Rets.toX (xd_ w' G S dir (vsl b1 0 1 1) [name] (hP1.world hw') (ad3_ (hw'.has _ _ hm1)) (by simp) (by simpa using hnm))) (fun B2 v2 D2 hA2 hB2 hN2 hS2=> ?_)
 obtain⟨rfl,hS2⟩:=hS2
 rw[List.append_nil]
 clear hm1 hA2 hN2
 unfold qy_ atD
 rcases hS2 with⟨he,rfl⟩ | ⟨he,k,hk,rfl⟩
 ·rw[if_pos he]
  have e1:=jQ_ he
  refine ko @qR_ ?_
  first|with_reducible refine ks [] (And.intro @qR_ @e1) ?_|refine kp (And.intro @qR_ @e1) ?_
  refine⟨_,(ke @qR_), ?_⟩
  exact⟨hE1,rfl,hP1⟩
 ·rw[if_neg (by rw[he];simp),hk]
  have hk3:=(zE_ hk).1
  have hdr:=ze_ (w0:=w) (hP1.dir k hk3)
  obtain⟨os,ms,hos,hms,hnp⟩:=hP1.seen k hk3
  have hso:=ze_ (w0:=w) hos
  have e1: ((0:Int) !=0)=false:=rfl
  refine ko @qR_ ?_
  first|with_reducible refine ks [] (And.intro @qR_ (And.intro @e1 (@hdr))) ?_|refine kp (And.intro @qR_ (And.intro @e1 (@hdr))) ?_
  refine Ow.mapGetG (encK:=vs) (encV:=jA_) (k:=name) (z:=none) rfl rfl Tryz.underlying127 x0_ zrPf rfl rfl hso hms ?_
  rw[hnp.get (hP.ok.seen k hk3).nodup]
  show Ow _ _ _ _ _ _ _ _
  cases hf:zB_ (S.dir k).seen name with
  |none=>
   have hf': (some k).bind (fun k=>zB_ (S.dir k).seen name)=none:=hf
   rw[hf']
   have hp0:jA_ none= .pointer none:=rfl
   refine ko (And.intro @qR_ @hp0) ?_
   first|with_reducible refine ks [] @qR_ ?_|refine kp @qR_ ?_
   refine⟨_,(ke @qR_), ?_⟩
   exact⟨hE1,rfl,hP1⟩
  |some n=>
   have hf': (some k).bind (fun k=>zB_ (S.dir k).seen name)=some n:=hf
   rw[hf']
   have hnl:n<S.files.length:=hP.ok.seenN k hk3 _ (zW_ hf)
   have hfo:=JG_ hP.ok hnl
   have hp: ∀q:Nat,jA_ (some q)=vp q 0:=fun _=>rfl
   have hbk:G.bd∈keys L1:=zh_ hP1.disk
   have hrf:=ze_ (w0:=w) (hP1.file n hnl)
   have hrb:=ze_ (w0:=w) hP1.disk
   have hrf':zz_ w L1 (G.fb.getD n 0)=some (vI_ (zq_ S n)):=hrf
   have hmx:=hP.ok.max
   refine ko (And.intro @qR_ @hp) ?_
   first|with_reducible refine ks [] @qR_ ?_|refine kp @qR_ ?_
   refine Cw.regionS [G.fb.getD n 0,G.bd] [0,1,2,3,4,5,6,7,8,9,10,12,13,14,15,11,16,17,18,19,20,21,22,23,25,24,26,27,28,29,30] [] (by kernel_rfl) (by kernel_rfl) (by kernel_rfl) ?_
   simp only[zl_, ↓zg_, ↓zc_, ↓zx_, ↓zw_,zd_]
   cases h1:decide ((1048576:Int) - ((zq_ S n).data.length:Int)< (s.length:Int)) with
   |true=>
    refine kq (And.intro @qR_ (And.intro @hrf' (And.intro @hrb (@h1)))) ?_
    have hF:Z2_ S n s=true:=by unfold Z2_;rw[h1];simp
    rw[if_pos hF]
    try with_reducible refine Ow.nil ?_
    first|with_reducible refine ks [] @qR_ ?_|refine kp @qR_ ?_
    refine⟨_,(ke @qR_), ?_⟩
    exact⟨hE1,rfl,hP1⟩
   |false=>
    refine kq (And.intro @qR_ (And.intro @hrf' (And.intro @hrb (@h1)))) ?_
    refine Ow.soft rfl rfl rfl ?_
    refine Ow.callFV rfl Tryz.call24 (fun w' hw'=>W9_ w' G S (hP1.world hw') hu) ?_
    with_reducible refine Ow.nil ?_
    refine⟨by intro b hb;simp only[List.mem_cons,List.not_mem_nil,or_false] at hb;(try subst hb);rfl, ?_⟩
    cases h2:decide (S.max< (qM_ S:Int)) with
    |true=>
     refine kq (And.intro @qR_ (And.intro @hrb (@h2))) ?_
     have hF:Z2_ S n s=true:=by unfold Z2_;rw[h2];simp
     rw[if_pos hF]
     try with_reducible refine Ow.nil ?_
     first|with_reducible refine ks [] @qR_ ?_|refine kp @qR_ ?_
     refine⟨_,(ke @qR_), ?_⟩
     exact⟨hE1,rfl,hP1⟩
    |false=>
     have h2':=of_decide_eq_false h2
     refine kq (And.intro @qR_ (And.intro @hrb (@h2))) ?_
     refine Ow.soft rfl rfl rfl ?_
     refine Ow.callFV rfl Tryz.call24 (fun w' hw'=>W9_ w' G S (hP1.world hw') hu) ?_
     with_reducible refine Ow.nil ?_
     refine⟨by intro b hb;simp only[List.mem_cons,List.not_mem_nil,or_false] at hb;(try subst hb);rfl, ?_⟩
     cases h3:decide (S.max - (qM_ S:Int)< (s.length:Int)) with
     |true=>
      refine kq (And.intro @qR_ (And.intro @hrb (@h3))) ?_
      have hF:Z2_ S n s=true:=by unfold Z2_;rw[h3];simp
      rw[if_pos hF]
      try with_reducible refine Ow.nil ?_
      first|with_reducible refine ks [] @qR_ ?_|refine kp @qR_ ?_
      refine⟨_,(ke @qR_), ?_⟩
      exact⟨hE1,rfl,hP1⟩
     |false=>
      have hF:Z2_ S n s=false:=by unfold Z2_;rw[h1,h2,h3];rfl
      rw[if_neg (by rw[hF];simp)]
      have h1':=of_decide_eq_false h1
      refine kq (And.intro @qR_ (And.intro @hrb (@h3))) ?_
      try with_reducible refine Ow.nil ?_
      first|with_reducible refine ks [] @qR_ ?_|refine kp @qR_ ?_
      refine Ow.callM rfl rfl Tryz.call81 hbk (fun w' hw'=>vl_ G.bd G.bm S w' hP.ok.fuse (hw'.has _ _ (zy_ hP1.disk))) ?_
      obtain⟨hb1,hb2,hb3⟩:=qv_ S
      have hP2:=hP1.setDisk (zu_ S).1 hb1 hb2 (xJ_ hP.ok)
      have hE2:=hE1.setB (b:=G.bd) (o:=j2_ G.bm (zu_ S).1)
      generalize setB L1 G.bd (j2_ G.bm (zu_ S).1)=L2 at*
      by_cases hbn: (zu_ S).2=0
      ·have hlk:=hP2.file n (by rw[hb2];exact hnl)
       have hrd:=ze_ (w0:=w) hlk
       have e2: (((zu_ S).2:Int) !=0)=false:=by rw[hbn];rfl
       rw[if_neg (by rw[hbn];simp)]
       have hP3:=hP2.setFile (n:=n) (by rw[hb2];exact hnl) ⟨(zq_ S n).data++s,(zq_ S n).stl⟩ (Zn_ (xJ_ hP.ok) ⟨by simp only[List.length_append];omega,by simp only[List.length_append];omega⟩)
       have hfe: (zu_ S).1.files.getD n jP_=zq_ S n:=by rw[hb2];rfl
       rw[hfe] at hlk hrd
       refine ko (And.intro @qR_ @e2) ?_
       first|with_reducible refine ks [] (And.intro @qR_ (And.intro @hrd (@hlk))) ?_|refine kp (And.intro @qR_ (And.intro @hrd (@hlk))) ?_
       refine⟨_,(ke @qR_), ?_⟩
       exact⟨hE2.setB,rfl,hP3⟩
      ·have e2:=jQ_ hbn
       rw[if_pos hbn]
       refine ko (And.intro @qR_ @e2) ?_
       first|with_reducible refine ks [] @qR_ ?_|refine kp @qR_ ?_
       refine⟨_,(ke @qR_), ?_⟩
       exact⟨hE2,rfl,hP2⟩
end Go.Proofs
end
section
open Go Go.Proofs Go.Sx Go.StP
namespace Go.Proofs
set_option maxRecDepth 10000
set_option maxHeartbeats 400000
set_option linter.unusedSimpArgs false
structure Only (X D:zb_) (bs:Nat) (o:Obj):Prop where
 keys:Sx.keys D=Sx.keys X
 at_:Sx.look D bs=some o
 rest: ∀b,b≠bs→Sx.look D b=Sx.look X b
theorem Only.set {X:zb_} {bs:Nat} {o o':Obj} (h:Sx.look X bs=some o):Only X (setB X bs o') bs o':=⟨xu_ _ _ _,qa_ h,fun _ hb=>zm_ (Ne.symm hb)⟩
theorem Only.trans {X D D':zb_} {bs:Nat} {o o':Obj} (h:Only X D bs o) (h':Only D D' bs o'):Only X D' bs o':=⟨h'.keys.trans h.keys,h'.at_,fun b hb=>(h'.rest b hb).trans (h.rest b hb)⟩
theorem acI_ (s:List UInt8) (n:Nat):zt_ (some (false,n)) (some (wj_ s)) 0=some (vs s):=(rfl)
theorem anq_ (b:Nat) (n:Nat):zt_ (some (false,n)) (some (ptrO b)) 0=some (vp b 0):=(rfl)
set_option linter.defProp false
def ZD_:=And.intro (And.intro (@zp_) (@zo_)) (And.intro (@acI_) (@anq_))
theorem aaJ_ (X:zb_) (b1 b2 bs fbn:Nat) (a:List UInt8) (o:Obj) (m:List (List UInt8×Option Nat)) (w:World) (hX: ∀p,p∈X→w.heap[p.1]? =some p.2) (hn: (keys X).Nodup)
  (h1:Sx.look X b1=some (ptrO fbn)) (h2:Sx.look X b2=some (wj_ a)) (hs:Sx.look X bs=some o) (hm:Zz_ vs jA_ o m):
  Rets Tryz.prog 159 #[vm bs,vp b1 0,vp b2 0] w (XS w X (fun v D=>v=xW_ []∧ ∃o',Only X D bs o'∧Zz_ vs jA_ o' (updG a (some fbn) m))):=by
 have r1:=ze_ (w0:=w) h1
 have r2:=ze_ (w0:=w) h2
 refine Rets.enterX Tryz.func159 rfl (rs:= []) Tryz.results159 Tryz.ntmps159 hX hn ?_
 refine kf ?_
 first|with_reducible refine ks [] (And.intro @ZD_ (And.intro @r1 (@r2))) ?_|refine kp (And.intro @ZD_ (And.intro @r1 (@r2))) ?_
 refine Ow.mapUpdateG (encK:=vs) (encV:=jA_) (k:=a) (v:=some fbn) rfl rfl Tryz.underlying127 x0_ rfl rfl rfl hs hm (fun o' hm'=> ?_)
 refine ko @ZD_ ?_
 refine⟨_,(ke @ZD_), ?_⟩
 exact⟨(Ext.refl w X).setB,rfl,o',Only.set hs,hm'⟩
theorem aaf_ (X:zb_) (b1 bs:Nat) (a:List UInt8) (o:Obj) (m:List (List UInt8×Option Nat)) (w:World) (hX: ∀p,p∈X→w.heap[p.1]? =some p.2) (hn: (keys X).Nodup)
  (h1:Sx.look X b1=some (wj_ a)) (hs:Sx.look X bs=some o) (hm:Zz_ vs jA_ o m):
  Rets Tryz.prog 161 #[vm bs,vp b1 0] w (XS w X (fun v D=>v=xW_ []∧ ∃o',Only X D bs o'∧Zz_ vs jA_ o' (delG a m))):=by
 have r1:=ze_ (w0:=w) h1
 refine Rets.enterX Tryz.func161 rfl (rs:= []) Tryz.results161 Tryz.ntmps161 hX hn ?_
 refine kf ?_
 first|with_reducible refine ks [] (And.intro @ZD_ @r1) ?_|refine kp (And.intro @ZD_ @r1) ?_
 refine Ow.mapDeleteG (encK:=vs) (encV:=jA_) (k:=a) rfl rfl Tryz.underlying127 x0_ rfl rfl hs hm (fun o' hm'=> ?_)
 refine ko @ZD_ ?_
 refine⟨_,(ke @ZD_), ?_⟩
 exact⟨(Ext.refl w X).setB,rfl,o',Only.set hs,hm'⟩
theorem ad0_ (X:zb_) (b1 b2 bs:Nat) (a b:List UInt8) (o:Obj) (m:List (List UInt8×Option Nat)) (w:World) (hX: ∀p,p∈X→w.heap[p.1]? =some p.2) (hn: (keys X).Nodup)
  (h1:Sx.look X b1=some (wj_ a)) (h2:Sx.look X b2=some (wj_ b)) (hs:Sx.look X bs=some o) (hm:Zz_ vs jA_ o m):
  Rets Tryz.prog 121 #[vm bs,vp b1 0,vp b2 0] w (XS w X (fun v D=>v=xW_ []∧ ∃o',Only X D bs o'∧Zz_ vs jA_ o' (delG a (updG b (getG a none m) m)))):=by
 have r1:=ze_ (w0:=w) h1
 have r2:=ze_ (w0:=w) h2
 refine Rets.enterX Tryz.func121 rfl (rs:= []) Tryz.results121 Tryz.ntmps121 hX hn ?_
 refine kf ?_
 first|with_reducible refine ks [] (And.intro @ZD_ (And.intro @r1 (@r2))) ?_|refine kp (And.intro @ZD_ (And.intro @r1 (@r2))) ?_
 refine Ow.mapGetG (encK:=vs) (encV:=jA_) (k:=a) (z:=none) rfl rfl Tryz.underlying127 x0_ zrPf rfl rfl (ze_ hs) hm ?_
 refine ko @ZD_ ?_
 refine Ow.mapUpdateG (encK:=vs) (encV:=jA_) (k:=b) (v:=getG a none m) rfl rfl Tryz.underlying127 x0_ rfl rfl rfl hs hm (fun o1 hm1=> ?_)
 have ho1:Only X (setB X bs o1) bs o1:=Only.set hs
 have hne:b1≠bs:=by
  rintro rfl
  rw[hs] at h1;cases h1
  obtain⟨es,c,h,-⟩:=hm;cases h
 have r3:=ze_ (w0:=w) ((ho1.rest b1 hne).trans h1)
 have hE:=(Ext.refl w X).setB (b:=bs) (o:=o1)
 generalize setB X bs o1=L1 at*
 refine ko @ZD_ ?_
 first|with_reducible refine ks [] (And.intro @ZD_ @r3) ?_|refine kp (And.intro @ZD_ @r3) ?_
 refine Ow.mapDeleteG (encK:=vs) (encV:=jA_) (k:=a) rfl rfl Tryz.underlying127 x0_ rfl rfl ho1.at_ hm1 (fun o' hm'=> ?_)
 refine ko @ZD_ ?_
 refine⟨_,(ke @ZD_), ?_⟩
 exact⟨hE.setB,rfl,o',ho1.trans (Only.set ho1.at_),hm'⟩
end Go.Proofs
end
section
open Go Go.Proofs Go.Sx Go.StP
namespace Go.Proofs
set_option maxRecDepth 10000
set_option maxHeartbeats 400000
set_option linter.unusedSimpArgs false
def okC (l:NmL) (c:CallL):Prop:=c.kind=1→zB_ l c.a≠none∧c.a≠c.b
theorem NmP.ren {fb:List Nat} {l:NmL} {m:List (List UInt8×Option Nat)} (h:NmP fb l m) (hs:SrtN l) {a b:List UInt8} {n:Nat} (hab:a≠b):NmP fb (Xw_ (qQ_ l a) (b,n)) (delG a (updG b (some (fb.getD n 0)) m)):=by
 have h1:=h.put hs.nodup b n
 have h2:=h1.wipe (Xv_ (b,n) hs).nodup a
 refine h2.trans (List.Perm.map _ ?_)
 unfold Xw_
 refine(List.Perm.filter _ (jS_ (b,n) (qQ_ l b))).trans ?_
 refine List.Perm.trans ?_ (jS_ (b,n) (qQ_ (qQ_ l a) b)).symm
 have e: (a==b)=false:=beq_eq_false_iff_ne.2 hab
 rw[List.filter_cons]
 simp only[e,Bool.not_false, ↓reduceIte]
 unfold qQ_
 rw[List.filter_filter,List.filter_filter]
 refine List.Perm.cons _ (List.Perm.of_eq (List.filter_congr fun p _=>Bool.and_comm _ _))
theorem aa5_ {l:NmL} (c:CallL) (h:SrtN l):SrtN (q8_ l c):=by
 unfold q8_
 split
 ·exact Xv_ _ h
 ·exact Xv_ _ (Q5_ _ h)
 ·exact Q5_ _ h
theorem XR_ {X:zb_} {fb:List Nat} {v:Value} {c:CallL} {bs:Nat} {l:NmL} (hv:FnP X fb v c) (hN:NmM X fb bs l) (hs:SrtN l) (hok:okC l c):
  ∃k cap,v= .func (.func k) #[] cap∧(∀a w,(callFunc k a).run Tryz.prog w= .ok (.enter k a) w)∧ ∀w,(∀p,p∈X→w.heap[p.1]? =some p.2)→(keys X).Nodup→Rets Tryz.prog k (#[vm bs]++cap) w (XS w X (fun r D=>r=xW_ []∧ ∃o',Only X D bs o'∧NmM D fb bs (q8_ l c))):=by
 obtain⟨o,m,ho,hm,hp⟩:=hN
 unfold FnP at hv
 split at hv
 ·rename_i hk
  obtain⟨b1,b2,rfl,h1,h2⟩:=hv
  refine⟨_,_,rfl,Tryz.call159,fun w hX hn=>Rets.mono (aaJ_ X b1 b2 bs _ c.a o m w hX hn h1 h2 ho hm) ?_⟩
  rintro r D ⟨hE,hr,o',hO,hm'⟩
  refine⟨hE,hr,o',hO,o',_,hO.at_,hm', ?_⟩
  unfold q8_
  rw[hk]
  exact hp.put hs.nodup c.a c.n
 ·rename_i hk
  obtain⟨b1,b2,rfl,h1,h2⟩:=hv
  obtain⟨hf,hab⟩:=hok hk
  refine⟨_,_,rfl,Tryz.call121,fun w hX hn=>Rets.mono (ad0_ X b1 b2 bs c.a c.b o m w hX hn h1 h2 ho hm) ?_⟩
  rintro r D ⟨hE,hr,o',hO,hm'⟩
  refine⟨hE,hr,o',hO,o',_,hO.at_,hm', ?_⟩
  unfold q8_
  rw[hk,hp.get hs.nodup]
  cases e:zB_ l c.a with
  |none=>exact absurd e hf
  |some n=>exact hp.ren hs hab
 ·rename_i h0 h1'
  obtain⟨b1,rfl,h1⟩:=hv
  refine⟨_,_,rfl,Tryz.call161,fun w hX hn=>Rets.mono (aaf_ X b1 bs c.a o m w hX hn h1 ho hm) ?_⟩
  rintro r D ⟨hE,hr,o',hO,hm'⟩
  refine⟨hE,hr,o',hO,o',_,hO.at_,hm', ?_⟩
  have e:q8_ l c=qQ_ l c.a:=by
   unfold q8_
   split
   ·rename_i e;exact absurd e h0
   ·rename_i e;exact absurd e h1'
   ·rfl
  rw[e]
  exact hp.wipe hs.nodup c.a
end Go.Proofs
end
section
open Go Go.Proofs Go.Sx Go.StP
namespace Go.Proofs
set_option maxRecDepth 10000
set_option maxHeartbeats 400000
set_option linter.unusedSimpArgs false
theorem JO_ {α:Type} {a b:List α} (z:α) (k:Nat) (h:k<a.length): (a++b).getD k z=a.getD k z:=by
 rw[List.getD_eq_getElem?_getD,List.getElem?_append_left h,←List.getD_eq_getElem?_getD]
theorem Jp_ {α:Type} {a:List α} (z x:α) {k:Nat} (h:a.length=k): (a++ [x]).getD k z=x:=by
 subst h
 rw[List.getD_eq_getElem?_getD,List.getElem?_append_right (Nat.le_refl _),Nat.sub_self];rfl
def setP (G:DkG) (k:Nat) (v:Value):DkG:={G with p:=fun j=>if j=k then v else G.p j}
theorem aaS_ {l:NmL} {c:CallL} {n:Nat} (hl: ∀p,p∈l→p.2<n) (hok:okC l c) (hc:c.kind=0→c.n<n): ∀p,p∈q8_ l c→p.2<n:=by
 intro p hp
 have ZY_: ∀ {l:NmL} {x:List UInt8×Nat},(∀p,p∈l→p.2<n)→x.2<n→p∈Xw_ l x→p.2<n:=by
  intro l x h1 h2 h3
  rcases List.mem_cons.1 ((jS_ x (qQ_ l x.1)).mem_iff.1 h3) with rfl|h3
  ·exact h2
  ·exact h1 _ ((List.mem_filter.1 h3).1)
 unfold q8_ at hp
 split at hp
 ·rename_i hk;exact ZY_ hl (hc hk) hp
 ·rename_i hk
  refine ZY_ (fun q hq=>hl q ((List.mem_filter.1 hq).1)) ?_ hp
  cases e:zB_ l c.a with
  |none=>exact absurd e (hok hk).1
  |some m=>
   have:=hl _ (zW_ e)
   exact this
 ·exact hl _ ((List.mem_filter.1 hp).1)
theorem wO_ {S:DiskL} (h:DkOk S) {k:Nat} (d:DirL) (h1:SrtN d.seen) (h2:SrtN d.stl) (h3: ∀p,p∈d.seen→p.2<S.files.length) (h4: ∀p,p∈d.stl→p.2<S.files.length) (h5: ∀c,c∈d.pend→c.kind=0→c.n<S.files.length):DkOk (qB_ S k d):=by
 refine⟨fun j hj=> ?_,fun j hj=> ?_,fun j hj=> ?_,fun j hj=> ?_,fun j hj=> ?_,h.file,h.fuse,h.max⟩<;>unfold qB_<;>simp only<;>by_cases e:j=k
 ·rw[if_pos e];exact h1
 ·rw[if_neg e];exact h.seen j hj
 ·rw[if_pos e];exact h2
 ·rw[if_neg e];exact h.stl j hj
 ·rw[if_pos e];exact h3
 ·rw[if_neg e];exact h.seenN j hj
 ·rw[if_pos e];exact h4
 ·rw[if_neg e];exact h.stlN j hj
 ·rw[if_pos e];exact h5
 ·rw[if_neg e];exact h.pendN j hj
theorem QQ_ {G:DkG} (h: [G.s 0,G.s 1,G.s 2,G.t 0,G.t 1,G.t 2].Nodup) {i j:Nat} (hi:i<3) (hj:j<3): (i≠j→G.s i≠G.s j)∧(i≠j→G.t i≠G.t j)∧G.s i≠G.t j:=by
 simp only[List.nodup_cons,List.mem_cons,List.not_mem_nil,not_or,or_false,List.nodup_nil,and_true,not_false_eq_true] at h
 have a:i=0∨i=1∨i=2:=by omega
 have b:j=0∨j=1∨j=2:=by omega
 rcases a with rfl|rfl|rfl<;>rcases b with rfl|rfl|rfl<;>refine⟨fun hne=> ?_,fun hne=> ?_, ?_⟩<;>first|omega| (exact absurd rfl hne)
theorem ap7_ {G:DkG} (h: [G.d 0,G.d 1,G.d 2].Nodup) {i j:Nat} (hi:i<3) (hj:j<3):i≠j→G.d i≠G.d j:=by
 simp only[List.nodup_cons,List.mem_cons,List.not_mem_nil,not_or,or_false,List.nodup_nil,and_true,not_false_eq_true] at h
 have a:i=0∨i=1∨i=2:=by omega
 have b:j=0∨j=1∨j=2:=by omega
 rcases a with rfl|rfl|rfl<;>rcases b with rfl|rfl|rfl<;>intro hne<;>first|omega| (exact absurd rfl hne)
structure DkP.Turn (X L:zb_) (G:DkG) (k:Nat):Prop where
 keep: ∀b o,Sx.look X b=some o→b≠G.s k→b≠G.d k→slB (G.p k)≠some b→Sx.look L b=some o
theorem DkP.turn {X L:zb_} {G:DkG} {S:DiskL} (h:DkP X G S) {k:Nat} (hk:k<3) {c:CallL} {v v2:Value} {vals:List Value} (hT:DkP.Turn X L G k)
  (hs:NmM L G.fb (G.s k) (q8_ (S.dir k).seen c)) (hd:Sx.look L (G.d k)=some (kl_ (G.s k) (G.t k) v2)) (hv:vals.length=(S.dir k).pend.length)
  (hF: ∀i,i<vals.length→FnP X G.fb (vals.getD i undef) ((S.dir k).pend.getD i wB_)) (hGo:Gr X 137 1 (G.p k) vals.length vals)
  (hGr:Gr L 137 1 v2 (vals.length+1) (vals++ [v])) (hFv:FnP X G.fb v c) (hsl:slB v2=slB (G.p k)∨ ∃b,slB v2=some b∧b∉keys X) (hok:okC (S.dir k).seen c) (hcn:c.kind=0→c.n<S.files.length):
  DkP L (setP G k v2) (qB_ S k ⟨q8_ (S.dir k).seen c,(S.dir k).stl,(S.dir k).pend++ [c]⟩):=by
 have hpk: ∀b o,Sx.look X b=some o→tyO o≠some 137→slB (G.p k)≠some b:=by
  intro b o hb ht e
  obtain⟨arr,ha⟩:=Jq_ hGo e
  rw[hb] at ha;cases ha;exact ht rfl
 obtain⟨osk,msk,hosk,hmsk,-⟩:=h.seen k hk
 have hns: ∀b o,Sx.look X b=some o→tyO o≠none→b≠G.s k:=by
  rintro b o hb ht rfl
  rw[hosk] at hb;cases hb;exact ht (q9_ hmsk)
 have hnd: ∀b o,Sx.look X b=some o→tyO o≠some 130→b≠G.d k:=by
  rintro b o hb ht rfl
  rw[h.dir k hk] at hb;cases hb;exact ht rfl
 have K: ∀b o,Sx.look X b=some o→tyO o≠none→tyO o≠some 130→tyO o≠some 137→Sx.look L b=some o:=fun b o hb h1 h2 h3=>hT.keep b o hb (hns b o hb h1) (hnd b o hb h2) (hpk b o hb h3)
 have KM: ∀b o,Sx.look X b=some o→tyO o=none→b≠G.s k→Sx.look L b=some o:=fun b o hb h1 h2=>hT.keep b o hb h2 (hnd b o hb (by rw[h1];intro e;cases e)) (hpk b o hb (by rw[h1];intro e;cases e))
 have KF: ∀ {w c},FnP X G.fb w c→FnP L G.fb w c:=fun hw=>hw.keep fun b o hb hx=>K b o hb (by rcases hx with⟨s,rfl⟩ | ⟨a,rfl⟩<;>simp[tyO,wj_,ptrO]) (by rcases hx with⟨s,rfl⟩ | ⟨a,rfl⟩<;>simp[tyO,wj_,ptrO]) (by rcases hx with⟨s,rfl⟩ | ⟨a,rfl⟩<;>simp[tyO,wj_,ptrO])
 refine⟨?_, ?_, ?_, ?_, ?_, ?_, ?_,h.len,h.nodf,h.nodm,h.nodd,h.nodb, ?_, ?_⟩
 ·exact K _ _ h.disk (by simp[tyO,j2_]) (by simp[tyO,j2_]) (by simp[tyO,j2_])
 ·obtain⟨o,h1,h2⟩:=h.dirs
  exact⟨o,KM _ _ h1 (q9_ h2) (h.nodb k hk).1,h2⟩
 ·intro j hj
  by_cases e:j=k
  ·subst e
   show Sx.look L (G.d j)=some (kl_ (G.s j) (G.t j) (if j=j then v2 else G.p j))
   rw[if_pos rfl];exact hd
  ·show Sx.look L (G.d j)=some (kl_ (G.s j) (G.t j) (if j=k then v2 else G.p j))
   rw[if_neg e]
   exact hT.keep _ _ (h.dir j hj) (hns _ _ (h.dir j hj) (by simp[tyO,kl_])) (ap7_ h.nodd hj hk e) (hpk _ _ (h.dir j hj) (by simp[tyO,kl_]))
 ·intro j hj
  show NmM L G.fb (G.s j) (if j=k then _ else S.dir j).seen
  by_cases e:j=k
  ·subst e;rw[if_pos rfl];exact hs
  ·rw[if_neg e]
   obtain⟨o,m,h1,h2,h3⟩:=h.seen j hj
   exact⟨o,m,KM _ _ h1 (q9_ h2) ((QQ_ h.nodm hj hk).1 e),h2,h3⟩
 ·intro j hj
  show NmM L G.fb (G.t j) (if j=k then _ else S.dir j).stl
  have e2: (if j=k then⟨q8_ (S.dir k).seen c,(S.dir k).stl,(S.dir k).pend++ [c]⟩ else S.dir j:DirL).stl=(S.dir j).stl:=by
   by_cases e:j=k
   ·subst e;rw[if_pos rfl]
   ·rw[if_neg e]
  rw[e2]
  obtain⟨o,m,h1,h2,h3⟩:=h.stl j hj
  exact⟨o,m,KM _ _ h1 (q9_ h2) (Ne.symm (QQ_ h.nodm hk hj).2.2),h2,h3⟩
 ·intro j hj
  by_cases e:j=k
  ·subst e
   refine⟨vals++ [v], ?_, ?_, ?_⟩
   ·show(vals++ [v]).length=(if j=j then _ else S.dir j:DirL).pend.length
    rw[if_pos rfl,List.length_append,List.length_append,hv];rfl
   ·show Gr L _ 1 (if j=j then v2 else G.p j) (vals++ [v]).length (vals++ [v])
    rw[if_pos rfl,List.length_append];exact hGr
   ·intro i hi
    show FnP L G.fb ((vals++ [v]).getD i undef) ((if j=j then _ else S.dir j:DirL).pend.getD i wB_)
    rw[if_pos rfl]
    rw[List.length_append,List.length_singleton] at hi
    by_cases ei:i=vals.length
    ·subst ei
     rw[Jp_ _ _ rfl,Jp_ _ _ hv.symm]
     exact KF hFv
    ·rw[JO_ _ _ (by omega),JO_ _ _ (by omega)]
     exact KF (hF i (by omega))
  ·obtain⟨vj,h1,h2,h3⟩:=h.pend j hj
   refine⟨vj, ?_, ?_, ?_⟩
   ·show vj.length=(if j=k then _ else S.dir j:DirL).pend.length
    rw[if_neg e];exact h1
   ·show Gr L _ 1 (if j=k then v2 else G.p j) vj.length vj
    rw[if_neg e]
    refine h2.keep fun b o hb ho=> ?_
    obtain⟨arr,ha⟩:=Jq_ h2 hb
    rw[ho] at ha;cases ha
    exact hT.keep _ _ ho (hns _ _ ho (by simp[tyO])) (hnd _ _ ho (by simp[tyO])) (h.nodp j k hj hk e b hb)
   ·intro i hi
    show FnP L G.fb (vj.getD i undef) ((if j=k then _ else S.dir j:DirL).pend.getD i wB_)
    rw[if_neg e]
    exact KF (h3 i hi)
 ·intro n hn
  exact K _ _ (h.file n hn) (by simp[tyO,vI_]) (by simp[tyO,vI_]) (by simp[tyO,vI_])
 ·intro i j hi hj hij b hb
  have key: ∀j,j<3→ ∀b,slB (G.p j)=some b→b∈keys X:=fun j hj b hb=>by
   obtain⟨vj,-,h2,-⟩:=h.pend j hj
   obtain⟨arr,ha⟩:=Jq_ h2 hb
   exact zh_ ha
  show slB (if j=k then v2 else G.p j)≠some b
  have hb':slB (if i=k then v2 else G.p i)=some b:=hb
  by_cases ei:i=k
  ·subst ei
   rw[if_pos rfl] at hb'
   rw[if_neg (Ne.symm hij)]
   rcases hsl with e| ⟨b',e,hb2⟩
   ·exact h.nodp i j hi hj hij b (by rw[←e];exact hb')
   ·rw[e] at hb';cases hb'
    exact fun h'=>hb2 (key j hj _ h')
  ·rw[if_neg ei] at hb'
   by_cases ej:j=k
   ·subst ej
    rw[if_pos rfl]
    rcases hsl with e| ⟨b',e,hb2⟩
    ·rw[e];exact h.nodp i j hi hj hij b hb'
    ·rw[e]
     intro h';cases h'
     exact hb2 (key i hi _ hb')
   ·rw[if_neg ej];exact h.nodp i j hi hj hij b hb'
 ·exact wO_ h.ok _ (aa5_ c (h.ok.seen k hk)) (h.ok.stl k hk) (aaS_ (h.ok.seenN k hk) hok hcn) (h.ok.stlN k hk) (fun d hd h0=>by
   rcases List.mem_append.1 hd with hd|hd
   ·exact h.ok.pendN k hk d hd h0
   ·rw[List.mem_singleton.1 hd] at h0 ⊢;exact hcn h0)
end Go.Proofs
end
section
open Go Go.Proofs Go.Sx Go.StP
namespace Go.Proofs
set_option maxRecDepth 10000
set_option maxHeartbeats 400000
set_option linter.unusedSimpArgs false
def k7_ (S:DiskL) (k:Nat) (c:CallL):DiskL:=qB_ S k ⟨q8_ (S.dir k).seen c,(S.dir k).stl,(S.dir k).pend++ [c]⟩
theorem JE_ (a b:Nat) (v q:Value) (x:Bool) (hq:Value.oneCell' q=true∧q.cells= #[q]):zv_ (some (x,1)) (some (kl_ a b v)) 2 q=some (kl_ a b q):=zO_ [vm a,vm b] [v] [q] [] x _ 130 rfl rfl hq.2 rfl (by simp[hq.1])
set_option linter.defProp false
def w2_:=And.intro (And.intro (@zp_) (And.intro (@zo_) (@qZ_))) (And.intro (And.intro (@vd_) (@jD_)) (And.intro (@jx_) (@jy_)))
theorem Z0_ (X:zb_) (G:DkG) (S:DiskL) (k:Nat) (c:CallL) (v:Value) (w:World) (hX: ∀p,p∈X→w.heap[p.1]? =some p.2) (hn: (keys X).Nodup) (hP:DkP X G S) (hk:k<3) (hv:FnP X G.fb v c) (hok:okC (S.dir k).seen c) (hcn:c.kind=0→c.n<S.files.length) (hpl: (S.dir k).pend.length<1000000):
  Rets Tryz.prog 116 #[vp G.bd 0,vp (G.d k) 0,v] w (XS w X (fun r D=>r=vi ((zu_ S).2:Nat)∧if(zu_ S).2≠0 then D=setB X G.bd (j2_ G.bm (zu_ S).1) else∃v2,DkP D (setP G k v2) (k7_ (zu_ S).1 k c))):=by
 obtain⟨fk,cap,rfl,-,-⟩:=XR_ hv (hP.seen k hk) (hP.ok.seen k hk) hok
 refine Rets.enterX Tryz.func116 rfl (rs:= [.tmp 6]) Tryz.results116 Tryz.ntmps116 hX hn ?_
 refine kf ?_
 first|with_reducible refine ks [] @w2_ ?_|refine kp @w2_ ?_
 refine Ow.callM rfl rfl Tryz.call81 (zh_ hP.disk) (fun w' hw'=>vl_ G.bd G.bm S w' hP.ok.fuse (hw'.has _ _ (zy_ hP.disk))) ?_
 obtain⟨hb1,hb2,hb3⟩:=qv_ S
 have hP1:=hP.setDisk (zu_ S).1 hb1 hb2 (xJ_ hP.ok)
 have hE1:=(Ext.refl w X).setB (b:=G.bd) (o:=j2_ G.bm (zu_ S).1)
 have hv1:FnP (setB X G.bd (j2_ G.bm (zu_ S).1)) G.fb (.func (.func fk) #[] cap) c:=hv.keep fun b o ho hx=>qn_ hP.disk ho (by rcases hx with⟨s,rfl⟩ | ⟨a,rfl⟩<;>simp[tyO,j2_,wj_,ptrO])
 generalize hL1:setB X G.bd (j2_ G.bm (zu_ S).1)=L1 at*
 by_cases hbn: (zu_ S).2=0
 ·have e2: (((zu_ S).2:Int) !=0)=false:=by rw[hbn];rfl
  have hsk:SrtN ((zu_ S).1.dir k).seen:=hP1.ok.seen k hk
  have hok1:okC ((zu_ S).1.dir k).seen c:=by rw[hb1];exact hok
  obtain⟨fk',cap',he,hfk,hcall⟩:=XR_ hv1 (hP1.seen k hk) hsk hok1
  cases he
  have hdr:=ze_ (w0:=w) (hP1.dir k hk)
  obtain⟨os,ms,hos,hms,-⟩:=hP1.seen k hk
  have hds:G.d k≠G.s k:=by
   intro e
   have h1:=hP1.dir k hk
   rw[e,hos] at h1;cases h1
   obtain⟨es,cl,h,-⟩:=hms;cases h
  obtain⟨vals,hvl,hGr,hF⟩:=hP1.pend k hk
  refine ko (And.intro @w2_ @e2) ?_
  first|with_reducible refine ks [] (And.intro @w2_ @hdr) ?_|refine kp (And.intro @w2_ @hdr) ?_
  refine Ow.callFnXC (b:=vm (G.s k)) (cap:=cap) (ars:= #[vm (G.s k)]++cap) rfl (X:=L1) (Y:= []) (List.append_nil _).symm rfl rfl rfl rfl hfk (fun w' hw' hX' hn'=>hcall w' hX' hn') (fun r D hC hS=> ?_)
  rw[List.append_nil]
  obtain⟨rfl,o',hO,hN2⟩:=hS
  have hE2:=hE1.came0 hC
  have hdl:Sx.look D (G.d k)=some (kl_ (G.s k) (G.t k) (G.p k)):=(hO.rest _ hds).trans (hP1.dir k hk)
  have hdr2:=ze_ (w0:=w) hdl
  have hGD:Gr D 137 1 (G.p k) vals.length vals:=hGr.keep fun b o hb ho=>by
   obtain⟨arr,ha⟩:=Jq_ hGr hb
   rw[ho] at ha;cases ha
   refine(hO.rest b ?_).trans ho
   rintro rfl
   rw[hos] at ho;cases ho
   obtain⟨es,cl,h,-⟩:=hms;cases h
  refine ko @w2_ ?_
  first|with_reducible refine ks [] (And.intro @w2_ @hdr2) ?_|refine kp (And.intro @w2_ @hdr2) ?_
  refine Ow.buildSlice (e:=137) #[.func (.func fk) #[] cap] rfl rfl (by kernel_rfl) fun ba hba hwa=> ?_
  refine ko @w2_ ?_
  refine Ow.appendG (e:=137) (k:=1) (new:= [.func (.func fk) #[] cap]) (G.p k) rfl rfl rfl Tryz.underlying128 (id (by kernel_rfl):z0_ Tryz.prog 137=some (false,1)) (by kernel_rfl) (id (by kernel_rfl):zM_ Tryz.prog 137=some .nilFunc) rfl Tryz.underlying128 (by intro k h;cases h) hGD.app (fun w' hw'=>AppX.one1 (hw'.has _ _ (List.mem_append_right _ List.mem_cons_self)) rfl rfl) rfl (by rw[hvl,hb1];omega) (fun v2 L2 hB2 _ hg2 hs2=> ?_)
  have hE3:=(hE2.app (o:= .cells #[.func (.func fk) #[] cap] 137 (0,0)) hwa).grew hg2
  have hpd:slB (G.p k)≠some (G.d k):=fun e=>by
   obtain⟨arr,ha⟩:=Jq_ hGD e
   rw[hdl] at ha
   simp[kl_] at ha
  have hd2:Sx.look L2 (G.d k)=some (kl_ (G.s k) (G.t k) (G.p k)):=hg2.look _ _ hpd (zk_ hdl)
  have hr2:=ze_ (w0:=w) hd2
  have st:=fun x=>JE_ (G.s k) (G.t k) (G.p k) v2 x hB2.cell
  refine ko @w2_ ?_
  first|with_reducible refine ks [] (And.intro @w2_ (And.intro @hd2 (@st))) ?_|refine kp (And.intro @w2_ (And.intro @hd2 (@st))) ?_
  refine⟨_,(ke @w2_), ?_⟩
  refine⟨hE3.setB,by rw[hbn];rfl, ?_⟩
  rw[if_neg (by rw[hbn];simp)]
  have hAb: ∀b,jV_ (D++ [(ba, .cells #[.func (.func fk) #[] cap] 137 (0,0))]) b→b∉keys L1:=fun b hb hm=>by
   have:=zi_ hb (b:=b) (by rw[zj_,hO.keys];exact List.mem_append_left _ hm)
   omega
  have hkd: ∀b o,Sx.look L1 b=some o→b≠G.s k→b≠G.d k→slB (G.p k)≠some b→Sx.look (setB L2 (G.d k) (kl_ (G.s k) (G.t k) v2)) b=some o:=fun b o hb h1 h2 h3=>by
   rw[zm_ (Ne.symm h2)]
   exact hg2.look _ _ h3 (zk_ ((hO.rest b h1).trans hb))
  obtain⟨oN,mN,hN3,hN4,hN5⟩:=hN2
  have hps:slB (G.p k)≠some (G.s k):=fun e=>by
   obtain⟨arr,ha⟩:=Jq_ hGr e
   rw[hos] at ha;cases ha
   obtain⟨es,cl,h,-⟩:=hms;cases h
  have hv2d:slB v2≠some (G.d k):=fun e=>by
   rcases hs2 with h| ⟨b',h,ha⟩
   ·exact hpd (by rw[←h];exact e)
   ·rw[h] at e;cases e
    exact hAb _ ha (zh_ (hP1.dir k hk))
  refine⟨v2,hP1.turn hk (c:=c) (v:= .func (.func fk) #[] cap) (v2:=v2) (vals:=vals) ⟨hkd⟩ ⟨oN,mN, ?_,hN4,hN5⟩ (qa_ hd2) hvl hF hGr (hB2.keep fun b o hb ho=> ?_) hv1 (hs2.imp id fun⟨b',h,ha⟩=>⟨b',h,hAb _ ha⟩) hok1 (by rw[hb2];exact hcn)⟩
  ·rw[zm_ hds]
   exact hg2.look _ _ hps (zk_ hN3)
  ·rw[zm_ (by rintro rfl;exact hv2d hb)];exact ho
 ·have e2:=jQ_ hbn
  refine ko (And.intro @w2_ @e2) ?_
  first|with_reducible refine ks [] @w2_ ?_|refine kp @w2_ ?_
  refine⟨_,(ke @w2_), ?_⟩
  refine⟨hE1,rfl, ?_⟩
  rw[if_pos hbn]
end Go.Proofs
end
section
open Go Go.Proofs Go.Sx Go.StP
namespace Go.Proofs
set_option maxRecDepth 10000
set_option maxHeartbeats 400000
set_option linter.unusedSimpArgs false
def addF (G:DkG) (bf:Nat):DkG:={G with fb:=G.fb++ [bf]}
def xC_ (S:DiskL) (f:FileL):DiskL:={S with files:=S.files++ [f]}
theorem ahz_ {S:DiskL} (h:DkOk S) {f:FileL} (hf:f.data.length≤1048576∧f.stl≤f.data.length):DkOk (xC_ S f):=by
 have e: (xC_ S f).files.length=S.files.length+1:=by unfold xC_;simp
 refine⟨h.seen,h.stl,fun k hk p hp=>by rw[e];exact Nat.lt_succ_of_lt (h.seenN k hk p hp),fun k hk p hp=>by rw[e];exact Nat.lt_succ_of_lt (h.stlN k hk p hp),fun k hk c hc h0=>by rw[e];exact Nat.lt_succ_of_lt (h.pendN k hk c hc h0),fun g hg=> ?_,h.fuse,h.max⟩
 rcases List.mem_append.1 hg with hg|hg
 ·exact h.file g hg
 ·rw[List.mem_singleton.1 hg];exact hf
theorem apU_ {fb:List Nat} {bf n:Nat} (h:n<fb.length): (fb++ [bf]).getD n 0=fb.getD n 0:=JO_ 0 n h
theorem DkP.addFile {X:zb_} {G:DkG} {S:DiskL} (h:DkP X G S) {bf:Nat} {f:FileL} (hb:Sx.look X bf=some (vI_ f)) (hn:bf∉G.fb) (hf:f.data.length≤1048576∧f.stl≤f.data.length):DkP X (addF G bf) (xC_ S f):=by
 have hl:=h.len
 have hNm: ∀ {b:Nat} {l:NmL},(∀p,p∈l→p.2<S.files.length)→NmM X G.fb b l→NmM X (G.fb++ [bf]) b l:=by
  rintro b l hlt ⟨o,m,h1,h2,h3⟩
  exact⟨o,m,h1,h2,h3.mono fun p hp=>apU_ (by have:=hlt p hp;omega)⟩
 refine⟨h.disk,h.dirs,h.dir,fun k hk=>hNm (h.ok.seenN k hk) (h.seen k hk),fun k hk=>hNm (h.ok.stlN k hk) (h.stl k hk),fun k hk=> ?_,fun n hn'=> ?_, ?_, ?_,h.nodm,h.nodd,h.nodb,h.nodp,ahz_ h.ok hf⟩
 ·obtain⟨vals,h1,h2,h3⟩:=h.pend k hk
  refine⟨vals,h1,h2,fun i hi=> ?_⟩
  have hF:=h3 i hi
  have hm: ((S.dir k).pend.getD i wB_)∈ (S.dir k).pend:=by
   rw[List.getD_eq_getElem?_getD,List.getElem?_eq_getElem (by omega)];exact List.getElem_mem _
  have hc:=h.ok.pendN k hk _ hm
  show FnP X (G.fb++ [bf]) (vals.getD i undef) ((S.dir k).pend.getD i wB_)
  generalize (S.dir k).pend.getD i wB_=c at*
  unfold FnP at hF ⊢
  split at hF
  ·rename_i hk0
   rw[apU_ (by have:=hc hk0;omega)]
   exact hF
  ·exact hF
  ·exact hF
 ·have hn2:n<S.files.length+1:=by
   have: (xC_ S f).files.length=S.files.length+1:=by unfold xC_;simp
   omega
  show Sx.look X ((G.fb++ [bf]).getD n 0)=some (vI_ ((S.files++ [f]).getD n jP_))
  by_cases e:n=S.files.length
  ·subst e
   rw[Jp_ _ _ hl,Jp_ _ _ rfl];exact hb
  ·rw[JO_ _ _ (by omega),JO_ _ _ (by omega)]
   exact h.file n (by omega)
 ·show(G.fb++ [bf]).length=(S.files++ [f]).length
  rw[List.length_append,List.length_append,hl];rfl
 ·show(G.fb++ [bf]).Nodup
  refine List.nodup_append.2 ⟨h.nodf,by simp,fun a ha b hb'=> ?_⟩
  rw[List.mem_singleton.1 hb']
  rintro rfl;exact hn ha
theorem alH_:q5_ (vc_ Tryz.prog 126) (zM_ Tryz.prog 126) []=some (.agg #[vs [],vi 0]):=by
 rw[show vc_ Tryz.prog 126=some [(0,1),(1,1)] from id (by kernel_rfl),show zM_ Tryz.prog 126=some (.agg #[vs [],vi 0]) from id (by kernel_rfl)];rfl
theorem auC_:zM_ Tryz.prog 124=some (.pointer none):=zrPf
theorem amd_ (b:Nat) (a:Bool):zv_ (some (a,1)) (some (.cells (Value.pointer none).cells 124 (0,0))) 0 (vp b 0)=some (ptrO b):=
 zO_ [] [.pointer none] [vp b 0] [] a _ 124 rfl rfl rfl rfl rfl
set_option linter.defProp false
def ws_:=And.intro (@zp_) (And.intro (@zo_) (@amd_))
theorem VP_ (name:List UInt8) (w:World):Rets Tryz.prog 117 #[vs name] w (XS w [] (fun v D=> ∃bp bn bf,v= .func (.func 159) #[] #[vp bp 0,vp bn 0]∧Sx.look D bp=some (ptrO bf)∧Sx.look D bn=some (wj_ name)∧Sx.look D bf=some (vI_ jP_))):=by
 refine Rets.enterX Tryz.func117 rfl (rs:= [.tmp 2]) Tryz.results117 Tryz.ntmps117 (fun p hp=>by cases hp) (by simp[keys]) ?_
 refine kf ?_
 first|with_reducible refine ks [] @ws_ ?_|refine kp @ws_ ?_
 refine Ow.box rfl rfl fun bn hbn hwn=> ?_
 simp only[zY_,zV_,zX_,List.nil_append]
 refine ko @ws_ ?_
 first|with_reducible refine ks [] @ws_ ?_|refine kp @ws_ ?_
 refine Ow.build (.agg #[vs [],vi 0]) rfl alH_ ?_
 refine ko @ws_ ?_
 refine Ow.box rfl rfl fun bf hbf hwf=> ?_
 simp only[zY_,zV_,zX_,za_]
 refine ko @ws_ ?_
 refine Ow.alloc rfl rfl auC_ fun bp hbp hwp=> ?_
 have h1:bn<bf:=zi_ hbf (by simp[keys])
 have h2:bn<bp:=zi_ hbp (by simp[keys])
 have h3:bf<bp:=zi_ hbp (by simp[keys])
 refine Ow.permL (M:= [(bp, .cells (Value.pointer none).cells 124 (0,0)),(bf, .cells #[vs [],vi 0] 126 (0,0)),(bn, .cells (vs name).cells 9 (0,0))]) (by classical exact List.perm_iff_count.2 fun a=>by simp only[List.count_append,List.count_cons,List.count_nil]<;>omega) ?_
 refine ko @ws_ ?_
 first|with_reducible refine ks [] @ws_ ?_|refine kp @ws_ ?_
 refine⟨_,(ke @ws_), ?_⟩
 refine⟨Ext.of_new ⟨hwp,hwf,hwn,trivial⟩,bp,bn,bf, ?_, ?_, ?_, ?_⟩
 ·simp only[xW_,List.map_toArray,List.map_cons,List.map_nil,zY_,zV_,zX_]
 ·simp[Sx.look]
 ·simp[Sx.look,show bp≠bn by omega,show bf≠bn by omega];rfl
 ·simp[Sx.look,show bp≠bf by omega];rfl
theorem Vw_ (name:List UInt8) (w:World):Rets Tryz.prog 122 #[vs name] w (XS w [] (fun v D=> ∃bn,v= .func (.func 161) #[] #[vp bn 0]∧Sx.look D bn=some (wj_ name))):=by
 refine Rets.enterX Tryz.func122 rfl (rs:= [.tmp 2]) Tryz.results122 Tryz.ntmps122 (fun p hp=>by cases hp) (by simp[keys]) ?_
 refine kf ?_
 first|with_reducible refine ks [] @ws_ ?_|refine kp @ws_ ?_
 refine Ow.box rfl rfl fun bn hbn hwn=> ?_
 simp only[zY_,zV_,zX_,List.nil_append]
 refine ko @ws_ ?_
 first|with_reducible refine ks [] @ws_ ?_|refine kp @ws_ ?_
 refine⟨_,(ke @ws_), ?_⟩
 exact⟨Ext.of_new ⟨hwn,trivial⟩,bn,by simp only[xW_,List.map_toArray,List.map_cons,List.map_nil,zY_,zV_,zX_],by simp[Sx.look];rfl⟩
end Go.Proofs
end
section
open Go Go.Proofs Go.Sx Go.StP
namespace Go.Proofs
set_option maxRecDepth 10000
set_option maxHeartbeats 400000
set_option linter.unusedSimpArgs false
def jk_ (S:DiskL) (dir name:List UInt8):DiskL×Nat:=
 if qU_ S dir [name]≠0 then(S,qU_ S dir [name]) else match atD S dir name with
  |some _=>(S,7)
  |none=>if(zu_ S).2≠0 then zu_ S else(k7_ (xC_ (zu_ S).1 jP_) ((zN_ dir).getD 0) ⟨0,name,[],S.files.length⟩,0)
def qk_ (S:DiskL) (dir name:List UInt8):DiskL×Nat:=
 if qU_ S dir [name]≠0 then(S,qU_ S dir [name]) else match atD S dir name with
  |none=>(S,6)
  |some _=>if(zu_ S).2≠0 then zu_ S else(k7_ (zu_ S).1 ((zN_ dir).getD 0) ⟨2,name,[],0⟩,0)
def jc_ (S:DiskL) (dir name to:List UInt8):DiskL×Nat:=
 if qU_ S dir [name,to]≠0 then(S,qU_ S dir [name,to]) else match atD S dir name with
  |none=>(S,6)
  |some _=>if name=to then zu_ S else if(zu_ S).2≠0 then zu_ S else(k7_ (zu_ S).1 ((zN_ dir).getD 0) ⟨1,name,to,0⟩,0)
theorem ajD_ (S:DiskL) (f:FileL):zu_ (xC_ S f)=(xC_ (zu_ S).1 f,(zu_ S).2):=by
 unfold zu_
 by_cases h1:S.fused=true∧S.fuse=0
 ·rw[if_pos h1,if_pos (by exact h1)];rfl
 ·rw[if_neg h1,if_neg (by exact h1)]
  by_cases h2:S.fused=true
  ·rw[if_pos h2,if_pos (by exact h2)];rfl
  ·rw[if_neg h2,if_neg (by exact h2)]
theorem asE_ (b o:Nat):qI_ Tryz.prog .neq 124 (vp b o) (.pointer none)=some (.bool true):=by
 simp[qI_,eqX,qz_,qq_,Tryz.underlying124,vp]
theorem asb_:qI_ Tryz.prog .neq 124 (.pointer none) (.pointer none)=some (.bool false):=by
 simp[qI_,eqX,qz_,qq_,Tryz.underlying124]
theorem QZ_ {L D:zb_} {B:Nat} (hA:jV_ L B) (hN:New B D) {b:Nat} {o:Obj} (h:Sx.look D b=some o):Sx.look (L++D) b=some o:=by
 rw[zG_ (fun hm=>by have:=zi_ hA hm;have:=hN.le b (zh_ h);omega)];exact h
theorem DkP.fb_key {X:zb_} {G:DkG} {S:DiskL} (h:DkP X G S) {b:Nat} (hb:b∈G.fb):b∈keys X:=by
 obtain⟨n,hn,rfl⟩:=List.getElem_of_mem hb
 have:=h.file n (by rw[←h.len];exact hn)
 rw[List.getD_eq_getElem?_getD,List.getElem?_eq_getElem hn] at this
 exact zh_ this
set_option linter.defProp false
def zK_:=And.intro (And.intro (And.intro (And.intro (@zp_) (@zo_)) (And.intro (@qZ_) (@vd_))) (And.intro (And.intro (@jD_) (@jx_)) (And.intro (@jy_) (And.intro (@vu_) (@vC_))))) (And.intro (And.intro (And.intro (@acI_) (@aiX_)) (And.intro (@WI_) (@anj_))) (And.intro (And.intro (@ad2_) (@asE_)) (And.intro (@asb_) (And.intro (@Sx.tup2_0) (@Sx.tup2_1)))))
theorem ada_ (X:zb_) (G:DkG) (S:DiskL) (dir name:List UInt8) (w:World) (hX: ∀p,p∈X→w.heap[p.1]? =some p.2) (hn: (keys X).Nodup) (hP:DkP X G S) (hnm:name.length<1099511627776) (hpl: ∀k,k<3→(S.dir k).pend.length<1000000):
  Rets Tryz.prog 72 #[vp G.bd 0,vs dir,vs name] w (XS w X (fun v D=>v=vi ((jk_ S dir name).2:Nat)∧ ∃G',G'.bd=G.bd∧DkP D G' (jk_ S dir name).1)):=by
 refine Rets.enterX Tryz.func72 rfl (rs:= [.tmp 6]) Tryz.results72 Tryz.ntmps72 hX hn ?_
 refine kf ?_
 first|with_reducible refine ks [] @zK_ ?_|refine kp @zK_ ?_
 refine Ow.buildSlice (e:=9) #[vs name] rfl rfl (by kernel_rfl) fun b1 hb1 hw1=> ?_
 have hP1:=hP.mono (X':=X++ [(b1,Obj.cells #[vs name] 9 (0,0))]) fun b o h=>zk_ h
 have hE1:=(Ext.refl w X).app (o:=Obj.cells #[vs name] 9 (0,0)) hw1
 have hm1: (b1,Obj.cells #[vs name] 9 (0,0))∈X++ [(b1,Obj.cells #[vs name] 9 (0,0))]:=by simp
 generalize X++ [(b1,Obj.cells #[vs name] 9 (0,0))]=L1 at*
 refine ko @zK_ ?_
 refine Ow.callC rfl rfl Tryz.call80 (fun w' hw'=>Rets.toX (xd_ w' G S dir (vsl b1 0 1 1) [name] (hP1.world hw') (ad3_ (hw'.has _ _ hm1)) (by simp) (by simpa using hnm))) (fun B2 v2 D2 hA2 hB2 hN2 hS2=> ?_)
 obtain⟨rfl,hS2⟩:=hS2
 rw[List.append_nil]
 clear hm1 hA2 hN2
 unfold jk_ atD
 rcases hS2 with⟨he,rfl⟩ | ⟨he,k,hk,rfl⟩
 ·have e1:=jQ_ he
  refine ko @zK_ ?_
  first|with_reducible refine ks [] (And.intro @zK_ @e1) ?_|refine kp (And.intro @zK_ @e1) ?_
  refine⟨_,(ke @zK_), ?_⟩
  rw[if_pos he]
  exact⟨hE1,rfl,G,rfl,hP1⟩
 ·have he': ¬ (qU_ S dir [name]≠0):=by rw[he];simp
  have hk3:=(zE_ hk).1
  have hdr:=ze_ (w0:=w) (hP1.dir k hk3)
  obtain⟨os,ms,hos,hms,hnp⟩:=hP1.seen k hk3
  have hso:=ze_ (w0:=w) hos
  have e1: ((0:Int) !=0)=false:=rfl
  refine ko @zK_ ?_
  first|with_reducible refine ks [] (And.intro @zK_ (And.intro @e1 (@hdr))) ?_|refine kp (And.intro @zK_ (And.intro @e1 (@hdr))) ?_
  refine Ow.mapGetG (encK:=vs) (encV:=jA_) (k:=name) (z:=none) rfl rfl Tryz.underlying127 x0_ zrPf rfl rfl hso hms ?_
  rw[hnp.get (hP.ok.seen k hk3).nodup]
  show Ow _ _ _ _ _ _ _ _
  have hq: (zN_ dir).bind (fun k=>zB_ (S.dir k).seen name)=zB_ (S.dir k).seen name:=by rw[hk];rfl
  cases hf:zB_ (S.dir k).seen name with
  |some n=>
   have hp: ∀q:Nat,jA_ (some q)=vp q 0:=fun _=>rfl
   refine ko (And.intro @zK_ @hp) ?_
   first|with_reducible refine ks [] @zK_ ?_|refine kp @zK_ ?_
   refine⟨_,(ke @zK_), ?_⟩
   rw[if_neg he',hq,hf]
   exact⟨hE1,rfl,G,rfl,hP1⟩
  |none=>
   have hp0:jA_ none= .pointer none:=rfl
   refine ko (And.intro @zK_ @hp0) ?_
   first|with_reducible refine ks [] @zK_ ?_|refine kp @zK_ ?_
   refine Ow.callC rfl rfl Tryz.call117 (fun w' hw'=>VP_ name w') (fun B3 v3 D3 hA3 hB3 hN3 hS3=> ?_)
   obtain⟨bp,bn,bf,rfl,hbp,hbn,hbf⟩:=hS3
   have hP2:=hP1.mono (X':=L1++D3) fun b o h=>zk_ h
   have hbp2:=QZ_ hA3 hN3 hbp
   have hbn2:=QZ_ hA3 hN3 hbn
   have hbf2:=QZ_ hA3 hN3 hbf
   have hnf:bf∉G.fb:=fun hm=>by
    have h1:=zi_ hA3 (hP1.fb_key hm)
    have h2:=hN3.le bf (zh_ hbf)
    omega
   have hP3:=hP2.addFile hbf2 hnf (f:=jP_) ⟨by decide,by decide⟩
   have hE2:Ext w X (L1++D3):=⟨fun c hc=>by
    rw[zj_] at hc
    rcases List.mem_append.1 hc with hc|hc
    ·exact hE1.new c hc
    ·exact .inr (Nat.le_trans hB3 (hN3.le c hc)),fun c hc=>by rw[zj_];exact List.mem_append_left _ (hE1.all c hc)⟩
   generalize L1++D3=L3 at*
   refine ko @zK_ ?_
   refine Ow.callX (X:=L3) (Y:= []) (List.append_nil _).symm rfl rfl Tryz.call116 (fun w' hw' hX' hn'=>Z0_ L3 (addF G bf) (xC_ S jP_) k ⟨0,name,[],S.files.length⟩ _ w' hX' hn' hP3 hk3 ⟨bp,bn,rfl,by show Sx.look L3 bp=some (ptrO ((G.fb++ [bf]).getD S.files.length 0));rw[Jp_ _ _ hP.len];exact hbp2,hbn2⟩ (fun h=>by cases h) (fun _=>by show S.files.length< (S.files++ [jP_]).length;simp) (hpl k hk3)) (fun v4 D4 hC4 hS4=> ?_)
   rw[ajD_] at hS4
   obtain⟨rfl,hS4⟩:=hS4
   simp only at hS4
   have hE4:=hE2.came0 hC4
   rw[List.append_nil]
   refine ko @zK_ ?_
   first|with_reducible refine ks [] @zK_ ?_|refine kp @zK_ ?_
   refine⟨_,(ke @zK_), ?_⟩
   rw[if_neg he',hq,hf]
   simp only
   by_cases hbn': (zu_ S).2=0
   ·rw[if_neg (by rw[hbn'];simp)] at hS4
    rw[if_neg (by rw[hbn'];simp)]
    obtain⟨v5,hP5⟩:=hS4
    rw[hk]
    exact⟨hE4,by rw[hbn'];rfl,setP (addF G bf) k v5,rfl,hP5⟩
   ·rw[if_pos hbn'] at hS4
    rw[if_pos hbn']
    subst hS4
    obtain⟨hb1,hb2,hb3⟩:=qv_ S
    exact⟨hE4,rfl,G,rfl,hP2.setDisk (zu_ S).1 hb1 hb2 (xJ_ hP.ok)⟩
theorem wY_ (X:zb_) (G:DkG) (S:DiskL) (dir name:List UInt8) (w:World) (hX: ∀p,p∈X→w.heap[p.1]? =some p.2) (hn: (keys X).Nodup) (hP:DkP X G S) (hnm:name.length<1099511627776) (hpl: ∀k,k<3→(S.dir k).pend.length<1000000):
  Rets Tryz.prog 77 #[vp G.bd 0,vs dir,vs name] w (XS w X (fun v D=>v=vi ((qk_ S dir name).2:Nat)∧ ∃G',G'.bd=G.bd∧DkP D G' (qk_ S dir name).1)):=by
 refine Rets.enterX Tryz.func77 rfl (rs:= [.tmp 6]) Tryz.results77 Tryz.ntmps77 hX hn ?_
 refine kf ?_
 first|with_reducible refine ks [] @zK_ ?_|refine kp @zK_ ?_
 refine Ow.buildSlice (e:=9) #[vs name] rfl rfl (by kernel_rfl) fun b1 hb1 hw1=> ?_
 have hP1:=hP.mono (X':=X++ [(b1,Obj.cells #[vs name] 9 (0,0))]) fun b o h=>zk_ h
 have hE1:=(Ext.refl w X).app (o:=Obj.cells #[vs name] 9 (0,0)) hw1
 have hm1: (b1,Obj.cells #[vs name] 9 (0,0))∈X++ [(b1,Obj.cells #[vs name] 9 (0,0))]:=by simp
 generalize X++ [(b1,Obj.cells #[vs name] 9 (0,0))]=L1 at*
 refine ko @zK_ ?_
 refine Ow.callC rfl rfl Tryz.call80 (fun w' hw'=>Rets.toX (xd_ w' G S dir (vsl b1 0 1 1) [name] (hP1.world hw') (ad3_ (hw'.has _ _ hm1)) (by simp) (by simpa using hnm))) (fun B2 v2 D2 hA2 hB2 hN2 hS2=> ?_)
 obtain⟨rfl,hS2⟩:=hS2
 rw[List.append_nil]
 clear hm1 hA2 hN2
 unfold qk_ atD
 rcases hS2 with⟨he,rfl⟩ | ⟨he,k,hk,rfl⟩
 ·have e1:=jQ_ he
  refine ko @zK_ ?_
  first|with_reducible refine ks [] (And.intro @zK_ @e1) ?_|refine kp (And.intro @zK_ @e1) ?_
  refine⟨_,(ke @zK_), ?_⟩
  rw[if_pos he]
  exact⟨hE1,rfl,G,rfl,hP1⟩
 ·have he': ¬ (qU_ S dir [name]≠0):=by rw[he];simp
  have hk3:=(zE_ hk).1
  have hdr:=ze_ (w0:=w) (hP1.dir k hk3)
  obtain⟨os,ms,hos,hms,hnp⟩:=hP1.seen k hk3
  have hso:=ze_ (w0:=w) hos
  have e1: ((0:Int) !=0)=false:=rfl
  refine ko @zK_ ?_
  first|with_reducible refine ks [] (And.intro @zK_ (And.intro @e1 (@hdr))) ?_|refine kp (And.intro @zK_ (And.intro @e1 (@hdr))) ?_
  refine Ow.mapGetG (encK:=vs) (encV:=jA_) (k:=name) (z:=none) rfl rfl Tryz.underlying127 x0_ zrPf rfl rfl hso hms ?_
  rw[hnp.get (hP.ok.seen k hk3).nodup]
  show Ow _ _ _ _ _ _ _ _
  have hq: (zN_ dir).bind (fun k=>zB_ (S.dir k).seen name)=zB_ (S.dir k).seen name:=by rw[hk];rfl
  cases hf:zB_ (S.dir k).seen name with
  |none=>
   have hp0:jA_ none= .pointer none:=rfl
   refine ko (And.intro @zK_ @hp0) ?_
   first|with_reducible refine ks [] @zK_ ?_|refine kp @zK_ ?_
   refine⟨_,(ke @zK_), ?_⟩
   rw[if_neg he',hq,hf]
   exact⟨hE1,rfl,G,rfl,hP1⟩
  |some n=>
   have hp: ∀q:Nat,jA_ (some q)=vp q 0:=fun _=>rfl
   refine ko (And.intro @zK_ @hp) ?_
   first|with_reducible refine ks [] @zK_ ?_|refine kp @zK_ ?_
   refine Ow.callC rfl rfl Tryz.call122 (fun w' hw'=>Vw_ name w') (fun B3 v3 D3 hA3 hB3 hN3 hS3=> ?_)
   obtain⟨bn,rfl,hbn⟩:=hS3
   have hP2:=hP1.mono (X':=L1++D3) fun b o h=>zk_ h
   have hbn2:=QZ_ hA3 hN3 hbn
   have hE2:Ext w X (L1++D3):=⟨fun c hc=>by
    rw[zj_] at hc
    rcases List.mem_append.1 hc with hc|hc
    ·exact hE1.new c hc
    ·exact .inr (Nat.le_trans hB3 (hN3.le c hc)),fun c hc=>by rw[zj_];exact List.mem_append_left _ (hE1.all c hc)⟩
   generalize L1++D3=L3 at*
   refine ko @zK_ ?_
   refine Ow.callX (X:=L3) (Y:= []) (List.append_nil _).symm rfl rfl Tryz.call116 (fun w' hw' hX' hn'=>Z0_ L3 G S k ⟨2,name,[],0⟩ _ w' hX' hn' hP2 hk3 ⟨bn,rfl,hbn2⟩ (fun h=>by cases h) (fun h=>by cases h) (hpl k hk3)) (fun v4 D4 hC4 hS4=> ?_)
   obtain⟨rfl,hS4⟩:=hS4
   have hE4:=hE2.came0 hC4
   rw[List.append_nil]
   refine ko @zK_ ?_
   first|with_reducible refine ks [] @zK_ ?_|refine kp @zK_ ?_
   refine⟨_,(ke @zK_), ?_⟩
   rw[if_neg he',hq,hf]
   simp only
   by_cases hbn': (zu_ S).2=0
   ·rw[if_neg (by rw[hbn'];simp)] at hS4
    rw[if_neg (by rw[hbn'];simp)]
    obtain⟨v5,hP5⟩:=hS4
    rw[hk]
    exact⟨hE4,by rw[hbn'];rfl,setP G k v5,rfl,hP5⟩
   ·rw[if_pos hbn'] at hS4
    rw[if_pos hbn']
    subst hS4
    obtain⟨hb1,hb2,hb3⟩:=qv_ S
    exact⟨hE4,rfl,G,rfl,hP2.setDisk (zu_ S).1 hb1 hb2 (xJ_ hP.ok)⟩
theorem adT_ (X:zb_) (G:DkG) (S:DiskL) (dir name to:List UInt8) (w:World) (hX: ∀p,p∈X→w.heap[p.1]? =some p.2) (hn: (keys X).Nodup) (hP:DkP X G S) (hnm:name.length<1099511627776) (hto:to.length<1099511627776) (hpl: ∀k,k<3→(S.dir k).pend.length<1000000):
  Rets Tryz.prog 76 #[vp G.bd 0,vs dir,vs name,vs to] w (XS w X (fun v D=>v=vi ((jc_ S dir name to).2:Nat)∧ ∃G',G'.bd=G.bd∧DkP D G' (jc_ S dir name to).1)):=by
 refine Rets.enterX Tryz.func76 rfl (rs:= [.tmp 8]) Tryz.results76 Tryz.ntmps76 hX hn ?_
 refine kf ?_
 first|with_reducible refine ks [] @zK_ ?_|refine kp @zK_ ?_
 refine Ow.box rfl rfl fun b6 hb6 hw6=> ?_
 simp only[zY_,zV_,zX_]
 refine ko @zK_ ?_
 refine Ow.box rfl rfl fun b7 hb7 hw7=> ?_
 simp only[zY_,zV_,zX_]
 refine Ow.permL (M:=X++ [(b6,wj_ name)]++ [(b7,wj_ to)]) (List.Perm.refl _) ?_
 have hP0:=hP.mono (X':=X++ [(b6,wj_ name)]++ [(b7,wj_ to)]) fun b o h=>zk_ (zk_ h)
 have hE0:=((Ext.refl w X).app (o:=wj_ name) hw6).app (o:=wj_ to) hw7
 have hl6:Sx.look (X++ [(b6,wj_ name)]++ [(b7,wj_ to)]) b6=some (wj_ name):=zk_ (xM_ hb6)
 have hl7:Sx.look (X++ [(b6,wj_ name)]++ [(b7,wj_ to)]) b7=some (wj_ to):=xM_ hb7
 generalize X++ [(b6,wj_ name)]++ [(b7,wj_ to)]=L0 at*
 have hr6:=ze_ (w0:=w) hl6
 have hr7:=ze_ (w0:=w) hl7
 refine ko @zK_ ?_
 first|with_reducible refine ks [] (And.intro @zK_ (And.intro @hr6 (@hr7))) ?_|refine kp (And.intro @zK_ (And.intro @hr6 (@hr7))) ?_
 refine Ow.buildSlice (e:=9) #[vs name,vs to] rfl rfl (by kernel_rfl) fun b1 hb1 hw1=> ?_
 have hP1:=hP0.mono (X':=L0++ [(b1,Obj.cells #[vs name,vs to] 9 (0,0))]) fun b o h=>zk_ h
 have hE1:=hE0.app (o:=Obj.cells #[vs name,vs to] 9 (0,0)) hw1
 have hm1: (b1,Obj.cells #[vs name,vs to] 9 (0,0))∈L0++ [(b1,Obj.cells #[vs name,vs to] 9 (0,0))]:=by simp
 have hl6:=zk_ (M:= [(b1,Obj.cells #[vs name,vs to] 9 (0,0))]) hl6
 have hl7:=zk_ (M:= [(b1,Obj.cells #[vs name,vs to] 9 (0,0))]) hl7
 generalize L0++ [(b1,Obj.cells #[vs name,vs to] 9 (0,0))]=L1 at*
 have hr6:=ze_ (w0:=w) hl6
 have hr7:=ze_ (w0:=w) hl7
 have hnms: ∀s,s∈ [name,to]→s.length<1099511627776:=by
  intro s hs
  simp only[List.mem_cons,List.not_mem_nil,or_false] at hs
  rcases hs with rfl|rfl
  ·exact hnm
  ·exact hto
 refine ko @zK_ ?_
 refine Ow.callC rfl rfl Tryz.call80 (fun w' hw'=>Rets.toX (xd_ w' G S dir (vsl b1 0 2 2) [name,to] (hP1.world hw') (atg_ (hw'.has _ _ hm1)) (by simp) hnms)) (fun B2 v2 D2 hA2 hB2 hN2 hS2=> ?_)
 obtain⟨rfl,hS2⟩:=hS2
 rw[List.append_nil]
 clear hm1 hA2 hN2 hnms
 unfold jc_ atD
 rcases hS2 with⟨he,rfl⟩ | ⟨he,k,hk,rfl⟩
 ·have e1:=jQ_ he
  refine ko @zK_ ?_
  first|with_reducible refine ks [] (And.intro @zK_ @e1) ?_|refine kp (And.intro @zK_ @e1) ?_
  refine⟨_,(ke @zK_), ?_⟩
  rw[if_pos he]
  exact⟨hE1,rfl,G,rfl,hP1⟩
 ·have he': ¬ (qU_ S dir [name,to]≠0):=by rw[he];simp
  have hk3:=(zE_ hk).1
  have hdr:=ze_ (w0:=w) (hP1.dir k hk3)
  obtain⟨os,ms,hos,hms,hnp⟩:=hP1.seen k hk3
  have hso:=ze_ (w0:=w) hos
  have e1: ((0:Int) !=0)=false:=rfl
  have hq: (zN_ dir).bind (fun k=>zB_ (S.dir k).seen name)=zB_ (S.dir k).seen name:=by rw[hk];rfl
  refine ko @zK_ ?_
  first|with_reducible refine ks [] (And.intro @zK_ @e1) ?_|refine kp (And.intro @zK_ @e1) ?_
  refine Cw.regionS [G.d k,b6] [0,1,2,3,4,5,6,7] [] (by kernel_rfl) (by kernel_rfl) (by kernel_rfl) ?_
  simp only[zl_, ↓zg_, ↓zc_, ↓zx_, ↓zw_,zd_]
  refine kq (And.intro @zK_ (And.intro @hdr (@hr6))) ?_
  refine Ow.soft rfl rfl rfl ?_
  refine Ow.mapGetG (encK:=vs) (encV:=jA_) (k:=name) (z:=none) rfl rfl Tryz.underlying127 x0_ zrPf rfl rfl hso hms ?_
  with_reducible refine Ow.nil ?_
  refine⟨by intro b hb;simp only[List.mem_cons,List.not_mem_nil,or_false] at hb;(try subst hb);rfl, ?_⟩
  rw[hnp.get (hP.ok.seen k hk3).nodup]
  show Ow _ _ _ _ _ _ _ _
  cases hf:zB_ (S.dir k).seen name with
  |none=>
   have hp0:jA_ none= .pointer none:=rfl
   refine kq (And.intro @zK_ @hp0) ?_
   try with_reducible refine Ow.nil ?_
   first|with_reducible refine ks [] @zK_ ?_|refine kp @zK_ ?_
   refine⟨_,(ke @zK_), ?_⟩
   rw[if_neg he',hq,hf]
   exact⟨hE1,rfl,G,rfl,hP1⟩
  |some n=>
   have hp: ∀q:Nat,jA_ (some q)=vp q 0:=fun _=>rfl
   have hbk:G.bd∈keys L1:=zh_ hP1.disk
   obtain⟨hb1,hb2,hb3⟩:=qv_ S
   refine kq (And.intro @zK_ @hp) ?_
   try with_reducible refine Ow.nil ?_
   cases hnt: (name==to) with
   |true=>
    have hnt':name=to:=eq_of_beq hnt
    first|with_reducible refine ks [] (And.intro @zK_ (And.intro @hr6 (And.intro @hr7 (@hnt)))) ?_|refine kp (And.intro @zK_ (And.intro @hr6 (And.intro @hr7 (@hnt)))) ?_
    refine Ow.callM rfl rfl Tryz.call81 hbk (fun w' hw'=>vl_ G.bd G.bm S w' hP.ok.fuse (hw'.has _ _ (zy_ hP1.disk))) ?_
    have hP2:=hP1.setDisk (zu_ S).1 hb1 hb2 (xJ_ hP.ok)
    have hE2:=hE1.setB (b:=G.bd) (o:=j2_ G.bm (zu_ S).1)
    generalize setB L1 G.bd (j2_ G.bm (zu_ S).1)=L2 at*
    refine ko @zK_ ?_
    first|with_reducible refine ks [] @zK_ ?_|refine kp @zK_ ?_
    refine⟨_,(ke @zK_), ?_⟩
    rw[if_neg he',hq,hf]
    simp only
    rw[if_pos hnt']
    exact⟨hE2,rfl,G,rfl,hP2⟩
   |false=>
    have hnt':name≠to:=fun e=>by rw[e] at hnt;simp at hnt
    first|with_reducible refine ks [] (And.intro @zK_ (And.intro @hr6 (And.intro @hr7 (@hnt)))) ?_|refine kp (And.intro @zK_ (And.intro @hr6 (And.intro @hr7 (@hnt)))) ?_
    simp only[List.map_toArray,List.map_cons,List.map_nil,zY_,zV_,zX_]
    refine Ow.callX (X:=L1) (Y:= []) (List.append_nil _).symm rfl rfl Tryz.call116 (fun w' hw' hX' hn'=>Z0_ L1 G S k ⟨1,name,to,0⟩ (.func (.func 121) #[] #[vp b6 0,vp b7 0]) w' hX' hn' hP1 hk3 ⟨b6,b7,rfl,hl6,hl7⟩ (fun _=>⟨by rw[hf];simp,hnt'⟩) (fun h=>by cases h) (hpl k hk3)) (fun v4 D4 hC4 hS4=> ?_)
    obtain⟨rfl,hS4⟩:=hS4
    have hE4:=hE1.came0 hC4
    rw[List.append_nil]
    refine ko @zK_ ?_
    first|with_reducible refine ks [] @zK_ ?_|refine kp @zK_ ?_
    refine⟨_,(ke @zK_), ?_⟩
    rw[if_neg he',hq,hf]
    simp only
    rw[if_neg hnt']
    by_cases hbn': (zu_ S).2=0
    ·rw[if_neg (by rw[hbn'];simp)] at hS4
     rw[if_neg (by rw[hbn'];simp)]
     obtain⟨v5,hP5⟩:=hS4
     rw[hk]
     exact⟨hE4,by rw[hbn'];rfl,setP G k v5,rfl,hP5⟩
    ·rw[if_pos hbn'] at hS4
     rw[if_pos hbn']
     subst hS4
     exact⟨hE4,rfl,G,rfl,hP1.setDisk (zu_ S).1 hb1 hb2 (xJ_ hP.ok)⟩
end Go.Proofs
end
section
open Go Go.Proofs Go.Sx Go.StP
namespace Go.Proofs
set_option maxRecDepth 10000
set_option maxHeartbeats 400000
set_option linter.unusedSimpArgs false
structure CpG where
 L:zb_
 it:Obj
 o:Obj
 dn:List (List UInt8×Option Nat)
 lf:List (List UInt8×Option Nat)
theorem Kd_ {α β:Type} [BEq α] [LawfulBEq α] {k:α} {v:β}: ∀ {m:List (α×β)},(∀p,p∈m→p.1≠k)→updG k v m=m++ [(k,v)]
 | [],_=>rfl
 |p::r,h=>by
  have h1: (k==p.1)=false:=beq_eq_false_iff_ne.2 fun e=>h p List.mem_cons_self e.symm
  unfold updG
  rw[if_neg (by rw[h1];simp),Kd_ fun q hq=>h q (List.mem_cons_of_mem _ hq)];rfl
set_option linter.defProp false
def vk_:=And.intro (And.intro (And.intro (@zp_) (@zo_)) (And.intro (@Sx.tup2_0) (@Sx.tup2_1))) (And.intro (And.intro (@WD_) (@Sx.tup3_0)) (And.intro (@Sx.tup3_1) (@Sx.tup3_2)))
theorem ajS_ (X:zb_) (bt bs:Nat) (ot os:Obj) (m:List (List UInt8×Option Nat)) (w:World) (hX: ∀p,p∈X→w.heap[p.1]? =some p.2) (hn: (keys X).Nodup)
  (ht:Sx.look X bt=some ot) (hmt:Zz_ vs jA_ ot ([]:List (List UInt8×Option Nat))) (hs:Sx.look X bs=some os) (hms:Zz_ vs jA_ os m) (hne:bt≠bs) (hnd: (m.map Prod.fst).Nodup):
  Rets Tryz.prog 120 #[vm bt,vm bs] w (XS w X (fun v D=>v=xW_ []∧(∀b o,b≠bt→Sx.look X b=some o→Sx.look D b=some o)∧ ∃o' m',Sx.look D bt=some o'∧Zz_ vs jA_ o' m'∧m'.Perm m)):=by
 refine Rets.enterX Tryz.func120 rfl (rs:= []) Tryz.results120 Tryz.ntmps120 hX hn ?_
 refine kf ?_
 first|with_reducible refine ks [] @vk_ ?_|refine kp @vk_ ?_
 refine Ow.rangeMapG (encK:=vs) (encV:=jA_) rfl rfl Tryz.underlying127 rfl (ze_ hs) hms fun bi oi hbi hwi hI=> ?_
 have hbiX: ∀b o,Sx.look X b=some o→b≠bi:=fun b o hb e=>by
  have:=zi_ hbi (zh_ hb)
  omega
 refine ko @vk_ ?_
 first|with_reducible refine ks [] @vk_ ?_|refine kp @vk_ ?_
 refine Cw.loopG (G:=CpG) [8,9,10,11,12,4,5,13,14,15] (fun g=> []) (fun g=>g.L) (fun g=>Sx.look g.L bi=some g.it∧Sx.look g.L bt=some g.o∧Zz_ vs jA_ g.o g.dn∧(∀b o,b≠bt→Sx.look X b=some o→Sx.look g.L b=some o)∧Ext w X g.L∧ItG vs jA_ g.it bs os m g.dn g.lf) (fun g=>g.lf.length) ⟨X++ [(bi,oi)],oi,ot,[],m⟩ rfl rfl ?_ ?_
 ·exact⟨xM_ hbi,zk_ ht,hmt,fun b o _ hb=>zk_ hb,(Ext.refl w X).app hwi,hI⟩
 intro g j hg
 refine kv ?_
 clear hI
 obtain⟨L,it,o,dn,lf⟩:=g
 simp only at hg ⊢
 obtain⟨hli,hlt,hmo,hkeep,hE,hI⟩:=hg
 have hls:=hkeep bs os (Ne.symm hne) hs
 have hit:bt≠bi:=hbiX _ _ ht
 have hsi:bs≠bi:=hbiX _ _ hs
 first|with_reducible refine ks [] @vk_ ?_|refine kp @vk_ ?_
 refine Ow.nextMapG rfl rfl rfl hli (ze_ hls) hI (fun hlf=> ?_) (fun p it' lf' hl' hI'=> ?_)
 ·subst hlf
  have hp:=w8_ hI
  rw[List.append_nil] at hp
  refine ko @vk_ ?_
  first|with_reducible refine ks [] @vk_ ?_|refine kp @vk_ ?_
  refine⟨_,(ke @vk_), ?_⟩
  exact⟨hE,rfl,hkeep,o,dn,hlt,hmo,hp⟩
 ·have h1:Sx.look (setB L bi it') bi=some it':=qa_ hli
  have h2:Sx.look (setB L bi it') bt=some o:=by rw[zm_ (Ne.symm hit)];exact hlt
  have h3:Sx.look (setB L bi it') bs=some os:=by rw[zm_ (Ne.symm hsi)];exact hls
  have h4: ∀b o,b≠bt→Sx.look X b=some o→Sx.look (setB L bi it') b=some o:=fun b o hb hx=>by rw[zm_ (Ne.symm (hbiX _ _ hx))];exact hkeep b o hb hx
  have hE1:=hE.setB (b:=bi) (o:=it')
  generalize setB L bi it'=L1 at*
  refine ko @vk_ ?_
  first|with_reducible refine ks [] @vk_ ?_|refine kp @vk_ ?_
  refine Ow.entryMapG (encK:=vs) (encV:=jA_) rfl rfl rfl (ze_ h1) (ze_ h3) hI' ?_
  obtain⟨s,q⟩:=p
  have hp:=w8_ hI'
  have hds: ∀p,p∈dn→p.1≠s:=by
   have h5:=((hp.map Prod.fst).nodup_iff).2 hnd
   rw[List.map_append,List.map_append,List.nodup_append] at h5
   have h6:=h5.1
   rw[List.nodup_append] at h6
   intro p hp' e
   exact h6.2.2 p.1 (List.mem_map_of_mem hp') s (by simp) e
  refine ko @vk_ ?_
  first|with_reducible refine ks [] @vk_ ?_|refine kp @vk_ ?_
  refine Ow.mapUpdateG (encK:=vs) (encV:=jA_) (k:=s) (v:=q) rfl rfl Tryz.underlying127 x0_ rfl rfl rfl h2 hmo (fun o2 hm2=> ?_)
  rw[Kd_ hds] at hm2
  refine ko @vk_ ?_
  first|with_reducible refine ks [] @vk_ ?_|refine kp @vk_ ?_
  exact Again.mk ⟨setB L1 bt o2,it',o2,dn++ [(s,q)],lf'⟩ (by show lf'.length<lf.length;omega) ⟨by show Sx.look (setB L1 bt o2) bi=_;rw[zm_ hit];exact h1,qa_ h2,hm2,fun b o hb hx=>by show Sx.look (setB L1 bt o2) b=_;rw[zm_ (Ne.symm hb)];exact h4 b o hb hx,hE1.setB,hI'⟩ rfl rfl
end Go.Proofs
end
section
open Go Go.Proofs Go.Sx Go.StP
namespace Go.Proofs
set_option maxRecDepth 10000
set_option maxHeartbeats 400000
set_option linter.unusedSimpArgs false
def an9_ (G:DkG) (k s':Nat):DkG:={G with s:=fun j=>if j=k then s' else G.s j,p:=fun j=>if j=k then .slice none 0 0 else G.p j}
theorem DkP.calm {X L:zb_} {G:DkG} {S:DiskL} (h:DkP X G S) {k:Nat} (hk:k<3) {s':Nat} (d:DirL) (hd0:d.pend= [])
  (keep: ∀b o,Sx.look X b=some o→b≠G.t k→b≠G.d k→Sx.look L b=some o) (hs:NmM L G.fb s' d.seen) (ht:NmM L G.fb (G.t k) d.stl)
  (hd:Sx.look L (G.d k)=some (kl_ s' (G.t k) (.slice none 0 0))) (hsn:s'=G.s k∨s'∉keys X) (h1:SrtN d.seen) (h2:SrtN d.stl) (h3: ∀p,p∈d.seen→p.2<S.files.length) (h4: ∀p,p∈d.stl→p.2<S.files.length):
  DkP L (an9_ G k s') (qB_ S k d):=by
 obtain⟨otk,mtk,hotk,hmtk,-⟩:=h.stl k hk
 have hnt: ∀b o,Sx.look X b=some o→tyO o≠none→b≠G.t k:=by
  rintro b o hb ht rfl
  rw[hotk] at hb;cases hb;exact ht (q9_ hmtk)
 have hnd: ∀b o,Sx.look X b=some o→tyO o≠some 130→b≠G.d k:=by
  rintro b o hb ht rfl
  rw[h.dir k hk] at hb;cases hb;exact ht rfl
 have K: ∀b o,Sx.look X b=some o→tyO o≠none→tyO o≠some 130→Sx.look L b=some o:=fun b o hb h1 h2=>keep b o hb (hnt b o hb h1) (hnd b o hb h2)
 have KM: ∀b o,Sx.look X b=some o→tyO o=none→b≠G.t k→Sx.look L b=some o:=fun b o hb h1 h2=>keep b o hb h2 (hnd b o hb (by rw[h1];intro e;cases e))
 have KF: ∀ {w c},FnP X G.fb w c→FnP L G.fb w c:=fun hw=>hw.keep fun b o hb hx=>K b o hb (by rcases hx with⟨s,rfl⟩ | ⟨a,rfl⟩<;>simp[tyO,wj_,ptrO]) (by rcases hx with⟨s,rfl⟩ | ⟨a,rfl⟩<;>simp[tyO,wj_,ptrO])
 have hs1: ∀j,j<3→j≠k→s'≠G.s j:=fun j hj hjk=>by
  rcases hsn with e|e
  ·rw[e];exact(QQ_ h.nodm hk hj).1 (Ne.symm hjk)
  ·obtain⟨o,m,ho,-⟩:=h.seen j hj
   rintro rfl;exact e (zh_ ho)
 have hs2: ∀j,j<3→s'≠G.t j:=fun j hj=>by
  rcases hsn with e|e
  ·rw[e];exact(QQ_ h.nodm hk hj).2.2
  ·obtain⟨o,m,ho,-⟩:=h.stl j hj
   rintro rfl;exact e (zh_ ho)
 have hs3:G.bm≠s':=by
  rcases hsn with e|e
  ·rw[e];exact(h.nodb k hk).1
  ·obtain⟨o,ho,-⟩:=h.dirs
   rintro rfl;exact e (zh_ ho)
 refine⟨?_, ?_, ?_, ?_, ?_, ?_, ?_,h.len,h.nodf, ?_,h.nodd, ?_, ?_, ?_⟩
 ·exact K _ _ h.disk (by simp[tyO,j2_]) (by simp[tyO,j2_])
 ·obtain⟨o,h1,h2⟩:=h.dirs
  exact⟨o,KM _ _ h1 (q9_ h2) (h.nodb k hk).2,h2⟩
 ·intro j hj
  show Sx.look L (G.d j)=some (kl_ (if j=k then s' else G.s j) (G.t j) (if j=k then .slice none 0 0 else G.p j))
  by_cases e:j=k
  ·subst e;rw[if_pos rfl,if_pos rfl];exact hd
  ·rw[if_neg e,if_neg e]
   exact keep _ _ (h.dir j hj) (hnt _ _ (h.dir j hj) (by simp[tyO,kl_])) (ap7_ h.nodd hj hk e)
 ·intro j hj
  show NmM L G.fb (if j=k then s' else G.s j) (if j=k then d else S.dir j).seen
  by_cases e:j=k
  ·subst e;rw[if_pos rfl,if_pos rfl];exact hs
  ·rw[if_neg e,if_neg e]
   obtain⟨o,m,h1,h2,h3⟩:=h.seen j hj
   exact⟨o,m,KM _ _ h1 (q9_ h2) (QQ_ h.nodm hj hk).2.2,h2,h3⟩
 ·intro j hj
  show NmM L G.fb (G.t j) (if j=k then d else S.dir j).stl
  by_cases e:j=k
  ·subst e;rw[if_pos rfl];exact ht
  ·rw[if_neg e]
   obtain⟨o,m,h1,h2,h3⟩:=h.stl j hj
   exact⟨o,m,KM _ _ h1 (q9_ h2) ((QQ_ h.nodm hj hk).2.1 e),h2,h3⟩
 ·intro j hj
  by_cases e:j=k
  ·subst e
   refine⟨[], ?_, ?_,fun i hi=>absurd hi (Nat.not_lt_zero _)⟩
   ·show 0=(if j=j then d else S.dir j:DirL).pend.length
    rw[if_pos rfl,hd0];rfl
   ·show Gr L _ 1 (if j=j then .slice none 0 0 else G.p j) 0 []
    rw[if_pos rfl];exact Gr.nl
  ·obtain⟨vj,h1,h2,h3⟩:=h.pend j hj
   refine⟨vj, ?_, ?_, ?_⟩
   ·show vj.length=(if j=k then _ else S.dir j:DirL).pend.length
    rw[if_neg e];exact h1
   ·show Gr L _ 1 (if j=k then .slice none 0 0 else G.p j) vj.length vj
    rw[if_neg e]
    refine h2.keep fun b o hb ho=> ?_
    obtain⟨arr,ha⟩:=Jq_ h2 hb
    rw[ho] at ha;cases ha
    exact K _ _ ho (by simp[tyO]) (by simp[tyO])
   ·intro i hi
    show FnP L G.fb (vj.getD i undef) ((if j=k then _ else S.dir j:DirL).pend.getD i wB_)
    rw[if_neg e]
    exact KF (h3 i hi)
 ·intro n hn
  exact K _ _ (h.file n hn) (by simp[tyO,vI_]) (by simp[tyO,vI_])
 ·have hn:=h.nodm
  have hk':k=0∨k=1∨k=2:=by omega
  rcases hk' with rfl|rfl|rfl
  ·show [s',G.s 1,G.s 2,G.t 0,G.t 1,G.t 2].Nodup
   exact List.nodup_cons.2 ⟨by simp only[List.mem_cons,List.not_mem_nil,or_false,not_or];exact⟨hs1 1 (by omega) (by omega),hs1 2 (by omega) (by omega),hs2 0 (by omega),hs2 1 (by omega),hs2 2 (by omega)⟩,(List.nodup_cons.1 hn).2⟩
  ·show [G.s 0,s',G.s 2,G.t 0,G.t 1,G.t 2].Nodup
   refine(List.Perm.swap (G.s 0) s' _).nodup_iff.1 ?_
   exact List.nodup_cons.2 ⟨by simp only[List.mem_cons,List.not_mem_nil,or_false,not_or];exact⟨hs1 0 (by omega) (by omega),hs1 2 (by omega) (by omega),hs2 0 (by omega),hs2 1 (by omega),hs2 2 (by omega)⟩,(List.nodup_cons.1 ((List.Perm.swap (G.s 0) (G.s 1) _).nodup_iff.2 hn)).2⟩
  ·show [G.s 0,G.s 1,s',G.t 0,G.t 1,G.t 2].Nodup
   have hp: ∀x:Nat,(x:: [G.s 0,G.s 1,G.t 0,G.t 1,G.t 2]).Perm [G.s 0,G.s 1,x,G.t 0,G.t 1,G.t 2]:=fun x=>((List.perm_middle (l₁:= [G.s 0,G.s 1]) (a:=x) (l₂:= [G.t 0,G.t 1,G.t 2]))).symm
   refine(hp s').nodup_iff.1 ?_
   exact List.nodup_cons.2 ⟨by simp only[List.mem_cons,List.not_mem_nil,or_false,not_or];exact⟨hs1 0 (by omega) (by omega),hs1 1 (by omega) (by omega),hs2 0 (by omega),hs2 1 (by omega),hs2 2 (by omega)⟩,(List.nodup_cons.1 ((hp (G.s 2)).nodup_iff.2 hn)).2⟩
 ·intro j hj
  show G.bm≠ (if j=k then s' else G.s j)∧G.bm≠G.t j
  by_cases e:j=k
  ·rw[if_pos e];exact⟨hs3,(h.nodb j hj).2⟩
  ·rw[if_neg e];exact h.nodb j hj
 ·intro i j hi hj hij b hb
  show slB (if j=k then .slice none 0 0 else G.p j)≠some b
  have hb':slB (if i=k then .slice none 0 0 else G.p i)=some b:=hb
  by_cases ei:i=k
  ·rw[if_pos ei] at hb';cases hb'
  ·rw[if_neg ei] at hb'
   by_cases ej:j=k
   ·rw[if_pos ej];intro e;cases e
   ·rw[if_neg ej];exact h.nodp i j hi hj hij b hb'
 ·exact wO_ h.ok _ h1 h2 h3 h4 (fun c hc=>by rw[hd0] at hc;cases hc)
set_option linter.defProp false
def abh_:=And.intro (And.intro (And.intro (@zp_) (@zo_)) (And.intro (@qZ_) (@jD_))) (And.intro (And.intro (@jx_) (@jy_)) (And.intro (@Sx.tup2_0) (@Sx.tup2_1)))
def Z1_ (S:DiskL) (k:Nat):DiskL:=qB_ S k ⟨(S.dir k).seen,(S.dir k).seen,[]⟩
theorem aeW_ (X:zb_) (G:DkG) (S:DiskL) (k:Nat) (w:World) (hX: ∀p,p∈X→w.heap[p.1]? =some p.2) (hn: (keys X).Nodup) (hP:DkP X G S) (hk:k<3):
  Rets Tryz.prog 75 #[vp (G.d k) 0] w (XS w X (fun v D=>v=xW_ []∧DkP D (an9_ G k (G.s k)) (Z1_ S k)∧ ∀b o,Sx.look X b=some o→b≠G.t k→b≠G.d k→Sx.look D b=some o)):=by
 obtain⟨ot,mt,hot,hmt,hnt⟩:=hP.stl k hk
 obtain⟨os,ms,hos,hms,hns⟩:=hP.seen k hk
 have hdl:=hP.dir k hk
 have hst:G.s k≠G.t k:=(QQ_ hP.nodm hk hk).2.2
 have hnm: ∀ {b:Nat} {o:Obj} {m:List (List UInt8×Option Nat)},Sx.look X b=some o→Zz_ vs jA_ o m→G.d k≠b:=by
  rintro b o m hb hm rfl
  rw[hdl] at hb;cases hb
  obtain⟨es,cl,h,-⟩:=hm;cases h
 have hdt:=hnm hot hmt
 refine Rets.enterX Tryz.func75 rfl (rs:= []) Tryz.results75 Tryz.ntmps75 hX hn ?_
 refine kf ?_
 ((try with_reducible refine Cw.go [] ?_);(try simp(disch:=(first|assumption|omega| (simp only[kK_,kw_,UInt64.reduceToNat];try omega))) only[↓Sx.S0,Sx.S1,Tryz.fx,abh_,Nat.reduceAdd,Nat.reducePow,Int.reducePow,Nat.reduceBEq, ↓reduceIte,UInt8.reduceToNat,UInt16.reduceToNat,UInt32.reduceToNat,UInt64.reduceToNat,Int.reduceToNat,(ze_ (w0:=w) hdl)]))
 refine Ow.mapClearG (encK:=vs) (encV:=jA_) rfl rfl Tryz.underlying127 rfl hot hmt (fun o1 hm1=> ?_)
 have hO:Only X (setB X (G.t k) o1) (G.t k) o1:=Only.set hot
 have hE1:=(Ext.refl w X).setB (b:=G.t k) (o:=o1)
 generalize setB X (G.t k) o1=L1 at*
 have hdl1:Sx.look L1 (G.d k)=some (kl_ (G.s k) (G.t k) (G.p k)):=(hO.rest _ hdt).trans hdl
 have hos1:Sx.look L1 (G.s k)=some os:=(hO.rest _ hst).trans hos
 have hr1:=ze_ (w0:=w) hdl1
 refine ko @abh_ ?_
 first|with_reducible refine ks [] @abh_ ?_|refine kp @abh_ ?_
 refine Cw.regionS [G.d k] [0,1,2,4,5,6,3,7,8] [] (by kernel_rfl) (by kernel_rfl) (by kernel_rfl) ?_
 simp only[zl_, ↓zg_, ↓zc_, ↓zx_, ↓zw_,zd_]
 refine kq (And.intro @abh_ @hr1) ?_
 refine Ow.soft rfl rfl rfl ?_
 refine Ow.callX (X:=L1) (Y:= []) (List.append_nil _).symm rfl rfl Tryz.call120 (fun w' hw' hX' hn'=>ajS_ L1 (G.t k) (G.s k) o1 os ms w' hX' hn' hO.at_ hm1 hos1 hms (Ne.symm hst) (hns.keys (hP.ok.seen k hk).nodup)) (fun v4 D4 hC4 hS4=> ?_)
 obtain⟨rfl,hkp,o2,m2,hl2,hm2,hp2⟩:=hS4
 have hE2:=hE1.came0 hC4
 rw[List.append_nil]
 have hdl2:=hkp _ _ hdt hdl1
 have hr2:=ze_ (w0:=w) hdl2
 with_reducible refine Ow.nil ?_
 refine⟨fun b hb=>by rw[List.mem_singleton] at hb;subst hb;rw[hr1,hr2], ?_⟩
 refine kq @abh_ ?_
 try with_reducible refine Ow.nil ?_
 have st:=fun x=>JE_ (G.s k) (G.t k) (G.p k) (.slice none 0 0) x ⟨rfl,rfl⟩
 first|with_reducible refine ks [] (And.intro @abh_ (And.intro @hdl2 (@st))) ?_|refine kp (And.intro @abh_ (And.intro @hdl2 (@st))) ?_
 refine⟨_,(ke @abh_), ?_⟩
 have hkeep: ∀b o,Sx.look X b=some o→b≠G.t k→b≠G.d k→Sx.look (setB D4 (G.d k) (kl_ (G.s k) (G.t k) (.slice none 0 0))) b=some o:=fun b o hb h1 h2=>by
  rw[zm_ (Ne.symm h2)]
  exact hkp _ _ h1 ((hO.rest _ h1).trans hb)
 refine⟨hE2.setB,rfl, ?_,hkeep⟩
 have hos2:=hkp _ _ hst hos1
 refine hP.calm hk ⟨(S.dir k).seen,(S.dir k).seen,[]⟩ rfl hkeep ⟨os,ms, ?_,hms,hns⟩ ⟨o2,m2, ?_,hm2,hp2.trans hns⟩ (qa_ hdl2) (.inl rfl) (hP.ok.seen k hk) (hP.ok.seen k hk) (hP.ok.seenN k hk) (hP.ok.seenN k hk)
 ·rw[zm_ (hnm hos hms)];exact hos2
 ·rw[zm_ hdt];exact hl2
end Go.Proofs
end
section
open Go Go.Proofs Go.Sx Go.StP
namespace Go.Proofs
set_option maxRecDepth 10000
set_option maxHeartbeats 400000
set_option linter.unusedSimpArgs false
def zR_ (S:DiskL) (dir:List UInt8):DiskL×Nat:=
 if qU_ S dir []≠0 then(S,qU_ S dir []) else if(zu_ S).2≠0 then zu_ S else(Z1_ (zu_ S).1 ((zN_ dir).getD 0),0)
set_option linter.defProp false
def vn_:=And.intro (And.intro (And.intro (@zp_) (@zo_)) (And.intro (@qZ_) (@jD_))) (And.intro (And.intro (@jx_) (@jy_)) (And.intro (@Sx.tup2_0) (@Sx.tup2_1)))
theorem Qy_ (X:zb_) (G:DkG) (S:DiskL) (dir:List UInt8) (w:World) (hX: ∀p,p∈X→w.heap[p.1]? =some p.2) (hn: (keys X).Nodup) (hP:DkP X G S):
  Rets Tryz.prog 21 #[vp G.bd 0,vs dir] w (XS w X (fun v D=>v=vi ((zR_ S dir).2:Nat)∧ ∃G',G'.bd=G.bd∧DkP D G' (zR_ S dir).1)):=by
 refine Rets.enterX Tryz.func21 rfl (rs:= [.tmp 4]) Tryz.results21 Tryz.ntmps21 hX hn ?_
 refine kf ?_
 first|with_reducible refine ks [] @vn_ ?_|refine kp @vn_ ?_
 refine Ow.callC rfl rfl Tryz.call80 (fun w' hw'=>Rets.toX (xd_ w' G S dir (.slice none 0 0) [] (hP.world hw') (SlV.nil w') (by simp) (fun s hs=>by cases hs))) (fun B2 v2 D2 hA2 hB2 hN2 hS2=> ?_)
 obtain⟨rfl,hS2⟩:=hS2
 rw[List.append_nil]
 unfold zR_
 rcases hS2 with⟨he,rfl⟩ | ⟨he,k,hk,rfl⟩
 ·have e1:=jQ_ he
  refine ko @vn_ ?_
  first|with_reducible refine ks [] (And.intro @vn_ @e1) ?_|refine kp (And.intro @vn_ @e1) ?_
  refine⟨_,(ke @vn_), ?_⟩
  rw[if_pos he]
  exact⟨Ext.refl w X,rfl,G,rfl,hP⟩
 ·have he': ¬ (qU_ S dir []≠0):=by rw[he];simp
  have hk3:=(zE_ hk).1
  have e1: ((0:Int) !=0)=false:=rfl
  obtain⟨hb1,hb2,hb3⟩:=qv_ S
  refine ko @vn_ ?_
  first|with_reducible refine ks [] (And.intro @vn_ @e1) ?_|refine kp (And.intro @vn_ @e1) ?_
  refine Ow.callM rfl rfl Tryz.call81 (zh_ hP.disk) (fun w' hw'=>vl_ G.bd G.bm S w' hP.ok.fuse (hw'.has _ _ (zy_ hP.disk))) ?_
  have hP2:=hP.setDisk (zu_ S).1 hb1 hb2 (xJ_ hP.ok)
  have hE2:=(Ext.refl w X).setB (b:=G.bd) (o:=j2_ G.bm (zu_ S).1)
  generalize setB X G.bd (j2_ G.bm (zu_ S).1)=L2 at*
  by_cases hbn: (zu_ S).2=0
  ·have e2: (((zu_ S).2:Int) !=0)=false:=by rw[hbn];rfl
   refine ko (And.intro @vn_ @e2) ?_
   first|with_reducible refine ks [] @vn_ ?_|refine kp @vn_ ?_
   refine Ow.callX (X:=L2) (Y:= []) (List.append_nil _).symm rfl rfl Tryz.call75 (fun w' hw' hX' hn'=>aeW_ L2 G (zu_ S).1 k w' hX' hn' hP2 hk3) (fun v4 D4 hC4 hS4=> ?_)
   obtain⟨rfl,hS4,-⟩:=hS4
   have hE4:=hE2.came0 hC4
   rw[List.append_nil]
   refine ko @vn_ ?_
   first|with_reducible refine ks [] @vn_ ?_|refine kp @vn_ ?_
   refine⟨_,(ke @vn_), ?_⟩
   rw[if_neg he',if_neg (by rw[hbn];simp),hk]
   exact⟨hE4,rfl,an9_ G k (G.s k),rfl,hS4⟩
  ·have e2:=jQ_ hbn
   refine ko (And.intro @vn_ @e2) ?_
   first|with_reducible refine ks [] @vn_ ?_|refine kp @vn_ ?_
   refine⟨_,(ke @vn_), ?_⟩
   rw[if_neg he',if_pos hbn]
   exact⟨hE2,rfl,G,rfl,hP2⟩
def ame_ (w:World):Prop:= ∃e fz,w.heap[0]? =some (.cells #[vs zf_,vs Qc_,vs refD] e fz)
def wt_ (quota:Int):DiskL:=⟨fun _=>⟨[],[],[]⟩,[],quota,0,false,false⟩
theorem alP_ (b:Nat) (q:Int):q5_ (vc_ Tryz.prog 123) (zM_ Tryz.prog 123) [(0,vm b),(1,vi q)]=some (.agg #[vm b,vi q,vi 0, .bool false, .bool false]):=by
 rw[show vc_ Tryz.prog 123=some [(0,1),(1,1),(2,1),(3,1),(4,1)] from id (by kernel_rfl),show zM_ Tryz.prog 123=some (.agg #[.map none,vi 0,vi 0, .bool false, .bool false]) from id (by kernel_rfl)];rfl
theorem ane_ (a b:Nat):q5_ (vc_ Tryz.prog 130) (zM_ Tryz.prog 130) [(0,vm a),(1,vm b)]=some (.agg #[vm a,vm b, .slice none 0 0]):=by
 rw[show vc_ Tryz.prog 130=some [(0,1),(1,1),(2,1)] from id (by kernel_rfl),show zM_ Tryz.prog 130=some (.agg #[.map none, .map none, .slice none 0 0]) from id (by kernel_rfl)];rfl
theorem Zv_ (e:TypeId) (fz:Nat×Nat):zt_ (some (true,3)) (some (.cells #[vs zf_,vs Qc_,vs refD] e fz)) 0=some (.agg #[vs zf_,vs Qc_,vs refD]):=kR_ _ e fz 3 rfl
theorem KD_ {k:Nat} (hk:k<3):wI_ (.arr 3 (false,1)) (.agg #[vs zf_,vs Qc_,vs refD]) (some (k:Int))=some (vs (Ky_ k)):=by
 have:k=0∨k=1∨k=2:=by omega
 rcases this with rfl|rfl|rfl<;>rfl
def JY_ (d:Nat→Nat):Nat→List (List UInt8×Option Nat)
 |0=> []
 |k+1=>JY_ d k++ [(Ky_ k,some (d k))]
theorem Ks_ {d d':Nat→Nat}: ∀ {k:Nat},(∀j,j<k→d' j=d j)→JY_ d' k=JY_ d k
 |0,_=>rfl
 |k+1,h=>by
  unfold JY_
  rw[Ks_ fun j hj=>h j (by omega),h k (by omega)]
theorem ahh_ {d:Nat→Nat} {j:Nat} (hj:j<3): ∀ {k:Nat},k≤j→ ∀p,p∈JY_ d k→p.1≠Ky_ j
 |0,_,_,hp=>by cases hp
 |k+1,hk,p,hp=>by
  rcases List.mem_append.1 hp with hp|hp
  ·exact ahh_ hj (by omega) p hp
  ·rw[List.mem_singleton.1 hp]
   intro e
   have h1:=xV_ (k:=k) (by omega)
   have h2:=xV_ hj
   have e':Ky_ k=Ky_ j:=e
   rw[e',h2] at h1
   cases h1;omega
structure NwG where
 L:zb_
 o:Obj
 k:Nat
 d:Nat→Nat
 s:Nat→Nat
 t:Nat→Nat
def mtM (L:zb_) (b:Nat):Prop:= ∃o,Sx.look L b=some o∧Zz_ vs jA_ o ([]:List (List UInt8×Option Nat))
set_option linter.defProp false
def vR_:=And.intro (And.intro (@zp_) (And.intro (@zo_) (@qZ_))) (And.intro (@jD_) (And.intro (@jx_) (@jy_)))
theorem ab6_ (quota:Int) (w:World) (hq: -9223372036854775808≤quota∧quota<9223372036854775808) (hG:ame_ w):
  Rets Tryz.prog 28 #[vi quota] w (XS w [] (fun v D=> ∃G,v=vp G.bd 0∧DkP D G (wt_ quota))):=by
 obtain⟨e,fz,hg⟩:=hG
 refine Rets.enterX Tryz.func28 rfl (rs:= [.tmp 2]) Tryz.results28 Tryz.ntmps28 (fun p hp=>by cases hp) (by simp[keys]) ?_
 refine kf ?_
 first|with_reducible refine ks [] @vR_ ?_|refine kp @vR_ ?_
 refine Ow.makeMapG (encK:=vs) (encV:=jA_) rfl rfl (fun bm om hbm hwm hM=> ?_)
 rw[List.nil_append]
 refine ko @vR_ ?_
 refine Ow.build (.agg #[vm bm,vi quota,vi 0, .bool false, .bool false]) rfl (alP_ bm quota) ?_
 refine ko @vR_ ?_
 refine Ow.box rfl rfl fun bd hbd hwd=> ?_
 simp only[zY_,zV_,zX_,za_]
 have hmd:bm<bd:=zi_ hbd (by simp[keys])
 refine Ow.permL (M:= [(bm,om)]++ [(bd,j2_ bm (wt_ quota))]) (List.Perm.refl _) ?_
 have h0:Sx.look ([(bm,om)]++ [(bd,j2_ bm (wt_ quota))]) bm=some om:=by simp[Sx.look]
 have h1:Sx.look ([(bm,om)]++ [(bd,j2_ bm (wt_ quota))]) bd=some (j2_ bm (wt_ quota)):=xM_ hbd
 have hN:New w.heap.size ([(bm,om)]++ [(bd,j2_ bm (wt_ quota))]):=⟨hwm,hwd,trivial⟩
 generalize [(bm,om)]++ [(bd,j2_ bm (wt_ quota))]=L0 at*
 have hg0:=(Array.getElem?_eq_some_iff.1 hg).1
 have hrg:zz_ w L0 0=some (.cells #[vs zf_,vs Qc_,vs refD] e fz):=by rw[qN_ (hN.not hg0)];exact hg
 refine ko @vR_ ?_
 first|with_reducible refine ks [] (And.intro @vR_ (And.intro @hrg (@Zv_))) ?_|refine kp (And.intro @vR_ (And.intro @hrg (@Zv_))) ?_
 refine Cw.loopG (G:=NwG) [12,13,5,14,15,16,17,18,19,20,21,22,23,11] (fun g=> [(11,vi g.k)]) (fun g=>g.L) (fun g=>g.k≤3∧Sx.look g.L bm=some g.o∧Zz_ vs jA_ g.o (JY_ g.d g.k)∧Sx.look g.L bd=some (j2_ bm (wt_ quota))∧New w.heap.size g.L∧ ∀j,j<g.k→Sx.look g.L (g.d j)=some (kl_ (g.s j) (g.t j) (.slice none 0 0))∧mtM g.L (g.s j)∧mtM g.L (g.t j)∧g.s j<g.t j∧g.t j<g.d j∧bd<g.s j∧ ∀i,i<j→g.d i<g.s j) (fun g=>3 - g.k) ⟨L0,om,0,fun _=>0,fun _=>0,fun _=>0⟩ rfl rfl ?_ ?_
 ·exact⟨Nat.zero_le _,h0,hM,h1,hN,fun j hj=>absurd hj (Nat.not_lt_zero _)⟩
 intro g j hg
 refine kv ?_
 clear h0 hM h1 hN hrg
 obtain⟨L,o,k,d,s,t⟩:=g
 simp only at hg ⊢
 obtain⟨hk,hlm,hM,hld,hN,hall⟩:=hg
 by_cases hlt:k<3
 ·have d1:decide ((k:Int)<3)=true:=decide_eq_true (by omega)
  have ixk:=KD_ hlt
  have rdd:=ze_ (w0:=w) hld
  first|with_reducible refine ks [] (And.intro @vR_ (And.intro @d1 (And.intro @ixk (@rdd)))) ?_|refine kp (And.intro @vR_ (And.intro @d1 (And.intro @ixk (@rdd)))) ?_
  refine Ow.makeMapG (encK:=vs) (encV:=jA_) rfl rfl (fun bs os hbs hws hMs=> ?_)
  refine ko @vR_ ?_
  refine Ow.makeMapG (encK:=vs) (encV:=jA_) rfl rfl (fun bt ot hbt hwt hMt=> ?_)
  refine ko @vR_ ?_
  refine Ow.build (.agg #[vm bs,vm bt, .slice none 0 0]) rfl (ane_ bs bt) ?_
  refine ko @vR_ ?_
  refine Ow.box rfl rfl fun br hbr hwr=> ?_
  simp only[zY_,zV_,zX_,za_]
  refine Ow.permL (M:=L++ [(bs,os)]++ [(bt,ot)]++ [(br,kl_ bs bt (.slice none 0 0))]) (List.Perm.refl _) ?_
  have up: ∀b x,Sx.look L b=some x→Sx.look (L++ [(bs,os)]++ [(bt,ot)]++ [(br,kl_ bs bt (.slice none 0 0))]) b=some x:=fun b x h=>zk_ (zk_ (zk_ h))
  have ls:Sx.look (L++ [(bs,os)]++ [(bt,ot)]++ [(br,kl_ bs bt (.slice none 0 0))]) bs=some os:=zk_ (zk_ (xM_ hbs))
  have lt:Sx.look (L++ [(bs,os)]++ [(bt,ot)]++ [(br,kl_ bs bt (.slice none 0 0))]) bt=some ot:=zk_ (xM_ hbt)
  have lr:Sx.look (L++ [(bs,os)]++ [(bt,ot)]++ [(br,kl_ bs bt (.slice none 0 0))]) br=some (kl_ bs bt (.slice none 0 0)):=xM_ hbr
  have hN1:New w.heap.size (L++ [(bs,os)]++ [(bt,ot)]++ [(br,kl_ bs bt (.slice none 0 0))]):=((hN.app (show New w.heap.size [(bs,os)] from⟨hws,trivial⟩)).app (show New w.heap.size [(bt,ot)] from⟨hwt,trivial⟩)).app (show New w.heap.size [(br,kl_ bs bt (.slice none 0 0))] from⟨hwr,trivial⟩)
  have c1:bs<bt:=zi_ hbt (by rw[zj_];simp[keys])
  have c2:bt<br:=zi_ hbr (by rw[zj_];simp[keys])
  have c3:bd<bs:=zi_ hbs (zh_ hld)
  have c4: ∀j,j<k→d j<bs:=fun j hj=>zi_ hbs (zh_ (hall j hj).1)
  have c5:bm<bs:=zi_ hbs (zh_ hlm)
  generalize L++ [(bs,os)]++ [(bt,ot)]++ [(br,kl_ bs bt (.slice none 0 0))]=L1 at*
  refine ko @vR_ ?_
  refine Ow.mapUpdateG (encK:=vs) (encV:=jA_) (k:=Ky_ k) (v:=some br) rfl rfl Tryz.underlying121 x0_ rfl rfl rfl (up _ _ hlm) hM (fun o2 hm2=> ?_)
  rw[Kd_ (ahh_ hlt (Nat.le_refl _))] at hm2
  have ne: ∀b x,b≠bm→Sx.look L1 b=some x→Sx.look (setB L1 bm o2) b=some x:=fun b x h1 h2=>by rw[zm_ (Ne.symm h1)];exact h2
  refine ko @vR_ ?_
  first|with_reducible refine ks [] @vR_ ?_|refine kp @vR_ ?_
  refine Again.mk ⟨setB L1 bm o2,o2,k+1,fun j=>if j=k then br else d j,fun j=>if j=k then bs else s j,fun j=>if j=k then bt else t j⟩ (by show 3 - (k+1)<3 - k;omega) ⟨hlt,qa_ (up _ _ hlm), ?_,ne _ _ (by omega) (up _ _ hld),New.of_le fun q hq=>hN1.le q (by rwa [xu_] at hq),fun j hj=> ?_⟩ rfl rfl
  ·show Zz_ vs jA_ o2 (JY_ (fun j=>if j=k then br else d j) (k+1))
   unfold JY_
   rw[Ks_ (d:=d) fun j hj=>if_neg (by omega),if_pos rfl]
   exact hm2
  ·show Sx.look (setB L1 bm o2) (if j=k then br else d j)=some (kl_ (if j=k then bs else s j) (if j=k then bt else t j) (.slice none 0 0))∧mtM (setB L1 bm o2) (if j=k then bs else s j)∧mtM (setB L1 bm o2) (if j=k then bt else t j)∧(if j=k then bs else s j)< (if j=k then bt else t j)∧(if j=k then bt else t j)< (if j=k then br else d j)∧bd< (if j=k then bs else s j)∧ ∀i,i<j→(if i=k then br else d i)< (if j=k then bs else s j)
   by_cases e:j=k
   ·subst e
    simp only[if_pos]
    refine⟨ne _ _ (by omega) lr,⟨os,ne _ _ (by omega) ls,hMs⟩,⟨ot,ne _ _ (by omega) lt,hMt⟩,c1,c2,c3,fun i hi=> ?_⟩
    rw[if_neg (by omega)];exact c4 i hi
   ·simp only[if_neg e]
    have hj':j<k:=by have:j<k+1:=hj;omega
    obtain⟨q1,⟨oo,q2,q3⟩,⟨oo2,q4,q5⟩,q6,q7,q8,q9⟩:=hall j hj'
    refine⟨ne _ _ (by omega) (up _ _ q1),⟨oo,ne _ _ (by omega) (up _ _ q2),q3⟩,⟨oo2,ne _ _ (by omega) (up _ _ q4),q5⟩,q6,q7,q8,fun i hi=> ?_⟩
    rw[if_neg (by omega)];exact q9 i hi
 ·obtain rfl:k=3:=by omega
  have d1:decide (((3:Nat):Int)<3)=false:=rfl
  first|with_reducible refine ks [] (And.intro @vR_ @d1) ?_|refine kp (And.intro @vR_ @d1) ?_
  refine⟨_,(ke @vR_), ?_⟩
  obtain⟨a1,a2,a3,a4,a5,a6,a7⟩:=hall 0 (by omega)
  obtain⟨b1,b2,b3,b4,b5,b6,b7⟩:=hall 1 (by omega)
  obtain⟨c1,c2,c3,c4,c5,c6,c7⟩:=hall 2 (by omega)
  have b8:=b7 0 (by omega)
  have c8:=c7 1 (by omega)
  refine⟨Ext.of_new hN,⟨bd,bm,d,s,t,fun _=> .slice none 0 0,[]⟩,rfl,hld,⟨o,hlm,hM⟩,fun k hk=>(hall k hk).1,fun k hk=> ?_,fun k hk=> ?_,fun k hk=>⟨[],rfl,Gr.nl,fun i hi=>absurd hi (Nat.not_lt_zero _)⟩,fun n hn=>absurd hn (Nat.not_lt_zero _),rfl,List.nodup_nil, ?_, ?_,fun k hk=> ?_,fun i j hi hj hij b hb=>(by cases hb), ?_⟩
  ·obtain⟨x,y,z⟩:=(hall k hk).2.1
   exact⟨x,[],y,z,List.Perm.nil⟩
  ·obtain⟨x,y,z⟩:=(hall k hk).2.2.1
   exact⟨x,[],y,z,List.Perm.nil⟩
  ·show [s 0,s 1,s 2,t 0,t 1,t 2].Nodup
   simp only[List.nodup_cons,List.mem_cons,List.not_mem_nil,not_or,or_false,List.nodup_nil,and_true,not_false_eq_true]
   refine⟨⟨?_, ?_, ?_, ?_, ?_⟩,⟨?_, ?_, ?_, ?_⟩,⟨?_, ?_, ?_⟩,⟨?_, ?_⟩, ?_⟩<;>omega
  ·show [d 0,d 1,d 2].Nodup
   simp only[List.nodup_cons,List.mem_cons,List.not_mem_nil,not_or,or_false,List.nodup_nil,and_true,not_false_eq_true]
   refine⟨⟨?_, ?_⟩, ?_⟩<;>omega
  ·have:=(hall k hk).2.2.2
   show bm≠s k∧bm≠t k
   omega
  ·exact⟨fun _ _=>List.Pairwise.nil,fun _ _=>List.Pairwise.nil,fun _ _ p hp=>(by cases hp),fun _ _ p hp=>(by cases hp),fun _ _ c hc=>(by cases hc),fun f hf=>(by cases hf),⟨show(-9223372036854775808:Int)≤0 by decide,show(0:Int)<9223372036854775808 by decide,fun _=>show(0:Int)≤0 by decide⟩,hq⟩
end Go.Proofs
end
section
open Go Go.Proofs Go.Sx Go.StP
namespace Go.Proofs
set_option maxRecDepth 10000
set_option maxHeartbeats 400000
set_option linter.unusedSimpArgs false
structure FiL where
 dir:List UInt8
 name:List UInt8
 data:List UInt8
def fiC (r:FiL):List Value:= [vs r.dir]++ ([vs r.name]++ ([vs r.data]))
def fi0:FiL:=⟨[],[],[]⟩
theorem as0_ (r:FiL):fiC r=(([vs r.dir])++ ([vs r.name]))++ (([vs r.data])++ (([]:List Value))):=by
 unfold fiC;simp only[List.append_assoc,List.nil_append,List.append_nil]
theorem aqv_ {w:World} {v:Value} {l:List FiL} {b off:Nat} {arr:Array Value} {E:TypeId} {fz:Nat×Nat} (h:RowS 3 fiC fi0 w v l b off arr E fz) {k:Nat} (hk:k<l.length) (n:Nat):zt_ (some (false,n)) (some (.cells arr E fz)) (off+k*3+2)=some (vs (l.getD k fi0).data):=by
 rw[RowS.cell h hk (by omega)];generalize l.getD k fi0=r;rw[as0_];exact aaF_ _ _ _ (by simp)
abbrev FiSl (w:World) (v:Value) (l:List FiL):Prop:=SlV 3 fiC fi0 w v l
def jF_ (S:DiskL) (f:FiL):DiskL:=match zN_ f.dir with
 |some k=>if q7_ f.name=true∧f.data.length≤1048576 then qB_ (xC_ S ⟨f.data,f.data.length⟩) k ⟨Xw_ (S.dir k).seen (f.name,S.files.length),(S.dir k).stl,(S.dir k).pend⟩ else S
 |none=>S
def setV (S:DiskL) (vis:List Nat):DiskL:={S with dir:=fun k=>if k∈vis then⟨(S.dir k).seen,(S.dir k).seen,[]⟩ else S.dir k}
def ofD (quota:Int) (l:List FiL):DiskL:=setV (l.foldl jF_ (wt_ quota)) [0,1,2]
end Go.Proofs
end
section
open Go Go.Proofs Go.Sx Go.StP
namespace Go.Proofs
set_option maxRecDepth 10000
set_option maxHeartbeats 400000
set_option linter.unusedSimpArgs false
theorem vF_ {X:zb_} {c:Nat} {x:Obj} (h:jV_ X c) {b:Nat} {o:Obj} (hb:Sx.look X b=some o):Sx.look ((c,x)::X) b=some o:=by
 have:=zi_ h (zh_ hb)
 simp only[Sx.look]
 rw[if_neg (by omega)];exact hb
def FiB (l:List FiL):Prop:= ∀f,f∈l→f.name.length<1099511627776∧f.data.length<1099511627776
set_option linter.defProp false
end Go.Proofs
end
section
namespace Go.Proofs
open Go Go.Sx Go.StP Go.Shelf
set_option maxRecDepth 100000
def Tryz.keysL_ren:Go.Shelf.Ren:=⟨fun|7=>124|10=>164|n=>n,fun|23=>127|26=>9|3=>124|28=>185|0=>0|27=>184|33=>74|4=>4|n=>n,fun|n=>n⟩
theorem Tryz.keysL:Go.Proofs.SlLaysZ.n7 Tryz.prog Tryz.keysL_ren:={
 mixed:=by kernel_rfl
 f7:=⟨Tryz.f124.name,by decide,Tryz.func124.trans (congrArg some (by kernel_rfl))⟩
 f10:=⟨Tryz.f164.name,by decide,Tryz.func164.trans (congrArg some (by kernel_rfl))⟩
 t0:=Tryz.underlying0
 a0:=Tryz.isAgg0
 z0:=Tryz.sizeOf0
 v0:=Tryz.zeroValue0
 t4:=Tryz.underlying4
 a4:=Tryz.isAgg4
 z4:=Tryz.sizeOf4
 v4:=Tryz.zeroValue4
 t23:=Tryz.underlying127
 a23:=Tryz.isAgg127
 z23:=Tryz.sizeOf127
 v23:=Tryz.zeroValue127
 t26:=Tryz.underlying9
 a26:=Tryz.isAgg9
 z26:=Tryz.sizeOf9
 v26:=Tryz.zeroValue9
 t27:=Tryz.underlying184
 a27:=Tryz.isAgg184
 z27:=Tryz.sizeOf184
 v27:=Tryz.zeroValue184
 t28:=Tryz.underlying185
 a28:=Tryz.isAgg185
 z28:=Tryz.sizeOf185
 v28:=Tryz.zeroValue185
 t33:=Tryz.underlying74
 a33:=Tryz.isAgg74
 z33:=Tryz.sizeOf74
 v33:=Tryz.zeroValue74}
def Tryz.sortedL_ren:Go.Shelf.Ren:=⟨fun|6=>123|8=>162|9=>163|11=>192|13=>194|12=>193|23=>225|24=>226|14=>216|15=>217|16=>218|17=>219|18=>220|19=>221|20=>222|21=>223|22=>224|25=>236|26=>237|27=>238|28=>239|29=>240|30=>241|31=>248|n=>n,fun|26=>9|28=>185|24=>72|0=>0|3=>3|37=>219|48=>207|50=>252|4=>4|40=>284|39=>283|45=>288|5=>5|9=>9|51=>301|55=>305|57=>316|58=>77|33=>74|n=>n,fun|n=>n⟩
theorem Tryz.sortedL:Go.Proofs.SlLaysZ.n6 Tryz.prog Tryz.sortedL_ren:={
 mixed:=by kernel_rfl
 f6:=⟨Tryz.f123.name,by decide,Tryz.func123.trans (congrArg some (by kernel_rfl))⟩
 f8:=⟨Tryz.f162.name,by decide,Tryz.func162.trans (congrArg some (by kernel_rfl))⟩
 f11:=⟨Tryz.f192.name,by decide,Tryz.func192.trans (congrArg some (by kernel_rfl))⟩
 t0:=Tryz.underlying0
 a0:=Tryz.isAgg0
 z0:=Tryz.sizeOf0
 v0:=Tryz.zeroValue0
 t24:=Tryz.underlying72
 a24:=Tryz.isAgg72
 z24:=Tryz.sizeOf72
 v24:=Tryz.zeroValue72
 t26:=Tryz.underlying9
 a26:=Tryz.isAgg9
 z26:=Tryz.sizeOf9
 v26:=Tryz.zeroValue9
 t28:=Tryz.underlying185
 a28:=Tryz.isAgg185
 z28:=Tryz.sizeOf185
 v28:=Tryz.zeroValue185
 i26:=by kernel_rfl}
def Tryz.sortL_ren:Go.Shelf.Ren:=⟨fun|6=>163|8=>194|9=>193|19=>225|20=>226|21=>216|22=>217|23=>218|24=>219|25=>220|26=>221|27=>222|28=>223|29=>224|36=>236|31=>237|32=>238|37=>239|38=>240|39=>241|41=>248|n=>n,fun|27=>72|29=>9|3=>3|32=>219|26=>72|0=>0|44=>207|46=>252|4=>4|36=>284|35=>283|41=>288|5=>5|9=>9|53=>301|57=>305|63=>316|64=>77|n=>n,fun|n=>n⟩
theorem Tryz.sortL:Go.Proofs.SlLaysM.n6 Tryz.prog Tryz.sortL_ren:={
 mixed:=by kernel_rfl
 f6:=⟨Tryz.f163.name,by decide,Tryz.func163.trans (congrArg some (by kernel_rfl))⟩
 f8:=Tryz.func194.trans (congrArg some (by kernel_rfl))
 f9:=⟨Tryz.f193.name,by decide,Tryz.func193.trans (congrArg some (by kernel_rfl))⟩
 f19:=Tryz.func225.trans (congrArg some (by kernel_rfl))
 f20:=Tryz.func226.trans (congrArg some (by kernel_rfl))
 f21:=⟨Tryz.f216.name,by decide,Tryz.func216.trans (congrArg some (by kernel_rfl))⟩
 f22:=⟨Tryz.f217.name,by decide,Tryz.func217.trans (congrArg some (by kernel_rfl))⟩
 f23:=⟨Tryz.f218.name,by decide,Tryz.func218.trans (congrArg some (by kernel_rfl))⟩
 f24:=⟨Tryz.f219.name,by decide,Tryz.func219.trans (congrArg some (by kernel_rfl))⟩
 f25:=⟨Tryz.f220.name,by decide,Tryz.func220.trans (congrArg some (by kernel_rfl))⟩
 f26:=⟨Tryz.f221.name,by decide,Tryz.func221.trans (congrArg some (by kernel_rfl))⟩
 f27:=⟨Tryz.f222.name,by decide,Tryz.func222.trans (congrArg some (by kernel_rfl))⟩
 f28:=⟨Tryz.f223.name,by decide,Tryz.func223.trans (congrArg some (by kernel_rfl))⟩
 f29:=⟨Tryz.f224.name,by decide,Tryz.func224.trans (congrArg some (by kernel_rfl))⟩
 f31:=Tryz.func237.trans (congrArg some (by kernel_rfl))
 f32:=Tryz.func238.trans (congrArg some (by kernel_rfl))
 f36:=⟨Tryz.f236.name,by decide,Tryz.func236.trans (congrArg some (by kernel_rfl))⟩
 f37:=⟨Tryz.f239.name,by decide,Tryz.func239.trans (congrArg some (by kernel_rfl))⟩
 f38:=⟨Tryz.f240.name,by decide,Tryz.func240.trans (congrArg some (by kernel_rfl))⟩
 f39:=⟨Tryz.f241.name,by decide,Tryz.func241.trans (congrArg some (by kernel_rfl))⟩
 f41:=⟨Tryz.f248.name,by decide,Tryz.func248.trans (congrArg some (by kernel_rfl))⟩
 t0:=Tryz.underlying0
 a0:=Tryz.isAgg0
 z0:=Tryz.sizeOf0
 v0:=Tryz.zeroValue0
 t3:=Tryz.underlying3
 a3:=Tryz.isAgg3
 z3:=Tryz.sizeOf3
 v3:=Tryz.zeroValue3
 t4:=Tryz.underlying4
 a4:=Tryz.isAgg4
 z4:=Tryz.sizeOf4
 v4:=Tryz.zeroValue4
 t5:=Tryz.underlying5
 a5:=Tryz.isAgg5
 z5:=Tryz.sizeOf5
 v5:=Tryz.zeroValue5
 t9:=Tryz.underlying9
 a9:=Tryz.isAgg9
 z9:=Tryz.sizeOf9
 v9:=Tryz.zeroValue9
 t26:=Tryz.underlying72
 a26:=Tryz.isAgg72
 z26:=Tryz.sizeOf72
 v26:=Tryz.zeroValue72
 t27:=Tryz.underlying72
 a27:=Tryz.isAgg72
 z27:=Tryz.sizeOf72
 v27:=Tryz.zeroValue72
 t29:=Tryz.underlying9
 a29:=Tryz.isAgg9
 z29:=Tryz.sizeOf9
 v29:=Tryz.zeroValue9
 t32:=Tryz.underlying219
 a32:=Tryz.isAgg219
 z32:=Tryz.sizeOf219
 v32:=Tryz.zeroValue219
 t35:=Tryz.underlying283
 a35:=Tryz.isAgg283
 z35:=Tryz.sizeOf283
 v35:=Tryz.zeroValue283
 t36:=Tryz.underlying284
 a36:=Tryz.isAgg284
 z36:=Tryz.sizeOf284
 v36:=Tryz.zeroValue284
 t41:=Tryz.underlying288
 a41:=Tryz.isAgg288
 z41:=Tryz.sizeOf288
 v41:=Tryz.zeroValue288
 t44:=Tryz.underlying207
 a44:=Tryz.isAgg207
 z44:=Tryz.sizeOf207
 v44:=Tryz.zeroValue207
 t46:=Tryz.underlying252
 a46:=Tryz.isAgg252
 z46:=Tryz.sizeOf252
 v46:=Tryz.zeroValue252
 t53:=Tryz.underlying301
 a53:=Tryz.isAgg301
 z53:=Tryz.sizeOf301
 v53:=Tryz.zeroValue301
 t57:=Tryz.underlying305
 a57:=Tryz.isAgg305
 z57:=Tryz.sizeOf305
 v57:=Tryz.zeroValue305
 t63:=Tryz.underlying316
 a63:=Tryz.isAgg316
 z63:=Tryz.sizeOf316
 v63:=Tryz.zeroValue316
 t64:=Tryz.underlying77
 a64:=Tryz.isAgg77
 z64:=Tryz.sizeOf77
 v64:=Tryz.zeroValue77}
open Go.RowKit Go.Maps Go.Sort
theorem as8_ (m:Nat):AnyZ.SortsIn Tryz.prog Tryz.sortedL_ren Fence.wide m:=
 ⟨fun blk off cap ss W hH hblk hsz=>callsIn_wide.2 (AnyM.slices_Sort_string Tryz.sortL blk off cap ss W hH hblk hsz),
 fun p cap W=>callsIn_wide.2 (AnyM.slices_Sort_string_none Tryz.sortL p cap W)⟩
theorem ajK_ {a b:List UInt8} (h:ltB a b=true):leB a b=true:=by
 rw[Wy_,decide_eq_true_eq] at h
 simp only[leB,decide_eq_true_eq]
 exact List.le_of_lt h
theorem amp_ {l:NmL} (h:SrtN l) {ss:List (List UInt8)} (hp:ss.Perm (l.map Prod.fst)):ss.mergeSort (fun x y=>decide (x≤y))=l.map Prod.fst:=by
 show ss.mergeSort leB=_
 rw[mergeSort_of_perm hp]
 refine List.mergeSort_of_pairwise ?_
 exact List.pairwise_map.2 (h.imp fun h=>ajK_ h)
theorem atn_ {W:World} {base n:Nat} {T:TypeId} {v:Value} {xs:List Value} (h:W.ownsRow base T 1 v n xs): ∃D:zb_,(∀p,p∈D→W.heap[p.1]? =some p.2∧base≤p.1)∧(keys D).Nodup∧Gr D T 1 v n xs:=by
 obtain⟨hl,h⟩:=h
 rcases h with⟨rfl,rfl⟩ | ⟨g,cap,cur,rfl,hb,hg,hc,hm,hs,ht⟩
 ·obtain rfl:xs= []:=List.eq_nil_of_length_eq_zero (by simpa using hl)
  exact⟨[],fun p hp=>(by cases hp),List.nodup_nil,Gr.nl⟩
 ·refine⟨[(g, .cells cur T (0,0))], ?_,by simp[keys], ?_⟩
  ·intro p hp
   simp only[List.mem_singleton] at hp
   subst hp
   exact⟨hg,hb⟩
  ·by_cases h0:0<cap
   ·refine .inl (Buf.at_ (rest:=cur.toList.drop (n*1)) ?_ hl ?_ hc h0)
    ·rw[←ht,List.take_append_drop]
     simp[Sx.look]
    ·rw[List.length_drop,Array.length_toList,hs];omega
   ·obtain rfl:cap=0:=by omega
    obtain rfl:n=0:=by omega
    refine .inr ⟨rfl,List.eq_nil_of_length_eq_zero (by simpa using hl),g,rfl, ?_⟩
    have:cur= #[]:=Array.eq_empty_of_size_eq_zero (by simpa using hs)
    simp[Sx.look,this]
def RN (_:Value):Option (DataW Unit×List MemPlace):=some (.nil,[])
theorem aql_ {w:World} {b:Nat} {o:Obj} {m:List (List UInt8×Option Nat)} (ho:w.heap[b]? =some o) (hM:Zz_ vs jA_ o m) (hn: (m.map Prod.fst).Nodup) (hk: ∀p,p∈m→p.1.length≤1000000) (hs:m.length≤1000000):
  ∃D0:DataW Unit,w.ownsMap Tryz.prog 9 RN b m.length D0∧Maps.size D0≤1000000∧(strKeys D0).Perm (m.map Prod.fst):=by
 obtain⟨es,clock,rfl,he,hb⟩:=hM
 have hlen:es.size=m.length:=by have:=congrArg List.length he;simpa using this
 have hkey:es.toList.map (·.key)=m.map fun p=>vs p.1:=by
  have:=congrArg (List.map Prod.fst) he
  simpa [kC_,Function.comp_def] using this
 have hrd: ∀x,x∈es.toList→ ∃s:List UInt8,x.key=vs s∧s.length≤1000000:=by
  intro x hx
  have:x.key∈m.map fun p=>vs p.1:=by rw[←hkey];exact List.mem_map.2 ⟨x,hx,rfl⟩
  obtain⟨p,hp,e⟩:=List.mem_map.1 this
  exact⟨p.1,e.symm,hk p hp⟩
 have hrd2: ∀x,x∈es.toList→ ∀s:List UInt8,x.key=vs s→s.length≤1000000→WideElems.rd Tryz.prog 9 RN x=some (.string s, .nil):=by
  intro x hx s hs hl
  have hL:s.length≤maxLen:=Nat.le_trans hl (by decide)
  have hL2: (ByteArray.mk s.toArray).size≤maxLen:=hL
  simp[WideElems.rd,keyOf,Tryz.underlying9,mapKey,hs,RN,vs,hL2]
 have hbo:=List.pairwise_append.1 hb
 refine⟨_,⟨es,clock,ho,⟨?_,⟨?_, ?_, ?_⟩, ?_⟩,by omega,rfl⟩, ?_, ?_⟩
 ·rw[hlen];exact Nat.le_trans hs (by decide)
 ·intro x hx
  exact hbo.2.2 x.born (List.mem_map.2 ⟨x,hx,rfl⟩) clock (by simp)
 ·exact hbo.1.imp fun h=>Nat.ne_of_lt h
 ·rw[hkey]
  have: (m.map Prod.fst).map vs=m.map fun p=>vs p.1:=by simp[Function.comp_def]
  rw[←this]
  refine List.pairwise_map.2 (hn.imp fun h e=>h ?_)
  simpa [vs] using e
 ·intro x hx
  obtain⟨s,e,hl⟩:=hrd x hx
  exact⟨_,hrd2 x hx s e hl⟩
 ·rw[Maps.size_eq,(WideShapes.sorted_perm _).length_eq,List.length_map,Array.length_toList,hlen];exact hs
 ·show(List.map (fun p:Lit×DataW Unit=>strOf p.1) _).Perm _
  refine((WideShapes.sorted_perm _).map _).trans (List.Perm.of_eq ?_)
  rw[List.map_map]
  refine List.map_congr_left ?_|>.trans (?_:es.toList.map (fun x=>match x.key with| .string s=>s.data.toList|_=> [])=_)
  ·intro x hx
   obtain⟨s,e,hl⟩:=hrd x hx
   simp only[Function.comp]
   rw[WideElems.rg_of (hrd2 x hx s e hl),e]
   rfl
  ·have:es.toList.map (fun x=>match x.key with| .string s=>s.data.toList|_=> [])=(es.toList.map (·.key)).map (fun k=>match k with| .string s=>s.data.toList|_=> []):=by rw[List.map_map];rfl
   rw[this,hkey,List.map_map]
   rfl
theorem acV_ (X:zb_) (G:DkG) (S:DiskL) (k c:Nat) (w:World) (hP:DkP X G S) (hX: ∀b o,Sx.look X b=some o→w.heap[b]? =some o) (hk:k<3) (hs: (S.dir k).seen.length≤1000000) (hl: ∀p,p∈ (S.dir k).seen→p.1.length≤1000000)
  (hc:w.heap[c]? =some (.cells #[vm (G.s k)] 127 (0,0))):
  Rets Tryz.prog 123 #[.func (.func 164) #[] #[vp c 0]] w (XS w [] (fun v D=>GrI D 9 1 v (S.dir k).seen.length ((S.dir k).seen.map fun p=>vs p.1))):=by
 obtain⟨o,m,h1,h2,h3⟩:=hP.seen k hk
 have ho:=hX _ _ h1
 have hlen:m.length=(S.dir k).seen.length:=by have:=h3.length_eq;simpa using this
 have hmk: ∀p,p∈m→p.1.length≤1000000:=by
  intro p hp
  have:=h3.mem_iff.1 hp
  obtain⟨q,hq,e⟩:=List.mem_map.1 this
  rw[←e];exact hl q hq
 obtain⟨D0,hown,hsz,hperm⟩:=aql_ ho h2 (h3.keys (hP.ok.seen k hk).nodup) hmk (by omega)
 have hcl:=(Array.getElem?_eq_some_iff.1 hc).1
 have hseq:SeqGives Fence.wide 2 Tryz.prog 164 #[.pointer (some ⟨c,0,none⟩)] encStr (fun ss=>ss.Perm (strKeys D0)) (Maps.size D0) w:=
  AnyZ.keys_gives (ρ:=Tryz.keysL_ren) {Tryz.keysL with} Fence.wide _ trivial rfl (by omega) c (G.s k) m.length D0 _ hcl (by simp[World.cell?,hc,vm]) hown
 have h:=AnyZ.sorted_in Tryz.sortedL Fence.wide 5 trivial trivial trivial trivial rfl (by omega) (as8_ _) (enters_of Tryz.func163 (by kernel_rfl) rfl) 164 #[.pointer (some ⟨c,0,none⟩)] trivial (enters_of Tryz.func164 (by kernel_rfl) rfl) _ (Maps.size D0) (Nat.le_trans hsz (by decide)) (by omega) w hseq
 refine Calls.mono (callsIn_wide.1 h) ?_
 rintro e w' ⟨v,ss,rfl,hS,hrow,-,hb⟩
 obtain⟨D,hD,hDn,hG⟩:=atn_ hrow
 have hss:ss.mergeSort (fun x y=>decide (x≤y))=(S.dir k).seen.map Prod.fst:=by
  refine amp_ (hP.ok.seen k hk) ((hS.trans hperm).trans ?_)
  have:=h3.map Prod.fst
  refine this.trans (List.Perm.of_eq ?_)
  rw[List.map_map];rfl
 have hsl:ss.length=(S.dir k).seen.length:=by
  have:=congrArg List.length hss
  simpa using this
 refine⟨v,D,rfl,⟨fun b o hm=>(hD _ hm).1,hDn,fun b hb' _=>hb.block b hb',hb.size,hb.tape,hb.os,hb.output⟩,⟨fun b hb'=> ?_,fun b hb'=>(by cases hb')⟩,⟨D,fun _ h=>h, ?_⟩⟩
 ·obtain⟨p,hp,rfl⟩:=List.mem_map.1 hb'
  exact .inr (hD p hp).2
 rw[hss,hsl] at hG
 have: ((S.dir k).seen.map Prod.fst).map encStr=(S.dir k).seen.map fun p=>vs p.1:=by rw[List.map_map];rfl
 rw[this] at hG
 exact hG
end Go.Proofs
end
section
open Go Go.Proofs Go.Sx Go.StP
namespace Go.Proofs
set_option maxRecDepth 10000
set_option maxHeartbeats 400000
set_option linter.unusedSimpArgs false
theorem aiB_ (b:Nat) (w:World):
  Rets Tryz.prog 124 #[vm b] w (XS w [] (fun v' D=> ∃b1,v'= .func (.func 164) #[] #[vp b1 0]∧D= [(b1, .cells #[vm b] 127 (0,0))])):=by
 refine Rets.enter Tryz.func124 rfl (rs:= [.tmp 2]) Tryz.results124 Tryz.ntmps124 ?_
 refine kf ?_
 first|with_reducible refine ks [] @Nat.add_zero ?_|refine kp @Nat.add_zero ?_
 refine Ow.box rfl rfl fun b1 hb1 hw1=> ?_
 simp only[zY_,zV_,vm,List.nil_append]
 refine ko @Nat.add_zero ?_
 refine⟨_,(ke @Nat.add_zero), ?_⟩
 exact⟨⟨fun c hc=>(by simp only[keys,List.map_cons,List.map_nil,List.mem_singleton] at hc;exact .inr (hc▸hw1)),fun c hc=>(by cases hc)⟩,b1,by simp[xW_,ev,Zq_],rfl⟩
def DkB (S:DiskL):Prop:= ∀k,k<3→(S.dir k).seen.length≤1000000∧ ∀p,p∈ (S.dir k).seen→p.1.length≤1000000
def Xj_ (S:DiskL) (dir:List UInt8):List (List UInt8):=if qU_ S dir []≠0 then [] else(S.dir ((zN_ dir).getD 0)).seen.map Prod.fst
set_option linter.defProp false
def Xi_:=And.intro (And.intro (And.intro (@zp_) (@zo_)) (And.intro (@qZ_) (@jD_))) (And.intro (And.intro (@jx_) (@jy_)) (And.intro (@Sx.tup2_0) (And.intro (@Sx.tup2_1) (@WD_))))
theorem WU_ (w:World) (G:DkG) (S:DiskL) (dir:List UInt8) (hD:DkW w G S) (hB:DkB S):
  Rets Tryz.prog 79 #[vp G.bd 0,vs dir] w (XS w [] (fun v D=>GrI D 9 1 v (Xj_ S dir).length ((Xj_ S dir).map vs))):=by
 have hD':=hD
 obtain⟨X,hX,hP⟩:=hD
 refine Rets.enter Tryz.func79 rfl (rs:= [.tmp 4]) Tryz.results79 Tryz.ntmps79 ?_
 refine kf ?_
 first|with_reducible refine ks [] @Xi_ ?_|refine kp @Xi_ ?_
 have hN1:New w.heap.size ([]:zb_):=trivial
 refine Ow.callC rfl rfl Tryz.call80 (fun w' hw'=>Rets.toX (xd_ w' G S dir (.slice none 0 0) [] (hD'.old hw' hN1) (SlV.nil w') (by simp) (fun s hs=>by cases hs))) (fun B2 v2 D2 hA2 hB2 hN2 hS2=> ?_)
 obtain⟨rfl,hS2⟩:=hS2
 rw[List.append_nil]
 unfold Xj_
 rcases hS2 with⟨he,rfl⟩ | ⟨he,k,hk,rfl⟩
 ·rw[if_pos he]
  have e1:=jQ_ he
  refine ko @Xi_ ?_
  first|with_reducible refine ks [] (And.intro @Xi_ @e1) ?_|refine kp (And.intro @Xi_ @e1) ?_
  refine⟨_,(ke @Xi_), ?_⟩
  exact⟨Ext.refl w [],Gr.nl.i fun _ h=>h⟩
 ·rw[if_neg (by rw[he];simp),hk]
  have hk3:=(zE_ hk).1
  have hdr:=hX _ _ (hP.dir k hk3)
  have e1: ((0:Int) !=0)=false:=rfl
  refine ko @Xi_ ?_
  first|with_reducible refine ks [] (And.intro @Xi_ (And.intro @e1 (@hdr))) ?_|refine kp (And.intro @Xi_ (And.intro @e1 (@hdr))) ?_
  refine Ow.callC rfl rfl Tryz.call124 (fun w' hw'=>aiB_ (G.s k) w') (fun B3 v3 D3 hA3 hB3 hN3 hS3=> ?_)
  obtain⟨b1,rfl,rfl⟩:=hS3
  rw[List.nil_append]
  have hN3':=hN3.mono hB3
  refine ko @Xi_ ?_
  refine Ow.callC rfl rfl Tryz.call123 (fun w' hw'=>acV_ X G S k b1 w' hP (fun b o h=>(hw'.old b (Array.getElem?_eq_some_iff.1 (hX b o h)).1 (hN3'.not (Array.getElem?_eq_some_iff.1 (hX b o h)).1)).trans (hX b o h)) hk3 (hB k hk3).1 (hB k hk3).2 (hw'.has _ _ List.mem_cons_self)) (fun B4 v4 D4 hA4 hB4 hN4 hS4=> ?_)
  refine ko @Xi_ ?_
  refine⟨_,(ke @Xi_), ?_⟩
  refine⟨Ext.of_new (hN3'.app (hN4.mono hB4)), ?_⟩
  rw[List.length_map,List.map_map]
  exact hS4.mono fun p hp=>List.mem_cons_of_mem _ hp
end Go.Proofs
end
section
open Go Go.Proofs Go.Sx Go.StP
namespace Go.Proofs
set_option maxRecDepth 10000
set_option maxHeartbeats 400000
set_option linter.unusedSimpArgs false
theorem acr_ {S:DiskL} {k:Nat} (hk:k<3):Xj_ S (Ky_ k)=(if S.off=true then [] else(S.dir k).seen).map Prod.fst:=by
 unfold Xj_ qU_
 rw[xV_ hk]
 cases S.off<;>simp
theorem aca_ (l:List (List UInt8)): (l.map strC).flatten=l.map vs:=by
 induction l with
 |nil=>rfl
 |cons x l ih=>simp[strC,ih]
set_option linter.defProp false
end Go.Proofs
end
section
open Go Go.Proofs Go.Sx Go.StP
namespace Go.Proofs
set_option maxRecDepth 10000
set_option maxHeartbeats 400000
set_option linter.unusedSimpArgs false
theorem auB_ (b:Nat):qI_ Tryz.prog .eql 127 (vm b) (.map none)=some (.bool false):=by
 simp[qI_,eqX,qz_,qq_,Tryz.underlying127,vm]
theorem agB_ (b:Nat) (o:Obj) (m:List (List UInt8×Option Nat)) (w:World) (ho:w.heap[b]? =some o) (hm:Zz_ vs jA_ o m):
  Rets Tryz.prog 83 #[vm b] w (XS w [] (fun v D=> ∃c o',v=vm c∧D= [(c,o')]∧Zz_ vs jA_ o' m)):=by
 refine Rets.enterX Tryz.func83 rfl (rs:= [.tmp 2]) Tryz.results83 Tryz.ntmps83 (fun p hp=>by cases hp) (by simp[keys]) ?_
 refine kf ?_
 have e1:=auB_ b
 first|with_reducible refine ks [] @e1 ?_|refine kp @e1 ?_
 refine Ow.ifaceMap rfl Tryz.underlying127 rfl ?_
 refine Ow.cloneMap (encK:=vs) (encV:=jA_) rfl rfl (fun a w=>run_callFunc_extern Tryz.func127 (by kernel_rfl) (by kernel_rfl) (by kernel_rfl) (e:=Extern.MapsClone.clone) (by kernel_rfl) #[a] w) rfl (by rw[qN_ (by simp[keys])];exact ho) hm fun c o' hc hwc hm'=> ?_
 refine Ow.assertMap rfl Tryz.underlying127 rfl ?_
 refine ko @Nat.add_zero ?_
 refine⟨_,(ke @Nat.add_zero), ?_⟩
 exact⟨(Ext.refl w []).app hwc,c,o',rfl,rfl,hm'⟩
def u16C (x:UInt16):List Value:= [v16 x]
theorem aoR_ (x:UInt16): (u16C x).length=1:=rfl
abbrev arM_ (w:World) (v:Value) (l:List UInt16):Prop:=SlV 1 u16C 0 w v l
def PkS (w:World) (v:Value) (l:List UInt16):Prop:=arM_ w v l∨(l= []∧ ∃a c,v= .slice (some a) 0 c)
theorem PkS.len {w:World} {v:Value} {l:List UInt16} (h:PkS w v l) (x:Bool×Nat):KK_ (.sl x) v=some (vi l.length):=by
 rcases h with h| ⟨rfl,a,c,rfl⟩
 ·exact SlV.len h x
 ·rfl
theorem PkS.cell {w:World} {v:Value} {l:List UInt16} (h:PkS w v l):Value.oneCell' v=true∧v.cells= #[v]:=by
 rcases h with⟨b,off,c,arr,E,fz,hr,hc,⟨rfl,-,-⟩ | ⟨rfl,-,-⟩⟩ | ⟨rfl,a,c,rfl⟩
 ·exact⟨rfl,rfl⟩
 ·exact⟨rfl,rfl⟩
 ·exact⟨rfl,rfl⟩
theorem PkS.old {w w':World} {L:zb_} {v:Value} {l:List UInt16} (h:PkS w v l) (hw:Hp w L w') (hb:l≠ []→ ∀b,slB v=some b→b∉keys L):PkS w' v l:=by
 by_cases hl:l= []
 ·subst hl
  rcases h with⟨b,off,c,arr,E,fz,hr,hc,⟨rfl,-,-⟩ | ⟨rfl,-,-⟩⟩ |h
  ·exact .inl (SlV.nil w')
  ·exact .inr ⟨rfl,_,_,rfl⟩
  ·exact .inr h
 ·exact .inl ((h.resolve_right fun e=>hl e.1).old hw fun b h1 _=>hb hl b h1)
def PkB (w:World) (X:zb_) (l:List UInt16) (v:Value):Prop:=l≠ []→ ∀b,slB v=some b→b<w.heap.size∧b∉keys X
theorem aqY_ {w:World} {v:Value} {l:List UInt16} {b off:Nat} {arr:Array Value} {E:TypeId} {fz:Nat×Nat} (h:RowS 1 u16C 0 w v l b off arr E fz) {k:Nat} (hk:k<l.length) (n:Nat):
  zt_ (some (false,n)) (some (.cells arr E fz)) (off+k)=some (v16 (l.getD k 0)):=by
 have:=h.cell (j:=0) (n:=n) hk (by omega)
 rwa [Nat.mul_one,Nat.add_zero] at this
def vm_ (l:List UInt16) (n:Nat):Nat:=match l with
 | []=>0
 |x::_=>x.toNat% (n+1)
def kW_ (v:Value):Obj:= .cells #[v] 24 (0,0)
theorem ahB_ (v:Value) (n:Nat):zt_ (some (false,n)) (some (kW_ v)) 0=some v:=(rfl)
theorem anf_ (v x:Value) (a:Bool) (hx:Value.oneCell' x=true∧x.cells= #[x]):zv_ (some (a,1)) (some (kW_ v)) 0 x=some (kW_ x):=
 zO_ [] [v] [x] [] a _ 24 rfl rfl hx.2 rfl (by simp[hx.1])
theorem arA_ {m:Nat} {α:Type} {enc:α→List Value} {z:α} {w:World} {v:Value} {l:List α} (h:SlV m enc z w v l):Value.oneCell' v=true∧v.cells= #[v]:=by
 obtain⟨b,off,c,arr,E,fz,hr,hc,⟨rfl,-,-⟩ | ⟨rfl,-,-⟩⟩:=h
 ·exact⟨rfl,rfl⟩
 ·exact⟨rfl,rfl⟩
set_option linter.defProp false
def ajm_:=And.intro (@zp_) (And.intro (@zo_) (@ahB_))
theorem WS_ (n:Nat) (b:Nat) (v:Value) (l:List UInt16) (w:World) (hn:n<4611686018427387904) (hv:PkS w v l) (hl:l.length<1000000) (hnb:l≠ []→slB v≠some b) (ho:w.heap[b]? =some (kW_ v)):
  Rets Tryz.prog 82 #[vi n,vp b 0] w (fun r D=> ∃o,D= [(b,o)]∧r=vi (vm_ l n:Nat)∧ ∃v',o=kW_ v'∧(l= []→v'=v)∧(l≠ []→jB_ (.sl (false,1)) v (some (some 1)) none=some v')):=by
 refine Rets.enterM Tryz.func82 rfl (rs:= [.tmp 3]) Tryz.results82 Tryz.ntmps82 ho ?_
 refine kf ?_
 have ln:=hv.len
 cases l with
 |nil=>
  first|with_reducible refine ks [] (And.intro @ajm_ @ln) ?_|refine kp (And.intro @ajm_ @ln) ?_
  refine⟨_,_,_,(ke @ajm_),rfl,trivial, ?_⟩
  exact⟨rfl,v,rfl,fun _=>rfl,fun h=>absurd rfl h⟩
 |cons x l=>
  have hv:arM_ w v (x::l):=hv.resolve_right fun e=>by cases e.1
  obtain⟨v1,h1,h2,-⟩:=hv.dropE (k:=1) (by simp) false
  have hc1:=arA_ h2
  have st:=fun a=>anf_ v v1 a hc1
  obtain⟨rb,off,c,arr,E,fz,hr,hc,⟨q1,q2,q3⟩ | ⟨rfl,hb,-⟩⟩:=hv
  ·exact absurd q2 (by simp)
  have hne:rb≠b:=fun e=>hnb (by simp) (by rw[e];rfl)
  have ix:=hr.idx false 0 (by simp)
  have ld:=fun n=>aqY_ hr (k:=0) (by simp) n
  have e0: ((((x::l).length:Nat):Int)==0)=false:=beq_eq_false_iff_ne.2 (by simp;omega)
  have rd:zz_ w [(b,kW_ (vsl rb off (x::l).length c))] rb=some (.cells arr E fz):=by rw[qN_ (by simpa [keys] using hne)];exact hb
  rw[Nat.zero_mul,Nat.add_zero] at ix
  rw[show((1:Nat):Int)=1 from rfl] at h1
  simp only[Nat.add_zero] at ld
  first|with_reducible refine ks [] (And.intro @ajm_ (And.intro @ln (And.intro @e0 (And.intro @ix (And.intro @ld (And.intro @rd (And.intro @h1 (@st)))))))) ?_|refine kp (And.intro @ajm_ (And.intro @ln (And.intro @e0 (And.intro @ix (And.intro @ld (And.intro @rd (And.intro @h1 (@st)))))))) ?_
  refine⟨_,_,_,(ke @ajm_),rfl,trivial, ?_⟩
  refine⟨?_,v1,rfl,fun h=>absurd h (by simp),fun _=>h1⟩
  show vi _=vi _
  congr 1
end Go.Proofs
end
section
open Go Go.Proofs Go.Sx Go.StP
namespace Go.Proofs
set_option maxRecDepth 10000
set_option maxHeartbeats 400000
set_option linter.unusedSimpArgs false
theorem DkP.stl1 {X L:zb_} {G:DkG} {S:DiskL} (h:DkP X G S) {k:Nat} (hk:k<3) {l':NmL} (keep: ∀b o,Sx.look X b=some o→b≠G.t k→Sx.look L b=some o) (hs:NmM L G.fb (G.t k) l') (h1:SrtN l') (h3: ∀p,p∈l'→p.2<S.files.length):
  DkP L G (qB_ S k ⟨(S.dir k).seen,l',(S.dir k).pend⟩):=by
 obtain⟨osk,msk,hosk,hmsk,-⟩:=h.stl k hk
 have hns: ∀b o,Sx.look X b=some o→tyO o≠none→b≠G.t k:=by
  rintro b o hb ht rfl
  rw[hosk] at hb;cases hb;exact ht (q9_ hmsk)
 have K: ∀b o,Sx.look X b=some o→tyO o≠none→Sx.look L b=some o:=fun b o hb h1=>keep b o hb (hns b o hb h1)
 have es: ∀j,(qB_ S k ⟨(S.dir k).seen,l',(S.dir k).pend⟩).dir j=if j=k then⟨(S.dir k).seen,l',(S.dir k).pend⟩ else S.dir j:=fun _=>rfl
 have e2: ∀j,((qB_ S k ⟨(S.dir k).seen,l',(S.dir k).pend⟩).dir j).seen=(S.dir j).seen:=fun j=>by
  rw[es];by_cases e:j=k
  ·subst e;rw[if_pos rfl]
  ·rw[if_neg e]
 have e3: ∀j,((qB_ S k ⟨(S.dir k).seen,l',(S.dir k).pend⟩).dir j).pend=(S.dir j).pend:=fun j=>by
  rw[es];by_cases e:j=k
  ·subst e;rw[if_pos rfl]
  ·rw[if_neg e]
 refine⟨K _ _ h.disk (by simp[tyO,j2_]), ?_,fun j hj=>K _ _ (h.dir j hj) (by simp[tyO,kl_]),fun j hj=> ?_,fun j hj=> ?_,fun j hj=> ?_,fun n hn=>K _ _ (h.file n hn) (by simp[tyO,vI_]),h.len,h.nodf,h.nodm,h.nodd,h.nodb,h.nodp,wO_ h.ok _ (h.ok.seen k hk) h1 (h.ok.seenN k hk) h3 (h.ok.pendN k hk)⟩
 ·obtain⟨o,h1,h2⟩:=h.dirs
  exact⟨o,keep _ _ h1 (h.nodb k hk).2,h2⟩
 ·rw[e2]
  obtain⟨o,m,h1,h2,h3⟩:=h.seen j hj
  exact⟨o,m,keep _ _ h1 (QQ_ h.nodm hj hk).2.2,h2,h3⟩
 ·rw[es]
  by_cases e:j=k
  ·subst e;rw[if_pos rfl];exact hs
  ·rw[if_neg e]
   obtain⟨o,m,h1,h2,h3⟩:=h.stl j hj
   exact⟨o,m,keep _ _ h1 ((QQ_ h.nodm hj hk).2.1 e),h2,h3⟩
 ·rw[e3]
  obtain⟨vals,h1,h2,h3⟩:=h.pend j hj
  refine⟨vals,h1,h2.keep fun b o hb ho=> ?_,fun i hi=>(h3 i hi).keep fun b o ho hx=>K b o ho ?_⟩
  ·obtain⟨arr,ha⟩:=Jq_ h2 hb
   rw[ho] at ha;cases ha
   exact K _ _ ho (by simp[tyO])
  ·rcases hx with⟨s,rfl⟩ | ⟨a,rfl⟩<;>simp[tyO,wj_,ptrO]
theorem qX_ (S:DiskL) (k:Nat) (d:DirL): (qB_ S k d).dir k=d:=by
 unfold qB_;simp
theorem j1_ (S:DiskL) {k j:Nat} (d:DirL) (h:j≠k): (qB_ S k d).dir j=S.dir j:=by
 unfold qB_;simp[h]
theorem aaa_ (S:DiskL) (k:Nat) (d d':DirL):qB_ (qB_ S k d) k d'=qB_ S k d':=by
 unfold qB_
 simp only
 congr 1
 funext j
 by_cases e:j=k
 ·rw[if_pos e,if_pos e]
 ·rw[if_neg e,if_neg e,if_neg e]
def att_ (d:DirL):Prop:= ∀i,i<d.pend.length→okC ((d.pend.take i).foldl q8_ d.stl) (d.pend.getD i wB_)
def x5_ (S:DiskL) (k i:Nat):NmL:=((S.dir k).pend.take i).foldl q8_ (S.dir k).stl
def ah3_ (q:DiskL×List UInt16) (k:Nat):DiskL×List UInt16:=
 (qB_ q.1 k ⟨x5_ q.1 k (vm_ q.2 (q.1.dir k).pend.length),x5_ q.1 k (vm_ q.2 (q.1.dir k).pend.length),[]⟩,q.2.drop 1)
def z6_ (q:DiskL×List UInt16):Nat→DiskL×List UInt16
 |0=>q
 |k+1=>ah3_ (z6_ q k) k
theorem aaU_ (l:List UInt16) (n:Nat):vm_ l n≤n:=by
 unfold vm_
 split
 ·exact Nat.zero_le _
 ·have:=Nat.mod_lt ‹UInt16›.toNat (show 0<n+1 by omega)
  omega
theorem aiS_ {S:DiskL} {k i:Nat} (h:i< (S.dir k).pend.length):x5_ S k (i+1)=q8_ (x5_ S k i) ((S.dir k).pend.getD i wB_):=by
 unfold x5_
 rw[StP.take_snoc (z:=wB_) h,List.foldl_append];rfl
end Go.Proofs
end
section
open Go Go.Proofs Go.Sx Go.StP
namespace Go.Proofs
set_option maxRecDepth 10000
set_option maxHeartbeats 400000
set_option linter.unusedSimpArgs false
theorem DkP.away {X:zb_} {G:DkG} {S:DiskL} (h:DkP X G S) {b:Nat} {v:Value} (hb:Sx.look X b=some (kW_ v)) (x:Obj):DkP (setB X b x) G S where
 disk:=qn_ hb h.disk (by simp[tyO,j2_,kW_])
 dirs:=by obtain⟨o,h1,h2⟩:=h.dirs;exact⟨o,qn_ hb h1 (by rw[q9_ h2];intro e;cases e),h2⟩
 dir k hk':=qn_ hb (h.dir k hk') (by simp[tyO,kl_,kW_])
 seen k hk':=by
  obtain⟨o,m,h1,h2,h3⟩:=h.seen k hk'
  exact⟨o,m,qn_ hb h1 (by rw[q9_ h2];intro e;cases e),h2,h3⟩
 stl k hk':=by
  obtain⟨o,m,h1,h2,h3⟩:=h.stl k hk'
  exact⟨o,m,qn_ hb h1 (by rw[q9_ h2];intro e;cases e),h2,h3⟩
 pend k hk':=by
  obtain⟨vals,h1,h2,h3⟩:=h.pend k hk'
  refine⟨vals,h1,h2.keep fun b o hb' ho=> ?_,fun i hi=>(h3 i hi).keep fun b o ho hx=>qn_ hb ho ?_⟩
  ·obtain⟨arr,ha⟩:=Jq_ h2 hb'
   rw[ho] at ha;cases ha
   exact qn_ hb ho (by simp[tyO,kW_])
  ·rcases hx with⟨s,rfl⟩ | ⟨a,rfl⟩<;>simp[tyO,kW_,wj_,ptrO]
 file n hn:=qn_ hb (h.file n hn) (by simp[tyO,vI_,kW_])
 len:=h.len
 nodf:=h.nodf
 nodm:=h.nodm
 nodd:=h.nodd
 nodb:=h.nodb
 nodp:=h.nodp
 ok:=h.ok
theorem aec_ {w:World} {v v':Value} {q:List UInt16} (hv:PkS w v q) (h1:q= []→v'=v) (h2:q≠ []→jB_ (.sl (false,1)) v (some (some 1)) none=some v'):PkS w v' (q.drop 1)∧ ∀ {X:zb_},PkB w X q v→PkB w X (q.drop 1) v':=by
 cases q with
 |nil=>rw[h1 rfl];exact⟨hv,fun h=>h⟩
 |cons x l=>
  have hv:arM_ w v (x::l):=hv.resolve_right fun e=>by cases e.1
  obtain⟨v2,e1,e2,e3⟩:=hv.dropE (k:=1) (by simp) false
  have:=h2 (by simp)
  rw[show((1:Nat):Int)=1 from rfl,this] at e1
  cases e1
  exact⟨.inl e2,fun h _ b hb=>h (by simp) b (e3 b hb)⟩
theorem aq8_ {w w1:World} {L:zb_} {T:TypeId} {v:Value} {vals:List Value} (h:Gr L T 1 v vals.length vals) (hw:Hp w L w1) {n:Nat} (hn:n≤vals.length):
  ∃vc rb off arr E fz,jB_ (.sl (false,1)) v none (some (some (n:Int)))=some vc∧RowS 1 (fun v:Value=> [v]) undef w1 vc (vals.take n) rb off arr E fz∧(0<n→Sx.look L rb=some (.cells arr E fz)):=by
 have hfl:vals=(vals.map fun v:Value=> [v]).flatten:=by
  clear h hn
  induction vals with
  |nil=>rfl
  |cons x l ih=>simp[←ih]
 have hsl:SlV 1 (fun v:Value=> [v]) undef w1 v vals:=h.slV hw rfl hfl (fun _=>rfl)
 obtain⟨vc,h1,h2,h3⟩:=hsl.take hn false
 obtain⟨b,off,c,arr,E,fz,hr,hc,⟨q1,q2,q3⟩ | ⟨q1,hb,hs⟩⟩:=h2
 ·refine⟨vc,b,off,arr,E,fz,h1,hr,fun h0=> ?_⟩
  have:=congrArg List.length q2
  rw[List.length_take,List.length_nil,Nat.min_eq_left hn] at this
  omega
 ·refine⟨vc,b,off,arr,E,fz,h1,hr,fun h0=> ?_⟩
  have hk:=h.key (h3 b (by rw[q1];rfl))
  obtain⟨o,ho⟩:=XI_ hk
  have:=hw.has _ _ (zy_ ho)
  rw[hb] at this
  rw[ho,this]
theorem aqZ_ {w:World} {v:Value} {l:List Value} {b off:Nat} {arr:Array Value} {E:TypeId} {fz:Nat×Nat} (h:RowS 1 (fun v:Value=> [v]) undef w v l b off arr E fz) {k:Nat} (hk:k<l.length) (n:Nat):
  zt_ (some (false,n)) (some (.cells arr E fz)) (off+k)=some (l.getD k undef):=by
 have:=h.cell (j:=0) (n:=n) hk (by omega)
 rwa [Nat.mul_one,Nat.add_zero] at this
theorem ajZ_ (a b y:Nat) (v:Value) (x:Bool):zv_ (some (x,1)) (some (kl_ a b v)) 0 (vm y)=some (kl_ y b v):=zO_ [] [vm a] [vm y] [vm b,v] x _ 130 rfl rfl rfl rfl rfl
theorem afw_ (S:DiskL) (k:Nat):qB_ S k (S.dir k)=S:=by
 unfold qB_
 cases S
 simp only
 congr 1
 funext j
 by_cases e:j=k
 ·subst e;simp
 ·simp[e]
def jf_ (q:DiskL×List UInt16) (p:List UInt8×Nat):DiskL×List UInt16:=
 (xq_ q.1 p.2 ⟨(zq_ q.1 p.2).data.take ((zq_ q.1 p.2).stl+vm_ q.2 ((zq_ q.1 p.2).data.length - (zq_ q.1 p.2).stl)),((zq_ q.1 p.2).data.take ((zq_ q.1 p.2).stl+vm_ q.2 ((zq_ q.1 p.2).data.length - (zq_ q.1 p.2).stl))).length⟩,q.2.drop 1)
def qP_ (q:DiskL×List UInt16):Nat→DiskL×List UInt16
 |0=>q
 |k+1=>(q.1.dir k).seen.foldl jf_ (qP_ q k)
def QX_ (S:DiskL):DiskL:={S with off:=false,fused:=false}
def qV_ (S:DiskL) (pl:List UInt16):DiskL:=(qP_ (QX_ (z6_ (S,pl) 3).1,(z6_ (S,pl) 3).2) 3).1
theorem Wq_ (q:DiskL×List UInt16) (l:NmL): (l.foldl jf_ q).1.dir=q.1.dir:=by
 induction l generalizing q with
 |nil=>rfl
 |cons p l ih=>rw[List.foldl_cons,ih];rfl
theorem kp_ (q:DiskL×List UInt16): ∀k,(qP_ q k).1.dir=q.1.dir
 |0=>rfl
 |k+1=>by
  show(List.foldl jf_ (qP_ q k) _).1.dir=_
  rw[Wq_,kp_ q k]
theorem ajo_ (q:DiskL×List UInt16) (l:NmL): (l.foldl jf_ q).1.off=q.1.off:=by
 induction l generalizing q with
 |nil=>rfl
 |cons p l ih=>rw[List.foldl_cons,ih];rfl
theorem Jj_ (q:DiskL×List UInt16): ∀k,(qP_ q k).1.off=q.1.off
 |0=>rfl
 |k+1=>by
  show(List.foldl jf_ (qP_ q k) _).1.off=_
  rw[ajo_,Jj_ q k]
structure C3G where
 k:Nat
 L:zb_
 v:Value
structure C4G where
 j:Nat
 L:zb_
 v:Value
structure C1G where
 k:Nat
 G:DkG
 L:zb_
 v:Value
structure C2G where
 j:Nat
 L:zb_
theorem Jg_ (q:DiskL×List UInt16): ∀ {k j:Nat},k≤j→(z6_ q k).1.dir j=q.1.dir j
 |0,_,_=>rfl
 |k+1,j,h=>by
  show(qB_ _ k _).dir j=_
  rw[j1_ _ _ (by omega)]
  exact Jg_ q (by omega)
set_option linter.defProp false
def qC_:=And.intro (And.intro (And.intro (@zp_) (@zo_)) (And.intro (@qZ_) (And.intro (@jD_) (@jx_)))) (And.intro (And.intro (@jy_) (@vu_)) (And.intro (@vC_) (And.intro (@ahB_) (@app_))))
theorem aeN_ (X:zb_) (G0:DkG) (S:DiskL) (v0:Value) (pl:List UInt16) (w:World) (hX: ∀p,p∈X→w.heap[p.1]? =some p.2) (hn: (keys X).Nodup) (hP0:DkP X G0 S) (hGl:ame_ w) (hgx:0∉keys X) (hB:DkB (z6_ (S,pl) 3).1)
  (hv0:PkS w v0 pl) (hpx:PkB w X pl v0) (hpl:pl.length<1000000) (hpn: ∀k,k<3→att_ (S.dir k)∧(S.dir k).pend.length<1000000):
  Rets Tryz.prog 22 #[vp G0.bd 0,v0] w (XS w X (fun _v D=> ∃G',G'.bd=G0.bd∧DkP D G' (qV_ S pl))):=by
 obtain⟨eg,fzg,hgl⟩:=hGl
 refine Rets.enterX Tryz.func22 rfl (rs:= []) Tryz.results22 Tryz.ntmps22 hX hn ?_
 refine kf ?_
 first|with_reducible refine ks [3] @qC_ ?_|refine kp @qC_ ?_
 refine Ow.box rfl rfl fun bk hbk hwk=> ?_
 simp only[zY_,zV_,zX_,hv0.cell.2]
 refine Ow.permL (M:=X++ [(bk,kW_ v0)]) (List.Perm.refl _) ?_
 refine ko @qC_ ?_
 first|with_reducible refine ks [3] @qC_ ?_|refine kp @qC_ ?_
 simp only[List.map_toArray,List.map_cons,List.map_nil,zY_,zV_,zX_]
 have rdg: ∀L,Ext w X L→zz_ w L 0=some (.cells #[vs zf_,vs Qc_,vs refD] eg fzg):=fun L hE=>hE.old hgl hgx
 have hE0:Ext w X (X++ [(bk,kW_ v0)]):=(Ext.refl w X).app hwk
 have hr0:=rdg _ hE0
 have hl0:Sx.look (X++ [(bk,kW_ v0)]) bk=some (kW_ v0):=xM_ hbk
 have hP1:DkP (X++ [(bk,kW_ v0)]) G0 S:=hP0.mono fun b o h=>zk_ h
 generalize X++ [(bk,kW_ v0)]=L0 at*
 first|with_reducible refine ks [5,8,12,16] (And.intro @qC_ (And.intro @hr0 (@Zv_))) ?_|refine kp (And.intro @qC_ (And.intro @hr0 (@Zv_))) ?_
 refine Cw.loopG (G:=C1G) [20,21,6,22,23,24,25,26,27,7,28,29,30,31,32,33,34,35,36,37,38,39,40,41,42,43,44,9,45,46,47,48,49,50,51,52,53,54,55,56,57,58,59,60,61,62,63,19] (fun g=> [(19,vi g.k)]) (fun g=>g.L) (fun g=>g.k≤3∧DkP g.L g.G (z6_ (S,pl) g.k).1∧g.G.bd=G0.bd∧Sx.look g.L bk=some (kW_ g.v)∧PkS w g.v (z6_ (S,pl) g.k).2∧PkB w X (z6_ (S,pl) g.k).2 g.v∧Ext w X g.L∧(z6_ (S,pl) g.k).2.length<1000000) (fun g=>3 - g.k) ⟨0,G0,L0,v0⟩ rfl rfl ?_ ?_
 ·exact⟨Nat.zero_le _,hP1,rfl,hl0,hv0,hpx,hE0,hpl⟩
 intro g j hg
 refine kv ?_
 clear hr0 hl0 hP1 hE0
 obtain⟨k,G,L,v⟩:=g
 simp only at hg ⊢
 obtain⟨hk,hP,hbd,hlk,hv,hvb,hE,hpl1⟩:=hg
 rw[←hbd]
 by_cases hlt:k<3
 ·have d1:decide ((k:Int)<3)=true:=decide_eq_true (by omega)
  have ixk:=KD_ hlt
  obtain⟨om,hom,hM⟩:=hP.dirs
  have hrd:=ze_ (w0:=w) hP.disk
  have hrr:=ze_ (w0:=w) (hP.dir k hlt)
  have hpd:jA_ (some (G.d k))=vp (G.d k) 0:=rfl
  have hdk:=Jg_ (S,pl) (Nat.le_refl k)
  simp only at hdk
  obtain⟨vals,hvl,hGr,hF⟩:=hP.pend k hlt
  rw[hdk] at hvl hF
  have hpn1:=(hpn k hlt).2
  have lnp:=hGr.len (false,1)
  first|with_reducible refine ks [] (And.intro @qC_ (And.intro @d1 (And.intro @ixk (@hrd)))) ?_|refine kp (And.intro @qC_ (And.intro @d1 (And.intro @ixk (@hrd)))) ?_
  refine Ow.mapGetG (encK:=vs) (encV:=jA_) (k:=Ky_ k) (z:=none) rfl rfl Tryz.underlying121 x0_ zrPd rfl rfl (ze_ hom) hM ?_
  rw[aaD_,xV_ hlt]
  show Ow _ _ _ _ _ _ _ _
  refine ko (And.intro @qC_ @hpd) ?_
  first|with_reducible refine ks [] @qC_ ?_|refine kp @qC_ ?_
  refine Cw.regionS [G.d k] [0,1,2,4,5,6,7,13,3,8,9,10,11,12] [] (by kernel_rfl) (by kernel_rfl) (by kernel_rfl) ?_
  simp only[zl_, ↓zg_, ↓zc_, ↓zx_, ↓zw_,zd_]
  refine kq (And.intro @qC_ (And.intro @hrr (@lnp))) ?_
  refine Ow.soft rfl rfl rfl ?_
  refine Ow.callFnXC (b:=vi vals.length) (ars:= #[vi vals.length,vp bk 0]) rfl (X:=L) (Y:= []) (List.append_nil _).symm rfl rfl rfl rfl Tryz.call82 (fun w' hw' hX' hn'=>Rets.chunk hX' hn' (zh_ hlk) (WS_ vals.length bk v (z6_ (S,pl) k).2 w' (by omega) (hv.old hw' fun hq b hb=>hE.not (hvb hq b hb).1 (hvb hq b hb).2) hpl1 (fun hq e=>by have:=(hvb hq bk e).1;omega) (hX' _ (zy_ hlk)))) (fun r D hC hS=> ?_)
  obtain⟨o,rfl,rfl,v',rfl,hv1,hv2⟩:=hS
  rw[List.append_nil]
  obtain⟨hvn,hvn2⟩:=aec_ hv hv1 hv2
  have hP1:=hP.away hlk (kW_ v')
  have hE1:=hE.came0 hC
  have hk1: ∀b o,Sx.look L b=some o→tyO o≠some 24→Sx.look (setB L bk (kW_ v')) b=some o:=fun b o hb ht=>qn_ hlk hb ht
  have hlk1:Sx.look (setB L bk (kW_ v')) bk=some (kW_ v'):=qa_ hlk
  have hrr1:=ze_ (w0:=w) (hP1.dir k hlt)
  have hGr1:Gr (setB L bk (kW_ v')) 137 1 (G.p k) vals.length vals:=hGr.keep fun b o hb ho=>by
   obtain⟨arr,ha⟩:=Jq_ hGr hb
   rw[ho] at ha;cases ha
   exact hk1 _ _ ho (by simp[tyO])
  have hF1: ∀i,i<vals.length→FnP (setB L bk (kW_ v')) G.fb (vals.getD i undef) ((S.dir k).pend.getD i wB_):=fun i hi=>(hF i hi).keep fun b o ho hx=>hk1 _ _ ho (by rcases hx with⟨s,rfl⟩ | ⟨a,rfl⟩<;>simp[tyO,wj_,ptrO])
  have hple:=aaU_ (z6_ (S,pl) k).2 vals.length
  have hcr:z6_ (S,pl) (k+1)=ah3_ (z6_ (S,pl) k) k:=rfl
  unfold ah3_ at hcr
  rw[hdk,←hvl] at hcr
  generalize vm_ (z6_ (S,pl) k).2 vals.length=n at*
  have hbkd:bk≠G.d k:=fun e=>by
   have hdd:=hP1.dir k hlt
   rw[←e,hlk1] at hdd
   simp[kl_,kW_] at hdd
  generalize setB L bk (kW_ v')=L1 at*
  refine Ow.world fun w1 hw1=> ?_
  obtain⟨vc,rb,off,arr,E,fz,hsl,hrw,hlr⟩:=aq8_ hGr1 hw1 hple
  clear hw1
  have lnc:=hrw.len (false,1)
  rw[List.length_take,Nat.min_eq_left hple] at lnc
  with_reducible refine Ow.nil ?_
  refine⟨fun b hb=>by rw[List.mem_singleton] at hb;subst hb;rw[hrr,hrr1], ?_⟩
  refine kq (And.intro @qC_ (And.intro @hsl (@lnc))) ?_
  have hself:qB_ (z6_ (S,pl) k).1 k ⟨((z6_ (S,pl) k).1.dir k).seen,x5_ (z6_ (S,pl) k).1 k 0,((z6_ (S,pl) k).1.dir k).pend⟩=(z6_ (S,pl) k).1:=afw_ _ _
  have hfe: ∀j,x5_ (z6_ (S,pl) k).1 k j=x5_ S k j:=fun j=>by unfold x5_;rw[hdk]
  have hq2: (z6_ (S,pl) (k+1)).2=(z6_ (S,pl) k).2.drop 1:=rfl
  generalize z6_ (S,pl) k=q at*
  obtain⟨Sk,pk⟩:=q
  simp only at*
  refine Cw.loopG (G:=C2G) [42,43,44,9,45,46,47,48,49,50,51,41] (fun g=> [(41,vi g.j)]) (fun g=>g.L) (fun g=>g.j≤n∧DkP g.L G (qB_ Sk k ⟨(Sk.dir k).seen,x5_ Sk k g.j,(Sk.dir k).pend⟩)∧Sx.look g.L bk=some (kW_ v')∧Ext w X g.L∧(∀b o,Sx.look L1 b=some o→b≠G.t k→Sx.look g.L b=some o)) (fun g=>n - g.j) ⟨0,L1⟩ rfl rfl ?_ ?_
  ·exact⟨Nat.zero_le _,by rw[hself];exact hP1,hlk1,hE1,fun _ _ h _=>h⟩
  intro g j hg
  refine kv ?_
  obtain⟨j,L2⟩:=g
  simp only at hg ⊢
  obtain⟨hj,hP2,hlk2,hE2,hkp⟩:=hg
  by_cases hjt:j<n
  ·have d2:decide ((j:Int)< (n:Int))=true:=decide_eq_true (by omega)
   have hjm:j< (vals.take n).length:=by rw[List.length_take,Nat.min_eq_left hple];exact hjt
   have ix3:=hrw.idx false j hjm
   rw[Nat.mul_one] at ix3
   have ld3:=fun n=>aqZ_ hrw hjm n
   have hvj: (vals.take n).getD j undef=vals.getD j undef:=by
    rw[List.getD_eq_getElem?_getD,List.getD_eq_getElem?_getD,List.getElem?_take_of_lt hjt]
   rw[hvj] at ld3
   have hpj:j< (S.dir k).pend.length:=by omega
   have htm: ∀ {b:Nat} {o:Obj},Sx.look L1 b=some o→tyO o≠none→b≠G.t k:=by
    intro b o hb ht e
    obtain⟨ot,mt,hot,hmt,-⟩:=hP1.stl k hlt
    rw[e,hot] at hb;cases hb
    exact ht (q9_ hmt)
   have hFj:FnP L2 G.fb (vals.getD j undef) ((S.dir k).pend.getD j wB_):=(hF1 j (by omega)).keep fun b o ho hx=>hkp b o ho (htm ho (by rcases hx with⟨s,rfl⟩ | ⟨a,rfl⟩<;>simp[tyO,wj_,ptrO]))
   have hN2:=hP2.stl k hlt
   have hs2:=hP2.ok.stl k hlt
   have hl2:=hP2.ok.stlN k hlt
   have hp2:=hP2.ok.pendN k hlt
   rw[qX_] at hN2 hs2 hl2 hp2
   have hok:okC (x5_ Sk k j) ((S.dir k).pend.getD j wB_):=by rw[hfe];exact(hpn k hlt).1 j hpj
   obtain⟨fk,cap,hvf,hfk,hcall⟩:=XR_ hFj hN2 hs2 hok
   rw[hvf] at ld3
   have hlr2:=hkp rb _ (hlr (by omega)) (htm (hlr (by omega)) (by simp[tyO]))
   have rd3:=ze_ (w0:=w) hlr2
   have hrr2:=ze_ (w0:=w) (hP2.dir k hlt)
   have hbk2:=htm hlk1 (by simp[tyO,kW_])
   first|with_reducible refine ks [] (And.intro @qC_ (And.intro @d2 (And.intro @ix3 (And.intro @ld3 (And.intro @rd3 (@hrr2)))))) ?_|refine kp (And.intro @qC_ (And.intro @d2 (And.intro @ix3 (And.intro @ld3 (And.intro @rd3 (@hrr2)))))) ?_
   refine Ow.callFnXC (b:=vm (G.t k)) (cap:=cap) (ars:= #[vm (G.t k)]++cap) rfl (X:=L2) (Y:= []) (List.append_nil _).symm rfl rfl rfl rfl hfk (fun w' hw' hX' hn'=>hcall w' hX' hn') (fun r D hC hS=> ?_)
   rw[List.append_nil]
   obtain⟨rfl,o',hO,hN3⟩:=hS
   have hE3:=hE2.came0 hC
   have hP3:=hP2.stl1 hlt (l':=q8_ (x5_ Sk k j) ((S.dir k).pend.getD j wB_)) (fun b o hb hne=>(hO.rest b hne).trans hb) hN3 (aa5_ _ hs2) (aaS_ hl2 hok fun h0=>hp2 _ (by show _∈ (Sk.dir k).pend;rw[hdk,List.getD_eq_getElem?_getD,List.getElem?_eq_getElem hpj];exact List.getElem_mem _) h0)
   rw[qX_,aaa_] at hP3
   have hnx:x5_ Sk k (j+1)=q8_ (x5_ Sk k j) ((S.dir k).pend.getD j wB_):=by rw[aiS_ (by rw[hdk];exact hpj),hdk]
   refine ko @qC_ ?_
   first|with_reducible refine ks [] @qC_ ?_|refine kp @qC_ ?_
   exact Again.mk ⟨j+1,D⟩ (by show n - (j+1)<n - j;omega) ⟨hjt,by rw[hnx];exact hP3,(hO.rest bk hbk2).trans hlk2,hE3,fun b o hb hne=>(hO.rest b hne).trans (hkp b o hb hne)⟩ rfl rfl
  ·obtain rfl:j=n:=by omega
   have d2:decide ((j:Int)< (j:Int))=false:=decide_eq_false (by omega)
   have hN2:=hP2.stl k hlt
   have hs2:=hP2.ok.stl k hlt
   have hl2:=hP2.ok.stlN k hlt
   rw[qX_] at hN2 hs2 hl2
   obtain⟨ot,mt,hot,hmt,hnp⟩:=hN2
   have hdl2:=hP2.dir k hlt
   have hrr2:=ze_ (w0:=w) hdl2
   first|with_reducible refine ks [13] (And.intro @qC_ (And.intro @d2 (@hrr2))) ?_|refine kp (And.intro @qC_ (And.intro @d2 (@hrr2))) ?_
   refine Ow.callC rfl rfl Tryz.call83 (fun w' hw'=>agB_ (G.t k) ot mt w' (hw'.has _ _ (zy_ hot)) hmt) (fun B4 v4 D4 hA4 hB4 hN4 hS4=> ?_)
   obtain⟨c,o4,rfl,rfl,hm4⟩:=hS4
   have hbc:jV_ L2 c:=z2_ fun b hb=>by
    have h1:=zi_ hA4 hb
    have h2:=hN4.le c (by simp[keys])
    omega
   have hcn:c∉keys L2:=fun hm=>by have:=zi_ hbc hm;omega
   have hl3:Sx.look (L2++ [(c,o4)]) (G.d k)=some (kl_ (G.s k) (G.t k) (G.p k)):=zk_ hdl2
   have hlc3:Sx.look (L2++ [(c,o4)]) c=some o4:=xM_ hbc
   have hkp3: ∀b o,Sx.look L2 b=some o→Sx.look (L2++ [(c,o4)]) b=some o:=fun b o h=>zk_ h
   have hE3:=hE2.app (o:=o4) (b:=c) (by have:=hN4.le c (by simp[keys]);omega)
   generalize L2++ [(c,o4)]=L3 at*
   have hr3:=ze_ (w0:=w) hl3
   have st0:=fun x=>ajZ_ (G.s k) (G.t k) c (G.p k) x
   have hcd:c≠G.d k:=fun e=>hcn (by rw[e];exact zh_ hdl2)
   have hl4:Sx.look (setB L3 (G.d k) (kl_ c (G.t k) (G.p k))) (G.d k)=some (kl_ c (G.t k) (G.p k)):=qa_ hl3
   have hlc4:Sx.look (setB L3 (G.d k) (kl_ c (G.t k) (G.p k))) c=some o4:=by rw[zm_ (Ne.symm hcd)];exact hlc3
   have hkp4: ∀b o,Sx.look L2 b=some o→b≠G.d k→Sx.look (setB L3 (G.d k) (kl_ c (G.t k) (G.p k))) b=some o:=fun b o h hne=>by rw[zm_ (Ne.symm hne)];exact hkp3 b o h
   have hE4:=hE3.setB (b:=G.d k) (o:=kl_ c (G.t k) (G.p k))
   refine ko (And.intro @qC_ (And.intro @hl3 (And.intro @st0 (@Jb_)))) ?_
   generalize setB L3 (G.d k) (kl_ c (G.t k) (G.p k))=L4 at*
   have hr4:=ze_ (w0:=w) hl4
   have st2:=fun x=>JE_ c (G.t k) (G.p k) (.slice none 0 0) x ⟨rfl,rfl⟩
   first|with_reducible refine ks [] (And.intro @qC_ (And.intro @hl4 (And.intro @hr4 (And.intro @st2 (@Jb_))))) ?_|refine kp (And.intro @qC_ (And.intro @hl4 (And.intro @hr4 (And.intro @st2 (@Jb_))))) ?_
   have hkp5: ∀b o,Sx.look L2 b=some o→b≠G.t k→b≠G.d k→Sx.look (setB L4 (G.d k) (kl_ c (G.t k) (.slice none 0 0))) b=some o:=fun b o h _ hne=>by rw[zm_ (Ne.symm hne)];exact hkp4 b o h hne
   have hmd: ∀ {b:Nat} {o:Obj} {m:List (List UInt8×Option Nat)},Sx.look L2 b=some o→Zz_ vs jA_ o m→b≠G.d k:=by
    intro b o m hb hm e
    rw[e,hdl2] at hb;cases hb
    obtain⟨es,cl,h,-⟩:=hm;cases h
   have hP5:=hP2.calm hlt (s':=c) ⟨x5_ Sk k j,x5_ Sk k j,[]⟩ rfl hkp5 ⟨o4,mt,by rw[zm_ (Ne.symm hcd)];exact hlc4,hm4,hnp⟩ ⟨ot,mt,by rw[zm_ (Ne.symm (hmd hot hmt))];exact hkp4 _ _ hot (hmd hot hmt),hmt,hnp⟩ (qa_ hl4) (.inr hcn) hs2 hs2 hl2 hl2
   rw[aaa_] at hP5
   have hbkd2:bk≠G.d k:=fun e=>hbkd e
   exact Again.mk ⟨k+1,an9_ G k c,setB L4 (G.d k) (kl_ c (G.t k) (.slice none 0 0)),v'⟩ (by show 3 - (k+1)<3 - k;omega) ⟨hlt,by rw[hcr];exact hP5,rfl,by rw[zm_ (Ne.symm hbkd)];exact hkp4 _ _ hlk2 hbkd,by rw[hcr];exact hvn,by rw[hcr];exact hvn2 hvb,hE4.setB,by rw[hcr];show(pk.drop 1).length<1000000;rw[List.length_drop];omega⟩ rfl rfl
 ·obtain rfl:k=3:=by omega
  have d1:decide (((3:Nat):Int)<3)=false:=rfl
  unfold qV_
  generalize z6_ (S,pl) 3=q at*
  obtain⟨S3,p3⟩:=q
  simp only at*
  have hok1:DkOk {S3 with off:=false}:=⟨hP.ok.seen,hP.ok.stl,hP.ok.seenN,hP.ok.stlN,hP.ok.pendN,hP.ok.file,hP.ok.fuse,hP.ok.max⟩
  have hP1:=hP.setDisk {S3 with off:=false} rfl rfl hok1
  have hok2:DkOk (QX_ S3):=⟨hP.ok.seen,hP.ok.stl,hP.ok.seenN,hP.ok.stlN,hP.ok.pendN,hP.ok.file,⟨hP.ok.fuse.1,hP.ok.fuse.2.1,fun h=>by cases h⟩,hP.ok.max⟩
  have hP2:=hP1.setDisk (QX_ S3) rfl rfl hok2
  have hr0:=ze_ (w0:=w) hP.disk
  have hl1:=hP.disk
  have hl2:=hP1.disk
  have st4:=fun x=>WW_ G.bm S3 false x
  have st3:=fun x=>WJ_ G.bm {S3 with off:=false} false x
  have hrg:=rdg
  have hbkb:bk≠G.bd:=fun e=>by
   have hdd:=hP.disk
   rw[←e,hlk] at hdd
   simp[j2_,kW_] at hdd
  have hlk2:Sx.look (setB (setB L G.bd (j2_ G.bm {S3 with off:=false})) G.bd (j2_ G.bm (QX_ S3))) bk=some (kW_ v):=by
   rw[zm_ (Ne.symm hbkb),zm_ (Ne.symm hbkb)];exact hlk
  have hE2:=(hE.setB (b:=G.bd) (o:=j2_ G.bm {S3 with off:=false})).setB (b:=G.bd) (o:=j2_ G.bm (QX_ S3))
  have hr2:=rdg _ hE2
  have hr5:zz_ w (setB (setB L G.bd (j2_ G.bm {S3 with off:=false})) G.bd (j2_ G.bm {S3 with off:=false,fused:=false})) 0=_:=hr2
  have hlk5:Sx.look (setB (setB L G.bd (j2_ G.bm {S3 with off:=false})) G.bd (j2_ G.bm {S3 with off:=false,fused:=false})) bk=some (kW_ v):=hlk2
  have hE5:Ext w X (setB (setB L G.bd (j2_ G.bm {S3 with off:=false})) G.bd (j2_ G.bm {S3 with off:=false,fused:=false})):=hE2
  have hP5:DkP (setB (setB L G.bd (j2_ G.bm {S3 with off:=false})) G.bd (j2_ G.bm {S3 with off:=false,fused:=false})) G (QX_ S3):=hP2
  clear hr2 hlk2 hE2 hP2
  first|with_reducible refine ks [17] (And.intro @qC_ (And.intro @d1 (And.intro @hl1 (And.intro @hl2 (And.intro @st4 (And.intro @st3 (And.intro @Jb_ (And.intro @hr5 (@Zv_))))))))) ?_|refine kp (And.intro @qC_ (And.intro @d1 (And.intro @hl1 (And.intro @hl2 (And.intro @st4 (And.intro @st3 (And.intro @Jb_ (And.intro @hr5 (@Zv_))))))))) ?_
  generalize hL5:setB (setB L G.bd (j2_ G.bm {S3 with off:=false})) G.bd (j2_ G.bm {S3 with off:=false,fused:=false})=L5 at*
  have hdw: (QX_ S3).dir=S3.dir:=rfl
  have how: (QX_ S3).off=false:=rfl
  generalize QX_ S3=S5 at*
  refine Cw.loopG (G:=C3G) [72,73,11,74,75,76,77,78,79,80,81,13,82,83,84,85,86,87,88,89,90,91,92,14,93,94,95,96,97,98,99,100,101,102,103,104,105,106,107,108,109,110,111,112,113,114,115,116,117,118,119,120,121,122,123,124,125,126,127,71] (fun g=> [(71,vi g.k)]) (fun g=>g.L) (fun g=>g.k≤3∧DkP g.L G (qP_ (S5,p3) g.k).1∧Sx.look g.L bk=some (kW_ g.v)∧PkS w g.v (qP_ (S5,p3) g.k).2∧PkB w X (qP_ (S5,p3) g.k).2 g.v∧Ext w X g.L∧(qP_ (S5,p3) g.k).2.length<1000000) (fun g=>3 - g.k) ⟨0,L5,v⟩ rfl rfl ?_ ?_
  ·exact⟨Nat.zero_le _,hP5,hlk5,hv,hvb,hE5,hpl1⟩
  intro g j hg
  refine kv ?_
  obtain⟨k,L6,v6⟩:=g
  simp only at hg ⊢
  obtain⟨hk6,hP6,hlk6,hv6,hvb6,hE6,hpl6⟩:=hg
  by_cases hlt6:k<3
  ·have d6:decide ((k:Int)<3)=true:=decide_eq_true (by omega)
   have ixk:=KD_ hlt6
   have hd6:=kp_ (S5,p3) k
   have ho6:=Jj_ (S5,p3) k
   simp only at hd6 ho6
   have hB6:DkB (qP_ (S5,p3) k).1:=by
    intro i hi
    rw[hd6,hdw];exact hB i hi
   have hcm:qP_ (S5,p3) (k+1)=((S5.dir k).seen).foldl jf_ (qP_ (S5,p3) k):=rfl
   first|with_reducible refine ks [26] (And.intro @qC_ (And.intro @d6 (@ixk))) ?_|refine kp (And.intro @qC_ (And.intro @d6 (@ixk))) ?_
   refine Ow.callC rfl rfl Tryz.call79 (fun w' hw'=>WU_ w' G (qP_ (S5,p3) k).1 (Ky_ k) (hP6.world hw') hB6) (fun B7 v7 D7 hA7 hB7 hN7 hS7=> ?_)
   rw[acr_ hlt6,hd6,ho6,how,if_neg (by simp),←aca_] at hS7
   obtain⟨sn,hsn⟩: ∃sn,(S5.dir k).seen=sn:=⟨_,rfl⟩
   rw[hsn] at hcm hS7
   have ln7:=we_ hS7
   rw[List.length_map] at ln7
   refine ko (And.intro @qC_ @ln7) ?_
   refine Cw.world fun w1 hw1=> ?_
   obtain⟨rb,off,arr,E,fz,hr7,hlk7⟩:=hS7.rowL (z:= []) (by rw[List.length_map]) ((hw1.perm (M:=D7++L6) List.perm_append_comm).part) ahJ_
   clear hw1
   have hq6:=hP6.ok.seen k hlt6
   have hsl6:=(hB6 k hlt6).1
   rw[hd6,hsn] at hq6 hsl6
   have hrn: ∀c,c∈keys L6→0<sn.length→rb≠c:=fun c hc h0 e=>by
    have h1:=zi_ hA7 hc
    have h2:=hN7.le rb (zh_ (hlk7 (by rw[List.length_map];exact h0)))
    omega
   have hlr7:0<sn.length→Sx.look (L6++D7) rb=some (.cells arr E fz):=fun h0=>by
    rw[zG_ (fun hm=>hrn rb hm h0 rfl)]
    exact hlk7 (by rw[List.length_map];exact h0)
   have hP7:DkP (L6++D7) G (qP_ (S5,p3) k).1:=hP6.mono fun b o h=>zk_ h
   have hlk8:Sx.look (L6++D7) bk=some (kW_ v6):=zk_ hlk6
   have hE7:Ext w X (L6++D7):=⟨fun c hc=>by
    rw[zj_] at hc
    rcases List.mem_append.1 hc with h|h
    ·exact hE6.new c h
    ·exact .inr (Nat.le_trans hB7 (hN7.le c h)),fun c hc=>by rw[zj_];exact List.mem_append_left _ (hE6.all c hc)⟩
   have hfk: ∀n,n< (qP_ (S5,p3) k).1.files.length→G.fb.getD n 0∈keys L6:=fun n hn=>zh_ (hP6.file n hn)
   have hbk6:=zh_ hlk6
   clear hlk7 hS7
   generalize L6++D7=L7 at*
   refine Cw.loopG (G:=C4G) [79,80,81,13,82,83,84,85,86,87,88,89,90,91,92,14,93,94,95,96,97,98,99,100,101,102,103,104,105,106,107,108,109,110,111,112,113,114,115,116,117,118,119,120,121,122,123,124,125,126,78] (fun g=> [(78,vi g.j)]) (fun g=>g.L) (fun g=>g.j≤sn.length∧DkP g.L G ((sn.take g.j).foldl jf_ (qP_ (S5,p3) k)).1∧Sx.look g.L bk=some (kW_ g.v)∧PkS w g.v ((sn.take g.j).foldl jf_ (qP_ (S5,p3) k)).2∧PkB w X ((sn.take g.j).foldl jf_ (qP_ (S5,p3) k)).2 g.v∧Ext w X g.L∧((sn.take g.j).foldl jf_ (qP_ (S5,p3) k)).2.length<1000000∧(0<sn.length→Sx.look g.L rb=some (.cells arr E fz))) (fun g=>sn.length - g.j) ⟨0,L7,v6⟩ rfl rfl ?_ ?_
   ·exact⟨Nat.zero_le _,hP7,hlk8,hv6,hvb6,hE7,hpl6,hlr7⟩
   intro g j hg
   refine kv ?_
   obtain⟨j,L8,v8⟩:=g
   simp only at hg ⊢
   obtain⟨hj,hP8,hlk9,hv8,hvb8,hE8,hpl8,hlr8⟩:=hg
   by_cases hjt:j<sn.length
   ·have d2:decide ((j:Int)< (sn.length:Int))=true:=decide_eq_true (by omega)
    have hjm:j< (sn.map Prod.fst).length:=by rw[List.length_map];exact hjt
    have ix3:=hr7.idx false j hjm
    rw[Nat.mul_one] at ix3
    have ld3:=fun n=>aeU_ hr7 hjm n
    have hlrb:=hlr8 (by omega)
    have rd3:=ze_ (w0:=w) hlrb
    have hp:sn[j]'hjt∈sn:=List.getElem_mem _
    have hse: (sn.map Prod.fst).getD j []=(sn[j]'hjt).1:=by simp[List.getD_eq_getElem?_getD,hjt]
    have hts:sn.take (j+1)=sn.take j++ [sn[j]'hjt]:=by
     rw[List.take_add_one];simp[hjt]
    rw[hse] at ld3
    generalize sn[j]'hjt=p at*
    obtain⟨x,n⟩:=p
    have hd8: ((sn.take j).foldl jf_ (qP_ (S5,p3) k)).1.dir=S5.dir:=by rw[Wq_,kp_]
    have hfl8: ((sn.take (j+1)).foldl jf_ (qP_ (S5,p3) k))=jf_ ((sn.take j).foldl jf_ (qP_ (S5,p3) k)) (x,n):=by rw[hts,List.foldl_append];rfl
    generalize (sn.take j).foldl jf_ (qP_ (S5,p3) k)=q8 at*
    obtain⟨S8,p8⟩:=q8
    simp only at hP8 hv8 hpl8 hd8 ld3
    have hsk: (S8.dir k).seen=sn:=by rw[hd8];exact hsn
    obtain⟨om,hom,hM⟩:=hP8.dirs
    obtain⟨os,ms,hos,hms,hnp⟩:=hP8.seen k hlt6
    rw[hsk] at hnp
    have hfn:zB_ sn x=some n:=Ja_ hq6.nodup hp
    have hnl:n<S8.files.length:=hP8.ok.seenN k hlt6 _ (by rw[hsk];exact hp)
    have rdd:=ze_ (w0:=w) hP8.disk
    have rdr:=ze_ (w0:=w) (hP8.dir k hlt6)
    have hlf:=hP8.file n hnl
    have rdf:=ze_ (w0:=w) hlf
    have hpd:jA_ (some (G.d k))=vp (G.d k) 0:=rfl
    have hpf:jA_ (some (G.fb.getD n 0))=vp (G.fb.getD n 0) 0:=rfl
    first|with_reducible refine ks [] (And.intro @qC_ (And.intro @d2 (And.intro @ix3 (And.intro @ld3 (And.intro @rd3 (@rdd)))))) ?_|refine kp (And.intro @qC_ (And.intro @d2 (And.intro @ix3 (And.intro @ld3 (And.intro @rd3 (@rdd)))))) ?_
    refine kq (And.intro @qC_ @rdd) ?_
    refine Ow.mapGetG (encK:=vs) (encV:=jA_) (k:=Ky_ k) (z:=none) rfl rfl Tryz.underlying121 x0_ zrPd rfl rfl (ze_ hom) hM ?_
    rw[aaD_,xV_ hlt6]
    show Ow _ _ _ _ _ _ _ _
    refine ko (And.intro @qC_ (And.intro @hpd (@rdr))) ?_
    refine Ow.mapGetG (encK:=vs) (encV:=jA_) (k:=x) (z:=none) rfl rfl Tryz.underlying127 x0_ zrPf rfl rfl (ze_ hos) hms ?_
    rw[hnp.get hq6.nodup,hfn]
    show Ow _ _ _ _ _ _ _ _
    refine ko (And.intro @qC_ @hpf) ?_
    have hfo:=JG_ hP8.ok hnl
    have hrf2:zz_ w L8 (G.fb.getD n 0)=some (vI_ (zq_ S8 n)):=rdf
    have hfd:S8.files.getD n jP_=zq_ S8 n:=rfl
    rw[hfd] at hlf
    clear rdf
    have hcf:jf_ (S8,p8) (x,n)=(xq_ S8 n ⟨(zq_ S8 n).data.take ((zq_ S8 n).stl+vm_ p8 ((zq_ S8 n).data.length - (zq_ S8 n).stl)),((zq_ S8 n).data.take ((zq_ S8 n).stl+vm_ p8 ((zq_ S8 n).data.length - (zq_ S8 n).stl))).length⟩,p8.drop 1):=rfl
    rw[hcf] at hfl8
    have hple8:=aaU_ p8 ((zq_ S8 n).data.length - (zq_ S8 n).stl)
    generalize zq_ S8 n=f at*
    have hsub: (f.data.length:Int) - (f.stl:Int)=((f.data.length - f.stl:Nat):Int):=by omega
    refine Cw.regionG [G.fb.getD n 0] [25] 26 (by kernel_rfl) rfl ?_
    simp only[List.replicate_succ,List.replicate_zero]
    refine OwG.run [0,1,2,3,4,5,6,7,8,9,10,11,12,13,14,15,16,17,18,19] [true,true,true,true,true,true,true,true,true,true,true,true,true,true,true,true,true,true,true,true,false,false,false,false,false,false] 6 rfl (by kernel_rfl) (by kernel_rfl) fun k hk=> ?_
    simp only[zl_, ↓zg_, ↓zc_, ↓zx_, ↓zw_,zd_]
    simp(disch:=(first|assumption|omega| (simp only[kK_,kw_,UInt64.reduceToNat];try omega))) only[↓Sx.S0,Sx.S1,Tryz.fx,qC_,Nat.reduceAdd,Nat.reducePow,Int.reducePow,Nat.reduceBEq, ↓reduceIte,UInt8.reduceToNat,UInt16.reduceToNat,UInt32.reduceToNat,UInt64.reduceToNat,Int.reduceToNat,Md.next_sofnil,hrf2,hsub]
    (with_reducible refine hk _ _ _ ?_);clear hk k
    refine OwG.one 20 _ (by kernel_rfl) rfl ?_
    refine Ow.callFnXC (b:=vi ((f.data.length - f.stl:Nat):Int)) (ars:= #[vi ((f.data.length - f.stl:Nat):Int),vp bk 0]) rfl (X:=L8) (Y:= []) (List.append_nil _).symm rfl rfl rfl rfl Tryz.call82 (fun w' hw' hX' hn'=>Rets.chunk hX' hn' (zh_ hlk9) (WS_ (f.data.length - f.stl) bk v8 p8 w' (by omega) (hv8.old hw' fun hq b hb=>hE8.not (hvb8 hq b hb).1 (hvb8 hq b hb).2) hpl8 (fun hq e=>by have:=(hvb8 hq bk e).1;omega) (hX' _ (zy_ hlk9)))) (fun r D hC hS=> ?_)
    rw[List.append_nil]
    obtain⟨o,rfl,rfl,v9,rfl,hv1,hv2⟩:=hS
    obtain⟨hvn,hvn2⟩:=aec_ hv8 hv1 hv2
    have hE9:=hE8.came0 hC
    have hP9:=hP8.away hlk9 (kW_ v9)
    have hk9: ∀b o,Sx.look L8 b=some o→tyO o≠some 24→Sx.look (setB L8 bk (kW_ v9)) b=some o:=fun b o hb ht=>qn_ hlk9 hb ht
    have hlf9:Sx.look (setB L8 bk (kW_ v9)) (G.fb.getD n 0)=some (vI_ f):=hk9 _ _ hlf (by simp[tyO,vI_])
    have hlkA:Sx.look (setB L8 bk (kW_ v9)) bk=some (kW_ v9):=qa_ hlk9
    have hrbA:Sx.look (setB L8 bk (kW_ v9)) rb=some (.cells arr E fz):=by rw[zm_ (fun e=>hrn bk hbk6 (by omega) e.symm)];exact hlrb
    have hrf9:=ze_ (w0:=w) hlf9
    generalize vm_ p8 (f.data.length - f.stl)=m at*
    have hadd: (f.stl:Int)+ (m:Int)=((f.stl+m:Nat):Int):=by omega
    have hbkf:bk≠G.fb.getD n 0:=fun e=>by
     rw[←e,hlkA] at hlf9
     simp[vI_,kW_] at hlf9
    generalize setB L8 bk (kW_ v9)=L9 at*
    have st0:=fun x=>JQ_ f (f.data.take (f.stl+m)) x
    with_reducible refine Ow.nil ?_
    refine⟨(fun b hb=>by rw[List.mem_singleton] at hb;subst hb;rw[hrf2,hrf9]), ?_⟩
    simp only[List.set_cons_zero,List.set_cons_succ,wE_,Xb_,Xe_]
    refine OwG.rest [21,22,23,24,25] rfl (by kernel_rfl) (by kernel_rfl) ?_
    simp only[zl_, ↓zg_, ↓zc_, ↓zx_, ↓zw_,zd_]
    refine kq (And.intro @qC_ @hadd) ?_
    refine Ow.store rfl rfl rfl (ke (And.intro @qC_ (And.intro @hlf9 (@st0)))) ?_
    have htl: (f.data.take (f.stl+m)).length≤f.data.length:=by rw[List.length_take];omega
    have htl2:f.stl≤ (f.data.take (f.stl+m)).length:=by rw[List.length_take];omega
    have hlB:Sx.look (setB L9 (G.fb.getD n 0) (vI_ ⟨f.data.take (f.stl+m),f.stl⟩)) (G.fb.getD n 0)=some (vI_ ⟨f.data.take (f.stl+m),f.stl⟩):=qa_ hlf9
    have hrB:=ze_ (w0:=w) hlB
    have st1:=fun x=>JH_ ⟨f.data.take (f.stl+m),f.stl⟩ (f.data.take (f.stl+m)).length x
    have hokA:=Zn_ (n:=n) (f:=⟨f.data.take (f.stl+m),f.stl⟩) hP8.ok ⟨Nat.le_trans htl hfo.1,htl2⟩
    have hPA:=hP9.setFile hnl ⟨f.data.take (f.stl+m),f.stl⟩ hokA
    have hokB:=Zn_ (n:=n) (f:=⟨f.data.take (f.stl+m),(f.data.take (f.stl+m)).length⟩) hokA ⟨Nat.le_trans htl hfo.1,Nat.le_refl _⟩
    have hPB:=hPA.setFile (by rw[List.length_set];exact hnl) ⟨f.data.take (f.stl+m),(f.data.take (f.stl+m)).length⟩ hokB
    simp only[List.set_set] at hPB
    have hEB:=(hE9.setB (b:=G.fb.getD n 0) (o:=vI_ ⟨f.data.take (f.stl+m),f.stl⟩)).setB (b:=G.fb.getD n 0) (o:=vI_ ⟨f.data.take (f.stl+m),(f.data.take (f.stl+m)).length⟩)
    have hrf:rb≠G.fb.getD n 0:=hrn _ (hfk n (by have:=hP6.len;have:=hP8.len;omega)) (by omega)
    have hlkB:Sx.look (setB (setB L9 (G.fb.getD n 0) (vI_ ⟨f.data.take (f.stl+m),f.stl⟩)) (G.fb.getD n 0) (vI_ ⟨f.data.take (f.stl+m),(f.data.take (f.stl+m)).length⟩)) bk=some (kW_ v9):=by
     rw[zm_ (Ne.symm hbkf),zm_ (Ne.symm hbkf)];exact hlkA
    have hrbB:Sx.look (setB (setB L9 (G.fb.getD n 0) (vI_ ⟨f.data.take (f.stl+m),f.stl⟩)) (G.fb.getD n 0) (vI_ ⟨f.data.take (f.stl+m),(f.data.take (f.stl+m)).length⟩)) rb=some (.cells arr E fz):=by
     rw[zm_ (Ne.symm hrf),zm_ (Ne.symm hrf)];exact hrbA
    refine ko (And.intro @qC_ (And.intro @Jb_ (And.intro @hrB (And.intro @hlB (@st1))))) ?_
    first|with_reducible refine ks [] @qC_ ?_|refine kp @qC_ ?_
    exact Again.mk ⟨j+1,setB (setB L9 (G.fb.getD n 0) (vI_ ⟨f.data.take (f.stl+m),f.stl⟩)) (G.fb.getD n 0) (vI_ ⟨f.data.take (f.stl+m),(f.data.take (f.stl+m)).length⟩),v9⟩ (by show sn.length - (j+1)<sn.length - j;omega) ⟨hjt,by rw[hfl8];exact hPB,hlkB,by rw[hfl8];exact hvn,by rw[hfl8];exact hvn2 hvb8,hEB,by rw[hfl8];show(p8.drop 1).length<1000000;rw[List.length_drop];omega,fun _=>hrbB⟩ rfl rfl
   ·obtain rfl:j=sn.length:=by omega
    have d2:decide ((sn.length:Int)< (sn.length:Int))=false:=decide_eq_false (by omega)
    rw[List.take_length] at hP8 hv8 hvb8 hpl8
    first|with_reducible refine ks [] (And.intro @qC_ @d2) ?_|refine kp (And.intro @qC_ @d2) ?_
    first|with_reducible refine ks [] @qC_ ?_|refine kp @qC_ ?_
    exact Again.mk ⟨k+1,L8,v8⟩ (by show 3 - (k+1)<3 - k;omega) ⟨hlt6,by rw[hcm];exact hP8,hlk9,by rw[hcm];exact hv8,by rw[hcm];exact hvb8,hE8,by rw[hcm];exact hpl8⟩ rfl rfl
  ·obtain rfl:k=3:=by omega
   have d6:decide (((3:Nat):Int)<3)=false:=rfl
   first|with_reducible refine ks [] (And.intro @qC_ @d6) ?_|refine kp (And.intro @qC_ @d6) ?_
   refine⟨_,(ke @qC_), ?_⟩
   exact⟨hE6,G,rfl,hP6⟩
end Go.Proofs
end
section
open Go Go.Proofs Go.Sx Go.StP
namespace Go.Proofs
set_option maxRecDepth 10000
set_option maxHeartbeats 400000
set_option linter.unusedSimpArgs false
def ako_ (d:DirL):Prop:=d.pend.foldl q8_ d.stl=d.seen∧att_ d
def vM_ (S:DiskL):Prop:= ∀k,ako_ (S.dir k)
theorem wy_ (l:NmL):ako_ ⟨l,l,[]⟩:=⟨rfl,fun i hi=>absurd hi (Nat.not_lt_zero i)⟩
theorem akm_ {d:DirL} {c:CallL} (h:ako_ d) (hok:okC d.seen c):ako_ ⟨q8_ d.seen c,d.stl,d.pend++ [c]⟩:=by
 refine⟨by show(d.pend++ [c]).foldl q8_ d.stl=_;rw[List.foldl_append,h.1];rfl,fun i hi=> ?_⟩
 have hi':i< (d.pend++ [c]).length:=hi
 show okC (((d.pend++ [c]).take i).foldl q8_ d.stl) ((d.pend++ [c]).getD i wB_)
 by_cases e:i<d.pend.length
 ·rw[List.take_append_of_le_length (by omega),List.getD_eq_getElem?_getD,List.getElem?_append_left e,←List.getD_eq_getElem?_getD]
  exact h.2 i e
 ·rw[List.length_append,List.length_singleton] at hi'
  obtain rfl:i=d.pend.length:=by omega
  rw[List.take_append_of_le_length (Nat.le_refl _),List.take_length,h.1,List.getD_eq_getElem?_getD,List.getElem?_append_right (Nat.le_refl _),Nat.sub_self]
  exact hok
theorem Zs_ {S S':DiskL} (h:vM_ S) (e:S'.dir=S.dir):vM_ S':=fun k=>by rw[e];exact h k
theorem Qf_ {S:DiskL} (h:vM_ S) {k:Nat} {d:DirL} (hd:ako_ d):vM_ (qB_ S k d):=fun j=>by
 by_cases e:j=k
 ·subst e;rw[qX_];exact hd
 ·rw[j1_ _ _ e];exact h j
theorem Jw_ {S:DiskL} (h:vM_ S) {k:Nat} {c:CallL} (hok:okC (S.dir k).seen c):vM_ (k7_ S k c):=Qf_ h (akm_ (h k) hok)
theorem akN_ {S:DiskL} (h:vM_ S):vM_ (zu_ S).1:=Zs_ h (qv_ S).1
theorem ahA_ (q:Int):vM_ (wt_ q):=fun _=>wy_ []
theorem KI_ {q:DiskL×List UInt16} (h:vM_ q.1): ∀k,vM_ (z6_ q k).1
 |0=>h
 |k+1=>Qf_ (KI_ h k) (wy_ _)
theorem aiN_ {S:DiskL} (h:vM_ S) (pl:List UInt16):vM_ (qV_ S pl):=by
 unfold qV_
 refine Zs_ (S:=QX_ (z6_ (S,pl) 3).1) ?_ (kp_ _ 3)
 exact Zs_ (KI_ (q:=(S,pl)) h 3) rfl
end Go.Proofs
end
section
open Go Go.Proofs Go.Sx Go.StP
namespace Go.Proofs
set_option maxRecDepth 10000
set_option maxHeartbeats 400000
set_option linter.unusedSimpArgs false
def NmB (l:NmL):Prop:= ∀p,p∈l→p.1.length≤1000000
def am8_ (c:CallL):Prop:=c.a.length≤1000000∧c.b.length≤1000000
structure DirB (N:Nat) (d:DirL):Prop where
 seen:d.seen.length≤N
 stl:d.stl.length+d.pend.length≤N
 seenB:NmB d.seen
 stlB:NmB d.stl
 pendB: ∀c,c∈d.pend→am8_ c
def DkN (N:Nat) (S:DiskL):Prop:= ∀k,DirB N (S.dir k)
theorem DkN.b {N:Nat} {S:DiskL} (h:DkN N S) (hN:N≤1000000):DkB S:=fun k _=>⟨Nat.le_trans (h k).seen hN,(h k).seenB⟩
theorem DirB.mono {N M:Nat} {d:DirL} (h:DirB N d) (hm:N≤M):DirB M d:=⟨Nat.le_trans h.seen hm,Nat.le_trans h.stl hm,h.seenB,h.stlB,h.pendB⟩
theorem DkN.mono {N M:Nat} {S:DiskL} (h:DkN N S) (hm:N≤M):DkN M S:=fun k=>(h k).mono hm
theorem KQ_ (l:NmL) (s:List UInt8): (qQ_ l s).length≤l.length:=List.length_filter_le _ _
theorem aie_ (l:NmL) (x:List UInt8×Nat): (Xw_ l x).length≤l.length+1:=by
 have h1:=(jS_ x (qQ_ l x.1)).length_eq
 have h2:=KQ_ l x.1
 rw[List.length_cons] at h1
 show(insN (qQ_ l x.1) x).length≤_
 omega
theorem adz_ (l:NmL) (c:CallL): (q8_ l c).length≤l.length+1:=by
 unfold q8_
 split
 ·exact aie_ l _
 ·have h1:=aie_ (qQ_ l c.a) (c.b,(zB_ l c.a).getD 0)
  have h2:=KQ_ l c.a
  omega
 ·exact Nat.le_succ_of_le (KQ_ l _)
theorem afB_ {l:NmL} (h:NmB l) (s:List UInt8):NmB (qQ_ l s):=fun p hp=>h p (List.mem_filter.1 hp).1
theorem ap8_ {l:NmL} (h:NmB l) {x:List UInt8×Nat} (hx:x.1.length≤1000000):NmB (Xw_ l x):=fun p hp=>by
 have:=(jS_ x (qQ_ l x.1)).mem_iff.1 hp
 rcases List.mem_cons.1 this with rfl|h1
 ·exact hx
 ·exact afB_ h _ p h1
theorem amN_ {l:NmL} (h:NmB l) {c:CallL} (hc:am8_ c):NmB (q8_ l c):=by
 unfold q8_
 split
 ·exact ap8_ h hc.1
 ·exact ap8_ (afB_ h _) hc.2
 ·exact afB_ h _
theorem amG_: ∀ (cs:List CallL) {l:NmL},NmB l→(∀c,c∈cs→am8_ c)→NmB (cs.foldl q8_ l)∧(cs.foldl q8_ l).length≤l.length+cs.length
 | [],l,h,_=>⟨h,Nat.le_refl _⟩
 |c::cs,l,h,hc=>by
  have h1:=amG_ cs (amN_ h (hc c List.mem_cons_self)) (fun c' h'=>hc c' (List.mem_cons_of_mem _ h'))
  have h2:=adz_ l c
  refine⟨h1.1, ?_⟩
  have h3:=h1.2
  rw[List.length_cons]
  show(List.foldl q8_ (q8_ l c) cs).length≤_
  omega
theorem anl_ {N:Nat} {d:DirL} {c:CallL} (h:DirB N d) (hc:am8_ c):DirB (N+1) ⟨q8_ d.seen c,d.stl,d.pend++ [c]⟩ where
 seen:=by have:=adz_ d.seen c;have:=h.seen;show(q8_ d.seen c).length≤_;omega
 stl:=by have:=h.stl;show d.stl.length+ (d.pend++ [c]).length≤_;rw[List.length_append,List.length_singleton];omega
 seenB:=amN_ h.seenB hc
 stlB:=h.stlB
 pendB:=fun c' h'=>by
  rcases List.mem_append.1 h' with h'|h'
  ·exact h.pendB c' h'
  ·rw[List.mem_singleton.1 h'];exact hc
theorem KN_ {N:Nat} {l:NmL} (h:l.length≤N) (hb:NmB l):DirB N ⟨l,l,[]⟩:=⟨h,h,hb,hb,fun c hc=>by cases hc⟩
theorem JF_ {N:Nat} {S:DiskL} (h:DkN N S) {k:Nat} {d:DirL} (hd:DirB N d):DkN N (qB_ S k d):=fun j=>by
 by_cases e:j=k
 ·subst e;rw[qX_];exact hd
 ·rw[j1_ _ _ e];exact h j
theorem JJ_ {N:Nat} {S S':DiskL} (h:DkN N S) (e:S'.dir=S.dir):DkN N S':=fun k=>by rw[e];exact h k
theorem K7_ {N:Nat} {S:DiskL} (h:DkN N S) {k:Nat} {c:CallL} (hc:am8_ c):DkN (N+1) (k7_ S k c):=JF_ (h.mono (Nat.le_succ N)) (anl_ (h k) hc)
theorem Jo_ {N:Nat} {q:DiskL×List UInt16} (h:DkN N q.1): ∀k,DkN N (z6_ q k).1
 |0=>h
 |k+1=>by
  have h1:=Jo_ h k
  have hd:=h1 k
  show DkN N (ah3_ (z6_ q k) k).1
  generalize z6_ q k=r at*
  refine JF_ h1 ?_
  have h2:=amG_ ((r.1.dir k).pend.take (vm_ r.2 (r.1.dir k).pend.length)) hd.stlB (fun c hc=>hd.pendB c (List.mem_of_mem_take hc))
  refine KN_ ?_ h2.1
  have h3:=h2.2
  rw[List.length_take] at h3
  have h4:=hd.stl
  show(List.foldl q8_ _ _).length≤N
  omega
theorem aky_ {N:Nat} {S:DiskL} (h:DkN N S) (pl:List UInt16):DkN N (qV_ S pl):=by
 unfold qV_
 refine JJ_ (S:=QX_ (z6_ (S,pl) 3).1) ?_ (kp_ _ 3)
 exact JJ_ (Jo_ (q:=(S,pl)) h 3) rfl
theorem alf_ (q:Int):DkN 0 (wt_ q):=fun _=>KN_ (Nat.le_refl 0) fun _ h=>by cases h
end Go.Proofs
end
section
open Go Go.Proofs Go.Sx Go.StP
namespace Go.Proofs
set_option maxRecDepth 10000
set_option maxHeartbeats 400000
set_option linter.unusedSimpArgs false
end Go.Proofs
end
section
open Go Go.Proofs Go.Sx Go.StP
namespace Go.Proofs
set_option maxRecDepth 10000
set_option maxHeartbeats 400000
set_option linter.unusedSimpArgs false
theorem afu_ (S:DiskL) (f:FiL) (h: ∀k,(S.dir k).pend= []∧(S.dir k).stl= []): ∀k,((jF_ S f).dir k).pend= []∧((jF_ S f).dir k).stl= []:=by
 intro k
 unfold jF_
 split
 ·rename_i j hj
  split
  ·by_cases e:k=j
   ·subst e;rw[qX_];exact⟨(h k).1,(h k).2⟩
   ·rw[j1_ _ _ e];exact h k
  ·exact h k
 ·exact h k
theorem agw_ (l:List FiL): ∀ (S:DiskL),(∀k,(S.dir k).pend= []∧(S.dir k).stl= [])→ ∀k,((l.foldl jF_ S).dir k).pend= []∧((l.foldl jF_ S).dir k).stl= []:=by
 induction l with
 |nil=>exact fun _ h=>h
 |cons f l ih=>exact fun S h=>ih _ (afu_ S f h)
theorem aiR_ (S:DiskL) (f:FiL) (h: ∀k,3≤k→(S.dir k).seen= []): ∀k,3≤k→((jF_ S f).dir k).seen= []:=by
 intro k hk
 unfold jF_
 split
 ·rename_i j hj
  split
  ·have h3:=(zE_ hj).1
   rw[j1_ _ _ (by omega)];exact h k hk
  ·exact h k hk
 ·exact h k hk
theorem ajW_ (l:List FiL): ∀ (S:DiskL),(∀k,3≤k→(S.dir k).seen= [])→ ∀k,3≤k→((l.foldl jF_ S).dir k).seen= []:=by
 induction l with
 |nil=>exact fun _ h=>h
 |cons f l ih=>exact fun S h=>ih _ (aiR_ S f h)
theorem ahb_ (S:DiskL) (k:Nat): (setV S [0,1,2]).dir k=if k∈ [0,1,2] then⟨(S.dir k).seen,(S.dir k).seen,[]⟩ else S.dir k:=rfl
theorem aqg_ (q:Int) (l:List FiL):vM_ (ofD q l):=fun k=>by
 have h1:=agw_ l (wt_ q) (fun _=>⟨rfl,rfl⟩) k
 have h2:=ajW_ l (wt_ q) (fun _ _=>rfl) k
 unfold ofD
 rw[ahb_]
 generalize l.foldl jF_ (wt_ q)=S at*
 split
 ·exact wy_ _
 ·rename_i hk
  have h3:3≤k:=by
   simp only[List.mem_cons,List.not_mem_nil,or_false,not_or] at hk
   omega
  have h4:=h2 h3
  generalize S.dir k=d at*
  obtain⟨a,b,c⟩:=d
  simp only at h1 h4
  obtain⟨rfl,rfl⟩:=h1
  subst h4
  exact wy_ []
end Go.Proofs
end
section
open Go Go.Proofs Go.Sx Go.StP
namespace Go.Proofs
set_option maxRecDepth 10000
set_option maxHeartbeats 400000
set_option linter.unusedSimpArgs false
theorem an6_ {N:Nat} {S:DiskL} (h:DkN N S):DkN N (zu_ S).1:=JJ_ h (qv_ S).1
theorem acb_ {N:Nat} {S:DiskL} (h:DkN N S):DkN (N+1) S:=h.mono (Nat.le_succ N)
theorem Xq_ {S:DiskL} (ok:DkOk S): ∀ (l:NmL),(∀p,p∈l→p.2<S.files.length)→qr_ S l≤l.length*1048576
 | [],_=>Nat.zero_le _
 |p::l,h=>by
  have h1:=Xq_ ok l fun q hq=>h q (List.mem_cons_of_mem _ hq)
  have h2:=(JG_ ok (h p List.mem_cons_self)).1
  unfold qr_ zq_ at*
  rw[List.map_cons,List.sum_cons,List.length_cons]
  omega
theorem apy_ {N:Nat} {S:DiskL} (ok:DkOk S) (h:DkN N S):qM_ S≤3* (N*1048576):=by
 have h0:=Xq_ ok _ (ok.seenN 0 (by omega))
 have h1:=Xq_ ok _ (ok.seenN 1 (by omega))
 have h2:=Xq_ ok _ (ok.seenN 2 (by omega))
 have g0:=Nat.mul_le_mul_right 1048576 (h 0).seen
 have g1:=Nat.mul_le_mul_right 1048576 (h 1).seen
 have g2:=Nat.mul_le_mul_right 1048576 (h 2).seen
 unfold qM_
 omega
end Go.Proofs
end
section
open Go Go.Proofs Go.Sx Go.StP
namespace Go.Proofs
set_option maxRecDepth 10000
set_option maxHeartbeats 400000
set_option linter.unusedSimpArgs false
theorem mem_wipe {l:NmL} {s:List UInt8} {p:List UInt8×Nat}:p∈qQ_ l s↔p∈l∧p.1≠s:=by
 unfold qQ_
 rw[List.mem_filter]
 constructor
 ·rintro⟨h1,h2⟩
  exact⟨h1,fun e=>by rw[e] at h2;simp at h2⟩
 ·rintro⟨h1,h2⟩
  exact⟨h1,by simpa using Ne.symm h2⟩
theorem mem_put {l:NmL} {x p:List UInt8×Nat}:p∈Xw_ l x↔p=x∨(p∈l∧p.1≠x.1):=by
 unfold Xw_
 rw[(jS_ x _).mem_iff,List.mem_cons,mem_wipe]
theorem aor_ {l:NmL} {c:CallL} {p:List UInt8×Nat} (hok:okC l c) (h:p∈q8_ l c): (c.kind=0∧p=(c.a,c.n))∨(c.kind=1∧ ∃m,zB_ l c.a=some m∧p=(c.b,m))∨(p∈l∧p.1≠c.a∧(c.kind=1→p.1≠c.b)):=by
 unfold q8_ at h
 split at h
 ·rename_i hk
  rcases mem_put.1 h with rfl| ⟨h1,h2⟩
  ·exact .inl ⟨hk,rfl⟩
  ·exact .inr (.inr ⟨h1,h2,fun e=>by rw[hk] at e;cases e⟩)
 ·rename_i hk
  cases hm:zB_ l c.a with
  |none=>exact absurd hm (hok hk).1
  |some m=>
   rw[hm] at h
   rcases mem_put.1 h with rfl| ⟨h1,h2⟩
   ·exact .inr (.inl ⟨hk,m,rfl,rfl⟩)
   ·have h3:=mem_wipe.1 h1
    exact .inr (.inr ⟨h3.1,h3.2,fun _=>h2⟩)
 ·rename_i h0 h1
  have h3:=mem_wipe.1 h
  exact .inr (.inr ⟨h3.1,h3.2,fun e=>absurd e h1⟩)
def vz_ (S:DiskL):Prop:= ∀j k,j<3→k<3→ ∀p,p∈ (S.dir j).seen→ ∀q,q∈ (S.dir k).seen→p.2=q.2→j=k∧p=q
theorem xT_ {S S':DiskL} (h:vz_ S) (e: ∀k,k<3→(S'.dir k).seen=(S.dir k).seen):vz_ S':=fun j k hj hk p hp q hq=>by
 rw[e j hj] at hp
 rw[e k hk] at hq
 exact h j k hj hk p hp q hq
theorem jH_ (S:DiskL) (k j:Nat) (c:CallL): ((k7_ S k c).dir j).seen=if j=k then q8_ (S.dir k).seen c else(S.dir j).seen:=by
 unfold k7_
 by_cases e:j=k
 ·subst e;rw[qX_,if_pos rfl]
 ·rw[j1_ _ _ e,if_neg e]
theorem Q4_ {S:DiskL} {k j:Nat} {c:CallL} {p:List UInt8×Nat} (hok:okC (S.dir k).seen c) (h:p∈ ((k7_ S k c).dir j).seen):
  (p∈ (S.dir j).seen∧(j=k→p.1≠c.a∧(c.kind=1→p.1≠c.b)))∨(j=k∧c.kind=0∧p=(c.a,c.n))∨(j=k∧c.kind=1∧ ∃m,zB_ (S.dir k).seen c.a=some m∧p=(c.b,m)):=by
 rw[jH_] at h
 by_cases e:j=k
 ·rw[if_pos e] at h
  subst e
  rcases aor_ hok h with⟨h1,h2⟩ | ⟨h1,h2⟩ | ⟨h1,h2⟩
  ·exact .inr (.inl ⟨rfl,h1,h2⟩)
  ·exact .inr (.inr ⟨rfl,h1,h2⟩)
  ·exact .inl ⟨h1,fun _=>h2⟩
 ·rw[if_neg e] at h
  exact .inl ⟨h,fun e'=>absurd e' e⟩
theorem JB_ {S:DiskL} (h:vz_ S) {k:Nat} {c:CallL} (hk:k<3) (hok:okC (S.dir k).seen c) (hn:c.kind=0→ ∀j,j<3→ ∀q,q∈ (S.dir j).seen→q.2≠c.n):vz_ (k7_ S k c):=by
 intro i j hi hj p hp q hq e
 rcases Q4_ hok hp with⟨p1,p2⟩ | ⟨rfl,p1,rfl⟩ | ⟨rfl,p1,m,pm,rfl⟩
 ·rcases Q4_ hok hq with⟨q1,q2⟩ | ⟨rfl,q1,rfl⟩ | ⟨rfl,q1,m,qm,rfl⟩
  ·exact h i j hi hj p p1 q q1 e
  ·exact absurd e (hn q1 i hi p p1)
  ·have h1:=h i j hi hj p p1 _ (zW_ qm) e
   exact absurd (by rw[h1.2]) (p2 h1.1).1
 ·rcases Q4_ hok hq with⟨q1,q2⟩ | ⟨rfl,q1,rfl⟩ | ⟨rfl,q1,m,qm,rfl⟩
  ·exact absurd e.symm (hn p1 j hj q q1)
  ·exact⟨rfl,rfl⟩
  ·rw[p1] at q1;cases q1
 ·rcases Q4_ hok hq with⟨q1,q2⟩ | ⟨rfl,q1,rfl⟩ | ⟨rfl,q1,m',qm,rfl⟩
  ·have h1:=h j i hj hi q q1 _ (zW_ pm) e.symm
   exact absurd (by rw[h1.2]) (q2 h1.1).1
  ·rw[p1] at q1;cases q1
  ·rw[pm] at qm;cases qm;exact⟨rfl,rfl⟩
def LtS (S:DiskL):Prop:= ∀k,k<3→ ∀p,p∈ (S.dir k).seen→p.2<S.files.length
theorem anR_ {S:DiskL} (h:vz_ S) (hl:LtS S) {k:Nat} (hk:k<3) (s:List UInt8) (f:FileL) {d:DirL} (hd:d.seen=Xw_ (S.dir k).seen (s,S.files.length)):vz_ (qB_ (xC_ S f) k d)∧LtS (qB_ (xC_ S f) k d):=by
 have hm: ∀j p,p∈ ((qB_ (xC_ S f) k d).dir j).seen→p∈ (S.dir j).seen∨(j=k∧p=(s,S.files.length)):=fun j p hp=>by
  by_cases e:j=k
  ·subst e
   rw[qX_,hd] at hp
   rcases mem_put.1 hp with rfl|h1
   ·exact .inr ⟨rfl,rfl⟩
   ·exact .inl h1.1
  ·rw[j1_ _ _ e] at hp
   exact .inl hp
 constructor
 ·intro i j hi hj p hp q hq e
  rcases hm i p hp with p1| ⟨rfl,rfl⟩
  ·rcases hm j q hq with q1| ⟨rfl,rfl⟩
   ·exact h i j hi hj p p1 q q1 e
   ·have:=hl i hi p p1
    simp only at e
    omega
  ·rcases hm j q hq with q1| ⟨rfl,rfl⟩
   ·have:=hl j hj q q1
    simp only at e
    omega
   ·exact⟨rfl,rfl⟩
 ·intro j hj p hp
  show p.2< (S.files++ [f]).length
  rw[List.length_append,List.length_singleton]
  rcases hm j p hp with p1| ⟨-,rfl⟩
  ·have:=hl j hj p p1
   omega
  ·simp
theorem afS_ {S:DiskL} (h:vz_ S∧LtS S) (f:FiL):vz_ (jF_ S f)∧LtS (jF_ S f):=by
 unfold jF_
 split
 ·rename_i k hk
  split
  ·exact anR_ h.1 h.2 (zE_ hk).1 _ _ rfl
  ·exact h
 ·exact h
theorem agy_ (l:List FiL): ∀ {S:DiskL},vz_ S∧LtS S→vz_ (l.foldl jF_ S)∧LtS (l.foldl jF_ S):=by
 induction l with
 |nil=>exact fun h=>h
 |cons f l ih=>exact fun h=>ih (afS_ h f)
theorem acX_ (S:DiskL) (k:Nat): ((setV S [0,1,2]).dir k).seen=(S.dir k).seen:=by
 rw[ahb_]
 split
 ·rfl
 ·rfl
theorem aq7_ (q:Int) (l:List FiL):vz_ (ofD q l):=
 xT_ (agy_ l (S:=wt_ q) ⟨fun _ _ _ _ p hp=>(by cases hp),fun _ _ p hp=>(by cases hp)⟩).1 fun k _=>acX_ _ k
def JK_ (S:DiskL):Prop:= ∀k,k<3→ ∀p,p∈ (S.dir k).seen→q7_ p.1=true
theorem vo_ {S S':DiskL} (h:JK_ S) (e: ∀k,k<3→(S'.dir k).seen=(S.dir k).seen):JK_ S':=fun k hk p hp=>by
 rw[e k hk] at hp
 exact h k hk p hp
theorem Jx_ {S:DiskL} (h:JK_ S) {k:Nat} {c:CallL} (hk:k<3) (hok:okC (S.dir k).seen c) (h0:c.kind=0→q7_ c.a=true) (h1:c.kind=1→q7_ c.b=true):JK_ (k7_ S k c):=by
 intro j hj p hp
 rcases Q4_ hok hp with⟨p1,p2⟩ | ⟨rfl,p1,rfl⟩ | ⟨rfl,p1,m,pm,rfl⟩
 ·exact h j hj p p1
 ·exact h0 p1
 ·exact h1 p1
theorem af4_ {S:DiskL} (h:JK_ S) (f:FiL):JK_ (jF_ S f):=by
 unfold jF_
 split
 ·rename_i k hk
  split
  ·rename_i hc
   intro j hj p hp
   by_cases e:j=k
   ·subst e
    rw[qX_] at hp
    rcases mem_put.1 hp with rfl|h1
    ·exact hc.1
    ·exact h j hj p h1.1
   ·rw[j1_ _ _ e] at hp
    exact h j hj p hp
  ·exact h
 ·exact h
theorem asf_ (q:Int) (l:List FiL):JK_ (ofD q l):=by
 have h1: ∀ (l:List FiL) (S:DiskL),JK_ S→JK_ (l.foldl jF_ S):=fun l=>by
  induction l with
  |nil=>exact fun _ h=>h
  |cons f l ih=>exact fun S h=>ih _ (af4_ h f)
 exact vo_ (h1 l (wt_ q) (fun _ _ p hp=>by cases hp)) fun k _=>acX_ _ k
end Go.Proofs
end
section
open Go Go.Proofs Go.Sx Go.StP
namespace Go.Proofs
set_option maxRecDepth 10000
set_option maxHeartbeats 400000
set_option linter.unusedSimpArgs false
def doV (S:DiskL) (kind:Int) (dir name s:List UInt8):DiskL×Nat:=
 if kind=0 then jk_ S dir name else if kind=1 then qy_ S dir name s else if kind=2 then q0_ S dir name else if kind=3 then zR_ S dir else if kind=4 then jc_ S dir name s else if kind=5 then qk_ S dir name else(S,0)
inductive StepD (S:DiskL) (kind:Int) (dir name s:List UInt8):DiskL→Nat→Prop
 |same (e:Nat) (h:e≠0∨(kind≠2∧kind≠3)):StepD S kind dir name s S e
 |burn (h:kind≠2∧kind≠3∨(zu_ S).2≠0):StepD S kind dir name s (zu_ S).1 (zu_ S).2
 |create (k:Nat) (hk:zN_ dir=some k) (hf:q7_ name=true) (hn:zB_ (S.dir k).seen name=none) (hb: (zu_ S).2=0):StepD S kind dir name s (k7_ (xC_ (zu_ S).1 jP_) k ⟨0,name,[],S.files.length⟩) 0
 |append (k m:Nat) (hk:zN_ dir=some k) (hm:zB_ (S.dir k).seen name=some m) (hf:Z2_ S m s=false) (hb: (zu_ S).2=0):StepD S kind dir name s (xq_ (zu_ S).1 m ⟨(zq_ S m).data++s,(zq_ S m).stl⟩) 0
 |sync (k m:Nat) (hk:zN_ dir=some k) (hm:zB_ (S.dir k).seen name=some m) (hb: (zu_ S).2=0):StepD S kind dir name s (xq_ (zu_ S).1 m ⟨(zq_ S m).data,(zq_ S m).data.length⟩) 0
 |syncDir (k:Nat) (hk:zN_ dir=some k) (hb: (zu_ S).2=0):StepD S kind dir name s (Z1_ (zu_ S).1 k) 0
 |rename (k m:Nat) (h4:kind=4) (hk:zN_ dir=some k) (hm:zB_ (S.dir k).seen name=some m) (hf:q7_ s=true) (hne:name≠s) (hb: (zu_ S).2=0):StepD S kind dir name s (k7_ (zu_ S).1 k ⟨1,name,s,0⟩) 0
 |remove (k m:Nat) (hk:zN_ dir=some k) (hm:zB_ (S.dir k).seen name=some m) (hb: (zu_ S).2=0):StepD S kind dir name s (k7_ (zu_ S).1 k ⟨2,name,[],0⟩) 0
theorem aaw_ {S:DiskL} {dir name:List UInt8} {m:Nat} (h:atD S dir name=some m): ∃k,zN_ dir=some k∧zB_ (S.dir k).seen name=some m:=by
 unfold atD at h
 cases hk:zN_ dir with
 |none=>rw[hk] at h;cases h
 |some k=>rw[hk] at h;exact⟨k,rfl,h⟩
theorem aqj_ {S:DiskL} {dir name:List UInt8} {k:Nat} (hk:zN_ dir=some k) (h:atD S dir name=none):zB_ (S.dir k).seen name=none:=by
 unfold atD at h
 rw[hk] at h;exact h
theorem QH_ {S:DiskL} {dir:List UInt8} {names:List (List UInt8)} (h:qU_ S dir names=0): ∃k,zN_ dir=some k∧names.all q7_=true:=by
 obtain⟨h1,h2,-⟩:=aiT_ h
 cases hk:zN_ dir with
 |none=>exact absurd hk h1
 |some k=>exact⟨k,rfl,h2⟩
theorem Z5_ (S:DiskL) (dir name s:List UInt8):StepD S 0 dir name s (jk_ S dir name).1 (jk_ S dir name).2:=by
 unfold jk_
 split
 ·exact .same _ (.inr ⟨by decide,by decide⟩)
 ·rename_i hf
  split
  ·exact .same _ (.inr ⟨by decide,by decide⟩)
  ·rename_i ha
   split
   ·exact .burn (.inl ⟨by decide,by decide⟩)
   ·rename_i hb
    obtain⟨k,hk,hn⟩:=QH_ (S:=S) (dir:=dir) (names:= [name]) (by simpa using hf)
    rw[hk]
    exact .create k hk (by simpa using hn) (aqj_ hk ha) (by simpa using hb)
theorem j7_ (S:DiskL) (dir name s:List UInt8):StepD S 5 dir name s (qk_ S dir name).1 (qk_ S dir name).2:=by
 unfold qk_
 split
 ·exact .same _ (.inr ⟨by decide,by decide⟩)
 ·split
  ·exact .same _ (.inr ⟨by decide,by decide⟩)
  ·rename_i m ha
   split
   ·exact .burn (.inl ⟨by decide,by decide⟩)
   ·rename_i hb
    obtain⟨k,hk,hm⟩:=aaw_ ha
    rw[hk]
    exact .remove k m hk hm (by simpa using hb)
theorem ZQ_ (S:DiskL) (dir name s:List UInt8):StepD S 4 dir name s (jc_ S dir name s).1 (jc_ S dir name s).2:=by
 unfold jc_
 split
 ·exact .same _ (.inr ⟨by decide,by decide⟩)
 ·rename_i hf
  split
  ·exact .same _ (.inr ⟨by decide,by decide⟩)
  ·rename_i m ha
   split
   ·exact .burn (.inl ⟨by decide,by decide⟩)
   ·rename_i hne
    split
    ·exact .burn (.inl ⟨by decide,by decide⟩)
    ·rename_i hb
     obtain⟨k,hk,hm⟩:=aaw_ ha
     obtain⟨-,-,hn⟩:=QH_ (S:=S) (dir:=dir) (names:= [name,s]) (by simpa using hf)
     simp only[List.all_cons,List.all_nil,Bool.and_true,Bool.and_eq_true] at hn
     rw[hk]
     exact .rename k m rfl hk hm hn.2 hne (by simpa using hb)
theorem ZT_ (S:DiskL) (dir name s:List UInt8):StepD S 1 dir name s (qy_ S dir name s).1 (qy_ S dir name s).2:=by
 unfold qy_
 split
 ·exact .same _ (.inr ⟨by decide,by decide⟩)
 ·split
  ·exact .same _ (.inr ⟨by decide,by decide⟩)
  ·rename_i m ha
   split
   ·exact .same _ (.inr ⟨by decide,by decide⟩)
   ·rename_i hfl
    split
    ·exact .burn (.inl ⟨by decide,by decide⟩)
    ·rename_i hb
     obtain⟨k,hk,hm⟩:=aaw_ ha
     exact .append k m hk hm (by simpa using hfl) (by simpa using hb)
theorem QO_ (S:DiskL) (dir name s:List UInt8):StepD S 2 dir name s (q0_ S dir name).1 (q0_ S dir name).2:=by
 unfold q0_
 split
 ·rename_i hf
  exact .same _ (.inl hf)
 ·split
  ·exact .same _ (.inl (Nat.succ_ne_zero 5))
  ·rename_i m ha
   split
   ·rename_i hb
    exact .burn (.inr hb)
   ·rename_i hb
    obtain⟨k,hk,hm⟩:=aaw_ ha
    exact .sync k m hk hm (by simpa using hb)
theorem kQ_ (S:DiskL) (dir name s:List UInt8):StepD S 3 dir name s (zR_ S dir).1 (zR_ S dir).2:=by
 unfold zR_
 split
 ·rename_i hf
  exact .same _ (.inl hf)
 ·rename_i hf
  split
  ·rename_i hb
   exact .burn (.inr hb)
  ·rename_i hb
   obtain⟨k,hk,-⟩:=QH_ (S:=S) (dir:=dir) (names:= []) (by simpa using hf)
   rw[hk]
   exact .syncDir k hk (by simpa using hb)
theorem arI_ (S:DiskL) (kind:Int) (dir name s:List UInt8):StepD S kind dir name s (doV S kind dir name s).1 (doV S kind dir name s).2:=by
 unfold doV
 split
 ·rename_i h;subst h;exact Z5_ S dir name s
 split
 ·rename_i h;subst h;exact ZT_ S dir name s
 split
 ·rename_i h;subst h;exact QO_ S dir name s
 split
 ·rename_i h;subst h;exact kQ_ S dir name s
 split
 ·rename_i h;subst h;exact ZQ_ S dir name s
 split
 ·rename_i h;subst h;exact j7_ S dir name s
 ·rename_i h0 h1 h2 h3 h4 h5
  exact .same 0 (.inr ⟨h2,h3⟩)
theorem abn_ {l:NmL} {a b:List UInt8} {m:Nat} (h:zB_ l a=some m) (hne:a≠b):okC l ⟨1,a,b,0⟩:=fun _=>⟨by rw[h];simp,hne⟩
section
variable {S S':DiskL} {kind:Int} {dir name s:List UInt8} {e:Nat}
theorem Zh_ (h:StepD S kind dir name s S' e):S'.max=S.max:=by
 have hb:=(qv_ S).2.2
 cases h<;>first|rfl|exact hb
theorem kx_ (S:DiskL) (k j:Nat): ((Z1_ S k).dir j).seen=(S.dir j).seen:=by
 unfold Z1_
 by_cases e:j=k
 ·subst e;rw[qX_]
 ·rw[j1_ _ _ e]
theorem amz_ (ok:DkOk S) (hu:vz_ S) (h:StepD S kind dir name s S' e):vz_ S':=by
 obtain⟨hb1,hb2,-⟩:=qv_ S
 have hbu:vz_ (zu_ S).1:=xT_ hu fun k _=>by rw[hb1]
 cases h with
 |same=>exact hu
 |burn=>exact hbu
 |create k hk hf hn hb=>
  refine JB_ (xT_ hbu fun _ _=>rfl) (zE_ hk).1 (fun e=>by cases e) (fun _ j hj q hq=> ?_)
  have hq':q∈ (S.dir j).seen:=by rw[←hb1];exact hq
  have:=ok.seenN j hj q hq'
  show q.2≠S.files.length
  omega
 |append k m hk hm hf hb=>exact xT_ hbu fun _ _=>rfl
 |sync k m hk hm hb=>exact xT_ hbu fun _ _=>rfl
 |syncDir k hk hb=>exact xT_ hbu fun j _=>kx_ _ _ _
 |rename k m h4 hk hm hf hne hb=>exact JB_ hbu (zE_ hk).1 (by rw[hb1];exact abn_ hm hne) (fun e=>by cases e)
 |remove k m hk hm hb=>exact JB_ hbu (zE_ hk).1 (fun e=>by cases e) (fun e=>by cases e)
theorem ak2_ (hu:JK_ S) (h:StepD S kind dir name s S' e):JK_ S':=by
 obtain⟨hb1,hb2,-⟩:=qv_ S
 have hbu:JK_ (zu_ S).1:=vo_ hu fun k _=>by rw[hb1]
 cases h with
 |same=>exact hu
 |burn=>exact hbu
 |create k hk hf hn hb=>exact Jx_ (vo_ hbu fun _ _=>rfl) (zE_ hk).1 (fun e=>by cases e) (fun _=>hf) (fun e=>by cases e)
 |append k m hk hm hf hb=>exact vo_ hbu fun _ _=>rfl
 |sync k m hk hm hb=>exact vo_ hbu fun _ _=>rfl
 |syncDir k hk hb=>exact vo_ hbu fun j _=>kx_ _ _ _
 |rename k m h4 hk hm hf hne hb=>exact Jx_ hbu (zE_ hk).1 (by rw[hb1];exact abn_ hm hne) (fun e=>by cases e) (fun _=>hf)
 |remove k m hk hm hb=>exact Jx_ hbu (zE_ hk).1 (fun e=>by cases e) (fun e=>by cases e) (fun e=>by cases e)
theorem ady_ (hu:vM_ S) (h:StepD S kind dir name s S' e):vM_ S':=by
 obtain⟨hb1,hb2,-⟩:=qv_ S
 have hbu:=akN_ hu
 cases h with
 |same=>exact hu
 |burn=>exact hbu
 |create k hk hf hn hb=>exact Jw_ (Zs_ hbu rfl) (fun e=>by cases e)
 |append k m hk hm hf hb=>exact Zs_ hbu rfl
 |sync k m hk hm hb=>exact Zs_ hbu rfl
 |syncDir k hk hb=>exact Qf_ hbu (wy_ _)
 |rename k m h4 hk hm hf hne hb=>exact Jw_ hbu (by rw[hb1];exact abn_ hm hne)
 |remove k m hk hm hb=>exact Jw_ hbu (fun e=>by cases e)
theorem ag7_ {N:Nat} (hu:DkN N S) (hn:name.length≤1000000) (hs:s.length≤1000000) (h:StepD S kind dir name s S' e):DkN (N+1) S':=by
 have hbu:=an6_ hu
 cases h with
 |same=>exact acb_ hu
 |burn=>exact acb_ hbu
 |create k hk hf hn' hb=>exact K7_ (JJ_ hbu rfl) ⟨hn,Nat.zero_le _⟩
 |append k m hk hm hf hb=>exact acb_ (JJ_ hbu rfl)
 |sync k m hk hm hb=>exact acb_ (JJ_ hbu rfl)
 |syncDir k hk hb=>exact acb_ (JF_ hbu (KN_ (hbu k).seen (hbu k).seenB))
 |rename k m h4 hk hm hf hne hb=>exact K7_ hbu ⟨hn,hs⟩
 |remove k m hk hm hb=>exact K7_ hbu ⟨hn,Nat.zero_le _⟩
end
end Go.Proofs
end
section
open Go Go.Proofs Go.Sx Go.StP
namespace Go.Proofs
set_option maxRecDepth 10000
set_option maxHeartbeats 400000
set_option linter.unusedSimpArgs false
theorem kD_ (S:DiskL) (p:List UInt8×Nat) (l:NmL):qr_ S (p::l)=(zq_ S p.2).data.length+qr_ S l:=by
 unfold qr_ zq_
 rw[List.map_cons,List.sum_cons]
theorem aku_ (S:DiskL) {l m:NmL} (h:l.Perm m):qr_ S l=qr_ S m:=(h.map _).sum_nat
theorem wH_ (S:DiskL) (s:List UInt8): ∀l:NmL,qr_ S (qQ_ l s)≤qr_ S l
 | []=>Nat.le_refl _
 |p::l=>by
  have h:=wH_ S s l
  rw[kD_]
  unfold qQ_ at h ⊢
  rw[List.filter_cons]
  split
  ·rw[kD_];omega
  ·omega
theorem ag5_ (S:DiskL) (l:NmL) (x:List UInt8×Nat):qr_ S (Xw_ l x)=(zq_ S x.2).data.length+qr_ S (qQ_ l x.1):=by
 unfold Xw_
 rw[aku_ S (jS_ x _),kD_]
theorem ab5_ (S:DiskL) {a:List UInt8} {m:Nat}: ∀ {l:NmL},(a,m)∈l→(zq_ S m).data.length+qr_ S (qQ_ l a)≤qr_ S l
 |p::l,h=>by
  have h0:=wH_ S a l
  rw[kD_]
  rcases List.mem_cons.1 h with rfl|h
  ·unfold qQ_ at h0 ⊢
   rw[List.filter_cons]
   simp only[beq_self_eq_true,Bool.not_true,Bool.false_eq_true, ↓reduceIte]
   omega
  ·have h1:=ab5_ S h
   unfold qQ_ at h1 ⊢
   rw[List.filter_cons]
   split
   ·rw[kD_];omega
   ·omega
theorem ko_ {S S':DiskL} {l:NmL} (h: ∀p,p∈l→(zq_ S' p.2).data.length=(zq_ S p.2).data.length):qr_ S' l=qr_ S l:=by
 unfold qr_
 congr 1
 exact List.map_congr_left h
theorem kE_ (S:DiskL) {m:Nat} (f:FileL) (hm:m<S.files.length) (n:Nat):zq_ (xq_ S m f) n=if n=m then f else zq_ S n:=by
 unfold zq_ xq_
 simp only
 rw[List.getD_eq_getElem?_getD,List.getD_eq_getElem?_getD]
 by_cases e:n=m
 ·subst e;rw[if_pos rfl,List.getElem?_set_self hm];rfl
 ·rw[if_neg e,List.getElem?_set_ne (Ne.symm e)]
theorem adG_ (S:DiskL) (f:FileL) {n:Nat} (hn:n<S.files.length):zq_ (xC_ S f) n=zq_ S n:=by
 unfold zq_ xC_
 exact JO_ _ _ hn
theorem ac4_ (S:DiskL) (f:FileL):zq_ (xC_ S f) S.files.length=f:=by
 unfold zq_ xC_
 exact Jp_ _ _ rfl
theorem qd_ (S:DiskL) (n:Nat):zq_ (zu_ S).1 n=zq_ S n:=by
 unfold zq_
 rw[(qv_ S).2.1]
theorem ahX_ {S:DiskL} {m:Nat} {f:FileL} (hm:m<S.files.length) {x:Nat} (hx:f.data.length=(zq_ S m).data.length+x): ∀ {l:NmL},(l.map Prod.fst).Nodup→(∀p,p∈l→ ∀q,q∈l→p.2=q.2→p=q)→qr_ (xq_ S m f) l=qr_ S l+if m∈l.map Prod.snd then x else 0
 | [],_,_=>rfl
 |p::l,hn,h=>by
  rw[List.map_cons,List.nodup_cons] at hn
  have ih:=ahX_ hm hx hn.2 fun a ha b hb=>h a (List.mem_cons_of_mem _ ha) b (List.mem_cons_of_mem _ hb)
  rw[kD_,kD_,ih,kE_ S f hm]
  by_cases e:p.2=m
  ·have h1:m∉l.map Prod.snd:=fun hmem=>by
    obtain⟨q,hq,hq2⟩:=List.mem_map.1 hmem
    have h2:=h p List.mem_cons_self q (List.mem_cons_of_mem _ hq) (by rw[e,hq2])
    exact hn.1 (List.mem_map.2 ⟨q,hq,by rw[h2]⟩)
   rw[if_pos e,if_neg h1,if_pos (by rw[List.map_cons,e];exact List.mem_cons_self),hx,e]
   omega
  ·rw[if_neg e]
   by_cases h1:m∈l.map Prod.snd
   ·rw[if_pos h1,if_pos (by rw[List.map_cons];exact List.mem_cons_of_mem _ h1)]
    omega
   ·rw[if_neg h1,if_neg (by
     rw[List.map_cons]
     intro h2
     rcases List.mem_cons.1 h2 with h2|h2
     ·exact e h2.symm
     ·exact h1 h2)]
    omega
theorem ad7_ {S:DiskL} (ok:DkOk S) (hu:vz_ S) {k m:Nat} (hk:k<3) {nm:List UInt8} (hm: (nm,m)∈ (S.dir k).seen) {f:FileL} {x:Nat} (hx:f.data.length=(zq_ S m).data.length+x):qM_ (xq_ S m f)≤qM_ S+x:=by
 have hml:m<S.files.length:=ok.seenN k hk _ hm
 have hd: ∀j,j<3→qr_ (xq_ S m f) (S.dir j).seen=qr_ S (S.dir j).seen+if m∈ (S.dir j).seen.map Prod.snd then x else 0:=fun j hj=>ahX_ hml hx (ok.seen j hj).nodup fun p hp q hq e=>(hu j j hj hj p hp q hq e).2
 have hne: ∀j,j<3→j≠k→ ¬m∈ (S.dir j).seen.map Prod.snd:=fun j hj hjk h=>by
  obtain⟨q,hq,e⟩:=List.mem_map.1 h
  exact hjk (hu j k hj hk q hq _ hm e).1
 unfold qM_
 show qr_ (xq_ S m f) (S.dir 0).seen+qr_ (xq_ S m f) (S.dir 1).seen+qr_ (xq_ S m f) (S.dir 2).seen≤_
 rw[hd 0 (by omega),hd 1 (by omega),hd 2 (by omega)]
 have:k=0∨k=1∨k=2:=by omega
 rcases this with rfl|rfl|rfl
 ·rw[if_neg (hne 1 (by omega) (by omega)),if_neg (hne 2 (by omega) (by omega))]
  split<;>omega
 ·rw[if_neg (hne 0 (by omega) (by omega)),if_neg (hne 2 (by omega) (by omega))]
  split<;>omega
 ·rw[if_neg (hne 0 (by omega) (by omega)),if_neg (hne 1 (by omega) (by omega))]
  split<;>omega
theorem Jl_ {S S':DiskL} {k:Nat} (hk:k<3) (h1: ∀j,j<3→j≠k→qr_ S' (S'.dir j).seen=qr_ S (S.dir j).seen) (h2:qr_ S' (S'.dir k).seen≤qr_ S (S.dir k).seen):qM_ S'≤qM_ S:=by
 unfold qM_
 have:k=0∨k=1∨k=2:=by omega
 rcases this with rfl|rfl|rfl
 ·rw[h1 1 (by omega) (by omega),h1 2 (by omega) (by omega)];omega
 ·rw[h1 0 (by omega) (by omega),h1 2 (by omega) (by omega)];omega
 ·rw[h1 0 (by omega) (by omega),h1 1 (by omega) (by omega)];omega
theorem Zd_ {S S':DiskL} (hd: ∀k,(S'.dir k).seen=(S.dir k).seen) (hf: ∀n,(zq_ S' n).data.length=(zq_ S n).data.length):qM_ S'=qM_ S:=by
 unfold qM_
 rw[hd 0,hd 1,hd 2,ko_ fun p _=>hf p.2,ko_ fun p _=>hf p.2,ko_ fun p _=>hf p.2]
section
variable {S S':DiskL} {kind:Int} {dir name s:List UInt8} {e:Nat}
theorem aiA_ (ok:DkOk S) (hu:vz_ S) (h:StepD S kind dir name s S' e):qM_ S'≤qM_ S∨(qM_ S'≤qM_ S+s.length∧(qM_ S':Int)≤S.max):=by
 obtain⟨hb1,hb2,-⟩:=qv_ S
 cases h with
 |same=>exact .inl (Nat.le_refl _)
 |burn=>exact .inl (Nat.le_of_eq (Zd_ (fun k=>by rw[hb1]) fun n=>by rw[qd_]))
 |create k hk hf hn hb=>
  have hk3:=(zE_ hk).1
  have hff: ∀n,n<S.files.length→zq_ (xC_ (zu_ S).1 jP_) n=zq_ S n:=fun n hn=>by rw[adG_ _ _ (by rw[hb2];exact hn),qd_]
  have hcg: ∀j,j<3→qr_ (xC_ (zu_ S).1 jP_) (S.dir j).seen=qr_ S (S.dir j).seen:=fun j hj=>ko_ fun p hp=>by rw[hff p.2 (ok.seenN j hj p hp)]
  refine .inl (Jl_ hk3 (fun j hj hjk=> ?_) ?_)
  ·rw[jH_,if_neg hjk]
   show qr_ (xC_ (zu_ S).1 jP_) ((zu_ S).1.dir j).seen=_
   rw[hb1];exact hcg j hj
  ·rw[jH_,if_pos rfl]
   show qr_ (xC_ (zu_ S).1 jP_) (Xw_ ((zu_ S).1.dir k).seen (name,S.files.length))≤_
   rw[hb1,ag5_,←hcg k hk3]
   have h1:zq_ (xC_ (zu_ S).1 jP_) S.files.length=jP_:=by rw[←hb2];exact ac4_ _ _
   have h2:=wH_ (xC_ (zu_ S).1 jP_) name (S.dir k).seen
   rw[h1]
   show(0:Nat)+qr_ (xC_ (zu_ S).1 jP_) (qQ_ (S.dir k).seen name)≤_
   omega
 |append k m hk hm hf hb=>
  have hk3:=(zE_ hk).1
  right
  have h1:=ad7_ (S:=(zu_ S).1) (xJ_ ok) (xT_ hu fun k _=>by rw[hb1]) hk3 (nm:=name) (m:=m) (by rw[hb1];exact zW_ hm) (f:=⟨(zq_ S m).data++s,(zq_ S m).stl⟩) (x:=s.length) (by rw[qd_,List.length_append])
  have h2:qM_ (zu_ S).1=qM_ S:=Zd_ (fun k=>by rw[hb1]) fun n=>by rw[qd_]
  unfold Z2_ at hf
  simp only[Bool.or_eq_false_iff,decide_eq_false_iff_not] at hf
  exact⟨by omega,by omega⟩
 |sync k m hk hm hb=>
  left
  have hk3:=(zE_ hk).1
  have h1:=ad7_ (S:=(zu_ S).1) (xJ_ ok) (xT_ hu fun k _=>by rw[hb1]) hk3 (nm:=name) (m:=m) (by rw[hb1];exact zW_ hm) (f:=⟨(zq_ S m).data,(zq_ S m).data.length⟩) (x:=0) (by rw[qd_];rfl)
  have h2:qM_ (zu_ S).1=qM_ S:=Zd_ (fun k=>by rw[hb1]) fun n=>by rw[qd_]
  omega
 |syncDir k hk hb=>exact .inl (Nat.le_of_eq (Zd_ (fun j=>by rw[kx_,hb1]) fun n=>by show(zq_ (zu_ S).1 n).data.length=_;rw[qd_]))
 |rename k m h4 hk hm hf hne hb=>
  have hk3:=(zE_ hk).1
  have hcg: ∀l,qr_ (zu_ S).1 l=qr_ S l:=fun l=>ko_ fun p _=>by rw[qd_]
  refine .inl (Jl_ hk3 (fun j hj hjk=> ?_) ?_)
  ·rw[jH_,if_neg hjk,hb1]
   exact hcg _
  ·rw[jH_,if_pos rfl]
   show qr_ (zu_ S).1 (Xw_ (qQ_ ((zu_ S).1.dir k).seen name) (s,(zB_ ((zu_ S).1.dir k).seen name).getD 0))≤_
   rw[hb1,hm,hcg,ag5_]
   have h1:=ab5_ S (zW_ hm)
   have h2:=wH_ S s (qQ_ (S.dir k).seen name)
   show(zq_ S m).data.length+qr_ S (qQ_ (qQ_ (S.dir k).seen name) s)≤_
   omega
 |remove k m hk hm hb=>
  have hk3:=(zE_ hk).1
  have hcg: ∀l,qr_ (zu_ S).1 l=qr_ S l:=fun l=>ko_ fun p _=>by rw[qd_]
  refine .inl (Jl_ hk3 (fun j hj hjk=> ?_) ?_)
  ·rw[jH_,if_neg hjk,hb1]
   exact hcg _
  ·rw[jH_,if_pos rfl]
   show qr_ (zu_ S).1 (qQ_ ((zu_ S).1.dir k).seen name)≤_
   rw[hb1,hcg]
   exact wH_ S name _
theorem XE_ (ok:DkOk S) (hu:vz_ S) (h:StepD S kind dir name s S' e):qM_ S'≤qM_ S+s.length:=by
 rcases aiA_ ok hu h with h|h
 ·omega
 ·exact h.1
end
end Go.Proofs
end
section
open Go Go.Proofs Go.Sx Go.StP
namespace Go.Proofs
set_option maxRecDepth 10000
set_option maxHeartbeats 400000
set_option linter.unusedSimpArgs false
theorem J4_ (q:DiskL×List UInt16): ∀k,(z6_ q k).1.files=q.1.files
 |0=>rfl
 |k+1=>J4_ q k
theorem ad6_ (q:DiskL×List UInt16) {j:Nat}: ∀ {k:Nat},j<k→ ∃i,i≤ (q.1.dir j).pend.length∧(z6_ q k).1.dir j=⟨x5_ q.1 j i,x5_ q.1 j i,[]⟩
 |k+1,h=>by
  show∃i,i≤_∧(qB_ (z6_ q k).1 k _).dir j=_
  by_cases e:j=k
  ·subst e
   rw[qX_]
   have hd:=Jg_ q (Nat.le_refl j)
   refine⟨vm_ (z6_ q j).2 ((z6_ q j).1.dir j).pend.length, ?_, ?_⟩
   ·rw[hd];exact aaU_ _ _
   ·unfold x5_
    rw[hd]
  ·rw[j1_ _ _ e]
   exact ad6_ q (by omega)
theorem acD_ (S:DiskL) (pl:List UInt16) {k:Nat} (hk:k<3): ∃i,i≤ (S.dir k).pend.length∧(qV_ S pl).dir k=⟨x5_ S k i,x5_ S k i,[]⟩:=by
 obtain⟨i,h1,h2⟩:=ad6_ (S,pl) hk
 exact⟨i,h1,by unfold qV_;rw[kp_];exact h2⟩
theorem acH_ (S:DiskL) (pl:List UInt16): (qV_ S pl).off=false:=by
 unfold qV_
 rw[Jj_];rfl
def BegF (f g:FileL):Prop:=(∃t,g.data=f.data.take t)∧(f.stl=f.data.length→g.data=f.data∧g.stl=g.data.length)
theorem BegF.refl (f:FileL):BegF f f:=⟨⟨f.data.length,(List.take_length).symm⟩,fun h=>⟨rfl,h⟩⟩
theorem BegF.trans {f g h:FileL} (h1:BegF f g) (h2:BegF g h):BegF f h:=by
 obtain⟨⟨t,ht⟩,a⟩:=h1
 obtain⟨⟨u,hu⟩,b⟩:=h2
 refine⟨⟨min u t,by rw[hu,ht,List.take_take]⟩,fun e=> ?_⟩
 obtain⟨a1,a2⟩:=a e
 obtain⟨b1,b2⟩:=b a2
 exact⟨b1.trans a1,b2⟩
theorem alB_ (S:DiskL) {n:Nat} (h:S.files.length≤n):zq_ S n=jP_:=by
 unfold zq_
 rw[List.getD_eq_getElem?_getD,List.getElem?_eq_none h];rfl
theorem acO_ (S:DiskL) {m:Nat} (h:S.files.length≤m) (f:FileL):xq_ S m f=S:=by
 unfold xq_
 rw[List.set_eq_of_length_le h]
theorem air_ (q:DiskL×List UInt16) (p:List UInt8×Nat) (n:Nat):BegF (zq_ q.1 n) (zq_ (jf_ q p).1 n):=by
 unfold jf_
 simp only
 by_cases hm:p.2<q.1.files.length
 ·rw[kE_ _ _ hm]
  by_cases e:n=p.2
  ·subst e
   rw[if_pos rfl]
   refine⟨⟨_,rfl⟩,fun h=> ?_⟩
   have h1: (zq_ q.1 p.2).data.take ((zq_ q.1 p.2).stl+vm_ q.2 ((zq_ q.1 p.2).data.length - (zq_ q.1 p.2).stl))=(zq_ q.1 p.2).data:=List.take_of_length_le (by rw[←h];omega)
   exact⟨h1,rfl⟩
  ·rw[if_neg e];exact BegF.refl _
 ·rw[acO_ _ (by omega)];exact BegF.refl _
theorem aab_ (q:DiskL×List UInt16) (p:List UInt8×Nat) (n:Nat) (h:n=p.2∨(zq_ q.1 n).stl=(zq_ q.1 n).data.length): (zq_ (jf_ q p).1 n).stl=(zq_ (jf_ q p).1 n).data.length:=by
 unfold jf_
 simp only
 by_cases hm:p.2<q.1.files.length
 ·rw[kE_ _ _ hm]
  by_cases e:n=p.2
  ·rw[if_pos e]
  ·rw[if_neg e];exact h.resolve_left e
 ·rw[acO_ _ (by omega)]
  rcases h with h|h
  ·rw[alB_ _ (by omega)];rfl
  ·exact h
theorem Wp_ (n:Nat): ∀ (l:NmL) (q:DiskL×List UInt16),BegF (zq_ q.1 n) (zq_ (l.foldl jf_ q).1 n)∧(n∈l.map Prod.snd∨(zq_ q.1 n).stl=(zq_ q.1 n).data.length→(zq_ (l.foldl jf_ q).1 n).stl=(zq_ (l.foldl jf_ q).1 n).data.length)
 | [],q=>⟨BegF.refl _,fun h=>h.resolve_left (by simp)⟩
 |p::l,q=>by
  obtain⟨h1,h2⟩:=Wp_ n l (jf_ q p)
  refine⟨(air_ q p n).trans h1,fun h=>h2 ?_⟩
  rcases h with h|h
  ·rw[List.map_cons] at h
   rcases List.mem_cons.1 h with h|h
   ·exact .inr (aab_ q p n (.inl h))
   ·exact .inl h
  ·exact .inr (aab_ q p n (.inr h))
theorem Wv_ (n:Nat) (q:DiskL×List UInt16): ∀k,BegF (zq_ q.1 n) (zq_ (qP_ q k).1 n)∧((∃j,j<k∧n∈ (q.1.dir j).seen.map Prod.snd)∨(zq_ q.1 n).stl=(zq_ q.1 n).data.length→(zq_ (qP_ q k).1 n).stl=(zq_ (qP_ q k).1 n).data.length)
 |0=>⟨BegF.refl _,fun h=>h.resolve_left (by rintro⟨j,hj,-⟩;omega)⟩
 |k+1=>by
  obtain⟨h1,h2⟩:=Wv_ n q k
  obtain⟨g1,g2⟩:=Wp_ n (q.1.dir k).seen (qP_ q k)
  refine⟨h1.trans g1,fun h=>g2 ?_⟩
  rcases h with⟨j,hj,hm⟩ |h
  ·by_cases e:j=k
   ·subst e;exact .inl hm
   ·exact .inr (h2 (.inl ⟨j,by omega,hm⟩))
  ·exact .inr (h2 (.inr h))
theorem alX_ (S:DiskL) (pl:List UInt16) (n:Nat):BegF (zq_ S n) (zq_ (qV_ S pl) n):=by
 have h:=(Wv_ n (QX_ (z6_ (S,pl) 3).1,(z6_ (S,pl) 3).2) 3).1
 have e:zq_ (QX_ (z6_ (S,pl) 3).1) n=zq_ S n:=by
  unfold zq_ QX_
  rw[J4_]
 rw[←e];exact h
def vb_ (S:DiskL):Prop:=S.off=false∧S.fused=false
theorem jU_ {S:DiskL} (h:vb_ S):zu_ S=(S,0):=by
 unfold zu_
 rw[if_neg (by rw[h.2];simp),if_neg (by rw[h.2];simp)]
section
variable {S S':DiskL} {kind:Int} {dir name s:List UInt8} {e:Nat}
theorem akj_ (hc:vb_ S) (h:StepD S kind dir name s S' e):vb_ S':=by
 have hb:=jU_ hc
 have hb':vb_ (zu_ S).1:=by rw[hb];exact hc
 cases h<;>first|exact hc|exact hb'
end
theorem ae7_ {S:DiskL} (h:vb_ S) (f:FiL):vb_ (jF_ S f)∧(jF_ S f).max=S.max:=by
 unfold jF_
 split
 ·split
  ·exact⟨h,rfl⟩
  ·exact⟨h,rfl⟩
 ·exact⟨h,rfl⟩
theorem XO_: ∀ (l:List FiL) {S:DiskL},vb_ S→vb_ (l.foldl jF_ S)∧(l.foldl jF_ S).max=S.max
 | [],_,h=>⟨h,rfl⟩
 |f::l,S,h=>by
  obtain⟨h1,h2⟩:=ae7_ h f
  obtain⟨h3,h4⟩:=XO_ l h1
  exact⟨h3,h4.trans h2⟩
theorem arf_ (q:Int) (l:List FiL):vb_ (ofD q l)∧(ofD q l).max=q:=XO_ l (S:=wt_ q) ⟨rfl,rfl⟩
end Go.Proofs
end
section
open Go Go.Proofs Go.Sx Go.StP
namespace Go.Proofs
set_option maxRecDepth 10000
set_option maxHeartbeats 400000
set_option linter.unusedSimpArgs false
structure KeepS (S:DiskL) (k:Nat) (nm:List UInt8) (n:Nat) (data:List UInt8):Prop where
 lt:n<S.files.length
 data: (zq_ S n).data=data
 stl: (zq_ S n).stl=(zq_ S n).data.length
 at_:zB_ (S.dir k).stl nm=some n
 pend: ∀c,c∈ (S.dir k).pend→c.a≠nm∧(c.kind=1→c.b≠nm)
theorem ab9_ {x:List UInt8×Nat} {s:List UInt8} (hx:x.1≠s): ∀l:NmL,zB_ (insN l x) s=zB_ l s
 | []=>by
  have: (s==x.1)=false:=beq_eq_false_iff_ne.2 (Ne.symm hx)
  unfold insN zB_
  rw[List.find?_cons,this]
 |p::l=>by
  have e: (s==x.1)=false:=beq_eq_false_iff_ne.2 (Ne.symm hx)
  have ih:=ab9_ hx l
  unfold insN
  split
  ·unfold zB_
   rw[List.find?_cons,e]
  ·unfold zB_ at ih ⊢
   rw[List.find?_cons,List.find?_cons]
   split
   ·rfl
   ·exact ih
theorem Qk_ {a s:List UInt8} (ha:a≠s): ∀l:NmL,zB_ (qQ_ l a) s=zB_ l s
 | []=>rfl
 |p::l=>by
  have ih:=Qk_ ha l
  unfold qQ_ at ih ⊢
  rw[List.filter_cons]
  by_cases e:a=p.1
  ·have e1: (s==p.1)=false:=beq_eq_false_iff_ne.2 (fun h=>ha (by rw[e,h]))
   rw[if_neg (by rw[e];simp),ih]
   unfold zB_
   rw[List.find?_cons,e1]
  ·rw[if_pos (by simpa using e)]
   unfold zB_ at ih ⊢
   rw[List.find?_cons,List.find?_cons]
   split
   ·rfl
   ·exact ih
theorem abm_ {x:List UInt8×Nat} {s:List UInt8} (hx:x.1≠s) (l:NmL):zB_ (Xw_ l x) s=zB_ l s:=by
 unfold Xw_
 rw[ab9_ hx,Qk_ hx]
theorem abO_ {l:NmL} {c:CallL} {s:List UInt8} (h:c.a≠s∧(c.kind=1→c.b≠s)):zB_ (q8_ l c) s=zB_ l s:=by
 unfold q8_
 split
 ·exact abm_ h.1 l
 ·rename_i hk
  rw[abm_ (h.2 hk),Qk_ h.1]
 ·exact Qk_ h.1 l
theorem X4_ {s:List UInt8}: ∀ (cs:List CallL) (l:NmL),(∀c,c∈cs→c.a≠s∧(c.kind=1→c.b≠s))→zB_ (cs.foldl q8_ l) s=zB_ l s
 | [],_,_=>rfl
 |c::cs,l,h=>by
  rw[List.foldl_cons,X4_ cs _ fun d hd=>h d (List.mem_cons_of_mem _ hd),abO_ (h c List.mem_cons_self)]
section
variable {S S':DiskL} {kind:Int} {dir name s:List UInt8} {e k n:Nat} {nm data:List UInt8}
theorem KeepS.seen (h:KeepS S k nm n data) (hh:vM_ S):zB_ (S.dir k).seen nm=some n:=by
 rw[← (hh k).1,X4_ _ _ h.pend,h.at_]
theorem ajG_ (hk:k<3) (hf:q7_ nm=true) (hK:KeepS S k nm n data) (pl:List UInt16):j8_ (qV_ S pl) (Ky_ k) nm=(data,0):=by
 obtain⟨i,h1,h2⟩:=acD_ S pl hk
 have hat:zB_ ((qV_ S pl).dir k).seen nm=some n:=by
  rw[h2]
  show zB_ (x5_ S k i) nm=_
  unfold x5_
  rw[X4_ _ _ fun c hc=>hK.pend c (List.mem_of_mem_take hc),hK.at_]
 have hfe:qU_ (qV_ S pl) (Ky_ k) [nm]=0:=by
  unfold qU_
  rw[xV_ hk,acH_,if_neg (by simp[hf]),if_neg (by simp)]
 have hd:=((alX_ S pl n).2 hK.stl).1
 unfold j8_
 rw[if_neg (by rw[hfe];simp)]
 have ha:atD (qV_ S pl) (Ky_ k) nm=some n:=by unfold atD;rw[xV_ hk];exact hat
 have ha': ((zN_ (Ky_ k)).bind fun k=>zB_ ((qV_ S pl).dir k).seen nm)=some n:=ha
 rw[ha']
 show((zq_ (qV_ S pl) n).data,0)=_
 rw[hd,hK.data]
end
end Go.Proofs
end
section
open Go Go.Proofs Go.Sx Go.StP
namespace Go.Proofs
set_option maxRecDepth 10000
set_option maxHeartbeats 400000
set_option linter.unusedSimpArgs false
def qc_ (S:DiskL) (j:Nat) (x:List UInt8):Option (List UInt8):=(zB_ (S.dir j).seen x).map fun n=>(zq_ S n).data
structure GoodS (S:DiskL):Prop where
 srt: ∀k,k<3→SrtN (S.dir k).seen
 lt:LtS S
 uniq:vz_ S
theorem DkOk.good {S:DiskL} (ok:DkOk S) (hu:vz_ S):GoodS S:=⟨ok.seen,ok.seenN,hu⟩
def js_ (s:List UInt8):List UInt8:=s++ [46,116,109,112]
theorem ap0_ (s:List UInt8):js_ s≠s:=fun h=>by
 have:=congrArg List.length h
 unfold js_ at this
 simp at this
section
variable {S S':DiskL} {kind:Int} {dir name s:List UInt8} {e:Nat}
theorem Qt_ {S S':DiskL} {j:Nat} {x:List UInt8} (h1:zB_ (S'.dir j).seen x=zB_ (S.dir j).seen x) (h2: ∀n,zB_ (S.dir j).seen x=some n→(zq_ S' n).data=(zq_ S n).data):qc_ S' j x=qc_ S j x:=by
 unfold qc_
 rw[h1]
 cases hf:zB_ (S.dir j).seen x with
 |none=>rfl
 |some n=>exact congrArg some (h2 n hf)
theorem K6_ (hg:GoodS S) (h:StepD S kind dir name s S' e) {j:Nat} (hj:j<3) {x:List UInt8} (hx:Ky_ j=dir→x≠name∧(kind=4→x≠s)):qc_ S' j x=qc_ S j x:=by
 obtain⟨hb1,hb2,-⟩:=qv_ S
 have hd: ∀ {k},zN_ dir=some k→j=k→x≠name∧(kind=4→x≠s):=fun hk e=>hx (by rw[e];exact(zE_ hk).2.symm)
 have turn: ∀ {T:DiskL} {k:Nat} {c:CallL},(∀n,n<S.files.length→zq_ T n=zq_ S n)→T.dir=S.dir→(j=k→c.a≠x∧(c.kind=1→c.b≠x))→qc_ (k7_ T k c) j x=qc_ S j x:=fun{T k c} hf hT hc=>
  Qt_ (by
   rw[jH_]
   by_cases e:j=k
   ·rw[if_pos e,abO_ (hc e),hT,e]
   ·rw[if_neg e,hT]) fun n hn=>by
   show(zq_ T n).data=_
   rw[hf n (hg.lt j hj _ (zW_ hn))]
 have set: ∀ {k m:Nat} (f:FileL),zN_ dir=some k→zB_ (S.dir k).seen name=some m→qc_ (xq_ (zu_ S).1 m f) j x=qc_ S j x:=fun{k m} f hk hm=>
  Qt_ (by show zB_ ((zu_ S).1.dir j).seen x=_;rw[hb1]) fun n hn=>by
   have hml:m< (zu_ S).1.files.length:=by rw[hb2];exact hg.lt k (zE_ hk).1 _ (zW_ hm)
   rw[kE_ _ _ hml,qd_]
   by_cases e:n=m
   ·subst e
    have h1:=hg.uniq j k hj (zE_ hk).1 _ (zW_ hn) _ (zW_ hm) rfl
    exact absurd (congrArg Prod.fst h1.2) (hd hk h1.1).1
   ·rw[if_neg e]
 cases h with
 |same=>rfl
 |burn=>exact Qt_ (by rw[hb1]) fun n _=>by rw[qd_]
 |create k hk hf hn hb=>exact turn (fun n hn=>by rw[adG_ _ _ (by rw[hb2];exact hn),qd_]) hb1 fun e=>⟨Ne.symm (hd hk e).1,fun h=>by cases h⟩
 |append k m hk hm hf hb=>exact set _ hk hm
 |sync k m hk hm hb=>exact set _ hk hm
 |syncDir k hk hb=>exact Qt_ (by rw[kx_,hb1]) fun n _=>by show(zq_ (zu_ S).1 n).data=_;rw[qd_]
 |rename k m h4 hk hm hf hne hb=>exact turn (fun n _=>qd_ S n) hb1 fun e=>⟨Ne.symm (hd hk e).1,fun _=>Ne.symm ((hd hk e).2 h4)⟩
 |remove k m hk hm hb=>exact turn (fun n _=>qd_ S n) hb1 fun e=>⟨Ne.symm (hd hk e).1,fun h=>by cases h⟩
end
end Go.Proofs
end
section
open Go Go.Proofs Go.Sx Go.StP
namespace Go.Proofs
set_option maxRecDepth 10000
set_option maxHeartbeats 400000
set_option linter.unusedSimpArgs false
structure TkL where
 dir:List UInt8
 name:List UInt8
 data:List UInt8
 light:Bool
 next:Nat
 made:Bool
 ended:Bool
structure PhR where
 did:Bool
 e:Nat
 t:TkL
 S:DiskL
def W0_ (t:TkL) (S:DiskL):PhR:=if(j8_ S t.dir (js_ t.name)).2≠0 then⟨false,0,t,S⟩ else⟨true,(qk_ S t.dir (js_ t.name)).2,t,(qk_ S t.dir (js_ t.name)).1⟩
def afo_ (t:TkL) (S:DiskL):PhR:=⟨true,(jk_ S t.dir (js_ t.name)).2,{t with made:=(jk_ S t.dir (js_ t.name)).2==0},(jk_ S t.dir (js_ t.name)).1⟩
def agv_ (t:TkL) (S:DiskL):PhR:=⟨true,(qy_ S t.dir (js_ t.name) t.data).2,t,(qy_ S t.dir (js_ t.name) t.data).1⟩
def apc_ (t:TkL) (S:DiskL):PhR:=if t.light=true then⟨false,0,t,S⟩ else⟨true,(q0_ S t.dir (js_ t.name)).2,t,(q0_ S t.dir (js_ t.name)).1⟩
def afn_ (t:TkL) (S:DiskL):PhR:=⟨true,(jc_ S t.dir (js_ t.name) t.name).2,{t with made:=t.made&& (jc_ S t.dir (js_ t.name) t.name).2 !=0},(jc_ S t.dir (js_ t.name) t.name).1⟩
def abg_ (t:TkL) (S:DiskL):PhR:=if t.light=true then⟨false,0,t,S⟩ else⟨true,(zR_ S t.dir).2,t,(zR_ S t.dir).1⟩
def phT (k:Nat) (t:TkL) (S:DiskL):PhR:=match k with
 |0=>W0_ t S
 |1=>afo_ t S
 |2=>agv_ t S
 |3=>apc_ t S
 |4=>afn_ t S
 |_=>abg_ t S
structure StR where
 done:Bool
 e:Nat
 t:TkL
 S:DiskL
def nxT (r:PhR):TkL:={r.t with next:=r.t.next+1}
def endT (t:TkL):Bool:=t.next==6|| (t.light&&t.next==5)
def xe_ (r:PhR):StR:=if(nxT r).made=true∧r.e≠9 then⟨false,r.e,{nxT r with ended:=true},(qk_ r.S r.t.dir (js_ r.t.name)).1⟩ else⟨false,r.e,{nxT r with ended:=true},r.S⟩
def kj_ (r:PhR):TkL:={nxT r with ended:=endT (nxT r)}
def xs_:Nat→TkL→DiskL→StR
 |0,t,S=>⟨false,0,t,S⟩
 |f+1,t,S=>
  if(phT t.next t S).e≠0 then xe_ (phT t.next t S)
  else if(phT t.next t S).did=false∧endT (nxT (phT t.next t S))=false then xs_ f (kj_ (phT t.next t S)) (phT t.next t S).S
  else⟨endT (nxT (phT t.next t S)),0,kj_ (phT t.next t S),(phT t.next t S).S⟩
def xB_ (t:TkL) (S:DiskL):StR:=if t.ended=true then⟨false,15,t,S⟩ else xs_ (6 - t.next) t S
def runG:Nat→TkL→DiskL→Nat×TkL×DiskL
 |0,t,S=>(0,t,S)
 |f+1,t,S=>if(xB_ t S).done=true∨(xB_ t S).e≠0 then((xB_ t S).e,(xB_ t S).t,(xB_ t S).S) else runG f (xB_ t S).t (xB_ t S).S
def phG:Nat→TkL→DiskL→Nat×DiskL
 |0,_,S=>(0,S)
 |f+1,t,S=>
  if(phT t.next t S).e≠0 then((xe_ (phT t.next t S)).e,(xe_ (phT t.next t S)).S)
  else if endT (nxT (phT t.next t S))=true then(0,(phT t.next t S).S)
  else phG f (kj_ (phT t.next t S)) (phT t.next t S).S
theorem auf_ (f:Nat) (t:TkL) (S:DiskL):phG (f+1) t S=(if(phT t.next t S).e≠0 then((xe_ (phT t.next t S)).e,(xe_ (phT t.next t S)).S)
  else if endT (nxT (phT t.next t S))=true then(0,(phT t.next t S).S)
  else phG f (kj_ (phT t.next t S)) (phT t.next t S).S):=rfl
theorem aop_ (k:Nat) (t:TkL) (S:DiskL): (phT k t S).t.dir=t.dir∧(phT k t S).t.name=t.name∧(phT k t S).t.data=t.data∧(phT k t S).t.light=t.light∧(phT k t S).t.next=t.next∧(phT k t S).t.ended=t.ended:=by
 unfold phT
 split
 ·unfold W0_;split<;>exact⟨rfl,rfl,rfl,rfl,rfl,rfl⟩
 ·exact⟨rfl,rfl,rfl,rfl,rfl,rfl⟩
 ·exact⟨rfl,rfl,rfl,rfl,rfl,rfl⟩
 ·unfold apc_;split<;>exact⟨rfl,rfl,rfl,rfl,rfl,rfl⟩
 ·exact⟨rfl,rfl,rfl,rfl,rfl,rfl⟩
 ·unfold abg_;split<;>exact⟨rfl,rfl,rfl,rfl,rfl,rfl⟩
theorem akJ_ (k:Nat) (t:TkL) (S:DiskL): (kj_ (phT k t S)).dir=t.dir∧(kj_ (phT k t S)).name=t.name∧(kj_ (phT k t S)).data=t.data∧(kj_ (phT k t S)).light=t.light∧(kj_ (phT k t S)).next=t.next+1:=by
 obtain⟨h1,h2,h3,h4,h5,-⟩:=aop_ k t S
 exact⟨h1,h2,h3,h4,congrArg (· +1) h5⟩
theorem anU_ (r:PhR): (xe_ r).e=r.e∧(xe_ r).done=false:=by
 unfold xe_
 split<;>exact⟨rfl,rfl⟩
theorem afV_: ∀ (f:Nat) (t:TkL) (S:DiskL),f+t.next=6→0<f→
  ((xs_ f t S).e≠0∧phG f t S=((xs_ f t S).e,(xs_ f t S).S))∨
  ((xs_ f t S).e=0∧(xs_ f t S).done=true∧phG f t S=(0,(xs_ f t S).S))∨
  ((xs_ f t S).e=0∧(xs_ f t S).done=false∧(xs_ f t S).t.ended=false∧t.next< (xs_ f t S).t.next∧(xs_ f t S).t.next<6∧phG f t S=phG (6 - (xs_ f t S).t.next) (xs_ f t S).t (xs_ f t S).S)
 |0,_,_,_,h=>absurd h (Nat.lt_irrefl 0)
 |f+1,t,S,hf,_=>by
  obtain⟨-,-,-,-,hn,-⟩:=aop_ t.next t S
  have hfn: (kj_ (phT t.next t S)).next=t.next+1:=(akJ_ t.next t S).2.2.2.2
  have hfe: (kj_ (phT t.next t S)).ended=endT (nxT (phT t.next t S)):=rfl
  unfold xs_
  rw[auf_]
  by_cases he: (phT t.next t S).e≠0
  ·rw[if_pos he,if_pos he]
   exact .inl ⟨by rw[(anU_ _).1];exact he,rfl⟩
  ·rw[if_neg he,if_neg he]
   cases hen:endT (nxT (phT t.next t S)) with
   |true=>
    rw[if_neg (fun h=>by cases h.2),if_pos rfl]
    exact .inr (.inl ⟨rfl,rfl,rfl⟩)
   |false=>
    have hlt:t.next+1<6:=by
     have h1: (nxT (phT t.next t S)).next=t.next+1:=congrArg (· +1) hn
     unfold endT at hen
     rw[h1] at hen
     simp only[Bool.or_eq_false_iff,beq_eq_false_iff_ne] at hen
     have:=hen.1
     omega
    rw[if_neg (show¬ (false=true) by simp)]
    by_cases hd: (phT t.next t S).did=false
    ·rw[if_pos ⟨hd,rfl⟩]
     have ih:=afV_ f (kj_ (phT t.next t S)) (phT t.next t S).S (by rw[hfn];omega) (by omega)
     rw[hfn] at ih
     rcases ih with h|h| ⟨h1,h2,h3,h4,h5⟩
     ·exact .inl h
     ·exact .inr (.inl h)
     ·exact .inr (.inr ⟨h1,h2,h3,by omega,h5⟩)
    ·rw[if_neg fun h=>hd h.1]
     refine .inr (.inr ⟨rfl,rfl,hfe.trans hen,by show t.next< (kj_ (phT t.next t S)).next;rw[hfn];omega,by show(kj_ (phT t.next t S)).next<6;rw[hfn];exact hlt, ?_⟩)
     show phG f _ _=phG (6 - (kj_ (phT t.next t S)).next) _ _
     rw[hfn,show 6 - (t.next+1)=f by omega]
theorem ap9_: ∀ (n f:Nat) (t:TkL) (S:DiskL),6 - t.next≤n→t.next<6→t.ended=false→6 - t.next≤f→((runG f t S).1,(runG f t S).2.2)=phG (6 - t.next) t S
 |0,_,_,_,hn,hl,_,_=>by omega
 |n+1,0,_,_,_,hl,_,hf=>by omega
 |n+1,f+1,t,S,hn,hl,he,hf=>by
  have hs:xB_ t S=xs_ (6 - t.next) t S:=by unfold xB_;rw[if_neg (by rw[he];simp)]
  unfold runG
  rw[hs]
  rcases afV_ (6 - t.next) t S (by omega) (by omega) with⟨h1,h2⟩ | ⟨h1,h2,h3⟩ | ⟨h1,h2,h3,h4,h5,h6⟩
  ·rw[if_pos (.inr h1),h2]
  ·rw[if_pos (.inl h2),h3,h1]
  ·rw[if_neg (by rw[h1,h2];simp),h6]
   exact ap9_ n f _ _ (by omega) h5 h3 (by omega)
def tk0 (dir name data:List UInt8) (light:Bool):TkL:=⟨dir,name,data,light,0,false,false⟩
def pubV (S:DiskL) (dir name data:List UInt8) (light:Bool):Nat×DiskL:=phG 6 (tk0 dir name data light) S
theorem arz_ (S:DiskL) (dir name data:List UInt8) (light:Bool): ((runG 6 (tk0 dir name data light) S).1,(runG 6 (tk0 dir name data light) S).2.2)=pubV S dir name data light:=ap9_ 6 6 (tk0 dir name data light) S (Nat.le_refl 6) (Nat.succ_pos 5) rfl (Nat.le_refl 6)
end Go.Proofs
end
section
open Go Go.Proofs Go.Sx Go.StP
namespace Go.Proofs
set_option maxRecDepth 10000
set_option maxHeartbeats 400000
set_option linter.unusedSimpArgs false
theorem ab7_ {l:NmL} {s:List UInt8} (h: ∀p,p∈l→p.1≠s):zB_ l s=none:=by
 cases hf:zB_ l s with
 |none=>rfl
 |some n=>exact absurd rfl (h _ (zW_ hf))
theorem ZL_ (l:NmL) (s:List UInt8):zB_ (qQ_ l s) s=none:=ab7_ fun _ hp=>(mem_wipe.1 hp).2
theorem QI_ {l:NmL} (h:SrtN l) (x:List UInt8×Nat):zB_ (Xw_ l x) x.1=some x.2:=Ja_ (Xv_ x h).nodup (mem_put.2 (.inl rfl))
theorem ji_ {S:DiskL} (hc:vb_ S) {dir:List UInt8} {k:Nat} (hk:zN_ dir=some k) (names:List (List UInt8)):qU_ S dir names=if names.all q7_=false then 1 else 0:=by
 unfold qU_
 rw[hk,hc.1]
 cases names.all q7_<;>simp
theorem vB_ {S:DiskL} {k:Nat} {x d:List UInt8} (h:qc_ S k x=some d): ∃n,zB_ (S.dir k).seen x=some n∧(zq_ S n).data=d:=by
 unfold qc_ at h
 cases hf:zB_ (S.dir k).seen x with
 |none=>rw[hf] at h;cases h
 |some n=>rw[hf] at h;exact⟨n,rfl,Option.some.inj h⟩
theorem KZ_ {S:DiskL} {k:Nat} {x:List UInt8} (h:qc_ S k x=none):zB_ (S.dir k).seen x=none:=by
 unfold qc_ at h
 cases hf:zB_ (S.dir k).seen x with
 |none=>rfl
 |some n=>rw[hf] at h;cases h
theorem ae5_ {S:DiskL} {dir:List UInt8} {k:Nat} (hk:zN_ dir=some k) (x:List UInt8):atD S dir x=zB_ (S.dir k).seen x:=by
 unfold atD
 rw[hk];rfl
theorem WX_ {S:DiskL} (hc:vb_ S) {dir:List UInt8} {k:Nat} (hk:zN_ dir=some k) {x:List UInt8} (hf:q7_ x=true):j8_ S dir x=match qc_ S k x with|none=>([],6) |some d=>(d,0):=by
 have h0:qU_ S dir [x]=0:=by rw[ji_ hc hk,if_neg (by simp[hf])]
 unfold j8_
 rw[if_neg (by rw[h0];simp)]
 have h1: ((zN_ dir).bind fun k=>zB_ (S.dir k).seen x)=zB_ (S.dir k).seen x:=by rw[hk];rfl
 rw[h1]
 unfold qc_
 cases zB_ (S.dir k).seen x<;>rfl
section
variable {S:DiskL} {dir x:List UInt8} {k:Nat}
theorem agh_ (hg:GoodS S) (hc:vb_ S) (hk:zN_ dir=some k) (hf:q7_ x=true) (hv:qc_ S k x=none): (jk_ S dir x).2=0∧qc_ (jk_ S dir x).1 k x=some []:=by
 have h0:qU_ S dir [x]=0:=by rw[ji_ hc hk,if_neg (by simp[hf])]
 have hk3:=(zE_ hk).1
 unfold jk_
 rw[if_neg (by rw[h0];simp),ae5_ hk,KZ_ hv]
 simp only
 rw[jU_ hc,if_neg (by simp),hk]
 refine⟨rfl, ?_⟩
 show(zB_ ((k7_ (xC_ S jP_) k ⟨0,x,[],S.files.length⟩).dir k).seen x).map _=_
 rw[jH_,if_pos rfl]
 show(zB_ (Xw_ (S.dir k).seen (x,S.files.length)) x).map _=_
 rw[QI_ (hg.srt k hk3) (x,S.files.length)]
 show some (zq_ (xC_ S jP_) S.files.length).data=_
 rw[ac4_];rfl
theorem ZW_ (hc:vb_ S) (hk:zN_ dir=some k) (hf:q7_ x=true) {d:List UInt8} (hv:qc_ S k x=some d): (qk_ S dir x).2=0∧qc_ (qk_ S dir x).1 k x=none:=by
 have h0:qU_ S dir [x]=0:=by rw[ji_ hc hk,if_neg (by simp[hf])]
 obtain⟨n,hn,-⟩:=vB_ hv
 unfold qk_
 rw[if_neg (by rw[h0];simp),ae5_ hk,hn]
 simp only
 rw[jU_ hc,if_neg (by simp),hk]
 refine⟨rfl, ?_⟩
 show(zB_ ((k7_ S k ⟨2,x,[],0⟩).dir k).seen x).map _=_
 rw[jH_,if_pos rfl]
 show(zB_ (qQ_ (S.dir k).seen x) x).map _=_
 rw[ZL_];rfl
theorem aff_ (hg:GoodS S) (hc:vb_ S) (hk:zN_ dir=some k) (hf:q7_ x=true) {d:List UInt8} (hv:qc_ S k x=some d) (s:List UInt8): ((qy_ S dir x s).2=8∧(qy_ S dir x s).1=S)∨((qy_ S dir x s).2=0∧qc_ (qy_ S dir x s).1 k x=some (d++s)):=by
 have h0:qU_ S dir [x]=0:=by rw[ji_ hc hk,if_neg (by simp[hf])]
 obtain⟨n,hn,hd⟩:=vB_ hv
 have hnl:=hg.lt k (zE_ hk).1 _ (zW_ hn)
 unfold qy_
 rw[if_neg (by rw[h0];simp),ae5_ hk,hn]
 simp only
 by_cases hfl:Z2_ S n s=true
 ·rw[if_pos hfl];exact .inl ⟨rfl,rfl⟩
 ·rw[if_neg hfl,jU_ hc,if_neg (by simp)]
  refine .inr ⟨rfl, ?_⟩
  show(zB_ (S.dir k).seen x).map (fun m=>(zq_ (xq_ S n _) m).data)=_
  rw[hn]
  show some (zq_ (xq_ S n _) n).data=_
  rw[kE_ _ _ hnl,if_pos rfl,←hd]
theorem ala_ (hg:GoodS S) (hc:vb_ S) (hk:zN_ dir=some k) (hf:q7_ x=true) {d:List UInt8} (hv:qc_ S k x=some d): (q0_ S dir x).2=0∧qc_ (q0_ S dir x).1 k x=some d:=by
 have h0:qU_ S dir [x]=0:=by rw[ji_ hc hk,if_neg (by simp[hf])]
 obtain⟨n,hn,hd⟩:=vB_ hv
 have hnl:=hg.lt k (zE_ hk).1 _ (zW_ hn)
 unfold q0_
 rw[if_neg (by rw[h0];simp),ae5_ hk,hn]
 simp only
 rw[jU_ hc,if_neg (by simp)]
 refine⟨rfl, ?_⟩
 show(zB_ (S.dir k).seen x).map (fun m=>(zq_ (xq_ S n _) m).data)=_
 rw[hn]
 show some (zq_ (xq_ S n _) n).data=_
 rw[kE_ _ _ hnl,if_pos rfl,←hd]
theorem aed_ (hc:vb_ S) (hk:zN_ dir=some k): (zR_ S dir).2=0∧ ∀j y,qc_ (zR_ S dir).1 j y=qc_ S j y:=by
 have h0:qU_ S dir []=0:=by rw[ji_ hc hk,if_neg (by simp)]
 unfold zR_
 rw[if_neg (by rw[h0];simp),jU_ hc,if_neg (by simp),hk]
 refine⟨rfl,fun j y=> ?_⟩
 unfold qc_
 show(zB_ ((Z1_ S k).dir j).seen y).map _=_
 rw[kx_];rfl
theorem aeZ_ (hg:GoodS S) (hc:vb_ S) (hk:zN_ dir=some k) (hf:q7_ x=true) {y:List UInt8} (hy:q7_ y=true) (hne:x≠y) {d:List UInt8} (hv:qc_ S k x=some d): (jc_ S dir x y).2=0∧qc_ (jc_ S dir x y).1 k y=some d∧qc_ (jc_ S dir x y).1 k x=none:=by
 have h0:qU_ S dir [x,y]=0:=by rw[ji_ hc hk,if_neg (by simp[hf,hy])]
 obtain⟨n,hn,hd⟩:=vB_ hv
 have hk3:=(zE_ hk).1
 unfold jc_
 rw[if_neg (by rw[h0];simp),ae5_ hk,hn]
 simp only
 rw[if_neg hne,jU_ hc,if_neg (by simp),hk]
 have hs: ((k7_ S k ⟨1,x,y,0⟩).dir k).seen=Xw_ (qQ_ (S.dir k).seen x) (y,n):=by
  rw[jH_,if_pos rfl]
  show Xw_ (qQ_ (S.dir k).seen x) (y,(zB_ (S.dir k).seen x).getD 0)=_
  rw[hn];rfl
 refine⟨rfl, ?_, ?_⟩
 ·show(zB_ ((k7_ S k ⟨1,x,y,0⟩).dir k).seen y).map _=_
  rw[hs,QI_ (Q5_ _ (hg.srt k hk3)) (y,n)]
  exact congrArg some hd
 ·show(zB_ ((k7_ S k ⟨1,x,y,0⟩).dir k).seen x).map _=_
  rw[hs,abm_ (x:=(y,n)) (Ne.symm hne),ZL_];rfl
end
end Go.Proofs
end
section
open Go Go.Proofs Go.Sx Go.StP
namespace Go.Proofs
set_option maxRecDepth 10000
set_option maxHeartbeats 400000
set_option linter.unusedSimpArgs false
theorem XD_ {f:Nat} {t t':TkL} {S:DiskL} {r:PhR} (hr:phT t.next t S=r) (he:r.e=0) (hn:endT (nxT r)=false) (ht:kj_ r=t'):phG (f+1) t S=phG f t' r.S:=by
 conv=>lhs;unfold phG
 rw[hr,if_neg (by rw[he];simp),if_neg (by rw[hn];simp),ht]
theorem alY_ {f:Nat} {t:TkL} {S:DiskL} {r:PhR} (hr:phT t.next t S=r) (he:r.e≠0):phG (f+1) t S=((xe_ r).e,(xe_ r).S):=by
 unfold phG
 rw[hr,if_pos he]
theorem arJ_ {f:Nat} {t:TkL} {S:DiskL} {r:PhR} (hr:phT t.next t S=r) (he:r.e=0) (hn:endT (nxT r)=true):phG (f+1) t S=(0,r.S):=by
 unfold phG
 rw[hr,if_neg (by rw[he];simp),if_pos hn]
def tkN (dir nm data:List UInt8) (light:Bool) (n:Nat) (made:Bool):TkL:=⟨dir,nm,data,light,n,made,false⟩
end Go.Proofs
end
section
open Go Go.Proofs Go.Sx Go.StP
namespace Go.Proofs
set_option maxRecDepth 10000
set_option maxHeartbeats 400000
set_option linter.unusedSimpArgs false
end Go.Proofs
end
section
open Go Go.Proofs Go.Sx Go.StP
namespace Go.Proofs
set_option maxRecDepth 10000
set_option maxHeartbeats 400000
set_option linter.unusedSimpArgs false
section
variable {S0 S:DiskL} {k:Nat} {nm dir data:List UInt8} {m:Nat}
end
end Go.Proofs
end
section
open Go Go.Proofs Go.Sx Go.StP
namespace Go.Proofs
set_option maxRecDepth 10000
set_option maxHeartbeats 400000
set_option linter.unusedSimpArgs false
end Go.Proofs
end
section
open Go Go.Proofs Go.Sx Go.StP
namespace Go.Proofs
set_option maxRecDepth 10000
set_option maxHeartbeats 400000
set_option linter.unusedSimpArgs false
structure NdR where
 s:List UInt8
 n:Int
def ndC (r:NdR):List Value:= [vs r.s]++ ([vi r.n])
structure KcR where
 kind:Int
 a:List UInt8
 b:List UInt8
 n:Int
def kcC (r:KcR):List Value:= [vi r.kind]++ ([vs r.a]++ ([vs r.b]++ ([vi r.n])))
structure FdR where
 data:List UInt8
 stl:Int
def fdC (r:FdR):List Value:= [vs r.data]++ ([vi r.stl])
def ndOf (p:List UInt8×Nat):NdR:=⟨p.1,(p.2:Int)⟩
def kcOf (c:CallL):KcR:=⟨(c.kind:Int),c.a,c.b,(c.n:Int)⟩
def fdOf (f:FileL):FdR:=⟨f.data,(f.stl:Int)⟩
set_option linter.defProp false
set_option linter.defProp false
end Go.Proofs
end
section
open Go Go.Proofs Go.Sx Go.StP
namespace Go.Proofs
set_option maxRecDepth 10000
set_option maxHeartbeats 400000
set_option linter.unusedSimpArgs false
set_option linter.defProp false
set_option linter.defProp false
end Go.Proofs
end
section
open Go Go.Proofs Go.Sx Go.StP
namespace Go.Proofs
set_option maxRecDepth 10000
set_option maxHeartbeats 400000
set_option linter.unusedSimpArgs false
structure DcG where
 bd:Nat
 s:Nat→Value
 t:Nat→Value
 p:Nat→Value
 f:Value
def at3_ (S:DiskL):Int:=if S.fused=true then S.fuse else -1
def dcO (G:DcG) (S:DiskL):Obj:= .cells #[G.s 0,G.t 0,G.p 0,G.s 1,G.t 1,G.p 1,G.s 2,G.t 2,G.p 2,G.f,vi S.max,vi (at3_ S), .bool S.off] 60 (0,0)
def asr_ (c:CallL):CallL:=if c.kind=0 then⟨0,c.a,[],c.n⟩ else if c.kind=1 then⟨1,c.a,c.b,0⟩ else⟨2,c.a,[],0⟩
def NdP (X:zb_) (v:Value) (l:NmL):Prop:=Gr X 144 2 v (l.map ndOf).length ((l.map ndOf).map ndC).flatten
def KcP (X:zb_) (v:Value) (l:List CallL):Prop:=Gr X 150 4 v (l.map kcOf).length ((l.map kcOf).map kcC).flatten
def FdP (X:zb_) (v:Value) (l:List FileL):Prop:=Gr X 141 2 v (l.map fdOf).length ((l.map fdOf).map fdC).flatten
structure DcP (X:zb_) (G:DcG) (S:DiskL):Prop where
 disk:Sx.look X G.bd=some (dcO G S)
 seen: ∀k,k<3→NdP X (G.s k) (S.dir k).seen
 stl: ∀k,k<3→NdP X (G.t k) (S.dir k).stl
 pend: ∀k,k<3→ ∃pl:List CallL,pl.map asr_=(S.dir k).pend.map asr_∧KcP X (G.p k) pl
 files:FdP X G.f S.files
 pdis: ∀i j,i<3→j<3→i≠j→ ∀b,slB (G.p i)=some b→slB (G.p j)≠some b
def DcW (w:World) (G:DcG) (S:DiskL):Prop:= ∃X,(∀b o,Sx.look X b=some o→w.heap[b]? =some o)∧DcP X G S
theorem Gr.keepTy {X L:zb_} {E:TypeId} {m n:Nat} {v:Value} {cs:List Value} (h:Gr X E m v n cs) {c:Nat} {oc:Obj} (hc:Sx.look X c=some oc) (ht:tyO oc≠some E) (keep: ∀b o,b≠c→Sx.look X b=some o→Sx.look L b=some o):Gr L E m v n cs:=h.keep fun b o hb ho=>keep b o (by
 rintro rfl
 obtain⟨arr,ha⟩:=Jq_ h hb
 rw[hc] at ha;cases ha;exact ht rfl) ho
theorem DcP.mono {X X':zb_} {G:DcG} {S:DiskL} (h:DcP X G S) (hk: ∀b o,Sx.look X b=some o→Sx.look X' b=some o):DcP X' G S where
 disk:=hk _ _ h.disk
 seen k hk3:=(h.seen k hk3).keep fun b o _ ho=>hk b o ho
 stl k hk3:=(h.stl k hk3).keep fun b o _ ho=>hk b o ho
 pend k hk3:=by
  obtain⟨pl,h1,h2⟩:=h.pend k hk3
  exact⟨pl,h1,h2.keep fun b o _ ho=>hk b o ho⟩
 files:=h.files.keep fun b o _ ho=>hk b o ho
 pdis:=h.pdis
theorem DcP.world {X:zb_} {G:DcG} {S:DiskL} {w0 w:World} (h:DcP X G S) (hw:Hp w0 X w):DcW w G S:=⟨X,fun _ _ hb=>hw.has _ _ (zy_ hb),h⟩
theorem DcW.old {w w':World} {L:zb_} {G:DcG} {S:DiskL} (h:DcW w G S) (hw:Hp w L w') (hn:New w.heap.size L):DcW w' G S:=by
 obtain⟨X,hX,hP⟩:=h
 refine⟨X,fun b o hb=> ?_,hP⟩
 have hlt:=(Array.getElem?_eq_some_iff.1 (hX b o hb)).1
 exact(hw.old b hlt (hn.not hlt)).trans (hX b o hb)
theorem an8_ (G:DcG) (S:DiskL):tyO (dcO G S)=some 60:=rfl
theorem apO_: (some 60:Option TypeId)≠some 144:=by decide
theorem asK_: (some 60:Option TypeId)≠some 150:=by decide
theorem asB_: (some 60:Option TypeId)≠some 141:=by decide
theorem DcP.upd {X L:zb_} {G G':DcG} {S S':DiskL} (h:DcP X G S) (hb:G'.bd=G.bd) (keep: ∀b o,b≠G.bd→Sx.look X b=some o→Sx.look L b=some o) (hd:Sx.look L G.bd=some (dcO G' S'))
  (hs: ∀k,k<3→(G'.s k=G.s k∧(S'.dir k).seen=(S.dir k).seen)∨NdP L (G'.s k) (S'.dir k).seen)
  (ht: ∀k,k<3→(G'.t k=G.t k∧(S'.dir k).stl=(S.dir k).stl)∨NdP L (G'.t k) (S'.dir k).stl)
  (hp: ∀k,k<3→(G'.p k=G.p k∧(S'.dir k).pend=(S.dir k).pend)∨(G'.p k= .slice none 0 0∧(S'.dir k).pend= []))
  (hf:G'.f=G.f∧S'.files=S.files):DcP L G' S' where
 disk:=by rw[hb];exact hd
 seen k hk:=by
  rcases hs k hk with⟨h1,h2⟩ |h1
  ·rw[h1,h2];exact Gr.keepTy (h.seen k hk) h.disk (by rw[an8_];exact apO_) keep
  ·exact h1
 stl k hk:=by
  rcases ht k hk with⟨h1,h2⟩ |h1
  ·rw[h1,h2];exact Gr.keepTy (h.stl k hk) h.disk (by rw[an8_];exact apO_) keep
  ·exact h1
 pend k hk:=by
  rcases hp k hk with⟨h1,h2⟩ | ⟨h1,h2⟩
  ·obtain⟨pl,h3,h4⟩:=h.pend k hk
   exact⟨pl,by rw[h2];exact h3,by rw[h1];exact Gr.keepTy h4 h.disk (by rw[an8_];exact asK_) keep⟩
  ·exact⟨[],by rw[h2],by rw[h1];exact Gr.nl⟩
 files:=by rw[hf.1,hf.2];exact Gr.keepTy h.files h.disk (by rw[an8_];exact asB_) keep
 pdis i j hi hj hij b:=by
  rcases hp i hi with⟨h1,-⟩ | ⟨h1,-⟩
  ·rcases hp j hj with⟨h2,-⟩ | ⟨h2,-⟩
   ·rw[h1,h2];exact h.pdis i j hi hj hij b
   ·rw[h2];intro _ h;cases h
  ·rw[h1];intro h;cases h
set_option linter.defProp false
end Go.Proofs
end
section
open Go Go.Proofs Go.Sx Go.StP
namespace Go.Proofs
set_option maxRecDepth 10000
set_option maxHeartbeats 400000
set_option linter.unusedSimpArgs false
set_option linter.defProp false
end Go.Proofs
end
section
open Go Go.Proofs Go.Sx Go.StP
namespace Go.Proofs
set_option maxRecDepth 10000
set_option maxHeartbeats 400000
set_option linter.unusedSimpArgs false
set_option linter.defProp false
end Go.Proofs
end
section
open Go Go.Proofs Go.Sx Go.StP
namespace Go.Proofs
set_option maxRecDepth 10000
set_option maxHeartbeats 400000
set_option linter.unusedSimpArgs false
set_option linter.defProp false
end Go.Proofs
end
section
open Go Go.Proofs Go.Sx Go.StP
namespace Go.Proofs
set_option maxRecDepth 10000
set_option maxHeartbeats 400000
set_option linter.unusedSimpArgs false
theorem Gr.upd {α:Type} {X:zb_} {E:TypeId} {m:Nat} {v:Value} {enc:α→List Value} {l:List α} (h:Gr X E m v l.length (l.map enc).flatten) (hm: ∀x,(enc x).length=m) {k:Nat} (hk:k<l.length) (x:α):
  ∃b rest c,v=vsl b 0 l.length c∧Sx.look X b=some (rowO enc E rest l)∧ ∀L,Sx.look L b=some (rowO enc E rest (l.set k x))→Gr L E m v (l.set k x).length ((l.set k x).map enc).flatten:=by
 rcases h with h| ⟨h,-⟩
 ·generalize hn:l.length=n at h
  generalize hcs: (l.map enc).flatten=cs at h
  cases h with
  |nl=>omega
  | @at_ b n c cs rest hl h1 h2 h3 h4=>
   subst hcs
   refine⟨b,rest,c,rfl,hl,fun L hL=> .inl ?_⟩
   rw[List.length_set,hn]
   exact .at_ hL (by rw[ahc_ hm,List.length_set,hn]) h2 h3 h4
 ·omega
end Go.Proofs
end
section
open Go Go.Proofs Go.Sx Go.StP
namespace Go.Proofs
set_option maxRecDepth 10000
set_option maxHeartbeats 400000
set_option linter.unusedSimpArgs false
structure PkL where
 v:Value
 l:List UInt16
 h:Value.oneCell' v=true∧v.cells= #[v]
def pk0:PkL:=⟨.slice none 0 0,[],rfl,rfl⟩
structure ActL where
 kind:Int
 n:Int
 dir:List UInt8
 name:List UInt8
 s:List UInt8
 picks:PkL
structure ActOk (w:World) (a:ActL):Prop where
 pk:PkS w a.picks.v a.picks.l
 n: -9223372036854775808≤a.n∧a.n<9223372036854775808
theorem PkS.blk {w:World} {v:Value} {l:List UInt16} (h:PkS w v l) (hl:l≠ []) {b:Nat} (hb:slB v=some b):b<w.heap.size:=by
 obtain⟨b',off,c,arr,E,fz,hr,hc,⟨rfl,rfl,rfl⟩ | ⟨rfl,hh,-⟩⟩:=h.resolve_right fun e=>hl e.1
 ·exact absurd rfl hl
 ·cases hb
  exact(Array.getElem?_eq_some_iff.1 hh).1
set_option linter.defProp false
structure DkA (X:zb_) (G:DkG) (S:DiskL) (N:Nat):Prop where
 P:DkP X G S
 H:vM_ S
 B:DkN N S
theorem DkA.pend {X:zb_} {G:DkG} {S:DiskL} {N:Nat} (h:DkA X G S N) (hN:N<1000000): ∀k,k<3→(S.dir k).pend.length<1000000:=fun k _=>by
 have:=(h.B k).stl
 omega
theorem DkA.used {X:zb_} {G:DkG} {S:DiskL} {N:Nat} (h:DkA X G S N) (hN:N<1000000):qM_ S<4611686018427387904:=by
 have:=apy_ h.P.ok h.B
 omega
theorem DkA.mono {X X':zb_} {G:DkG} {S:DiskL} {N:Nat} (h:DkA X G S N) (hk: ∀b o,Sx.look X b=some o→Sx.look X' b=some o):DkA X' G S N:=⟨h.P.mono hk,h.H,h.B⟩
theorem DkA.b {X:zb_} {G:DkG} {S:DiskL} {N:Nat} (h:DkA X G S N) (hN:N<1000000):DkB S:=h.B.b (by omega)
end Go.Proofs
end
section
open Go Go.Proofs Go.Sx Go.StP
namespace Go.Proofs
set_option maxRecDepth 10000
set_option maxHeartbeats 400000
set_option linter.unusedSimpArgs false
set_option linter.defProp false
theorem Q3_ {w:World} {X D:zb_} {b:Nat} {o:Obj} (h:Ext w X D) (hb:w.heap.size≤b):Ext w X ((b,o)::D):=
 ⟨fun c hc=>by
  rcases List.mem_cons.1 hc with rfl|hc
  ·exact .inr hb
  ·exact h.new c hc,fun c hc=>List.mem_cons_of_mem _ (h.all c hc)⟩
end Go.Proofs
end
section
open Go Go.Proofs Go.Sx Go.StP
namespace Go.Proofs
set_option maxRecDepth 10000
set_option maxHeartbeats 1000000
set_option linter.unusedSimpArgs false
set_option linter.defProp false
end Go.Proofs
end
section
open Go Go.Proofs Go.Sx Go.StP
namespace Go.Proofs
set_option maxRecDepth 10000
set_option maxHeartbeats 1000000
set_option linter.unusedSimpArgs false
set_option linter.defProp false
end Go.Proofs
end
section
open Go Go.Proofs Go.Sx Go.StP
namespace Go.Proofs
set_option maxRecDepth 10000
set_option maxHeartbeats 1000000
set_option linter.unusedSimpArgs false
set_option linter.defProp false
end Go.Proofs
end
section
open Go Go.Proofs Go.Sx Go.StP Go.Flo
namespace Go.Proofs
set_option maxRecDepth 10000
set_option maxHeartbeats 400000
set_option linter.unusedSimpArgs false
set_option linter.defProp false
def kO_:=And.intro (@zp_) (And.intro (@zo_) (@anv_))
theorem ac0_ (x a b:Int) (w:World) (hx:x.natAbs<8192) (ha:a.natAbs<8192) (hb:b.natAbs<8192):
  Rets Tryz.prog 253 #[fl x,vi a,vi b] w (fun v D=>v= .tuple #[vi (if a≤x∧x≤b then x else 0), .bool (decide (a≤x∧x≤b))]∧D= []):=by
 refine Rets.enterV Tryz.func253 rfl (rs:= [.tmp 6, .tmp 7]) Tryz.results253 Tryz.ntmps253 ?_
 refine kf ?_
 first|with_reducible refine ks [] @kO_ ?_|refine kp @kO_ ?_
 refine Ow.convIF rfl rfl cvIF Tryz.underlying3 Tryz.underlying312 rfl ?_
 refine Ow.fgeq rfl rfl rfl hx ha ?_
 by_cases h1:a≤x
 ·rw[decide_eq_true h1]
  refine ko @kO_ ?_
  refine Ow.convIF rfl rfl cvIF Tryz.underlying3 Tryz.underlying312 rfl ?_
  refine Ow.fleq rfl rfl rfl hx hb ?_
  by_cases h2:x≤b
  ·rw[decide_eq_true h2,decide_eq_true (show a≤x∧x≤b from⟨h1,h2⟩),if_pos ⟨h1,h2⟩]
   refine ko @kO_ ?_
   first|with_reducible refine ks [] @kO_ ?_|refine kp @kO_ ?_
   refine Ow.convFI rfl rfl cvFI Tryz.underlying312 Tryz.underlying3 rfl hx ?_
   refine ko @kO_ ?_
   first|with_reducible refine ks [] @kO_ ?_|refine kp @kO_ ?_
   refine Ow.convIF rfl rfl cvIF Tryz.underlying3 Tryz.underlying312 rfl ?_
   refine ko @kO_ ?_
   refine Ow.feql rfl rfl rfl hx hx ?_
   rw[show(x==x)=true by simp]
   refine ko @kO_ ?_
   first|with_reducible refine ks [] @kO_ ?_|refine kp @kO_ ?_
   refine⟨_,(ke @kO_),trivial, ?_⟩
   rfl
  ·rw[decide_eq_false h2,decide_eq_false (show¬ (a≤x∧x≤b) from fun h=>h2 h.2),if_neg (fun h=>h2 h.2)]
   refine ko @kO_ ?_
   first|with_reducible refine ks [] @kO_ ?_|refine kp @kO_ ?_
   refine⟨_,(ke @kO_),trivial, ?_⟩
   rfl
 ·rw[decide_eq_false h1,decide_eq_false (show¬ (a≤x∧x≤b) from fun h=>h1 h.1),if_neg (fun h=>h1 h.1)]
  refine ko @kO_ ?_
  first|with_reducible refine ks [] @kO_ ?_|refine kp @kO_ ?_
  refine⟨_,(ke @kO_),trivial, ?_⟩
  rfl
def cpR (p:PcL) (b:Int):Value:=match cpV p b with
 |some q=> .tuple #[vi q.1,vi q.2, .bool true]
 |none=>if(1≤p.n∧p.n≤4099)∧p.x= []∧(p.n:Int)≤b then .tuple #[vi 0,vi p.n, .bool false] else .tuple #[vi 0,vi 0, .bool false]
theorem ar1_ {p:PcL} {b:Int} (h:1≤p.n∧p.n≤4099∧p.x= []∧(p.a:Int)≤b - p.n):cpV p b=some (p.a,p.n):=by unfold cpV;rw[if_pos h]
theorem WM_ {p:PcL} {b:Int} (h: ¬ (1≤p.n∧p.n≤4099∧p.x= []∧(p.a:Int)≤b - p.n)):cpV p b=none:=by unfold cpV;rw[if_neg h]
set_option linter.defProp false
def xj_:=And.intro (And.intro (And.intro (And.intro (@zp_) (@zo_)) (And.intro (@Zj_) (@Za_))) (And.intro (And.intro (@JC_) (@vV_)) (And.intro (@ad5_) (@cxz)))) (And.intro (And.intro (And.intro (@ahY_) (@ahr_)) (And.intro (@Qb_) (@Sx.tup2_0))) (And.intro (And.intro (@Sx.tup2_1) (@Sx.tup3_0)) (And.intro (@Sx.tup3_1) (@Sx.tup3_2))))
theorem Zc_ (p:PcL) (b:Int) (w:World) (hp:PcB p) (h0:0≤b) (h1:b≤4099):
  Rets Tryz.prog 247 #[.agg (pcC p).toArray,vi b] w (fun v D=>v=cpR p b∧D= []):=by
 obtain⟨hpa,hpn⟩:=hp
 refine Rets.enterV Tryz.func247 rfl (rs:= [.tmp 4, .tmp 5, .tmp 6]) Tryz.results247 Tryz.ntmps247 ?_
 refine kf ?_
 first|with_reducible refine ks [] @xj_ ?_|refine kp @xj_ ?_
 refine Ow.box rfl rfl fun b2 hb2 hw2=> ?_
 simp only[zY_,zV_,zX_,za_,List.nil_append,List.cons_append]
 refine Ow.go rfl ?_
 simp(disch:=(first|assumption|omega| (simp only[kK_,kw_,UInt64.reduceToNat];try omega))) only[↓Sx.S0,Sx.S1,Tryz.fx,xj_,Nat.reduceAdd,Nat.reducePow,Int.reducePow,Nat.reduceBEq, ↓reduceIte,UInt8.reduceToNat,UInt16.reduceToNat,UInt32.reduceToNat,UInt64.reduceToNat,Int.reduceToNat]
 first|with_reducible refine ks [] @xj_ ?_|refine kp @xj_ ?_
 refine Ow.imag rfl rfl ?_
 refine Ow.callFV rfl Tryz.call253 (fun w' hw'=>ac0_ (p.n:Int) 1 4099 w' (by omega) (by omega) (by omega)) ?_
 unfold cpR
 by_cases c1:1≤p.n
 ·rw[decide_eq_true (show(1:Int)≤ (p.n:Int)∧(p.n:Int)≤4099 by omega),if_pos (show(1:Int)≤ (p.n:Int)∧(p.n:Int)≤4099 by omega)]
  by_cases c2:p.x= []
  ·have d2:decide (0< (p.x.length:Int))=false:=by rw[c2];rfl
   by_cases c4: (p.n:Int)≤b
   ·have d4:decide (b< (p.n:Int))=false:=decide_eq_false (by omega)
    refine ko (And.intro @xj_ (And.intro @d2 (@d4))) ?_
    first|with_reducible refine ks [] @xj_ ?_|refine kp @xj_ ?_
    refine Ow.real rfl rfl ?_
    refine ko @xj_ ?_
    refine Ow.callFV rfl Tryz.call253 (fun w' hw'=>ac0_ (p.a:Int) 0 (b - p.n) w' (by omega) (by omega) (by omega)) ?_
    by_cases c3: (p.a:Int)≤b - p.n
    ·rw[decide_eq_true (show(0:Int)≤ (p.a:Int)∧(p.a:Int)≤b - p.n by omega),if_pos (show(0:Int)≤ (p.a:Int)∧(p.a:Int)≤b - p.n by omega),ar1_ ⟨c1,hpn,c2,c3⟩]
     refine ko @xj_ ?_
     first|with_reducible refine ks [] @xj_ ?_|refine kp @xj_ ?_
     refine⟨_,(ke @xj_),⟨hw2,trivial⟩, ?_⟩
     rfl
    ·rw[decide_eq_false (show¬ ((0:Int)≤ (p.a:Int)∧(p.a:Int)≤b - p.n) by omega),if_neg (show¬ ((0:Int)≤ (p.a:Int)∧(p.a:Int)≤b - p.n) by omega),WM_ (fun h=>c3 h.2.2.2)]
     simp only
     rw[if_pos ⟨⟨c1,hpn⟩,c2,c4⟩]
     refine ko @xj_ ?_
     first|with_reducible refine ks [] @xj_ ?_|refine kp @xj_ ?_
     refine⟨_,(ke @xj_),⟨hw2,trivial⟩, ?_⟩
     rfl
   ·have d4:decide (b< (p.n:Int))=true:=decide_eq_true (by omega)
    rw[WM_ (fun h=>by have:=h.2.2.2;omega)]
    simp only
    rw[if_neg (fun h=>c4 h.2.2)]
    refine ko (And.intro @xj_ (And.intro @d2 (@d4))) ?_
    first|with_reducible refine ks [] @xj_ ?_|refine kp @xj_ ?_
    refine⟨_,(ke @xj_),⟨hw2,trivial⟩, ?_⟩
    rfl
  ·have d2:decide (0< (p.x.length:Int))=true:=decide_eq_true (by have:=List.length_pos_iff.2 c2;omega)
   rw[WM_ (fun h=>c2 h.2.2.1)]
   simp only
   rw[if_neg (fun h=>c2 h.2.1)]
   refine ko (And.intro @xj_ @d2) ?_
   first|with_reducible refine ks [] @xj_ ?_|refine kp @xj_ ?_
   refine⟨_,(ke @xj_),⟨hw2,trivial⟩, ?_⟩
   rfl
 ·rw[decide_eq_false (show¬ ((1:Int)≤ (p.n:Int)∧(p.n:Int)≤4099) by omega),if_neg (show¬ ((1:Int)≤ (p.n:Int)∧(p.n:Int)≤4099) by omega),WM_ (fun h=>c1 h.1)]
  simp only
  rw[if_neg (fun h=>c1 h.1.1)]
  refine ko @xj_ ?_
  first|with_reducible refine ks [] @xj_ ?_|refine kp @xj_ ?_
  refine⟨_,(ke @xj_),⟨hw2,trivial⟩, ?_⟩
  rfl
end Go.Proofs
end
