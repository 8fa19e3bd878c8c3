/-
  Part 3 of the walk: contracts of the functions that the law reaches, and the calculus they stand on.
  No conditions.
-/
import Derived.Test.YtjjiclcgdngfdaaGreatDoorR2
import Derived.Shelf.SlIter.Nil
import Derived.Shelf.SortM.Plain
import Derived.Shelf.SortM.SortNone
import Derived.Ground.GgzProg
import Derived.Ground.SlgmProg
section
open Go Go.Proofs Go.Sx Go.StP Go.Flo
namespace Go.Proofs
set_option maxRecDepth 10000
set_option maxHeartbeats 400000
set_option linter.unusedSimpArgs false
theorem Yg {s:List UInt8}: ∀ (k i a:Nat) (e:Int),(kQ s k i a e).1.length≤k∧(kQ s k i a e).2.1.length=(kQ s k i a e).1.length
 |0,i,a,e=>⟨Nat.le_refl _,rfl⟩
 |k+1,i,a,e=>by
  have:=Yg (s:=s) k (i+1) (s7 s i a e).2.1 0
  unfold kQ
  split
  ·simp only[List.length_cons];omega
  ·simp
end Go.Proofs
end
section
open Go Go.Proofs Go.Sx Go.StP Go.Flo
namespace Go.Proofs
set_option maxRecDepth 10000
set_option maxHeartbeats 400000
set_option linter.unusedSimpArgs false
end Go.Proofs
end
section
open Go Go.Proofs Go.Sx Go.StP Go.Flo
namespace Go.Proofs
set_option maxRecDepth 10000
set_option maxHeartbeats 400000
set_option linter.unusedSimpArgs false
theorem Mf {b d:List UInt8} (_h: (k8 b d).2=0): (k8 b d).1.length≤4099:=by
 unfold k8
 split
 ·simp
 ·rename_i p hp
  split
  ·simp
  ·rename_i hb
   obtain⟨m,hm⟩:=yN hp
   rw[show p.1=b.length by omega] at hm
   have hk:chkV (b.length:Nat) p.2=(((eB (b.length:Nat) p.2:Nat):Int),(0:Int)):=by
    unfold chkV at hm ⊢
    split at hm
    ·cases hm
    ·rename_i h1
     rw[if_neg h1]
     split at hm
     ·cases hm
     ·rename_i h2
      rw[if_neg h2]
      split at hm
      ·cases hm
      ·rename_i h3;rw[if_neg h3]
   obtain⟨-,-,h1,h2,-⟩:=uH hk
   show(txtP b p.2).length≤4099
   rw[tg h1]
   exact h2
theorem Nc {l:List PartL} {a:Int} {s:List UInt8} (h:partV l a= .ok s):s.length≤4099:=by
 unfold partV at h
 cases hp:jH l a with
 |error e=>rw[hp] at h;cases h
 |ok p=>
  rw[hp] at h
  change jF l p= .ok s at h
  cases p with
  |nil=>cases h;simp
  |cons x p=>
   unfold jF at h
   cases hf:jF l p with
   |error e=>rw[hf] at h;cases h
   |ok t=>
    rw[hf] at h
    change(if(ga (l.getD x fP) t).2=0 then _ else _)=_ at h
    split at h
    ·rename_i h0
     cases h
     unfold ga at h0 ⊢
     split
     ·rename_i hd;rw[if_pos hd] at h0;exact Mf h0
     ·rename_i hd
      split
      ·simp
      ·show(l.getD x fP).x.length≤4099;omega
    ·cases h
theorem rk {D:aA} {E:TypeId} {m n:Nat} {v:Value} {cs:List Value} (h:GrI D E m v n cs) (x:Bool×Nat):gP (.sl x) v=some (vi n):=by
 obtain⟨X,-,h⟩:=h;exact h.len x
set_option linter.defProp false
end Go.Proofs
end
section
open Go Go.Proofs Go.Sx Go.StP Go.Flo
namespace Go.Proofs
set_option maxRecDepth 10000
set_option maxHeartbeats 400000
set_option linter.unusedSimpArgs false
theorem Kw (p:PartL) (E:TypeId) (a:Bool) (x:Bool):ab (some (a,1)) (some (.cells (cY p).toArray E (0,0))) 0 (.bool x)=some (.cells (cY ⟨x,p.b,p.x⟩).toArray E (0,0)):=(rfl)
theorem Jf (p:PartL) (E:TypeId) (a:Bool) (x:Int):ab (some (a,1)) (some (.cells (cY p).toArray E (0,0))) 1 (vi x)=some (.cells (cY ⟨p.d,x,p.x⟩).toArray E (0,0)):=(rfl)
theorem NN (p:PartL) (E:TypeId):aI (some (true,3)) (some (.cells (cY p).toArray E (0,0))) 0=some (.agg (cY p).toArray):=xu (n:=3) [] (cY p) [] E (0,0) rfl rfl
theorem Lc (t:List UInt8):fW (cg Tryz.prog 279) (am Tryz.prog 279) [(2,vs t)]=some (.agg (cY ⟨false,0,t⟩).toArray):=by
 rw[show cg Tryz.prog 279=some [(0,1),(1,1),(2,1)] from id (by kernel_rfl),nd];rfl
set_option linter.defProp false
end Go.Proofs
end
section
open Go Go.Proofs Go.Sx Go.StP Go.Flo
namespace Go.Proofs
set_option maxRecDepth 10000
set_option maxHeartbeats 400000
set_option linter.unusedSimpArgs false
abbrev ObSl (w:World) (v:Value) (l:List ObL):Prop:=SlV 2 obC ob0 w v l
theorem Bd {w:World} {v:Value} {l:List ObL} {b off:Nat} {arr:Array Value} {E:TypeId} {fz:Nat×Nat} (h:RowS 2 obC ob0 w v l b off arr E fz) {k:Nat} (hk:k<l.length):
  aI (some (true,2)) (some (.cells arr E fz)) (off+k*2)=some (obV (l.getD k ob0).k (l.getD k ob0).t):=RowS.load h la (by omega) hk
set_option linter.defProp false
end Go.Proofs
end
section
open Go Go.Proofs Go.Sx Go.StP Go.Flo
namespace Go.Proofs
set_option maxRecDepth 10000
set_option maxHeartbeats 400000
set_option linter.unusedSimpArgs false
theorem yE {w0:World} {L X D:aA} (hC:Came w0 L X D) (hX:New w0.heap.size X):New w0.heap.size D:=New.of_le fun c hc=>by
 rcases hC.new c hc with h| ⟨-,h⟩
 ·exact hX.le c h
 ·exact h
def C1 (l:List PartL):Prop:= ∀g,g<l.length→(l.getD g fP).x.length≤17000000
set_option linter.defProp false
end Go.Proofs
end
section
open Go Go.Proofs Go.Sx Go.StP Go.Flo
namespace Go.Proofs
set_option maxRecDepth 10000
set_option maxHeartbeats 400000
set_option linter.unusedSimpArgs false
set_option linter.defProp false
set_option linter.defProp false
end Go.Proofs
end
section
open Go Go.Proofs Go.Sx Go.StP Go.Flo
namespace Go.Proofs
set_option maxRecDepth 10000
set_option maxHeartbeats 400000
set_option linter.unusedSimpArgs false
theorem eqDi (a b:Int):eqD Tryz.prog 7 3 (vi a) (vi b)=some (a==b):=by unfold eqD;rw[Tryz.underlying3];rfl
theorem eqDs (a b:List UInt8):eqD Tryz.prog 7 9 (vs a) (vs b)=some (a==b):=by unfold eqD;rw[Tryz.underlying9];simp only[vs,nj]
theorem agI:aM Tryz.prog 3=some (false,1):=id (by kernel_rfl)
theorem agS:aM Tryz.prog 9=some (false,1):=id (by kernel_rfl)
theorem Cc (a b:ObL):eqD Tryz.prog 8 82 (obV a.k a.t) (obV b.k b.t)=some (decide (a=b)):=by
 have p0: ∀o:ObL,Sx.partV (false,1) #[vi o.k,vs o.t] 0=some (vi o.k):=fun _=>rfl
 have p1: ∀o:ObL,Sx.partV (false,1) #[vi o.k,vs o.t] 1=some (vs o.t):=fun _=>rfl
 unfold eqD obV
 rw[Tryz.underlying82]
 simp only
 rw[show Tryz.prog.stoodInHeld 82=false by kernel_rfl]
 simp only[Bool.false_eq_true, ↓reduceIte,Ec,so,agI,agS,p0,p1,eqDi,eqDs]
 obtain⟨k,t⟩:=a
 obtain⟨k',t'⟩:=b
 have e:decide ((⟨k,t⟩:ObL)=⟨k',t'⟩)=((k==k')&& (t==t')):=by rw[Bool.eq_iff_iff];simp
 rw[e]
 cases(k==k')<;>cases(t==t')<;>rfl
theorem Vg (a b:ObL):aT Tryz.prog .eql 82 (obV a.k a.t) (obV b.k b.t)=some (.bool (decide (a=b))):=by
 have h:=Cc a b
 unfold aT eqX obV at*;rw[show Tryz.prog.eqGuardType Tryz.prog.depth 82=false by kernel_rfl];simp[eM,h]
theorem CS (a b:ObL):aT Tryz.prog .neq 82 (obV a.k a.t) (obV b.k b.t)=some (.bool (!decide (a=b))):=by
 have h:=Cc a b
 unfold aT eqX obV at*;rw[show Tryz.prog.eqGuardType Tryz.prog.depth 82=false by kernel_rfl];simp[eM,h]
instance:DecidableEq PartL:=fun a b=>if h:a.d=b.d∧a.b=b.b∧a.x=b.x then .isTrue (by cases a;cases b;simp only at h;obtain⟨rfl,rfl,rfl⟩:=h;rfl) else .isFalse (fun e=>h (by rw[e];exact⟨rfl,rfl,rfl⟩))
set_option linter.defProp false
end Go.Proofs
end
section
open Go Go.Proofs Go.Sx Go.StP Go.Flo
namespace Go.Proofs
set_option maxRecDepth 10000
set_option maxHeartbeats 400000
set_option linter.unusedSimpArgs false
theorem TO (s:List UInt8): ∃n:Nat,(gu s).1=n∧n≤200:=by
 unfold gu
 split
 ·have:=pv (s:=s) (a:=(az s 0 0 4).2.1) (e:=(az s 0 0 4).2.2) (most:=200) (by omega)
  exact⟨(aE s (az s 0 0 4).2.1 (az s 0 0 4).2.2 200).1.toNat,by simp only;omega,by omega⟩
 ·exact⟨0,rfl,by omega⟩
theorem NI (s:List UInt8) (a:Nat) (e most:Int) (hm:0≤most): ((an s a e most).1.length:Int)≤most:=by
 have h1:=pv (s:=s) (a:=a) (e:=e) (most:=most) hm
 have h2: ∀ (b:Nat) (e n:Int),0≤n→((az s b e n).1.length:Int)≤n:=by
  intro b e n hn
  unfold az
  split
  ·simpa using hn
  ·split
   ·simpa using hn
   ·split
    ·simpa using hn
    ·simp only[List.length_take,List.length_drop];omega
 unfold an
 simp only
 split
 ·simpa using hm
 ·have:=h2 (aE s a e most).2.1 (aE s a e most).2.2 (aE s a e most).1 h1.1
  omega
theorem zI {s:List UInt8}: ∀ (k i a:Nat) (e:Int) (p:PartL),p∈ (kQ s k i a e).1→p.x.length≤65536
 |0,i,a,e,p,h=>by cases h
 |k+1,i,a,e,p,h=>by
  unfold kQ at h
  split at h
  ·rcases List.mem_cons.1 h with rfl|h
   ·have:=NI s (aE s a e 200).2.1 (aE s a e 200).2.2 65536 (by omega)
    show(an s (aE s a e 200).2.1 (aE s a e 200).2.2 65536).1.length≤65536
    omega
   ·exact zI k _ _ _ p h
  ·cases h
theorem Ka (s:List UInt8):C1 (ic s).1:=fun g hg=>Nat.le_trans (zI _ _ _ _ _ (nX hg)) (by omega)
theorem zZ (s:List UInt8): (ic s).1.length≤200∧(ic s).2.1.length=(ic s).1.length:=by
 obtain⟨n,hn,dN⟩:=TO s
 have:=Yg (s:=s) (gu s).1.toNat 0 (gu s).2.2.1 (gu s).2.2.2
 unfold ic
 rw[hn,Int.toNat_natCast] at this ⊢
 omega
set_option linter.defProp false
end Go.Proofs
end
section
open Go Go.Proofs Go.Sx Go.StP Go.Flo
namespace Go.Proofs
set_option maxRecDepth 10000
set_option maxHeartbeats 400000
set_option linter.unusedSimpArgs false
set_option linter.defProp false
end Go.Proofs
end
section
open Go Go.Proofs Go.Sx Go.Dig
namespace Go.Proofs
set_option maxRecDepth 10000
set_option maxHeartbeats 1000000
set_option linter.unusedSimpArgs false
set_option linter.defProp false
def dU:=And.intro (@ay) (@ax)
theorem Sb (id:List UInt8) (iP:id.length=32) (w:World):Rets Tryz.prog 107 #[.agg (a8 id)] w (fun v D=>v=vs (aK id)∧D= []):=by
 refine Rets.enterV Tryz.func107 rfl (rs:= [.tmp 2]) Tryz.results107 Tryz.ntmps107 ?_
 refine kf ?_
 first|with_reducible refine ks [] @dU ?_|refine kp @dU ?_
 refine Ow.box rfl rfl fun b1 aQ aF=> ?_
 refine ko @dU ?_
 first|with_reducible refine ks [] @dU ?_|refine kp @dU ?_
 refine Ow.alloc rfl rfl Tryz.zr218 fun b2 aZ bH=> ?_
 refine ko @dU ?_
 first|with_reducible refine ks [] @dU ?_|refine kp @dU ?_
 obtain⟨n4,-⟩:=aZ
 refine Cw.loopG (G:=Nat) [8,9,10,4,5,11,12,13,14,15,16,17,18,19,20,21,22,23,24,7] (fun g=> [(7,vi g)]) (fun g=> [(b1, .cells (a8 id) 84),(b2, .cells (a8 (rv id g)) 218)]) (fun g=>g≤32) (fun g=>32 - g) 0 rfl rfl ?_ ?_
 ·omega
 intro g j hg
 refine kv ?_
 by_cases aD:g<32
 ·have hl:=Y1 id g iP hg
  first|with_reducible refine ks [] @dU ?_|refine kp @dU ?_
  have h4:=Sq (id.getD g 0)
  have Vr:=RU (id.getD g 0)
  refine Cw.regionO [0,1,2,3,4,5,6,7,8,9,10,11,12,13,14] [12,14] rfl (by kernel_rfl) (by kernel_rfl) ?_
  simp only[ap, ↓ao, ↓ac, ↓aj, ↓ai,ad]
  refine kq @dU ?_
  refine Ow.store rfl rfl rfl (ke @dU) ?_
  refine ko @dU ?_
  first|with_reducible refine ks [] @dU ?_|refine kp @dU ?_
  refine Again.mk (g+1) (by omega) (by omega) ?_ rfl
  exact congrArg (fun l=> [(b1,Obj.cells (a8 id) 84),(b2,Obj.cells (a8 l) 218)]) (Ll id g iP aD _ _ (Tt _) (Qi _))
 ·have oH:g=32:=by omega
  subst oH
  have hl:=Y1 id 32 iP (by omega)
  first|with_reducible refine ks [] @dU ?_|refine kp @dU ?_
  exact⟨_,rfl,⟨aF,bH,trivial⟩,by show vs _=_;rw[List.drop_zero,List.take_of_length_le (by omega),Mu id iP]⟩
theorem Jc (id:List UInt8) (iP:id.length=32) (w:World):Rets Tryz.prog 53 #[.agg (a8 id)] w (fun v D=>v=vs (aK id)∧D= []):=by
 refine Rets.enterV Tryz.func53 rfl (rs:= [.tmp 2]) Tryz.results53 Tryz.ntmps53 ?_
 refine kf ?_
 first|with_reducible refine ks [] @dU ?_|refine kp @dU ?_
 refine Ow.box rfl rfl fun b1 _ aF=> ?_
 refine ko @dU ?_
 first|with_reducible refine ks [] @dU ?_|refine kp @dU ?_
 refine Cw.loopG (G:=Nat) [7,8,11,12,13,14,15,16,17,18,19,20,5,6,21,22,23,24,25,26,27,28,29,30,31,3,9,10,4] (fun g=> [(4,vi g),(3,vs (aK (id.take g)))]) (fun g=> [(b1, .cells (a8 id) 84)]) (fun g=>g≤32) (fun g=>32 - g) 0 rfl rfl ?_ ?_
 ·omega
 intro g j hg
 refine kv ?_
 by_cases aD:g<32
 ·have hl: (aK (id.take g)).length≤64:=by rw[pw,List.length_take];omega
  have hx:=(id.getD g 0).toNat_lt
  have e1: ((hexL.take ((id.getD g 0).toNat / 16+1)).drop ((id.getD g 0).toNat / 16))=_:=Bu _ (by omega)
  have e2: ((hexL.take ((id.getD g 0).toNat%16+1)).drop ((id.getD g 0).toNat%16))=_:=Bu _ (by omega)
  simp only[hexL] at e1 e2
  first|with_reducible refine ks [] @dU ?_|refine kp @dU ?_
  refine Cw.regionO [0,1,5,6,2,3,4,10,7,8,9,11] [] rfl (by kernel_rfl) (by kernel_rfl) ?_
  simp only[ap, ↓ao, ↓ac, ↓aj, ↓ai,ad]
  refine kq @dU ?_
  first|with_reducible refine ks [] @dU ?_|refine kp @dU ?_
  refine Cw.regionO [0,1,2,3,4,5,6,7,8,9,10,11] [] rfl (by kernel_rfl) (by kernel_rfl) ?_
  simp only[ap, ↓ao, ↓ac, ↓aj, ↓ai,ad]
  refine kq (And.intro @dU (And.intro @e1 (@e2))) ?_
  first|with_reducible refine ks [] @dU ?_|refine kp @dU ?_
  refine Again.mk (g+1) (by omega) (by omega) rfl ?_
  rw[PY id g iP aD]
  rfl
 ·have oH:g=32:=by omega
  subst oH
  first|with_reducible refine ks [] @dU ?_|refine kp @dU ?_
  exact⟨_,rfl,⟨aF,trivial⟩,by show vs _=_;rw[List.take_of_length_le (by omega)]⟩
theorem I9 (s p:List UInt8) (w:World) (_hs:s.length<1099511627776):Rets Tryz.prog 174 #[vs s,vs p] w (fun v D=>v= .bool (decide (p.length≤s.length)&& (s.take p.length==p))∧D= []):=by
 refine Rets.enterV Tryz.func174 rfl (rs:= [.tmp 4]) Tryz.results174 Tryz.ntmps174 ?_
 refine kf ?_
 by_cases h:p.length≤s.length
 ·have e1:decide ((p.length:Int)≤ (s.length:Int))=true:=decide_eq_true (by omega)
  first|with_reducible refine ks [] (And.intro @dU @e1) ?_|refine kp (And.intro @dU @e1) ?_
  refine⟨_,(ke @dU),trivial, ?_⟩
  simp[bu,h]
 ·have e1:decide ((p.length:Int)≤ (s.length:Int))=false:=decide_eq_false (by omega)
  first|with_reducible refine ks [] (And.intro @dU @e1) ?_|refine kp (And.intro @dU @e1) ?_
  refine⟨_,(ke @dU),trivial, ?_⟩
  simp[bu,h]
end Go.Proofs
end
section
open Go Go.Proofs Go.Sx Go.StP Go.Flo Go.Dig
namespace Go.Proofs
set_option maxRecDepth 10000
set_option maxHeartbeats 400000
set_option linter.unusedSimpArgs false
section
variable {P:Program} {w0:World} {f:Fr} {L:aA} {N:Fr→aA→Prop} {ops:Array Oper} {rest:List Oper} {md:Md} {d:Option Tmp} {ty:TypeId} {ps:String} {af:Array Edge} {g:Option (Nat×Bool)}
end
set_option linter.defProp false
set_option linter.defProp false
end Go.Proofs
end
section
open Go Go.Proofs Go.Sx Go.StP Go.Flo
namespace Go.Proofs
set_option maxRecDepth 100000
set_option maxHeartbeats 1000000
set_option linter.unusedSimpArgs false
abbrev nz (w:World) (v:Value) (l:List (List UInt8)):Prop:=SlV 1 strC [] w v l
theorem uA {w:World} {v:Value} {l:List (List UInt8)} {b off:Nat} {arr:Array Value} {E:TypeId} {fz:Nat×Nat} (h:RowS 1 strC [] w v l b off arr E fz) {k:Nat} (hk:k<l.length) (n:Nat):
  aI (some (false,n)) (some (.cells arr E fz)) (off+k)=some (vs (l.getD k [])):=by
 have:=h.cell (j:=0) (n:=n) hk (by omega)
 rwa [Nat.mul_one,Nat.add_zero] at this
set_option linter.defProp false
end Go.Proofs
end
section
open Go Go.Proofs Go.Sx Go.StP
namespace Go.Proofs
set_option maxRecDepth 10000
set_option maxHeartbeats 400000
set_option linter.unusedSimpArgs false
def dE (s:List UInt8):Bool:= !(s== [])&&decide (s.length≤80)&& !(s.any fR)
set_option linter.defProp false
def cf:=And.intro (And.intro (And.intro (@ay) (And.intro (@wR) (@wP))) (And.intro (And.intro (@wK) (@ax)) (And.intro (@AJ) (@Y7)))) (And.intro (And.intro (And.intro (@Yf) (@YD)) (And.intro (@BN) (@t8))) (And.intro (And.intro (@Sx.tup3_0) (@Sx.tup3_1)) (And.intro (@Sx.tup3_2) (@eqb))))
theorem JK (c:Int) (w:World):Rets Tryz.prog 119 #[gz c] w (fun v D=>v= .bool (badR c)∧D= []):=by
 refine Rets.enterV Tryz.func119 rfl (rs:= [.tmp 2]) Tryz.results119 Tryz.ntmps119 ?_
 refine kf ?_
 unfold badR
 cases h1:decide (c<33)
 ·cases h2:decide (126<c)
  ·first|with_reducible refine ks [] (And.intro @cf (And.intro @h1 (@h2))) ?_|refine kp (And.intro @cf (And.intro @h1 (@h2))) ?_
   refine⟨_,(ke @cf),trivial, ?_⟩
   simp[bu]
  ·first|with_reducible refine ks [] (And.intro @cf (And.intro @h1 (@h2))) ?_|refine kp (And.intro @cf (And.intro @h1 (@h2))) ?_
   refine⟨_,(ke @cf),trivial, ?_⟩
   simp[bu]
 ·first|with_reducible refine ks [] (And.intro @cf @h1) ?_|refine kp (And.intro @cf @h1) ?_
  refine⟨_,(ke @cf),trivial, ?_⟩
  simp[bu]
theorem Z3 (s:List UInt8) (w:World) (hs:s.length<1099511627776):
  Rets Tryz.prog 74 #[vs s] w (fun v D=>v= .bool (dE s)∧D= []):=by
 refine Rets.enterV Tryz.func74 rfl (rs:= [.tmp 2]) Tryz.results74 Tryz.ntmps74 ?_
 refine kf ?_
 cases h0: (s != [])
 ·have e0: (s== [])=true:=by simpa using h0
  first|with_reducible refine ks [] (And.intro @cf @h0) ?_|refine kp (And.intro @cf @h0) ?_
  refine⟨_,(ke @cf),trivial, ?_⟩
  simp[bu,dE,e0]
 ·have e0: (s== [])=false:=by simpa using h0
  cases h1:decide ((s.length:Int)≤80)
  ·have e1:decide (s.length≤80)=false:=decide_eq_false (by have:=of_decide_eq_false h1;omega)
   first|with_reducible refine ks [] (And.intro @cf (And.intro @h0 (@h1))) ?_|refine kp (And.intro @cf (And.intro @h0 (@h1))) ?_
   refine⟨_,(ke @cf),trivial, ?_⟩
   simp only[bu,dE,e0,e1,Bool.not_false,Bool.true_and,Bool.false_and,Bool.and_false]
  ·have e1:decide (s.length≤80)=true:=decide_eq_true (by have:=of_decide_eq_true h1;omega)
   first|with_reducible refine ks [] (And.intro @cf (And.intro @h0 (@h1))) ?_|refine kp (And.intro @cf (And.intro @h0 (@h1))) ?_
   refine Ow.callFV rfl Tryz.call118 (fun w' aB=>vV_ s 119 Tryz.call119 JK w' hs) ?_
   refine ko @cf ?_
   first|with_reducible refine ks [] @cf ?_|refine kp @cf ?_
   refine⟨_,(ke @cf),trivial, ?_⟩
   simp only[bu,dE,e0,e1,Bool.not_false,Bool.true_and]
theorem NZ (s:List UInt8) (w:World) (hs:s.length<1099511627776):Rets Tryz.prog 126 #[vs s] w (fun v D=>v= .bool (!dE s)∧D= []):=by
 refine Rets.enterV Tryz.func126 rfl (rs:= [.tmp 2]) Tryz.results126 Tryz.ntmps126 ?_
 refine kf ?_
 first|with_reducible refine ks [] @cf ?_|refine kp @cf ?_
 refine Ow.callFV rfl Tryz.call74 (fun w' aB=>Z3 s w' hs) ?_
 refine ko @cf ?_
 first|with_reducible refine ks [] @cf ?_|refine kp @cf ?_
 refine⟨_,(ke @cf),trivial, ?_⟩
 rfl
theorem Vj_ (v:Value) (l:List (List UInt8)) (w:World) (hv:nz w v l) (hl:l.length<1000000) (hs: ∀s,s∈l→s.length<1099511627776):Rets Tryz.prog 165 #[v, .func (.func 126) #[] #[]] w (fun v D=>(∃i:Int,v=vi i∧decide (0≤i)= !(l.all dE))∧D= []):=by
 obtain⟨rb,off,arr,E,fz,hr⟩:=hv.row
 have ln:=hv.len
 refine Rets.enterV Tryz.func165 rfl (rs:= [.tmp 4]) Tryz.results165 Tryz.ntmps165 ?_
 refine kf ?_
 first|with_reducible refine ks [] (And.intro @cf @ln) ?_|refine kp (And.intro @cf @ln) ?_
 refine Cw.loopG (G:=Nat) [9,10,5,11,12,13,14,15,16,17,4,18,8] (fun k=> [(4,vi 0),(8,vi k)]) (fun k=> []) (fun k=>k≤l.length∧(l.take k).all dE=true) (fun k=>l.length - k) 0 rfl rfl ?_ ?_
 ·exact⟨Nat.zero_le _,rfl⟩
 intro k jk hk
 refine kv ?_
 obtain⟨hk,gm⟩:=hk
 by_cases aD:k<l.length
 ·have d1:decide ((k:Int)< (l.length:Int))=true:=decide_eq_true (by omega)
  have hb:=hr.has (by omega)
  have ix:=hr.idx false k aD
  have ld:=fun n=>uA hr aD n
  have mf:=StP.take_snoc (z:=([]:List UInt8)) aD
  have hm:l.getD k []∈l:=by rw[List.getD_eq_getElem?_getD,List.getElem?_eq_getElem aD];exact List.getElem_mem aD
  have cN:=hs _ hm
  generalize l.getD k []=s at*
  first|with_reducible refine ks [] (And.intro @cf (And.intro @d1 (And.intro @hb (And.intro @ix (@ld))))) ?_|refine kp (And.intro @cf (And.intro @d1 (And.intro @hb (And.intro @ix (@ld))))) ?_
  refine Ow.callFn1 (v:= .bool (!dE s)) rfl rfl rfl Tryz.call126 (fun w' aB=>NZ s w' cN) ?_
  cases hn:dE s with
  |true=>
   refine ko @cf ?_
   refine Again.mk (G:=Nat) (k+1) (by show l.length - (k+1)<l.length - k;omega) ⟨aD, ?_⟩ rfl rfl
   rw[mf,List.all_append,gm,List.all_cons,hn];rfl
  |false=>
   refine ko @cf ?_
   first|with_reducible refine ks [] @cf ?_|refine kp @cf ?_
   refine⟨_,(ke @cf),trivial, ?_⟩
   refine⟨(k:Int),rfl, ?_⟩
   rw[decide_eq_true (show(0:Int)≤ (k:Int) by omega),show l.all dE=false from List.all_eq_false.2 ⟨s,hm,by rw[hn];simp⟩];rfl
 ·obtain rfl:k=l.length:=by omega
  have d1:decide ((l.length:Int)< (l.length:Int))=false:=decide_eq_false (by omega)
  rw[List.take_length] at gm
  first|with_reducible refine ks [] (And.intro @cf @d1) ?_|refine kp (And.intro @cf @d1) ?_
  refine⟨_,(ke @cf),trivial, ?_⟩
  exact⟨-1,rfl,by rw[gm];rfl⟩
theorem Ws_ (v:Value) (l:List (List UInt8)) (w:World) (hv:nz w v l) (hl:l.length<1000000) (hs: ∀s,s∈l→s.length<1099511627776):Rets Tryz.prog 125 #[v, .func (.func 126) #[] #[]] w (fun v D=>v= .bool (!(l.all dE))∧D= []):=by
 refine Rets.enterV Tryz.func125 rfl (rs:= [.tmp 4]) Tryz.results125 Tryz.ntmps125 ?_
 refine kf ?_
 first|with_reducible refine ks [] @cf ?_|refine kp @cf ?_
 refine Ow.callC rfl rfl Tryz.call165 (fun w' aB=>Rets.toX (Vj_ v l w' (hv.oldN aB trivial) hl hs)) (fun B1 v1 D1 fa fK eE fS=> ?_)
 obtain⟨rfl,i,rfl,hi⟩:=fS
 refine ko (And.intro @cf @hi) ?_
 first|with_reducible refine ks [] @cf ?_|refine kp @cf ?_
 refine⟨_,(ke @cf),trivial, ?_⟩
 rfl
end Go.Proofs
end
section
open Go Go.Proofs Go.Sx Go.StP
namespace Go.Proofs
set_option maxRecDepth 10000
set_option maxHeartbeats 400000
set_option linter.unusedSimpArgs false
structure FileL where
 data:List UInt8
 stl:Nat
def dw:FileL:=⟨[],0⟩
structure CallL where
 kind:Nat
 a:List UInt8
 b:List UInt8
 n:Nat
def k5:CallL:=⟨2,[],[],0⟩
abbrev NmL:=List (List UInt8×Nat)
structure DirL where
 seen:NmL
 stl:NmL
 pend:List CallL
structure DiskL where
 dir:Nat→DirL
 files:List FileL
 max:Int
 fuse:Int
 fused:Bool
 off:Bool
def aR (l:NmL) (s:List UInt8):Option Nat:=(l.find? fun p=>s==p.1).map Prod.snd
def cw (l:NmL) (s:List UInt8):NmL:=l.filter fun p=> !(s==p.1)
def insN:NmL→List UInt8×Nat→NmL
 | [],x=> [x]
 |p::r,x=>if ltB x.1 p.1=true then x::p::r else p::insN r x
def fZ (l:NmL) (x:List UInt8×Nat):NmL:=insN (cw l x.1) x
def SrtN (l:NmL):Prop:=l.Pairwise fun p q=>ltB p.1 q.1=true
theorem SrtN.nodup {l:NmL} (h:SrtN l): (l.map Prod.fst).Nodup:=by
 refine List.pairwise_map.2 (List.Pairwise.imp ?_ h)
 intro a b jM e
 rw[e,Gl] at jM;cases jM
theorem po (x:List UInt8×Nat): ∀l:NmL,(insN l x).Perm (x::l)
 | []=>List.Perm.refl _
 |p::r=>by
  unfold insN
  split
  ·exact List.Perm.refl _
  ·exact((po x r).cons p).trans (List.Perm.swap x p r)
theorem Ak {x:List UInt8×Nat}: ∀ {l:NmL},SrtN l→(∀p,p∈l→p.1≠x.1)→SrtN (insN l x)
 | [],_,_=>List.pairwise_singleton _ _
 |p::r,h,hx=>by
  unfold SrtN at h
  rw[List.pairwise_cons] at h
  unfold insN
  split
  ·rename_i h1
   refine List.pairwise_cons.2 ⟨fun q hq=> ?_,List.pairwise_cons.2 h⟩
   rcases List.mem_cons.1 hq with rfl|hq
   ·exact h1
   ·exact HH h1 (h.1 q hq)
  ·rename_i h1
   refine List.pairwise_cons.2 ⟨fun q hq=> ?_,Ak h.2 fun q hq=>hx q (List.mem_cons_of_mem _ hq)⟩
   rcases List.mem_cons.1 ((po x r).mem_iff.1 hq) with rfl|hq
   ·have wu:ltB q.1 p.1=false:=by simpa using h1
    exact Hj wu (fun e=>hx p List.mem_cons_self e.symm)
   ·exact h.1 q hq
theorem Em {l:NmL} (s:List UInt8) (h:SrtN l):SrtN (cw l s):=List.Pairwise.filter _ h
theorem RY {l:NmL} {s:List UInt8} {p:List UInt8×Nat} (h:p∈cw l s):p.1≠s:=by
 have:=(List.mem_filter.1 h).2
 intro e
 rw[e] at this;simp at this
theorem y5 {l:NmL} (x:List UInt8×Nat) (h:SrtN l):SrtN (fZ l x):=Ak (Em _ h) fun _ hp=>RY hp
theorem fp {l:NmL} {s:List UInt8} {n:Nat} (h:aR l s=some n): (s,n)∈l:=by
 unfold aR at h
 cases hf:l.find? fun p=>s==p.1 with
 |none=>rw[hf] at h;cases h
 |some p=>
  rw[hf] at h
  have h1:=List.find?_some hf
  have h2:=List.mem_of_find?_eq_some hf
  obtain⟨a,b⟩:=p
  cases h
  rw[show s=a from by simpa using h1];exact h2
theorem ye {l:NmL} {s:List UInt8} (h:aR l s=none): ∀p,p∈l→p.1≠s:=by
 intro p hp e
 unfold aR at h
 cases hf:l.find? fun p=>s==p.1 with
 |none=>
  have:=List.find?_eq_none.1 hf p hp
  rw[e] at this;simp at this
 |some q=>rw[hf] at h;cases h
theorem za {α β:Type} {m:List (α×β)} (hn: (m.map Prod.fst).Nodup) {k:α} {a b:β} (h1: (k,a)∈m) (h2: (k,b)∈m):a=b:=by
 induction m with
 |nil=>cases h1
 |cons p r ih=>
  rw[List.map_cons,List.nodup_cons] at hn
  rcases List.mem_cons.1 h1 with e1|h1
  ·rcases List.mem_cons.1 h2 with e2|h2
   ·rw[←e1] at e2;exact(congrArg Prod.snd e2).symm
   ·exact absurd (by rw[←e1];exact List.mem_map.2 ⟨_,h2,rfl⟩) hn.1
  ·rcases List.mem_cons.1 h2 with e2|h2
   ·exact absurd (by rw[←e2];exact List.mem_map.2 ⟨_,h1,rfl⟩) hn.1
   ·exact ih hn.2 h1 h2
theorem xv {l:NmL} (hn: (l.map Prod.fst).Nodup) {s:List UInt8} {n:Nat} (h: (s,n)∈l):aR l s=some n:=by
 cases hf:aR l s with
 |none=>exact absurd rfl (ye hf _ h)
 |some m=>rw[za hn (fp hf) h]
section
variable {α β:Type} [BEq α] [LawfulBEq α]
theorem Te {m:List (α×β)} (hn: (m.map Prod.fst).Nodup) {k:α} {v z:β} (h: (k,v)∈m):getG k z m=v:=by
 unfold getG
 cases hf:m.find? fun p=>k==p.1 with
 |none=>
  have:=List.find?_eq_none.1 hf _ h
  exact absurd (beq_self_eq_true k) this
 |some q=>
  have h1:=List.find?_some hf
  have h2:=List.mem_of_find?_eq_some hf
  obtain⟨a,b⟩:=q
  have e:k=a:=eq_of_beq h1
  subst e
  exact za hn h2 h
theorem TE {m:List (α×β)} {k:α} {z:β} (h: ∀p,p∈m→p.1≠k):getG k z m=z:=by
 unfold getG
 cases hf:m.find? fun p=>k==p.1 with
 |none=>rfl
 |some q=>
  have h1:=List.find?_some hf
  exact absurd (eq_of_beq h1).symm (h q (List.mem_of_find?_eq_some hf))
theorem zD {m:List (α×β)} {k:α} (h: ∀p,p∈m→p.1≠k):m.filter (fun p=> !(k==p.1))=m:=
 List.filter_eq_self.2 fun p hp=>by
  have:=h p hp
  cases e:k==p.1 with
  |false=>rfl
  |true=>exact absurd (eq_of_beq e).symm this
theorem zn (k:α) (v:β): ∀ {m:List (α×β)},(m.map Prod.fst).Nodup→(updG k v m).Perm ((k,v)::m.filter fun p=> !(k==p.1))
 | [],_=>List.Perm.refl _
 |p::r,hn=>by
  rw[List.map_cons,List.nodup_cons] at hn
  unfold updG
  cases hk: (k==p.1) with
  |true=>
   rw[if_pos rfl,List.filter_cons,hk]
   have e:k=p.1:=eq_of_beq hk
   have hr:r.filter (fun p=> !(k==p.1))=r:=zD fun q hq e2=>hn.1 (List.mem_map.2 ⟨q,hq,by rw[e2,e]⟩)
   simp only[Bool.not_true,Bool.false_eq_true, ↓reduceIte,hr]
   rw[e]
  |false=>
   rw[if_neg (by simp),List.filter_cons,hk]
   simp only[Bool.not_false, ↓reduceIte]
   exact((zn k v hn.2).cons p).trans (List.Perm.swap _ _ _)
theorem BO (k:α): ∀ {m:List (α×β)},(m.map Prod.fst).Nodup→delG k m=m.filter fun p=> !(k==p.1)
 | [],_=>rfl
 |p::r,hn=>by
  rw[List.map_cons,List.nodup_cons] at hn
  unfold delG
  cases hk: (k==p.1) with
  |true=>
   rw[if_pos rfl,List.filter_cons,hk]
   have e:k=p.1:=eq_of_beq hk
   have hr:r.filter (fun p=> !(k==p.1))=r:=zD fun q hq e2=>hn.1 (List.mem_map.2 ⟨q,hq,by rw[e2,e]⟩)
   simp only[Bool.not_true,Bool.false_eq_true, ↓reduceIte,hr]
  |false=>
   rw[if_neg (by simp),List.filter_cons,hk,BO k hn.2]
   simp only[Bool.not_false, ↓reduceIte]
end
def ag:Option Nat→Value
 |none=> .pointer none
 |some b=>vp b 0
def ptrN (fb:List Nat) (p:List UInt8×Nat):List UInt8×Option Nat:=(p.1,some (fb.getD p.2 0))
def NmP (fb:List Nat) (l:NmL) (m:List (List UInt8×Option Nat)):Prop:=m.Perm (l.map (ptrN fb))
theorem NmP.keys {fb:List Nat} {l:NmL} {m:List (List UInt8×Option Nat)} (h:NmP fb l m) (hn: (l.map Prod.fst).Nodup): (m.map Prod.fst).Nodup:=by
 refine((h.map Prod.fst).nodup_iff).2 ?_
 rw[List.map_map]
 exact hn
theorem NmP.get {fb:List Nat} {l:NmL} {m:List (List UInt8×Option Nat)} (h:NmP fb l m) (hn: (l.map Prod.fst).Nodup) (s:List UInt8):getG s none m=(aR l s).map fun n=>fb.getD n 0:=by
 cases hf:aR l s with
 |none=>
  refine TE fun p hp e=> ?_
  obtain⟨q,hq,rfl⟩:=List.mem_map.1 (h.mem_iff.1 hp)
  exact ye hf q hq e
 |some n=>exact Te (h.keys hn) (h.mem_iff.2 (List.mem_map.2 ⟨_,fp hf,rfl⟩))
theorem Al (fb:List Nat) (l:NmL) (s:List UInt8): (l.map (ptrN fb)).filter (fun p=> !(s==p.1))=(cw l s).map (ptrN fb):=by
 unfold cw
 rw[List.filter_map];rfl
theorem NmP.wipe {fb:List Nat} {l:NmL} {m:List (List UInt8×Option Nat)} (h:NmP fb l m) (hn: (l.map Prod.fst).Nodup) (s:List UInt8):NmP fb (cw l s) (delG s m):=by
 unfold NmP
 rw[BO s (h.keys hn),←Al]
 exact h.filter _
theorem NmP.put {fb:List Nat} {l:NmL} {m:List (List UInt8×Option Nat)} (h:NmP fb l m) (hn: (l.map Prod.fst).Nodup) (s:List UInt8) (n:Nat):NmP fb (fZ l (s,n)) (updG s (some (fb.getD n 0)) m):=by
 refine(zn s _ (h.keys hn)).trans ?_
 unfold fZ
 refine List.Perm.trans ?_ ((po (s,n) (cw l s)).map (ptrN fb)).symm
 rw[List.map_cons,←Al]
 exact(h.filter _).cons _
theorem NmP.mono {fb fb':List Nat} {l:NmL} {m:List (List UInt8×Option Nat)} (h:NmP fb l m) (hb: ∀p,p∈l→fb'.getD p.2 0=fb.getD p.2 0):NmP fb' l m:=by
 unfold NmP at h ⊢
 rw[show l.map (ptrN fb')=l.map (ptrN fb) from List.map_congr_left fun p hp=>by unfold ptrN;rw[hb p hp]]
 exact h
def aG:List UInt8:= [108,111,111,115,101]
def kh:List UInt8:= [112,97,99,107]
def refD:List UInt8:= [114,101,102]
def eY (k:Nat):List UInt8:=match k with|0=>aG|1=>kh|_=>refD
def bv (s:List UInt8):Option Nat:=if s==aG then some 0 else if s==kh then some 1 else if s==refD then some 2 else none
theorem dH {s:List UInt8} {k:Nat} (h:bv s=some k):k<3∧s=eY k:=by
 unfold bv at h
 split at h
 ·rename_i e;cases h;exact⟨by omega,eq_of_beq e⟩
 ·split at h
  ·rename_i e;cases h;exact⟨by omega,eq_of_beq e⟩
  ·split at h
   ·rename_i e;cases h;exact⟨by omega,eq_of_beq e⟩
   ·cases h
theorem pp {k:Nat} (h:k<3):bv (eY k)=some k:=by
 have:k=0∨k=1∨k=2:=by omega
 rcases this with rfl|rfl|rfl<;>rfl
def dP (l:NmL) (c:CallL):NmL:=match c.kind with
 |0=>fZ l (c.a,c.n)
 |1=>fZ (cw l c.a) (c.b,(aR l c.a).getD 0)
 |_=>cw l c.a
def dV (S:DiskL) (k:Nat) (d:DirL):DiskL:={S with dir:=fun j=>if j=k then d else S.dir j}
def dF (S:DiskL) (dir:List UInt8) (names:List (List UInt8)):Nat:=if bv dir=none∨names.all dE=false then 1 else if S.off=true then 9 else 0
def aJ (S:DiskL):DiskL×Nat:=if S.fused=true∧S.fuse=0 then({S with off:=true},9) else if S.fused=true then({S with fuse:=S.fuse - 1},0) else(S,0)
def cH (S:DiskL) (l:NmL):Nat:=(l.map fun p=>(S.files.getD p.2 dw).data.length).sum
def cy (S:DiskL):Nat:=cH S (S.dir 0).seen+cH S (S.dir 1).seen+cH S (S.dir 2).seen
structure DkOk (S:DiskL):Prop where
 seen: ∀k,k<3→SrtN (S.dir k).seen
 stl: ∀k,k<3→SrtN (S.dir k).stl
 seenN: ∀k,k<3→ ∀p,p∈ (S.dir k).seen→p.2<S.files.length
 stlN: ∀k,k<3→ ∀p,p∈ (S.dir k).stl→p.2<S.files.length
 pendN: ∀k,k<3→ ∀c,c∈ (S.dir k).pend→c.kind=0→c.n<S.files.length
 file: ∀f,f∈S.files→f.data.length≤1048576∧f.stl≤f.data.length
 fuse: -9223372036854775808≤S.fuse∧S.fuse<9223372036854775808∧(S.fused=true→0≤S.fuse)
 max: -9223372036854775808≤S.max∧S.max<9223372036854775808
end Go.Proofs
end
section
open Go Go.Proofs Go.Sx Go.StP
namespace Go.Proofs
set_option maxRecDepth 10000
set_option maxHeartbeats 400000
set_option linter.unusedSimpArgs false
def cR (f:FileL):Obj:= .cells #[vs f.data,vi (f.stl:Int)] 126 (0,0)
def cL (a b:Nat) (v:Value):Obj:= .cells #[vm a,vm b,v] 130 (0,0)
def bI (bm:Nat) (S:DiskL):Obj:= .cells #[vm bm,vi S.max,vi S.fuse, .bool S.fused, .bool S.off] 123 (0,0)
def dS (s:List UInt8):Obj:= .cells #[vs s] 9 (0,0)
def iL (b:Nat):Obj:= .cells #[vp b 0] 124 (0,0)
structure DkG where
 bd:Nat
 bm:Nat
 d:Nat→Nat
 s:Nat→Nat
 t:Nat→Nat
 p:Nat→Value
 fb:List Nat
def mv (G:DkG):List (List UInt8×Option Nat):= [(aG,some (G.d 0)),(kh,some (G.d 1)),(refD,some (G.d 2))]
def FnP (X:aA) (fb:List Nat) (v:Value) (c:CallL):Prop:=match c.kind with
 |0=> ∃b1 b2,v= .func (.func 159) #[] #[vp b1 0,vp b2 0]∧Sx.look X b1=some (iL (fb.getD c.n 0))∧Sx.look X b2=some (dS c.a)
 |1=> ∃b1 b2,v= .func (.func 121) #[] #[vp b1 0,vp b2 0]∧Sx.look X b1=some (dS c.a)∧Sx.look X b2=some (dS c.b)
 |_=> ∃b1,v= .func (.func 161) #[] #[vp b1 0]∧Sx.look X b1=some (dS c.a)
def NmM (X:aA) (fb:List Nat) (b:Nat) (l:NmL):Prop:= ∃o m,Sx.look X b=some o∧eF vs ag o m∧NmP fb l m
structure DkP (X:aA) (G:DkG) (S:DiskL):Prop where
 disk:Sx.look X G.bd=some (bI G.bm S)
 dirs: ∃o,Sx.look X G.bm=some o∧eF vs ag o (mv G)
 dir: ∀k,k<3→Sx.look X (G.d k)=some (cL (G.s k) (G.t k) (G.p k))
 seen: ∀k,k<3→NmM X G.fb (G.s k) (S.dir k).seen
 stl: ∀k,k<3→NmM X G.fb (G.t k) (S.dir k).stl
 pend: ∀k,k<3→ ∃vals:List Value,vals.length=(S.dir k).pend.length∧Gr X 137 1 (G.p k) vals.length vals∧ ∀i,i<vals.length→FnP X G.fb (vals.getD i undef) ((S.dir k).pend.getD i k5)
 file: ∀n,n<S.files.length→Sx.look X (G.fb.getD n 0)=some (cR (S.files.getD n dw))
 len:G.fb.length=S.files.length
 nodf:G.fb.Nodup
 nodm: [G.s 0,G.s 1,G.s 2,G.t 0,G.t 1,G.t 2].Nodup
 nodd: [G.d 0,G.d 1,G.d 2].Nodup
 nodb: ∀k,k<3→G.bm≠G.s k∧G.bm≠G.t k
 nodp: ∀i j,i<3→j<3→i≠j→ ∀b,slB (G.p i)=some b→slB (G.p j)≠some b
 ok:DkOk S
def DkW (w:World) (G:DkG) (S:DiskL):Prop:= ∃X,(∀b o,Sx.look X b=some o→w.heap[b]? =some o)∧DkP X G S
theorem FnP.keep {X X':aA} {fb:List Nat} {v:Value} {c:CallL} (h:FnP X fb v c) (hk: ∀b o,Sx.look X b=some o→((∃s,o=dS s)∨ ∃a,o=iL a)→Sx.look X' b=some o):FnP X' fb v c:=by
 unfold FnP at h ⊢
 split at h
 ·obtain⟨b1,b2,h1,h2,h3⟩:=h;exact⟨b1,b2,h1,hk _ _ h2 (.inr ⟨_,rfl⟩),hk _ _ h3 (.inl ⟨_,rfl⟩)⟩
 ·obtain⟨b1,b2,h1,h2,h3⟩:=h;exact⟨b1,b2,h1,hk _ _ h2 (.inl ⟨_,rfl⟩),hk _ _ h3 (.inl ⟨_,rfl⟩)⟩
 ·obtain⟨b1,h1,h2⟩:=h;exact⟨b1,h1,hk _ _ h2 (.inl ⟨_,rfl⟩)⟩
theorem NmM.keep {X X':aA} {fb:List Nat} {b:Nat} {l:NmL} (h:NmM X fb b l) (hk: ∀o,Sx.look X b=some o→Sx.look X' b=some o):NmM X' fb b l:=by
 obtain⟨o,m,h1,h2,h3⟩:=h;exact⟨o,m,hk _ h1,h2,h3⟩
theorem lh {L:aA} {E:TypeId} {m n:Nat} {v:Value} {cs:List Value} (h:Gr L E m v n cs) {b:Nat} (hb:slB v=some b): ∃arr,Sx.look L b=some (.cells arr E (0,0)):=by
 rcases h with h| ⟨-,-,c,rfl,h⟩
 ·cases h with
  |nl=>cases hb
  |at_ hl=>cases hb;exact⟨_,hl⟩
 ·cases hb;exact⟨_,h⟩
def tyO:Obj→Option TypeId
 | .cells _ t _=>some t
 |_=>none
theorem iT {α β:Type} {encK:α→Value} {encV:β→Value} {o:Obj} {m:List (α×β)} (h:eF encK encV o m):tyO o=none:=by
 obtain⟨es,c,rfl,-⟩:=h;rfl
theorem g9 {X:aA} {c b:Nat} {oc x o:Obj} (hc:Sx.look X c=some oc) (hb:Sx.look X b=some o) (ht:tyO o≠tyO oc):Sx.look (setB X c x) b=some o:=by
 rw[eO (by rintro rfl;rw[hc] at hb;cases hb;exact ht rfl)];exact hb
theorem DkP.mono {X X':aA} {G:DkG} {S:DiskL} (h:DkP X G S) (hk: ∀b o,Sx.look X b=some o→Sx.look X' b=some o):DkP X' G S where
 disk:=hk _ _ h.disk
 dirs:=by obtain⟨o,h1,h2⟩:=h.dirs;exact⟨o,hk _ _ h1,h2⟩
 dir k ce:=hk _ _ (h.dir k ce)
 seen k ce:=(h.seen k ce).keep fun o=>hk _ o
 stl k ce:=(h.stl k ce).keep fun o=>hk _ o
 pend k ce:=by
  obtain⟨vals,h1,h2,h3⟩:=h.pend k ce
  exact⟨vals,h1,h2.keep fun b o _=>hk b o,fun i hi=>(h3 i hi).keep fun b o ho _=>hk b o ho⟩
 file n hn:=hk _ _ (h.file n hn)
 len:=h.len
 nodf:=h.nodf
 nodm:=h.nodm
 nodd:=h.nodd
 nodb:=h.nodb
 nodp:=h.nodp
 ok:=h.ok
theorem DkP.setDisk {X:aA} {G:DkG} {S:DiskL} (h:DkP X G S) (S':DiskL) (hd:S'.dir=S.dir) (hf:S'.files=S.files) (ok:DkOk S'):DkP (setB X G.bd (bI G.bm S')) G S' where
 disk:=jK h.disk
 dirs:=by obtain⟨o,h1,h2⟩:=h.dirs;exact⟨o,g9 h.disk h1 (by rw[iT h2];intro e;cases e),h2⟩
 dir k ce:=g9 h.disk (h.dir k ce) (by simp[tyO,cL,bI])
 seen k ce:=by
  rw[hd]
  obtain⟨o,m,h1,h2,h3⟩:=h.seen k ce
  exact⟨o,m,g9 h.disk h1 (by rw[iT h2];intro e;cases e),h2,h3⟩
 stl k ce:=by
  rw[hd]
  obtain⟨o,m,h1,h2,h3⟩:=h.stl k ce
  exact⟨o,m,g9 h.disk h1 (by rw[iT h2];intro e;cases e),h2,h3⟩
 pend k ce:=by
  rw[hd]
  obtain⟨vals,h1,h2,h3⟩:=h.pend k ce
  refine⟨vals,h1,h2.keep fun b o hb ho=> ?_,fun i hi=>(h3 i hi).keep fun b o ho hx=>g9 h.disk ho ?_⟩
  ·obtain⟨arr,ha⟩:=lh h2 hb
   rw[ho] at ha;cases ha
   exact g9 h.disk ho (by simp[tyO,bI])
  ·rcases hx with⟨s,rfl⟩ | ⟨a,rfl⟩<;>simp[tyO,bI,dS,iL]
 file n hn:=by rw[hf] at hn ⊢;exact g9 h.disk (h.file n hn) (by simp[tyO,bI,cR])
 len:=by rw[hf];exact h.len
 nodf:=h.nodf
 nodm:=h.nodm
 nodd:=h.nodd
 nodb:=h.nodb
 nodp:=h.nodp
 ok:=ok
theorem DkP.setFile {X:aA} {G:DkG} {S:DiskL} (h:DkP X G S) {n:Nat} (hn:n<S.files.length) (f:FileL) (ok:DkOk {S with files:=S.files.set n f}):DkP (setB X (G.fb.getD n 0) (cR f)) G {S with files:=S.files.set n f} where
 disk:=g9 (h.file n hn) h.disk (by simp[tyO,bI,cR])
 dirs:=by obtain⟨o,h1,h2⟩:=h.dirs;exact⟨o,g9 (h.file n hn) h1 (by rw[iT h2];intro e;cases e),h2⟩
 dir k ce:=g9 (h.file n hn) (h.dir k ce) (by simp[tyO,cL,cR])
 seen k ce:=by
  obtain⟨o,m,h1,h2,h3⟩:=h.seen k ce
  exact⟨o,m,g9 (h.file n hn) h1 (by rw[iT h2];intro e;cases e),h2,h3⟩
 stl k ce:=by
  obtain⟨o,m,h1,h2,h3⟩:=h.stl k ce
  exact⟨o,m,g9 (h.file n hn) h1 (by rw[iT h2];intro e;cases e),h2,h3⟩
 pend k ce:=by
  obtain⟨vals,h1,h2,h3⟩:=h.pend k ce
  refine⟨vals,h1,h2.keep fun b o hb ho=> ?_,fun i hi=>(h3 i hi).keep fun b o ho hx=>g9 (h.file n hn) ho ?_⟩
  ·obtain⟨arr,ha⟩:=lh h2 hb
   rw[ho] at ha;cases ha
   exact g9 (h.file n hn) ho (by simp[tyO,cR])
  ·rcases hx with⟨s,rfl⟩ | ⟨a,rfl⟩<;>simp[tyO,cR,dS,iL]
 file i hi:=by
  simp only[List.length_set] at hi
  by_cases e:i=n
  ·subst e
   rw[jK (h.file i hn),List.getD_eq_getElem?_getD,List.getElem?_set_self hn];rfl
  ·have hl:=h.len
   have aO:G.fb.getD i 0≠G.fb.getD n 0:=by
    intro e2
    rw[List.getD_eq_getElem?_getD,List.getD_eq_getElem?_getD,List.getElem?_eq_getElem (by omega),List.getElem?_eq_getElem (by omega)] at e2
    simp only[Option.getD_some] at e2
    rcases Nat.lt_or_gt_of_ne e with aD|aD
    ·exact(List.pairwise_iff_getElem.1 h.nodf) i n (by omega) (by omega) aD e2
    ·exact(List.pairwise_iff_getElem.1 h.nodf) n i (by omega) (by omega) aD e2.symm
   rw[eO (Ne.symm aO),h.file i hi,List.getD_eq_getElem?_getD,List.getD_eq_getElem?_getD,List.getElem?_set_ne (Ne.symm e)]
 len:=by rw[List.length_set];exact h.len
 nodf:=h.nodf
 nodm:=h.nodm
 nodd:=h.nodd
 nodb:=h.nodb
 nodp:=h.nodp
 ok:=ok
theorem DkP.world {X:aA} {G:DkG} {S:DiskL} {w0 w:World} (h:DkP X G S) (hw:Hp w0 X w):DkW w G S:=⟨X,fun _ _ hb=>hw.has _ _ (cO hb),h⟩
theorem DkW.old {w w':World} {L:aA} {G:DkG} {S:DiskL} (h:DkW w G S) (hw:Hp w L w') (hn:New w.heap.size L):DkW w' G S:=by
 obtain⟨X,h1,h2⟩:=h
 refine⟨X,fun b o hb=> ?_,h2⟩
 have aD:=(Array.getElem?_eq_some_iff.1 (h1 b o hb)).1
 rw[hw.old b aD (hn.not aD)];exact h1 b o hb
end Go.Proofs
end
section
open Go Go.Proofs Go.Sx Go.StP
namespace Go.Proofs
set_option maxRecDepth 10000
set_option maxHeartbeats 400000
set_option linter.unusedSimpArgs false
theorem m7 (bm:Nat) (S:DiskL) (n:Nat):aI (some (false,n)) (some (bI bm S)) 0=some (vm bm):=(rfl)
theorem xe (bm:Nat) (S:DiskL) (n:Nat):aI (some (false,n)) (some (bI bm S)) 1=some (vi S.max):=(rfl)
theorem yz (bm:Nat) (S:DiskL) (n:Nat):aI (some (false,n)) (some (bI bm S)) 2=some (vi S.fuse):=(rfl)
theorem ze (bm:Nat) (S:DiskL) (n:Nat):aI (some (false,n)) (some (bI bm S)) 3=some (.bool S.fused):=(rfl)
theorem zX (bm:Nat) (S:DiskL) (n:Nat):aI (some (false,n)) (some (bI bm S)) 4=some (.bool S.off):=(rfl)
theorem N7 (bm:Nat) (S:DiskL) (x:Int) (a:Bool):ab (some (a,1)) (some (bI bm S)) 1 (vi x)=some (bI bm {S with max:=x}):=gj [vm bm] [vi S.max] [vi x] [vi S.fuse, .bool S.fused, .bool S.off] a _ 123 rfl rfl rfl rfl rfl
theorem NF (bm:Nat) (S:DiskL) (x:Int) (a:Bool):ab (some (a,1)) (some (bI bm S)) 2 (vi x)=some (bI bm {S with fuse:=x}):=gj [vm bm,vi S.max] [vi S.fuse] [vi x] [.bool S.fused, .bool S.off] a _ 123 rfl rfl rfl rfl rfl
theorem yb (bm:Nat) (S:DiskL) (x:Bool) (a:Bool):ab (some (a,1)) (some (bI bm S)) 3 (.bool x)=some (bI bm {S with fused:=x}):=gj [vm bm,vi S.max,vi S.fuse] [.bool S.fused] [.bool x] [.bool S.off] a _ 123 rfl rfl rfl rfl rfl
theorem ym (bm:Nat) (S:DiskL) (x:Bool) (a:Bool):ab (some (a,1)) (some (bI bm S)) 4 (.bool x)=some (bI bm {S with off:=x}):=gj [vm bm,vi S.max,vi S.fuse, .bool S.fused] [.bool S.off] [.bool x] [] a _ 123 rfl rfl rfl rfl rfl
theorem nS (a b:Nat) (v:Value) (n:Nat):aI (some (false,n)) (some (cL a b v)) 0=some (vm a):=(rfl)
theorem nQ (a b:Nat) (v:Value) (n:Nat):aI (some (false,n)) (some (cL a b v)) 1=some (vm b):=(rfl)
theorem nR (a b:Nat) (v:Value) (n:Nat):aI (some (false,n)) (some (cL a b v)) 2=some v:=(rfl)
theorem xa (f:FileL) (n:Nat):aI (some (false,n)) (some (cR f)) 0=some (vs f.data):=(rfl)
theorem xd (f:FileL) (n:Nat):aI (some (false,n)) (some (cR f)) 1=some (vi (f.stl:Int)):=(rfl)
theorem Gj (f:FileL) (x:List UInt8) (a:Bool):ab (some (a,1)) (some (cR f)) 0 (vs x)=some (cR {f with data:=x}):=gj [] [vs f.data] [vs x] [vi (f.stl:Int)] a _ 126 rfl rfl rfl rfl rfl
theorem H6 (f:FileL) (x:Nat) (a:Bool):ab (some (a,1)) (some (cR f)) 1 (vi (x:Int))=some (cR {f with stl:=x}):=gj [vs f.data] [vi (f.stl:Int)] [vi (x:Int)] [] a _ 126 rfl rfl rfl rfl rfl
theorem ql (b o:Nat):aT Tryz.prog .eql 27 (vp b o) (.pointer none)=some (.bool false):=by
 simp[aT,eqX,eM,eA,Tryz.underlying27,vp]
theorem CR (b o:Nat):aT Tryz.prog .neq 27 (vp b o) (.pointer none)=some (.bool true):=by
 simp[aT,eqX,eM,eA,Tryz.underlying27,vp]
theorem mO (b o:Nat):aT Tryz.prog .eql 120 (vp b o) (.pointer none)=some (.bool false):=by
 simp[aT,eqX,eM,eA,Tryz.underlying120,vp]
theorem mF:aT Tryz.prog .eql 120 (.pointer none) (.pointer none)=some (.bool true):=by
 simp[aT,eqX,eM,eA,Tryz.underlying120]
theorem o6 (b o:Nat):aT Tryz.prog .eql 124 (vp b o) (.pointer none)=some (.bool false):=by
 simp[aT,eqX,eM,eA,Tryz.underlying124,vp]
theorem nn:aT Tryz.prog .eql 124 (.pointer none) (.pointer none)=some (.bool true):=by
 simp[aT,eqX,eM,eA,Tryz.underlying124]
theorem zrPd:am Tryz.prog 120=some (ag none):=id (by kernel_rfl)
theorem zrPf:am Tryz.prog 124=some (ag none):=id (by kernel_rfl)
theorem jJ:KeyOk Tryz.prog 9 vs:=KeyOk.str Tryz.underlying9
theorem FE (G:DkG) (s:List UInt8):getG s none (mv G)=(bv s).map G.d:=by
 unfold getG mv bv
 rw[List.find?_cons,List.find?_cons,List.find?_cons,List.find?_nil]
 cases h1:s==aG
 ·cases h2:s==kh
  ·cases h3:s==refD<;>rfl
  ·rfl
 ·rfl
set_option linter.defProp false
def iu:=And.intro (And.intro (And.intro (@ay) (And.intro (@ax) (@m7))) (And.intro (@xe) (And.intro (@yz) (@ze)))) (And.intro (And.intro (@zX) (And.intro (@N7) (@NF))) (And.intro (And.intro (@yb) (@ym)) (And.intro (@ql) (@CR))))
theorem EN (b bm:Nat) (S:DiskL) (w:World) (hf: -9223372036854775808≤S.fuse∧S.fuse<9223372036854775808∧(S.fused=true→0≤S.fuse)) (ho:w.heap[b]? =some (bI bm S)):
  Rets Tryz.prog 81 #[vp b 0] w (fun v D=> ∃o,D= [(b,o)]∧v=vi (aJ S).2∧o=bI bm (aJ S).1):=by
 refine Rets.enterM Tryz.func81 rfl (rs:= [.tmp 2]) Tryz.results81 Tryz.ntmps81 ho ?_
 refine kf ?_
 unfold aJ
 cases r5:S.fused with
 |false=>
  rw[if_neg (by simp),if_neg (by simp)]
  first|with_reducible refine ks [] (And.intro @iu @r5) ?_|refine kp (And.intro @iu @r5) ?_
  refine⟨_,_,_,(ke @iu),rfl,trivial, ?_⟩
  exact⟨rfl,rfl⟩
 |true=>
  by_cases h0:S.fuse=0
  ·have e0: (S.fuse==0)=true:=beq_iff_eq.2 h0
   rw[if_pos ⟨rfl,h0⟩]
   first|with_reducible refine ks [] (And.intro @iu (And.intro @r5 (@e0))) ?_|refine kp (And.intro @iu (And.intro @r5 (@e0))) ?_
   refine⟨_,_,_,(ke @iu),rfl,trivial, ?_⟩
   exact⟨rfl,rfl⟩
  ·have e0: (S.fuse==0)=false:=beq_eq_false_iff_ne.2 h0
   have h1:=hf.2.2 r5
   rw[if_neg (fun h=>h0 h.2),if_pos rfl]
   first|with_reducible refine ks [] (And.intro @iu (And.intro @r5 (@e0))) ?_|refine kp (And.intro @iu (And.intro @r5 (@e0))) ?_
   refine⟨_,_,_,(ke @iu),rfl,trivial, ?_⟩
   exact⟨rfl,rfl⟩
def CT (G:DkG) (S:DiskL) (dir:List UInt8) (names:List (List UInt8)) (v:Value):Prop:=
 (dF S dir names≠0∧v= .tuple #[.pointer none,vi (dF S dir names:Nat)])∨(dF S dir names=0∧ ∃k,bv dir=some k∧v= .tuple #[vp (G.d k) 0,vi 0])
set_option linter.defProp false
def jA:=And.intro (And.intro (And.intro (@ay) (@ax)) (And.intro (@m7) (And.intro (@xe) (@yz)))) (And.intro (And.intro (@ze) (And.intro (@zX) (@ql))) (And.intro (@CR) (And.intro (@mO) (@mF))))
theorem sy (w:World) (G:DkG) (S:DiskL) (dir:List UInt8) (v:Value) (names:List (List UInt8)) (hD:DkW w G S) (hv:nz w v names) (hl:names.length<1000000) (hs: ∀s,s∈names→s.length<1099511627776):
  Rets Tryz.prog 80 #[vp G.bd 0,vs dir,v] w (fun v D=>CT G S dir names v∧D= []):=by
 obtain⟨X,hX,hP⟩:=hD
 have hd:=hX _ _ hP.disk
 obtain⟨om,kH,hM⟩:=hP.dirs
 have hb:=hX _ _ kH
 refine Rets.enterV Tryz.func80 rfl (rs:= [.tmp 6, .tmp 7]) Tryz.results80 Tryz.ntmps80 ?_
 refine kf ?_
 first|with_reducible refine ks [] (And.intro @jA @hd) ?_|refine kp (And.intro @jA @hd) ?_
 refine Ow.mapGetG (encK:=vs) (encV:=ag) (k:=dir) (z:=none) rfl rfl Tryz.underlying121 jJ zrPd rfl rfl hb hM ?_
 rw[FE]
 unfold CT dF
 cases hw:bv dir with
 |none=>
  rw[if_pos (.inl rfl)]
  have g3:ag none= .pointer none:=rfl
  refine ko (And.intro @jA @g3) ?_
  first|with_reducible refine ks [] @jA ?_|refine kp @jA ?_
  refine⟨_,(ke @jA),trivial, ?_⟩
  exact .inl ⟨by decide,rfl⟩
 |some k=>
  have hp: ∀q:Nat,ag (some q)=vp q 0:=fun _=>rfl
  refine ko (And.intro @jA @hp) ?_
  refine Ow.callFV rfl Tryz.call125 (fun w' aB=>Ws_ v names w' (hv.oldN aB trivial) hl hs) ?_
  cases gm:names.all dE with
  |false=>
   rw[if_pos (.inr rfl)]
   refine ko @jA ?_
   first|with_reducible refine ks [] @jA ?_|refine kp @jA ?_
   refine⟨_,(ke @jA),trivial, ?_⟩
   exact .inl ⟨by decide,rfl⟩
  |true=>
   rw[if_neg (by simp)]
   cases Fz:S.off with
   |true=>
    rw[if_pos rfl]
    refine ko @jA ?_
    first|with_reducible refine ks [] (And.intro @jA (And.intro @hd (@Fz))) ?_|refine kp (And.intro @jA (And.intro @hd (@Fz))) ?_
    refine⟨_,(ke @jA),trivial, ?_⟩
    exact .inl ⟨by decide,rfl⟩
   |false=>
    rw[if_neg (by simp)]
    refine ko @jA ?_
    first|with_reducible refine ks [] (And.intro @jA (And.intro @hd (@Fz))) ?_|refine kp (And.intro @jA (And.intro @hd (@Fz))) ?_
    refine⟨_,(ke @jA),trivial, ?_⟩
    exact .inr ⟨rfl,k,rfl,rfl⟩
end Go.Proofs
end
section
open Go Go.Proofs Go.Sx Go.StP
namespace Go.Proofs
set_option maxRecDepth 10000
set_option maxHeartbeats 400000
set_option linter.unusedSimpArgs false
theorem ns {w:World} {b:Nat} {s:List UInt8} {E:TypeId} (h:w.heap[b]? =some (.cells #[vs s] E (0,0))):nz w (vsl b 0 1 1) [s]:=
 SlV.sl (l:= [s]) h (fun k hk j hj=>by
  obtain rfl:k=0:=by simpa using hk
  obtain rfl:j=0:=by omega
  rfl) (Nat.le_refl _) (by simp)
theorem UY {w:World} {b:Nat} {s u:List UInt8} {E:TypeId} (h:w.heap[b]? =some (.cells #[vs s,vs u] E (0,0))):nz w (vsl b 0 2 2) [s,u]:=
 SlV.sl (l:= [s,u]) h (fun k hk j hj=>by
  obtain rfl:j=0:=by omega
  have:k=0∨k=1:=by simp at hk;omega
  rcases this with rfl|rfl<;>rfl) (Nat.le_refl _) (by simp)
theorem ND {S:DiskL} {dir:List UInt8} {names:List (List UInt8)} (h:dF S dir names=0):bv dir≠none∧names.all dE=true∧S.off=false:=by
 unfold dF at h
 split at h
 ·cases h
 ·split at h
  ·cases h
  ·rename_i h1 h2
   refine⟨fun e=>h1 (.inl e), ?_,by simpa using h2⟩
   cases e:names.all dE with
   |true=>rfl
   |false=>exact absurd (.inr e) h1
def eh (S:DiskL) (dir name:List UInt8):List UInt8×Nat:=
 if dF S dir [name]≠0 then([],dF S dir [name]) else match(bv dir).bind fun k=>aR (S.dir k).seen name with
  |none=>([],6)
  |some n=>((S.files.getD n dw).data,0)
theorem kP {n:Nat} (h:n≠0): ((n:Int) !=0)=true:=bne_iff_ne.2 (by omega)
set_option linter.defProp false
def ja:=And.intro (And.intro (And.intro (And.intro (@ay) (@ax)) (And.intro (@m7) (@nS))) (And.intro (And.intro (@nQ) (@nR)) (And.intro (@xa) (And.intro (@xd) (@mO))))) (And.intro (And.intro (And.intro (@mF) (@o6)) (And.intro (@nn) (@Sx.tup2_0))) (And.intro (And.intro (@Sx.tup2_1) (@t8)) (And.intro (@Sx.tup3_0) (And.intro (@Sx.tup3_1) (@Sx.tup3_2)))))
theorem Ys (w:World) (G:DkG) (S:DiskL) (dir name:List UInt8) (hD:DkW w G S) (hn:name.length<1099511627776):
  Rets Tryz.prog 23 #[vp G.bd 0,vs dir,vs name] w (fun v D=>v= .tuple #[vs (eh S dir name).1,vi ((eh S dir name).2:Nat)]∧D= []):=by
 have W3:=hD
 obtain⟨X,hX,hP⟩:=hD
 refine Rets.enterV Tryz.func23 rfl (rs:= [.tmp 6, .tmp 7]) Tryz.results23 Tryz.ntmps23 ?_
 refine kf ?_
 first|with_reducible refine ks [] @ja ?_|refine kp @ja ?_
 refine Ow.buildSlice (e:=9) #[vs name] rfl rfl (by kernel_rfl) fun b1 aQ aF=> ?_
 refine ko @ja ?_
 have eE:New w.heap.size [(b1,Obj.cells #[vs name] 9 (0,0))]:=⟨aF,trivial⟩
 refine Ow.callC rfl rfl Tryz.call80 (fun w' aB=>Rets.toX (sy w' G S dir (vsl b1 0 1 1) [name] (W3.old aB eE) (ns (aB.has _ _ List.mem_cons_self)) (by simp) (by simpa using hn))) (fun B2 v2 D2 bz dI eP be=> ?_)
 obtain⟨rfl,be⟩:=be
 rw[List.append_nil]
 unfold eh
 rcases be with⟨he,rfl⟩ | ⟨he,k,hk,rfl⟩
 ·rw[if_pos he]
  have e1:=kP he
  refine ko @ja ?_
  first|with_reducible refine ks [] (And.intro @ja @e1) ?_|refine kp (And.intro @ja @e1) ?_
  refine⟨_,(ke @ja),eE, ?_⟩
  rfl
 ·rw[if_neg (by rw[he];simp),hk]
  have aW:=(dH hk).1
  have fB:=hX _ _ (hP.dir k aW)
  obtain⟨os,ms,gY,fh,iB⟩:=hP.seen k aW
  have kK:=hX _ _ gY
  have js:=(Array.getElem?_eq_some_iff.1 fB).1
  have i9:=(Array.getElem?_eq_some_iff.1 kK).1
  have oW:aP w [(b1,Obj.cells #[vs name] 9 (0,0))] (G.d k)=some (cL (G.s k) (G.t k) (G.p k)):=by rw[lW (eE.not js)];exact fB
  have ly:aP w [(b1,Obj.cells #[vs name] 9 (0,0))] (G.s k)=some os:=by rw[lW (eE.not i9)];exact kK
  have e1: ((0:Int) !=0)=false:=rfl
  refine ko @ja ?_
  first|with_reducible refine ks [] (And.intro @ja (And.intro @e1 (And.intro @fB (@oW)))) ?_|refine kp (And.intro @ja (And.intro @e1 (And.intro @fB (@oW)))) ?_
  refine Ow.mapGetG (encK:=vs) (encV:=ag) (k:=name) (z:=none) rfl rfl Tryz.underlying127 jJ zrPf rfl rfl ly fh ?_
  rw[iB.get (hP.ok.seen k aW).nodup]
  show Ow _ _ _ _ _ _ _ _
  cases hf:aR (S.dir k).seen name with
  |none=>
   have lD: (some k).bind (fun k=>aR (S.dir k).seen name)=none:=hf
   rw[lD]
   have g3:ag none= .pointer none:=rfl
   refine ko (And.intro @ja @g3) ?_
   first|with_reducible refine ks [] @ja ?_|refine kp @ja ?_
   refine⟨_,(ke @ja),eE, ?_⟩
   rfl
  |some n=>
   have lD: (some k).bind (fun k=>aR (S.dir k).seen name)=some n:=hf
   rw[lD]
   have da:=hP.ok.seenN k aW _ (fp hf)
   have fv:=hX _ _ (hP.file n da)
   have iQ:=(Array.getElem?_eq_some_iff.1 fv).1
   have sV:aP w [(b1,Obj.cells #[vs name] 9 (0,0))] (G.fb.getD n 0)=some (cR (S.files.getD n dw)):=by rw[lW (eE.not iQ)];exact fv
   have hp: ∀q:Nat,ag (some q)=vp q 0:=fun _=>rfl
   refine ko (And.intro @ja @hp) ?_
   first|with_reducible refine ks [] (And.intro @ja (And.intro @fv (@sV))) ?_|refine kp (And.intro @ja (And.intro @fv (@sV))) ?_
   refine⟨_,(ke @ja),eE, ?_⟩
   rfl
end Go.Proofs
end
section
open Go Go.Proofs Go.Sx Go.StP
namespace Go.Proofs
set_option maxRecDepth 10000
set_option maxHeartbeats 400000
set_option linter.unusedSimpArgs false
def uDir (S:DiskL) (p:List UInt8×Option Nat):Nat:=match bv p.1 with|some k=>cH S (S.dir k).seen|none=>0
def mE (S:DiskL) (l:NmL) (p:List UInt8×Option Nat):Nat:=match aR l p.1 with|some n=>(S.files.getD n dw).data.length|none=>0
theorem RM (S:DiskL) (G:DkG): ((mv G).map (uDir S)).sum=cy S:=by
 unfold mv cy
 simp only[List.map_cons,List.map_nil,List.sum_cons,List.sum_nil]
 show cH S (S.dir 0).seen+ (cH S (S.dir 1).seen+ (cH S (S.dir 2).seen+0))=_
 omega
theorem QD (S:DiskL) {fb:List Nat} {l:NmL} {m:List (List UInt8×Option Nat)} (h:NmP fb l m) (hn: (l.map Prod.fst).Nodup): (m.map (mE S l)).sum=cH S l:=by
 rw[(h.map (mE S l)).sum_nat,List.map_map]
 unfold cH
 congr 1
 refine List.map_congr_left fun p hp=> ?_
 show mE S l (ptrN fb p)=_
 unfold mE ptrN
 rw[xv hn hp]
theorem AX {α:Type} (f:α→Nat) {a b m:List α} (h: (a++b).Perm m): (a.map f).sum≤ (m.map f).sum:=by
 rw[← (h.map f).sum_nat,List.map_append,List.sum_append]
 omega
theorem se {α β:Type} {encK:α→Value} {encV:β→Value} {o:Obj} {bm:Nat} {om:Obj} {m dn lf:List (α×β)} (h:ItG encK encV o bm om m dn lf): (dn++lf).Perm m:=by
 obtain⟨es,clock,ds,-,-,-,-,-,-,hp⟩:=h;exact hp
theorem z6 {G:DkG} {p:List UInt8×Option Nat} (h:p∈mv G): ∃k,k<3∧p=(eY k,some (G.d k)):=by
 unfold mv at h
 simp only[List.mem_cons,List.not_mem_nil,or_false] at h
 rcases h with rfl|rfl|rfl
 ·exact⟨0,by omega,rfl⟩
 ·exact⟨1,by omega,rfl⟩
 ·exact⟨2,by omega,rfl⟩
structure UsG where
 dn:List (List UInt8×Option Nat)
 lf:List (List UInt8×Option Nat)
 it:Obj
 DG:aA
set_option linter.defProp false
def fG:=And.intro (And.intro (And.intro (And.intro (@ay) (@ax)) (And.intro (@m7) (@nS))) (And.intro (And.intro (@nQ) (@nR)) (And.intro (@xa) (And.intro (@xd) (@ql))))) (And.intro (And.intro (And.intro (@mO) (@mF)) (And.intro (@o6) (And.intro (@nn) (@Sx.tup2_0)))) (And.intro (And.intro (@Sx.tup2_1) (@t8)) (And.intro (@Sx.tup3_0) (And.intro (@Sx.tup3_1) (@Sx.tup3_2)))))
theorem yP (w:World) (G:DkG) (S:DiskL) (hD:DkW w G S) (hb:cy S<4611686018427387904):Rets Tryz.prog 24 #[vp G.bd 0] w (fun v D=>v=vi (cy S:Nat)∧D= []):=by
 obtain⟨X,hX,hP⟩:=hD
 have hd:=hX _ _ hP.disk
 obtain⟨om,kH,hM⟩:=hP.dirs
 have DK:=hX _ _ kH
 have nI:=(Array.getElem?_eq_some_iff.1 DK).1
 have hU:=RM S G
 have old: ∀b o,w.heap[b]? =some o→ ∀Y,New w.heap.size Y→aP w Y b=some o:=fun b o hb Y hY=>by
  rw[lW (hY.not (Array.getElem?_eq_some_iff.1 hb).1)];exact hb
 refine Rets.enterV Tryz.func24 rfl (rs:= [.tmp 2]) Tryz.results24 Tryz.ntmps24 ?_
 refine kf ?_
 first|with_reducible refine ks [] (And.intro @fG @hd) ?_|refine kp (And.intro @fG @hd) ?_
 refine Ow.rangeMapG (encK:=vs) (encV:=ag) rfl rfl Tryz.underlying121 rfl DK hM fun bi oi DH EF hI=> ?_
 rw[List.nil_append]
 refine ko @fG ?_
 first|with_reducible refine ks [] @fG ?_|refine kp @fG ?_
 refine Cw.loopG (G:=UsG) [15,16,17,18,5,19,20,21,22,23,24,25,26,27,7,28,29,30,31,32,33,34,3] (fun g=> [(3,vi ((g.dn.map (uDir S)).sum:Nat))]) (fun g=>(bi,g.it)::g.DG) (fun g=>ItG vs ag g.it G.bm om (mv G) g.dn g.lf∧New w.heap.size g.DG) (fun g=>g.lf.length) ⟨[],mv G,oi,[]⟩ rfl rfl ?_ ?_
 ·exact⟨hI,trivial⟩
 intro g j hg
 refine kv ?_
 clear hI
 obtain⟨dn,lf,it,DG⟩:=g
 simp only at hg ⊢
 obtain⟨hI,hN⟩:=hg
 have qv: ∀x,New w.heap.size ((bi,x)::DG):=fun x=>⟨EF,hN⟩
 first|with_reducible refine ks [] @fG ?_|refine kp @fG ?_
 refine Ow.nextMapG rfl rfl rfl (ii _ _ _) (old _ _ DK _ (qv it)) hI (fun kF=> ?_) (fun p it' lf' lG l6=> ?_)
 ·subst kF
  have hp:=se hI
  rw[List.append_nil] at hp
  rw[(hp.map (uDir S)).sum_nat,hU]
  refine ko @fG ?_
  first|with_reducible refine ks [] @fG ?_|refine kp @fG ?_
  refine⟨_,(ke @fG),qv it, ?_⟩
  rfl
 ·refine kn ?_
  refine ko @fG ?_
  first|with_reducible refine ks [] @fG ?_|refine kp @fG ?_
  refine Ow.entryMapG (encK:=vs) (encV:=ag) rfl rfl rfl (pq _ _ _ _) (old _ _ DK _ (qv it')) l6 ?_
  have hp:=se l6
  obtain⟨k,aW,rfl⟩:=z6 (hp.mem_iff.1 (List.mem_append_left _ (List.mem_append_right _ List.mem_cons_self)))
  have dN:=AX (uDir S) hp
  rw[hU,List.map_append,List.sum_append] at dN
  have xH: ([(eY k,some (G.d k))].map (uDir S)).sum=cH S (S.dir k).seen:=by
   show uDir S (eY k,some (G.d k))+0=_
   unfold uDir
   simp only[pp aW,Nat.add_zero]
  rw[xH] at dN
  have hac: ((dn++ [(eY k,some (G.d k))]).map (uDir S)).sum=(dn.map (uDir S)).sum+cH S (S.dir k).seen:=by rw[List.map_append,List.sum_append,xH]
  generalize (dn.map (uDir S)).sum=A at*
  have fB:=hX _ _ (hP.dir k aW)
  obtain⟨os,ms,gY,fh,iB⟩:=hP.seen k aW
  have kK:=hX _ _ gY
  have hs:=QD S iB (hP.ok.seen k aW).nodup
  have WS:=old _ _ fB _ (qv it')
  have r4:=old _ _ fB _ hN
  have rL: ∀q:Nat,ag (some q)=vp q 0:=fun _=>rfl
  refine ko (And.intro @fG (And.intro @rL (And.intro @WS (@r4)))) ?_
  refine Ow.rangeMapG (encK:=vs) (encV:=ag) rfl rfl Tryz.underlying127 rfl (old _ _ kK _ (qv it')) fh fun bj oj hbj GF hJ=> ?_
  refine Ow.permL (M:=(bj,oj):: (bi,it')::DG) (by classical exact List.perm_iff_count.2 fun a=>by simp only[List.count_append,List.count_cons,List.count_nil]<;>omega) ?_
  refine ko @fG ?_
  first|with_reducible refine ks [] @fG ?_|refine kp @fG ?_
  refine Cw.loopG (G:=UsG) [24,25,26,27,7,28,29,30,31,32,33,34,3] (fun p=> [(3,vi ((A+ (p.dn.map (mE S (S.dir k).seen)).sum:Nat):Int))]) (fun p=>(bj,p.it):: (bi,it')::DG) (fun p=>ItG vs ag p.it (G.s k) os ms p.dn p.lf) (fun p=>p.lf.length) ⟨[],ms,oj,[]⟩ rfl rfl ?_ ?_
  ·exact hJ
  intro p jp hp
  refine kv ?_
  clear hJ
  obtain⟨dn2,lf2,jt,DX⟩:=p
  simp only at hp ⊢
  first|with_reducible refine ks [] @fG ?_|refine kp @fG ?_
  refine Ow.nextMapG rfl rfl rfl (ii _ _ _) (old _ _ kK _ ⟨GF,qv it'⟩) hp (fun kF=> ?_) (fun p jt' lf2' hl2' l7=> ?_)
  ·subst kF
   have hq:=se hp
   rw[List.append_nil] at hq
   rw[(hq.map (mE S (S.dir k).seen)).sum_nat,hs]
   refine Ow.permL (M:=(bi,it'):: (bj,jt)::DG) (by classical exact List.perm_iff_count.2 fun a=>by simp only[List.count_append,List.count_cons,List.count_nil]<;>omega) ?_
   refine ko @fG ?_
   first|with_reducible refine ks [] @fG ?_|refine kp @fG ?_
   exact Again.mk ⟨dn++ [(eY k,some (G.d k))],lf',it',(bj,jt)::DG⟩ (by show lf'.length<lf.length;omega) ⟨l6,GF,hN⟩ rfl (by simp only[hac];rfl)
  ·refine kn ?_
   refine ko @fG ?_
   first|with_reducible refine ks [] @fG ?_|refine kp @fG ?_
   have hq:=se l7
   have oJ:=AX (mE S (S.dir k).seen) hq
   rw[hs] at oJ
   have sU:p∈ (S.dir k).seen.map (ptrN G.fb):=iB.mem_iff.1 (hq.mem_iff.1 (List.mem_append_left _ (List.mem_append_right _ List.mem_cons_self)))
   obtain⟨⟨s,n⟩,fi,rfl⟩:=List.mem_map.1 sU
   have huf: ([ptrN G.fb (s,n)].map (mE S (S.dir k).seen)).sum=(S.files.getD n dw).data.length:=by
    show mE S (S.dir k).seen (s,some (G.fb.getD n 0))+0=_
    unfold mE
    simp only[xv (hP.ok.seen k aW).nodup fi,Nat.add_zero]
   rw[List.map_append,List.sum_append,huf] at oJ
   have vD: ((dn2++ [ptrN G.fb (s,n)]).map (mE S (S.dir k).seen)).sum=(dn2.map (mE S (S.dir k).seen)).sum+ (S.files.getD n dw).data.length:=by rw[List.map_append,List.sum_append,huf]
   have fv:=hX _ _ (hP.file n (hP.ok.seenN k aW _ fi))
   have hf1:=old _ _ fv _ (show New w.heap.size ((bj,jt'):: (bi,it')::DG) from⟨GF,qv it'⟩)
   have hf2:=old _ _ fv _ (qv it')
   have hf3:=old _ _ fv _ hN
   generalize (dn2.map (mE S (S.dir k).seen)).sum=B at*
   refine Ow.entryMapG (encK:=vs) (encV:=ag) rfl rfl rfl (pq _ _ _ _) (old _ _ kK _ ⟨GF,qv it'⟩) l7 ?_
   unfold ptrN at l7 vD ⊢
   simp only at l7 vD ⊢
   generalize G.fb.getD n 0=fbn at*
   generalize S.files.getD n dw=fl at*
   refine ko (And.intro @fG (And.intro @rL (And.intro @hf1 (And.intro @hf2 (@hf3))))) ?_
   first|with_reducible refine ks [] @fG ?_|refine kp @fG ?_
   exact Again.mk ⟨dn2++ [(s,some fbn)],lf2',jt',DX⟩ (by show lf2'.length<lf2.length;omega) l7 rfl (by simp only[vD,←Nat.add_assoc,Int.natCast_add];rfl)
end Go.Proofs
end
section
open Go Go.Proofs Go.Sx Go.StP
namespace Go.Proofs
set_option maxRecDepth 10000
set_option maxHeartbeats 400000
set_option linter.unusedSimpArgs false
def atD (S:DiskL) (dir name:List UInt8):Option Nat:=(bv dir).bind fun k=>aR (S.dir k).seen name
def aH (S:DiskL) (n:Nat):FileL:=S.files.getD n dw
def ez (S:DiskL) (n:Nat) (f:FileL):DiskL:={S with files:=S.files.set n f}
def ct (S:DiskL) (dir name:List UInt8):DiskL×Nat:=
 if dF S dir [name]≠0 then(S,dF S dir [name]) else match atD S dir name with
  |none=>(S,6)
  |some n=>if(aJ S).2≠0 then aJ S else(ez (aJ S).1 n ⟨(aH S n).data,(aH S n).data.length⟩,0)
theorem j9 (S:DiskL): (aJ S).1.dir=S.dir∧(aJ S).1.files=S.files∧(aJ S).1.max=S.max:=by
 unfold aJ
 split
 ·exact⟨rfl,rfl,rfl⟩
 ·split
  ·exact⟨rfl,rfl,rfl⟩
  ·exact⟨rfl,rfl,rfl⟩
theorem mr {S:DiskL} (h:DkOk S):DkOk (aJ S).1:=by
 obtain⟨h1,h2,h3⟩:=j9 S
 refine⟨by rw[h1];exact h.seen,by rw[h1];exact h.stl,by rw[h1,h2];exact h.seenN,by rw[h1,h2];exact h.stlN,by rw[h1,h2];exact h.pendN,by rw[h2];exact h.file, ?_,by rw[h3];exact h.max⟩
 have hf:=h.fuse
 unfold aJ
 split
 ·exact hf
 ·split
  ·rename_i h4 h5
   have:=hf.2.2 h5
   have h6:S.fuse≠0:=fun e=>h4 ⟨h5,e⟩
   exact⟨by show _≤S.fuse - 1;omega,by show S.fuse - 1<_;omega,fun _=>by show 0≤S.fuse - 1;omega⟩
  ·exact hf
theorem wt {S:DiskL} (h:DkOk S) {n:Nat} {f:FileL} (hf:f.data.length≤1048576∧f.stl≤f.data.length):DkOk (ez S n f):=by
 refine⟨h.seen,h.stl,fun k hk p hp=>by show p.2< (S.files.set n f).length;rw[List.length_set];exact h.seenN k hk p hp,fun k hk p hp=>by show p.2< (S.files.set n f).length;rw[List.length_set];exact h.stlN k hk p hp,fun k hk c hc h0=>by show c.n< (S.files.set n f).length;rw[List.length_set];exact h.pendN k hk c hc h0,fun g hg=> ?_,h.fuse,h.max⟩
 rcases List.mem_or_eq_of_mem_set hg with hg|rfl
 ·exact h.file g hg
 ·exact hf
theorem we {S:DiskL} (h:DkOk S) {n:Nat} (hn:n<S.files.length): (aH S n).data.length≤1048576∧(aH S n).stl≤ (aH S n).data.length:=by
 unfold aH
 rw[List.getD_eq_getElem?_getD,List.getElem?_eq_getElem hn]
 exact h.file _ (List.getElem_mem hn)
set_option linter.defProp false
def g8:=And.intro (And.intro (And.intro (And.intro (@ay) (@ax)) (And.intro (@m7) (@xe))) (And.intro (And.intro (@nS) (@nQ)) (And.intro (@nR) (@xa)))) (And.intro (And.intro (And.intro (@xd) (@Gj)) (And.intro (@H6) (@mO))) (And.intro (And.intro (@mF) (@o6)) (And.intro (@nn) (And.intro (@Sx.tup2_0) (@Sx.tup2_1)))))
theorem Yy (X:aA) (G:DkG) (S:DiskL) (dir name:List UInt8) (w:World) (hX: ∀p,p∈X→w.heap[p.1]? =some p.2) (hn: (keys X).Nodup) (hP:DkP X G S) (kG:name.length<1099511627776):
  Rets Tryz.prog 20 #[vp G.bd 0,vs dir,vs name] w (XS w X (fun v D=>v=vi ((ct S dir name).2:Nat)∧DkP D G (ct S dir name).1)):=by
 refine Rets.enterX Tryz.func20 rfl (rs:= [.tmp 6]) Tryz.results20 Tryz.ntmps20 hX hn ?_
 refine kf ?_
 first|with_reducible refine ks [] @g8 ?_|refine kp @g8 ?_
 refine Ow.buildSlice (e:=9) #[vs name] rfl rfl (by kernel_rfl) fun b1 aQ aF=> ?_
 have aa:=hP.mono (X':=X++ [(b1,Obj.cells #[vs name] 9 (0,0))]) fun b o h=>bL h
 have cm:=(Ext.refl w X).app (o:=Obj.cells #[vs name] 9 (0,0)) aF
 have fV: (b1,Obj.cells #[vs name] 9 (0,0))∈X++ [(b1,Obj.cells #[vs name] 9 (0,0))]:=by simp
 generalize X++ [(b1,Obj.cells #[vs name] 9 (0,0))]=L1 at*
 refine ko @g8 ?_
 refine Ow.callC rfl rfl Tryz.call80 (fun w' aB=>Rets.toX (sy w' G S dir (vsl b1 0 1 1) [name] (aa.world aB) (ns (aB.has _ _ fV)) (by simp) (by simpa using kG))) (fun B2 v2 D2 bz dI eP be=> ?_)
 obtain⟨rfl,be⟩:=be
 rw[List.append_nil]
 clear fV bz eP
 unfold ct atD
 rcases be with⟨he,rfl⟩ | ⟨he,k,hk,rfl⟩
 ·rw[if_pos he]
  have e1:=kP he
  refine ko @g8 ?_
  first|with_reducible refine ks [] (And.intro @g8 @e1) ?_|refine kp (And.intro @g8 @e1) ?_
  refine⟨_,(ke @g8), ?_⟩
  exact⟨cm,rfl,aa⟩
 ·rw[if_neg (by rw[he];simp),hk]
  have aW:=(dH hk).1
  have fB:=aY (w0:=w) (aa.dir k aW)
  obtain⟨os,ms,gY,fh,iB⟩:=aa.seen k aW
  have kK:=aY (w0:=w) gY
  have e1: ((0:Int) !=0)=false:=rfl
  refine ko @g8 ?_
  first|with_reducible refine ks [] (And.intro @g8 (And.intro @e1 (@fB))) ?_|refine kp (And.intro @g8 (And.intro @e1 (@fB))) ?_
  refine Ow.mapGetG (encK:=vs) (encV:=ag) (k:=name) (z:=none) rfl rfl Tryz.underlying127 jJ zrPf rfl rfl kK fh ?_
  rw[iB.get (hP.ok.seen k aW).nodup]
  show Ow _ _ _ _ _ _ _ _
  cases hf:aR (S.dir k).seen name with
  |none=>
   have lD: (some k).bind (fun k=>aR (S.dir k).seen name)=none:=hf
   rw[lD]
   have g3:ag none= .pointer none:=rfl
   refine ko (And.intro @g8 @g3) ?_
   first|with_reducible refine ks [] @g8 ?_|refine kp @g8 ?_
   refine⟨_,(ke @g8), ?_⟩
   exact⟨cm,rfl,aa⟩
  |some n=>
   have lD: (some k).bind (fun k=>aR (S.dir k).seen name)=some n:=hf
   rw[lD]
   have da:=hP.ok.seenN k aW _ (fp hf)
   have hp: ∀q:Nat,ag (some q)=vp q 0:=fun _=>rfl
   have sG:G.bd∈keys L1:=cJ aa.disk
   refine ko (And.intro @g8 @hp) ?_
   first|with_reducible refine ks [] @g8 ?_|refine kp @g8 ?_
   refine Ow.callM rfl rfl Tryz.call81 sG (fun w' aB=>EN G.bd G.bm S w' hP.ok.fuse (aB.has _ _ (cO aa.disk))) ?_
   obtain⟨aQ,aZ,ed⟩:=j9 S
   have co:=aa.setDisk (aJ S).1 aQ aZ (mr hP.ok)
   have cP:=cm.setB (b:=G.bd) (o:=bI G.bm (aJ S).1)
   generalize setB L1 G.bd (bI G.bm (aJ S).1)=L2 at*
   by_cases fc: (aJ S).2=0
   ·have bl:=co.file n (by rw[aZ];exact da)
    have bY:=aY (w0:=w) bl
    have e2: (((aJ S).2:Int) !=0)=false:=by rw[fc];rfl
    rw[if_neg (by rw[fc];simp)]
    have jQ:=we hP.ok da
    have nD:=co.setFile (n:=n) (by rw[aZ];exact da) ⟨(aH S n).data,(aH S n).data.length⟩ (wt (mr hP.ok) ⟨jQ.1,Nat.le_refl _⟩)
    have eQ: (aJ S).1.files.getD n dw=aH S n:=by rw[aZ];rfl
    rw[eQ] at bl bY
    refine ko (And.intro @g8 @e2) ?_
    first|with_reducible refine ks [] (And.intro @g8 (And.intro @bY (@bl))) ?_|refine kp (And.intro @g8 (And.intro @bY (@bl))) ?_
    refine⟨_,(ke @g8), ?_⟩
    exact⟨cP.setB,rfl,nD⟩
   ·have e2:=kP fc
    rw[if_pos fc]
    refine ko (And.intro @g8 @e2) ?_
    first|with_reducible refine ks [] @g8 ?_|refine kp @g8 ?_
    refine⟨_,(ke @g8), ?_⟩
    exact⟨cP,rfl,co⟩
end Go.Proofs
end
section
open Go Go.Proofs Go.Sx Go.StP
namespace Go.Proofs
set_option maxRecDepth 10000
set_option maxHeartbeats 400000
set_option linter.unusedSimpArgs false
def kY (S:DiskL) (n:Nat) (s:List UInt8):Bool:=decide ((1048576:Int) - ((aH S n).data.length:Int)< (s.length:Int)) ||decide (S.max< (cy S:Int)) ||decide (S.max - (cy S:Int)< (s.length:Int))
def gf (S:DiskL) (dir name s:List UInt8):DiskL×Nat:=
 if dF S dir [name]≠0 then(S,dF S dir [name]) else match atD S dir name with
  |none=>(S,6)
  |some n=>if kY S n s=true then(S,8) else if(aJ S).2≠0 then aJ S else(ez (aJ S).1 n ⟨(aH S n).data++s,(aH S n).stl⟩,0)
set_option linter.defProp false
def cz:=And.intro (And.intro (And.intro (And.intro (@ay) (@ax)) (And.intro (@m7) (@xe))) (And.intro (And.intro (@nS) (@nQ)) (And.intro (@nR) (@xa)))) (And.intro (And.intro (And.intro (@xd) (@Gj)) (And.intro (@H6) (@mO))) (And.intro (And.intro (@mF) (@o6)) (And.intro (@nn) (And.intro (@Sx.tup2_0) (@Sx.tup2_1)))))
theorem If (X:aA) (G:DkG) (S:DiskL) (dir name s:List UInt8) (w:World) (hX: ∀p,p∈X→w.heap[p.1]? =some p.2) (hn: (keys X).Nodup) (hP:DkP X G S) (kG:name.length<1099511627776) (cN:s.length<1099511627776) (hu:cy S<4611686018427387904):
  Rets Tryz.prog 73 #[vp G.bd 0,vs dir,vs name,vs s] w (XS w X (fun v D=>v=vi ((gf S dir name s).2:Nat)∧DkP D G (gf S dir name s).1)):=by
 refine Rets.enterX Tryz.func73 rfl (rs:= [.tmp 8]) Tryz.results73 Tryz.ntmps73 hX hn ?_
 refine kf ?_
 first|with_reducible refine ks [] @cz ?_|refine kp @cz ?_
 refine Ow.buildSlice (e:=9) #[vs name] rfl rfl (by kernel_rfl) fun b1 aQ aF=> ?_
 have aa:=hP.mono (X':=X++ [(b1,Obj.cells #[vs name] 9 (0,0))]) fun b o h=>bL h
 have cm:=(Ext.refl w X).app (o:=Obj.cells #[vs name] 9 (0,0)) aF
 have fV: (b1,Obj.cells #[vs name] 9 (0,0))∈X++ [(b1,Obj.cells #[vs name] 9 (0,0))]:=by simp
 generalize X++ [(b1,Obj.cells #[vs name] 9 (0,0))]=L1 at*
 refine ko @cz ?_
 refine Ow.callC rfl rfl Tryz.call80 (fun w' aB=>Rets.toX (sy w' G S dir (vsl b1 0 1 1) [name] (aa.world aB) (ns (aB.has _ _ fV)) (by simp) (by simpa using kG))) (fun B2 v2 D2 bz dI eP be=> ?_)
 obtain⟨rfl,be⟩:=be
 rw[List.append_nil]
 clear fV bz eP
 unfold gf atD
 rcases be with⟨he,rfl⟩ | ⟨he,k,hk,rfl⟩
 ·rw[if_pos he]
  have e1:=kP he
  refine ko @cz ?_
  first|with_reducible refine ks [] (And.intro @cz @e1) ?_|refine kp (And.intro @cz @e1) ?_
  refine⟨_,(ke @cz), ?_⟩
  exact⟨cm,rfl,aa⟩
 ·rw[if_neg (by rw[he];simp),hk]
  have aW:=(dH hk).1
  have fB:=aY (w0:=w) (aa.dir k aW)
  obtain⟨os,ms,gY,fh,iB⟩:=aa.seen k aW
  have kK:=aY (w0:=w) gY
  have e1: ((0:Int) !=0)=false:=rfl
  refine ko @cz ?_
  first|with_reducible refine ks [] (And.intro @cz (And.intro @e1 (@fB))) ?_|refine kp (And.intro @cz (And.intro @e1 (@fB))) ?_
  refine Ow.mapGetG (encK:=vs) (encV:=ag) (k:=name) (z:=none) rfl rfl Tryz.underlying127 jJ zrPf rfl rfl kK fh ?_
  rw[iB.get (hP.ok.seen k aW).nodup]
  show Ow _ _ _ _ _ _ _ _
  cases hf:aR (S.dir k).seen name with
  |none=>
   have lD: (some k).bind (fun k=>aR (S.dir k).seen name)=none:=hf
   rw[lD]
   have g3:ag none= .pointer none:=rfl
   refine ko (And.intro @cz @g3) ?_
   first|with_reducible refine ks [] @cz ?_|refine kp @cz ?_
   refine⟨_,(ke @cz), ?_⟩
   exact⟨cm,rfl,aa⟩
  |some n=>
   have lD: (some k).bind (fun k=>aR (S.dir k).seen name)=some n:=hf
   rw[lD]
   have da:n<S.files.length:=hP.ok.seenN k aW _ (fp hf)
   have jQ:=we hP.ok da
   have hp: ∀q:Nat,ag (some q)=vp q 0:=fun _=>rfl
   have sG:G.bd∈keys L1:=cJ aa.disk
   have G8:=aY (w0:=w) (aa.file n da)
   have nL:=aY (w0:=w) aa.disk
   have Dv:aP w L1 (G.fb.getD n 0)=some (cR (aH S n)):=G8
   have hmx:=hP.ok.max
   refine ko (And.intro @cz @hp) ?_
   first|with_reducible refine ks [] @cz ?_|refine kp @cz ?_
   refine Cw.regionS [G.fb.getD n 0,G.bd] [0,1,2,3,4,5,6,7,8,9,10,12,13,14,15,11,16,17,18,19,20,21,22,23,25,24,26,27,28,29,30] [] (by kernel_rfl) (by kernel_rfl) (by kernel_rfl) ?_
   simp only[ap, ↓ao, ↓ac, ↓aj, ↓ai,ad]
   cases h1:decide ((1048576:Int) - ((aH S n).data.length:Int)< (s.length:Int)) with
   |true=>
    refine kq (And.intro @cz (And.intro @Dv (And.intro @nL (@h1)))) ?_
    have hF:kY S n s=true:=by unfold kY;rw[h1];simp
    rw[if_pos hF]
    try with_reducible refine Ow.nil ?_
    first|with_reducible refine ks [] @cz ?_|refine kp @cz ?_
    refine⟨_,(ke @cz), ?_⟩
    exact⟨cm,rfl,aa⟩
   |false=>
    refine kq (And.intro @cz (And.intro @Dv (And.intro @nL (@h1)))) ?_
    refine Ow.soft rfl rfl rfl ?_
    refine Ow.callFV rfl Tryz.call24 (fun w' aB=>yP w' G S (aa.world aB) hu) ?_
    with_reducible refine Ow.nil ?_
    refine⟨by intro b hb;simp only[List.mem_cons,List.not_mem_nil,or_false] at hb;(try subst hb);rfl, ?_⟩
    cases h2:decide (S.max< (cy S:Int)) with
    |true=>
     refine kq (And.intro @cz (And.intro @nL (@h2))) ?_
     have hF:kY S n s=true:=by unfold kY;rw[h2];simp
     rw[if_pos hF]
     try with_reducible refine Ow.nil ?_
     first|with_reducible refine ks [] @cz ?_|refine kp @cz ?_
     refine⟨_,(ke @cz), ?_⟩
     exact⟨cm,rfl,aa⟩
    |false=>
     have Vs:=of_decide_eq_false h2
     refine kq (And.intro @cz (And.intro @nL (@h2))) ?_
     refine Ow.soft rfl rfl rfl ?_
     refine Ow.callFV rfl Tryz.call24 (fun w' aB=>yP w' G S (aa.world aB) hu) ?_
     with_reducible refine Ow.nil ?_
     refine⟨by intro b hb;simp only[List.mem_cons,List.not_mem_nil,or_false] at hb;(try subst hb);rfl, ?_⟩
     cases h3:decide (S.max - (cy S:Int)< (s.length:Int)) with
     |true=>
      refine kq (And.intro @cz (And.intro @nL (@h3))) ?_
      have hF:kY S n s=true:=by unfold kY;rw[h3];simp
      rw[if_pos hF]
      try with_reducible refine Ow.nil ?_
      first|with_reducible refine ks [] @cz ?_|refine kp @cz ?_
      refine⟨_,(ke @cz), ?_⟩
      exact⟨cm,rfl,aa⟩
     |false=>
      have hF:kY S n s=false:=by unfold kY;rw[h1,h2,h3];rfl
      rw[if_neg (by rw[hF];simp)]
      have wu:=of_decide_eq_false h1
      refine kq (And.intro @cz (And.intro @nL (@h3))) ?_
      try with_reducible refine Ow.nil ?_
      first|with_reducible refine ks [] @cz ?_|refine kp @cz ?_
      refine Ow.callM rfl rfl Tryz.call81 sG (fun w' aB=>EN G.bd G.bm S w' hP.ok.fuse (aB.has _ _ (cO aa.disk))) ?_
      obtain⟨aQ,aZ,ed⟩:=j9 S
      have co:=aa.setDisk (aJ S).1 aQ aZ (mr hP.ok)
      have cP:=cm.setB (b:=G.bd) (o:=bI G.bm (aJ S).1)
      generalize setB L1 G.bd (bI G.bm (aJ S).1)=L2 at*
      by_cases fc: (aJ S).2=0
      ·have bl:=co.file n (by rw[aZ];exact da)
       have bY:=aY (w0:=w) bl
       have e2: (((aJ S).2:Int) !=0)=false:=by rw[fc];rfl
       rw[if_neg (by rw[fc];simp)]
       have nD:=co.setFile (n:=n) (by rw[aZ];exact da) ⟨(aH S n).data++s,(aH S n).stl⟩ (wt (mr hP.ok) ⟨by simp only[List.length_append];omega,by simp only[List.length_append];omega⟩)
       have eQ: (aJ S).1.files.getD n dw=aH S n:=by rw[aZ];rfl
       rw[eQ] at bl bY
       refine ko (And.intro @cz @e2) ?_
       first|with_reducible refine ks [] (And.intro @cz (And.intro @bY (@bl))) ?_|refine kp (And.intro @cz (And.intro @bY (@bl))) ?_
       refine⟨_,(ke @cz), ?_⟩
       exact⟨cP.setB,rfl,nD⟩
      ·have e2:=kP fc
       rw[if_pos fc]
       refine ko (And.intro @cz @e2) ?_
       first|with_reducible refine ks [] @cz ?_|refine kp @cz ?_
       refine⟨_,(ke @cz), ?_⟩
       exact⟨cP,rfl,co⟩
end Go.Proofs
end
section
open Go Go.Proofs Go.Sx Go.StP
namespace Go.Proofs
set_option maxRecDepth 10000
set_option maxHeartbeats 400000
set_option linter.unusedSimpArgs false
structure Only (X D:aA) (bs:Nat) (o:Obj):Prop where
 keys:Sx.keys D=Sx.keys X
 at_:Sx.look D bs=some o
 rest: ∀b,b≠bs→Sx.look D b=Sx.look X b
theorem Only.set {X:aA} {bs:Nat} {o o':Obj} (h:Sx.look X bs=some o):Only X (setB X bs o') bs o':=⟨pg _ _ _,jK h,fun _ hb=>eO (Ne.symm hb)⟩
theorem Only.trans {X D D':aA} {bs:Nat} {o o':Obj} (h:Only X D bs o) (h':Only D D' bs o'):Only X D' bs o':=⟨h'.keys.trans h.keys,h'.at_,fun b hb=>(h'.rest b hb).trans (h.rest b hb)⟩
theorem zg (s:List UInt8) (n:Nat):aI (some (false,n)) (some (dS s)) 0=some (vs s):=(rfl)
theorem Pi (b:Nat) (n:Nat):aI (some (false,n)) (some (iL b)) 0=some (vp b 0):=(rfl)
set_option linter.defProp false
def kD:=And.intro (And.intro (@ay) (@ax)) (And.intro (@zg) (@Pi))
theorem IT (X:aA) (b1 b2 bs fbn:Nat) (a:List UInt8) (o:Obj) (m:List (List UInt8×Option Nat)) (w:World) (hX: ∀p,p∈X→w.heap[p.1]? =some p.2) (hn: (keys X).Nodup)
  (h1:Sx.look X b1=some (iL fbn)) (h2:Sx.look X b2=some (dS a)) (hs:Sx.look X bs=some o) (hm:eF vs ag o m):
  Rets Tryz.prog 159 #[vm bs,vp b1 0,vp b2 0] w (XS w X (fun v D=>v=bu []∧ ∃o',Only X D bs o'∧eF vs ag o' (updG a (some fbn) m))):=by
 have r1:=aY (w0:=w) h1
 have r2:=aY (w0:=w) h2
 refine Rets.enterX Tryz.func159 rfl (rs:= []) Tryz.results159 Tryz.ntmps159 hX hn ?_
 refine kf ?_
 first|with_reducible refine ks [] (And.intro @kD (And.intro @r1 (@r2))) ?_|refine kp (And.intro @kD (And.intro @r1 (@r2))) ?_
 refine Ow.mapUpdateG (encK:=vs) (encV:=ag) (k:=a) (v:=some fbn) rfl rfl Tryz.underlying127 jJ rfl rfl rfl hs hm (fun o' iA=> ?_)
 refine ko @kD ?_
 refine⟨_,(ke @kD), ?_⟩
 exact⟨(Ext.refl w X).setB,rfl,o',Only.set hs,iA⟩
theorem I4 (X:aA) (b1 bs:Nat) (a:List UInt8) (o:Obj) (m:List (List UInt8×Option Nat)) (w:World) (hX: ∀p,p∈X→w.heap[p.1]? =some p.2) (hn: (keys X).Nodup)
  (h1:Sx.look X b1=some (dS a)) (hs:Sx.look X bs=some o) (hm:eF vs ag o m):
  Rets Tryz.prog 161 #[vm bs,vp b1 0] w (XS w X (fun v D=>v=bu []∧ ∃o',Only X D bs o'∧eF vs ag o' (delG a m))):=by
 have r1:=aY (w0:=w) h1
 refine Rets.enterX Tryz.func161 rfl (rs:= []) Tryz.results161 Tryz.ntmps161 hX hn ?_
 refine kf ?_
 first|with_reducible refine ks [] (And.intro @kD @r1) ?_|refine kp (And.intro @kD @r1) ?_
 refine Ow.mapDeleteG (encK:=vs) (encV:=ag) (k:=a) rfl rfl Tryz.underlying127 jJ rfl rfl hs hm (fun o' iA=> ?_)
 refine ko @kD ?_
 refine⟨_,(ke @kD), ?_⟩
 exact⟨(Ext.refl w X).setB,rfl,o',Only.set hs,iA⟩
theorem K4 (X:aA) (b1 b2 bs:Nat) (a b:List UInt8) (o:Obj) (m:List (List UInt8×Option Nat)) (w:World) (hX: ∀p,p∈X→w.heap[p.1]? =some p.2) (hn: (keys X).Nodup)
  (h1:Sx.look X b1=some (dS a)) (h2:Sx.look X b2=some (dS b)) (hs:Sx.look X bs=some o) (hm:eF vs ag o m):
  Rets Tryz.prog 121 #[vm bs,vp b1 0,vp b2 0] w (XS w X (fun v D=>v=bu []∧ ∃o',Only X D bs o'∧eF vs ag o' (delG a (updG b (getG a none m) m)))):=by
 have r1:=aY (w0:=w) h1
 have r2:=aY (w0:=w) h2
 refine Rets.enterX Tryz.func121 rfl (rs:= []) Tryz.results121 Tryz.ntmps121 hX hn ?_
 refine kf ?_
 first|with_reducible refine ks [] (And.intro @kD (And.intro @r1 (@r2))) ?_|refine kp (And.intro @kD (And.intro @r1 (@r2))) ?_
 refine Ow.mapGetG (encK:=vs) (encV:=ag) (k:=a) (z:=none) rfl rfl Tryz.underlying127 jJ zrPf rfl rfl (aY hs) hm ?_
 refine ko @kD ?_
 refine Ow.mapUpdateG (encK:=vs) (encV:=ag) (k:=b) (v:=getG a none m) rfl rfl Tryz.underlying127 jJ rfl rfl rfl hs hm (fun o1 fV=> ?_)
 have nK:Only X (setB X bs o1) bs o1:=Only.set hs
 have aO:b1≠bs:=by
  rintro rfl
  rw[hs] at h1;cases h1
  obtain⟨es,c,h,-⟩:=hm;cases h
 have r3:=aY (w0:=w) ((nK.rest b1 aO).trans h1)
 have hE:=(Ext.refl w X).setB (b:=bs) (o:=o1)
 generalize setB X bs o1=L1 at*
 refine ko @kD ?_
 first|with_reducible refine ks [] (And.intro @kD @r3) ?_|refine kp (And.intro @kD @r3) ?_
 refine Ow.mapDeleteG (encK:=vs) (encV:=ag) (k:=a) rfl rfl Tryz.underlying127 jJ rfl rfl nK.at_ fV (fun o' iA=> ?_)
 refine ko @kD ?_
 refine⟨_,(ke @kD), ?_⟩
 exact⟨hE.setB,rfl,o',nK.trans (Only.set nK.at_),iA⟩
end Go.Proofs
end
section
open Go Go.Proofs Go.Sx Go.StP
namespace Go.Proofs
set_option maxRecDepth 10000
set_option maxHeartbeats 400000
set_option linter.unusedSimpArgs false
def okC (l:NmL) (c:CallL):Prop:=c.kind=1→aR l c.a≠none∧c.a≠c.b
theorem NmP.ren {fb:List Nat} {l:NmL} {m:List (List UInt8×Option Nat)} (h:NmP fb l m) (hs:SrtN l) {a b:List UInt8} {n:Nat} (jM:a≠b):NmP fb (fZ (cw l a) (b,n)) (delG a (updG b (some (fb.getD n 0)) m)):=by
 have h1:=h.put hs.nodup b n
 have h2:=h1.wipe (y5 (b,n) hs).nodup a
 refine h2.trans (List.Perm.map _ ?_)
 unfold fZ
 refine(List.Perm.filter _ (po (b,n) (cw l b))).trans ?_
 refine List.Perm.trans ?_ (po (b,n) (cw (cw l a) b)).symm
 have e: (a==b)=false:=beq_eq_false_iff_ne.2 jM
 rw[List.filter_cons]
 simp only[e,Bool.not_false, ↓reduceIte]
 unfold cw
 rw[List.filter_filter,List.filter_filter]
 refine List.Perm.cons _ (List.Perm.of_eq (List.filter_congr fun p _=>Bool.and_comm _ _))
theorem tv {l:NmL} (c:CallL) (h:SrtN l):SrtN (dP l c):=by
 unfold dP
 split
 ·exact y5 _ h
 ·exact y5 _ (Em _ h)
 ·exact Em _ h
theorem HO {X:aA} {fb:List Nat} {v:Value} {c:CallL} {bs:Nat} {l:NmL} (hv:FnP X fb v c) (hN:NmM X fb bs l) (hs:SrtN l) (bX:okC l c):
  ∃k cap,v= .func (.func k) #[] cap∧(∀a w,(callFunc k a).run Tryz.prog w= .ok (.enter k a) w)∧ ∀w,(∀p,p∈X→w.heap[p.1]? =some p.2)→(keys X).Nodup→Rets Tryz.prog k (#[vm bs]++cap) w (XS w X (fun r D=>r=bu []∧ ∃o',Only X D bs o'∧NmM D fb bs (dP l c))):=by
 obtain⟨o,m,ho,hm,hp⟩:=hN
 unfold FnP at hv
 split at hv
 ·rename_i hk
  obtain⟨b1,b2,rfl,h1,h2⟩:=hv
  refine⟨_,_,rfl,Tryz.call159,fun w hX hn=>Rets.mono (IT X b1 b2 bs _ c.a o m w hX hn h1 h2 ho hm) ?_⟩
  rintro r D ⟨hE,hr,o',hO,iA⟩
  refine⟨hE,hr,o',hO,o',_,hO.at_,iA, ?_⟩
  unfold dP
  rw[hk]
  exact hp.put hs.nodup c.a c.n
 ·rename_i hk
  obtain⟨b1,b2,rfl,h1,h2⟩:=hv
  obtain⟨hf,jM⟩:=bX hk
  refine⟨_,_,rfl,Tryz.call121,fun w hX hn=>Rets.mono (K4 X b1 b2 bs c.a c.b o m w hX hn h1 h2 ho hm) ?_⟩
  rintro r D ⟨hE,hr,o',hO,iA⟩
  refine⟨hE,hr,o',hO,o',_,hO.at_,iA, ?_⟩
  unfold dP
  rw[hk,hp.get hs.nodup]
  cases e:aR l c.a with
  |none=>exact absurd e hf
  |some n=>exact hp.ren hs jM
 ·rename_i h0 wu
  obtain⟨b1,rfl,h1⟩:=hv
  refine⟨_,_,rfl,Tryz.call161,fun w hX hn=>Rets.mono (I4 X b1 bs c.a o m w hX hn h1 ho hm) ?_⟩
  rintro r D ⟨hE,hr,o',hO,iA⟩
  refine⟨hE,hr,o',hO,o',_,hO.at_,iA, ?_⟩
  have e:dP l c=cw l c.a:=by
   unfold dP
   split
   ·rename_i e;exact absurd e h0
   ·rename_i e;exact absurd e wu
   ·rfl
  rw[e]
  exact hp.wipe hs.nodup c.a
end Go.Proofs
end
section
open Go Go.Proofs Go.Sx Go.StP
namespace Go.Proofs
set_option maxRecDepth 10000
set_option maxHeartbeats 400000
set_option linter.unusedSimpArgs false
theorem wZ {α:Type} {a b:List α} (z:α) (k:Nat) (h:k<a.length): (a++b).getD k z=a.getD k z:=by
 rw[List.getD_eq_getElem?_getD,List.getElem?_append_left h,←List.getD_eq_getElem?_getD]
theorem tM {α:Type} {a:List α} (z x:α) {k:Nat} (h:a.length=k): (a++ [x]).getD k z=x:=by
 subst h
 rw[List.getD_eq_getElem?_getD,List.getElem?_append_right (Nat.le_refl _),Nat.sub_self];rfl
def setP (G:DkG) (k:Nat) (v:Value):DkG:={G with p:=fun j=>if j=k then v else G.p j}
theorem FI {l:NmL} {c:CallL} {n:Nat} (hl: ∀p,p∈l→p.2<n) (bX:okC l c) (hc:c.kind=0→c.n<n): ∀p,p∈dP l c→p.2<n:=by
 intro p hp
 have eX: ∀ {l:NmL} {x:List UInt8×Nat},(∀p,p∈l→p.2<n)→x.2<n→p∈fZ l x→p.2<n:=by
  intro l x h1 h2 h3
  rcases List.mem_cons.1 ((po x (cw l x.1)).mem_iff.1 h3) with rfl|h3
  ·exact h2
  ·exact h1 _ ((List.mem_filter.1 h3).1)
 unfold dP at hp
 split at hp
 ·rename_i hk;exact eX hl (hc hk) hp
 ·rename_i hk
  refine eX (fun q hq=>hl q ((List.mem_filter.1 hq).1)) ?_ hp
  cases e:aR l c.a with
  |none=>exact absurd e (bX hk).1
  |some m=>
   have:=hl _ (fp e)
   exact this
 ·exact hl _ ((List.mem_filter.1 hp).1)
theorem xX {S:DiskL} (h:DkOk S) {k:Nat} (d:DirL) (h1:SrtN d.seen) (h2:SrtN d.stl) (h3: ∀p,p∈d.seen→p.2<S.files.length) (h4: ∀p,p∈d.stl→p.2<S.files.length) (h5: ∀c,c∈d.pend→c.kind=0→c.n<S.files.length):DkOk (dV S k d):=by
 refine⟨fun j hj=> ?_,fun j hj=> ?_,fun j hj=> ?_,fun j hj=> ?_,fun j hj=> ?_,h.file,h.fuse,h.max⟩<;>unfold dV<;>simp only<;>by_cases e:j=k
 ·rw[if_pos e];exact h1
 ·rw[if_neg e];exact h.seen j hj
 ·rw[if_pos e];exact h2
 ·rw[if_neg e];exact h.stl j hj
 ·rw[if_pos e];exact h3
 ·rw[if_neg e];exact h.seenN j hj
 ·rw[if_pos e];exact h4
 ·rw[if_neg e];exact h.stlN j hj
 ·rw[if_pos e];exact h5
 ·rw[if_neg e];exact h.pendN j hj
theorem p6 {G:DkG} (h: [G.s 0,G.s 1,G.s 2,G.t 0,G.t 1,G.t 2].Nodup) {i j:Nat} (hi:i<3) (hj:j<3): (i≠j→G.s i≠G.s j)∧(i≠j→G.t i≠G.t j)∧G.s i≠G.t j:=by
 simp only[List.nodup_cons,List.mem_cons,List.not_mem_nil,not_or,or_false,List.nodup_nil,and_true,not_false_eq_true] at h
 have a:i=0∨i=1∨i=2:=by omega
 have b:j=0∨j=1∨j=2:=by omega
 rcases a with rfl|rfl|rfl<;>rcases b with rfl|rfl|rfl<;>refine⟨fun aO=> ?_,fun aO=> ?_, ?_⟩<;>first|omega| (exact absurd rfl aO)
theorem CG {G:DkG} (h: [G.d 0,G.d 1,G.d 2].Nodup) {i j:Nat} (hi:i<3) (hj:j<3):i≠j→G.d i≠G.d j:=by
 simp only[List.nodup_cons,List.mem_cons,List.not_mem_nil,not_or,or_false,List.nodup_nil,and_true,not_false_eq_true] at h
 have a:i=0∨i=1∨i=2:=by omega
 have b:j=0∨j=1∨j=2:=by omega
 rcases a with rfl|rfl|rfl<;>rcases b with rfl|rfl|rfl<;>intro aO<;>first|omega| (exact absurd rfl aO)
structure DkP.Turn (X L:aA) (G:DkG) (k:Nat):Prop where
 keep: ∀b o,Sx.look X b=some o→b≠G.s k→b≠G.d k→slB (G.p k)≠some b→Sx.look L b=some o
theorem DkP.turn {X L:aA} {G:DkG} {S:DiskL} (h:DkP X G S) {k:Nat} (hk:k<3) {c:CallL} {v v2:Value} {vals:List Value} (hT:DkP.Turn X L G k)
  (hs:NmM L G.fb (G.s k) (dP (S.dir k).seen c)) (hd:Sx.look L (G.d k)=some (cL (G.s k) (G.t k) v2)) (hv:vals.length=(S.dir k).pend.length)
  (hF: ∀i,i<vals.length→FnP X G.fb (vals.getD i undef) ((S.dir k).pend.getD i k5)) (hGo:Gr X 137 1 (G.p k) vals.length vals)
  (fL:Gr L 137 1 v2 (vals.length+1) (vals++ [v])) (hFv:FnP X G.fb v c) (cN:slB v2=slB (G.p k)∨ ∃b,slB v2=some b∧b∉keys X) (bX:okC (S.dir k).seen c) (qz:c.kind=0→c.n<S.files.length):
  DkP L (setP G k v2) (dV S k ⟨dP (S.dir k).seen c,(S.dir k).stl,(S.dir k).pend++ [c]⟩):=by
 have lP: ∀b o,Sx.look X b=some o→tyO o≠some 137→slB (G.p k)≠some b:=by
  intro b o hb ht e
  obtain⟨arr,ha⟩:=lh hGo e
  rw[hb] at ha;cases ha;exact ht rfl
 obtain⟨osk,msk,oS,oO,-⟩:=h.seen k hk
 have du: ∀b o,Sx.look X b=some o→tyO o≠none→b≠G.s k:=by
  rintro b o hb ht rfl
  rw[oS] at hb;cases hb;exact ht (iT oO)
 have bE: ∀b o,Sx.look X b=some o→tyO o≠some 130→b≠G.d k:=by
  rintro b o hb ht rfl
  rw[h.dir k hk] at hb;cases hb;exact ht rfl
 have K: ∀b o,Sx.look X b=some o→tyO o≠none→tyO o≠some 130→tyO o≠some 137→Sx.look L b=some o:=fun b o hb h1 h2 h3=>hT.keep b o hb (du b o hb h1) (bE b o hb h2) (lP b o hb h3)
 have KM: ∀b o,Sx.look X b=some o→tyO o=none→b≠G.s k→Sx.look L b=some o:=fun b o hb h1 h2=>hT.keep b o hb h2 (bE b o hb (by rw[h1];intro e;cases e)) (lP b o hb (by rw[h1];intro e;cases e))
 have KF: ∀ {w c},FnP X G.fb w c→FnP L G.fb w c:=fun hw=>hw.keep fun b o hb hx=>K b o hb (by rcases hx with⟨s,rfl⟩ | ⟨a,rfl⟩<;>simp[tyO,dS,iL]) (by rcases hx with⟨s,rfl⟩ | ⟨a,rfl⟩<;>simp[tyO,dS,iL]) (by rcases hx with⟨s,rfl⟩ | ⟨a,rfl⟩<;>simp[tyO,dS,iL])
 refine⟨?_, ?_, ?_, ?_, ?_, ?_, ?_,h.len,h.nodf,h.nodm,h.nodd,h.nodb, ?_, ?_⟩
 ·exact K _ _ h.disk (by simp[tyO,bI]) (by simp[tyO,bI]) (by simp[tyO,bI])
 ·obtain⟨o,h1,h2⟩:=h.dirs
  exact⟨o,KM _ _ h1 (iT h2) (h.nodb k hk).1,h2⟩
 ·intro j hj
  by_cases e:j=k
  ·subst e
   show Sx.look L (G.d j)=some (cL (G.s j) (G.t j) (if j=j then v2 else G.p j))
   rw[if_pos rfl];exact hd
  ·show Sx.look L (G.d j)=some (cL (G.s j) (G.t j) (if j=k then v2 else G.p j))
   rw[if_neg e]
   exact hT.keep _ _ (h.dir j hj) (du _ _ (h.dir j hj) (by simp[tyO,cL])) (CG h.nodd hj hk e) (lP _ _ (h.dir j hj) (by simp[tyO,cL]))
 ·intro j hj
  show NmM L G.fb (G.s j) (if j=k then _ else S.dir j).seen
  by_cases e:j=k
  ·subst e;rw[if_pos rfl];exact hs
  ·rw[if_neg e]
   obtain⟨o,m,h1,h2,h3⟩:=h.seen j hj
   exact⟨o,m,KM _ _ h1 (iT h2) ((p6 h.nodm hj hk).1 e),h2,h3⟩
 ·intro j hj
  show NmM L G.fb (G.t j) (if j=k then _ else S.dir j).stl
  have e2: (if j=k then⟨dP (S.dir k).seen c,(S.dir k).stl,(S.dir k).pend++ [c]⟩ else S.dir j:DirL).stl=(S.dir j).stl:=by
   by_cases e:j=k
   ·subst e;rw[if_pos rfl]
   ·rw[if_neg e]
  rw[e2]
  obtain⟨o,m,h1,h2,h3⟩:=h.stl j hj
  exact⟨o,m,KM _ _ h1 (iT h2) (Ne.symm (p6 h.nodm hk hj).2.2),h2,h3⟩
 ·intro j hj
  by_cases e:j=k
  ·subst e
   refine⟨vals++ [v], ?_, ?_, ?_⟩
   ·show(vals++ [v]).length=(if j=j then _ else S.dir j:DirL).pend.length
    rw[if_pos rfl,List.length_append,List.length_append,hv];rfl
   ·show Gr L _ 1 (if j=j then v2 else G.p j) (vals++ [v]).length (vals++ [v])
    rw[if_pos rfl,List.length_append];exact fL
   ·intro i hi
    show FnP L G.fb ((vals++ [v]).getD i undef) ((if j=j then _ else S.dir j:DirL).pend.getD i k5)
    rw[if_pos rfl]
    rw[List.length_append,List.length_singleton] at hi
    by_cases ei:i=vals.length
    ·subst ei
     rw[tM _ _ rfl,tM _ _ hv.symm]
     exact KF hFv
    ·rw[wZ _ _ (by omega),wZ _ _ (by omega)]
     exact KF (hF i (by omega))
  ·obtain⟨vj,h1,h2,h3⟩:=h.pend j hj
   refine⟨vj, ?_, ?_, ?_⟩
   ·show vj.length=(if j=k then _ else S.dir j:DirL).pend.length
    rw[if_neg e];exact h1
   ·show Gr L _ 1 (if j=k then v2 else G.p j) vj.length vj
    rw[if_neg e]
    refine h2.keep fun b o hb ho=> ?_
    obtain⟨arr,ha⟩:=lh h2 hb
    rw[ho] at ha;cases ha
    exact hT.keep _ _ ho (du _ _ ho (by simp[tyO])) (bE _ _ ho (by simp[tyO])) (h.nodp j k hj hk e b hb)
   ·intro i hi
    show FnP L G.fb (vj.getD i undef) ((if j=k then _ else S.dir j:DirL).pend.getD i k5)
    rw[if_neg e]
    exact KF (h3 i hi)
 ·intro n hn
  exact K _ _ (h.file n hn) (by simp[tyO,cR]) (by simp[tyO,cR]) (by simp[tyO,cR])
 ·intro i j hi hj mW b hb
  have key: ∀j,j<3→ ∀b,slB (G.p j)=some b→b∈keys X:=fun j hj b hb=>by
   obtain⟨vj,-,h2,-⟩:=h.pend j hj
   obtain⟨arr,ha⟩:=lh h2 hb
   exact cJ ha
  show slB (if j=k then v2 else G.p j)≠some b
  have dK:slB (if i=k then v2 else G.p i)=some b:=hb
  by_cases ei:i=k
  ·subst ei
   rw[if_pos rfl] at dK
   rw[if_neg (Ne.symm mW)]
   rcases cN with e| ⟨b',e,aZ⟩
   ·exact h.nodp i j hi hj mW b (by rw[←e];exact dK)
   ·rw[e] at dK;cases dK
    exact fun h'=>aZ (key j hj _ h')
  ·rw[if_neg ei] at dK
   by_cases ej:j=k
   ·subst ej
    rw[if_pos rfl]
    rcases cN with e| ⟨b',e,aZ⟩
    ·rw[e];exact h.nodp i j hi hj mW b dK
    ·rw[e]
     intro h';cases h'
     exact aZ (key i hi _ dK)
   ·rw[if_neg ej];exact h.nodp i j hi hj mW b dK
 ·exact xX h.ok _ (tv c (h.ok.seen k hk)) (h.ok.stl k hk) (FI (h.ok.seenN k hk) bX qz) (h.ok.stlN k hk) (fun d hd h0=>by
   rcases List.mem_append.1 hd with hd|hd
   ·exact h.ok.pendN k hk d hd h0
   ·rw[List.mem_singleton.1 hd] at h0 ⊢;exact qz h0)
end Go.Proofs
end
section
open Go Go.Proofs Go.Sx Go.StP
namespace Go.Proofs
set_option maxRecDepth 10000
set_option maxHeartbeats 400000
set_option linter.unusedSimpArgs false
def gL (S:DiskL) (k:Nat) (c:CallL):DiskL:=dV S k ⟨dP (S.dir k).seen c,(S.dir k).stl,(S.dir k).pend++ [c]⟩
theorem H5 (a b:Nat) (v q:Value) (x:Bool) (hq:Value.oneCell' q=true∧q.cells= #[q]):ab (some (x,1)) (some (cL a b v)) 2 q=some (cL a b q):=gj [vm a,vm b] [v] [q] [] x _ 130 rfl rfl hq.2 rfl (by simp[hq.1])
set_option linter.defProp false
def jd:=And.intro (And.intro (@ay) (And.intro (@ax) (@m7))) (And.intro (And.intro (@xe) (@nS)) (And.intro (@nQ) (@nR)))
theorem HW (X:aA) (G:DkG) (S:DiskL) (k:Nat) (c:CallL) (v:Value) (w:World) (hX: ∀p,p∈X→w.heap[p.1]? =some p.2) (hn: (keys X).Nodup) (hP:DkP X G S) (hk:k<3) (hv:FnP X G.fb v c) (bX:okC (S.dir k).seen c) (qz:c.kind=0→c.n<S.files.length) (gG: (S.dir k).pend.length<1000000):
  Rets Tryz.prog 116 #[vp G.bd 0,vp (G.d k) 0,v] w (XS w X (fun r D=>r=vi ((aJ S).2:Nat)∧if(aJ S).2≠0 then D=setB X G.bd (bI G.bm (aJ S).1) else∃v2,DkP D (setP G k v2) (gL (aJ S).1 k c))):=by
 obtain⟨fk,cap,rfl,-,-⟩:=HO hv (hP.seen k hk) (hP.ok.seen k hk) bX
 refine Rets.enterX Tryz.func116 rfl (rs:= [.tmp 6]) Tryz.results116 Tryz.ntmps116 hX hn ?_
 refine kf ?_
 first|with_reducible refine ks [] @jd ?_|refine kp @jd ?_
 refine Ow.callM rfl rfl Tryz.call81 (cJ hP.disk) (fun w' aB=>EN G.bd G.bm S w' hP.ok.fuse (aB.has _ _ (cO hP.disk))) ?_
 obtain⟨aQ,aZ,ed⟩:=j9 S
 have aa:=hP.setDisk (aJ S).1 aQ aZ (mr hP.ok)
 have cm:=(Ext.refl w X).setB (b:=G.bd) (o:=bI G.bm (aJ S).1)
 have xJ:FnP (setB X G.bd (bI G.bm (aJ S).1)) G.fb (.func (.func fk) #[] cap) c:=hv.keep fun b o ho hx=>g9 hP.disk ho (by rcases hx with⟨s,rfl⟩ | ⟨a,rfl⟩<;>simp[tyO,bI,dS,iL])
 generalize hL1:setB X G.bd (bI G.bm (aJ S).1)=L1 at*
 by_cases fc: (aJ S).2=0
 ·have e2: (((aJ S).2:Int) !=0)=false:=by rw[fc];rfl
  have nN:SrtN ((aJ S).1.dir k).seen:=aa.ok.seen k hk
  have j5:okC ((aJ S).1.dir k).seen c:=by rw[aQ];exact bX
  obtain⟨fk',cap',he,ft,iN⟩:=HO xJ (aa.seen k hk) nN j5
  cases he
  have fB:=aY (w0:=w) (aa.dir k hk)
  obtain⟨os,ms,gY,fh,-⟩:=aa.seen k hk
  have Fs:G.d k≠G.s k:=by
   intro e
   have h1:=aa.dir k hk
   rw[e,gY] at h1;cases h1
   obtain⟨es,cl,h,-⟩:=fh;cases h
  obtain⟨vals,EC,fL,hF⟩:=aa.pend k hk
  refine ko (And.intro @jd @e2) ?_
  first|with_reducible refine ks [] (And.intro @jd @fB) ?_|refine kp (And.intro @jd @fB) ?_
  refine Ow.callFnXC (b:=vm (G.s k)) (cap:=cap) (ars:= #[vm (G.s k)]++cap) rfl (X:=L1) (Y:= []) (List.append_nil _).symm rfl rfl rfl rfl ft (fun w' aB bD aw=>iN w' bD aw) (fun r D hC hS=> ?_)
  rw[List.append_nil]
  obtain⟨rfl,o',hO,eP⟩:=hS
  have cP:=cm.came0 hC
  have jn:Sx.look D (G.d k)=some (cL (G.s k) (G.t k) (G.p k)):=(hO.rest _ Fs).trans (aa.dir k hk)
  have r4:=aY (w0:=w) jn
  have ZY:Gr D 137 1 (G.p k) vals.length vals:=fL.keep fun b o hb ho=>by
   obtain⟨arr,ha⟩:=lh fL hb
   rw[ho] at ha;cases ha
   refine(hO.rest b ?_).trans ho
   rintro rfl
   rw[gY] at ho;cases ho
   obtain⟨es,cl,h,-⟩:=fh;cases h
  refine ko @jd ?_
  first|with_reducible refine ks [] (And.intro @jd @r4) ?_|refine kp (And.intro @jd @r4) ?_
  refine Ow.buildSlice (e:=137) #[.func (.func fk) #[] cap] rfl rfl (by kernel_rfl) fun ba pT ou=> ?_
  refine ko @jd ?_
  refine Ow.appendG (e:=137) (k:=1) (new:= [.func (.func fk) #[] cap]) (G.p k) rfl rfl rfl Tryz.underlying128 (id (by kernel_rfl):aM Tryz.prog 137=some (false,1)) (by kernel_rfl) (id (by kernel_rfl):am Tryz.prog 137=some .nilFunc) rfl Tryz.underlying128 (by intro k h;cases h) ZY.app (fun w' aB=>AppX.one1 (aB.has _ _ (List.mem_append_right _ List.mem_cons_self)) rfl rfl) rfl (by rw[EC,aQ];omega) (fun v2 L2 dI _ lm dT=> ?_)
  have uv:=(cP.app (o:= .cells #[.func (.func fk) #[] cap] 137 (0,0)) ou).grew lm
  have lO:slB (G.p k)≠some (G.d k):=fun e=>by
   obtain⟨arr,ha⟩:=lh ZY e
   rw[jn] at ha
   simp[cL] at ha
  have sL:Sx.look L2 (G.d k)=some (cL (G.s k) (G.t k) (G.p k)):=lm.look _ _ lO (bL jn)
  have ly:=aY (w0:=w) sL
  have st:=fun x=>H5 (G.s k) (G.t k) (G.p k) v2 x dI.cell
  refine ko @jd ?_
  first|with_reducible refine ks [] (And.intro @jd (And.intro @sL (@st))) ?_|refine kp (And.intro @jd (And.intro @sL (@st))) ?_
  refine⟨_,(ke @jd), ?_⟩
  refine⟨uv.setB,by rw[fc];rfl, ?_⟩
  rw[if_neg (by rw[fc];simp)]
  have ZU: ∀b,eS (D++ [(ba, .cells #[.func (.func fk) #[] cap] 137 (0,0))]) b→b∉keys L1:=fun b hb hm=>by
   have:=ae hb (b:=b) (by rw[bM,hO.keys];exact List.mem_append_left _ hm)
   omega
  have Wg: ∀b o,Sx.look L1 b=some o→b≠G.s k→b≠G.d k→slB (G.p k)≠some b→Sx.look (setB L2 (G.d k) (cL (G.s k) (G.t k) v2)) b=some o:=fun b o hb h1 h2 h3=>by
   rw[eO (Ne.symm h2)]
   exact lm.look _ _ h3 (bL ((hO.rest b h1).trans hb))
  obtain⟨oN,mN,gR,eI,gC⟩:=eP
  have XV:slB (G.p k)≠some (G.s k):=fun e=>by
   obtain⟨arr,ha⟩:=lh fL e
   rw[gY] at ha;cases ha
   obtain⟨es,cl,h,-⟩:=fh;cases h
  have Xn:slB v2≠some (G.d k):=fun e=>by
   rcases dT with h| ⟨b',h,ha⟩
   ·exact lO (by rw[←h];exact e)
   ·rw[h] at e;cases e
    exact ZU _ ha (cJ (aa.dir k hk))
  refine⟨v2,aa.turn hk (c:=c) (v:= .func (.func fk) #[] cap) (v2:=v2) (vals:=vals) ⟨Wg⟩ ⟨oN,mN, ?_,eI,gC⟩ (jK sL) EC hF fL (dI.keep fun b o hb ho=> ?_) xJ (dT.imp id fun⟨b',h,ha⟩=>⟨b',h,ZU _ ha⟩) j5 (by rw[aZ];exact qz)⟩
  ·rw[eO Fs]
   exact lm.look _ _ XV (bL gR)
  ·rw[eO (by rintro rfl;exact Xn hb)];exact ho
 ·have e2:=kP fc
  refine ko (And.intro @jd @e2) ?_
  first|with_reducible refine ks [] @jd ?_|refine kp @jd ?_
  refine⟨_,(ke @jd), ?_⟩
  refine⟨cm,rfl, ?_⟩
  rw[if_pos fc]
end Go.Proofs
end
section
open Go Go.Proofs Go.Sx Go.StP
namespace Go.Proofs
set_option maxRecDepth 10000
set_option maxHeartbeats 400000
set_option linter.unusedSimpArgs false
def addF (G:DkG) (bf:Nat):DkG:={G with fb:=G.fb++ [bf]}
def fF (S:DiskL) (f:FileL):DiskL:={S with files:=S.files++ [f]}
theorem AG {S:DiskL} (h:DkOk S) {f:FileL} (hf:f.data.length≤1048576∧f.stl≤f.data.length):DkOk (fF S f):=by
 have e: (fF S f).files.length=S.files.length+1:=by unfold fF;simp
 refine⟨h.seen,h.stl,fun k hk p hp=>by rw[e];exact Nat.lt_succ_of_lt (h.seenN k hk p hp),fun k hk p hp=>by rw[e];exact Nat.lt_succ_of_lt (h.stlN k hk p hp),fun k hk c hc h0=>by rw[e];exact Nat.lt_succ_of_lt (h.pendN k hk c hc h0),fun g hg=> ?_,h.fuse,h.max⟩
 rcases List.mem_append.1 hg with hg|hg
 ·exact h.file g hg
 ·rw[List.mem_singleton.1 hg];exact hf
theorem C3 {fb:List Nat} {bf n:Nat} (h:n<fb.length): (fb++ [bf]).getD n 0=fb.getD n 0:=wZ 0 n h
theorem DkP.addFile {X:aA} {G:DkG} {S:DiskL} (h:DkP X G S) {bf:Nat} {f:FileL} (hb:Sx.look X bf=some (cR f)) (hn:bf∉G.fb) (hf:f.data.length≤1048576∧f.stl≤f.data.length):DkP X (addF G bf) (fF S f):=by
 have hl:=h.len
 have Zc: ∀ {b:Nat} {l:NmL},(∀p,p∈l→p.2<S.files.length)→NmM X G.fb b l→NmM X (G.fb++ [bf]) b l:=by
  rintro b l aD ⟨o,m,h1,h2,h3⟩
  exact⟨o,m,h1,h2,h3.mono fun p hp=>C3 (by have:=aD p hp;omega)⟩
 refine⟨h.disk,h.dirs,h.dir,fun k hk=>Zc (h.ok.seenN k hk) (h.seen k hk),fun k hk=>Zc (h.ok.stlN k hk) (h.stl k hk),fun k hk=> ?_,fun n aw=> ?_, ?_, ?_,h.nodm,h.nodd,h.nodb,h.nodp,AG h.ok hf⟩
 ·obtain⟨vals,h1,h2,h3⟩:=h.pend k hk
  refine⟨vals,h1,h2,fun i hi=> ?_⟩
  have hF:=h3 i hi
  have hm: ((S.dir k).pend.getD i k5)∈ (S.dir k).pend:=by
   rw[List.getD_eq_getElem?_getD,List.getElem?_eq_getElem (by omega)];exact List.getElem_mem _
  have hc:=h.ok.pendN k hk _ hm
  show FnP X (G.fb++ [bf]) (vals.getD i undef) ((S.dir k).pend.getD i k5)
  generalize (S.dir k).pend.getD i k5=c at*
  unfold FnP at hF ⊢
  split at hF
  ·rename_i oI
   rw[C3 (by have:=hc oI;omega)]
   exact hF
  ·exact hF
  ·exact hF
 ·have nJ:n<S.files.length+1:=by
   have: (fF S f).files.length=S.files.length+1:=by unfold fF;simp
   omega
  show Sx.look X ((G.fb++ [bf]).getD n 0)=some (cR ((S.files++ [f]).getD n dw))
  by_cases e:n=S.files.length
  ·subst e
   rw[tM _ _ hl,tM _ _ rfl];exact hb
  ·rw[wZ _ _ (by omega),wZ _ _ (by omega)]
   exact h.file n (by omega)
 ·show(G.fb++ [bf]).length=(S.files++ [f]).length
  rw[List.length_append,List.length_append,hl];rfl
 ·show(G.fb++ [bf]).Nodup
  refine List.nodup_append.2 ⟨h.nodf,by simp,fun a ha b dK=> ?_⟩
  rw[List.mem_singleton.1 dK]
  rintro rfl;exact hn ha
theorem PP:fW (cg Tryz.prog 126) (am Tryz.prog 126) []=some (.agg #[vs [],vi 0]):=by
 rw[show cg Tryz.prog 126=some [(0,1),(1,1)] from id (by kernel_rfl),show am Tryz.prog 126=some (.agg #[vs [],vi 0]) from id (by kernel_rfl)];rfl
theorem Vp:am Tryz.prog 124=some (.pointer none):=zrPf
theorem PC (b:Nat) (a:Bool):ab (some (a,1)) (some (.cells (Value.pointer none).cells 124 (0,0))) 0 (vp b 0)=some (iL b):=
 gj [] [.pointer none] [vp b 0] [] a _ 124 rfl rfl rfl rfl rfl
set_option linter.defProp false
def jy:=And.intro (@ay) (And.intro (@ax) (@PC))
theorem Wm_ (name:List UInt8) (w:World):Rets Tryz.prog 117 #[vs name] w (XS w [] (fun v D=> ∃bp bn bf,v= .func (.func 159) #[] #[vp bp 0,vp bn 0]∧Sx.look D bp=some (iL bf)∧Sx.look D bn=some (dS name)∧Sx.look D bf=some (cR dw))):=by
 refine Rets.enterX Tryz.func117 rfl (rs:= [.tmp 2]) Tryz.results117 Tryz.ntmps117 (fun p hp=>by cases hp) (by simp[keys]) ?_
 refine kf ?_
 first|with_reducible refine ks [] @jy ?_|refine kp @jy ?_
 refine Ow.box rfl rfl fun bn fc ow=> ?_
 simp only[d9,cu,d8,List.nil_append]
 refine ko @jy ?_
 first|with_reducible refine ks [] @jy ?_|refine kp @jy ?_
 refine Ow.build (.agg #[vs [],vi 0]) rfl PP ?_
 refine ko @jy ?_
 refine Ow.box rfl rfl fun bf Fi hwf=> ?_
 simp only[d9,cu,d8,aV]
 refine ko @jy ?_
 refine Ow.alloc rfl rfl Vp fun bp Fk hwp=> ?_
 have h1:bn<bf:=ae Fi (by simp[keys])
 have h2:bn<bp:=ae Fk (by simp[keys])
 have h3:bf<bp:=ae Fk (by simp[keys])
 refine Ow.permL (M:= [(bp, .cells (Value.pointer none).cells 124 (0,0)),(bf, .cells #[vs [],vi 0] 126 (0,0)),(bn, .cells (vs name).cells 9 (0,0))]) (by classical exact List.perm_iff_count.2 fun a=>by simp only[List.count_append,List.count_cons,List.count_nil]<;>omega) ?_
 refine ko @jy ?_
 first|with_reducible refine ks [] @jy ?_|refine kp @jy ?_
 refine⟨_,(ke @jy), ?_⟩
 refine⟨Ext.of_new ⟨hwp,hwf,ow,trivial⟩,bp,bn,bf, ?_, ?_, ?_, ?_⟩
 ·simp only[bu,List.map_toArray,List.map_cons,List.map_nil,d9,cu,d8]
 ·simp[Sx.look]
 ·simp[Sx.look,show bp≠bn by omega,show bf≠bn by omega];rfl
 ·simp[Sx.look,show bp≠bf by omega];rfl
theorem V3_ (name:List UInt8) (w:World):Rets Tryz.prog 122 #[vs name] w (XS w [] (fun v D=> ∃bn,v= .func (.func 161) #[] #[vp bn 0]∧Sx.look D bn=some (dS name))):=by
 refine Rets.enterX Tryz.func122 rfl (rs:= [.tmp 2]) Tryz.results122 Tryz.ntmps122 (fun p hp=>by cases hp) (by simp[keys]) ?_
 refine kf ?_
 first|with_reducible refine ks [] @jy ?_|refine kp @jy ?_
 refine Ow.box rfl rfl fun bn fc ow=> ?_
 simp only[d9,cu,d8,List.nil_append]
 refine ko @jy ?_
 first|with_reducible refine ks [] @jy ?_|refine kp @jy ?_
 refine⟨_,(ke @jy), ?_⟩
 exact⟨Ext.of_new ⟨ow,trivial⟩,bn,by simp only[bu,List.map_toArray,List.map_cons,List.map_nil,d9,cu,d8],by simp[Sx.look];rfl⟩
end Go.Proofs
end
section
open Go Go.Proofs Go.Sx Go.StP
namespace Go.Proofs
set_option maxRecDepth 10000
set_option maxHeartbeats 400000
set_option linter.unusedSimpArgs false
def jU (S:DiskL) (dir name:List UInt8):DiskL×Nat:=
 if dF S dir [name]≠0 then(S,dF S dir [name]) else match atD S dir name with
  |some _=>(S,7)
  |none=>if(aJ S).2≠0 then aJ S else(gL (fF (aJ S).1 dw) ((bv dir).getD 0) ⟨0,name,[],S.files.length⟩,0)
def jT (S:DiskL) (dir name:List UInt8):DiskL×Nat:=
 if dF S dir [name]≠0 then(S,dF S dir [name]) else match atD S dir name with
  |none=>(S,6)
  |some _=>if(aJ S).2≠0 then aJ S else(gL (aJ S).1 ((bv dir).getD 0) ⟨2,name,[],0⟩,0)
def j8 (S:DiskL) (dir name to:List UInt8):DiskL×Nat:=
 if dF S dir [name,to]≠0 then(S,dF S dir [name,to]) else match atD S dir name with
  |none=>(S,6)
  |some _=>if name=to then aJ S else if(aJ S).2≠0 then aJ S else(gL (aJ S).1 ((bv dir).getD 0) ⟨1,name,to,0⟩,0)
theorem Nq (S:DiskL) (f:FileL):aJ (fF S f)=(fF (aJ S).1 f,(aJ S).2):=by
 unfold aJ
 by_cases h1:S.fused=true∧S.fuse=0
 ·rw[if_pos h1,if_pos (by exact h1)];rfl
 ·rw[if_neg h1,if_neg (by exact h1)]
  by_cases h2:S.fused=true
  ·rw[if_pos h2,if_pos (by exact h2)];rfl
  ·rw[if_neg h2,if_neg (by exact h2)]
theorem V2 (b o:Nat):aT Tryz.prog .neq 124 (vp b o) (.pointer none)=some (.bool true):=by
 simp[aT,eqX,eM,eA,Tryz.underlying124,vp]
theorem U5:aT Tryz.prog .neq 124 (.pointer none) (.pointer none)=some (.bool false):=by
 simp[aT,eqX,eM,eA,Tryz.underlying124]
theorem Ek {L D:aA} {B:Nat} (hA:eS L B) (hN:New B D) {b:Nat} {o:Obj} (h:Sx.look D b=some o):Sx.look (L++D) b=some o:=by
 rw[gi (fun hm=>by have:=ae hA hm;have:=hN.le b (cJ h);omega)];exact h
theorem DkP.fb_key {X:aA} {G:DkG} {S:DiskL} (h:DkP X G S) {b:Nat} (hb:b∈G.fb):b∈keys X:=by
 obtain⟨n,hn,rfl⟩:=List.getElem_of_mem hb
 have:=h.file n (by rw[←h.len];exact hn)
 rw[List.getD_eq_getElem?_getD,List.getElem?_eq_getElem hn] at this
 exact cJ this
set_option linter.defProp false
def au:=And.intro (And.intro (And.intro (And.intro (@ay) (@ax)) (And.intro (@m7) (@xe))) (And.intro (And.intro (@nS) (@nQ)) (And.intro (@nR) (And.intro (@xa) (@xd))))) (And.intro (And.intro (And.intro (@zg) (@mO)) (And.intro (@mF) (@o6))) (And.intro (And.intro (@nn) (@V2)) (And.intro (@U5) (And.intro (@Sx.tup2_0) (@Sx.tup2_1)))))
theorem JB (X:aA) (G:DkG) (S:DiskL) (dir name:List UInt8) (w:World) (hX: ∀p,p∈X→w.heap[p.1]? =some p.2) (hn: (keys X).Nodup) (hP:DkP X G S) (kG:name.length<1099511627776) (gG: ∀k,k<3→(S.dir k).pend.length<1000000):
  Rets Tryz.prog 72 #[vp G.bd 0,vs dir,vs name] w (XS w X (fun v D=>v=vi ((jU S dir name).2:Nat)∧ ∃G',G'.bd=G.bd∧DkP D G' (jU S dir name).1)):=by
 refine Rets.enterX Tryz.func72 rfl (rs:= [.tmp 6]) Tryz.results72 Tryz.ntmps72 hX hn ?_
 refine kf ?_
 first|with_reducible refine ks [] @au ?_|refine kp @au ?_
 refine Ow.buildSlice (e:=9) #[vs name] rfl rfl (by kernel_rfl) fun b1 aQ aF=> ?_
 have aa:=hP.mono (X':=X++ [(b1,Obj.cells #[vs name] 9 (0,0))]) fun b o h=>bL h
 have cm:=(Ext.refl w X).app (o:=Obj.cells #[vs name] 9 (0,0)) aF
 have fV: (b1,Obj.cells #[vs name] 9 (0,0))∈X++ [(b1,Obj.cells #[vs name] 9 (0,0))]:=by simp
 generalize X++ [(b1,Obj.cells #[vs name] 9 (0,0))]=L1 at*
 refine ko @au ?_
 refine Ow.callC rfl rfl Tryz.call80 (fun w' aB=>Rets.toX (sy w' G S dir (vsl b1 0 1 1) [name] (aa.world aB) (ns (aB.has _ _ fV)) (by simp) (by simpa using kG))) (fun B2 v2 D2 bz dI eP be=> ?_)
 obtain⟨rfl,be⟩:=be
 rw[List.append_nil]
 clear fV bz eP
 unfold jU atD
 rcases be with⟨he,rfl⟩ | ⟨he,k,hk,rfl⟩
 ·have e1:=kP he
  refine ko @au ?_
  first|with_reducible refine ks [] (And.intro @au @e1) ?_|refine kp (And.intro @au @e1) ?_
  refine⟨_,(ke @au), ?_⟩
  rw[if_pos he]
  exact⟨cm,rfl,G,rfl,aa⟩
 ·have nF: ¬ (dF S dir [name]≠0):=by rw[he];simp
  have aW:=(dH hk).1
  have fB:=aY (w0:=w) (aa.dir k aW)
  obtain⟨os,ms,gY,fh,iB⟩:=aa.seen k aW
  have kK:=aY (w0:=w) gY
  have e1: ((0:Int) !=0)=false:=rfl
  refine ko @au ?_
  first|with_reducible refine ks [] (And.intro @au (And.intro @e1 (@fB))) ?_|refine kp (And.intro @au (And.intro @e1 (@fB))) ?_
  refine Ow.mapGetG (encK:=vs) (encV:=ag) (k:=name) (z:=none) rfl rfl Tryz.underlying127 jJ zrPf rfl rfl kK fh ?_
  rw[iB.get (hP.ok.seen k aW).nodup]
  show Ow _ _ _ _ _ _ _ _
  have hq: (bv dir).bind (fun k=>aR (S.dir k).seen name)=aR (S.dir k).seen name:=by rw[hk];rfl
  cases hf:aR (S.dir k).seen name with
  |some n=>
   have hp: ∀q:Nat,ag (some q)=vp q 0:=fun _=>rfl
   refine ko (And.intro @au @hp) ?_
   first|with_reducible refine ks [] @au ?_|refine kp @au ?_
   refine⟨_,(ke @au), ?_⟩
   rw[if_neg nF,hq,hf]
   exact⟨cm,rfl,G,rfl,aa⟩
  |none=>
   have g3:ag none= .pointer none:=rfl
   refine ko (And.intro @au @g3) ?_
   first|with_reducible refine ks [] @au ?_|refine kp @au ?_
   refine Ow.callC rfl rfl Tryz.call117 (fun w' aB=>Wm_ name w') (fun B3 v3 D3 ew n8 gR nE=> ?_)
   obtain⟨bp,bn,bf,rfl,Fk,fc,Fi⟩:=nE
   have co:=aa.mono (X':=L1++D3) fun b o h=>bL h
   have WO:=Ek ew gR Fk
   have vN:=Ek ew gR fc
   have WK:=Ek ew gR Fi
   have hnf:bf∉G.fb:=fun hm=>by
    have h1:=ae ew (aa.fb_key hm)
    have h2:=gR.le bf (cJ Fi)
    omega
   have nD:=co.addFile WK hnf (f:=dw) ⟨by decide,by decide⟩
   have cP:Ext w X (L1++D3):=⟨fun c hc=>by
    rw[bM] at hc
    rcases List.mem_append.1 hc with hc|hc
    ·exact cm.new c hc
    ·exact .inr (Nat.le_trans n8 (gR.le c hc)),fun c hc=>by rw[bM];exact List.mem_append_left _ (cm.all c hc)⟩
   generalize L1++D3=L3 at*
   refine ko @au ?_
   refine Ow.callX (X:=L3) (Y:= []) (List.append_nil _).symm rfl rfl Tryz.call116 (fun w' aB bD aw=>HW L3 (addF G bf) (fF S dw) k ⟨0,name,[],S.files.length⟩ _ w' bD aw nD aW ⟨bp,bn,rfl,by show Sx.look L3 bp=some (iL ((G.fb++ [bf]).getD S.files.length 0));rw[tM _ _ hP.len];exact WO,vN⟩ (fun h=>by cases h) (fun _=>by show S.files.length< (S.files++ [dw]).length;simp) (gG k aW)) (fun v4 D4 cv bK=> ?_)
   rw[Nq] at bK
   obtain⟨rfl,bK⟩:=bK
   simp only at bK
   have gQ:=cP.came0 cv
   rw[List.append_nil]
   refine ko @au ?_
   first|with_reducible refine ks [] @au ?_|refine kp @au ?_
   refine⟨_,(ke @au), ?_⟩
   rw[if_neg nF,hq,hf]
   simp only
   by_cases dp: (aJ S).2=0
   ·rw[if_neg (by rw[dp];simp)] at bK
    rw[if_neg (by rw[dp];simp)]
    obtain⟨v5,pQ⟩:=bK
    rw[hk]
    exact⟨gQ,by rw[dp];rfl,setP (addF G bf) k v5,rfl,pQ⟩
   ·rw[if_pos dp] at bK
    rw[if_pos dp]
    subst bK
    obtain⟨aQ,aZ,ed⟩:=j9 S
    exact⟨gQ,rfl,G,rfl,co.setDisk (aJ S).1 aQ aZ (mr hP.ok)⟩
theorem ZH (X:aA) (G:DkG) (S:DiskL) (dir name:List UInt8) (w:World) (hX: ∀p,p∈X→w.heap[p.1]? =some p.2) (hn: (keys X).Nodup) (hP:DkP X G S) (kG:name.length<1099511627776) (gG: ∀k,k<3→(S.dir k).pend.length<1000000):
  Rets Tryz.prog 77 #[vp G.bd 0,vs dir,vs name] w (XS w X (fun v D=>v=vi ((jT S dir name).2:Nat)∧ ∃G',G'.bd=G.bd∧DkP D G' (jT S dir name).1)):=by
 refine Rets.enterX Tryz.func77 rfl (rs:= [.tmp 6]) Tryz.results77 Tryz.ntmps77 hX hn ?_
 refine kf ?_
 first|with_reducible refine ks [] @au ?_|refine kp @au ?_
 refine Ow.buildSlice (e:=9) #[vs name] rfl rfl (by kernel_rfl) fun b1 aQ aF=> ?_
 have aa:=hP.mono (X':=X++ [(b1,Obj.cells #[vs name] 9 (0,0))]) fun b o h=>bL h
 have cm:=(Ext.refl w X).app (o:=Obj.cells #[vs name] 9 (0,0)) aF
 have fV: (b1,Obj.cells #[vs name] 9 (0,0))∈X++ [(b1,Obj.cells #[vs name] 9 (0,0))]:=by simp
 generalize X++ [(b1,Obj.cells #[vs name] 9 (0,0))]=L1 at*
 refine ko @au ?_
 refine Ow.callC rfl rfl Tryz.call80 (fun w' aB=>Rets.toX (sy w' G S dir (vsl b1 0 1 1) [name] (aa.world aB) (ns (aB.has _ _ fV)) (by simp) (by simpa using kG))) (fun B2 v2 D2 bz dI eP be=> ?_)
 obtain⟨rfl,be⟩:=be
 rw[List.append_nil]
 clear fV bz eP
 unfold jT atD
 rcases be with⟨he,rfl⟩ | ⟨he,k,hk,rfl⟩
 ·have e1:=kP he
  refine ko @au ?_
  first|with_reducible refine ks [] (And.intro @au @e1) ?_|refine kp (And.intro @au @e1) ?_
  refine⟨_,(ke @au), ?_⟩
  rw[if_pos he]
  exact⟨cm,rfl,G,rfl,aa⟩
 ·have nF: ¬ (dF S dir [name]≠0):=by rw[he];simp
  have aW:=(dH hk).1
  have fB:=aY (w0:=w) (aa.dir k aW)
  obtain⟨os,ms,gY,fh,iB⟩:=aa.seen k aW
  have kK:=aY (w0:=w) gY
  have e1: ((0:Int) !=0)=false:=rfl
  refine ko @au ?_
  first|with_reducible refine ks [] (And.intro @au (And.intro @e1 (@fB))) ?_|refine kp (And.intro @au (And.intro @e1 (@fB))) ?_
  refine Ow.mapGetG (encK:=vs) (encV:=ag) (k:=name) (z:=none) rfl rfl Tryz.underlying127 jJ zrPf rfl rfl kK fh ?_
  rw[iB.get (hP.ok.seen k aW).nodup]
  show Ow _ _ _ _ _ _ _ _
  have hq: (bv dir).bind (fun k=>aR (S.dir k).seen name)=aR (S.dir k).seen name:=by rw[hk];rfl
  cases hf:aR (S.dir k).seen name with
  |none=>
   have g3:ag none= .pointer none:=rfl
   refine ko (And.intro @au @g3) ?_
   first|with_reducible refine ks [] @au ?_|refine kp @au ?_
   refine⟨_,(ke @au), ?_⟩
   rw[if_neg nF,hq,hf]
   exact⟨cm,rfl,G,rfl,aa⟩
  |some n=>
   have hp: ∀q:Nat,ag (some q)=vp q 0:=fun _=>rfl
   refine ko (And.intro @au @hp) ?_
   first|with_reducible refine ks [] @au ?_|refine kp @au ?_
   refine Ow.callC rfl rfl Tryz.call122 (fun w' aB=>V3_ name w') (fun B3 v3 D3 ew n8 gR nE=> ?_)
   obtain⟨bn,rfl,fc⟩:=nE
   have co:=aa.mono (X':=L1++D3) fun b o h=>bL h
   have vN:=Ek ew gR fc
   have cP:Ext w X (L1++D3):=⟨fun c hc=>by
    rw[bM] at hc
    rcases List.mem_append.1 hc with hc|hc
    ·exact cm.new c hc
    ·exact .inr (Nat.le_trans n8 (gR.le c hc)),fun c hc=>by rw[bM];exact List.mem_append_left _ (cm.all c hc)⟩
   generalize L1++D3=L3 at*
   refine ko @au ?_
   refine Ow.callX (X:=L3) (Y:= []) (List.append_nil _).symm rfl rfl Tryz.call116 (fun w' aB bD aw=>HW L3 G S k ⟨2,name,[],0⟩ _ w' bD aw co aW ⟨bn,rfl,vN⟩ (fun h=>by cases h) (fun h=>by cases h) (gG k aW)) (fun v4 D4 cv bK=> ?_)
   obtain⟨rfl,bK⟩:=bK
   have gQ:=cP.came0 cv
   rw[List.append_nil]
   refine ko @au ?_
   first|with_reducible refine ks [] @au ?_|refine kp @au ?_
   refine⟨_,(ke @au), ?_⟩
   rw[if_neg nF,hq,hf]
   simp only
   by_cases dp: (aJ S).2=0
   ·rw[if_neg (by rw[dp];simp)] at bK
    rw[if_neg (by rw[dp];simp)]
    obtain⟨v5,pQ⟩:=bK
    rw[hk]
    exact⟨gQ,by rw[dp];rfl,setP G k v5,rfl,pQ⟩
   ·rw[if_pos dp] at bK
    rw[if_pos dp]
    subst bK
    obtain⟨aQ,aZ,ed⟩:=j9 S
    exact⟨gQ,rfl,G,rfl,co.setDisk (aJ S).1 aQ aZ (mr hP.ok)⟩
theorem K0 (X:aA) (G:DkG) (S:DiskL) (dir name to:List UInt8) (w:World) (hX: ∀p,p∈X→w.heap[p.1]? =some p.2) (hn: (keys X).Nodup) (hP:DkP X G S) (kG:name.length<1099511627776) (hto:to.length<1099511627776) (gG: ∀k,k<3→(S.dir k).pend.length<1000000):
  Rets Tryz.prog 76 #[vp G.bd 0,vs dir,vs name,vs to] w (XS w X (fun v D=>v=vi ((j8 S dir name to).2:Nat)∧ ∃G',G'.bd=G.bd∧DkP D G' (j8 S dir name to).1)):=by
 refine Rets.enterX Tryz.func76 rfl (rs:= [.tmp 8]) Tryz.results76 Tryz.ntmps76 hX hn ?_
 refine kf ?_
 first|with_reducible refine ks [] @au ?_|refine kp @au ?_
 refine Ow.box rfl rfl fun b6 pS j7=> ?_
 simp only[d9,cu,d8]
 refine ko @au ?_
 refine Ow.box rfl rfl fun b7 x3 ol=> ?_
 simp only[d9,cu,d8]
 refine Ow.permL (M:=X++ [(b6,dS name)]++ [(b7,dS to)]) (List.Perm.refl _) ?_
 have nC:=hP.mono (X':=X++ [(b6,dS name)]++ [(b7,dS to)]) fun b o h=>bL (bL h)
 have nA:=((Ext.refl w X).app (o:=dS name) j7).app (o:=dS to) ol
 have sQ:Sx.look (X++ [(b6,dS name)]++ [(b7,dS to)]) b6=some (dS name):=bL (pB pS)
 have sR:Sx.look (X++ [(b6,dS name)]++ [(b7,dS to)]) b7=some (dS to):=pB x3
 generalize X++ [(b6,dS name)]++ [(b7,dS to)]=L0 at*
 have pb:=aY (w0:=w) sQ
 have jS:=aY (w0:=w) sR
 refine ko @au ?_
 first|with_reducible refine ks [] (And.intro @au (And.intro @pb (@jS))) ?_|refine kp (And.intro @au (And.intro @pb (@jS))) ?_
 refine Ow.buildSlice (e:=9) #[vs name,vs to] rfl rfl (by kernel_rfl) fun b1 aQ aF=> ?_
 have aa:=nC.mono (X':=L0++ [(b1,Obj.cells #[vs name,vs to] 9 (0,0))]) fun b o h=>bL h
 have cm:=nA.app (o:=Obj.cells #[vs name,vs to] 9 (0,0)) aF
 have fV: (b1,Obj.cells #[vs name,vs to] 9 (0,0))∈L0++ [(b1,Obj.cells #[vs name,vs to] 9 (0,0))]:=by simp
 have sQ:=bL (M:= [(b1,Obj.cells #[vs name,vs to] 9 (0,0))]) sQ
 have sR:=bL (M:= [(b1,Obj.cells #[vs name,vs to] 9 (0,0))]) sR
 generalize L0++ [(b1,Obj.cells #[vs name,vs to] 9 (0,0))]=L1 at*
 have pb:=aY (w0:=w) sQ
 have jS:=aY (w0:=w) sR
 have Dj: ∀s,s∈ [name,to]→s.length<1099511627776:=by
  intro s hs
  simp only[List.mem_cons,List.not_mem_nil,or_false] at hs
  rcases hs with rfl|rfl
  ·exact kG
  ·exact hto
 refine ko @au ?_
 refine Ow.callC rfl rfl Tryz.call80 (fun w' aB=>Rets.toX (sy w' G S dir (vsl b1 0 2 2) [name,to] (aa.world aB) (UY (aB.has _ _ fV)) (by simp) Dj)) (fun B2 v2 D2 bz dI eP be=> ?_)
 obtain⟨rfl,be⟩:=be
 rw[List.append_nil]
 clear fV bz eP Dj
 unfold j8 atD
 rcases be with⟨he,rfl⟩ | ⟨he,k,hk,rfl⟩
 ·have e1:=kP he
  refine ko @au ?_
  first|with_reducible refine ks [] (And.intro @au @e1) ?_|refine kp (And.intro @au @e1) ?_
  refine⟨_,(ke @au), ?_⟩
  rw[if_pos he]
  exact⟨cm,rfl,G,rfl,aa⟩
 ·have nF: ¬ (dF S dir [name,to]≠0):=by rw[he];simp
  have aW:=(dH hk).1
  have fB:=aY (w0:=w) (aa.dir k aW)
  obtain⟨os,ms,gY,fh,iB⟩:=aa.seen k aW
  have kK:=aY (w0:=w) gY
  have e1: ((0:Int) !=0)=false:=rfl
  have hq: (bv dir).bind (fun k=>aR (S.dir k).seen name)=aR (S.dir k).seen name:=by rw[hk];rfl
  refine ko @au ?_
  first|with_reducible refine ks [] (And.intro @au @e1) ?_|refine kp (And.intro @au @e1) ?_
  refine Cw.regionS [G.d k,b6] [0,1,2,3,4,5,6,7] [] (by kernel_rfl) (by kernel_rfl) (by kernel_rfl) ?_
  simp only[ap, ↓ao, ↓ac, ↓aj, ↓ai,ad]
  refine kq (And.intro @au (And.intro @fB (@pb))) ?_
  refine Ow.soft rfl rfl rfl ?_
  refine Ow.mapGetG (encK:=vs) (encV:=ag) (k:=name) (z:=none) rfl rfl Tryz.underlying127 jJ zrPf rfl rfl kK fh ?_
  with_reducible refine Ow.nil ?_
  refine⟨by intro b hb;simp only[List.mem_cons,List.not_mem_nil,or_false] at hb;(try subst hb);rfl, ?_⟩
  rw[iB.get (hP.ok.seen k aW).nodup]
  show Ow _ _ _ _ _ _ _ _
  cases hf:aR (S.dir k).seen name with
  |none=>
   have g3:ag none= .pointer none:=rfl
   refine kq (And.intro @au @g3) ?_
   try with_reducible refine Ow.nil ?_
   first|with_reducible refine ks [] @au ?_|refine kp @au ?_
   refine⟨_,(ke @au), ?_⟩
   rw[if_neg nF,hq,hf]
   exact⟨cm,rfl,G,rfl,aa⟩
  |some n=>
   have hp: ∀q:Nat,ag (some q)=vp q 0:=fun _=>rfl
   have sG:G.bd∈keys L1:=cJ aa.disk
   obtain⟨aQ,aZ,ed⟩:=j9 S
   refine kq (And.intro @au @hp) ?_
   try with_reducible refine Ow.nil ?_
   cases oQ: (name==to) with
   |true=>
    have rD:name=to:=eq_of_beq oQ
    first|with_reducible refine ks [] (And.intro @au (And.intro @pb (And.intro @jS (@oQ)))) ?_|refine kp (And.intro @au (And.intro @pb (And.intro @jS (@oQ)))) ?_
    refine Ow.callM rfl rfl Tryz.call81 sG (fun w' aB=>EN G.bd G.bm S w' hP.ok.fuse (aB.has _ _ (cO aa.disk))) ?_
    have co:=aa.setDisk (aJ S).1 aQ aZ (mr hP.ok)
    have cP:=cm.setB (b:=G.bd) (o:=bI G.bm (aJ S).1)
    generalize setB L1 G.bd (bI G.bm (aJ S).1)=L2 at*
    refine ko @au ?_
    first|with_reducible refine ks [] @au ?_|refine kp @au ?_
    refine⟨_,(ke @au), ?_⟩
    rw[if_neg nF,hq,hf]
    simp only
    rw[if_pos rD]
    exact⟨cP,rfl,G,rfl,co⟩
   |false=>
    have rD:name≠to:=fun e=>by rw[e] at oQ;simp at oQ
    first|with_reducible refine ks [] (And.intro @au (And.intro @pb (And.intro @jS (@oQ)))) ?_|refine kp (And.intro @au (And.intro @pb (And.intro @jS (@oQ)))) ?_
    simp only[List.map_toArray,List.map_cons,List.map_nil,d9,cu,d8]
    refine Ow.callX (X:=L1) (Y:= []) (List.append_nil _).symm rfl rfl Tryz.call116 (fun w' aB bD aw=>HW L1 G S k ⟨1,name,to,0⟩ (.func (.func 121) #[] #[vp b6 0,vp b7 0]) w' bD aw aa aW ⟨b6,b7,rfl,sQ,sR⟩ (fun _=>⟨by rw[hf];simp,rD⟩) (fun h=>by cases h) (gG k aW)) (fun v4 D4 cv bK=> ?_)
    obtain⟨rfl,bK⟩:=bK
    have gQ:=cm.came0 cv
    rw[List.append_nil]
    refine ko @au ?_
    first|with_reducible refine ks [] @au ?_|refine kp @au ?_
    refine⟨_,(ke @au), ?_⟩
    rw[if_neg nF,hq,hf]
    simp only
    rw[if_neg rD]
    by_cases dp: (aJ S).2=0
    ·rw[if_neg (by rw[dp];simp)] at bK
     rw[if_neg (by rw[dp];simp)]
     obtain⟨v5,pQ⟩:=bK
     rw[hk]
     exact⟨gQ,by rw[dp];rfl,setP G k v5,rfl,pQ⟩
    ·rw[if_pos dp] at bK
     rw[if_pos dp]
     subst bK
     exact⟨gQ,rfl,G,rfl,aa.setDisk (aJ S).1 aQ aZ (mr hP.ok)⟩
end Go.Proofs
end
section
open Go Go.Proofs Go.Sx Go.StP
namespace Go.Proofs
set_option maxRecDepth 10000
set_option maxHeartbeats 400000
set_option linter.unusedSimpArgs false
structure CpG where
 L:aA
 it:Obj
 o:Obj
 dn:List (List UInt8×Option Nat)
 lf:List (List UInt8×Option Nat)
theorem HD {α β:Type} [BEq α] [LawfulBEq α] {k:α} {v:β}: ∀ {m:List (α×β)},(∀p,p∈m→p.1≠k)→updG k v m=m++ [(k,v)]
 | [],_=>rfl
 |p::r,h=>by
  have h1: (k==p.1)=false:=beq_eq_false_iff_ne.2 fun e=>h p List.mem_cons_self e.symm
  unfold updG
  rw[if_neg (by rw[h1];simp),HD fun q hq=>h q (List.mem_cons_of_mem _ hq)];rfl
set_option linter.defProp false
def ig:=And.intro (And.intro (And.intro (@ay) (@ax)) (And.intro (@Sx.tup2_0) (@Sx.tup2_1))) (And.intro (And.intro (@t8) (@Sx.tup3_0)) (And.intro (@Sx.tup3_1) (@Sx.tup3_2)))
theorem O6 (X:aA) (bt bs:Nat) (ot os:Obj) (m:List (List UInt8×Option Nat)) (w:World) (hX: ∀p,p∈X→w.heap[p.1]? =some p.2) (hn: (keys X).Nodup)
  (ht:Sx.look X bt=some ot) (ju:eF vs ag ot ([]:List (List UInt8×Option Nat))) (hs:Sx.look X bs=some os) (fh:eF vs ag os m) (aO:bt≠bs) (bE: (m.map Prod.fst).Nodup):
  Rets Tryz.prog 120 #[vm bt,vm bs] w (XS w X (fun v D=>v=bu []∧(∀b o,b≠bt→Sx.look X b=some o→Sx.look D b=some o)∧ ∃o' m',Sx.look D bt=some o'∧eF vs ag o' m'∧m'.Perm m)):=by
 refine Rets.enterX Tryz.func120 rfl (rs:= []) Tryz.results120 Tryz.ntmps120 hX hn ?_
 refine kf ?_
 first|with_reducible refine ks [] @ig ?_|refine kp @ig ?_
 refine Ow.rangeMapG (encK:=vs) (encV:=ag) rfl rfl Tryz.underlying127 rfl (aY hs) fh fun bi oi DH EF hI=> ?_
 have vL: ∀b o,Sx.look X b=some o→b≠bi:=fun b o hb e=>by
  have:=ae DH (cJ hb)
  omega
 refine ko @ig ?_
 first|with_reducible refine ks [] @ig ?_|refine kp @ig ?_
 refine Cw.loopG (G:=CpG) [8,9,10,11,12,4,5,13,14,15] (fun g=> []) (fun g=>g.L) (fun g=>Sx.look g.L bi=some g.it∧Sx.look g.L bt=some g.o∧eF vs ag g.o g.dn∧(∀b o,b≠bt→Sx.look X b=some o→Sx.look g.L b=some o)∧Ext w X g.L∧ItG vs ag g.it bs os m g.dn g.lf) (fun g=>g.lf.length) ⟨X++ [(bi,oi)],oi,ot,[],m⟩ rfl rfl ?_ ?_
 ·exact⟨pB DH,bL ht,ju,fun b o _ hb=>bL hb,(Ext.refl w X).app EF,hI⟩
 intro g j hg
 refine kv ?_
 clear hI
 obtain⟨L,it,o,dn,lf⟩:=g
 simp only at hg ⊢
 obtain⟨xB,aD,lw,fg,hE,hI⟩:=hg
 have Fy:=fg bs os (Ne.symm aO) hs
 have dC:bt≠bi:=vL _ _ ht
 have Xg:bs≠bi:=vL _ _ hs
 first|with_reducible refine ks [] @ig ?_|refine kp @ig ?_
 refine Ow.nextMapG rfl rfl rfl xB (aY Fy) hI (fun kF=> ?_) (fun p it' lf' lG l6=> ?_)
 ·subst kF
  have hp:=se hI
  rw[List.append_nil] at hp
  refine ko @ig ?_
  first|with_reducible refine ks [] @ig ?_|refine kp @ig ?_
  refine⟨_,(ke @ig), ?_⟩
  exact⟨hE,rfl,fg,o,dn,aD,lw,hp⟩
 ·have h1:Sx.look (setB L bi it') bi=some it':=jK xB
  have h2:Sx.look (setB L bi it') bt=some o:=by rw[eO (Ne.symm dC)];exact aD
  have h3:Sx.look (setB L bi it') bs=some os:=by rw[eO (Ne.symm Xg)];exact Fy
  have h4: ∀b o,b≠bt→Sx.look X b=some o→Sx.look (setB L bi it') b=some o:=fun b o hb hx=>by rw[eO (Ne.symm (vL _ _ hx))];exact fg b o hb hx
  have cm:=hE.setB (b:=bi) (o:=it')
  generalize setB L bi it'=L1 at*
  refine ko @ig ?_
  first|with_reducible refine ks [] @ig ?_|refine kp @ig ?_
  refine Ow.entryMapG (encK:=vs) (encV:=ag) rfl rfl rfl (aY h1) (aY h3) l6 ?_
  obtain⟨s,q⟩:=p
  have hp:=se l6
  have Fs: ∀p,p∈dn→p.1≠s:=by
   have h5:=((hp.map Prod.fst).nodup_iff).2 bE
   rw[List.map_append,List.map_append,List.nodup_append] at h5
   have h6:=h5.1
   rw[List.nodup_append] at h6
   intro p rL e
   exact h6.2.2 p.1 (List.mem_map_of_mem rL) s (by simp) e
  refine ko @ig ?_
  first|with_reducible refine ks [] @ig ?_|refine kp @ig ?_
  refine Ow.mapUpdateG (encK:=vs) (encV:=ag) (k:=s) (v:=q) rfl rfl Tryz.underlying127 jJ rfl rfl rfl h2 lw (fun o2 lu=> ?_)
  rw[HD Fs] at lu
  refine ko @ig ?_
  first|with_reducible refine ks [] @ig ?_|refine kp @ig ?_
  exact Again.mk ⟨setB L1 bt o2,it',o2,dn++ [(s,q)],lf'⟩ (by show lf'.length<lf.length;omega) ⟨by show Sx.look (setB L1 bt o2) bi=_;rw[eO dC];exact h1,jK h2,lu,fun b o hb hx=>by show Sx.look (setB L1 bt o2) b=_;rw[eO (Ne.symm hb)];exact h4 b o hb hx,cm.setB,l6⟩ rfl rfl
end Go.Proofs
end
section
open Go Go.Proofs Go.Sx Go.StP
namespace Go.Proofs
set_option maxRecDepth 10000
set_option maxHeartbeats 400000
set_option linter.unusedSimpArgs false
def nw (G:DkG) (k s':Nat):DkG:={G with s:=fun j=>if j=k then s' else G.s j,p:=fun j=>if j=k then .slice none 0 0 else G.p j}
theorem DkP.calm {X L:aA} {G:DkG} {S:DiskL} (h:DkP X G S) {k:Nat} (hk:k<3) {s':Nat} (d:DirL) (sK:d.pend= [])
  (keep: ∀b o,Sx.look X b=some o→b≠G.t k→b≠G.d k→Sx.look L b=some o) (hs:NmM L G.fb s' d.seen) (ht:NmM L G.fb (G.t k) d.stl)
  (hd:Sx.look L (G.d k)=some (cL s' (G.t k) (.slice none 0 0))) (fi:s'=G.s k∨s'∉keys X) (h1:SrtN d.seen) (h2:SrtN d.stl) (h3: ∀p,p∈d.seen→p.2<S.files.length) (h4: ∀p,p∈d.stl→p.2<S.files.length):
  DkP L (nw G k s') (dV S k d):=by
 obtain⟨otk,mtk,XN,X8,-⟩:=h.stl k hk
 have oQ: ∀b o,Sx.look X b=some o→tyO o≠none→b≠G.t k:=by
  rintro b o hb ht rfl
  rw[XN] at hb;cases hb;exact ht (iT X8)
 have bE: ∀b o,Sx.look X b=some o→tyO o≠some 130→b≠G.d k:=by
  rintro b o hb ht rfl
  rw[h.dir k hk] at hb;cases hb;exact ht rfl
 have K: ∀b o,Sx.look X b=some o→tyO o≠none→tyO o≠some 130→Sx.look L b=some o:=fun b o hb h1 h2=>keep b o hb (oQ b o hb h1) (bE b o hb h2)
 have KM: ∀b o,Sx.look X b=some o→tyO o=none→b≠G.t k→Sx.look L b=some o:=fun b o hb h1 h2=>keep b o hb h2 (bE b o hb (by rw[h1];intro e;cases e))
 have KF: ∀ {w c},FnP X G.fb w c→FnP L G.fb w c:=fun hw=>hw.keep fun b o hb hx=>K b o hb (by rcases hx with⟨s,rfl⟩ | ⟨a,rfl⟩<;>simp[tyO,dS,iL]) (by rcases hx with⟨s,rfl⟩ | ⟨a,rfl⟩<;>simp[tyO,dS,iL])
 have nM: ∀j,j<3→j≠k→s'≠G.s j:=fun j hj nH=>by
  rcases fi with e|e
  ·rw[e];exact(p6 h.nodm hk hj).1 (Ne.symm nH)
  ·obtain⟨o,m,ho,-⟩:=h.seen j hj
   rintro rfl;exact e (cJ ho)
 have dT: ∀j,j<3→s'≠G.t j:=fun j hj=>by
  rcases fi with e|e
  ·rw[e];exact(p6 h.nodm hk hj).2.2
  ·obtain⟨o,m,ho,-⟩:=h.stl j hj
   rintro rfl;exact e (cJ ho)
 have hs3:G.bm≠s':=by
  rcases fi with e|e
  ·rw[e];exact(h.nodb k hk).1
  ·obtain⟨o,ho,-⟩:=h.dirs
   rintro rfl;exact e (cJ ho)
 refine⟨?_, ?_, ?_, ?_, ?_, ?_, ?_,h.len,h.nodf, ?_,h.nodd, ?_, ?_, ?_⟩
 ·exact K _ _ h.disk (by simp[tyO,bI]) (by simp[tyO,bI])
 ·obtain⟨o,h1,h2⟩:=h.dirs
  exact⟨o,KM _ _ h1 (iT h2) (h.nodb k hk).2,h2⟩
 ·intro j hj
  show Sx.look L (G.d j)=some (cL (if j=k then s' else G.s j) (G.t j) (if j=k then .slice none 0 0 else G.p j))
  by_cases e:j=k
  ·subst e;rw[if_pos rfl,if_pos rfl];exact hd
  ·rw[if_neg e,if_neg e]
   exact keep _ _ (h.dir j hj) (oQ _ _ (h.dir j hj) (by simp[tyO,cL])) (CG h.nodd hj hk e)
 ·intro j hj
  show NmM L G.fb (if j=k then s' else G.s j) (if j=k then d else S.dir j).seen
  by_cases e:j=k
  ·subst e;rw[if_pos rfl,if_pos rfl];exact hs
  ·rw[if_neg e,if_neg e]
   obtain⟨o,m,h1,h2,h3⟩:=h.seen j hj
   exact⟨o,m,KM _ _ h1 (iT h2) (p6 h.nodm hj hk).2.2,h2,h3⟩
 ·intro j hj
  show NmM L G.fb (G.t j) (if j=k then d else S.dir j).stl
  by_cases e:j=k
  ·subst e;rw[if_pos rfl];exact ht
  ·rw[if_neg e]
   obtain⟨o,m,h1,h2,h3⟩:=h.stl j hj
   exact⟨o,m,KM _ _ h1 (iT h2) ((p6 h.nodm hj hk).2.1 e),h2,h3⟩
 ·intro j hj
  by_cases e:j=k
  ·subst e
   refine⟨[], ?_, ?_,fun i hi=>absurd hi (Nat.not_lt_zero _)⟩
   ·show 0=(if j=j then d else S.dir j:DirL).pend.length
    rw[if_pos rfl,sK];rfl
   ·show Gr L _ 1 (if j=j then .slice none 0 0 else G.p j) 0 []
    rw[if_pos rfl];exact Gr.nl
  ·obtain⟨vj,h1,h2,h3⟩:=h.pend j hj
   refine⟨vj, ?_, ?_, ?_⟩
   ·show vj.length=(if j=k then _ else S.dir j:DirL).pend.length
    rw[if_neg e];exact h1
   ·show Gr L _ 1 (if j=k then .slice none 0 0 else G.p j) vj.length vj
    rw[if_neg e]
    refine h2.keep fun b o hb ho=> ?_
    obtain⟨arr,ha⟩:=lh h2 hb
    rw[ho] at ha;cases ha
    exact K _ _ ho (by simp[tyO]) (by simp[tyO])
   ·intro i hi
    show FnP L G.fb (vj.getD i undef) ((if j=k then _ else S.dir j:DirL).pend.getD i k5)
    rw[if_neg e]
    exact KF (h3 i hi)
 ·intro n hn
  exact K _ _ (h.file n hn) (by simp[tyO,cR]) (by simp[tyO,cR])
 ·have hn:=h.nodm
  have ce:k=0∨k=1∨k=2:=by omega
  rcases ce with rfl|rfl|rfl
  ·show [s',G.s 1,G.s 2,G.t 0,G.t 1,G.t 2].Nodup
   exact List.nodup_cons.2 ⟨by simp only[List.mem_cons,List.not_mem_nil,or_false,not_or];exact⟨nM 1 (by omega) (by omega),nM 2 (by omega) (by omega),dT 0 (by omega),dT 1 (by omega),dT 2 (by omega)⟩,(List.nodup_cons.1 hn).2⟩
  ·show [G.s 0,s',G.s 2,G.t 0,G.t 1,G.t 2].Nodup
   refine(List.Perm.swap (G.s 0) s' _).nodup_iff.1 ?_
   exact List.nodup_cons.2 ⟨by simp only[List.mem_cons,List.not_mem_nil,or_false,not_or];exact⟨nM 0 (by omega) (by omega),nM 2 (by omega) (by omega),dT 0 (by omega),dT 1 (by omega),dT 2 (by omega)⟩,(List.nodup_cons.1 ((List.Perm.swap (G.s 0) (G.s 1) _).nodup_iff.2 hn)).2⟩
  ·show [G.s 0,G.s 1,s',G.t 0,G.t 1,G.t 2].Nodup
   have hp: ∀x:Nat,(x:: [G.s 0,G.s 1,G.t 0,G.t 1,G.t 2]).Perm [G.s 0,G.s 1,x,G.t 0,G.t 1,G.t 2]:=fun x=>((List.perm_middle (l₁:= [G.s 0,G.s 1]) (a:=x) (l₂:= [G.t 0,G.t 1,G.t 2]))).symm
   refine(hp s').nodup_iff.1 ?_
   exact List.nodup_cons.2 ⟨by simp only[List.mem_cons,List.not_mem_nil,or_false,not_or];exact⟨nM 0 (by omega) (by omega),nM 1 (by omega) (by omega),dT 0 (by omega),dT 1 (by omega),dT 2 (by omega)⟩,(List.nodup_cons.1 ((hp (G.s 2)).nodup_iff.2 hn)).2⟩
 ·intro j hj
  show G.bm≠ (if j=k then s' else G.s j)∧G.bm≠G.t j
  by_cases e:j=k
  ·rw[if_pos e];exact⟨hs3,(h.nodb j hj).2⟩
  ·rw[if_neg e];exact h.nodb j hj
 ·intro i j hi hj mW b hb
  show slB (if j=k then .slice none 0 0 else G.p j)≠some b
  have dK:slB (if i=k then .slice none 0 0 else G.p i)=some b:=hb
  by_cases ei:i=k
  ·rw[if_pos ei] at dK;cases dK
  ·rw[if_neg ei] at dK
   by_cases ej:j=k
   ·rw[if_pos ej];intro e;cases e
   ·rw[if_neg ej];exact h.nodp i j hi hj mW b dK
 ·exact xX h.ok _ h1 h2 h3 h4 (fun c hc=>by rw[sK] at hc;cases hc)
set_option linter.defProp false
def im:=And.intro (And.intro (And.intro (@ay) (@ax)) (And.intro (@m7) (@nS))) (And.intro (And.intro (@nQ) (@nR)) (And.intro (@Sx.tup2_0) (@Sx.tup2_1)))
def oz (S:DiskL) (k:Nat):DiskL:=dV S k ⟨(S.dir k).seen,(S.dir k).seen,[]⟩
theorem YC (X:aA) (G:DkG) (S:DiskL) (k:Nat) (w:World) (hX: ∀p,p∈X→w.heap[p.1]? =some p.2) (hn: (keys X).Nodup) (hP:DkP X G S) (hk:k<3):
  Rets Tryz.prog 75 #[vp (G.d k) 0] w (XS w X (fun v D=>v=bu []∧DkP D (nw G k (G.s k)) (oz S k)∧ ∀b o,Sx.look X b=some o→b≠G.t k→b≠G.d k→Sx.look D b=some o)):=by
 obtain⟨ot,mt,pY,ju,oQ⟩:=hP.stl k hk
 obtain⟨os,ms,gY,fh,du⟩:=hP.seen k hk
 have jn:=hP.dir k hk
 have bF:G.s k≠G.t k:=(p6 hP.nodm hk hk).2.2
 have kG: ∀ {b:Nat} {o:Obj} {m:List (List UInt8×Option Nat)},Sx.look X b=some o→eF vs ag o m→G.d k≠b:=by
  rintro b o m hb hm rfl
  rw[jn] at hb;cases hb
  obtain⟨es,cl,h,-⟩:=hm;cases h
 have DT:=kG pY ju
 refine Rets.enterX Tryz.func75 rfl (rs:= []) Tryz.results75 Tryz.ntmps75 hX hn ?_
 refine kf ?_
 ((try with_reducible refine Cw.go [] ?_);(try simp(disch:=(first|assumption|omega| (simp only[cT,cS,UInt64.reduceToNat];try omega))) only[↓Sx.S0,Sx.S1,Tryz.fx,im,Nat.reduceAdd,Nat.reducePow,Int.reducePow,Nat.reduceBEq, ↓reduceIte,UInt8.reduceToNat,UInt16.reduceToNat,UInt32.reduceToNat,UInt64.reduceToNat,Int.reduceToNat,(aY (w0:=w) jn)]))
 refine Ow.mapClearG (encK:=vs) (encV:=ag) rfl rfl Tryz.underlying127 rfl pY ju (fun o1 fV=> ?_)
 have hO:Only X (setB X (G.t k) o1) (G.t k) o1:=Only.set pY
 have cm:=(Ext.refl w X).setB (b:=G.t k) (o:=o1)
 generalize setB X (G.t k) o1=L1 at*
 have DS:Sx.look L1 (G.d k)=some (cL (G.s k) (G.t k) (G.p k)):=(hO.rest _ DT).trans jn
 have Do:Sx.look L1 (G.s k)=some os:=(hO.rest _ bF).trans gY
 have oW:=aY (w0:=w) DS
 refine ko @im ?_
 first|with_reducible refine ks [] @im ?_|refine kp @im ?_
 refine Cw.regionS [G.d k] [0,1,2,4,5,6,3,7,8] [] (by kernel_rfl) (by kernel_rfl) (by kernel_rfl) ?_
 simp only[ap, ↓ao, ↓ac, ↓aj, ↓ai,ad]
 refine kq (And.intro @im @oW) ?_
 refine Ow.soft rfl rfl rfl ?_
 refine Ow.callX (X:=L1) (Y:= []) (List.append_nil _).symm rfl rfl Tryz.call120 (fun w' aB bD aw=>O6 L1 (G.t k) (G.s k) o1 os ms w' bD aw hO.at_ fV Do fh (Ne.symm bF) (du.keys (hP.ok.seen k hk).nodup)) (fun v4 D4 cv bK=> ?_)
 obtain⟨rfl,sP,o2,m2,i9,lu,lN⟩:=bK
 have cP:=cm.came0 cv
 rw[List.append_nil]
 have j0:=sP _ _ DT DS
 have ly:=aY (w0:=w) j0
 with_reducible refine Ow.nil ?_
 refine⟨fun b hb=>by rw[List.mem_singleton] at hb;subst hb;rw[oW,ly], ?_⟩
 refine kq @im ?_
 try with_reducible refine Ow.nil ?_
 have st:=fun x=>H5 (G.s k) (G.t k) (G.p k) (.slice none 0 0) x ⟨rfl,rfl⟩
 first|with_reducible refine ks [] (And.intro @im (And.intro @j0 (@st))) ?_|refine kp (And.intro @im (And.intro @j0 (@st))) ?_
 refine⟨_,(ke @im), ?_⟩
 have fg: ∀b o,Sx.look X b=some o→b≠G.t k→b≠G.d k→Sx.look (setB D4 (G.d k) (cL (G.s k) (G.t k) (.slice none 0 0))) b=some o:=fun b o hb h1 h2=>by
  rw[eO (Ne.symm h2)]
  exact sP _ _ h1 ((hO.rest _ h1).trans hb)
 refine⟨cP.setB,rfl, ?_,fg⟩
 have rK:=sP _ _ bF Do
 refine hP.calm hk ⟨(S.dir k).seen,(S.dir k).seen,[]⟩ rfl fg ⟨os,ms, ?_,fh,du⟩ ⟨o2,m2, ?_,lu,lN.trans du⟩ (jK j0) (.inl rfl) (hP.ok.seen k hk) (hP.ok.seen k hk) (hP.ok.seenN k hk) (hP.ok.seenN k hk)
 ·rw[eO (kG gY fh)];exact rK
 ·rw[eO DT];exact i9
end Go.Proofs
end
section
open Go Go.Proofs Go.Sx Go.StP
namespace Go.Proofs
set_option maxRecDepth 10000
set_option maxHeartbeats 400000
set_option linter.unusedSimpArgs false
def fQ (S:DiskL) (dir:List UInt8):DiskL×Nat:=
 if dF S dir []≠0 then(S,dF S dir []) else if(aJ S).2≠0 then aJ S else(oz (aJ S).1 ((bv dir).getD 0),0)
set_option linter.defProp false
def iX:=And.intro (And.intro (And.intro (@ay) (@ax)) (And.intro (@m7) (@nS))) (And.intro (And.intro (@nQ) (@nR)) (And.intro (@Sx.tup2_0) (@Sx.tup2_1)))
theorem YS (X:aA) (G:DkG) (S:DiskL) (dir:List UInt8) (w:World) (hX: ∀p,p∈X→w.heap[p.1]? =some p.2) (hn: (keys X).Nodup) (hP:DkP X G S):
  Rets Tryz.prog 21 #[vp G.bd 0,vs dir] w (XS w X (fun v D=>v=vi ((fQ S dir).2:Nat)∧ ∃G',G'.bd=G.bd∧DkP D G' (fQ S dir).1)):=by
 refine Rets.enterX Tryz.func21 rfl (rs:= [.tmp 4]) Tryz.results21 Tryz.ntmps21 hX hn ?_
 refine kf ?_
 first|with_reducible refine ks [] @iX ?_|refine kp @iX ?_
 refine Ow.callC rfl rfl Tryz.call80 (fun w' aB=>Rets.toX (sy w' G S dir (.slice none 0 0) [] (hP.world aB) (SlV.nil w') (by simp) (fun s hs=>by cases hs))) (fun B2 v2 D2 bz dI eP be=> ?_)
 obtain⟨rfl,be⟩:=be
 rw[List.append_nil]
 unfold fQ
 rcases be with⟨he,rfl⟩ | ⟨he,k,hk,rfl⟩
 ·have e1:=kP he
  refine ko @iX ?_
  first|with_reducible refine ks [] (And.intro @iX @e1) ?_|refine kp (And.intro @iX @e1) ?_
  refine⟨_,(ke @iX), ?_⟩
  rw[if_pos he]
  exact⟨Ext.refl w X,rfl,G,rfl,hP⟩
 ·have nF: ¬ (dF S dir []≠0):=by rw[he];simp
  have aW:=(dH hk).1
  have e1: ((0:Int) !=0)=false:=rfl
  obtain⟨aQ,aZ,ed⟩:=j9 S
  refine ko @iX ?_
  first|with_reducible refine ks [] (And.intro @iX @e1) ?_|refine kp (And.intro @iX @e1) ?_
  refine Ow.callM rfl rfl Tryz.call81 (cJ hP.disk) (fun w' aB=>EN G.bd G.bm S w' hP.ok.fuse (aB.has _ _ (cO hP.disk))) ?_
  have co:=hP.setDisk (aJ S).1 aQ aZ (mr hP.ok)
  have cP:=(Ext.refl w X).setB (b:=G.bd) (o:=bI G.bm (aJ S).1)
  generalize setB X G.bd (bI G.bm (aJ S).1)=L2 at*
  by_cases fc: (aJ S).2=0
  ·have e2: (((aJ S).2:Int) !=0)=false:=by rw[fc];rfl
   refine ko (And.intro @iX @e2) ?_
   first|with_reducible refine ks [] @iX ?_|refine kp @iX ?_
   refine Ow.callX (X:=L2) (Y:= []) (List.append_nil _).symm rfl rfl Tryz.call75 (fun w' aB bD aw=>YC L2 G (aJ S).1 k w' bD aw co aW) (fun v4 D4 cv bK=> ?_)
   obtain⟨rfl,bK,-⟩:=bK
   have gQ:=cP.came0 cv
   rw[List.append_nil]
   refine ko @iX ?_
   first|with_reducible refine ks [] @iX ?_|refine kp @iX ?_
   refine⟨_,(ke @iX), ?_⟩
   rw[if_neg nF,if_neg (by rw[fc];simp),hk]
   exact⟨gQ,rfl,nw G k (G.s k),rfl,bK⟩
  ·have e2:=kP fc
   refine ko (And.intro @iX @e2) ?_
   first|with_reducible refine ks [] @iX ?_|refine kp @iX ?_
   refine⟨_,(ke @iX), ?_⟩
   rw[if_neg nF,if_pos fc]
   exact⟨cP,rfl,G,rfl,co⟩
def l5 (w:World):Prop:= ∃e fz,w.heap[0]? =some (.cells #[vs aG,vs kh,vs refD] e fz)
def d7 (quota:Int):DiskL:=⟨fun _=>⟨[],[],[]⟩,[],quota,0,false,false⟩
theorem PX (b:Nat) (q:Int):fW (cg Tryz.prog 123) (am Tryz.prog 123) [(0,vm b),(1,vi q)]=some (.agg #[vm b,vi q,vi 0, .bool false, .bool false]):=by
 rw[show cg Tryz.prog 123=some [(0,1),(1,1),(2,1),(3,1),(4,1)] from id (by kernel_rfl),show am Tryz.prog 123=some (.agg #[.map none,vi 0,vi 0, .bool false, .bool false]) from id (by kernel_rfl)];rfl
theorem Pw (a b:Nat):fW (cg Tryz.prog 130) (am Tryz.prog 130) [(0,vm a),(1,vm b)]=some (.agg #[vm a,vm b, .slice none 0 0]):=by
 rw[show cg Tryz.prog 130=some [(0,1),(1,1),(2,1)] from id (by kernel_rfl),show am Tryz.prog 130=some (.agg #[.map none, .map none, .slice none 0 0]) from id (by kernel_rfl)];rfl
theorem wm (e:TypeId) (fz:Nat×Nat):aI (some (true,3)) (some (.cells #[vs aG,vs kh,vs refD] e fz)) 0=some (.agg #[vs aG,vs kh,vs refD]):=rV _ e fz 3 rfl
theorem HA {k:Nat} (hk:k<3):p7 (.arr 3 (false,1)) (.agg #[vs aG,vs kh,vs refD]) (some (k:Int))=some (vs (eY k)):=by
 have:k=0∨k=1∨k=2:=by omega
 rcases this with rfl|rfl|rfl<;>rfl
def rt (d:Nat→Nat):Nat→List (List UInt8×Option Nat)
 |0=> []
 |k+1=>rt d k++ [(eY k,some (d k))]
theorem Y9 {d d':Nat→Nat}: ∀ {k:Nat},(∀j,j<k→d' j=d j)→rt d' k=rt d k
 |0,_=>rfl
 |k+1,h=>by
  unfold rt
  rw[Y9 fun j hj=>h j (by omega),h k (by omega)]
theorem AW {d:Nat→Nat} {j:Nat} (hj:j<3): ∀ {k:Nat},k≤j→ ∀p,p∈rt d k→p.1≠eY j
 |0,_,_,hp=>by cases hp
 |k+1,hk,p,hp=>by
  rcases List.mem_append.1 hp with hp|hp
  ·exact AW hj (by omega) p hp
  ·rw[List.mem_singleton.1 hp]
   intro e
   have h1:=pp (k:=k) (by omega)
   have h2:=pp hj
   have e':eY k=eY j:=e
   rw[e',h2] at h1
   cases h1;omega
structure NwG where
 L:aA
 o:Obj
 k:Nat
 d:Nat→Nat
 s:Nat→Nat
 t:Nat→Nat
def mtM (L:aA) (b:Nat):Prop:= ∃o,Sx.look L b=some o∧eF vs ag o ([]:List (List UInt8×Option Nat))
set_option linter.defProp false
def jB:=And.intro (And.intro (@ay) (And.intro (@ax) (@m7))) (And.intro (@nS) (And.intro (@nQ) (@nR)))
theorem yv (quota:Int) (w:World) (hq: -9223372036854775808≤quota∧quota<9223372036854775808) (hG:l5 w):
  Rets Tryz.prog 28 #[vi quota] w (XS w [] (fun v D=> ∃G,v=vp G.bd 0∧DkP D G (d7 quota))):=by
 obtain⟨e,fz,hg⟩:=hG
 refine Rets.enterX Tryz.func28 rfl (rs:= [.tmp 2]) Tryz.results28 Tryz.ntmps28 (fun p hp=>by cases hp) (by simp[keys]) ?_
 refine kf ?_
 first|with_reducible refine ks [] @jB ?_|refine kp @jB ?_
 refine Ow.makeMapG (encK:=vs) (encV:=ag) rfl rfl (fun bm om DK hwm hM=> ?_)
 rw[List.nil_append]
 refine ko @jB ?_
 refine Ow.build (.agg #[vm bm,vi quota,vi 0, .bool false, .bool false]) rfl (PX bm quota) ?_
 refine ko @jB ?_
 refine Ow.box rfl rfl fun bd cW xK=> ?_
 simp only[d9,cu,d8,aV]
 have oM:bm<bd:=ae cW (by simp[keys])
 refine Ow.permL (M:= [(bm,om)]++ [(bd,bI bm (d7 quota))]) (List.Perm.refl _) ?_
 have h0:Sx.look ([(bm,om)]++ [(bd,bI bm (d7 quota))]) bm=some om:=by simp[Sx.look]
 have h1:Sx.look ([(bm,om)]++ [(bd,bI bm (d7 quota))]) bd=some (bI bm (d7 quota)):=pB cW
 have hN:New w.heap.size ([(bm,om)]++ [(bd,bI bm (d7 quota))]):=⟨hwm,xK,trivial⟩
 generalize [(bm,om)]++ [(bd,bI bm (d7 quota))]=L0 at*
 have WW:=(Array.getElem?_eq_some_iff.1 hg).1
 have G9:aP w L0 0=some (.cells #[vs aG,vs kh,vs refD] e fz):=by rw[lW (hN.not WW)];exact hg
 refine ko @jB ?_
 first|with_reducible refine ks [] (And.intro @jB (And.intro @G9 (@wm))) ?_|refine kp (And.intro @jB (And.intro @G9 (@wm))) ?_
 refine Cw.loopG (G:=NwG) [12,13,5,14,15,16,17,18,19,20,21,22,23,11] (fun g=> [(11,vi g.k)]) (fun g=>g.L) (fun g=>g.k≤3∧Sx.look g.L bm=some g.o∧eF vs ag g.o (rt g.d g.k)∧Sx.look g.L bd=some (bI bm (d7 quota))∧New w.heap.size g.L∧ ∀j,j<g.k→Sx.look g.L (g.d j)=some (cL (g.s j) (g.t j) (.slice none 0 0))∧mtM g.L (g.s j)∧mtM g.L (g.t j)∧g.s j<g.t j∧g.t j<g.d j∧bd<g.s j∧ ∀i,i<j→g.d i<g.s j) (fun g=>3 - g.k) ⟨L0,om,0,fun _=>0,fun _=>0,fun _=>0⟩ rfl rfl ?_ ?_
 ·exact⟨Nat.zero_le _,h0,hM,h1,hN,fun j hj=>absurd hj (Nat.not_lt_zero _)⟩
 intro g j hg
 refine kv ?_
 clear h0 hM h1 hN G9
 obtain⟨L,o,k,d,s,t⟩:=g
 simp only at hg ⊢
 obtain⟨hk,nI,hM,rA,hN,fr⟩:=hg
 by_cases aD:k<3
 ·have d1:decide ((k:Int)<3)=true:=decide_eq_true (by omega)
  have ixk:=HA aD
  have rdd:=aY (w0:=w) rA
  first|with_reducible refine ks [] (And.intro @jB (And.intro @d1 (And.intro @ixk (@rdd)))) ?_|refine kp (And.intro @jB (And.intro @d1 (And.intro @ixk (@rdd)))) ?_
  refine Ow.makeMapG (encK:=vs) (encV:=ag) rfl rfl (fun bs os sH hws hMs=> ?_)
  refine ko @jB ?_
  refine Ow.makeMapG (encK:=vs) (encV:=ag) rfl rfl (fun bt ot Zj hwt hMt=> ?_)
  refine ko @jB ?_
  refine Ow.build (.agg #[vm bs,vm bt, .slice none 0 0]) rfl (Pw bs bt) ?_
  refine ko @jB ?_
  refine Ow.box rfl rfl fun br lk kM=> ?_
  simp only[d9,cu,d8,aV]
  refine Ow.permL (M:=L++ [(bs,os)]++ [(bt,ot)]++ [(br,cL bs bt (.slice none 0 0))]) (List.Perm.refl _) ?_
  have up: ∀b x,Sx.look L b=some x→Sx.look (L++ [(bs,os)]++ [(bt,ot)]++ [(br,cL bs bt (.slice none 0 0))]) b=some x:=fun b x h=>bL (bL (bL h))
  have ls:Sx.look (L++ [(bs,os)]++ [(bt,ot)]++ [(br,cL bs bt (.slice none 0 0))]) bs=some os:=bL (bL (pB sH))
  have lt:Sx.look (L++ [(bs,os)]++ [(bt,ot)]++ [(br,cL bs bt (.slice none 0 0))]) bt=some ot:=bL (pB Zj)
  have lr:Sx.look (L++ [(bs,os)]++ [(bt,ot)]++ [(br,cL bs bt (.slice none 0 0))]) br=some (cL bs bt (.slice none 0 0)):=pB lk
  have eE:New w.heap.size (L++ [(bs,os)]++ [(bt,ot)]++ [(br,cL bs bt (.slice none 0 0))]):=((hN.app (show New w.heap.size [(bs,os)] from⟨hws,trivial⟩)).app (show New w.heap.size [(bt,ot)] from⟨hwt,trivial⟩)).app (show New w.heap.size [(br,cL bs bt (.slice none 0 0))] from⟨kM,trivial⟩)
  have c1:bs<bt:=ae Zj (by rw[bM];simp[keys])
  have c2:bt<br:=ae lk (by rw[bM];simp[keys])
  have c3:bd<bs:=ae sH (cJ rA)
  have c4: ∀j,j<k→d j<bs:=fun j hj=>ae sH (cJ (fr j hj).1)
  have c5:bm<bs:=ae sH (cJ nI)
  generalize L++ [(bs,os)]++ [(bt,ot)]++ [(br,cL bs bt (.slice none 0 0))]=L1 at*
  refine ko @jB ?_
  refine Ow.mapUpdateG (encK:=vs) (encV:=ag) (k:=eY k) (v:=some br) rfl rfl Tryz.underlying121 jJ rfl rfl rfl (up _ _ nI) hM (fun o2 lu=> ?_)
  rw[HD (AW aD (Nat.le_refl _))] at lu
  have ne: ∀b x,b≠bm→Sx.look L1 b=some x→Sx.look (setB L1 bm o2) b=some x:=fun b x h1 h2=>by rw[eO (Ne.symm h1)];exact h2
  refine ko @jB ?_
  first|with_reducible refine ks [] @jB ?_|refine kp @jB ?_
  refine Again.mk ⟨setB L1 bm o2,o2,k+1,fun j=>if j=k then br else d j,fun j=>if j=k then bs else s j,fun j=>if j=k then bt else t j⟩ (by show 3 - (k+1)<3 - k;omega) ⟨aD,jK (up _ _ nI), ?_,ne _ _ (by omega) (up _ _ rA),New.of_le fun q hq=>eE.le q (by rwa [pg] at hq),fun j hj=> ?_⟩ rfl rfl
  ·show eF vs ag o2 (rt (fun j=>if j=k then br else d j) (k+1))
   unfold rt
   rw[Y9 (d:=d) fun j hj=>if_neg (by omega),if_pos rfl]
   exact lu
  ·show Sx.look (setB L1 bm o2) (if j=k then br else d j)=some (cL (if j=k then bs else s j) (if j=k then bt else t j) (.slice none 0 0))∧mtM (setB L1 bm o2) (if j=k then bs else s j)∧mtM (setB L1 bm o2) (if j=k then bt else t j)∧(if j=k then bs else s j)< (if j=k then bt else t j)∧(if j=k then bt else t j)< (if j=k then br else d j)∧bd< (if j=k then bs else s j)∧ ∀i,i<j→(if i=k then br else d i)< (if j=k then bs else s j)
   by_cases e:j=k
   ·subst e
    simp only[if_pos]
    refine⟨ne _ _ (by omega) lr,⟨os,ne _ _ (by omega) ls,hMs⟩,⟨ot,ne _ _ (by omega) lt,hMt⟩,c1,c2,c3,fun i hi=> ?_⟩
    rw[if_neg (by omega)];exact c4 i hi
   ·simp only[if_neg e]
    have fe:j<k:=by have:j<k+1:=hj;omega
    obtain⟨q1,⟨oo,q2,q3⟩,⟨oo2,q4,q5⟩,q6,q7,q8,q9⟩:=fr j fe
    refine⟨ne _ _ (by omega) (up _ _ q1),⟨oo,ne _ _ (by omega) (up _ _ q2),q3⟩,⟨oo2,ne _ _ (by omega) (up _ _ q4),q5⟩,q6,q7,q8,fun i hi=> ?_⟩
    rw[if_neg (by omega)];exact q9 i hi
 ·obtain rfl:k=3:=by omega
  have d1:decide (((3:Nat):Int)<3)=false:=rfl
  first|with_reducible refine ks [] (And.intro @jB @d1) ?_|refine kp (And.intro @jB @d1) ?_
  refine⟨_,(ke @jB), ?_⟩
  obtain⟨a1,a2,a3,a4,a5,a6,a7⟩:=fr 0 (by omega)
  obtain⟨b1,b2,b3,b4,b5,b6,b7⟩:=fr 1 (by omega)
  obtain⟨c1,c2,c3,c4,c5,c6,c7⟩:=fr 2 (by omega)
  have b8:=b7 0 (by omega)
  have c8:=c7 1 (by omega)
  refine⟨Ext.of_new hN,⟨bd,bm,d,s,t,fun _=> .slice none 0 0,[]⟩,rfl,rA,⟨o,nI,hM⟩,fun k hk=>(fr k hk).1,fun k hk=> ?_,fun k hk=> ?_,fun k hk=>⟨[],rfl,Gr.nl,fun i hi=>absurd hi (Nat.not_lt_zero _)⟩,fun n hn=>absurd hn (Nat.not_lt_zero _),rfl,List.nodup_nil, ?_, ?_,fun k hk=> ?_,fun i j hi hj mW b hb=>(by cases hb), ?_⟩
  ·obtain⟨x,y,z⟩:=(fr k hk).2.1
   exact⟨x,[],y,z,List.Perm.nil⟩
  ·obtain⟨x,y,z⟩:=(fr k hk).2.2.1
   exact⟨x,[],y,z,List.Perm.nil⟩
  ·show [s 0,s 1,s 2,t 0,t 1,t 2].Nodup
   simp only[List.nodup_cons,List.mem_cons,List.not_mem_nil,not_or,or_false,List.nodup_nil,and_true,not_false_eq_true]
   refine⟨⟨?_, ?_, ?_, ?_, ?_⟩,⟨?_, ?_, ?_, ?_⟩,⟨?_, ?_, ?_⟩,⟨?_, ?_⟩, ?_⟩<;>omega
  ·show [d 0,d 1,d 2].Nodup
   simp only[List.nodup_cons,List.mem_cons,List.not_mem_nil,not_or,or_false,List.nodup_nil,and_true,not_false_eq_true]
   refine⟨⟨?_, ?_⟩, ?_⟩<;>omega
  ·have:=(fr k hk).2.2.2
   show bm≠s k∧bm≠t k
   omega
  ·exact⟨fun _ _=>List.Pairwise.nil,fun _ _=>List.Pairwise.nil,fun _ _ p hp=>(by cases hp),fun _ _ p hp=>(by cases hp),fun _ _ c hc=>(by cases hc),fun f hf=>(by cases hf),⟨show(-9223372036854775808:Int)≤0 by decide,show(0:Int)<9223372036854775808 by decide,fun _=>show(0:Int)≤0 by decide⟩,hq⟩
end Go.Proofs
end
section
open Go Go.Proofs Go.Sx Go.StP
namespace Go.Proofs
set_option maxRecDepth 10000
set_option maxHeartbeats 400000
set_option linter.unusedSimpArgs false
structure FiL where
 dir:List UInt8
 name:List UInt8
 data:List UInt8
def fiC (r:FiL):List Value:= [vs r.dir]++ ([vs r.name]++ ([vs r.data]))
def fi0:FiL:=⟨[],[],[]⟩
theorem xw (r:FiL): (fiC r).length=3:=by simp[fiC]
theorem RI (r:FiL):Value.cells (.agg (fiC r).toArray)=(fiC r).toArray:=aV _
theorem T6 (r:FiL): (fiC r).all Value.oneCell'=true:=by
 unfold fiC
 simp only[List.all_append,List.all_cons,List.all_nil,rr,Bool.and_true,Bool.true_and]
 rfl
theorem zrFi:am Tryz.prog 36=some (.agg (fiC fi0).toArray):=id (by kernel_rfl)
theorem V6 (r:FiL):fiC r=([]:List Value)++ (([vs r.dir])++ ([vs r.name]++ ([vs r.data]))):=by
 unfold fiC;simp only[List.append_assoc,List.nil_append,List.append_nil]
theorem RW (r:FiL) (n:Nat) (E:TypeId) (fz:Nat×Nat):aI (some (false,n)) (some (.cells (fiC r).toArray E fz)) 0=some (vs r.dir):=by
 rw[V6];exact lS _ _ _ n E fz (by simp)
theorem CP (r:FiL):fiC r=(([vs r.dir]))++ (([vs r.name])++ ([vs r.data])):=by
 unfold fiC;simp only[List.append_assoc,List.nil_append,List.append_nil]
theorem Rm (r:FiL) (n:Nat) (E:TypeId) (fz:Nat×Nat):aI (some (false,n)) (some (.cells (fiC r).toArray E fz)) 1=some (vs r.name):=by
 rw[CP];exact lS _ _ _ n E fz (by simp)
theorem Su {w:World} {v:Value} {l:List FiL} {b off:Nat} {arr:Array Value} {E:TypeId} {fz:Nat×Nat} (h:RowS 3 fiC fi0 w v l b off arr E fz) {k:Nat} (hk:k<l.length) (n:Nat):aI (some (false,n)) (some (.cells arr E fz)) (off+k*3+1)=some (vs (l.getD k fi0).name):=by
 rw[RowS.cell h hk (by omega)];generalize l.getD k fi0=r;rw[CP];exact FF _ _ _ (by simp)
theorem C4 (r:FiL):fiC r=(([vs r.dir])++ ([vs r.name]))++ (([vs r.data])++ (([]:List Value))):=by
 unfold fiC;simp only[List.append_assoc,List.nil_append,List.append_nil]
theorem SX (r:FiL) (n:Nat) (E:TypeId) (fz:Nat×Nat):aI (some (false,n)) (some (.cells (fiC r).toArray E fz)) 2=some (vs r.data):=by
 rw[C4];exact lS _ _ _ n E fz (by simp)
theorem BX {w:World} {v:Value} {l:List FiL} {b off:Nat} {arr:Array Value} {E:TypeId} {fz:Nat×Nat} (h:RowS 3 fiC fi0 w v l b off arr E fz) {k:Nat} (hk:k<l.length) (n:Nat):aI (some (false,n)) (some (.cells arr E fz)) (off+k*3+2)=some (vs (l.getD k fi0).data):=by
 rw[RowS.cell h hk (by omega)];generalize l.getD k fi0=r;rw[C4];exact FF _ _ _ (by simp)
theorem TF (r:FiL) (E:TypeId) (fz:Nat×Nat):aI (some (true,3)) (some (.cells (fiC r).toArray E fz)) 0=some (.agg (fiC r).toArray):=rV _ E fz 3 (by rw[List.size_toArray,xw])
theorem Rn (old:Array Value) (r:FiL) (a:Bool) (E:TypeId) (h:old.size=3):ab (some (a,3)) (some (.cells old E (0,0))) 0 (.agg (fiC r).toArray)=some (.cells (fiC r).toArray E (0,0)):=xh _ a old E (xw r) (T6 r) h
theorem Q4 (r r':FiL) (a:Bool) (E:TypeId):ab (some (a,3)) (some (.cells (fiC r').toArray E (0,0))) 0 (.agg (fiC r).toArray)=some (.cells (fiC r).toArray E (0,0)):=Rn _ r a E (by rw[List.size_toArray,xw])
abbrev FiSl (w:World) (v:Value) (l:List FiL):Prop:=SlV 3 fiC fi0 w v l
theorem DkP.seen1 {X L:aA} {G:DkG} {S:DiskL} (h:DkP X G S) {k:Nat} (hk:k<3) {l':NmL} (keep: ∀b o,Sx.look X b=some o→b≠G.s k→Sx.look L b=some o) (hs:NmM L G.fb (G.s k) l') (h1:SrtN l') (h3: ∀p,p∈l'→p.2<S.files.length):
  DkP L G (dV S k ⟨l',(S.dir k).stl,(S.dir k).pend⟩):=by
 obtain⟨osk,msk,oS,oO,-⟩:=h.seen k hk
 have du: ∀b o,Sx.look X b=some o→tyO o≠none→b≠G.s k:=by
  rintro b o hb ht rfl
  rw[oS] at hb;cases hb;exact ht (iT oO)
 have K: ∀b o,Sx.look X b=some o→tyO o≠none→Sx.look L b=some o:=fun b o hb h1=>keep b o hb (du b o hb h1)
 have es: ∀j,(dV S k ⟨l',(S.dir k).stl,(S.dir k).pend⟩).dir j=if j=k then⟨l',(S.dir k).stl,(S.dir k).pend⟩ else S.dir j:=fun _=>rfl
 have e2: ∀j,((dV S k ⟨l',(S.dir k).stl,(S.dir k).pend⟩).dir j).stl=(S.dir j).stl:=fun j=>by
  rw[es];by_cases e:j=k
  ·subst e;rw[if_pos rfl]
  ·rw[if_neg e]
 have e3: ∀j,((dV S k ⟨l',(S.dir k).stl,(S.dir k).pend⟩).dir j).pend=(S.dir j).pend:=fun j=>by
  rw[es];by_cases e:j=k
  ·subst e;rw[if_pos rfl]
  ·rw[if_neg e]
 refine⟨K _ _ h.disk (by simp[tyO,bI]), ?_,fun j hj=>K _ _ (h.dir j hj) (by simp[tyO,cL]),fun j hj=> ?_,fun j hj=> ?_,fun j hj=> ?_,fun n hn=>K _ _ (h.file n hn) (by simp[tyO,cR]),h.len,h.nodf,h.nodm,h.nodd,h.nodb,h.nodp,xX h.ok _ h1 (h.ok.stl k hk) h3 (h.ok.stlN k hk) (h.ok.pendN k hk)⟩
 ·obtain⟨o,h1,h2⟩:=h.dirs
  exact⟨o,keep _ _ h1 (h.nodb k hk).1,h2⟩
 ·rw[es]
  by_cases e:j=k
  ·subst e;rw[if_pos rfl];exact hs
  ·rw[if_neg e]
   obtain⟨o,m,h1,h2,h3⟩:=h.seen j hj
   exact⟨o,m,keep _ _ h1 ((p6 h.nodm hj hk).1 e),h2,h3⟩
 ·rw[e2]
  obtain⟨o,m,h1,h2,h3⟩:=h.stl j hj
  exact⟨o,m,keep _ _ h1 (Ne.symm (p6 h.nodm hk hj).2.2),h2,h3⟩
 ·rw[e3]
  obtain⟨vals,h1,h2,h3⟩:=h.pend j hj
  refine⟨vals,h1,h2.keep fun b o hb ho=> ?_,fun i hi=>(h3 i hi).keep fun b o ho hx=>K b o ho ?_⟩
  ·obtain⟨arr,ha⟩:=lh h2 hb
   rw[ho] at ha;cases ha
   exact K _ _ ho (by simp[tyO])
  ·rcases hx with⟨s,rfl⟩ | ⟨a,rfl⟩<;>simp[tyO,dS,iL]
def ck (S:DiskL) (f:FiL):DiskL:=match bv f.dir with
 |some k=>if dE f.name=true∧f.data.length≤1048576 then dV (fF S ⟨f.data,f.data.length⟩) k ⟨fZ (S.dir k).seen (f.name,S.files.length),(S.dir k).stl,(S.dir k).pend⟩ else S
 |none=>S
def setV (S:DiskL) (vis:List Nat):DiskL:={S with dir:=fun k=>if k∈vis then⟨(S.dir k).seen,(S.dir k).seen,[]⟩ else S.dir k}
theorem Qv (S:DiskL):setV S []=S:=by
 unfold setV
 simp
theorem LU (S:DiskL) (vis:List Nat) (k:Nat):oz (setV S vis) k=setV S (vis++ [k]):=by
 unfold oz dV setV
 simp only
 congr 1
 funext j
 by_cases e:j=k
 ·subst e
  rw[if_pos rfl,if_pos (List.mem_append_right _ (List.mem_singleton.2 rfl))]
  by_cases h:j∈vis
  ·rw[if_pos h]
  ·rw[if_neg h]
 ·rw[if_neg e]
  by_cases h:j∈vis
  ·rw[if_pos h,if_pos (List.mem_append_left _ h)]
  ·rw[if_neg h,if_neg (fun hm=>by
    rcases List.mem_append.1 hm with hm|hm
    ·exact h hm
    ·exact e (List.mem_singleton.1 hm))]
theorem O3 (S:DiskL) {a b:List Nat} (h: ∀k,k∈a↔k∈b):setV S a=setV S b:=by
 unfold setV
 congr 1
 funext j
 by_cases e:j∈a
 ·rw[if_pos e,if_pos ((h j).1 e)]
 ·rw[if_neg e,if_neg (fun e2=>e ((h j).2 e2))]
def ofD (quota:Int) (l:List FiL):DiskL:=setV (l.foldl ck (d7 quota)) [0,1,2]
end Go.Proofs
end
section
open Go Go.Proofs Go.Sx Go.StP
namespace Go.Proofs
set_option maxRecDepth 10000
set_option maxHeartbeats 400000
set_option linter.unusedSimpArgs false
theorem VW (b o:Nat):aT Tryz.prog .neq 120 (vp b o) (.pointer none)=some (.bool true):=by
 simp[aT,eqX,eM,eA,Tryz.underlying120,vp]
theorem Sz:aT Tryz.prog .neq 120 (.pointer none) (.pointer none)=some (.bool false):=by
 simp[aT,eqX,eM,eA,Tryz.underlying120]
theorem Mz (s:List UInt8) (n:Nat):fW (cg Tryz.prog 126) (am Tryz.prog 126) [(0,vs s),(1,vi (n:Int))]=some (.agg #[vs s,vi (n:Int)]):=by
 rw[show cg Tryz.prog 126=some [(0,1),(1,1)] from id (by kernel_rfl),show am Tryz.prog 126=some (.agg #[vs [],vi 0]) from id (by kernel_rfl)];rfl
theorem xP {X:aA} {c:Nat} {x:Obj} (h:eS X c) {b:Nat} {o:Obj} (hb:Sx.look X b=some o):Sx.look ((c,x)::X) b=some o:=by
 have:=ae h (cJ hb)
 simp only[Sx.look]
 rw[if_neg (by omega)];exact hb
structure OfKG where
 i:Nat
 G:DkG
 X:aA
structure OvKG where
 vis:List Nat
 dn:List (List UInt8×Option Nat)
 lf:List (List UInt8×Option Nat)
 it:Obj
 G:DkG
 X:aA
def FiB (l:List FiL):Prop:= ∀f,f∈l→f.name.length<1099511627776∧f.data.length<1099511627776
set_option linter.defProp false
def cA:=And.intro (And.intro (And.intro (And.intro (@ay) (@ax)) (And.intro (@m7) (And.intro (@nS) (@nQ)))) (And.intro (And.intro (@nR) (@VW)) (And.intro (@Sz) (And.intro (@Sx.tup2_0) (@Sx.tup2_1))))) (And.intro (And.intro (And.intro (@RI) (@TF)) (And.intro (@RW) (And.intro (@Rm) (@SX)))) (And.intro (And.intro (@Q4) (@t8)) (And.intro (@Sx.tup3_0) (And.intro (@Sx.tup3_1) (@Sx.tup3_2)))))
theorem Qe (quota:Int) (v:Value) (l:List FiL) (w:World) (hq: -9223372036854775808≤quota∧quota<9223372036854775808) (hG:l5 w) (hv:FiSl w v l) (hl:l.length<1000000) (hb:FiB l):
  Rets Tryz.prog 16 #[vi quota,v] w (XS w [] (fun v D=> ∃G,v=vp G.bd 0∧DkP D G (ofD quota l))):=by
 have ln:=hv.len
 obtain⟨rb,off,arr,E,fz,hr⟩:=hv.row
 refine Rets.enterX Tryz.func16 rfl (rs:= [.tmp 4]) Tryz.results16 Tryz.ntmps16 (fun p hp=>by cases hp) (by simp[keys]) ?_
 refine kf ?_
 first|with_reducible refine ks [] @cA ?_|refine kp @cA ?_
 refine Ow.callC rfl rfl Tryz.call28 (fun w' aB=>yv quota w' hq (by obtain⟨e,f,hg⟩:=hG;exact⟨e,f,by rw[aB.old _ (Array.getElem?_eq_some_iff.1 hg).1 (by simp[keys])];exact hg⟩)) (fun B2 v2 D2 bz dI eP be=> ?_)
 obtain⟨G0,rfl,nC⟩:=be
 rw[List.nil_append]
 have pP:New w.heap.size D2:=eP.mono dI
 refine ko @cA ?_
 first|with_reducible refine ks [] (And.intro @cA @ln) ?_|refine kp (And.intro @cA @ln) ?_
 refine Cw.loopG (G:=OfKG) [16,17,18,7,19,20,21,22,23,24,25,8,26,27,28,29,30,31,32,33,34,35,36,37,38,39,40,41,42,43,44,45,46,47,48,49,50,51,52,15] (fun g=> [(15,vi g.i)]) (fun g=>g.X) (fun g=>g.i≤l.length∧DkP g.X g.G ((l.take g.i).foldl ck (d7 quota))∧g.G.bd=G0.bd∧New w.heap.size g.X) (fun g=>l.length - g.i) ⟨0,G0,D2⟩ rfl rfl ?_ ?_
 ·exact⟨Nat.zero_le _,nC,rfl,pP⟩
 intro g j hg
 refine kv ?_
 clear nC pP
 obtain⟨i,G,X⟩:=g
 simp only at hg ⊢
 obtain⟨hi,hP,cW,hN⟩:=hg
 rw[←cW]
 by_cases aD:i<l.length
 ·have d1:decide ((i:Int)< (l.length:Int))=true:=decide_eq_true (by omega)
  have lQ:=hr.lt (by omega)
  have ixl:=hr.idx true i aD
  have ldl:=hr.load xw (by omega) aD
  have rdl:aP w X rb=some (.cells arr E fz):=by rw[lW (hN.not lQ)];exact hr.has (by omega)
  have mf: (l.take (i+1)).foldl ck (d7 quota)=ck ((l.take i).foldl ck (d7 quota)) (l.getD i fi0):=by
   rw[StP.take_snoc (z:=fi0) aD,List.foldl_append];rfl
  have Ft:=hb (l.getD i fi0) (by rw[List.getD_eq_getElem?_getD,List.getElem?_eq_getElem aD];exact List.getElem_mem _)
  generalize l.getD i fi0=r at*
  generalize (l.take i).foldl ck (d7 quota)=S at*
  first|with_reducible refine ks [] (And.intro @cA (And.intro @d1 (And.intro @ixl (And.intro @rdl (@ldl))))) ?_|refine kp (And.intro @cA (And.intro @d1 (And.intro @ixl (And.intro @rdl (@ldl))))) ?_
  refine Ow.alloc rfl rfl zrFi fun b7 x3 ol=> ?_
  simp only[aV,List.nil_append,List.cons_append]
  refine Ow.permL (M:=(b7, .cells (fiC fi0).toArray 36 (0,0))::X) (by classical exact List.perm_iff_count.2 fun a=>by simp only[List.count_append,List.count_cons,List.count_nil]<;>omega) ?_
  refine ko @cA ?_
  have aa:DkP ((b7, .cells (fiC r).toArray 36 (0,0))::X) G S:=hP.mono fun b o h=>xP x3 h
  have sR:Sx.look ((b7,Obj.cells (fiC r).toArray 36 (0,0))::X) b7=some (.cells (fiC r).toArray 36 (0,0)):=by simp[Sx.look]
  have eE:New w.heap.size ((b7,Obj.cells (fiC r).toArray 36 (0,0))::X):=⟨ol,hN⟩
  generalize (b7,Obj.cells (fiC r).toArray 36 (0,0))::X=L1 at*
  have jS:=aY (w0:=w) sR
  have nL:=aY (w0:=w) aa.disk
  obtain⟨om,kH,hM⟩:=aa.dirs
  first|with_reducible refine ks [] @cA ?_|refine kp @cA ?_
  refine Cw.regionS [G.bd,b7] [0,1,2,4,3,5,6,7] [] (by kernel_rfl) (by kernel_rfl) (by kernel_rfl) ?_
  simp only[ap, ↓ao, ↓ac, ↓aj, ↓ai,ad]
  refine kq (And.intro @cA (And.intro @nL (@jS))) ?_
  refine Ow.soft rfl rfl rfl ?_
  refine Ow.mapGetG (encK:=vs) (encV:=ag) (k:=r.dir) (z:=none) rfl rfl Tryz.underlying121 jJ zrPd rfl rfl (aY kH) hM ?_
  with_reducible refine Ow.nil ?_
  refine⟨by intro b hb;simp only[List.mem_cons,List.not_mem_nil,or_false] at hb;(try subst hb);rfl, ?_⟩
  rw[FE]
  cases xK:bv r.dir with
  |none=>
   have g3:ag none= .pointer none:=rfl
   refine kq (And.intro @cA @g3) ?_
   try with_reducible refine Ow.nil ?_
   first|with_reducible refine ks [] @cA ?_|refine kp @cA ?_
   exact Again.mk ⟨i+1,G,L1⟩ (by show l.length - (i+1)<l.length - i;omega) ⟨aD,by show DkP L1 G ((l.take (i+1)).foldl ck (d7 quota));rw[mf];unfold ck;rw[xK];exact aa,rfl,eE⟩ rfl rfl
  |some k=>
   have hp: ∀q:Nat,ag (some q)=vp q 0:=fun _=>rfl
   have aW:=(dH xK).1
   refine kq (And.intro @cA @hp) ?_
   try with_reducible refine Ow.nil ?_
   first|with_reducible refine ks [] (And.intro @cA @jS) ?_|refine kp (And.intro @cA @jS) ?_
   refine Ow.callFV rfl Tryz.call74 (fun w' aB=>Z3 r.name w' Ft.1) ?_
   have j4: ¬ (dE r.name=true∧r.data.length≤1048576)→ck S r=S:=fun h=>by unfold ck;rw[xK];simp only;rw[if_neg h]
   cases gE:dE r.name with
   |false=>
    refine ko @cA ?_
    first|with_reducible refine ks [] @cA ?_|refine kp @cA ?_
    exact Again.mk ⟨i+1,G,L1⟩ (by show l.length - (i+1)<l.length - i;omega) ⟨aD,by show DkP L1 G ((l.take (i+1)).foldl ck (d7 quota));rw[mf,j4 (fun h=>by rw[gE] at h;cases h.1)];exact aa,rfl,eE⟩ rfl rfl
   |true=>
    by_cases jn:r.data.length≤1048576
    ·have d2:decide ((r.data.length:Int)≤1048576)=true:=decide_eq_true (by omega)
     have bY:=aY (w0:=w) (aa.dir k aW)
     obtain⟨os,ms,gY,fh,iB⟩:=aa.seen k aW
     refine ko (And.intro @cA (And.intro @jS (@d2))) ?_
     first|with_reducible refine ks [] @cA ?_|refine kp @cA ?_
     refine Cw.regionS [G.d k,b7] [0,1,2,4,6,8,3,5,7,9,10,11,12,13] [13] (by kernel_rfl) (by kernel_rfl) (by kernel_rfl) ?_
     simp only[ap, ↓ao, ↓ac, ↓aj, ↓ai,ad]
     refine kq (And.intro @cA (And.intro @bY (@jS))) ?_
     refine Ow.build (.agg #[vs r.data,vi (r.data.length:Int)]) rfl (Mz r.data r.data.length) ?_
     refine kq @cA ?_
     refine Ow.soft rfl rfl rfl ?_
     refine Ow.box rfl rfl fun b8 jN oq=> ?_
     simp only[d9,cu,d8,aV]
     have co:=(aa.mono (X':=L1++ [(b8,cR ⟨r.data,r.data.length⟩)]) fun b o h=>bL h).addFile (pB jN) (fun hm=>by have:=ae jN (aa.fb_key hm);omega) ⟨jn,Nat.le_refl _⟩
     have eP:New w.heap.size (L1++ [(b8,cR ⟨r.data,r.data.length⟩)]):=eE.app (show New w.heap.size [(b8,cR ⟨r.data,r.data.length⟩)] from⟨oq,trivial⟩)
     refine Ow.permL (M:=L1++ [(b8,cR ⟨r.data,r.data.length⟩)]) (List.Perm.refl _) ?_
     have hu1:=aY (w0:=w) (bL (M:= [(b8,cR ⟨r.data,r.data.length⟩)]) (aa.dir k aW))
     have GE:=aY (w0:=w) (bL (M:= [(b8,cR ⟨r.data,r.data.length⟩)]) sR)
     generalize L1++ [(b8,cR ⟨r.data,r.data.length⟩)]=L2 at*
     with_reducible refine Ow.nil ?_
     refine⟨fun b hb=>by
      simp only[List.mem_cons,List.not_mem_nil,or_false] at hb
      rcases hb with rfl|rfl
      ·rw[hu1,bY]
      ·rw[GE,jS], ?_⟩
     obtain⟨os2,ms2,rK,X6,XF⟩:=co.seen k aW
     refine kq @cA ?_
     refine Ow.mapUpdateG (encK:=vs) (encV:=ag) (k:=r.name) (v:=some b8) rfl rfl Tryz.underlying127 jJ rfl rfl rfl rK X6 (fun o3 hm3=> ?_)
     have Dl:=XF.put (co.ok.seen k aW).nodup r.name S.files.length
     have eQ: (addF G b8).fb.getD S.files.length 0=b8:=tM _ _ hP.len
     rw[eQ] at Dl
     have nD:=co.seen1 (L:=setB L2 (G.s k) o3) aW (l':=fZ (S.dir k).seen (r.name,S.files.length)) (fun b o hb h1=>(eO (Ne.symm h1)).trans hb) ⟨o3,_,jK rK,hm3,Dl⟩ (y5 _ (co.ok.seen k aW)) (FI (c:=⟨0,r.name,[],S.files.length⟩) (co.ok.seenN k aW) (fun h=>by cases h) (fun _=>by show S.files.length< (S.files++ [_]).length;simp))
     have gR:New w.heap.size (setB L2 (G.s k) o3):=New.of_le fun q hq=>eP.le q (by rwa [pg] at hq)
     refine ko @cA ?_
     first|with_reducible refine ks [] @cA ?_|refine kp @cA ?_
     exact Again.mk ⟨i+1,addF G b8,setB L2 (G.s k) o3⟩ (by show l.length - (i+1)<l.length - i;omega) ⟨aD,by show DkP (setB L2 (G.s k) o3) (addF G b8) ((l.take (i+1)).foldl ck (d7 quota));rw[mf];unfold ck;rw[xK];simp only;rw[if_pos ⟨gE,jn⟩];exact nD,rfl,gR⟩ rfl rfl
    ·have d2:decide ((r.data.length:Int)≤1048576)=false:=decide_eq_false (by omega)
     refine ko (And.intro @cA (And.intro @jS (@d2))) ?_
     first|with_reducible refine ks [] @cA ?_|refine kp @cA ?_
     exact Again.mk ⟨i+1,G,L1⟩ (by show l.length - (i+1)<l.length - i;omega) ⟨aD,by show DkP L1 G ((l.take (i+1)).foldl ck (d7 quota));rw[mf,j4 (fun h=>jn h.2)];exact aa,rfl,eE⟩ rfl rfl
 ·obtain rfl:i=l.length:=by omega
  have d1:decide ((l.length:Int)< (l.length:Int))=false:=decide_eq_false (by omega)
  rw[List.take_length] at hP
  unfold ofD
  generalize l.foldl ck (d7 quota)=S at*
  have nL:=aY (w0:=w) hP.disk
  obtain⟨om,kH,hM⟩:=hP.dirs
  first|with_reducible refine ks [] (And.intro @cA (And.intro @d1 (@nL))) ?_|refine kp (And.intro @cA (And.intro @d1 (@nL))) ?_
  refine Ow.rangeMapG (encK:=vs) (encV:=ag) rfl rfl Tryz.underlying121 rfl (aY kH) hM fun bi oi DH EF hI=> ?_
  refine Ow.permL (M:=(bi,oi)::X) (by classical exact List.perm_iff_count.2 fun a=>by simp only[List.count_append,List.count_cons,List.count_nil]<;>omega) ?_
  have vI:bi∉keys X:=fun hm=>by have:=ae DH hm;omega
  refine ko @cA ?_
  first|with_reducible refine ks [] @cA ?_|refine kp @cA ?_
  refine Cw.loopG (G:=OvKG) [58,59,60,61,10,62,63] (fun g=> []) (fun g=>(bi,g.it)::g.X) (fun g=>ItG vs ag g.it G.bm om (mv G) g.dn g.lf∧DkP g.X g.G (setV S g.vis)∧g.dn.map Prod.fst=g.vis.map eY∧(∀k,k∈g.vis→k<3)∧bi∉keys g.X∧g.G.d=G.d∧g.G.bm=G.bm∧g.G.bd=G.bd∧Sx.look g.X G.bm=some om∧New w.heap.size g.X) (fun g=>g.lf.length) ⟨[],[],mv G,oi,G,X⟩ rfl rfl ?_ ?_
  ·exact⟨hI,by rw[Qv];exact hP,rfl,fun k hk=>(by cases hk),vI,rfl,rfl,rfl,kH,hN⟩
  intro g j hg
  refine kv ?_
  clear hI hP hN vI nL
  obtain⟨vis,dn,lf,it,G1,X1⟩:=g
  simp only at hg ⊢
  obtain⟨hI,hP,hvs,E9,vI,vV,Zr,Zq,rJ,hN⟩:=hg
  have XH: ∀x b o,Sx.look X1 b=some o→Sx.look ((bi,x)::X1) b=some o:=fun x b o hb=>by
   simp only[Sx.look]
   rw[if_neg (fun e=>vI (by have e':b=bi:=(by omega);rw[←e'];exact cJ hb))]
   exact hb
  first|with_reducible refine ks [] @cA ?_|refine kp @cA ?_
  refine Ow.nextMapG rfl rfl rfl (ii _ _ _) (aY (XH _ _ _ rJ)) hI (fun kF=> ?_) (fun p it' lf' lG l6=> ?_)
  ·subst kF
   have hp:=se hI
   rw[List.append_nil] at hp
   refine ko @cA ?_
   first|with_reducible refine ks [] @cA ?_|refine kp @cA ?_
   refine⟨_,(ke @cA), ?_⟩
   refine⟨Ext.of_new ⟨EF,hN⟩,G1,by rw[Zq];rfl, ?_⟩
   rw[show setV S [0,1,2]=setV S vis from O3 S fun k=>⟨fun hk=> ?_,fun hk=> ?_⟩]
   ·exact hP.mono fun b o hb=>XH _ _ _ hb
   ·have aW:k<3:=by simp only[List.mem_cons,List.not_mem_nil,or_false] at hk;omega
    have hm:eY k∈dn.map Prod.fst:=by
     refine List.mem_map.2 ⟨(eY k,some (G.d k)),hp.mem_iff.2 ?_,rfl⟩
     have:k=0∨k=1∨k=2:=by omega
     rcases this with rfl|rfl|rfl<;>simp[mv,eY]
    rw[hvs] at hm
    obtain⟨j,hj,e⟩:=List.mem_map.1 hm
    have h1:=pp (E9 j hj)
    rw[e,pp aW] at h1
    cases h1;exact hj
   ·have:=E9 k hk
    simp only[List.mem_cons,List.not_mem_nil,or_false];omega
  ·refine kn ?_
   refine ko @cA ?_
   first|with_reducible refine ks [] @cA ?_|refine kp @cA ?_
   refine Ow.entryMapG (encK:=vs) (encV:=ag) rfl rfl rfl (pq _ _ _ _) (aY (XH _ _ _ rJ)) l6 ?_
   have hp:=se l6
   obtain⟨k,aW,rfl⟩:=z6 (hp.mem_iff.1 (List.mem_append_left _ (List.mem_append_right _ List.mem_cons_self)))
   have hpp: ∀q:Nat,ag (some q)=vp q 0:=fun _=>rfl
   refine ko (And.intro @cA @hpp) ?_
   first|with_reducible refine ks [] @cA ?_|refine kp @cA ?_
   refine Ow.permL (M:=X1++ [(bi,it')]) (by classical exact List.perm_iff_count.2 fun a=>by simp only[List.count_append,List.count_cons,List.count_nil]<;>omega) ?_
   refine Ow.callX (X:=X1) (Y:= [(bi,it')]) rfl rfl rfl Tryz.call75 (fun w' aB bD aw=>by rw[show vp (G.d k) 0=vp (G1.d k) 0 by rw[vV]];exact YC X1 G1 (setV S vis) k w' bD aw hP aW) (fun v4 D4 cv bK=> ?_)
   obtain⟨rfl,Zd,fg⟩:=bK
   rw[LU] at Zd
   have hbm2:=hP.dirs
   have XM:Sx.look D4 G.bm=some om:=fg _ _ rJ (by rw[←Zr];exact(hP.nodb k aW).2) (fun e=>by
    have h1:=hP.dir k aW
    rw[←e,rJ] at h1
    cases h1
    obtain⟨es,cl,h,-⟩:=hM;cases h)
   have hbD:bi∉keys D4:=fun hm=>by
    rcases cv.new bi hm with h| ⟨h,-⟩
    ·exact vI h
    ·have:=ae h (b:=bi) (by rw[bM];simp[keys]);omega
   have eI:New w.heap.size D4:=yE cv hN
   refine Ow.permL (M:=(bi,it')::D4) (by classical exact List.perm_iff_count.2 fun a=>by simp only[List.count_append,List.count_cons,List.count_nil]<;>omega) ?_
   refine ko @cA ?_
   first|with_reducible refine ks [] @cA ?_|refine kp @cA ?_
   exact Again.mk ⟨vis++ [k],dn++ [(eY k,some (G.d k))],lf',it',nw G1 k (G1.s k),D4⟩ (by show lf'.length<lf.length;omega) ⟨l6,Zd,by show(dn++ [_]).map Prod.fst=(vis++ [k]).map eY;rw[List.map_append,List.map_append,hvs];rfl,fun j hj=>by
    rcases List.mem_append.1 hj with hj|hj
    ·exact E9 j hj
    ·rw[List.mem_singleton.1 hj];exact aW,hbD,vV,Zr,Zq,XM,eI⟩ rfl rfl
end Go.Proofs
end
section
namespace Go.Proofs
open Go Go.Sx Go.StP Go.Shelf
set_option maxRecDepth 100000
def Tryz.keysL_ren:Go.Shelf.Ren:=⟨fun|7=>124|10=>164|n=>n,fun|23=>127|26=>9|3=>124|28=>185|0=>0|27=>184|33=>74|4=>4|n=>n,fun|n=>n⟩
theorem Tryz.keysL:Go.Proofs.SlLaysZ.n7 Tryz.prog Tryz.keysL_ren:={
 mixed:=by kernel_rfl
 f7:=⟨Tryz.f124.name,by decide,Tryz.func124.trans (congrArg some (by kernel_rfl))⟩
 f10:=⟨Tryz.f164.name,by decide,Tryz.func164.trans (congrArg some (by kernel_rfl))⟩
 t0:=Tryz.underlying0
 a0:=Tryz.isAgg0
 z0:=Tryz.sizeOf0
 v0:=Tryz.zeroValue0
 t4:=Tryz.underlying4
 a4:=Tryz.isAgg4
 z4:=Tryz.sizeOf4
 v4:=Tryz.zeroValue4
 t23:=Tryz.underlying127
 a23:=Tryz.isAgg127
 z23:=Tryz.sizeOf127
 v23:=Tryz.zeroValue127
 t26:=Tryz.underlying9
 a26:=Tryz.isAgg9
 z26:=Tryz.sizeOf9
 v26:=Tryz.zeroValue9
 t27:=Tryz.underlying184
 a27:=Tryz.isAgg184
 z27:=Tryz.sizeOf184
 v27:=Tryz.zeroValue184
 t28:=Tryz.underlying185
 a28:=Tryz.isAgg185
 z28:=Tryz.sizeOf185
 v28:=Tryz.zeroValue185
 t33:=Tryz.underlying74
 a33:=Tryz.isAgg74
 z33:=Tryz.sizeOf74
 v33:=Tryz.zeroValue74}
def Tryz.sortedL_ren:Go.Shelf.Ren:=⟨fun|6=>123|8=>162|9=>163|11=>192|13=>194|12=>193|23=>225|24=>226|14=>216|15=>217|16=>218|17=>219|18=>220|19=>221|20=>222|21=>223|22=>224|25=>236|26=>237|27=>238|28=>239|29=>240|30=>241|31=>248|n=>n,fun|26=>9|28=>185|24=>72|0=>0|3=>3|37=>219|48=>207|50=>252|4=>4|40=>284|39=>283|45=>288|5=>5|9=>9|51=>301|55=>305|57=>316|58=>77|33=>74|n=>n,fun|n=>n⟩
theorem Tryz.sortedL:Go.Proofs.SlLaysZ.n6 Tryz.prog Tryz.sortedL_ren:={
 mixed:=by kernel_rfl
 f6:=⟨Tryz.f123.name,by decide,Tryz.func123.trans (congrArg some (by kernel_rfl))⟩
 f8:=⟨Tryz.f162.name,by decide,Tryz.func162.trans (congrArg some (by kernel_rfl))⟩
 f11:=⟨Tryz.f192.name,by decide,Tryz.func192.trans (congrArg some (by kernel_rfl))⟩
 t0:=Tryz.underlying0
 a0:=Tryz.isAgg0
 z0:=Tryz.sizeOf0
 v0:=Tryz.zeroValue0
 t24:=Tryz.underlying72
 a24:=Tryz.isAgg72
 z24:=Tryz.sizeOf72
 v24:=Tryz.zeroValue72
 t26:=Tryz.underlying9
 a26:=Tryz.isAgg9
 z26:=Tryz.sizeOf9
 v26:=Tryz.zeroValue9
 t28:=Tryz.underlying185
 a28:=Tryz.isAgg185
 z28:=Tryz.sizeOf185
 v28:=Tryz.zeroValue185
 i26:=by kernel_rfl}
def Tryz.sortL_ren:Go.Shelf.Ren:=⟨fun|6=>163|8=>194|9=>193|19=>225|20=>226|21=>216|22=>217|23=>218|24=>219|25=>220|26=>221|27=>222|28=>223|29=>224|36=>236|31=>237|32=>238|37=>239|38=>240|39=>241|41=>248|n=>n,fun|27=>72|29=>9|3=>3|32=>219|26=>72|0=>0|44=>207|46=>252|4=>4|36=>284|35=>283|41=>288|5=>5|9=>9|53=>301|57=>305|63=>316|64=>77|n=>n,fun|n=>n⟩
theorem Tryz.sortL:Go.Proofs.SlLaysM.n6 Tryz.prog Tryz.sortL_ren:={
 mixed:=by kernel_rfl
 f6:=⟨Tryz.f163.name,by decide,Tryz.func163.trans (congrArg some (by kernel_rfl))⟩
 f8:=Tryz.func194.trans (congrArg some (by kernel_rfl))
 f9:=⟨Tryz.f193.name,by decide,Tryz.func193.trans (congrArg some (by kernel_rfl))⟩
 f19:=Tryz.func225.trans (congrArg some (by kernel_rfl))
 f20:=Tryz.func226.trans (congrArg some (by kernel_rfl))
 f21:=⟨Tryz.f216.name,by decide,Tryz.func216.trans (congrArg some (by kernel_rfl))⟩
 f22:=⟨Tryz.f217.name,by decide,Tryz.func217.trans (congrArg some (by kernel_rfl))⟩
 f23:=⟨Tryz.f218.name,by decide,Tryz.func218.trans (congrArg some (by kernel_rfl))⟩
 f24:=⟨Tryz.f219.name,by decide,Tryz.func219.trans (congrArg some (by kernel_rfl))⟩
 f25:=⟨Tryz.f220.name,by decide,Tryz.func220.trans (congrArg some (by kernel_rfl))⟩
 f26:=⟨Tryz.f221.name,by decide,Tryz.func221.trans (congrArg some (by kernel_rfl))⟩
 f27:=⟨Tryz.f222.name,by decide,Tryz.func222.trans (congrArg some (by kernel_rfl))⟩
 f28:=⟨Tryz.f223.name,by decide,Tryz.func223.trans (congrArg some (by kernel_rfl))⟩
 f29:=⟨Tryz.f224.name,by decide,Tryz.func224.trans (congrArg some (by kernel_rfl))⟩
 f31:=Tryz.func237.trans (congrArg some (by kernel_rfl))
 f32:=Tryz.func238.trans (congrArg some (by kernel_rfl))
 f36:=⟨Tryz.f236.name,by decide,Tryz.func236.trans (congrArg some (by kernel_rfl))⟩
 f37:=⟨Tryz.f239.name,by decide,Tryz.func239.trans (congrArg some (by kernel_rfl))⟩
 f38:=⟨Tryz.f240.name,by decide,Tryz.func240.trans (congrArg some (by kernel_rfl))⟩
 f39:=⟨Tryz.f241.name,by decide,Tryz.func241.trans (congrArg some (by kernel_rfl))⟩
 f41:=⟨Tryz.f248.name,by decide,Tryz.func248.trans (congrArg some (by kernel_rfl))⟩
 t0:=Tryz.underlying0
 a0:=Tryz.isAgg0
 z0:=Tryz.sizeOf0
 v0:=Tryz.zeroValue0
 t3:=Tryz.underlying3
 a3:=Tryz.isAgg3
 z3:=Tryz.sizeOf3
 v3:=Tryz.zeroValue3
 t4:=Tryz.underlying4
 a4:=Tryz.isAgg4
 z4:=Tryz.sizeOf4
 v4:=Tryz.zeroValue4
 t5:=Tryz.underlying5
 a5:=Tryz.isAgg5
 z5:=Tryz.sizeOf5
 v5:=Tryz.zeroValue5
 t9:=Tryz.underlying9
 a9:=Tryz.isAgg9
 z9:=Tryz.sizeOf9
 v9:=Tryz.zeroValue9
 t26:=Tryz.underlying72
 a26:=Tryz.isAgg72
 z26:=Tryz.sizeOf72
 v26:=Tryz.zeroValue72
 t27:=Tryz.underlying72
 a27:=Tryz.isAgg72
 z27:=Tryz.sizeOf72
 v27:=Tryz.zeroValue72
 t29:=Tryz.underlying9
 a29:=Tryz.isAgg9
 z29:=Tryz.sizeOf9
 v29:=Tryz.zeroValue9
 t32:=Tryz.underlying219
 a32:=Tryz.isAgg219
 z32:=Tryz.sizeOf219
 v32:=Tryz.zeroValue219
 t35:=Tryz.underlying283
 a35:=Tryz.isAgg283
 z35:=Tryz.sizeOf283
 v35:=Tryz.zeroValue283
 t36:=Tryz.underlying284
 a36:=Tryz.isAgg284
 z36:=Tryz.sizeOf284
 v36:=Tryz.zeroValue284
 t41:=Tryz.underlying288
 a41:=Tryz.isAgg288
 z41:=Tryz.sizeOf288
 v41:=Tryz.zeroValue288
 t44:=Tryz.underlying207
 a44:=Tryz.isAgg207
 z44:=Tryz.sizeOf207
 v44:=Tryz.zeroValue207
 t46:=Tryz.underlying252
 a46:=Tryz.isAgg252
 z46:=Tryz.sizeOf252
 v46:=Tryz.zeroValue252
 t53:=Tryz.underlying301
 a53:=Tryz.isAgg301
 z53:=Tryz.sizeOf301
 v53:=Tryz.zeroValue301
 t57:=Tryz.underlying305
 a57:=Tryz.isAgg305
 z57:=Tryz.sizeOf305
 v57:=Tryz.zeroValue305
 t63:=Tryz.underlying316
 a63:=Tryz.isAgg316
 z63:=Tryz.sizeOf316
 v63:=Tryz.zeroValue316
 t64:=Tryz.underlying77
 a64:=Tryz.isAgg77
 z64:=Tryz.sizeOf77
 v64:=Tryz.zeroValue77}
open Go.RowKit Go.Maps Go.Sort
theorem Ur (m:Nat):AnyZ.SortsIn Tryz.prog Tryz.sortedL_ren Fence.wide m:=
 ⟨fun blk off cap ss W hH WN g5=>callsIn_wide.2 (AnyM.slices_Sort_string Tryz.sortL blk off cap ss W hH WN g5),
 fun p cap W=>callsIn_wide.2 (AnyM.slices_Sort_string_none Tryz.sortL p cap W)⟩
theorem Nw {a b:List UInt8} (h:ltB a b=true):leB a b=true:=by
 rw[wh,decide_eq_true_eq] at h
 simp only[leB,decide_eq_true_eq]
 exact List.le_of_lt h
theorem PK {l:NmL} (h:SrtN l) {ss:List (List UInt8)} (hp:ss.Perm (l.map Prod.fst)):ss.mergeSort (fun x y=>decide (x≤y))=l.map Prod.fst:=by
 show ss.mergeSort leB=_
 rw[mergeSort_of_perm hp]
 refine List.mergeSort_of_pairwise ?_
 exact List.pairwise_map.2 (h.imp fun h=>Nw h)
theorem VS {W:World} {base n:Nat} {T:TypeId} {v:Value} {xs:List Value} (h:W.ownsRow base T 1 v n xs): ∃D:aA,(∀p,p∈D→W.heap[p.1]? =some p.2∧base≤p.1)∧(keys D).Nodup∧Gr D T 1 v n xs:=by
 obtain⟨hl,h⟩:=h
 rcases h with⟨rfl,rfl⟩ | ⟨g,cap,cur,rfl,hb,hg,hc,hm,hs,ht⟩
 ·obtain rfl:xs= []:=List.eq_nil_of_length_eq_zero (by simpa using hl)
  exact⟨[],fun p hp=>(by cases hp),List.nodup_nil,Gr.nl⟩
 ·refine⟨[(g, .cells cur T (0,0))], ?_,by simp[keys], ?_⟩
  ·intro p hp
   simp only[List.mem_singleton] at hp
   subst hp
   exact⟨hg,hb⟩
  ·by_cases h0:0<cap
   ·refine .inl (Buf.at_ (rest:=cur.toList.drop (n*1)) ?_ hl ?_ hc h0)
    ·rw[←ht,List.take_append_drop]
     simp[Sx.look]
    ·rw[List.length_drop,Array.length_toList,hs];omega
   ·obtain rfl:cap=0:=by omega
    obtain rfl:n=0:=by omega
    refine .inr ⟨rfl,List.eq_nil_of_length_eq_zero (by simpa using hl),g,rfl, ?_⟩
    have:cur= #[]:=Array.eq_empty_of_size_eq_zero (by simpa using hs)
    simp[Sx.look,this]
def RN (_:Value):Option (DataW Unit×List MemPlace):=some (.nil,[])
theorem SC {w:World} {b:Nat} {o:Obj} {m:List (List UInt8×Option Nat)} (ho:w.heap[b]? =some o) (hM:eF vs ag o m) (hn: (m.map Prod.fst).Nodup) (hk: ∀p,p∈m→p.1.length≤1000000) (hs:m.length≤1000000):
  ∃D0:DataW Unit,w.ownsMap Tryz.prog 9 RN b m.length D0∧Maps.size D0≤1000000∧(strKeys D0).Perm (m.map Prod.fst):=by
 obtain⟨es,clock,rfl,he,hb⟩:=hM
 have aL:es.size=m.length:=by have:=congrArg List.length he;simpa using this
 have ve:es.toList.map (·.key)=m.map fun p=>vs p.1:=by
  have:=congrArg (List.map Prod.fst) he
  simpa [gb,Function.comp_def] using this
 have bY: ∀x,x∈es.toList→ ∃s:List UInt8,x.key=vs s∧s.length≤1000000:=by
  intro x hx
  have:x.key∈m.map fun p=>vs p.1:=by rw[←ve];exact List.mem_map.2 ⟨x,hx,rfl⟩
  obtain⟨p,hp,e⟩:=List.mem_map.1 this
  exact⟨p.1,e.symm,hk p hp⟩
 have mb: ∀x,x∈es.toList→ ∀s:List UInt8,x.key=vs s→s.length≤1000000→WideElems.rd Tryz.prog 9 RN x=some (.string s, .nil):=by
  intro x hx s hs hl
  have hL:s.length≤maxLen:=Nat.le_trans hl (by decide)
  have hL2: (ByteArray.mk s.toArray).size≤maxLen:=hL
  simp[WideElems.rd,keyOf,Tryz.underlying9,mapKey,hs,RN,vs,hL2]
 have gT:=List.pairwise_append.1 hb
 refine⟨_,⟨es,clock,ho,⟨?_,⟨?_, ?_, ?_⟩, ?_⟩,by omega,rfl⟩, ?_, ?_⟩
 ·rw[aL];exact Nat.le_trans hs (by decide)
 ·intro x hx
  exact gT.2.2 x.born (List.mem_map.2 ⟨x,hx,rfl⟩) clock (by simp)
 ·exact gT.1.imp fun h=>Nat.ne_of_lt h
 ·rw[ve]
  have: (m.map Prod.fst).map vs=m.map fun p=>vs p.1:=by simp[Function.comp_def]
  rw[←this]
  refine List.pairwise_map.2 (hn.imp fun h e=>h ?_)
  simpa [vs] using e
 ·intro x hx
  obtain⟨s,e,hl⟩:=bY x hx
  exact⟨_,mb x hx s e hl⟩
 ·rw[Maps.size_eq,(WideShapes.sorted_perm _).length_eq,List.length_map,Array.length_toList,aL];exact hs
 ·show(List.map (fun p:Lit×DataW Unit=>strOf p.1) _).Perm _
  refine((WideShapes.sorted_perm _).map _).trans (List.Perm.of_eq ?_)
  rw[List.map_map]
  refine List.map_congr_left ?_|>.trans (?_:es.toList.map (fun x=>match x.key with| .string s=>s.data.toList|_=> [])=_)
  ·intro x hx
   obtain⟨s,e,hl⟩:=bY x hx
   simp only[Function.comp]
   rw[WideElems.rg_of (mb x hx s e hl),e]
   rfl
  ·have:es.toList.map (fun x=>match x.key with| .string s=>s.data.toList|_=> [])=(es.toList.map (·.key)).map (fun k=>match k with| .string s=>s.data.toList|_=> []):=by rw[List.map_map];rfl
   rw[this,ve,List.map_map]
   rfl
theorem JR (X:aA) (G:DkG) (S:DiskL) (k c:Nat) (w:World) (hP:DkP X G S) (hX: ∀b o,Sx.look X b=some o→w.heap[b]? =some o) (hk:k<3) (hs: (S.dir k).seen.length≤1000000) (hl: ∀p,p∈ (S.dir k).seen→p.1.length≤1000000)
  (hc:w.heap[c]? =some (.cells #[vm (G.s k)] 127 (0,0))):
  Rets Tryz.prog 123 #[.func (.func 164) #[] #[vp c 0]] w (XS w [] (fun v D=>GrI D 9 1 v (S.dir k).seen.length ((S.dir k).seen.map fun p=>vs p.1))):=by
 obtain⟨o,m,h1,h2,h3⟩:=hP.seen k hk
 have ho:=hX _ _ h1
 have aL:m.length=(S.dir k).seen.length:=by have:=h3.length_eq;simpa using this
 have hmk: ∀p,p∈m→p.1.length≤1000000:=by
  intro p hp
  have:=h3.mem_iff.1 hp
  obtain⟨q,hq,e⟩:=List.mem_map.1 this
  rw[←e];exact hl q hq
 obtain⟨D0,XO,g5,Dr⟩:=SC ho h2 (h3.keys (hP.ok.seen k hk).nodup) hmk (by omega)
 have ll:=(Array.getElem?_eq_some_iff.1 hc).1
 have Xf:SeqGives Fence.wide 2 Tryz.prog 164 #[.pointer (some ⟨c,0,none⟩)] encStr (fun ss=>ss.Perm (strKeys D0)) (Maps.size D0) w:=
  AnyZ.keys_gives (ρ:=Tryz.keysL_ren) {Tryz.keysL with} Fence.wide _ trivial rfl (by omega) c (G.s k) m.length D0 _ ll (by simp[World.cell?,hc,vm]) XO
 have h:=AnyZ.sorted_in Tryz.sortedL Fence.wide 5 trivial trivial trivial trivial rfl (by omega) (Ur _) (enters_of Tryz.func163 (by kernel_rfl) rfl) 164 #[.pointer (some ⟨c,0,none⟩)] trivial (enters_of Tryz.func164 (by kernel_rfl) rfl) _ (Maps.size D0) (Nat.le_trans g5 (by decide)) (by omega) w Xf
 refine Calls.mono (callsIn_wide.1 h) ?_
 rintro e w' ⟨v,ss,rfl,hS,Xc,-,hb⟩
 obtain⟨D,hD,hDn,hG⟩:=VS Xc
 have hss:ss.mergeSort (fun x y=>decide (x≤y))=(S.dir k).seen.map Prod.fst:=by
  refine PK (hP.ok.seen k hk) ((hS.trans Dr).trans ?_)
  have:=h3.map Prod.fst
  refine this.trans (List.Perm.of_eq ?_)
  rw[List.map_map];rfl
 have cN:ss.length=(S.dir k).seen.length:=by
  have:=congrArg List.length hss
  simpa using this
 refine⟨v,D,rfl,⟨fun b o hm=>(hD _ hm).1,hDn,fun b dK _=>hb.block b dK,hb.size,hb.tape,hb.os,hb.output⟩,⟨fun b dK=> ?_,fun b dK=>(by cases dK)⟩,⟨D,fun _ h=>h, ?_⟩⟩
 ·obtain⟨p,hp,rfl⟩:=List.mem_map.1 dK
  exact .inr (hD p hp).2
 rw[hss,cN] at hG
 have: ((S.dir k).seen.map Prod.fst).map encStr=(S.dir k).seen.map fun p=>vs p.1:=by rw[List.map_map];rfl
 rw[this] at hG
 exact hG
end Go.Proofs
end
section
open Go Go.Proofs Go.Sx Go.StP
namespace Go.Proofs
set_option maxRecDepth 10000
set_option maxHeartbeats 400000
set_option linter.unusedSimpArgs false
theorem MD (b:Nat) (w:World):
  Rets Tryz.prog 124 #[vm b] w (XS w [] (fun v' D=> ∃b1,v'= .func (.func 164) #[] #[vp b1 0]∧D= [(b1, .cells #[vm b] 127 (0,0))])):=by
 refine Rets.enter Tryz.func124 rfl (rs:= [.tmp 2]) Tryz.results124 Tryz.ntmps124 ?_
 refine kf ?_
 first|with_reducible refine ks [] @Nat.add_zero ?_|refine kp @Nat.add_zero ?_
 refine Ow.box rfl rfl fun b1 aQ aF=> ?_
 simp only[d9,cu,vm,List.nil_append]
 refine ko @Nat.add_zero ?_
 refine⟨_,(ke @Nat.add_zero), ?_⟩
 exact⟨⟨fun c hc=>(by simp only[keys,List.map_cons,List.map_nil,List.mem_singleton] at hc;exact .inr (hc▸aF)),fun c hc=>(by cases hc)⟩,b1,by simp[bu,ev,eC],rfl⟩
def DkB (S:DiskL):Prop:= ∀k,k<3→(S.dir k).seen.length≤1000000∧ ∀p,p∈ (S.dir k).seen→p.1.length≤1000000
def my (S:DiskL) (dir:List UInt8):List (List UInt8):=if dF S dir []≠0 then [] else(S.dir ((bv dir).getD 0)).seen.map Prod.fst
set_option linter.defProp false
def mw:=And.intro (And.intro (And.intro (@ay) (@ax)) (And.intro (@m7) (@nS))) (And.intro (And.intro (@nQ) (@nR)) (And.intro (@Sx.tup2_0) (And.intro (@Sx.tup2_1) (@t8))))
theorem yk (w:World) (G:DkG) (S:DiskL) (dir:List UInt8) (hD:DkW w G S) (hB:DkB S):
  Rets Tryz.prog 79 #[vp G.bd 0,vs dir] w (XS w [] (fun v D=>GrI D 9 1 v (my S dir).length ((my S dir).map vs))):=by
 have W3:=hD
 obtain⟨X,hX,hP⟩:=hD
 refine Rets.enter Tryz.func79 rfl (rs:= [.tmp 4]) Tryz.results79 Tryz.ntmps79 ?_
 refine kf ?_
 first|with_reducible refine ks [] @mw ?_|refine kp @mw ?_
 have eE:New w.heap.size ([]:aA):=trivial
 refine Ow.callC rfl rfl Tryz.call80 (fun w' aB=>Rets.toX (sy w' G S dir (.slice none 0 0) [] (W3.old aB eE) (SlV.nil w') (by simp) (fun s hs=>by cases hs))) (fun B2 v2 D2 bz dI eP be=> ?_)
 obtain⟨rfl,be⟩:=be
 rw[List.append_nil]
 unfold my
 rcases be with⟨he,rfl⟩ | ⟨he,k,hk,rfl⟩
 ·rw[if_pos he]
  have e1:=kP he
  refine ko @mw ?_
  first|with_reducible refine ks [] (And.intro @mw @e1) ?_|refine kp (And.intro @mw @e1) ?_
  refine⟨_,(ke @mw), ?_⟩
  exact⟨Ext.refl w [],Gr.nl.i fun _ h=>h⟩
 ·rw[if_neg (by rw[he];simp),hk]
  have aW:=(dH hk).1
  have fB:=hX _ _ (hP.dir k aW)
  have e1: ((0:Int) !=0)=false:=rfl
  refine ko @mw ?_
  first|with_reducible refine ks [] (And.intro @mw (And.intro @e1 (@fB))) ?_|refine kp (And.intro @mw (And.intro @e1 (@fB))) ?_
  refine Ow.callC rfl rfl Tryz.call124 (fun w' aB=>MD (G.s k) w') (fun B3 v3 D3 ew n8 gR nE=> ?_)
  obtain⟨b1,rfl,rfl⟩:=nE
  rw[List.nil_append]
  have o8:=gR.mono n8
  refine ko @mw ?_
  refine Ow.callC rfl rfl Tryz.call123 (fun w' aB=>JR X G S k b1 w' hP (fun b o h=>(aB.old b (Array.getElem?_eq_some_iff.1 (hX b o h)).1 (o8.not (Array.getElem?_eq_some_iff.1 (hX b o h)).1)).trans (hX b o h)) aW (hB k aW).1 (hB k aW).2 (aB.has _ _ List.mem_cons_self)) (fun B4 v4 D4 i1 pM eI bK=> ?_)
  refine ko @mw ?_
  refine⟨_,(ke @mw), ?_⟩
  refine⟨Ext.of_new (o8.app (eI.mono pM)), ?_⟩
  rw[List.length_map,List.map_map]
  exact bK.mono fun p hp=>List.mem_cons_of_mem _ hp
end Go.Proofs
end
section
open Go Go.Proofs Go.Sx Go.StP
namespace Go.Proofs
set_option maxRecDepth 10000
set_option maxHeartbeats 400000
set_option linter.unusedSimpArgs false
theorem zC {S:DiskL} {k:Nat} (hk:k<3):my S (eY k)=(if S.off=true then [] else(S.dir k).seen).map Prod.fst:=by
 unfold my dF
 rw[pp hk]
 cases S.off<;>simp
theorem yy (l:List (List UInt8)): (l.map strC).flatten=l.map vs:=by
 induction l with
 |nil=>rfl
 |cons x l ih=>simp[strC,ih]
set_option linter.defProp false
end Go.Proofs
end
section
open Go Go.Proofs Go.Sx Go.StP
namespace Go.Proofs
set_option maxRecDepth 10000
set_option maxHeartbeats 400000
set_option linter.unusedSimpArgs false
theorem Vo (b:Nat):aT Tryz.prog .eql 127 (vm b) (.map none)=some (.bool false):=by
 simp[aT,eqX,eM,eA,Tryz.underlying127,vm]
theorem Kv (b:Nat) (o:Obj) (m:List (List UInt8×Option Nat)) (w:World) (ho:w.heap[b]? =some o) (hm:eF vs ag o m):
  Rets Tryz.prog 83 #[vm b] w (XS w [] (fun v D=> ∃c o',v=vm c∧D= [(c,o')]∧eF vs ag o' m)):=by
 refine Rets.enterX Tryz.func83 rfl (rs:= [.tmp 2]) Tryz.results83 Tryz.ntmps83 (fun p hp=>by cases hp) (by simp[keys]) ?_
 refine kf ?_
 have e1:=Vo b
 first|with_reducible refine ks [] @e1 ?_|refine kp @e1 ?_
 refine Ow.ifaceMap rfl Tryz.underlying127 rfl ?_
 refine Ow.cloneMap (encK:=vs) (encV:=ag) rfl rfl (fun a w=>run_callFunc_extern Tryz.func127 (by kernel_rfl) (by kernel_rfl) (by kernel_rfl) (e:=Extern.MapsClone.clone) (by kernel_rfl) #[a] w) rfl (by rw[lW (by simp[keys])];exact ho) hm fun c o' hc mj iA=> ?_
 refine Ow.assertMap rfl Tryz.underlying127 rfl ?_
 refine ko @Nat.add_zero ?_
 refine⟨_,(ke @Nat.add_zero), ?_⟩
 exact⟨(Ext.refl w []).app mj,c,o',rfl,rfl,iA⟩
def u16C (x:UInt16):List Value:= [v16 x]
theorem Rz (x:UInt16): (u16C x).length=1:=rfl
abbrev uq (w:World) (v:Value) (l:List UInt16):Prop:=SlV 1 u16C 0 w v l
def PkS (w:World) (v:Value) (l:List UInt16):Prop:=uq w v l∨(l= []∧ ∃a c,v= .slice (some a) 0 c)
theorem PkS.len {w:World} {v:Value} {l:List UInt16} (h:PkS w v l) (x:Bool×Nat):gP (.sl x) v=some (vi l.length):=by
 rcases h with h| ⟨rfl,a,c,rfl⟩
 ·exact SlV.len h x
 ·rfl
theorem PkS.cell {w:World} {v:Value} {l:List UInt16} (h:PkS w v l):Value.oneCell' v=true∧v.cells= #[v]:=by
 rcases h with⟨b,off,c,arr,E,fz,hr,hc,⟨rfl,-,-⟩ | ⟨rfl,-,-⟩⟩ | ⟨rfl,a,c,rfl⟩
 ·exact⟨rfl,rfl⟩
 ·exact⟨rfl,rfl⟩
 ·exact⟨rfl,rfl⟩
theorem PkS.old {w w':World} {L:aA} {v:Value} {l:List UInt16} (h:PkS w v l) (hw:Hp w L w') (hb:l≠ []→ ∀b,slB v=some b→b∉keys L):PkS w' v l:=by
 by_cases hl:l= []
 ·subst hl
  rcases h with⟨b,off,c,arr,E,fz,hr,hc,⟨rfl,-,-⟩ | ⟨rfl,-,-⟩⟩ |h
  ·exact .inl (SlV.nil w')
  ·exact .inr ⟨rfl,_,_,rfl⟩
  ·exact .inr h
 ·exact .inl ((h.resolve_right fun e=>hl e.1).old hw fun b h1 _=>hb hl b h1)
def PkB (w:World) (X:aA) (l:List UInt16) (v:Value):Prop:=l≠ []→ ∀b,slB v=some b→b<w.heap.size∧b∉keys X
theorem Sy {w:World} {v:Value} {l:List UInt16} {b off:Nat} {arr:Array Value} {E:TypeId} {fz:Nat×Nat} (h:RowS 1 u16C 0 w v l b off arr E fz) {k:Nat} (hk:k<l.length) (n:Nat):
  aI (some (false,n)) (some (.cells arr E fz)) (off+k)=some (v16 (l.getD k 0)):=by
 have:=h.cell (j:=0) (n:=n) hk (by omega)
 rwa [Nat.mul_one,Nat.add_zero] at this
def iW (l:List UInt16) (n:Nat):Nat:=match l with
 | []=>0
 |x::_=>x.toNat% (n+1)
def ci (v:Value):Obj:= .cells #[v] 24 (0,0)
theorem AH (v:Value) (n:Nat):aI (some (false,n)) (some (ci v)) 0=some v:=(rfl)
theorem Py (v x:Value) (a:Bool) (hx:Value.oneCell' x=true∧x.cells= #[x]):ab (some (a,1)) (some (ci v)) 0 x=some (ci x):=
 gj [] [v] [x] [] a _ 24 rfl rfl hx.2 rfl (by simp[hx.1])
theorem UI {m:Nat} {α:Type} {enc:α→List Value} {z:α} {w:World} {v:Value} {l:List α} (h:SlV m enc z w v l):Value.oneCell' v=true∧v.cells= #[v]:=by
 obtain⟨b,off,c,arr,E,fz,hr,hc,⟨rfl,-,-⟩ | ⟨rfl,-,-⟩⟩:=h
 ·exact⟨rfl,rfl⟩
 ·exact⟨rfl,rfl⟩
set_option linter.defProp false
def mK:=And.intro (@ay) (And.intro (@ax) (@AH))
theorem yi (n:Nat) (b:Nat) (v:Value) (l:List UInt16) (w:World) (hn:n<4611686018427387904) (hv:PkS w v l) (hl:l.length<1000000) (rC:l≠ []→slB v≠some b) (ho:w.heap[b]? =some (ci v)):
  Rets Tryz.prog 82 #[vi n,vp b 0] w (fun r D=> ∃o,D= [(b,o)]∧r=vi (iW l n:Nat)∧ ∃v',o=ci v'∧(l= []→v'=v)∧(l≠ []→gZ (.sl (false,1)) v (some (some 1)) none=some v')):=by
 refine Rets.enterM Tryz.func82 rfl (rs:= [.tmp 3]) Tryz.results82 Tryz.ntmps82 ho ?_
 refine kf ?_
 have ln:=hv.len
 cases l with
 |nil=>
  first|with_reducible refine ks [] (And.intro @mK @ln) ?_|refine kp (And.intro @mK @ln) ?_
  refine⟨_,_,_,(ke @mK),rfl,trivial, ?_⟩
  exact⟨rfl,v,rfl,fun _=>rfl,fun h=>absurd rfl h⟩
 |cons x l=>
  have hv:uq w v (x::l):=hv.resolve_right fun e=>by cases e.1
  obtain⟨v1,h1,h2,-⟩:=hv.dropE (k:=1) (by simp) false
  have dA:=UI h2
  have st:=fun a=>Py v v1 a dA
  obtain⟨rb,off,c,arr,E,fz,hr,hc,⟨q1,q2,q3⟩ | ⟨rfl,hb,-⟩⟩:=hv
  ·exact absurd q2 (by simp)
  have aO:rb≠b:=fun e=>rC (by simp) (by rw[e];rfl)
  have ix:=hr.idx false 0 (by simp)
  have ld:=fun n=>Sy hr (k:=0) (by simp) n
  have e0: ((((x::l).length:Nat):Int)==0)=false:=beq_eq_false_iff_ne.2 (by simp;omega)
  have rd:aP w [(b,ci (vsl rb off (x::l).length c))] rb=some (.cells arr E fz):=by rw[lW (by simpa [keys] using aO)];exact hb
  rw[Nat.zero_mul,Nat.add_zero] at ix
  rw[show((1:Nat):Int)=1 from rfl] at h1
  simp only[Nat.add_zero] at ld
  first|with_reducible refine ks [] (And.intro @mK (And.intro @ln (And.intro @e0 (And.intro @ix (And.intro @ld (And.intro @rd (And.intro @h1 (@st)))))))) ?_|refine kp (And.intro @mK (And.intro @ln (And.intro @e0 (And.intro @ix (And.intro @ld (And.intro @rd (And.intro @h1 (@st)))))))) ?_
  refine⟨_,_,_,(ke @mK),rfl,trivial, ?_⟩
  refine⟨?_,v1,rfl,fun h=>absurd h (by simp),fun _=>h1⟩
  show vi _=vi _
  congr 1
end Go.Proofs
end
section
open Go Go.Proofs Go.Sx Go.StP
namespace Go.Proofs
set_option maxRecDepth 10000
set_option maxHeartbeats 400000
set_option linter.unusedSimpArgs false
theorem DkP.stl1 {X L:aA} {G:DkG} {S:DiskL} (h:DkP X G S) {k:Nat} (hk:k<3) {l':NmL} (keep: ∀b o,Sx.look X b=some o→b≠G.t k→Sx.look L b=some o) (hs:NmM L G.fb (G.t k) l') (h1:SrtN l') (h3: ∀p,p∈l'→p.2<S.files.length):
  DkP L G (dV S k ⟨(S.dir k).seen,l',(S.dir k).pend⟩):=by
 obtain⟨osk,msk,oS,oO,-⟩:=h.stl k hk
 have du: ∀b o,Sx.look X b=some o→tyO o≠none→b≠G.t k:=by
  rintro b o hb ht rfl
  rw[oS] at hb;cases hb;exact ht (iT oO)
 have K: ∀b o,Sx.look X b=some o→tyO o≠none→Sx.look L b=some o:=fun b o hb h1=>keep b o hb (du b o hb h1)
 have es: ∀j,(dV S k ⟨(S.dir k).seen,l',(S.dir k).pend⟩).dir j=if j=k then⟨(S.dir k).seen,l',(S.dir k).pend⟩ else S.dir j:=fun _=>rfl
 have e2: ∀j,((dV S k ⟨(S.dir k).seen,l',(S.dir k).pend⟩).dir j).seen=(S.dir j).seen:=fun j=>by
  rw[es];by_cases e:j=k
  ·subst e;rw[if_pos rfl]
  ·rw[if_neg e]
 have e3: ∀j,((dV S k ⟨(S.dir k).seen,l',(S.dir k).pend⟩).dir j).pend=(S.dir j).pend:=fun j=>by
  rw[es];by_cases e:j=k
  ·subst e;rw[if_pos rfl]
  ·rw[if_neg e]
 refine⟨K _ _ h.disk (by simp[tyO,bI]), ?_,fun j hj=>K _ _ (h.dir j hj) (by simp[tyO,cL]),fun j hj=> ?_,fun j hj=> ?_,fun j hj=> ?_,fun n hn=>K _ _ (h.file n hn) (by simp[tyO,cR]),h.len,h.nodf,h.nodm,h.nodd,h.nodb,h.nodp,xX h.ok _ (h.ok.seen k hk) h1 (h.ok.seenN k hk) h3 (h.ok.pendN k hk)⟩
 ·obtain⟨o,h1,h2⟩:=h.dirs
  exact⟨o,keep _ _ h1 (h.nodb k hk).2,h2⟩
 ·rw[e2]
  obtain⟨o,m,h1,h2,h3⟩:=h.seen j hj
  exact⟨o,m,keep _ _ h1 (p6 h.nodm hj hk).2.2,h2,h3⟩
 ·rw[es]
  by_cases e:j=k
  ·subst e;rw[if_pos rfl];exact hs
  ·rw[if_neg e]
   obtain⟨o,m,h1,h2,h3⟩:=h.stl j hj
   exact⟨o,m,keep _ _ h1 ((p6 h.nodm hj hk).2.1 e),h2,h3⟩
 ·rw[e3]
  obtain⟨vals,h1,h2,h3⟩:=h.pend j hj
  refine⟨vals,h1,h2.keep fun b o hb ho=> ?_,fun i hi=>(h3 i hi).keep fun b o ho hx=>K b o ho ?_⟩
  ·obtain⟨arr,ha⟩:=lh h2 hb
   rw[ho] at ha;cases ha
   exact K _ _ ho (by simp[tyO])
  ·rcases hx with⟨s,rfl⟩ | ⟨a,rfl⟩<;>simp[tyO,dS,iL]
theorem lX (S:DiskL) (k:Nat) (d:DirL): (dV S k d).dir k=d:=by
 unfold dV;simp
theorem m8 (S:DiskL) {k j:Nat} (d:DirL) (h:j≠k): (dV S k d).dir j=S.dir j:=by
 unfold dV;simp[h]
theorem yQ (S:DiskL) (k:Nat) (d d':DirL):dV (dV S k d) k d'=dV S k d':=by
 unfold dV
 simp only
 congr 1
 funext j
 by_cases e:j=k
 ·rw[if_pos e,if_pos e]
 ·rw[if_neg e,if_neg e,if_neg e]
def Cd (d:DirL):Prop:= ∀i,i<d.pend.length→okC ((d.pend.take i).foldl dP d.stl) (d.pend.getD i k5)
def g7 (S:DiskL) (k i:Nat):NmL:=((S.dir k).pend.take i).foldl dP (S.dir k).stl
def qh (q:DiskL×List UInt16) (k:Nat):DiskL×List UInt16:=
 (dV q.1 k ⟨g7 q.1 k (iW q.2 (q.1.dir k).pend.length),g7 q.1 k (iW q.2 (q.1.dir k).pend.length),[]⟩,q.2.drop 1)
def dW (q:DiskL×List UInt16):Nat→DiskL×List UInt16
 |0=>q
 |k+1=>qh (dW q k) k
theorem tk (l:List UInt16) (n:Nat):iW l n≤n:=by
 unfold iW
 split
 ·exact Nat.zero_le _
 ·have:=Nat.mod_lt ‹UInt16›.toNat (show 0<n+1 by omega)
  omega
theorem NC {S:DiskL} {k i:Nat} (h:i< (S.dir k).pend.length):g7 S k (i+1)=dP (g7 S k i) ((S.dir k).pend.getD i k5):=by
 unfold g7
 rw[StP.take_snoc (z:=k5) h,List.foldl_append];rfl
end Go.Proofs
end
section
open Go Go.Proofs Go.Sx Go.StP
namespace Go.Proofs
set_option maxRecDepth 10000
set_option maxHeartbeats 400000
set_option linter.unusedSimpArgs false
theorem DkP.away {X:aA} {G:DkG} {S:DiskL} (h:DkP X G S) {b:Nat} {v:Value} (hb:Sx.look X b=some (ci v)) (x:Obj):DkP (setB X b x) G S where
 disk:=g9 hb h.disk (by simp[tyO,bI,ci])
 dirs:=by obtain⟨o,h1,h2⟩:=h.dirs;exact⟨o,g9 hb h1 (by rw[iT h2];intro e;cases e),h2⟩
 dir k ce:=g9 hb (h.dir k ce) (by simp[tyO,cL,ci])
 seen k ce:=by
  obtain⟨o,m,h1,h2,h3⟩:=h.seen k ce
  exact⟨o,m,g9 hb h1 (by rw[iT h2];intro e;cases e),h2,h3⟩
 stl k ce:=by
  obtain⟨o,m,h1,h2,h3⟩:=h.stl k ce
  exact⟨o,m,g9 hb h1 (by rw[iT h2];intro e;cases e),h2,h3⟩
 pend k ce:=by
  obtain⟨vals,h1,h2,h3⟩:=h.pend k ce
  refine⟨vals,h1,h2.keep fun b o dK ho=> ?_,fun i hi=>(h3 i hi).keep fun b o ho hx=>g9 hb ho ?_⟩
  ·obtain⟨arr,ha⟩:=lh h2 dK
   rw[ho] at ha;cases ha
   exact g9 hb ho (by simp[tyO,ci])
  ·rcases hx with⟨s,rfl⟩ | ⟨a,rfl⟩<;>simp[tyO,ci,dS,iL]
 file n hn:=g9 hb (h.file n hn) (by simp[tyO,cR,ci])
 len:=h.len
 nodf:=h.nodf
 nodm:=h.nodm
 nodd:=h.nodd
 nodb:=h.nodb
 nodp:=h.nodp
 ok:=h.ok
theorem zt {w:World} {v v':Value} {q:List UInt16} (hv:PkS w v q) (h1:q= []→v'=v) (h2:q≠ []→gZ (.sl (false,1)) v (some (some 1)) none=some v'):PkS w v' (q.drop 1)∧ ∀ {X:aA},PkB w X q v→PkB w X (q.drop 1) v':=by
 cases q with
 |nil=>rw[h1 rfl];exact⟨hv,fun h=>h⟩
 |cons x l=>
  have hv:uq w v (x::l):=hv.resolve_right fun e=>by cases e.1
  obtain⟨v2,e1,e2,e3⟩:=hv.dropE (k:=1) (by simp) false
  have:=h2 (by simp)
  rw[show((1:Nat):Int)=1 from rfl,this] at e1
  cases e1
  exact⟨.inl e2,fun h _ b hb=>h (by simp) b (e3 b hb)⟩
theorem TC {w w1:World} {L:aA} {T:TypeId} {v:Value} {vals:List Value} (h:Gr L T 1 v vals.length vals) (hw:Hp w L w1) {n:Nat} (hn:n≤vals.length):
  ∃vc rb off arr E fz,gZ (.sl (false,1)) v none (some (some (n:Int)))=some vc∧RowS 1 (fun v:Value=> [v]) undef w1 vc (vals.take n) rb off arr E fz∧(0<n→Sx.look L rb=some (.cells arr E fz)):=by
 have fv:vals=(vals.map fun v:Value=> [v]).flatten:=by
  clear h hn
  induction vals with
  |nil=>rfl
  |cons x l ih=>simp[←ih]
 have cN:SlV 1 (fun v:Value=> [v]) undef w1 v vals:=h.slV hw rfl fv (fun _=>rfl)
 obtain⟨vc,h1,h2,h3⟩:=cN.take hn false
 obtain⟨b,off,c,arr,E,fz,hr,hc,⟨q1,q2,q3⟩ | ⟨q1,hb,hs⟩⟩:=h2
 ·refine⟨vc,b,off,arr,E,fz,h1,hr,fun h0=> ?_⟩
  have:=congrArg List.length q2
  rw[List.length_take,List.length_nil,Nat.min_eq_left hn] at this
  omega
 ·refine⟨vc,b,off,arr,E,fz,h1,hr,fun h0=> ?_⟩
  have hk:=h.key (h3 b (by rw[q1];rfl))
  obtain⟨o,ho⟩:=F6 hk
  have:=hw.has _ _ (cO ho)
  rw[hb] at this
  rw[ho,this]
theorem T0 {w:World} {v:Value} {l:List Value} {b off:Nat} {arr:Array Value} {E:TypeId} {fz:Nat×Nat} (h:RowS 1 (fun v:Value=> [v]) undef w v l b off arr E fz) {k:Nat} (hk:k<l.length) (n:Nat):
  aI (some (false,n)) (some (.cells arr E fz)) (off+k)=some (l.getD k undef):=by
 have:=h.cell (j:=0) (n:=n) hk (by omega)
 rwa [Nat.mul_one,Nat.add_zero] at this
theorem OD (a b y:Nat) (v:Value) (x:Bool):ab (some (x,1)) (some (cL a b v)) 0 (vm y)=some (cL y b v):=gj [] [vm a] [vm y] [vm b,v] x _ 130 rfl rfl rfl rfl rfl
theorem KX (S:DiskL) (k:Nat):dV S k (S.dir k)=S:=by
 unfold dV
 cases S
 simp only
 congr 1
 funext j
 by_cases e:j=k
 ·subst e;simp
 ·simp[e]
def g6 (q:DiskL×List UInt16) (p:List UInt8×Nat):DiskL×List UInt16:=
 (ez q.1 p.2 ⟨(aH q.1 p.2).data.take ((aH q.1 p.2).stl+iW q.2 ((aH q.1 p.2).data.length - (aH q.1 p.2).stl)),((aH q.1 p.2).data.take ((aH q.1 p.2).stl+iW q.2 ((aH q.1 p.2).data.length - (aH q.1 p.2).stl))).length⟩,q.2.drop 1)
def fM (q:DiskL×List UInt16):Nat→DiskL×List UInt16
 |0=>q
 |k+1=>(q.1.dir k).seen.foldl g6 (fM q k)
def lg (S:DiskL):DiskL:={S with off:=false,fused:=false}
def eW (S:DiskL) (pl:List UInt16):DiskL:=(fM (lg (dW (S,pl) 3).1,(dW (S,pl) 3).2) 3).1
theorem Yh (q:DiskL×List UInt16) (l:NmL): (l.foldl g6 q).1.dir=q.1.dir:=by
 induction l generalizing q with
 |nil=>rfl
 |cons p l ih=>rw[List.foldl_cons,ih];rfl
theorem xS (q:DiskL×List UInt16): ∀k,(fM q k).1.dir=q.1.dir
 |0=>rfl
 |k+1=>by
  show(List.foldl g6 (fM q k) _).1.dir=_
  rw[Yh,xS q k]
theorem Mx (q:DiskL×List UInt16) (l:NmL): (l.foldl g6 q).1.off=q.1.off:=by
 induction l generalizing q with
 |nil=>rfl
 |cons p l ih=>rw[List.foldl_cons,ih];rfl
theorem Gn (q:DiskL×List UInt16): ∀k,(fM q k).1.off=q.1.off
 |0=>rfl
 |k+1=>by
  show(List.foldl g6 (fM q k) _).1.off=_
  rw[Mx,Gn q k]
structure C3G where
 k:Nat
 L:aA
 v:Value
structure C4G where
 j:Nat
 L:aA
 v:Value
structure C1G where
 k:Nat
 G:DkG
 L:aA
 v:Value
structure C2G where
 j:Nat
 L:aA
theorem H7 (q:DiskL×List UInt16): ∀ {k j:Nat},k≤j→(dW q k).1.dir j=q.1.dir j
 |0,_,_=>rfl
 |k+1,j,h=>by
  show(dV _ k _).dir j=_
  rw[m8 _ _ (by omega)]
  exact H7 q (by omega)
set_option linter.defProp false
def cV:=And.intro (And.intro (And.intro (@ay) (@ax)) (And.intro (@m7) (And.intro (@nS) (@nQ)))) (And.intro (And.intro (@nR) (@xa)) (And.intro (@xd) (And.intro (@AH) (@ql))))
theorem Hw (X:aA) (G0:DkG) (S:DiskL) (v0:Value) (pl:List UInt16) (w:World) (hX: ∀p,p∈X→w.heap[p.1]? =some p.2) (hn: (keys X).Nodup) (nC:DkP X G0 S) (hGl:l5 w) (hgx:0∉keys X) (hB:DkB (dW (S,pl) 3).1)
  (sZ:PkS w v0 pl) (xD:PkB w X pl v0) (gG:pl.length<1000000) (xC: ∀k,k<3→Cd (S.dir k)∧(S.dir k).pend.length<1000000):
  Rets Tryz.prog 22 #[vp G0.bd 0,v0] w (XS w X (fun _v D=> ∃G',G'.bd=G0.bd∧DkP D G' (eW S pl))):=by
 obtain⟨eg,fzg,x6⟩:=hGl
 refine Rets.enterX Tryz.func22 rfl (rs:= []) Tryz.results22 Tryz.ntmps22 hX hn ?_
 refine kf ?_
 first|with_reducible refine ks [3] @cV ?_|refine kp @cV ?_
 refine Ow.box rfl rfl fun bk sG hwk=> ?_
 simp only[d9,cu,d8,sZ.cell.2]
 refine Ow.permL (M:=X++ [(bk,ci v0)]) (List.Perm.refl _) ?_
 refine ko @cV ?_
 first|with_reducible refine ks [3] @cV ?_|refine kp @cV ?_
 simp only[List.map_toArray,List.map_cons,List.map_nil,d9,cu,d8]
 have rdg: ∀L,Ext w X L→aP w L 0=some (.cells #[vs aG,vs kh,vs refD] eg fzg):=fun L hE=>hE.old x6 hgx
 have nA:Ext w X (X++ [(bk,ci v0)]):=(Ext.refl w X).app hwk
 have oV:=rdg _ nA
 have xA:Sx.look (X++ [(bk,ci v0)]) bk=some (ci v0):=pB sG
 have aa:DkP (X++ [(bk,ci v0)]) G0 S:=nC.mono fun b o h=>bL h
 generalize X++ [(bk,ci v0)]=L0 at*
 first|with_reducible refine ks [5,8,12,16] (And.intro @cV (And.intro @oV (@wm))) ?_|refine kp (And.intro @cV (And.intro @oV (@wm))) ?_
 refine Cw.loopG (G:=C1G) [20,21,6,22,23,24,25,26,27,7,28,29,30,31,32,33,34,35,36,37,38,39,40,41,42,43,44,9,45,46,47,48,49,50,51,52,53,54,55,56,57,58,59,60,61,62,63,19] (fun g=> [(19,vi g.k)]) (fun g=>g.L) (fun g=>g.k≤3∧DkP g.L g.G (dW (S,pl) g.k).1∧g.G.bd=G0.bd∧Sx.look g.L bk=some (ci g.v)∧PkS w g.v (dW (S,pl) g.k).2∧PkB w X (dW (S,pl) g.k).2 g.v∧Ext w X g.L∧(dW (S,pl) g.k).2.length<1000000) (fun g=>3 - g.k) ⟨0,G0,L0,v0⟩ rfl rfl ?_ ?_
 ·exact⟨Nat.zero_le _,aa,rfl,xA,sZ,xD,nA,gG⟩
 intro g j hg
 refine kv ?_
 clear oV xA aa nA
 obtain⟨k,G,L,v⟩:=g
 simp only at hg ⊢
 obtain⟨hk,hP,cW,bl,hv,EB,hE,Ds⟩:=hg
 rw[←cW]
 by_cases aD:k<3
 ·have d1:decide ((k:Int)<3)=true:=decide_eq_true (by omega)
  have ixk:=HA aD
  obtain⟨om,kH,hM⟩:=hP.dirs
  have bY:=aY (w0:=w) hP.disk
  have hrr:=aY (w0:=w) (hP.dir k aD)
  have lO:ag (some (G.d k))=vp (G.d k) 0:=rfl
  have vR:=H7 (S,pl) (Nat.le_refl k)
  simp only at vR
  obtain⟨vals,EC,fL,hF⟩:=hP.pend k aD
  rw[vR] at EC hF
  have hpn1:=(xC k aD).2
  have lnp:=fL.len (false,1)
  first|with_reducible refine ks [] (And.intro @cV (And.intro @d1 (And.intro @ixk (@bY)))) ?_|refine kp (And.intro @cV (And.intro @d1 (And.intro @ixk (@bY)))) ?_
  refine Ow.mapGetG (encK:=vs) (encV:=ag) (k:=eY k) (z:=none) rfl rfl Tryz.underlying121 jJ zrPd rfl rfl (aY kH) hM ?_
  rw[FE,pp aD]
  show Ow _ _ _ _ _ _ _ _
  refine ko (And.intro @cV @lO) ?_
  first|with_reducible refine ks [] @cV ?_|refine kp @cV ?_
  refine Cw.regionS [G.d k] [0,1,2,4,5,6,7,13,3,8,9,10,11,12] [] (by kernel_rfl) (by kernel_rfl) (by kernel_rfl) ?_
  simp only[ap, ↓ao, ↓ac, ↓aj, ↓ai,ad]
  refine kq (And.intro @cV (And.intro @hrr (@lnp))) ?_
  refine Ow.soft rfl rfl rfl ?_
  refine Ow.callFnXC (b:=vi vals.length) (ars:= #[vi vals.length,vp bk 0]) rfl (X:=L) (Y:= []) (List.append_nil _).symm rfl rfl rfl rfl Tryz.call82 (fun w' aB bD aw=>Rets.chunk bD aw (cJ bl) (yi vals.length bk v (dW (S,pl) k).2 w' (by omega) (hv.old aB fun hq b hb=>hE.not (EB hq b hb).1 (EB hq b hb).2) Ds (fun hq e=>by have:=(EB hq bk e).1;omega) (bD _ (cO bl)))) (fun r D hC hS=> ?_)
  obtain⟨o,rfl,rfl,v',rfl,xJ,Xm⟩:=hS
  rw[List.append_nil]
  obtain⟨Xq,wB⟩:=zt hv xJ Xm
  have aa:=hP.away bl (ci v')
  have cm:=hE.came0 hC
  have dr: ∀b o,Sx.look L b=some o→tyO o≠some 24→Sx.look (setB L bk (ci v')) b=some o:=fun b o hb ht=>g9 bl hb ht
  have vg:Sx.look (setB L bk (ci v')) bk=some (ci v'):=jK bl
  have Xd:=aY (w0:=w) (aa.dir k aD)
  have W8:Gr (setB L bk (ci v')) 137 1 (G.p k) vals.length vals:=fL.keep fun b o hb ho=>by
   obtain⟨arr,ha⟩:=lh fL hb
   rw[ho] at ha;cases ha
   exact dr _ _ ho (by simp[tyO])
  have hF1: ∀i,i<vals.length→FnP (setB L bk (ci v')) G.fb (vals.getD i undef) ((S.dir k).pend.getD i k5):=fun i hi=>(hF i hi).keep fun b o ho hx=>dr _ _ ho (by rcases hx with⟨s,rfl⟩ | ⟨a,rfl⟩<;>simp[tyO,dS,iL])
  have w3:=tk (dW (S,pl) k).2 vals.length
  have pU:dW (S,pl) (k+1)=qh (dW (S,pl) k) k:=rfl
  unfold qh at pU
  rw[vR,←EC] at pU
  generalize iW (dW (S,pl) k).2 vals.length=n at*
  have vM:bk≠G.d k:=fun e=>by
   have x4:=aa.dir k aD
   rw[←e,vg] at x4
   simp[cL,ci] at x4
  generalize setB L bk (ci v')=L1 at*
  refine Ow.world fun w1 aF=> ?_
  obtain⟨vc,rb,off,arr,E,fz,cN,Xe,hlr⟩:=TC W8 aF w3
  clear aF
  have lnc:=Xe.len (false,1)
  rw[List.length_take,Nat.min_eq_left w3] at lnc
  with_reducible refine Ow.nil ?_
  refine⟨fun b hb=>by rw[List.mem_singleton] at hb;subst hb;rw[hrr,Xd], ?_⟩
  refine kq (And.intro @cV (And.intro @cN (@lnc))) ?_
  have Dz:dV (dW (S,pl) k).1 k ⟨((dW (S,pl) k).1.dir k).seen,g7 (dW (S,pl) k).1 k 0,((dW (S,pl) k).1.dir k).pend⟩=(dW (S,pl) k).1:=KX _ _
  have eQ: ∀j,g7 (dW (S,pl) k).1 k j=g7 S k j:=fun j=>by unfold g7;rw[vR]
  have xE: (dW (S,pl) (k+1)).2=(dW (S,pl) k).2.drop 1:=rfl
  generalize dW (S,pl) k=q at*
  obtain⟨Sk,pk⟩:=q
  simp only at*
  refine Cw.loopG (G:=C2G) [42,43,44,9,45,46,47,48,49,50,51,41] (fun g=> [(41,vi g.j)]) (fun g=>g.L) (fun g=>g.j≤n∧DkP g.L G (dV Sk k ⟨(Sk.dir k).seen,g7 Sk k g.j,(Sk.dir k).pend⟩)∧Sx.look g.L bk=some (ci v')∧Ext w X g.L∧(∀b o,Sx.look L1 b=some o→b≠G.t k→Sx.look g.L b=some o)) (fun g=>n - g.j) ⟨0,L1⟩ rfl rfl ?_ ?_
  ·exact⟨Nat.zero_le _,by rw[Dz];exact aa,vg,cm,fun _ _ h _=>h⟩
  intro g j hg
  refine kv ?_
  obtain⟨j,L2⟩:=g
  simp only at hg ⊢
  obtain⟨hj,co,oL,cP,sP⟩:=hg
  by_cases hjt:j<n
  ·have d2:decide ((j:Int)< (n:Int))=true:=decide_eq_true (by omega)
   have DY:j< (vals.take n).length:=by rw[List.length_take,Nat.min_eq_left w3];exact hjt
   have ix3:=Xe.idx false j DY
   rw[Nat.mul_one] at ix3
   have ld3:=fun n=>T0 Xe DY n
   have hvj: (vals.take n).getD j undef=vals.getD j undef:=by
    rw[List.getD_eq_getElem?_getD,List.getD_eq_getElem?_getD,List.getElem?_take_of_lt hjt]
   rw[hvj] at ld3
   have XR:j< (S.dir k).pend.length:=by omega
   have E7: ∀ {b:Nat} {o:Obj},Sx.look L1 b=some o→tyO o≠none→b≠G.t k:=by
    intro b o hb ht e
    obtain⟨ot,mt,pY,ju,-⟩:=aa.stl k aD
    rw[e,pY] at hb;cases hb
    exact ht (iT ju)
   have hFj:FnP L2 G.fb (vals.getD j undef) ((S.dir k).pend.getD j k5):=(hF1 j (by omega)).keep fun b o ho hx=>sP b o ho (E7 ho (by rcases hx with⟨s,rfl⟩ | ⟨a,rfl⟩<;>simp[tyO,dS,iL]))
   have eP:=co.stl k aD
   have dT:=co.ok.stl k aD
   have i9:=co.ok.stlN k aD
   have lN:=co.ok.pendN k aD
   rw[lX] at eP dT i9 lN
   have bX:okC (g7 Sk k j) ((S.dir k).pend.getD j k5):=by rw[eQ];exact(xC k aD).1 j XR
   obtain⟨fk,cap,hvf,ft,iN⟩:=HO hFj eP dT bX
   rw[hvf] at ld3
   have Wx:=sP rb _ (hlr (by omega)) (E7 (hlr (by omega)) (by simp[tyO]))
   have rd3:=aY (w0:=w) Wx
   have oZ:=aY (w0:=w) (co.dir k aD)
   have WL:=E7 vg (by simp[tyO,ci])
   first|with_reducible refine ks [] (And.intro @cV (And.intro @d2 (And.intro @ix3 (And.intro @ld3 (And.intro @rd3 (@oZ)))))) ?_|refine kp (And.intro @cV (And.intro @d2 (And.intro @ix3 (And.intro @ld3 (And.intro @rd3 (@oZ)))))) ?_
   refine Ow.callFnXC (b:=vm (G.t k)) (cap:=cap) (ars:= #[vm (G.t k)]++cap) rfl (X:=L2) (Y:= []) (List.append_nil _).symm rfl rfl rfl rfl ft (fun w' aB bD aw=>iN w' bD aw) (fun r D hC hS=> ?_)
   rw[List.append_nil]
   obtain⟨rfl,o',hO,gR⟩:=hS
   have uv:=cP.came0 hC
   have nD:=co.stl1 aD (l':=dP (g7 Sk k j) ((S.dir k).pend.getD j k5)) (fun b o hb aO=>(hO.rest b aO).trans hb) gR (tv _ dT) (FI i9 bX fun h0=>lN _ (by show _∈ (Sk.dir k).pend;rw[vR,List.getD_eq_getElem?_getD,List.getElem?_eq_getElem XR];exact List.getElem_mem _) h0)
   rw[lX,yQ] at nD
   have dO:g7 Sk k (j+1)=dP (g7 Sk k j) ((S.dir k).pend.getD j k5):=by rw[NC (by rw[vR];exact XR),vR]
   refine ko @cV ?_
   first|with_reducible refine ks [] @cV ?_|refine kp @cV ?_
   exact Again.mk ⟨j+1,D⟩ (by show n - (j+1)<n - j;omega) ⟨hjt,by rw[dO];exact nD,(hO.rest bk WL).trans oL,uv,fun b o hb aO=>(hO.rest b aO).trans (sP b o hb aO)⟩ rfl rfl
  ·obtain rfl:j=n:=by omega
   have d2:decide ((j:Int)< (j:Int))=false:=decide_eq_false (by omega)
   have eP:=co.stl k aD
   have dT:=co.ok.stl k aD
   have i9:=co.ok.stlN k aD
   rw[lX] at eP dT i9
   obtain⟨ot,mt,pY,ju,iB⟩:=eP
   have j0:=co.dir k aD
   have oZ:=aY (w0:=w) j0
   first|with_reducible refine ks [13] (And.intro @cV (And.intro @d2 (@oZ))) ?_|refine kp (And.intro @cV (And.intro @d2 (@oZ))) ?_
   refine Ow.callC rfl rfl Tryz.call83 (fun w' aB=>Kv (G.t k) ot mt w' (aB.has _ _ (cO pY)) ju) (fun B4 v4 D4 i1 pM eI bK=> ?_)
   obtain⟨c,o4,rfl,rfl,hm4⟩:=bK
   have sF:eS L2 c:=gh fun b hb=>by
    have h1:=ae i1 hb
    have h2:=eI.le c (by simp[keys])
    omega
   have qz:c∉keys L2:=fun hm=>by have:=ae sF hm;omega
   have iQ:Sx.look (L2++ [(c,o4)]) (G.d k)=some (cL (G.s k) (G.t k) (G.p k)):=bL j0
   have Wo:Sx.look (L2++ [(c,o4)]) c=some o4:=pB sF
   have Wj: ∀b o,Sx.look L2 b=some o→Sx.look (L2++ [(c,o4)]) b=some o:=fun b o h=>bL h
   have uv:=cP.app (o:=o4) (b:=c) (by have:=eI.le c (by simp[keys]);omega)
   generalize L2++ [(c,o4)]=L3 at*
   have sV:=aY (w0:=w) iQ
   have st0:=fun x=>OD (G.s k) (G.t k) c (G.p k) x
   have Zk:c≠G.d k:=fun e=>qz (by rw[e];exact cJ j0)
   have pV:Sx.look (setB L3 (G.d k) (cL c (G.t k) (G.p k))) (G.d k)=some (cL c (G.t k) (G.p k)):=jK iQ
   have Wp:Sx.look (setB L3 (G.d k) (cL c (G.t k) (G.p k))) c=some o4:=by rw[eO (Ne.symm Zk)];exact Wo
   have vf: ∀b o,Sx.look L2 b=some o→b≠G.d k→Sx.look (setB L3 (G.d k) (cL c (G.t k) (G.p k))) b=some o:=fun b o h aO=>by rw[eO (Ne.symm aO)];exact Wj b o h
   have gQ:=uv.setB (b:=G.d k) (o:=cL c (G.t k) (G.p k))
   refine ko (And.intro @cV (And.intro @iQ (And.intro @st0 (@qB)))) ?_
   generalize setB L3 (G.d k) (cL c (G.t k) (G.p k))=L4 at*
   have XY:=aY (w0:=w) pV
   have st2:=fun x=>H5 c (G.t k) (G.p k) (.slice none 0 0) x ⟨rfl,rfl⟩
   first|with_reducible refine ks [] (And.intro @cV (And.intro @pV (And.intro @XY (And.intro @st2 (@qB))))) ?_|refine kp (And.intro @cV (And.intro @pV (And.intro @XY (And.intro @st2 (@qB))))) ?_
   have Wk: ∀b o,Sx.look L2 b=some o→b≠G.t k→b≠G.d k→Sx.look (setB L4 (G.d k) (cL c (G.t k) (.slice none 0 0))) b=some o:=fun b o h _ aO=>by rw[eO (Ne.symm aO)];exact vf b o h aO
   have oM: ∀ {b:Nat} {o:Obj} {m:List (List UInt8×Option Nat)},Sx.look L2 b=some o→eF vs ag o m→b≠G.d k:=by
    intro b o m hb hm e
    rw[e,j0] at hb;cases hb
    obtain⟨es,cl,h,-⟩:=hm;cases h
   have pQ:=co.calm aD (s':=c) ⟨g7 Sk k j,g7 Sk k j,[]⟩ rfl Wk ⟨o4,mt,by rw[eO (Ne.symm Zk)];exact Wp,hm4,iB⟩ ⟨ot,mt,by rw[eO (Ne.symm (oM pY ju))];exact vf _ _ pY (oM pY ju),ju,iB⟩ (jK pV) (.inr qz) dT dT i9 i9
   rw[yQ] at pQ
   have Zi:bk≠G.d k:=fun e=>vM e
   exact Again.mk ⟨k+1,nw G k c,setB L4 (G.d k) (cL c (G.t k) (.slice none 0 0)),v'⟩ (by show 3 - (k+1)<3 - k;omega) ⟨aD,by rw[pU];exact pQ,rfl,by rw[eO (Ne.symm vM)];exact vf _ _ oL vM,by rw[pU];exact Xq,by rw[pU];exact wB EB,gQ.setB,by rw[pU];show(pk.drop 1).length<1000000;rw[List.length_drop];omega⟩ rfl rfl
 ·obtain rfl:k=3:=by omega
  have d1:decide (((3:Nat):Int)<3)=false:=rfl
  unfold eW
  generalize dW (S,pl) 3=q at*
  obtain⟨S3,p3⟩:=q
  simp only at*
  have j5:DkOk {S3 with off:=false}:=⟨hP.ok.seen,hP.ok.stl,hP.ok.seenN,hP.ok.stlN,hP.ok.pendN,hP.ok.file,hP.ok.fuse,hP.ok.max⟩
  have aa:=hP.setDisk {S3 with off:=false} rfl rfl j5
  have rG:DkOk (lg S3):=⟨hP.ok.seen,hP.ok.stl,hP.ok.seenN,hP.ok.stlN,hP.ok.pendN,hP.ok.file,⟨hP.ok.fuse.1,hP.ok.fuse.2.1,fun h=>by cases h⟩,hP.ok.max⟩
  have co:=aa.setDisk (lg S3) rfl rfl rG
  have oV:=aY (w0:=w) hP.disk
  have js:=hP.disk
  have i9:=aa.disk
  have st4:=fun x=>ym G.bm S3 false x
  have st3:=fun x=>yb G.bm {S3 with off:=false} false x
  have G9:=rdg
  have DI:bk≠G.bd:=fun e=>by
   have x4:=hP.disk
   rw[←e,bl] at x4
   simp[bI,ci] at x4
  have oL:Sx.look (setB (setB L G.bd (bI G.bm {S3 with off:=false})) G.bd (bI G.bm (lg S3))) bk=some (ci v):=by
   rw[eO (Ne.symm DI),eO (Ne.symm DI)];exact bl
  have cP:=(hE.setB (b:=G.bd) (o:=bI G.bm {S3 with off:=false})).setB (b:=G.bd) (o:=bI G.bm (lg S3))
  have ly:=rdg _ cP
  have G6:aP w (setB (setB L G.bd (bI G.bm {S3 with off:=false})) G.bd (bI G.bm {S3 with off:=false,fused:=false})) 0=_:=ly
  have gX:Sx.look (setB (setB L G.bd (bI G.bm {S3 with off:=false})) G.bd (bI G.bm {S3 with off:=false,fused:=false})) bk=some (ci v):=oL
  have hE5:Ext w X (setB (setB L G.bd (bI G.bm {S3 with off:=false})) G.bd (bI G.bm {S3 with off:=false,fused:=false})):=cP
  have pQ:DkP (setB (setB L G.bd (bI G.bm {S3 with off:=false})) G.bd (bI G.bm {S3 with off:=false,fused:=false})) G (lg S3):=co
  clear ly oL cP co
  first|with_reducible refine ks [17] (And.intro @cV (And.intro @d1 (And.intro @js (And.intro @i9 (And.intro @st4 (And.intro @st3 (And.intro @qB (And.intro @G6 (@wm))))))))) ?_|refine kp (And.intro @cV (And.intro @d1 (And.intro @js (And.intro @i9 (And.intro @st4 (And.intro @st3 (And.intro @qB (And.intro @G6 (@wm))))))))) ?_
  generalize hL5:setB (setB L G.bd (bI G.bm {S3 with off:=false})) G.bd (bI G.bm {S3 with off:=false,fused:=false})=L5 at*
  have hdw: (lg S3).dir=S3.dir:=rfl
  have how: (lg S3).off=false:=rfl
  generalize lg S3=S5 at*
  refine Cw.loopG (G:=C3G) [72,73,11,74,75,76,77,78,79,80,81,13,82,83,84,85,86,87,88,89,90,91,92,14,93,94,95,96,97,98,99,100,101,102,103,104,105,106,107,108,109,110,111,112,113,114,115,116,117,118,119,120,121,122,123,124,125,126,127,71] (fun g=> [(71,vi g.k)]) (fun g=>g.L) (fun g=>g.k≤3∧DkP g.L G (fM (S5,p3) g.k).1∧Sx.look g.L bk=some (ci g.v)∧PkS w g.v (fM (S5,p3) g.k).2∧PkB w X (fM (S5,p3) g.k).2 g.v∧Ext w X g.L∧(fM (S5,p3) g.k).2.length<1000000) (fun g=>3 - g.k) ⟨0,L5,v⟩ rfl rfl ?_ ?_
  ·exact⟨Nat.zero_le _,pQ,gX,hv,EB,hE5,Ds⟩
  intro g j hg
  refine kv ?_
  obtain⟨k,L6,v6⟩:=g
  simp only at hg ⊢
  obtain⟨Zw,ww,Db,hv6,Xp,pO,XU⟩:=hg
  by_cases j2:k<3
  ·have d6:decide ((k:Int)<3)=true:=decide_eq_true (by omega)
   have ixk:=HA j2
   have Fq:=xS (S5,p3) k
   have ho6:=Gn (S5,p3) k
   simp only at Fq ho6
   have Fd:DkB (fM (S5,p3) k).1:=by
    intro i hi
    rw[Fq,hdw];exact hB i hi
   have sJ:fM (S5,p3) (k+1)=((S5.dir k).seen).foldl g6 (fM (S5,p3) k):=rfl
   first|with_reducible refine ks [26] (And.intro @cV (And.intro @d6 (@ixk))) ?_|refine kp (And.intro @cV (And.intro @d6 (@ixk))) ?_
   refine Ow.callC rfl rfl Tryz.call79 (fun w' aB=>yk w' G (fM (S5,p3) k).1 (eY k) (ww.world aB) Fd) (fun B7 v7 D7 iw hB7 nB qw=> ?_)
   rw[zC j2,Fq,ho6,how,if_neg (by simp),←yy] at qw
   obtain⟨sn,fi⟩: ∃sn,(S5.dir k).seen=sn:=⟨_,rfl⟩
   rw[fi] at sJ qw
   have ln7:=rk qw
   rw[List.length_map] at ln7
   refine ko (And.intro @cV @ln7) ?_
   refine Cw.world fun w1 aF=> ?_
   obtain⟨rb,off,arr,E,fz,jS,vk⟩:=qw.rowL (z:= []) (by rw[List.length_map]) ((aF.perm (M:=D7++L6) List.perm_append_comm).part) As
   clear aF
   have G5:=ww.ok.seen k j2
   have Xh:=(Fd k j2).1
   rw[Fq,fi] at G5 Xh
   have xF: ∀c,c∈keys L6→0<sn.length→rb≠c:=fun c hc h0 e=>by
    have h1:=ae iw hc
    have h2:=nB.le rb (cJ (vk (by rw[List.length_map];exact h0)))
    omega
   have Wy:0<sn.length→Sx.look (L6++D7) rb=some (.cells arr E fz):=fun h0=>by
    rw[gi (fun hm=>xF rb hm h0 rfl)]
    exact vk (by rw[List.length_map];exact h0)
   have Cr:DkP (L6++D7) G (fM (S5,p3) k).1:=ww.mono fun b o h=>bL h
   have Dc:Sx.look (L6++D7) bk=some (ci v6):=bL Db
   have hE7:Ext w X (L6++D7):=⟨fun c hc=>by
    rw[bM] at hc
    rcases List.mem_append.1 hc with h|h
    ·exact pO.new c h
    ·exact .inr (Nat.le_trans hB7 (nB.le c h)),fun c hc=>by rw[bM];exact List.mem_append_left _ (pO.all c hc)⟩
   have ft: ∀n,n< (fM (S5,p3) k).1.files.length→G.fb.getD n 0∈keys L6:=fun n hn=>cJ (ww.file n hn)
   have WM:=cJ Db
   clear vk qw
   generalize L6++D7=L7 at*
   refine Cw.loopG (G:=C4G) [79,80,81,13,82,83,84,85,86,87,88,89,90,91,92,14,93,94,95,96,97,98,99,100,101,102,103,104,105,106,107,108,109,110,111,112,113,114,115,116,117,118,119,120,121,122,123,124,125,126,78] (fun g=> [(78,vi g.j)]) (fun g=>g.L) (fun g=>g.j≤sn.length∧DkP g.L G ((sn.take g.j).foldl g6 (fM (S5,p3) k)).1∧Sx.look g.L bk=some (ci g.v)∧PkS w g.v ((sn.take g.j).foldl g6 (fM (S5,p3) k)).2∧PkB w X ((sn.take g.j).foldl g6 (fM (S5,p3) k)).2 g.v∧Ext w X g.L∧((sn.take g.j).foldl g6 (fM (S5,p3) k)).2.length<1000000∧(0<sn.length→Sx.look g.L rb=some (.cells arr E fz))) (fun g=>sn.length - g.j) ⟨0,L7,v6⟩ rfl rfl ?_ ?_
   ·exact⟨Nat.zero_le _,Cr,Dc,hv6,Xp,hE7,XU,Wy⟩
   intro g j hg
   refine kv ?_
   obtain⟨j,L8,v8⟩:=g
   simp only at hg ⊢
   obtain⟨hj,mT,lI,EA,mh,ux,rN,Wz⟩:=hg
   by_cases hjt:j<sn.length
   ·have d2:decide ((j:Int)< (sn.length:Int))=true:=decide_eq_true (by omega)
    have DY:j< (sn.map Prod.fst).length:=by rw[List.length_map];exact hjt
    have ix3:=jS.idx false j DY
    rw[Nat.mul_one] at ix3
    have ld3:=fun n=>uA jS DY n
    have Df:=Wz (by omega)
    have rd3:=aY (w0:=w) Df
    have hp:sn[j]'hjt∈sn:=List.getElem_mem _
    have hse: (sn.map Prod.fst).getD j []=(sn[j]'hjt).1:=by simp[List.getD_eq_getElem?_getD,hjt]
    have mf:sn.take (j+1)=sn.take j++ [sn[j]'hjt]:=by
     rw[List.take_add_one];simp[hjt]
    rw[hse] at ld3
    generalize sn[j]'hjt=p at*
    obtain⟨x,n⟩:=p
    have Zm: ((sn.take j).foldl g6 (fM (S5,p3) k)).1.dir=S5.dir:=by rw[Yh,xS]
    have oG: ((sn.take (j+1)).foldl g6 (fM (S5,p3) k))=g6 ((sn.take j).foldl g6 (fM (S5,p3) k)) (x,n):=by rw[mf,List.foldl_append];rfl
    generalize (sn.take j).foldl g6 (fM (S5,p3) k)=q8 at*
    obtain⟨S8,p8⟩:=q8
    simp only at mT EA rN Zm ld3
    have nN: (S8.dir k).seen=sn:=by rw[Zm];exact fi
    obtain⟨om,kH,hM⟩:=mT.dirs
    obtain⟨os,ms,gY,fh,iB⟩:=mT.seen k j2
    rw[nN] at iB
    have gE:aR sn x=some n:=xv G5.nodup hp
    have da:n<S8.files.length:=mT.ok.seenN k j2 _ (by rw[nN];exact hp)
    have rdd:=aY (w0:=w) mT.disk
    have rdr:=aY (w0:=w) (mT.dir k j2)
    have kF:=mT.file n da
    have rdf:=aY (w0:=w) kF
    have lO:ag (some (G.d k))=vp (G.d k) 0:=rfl
    have hpf:ag (some (G.fb.getD n 0))=vp (G.fb.getD n 0) 0:=rfl
    first|with_reducible refine ks [] (And.intro @cV (And.intro @d2 (And.intro @ix3 (And.intro @ld3 (And.intro @rd3 (@rdd)))))) ?_|refine kp (And.intro @cV (And.intro @d2 (And.intro @ix3 (And.intro @ld3 (And.intro @rd3 (@rdd)))))) ?_
    refine kq (And.intro @cV @rdd) ?_
    refine Ow.mapGetG (encK:=vs) (encV:=ag) (k:=eY k) (z:=none) rfl rfl Tryz.underlying121 jJ zrPd rfl rfl (aY kH) hM ?_
    rw[FE,pp j2]
    show Ow _ _ _ _ _ _ _ _
    refine ko (And.intro @cV (And.intro @lO (@rdr))) ?_
    refine Ow.mapGetG (encK:=vs) (encV:=ag) (k:=x) (z:=none) rfl rfl Tryz.underlying127 jJ zrPf rfl rfl (aY gY) fh ?_
    rw[iB.get G5.nodup,gE]
    show Ow _ _ _ _ _ _ _ _
    refine ko (And.intro @cV @hpf) ?_
    have jQ:=we mT.ok da
    have Dw:aP w L8 (G.fb.getD n 0)=some (cR (aH S8 n)):=rdf
    have r5:S8.files.getD n dw=aH S8 n:=rfl
    rw[r5] at kF
    clear rdf
    have hcf:g6 (S8,p8) (x,n)=(ez S8 n ⟨(aH S8 n).data.take ((aH S8 n).stl+iW p8 ((aH S8 n).data.length - (aH S8 n).stl)),((aH S8 n).data.take ((aH S8 n).stl+iW p8 ((aH S8 n).data.length - (aH S8 n).stl))).length⟩,p8.drop 1):=rfl
    rw[hcf] at oG
    have hple8:=tk p8 ((aH S8 n).data.length - (aH S8 n).stl)
    generalize aH S8 n=f at*
    have Xk: (f.data.length:Int) - (f.stl:Int)=((f.data.length - f.stl:Nat):Int):=by omega
    refine Cw.regionG [G.fb.getD n 0] [25] 26 (by kernel_rfl) rfl ?_
    simp only[List.replicate_succ,List.replicate_zero]
    refine OwG.run [0,1,2,3,4,5,6,7,8,9,10,11,12,13,14,15,16,17,18,19] [true,true,true,true,true,true,true,true,true,true,true,true,true,true,true,true,true,true,true,true,false,false,false,false,false,false] 6 rfl (by kernel_rfl) (by kernel_rfl) fun k hk=> ?_
    simp only[ap, ↓ao, ↓ac, ↓aj, ↓ai,ad]
    simp(disch:=(first|assumption|omega| (simp only[cT,cS,UInt64.reduceToNat];try omega))) only[↓Sx.S0,Sx.S1,Tryz.fx,cV,Nat.reduceAdd,Nat.reducePow,Int.reducePow,Nat.reduceBEq, ↓reduceIte,UInt8.reduceToNat,UInt16.reduceToNat,UInt32.reduceToNat,UInt64.reduceToNat,Int.reduceToNat,Md.next_sofnil,Dw,Xk]
    (with_reducible refine hk _ _ _ ?_);clear hk k
    refine OwG.one 20 _ (by kernel_rfl) rfl ?_
    refine Ow.callFnXC (b:=vi ((f.data.length - f.stl:Nat):Int)) (ars:= #[vi ((f.data.length - f.stl:Nat):Int),vp bk 0]) rfl (X:=L8) (Y:= []) (List.append_nil _).symm rfl rfl rfl rfl Tryz.call82 (fun w' aB bD aw=>Rets.chunk bD aw (cJ lI) (yi (f.data.length - f.stl) bk v8 p8 w' (by omega) (EA.old aB fun hq b hb=>ux.not (mh hq b hb).1 (mh hq b hb).2) rN (fun hq e=>by have:=(mh hq bk e).1;omega) (bD _ (cO lI)))) (fun r D hC hS=> ?_)
    rw[List.append_nil]
    obtain⟨o,rfl,rfl,v9,rfl,xJ,Xm⟩:=hS
    obtain⟨Xq,wB⟩:=zt EA xJ Xm
    have W6:=ux.came0 hC
    have hP9:=mT.away lI (ci v9)
    have hk9: ∀b o,Sx.look L8 b=some o→tyO o≠some 24→Sx.look (setB L8 bk (ci v9)) b=some o:=fun b o hb ht=>g9 lI hb ht
    have oK:Sx.look (setB L8 bk (ci v9)) (G.fb.getD n 0)=some (cR f):=hk9 _ _ kF (by simp[tyO,cR])
    have Dd:Sx.look (setB L8 bk (ci v9)) bk=some (ci v9):=jK lI
    have XZ:Sx.look (setB L8 bk (ci v9)) rb=some (.cells arr E fz):=by rw[eO (fun e=>xF bk WM (by omega) e.symm)];exact Df
    have Xb:=aY (w0:=w) oK
    generalize iW p8 (f.data.length - f.stl)=m at*
    have WE: (f.stl:Int)+ (m:Int)=((f.stl+m:Nat):Int):=by omega
    have DJ:bk≠G.fb.getD n 0:=fun e=>by
     rw[←e,Dd] at oK
     simp[cR,ci] at oK
    generalize setB L8 bk (ci v9)=L9 at*
    have st0:=fun x=>Gj f (f.data.take (f.stl+m)) x
    with_reducible refine Ow.nil ?_
    refine⟨(fun b hb=>by rw[List.mem_singleton] at hb;subst hb;rw[Dw,Xb]), ?_⟩
    simp only[List.set_cons_zero,List.set_cons_succ,EY,ry,s8]
    refine OwG.rest [21,22,23,24,25] rfl (by kernel_rfl) (by kernel_rfl) ?_
    simp only[ap, ↓ao, ↓ac, ↓aj, ↓ai,ad]
    refine kq (And.intro @cV @WE) ?_
    refine Ow.store rfl rfl rfl (ke (And.intro @cV (And.intro @oK (@st0)))) ?_
    have me: (f.data.take (f.stl+m)).length≤f.data.length:=by rw[List.length_take];omega
    have Xl:f.stl≤ (f.data.take (f.stl+m)).length:=by rw[List.length_take];omega
    have Zz:Sx.look (setB L9 (G.fb.getD n 0) (cR ⟨f.data.take (f.stl+m),f.stl⟩)) (G.fb.getD n 0)=some (cR ⟨f.data.take (f.stl+m),f.stl⟩):=jK oK
    have hrB:=aY (w0:=w) Zz
    have st1:=fun x=>H6 ⟨f.data.take (f.stl+m),f.stl⟩ (f.data.take (f.stl+m)).length x
    have Dn:=wt (n:=n) (f:=⟨f.data.take (f.stl+m),f.stl⟩) mT.ok ⟨Nat.le_trans me jQ.1,Xl⟩
    have hPA:=hP9.setFile da ⟨f.data.take (f.stl+m),f.stl⟩ Dn
    have XL:=wt (n:=n) (f:=⟨f.data.take (f.stl+m),(f.data.take (f.stl+m)).length⟩) Dn ⟨Nat.le_trans me jQ.1,Nat.le_refl _⟩
    have Ze:=hPA.setFile (by rw[List.length_set];exact da) ⟨f.data.take (f.stl+m),(f.data.take (f.stl+m)).length⟩ XL
    simp only[List.set_set] at Ze
    have hEB:=(W6.setB (b:=G.fb.getD n 0) (o:=cR ⟨f.data.take (f.stl+m),f.stl⟩)).setB (b:=G.fb.getD n 0) (o:=cR ⟨f.data.take (f.stl+m),(f.data.take (f.stl+m)).length⟩)
    have G8:rb≠G.fb.getD n 0:=xF _ (ft n (by have:=ww.len;have:=mT.len;omega)) (by omega)
    have Ws:Sx.look (setB (setB L9 (G.fb.getD n 0) (cR ⟨f.data.take (f.stl+m),f.stl⟩)) (G.fb.getD n 0) (cR ⟨f.data.take (f.stl+m),(f.data.take (f.stl+m)).length⟩)) bk=some (ci v9):=by
     rw[eO (Ne.symm DJ),eO (Ne.symm DJ)];exact Dd
    have Xa:Sx.look (setB (setB L9 (G.fb.getD n 0) (cR ⟨f.data.take (f.stl+m),f.stl⟩)) (G.fb.getD n 0) (cR ⟨f.data.take (f.stl+m),(f.data.take (f.stl+m)).length⟩)) rb=some (.cells arr E fz):=by
     rw[eO (Ne.symm G8),eO (Ne.symm G8)];exact XZ
    refine ko (And.intro @cV (And.intro @qB (And.intro @hrB (And.intro @Zz (@st1))))) ?_
    first|with_reducible refine ks [] @cV ?_|refine kp @cV ?_
    exact Again.mk ⟨j+1,setB (setB L9 (G.fb.getD n 0) (cR ⟨f.data.take (f.stl+m),f.stl⟩)) (G.fb.getD n 0) (cR ⟨f.data.take (f.stl+m),(f.data.take (f.stl+m)).length⟩),v9⟩ (by show sn.length - (j+1)<sn.length - j;omega) ⟨hjt,by rw[oG];exact Ze,Ws,by rw[oG];exact Xq,by rw[oG];exact wB mh,hEB,by rw[oG];show(p8.drop 1).length<1000000;rw[List.length_drop];omega,fun _=>Xa⟩ rfl rfl
   ·obtain rfl:j=sn.length:=by omega
    have d2:decide ((sn.length:Int)< (sn.length:Int))=false:=decide_eq_false (by omega)
    rw[List.take_length] at mT EA mh rN
    first|with_reducible refine ks [] (And.intro @cV @d2) ?_|refine kp (And.intro @cV @d2) ?_
    first|with_reducible refine ks [] @cV ?_|refine kp @cV ?_
    exact Again.mk ⟨k+1,L8,v8⟩ (by show 3 - (k+1)<3 - k;omega) ⟨j2,by rw[sJ];exact mT,lI,by rw[sJ];exact EA,by rw[sJ];exact mh,ux,by rw[sJ];exact rN⟩ rfl rfl
  ·obtain rfl:k=3:=by omega
   have d6:decide (((3:Nat):Int)<3)=false:=rfl
   first|with_reducible refine ks [] (And.intro @cV @d6) ?_|refine kp (And.intro @cV @d6) ?_
   refine⟨_,(ke @cV), ?_⟩
   exact⟨pO,G,rfl,ww⟩
end Go.Proofs
end
section
open Go Go.Proofs Go.Sx Go.StP
namespace Go.Proofs
set_option maxRecDepth 10000
set_option maxHeartbeats 400000
set_option linter.unusedSimpArgs false
def nu (d:DirL):Prop:=d.pend.foldl dP d.stl=d.seen∧Cd d
def iE (S:DiskL):Prop:= ∀k,nu (S.dir k)
theorem EW (l:NmL):nu ⟨l,l,[]⟩:=⟨rfl,fun i hi=>absurd hi (Nat.not_lt_zero i)⟩
theorem Nk {d:DirL} {c:CallL} (h:nu d) (bX:okC d.seen c):nu ⟨dP d.seen c,d.stl,d.pend++ [c]⟩:=by
 refine⟨by show(d.pend++ [c]).foldl dP d.stl=_;rw[List.foldl_append,h.1];rfl,fun i hi=> ?_⟩
 have Fv:i< (d.pend++ [c]).length:=hi
 show okC (((d.pend++ [c]).take i).foldl dP d.stl) ((d.pend++ [c]).getD i k5)
 by_cases e:i<d.pend.length
 ·rw[List.take_append_of_le_length (by omega),List.getD_eq_getElem?_getD,List.getElem?_append_left e,←List.getD_eq_getElem?_getD]
  exact h.2 i e
 ·rw[List.length_append,List.length_singleton] at Fv
  obtain rfl:i=d.pend.length:=by omega
  rw[List.take_append_of_le_length (Nat.le_refl _),List.take_length,h.1,List.getD_eq_getElem?_getD,List.getElem?_append_right (Nat.le_refl _),Nat.sub_self]
  exact bX
theorem wl {S S':DiskL} (h:iE S) (e:S'.dir=S.dir):iE S':=fun k=>by rw[e];exact h k
theorem Ha {S:DiskL} (h:iE S) {k:Nat} {d:DirL} (hd:nu d):iE (dV S k d):=fun j=>by
 by_cases e:j=k
 ·subst e;rw[lX];exact hd
 ·rw[m8 _ _ e];exact h j
theorem Gx {S:DiskL} (h:iE S) {k:Nat} {c:CallL} (bX:okC (S.dir k).seen c):iE (gL S k c):=Ha h (Nk (h k) bX)
theorem Oh {S:DiskL} (h:iE S):iE (aJ S).1:=wl h (j9 S).1
theorem Rg (q:Int):iE (d7 q):=fun _=>EW []
theorem Ya {q:DiskL×List UInt16} (h:iE q.1): ∀k,iE (dW q k).1
 |0=>h
 |k+1=>Ha (Ya h k) (EW _)
theorem Gt {S:DiskL} (h:iE S) (pl:List UInt16):iE (eW S pl):=by
 unfold eW
 refine wl (S:=lg (dW (S,pl) 3).1) ?_ (xS _ 3)
 exact wl (Ya (q:=(S,pl)) h 3) rfl
end Go.Proofs
end
section
open Go Go.Proofs Go.Sx Go.StP
namespace Go.Proofs
set_option maxRecDepth 10000
set_option maxHeartbeats 400000
set_option linter.unusedSimpArgs false
def NmB (l:NmL):Prop:= ∀p,p∈l→p.1.length≤1000000
def o0 (c:CallL):Prop:=c.a.length≤1000000∧c.b.length≤1000000
structure DirB (N:Nat) (d:DirL):Prop where
 seen:d.seen.length≤N
 stl:d.stl.length+d.pend.length≤N
 seenB:NmB d.seen
 stlB:NmB d.stl
 pendB: ∀c,c∈d.pend→o0 c
def DkN (N:Nat) (S:DiskL):Prop:= ∀k,DirB N (S.dir k)
theorem DkN.b {N:Nat} {S:DiskL} (h:DkN N S) (hN:N≤1000000):DkB S:=fun k _=>⟨Nat.le_trans (h k).seen hN,(h k).seenB⟩
theorem DirB.mono {N M:Nat} {d:DirL} (h:DirB N d) (hm:N≤M):DirB M d:=⟨Nat.le_trans h.seen hm,Nat.le_trans h.stl hm,h.seenB,h.stlB,h.pendB⟩
theorem DkN.mono {N M:Nat} {S:DiskL} (h:DkN N S) (hm:N≤M):DkN M S:=fun k=>(h k).mono hm
theorem Hm (l:NmL) (s:List UInt8): (cw l s).length≤l.length:=List.length_filter_le _ _
theorem tY (l:NmL) (x:List UInt8×Nat): (fZ l x).length≤l.length+1:=by
 have h1:=(po x (cw l x.1)).length_eq
 have h2:=Hm l x.1
 rw[List.length_cons] at h1
 show(insN (cw l x.1) x).length≤_
 omega
theorem zL (l:NmL) (c:CallL): (dP l c).length≤l.length+1:=by
 unfold dP
 split
 ·exact tY l _
 ·have h1:=tY (cw l c.a) (c.b,(aR l c.a).getD 0)
  have h2:=Hm l c.a
  omega
 ·exact Nat.le_succ_of_le (Hm l _)
theorem tw {l:NmL} (h:NmB l) (s:List UInt8):NmB (cw l s):=fun p hp=>h p (List.mem_filter.1 hp).1
theorem ua {l:NmL} (h:NmB l) {x:List UInt8×Nat} (hx:x.1.length≤1000000):NmB (fZ l x):=fun p hp=>by
 have:=(po x (cw l x.1)).mem_iff.1 hp
 rcases List.mem_cons.1 this with rfl|h1
 ·exact hx
 ·exact tw h _ p h1
theorem Bv {l:NmL} (h:NmB l) {c:CallL} (hc:o0 c):NmB (dP l c):=by
 unfold dP
 split
 ·exact ua h hc.1
 ·exact ua (tw h _) hc.2
 ·exact tw h _
theorem Bt: ∀ (cs:List CallL) {l:NmL},NmB l→(∀c,c∈cs→o0 c)→NmB (cs.foldl dP l)∧(cs.foldl dP l).length≤l.length+cs.length
 | [],l,h,_=>⟨h,Nat.le_refl _⟩
 |c::cs,l,h,hc=>by
  have h1:=Bt cs (Bv h (hc c List.mem_cons_self)) (fun c' h'=>hc c' (List.mem_cons_of_mem _ h'))
  have h2:=zL l c
  refine⟨h1.1, ?_⟩
  have h3:=h1.2
  rw[List.length_cons]
  show(List.foldl dP (dP l c) cs).length≤_
  omega
theorem Q1 {N:Nat} {d:DirL} {c:CallL} (h:DirB N d) (hc:o0 c):DirB (N+1) ⟨dP d.seen c,d.stl,d.pend++ [c]⟩ where
 seen:=by have:=zL d.seen c;have:=h.seen;show(dP d.seen c).length≤_;omega
 stl:=by have:=h.stl;show d.stl.length+ (d.pend++ [c]).length≤_;rw[List.length_append,List.length_singleton];omega
 seenB:=Bv h.seenB hc
 stlB:=h.stlB
 pendB:=fun c' h'=>by
  rcases List.mem_append.1 h' with h'|h'
  ·exact h.pendB c' h'
  ·rw[List.mem_singleton.1 h'];exact hc
theorem Es {N:Nat} {l:NmL} (h:l.length≤N) (hb:NmB l):DirB N ⟨l,l,[]⟩:=⟨h,h,hb,hb,fun c hc=>by cases hc⟩
theorem FL {N:Nat} {S:DiskL} (h:DkN N S) {k:Nat} {d:DirL} (hd:DirB N d):DkN N (dV S k d):=fun j=>by
 by_cases e:j=k
 ·subst e;rw[lX];exact hd
 ·rw[m8 _ _ e];exact h j
theorem tF {N:Nat} {S S':DiskL} (h:DkN N S) (e:S'.dir=S.dir):DkN N S':=fun k=>by rw[e];exact h k
theorem Hc {N:Nat} {S:DiskL} (h:DkN N S) {k:Nat} {c:CallL} (hc:o0 c):DkN (N+1) (gL S k c):=FL (h.mono (Nat.le_succ N)) (Q1 (h k) hc)
theorem ER {N:Nat} {q:DiskL×List UInt16} (h:DkN N q.1): ∀k,DkN N (dW q k).1
 |0=>h
 |k+1=>by
  have h1:=ER h k
  have hd:=h1 k
  show DkN N (qh (dW q k) k).1
  generalize dW q k=r at*
  refine FL h1 ?_
  have h2:=Bt ((r.1.dir k).pend.take (iW r.2 (r.1.dir k).pend.length)) hd.stlB (fun c hc=>hd.pendB c (List.mem_of_mem_take hc))
  refine Es ?_ h2.1
  have h3:=h2.2
  rw[List.length_take] at h3
  have h4:=hd.stl
  show(List.foldl dP _ _).length≤N
  omega
theorem HP {N:Nat} {S:DiskL} (h:DkN N S) (pl:List UInt16):DkN N (eW S pl):=by
 unfold eW
 refine tF (S:=lg (dW (S,pl) 3).1) ?_ (xS _ 3)
 exact tF (ER (q:=(S,pl)) h 3) rfl
theorem BU (q:Int):DkN 0 (d7 q):=fun _=>Es (Nat.le_refl 0) fun _ h=>by cases h
end Go.Proofs
end
section
open Go Go.Proofs Go.Sx Go.StP
namespace Go.Proofs
set_option maxRecDepth 10000
set_option maxHeartbeats 400000
set_option linter.unusedSimpArgs false
end Go.Proofs
end
section
open Go Go.Proofs Go.Sx Go.StP
namespace Go.Proofs
set_option maxRecDepth 10000
set_option maxHeartbeats 400000
set_option linter.unusedSimpArgs false
theorem KV (S:DiskL) (f:FiL) (h: ∀k,(S.dir k).pend= []∧(S.dir k).stl= []): ∀k,((ck S f).dir k).pend= []∧((ck S f).dir k).stl= []:=by
 intro k
 unfold ck
 split
 ·rename_i j hj
  split
  ·by_cases e:k=j
   ·subst e;rw[lX];exact⟨(h k).1,(h k).2⟩
   ·rw[m8 _ _ e];exact h k
  ·exact h k
 ·exact h k
theorem Kr (l:List FiL): ∀ (S:DiskL),(∀k,(S.dir k).pend= []∧(S.dir k).stl= [])→ ∀k,((l.foldl ck S).dir k).pend= []∧((l.foldl ck S).dir k).stl= []:=by
 induction l with
 |nil=>exact fun _ h=>h
 |cons f l ih=>exact fun S h=>ih _ (KV S f h)
theorem R8 {N:Nat} {S:DiskL} (h:DkN N S) (f:FiL) (hf:f.name.length≤1000000):DkN (N+1) (ck S f):=by
 unfold ck
 split
 ·split
  ·rename_i k hk hc
   refine FL (tF (h.mono (Nat.le_succ N)) rfl) ⟨?_,Nat.le_succ_of_le (h k).stl,ua (h k).seenB hf,(h k).stlB,(h k).pendB⟩
   have h1:=tY (S.dir k).seen (f.name,S.files.length)
   have h2:=(h k).seen
   show(fZ (S.dir k).seen (f.name,S.files.length)).length≤N+1
   omega
  ·exact h.mono (Nat.le_succ N)
 ·exact h.mono (Nat.le_succ N)
theorem Ai: ∀ (l:List FiL) {N:Nat} {S:DiskL},DkN N S→(∀f,f∈l→f.name.length≤1000000)→DkN (N+l.length) (l.foldl ck S)
 | [],_,_,h,_=>h
 |f::l,N,S,h,hf=>by
  have h1:=Ai l (R8 h f (hf f List.mem_cons_self)) (fun g hg=>hf g (List.mem_cons_of_mem _ hg))
  rw[List.length_cons,show N+ (l.length+1)=N+1+l.length by omega]
  exact h1
theorem NB (S:DiskL) (f:FiL) (h: ∀k,3≤k→(S.dir k).seen= []): ∀k,3≤k→((ck S f).dir k).seen= []:=by
 intro k hk
 unfold ck
 split
 ·rename_i j hj
  split
  ·have h3:=(dH hj).1
   rw[m8 _ _ (by omega)];exact h k hk
  ·exact h k hk
 ·exact h k hk
theorem OA (l:List FiL): ∀ (S:DiskL),(∀k,3≤k→(S.dir k).seen= [])→ ∀k,3≤k→((l.foldl ck S).dir k).seen= []:=by
 induction l with
 |nil=>exact fun _ h=>h
 |cons f l ih=>exact fun S h=>ih _ (NB S f h)
theorem tQ (S:DiskL) (k:Nat): (setV S [0,1,2]).dir k=if k∈ [0,1,2] then⟨(S.dir k).seen,(S.dir k).seen,[]⟩ else S.dir k:=rfl
theorem BL (q:Int) (l:List FiL):iE (ofD q l):=fun k=>by
 have h1:=Kr l (d7 q) (fun _=>⟨rfl,rfl⟩) k
 have h2:=OA l (d7 q) (fun _ _=>rfl) k
 unfold ofD
 rw[tQ]
 generalize l.foldl ck (d7 q)=S at*
 split
 ·exact EW _
 ·rename_i hk
  have h3:3≤k:=by
   simp only[List.mem_cons,List.not_mem_nil,or_false,not_or] at hk
   omega
  have h4:=h2 h3
  generalize S.dir k=d at*
  obtain⟨a,b,c⟩:=d
  simp only at h1 h4
  obtain⟨rfl,rfl⟩:=h1
  subst h4
  exact EW []
theorem VR (q:Int) (l:List FiL) (hf: ∀f,f∈l→f.name.length≤1000000):DkN l.length (ofD q l):=fun k=>by
 have h1:=Ai l (BU q) hf k
 rw[Nat.zero_add] at h1
 unfold ofD
 rw[tQ]
 split
 ·exact Es h1.seen h1.seenB
 ·exact h1
end Go.Proofs
end
section
open Go Go.Proofs Go.Sx Go.StP
namespace Go.Proofs
set_option maxRecDepth 10000
set_option maxHeartbeats 400000
set_option linter.unusedSimpArgs false
theorem QY {N:Nat} {S:DiskL} (h:DkN N S):DkN N (aJ S).1:=tF h (j9 S).1
theorem ng {N:Nat} {S:DiskL} (h:DkN N S):DkN (N+1) S:=h.mono (Nat.le_succ N)
theorem F9 {S:DiskL} (ok:DkOk S): ∀ (l:NmL),(∀p,p∈l→p.2<S.files.length)→cH S l≤l.length*1048576
 | [],_=>Nat.zero_le _
 |p::l,h=>by
  have h1:=F9 ok l fun q hq=>h q (List.mem_cons_of_mem _ hq)
  have h2:=(we ok (h p List.mem_cons_self)).1
  unfold cH aH at*
  rw[List.map_cons,List.sum_cons,List.length_cons]
  omega
theorem ST {N:Nat} {S:DiskL} (ok:DkOk S) (h:DkN N S):cy S≤3* (N*1048576):=by
 have h0:=F9 ok _ (ok.seenN 0 (by omega))
 have h1:=F9 ok _ (ok.seenN 1 (by omega))
 have h2:=F9 ok _ (ok.seenN 2 (by omega))
 have g0:=Nat.mul_le_mul_right 1048576 (h 0).seen
 have g1:=Nat.mul_le_mul_right 1048576 (h 1).seen
 have g2:=Nat.mul_le_mul_right 1048576 (h 2).seen
 unfold cy
 omega
end Go.Proofs
end
section
open Go Go.Proofs Go.Sx Go.StP
namespace Go.Proofs
set_option maxRecDepth 10000
set_option maxHeartbeats 400000
set_option linter.unusedSimpArgs false
theorem mem_wipe {l:NmL} {s:List UInt8} {p:List UInt8×Nat}:p∈cw l s↔p∈l∧p.1≠s:=by
 unfold cw
 rw[List.mem_filter]
 constructor
 ·rintro⟨h1,h2⟩
  exact⟨h1,fun e=>by rw[e] at h2;simp at h2⟩
 ·rintro⟨h1,h2⟩
  exact⟨h1,by simpa using Ne.symm h2⟩
theorem mem_put {l:NmL} {x p:List UInt8×Nat}:p∈fZ l x↔p=x∨(p∈l∧p.1≠x.1):=by
 unfold fZ
 rw[(po x _).mem_iff,List.mem_cons,mem_wipe]
theorem QL {l:NmL} {c:CallL} {p:List UInt8×Nat} (bX:okC l c) (h:p∈dP l c): (c.kind=0∧p=(c.a,c.n))∨(c.kind=1∧ ∃m,aR l c.a=some m∧p=(c.b,m))∨(p∈l∧p.1≠c.a∧(c.kind=1→p.1≠c.b)):=by
 unfold dP at h
 split at h
 ·rename_i hk
  rcases mem_put.1 h with rfl| ⟨h1,h2⟩
  ·exact .inl ⟨hk,rfl⟩
  ·exact .inr (.inr ⟨h1,h2,fun e=>by rw[hk] at e;cases e⟩)
 ·rename_i hk
  cases hm:aR l c.a with
  |none=>exact absurd hm (bX hk).1
  |some m=>
   rw[hm] at h
   rcases mem_put.1 h with rfl| ⟨h1,h2⟩
   ·exact .inr (.inl ⟨hk,m,rfl,rfl⟩)
   ·have h3:=mem_wipe.1 h1
    exact .inr (.inr ⟨h3.1,h3.2,fun _=>h2⟩)
 ·rename_i h0 h1
  have h3:=mem_wipe.1 h
  exact .inr (.inr ⟨h3.1,h3.2,fun e=>absurd e h1⟩)
def gy (S:DiskL):Prop:= ∀j k,j<3→k<3→ ∀p,p∈ (S.dir j).seen→ ∀q,q∈ (S.dir k).seen→p.2=q.2→j=k∧p=q
theorem sq {S S':DiskL} (h:gy S) (e: ∀k,k<3→(S'.dir k).seen=(S.dir k).seen):gy S':=fun j k hj hk p hp q hq=>by
 rw[e j hj] at hp
 rw[e k hk] at hq
 exact h j k hj hk p hp q hq
theorem oy (S:DiskL) (k j:Nat) (c:CallL): ((gL S k c).dir j).seen=if j=k then dP (S.dir k).seen c else(S.dir j).seen:=by
 unfold gL
 by_cases e:j=k
 ·subst e;rw[lX,if_pos rfl]
 ·rw[m8 _ _ e,if_neg e]
theorem xr {S:DiskL} {k j:Nat} {c:CallL} {p:List UInt8×Nat} (bX:okC (S.dir k).seen c) (h:p∈ ((gL S k c).dir j).seen):
  (p∈ (S.dir j).seen∧(j=k→p.1≠c.a∧(c.kind=1→p.1≠c.b)))∨(j=k∧c.kind=0∧p=(c.a,c.n))∨(j=k∧c.kind=1∧ ∃m,aR (S.dir k).seen c.a=some m∧p=(c.b,m)):=by
 rw[oy] at h
 by_cases e:j=k
 ·rw[if_pos e] at h
  subst e
  rcases QL bX h with⟨h1,h2⟩ | ⟨h1,h2⟩ | ⟨h1,h2⟩
  ·exact .inr (.inl ⟨rfl,h1,h2⟩)
  ·exact .inr (.inr ⟨rfl,h1,h2⟩)
  ·exact .inl ⟨h1,fun _=>h2⟩
 ·rw[if_neg e] at h
  exact .inl ⟨h,fun e'=>absurd e' e⟩
theorem H3 {S:DiskL} (h:gy S) {k:Nat} {c:CallL} (hk:k<3) (bX:okC (S.dir k).seen c) (hn:c.kind=0→ ∀j,j<3→ ∀q,q∈ (S.dir j).seen→q.2≠c.n):gy (gL S k c):=by
 intro i j hi hj p hp q hq e
 rcases xr bX hp with⟨p1,p2⟩ | ⟨rfl,p1,rfl⟩ | ⟨rfl,p1,m,pm,rfl⟩
 ·rcases xr bX hq with⟨q1,q2⟩ | ⟨rfl,q1,rfl⟩ | ⟨rfl,q1,m,qm,rfl⟩
  ·exact h i j hi hj p p1 q q1 e
  ·exact absurd e (hn q1 i hi p p1)
  ·have h1:=h i j hi hj p p1 _ (fp qm) e
   exact absurd (by rw[h1.2]) (p2 h1.1).1
 ·rcases xr bX hq with⟨q1,q2⟩ | ⟨rfl,q1,rfl⟩ | ⟨rfl,q1,m,qm,rfl⟩
  ·exact absurd e.symm (hn p1 j hj q q1)
  ·exact⟨rfl,rfl⟩
  ·rw[p1] at q1;cases q1
 ·rcases xr bX hq with⟨q1,q2⟩ | ⟨rfl,q1,rfl⟩ | ⟨rfl,q1,m',qm,rfl⟩
  ·have h1:=h j i hj hi q q1 _ (fp pm) e.symm
   exact absurd (by rw[h1.2]) (q2 h1.1).1
  ·rw[p1] at q1;cases q1
  ·rw[pm] at qm;cases qm;exact⟨rfl,rfl⟩
def LtS (S:DiskL):Prop:= ∀k,k<3→ ∀p,p∈ (S.dir k).seen→p.2<S.files.length
theorem R4 {S:DiskL} (h:gy S) (hl:LtS S) {k:Nat} (hk:k<3) (s:List UInt8) (f:FileL) {d:DirL} (hd:d.seen=fZ (S.dir k).seen (s,S.files.length)):gy (dV (fF S f) k d)∧LtS (dV (fF S f) k d):=by
 have hm: ∀j p,p∈ ((dV (fF S f) k d).dir j).seen→p∈ (S.dir j).seen∨(j=k∧p=(s,S.files.length)):=fun j p hp=>by
  by_cases e:j=k
  ·subst e
   rw[lX,hd] at hp
   rcases mem_put.1 hp with rfl|h1
   ·exact .inr ⟨rfl,rfl⟩
   ·exact .inl h1.1
  ·rw[m8 _ _ e] at hp
   exact .inl hp
 constructor
 ·intro i j hi hj p hp q hq e
  rcases hm i p hp with p1| ⟨rfl,rfl⟩
  ·rcases hm j q hq with q1| ⟨rfl,rfl⟩
   ·exact h i j hi hj p p1 q q1 e
   ·have:=hl i hi p p1
    simp only at e
    omega
  ·rcases hm j q hq with q1| ⟨rfl,rfl⟩
   ·have:=hl j hj q q1
    simp only at e
    omega
   ·exact⟨rfl,rfl⟩
 ·intro j hj p hp
  show p.2< (S.files++ [f]).length
  rw[List.length_append,List.length_singleton]
  rcases hm j p hp with p1| ⟨-,rfl⟩
  ·have:=hl j hj p p1
   omega
  ·simp
theorem Yc {S:DiskL} (h:gy S∧LtS S) (f:FiL):gy (ck S f)∧LtS (ck S f):=by
 unfold ck
 split
 ·rename_i k hk
  split
  ·exact R4 h.1 h.2 (dH hk).1 _ _ rfl
  ·exact h
 ·exact h
theorem Kt (l:List FiL): ∀ {S:DiskL},gy S∧LtS S→gy (l.foldl ck S)∧LtS (l.foldl ck S):=by
 induction l with
 |nil=>exact fun h=>h
 |cons f l ih=>exact fun h=>ih (Yc h f)
theorem H8 (S:DiskL) (k:Nat): ((setV S [0,1,2]).dir k).seen=(S.dir k).seen:=by
 rw[tQ]
 split
 ·rfl
 ·rfl
theorem TB (q:Int) (l:List FiL):gy (ofD q l):=
 sq (Kt l (S:=d7 q) ⟨fun _ _ _ _ p hp=>(by cases hp),fun _ _ p hp=>(by cases hp)⟩).1 fun k _=>H8 _ k
def mD (S:DiskL):Prop:= ∀k,k<3→ ∀p,p∈ (S.dir k).seen→dE p.1=true
theorem xW {S S':DiskL} (h:mD S) (e: ∀k,k<3→(S'.dir k).seen=(S.dir k).seen):mD S':=fun k hk p hp=>by
 rw[e k hk] at hp
 exact h k hk p hp
theorem Gy {S:DiskL} (h:mD S) {k:Nat} {c:CallL} (hk:k<3) (bX:okC (S.dir k).seen c) (h0:c.kind=0→dE c.a=true) (h1:c.kind=1→dE c.b=true):mD (gL S k c):=by
 intro j hj p hp
 rcases xr bX hp with⟨p1,p2⟩ | ⟨rfl,p1,rfl⟩ | ⟨rfl,p1,m,pm,rfl⟩
 ·exact h j hj p p1
 ·exact h0 p1
 ·exact h1 p1
theorem Ln {S:DiskL} (h:mD S) (f:FiL):mD (ck S f):=by
 unfold ck
 split
 ·rename_i k hk
  split
  ·rename_i hc
   intro j hj p hp
   by_cases e:j=k
   ·subst e
    rw[lX] at hp
    rcases mem_put.1 hp with rfl|h1
    ·exact hc.1
    ·exact h j hj p h1.1
   ·rw[m8 _ _ e] at hp
    exact h j hj p hp
  ·exact h
 ·exact h
theorem Th (q:Int) (l:List FiL):mD (ofD q l):=by
 have h1: ∀ (l:List FiL) (S:DiskL),mD S→mD (l.foldl ck S):=fun l=>by
  induction l with
  |nil=>exact fun _ h=>h
  |cons f l ih=>exact fun S h=>ih _ (Ln h f)
 exact xW (h1 l (d7 q) (fun _ _ p hp=>by cases hp)) fun k _=>H8 _ k
end Go.Proofs
end
section
open Go Go.Proofs Go.Sx Go.StP
namespace Go.Proofs
set_option maxRecDepth 10000
set_option maxHeartbeats 400000
set_option linter.unusedSimpArgs false
def doV (S:DiskL) (kind:Int) (dir name s:List UInt8):DiskL×Nat:=
 if kind=0 then jU S dir name else if kind=1 then gf S dir name s else if kind=2 then ct S dir name else if kind=3 then fQ S dir else if kind=4 then j8 S dir name s else if kind=5 then jT S dir name else(S,0)
inductive StepD (S:DiskL) (kind:Int) (dir name s:List UInt8):DiskL→Nat→Prop
 |same (e:Nat) (h:e≠0∨(kind≠2∧kind≠3)):StepD S kind dir name s S e
 |burn (h:kind≠2∧kind≠3∨(aJ S).2≠0):StepD S kind dir name s (aJ S).1 (aJ S).2
 |create (k:Nat) (hk:bv dir=some k) (hf:dE name=true) (hn:aR (S.dir k).seen name=none) (hb: (aJ S).2=0):StepD S kind dir name s (gL (fF (aJ S).1 dw) k ⟨0,name,[],S.files.length⟩) 0
 |append (k m:Nat) (hk:bv dir=some k) (hm:aR (S.dir k).seen name=some m) (hf:kY S m s=false) (hb: (aJ S).2=0):StepD S kind dir name s (ez (aJ S).1 m ⟨(aH S m).data++s,(aH S m).stl⟩) 0
 |sync (k m:Nat) (hk:bv dir=some k) (hm:aR (S.dir k).seen name=some m) (hb: (aJ S).2=0):StepD S kind dir name s (ez (aJ S).1 m ⟨(aH S m).data,(aH S m).data.length⟩) 0
 |syncDir (k:Nat) (hk:bv dir=some k) (hb: (aJ S).2=0):StepD S kind dir name s (oz (aJ S).1 k) 0
 |rename (k m:Nat) (h4:kind=4) (hk:bv dir=some k) (hm:aR (S.dir k).seen name=some m) (hf:dE s=true) (aO:name≠s) (hb: (aJ S).2=0):StepD S kind dir name s (gL (aJ S).1 k ⟨1,name,s,0⟩) 0
 |remove (k m:Nat) (hk:bv dir=some k) (hm:aR (S.dir k).seen name=some m) (hb: (aJ S).2=0):StepD S kind dir name s (gL (aJ S).1 k ⟨2,name,[],0⟩) 0
theorem qD {S:DiskL} {dir name:List UInt8} {m:Nat} (h:atD S dir name=some m): ∃k,bv dir=some k∧aR (S.dir k).seen name=some m:=by
 unfold atD at h
 cases hk:bv dir with
 |none=>rw[hk] at h;cases h
 |some k=>rw[hk] at h;exact⟨k,rfl,h⟩
theorem SA {S:DiskL} {dir name:List UInt8} {k:Nat} (hk:bv dir=some k) (h:atD S dir name=none):aR (S.dir k).seen name=none:=by
 unfold atD at h
 rw[hk] at h;exact h
theorem Eq {S:DiskL} {dir:List UInt8} {names:List (List UInt8)} (h:dF S dir names=0): ∃k,bv dir=some k∧names.all dE=true:=by
 obtain⟨h1,h2,-⟩:=ND h
 cases hk:bv dir with
 |none=>exact absurd hk h1
 |some k=>exact⟨k,rfl,h2⟩
theorem GW (S:DiskL) (dir name s:List UInt8):StepD S 0 dir name s (jU S dir name).1 (jU S dir name).2:=by
 unfold jU
 split
 ·exact .same _ (.inr ⟨by decide,by decide⟩)
 ·rename_i hf
  split
  ·exact .same _ (.inr ⟨by decide,by decide⟩)
  ·rename_i ha
   split
   ·exact .burn (.inl ⟨by decide,by decide⟩)
   ·rename_i hb
    obtain⟨k,hk,hn⟩:=Eq (S:=S) (dir:=dir) (names:= [name]) (by simpa using hf)
    rw[hk]
    exact .create k hk (by simpa using hn) (SA hk ha) (by simpa using hb)
theorem wY (S:DiskL) (dir name s:List UInt8):StepD S 5 dir name s (jT S dir name).1 (jT S dir name).2:=by
 unfold jT
 split
 ·exact .same _ (.inr ⟨by decide,by decide⟩)
 ·split
  ·exact .same _ (.inr ⟨by decide,by decide⟩)
  ·rename_i m ha
   split
   ·exact .burn (.inl ⟨by decide,by decide⟩)
   ·rename_i hb
    obtain⟨k,hk,hm⟩:=qD ha
    rw[hk]
    exact .remove k m hk hm (by simpa using hb)
theorem GR (S:DiskL) (dir name s:List UInt8):StepD S 4 dir name s (j8 S dir name s).1 (j8 S dir name s).2:=by
 unfold j8
 split
 ·exact .same _ (.inr ⟨by decide,by decide⟩)
 ·rename_i hf
  split
  ·exact .same _ (.inr ⟨by decide,by decide⟩)
  ·rename_i m ha
   split
   ·exact .burn (.inl ⟨by decide,by decide⟩)
   ·rename_i aO
    split
    ·exact .burn (.inl ⟨by decide,by decide⟩)
    ·rename_i hb
     obtain⟨k,hk,hm⟩:=qD ha
     obtain⟨-,-,hn⟩:=Eq (S:=S) (dir:=dir) (names:= [name,s]) (by simpa using hf)
     simp only[List.all_cons,List.all_nil,Bool.and_true,Bool.and_eq_true] at hn
     rw[hk]
     exact .rename k m rfl hk hm hn.2 aO (by simpa using hb)
theorem GM (S:DiskL) (dir name s:List UInt8):StepD S 1 dir name s (gf S dir name s).1 (gf S dir name s).2:=by
 unfold gf
 split
 ·exact .same _ (.inr ⟨by decide,by decide⟩)
 ·split
  ·exact .same _ (.inr ⟨by decide,by decide⟩)
  ·rename_i m ha
   split
   ·exact .same _ (.inr ⟨by decide,by decide⟩)
   ·rename_i fv
    split
    ·exact .burn (.inl ⟨by decide,by decide⟩)
    ·rename_i hb
     obtain⟨k,hk,hm⟩:=qD ha
     exact .append k m hk hm (by simpa using fv) (by simpa using hb)
theorem xY (S:DiskL) (dir name s:List UInt8):StepD S 2 dir name s (ct S dir name).1 (ct S dir name).2:=by
 unfold ct
 split
 ·rename_i hf
  exact .same _ (.inl hf)
 ·split
  ·exact .same _ (.inl (Nat.succ_ne_zero 5))
  ·rename_i m ha
   split
   ·rename_i hb
    exact .burn (.inr hb)
   ·rename_i hb
    obtain⟨k,hk,hm⟩:=qD ha
    exact .sync k m hk hm (by simpa using hb)
theorem xj (S:DiskL) (dir name s:List UInt8):StepD S 3 dir name s (fQ S dir).1 (fQ S dir).2:=by
 unfold fQ
 split
 ·rename_i hf
  exact .same _ (.inl hf)
 ·rename_i hf
  split
  ·rename_i hb
   exact .burn (.inr hb)
  ·rename_i hb
   obtain⟨k,hk,-⟩:=Eq (S:=S) (dir:=dir) (names:= []) (by simpa using hf)
   rw[hk]
   exact .syncDir k hk (by simpa using hb)
theorem UP (S:DiskL) (kind:Int) (dir name s:List UInt8):StepD S kind dir name s (doV S kind dir name s).1 (doV S kind dir name s).2:=by
 unfold doV
 split
 ·rename_i h;subst h;exact GW S dir name s
 split
 ·rename_i h;subst h;exact GM S dir name s
 split
 ·rename_i h;subst h;exact xY S dir name s
 split
 ·rename_i h;subst h;exact xj S dir name s
 split
 ·rename_i h;subst h;exact GR S dir name s
 split
 ·rename_i h;subst h;exact wY S dir name s
 ·rename_i h0 h1 h2 h3 h4 h5
  exact .same 0 (.inr ⟨h2,h3⟩)
theorem qM {l:NmL} {a b:List UInt8} {m:Nat} (h:aR l a=some m) (aO:a≠b):okC l ⟨1,a,b,0⟩:=fun _=>⟨by rw[h];simp,aO⟩
section
variable {S S':DiskL} {kind:Int} {dir name s:List UInt8} {e:Nat}
theorem y8 (h:StepD S kind dir name s S' e):S'.max=S.max:=by
 have hb:=(j9 S).2.2
 cases h<;>first|rfl|exact hb
theorem EJ (S:DiskL) (k j:Nat): ((oz S k).dir j).seen=(S.dir j).seen:=by
 unfold oz
 by_cases e:j=k
 ·subst e;rw[lX]
 ·rw[m8 _ _ e]
theorem P0 (ok:DkOk S) (hu:gy S) (h:StepD S kind dir name s S' e):gy S':=by
 obtain⟨aQ,aZ,-⟩:=j9 S
 have eJ:gy (aJ S).1:=sq hu fun k _=>by rw[aQ]
 cases h with
 |same=>exact hu
 |burn=>exact eJ
 |create k hk hf hn hb=>
  refine H3 (sq eJ fun _ _=>rfl) (dH hk).1 (fun e=>by cases e) (fun _ j hj q hq=> ?_)
  have hq':q∈ (S.dir j).seen:=by rw[←aQ];exact hq
  have:=ok.seenN j hj q hq'
  show q.2≠S.files.length
  omega
 |append k m hk hm hf hb=>exact sq eJ fun _ _=>rfl
 |sync k m hk hm hb=>exact sq eJ fun _ _=>rfl
 |syncDir k hk hb=>exact sq eJ fun j _=>EJ _ _ _
 |rename k m h4 hk hm hf aO hb=>exact H3 eJ (dH hk).1 (by rw[aQ];exact qM hm aO) (fun e=>by cases e)
 |remove k m hk hm hb=>exact H3 eJ (dH hk).1 (fun e=>by cases e) (fun e=>by cases e)
theorem Ot (hu:mD S) (h:StepD S kind dir name s S' e):mD S':=by
 obtain⟨aQ,aZ,-⟩:=j9 S
 have eJ:mD (aJ S).1:=xW hu fun k _=>by rw[aQ]
 cases h with
 |same=>exact hu
 |burn=>exact eJ
 |create k hk hf hn hb=>exact Gy (xW eJ fun _ _=>rfl) (dH hk).1 (fun e=>by cases e) (fun _=>hf) (fun e=>by cases e)
 |append k m hk hm hf hb=>exact xW eJ fun _ _=>rfl
 |sync k m hk hm hb=>exact xW eJ fun _ _=>rfl
 |syncDir k hk hb=>exact xW eJ fun j _=>EJ _ _ _
 |rename k m h4 hk hm hf aO hb=>exact Gy eJ (dH hk).1 (by rw[aQ];exact qM hm aO) (fun e=>by cases e) (fun _=>hf)
 |remove k m hk hm hb=>exact Gy eJ (dH hk).1 (fun e=>by cases e) (fun e=>by cases e) (fun e=>by cases e)
theorem zK (hu:iE S) (h:StepD S kind dir name s S' e):iE S':=by
 obtain⟨aQ,aZ,-⟩:=j9 S
 have eJ:=Oh hu
 cases h with
 |same=>exact hu
 |burn=>exact eJ
 |create k hk hf hn hb=>exact Gx (wl eJ rfl) (fun e=>by cases e)
 |append k m hk hm hf hb=>exact wl eJ rfl
 |sync k m hk hm hb=>exact wl eJ rfl
 |syncDir k hk hb=>exact Ha eJ (EW _)
 |rename k m h4 hk hm hf aO hb=>exact Gx eJ (by rw[aQ];exact qM hm aO)
 |remove k m hk hm hb=>exact Gx eJ (fun e=>by cases e)
theorem AQ {N:Nat} (hu:DkN N S) (hn:name.length≤1000000) (hs:s.length≤1000000) (h:StepD S kind dir name s S' e):DkN (N+1) S':=by
 have eJ:=QY hu
 cases h with
 |same=>exact ng hu
 |burn=>exact ng eJ
 |create k hk hf aw hb=>exact Hc (tF eJ rfl) ⟨hn,Nat.zero_le _⟩
 |append k m hk hm hf hb=>exact ng (tF eJ rfl)
 |sync k m hk hm hb=>exact ng (tF eJ rfl)
 |syncDir k hk hb=>exact ng (FL eJ (Es (eJ k).seen (eJ k).seenB))
 |rename k m h4 hk hm hf aO hb=>exact Hc eJ ⟨hn,hs⟩
 |remove k m hk hm hb=>exact Hc eJ ⟨hn,Nat.zero_le _⟩
end
end Go.Proofs
end
section
open Go Go.Proofs Go.Sx Go.StP
namespace Go.Proofs
set_option maxRecDepth 10000
set_option maxHeartbeats 400000
set_option linter.unusedSimpArgs false
theorem wF (S:DiskL) (p:List UInt8×Nat) (l:NmL):cH S (p::l)=(aH S p.2).data.length+cH S l:=by
 unfold cH aH
 rw[List.map_cons,List.sum_cons]
theorem NQ (S:DiskL) {l m:NmL} (h:l.Perm m):cH S l=cH S m:=(h.map _).sum_nat
theorem Ea (S:DiskL) (s:List UInt8): ∀l:NmL,cH S (cw l s)≤cH S l
 | []=>Nat.le_refl _
 |p::l=>by
  have h:=Ea S s l
  rw[wF]
  unfold cw at h ⊢
  rw[List.filter_cons]
  split
  ·rw[wF];omega
  ·omega
theorem AO (S:DiskL) (l:NmL) (x:List UInt8×Nat):cH S (fZ l x)=(aH S x.2).data.length+cH S (cw l x.1):=by
 unfold fZ
 rw[NQ S (po x _),wF]
theorem yu (S:DiskL) {a:List UInt8} {m:Nat}: ∀ {l:NmL},(a,m)∈l→(aH S m).data.length+cH S (cw l a)≤cH S l
 |p::l,h=>by
  have h0:=Ea S a l
  rw[wF]
  rcases List.mem_cons.1 h with rfl|h
  ·unfold cw at h0 ⊢
   rw[List.filter_cons]
   simp only[beq_self_eq_true,Bool.not_true,Bool.false_eq_true, ↓reduceIte]
   omega
  ·have h1:=yu S h
   unfold cw at h1 ⊢
   rw[List.filter_cons]
   split
   ·rw[wF];omega
   ·omega
theorem xR {S S':DiskL} {l:NmL} (h: ∀p,p∈l→(aH S' p.2).data.length=(aH S p.2).data.length):cH S' l=cH S l:=by
 unfold cH
 congr 1
 exact List.map_congr_left h
theorem su (S:DiskL) {m:Nat} (f:FileL) (hm:m<S.files.length) (n:Nat):aH (ez S m f) n=if n=m then f else aH S n:=by
 unfold aH ez
 simp only
 rw[List.getD_eq_getElem?_getD,List.getD_eq_getElem?_getD]
 by_cases e:n=m
 ·subst e;rw[if_pos rfl,List.getElem?_set_self hm];rfl
 ·rw[if_neg e,List.getElem?_set_ne (Ne.symm e)]
theorem El (S:DiskL) (f:FileL) {n:Nat} (hn:n<S.files.length):aH (fF S f) n=aH S n:=by
 unfold aH fF
 exact wZ _ _ hn
theorem HC (S:DiskL) (f:FileL):aH (fF S f) S.files.length=f:=by
 unfold aH fF
 exact tM _ _ rfl
theorem Ol (S:DiskL) (k:Nat) (d:DirL) (n:Nat):aH (dV S k d) n=aH S n:=rfl
theorem lY (S:DiskL) (n:Nat):aH (aJ S).1 n=aH S n:=by
 unfold aH
 rw[(j9 S).2.1]
theorem BC {S:DiskL} {m:Nat} {f:FileL} (hm:m<S.files.length) {x:Nat} (hx:f.data.length=(aH S m).data.length+x): ∀ {l:NmL},(l.map Prod.fst).Nodup→(∀p,p∈l→ ∀q,q∈l→p.2=q.2→p=q)→cH (ez S m f) l=cH S l+if m∈l.map Prod.snd then x else 0
 | [],_,_=>rfl
 |p::l,hn,h=>by
  rw[List.map_cons,List.nodup_cons] at hn
  have ih:=BC hm hx hn.2 fun a ha b hb=>h a (List.mem_cons_of_mem _ ha) b (List.mem_cons_of_mem _ hb)
  rw[wF,wF,ih,su S f hm]
  by_cases e:p.2=m
  ·have h1:m∉l.map Prod.snd:=fun lJ=>by
    obtain⟨q,hq,xE⟩:=List.mem_map.1 lJ
    have h2:=h p List.mem_cons_self q (List.mem_cons_of_mem _ hq) (by rw[e,xE])
    exact hn.1 (List.mem_map.2 ⟨q,hq,by rw[h2]⟩)
   rw[if_pos e,if_neg h1,if_pos (by rw[List.map_cons,e];exact List.mem_cons_self),hx,e]
   omega
  ·rw[if_neg e]
   by_cases h1:m∈l.map Prod.snd
   ·rw[if_pos h1,if_pos (by rw[List.map_cons];exact List.mem_cons_of_mem _ h1)]
    omega
   ·rw[if_neg h1,if_neg (by
     rw[List.map_cons]
     intro h2
     rcases List.mem_cons.1 h2 with h2|h2
     ·exact e h2.symm
     ·exact h1 h2)]
    omega
theorem AB {S:DiskL} (ok:DkOk S) (hu:gy S) {k m:Nat} (hk:k<3) {nm:List UInt8} (hm: (nm,m)∈ (S.dir k).seen) {f:FileL} {x:Nat} (hx:f.data.length=(aH S m).data.length+x):cy (ez S m f)≤cy S+x:=by
 have pX:m<S.files.length:=ok.seenN k hk _ hm
 have hd: ∀j,j<3→cH (ez S m f) (S.dir j).seen=cH S (S.dir j).seen+if m∈ (S.dir j).seen.map Prod.snd then x else 0:=fun j hj=>BC pX hx (ok.seen j hj).nodup fun p hp q hq e=>(hu j j hj hj p hp q hq e).2
 have aO: ∀j,j<3→j≠k→ ¬m∈ (S.dir j).seen.map Prod.snd:=fun j hj nH h=>by
  obtain⟨q,hq,e⟩:=List.mem_map.1 h
  exact nH (hu j k hj hk q hq _ hm e).1
 unfold cy
 show cH (ez S m f) (S.dir 0).seen+cH (ez S m f) (S.dir 1).seen+cH (ez S m f) (S.dir 2).seen≤_
 rw[hd 0 (by omega),hd 1 (by omega),hd 2 (by omega)]
 have:k=0∨k=1∨k=2:=by omega
 rcases this with rfl|rfl|rfl
 ·rw[if_neg (aO 1 (by omega) (by omega)),if_neg (aO 2 (by omega) (by omega))]
  split<;>omega
 ·rw[if_neg (aO 0 (by omega) (by omega)),if_neg (aO 2 (by omega) (by omega))]
  split<;>omega
 ·rw[if_neg (aO 0 (by omega) (by omega)),if_neg (aO 1 (by omega) (by omega))]
  split<;>omega
theorem Gq {S S':DiskL} {k:Nat} (hk:k<3) (h1: ∀j,j<3→j≠k→cH S' (S'.dir j).seen=cH S (S.dir j).seen) (h2:cH S' (S'.dir k).seen≤cH S (S.dir k).seen):cy S'≤cy S:=by
 unfold cy
 have:k=0∨k=1∨k=2:=by omega
 rcases this with rfl|rfl|rfl
 ·rw[h1 1 (by omega) (by omega),h1 2 (by omega) (by omega)];omega
 ·rw[h1 0 (by omega) (by omega),h1 2 (by omega) (by omega)];omega
 ·rw[h1 0 (by omega) (by omega),h1 1 (by omega) (by omega)];omega
theorem FU {S S':DiskL} (hd: ∀k,(S'.dir k).seen=(S.dir k).seen) (hf: ∀n,(aH S' n).data.length=(aH S n).data.length):cy S'=cy S:=by
 unfold cy
 rw[hd 0,hd 1,hd 2,xR fun p _=>hf p.2,xR fun p _=>hf p.2,xR fun p _=>hf p.2]
section
variable {S S':DiskL} {kind:Int} {dir name s:List UInt8} {e:Nat}
theorem MC (ok:DkOk S) (hu:gy S) (h:StepD S kind dir name s S' e):cy S'≤cy S∨(cy S'≤cy S+s.length∧(cy S':Int)≤S.max):=by
 obtain⟨aQ,aZ,-⟩:=j9 S
 cases h with
 |same=>exact .inl (Nat.le_refl _)
 |burn=>exact .inl (Nat.le_of_eq (FU (fun k=>by rw[aQ]) fun n=>by rw[lY]))
 |create k hk hf hn hb=>
  have aW:=(dH hk).1
  have oD: ∀n,n<S.files.length→aH (fF (aJ S).1 dw) n=aH S n:=fun n hn=>by rw[El _ _ (by rw[aZ];exact hn),lY]
  have sI: ∀j,j<3→cH (fF (aJ S).1 dw) (S.dir j).seen=cH S (S.dir j).seen:=fun j hj=>xR fun p hp=>by rw[oD p.2 (ok.seenN j hj p hp)]
  refine .inl (Gq aW (fun j hj nH=> ?_) ?_)
  ·rw[oy,if_neg nH]
   show cH (fF (aJ S).1 dw) ((aJ S).1.dir j).seen=_
   rw[aQ];exact sI j hj
  ·rw[oy,if_pos rfl]
   show cH (fF (aJ S).1 dw) (fZ ((aJ S).1.dir k).seen (name,S.files.length))≤_
   rw[aQ,AO,←sI k aW]
   have h1:aH (fF (aJ S).1 dw) S.files.length=dw:=by rw[←aZ];exact HC _ _
   have h2:=Ea (fF (aJ S).1 dw) name (S.dir k).seen
   rw[h1]
   show(0:Nat)+cH (fF (aJ S).1 dw) (cw (S.dir k).seen name)≤_
   omega
 |append k m hk hm hf hb=>
  have aW:=(dH hk).1
  right
  have h1:=AB (S:=(aJ S).1) (mr ok) (sq hu fun k _=>by rw[aQ]) aW (nm:=name) (m:=m) (by rw[aQ];exact fp hm) (f:=⟨(aH S m).data++s,(aH S m).stl⟩) (x:=s.length) (by rw[lY,List.length_append])
  have h2:cy (aJ S).1=cy S:=FU (fun k=>by rw[aQ]) fun n=>by rw[lY]
  unfold kY at hf
  simp only[Bool.or_eq_false_iff,decide_eq_false_iff_not] at hf
  exact⟨by omega,by omega⟩
 |sync k m hk hm hb=>
  left
  have aW:=(dH hk).1
  have h1:=AB (S:=(aJ S).1) (mr ok) (sq hu fun k _=>by rw[aQ]) aW (nm:=name) (m:=m) (by rw[aQ];exact fp hm) (f:=⟨(aH S m).data,(aH S m).data.length⟩) (x:=0) (by rw[lY];rfl)
  have h2:cy (aJ S).1=cy S:=FU (fun k=>by rw[aQ]) fun n=>by rw[lY]
  omega
 |syncDir k hk hb=>exact .inl (Nat.le_of_eq (FU (fun j=>by rw[EJ,aQ]) fun n=>by show(aH (aJ S).1 n).data.length=_;rw[lY]))
 |rename k m h4 hk hm hf aO hb=>
  have aW:=(dH hk).1
  have sI: ∀l,cH (aJ S).1 l=cH S l:=fun l=>xR fun p _=>by rw[lY]
  refine .inl (Gq aW (fun j hj nH=> ?_) ?_)
  ·rw[oy,if_neg nH,aQ]
   exact sI _
  ·rw[oy,if_pos rfl]
   show cH (aJ S).1 (fZ (cw ((aJ S).1.dir k).seen name) (s,(aR ((aJ S).1.dir k).seen name).getD 0))≤_
   rw[aQ,hm,sI,AO]
   have h1:=yu S (fp hm)
   have h2:=Ea S s (cw (S.dir k).seen name)
   show(aH S m).data.length+cH S (cw (cw (S.dir k).seen name) s)≤_
   omega
 |remove k m hk hm hb=>
  have aW:=(dH hk).1
  have sI: ∀l,cH (aJ S).1 l=cH S l:=fun l=>xR fun p _=>by rw[lY]
  refine .inl (Gq aW (fun j hj nH=> ?_) ?_)
  ·rw[oy,if_neg nH,aQ]
   exact sI _
  ·rw[oy,if_pos rfl]
   show cH (aJ S).1 (cw ((aJ S).1.dir k).seen name)≤_
   rw[aQ,sI]
   exact Ea S name _
theorem tZ (ok:DkOk S) (hu:gy S) (h:StepD S kind dir name s S' e):cy S'≤cy S+s.length:=by
 rcases MC ok hu h with h|h
 ·omega
 ·exact h.1
end
end Go.Proofs
end
section
open Go Go.Proofs Go.Sx Go.StP
namespace Go.Proofs
set_option maxRecDepth 10000
set_option maxHeartbeats 400000
set_option linter.unusedSimpArgs false
theorem ZC (q:DiskL×List UInt16): ∀k,(dW q k).1.files=q.1.files
 |0=>rfl
 |k+1=>ZC q k
theorem AA (q:DiskL×List UInt16) {j:Nat}: ∀ {k:Nat},j<k→ ∃i,i≤ (q.1.dir j).pend.length∧(dW q k).1.dir j=⟨g7 q.1 j i,g7 q.1 j i,[]⟩
 |k+1,h=>by
  show∃i,i≤_∧(dV (dW q k).1 k _).dir j=_
  by_cases e:j=k
  ·subst e
   rw[lX]
   have hd:=H7 q (Nat.le_refl j)
   refine⟨iW (dW q j).2 ((dW q j).1.dir j).pend.length, ?_, ?_⟩
   ·rw[hd];exact tk _ _
   ·unfold g7
    rw[hd]
  ·rw[m8 _ _ e]
   exact AA q (by omega)
theorem yt (S:DiskL) (pl:List UInt16) {k:Nat} (hk:k<3): ∃i,i≤ (S.dir k).pend.length∧(eW S pl).dir k=⟨g7 S k i,g7 S k i,[]⟩:=by
 obtain⟨i,h1,h2⟩:=AA (S,pl) hk
 exact⟨i,h1,by unfold eW;rw[xS];exact h2⟩
theorem zf (S:DiskL) (pl:List UInt16): (eW S pl).off=false:=by
 unfold eW
 rw[Gn];rfl
def BegF (f g:FileL):Prop:=(∃t,g.data=f.data.take t)∧(f.stl=f.data.length→g.data=f.data∧g.stl=g.data.length)
theorem BegF.refl (f:FileL):BegF f f:=⟨⟨f.data.length,(List.take_length).symm⟩,fun h=>⟨rfl,h⟩⟩
theorem BegF.trans {f g h:FileL} (h1:BegF f g) (h2:BegF g h):BegF f h:=by
 obtain⟨⟨t,ht⟩,a⟩:=h1
 obtain⟨⟨u,hu⟩,b⟩:=h2
 refine⟨⟨min u t,by rw[hu,ht,List.take_take]⟩,fun e=> ?_⟩
 obtain⟨a1,a2⟩:=a e
 obtain⟨b1,b2⟩:=b a2
 exact⟨b1.trans a1,b2⟩
theorem OJ (S:DiskL) {n:Nat} (h:S.files.length≤n):aH S n=dw:=by
 unfold aH
 rw[List.getD_eq_getElem?_getD,List.getElem?_eq_none h];rfl
theorem zi (S:DiskL) {m:Nat} (h:S.files.length≤m) (f:FileL):ez S m f=S:=by
 unfold ez
 rw[List.set_eq_of_length_le h]
theorem MQ (q:DiskL×List UInt16) (p:List UInt8×Nat) (n:Nat):BegF (aH q.1 n) (aH (g6 q p).1 n):=by
 unfold g6
 simp only
 by_cases hm:p.2<q.1.files.length
 ·rw[su _ _ hm]
  by_cases e:n=p.2
  ·subst e
   rw[if_pos rfl]
   refine⟨⟨_,rfl⟩,fun h=> ?_⟩
   have h1: (aH q.1 p.2).data.take ((aH q.1 p.2).stl+iW q.2 ((aH q.1 p.2).data.length - (aH q.1 p.2).stl))=(aH q.1 p.2).data:=List.take_of_length_le (by rw[←h];omega)
   exact⟨h1,rfl⟩
  ·rw[if_neg e];exact BegF.refl _
 ·rw[zi _ (by omega)];exact BegF.refl _
theorem yR (q:DiskL×List UInt16) (p:List UInt8×Nat) (n:Nat) (h:n=p.2∨(aH q.1 n).stl=(aH q.1 n).data.length): (aH (g6 q p).1 n).stl=(aH (g6 q p).1 n).data.length:=by
 unfold g6
 simp only
 by_cases hm:p.2<q.1.files.length
 ·rw[su _ _ hm]
  by_cases e:n=p.2
  ·rw[if_pos e]
  ·rw[if_neg e];exact h.resolve_left e
 ·rw[zi _ (by omega)]
  rcases h with h|h
  ·rw[OJ _ (by omega)];rfl
  ·exact h
theorem Yz (n:Nat): ∀ (l:NmL) (q:DiskL×List UInt16),BegF (aH q.1 n) (aH (l.foldl g6 q).1 n)∧(n∈l.map Prod.snd∨(aH q.1 n).stl=(aH q.1 n).data.length→(aH (l.foldl g6 q).1 n).stl=(aH (l.foldl g6 q).1 n).data.length)
 | [],q=>⟨BegF.refl _,fun h=>h.resolve_left (by simp)⟩
 |p::l,q=>by
  obtain⟨h1,h2⟩:=Yz n l (g6 q p)
  refine⟨(MQ q p n).trans h1,fun h=>h2 ?_⟩
  rcases h with h|h
  ·rw[List.map_cons] at h
   rcases List.mem_cons.1 h with h|h
   ·exact .inr (yR q p n (.inl h))
   ·exact .inl h
  ·exact .inr (yR q p n (.inr h))
theorem Ym (n:Nat) (q:DiskL×List UInt16): ∀k,BegF (aH q.1 n) (aH (fM q k).1 n)∧((∃j,j<k∧n∈ (q.1.dir j).seen.map Prod.snd)∨(aH q.1 n).stl=(aH q.1 n).data.length→(aH (fM q k).1 n).stl=(aH (fM q k).1 n).data.length)
 |0=>⟨BegF.refl _,fun h=>h.resolve_left (by rintro⟨j,hj,-⟩;omega)⟩
 |k+1=>by
  obtain⟨h1,h2⟩:=Ym n q k
  obtain⟨g1,g2⟩:=Yz n (q.1.dir k).seen (fM q k)
  refine⟨h1.trans g1,fun h=>g2 ?_⟩
  rcases h with⟨j,hj,hm⟩ |h
  ·by_cases e:j=k
   ·subst e;exact .inl hm
   ·exact .inr (h2 (.inl ⟨j,by omega,hm⟩))
  ·exact .inr (h2 (.inr h))
theorem Pd (S:DiskL) (pl:List UInt16) (n:Nat):BegF (aH S n) (aH (eW S pl) n):=by
 have h:=(Ym n (lg (dW (S,pl) 3).1,(dW (S,pl) 3).2) 3).1
 have e:aH (lg (dW (S,pl) 3).1) n=aH S n:=by
  unfold aH lg
  rw[ZC]
 rw[←e];exact h
def gw (S:DiskL):Prop:=S.off=false∧S.fused=false
theorem ox {S:DiskL} (h:gw S):aJ S=(S,0):=by
 unfold aJ
 rw[if_neg (by rw[h.2];simp),if_neg (by rw[h.2];simp)]
section
variable {S S':DiskL} {kind:Int} {dir name s:List UInt8} {e:Nat}
theorem Ni (hc:gw S) (h:StepD S kind dir name s S' e):gw S':=by
 have hb:=ox hc
 have dK:gw (aJ S).1:=by rw[hb];exact hc
 cases h<;>first|exact hc|exact dK
end
theorem Kp {S:DiskL} (h:gw S) (f:FiL):gw (ck S f)∧(ck S f).max=S.max:=by
 unfold ck
 split
 ·split
  ·exact⟨h,rfl⟩
  ·exact⟨h,rfl⟩
 ·exact⟨h,rfl⟩
theorem Z1: ∀ (l:List FiL) {S:DiskL},gw S→gw (l.foldl ck S)∧(l.foldl ck S).max=S.max
 | [],_,h=>⟨h,rfl⟩
 |f::l,S,h=>by
  obtain⟨h1,h2⟩:=Kp h f
  obtain⟨h3,h4⟩:=Z1 l h1
  exact⟨h3,h4.trans h2⟩
theorem Sh (q:Int) (l:List FiL):gw (ofD q l)∧(ofD q l).max=q:=Z1 l (S:=d7 q) ⟨rfl,rfl⟩
end Go.Proofs
end
section
open Go Go.Proofs Go.Sx Go.StP
namespace Go.Proofs
set_option maxRecDepth 10000
set_option maxHeartbeats 400000
set_option linter.unusedSimpArgs false
structure KeepS (S:DiskL) (k:Nat) (nm:List UInt8) (n:Nat) (data:List UInt8):Prop where
 lt:n<S.files.length
 data: (aH S n).data=data
 stl: (aH S n).stl=(aH S n).data.length
 at_:aR (S.dir k).stl nm=some n
 pend: ∀c,c∈ (S.dir k).pend→c.a≠nm∧(c.kind=1→c.b≠nm)
theorem yx {x:List UInt8×Nat} {s:List UInt8} (hx:x.1≠s): ∀l:NmL,aR (insN l x) s=aR l s
 | []=>by
  have: (s==x.1)=false:=beq_eq_false_iff_ne.2 (Ne.symm hx)
  unfold insN aR
  rw[List.find?_cons,this]
 |p::l=>by
  have e: (s==x.1)=false:=beq_eq_false_iff_ne.2 (Ne.symm hx)
  have ih:=yx hx l
  unfold insN
  split
  ·unfold aR
   rw[List.find?_cons,e]
  ·unfold aR at ih ⊢
   rw[List.find?_cons,List.find?_cons]
   split
   ·rfl
   ·exact ih
theorem Et {a s:List UInt8} (ha:a≠s): ∀l:NmL,aR (cw l a) s=aR l s
 | []=>rfl
 |p::l=>by
  have ih:=Et ha l
  unfold cw at ih ⊢
  rw[List.filter_cons]
  by_cases e:a=p.1
  ·have e1: (s==p.1)=false:=beq_eq_false_iff_ne.2 (fun h=>ha (by rw[e,h]))
   rw[if_neg (by rw[e];simp),ih]
   unfold aR
   rw[List.find?_cons,e1]
  ·rw[if_pos (by simpa using e)]
   unfold aR at ih ⊢
   rw[List.find?_cons,List.find?_cons]
   split
   ·rfl
   ·exact ih
theorem ta {x:List UInt8×Nat} {s:List UInt8} (hx:x.1≠s) (l:NmL):aR (fZ l x) s=aR l s:=by
 unfold fZ
 rw[yx hx,Et hx]
theorem zH {l:NmL} {c:CallL} {s:List UInt8} (h:c.a≠s∧(c.kind=1→c.b≠s)):aR (dP l c) s=aR l s:=by
 unfold dP
 split
 ·exact ta h.1 l
 ·rename_i hk
  rw[ta (h.2 hk),Et h.1]
 ·exact Et h.1 l
theorem HS {s:List UInt8}: ∀ (cs:List CallL) (l:NmL),(∀c,c∈cs→c.a≠s∧(c.kind=1→c.b≠s))→aR (cs.foldl dP l) s=aR l s
 | [],_,_=>rfl
 |c::cs,l,h=>by
  rw[List.foldl_cons,HS cs _ fun d hd=>h d (List.mem_cons_of_mem _ hd),zH (h c List.mem_cons_self)]
section
variable {S S':DiskL} {kind:Int} {dir name s:List UInt8} {e k n:Nat} {nm data:List UInt8}
theorem KeepS.seen (h:KeepS S k nm n data) (hh:iE S):aR (S.dir k).seen nm=some n:=by
 rw[← (hh k).1,HS _ _ h.pend,h.at_]
theorem He {S:DiskL} {j:Nat} {c:CallL} (h:KeepS S k nm n data) (hc:j=k→c.a≠nm∧(c.kind=1→c.b≠nm)):KeepS (gL S j c) k nm n data:=by
 refine⟨h.lt,h.data,h.stl, ?_, ?_⟩
 ·unfold gL
  by_cases e:k=j
  ·subst e;rw[lX];exact h.at_
  ·rw[m8 _ _ e];exact h.at_
 ·unfold gL
  by_cases e:k=j
  ·subst e
   rw[lX]
   intro d hd
   rcases List.mem_append.1 hd with hd|hd
   ·exact h.pend d hd
   ·rw[List.mem_singleton.1 hd];exact hc rfl
  ·rw[m8 _ _ e];exact h.pend
theorem H9 (ok:DkOk S) (hh:iE S) (hu:gy S) (hc:gw S) (hk:k<3) (hK:KeepS S k nm n data) (ht: ¬ (dir=eY k∧(name=nm∨kind=4∧s=nm))) (h:StepD S kind dir name s S' e):KeepS S' k nm n data:=by
 have hb:=ox hc
 have fi:=hK.seen hh
 have aO: ∀ {j:Nat},bv dir=some j→j=k→name≠nm:=fun hj e h=>ht ⟨by rw[(dH hj).2,e], .inl h⟩
 have Zp: ∀ {j m:Nat},bv dir=some j→aR (S.dir j).seen name=some m→m≠n:=fun hj hm e=>by
  subst e
  have h1:=hu _ _ (dH hj).1 hk _ (fp hm) _ (fp fi) rfl
  exact aO hj h1.1 (congrArg Prod.fst h1.2)
 have bO: ∀ {m:Nat} (f:FileL),m<S.files.length→m≠n→KeepS (ez S m f) k nm n data:=fun{m} f hm vr=>by
  have e:=su S f hm n
  rw[if_neg (Ne.symm vr)] at e
  exact⟨by show n< (S.files.set m f).length;rw[List.length_set];exact hK.lt,by rw[e];exact hK.data,by rw[e];exact hK.stl,hK.at_,hK.pend⟩
 cases h with
 |same=>exact hK
 |burn=>rw[hb];exact hK
 |create j hj hf hn fT=>
  rw[hb]
  have e:=El S dw hK.lt
  exact He ⟨by show n< (S.files++ [dw]).length;rw[List.length_append];have:=hK.lt;omega,by rw[e];exact hK.data,by rw[e];exact hK.stl,hK.at_,hK.pend⟩ fun e=>⟨aO hj e,fun h=>by cases h⟩
 |append j m hj hm hf fT=>rw[hb];exact bO _ (ok.seenN j (dH hj).1 _ (fp hm)) (Zp hj hm)
 |sync j m hj hm fT=>rw[hb];exact bO _ (ok.seenN j (dH hj).1 _ (fp hm)) (Zp hj hm)
 |syncDir j hj fT=>
  rw[hb]
  refine⟨hK.lt,hK.data,hK.stl, ?_, ?_⟩
  ·unfold oz
   by_cases e:k=j
   ·subst e;rw[lX];exact fi
   ·rw[m8 _ _ e];exact hK.at_
  ·unfold oz
   by_cases e:k=j
   ·subst e;rw[lX];intro c hc;cases hc
   ·rw[m8 _ _ e];exact hK.pend
 |rename j m h4 hj hm hf hne' fT=>rw[hb];exact He hK fun e=>⟨aO hj e,fun _ h=>ht ⟨by rw[(dH hj).2,e], .inr ⟨h4,h⟩⟩⟩
 |remove j m hj hm fT=>rw[hb];exact He hK fun e=>⟨aO hj e,fun h=>by cases h⟩
theorem yL (hk:k<3) (hf:dE nm=true) (hK:KeepS S k nm n data) (pl:List UInt16):eh (eW S pl) (eY k) nm=(data,0):=by
 obtain⟨i,h1,h2⟩:=yt S pl hk
 have hat:aR ((eW S pl).dir k).seen nm=some n:=by
  rw[h2]
  show aR (g7 S k i) nm=_
  unfold g7
  rw[HS _ _ fun c hc=>hK.pend c (List.mem_of_mem_take hc),hK.at_]
 have eQ:dF (eW S pl) (eY k) [nm]=0:=by
  unfold dF
  rw[pp hk,zf,if_neg (by simp[hf]),if_neg (by simp)]
 have hd:=((Pd S pl n).2 hK.stl).1
 unfold eh
 rw[if_neg (by rw[eQ];simp)]
 have ha:atD (eW S pl) (eY k) nm=some n:=by unfold atD;rw[pp hk];exact hat
 have sD: ((bv (eY k)).bind fun k=>aR ((eW S pl).dir k).seen nm)=some n:=ha
 rw[sD]
 show((aH (eW S pl) n).data,0)=_
 rw[hd,hK.data]
end
end Go.Proofs
end
section
open Go Go.Proofs Go.Sx Go.StP
namespace Go.Proofs
set_option maxRecDepth 10000
set_option maxHeartbeats 400000
set_option linter.unusedSimpArgs false
def bP (S:DiskL) (j:Nat) (x:List UInt8):Option (List UInt8):=(aR (S.dir j).seen x).map fun n=>(aH S n).data
structure GoodS (S:DiskL):Prop where
 srt: ∀k,k<3→SrtN (S.dir k).seen
 lt:LtS S
 uniq:gy S
theorem DkOk.good {S:DiskL} (ok:DkOk S) (hu:gy S):GoodS S:=⟨ok.seen,ok.seenN,hu⟩
def ah (s:List UInt8):List UInt8:=s++ [46,116,109,112]
theorem CA (s:List UInt8):ah s≠s:=fun h=>by
 have:=congrArg List.length h
 unfold ah at this
 simp at this
section
variable {S S':DiskL} {kind:Int} {dir name s:List UInt8} {e:Nat}
theorem Ex {S S':DiskL} {j:Nat} {x:List UInt8} (h1:aR (S'.dir j).seen x=aR (S.dir j).seen x) (h2: ∀n,aR (S.dir j).seen x=some n→(aH S' n).data=(aH S n).data):bP S' j x=bP S j x:=by
 unfold bP
 rw[h1]
 cases hf:aR (S.dir j).seen x with
 |none=>rfl
 |some n=>exact congrArg some (h2 n hf)
theorem zP (hg:GoodS S) (h:StepD S kind dir name s S' e) {j:Nat} (hj:j<3) {x:List UInt8} (hx:eY j=dir→x≠name∧(kind=4→x≠s)):bP S' j x=bP S j x:=by
 obtain⟨aQ,aZ,-⟩:=j9 S
 have hd: ∀ {k},bv dir=some k→j=k→x≠name∧(kind=4→x≠s):=fun hk e=>hx (by rw[e];exact(dH hk).2.symm)
 have turn: ∀ {T:DiskL} {k:Nat} {c:CallL},(∀n,n<S.files.length→aH T n=aH S n)→T.dir=S.dir→(j=k→c.a≠x∧(c.kind=1→c.b≠x))→bP (gL T k c) j x=bP S j x:=fun{T k c} hf hT hc=>
  Ex (by
   rw[oy]
   by_cases e:j=k
   ·rw[if_pos e,zH (hc e),hT,e]
   ·rw[if_neg e,hT]) fun n hn=>by
   show(aH T n).data=_
   rw[hf n (hg.lt j hj _ (fp hn))]
 have set: ∀ {k m:Nat} (f:FileL),bv dir=some k→aR (S.dir k).seen name=some m→bP (ez (aJ S).1 m f) j x=bP S j x:=fun{k m} f hk hm=>
  Ex (by show aR ((aJ S).1.dir j).seen x=_;rw[aQ]) fun n hn=>by
   have pX:m< (aJ S).1.files.length:=by rw[aZ];exact hg.lt k (dH hk).1 _ (fp hm)
   rw[su _ _ pX,lY]
   by_cases e:n=m
   ·subst e
    have h1:=hg.uniq j k hj (dH hk).1 _ (fp hn) _ (fp hm) rfl
    exact absurd (congrArg Prod.fst h1.2) (hd hk h1.1).1
   ·rw[if_neg e]
 cases h with
 |same=>rfl
 |burn=>exact Ex (by rw[aQ]) fun n _=>by rw[lY]
 |create k hk hf hn hb=>exact turn (fun n hn=>by rw[El _ _ (by rw[aZ];exact hn),lY]) aQ fun e=>⟨Ne.symm (hd hk e).1,fun h=>by cases h⟩
 |append k m hk hm hf hb=>exact set _ hk hm
 |sync k m hk hm hb=>exact set _ hk hm
 |syncDir k hk hb=>exact Ex (by rw[EJ,aQ]) fun n _=>by show(aH (aJ S).1 n).data=_;rw[lY]
 |rename k m h4 hk hm hf aO hb=>exact turn (fun n _=>lY S n) aQ fun e=>⟨Ne.symm (hd hk e).1,fun _=>Ne.symm ((hd hk e).2 h4)⟩
 |remove k m hk hm hb=>exact turn (fun n _=>lY S n) aQ fun e=>⟨Ne.symm (hd hk e).1,fun h=>by cases h⟩
end
end Go.Proofs
end
section
open Go Go.Proofs Go.Sx Go.StP
namespace Go.Proofs
set_option maxRecDepth 10000
set_option maxHeartbeats 400000
set_option linter.unusedSimpArgs false
structure TkL where
 dir:List UInt8
 name:List UInt8
 data:List UInt8
 light:Bool
 next:Nat
 made:Bool
 ended:Bool
structure PhR where
 did:Bool
 e:Nat
 t:TkL
 S:DiskL
def tK (t:TkL) (S:DiskL):PhR:=if(eh S t.dir (ah t.name)).2≠0 then⟨false,0,t,S⟩ else⟨true,(jT S t.dir (ah t.name)).2,t,(jT S t.dir (ah t.name)).1⟩
def u6 (t:TkL) (S:DiskL):PhR:=⟨true,(jU S t.dir (ah t.name)).2,{t with made:=(jU S t.dir (ah t.name)).2==0},(jU S t.dir (ah t.name)).1⟩
def uG (t:TkL) (S:DiskL):PhR:=⟨true,(gf S t.dir (ah t.name) t.data).2,t,(gf S t.dir (ah t.name) t.data).1⟩
def o7 (t:TkL) (S:DiskL):PhR:=if t.light=true then⟨false,0,t,S⟩ else⟨true,(ct S t.dir (ah t.name)).2,t,(ct S t.dir (ah t.name)).1⟩
def u4 (t:TkL) (S:DiskL):PhR:=⟨true,(j8 S t.dir (ah t.name) t.name).2,{t with made:=t.made&& (j8 S t.dir (ah t.name) t.name).2 !=0},(j8 S t.dir (ah t.name) t.name).1⟩
def yC (t:TkL) (S:DiskL):PhR:=if t.light=true then⟨false,0,t,S⟩ else⟨true,(fQ S t.dir).2,t,(fQ S t.dir).1⟩
def phT (k:Nat) (t:TkL) (S:DiskL):PhR:=match k with
 |0=>tK t S
 |1=>u6 t S
 |2=>uG t S
 |3=>o7 t S
 |4=>u4 t S
 |_=>yC t S
structure StR where
 done:Bool
 e:Nat
 t:TkL
 S:DiskL
def nxT (r:PhR):TkL:={r.t with next:=r.t.next+1}
def endT (t:TkL):Bool:=t.next==6|| (t.light&&t.next==5)
def gq (r:PhR):StR:=if(nxT r).made=true∧r.e≠9 then⟨false,r.e,{nxT r with ended:=true},(jT r.S r.t.dir (ah r.t.name)).1⟩ else⟨false,r.e,{nxT r with ended:=true},r.S⟩
def gN (r:PhR):TkL:={nxT r with ended:=endT (nxT r)}
def fI:Nat→TkL→DiskL→StR
 |0,t,S=>⟨false,0,t,S⟩
 |f+1,t,S=>
  if(phT t.next t S).e≠0 then gq (phT t.next t S)
  else if(phT t.next t S).did=false∧endT (nxT (phT t.next t S))=false then fI f (gN (phT t.next t S)) (phT t.next t S).S
  else⟨endT (nxT (phT t.next t S)),0,gN (phT t.next t S),(phT t.next t S).S⟩
def fO (t:TkL) (S:DiskL):StR:=if t.ended=true then⟨false,15,t,S⟩ else fI (6 - t.next) t S
def runG:Nat→TkL→DiskL→Nat×TkL×DiskL
 |0,t,S=>(0,t,S)
 |f+1,t,S=>if(fO t S).done=true∨(fO t S).e≠0 then((fO t S).e,(fO t S).t,(fO t S).S) else runG f (fO t S).t (fO t S).S
def phG:Nat→TkL→DiskL→Nat×DiskL
 |0,_,S=>(0,S)
 |f+1,t,S=>
  if(phT t.next t S).e≠0 then((gq (phT t.next t S)).e,(gq (phT t.next t S)).S)
  else if endT (nxT (phT t.next t S))=true then(0,(phT t.next t S).S)
  else phG f (gN (phT t.next t S)) (phT t.next t S).S
theorem VG (f:Nat) (t:TkL) (S:DiskL):phG (f+1) t S=(if(phT t.next t S).e≠0 then((gq (phT t.next t S)).e,(gq (phT t.next t S)).S)
  else if endT (nxT (phT t.next t S))=true then(0,(phT t.next t S).S)
  else phG f (gN (phT t.next t S)) (phT t.next t S).S):=rfl
theorem nv (k:Nat) (t:TkL) (S:DiskL): (phT k t S).t.dir=t.dir∧(phT k t S).t.name=t.name∧(phT k t S).t.data=t.data∧(phT k t S).t.light=t.light∧(phT k t S).t.next=t.next∧(phT k t S).t.ended=t.ended:=by
 unfold phT
 split
 ·unfold tK;split<;>exact⟨rfl,rfl,rfl,rfl,rfl,rfl⟩
 ·exact⟨rfl,rfl,rfl,rfl,rfl,rfl⟩
 ·exact⟨rfl,rfl,rfl,rfl,rfl,rfl⟩
 ·unfold o7;split<;>exact⟨rfl,rfl,rfl,rfl,rfl,rfl⟩
 ·exact⟨rfl,rfl,rfl,rfl,rfl,rfl⟩
 ·unfold yC;split<;>exact⟨rfl,rfl,rfl,rfl,rfl,rfl⟩
theorem u7 (k:Nat) (t:TkL) (S:DiskL): (gN (phT k t S)).dir=t.dir∧(gN (phT k t S)).name=t.name∧(gN (phT k t S)).data=t.data∧(gN (phT k t S)).light=t.light∧(gN (phT k t S)).next=t.next+1:=by
 obtain⟨h1,h2,h3,h4,h5,-⟩:=nv k t S
 exact⟨h1,h2,h3,h4,congrArg (· +1) h5⟩
theorem R7 (r:PhR): (gq r).e=r.e∧(gq r).done=false:=by
 unfold gq
 split<;>exact⟨rfl,rfl⟩
theorem uJ: ∀ (f:Nat) (t:TkL) (S:DiskL),f+t.next=6→0<f→
  ((fI f t S).e≠0∧phG f t S=((fI f t S).e,(fI f t S).S))∨
  ((fI f t S).e=0∧(fI f t S).done=true∧phG f t S=(0,(fI f t S).S))∨
  ((fI f t S).e=0∧(fI f t S).done=false∧(fI f t S).t.ended=false∧t.next< (fI f t S).t.next∧(fI f t S).t.next<6∧phG f t S=phG (6 - (fI f t S).t.next) (fI f t S).t (fI f t S).S)
 |0,_,_,_,h=>absurd h (Nat.lt_irrefl 0)
 |f+1,t,S,hf,_=>by
  obtain⟨-,-,-,-,hn,-⟩:=nv t.next t S
  have gE: (gN (phT t.next t S)).next=t.next+1:=(u7 t.next t S).2.2.2.2
  have eQ: (gN (phT t.next t S)).ended=endT (nxT (phT t.next t S)):=rfl
  unfold fI
  rw[VG]
  by_cases he: (phT t.next t S).e≠0
  ·rw[if_pos he,if_pos he]
   exact .inl ⟨by rw[(R7 _).1];exact he,rfl⟩
  ·rw[if_neg he,if_neg he]
   cases mV:endT (nxT (phT t.next t S)) with
   |true=>
    rw[if_neg (fun h=>by cases h.2),if_pos rfl]
    exact .inr (.inl ⟨rfl,rfl,rfl⟩)
   |false=>
    have aD:t.next+1<6:=by
     have h1: (nxT (phT t.next t S)).next=t.next+1:=congrArg (· +1) hn
     unfold endT at mV
     rw[h1] at mV
     simp only[Bool.or_eq_false_iff,beq_eq_false_iff_ne] at mV
     have:=mV.1
     omega
    rw[if_neg (show¬ (false=true) by simp)]
    by_cases hd: (phT t.next t S).did=false
    ·rw[if_pos ⟨hd,rfl⟩]
     have ih:=uJ f (gN (phT t.next t S)) (phT t.next t S).S (by rw[gE];omega) (by omega)
     rw[gE] at ih
     rcases ih with h|h| ⟨h1,h2,h3,h4,h5⟩
     ·exact .inl h
     ·exact .inr (.inl h)
     ·exact .inr (.inr ⟨h1,h2,h3,by omega,h5⟩)
    ·rw[if_neg fun h=>hd h.1]
     refine .inr (.inr ⟨rfl,rfl,eQ.trans mV,by show t.next< (gN (phT t.next t S)).next;rw[gE];omega,by show(gN (phT t.next t S)).next<6;rw[gE];exact aD, ?_⟩)
     show phG f _ _=phG (6 - (gN (phT t.next t S)).next) _ _
     rw[gE,show 6 - (t.next+1)=f by omega]
theorem CI: ∀ (n f:Nat) (t:TkL) (S:DiskL),6 - t.next≤n→t.next<6→t.ended=false→6 - t.next≤f→((runG f t S).1,(runG f t S).2.2)=phG (6 - t.next) t S
 |0,_,_,_,hn,hl,_,_=>by omega
 |n+1,0,_,_,_,hl,_,hf=>by omega
 |n+1,f+1,t,S,hn,hl,he,hf=>by
  have hs:fO t S=fI (6 - t.next) t S:=by unfold fO;rw[if_neg (by rw[he];simp)]
  unfold runG
  rw[hs]
  rcases uJ (6 - t.next) t S (by omega) (by omega) with⟨h1,h2⟩ | ⟨h1,h2,h3⟩ | ⟨h1,h2,h3,h4,h5,h6⟩
  ·rw[if_pos (.inr h1),h2]
  ·rw[if_pos (.inl h2),h3,h1]
  ·rw[if_neg (by rw[h1,h2];simp),h6]
   exact CI n f _ _ (by omega) h5 h3 (by omega)
def tk0 (dir name data:List UInt8) (light:Bool):TkL:=⟨dir,name,data,light,0,false,false⟩
def pubV (S:DiskL) (dir name data:List UInt8) (light:Bool):Nat×DiskL:=phG 6 (tk0 dir name data light) S
theorem UH (S:DiskL) (dir name data:List UInt8) (light:Bool): ((runG 6 (tk0 dir name data light) S).1,(runG 6 (tk0 dir name data light) S).2.2)=pubV S dir name data light:=CI 6 6 (tk0 dir name data light) S (Nat.le_refl 6) (Nat.succ_pos 5) rfl (Nat.le_refl 6)
end Go.Proofs
end
