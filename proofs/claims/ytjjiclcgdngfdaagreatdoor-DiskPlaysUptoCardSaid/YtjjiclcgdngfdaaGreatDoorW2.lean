/-
  Part 2 of the walk: contracts of the functions that the law reaches, and the calculus they stand on.
  No conditions.
-/
import Derived.Test.YtjjiclcgdngfdaaGreatDoorW1
import Derived.Lib.Strings
import Derived.Lib.Bytealg
import GoSem.Core.Float
import Derived.Laws.MakeOwn
section
open Go Go.Proofs Go.Sx Go.StP
namespace Go.Proofs
set_option maxRecDepth 10000
set_option maxHeartbeats 400000
set_option linter.unusedSimpArgs false
abbrev obV (k:Int) (t:List UInt8):Value:= .agg #[vi k,vs t]
theorem q6_ (k:Int) (t:List UInt8) (E:TypeId) (fz:Nat×Nat):zk_ (some (true,2)) (some (.cells #[vi k,vs t] E fz)) 0=some (obV k t):=(rfl)
theorem qt_ (k:Int) (t:List UInt8) (n:Nat) (E:TypeId) (fz:Nat×Nat):zk_ (some (false,n)) (some (.cells #[vi k,vs t] E fz)) 0=some (vi k):=(rfl)
theorem qq_ (k:Int) (t:List UInt8) (n:Nat) (E:TypeId) (fz:Nat×Nat):zk_ (some (false,n)) (some (.cells #[vi k,vs t] E fz)) 1=some (vs t):=(rfl)
theorem qC_ (k k':Int) (t t':List UInt8) (a:Bool) (E:TypeId):zn_ (some (a,2)) (some (.cells #[vi k',vs t'] E (0,0))) 0 (obV k t)=some (.cells #[vi k,vs t] E (0,0)):=(rfl)
set_option linter.defProp false
def ati_:=And.intro (And.intro (@q6_) (And.intro (@qt_) (@qq_))) (And.intro (@qC_) (And.intro (@zg_) (@zf_)))
def fnV (k:Nat):Value:= .func (.func k) #[] #[]
def fnsV:Array Value:= #[.nilFunc,fnV 201,fnV 202,fnV 203]
abbrev T4:TypeId:=269
def RdOk (k:Int) (t:List UInt8):Bool:=
 if 1≤k∧k≤3∧t.length≤4096 then
  (if k=1 then true else if k=2 then(vF_ t (j1_ t).2.1 (j1_ t).2.2==0&&vm_ (j1_ t).1) else(vF_ t (Zq_ t).2.1 (Zq_ t).2.2==0&&ZI_ (Zq_ t).1))
 else false
def RdS (k:Int) (t:List UInt8) (v:Value) (D:zc_):Prop:=
 ∃p,v= .tuple #[p, .bool (RdOk k t)]∧(1≤k∧k≤3∧t.length≤4096→ ∃bo bw v1 c1 x1 y1,p=vp bo 0∧Sx.look D bo=some (.cells (roC (vp bw 0) v1 c1 x1 y1).toArray 271 (0,0))∧
  (k=2→Gr D 221 34 v1 (j1_ t).1.length ((j1_ t).1.map jR_).flatten)∧
  (k=3→c1=(Zq_ t).1.tree∧y1=(Zq_ t).1.text∧Gr D 84 32 x1 (Zq_ t).1.par.length ((Zq_ t).1.par.map JO_).flatten)∧(k≠2→v1= .slice none 0 0))
end Go.Proofs
end
section
open Go Go.Proofs Go.Sx Go.StP
namespace Go.Proofs
set_option maxRecDepth 10000
set_option maxHeartbeats 400000
set_option linter.unusedSimpArgs false
set_option linter.defProp false
def atV_:=And.intro (And.intro (And.intro (@q6_) (@qt_)) (And.intro (@qq_) (@qC_))) (And.intro (And.intro (@Sx.tup2_0) (@Sx.tup2_1)) (And.intro (@zg_) (@zf_)))
def aup_ (k:Int) (t:List UInt8) (ok:Bool):Int:=if ok&&RdOk k t then k else 0
def auC_ (k:Int) (t:List UInt8) (ok:Bool):List UInt8:=if ok&&RdOk k t then t else []
def aui_ (k:Int) (t:List UInt8) (ok:Bool):Int:=if ok&&RdOk k t then 0 else 1
theorem zrOb:zL_ Tryz.prog 82=some (obV 0 []):=id (by kernel_rfl)
theorem wO_:jk_ (vw_ Tryz.prog 82) (zL_ Tryz.prog 82) []=some (obV 0 []):=by
 have hp:vw_ Tryz.prog 82=some [(0,1),(1,1)]:=id (by kernel_rfl)
 rw[hp,zrOb];rfl
end Go.Proofs
end
section
open Go Go.Proofs Go.Sx Go.StP
namespace Go.Proofs
set_option maxRecDepth 10000
set_option maxHeartbeats 400000
set_option linter.unusedSimpArgs false
set_option linter.defProp false
def atN_:=And.intro (And.intro (And.intro (@q6_) (And.intro (@qt_) (@qq_))) (And.intro (@qC_) (And.intro (@Sx.tup2_0) (@Sx.tup2_1)))) (And.intro (And.intro (@wH_) (And.intro (@wJ_) (@wW_))) (And.intro (And.intro (@ZU_) (@ks_)) (And.intro (@zg_) (@zf_))))
end Go.Proofs
end
section
open Go Go.Proofs Go.Sx Go.StP
namespace Go.Proofs
set_option maxRecDepth 10000
set_option maxHeartbeats 400000
set_option linter.unusedSimpArgs false
set_option linter.defProp false
def auL_:=And.intro (And.intro (And.intro (@q6_) (And.intro (@qt_) (@qq_))) (And.intro (And.intro (@qC_) (@Sx.tup2_0)) (And.intro (@Sx.tup2_1) (@kg_)))) (And.intro (And.intro (@vt_) (And.intro (@vk_) (@jj_))) (And.intro (And.intro (@qf_) (@qo_)) (And.intro (@zg_) (@zf_))))
structure WrG where
 g:Nat
 D:zc_
end Go.Proofs
end
section
open Go Go.Proofs Go.Sx Go.StP
namespace Go.Proofs
set_option maxRecDepth 10000
set_option maxHeartbeats 400000
set_option linter.unusedSimpArgs false
set_option linter.defProp false
def att_:=And.intro (And.intro (And.intro (@q6_) (@qt_)) (And.intro (@qq_) (And.intro (@qC_) (@Sx.tup2_0)))) (And.intro (And.intro (@Sx.tup2_1) (And.intro (@Ws_) (@WI_))) (And.intro (@WQ_) (And.intro (@zg_) (@zf_))))
def auB_ (k:Int) (t:List UInt8) (v:Value) (D:zc_):Prop:=
 if RdOk k t=true∧k=2 then∃v1,v= .tuple #[v1,vi 0]∧Gr D 221 34 v1 (j1_ t).1.length ((j1_ t).1.map jR_).flatten else v= .tuple #[.slice none 0 0,vi 1]
def atK_ (k:Int) (t:List UInt8) (v:Value) (D:zc_):Prop:=
 if RdOk k t=true∧k=3 then∃p,v= .tuple #[.agg (jd_ (Zq_ t).1.tree p (Zq_ t).1.text).toArray,vi 0]∧Gr D 84 32 p (Zq_ t).1.par.length ((Zq_ t).1.par.map JO_).flatten else v= .tuple #[.agg (jd_ id0 (.slice none 0 0) []).toArray,vi 1]
end Go.Proofs
end
section
open Go Go.Proofs Go.Sx Go.StP
namespace Go.Proofs
set_option maxRecDepth 10000
set_option maxHeartbeats 400000
set_option linter.unusedSimpArgs false
set_option linter.defProp false
def atv_:=And.intro (And.intro (And.intro (@q6_) (@qt_)) (And.intro (@qq_) (@qC_))) (And.intro (And.intro (@Sx.tup2_0) (@Sx.tup2_1)) (And.intro (@zg_) (@zf_)))
def aqS_ (k:Int):List UInt8:=(([32,98,116,99]:List UInt8).take (k+1).toNat).drop k.toNat
def ark_ (k:Int) (t:List UInt8):List UInt8:=aqS_ k++QQ_ t
end Go.Proofs
end
section
open Go Go.Proofs Go.Sx Go.StP
namespace Go.Proofs
set_option maxRecDepth 10000
set_option maxHeartbeats 400000
set_option linter.unusedSimpArgs false
set_option linter.defProp false
def kA_:=And.intro (And.intro (And.intro (@q6_) (@qt_)) (And.intro (@qq_) (@qC_))) (And.intro (And.intro (@Sx.tup2_0) (@Sx.tup2_1)) (And.intro (@ks_) (And.intro (@zg_) (@zf_))))
def ko_ (k:Int) (t:List UInt8):Bool:=if 4096<t.length then false else if k=2 then(acO_ t).isSome else if k=3 then(adM_ t).isSome else k==1
theorem Xr_ (k:Int) (t:List UInt8) (w:World):Rets Tryz.prog 54 #[obV k t] w (fun v D=>v= .bool (ko_ k t)∧D= []):=by
 refine Rets.enterV Tryz.func54 rfl (rs:= [.tmp 2]) Tryz.results54 Tryz.ntmps54 ?_
 refine kf ?_
 first|with_reducible refine ks [] @kA_ ?_|refine kp @kA_ ?_
 refine Ow.box rfl rfl fun b1 hb1 hw1=> ?_
 simp only[qv_,qu_,qA_,zj_,List.nil_append]
 refine ko @kA_ ?_
 unfold ko_
 by_cases h3:4096<t.length
 ·have d1:decide (4096< (t.length:Int))=true:=decide_eq_true (by omega)
  rw[if_pos h3]
  first|with_reducible refine ks [] (And.intro @kA_ @d1) ?_|refine kp (And.intro @kA_ @d1) ?_
  refine⟨_,(ke @kA_),⟨hw1,trivial⟩, ?_⟩
  rfl
 ·have d1:decide (4096< (t.length:Int))=false:=decide_eq_false (by omega)
  rw[if_neg h3]
  by_cases h2:k=2
  ·subst h2
   rw[if_pos rfl]
   first|with_reducible refine ks [] (And.intro @kA_ @d1) ?_|refine kp (And.intro @kA_ @d1) ?_
   refine Ow.callC rfl rfl Tryz.call108 (fun w' hw'=>aah_ t w' (by omega)) (fun B v D hA hB hN hS=> ?_)
   obtain⟨p,b,rfl,hb⟩: ∃p b,v= .tuple #[p, .bool b]∧(acO_ t).isSome=b:=by
    unfold ai1_ at hS
    cases h:acO_ t with
    |none=>rw[h] at hS;exact⟨_,_,hS,rfl⟩
    |some l=>rw[h] at hS;obtain⟨v1,rfl,-⟩:=hS;exact⟨_,_,rfl,rfl⟩
   rw[hb]
   refine ko @kA_ ?_
   first|with_reducible refine ks [] @kA_ ?_|refine kp @kA_ ?_
   refine⟨_,(ke @kA_),⟨hw1,New.mono hB hN⟩, ?_⟩
   rfl
  ·have d2: (k==2)=false:=by simpa using h2
   rw[if_neg h2]
   by_cases h4:k=3
   ·subst h4
    rw[if_pos rfl]
    first|with_reducible refine ks [] (And.intro @kA_ (And.intro @d1 (@d2))) ?_|refine kp (And.intro @kA_ (And.intro @d1 (@d2))) ?_
    refine Ow.callC rfl rfl Tryz.call109 (fun w' hw'=>WW_ t w' (by omega)) (fun B v D hA hB hN hS=> ?_)
    obtain⟨c,p,x,b,rfl,hp,hb⟩: ∃c p x b,v= .tuple #[.agg (jd_ c p x).toArray, .bool b]∧Value.oneCell' p=true∧(adM_ t).isSome=b:=by
     unfold ajV_ at hS
     cases h:adM_ t with
     |none=>rw[h] at hS;exact⟨_,_,_,_,hS,rfl,rfl⟩
     |some l=>rw[h] at hS;obtain⟨v1,rfl,hg⟩:=hS;exact⟨_,_,_,_,rfl,hg.cell.1,rfl⟩
    rw[hb]
    have stq: ∀a E,zn_ (some (a,34)) (some (.cells (jd_ id0 (.slice none 0 0) []).toArray E (0,0))) 0 (.agg (jd_ c p x).toArray)=some (.cells (jd_ c p x).toArray E (0,0)):=fun a E=>Kz_ _ _ _ _ a E (by rw[List.size_toArray,Zb_]) hp
    refine ko @kA_ ?_
    refine Ow.alloc rfl rfl amV_ fun b5 hb5 hw5=> ?_
    simp only[zj_,List.nil_append,List.cons_append]
    refine Ow.permL (M:=(b5,Obj.cells (jd_ id0 (.slice none 0 0) []).toArray 172 (0,0)):: (b1,Obj.cells #[vi 3,vs t] 82 (0,0))::D) (by classical exact List.perm_iff_count.2 fun a=>by simp only[List.count_append,List.count_cons,List.count_nil]<;>omega) ?_
    refine ko (And.intro @kA_ @stq) ?_
    first|with_reducible refine ks [] @kA_ ?_|refine kp @kA_ ?_
    refine⟨_,(ke @kA_),⟨hw5,hw1,New.mono hB hN⟩, ?_⟩
    rfl
   ·have d3: (k==3)=false:=by simpa using h4
    rw[if_neg h4]
    first|with_reducible refine ks [] (And.intro @kA_ (And.intro @d1 (And.intro @d2 (@d3)))) ?_|refine kp (And.intro @kA_ (And.intro @d1 (And.intro @d2 (@d3)))) ?_
    refine⟨_,(ke @kA_),⟨hw1,trivial⟩, ?_⟩
    rfl
end Go.Proofs
end
section
open Go Go.Proofs Go.Sx Go.StP
namespace Go.Proofs
set_option maxRecDepth 10000
set_option maxHeartbeats 400000
set_option linter.unusedSimpArgs false
theorem aeT_ (most:Int): ∀ (l:List UInt8) (k acc m k':Nat),ja_ most l k acc= .ok (m,k')→ ∃n,l=KL_ n++l.drop (k' - k)∧m=acc+n*128^k∧(0<k→0<n)∧k<k':=by
 intro l
 induction l with
 |nil=>intro k acc m k' h;simp[ja_] at h
 |cons c r ih=>
  intro k acc m k' h
  unfold ja_ at h
  have hcl:=c.toNat_lt
  split at h
  ·rename_i hc
   split at h
   ·cases h
   ·obtain⟨n,h1,h2,h3,h4⟩:=ih _ _ _ _ h
    have hn:=h3 (by omega)
    refine⟨c.toNat%128+128*n, ?_, ?_,fun _=>by omega,by omega⟩
    ·rw[JL_ (by omega),show(c.toNat%128+128*n) / 128=n by omega,show(c.toNat%128+128*n)%128+128=c.toNat by omega]
     rw[show k' - k=(k' - (k+1))+1 by omega,List.drop_succ_cons,List.cons_append,←h1]
     simp
    ·rw[h2,Nat.pow_succ,Nat.add_mul,Nat.add_assoc]
     congr 2
     rw[Nat.mul_comm 128 n,Nat.mul_assoc,Nat.mul_comm (128^k) 128]
  ·rename_i hc
   split at h
   ·cases h
   ·rename_i hz
    split at h
    ·cases h
     refine⟨c.toNat, ?_, ?_,fun hk=>by omega,by omega⟩
     ·rw[vg_ (by omega),Nat.add_sub_cancel_left]
      simp
     ·rw[Nat.mod_eq_of_lt (by omega)]
    ·cases h
theorem QY_ {n:Nat} (h:n≤1099511627775):q8_ (n:Int)=n:=vv_ (by omega)
theorem Jc_ (most:Int): ∀ (l:List UInt8) (k n m k':Nat),ja_ most l k n= .ok (m,k')→m≤1099511627775
 | [],_,_,_,_,h=>by simp[ja_] at h
 |c::r,k,n,m,k',h=>by
  unfold ja_ at h
  split at h
  ·split at h
   ·cases h
   ·exact Jc_ most r _ _ _ _ h
  ·split at h
   ·cases h
   ·split at h
    ·rename_i hh
     cases h
     exact hh.1
    ·cases h
theorem QI_ {s:List UInt8} {a:Nat} {most:Int} (h: (zD_ s a 0 most).2.2=0): ∃n:Nat,(zD_ s a 0 most).1=(n:Int)∧n≤1099511627775∧(n:Int)≤most∧s.drop a=KL_ n++s.drop (zD_ s a 0 most).2.1:=by
 unfold zD_ at h ⊢
 rw[if_neg (by simp)] at h ⊢
 cases hg:ja_ most (s.drop a) 0 0 with
 |ok p=>
  obtain⟨m,k⟩:=p
  obtain⟨n,h1,h2,-,-⟩:=aeT_ _ _ _ _ _ _ hg
  obtain rfl:m=n:=by rw[h2];simp
  refine⟨m,rfl,Jc_ _ _ _ _ _ _ hg,Zs_ _ _ _ _ _ _ hg, ?_⟩
  rw[Nat.sub_zero,List.drop_drop] at h1
  exact h1
 |error x=>
  rw[hg] at h
  exfalso
  have:x=0:=by have: ((x:Nat):Int)=0:=h;omega
  subst this
  exact ajj_ _ _ _ _ hg
theorem VG_ {s:List UInt8} {a:Nat} {n:Int} (ha:a≤s.length) (h: (jo_ s a 0 n).2.2=0):0≤n∧(jo_ s a 0 n).1.length=n.toNat∧s.drop a=(jo_ s a 0 n).1++s.drop (jo_ s a 0 n).2.1:=by
 unfold jo_ at h ⊢
 rw[if_neg (by simp)] at h ⊢
 split at h
 ·exact absurd (show(2:Int)=0 from h) (by decide)
 ·rename_i h1
  rw[if_neg h1]
  split at h
  ·exact absurd (show(3:Int)=0 from h) (by decide)
  ·rename_i h2
   rw[if_neg h2]
   refine⟨by omega, ?_, ?_⟩
   ·simp only[List.length_take,List.length_drop];omega
   ·simp only
    rw[←List.drop_drop,List.take_append_drop]
theorem Kc_ {s:List UInt8} {a:Nat} {most:Int} (ha:a≤s.length) (h: (zX_ s a 0 most).2.2=0): ((zX_ s a 0 most).1.length:Int)≤most∧s.drop a=QQ_ (zX_ s a 0 most).1++s.drop (zX_ s a 0 most).2.1:=by
 have hle:=jh_ (e:=0) (most:=most) ha
 have e1: (zD_ s a 0 most).2.2=0:=Decidable.byContradiction fun hn=>by
  unfold zX_ at h
  simp only[afG_ hn] at h
  rw[if_pos hn] at h
  exact hn h
 obtain⟨n,hn,hb,hm,hd⟩:=QI_ e1
 unfold zX_ at h ⊢
 simp only at h ⊢
 generalize zD_ s a 0 most=p at*
 obtain⟨p1,p2,p3⟩:=p
 simp only at e1 hn hd hle h ⊢
 subst e1 hn
 have e2: (jo_ s p2 0 (n:Int)).2.2=0:=Decidable.byContradiction fun hh=>by rw[if_pos hh] at h;exact hh h
 rw[if_neg (by simp[e2])]
 obtain⟨-,hl,hr⟩:=VG_ hle.2 e2
 rw[Int.toNat_natCast] at hl
 refine⟨by rw[hl];exact hm, ?_⟩
 unfold QQ_
 rw[hl,QY_ hb,List.append_assoc,←hr]
 exact hd
theorem Xt_ {s:List UInt8} {a:Nat} (ha:a≤s.length) (h: (idR s a 0).2.2=0):s.drop a=(Jt_ (idR s a 0).1).l++s.drop (idR s a 0).2.1:=by
 have e2: (jo_ s a 0 32).2.2=0:=h
 obtain⟨-,hl,hr⟩:=VG_ ha e2
 rw[JK_ (aai_ s a 0)]
 unfold idR
 simp only
 have hl': (jo_ s a 0 32).1.length=32:=hl
 rw[if_pos hl']
 exact hr
theorem age_ {s:List UInt8} {a:Nat} (ha:a≤s.length) (h: (KZ_ s a 0).2.2=0):s.drop a=entB (KZ_ s a 0).1++s.drop (KZ_ s a 0).2.1:=by
 have hq:=jh_ (e:=0) (most:=2) ha
 unfold KZ_ at h ⊢
 simp only at h ⊢
 have e1: (zD_ s a 0 2).2.2=0:=Decidable.byContradiction fun hn=>by
  rw[aiH_ (by rw[W9_ hn];exact hn),W9_ hn] at h;exact hn h
 obtain⟨n,hn,hb,-,hd⟩:=QI_ e1
 generalize zD_ s a 0 2=p at*
 obtain⟨p1,p2,p3⟩:=p
 simp only at e1 hn hd hq h ⊢
 subst e1 hn
 have ht:=vO_ (e:=0) (most:=32) hq.2
 have e2: (zX_ s p2 0 32).2.2=0:=Decidable.byContradiction fun hn=>by rw[aiH_ hn] at h;exact hn h
 obtain⟨-,hd2⟩:=Kc_ hq.2 e2
 generalize zX_ s p2 0 32=q at*
 obtain⟨q1,q2,q3⟩:=q
 simp only at e2 hd2 ht h ⊢
 subst e2
 have hd3:=Xt_ ht.2 h
 unfold entB
 simp only
 rw[QY_ hb,List.append_assoc,List.append_assoc,←hd3,←hd2]
 exact hd
theorem ags_ (l:List EntL) (x:EntL):k4_ (l++ [x])=k4_ l++entB x:=by unfold k4_;simp
theorem Q5_ {s:List UInt8}: ∀ (n a:Nat) (e:Int) (l:List EntL),a≤s.length→(e=0→s=k4_ l++s.drop a)→((kL_ s n a e l).2.2=0→s=k4_ (kL_ s n a e l).1++s.drop (kL_ s n a e l).2.1)
 |0,_,_,_,_,h=>h
 |n+1,a,e,l,ha,h=>by
  by_cases hc:e=0∧a<s.length
  ·rw[Xy_ hc]
   refine Q5_ n _ _ _ (aec_ ha).2 fun h0=> ?_
   obtain⟨rfl,-⟩:=hc
   rw[ags_,List.append_assoc,←age_ ha h0]
   exact h rfl
  ·rw[QD_ hc]
   exact h
theorem Xx_ {s:List UInt8} {a:Nat} {e:Int} (h:vF_ s a e=0):e=0∧s.length≤a:=by
 unfold vF_ at h
 split at h
 ·rename_i he;exact absurd h he
 ·rename_i he
  split at h
  ·exact absurd h (by decide)
  ·exact⟨Decidable.byContradiction he,by omega⟩
theorem adN_ {s:List UInt8} (h:vF_ s (j1_ s).2.1 (j1_ s).2.2=0):k4_ (j1_ s).1=s:=by
 obtain⟨h1,h2⟩:=Xx_ h
 have:=Q5_ (s:=s) (s.length+1) 0 0 [] (Nat.zero_le _) (fun _=>by simp[k4_]) h1
 rw[show kL_ s (s.length+1) 0 0 []=j1_ s from rfl,List.drop_eq_nil_of_le h2,List.append_nil] at this
 exact this.symm
theorem XX_ {s:List UInt8}: ∀ (n a:Nat) (e:Int) (l:List EntL),a≤s.length→(e=0→s.length<a+n)→(kL_ s n a e l).2.2=0→s.length≤ (kL_ s n a e l).2.1
 |0,a,e,l,ha,hf,h=>by have:=hf h;show s.length≤a;omega
 |n+1,a,e,l,ha,hf,h=>by
  by_cases hc:e=0∧a<s.length
  ·rw[Xy_ hc] at h ⊢
   refine XX_ n _ _ _ (aec_ ha).2 (fun h0=> ?_) h
   obtain⟨rfl,-⟩:=hc
   have:=ahT_ ha h0
   have:=hf rfl
   omega
  ·rw[QD_ hc] at h ⊢
   have h':e=0:=h
   exact Decidable.byContradiction fun hn=>hc ⟨h',by have hn': ¬s.length≤a:=hn;omega⟩
theorem aba_ (s:List UInt8): (vF_ s (j1_ s).2.1 (j1_ s).2.2=0)↔(j1_ s).2.2=0:=by
 refine⟨fun h=>(Xx_ h).1,fun h=> ?_⟩
 have:=XX_ (s:=s) (s.length+1) 0 0 [] (Nat.zero_le _) (fun _=>by omega) h
 have h2:s.length≤ (j1_ s).2.1:=this
 unfold vF_
 rw[if_neg (by simp[h]),if_neg (by omega)]
theorem aij_ (l:List IdL) (x:IdL):idsB (l++ [x])=idsB l++x.l:=by unfold idsB;simp
theorem XG_ {s:List UInt8} {a:Nat} (ha:a≤s.length): ∀n,(qy_ s a 0 n).2.2=0→s.drop a=idsB (qy_ s a 0 n).1++s.drop (qy_ s a 0 n).2.1
 |0,_=>by simp[qy_,idsB]
 |n+1,h=>by
  unfold qy_ at h ⊢
  simp only at h ⊢
  have e1: (qy_ s a 0 n).2.2=0:=Decidable.byContradiction fun hn=>by rw[aiH_ hn] at h;exact hn h
  have ih:=XG_ ha n e1
  have hl:=JY_ (e:=0) ha n
  generalize qy_ s a 0 n=p at*
  obtain⟨p1,p2,p3⟩:=p
  simp only at e1 ih hl h ⊢
  subst e1
  rw[aij_,List.append_assoc,←Xt_ hl h]
  exact ih
theorem ake_ {s:List UInt8} {a:Nat} {e:Int} (he:e≠0): ∀n,(qy_ s a e n).2=(a,e)
 |0=>rfl
 |n+1=>by
  have ih:=ake_ (s:=s) (a:=a) he n
  unfold qy_
  simp only
  rw[ih,aiH_ he]
theorem agz_ {s:List UInt8} (h:vF_ s (Zq_ s).2.1 (Zq_ s).2.2=0):comB (Zq_ s).1=s:=by
 obtain⟨h1,h2⟩:=Xx_ h
 have ip:=abu_ (s:=s) (a:=0) (e:=0) (Nat.zero_le _)
 have np:=jh_ (e:=(idR s 0 0).2.2) (most:=4) ip.2
 unfold Zq_ at h1 h2 ⊢
 simp only at h1 h2 ⊢
 have e3: (Xd_ s).2.2=0:=Decidable.byContradiction fun hn=>by unfold comT at h1;rw[W9_ hn] at h1;exact hn h1
 have e2: (comN s).2.2=0:=Decidable.byContradiction fun hn=>by unfold Xd_ at e3;rw[ake_ hn] at e3;exact hn e3
 have e1: (idR s 0 0).2.2=0:=Decidable.byContradiction fun hn=>by unfold comN at e2;rw[aki_ hn] at e2;exact hn e2
 have d1:=Xt_ (Nat.zero_le _) e1
 rw[e1] at np
 have hcN:comN s=zD_ s (idR s 0 0).2.1 0 4:=by unfold comN;rw[e1]
 rw[hcN] at e2
 obtain⟨n,hn,hb,-,d2⟩:=QI_ e2
 have hcP:Xd_ s=qy_ s (comN s).2.1 0 n:=by unfold Xd_;rw[hcN,e2,hn,Int.toNat_natCast]
 have hp: (comN s).2.1≤s.length:=by rw[hcN];exact np.2
 rw[hcP] at e3
 have d3:=XG_ hp n e3
 have hpl: (Xd_ s).1.length=n:=by rw[hcP,Xu_]
 have hcT:comT s=zX_ s (Xd_ s).2.1 0 64:=by unfold comT;rw[hcP,e3]
 have hle: (Xd_ s).2.1≤s.length:=by rw[hcP];exact JY_ hp n
 rw[hcT] at h1
 obtain⟨-,d4⟩:=Kc_ hle h1
 rw[←hcT] at d4
 rw[←hcP] at d3
 rw[←hcN] at d2
 unfold comB ada_
 simp only
 rw[hpl,QY_ hb]
 rw[List.drop_eq_nil_of_le h2,List.append_nil] at d4
 rw[List.append_assoc,List.append_assoc,←d4,←d3,←d2,←d1]
 rfl
theorem VT_ (k:Int) (t:List UInt8):RdOk k t=ko_ k t:=by
 unfold RdOk ko_
 by_cases h4:4096<t.length
 ·rw[if_neg (by omega),if_pos h4]
 ·rw[if_neg h4]
  by_cases h2:k=2
  ·subst h2
   rw[if_pos (by omega),if_neg (by decide),if_pos rfl,if_pos rfl]
   unfold acO_
   by_cases hz:vF_ t (j1_ t).2.1 (j1_ t).2.2=0
   ·have:=adN_ hz
    have h1:=(aba_ t).1 hz
    rw[hz]
    cases ho:vm_ (j1_ t).1
    ·rw[if_neg (fun h=>by cases h.2.1)];rfl
    ·rw[if_pos ⟨h1,rfl,this⟩];rfl
   ·have h': ¬ (j1_ t).2.2=0:=fun h=>hz ((aba_ t).2 h)
    simp[hz,h']
  ·by_cases h3:k=3
   ·subst h3
    rw[if_pos (by omega),if_neg (by decide),if_neg (by decide),if_neg (by decide),if_pos rfl]
    unfold adM_
    by_cases hz:vF_ t (Zq_ t).2.1 (Zq_ t).2.2=0
    ·have:=agz_ hz
     cases ho:ZI_ (Zq_ t).1<;>simp[hz,this]
    ·simp[hz]
   ·rw[if_neg h2,if_neg h3]
    by_cases h1:k=1
    ·subst h1
     rw[if_pos (by omega)];rfl
    ·rw[if_neg (by omega)]
     simp[h1,h2]
def aqV_ (l:List EntL):Prop:= ∀x,x∈l→0≤x.kind∧x.kind≤2∧x.name.length≤32
end Go.Proofs
end
section
open Go Go.Proofs Go.Sx Go.StP
namespace Go.Proofs
set_option maxRecDepth 10000
set_option maxHeartbeats 400000
set_option linter.unusedSimpArgs false
def idxT (s:List UInt8):List UInt8→Int
 | []=>0
 |c::_=>Lib.indexByte s c
abbrev letL:List UInt8:= [32,98,116,99]
def frR (s:List UInt8):List UInt8×Nat×Int:=jo_ s 0 0 1
def frT (s:List UInt8):List UInt8×Nat×Int:=zX_ s (frR s).2.1 (frR s).2.2 4096
def frK (s:List UInt8):Int:=idxT letL (frR s).1
def Wt_ (s:List UInt8):Bool:=vF_ s (frT s).2.1 (frT s).2.2==0&&RdOk (frK s) (frT s).1
def atc_ (s:List UInt8) (v:Value):Prop:=v= .tuple #[obV (if Wt_ s then frK s else 0) (if Wt_ s then(frT s).1 else []),vi (if Wt_ s then 0 else 2)]
set_option linter.defProp false
def ath_:=And.intro (And.intro (And.intro (@q6_) (@qt_)) (And.intro (@qq_) (@qC_))) (And.intro (And.intro (@Sx.tup2_0) (@Sx.tup2_1)) (And.intro (@zg_) (@zf_)))
end Go.Proofs
end
section
open Go Go.Proofs Go.Sx Go.StP
namespace Go.Proofs
set_option maxRecDepth 10000
set_option maxHeartbeats 400000
set_option linter.unusedSimpArgs false
def fkC (c:UInt8):Int:=if c=98 then 1 else if c=116 then 2 else if c=99 then 3 else 0
def lfT (r:List UInt8):List UInt8×Nat×Int:=zX_ r 0 0 4096
def lfK (s:List UInt8):Int:=match s with| []=>0|c::_=>fkC c
def lfOk (s:List UInt8):Bool:=lfK s !=0&&vF_ (s.drop 1) (lfT (s.drop 1)).2.1 (lfT (s.drop 1)).2.2==0&&ko_ (lfK s) (lfT (s.drop 1)).1
def anK_ (s:List UInt8) (v:Value):Prop:=v= .tuple #[obV (if lfOk s then lfK s else 0) (if lfOk s then(lfT (s.drop 1)).1 else []), .bool (lfOk s)]
theorem aku_ (k k':Int) (t:List UInt8) (a:Bool) (E:TypeId):zn_ (some (a,1)) (some (.cells #[vi k',vs t] E (0,0))) 0 (vi k)=some (.cells #[vi k,vs t] E (0,0)):=(rfl)
theorem akp_ (k:Int) (t t':List UInt8) (a:Bool) (E:TypeId):zn_ (some (a,1)) (some (.cells #[vi k,vs t'] E (0,0))) 1 (vs t)=some (.cells #[vi k,vs t] E (0,0)):=(rfl)
set_option linter.defProp false
def qw_:=And.intro (And.intro (And.intro (@q6_) (@qt_)) (And.intro (@qq_) (And.intro (@qC_) (@aku_)))) (And.intro (And.intro (@akp_) (@Sx.tup2_0)) (And.intro (@Sx.tup2_1) (And.intro (@zg_) (@zf_))))
theorem Wb_ (s:List UInt8) (w:World) (hs:s.length<1099511627776):Rets Tryz.prog 106 #[vs s] w (fun v D=>anK_ s v∧D= []):=by
 refine Rets.enterV Tryz.func106 rfl (rs:= [.cell 2 82, .tmp 3]) Tryz.results106 Tryz.ntmps106 ?_
 refine kf ?_
 first|with_reducible refine ks [1000004] @qw_ ?_|refine kp @qw_ ?_
 refine Ow.alloc rfl rfl zrOb fun b2 hb2 hw2=> ?_
 simp only[zj_,List.nil_append,List.cons_append]
 refine ko @qw_ ?_
 by_cases hl:s.length=0
 ·obtain rfl:s= []:=List.eq_nil_of_length_eq_zero hl
  have d1: (((([]:List UInt8).length:Nat):Int)==0)=true:=rfl
  first|with_reducible refine ks [] (And.intro @qw_ @d1) ?_|refine kp (And.intro @qw_ @d1) ?_
  refine Ow.build (obV 0 []) rfl wO_ ?_
  refine ko @qw_ ?_
  first|with_reducible refine ks [] @qw_ ?_|refine kp @qw_ ?_
  refine⟨_,(ke @qw_),⟨hw2,trivial⟩, ?_⟩
  rfl
 ·have d1: ((s.length:Int)==0)=false:=beq_eq_false_iff_ne.2 (by omega)
  obtain⟨c,r,rfl⟩: ∃c r,s=c::r:=by cases s with|nil=>exact absurd rfl hl|cons c r=>exact⟨c,r,rfl⟩
  have hd1: (c::r).drop 1=r:=rfl
  have g0: (c::r).getD 0 0=c:=rfl
  have hlen: (c::r).length=r.length+1:=rfl
  have hrl:r.length<1099511627775:=by omega
  first|with_reducible refine ks [] (And.intro @qw_ @d1) ?_|refine kp (And.intro @qw_ @d1) ?_
  refine Ow.build (obV 0 []) rfl wO_ ?_
  refine ko @qw_ ?_
  refine Ow.alloc rfl rfl zrOb fun b4 hb4 hw4=> ?_
  simp only[zj_,List.nil_append,List.cons_append]
  have h24:b2<b4:=zv_ hb4 (by simp[keys])
  have ht:=vO_ (s:=r) (a:=0) (e:=0) (most:=4096) (Nat.zero_le _)
  have hLT:lfT r=zX_ r 0 0 4096:=rfl
  have hO:lfOk (c::r)=(fkC c !=0&&vF_ r (lfT r).2.1 (lfT r).2.2==0&&ko_ (fkC c) (lfT r).1):=rfl
  have hK:lfK (c::r)=fkC c:=rfl
  unfold anK_
  rw[hK,hd1]
  have htx: (zX_ r 0 0 4096).1.length≤r.length:=Xh_ _ _ _ _
  have hf0:fkC c=0∨fkC c=1∨fkC c=2∨fkC c=3:=by
   unfold fkC;split<;>(try split)<;>(try split)<;>simp
  refine ko @qw_ ?_
  first|with_reducible refine ks [1000004] (And.intro @qw_ @g0) ?_|refine kp (And.intro @qw_ @g0) ?_
  refine Cw.cut (G:=Int) 40 (fun g=> [(0,vs (c::r)),(2,vp b2 0),(3, .bool false),(4,vp b4 0)]) (fun g=> [(b2,Obj.cells #[vi 0,vs []] 82 (0,0)),(b4,Obj.cells #[vi g,vs []] 82 (0,0))]) (fun g=>g=fkC c∧g≠0) ?_ ?_
  ·by_cases c1:c=98
   ·subst c1
    first|with_reducible refine ks [] (And.intro @qw_ @g0) ?_|refine kp (And.intro @qw_ @g0) ?_
    exact CutM.mk 1 ⟨rfl,by decide⟩ rfl rfl
   ·have e1: (c==98)=false:=by simpa using c1
    by_cases c2:c=116
    ·subst c2
     first|with_reducible refine ks [] (And.intro @qw_ (And.intro @e1 (@g0))) ?_|refine kp (And.intro @qw_ (And.intro @e1 (@g0))) ?_
     exact CutM.mk 2 ⟨rfl,by decide⟩ rfl rfl
    ·have e2: (c==116)=false:=by simpa using c2
     by_cases c3:c=99
     ·subst c3
      first|with_reducible refine ks [] (And.intro @qw_ (And.intro @e1 (And.intro @e2 (@g0)))) ?_|refine kp (And.intro @qw_ (And.intro @e1 (And.intro @e2 (@g0)))) ?_
      exact CutM.mk 3 ⟨rfl,by decide⟩ rfl rfl
     ·have e3: (c==99)=false:=by simpa using c3
      have hk:fkC c=0:=by unfold fkC;rw[if_neg c1,if_neg c2,if_neg c3]
      rw[hk] at hO ⊢
      rw[hO]
      first|with_reducible refine ks [] (And.intro @qw_ (And.intro @e1 (And.intro @e2 (And.intro @e3 (@g0))))) ?_|refine kp (And.intro @qw_ (And.intro @e1 (And.intro @e2 (And.intro @e3 (@g0))))) ?_
      refine Ow.build (obV 0 []) rfl wO_ ?_
      refine ko @qw_ ?_
      first|with_reducible refine ks [] @qw_ ?_|refine kp @qw_ ?_
      refine⟨_,(ke @qw_),⟨hw2,hw4,trivial⟩, ?_⟩
      rfl
  ·intro g j hg
   simp only[aqN_,aqv_,pin,v7_,v8_,Nat.reduceAdd]
   obtain⟨rfl,hk0⟩:=hg
   have d0: (fkC c !=0)=true:=by simpa using hk0
   rw[d0,Bool.true_and] at hO
   generalize fkC c=k at hO ⊢
   first|with_reducible refine ks [] (And.intro @qw_ @hd1) ?_|refine kp (And.intro @qw_ @hd1) ?_
   refine Ow.build (.agg #[vs r,vi 0,vi 0]) rfl (aia_ r) ?_
   refine ko @qw_ ?_
   refine Ow.box rfl rfl fun br hbr hwr=> ?_
   have h2r:b2<br:=zv_ hbr (by simp[keys])
   have h4r:b4<br:=zv_ hbr (by simp[keys])
   simp only[qv_,qu_,qA_,zj_,List.nil_append,List.cons_append]
   refine ko @qw_ ?_
   refine Ow.callM rfl rfl Tryz.call144 (by simp[keys]) (fun w' hw'=>kS_ br r 0 0 4096 w' (Nat.zero_le _) (by omega) (hw'.has _ _ (by simp))) ?_
   rw[←hLT] at ht htx ⊢
   generalize lfT r=q at*
   obtain⟨tt,a2,e2⟩:=q
   simp only at hO ht htx ⊢
   refine kn ?_
   refine ko @qw_ ?_
   refine Ow.callFV rfl Tryz.call145 (fun w' hw'=>Jo_ br r a2 e2 w' (hw'.has _ _ (by simp))) ?_
   by_cases he:vF_ r a2 e2=0
   ·have d5: (vF_ r a2 e2 !=0)=false:=by simp[he]
    have d6: (vF_ r a2 e2==0)=true:=by simp[he]
    rw[d6,Bool.true_and] at hO
    rw[hO]
    refine ko (And.intro @qw_ @d5) ?_
    refine Ow.callFV rfl Tryz.call54 (fun w' hw'=>Xr_ k tt w') ?_
    cases hr:ko_ k tt
    ·refine ko @qw_ ?_
     refine Ow.build (obV 0 []) rfl wO_ ?_
     refine ko @qw_ ?_
     first|with_reducible refine ks [] @qw_ ?_|refine kp @qw_ ?_
     refine⟨_,(ke @qw_),⟨hw2,hw4,hwr,trivial⟩, ?_⟩
     rfl
    ·refine ko @qw_ ?_
     first|with_reducible refine ks [] @qw_ ?_|refine kp @qw_ ?_
     refine⟨_,(ke @qw_),⟨hw2,hw4,hwr,trivial⟩, ?_⟩
     rfl
   ·have d5: (vF_ r a2 e2 !=0)=true:=by simpa using he
    have d6: (vF_ r a2 e2==0)=false:=by simpa using he
    rw[d6,Bool.false_and] at hO
    rw[hO]
    refine ko (And.intro @qw_ @d5) ?_
    refine Ow.build (obV 0 []) rfl wO_ ?_
    refine ko @qw_ ?_
    first|with_reducible refine ks [] @qw_ ?_|refine kp @qw_ ?_
    refine⟨_,(ke @qw_),⟨hw2,hw4,hwr,trivial⟩, ?_⟩
    rfl
end Go.Proofs
end
namespace Go.Flo
open Go Ieee
abbrev F (n:Int):Nat:=FloatKind.f64.nearest n
def dat (n:Int):Datum:= .number (decide (n<0)) (n.natAbs*2^ (52 - n.natAbs.log2)) ((n.natAbs.log2:Int) - 52)
theorem anD_ {a:Nat} (h:a<8192):a.log2<13∨a=0:=by
 by_cases h0:a=0
 ·exact .inr h0
 ·exact .inl ((Nat.log2_lt h0).2 h)
theorem dec0:FloatKind.f64.decode (F 0)= .number false 0 (-1074):=by kernel_rfl
theorem al7_ (neg:Bool) (n:Nat):Toward.even.cut neg n 0=n:=by
 simp[Toward.cut,Nat.mod_one]
theorem dec {n:Int} (h0:n≠0) (h:n.natAbs<8192):FloatKind.f64.decode (F n)=dat n:=by
 have ha:n.natAbs≠0:=by omega
 generalize hm:n.natAbs=a at*
 have hl:a.log2<13:=(Nat.log2_lt ha).2 h
 have hlo:2^a.log2≤a:=Nat.log2_self_le ha
 have hhi:a<2^ (a.log2+1):=Nat.lt_log2_self
 generalize hk:a.log2=k at*
 have hp:2^ (52 - k)*2^k=2^52:=by rw[←Nat.pow_add];congr 1;omega
 have hp1:2^ (k+1)=2*2^k:=by rw[Nat.pow_succ];omega
 have e1:2^52≤a*2^ (52 - k):=by
  rw[←hp,Nat.mul_comm];exact Nat.mul_le_mul_right _ hlo
 have e2:a*2^ (52 - k)<2*2^52:=by
  have h1:=Nat.mul_lt_mul_of_pos_right hhi (show 0<2^ (52 - k) from Nat.pow_pos (by omega))
  rw[hp1,Nat.mul_assoc,Nat.mul_comm (2^k),hp] at h1
  exact h1
 have hw:F n=Ieee.double.word (decide (n<0)) ((k+1022)*2^52+a*2^ (52 - k)):=by
  show Ieee.double.nearest (decide (n<0)) n.natAbs 0=_
  rw[hm]
  unfold Format.nearest
  rw[if_neg ha,hk]
  have hlast:max ((0:Int)+ (k:Int) - (Ieee.double.fractionBits:Int)) Ieee.double.leastPlace=(k:Int) - 52:=by
   have e3:Ieee.double.leastPlace= -1074:=by decide
   have e4: (Ieee.double.fractionBits:Int)=52:=rfl
   rw[e3,e4];omega
  rw[hlast]
  have e5: ((k:Int) - 52 - 0).toNat=0:=by omega
  have e6: ((0:Int) - ((k:Int) - 52)).toNat=52 - k:=by omega
  simp only[e5,e6,al7_,Nat.shiftLeft_eq]
  have e7: ((k:Int) - 52 - Ieee.double.leastPlace).toNat=k+1022:=by
   have e3:Ieee.double.leastPlace= -1074:=by decide
   rw[e3];omega
  have e8:Ieee.double.binade=2^52:=rfl
  have e9:Ieee.double.infRung=2047*2^52:=rfl
  rw[e7,e8,e9,Nat.min_eq_left (by omega)]
 show Ieee.double.read (F n)=_
 rw[hw]
 generalize hX:a*2^ (52 - k)=X at*
 have e8:Ieee.double.binade=2^52:=rfl
 have e9:Ieee.double.infRung=2047*2^52:=rfl
 have e10:Ieee.double.signWeight=2^63:=rfl
 have e3:Ieee.double.leastPlace= -1074:=by decide
 have hneg: (Ieee.double.word (decide (n<0)) ((k+1022)*2^52+X) / 2^63%2==1)=decide (n<0)∧Ieee.double.word (decide (n<0)) ((k+1022)*2^52+X)%2^63=(k+1022)*2^52+X:=by
  unfold Format.word
  rw[e10]
  by_cases hn:n<0
  ·rw[decide_eq_true hn,if_pos rfl]
   refine⟨?_,by omega⟩
   rw[beq_iff_eq];omega
  ·rw[decide_eq_false hn,if_neg (by simp)]
   refine⟨?_,by omega⟩
   rw[beq_eq_false_iff_ne];omega
 unfold Format.read
 simp only[e10,hneg.1,hneg.2,e8,e9,e3]
 rw[if_neg (by omega),if_pos (by omega)]
 unfold dat
 rw[hm,hk,hX]
 congr 1
 ·omega
 ·omega
theorem sgn (n:Int) (u:Nat):signed (decide (n<0)) (n.natAbs*2^u) 0=n*2^u:=by
 unfold signed
 rw[Nat.shiftLeft_eq,Nat.pow_zero,Nat.mul_one]
 by_cases h:n<0
 ·rw[decide_eq_true h,if_pos rfl]
  rw[Int.natCast_mul,←Int.neg_mul]
  congr 1
  ·omega
 ·rw[decide_eq_false h,if_neg (by simp),Int.natCast_mul]
  congr 1
  omega
def plc (n:Int):Int:=if n=0 then -1074 else(n.natAbs.log2:Int) - 52
def mag (n:Int):Nat:=if n=0 then 0 else n.natAbs*2^ (52 - n.natAbs.log2)
theorem decA {n:Int} (h:n.natAbs<8192):FloatKind.f64.decode (F n)= .number (decide (n<0)) (mag n) (plc n):=by
 by_cases h0:n=0
 ·subst h0;rw[dec0];rfl
 ·rw[dec h0 h];unfold dat mag plc;rw[if_neg h0,if_neg h0]
theorem sgnU {n base:Int} (h:n.natAbs<8192) (hb:base≤plc n):signed (decide (n<0)) (mag n) (plc n - base).toNat=n*2^ (-base).toNat:=by
 by_cases h0:n=0
 ·subst h0;simp[signed,mag]
 ·have hl:n.natAbs.log2<13:=by rcases anD_ h with h1|h1;exact h1;omega
  have hu:52 - n.natAbs.log2+ (plc n - base).toNat=(-base).toNat:=by
   unfold plc at hb ⊢
   rw[if_neg h0] at hb ⊢
   omega
  have e:signed (decide (n<0)) (mag n) (plc n - base).toNat=signed (decide (n<0)) (n.natAbs*2^ (-base).toNat) 0:=by
   unfold signed mag
   rw[if_neg h0,←hu,Nat.pow_add]
   simp only[Nat.shiftLeft_eq,Nat.pow_zero,Nat.mul_one,Nat.mul_assoc]
  rw[e,sgn]
theorem anP_ {a b k:Int} (hk:0<k):compare (a*k) (b*k)=compare a b:=by
 simp only[compare,compareOfLessAndEq]
 have h1:a*k<b*k↔a<b:=Int.mul_lt_mul_right hk
 have h2:a*k=b*k↔a=b:=Int.mul_eq_mul_right_iff (by omega)
 simp only[h1,h2]
theorem ord {a b:Int} (ha:a.natAbs<8192) (hb:b.natAbs<8192):FloatKind.f64.format.order (F a) (F b)=some (compare a b):=by
 have h1:FloatKind.f64.format.read (F a)=_:=decA ha
 have h2:FloatKind.f64.format.read (F b)=_:=decA hb
 unfold Format.order
 rw[h1,h2]
 unfold Datum.order
 simp only
 have p1:min (plc a) (plc b)≤plc a:=Int.min_le_left ..
 have p2:min (plc a) (plc b)≤plc b:=Int.min_le_right ..
 rw[sgnU ha p1,sgnU hb p2,anP_]
 exact Int.pow_pos (by omega)
theorem intF {a:Int} (h:a.natAbs<8192): (FloatKind.f64.decode (F a)).toInt .zero=some a:=by
 rw[decA h]
 by_cases h0:a=0
 ·subst h0;rfl
 ·have hl:a.natAbs.log2<13:=by rcases anD_ h with h1|h1;exact h1;omega
  unfold Datum.toInt Datum.integral
  simp only
  have hp:plc a=(a.natAbs.log2:Int) - 52:=by unfold plc;rw[if_neg h0]
  have hm:mag a=a.natAbs*2^ (52 - a.natAbs.log2):=by unfold mag;rw[if_neg h0]
  rw[hp,hm]
  have e1: ((a.natAbs.log2:Int) - 52).toNat=0:=by omega
  have e2: (-((a.natAbs.log2:Int) - 52)).toNat=52 - a.natAbs.log2:=by omega
  rw[e1,e2,Nat.shiftLeft_zero]
  have hlog: (a.natAbs*2^ (52 - a.natAbs.log2)).log2+2≥52 - a.natAbs.log2:=by
   have:2^ (52 - a.natAbs.log2)≤a.natAbs*2^ (52 - a.natAbs.log2):=Nat.le_mul_of_pos_left _ (by omega)
   have h3:=(Nat.le_log2 (n:=a.natAbs*2^ (52 - a.natAbs.log2)) (k:=52 - a.natAbs.log2) (by have:=Nat.pow_pos (a:=2) (n:=52 - a.natAbs.log2) (by omega);omega)).2 this
   omega
  unfold Toward.cut
  simp only
  rw[Nat.min_eq_left hlog,Nat.shiftLeft_eq,Nat.one_mul,Nat.mul_div_cancel _ (Nat.pow_pos (by omega))]
  have:=sgn a 0
  rw[Nat.pow_zero,Nat.mul_one] at this
  simp only[Bool.toNat_false,Nat.add_zero]
  rw[this];simp
end Go.Flo
namespace Go.Sx
open Go Go.Flo
def fl (n:Int):Value:= .float .f64 (F n)
def cx (a b:Int):Value:= .complex .f64 (F a) (F b)
section
variable {P:Program} {w0:World} {f:Fr} {L:zc_} {N:Fr→zc_→Prop} {ops:Array Oper} {rest:List Oper} {md:Md}
 {d:Option Tmp} {ty:TypeId} {ps:String} {af:Array Edge} {g:Option (Nat×Bool)}
theorem Ow.convIF {s dt:TypeId} {x:Operand} {n:Int} {md':Md} (he:md.turn=some md') (hsk:zu_ ops f ⟨d, .convert s dt x,ty,ps,af,g⟩=false)
  (hcv:cvT P s dt= .no) (hs:P.underlying s=some (.int .i64)) (hd:P.underlying dt=some (.float .f64)) (hx:ev f x=vi n)
  (hn:Ow P w0 ops md' rest (qJ_ f d (fl n)) L N):Ow P w0 ops md (⟨d, .convert s dt x,ty,ps,af,g⟩::rest) f L N:=by
 refine Ow.step he (by simp[xR_,hcv]) hsk fun w hw=> .inl ⟨fl n,w,L, ?_,hw,hn⟩
 have hc: (convert s dt (vi n)).run P w= .ok (fl n) w:=by
  unfold convert
  simp only[vi,Sem.run_bind,run_underlying hs w,run_underlying hd w,Result.andThen_ok]
  rfl
 simp only[execOp,Sem.run_bind,hx,hc]
 rfl
theorem Ow.convFI {s dt:TypeId} {x:Operand} {n:Int} {md':Md} (he:md.turn=some md') (hsk:zu_ ops f ⟨d, .convert s dt x,ty,ps,af,g⟩=false)
  (hcv:cvT P s dt= .no) (hs:P.underlying s=some (.float .f64)) (hd:P.underlying dt=some (.int .i64)) (hx:ev f x=fl n) (hn8:n.natAbs<8192)
  (hn:Ow P w0 ops md' rest (qJ_ f d (vi n)) L N):Ow P w0 ops md (⟨d, .convert s dt x,ty,ps,af,g⟩::rest) f L N:=by
 refine Ow.step he (by simp[xR_,hcv]) hsk fun w hw=> .inl ⟨vi n,w,L, ?_,hw,hn⟩
 have hc: (convert s dt (fl n)).run P w= .ok (vi n) w:=by
  unfold convert
  simp only[fl,Sem.run_bind,run_underlying hs w,run_underlying hd w,Result.andThen_ok]
  show(Conv.floatToInt .f64 (F n) .i64).run P w=_
  unfold Conv.floatToInt
  simp only[intF hn8]
  have e1:IntKind.i64.min= -9223372036854775808:=rfl
  have e2:IntKind.i64.max=9223372036854775807:=rfl
  rw[if_pos (by rw[e1,e2];omega)]
  rfl
 simp only[execOp,Sem.run_bind,hx,hc]
 rfl
theorem apx_ (a b:Int): (some (compare a b)==some Ordering.lt||some (compare a b)==some Ordering.eq)=decide (a≤b):=by
 simp only[compare,compareOfLessAndEq]
 by_cases h1:a<b
 ·rw[if_pos h1,decide_eq_true (by omega)];rfl
 ·by_cases h2:a=b
  ·rw[if_neg h1,if_pos h2,decide_eq_true (by omega)];rfl
  ·rw[if_neg h1,if_neg h2,decide_eq_false (by omega)];rfl
theorem ao3_ (a b:Int): (some (compare a b)==some Ordering.gt||some (compare a b)==some Ordering.eq)=decide (b≤a):=by
 simp only[compare,compareOfLessAndEq]
 by_cases h1:a<b
 ·rw[if_pos h1,decide_eq_false (by omega)];rfl
 ·by_cases h2:a=b
  ·rw[if_neg h1,if_pos h2,decide_eq_true (by omega)];rfl
  ·rw[if_neg h1,if_neg h2,decide_eq_true (by omega)];rfl
theorem anW_ (a b:Int): (some (compare a b)==some Ordering.eq)=(a==b):=by
 simp only[compare,compareOfLessAndEq]
 by_cases h1:a<b
 ·have: (a==b)=false:=by rw[beq_eq_false_iff_ne];omega
  rw[if_pos h1,this];rfl
 ·by_cases h2:a=b
  ·rw[if_neg h1,if_pos h2,h2];simp
  ·have: (a==b)=false:=by rw[beq_eq_false_iff_ne];exact h2
   rw[if_neg h1,if_neg h2,this];rfl
theorem Ow.fleq {t t':TypeId} {x y:Operand} {a b:Int} (hs:zu_ ops f ⟨d, .binOp .leq t x y t',ty,ps,af,g⟩=false) (hx:ev f x=fl a) (hy:ev f y=fl b) (ha:a.natAbs<8192) (hb:b.natAbs<8192)
  (hn:Ow P w0 ops md.next rest (qJ_ f d (.bool (decide (a≤b)))) L N):Ow P w0 ops md (⟨d, .binOp .leq t x y t',ty,ps,af,g⟩::rest) f L N:=by
 refine Ow.pureV rfl hs (fun w=> ?_) hn
 simp only[execOp,Sem.run_bind,hx,hy]
 have hg: (eqGuard .leq t x y (fl a) (fl b)).run P w= .ok () w:=rfl
 have hc: (binOp .leq t (fl a) (fl b)).run P w= .ok (.bool (decide (a≤b))) w:=by
  show Result.ok (Value.bool (FloatKind.f64.format.order (F a) (F b)==some .lt||FloatKind.f64.format.order (F a) (F b)==some .eq)) w=_
  rw[ord ha hb,apx_]
 rw[hg,Result.andThen_ok,hc]
 rfl
theorem Ow.fgeq {t t':TypeId} {x y:Operand} {a b:Int} (hs:zu_ ops f ⟨d, .binOp .geq t x y t',ty,ps,af,g⟩=false) (hx:ev f x=fl a) (hy:ev f y=fl b) (ha:a.natAbs<8192) (hb:b.natAbs<8192)
  (hn:Ow P w0 ops md.next rest (qJ_ f d (.bool (decide (b≤a)))) L N):Ow P w0 ops md (⟨d, .binOp .geq t x y t',ty,ps,af,g⟩::rest) f L N:=by
 refine Ow.pureV rfl hs (fun w=> ?_) hn
 simp only[execOp,Sem.run_bind,hx,hy]
 have hg: (eqGuard .geq t x y (fl a) (fl b)).run P w= .ok () w:=rfl
 have hc: (binOp .geq t (fl a) (fl b)).run P w= .ok (.bool (decide (b≤a))) w:=by
  show Result.ok (Value.bool (FloatKind.f64.format.order (F a) (F b)==some .gt||FloatKind.f64.format.order (F a) (F b)==some .eq)) w=_
  rw[ord ha hb,ao3_]
 rw[hg,Result.andThen_ok,hc]
 rfl
theorem Ow.feql {t t':TypeId} {x y:Operand} {a b:Int} (hs:zu_ ops f ⟨d, .binOp .eql t x y t',ty,ps,af,g⟩=false) (hx:ev f x=fl a) (hy:ev f y=fl b) (ha:a.natAbs<8192) (hb:b.natAbs<8192)
  (hn:Ow P w0 ops md.next rest (qJ_ f d (.bool (a==b))) L N):Ow P w0 ops md (⟨d, .binOp .eql t x y t',ty,ps,af,g⟩::rest) f L N:=by
 refine Ow.pureV rfl hs (fun w=> ?_) hn
 simp only[execOp,Sem.run_bind,hx,hy]
 have hg: (eqGuard .eql t x y (fl a) (fl b)).run P w= .ok () w:=rfl
 have hc: (binOp .eql t (fl a) (fl b)).run P w= .ok (.bool (a==b)) w:=by
  show Result.ok (Value.bool (FloatKind.f64.format.order (F a) (F b)==some .eq)) w=_
  rw[ord ha hb,anW_]
 rw[hg,Result.andThen_ok,hc]
 rfl
theorem Ow.real {x:Operand} {ts:Array TypeId} {a b:Int} (hs:zu_ ops f ⟨d, .call ⟨.builtin .real, #[x],ts⟩,ty,ps,af,g⟩=false) (hx:ev f x=cx a b)
  (hn:Ow P w0 ops md.next rest (qJ_ f d (fl a)) L N):Ow P w0 ops md (⟨d, .call ⟨.builtin .real, #[x],ts⟩,ty,ps,af,g⟩::rest) f L N:=by
 refine Ow.calm rfl rfl hs (fun w hw=> .inl ⟨fl a,w,L, ?_,hw,rfl,rfl⟩) hn
 simp only[execOp,resolve,Sem.run_bind,Sem.run_pure,Result.andThen_ok,invoke,builtin,List.map_toArray,List.map_cons,List.map_nil,hx]
 rfl
theorem Ow.imag {x:Operand} {ts:Array TypeId} {a b:Int} (hs:zu_ ops f ⟨d, .call ⟨.builtin .imag, #[x],ts⟩,ty,ps,af,g⟩=false) (hx:ev f x=cx a b)
  (hn:Ow P w0 ops md.next rest (qJ_ f d (fl b)) L N):Ow P w0 ops md (⟨d, .call ⟨.builtin .imag, #[x],ts⟩,ty,ps,af,g⟩::rest) f L N:=by
 refine Ow.calm rfl rfl hs (fun w hw=> .inl ⟨fl b,w,L, ?_,hw,rfl,rfl⟩) hn
 simp only[execOp,resolve,Sem.run_bind,Sem.run_pure,Result.andThen_ok,invoke,builtin,List.map_toArray,List.map_cons,List.map_nil,hx]
 rfl
theorem Ow.complexB {x y:Operand} {ts:Array TypeId} {a b:Int} (hs:zu_ ops f ⟨d, .call ⟨.builtin .complex, #[x,y],ts⟩,ty,ps,af,g⟩=false) (hx:ev f x=fl a) (hy:ev f y=fl b)
  (hn:Ow P w0 ops md.next rest (qJ_ f d (cx a b)) L N):Ow P w0 ops md (⟨d, .call ⟨.builtin .complex, #[x,y],ts⟩,ty,ps,af,g⟩::rest) f L N:=by
 refine Ow.calm rfl rfl hs (fun w hw=> .inl ⟨cx a b,w,L, ?_,hw,rfl,rfl⟩) hn
 simp only[execOp,resolve,Sem.run_bind,Sem.run_pure,Result.andThen_ok,invoke,builtin,List.map_toArray,List.map_cons,List.map_nil,hx,hy]
 rfl
end
end Go.Sx
namespace Go.Sx
open Go Go.Flo
theorem ack_ (P:Program) (t:TypeId) (a b:Int):qE_ P .eql t (fl a) (fl b)=none:=by
 show(qd_ (P.underlying t) (fl a) (fl b)).map _=none
 unfold qd_ fl
 split<;>simp_all
theorem KB_ (P:Program) (t:TypeId) (a b a' b':Int):qE_ P .eql t (cx a b) (cx a' b')=none:=by
 show(qd_ (P.underlying t) (cx a b) (cx a' b')).map _=none
 unfold qd_ cx
 split<;>simp_all
section
variable {P:Program} {w0:World} {st:Bool} {f:Fr} {L:zc_} {md:Md} {d:Option Tmp} {ty:TypeId} {ps:String} {af:Array Edge} {g:Option (Nat×Bool)} {go:Fr→zc_→Prop} {stop:Prop}
theorem aag_ (a:Array Operand) (t:Array TypeId):vcB P w0 st md ⟨d, .call ⟨.builtin .real,a,t⟩,ty,ps,af,g⟩ f L go stop=stop:=(rfl)
theorem WG_ (a:Array Operand) (t:Array TypeId):vcB P w0 st md ⟨d, .call ⟨.builtin .imag,a,t⟩,ty,ps,af,g⟩ f L go stop=stop:=(rfl)
theorem km_ (a:Array Operand) (t:Array TypeId):vcB P w0 st md ⟨d, .call ⟨.builtin .complex,a,t⟩,ty,ps,af,g⟩ f L go stop=stop:=(rfl)
end
end Go.Sx
section
open Go Go.Proofs Go.Sx Go.StP Go.Flo
namespace Go.Proofs
set_option maxRecDepth 10000
set_option maxHeartbeats 400000
set_option linter.unusedSimpArgs false
structure PcL where
 a:Nat
 n:Nat
 x:List UInt8
def pc0:PcL:=⟨0,0,[]⟩
def pcC (p:PcL):List Value:= [cx p.a p.n,vs p.x]
def PcB (p:PcL):Prop:=p.a≤4099∧p.n≤4099
theorem ZC_ (p:PcL): (pcC p).length=2:=rfl
theorem ajX_ (p:PcL): (pcC p).all Value.oneCell'=true:=rfl
def cpV (p:PcL) (b:Int):Option (Nat×Nat):=if 1≤p.n∧p.n≤4099∧p.x= []∧(p.a:Int)≤b - p.n then some (p.a,p.n) else none
def jZ_ (p:PcL) (b:Int):Nat:=if p.a=0∧p.n=0∧p.x.length≤4099 then p.x.length else match cpV p b with|some q=>q.2|none=>0
theorem ae6_ (p:PcL) (b:Int):jZ_ p b≤4099:=by
 unfold jZ_
 split
 ·rename_i h;exact h.2.2
 ·unfold cpV
  split
  ·rename_i q h
   split at h
   ·rename_i hc;cases h;exact hc.2.1
   ·cases h
  ·omega
def wD_ (b:Int) (l:List PcL):Nat:=(l.map fun p=>jZ_ p b).sum
theorem akJ_ (b:Int) (l:List PcL) (p:PcL):wD_ b (l++ [p])=wD_ b l+jZ_ p b:=by
 unfold wD_;rw[List.map_append,List.sum_append];simp
theorem alQ_ (b:Int) (l m:List PcL):wD_ b (l++m)=wD_ b l+wD_ b m:=by
 unfold wD_;rw[List.map_append,List.sum_append]
def anyZ (b:Int) (l:List PcL):Bool:=l.any fun p=>jZ_ p b==0
def chkV (b:Int) (l:List PcL):Int×Int:=if b<0∨4099<b then(0,1) else if anyZ b l=true then(0,1) else if 4099<wD_ b l then(0,19) else((wD_ b l:Nat),0)
theorem aiN_ (b:Int): ∀ (l:List PcL),anyZ b l=false→l.length≤wD_ b l
 | [],_=>Nat.zero_le _
 |p::l,h=>by
  unfold anyZ at h
  rw[List.any_cons,Bool.or_eq_false_iff] at h
  have h1:=aiN_ b l h.2
  have h2:jZ_ p b≠0:=by simpa using h.1
  unfold wD_ at h1 ⊢
  rw[List.map_cons,List.sum_cons,List.length_cons]
  omega
theorem adO_ {b m:Int} {l:List PcL} (h:chkV b l=(m,0)):0≤b∧b≤4099∧anyZ b l=false∧wD_ b l≤4099∧m=(wD_ b l:Nat)∧l.length≤4099:=by
 unfold chkV at h
 split at h
 ·cases h
 ·rename_i hb
  split at h
  ·cases h
  ·rename_i hz
   split at h
   ·cases h
   ·rename_i hs
    have hz':anyZ b l=false:=by simpa using hz
    have:=aiN_ b l hz'
    cases h
    exact⟨by omega,by omega,hz',by omega,rfl,by omega⟩
def pcT (base:List UInt8) (p:PcL):List UInt8:=match cpV p base.length with|some q=>(base.drop q.1).take q.2++p.x|none=>p.x
def txtP (base:List UInt8) (l:List PcL):List UInt8:=(l.map (pcT base)).flatten
def pcR (d:List UInt8) (a:Nat):PcL×Nat×Int:=
 if(zD_ d a 0 8199).1%2=1 then
  (⟨(zD_ d (zD_ d a 0 8199).2.1 (zD_ d a 0 8199).2.2 4099).1.toNat,((zD_ d a 0 8199).1 / 2).toNat,[]⟩,(zD_ d (zD_ d a 0 8199).2.1 (zD_ d a 0 8199).2.2 4099).2)
 else(⟨0,0,(jo_ d (zD_ d a 0 8199).2.1 (zD_ d a 0 8199).2.2 ((zD_ d a 0 8199).1 / 2)).1⟩,(jo_ d (zD_ d a 0 8199).2.1 (zD_ d a 0 8199).2.2 ((zD_ d a 0 8199).1 / 2)).2)
theorem ajo_ {d:List UInt8} {a:Nat} (ha:a≤d.length):a≤ (pcR d a).2.1∧(pcR d a).2.1≤d.length:=by
 have h1:=jh_ (s:=d) (a:=a) (e:=0) (most:=8199) ha
 unfold pcR
 split
 ·have h2:=jh_ (s:=d) (a:=(zD_ d a 0 8199).2.1) (e:=(zD_ d a 0 8199).2.2) (most:=4099) h1.2
  exact⟨Nat.le_trans h1.1 h2.1,h2.2⟩
 ·have h2:=WD_ (s:=d) (a:=(zD_ d a 0 8199).2.1) (e:=(zD_ d a 0 8199).2.2) (n:=(zD_ d a 0 8199).1 / 2) h1.2
  exact⟨Nat.le_trans h1.1 h2.1,h2.2⟩
theorem aiu_ {d:List UInt8} {a:Nat} (ha:a≤d.length) (h: (pcR d a).2.2=0):a< (pcR d a).2.1:=by
 have h1:=jh_ (s:=d) (a:=a) (e:=0) (most:=8199) ha
 have hz: (zD_ d a 0 8199).2.2=0:=by
  by_cases he: (zD_ d a 0 8199).2.2=0
  ·exact he
  ·unfold pcR at h
   split at h
   ·have:=aki_ (s:=d) (a:=(zD_ d a 0 8199).2.1) (most:=4099) he
    simp only[this] at h
    exact absurd h he
   ·have:=afG_ (s:=d) (a:=(zD_ d a 0 8199).2.1) (n:=(zD_ d a 0 8199).1 / 2) he
    simp only[this] at h
    exact absurd h he
 have hup:=ajh_ hz
 unfold pcR
 split
 ·have h2:=jh_ (s:=d) (a:=(zD_ d a 0 8199).2.1) (e:=(zD_ d a 0 8199).2.2) (most:=4099) h1.2
  exact Nat.lt_of_lt_of_le hup h2.1
 ·have h2:=WD_ (s:=d) (a:=(zD_ d a 0 8199).2.1) (e:=(zD_ d a 0 8199).2.2) (n:=(zD_ d a 0 8199).1 / 2) h1.2
  exact Nat.lt_of_lt_of_le hup h2.1
def pcsF (d:List UInt8):Nat→Nat→List PcL×Nat×Int
 |0,a=>([],a,0)
 |k+1,a=>if a<d.length then(if(pcR d a).2.2=0 then((pcR d a).1:: (pcsF d k (pcR d a).2.1).1,(pcsF d k (pcR d a).2.1).2) else([(pcR d a).1],(pcR d a).2)) else([],a,0)
theorem ach_ {d:List UInt8}: ∀ (k j a:Nat),a≤d.length→d.length - a≤k→d.length - a≤j→pcsF d k a=pcsF d j a
 |0,j,a,ha,hk,_=>by
  have: ¬a<d.length:=by omega
  cases j with
  |zero=>rfl
  |succ j=>unfold pcsF;rw[if_neg this]
 |k+1,0,a,ha,_,hj=>by
  have: ¬a<d.length:=by omega
  unfold pcsF;rw[if_neg this]
 |k+1,j+1,a,ha,hk,hj=>by
  unfold pcsF
  by_cases h:a<d.length
  ·rw[if_pos h,if_pos h]
   by_cases he: (pcR d a).2.2=0
   ·have hu:=aiu_ ha he
    have hl:=ajo_ ha
    rw[if_pos he,if_pos he,ach_ k j (pcR d a).2.1 hl.2 (by omega) (by omega)]
   ·rw[if_neg he,if_neg he]
  ·rw[if_neg h,if_neg h]
def pcs (d:List UInt8) (a:Nat):List PcL×Nat×Int:=pcsF d (d.length - a) a
theorem apI_ {d:List UInt8} {a:Nat} (h: ¬a<d.length):pcs d a=([],a,0):=by
 unfold pcs
 rw[show d.length - a=0 by omega];rfl
theorem aqA_ {d:List UInt8} {a:Nat} (h:a<d.length) (he: (pcR d a).2.2=0):pcs d a=((pcR d a).1:: (pcs d (pcR d a).2.1).1,(pcs d (pcR d a).2.1).2):=by
 have hu:=aiu_ (Nat.le_of_lt h) he
 have hl:=ajo_ (Nat.le_of_lt h)
 unfold pcs
 obtain⟨k,hk⟩: ∃k,d.length - a=k+1:=⟨d.length - a - 1,by omega⟩
 rw[hk]
 conv=>lhs;unfold pcsF
 rw[if_pos h,if_pos he,ach_ k (d.length - (pcR d a).2.1) (pcR d a).2.1 hl.2 (by omega) (Nat.le_refl _)]
theorem aok_ {d:List UInt8} {a:Nat} (h:a<d.length) (he: (pcR d a).2.2≠0):pcs d a=([(pcR d a).1],(pcR d a).2):=by
 unfold pcs
 obtain⟨k,hk⟩: ∃k,d.length - a=k+1:=⟨d.length - a - 1,by omega⟩
 rw[hk]
 unfold pcsF
 rw[if_pos h,if_neg he]
def Z3_ (d:List UInt8):Option (Nat×List PcL):=
 if(zD_ d (zD_ d 0 0 4099).2.1 (zD_ d 0 0 4099).2.2 4099).2.2≠0 then none
 else if(pcs d (zD_ d (zD_ d 0 0 4099).2.1 (zD_ d 0 0 4099).2.2 4099).2.1).2.2≠0 then none
 else if chkV (zD_ d 0 0 4099).1 (pcs d (zD_ d (zD_ d 0 0 4099).2.1 (zD_ d 0 0 4099).2.2 4099).2.1).1=((zD_ d (zD_ d 0 0 4099).2.1 (zD_ d 0 0 4099).2.2 4099).1,0) then some ((zD_ d 0 0 4099).1.toNat,(pcs d (zD_ d (zD_ d 0 0 4099).2.1 (zD_ d 0 0 4099).2.2 4099).2.1).1)
 else none
def xL_ (base d:List UInt8):List UInt8×Int:=
 match Z3_ d with
 |none=>([],2)
 |some p=>if p.1≠base.length then([],19) else(txtP base p.2,0)
end Go.Proofs
end
section
open Go Go.Proofs Go.Sx Go.StP Go.Flo
namespace Go.Proofs
set_option maxRecDepth 10000
set_option maxHeartbeats 400000
set_option linter.unusedSimpArgs false
theorem cvIF:cvT Tryz.prog 3 312= .no:=id (by kernel_rfl)
theorem cvFI:cvT Tryz.prog 312 3= .no:=id (by kernel_rfl)
set_option linter.defProp false
def aur_:=And.intro (@zg_) (And.intro (@zf_) (@ack_))
theorem xC_ (p:PcL) (E:TypeId) (n:Nat):zk_ (some (false,n)) (some (.cells (pcC p).toArray E (0,0))) 0=some (cx p.a p.n):=(rfl)
theorem xA_ (p:PcL) (E:TypeId) (n:Nat):zk_ (some (false,n)) (some (.cells (pcC p).toArray E (0,0))) 1=some (vs p.x):=(rfl)
theorem k5_ (p:PcL) (E:TypeId):zk_ (some (true,2)) (some (.cells (pcC p).toArray E (0,0))) 0=some (.agg (pcC p).toArray):=jP_ _ E (0,0) 2 rfl
theorem xg_ (p:PcL):Value.cells (.agg (pcC p).toArray)=(pcC p).toArray:=zj_ _
theorem zrPc:zL_ Tryz.prog 311=some (.agg (pcC pc0).toArray):=id (by kernel_rfl)
theorem alz_ (p q:PcL) (E:TypeId):zn_ (some (true,2)) (some (.cells (pcC q).toArray E (0,0))) 0 (.agg (pcC p).toArray)=some (.cells (pcC p).toArray E (0,0)):=by
 have:=q4_ (pcC p) (n:=2) true (pcC q).toArray E rfl (ajX_ p) rfl
 exact this
def cpO (p:PcL) (b:Int):Value:=match cpV p b with
 |some q=> .tuple #[vi q.1,vi q.2, .bool true]
 |none=> .tuple #[vi 0,vi 0, .bool false]
theorem cxz: (Value.complex FloatKind.f64 0 0)=cx 0 0:=id (by kernel_rfl)
set_option linter.defProp false
def auY_:=And.intro (And.intro (And.intro (And.intro (@zg_) (@zf_)) (And.intro (@xC_) (@xA_))) (And.intro (And.intro (@k5_) (@xg_)) (And.intro (@KB_) (@cxz)))) (And.intro (And.intro (And.intro (@aag_) (@WG_)) (And.intro (@km_) (@Sx.tup2_0))) (And.intro (And.intro (@Sx.tup2_1) (@Sx.tup3_0)) (And.intro (@Sx.tup3_1) (@Sx.tup3_2))))
abbrev PcSl (w:World) (v:Value) (l:List PcL):Prop:=SlV 2 pcC pc0 w v l
def BndP (l:List PcL):Prop:= ∀g,g<l.length→PcB (l.getD g pc0)∧(l.getD g pc0).x.length<9223372036854775808
theorem aii_ {b:Int} {l:List PcL} {g:Nat} (h:g<l.length):wD_ b (l.take (g+1))=wD_ b (l.take g)+jZ_ (l.getD g pc0) b:=by
 rw[take_snoc (z:=pc0) h,akJ_]
theorem aiC_ {b:Int} {l:List PcL} {g:Nat} (h:g<l.length):anyZ b (l.take (g+1))=(anyZ b (l.take g) ||jZ_ (l.getD g pc0) b==0):=by
 rw[take_snoc (z:=pc0) h];unfold anyZ;rw[List.any_append];simp
theorem Wr_ {b:Int} {l:List PcL} {g:Nat} (h:g<l.length) (hz:jZ_ (l.getD g pc0) b=0):anyZ b l=true:=by
 unfold anyZ
 rw[List.any_eq_true]
 exact⟨_,xp_ (z:=pc0) h,by rw[beq_iff_eq];exact hz⟩
end Go.Proofs
end
section
open Go Go.Proofs Go.Sx Go.StP Go.Flo
namespace Go.Proofs
set_option maxRecDepth 10000
set_option maxHeartbeats 400000
set_option linter.unusedSimpArgs false
def pcAt (p:PcL) (b:Int):Nat×Nat:=match cpV p b with|some q=>q|none=>(0,0)
theorem anU_ (p:PcL) (base:List UInt8): (pcAt p base.length).1+ (pcAt p base.length).2≤base.length:=by
 unfold pcAt cpV
 split
 ·rename_i q h
  split at h
  ·rename_i hc;cases h;simp only;omega
  ·cases h
 ·simp
theorem apo_ (base:List UInt8) (p:PcL) (h:jZ_ p base.length≠0): (pcT base p).length=jZ_ p base.length:=by
 have hle:=anU_ p base
 unfold jZ_ at h ⊢
 unfold pcT
 unfold pcAt at hle
 split at h
 ·rename_i hc
  rw[if_pos hc]
  have hn:cpV p base.length=none:=by unfold cpV;rw[if_neg (by omega)]
  rw[hn]
 ·rename_i hc
  rw[if_neg hc]
  cases hq:cpV p base.length with
  |none=>rw[hq] at h;exact absurd rfl h
  |some q=>
   rw[hq] at hle
   simp only at hle ⊢
   have hx:p.x= []:=by
    unfold cpV at hq
    split at hq
    ·rename_i h2;exact h2.2.2.1
    ·cases hq
   rw[hx,List.append_nil,List.length_take,List.length_drop]
   omega
theorem ahQ_ {base:List UInt8} {l:List PcL} {g:Nat} (h:g<l.length):txtP base (l.take (g+1))=txtP base (l.take g)++pcT base (l.getD g pc0):=by
 rw[take_snoc (z:=pc0) h];unfold txtP;simp
theorem aaf_ {base:List UInt8}: ∀ {l:List PcL},anyZ base.length l=false→(txtP base l).length=wD_ base.length l
 | [],_=>rfl
 |p::l,h=>by
  unfold anyZ at h
  rw[List.any_cons,Bool.or_eq_false_iff] at h
  have h1:=aaf_ (base:=base) (l:=l) h.2
  have h2:=apo_ base p (by simpa using h.1)
  unfold txtP wD_ at h1 ⊢
  rw[List.map_cons,List.flatten_cons,List.length_append,List.map_cons,List.sum_cons,h1,h2]
theorem Jq_ {b:Int} {l:List PcL} {g:Nat}:wD_ b (l.take g)≤wD_ b l:=by
 have:=alQ_ b (l.take g) (l.drop g)
 rw[List.take_append_drop] at this
 omega
theorem ape_ {b:Int} {l:List PcL} {g:Nat} (h:anyZ b l=false):anyZ b (l.take g)=false:=by
 unfold anyZ at h ⊢
 rw[List.any_eq_false] at h ⊢
 exact fun x hx=>h x (List.mem_of_mem_take hx)
structure TxG where
 g:Nat
 D:zc_
 E:zc_
set_option linter.defProp false
def auH_:=And.intro (And.intro (And.intro (@zg_) (@zf_)) (And.intro (@xC_) (And.intro (@xA_) (@k5_)))) (And.intro (And.intro (@xg_) (And.intro (@Sx.tup2_0) (@Sx.tup2_1))) (And.intro (@Sx.tup3_0) (And.intro (@Sx.tup3_1) (@Sx.tup3_2))))
end Go.Proofs
end
namespace Go.Sx
open Go
section
variable {α:Type} {m:Nat} {enc:α→List Value} {z:α}
end
section
variable {P:Program} {w0:World} {f:Fr} {L:zc_} {N:Fr→zc_→Prop} {ops:Array Oper} {rest:List Oper} {md:Md} {d:Option Tmp} {ty:TypeId} {ps:String} {af:Array Edge} {g:Option (Nat×Bool)}
theorem Ow.makeSlice {t e:TypeId} {m:Bool×Nat} {z:Value} {x y:Operand} {n c:Nat} {md':Md} (he:md.turn=some md') (hs:zu_ ops f ⟨d, .makeSlice t x y,ty,ps,af,g⟩=false)
  (hu:P.underlying t=some (.slice e)) (hm:zT_ P e=some m) (hi:k1_ P e=true) (hz:zL_ P e=some z) (hx:ev f x=vi n) (hy:ev f y=vi c) (hnc:n≤c) (hbig:c≤2^38)
  (hn: ∀b,jI_ L b→w0.heap.size≤b→Ow P w0 ops md' rest (qJ_ f d (vsl b 0 n c)) (L++ [(b, .cells (madeCells z.cells (c*m.2)) e (0,0))]) N):
  Ow P w0 ops md (⟨d, .makeSlice t x y,ty,ps,af,g⟩::rest) f L N:=by
 refine Ow.step he rfl hs fun w hw=> .inl ⟨vsl w.heap.size 0 n c,w.alloc (.cells (madeCells z.cells (c*m.2)) e (0,0)),_, ?_,hw.alloc _,hn _ (z6_ fun b hb=>hw.lt hb) hw.size⟩
 obtain⟨i,hie,-,hb⟩:=wM_ hi hbig
 have hiz:i.zero=some z:=by
  unfold zL_ at hz
  rw[hie] at hz
  exact hz
 have him:i.size=m.2:=by
  unfold zT_ at hm
  rw[hie] at hm
  split at hm
  ·rename_i h1 h2
   cases h2
   cases hm
   rfl
  ·cases hm
 have hbb: (i.bytes:Int)* (c:Int)≤281474976710656:=by
  have: ((i.bytes*c:Nat):Int)≤281474976710656:=by rw[Nat.mul_comm];exact Int.ofNat_le.2 hb
  rwa [Int.natCast_mul] at this
 have hr:=run_make (P:=P) w t e i z hu hie hiz .i64 .i64 (n:Int) (c:Int) (by omega) (by omega) hbb (by omega)
 simp only[Int.toNat_natCast,him] at hr
 show(execOp (ev f) _).run P w=_
 simp only[execOp,Sem.run_bind]
 rw[hx,hy]
 show((Instr.makeSlice t (.int .i64 (n:Int)) (.int .i64 (c:Int))).run P w).andThen _=_
 rw[hr]
 rfl
theorem Ow.appendXG {ts tx e:TypeId} {m:Bool×Nat} {z:Value} {s x:Operand} {n k:Nat} {cs new:List Value} {dx:TypeDesc} {md':Md} {X Y:zc_} (sv:Value) (hL:L=X++Y) (hsv:ev f s=sv) (he:md.turn=some md')
  (hs:zu_ ops f ⟨d, .call ⟨.builtin .append, #[s,x], #[ts,tx]⟩,ty,ps,af,g⟩=false)
  (hu:P.underlying ts=some (.slice e)) (hm:zT_ P e=some m) (hi:k1_ P e=true) (hz:zL_ P e=some z) (hzs:z.cells.size=m.2) (hux:P.underlying tx=some dx) (hnx: ∀k,dx≠ .int k)
  (hB:Gr X e m.2 sv n cs) (hX: ∀w,Hp w0 L w→AppX P w m.2 (ev f x) k new) (hbig:2* (n+k)+768≤2^38)
  (hn: ∀B v' D,jI_ L B→w0.heap.size≤B→Gr D e m.2 v' (n+k) (cs++new)→(∀c,c∈keys X→c∈keys D)→(∀c,c∈keys D→c∈keys X∨B≤c)→(∀c o,slB sv≠some c→look X c=some o→look D c=some o)→Ow P w0 ops md' rest (qJ_ f d v') (D++Y) N):
  Ow P w0 ops md (⟨d, .call ⟨.builtin .append, #[s,x], #[ts,tx]⟩,ty,ps,af,g⟩::rest) f L N:=by
 subst hL
 refine Ow.step he rfl hs fun w hw=> ?_
 have hp:=hw.part
 have hA:jI_ (X++Y) w.heap.size:=z6_ fun b hb=>hw.lt hb
 have fin: ∀v' w' D,(Builtin.append_ #[ts,tx] ty #[sv,ev f x]).run P w= .ok v' w'→Hp w D w'→Gr D e m.2 v' (n+k) (cs++new)→(∀c,c∈keys X→c∈keys D)→(∀c,c∈keys D→c∈keys X∨w.heap.size≤c)→(∀c o,slB sv≠some c→look X c=some o→look D c=some o)→
   (∃v w' L',(execOp (ev f) ⟨d, .call ⟨.builtin .append, #[s,x], #[ts,tx]⟩,ty,ps,af,g⟩).run P w= .ok (.value v) w'∧Hp w0 L' w'∧Ow P w0 ops md' rest (qJ_ f d v) L' N):=by
  intro v' w' D hr hD hb h1 h2 h3
  refine⟨v',w',D++Y, ?_,hw.join hD h1 h2,hn w.heap.size v' D hA hw.size hb h1 h2 h3⟩
  simp only[execOp,resolve,Sem.run_bind,Sem.run_pure,Result.andThen_ok,invoke,builtin,List.map_toArray,List.map_cons,List.map_nil,hsv]
  rw[hr]
  rfl
 rcases hB with hB| ⟨rfl,rfl,b,rfl,hlk⟩
 ·obtain⟨v',w',D,hr,hD,hb,hg,-⟩:=QN_ (w0:=w) (L:=X) (ty:=ty) (x:=ev f x) hp hu hm hi hz hzs hux hnx hB (fun w2 hw2=>hX w2 (by
   refine hw.join hw2 (fun c hc=>hc) (fun c hc=> .inl hc))) hbig
  exact .inl (fin v' w' D hr hD (.inl hb) hg.keys (fun c hc=>(hg.new c hc).imp id And.right) hg.look)
 ·rcases wC_ (w0:=w) (L:=X) (ty:=ty) (b:=b) (x:=ev f x) hp hu hm hi hz hzs hux hnx (fun w2 hw2=>hX w2 (by
   refine hw.join hw2 (fun c hc=>hc) (fun c hc=> .inl hc))) hbig with⟨h0,hr⟩ | ⟨-,v',w',D,hr,hD,hb,hg,-⟩
  ·subst h0
   have hnw:=(hX w hw).size
   obtain rfl:new= []:=List.eq_nil_of_length_eq_zero (by rw[hnw,Nat.zero_mul])
   exact .inl (fin _ w X hr hp (.inr ⟨rfl,rfl,b,rfl,hlk⟩) (fun c hc=>hc) (fun c hc=> .inl hc) (fun c o _ hl=>hl))
  ·exact .inl (fin v' w' D hr hD (.inl hb) hg.keys (fun c hc=>(hg.new c hc).imp id And.right) (fun c o _ hl=>hg.look c o (by simp[slB]) hl))
end
theorem New.perm {n:Nat} {D D':zc_} (h:New n D) (hp:D.Perm D'):New n D':=New.of_le fun c hc=>h.le c ((hp.map Prod.fst).mem_iff.2 hc)
end Go.Sx
section
open Go Go.Proofs Go.Sx Go.StP Go.Flo
namespace Go.Proofs
set_option maxRecDepth 10000
set_option maxHeartbeats 400000
set_option linter.unusedSimpArgs false
def dB (d:List UInt8):Int×Nat×Int:=zD_ d 0 0 4099
def dM (d:List UInt8):Int×Nat×Int:=zD_ d (dB d).2.1 (dB d).2.2 4099
theorem acf_ (d:List UInt8):Z3_ d=if(dM d).2.2≠0 then none else if(pcs d (dM d).2.1).2.2≠0 then none else if chkV (dB d).1 (pcs d (dM d).2.1).1=((dM d).1,0) then some ((dB d).1.toNat,(pcs d (dM d).2.1).1) else none:=rfl
structure EG where
 lab:Nat
 br:Nat
 a:Nat
 e:Int
 out:List PcL
 v:Value
 D:zc_
def drO (d:List UInt8) (a e:Int):Obj:= .cells #[vs d,vi a,vi e] 250 (0,0)
def EJ (d:List UInt8) (n:Nat) (g:EG):Prop:=
 (g.lab=1∧n≤g.br∧New n g.D∧g.br∉keys g.D∧Gr g.D 311 2 g.v g.out.length (g.out.map pcC).flatten∧g.a≤d.length∧BndP g.out∧g.out.length≤4099∧
  ((g.e≠0∧Z3_ d=none)∨(g.e=0∧(dM d).2.2=0∧pcs d (dM d).2.1=(g.out++ (pcs d g.a).1,(pcs d g.a).2))))∨
 (g.lab=0∧n≤g.br∧New n g.D∧g.br∉keys g.D∧Gr g.D 311 2 g.v g.out.length (g.out.map pcC).flatten∧BndP g.out∧g.out.length≤4099∧(dM d).2.2=0∧pcs d (dM d).2.1=(g.out,d.length,0))∨
 (g.lab=2∧New n g.D∧Z3_ d=none)
def EH (d:List UInt8) (g:EG):zc_:=match g.lab with
 |1=>(g.br,drO d g.a g.e)::g.D
 |0=>(g.br,drO d g.a g.e)::g.D
 |_=>g.D
def ES (d:List UInt8) (g:EG):List (Nat×Value):=match g.lab with
 |1=> [(5,vp g.br 0),(6,vi (dB d).1),(7,vi (dM d).1),(8,g.v)]
 |0=> [(6,vi (dB d).1),(7,vi (dM d).1),(8,g.v)]
 |_=> []
def EL (g:EG):Nat:=match g.lab with
 |1=>1
 |0=>0
 |_=>2
def as7_ (d:List UInt8) (v:Value) (D:zc_):Prop:=match Z3_ d with
 |some p=> ∃x,v= .tuple #[vi p.1,x,vi 0]∧BndP p.2∧p.2.length≤4099∧p.1≤4099∧GrI D 311 2 x p.2.length (p.2.map pcC).flatten
 |none=>v= .tuple #[vi 0, .slice none 0 0,vi 2]
def pcE (d:List UInt8) (a:Nat) (e:Int):PcL×Nat×Int:=
 if(zD_ d a e 8199).1%2=1 then
  (⟨(zD_ d (zD_ d a e 8199).2.1 (zD_ d a e 8199).2.2 4099).1.toNat,((zD_ d a e 8199).1 / 2).toNat,[]⟩,(zD_ d (zD_ d a e 8199).2.1 (zD_ d a e 8199).2.2 4099).2)
 else(⟨0,0,(jo_ d (zD_ d a e 8199).2.1 (zD_ d a e 8199).2.2 ((zD_ d a e 8199).1 / 2)).1⟩,(jo_ d (zD_ d a e 8199).2.1 (zD_ d a e 8199).2.2 ((zD_ d a e 8199).1 / 2)).2)
theorem aom_ (p:PcL):XV_ Tryz.prog 297 1 [(0, .agg (pcC p).toArray)]=some (311,(pcC p).toArray):=
 zV_ Tryz.underlying297 (id (by kernel_rfl)) zrPc (by decide) (ZC_ p)
set_option linter.defProp false
def at0_:=And.intro (And.intro (And.intro (@zg_) (And.intro (@zf_) (@xC_))) (And.intro (@xA_) (And.intro (@k5_) (@xg_)))) (And.intro (And.intro (@Sx.tup2_0) (And.intro (@Sx.tup2_1) (@Sx.tup3_0))) (And.intro (@Sx.tup3_1) (And.intro (@Sx.tup3_2) (@km_))))
end Go.Proofs
end
section
open Go Go.Proofs Go.Sx Go.StP Go.Flo
namespace Go.Proofs
set_option maxRecDepth 10000
set_option maxHeartbeats 400000
set_option linter.unusedSimpArgs false
theorem Wh_ {d:List UInt8} {p:Nat×List PcL} (h:Z3_ d=some p): ∃m,chkV (p.1:Nat) p.2=(m,0):=by
 rw[acf_] at h
 split at h
 ·cases h
 ·split at h
  ·cases h
  ·split at h
   ·rename_i hc
    cases h
    have hb0:=jB_ (s:=d) (a:=0) (e:=0) (most:=4099) (by omega)
    change 0≤ (dB d).1∧(dB d).1≤4099 at hb0
    refine⟨(dM d).1, ?_⟩
    rw[show(((dB d).1.toNat:Nat):Int)=(dB d).1 by omega]
    exact hc
   ·cases h
set_option linter.defProp false
def auS_:=And.intro (And.intro (And.intro (@zg_) (@zf_)) (And.intro (@xC_) (And.intro (@xA_) (@k5_)))) (And.intro (And.intro (@xg_) (And.intro (@Sx.tup2_0) (@Sx.tup2_1))) (And.intro (@Sx.tup3_0) (And.intro (@Sx.tup3_1) (@Sx.tup3_2))))
end Go.Proofs
end
section
open Go Go.Proofs Go.Sx Go.StP Go.Flo
namespace Go.Proofs
set_option maxRecDepth 10000
set_option maxHeartbeats 400000
set_option linter.unusedSimpArgs false
structure PartL where
 d:Bool
 b:Int
 x:List UInt8
def j0_:PartL:=⟨false,0,[]⟩
def z3_ (p:PartL):List Value:= [.bool p.d,vi p.b,vs p.x]
theorem X6_ (p:PartL): (z3_ p).length=3:=rfl
theorem abc_ (p:PartL): (z3_ p).all Value.oneCell'=true:=rfl
def xK_ (l:List PartL):Nat→Nat→Except Int (List Nat)
 |0,_=> .error 11
 |k+1,at_=>
  if(l.getD at_ j0_).d=true then
   (if(l.getD at_ j0_).b<0∨(at_:Int)≤ (l.getD at_ j0_).b then .error 2
   else if k=0 then .error 11
   else(xK_ l k (l.getD at_ j0_).b.toNat).map (at_:: ·))
  else if(l.getD at_ j0_).b≠0 then .error 2 else .ok [at_]
def k8_ (l:List PartL) (at_:Int):Except Int (List Nat):=
 if 200<l.length∨at_<0∨(l.length:Int)≤at_ then .error 1 else xK_ l 5 at_.toNat
def kq_ (p:PartL) (base:List UInt8):List UInt8×Int:=if p.d=true then xL_ base p.x else if 4099<p.x.length then([],19) else(p.x,0)
def vY_ (l:List PartL):List Nat→Except Int (List UInt8)
 | []=> .ok []
 |a::p=>(vY_ l p).bind fun s=>if(kq_ (l.getD a j0_) s).2=0 then .ok (kq_ (l.getD a j0_) s).1 else .error (kq_ (l.getD a j0_) s).2
def partV (l:List PartL) (at_:Int):Except Int (List UInt8):=(k8_ l at_).bind (vY_ l)
def aqz_ (l:List PartL):Nat→Except Int (List (List UInt8))
 |0=> .ok []
 |k+1=>(aqz_ l k).bind fun ts=>(partV l (k:Nat)).map fun s=>ts++ [s]
def allV (l:List PartL):Except Int (List (List UInt8)):=if 200<l.length then .error 1 else aqz_ l l.length
end Go.Proofs
end
section
open Go Go.Proofs Go.Sx Go.StP Go.Flo
namespace Go.Proofs
set_option maxRecDepth 10000
set_option maxHeartbeats 400000
set_option linter.unusedSimpArgs false
def natC (n:Nat):List Value:= [vi n]
theorem afO_ (n:Nat): (natC n).length=1:=rfl
abbrev anL_ (w:World) (v:Value) (l:List PartL):Prop:=SlV 3 z3_ j0_ w v l
theorem jw_ (p:PartL) (E:TypeId) (n:Nat):zk_ (some (false,n)) (some (.cells (z3_ p).toArray E (0,0))) 0=some (.bool p.d):=(rfl)
theorem js_ (p:PartL) (E:TypeId) (n:Nat):zk_ (some (false,n)) (some (.cells (z3_ p).toArray E (0,0))) 1=some (vi p.b):=(rfl)
theorem jt_ (p:PartL) (E:TypeId) (n:Nat):zk_ (some (false,n)) (some (.cells (z3_ p).toArray E (0,0))) 2=some (vs p.x):=(rfl)
theorem qO_ (p:PartL):Value.cells (.agg (z3_ p).toArray)=(z3_ p).toArray:=zj_ _
theorem aa5_:zL_ Tryz.prog 279=some (.agg (z3_ j0_).toArray):=id (by kernel_rfl)
theorem w0_ (p q:PartL) (E:TypeId):zn_ (some (true,3)) (some (.cells (z3_ q).toArray E (0,0))) 0 (.agg (z3_ p).toArray)=some (.cells (z3_ p).toArray E (0,0)):=
 q4_ (z3_ p) (n:=3) true (z3_ q).toArray E rfl (abc_ p) rfl
structure PaG where
 lab:Nat
 at_:Nat
 out:List Nat
 v:Value
 b7:Nat
 q:PartL
 e:Int
 D:zc_
def PaJ (l:List PartL) (a0:Int) (n:Nat) (g:PaG):Prop:=
 (g.lab=1∧n≤g.b7∧New n g.D∧g.b7∉keys g.D∧Gr g.D 3 1 g.v g.out.length (g.out.map natC).flatten∧g.at_<l.length∧l.length≤200∧g.out.length≤4∧
  k8_ l a0=(xK_ l (5 - g.out.length) g.at_).map (g.out++ ·))∨
 (g.lab=0∧New n g.D∧k8_ l a0= .error g.e)
def PaH (g:PaG):zc_:=match g.lab with
 |1=>(g.b7, .cells (z3_ g.q).toArray 279 (0,0))::g.D
 |_=>g.D
def PaS (g:PaG):List (Nat×Value):=match g.lab with
 |1=> [(1,vi g.at_),(6,g.v),(7,vp g.b7 0),(8,vi 1)]
 |_=> [(8,vi g.e)]
def PaL (g:PaG):Nat:=match g.lab with
 |1=>1
 |_=>0
def abo_ (l:List PartL) (a0:Int) (v:Value) (D:zc_):Prop:=match k8_ l a0 with
 | .ok p=> ∃x,v= .tuple #[x,vi 0]∧p.length≤5∧GrI D 3 1 x p.length (p.map natC).flatten
 | .error e=>v= .tuple #[.slice none 0 0,vi e]
set_option linter.defProp false
def at5_:=And.intro (And.intro (And.intro (@zg_) (@zf_)) (And.intro (@jw_) (@js_))) (And.intro (And.intro (@jt_) (@qO_)) (And.intro (@Sx.tup2_0) (@Sx.tup2_1)))
end Go.Proofs
end
section
open Go Go.Proofs Go.Sx Go.StP Go.Flo
namespace Go.Proofs
set_option maxRecDepth 10000
set_option maxHeartbeats 400000
set_option linter.unusedSimpArgs false
theorem V9_ {l:List PartL}: ∀ (k a:Nat) (e:Int),xK_ l k a= .error e→e≠0
 |0,_,e,h=>by cases h;decide
 |k+1,a,e,h=>by
  unfold xK_ at h
  split at h
  ·split at h
   ·cases h;decide
   ·split at h
    ·cases h;decide
    ·cases hp:xK_ l k (l.getD a j0_).b.toNat with
     |error x=>rw[hp] at h;cases h;exact V9_ k _ _ hp
     |ok q=>rw[hp] at h;cases h
  ·split at h
   ·cases h;decide
   ·cases h
theorem aaF_ {l:List PartL} {a:Int} {e:Int} (h:k8_ l a= .error e):e≠0:=by
 unfold k8_ at h
 split at h
 ·cases h;decide
 ·exact V9_ _ _ _ h
theorem abt_ {l:List PartL}: ∀ (k a:Nat) (p:List Nat),a<l.length→xK_ l k a= .ok p→ ∀x,x∈p→x<l.length
 |0,_,_,_,h=>by cases h
 |k+1,a,p,ha,h=>by
  unfold xK_ at h
  split at h
  ·split at h
   ·cases h
   ·rename_i hb
    split at h
    ·cases h
    ·cases hp:xK_ l k (l.getD a j0_).b.toNat with
     |error x=>rw[hp] at h;cases h
     |ok q=>
      rw[hp] at h
      cases h
      intro x hx
      rcases List.mem_cons.1 hx with rfl|hx
      ·exact ha
      ·exact abt_ k _ q (by omega) hp x hx
  ·split at h
   ·cases h
   ·cases h
    intro x hx
    rw[List.mem_singleton] at hx
    omega
theorem ama_ {l:List PartL} {a:Int} {p:List Nat} (h:k8_ l a= .ok p): ∀x,x∈p→x<l.length:=by
 unfold k8_ at h
 split at h
 ·cases h
 ·exact abt_ _ _ _ (by omega) h
theorem QL_ {l:List PartL} {e:Int}: ∀ (p:List Nat) (i:Nat),vY_ l (p.drop i)= .error e→vY_ l p= .error e
 | [],i,h=>by rw[List.drop_nil] at h;exact h
 |a::p,0,h=>h
 |a::p,i+1,h=>by
  have:=QL_ p i h
  unfold vY_
  rw[this];rfl
theorem amy_ {E:TypeId} {rest:List Value} {l:List Nat} (n i:Nat) (hi:i<l.length):zk_ (some (false,n)) (some (j4_ natC E rest l)) i=some (vi (l.getD i 0)):=by
 unfold j4_ zk_
 have e: (l.map natC).flatten=l.map fun n=>vi (n:Nat):=by
  clear hi
  induction l with
  |nil=>rfl
  |cons a l ih=>rw[List.map_cons,List.flatten_cons,List.map_cons,ih];rfl
 simp only[e]
 rw[List.getElem?_toArray,List.getElem?_append_left (by simpa using hi),List.getElem?_map,List.getElem?_eq_getElem hi,List.getD_eq_getElem?_getD,List.getElem?_eq_getElem hi]
 rfl
def BndL (l:List PartL):Prop:= ∀g,g<l.length→(l.getD g j0_).x.length<9223372036854775808
set_option linter.defProp false
def aud_:=And.intro (And.intro (And.intro (@zg_) (@zf_)) (And.intro (@jw_) (@js_))) (And.intro (And.intro (@jt_) (@qO_)) (And.intro (@Sx.tup2_0) (@Sx.tup2_1)))
def ahx_ (r:Except Int (List UInt8)):Value:=match r with
 | .ok s=> .tuple #[vs s,vi 0]
 | .error e=> .tuple #[vs [],vi e]
end Go.Proofs
end
section
open Go Go.Proofs Go.Sx Go.StP Go.Flo
namespace Go.Proofs
set_option maxRecDepth 10000
set_option maxHeartbeats 400000
set_option linter.unusedSimpArgs false
def aqo_:Nat→List (List UInt8)→List (Int×List UInt8)
 |_,[]=> []
 |i,t::ts=>((i:Int),t)::aqo_ (i+1) ts
def tabT (ts:List (List UInt8)):List (Int×List UInt8):=aqo_ 0 ts
abbrev MapT (o:Obj) (ts:List (List UInt8)):Prop:=wY_ vi vs o (tabT ts)
theorem ajR_ (v:Value) (E:TypeId) (n:Nat):zk_ (some (false,n)) (some (.cells #[v] E (0,0))) 0=some v:=(rfl)
set_option linter.defProp false
def auA_:=And.intro (And.intro (And.intro (@zg_) (@zf_)) (And.intro (@ajR_) (@jw_))) (And.intro (And.intro (@js_) (@jt_)) (And.intro (@qO_) (And.intro (@Sx.tup2_0) (@Sx.tup2_1))))
end Go.Proofs
end
section
open Go Go.Proofs Go.Sx Go.StP Go.Flo
namespace Go.Proofs
set_option maxRecDepth 10000
set_option maxHeartbeats 400000
set_option linter.unusedSimpArgs false
theorem abW_ {l:List PartL} {e:Int}: ∀ (p:List Nat),vY_ l p= .error e→e≠0
 | [],h=>by cases h
 |a::p,h=>by
  unfold vY_ at h
  cases hp:vY_ l p with
  |error x=>rw[hp] at h;cases h;exact abW_ p hp
  |ok s=>
   rw[hp] at h
   change(if(kq_ (l.getD a j0_) s).2=0 then _ else _)=_ at h
   split at h
   ·cases h
   ·rename_i hne;cases h;exact hne
theorem akT_ {l:List PartL} {a e:Int} (h:partV l a= .error e):e≠0:=by
 unfold partV at h
 cases hp:k8_ l a with
 |error x=>rw[hp] at h;cases h;exact aaF_ hp
 |ok p=>rw[hp] at h;exact abW_ p h
def strC (s:List UInt8):List Value:= [vs s]
theorem JS_ (s:List UInt8): (strC s).length=1:=rfl
structure AlG where
 ts:List (List UInt8)
 v:Value
 o:Obj
 D:zc_
def AllS (l:List PartL) (v:Value) (D:zc_):Prop:=match allV l with
 | .ok ts=> ∃x,v= .tuple #[x,vi 0]∧GrI D 9 1 x ts.length (ts.map strC).flatten
 | .error e=>v= .tuple #[.slice none 0 0,vi e]
theorem agP_ (b:Nat) (E:TypeId) (x:Value):zn_ (some (false,1)) (some (.cells #[x] E (0,0))) 0 (vm b)=some (.cells #[vm b] E (0,0)):=(rfl)
set_option linter.defProp false
def ava_:=And.intro (And.intro (@zg_) (And.intro (@zf_) (@ajR_))) (And.intro (@agP_) (And.intro (@Sx.tup2_0) (@Sx.tup2_1)))
end Go.Proofs
end
namespace Go.Dig
open Go.Sx
def hexL:List UInt8:= [48,49,50,51,52,53,54,55,56,57,97,98,99,100,101,102]
def Wf_ (b:UInt8):Int:=if 48≤b.toNat∧b.toNat≤57 then(b.toNat:Int) - 48 else if 97≤b.toNat∧b.toNat≤102 then(b.toNat:Int) - 97+10 else -1
def hexD (n:Nat):UInt8:=hexL.getD n 0
def hexB (b:UInt8):List UInt8:= [hexD (b.toNat / 16),hexD (b.toNat%16)]
def hexV (id:List UInt8):List UInt8:=id.flatMap hexB
def asJ_ (id:List UInt8) (g:Nat):List UInt8:=hexV (id.take g)++List.replicate (64 - 2*g) 0
def anC_ (l:List UInt8) (n:Nat):List UInt8:=(List.range n).map fun i=>UInt8.ofInt (Wf_ (l.getD (2*i) 0)*16+Wf_ (l.getD (2*i+1) 0))
def ar1_ (l:List UInt8):Bool:=l.length==64&&l.all fun c=>decide (0≤Wf_ c)
def as6_ (l:List UInt8):List UInt8:=if ar1_ l then anC_ l 32 else List.replicate 32 0
def arG_ (l:List UInt8) (g:Nat):List UInt8:=anC_ l g++List.replicate (32 - g) 0
def refB (l:List UInt8) (i k:Nat):UInt8:=
 if 2*k+1<i then UInt8.ofInt (Wf_ (l.getD (2*k) 0)*16+Wf_ (l.getD (2*k+1) 0)) else if 2*k<i then UInt8.ofInt (Wf_ (l.getD (2*k) 0)) else 0
def asT_ (l:List UInt8) (i:Nat):List UInt8:=(List.range 32).map (refB l i)
def rgt (x:UInt32) (n:UInt64):UInt32:=z8_ x n.toNat|||xM_ x (32 - n).toNat
def rol (x:UInt32) (k:Int):UInt32:=xM_ x (UInt64.ofInt k&&&31).toNat|||z8_ x (32 - (UInt64.ofInt k&&&31)).toNat
def aum_ (x:UInt32) (a b c:Int):UInt32:=rol x (-a)^^^rol x (-b)^^^z8_ x c.toNat
def atl_ (x:UInt32) (a b c:Int):UInt32:=rol x (-a)^^^rol x (-b)^^^rol x (-c)
def S1 (e:UInt32):UInt32:=rgt e 6^^^rgt e 11^^^rgt e 25
def S0 (a:UInt32):UInt32:=rgt a 2^^^rgt a 13^^^rgt a 22
def s1 (y:UInt32):UInt32:=rgt y 17^^^rgt y 19^^^z8_ y 10
def s0 (x:UInt32):UInt32:=rgt x 7^^^rgt x 18^^^z8_ x 3
def kL:List UInt32:= [1116352408,1899447441,3049323471,3921009573,961987163,1508970993,2453635748,2870763221,3624381080,310598401,607225278,1426881987,1925078388,2162078206,2614888103,3248222580,3835390401,4022224774,264347078,604807628,770255983,1249150122,1555081692,1996064986,2554220882,2821834349,2952996808,3210313671,3336571891,3584528711,113926993,338241895,666307205,773529912,1294757372,1396182291,1695183700,1986661051,2177026350,2456956037,2730485921,2820302411,3259730800,3345764771,3516065817,3600352804,4094571909,275423344,430227734,506948616,659060556,883997877,958139571,1322822218,1537002063,1747873779,1955562222,2024104815,2227730452,2361852424,2428436474,2756734187,3204031479,3329325298]
def initL:List UInt32:= [1779033703,3144134277,1013904242,2773480762,1359893119,2600822924,528734635,1541459225]
def aqj_ (b:List UInt8) (i:Nat):UInt32:=
 UInt32.ofNat (b.getD (4*i) 0).toNat*16777216+UInt32.ofNat (b.getD (4*i+1) 0).toNat*65536+UInt32.ofNat (b.getD (4*i+2) 0).toNat*256+UInt32.ofNat (b.getD (4*i+3) 0).toNat
def wPre (b:List UInt8) (i:Nat):List UInt32:=(List.range 64).map fun j=>if j<i then aqj_ b j else 0
theorem Zz_ (b:List UInt8) (i:Nat): (wPre b i).length=64:=by simp[wPre]
theorem ait_ (b:List UInt8) (i:Nat): (wPre b i).set i (aqj_ b i)=wPre b (i+1):=by
 apply List.ext_getElem
 ·simp[wPre]
 intro k hk1 hk2
 have hk:k<64:=by simpa [wPre] using hk2
 rw[List.getElem_set]
 by_cases h:i=k
 ·subst h;simp[wPre]
 ·rw[if_neg h]
  simp only[wPre,List.getElem_map,List.getElem_range]
  by_cases h1:k<i
  ·rw[if_pos h1,if_pos (by omega)]
  ·rw[if_neg h1,if_neg (by omega)]
theorem aiK_ (b:List UInt8):wPre b 0=List.replicate 64 0:=by
 apply List.ext_getElem
 ·simp[wPre]
 intro k hk1 hk2
 simp only[wPre,List.getElem_map,List.getElem_range,List.getElem_replicate]
 rw[if_neg (by omega)]
def amt_ (w:List UInt32) (g:Nat):List UInt32:=w.set g (s1 (w.getD (g - 2) 0)+w.getD (g - 7) 0+s0 (w.getD (g - 15) 0)+w.getD (g - 16) 0)
def wGo (w:List UInt32):Nat→List UInt32
 |0=>w
 |n+1=>amt_ (wGo w n) (16+n)
theorem V5_ (w:List UInt32) (n:Nat): (wGo w n).length=w.length:=by
 induction n with
 |zero=>rfl
 |succ n ih=>simp[wGo,amt_,ih]
def wAll (b:List UInt8):List UInt32:=wGo (wPre b 16) 48
theorem ac8_ (b:List UInt8): (wAll b).length=64:=by rw[wAll,V5_,Zz_]
def asb_ (s:List UInt32) (k w:UInt32):List UInt32:=
 let t:=s.getD 7 0+S1 (s.getD 4 0)+ (s.getD 4 0&&&s.getD 5 0||| ~~~ s.getD 4 0&&&s.getD 6 0)+k+w
 let u:=S0 (s.getD 0 0)+ (s.getD 0 0&&&s.getD 1 0|||s.getD 0 0&&&s.getD 2 0|||s.getD 1 0&&&s.getD 2 0)
 [t+u,s.getD 0 0,s.getD 1 0,s.getD 2 0,s.getD 3 0+t,s.getD 4 0,s.getD 5 0,s.getD 6 0]
def rGo (st w:List UInt32):Nat→List UInt32
 |0=>st
 |n+1=>asb_ (rGo st w n) (kL.getD n 0) (w.getD n 0)
def abN_ (st s:List UInt32) (i:Nat):List UInt32:=(List.range 8).map fun j=>if j<i then st.getD j 0+s.getD j 0 else st.getD j 0
theorem aal_ (st s:List UInt32) (i:Nat): (abN_ st s i).length=8:=by simp[abN_]
def comp (st:List UInt32) (b:List UInt8):List UInt32:=abN_ st (rGo st (wAll b) 64) 8
theorem ZJ_ (st:List UInt32) (b:List UInt8): (comp st b).length=8:=aal_ _ _ _
def ZL_ (st:List UInt32) (m:List UInt8):Nat→List UInt32
 |0=>st
 |n+1=>comp (ZL_ st m n) ((m.drop (64*n)).take 64)
theorem abi_ (st:List UInt32) (m:List UInt8) (n:Nat) (h:st.length=8): (ZL_ st m n).length=8:=by
 cases n with
 |zero=>exact h
 |succ n=>exact ZJ_ _ _
theorem abA_ (st:List UInt32) (m x:List UInt8) (n:Nat) (h:64*n≤m.length):ZL_ st (m++x) n=ZL_ st m n:=by
 induction n with
 |zero=>rfl
 |succ n ih=>
  simp only[ZL_]
  rw[ih (by omega),List.drop_append_of_le_length (by omega),List.take_append_of_le_length (by simp;omega)]
def we_ (bg:Bool) (st:List UInt32) (rest:List UInt8) (many:Int) (taken:UInt64):List Value:=
 .bool bg:: (st.map (fun x=>Value.int .u32 (x.toNat:Int))++ (rest.map (fun x=>Value.int .u8 (x.toNat:Int))++ [vi many,v64 taken]))
def qs_ (bg:Bool) (st:List UInt32) (rest:List UInt8) (many:Int) (taken:UInt64):Array Value:=(we_ bg st rest many taken).toArray
section
variable {bg:Bool} {st:List UInt32} {rest:List UInt8} {many:Int} {taken:UInt64} {E:TypeId}
theorem xl_ (h:st.length=8∧rest.length=64): (qs_ bg st rest many taken).size=75:=by simp[qs_,we_,h]
theorem ah1_: (qs_ bg st rest many taken)[0]? =some (.bool bg):=rfl
theorem ai5_ (k:Nat) (hk:k<8) (h:st.length=8): (qs_ bg st rest many taken)[1+k]? =some (v32 (st.getD k 0)):=by
 have:1+k=k+1:=by omega
 rw[this,qs_,List.getElem?_toArray,we_,List.getElem?_cons_succ,List.getElem?_append_left (by simp;omega)]
 simp[v32,List.getD_eq_getElem?_getD,h,hk]
theorem ab2_ (k:Nat) (hk:k<64) (h:st.length=8∧rest.length=64): (qs_ bg st rest many taken)[9+k]? =some (v8 (rest.getD k 0)):=by
 have:9+k=(8+k)+1:=by omega
 rw[this,qs_,List.getElem?_toArray,we_,List.getElem?_cons_succ,List.getElem?_append_right (by simp;omega),List.getElem?_append_left (by simp;omega)]
 have e:8+k - (List.map (fun x:UInt32=>Value.int .u32 (x.toNat:Int)) st).length=k:=by simp;omega
 rw[e]
 simp[v8,List.getD_eq_getElem?_getD,h,hk]
theorem aib_ (h:st.length=8∧rest.length=64): (qs_ bg st rest many taken)[73]? =some (vi many):=by
 rw[qs_,List.getElem?_toArray,we_,List.getElem?_cons_succ,List.getElem?_append_right (by simp;omega),List.getElem?_append_right (by simp;omega)]
 simp[h]
theorem aiD_ (h:st.length=8∧rest.length=64): (qs_ bg st rest many taken)[74]? =some (v64 taken):=by
 rw[qs_,List.getElem?_toArray,we_,List.getElem?_cons_succ,List.getElem?_append_right (by simp;omega),List.getElem?_append_right (by simp;omega)]
 simp[h]
theorem w5_ (n:Nat):zk_ (some (false,n)) (some (.cells (qs_ bg st rest many taken) E (0,0))) 0=some (.bool bg):=ah1_
theorem Zh_ (n k:Nat) (h:k<8∧st.length=8):zk_ (some (false,n)) (some (.cells (qs_ bg st rest many taken) E (0,0))) (1+k)=some (v32 (st.getD k 0)):=ai5_ k h.1 h.2
theorem wZ_ (n k:Nat) (h:k<64∧st.length=8∧rest.length=64):zk_ (some (false,n)) (some (.cells (qs_ bg st rest many taken) E (0,0))) (9+k)=some (v8 (rest.getD k 0)):=ab2_ k h.1 h.2
theorem vJ_ (n j k:Nat) (h:j+k<64∧st.length=8∧rest.length=64):zk_ (some (false,n)) (some (.cells (qs_ bg st rest many taken) E (0,0))) (9+j+k)=some (v8 (rest.getD (j+k) 0)):=by
 rw[Nat.add_assoc];exact ab2_ (j+k) h.1 h.2
theorem Za_ (n:Nat) (h:st.length=8∧rest.length=64):zk_ (some (false,n)) (some (.cells (qs_ bg st rest many taken) E (0,0))) 73=some (vi many):=aib_ h
theorem Zj_ (n:Nat) (h:st.length=8∧rest.length=64):zk_ (some (false,n)) (some (.cells (qs_ bg st rest many taken) E (0,0))) 74=some (v64 taken):=aiD_ h
theorem v2_ (h:st.length=8∧rest.length=64):zk_ (some (true,8)) (some (.cells (qs_ bg st rest many taken) E (0,0))) 1=some (.agg (a32 st)):=by
 have hs:1+8≤ (qs_ bg st rest many taken).size:=by rw[xl_ h];omega
 simp only[zk_,hs, ↓reduceIte]
 congr 2
 rw[qs_,a32,we_]
 simp only[List.extract_toArray,List.extract_eq_take_drop]
 congr 1
 simp[h]
theorem kK_ (h:st.length=8∧rest.length=64):zk_ (some (true,75)) (some (.cells (qs_ bg st rest many taken) E (0,0))) 0=some (.agg (qs_ bg st rest many taken)):=jP_ _ _ _ _ (xl_ h)
theorem amJ_: (qs_ bg st rest many taken).toList.all Value.oneCell'=true:=by
 simp[qs_,we_,Value.oneCell',vi,v64]
theorem x0_ (old:Array Value) (h:st.length=8∧rest.length=64∧old.size=75):zn_ (some (true,75)) (some (.cells old E (0,0))) 0 (.agg (qs_ bg st rest many taken))=some (.cells (qs_ bg st rest many taken) E (0,0)):=
 Z0_ _ _ _ _ _ ⟨xl_ ⟨h.1,h.2.1⟩,h.2.2⟩ amJ_
theorem wr_ (i:Nat) (v:Value): (qs_ bg st rest many taken).setIfInBounds i v=((we_ bg st rest many taken).set i v).toArray:=by simp[qs_]
theorem vM_ (b:Bool) (h:st.length=8∧rest.length=64):zn_ (some (false,1)) (some (.cells (qs_ bg st rest many taken) E (0,0))) 0 (.bool b)=some (.cells (qs_ b st rest many taken) E (0,0)):=by
 rw[kp_ _ _ _ _ _ (by rw[xl_ h];omega) rfl rfl,wr_];rfl
theorem vA_ (k:Nat) (x:UInt32) (h:k<8∧st.length=8∧rest.length=64):zn_ (some (false,1)) (some (.cells (qs_ bg st rest many taken) E (0,0))) (1+k) (v32 x)=some (.cells (qs_ bg (st.set k x) rest many taken) E (0,0)):=by
 have e:1+k=k+1:=by omega
 rw[kp_ _ _ _ _ _ (by rw[xl_ h.2];omega) rfl rfl,wr_,e,we_,List.set_cons_succ,List.set_append_left _ _ (by simp;omega)]
 simp only[qs_,we_,List.map_set];rfl
theorem vX_ (k:Nat) (x:UInt8) (h:k<64∧st.length=8∧rest.length=64):zn_ (some (false,1)) (some (.cells (qs_ bg st rest many taken) E (0,0))) (9+k) (v8 x)=some (.cells (qs_ bg st (rest.set k x) many taken) E (0,0)):=by
 have e:9+k=(8+k)+1:=by omega
 rw[kp_ _ _ _ _ _ (by rw[xl_ h.2];omega) rfl rfl,wr_,e,we_,List.set_cons_succ,List.set_append_right _ _ (by simp;omega),List.set_append_left _ _ (by simp;omega)]
 have e2:8+k - (List.map (fun x:UInt32=>Value.int .u32 (x.toNat:Int)) st).length=k:=by simp;omega
 rw[e2]
 simp only[qs_,we_,List.map_set];rfl
theorem vI_ (m:Int) (h:st.length=8∧rest.length=64):zn_ (some (false,1)) (some (.cells (qs_ bg st rest many taken) E (0,0))) 73 (vi m)=some (.cells (qs_ bg st rest m taken) E (0,0)):=by
 rw[kp_ _ _ _ _ _ (by rw[xl_ h];omega) rfl rfl,wr_,we_,List.set_cons_succ,List.set_append_right _ _ (by simp;omega),List.set_append_right _ _ (by simp;omega)]
 simp[qs_,we_,h]
theorem vG_ (t:UInt64) (h:st.length=8∧rest.length=64):zn_ (some (false,1)) (some (.cells (qs_ bg st rest many taken) E (0,0))) 74 (v64 t)=some (.cells (qs_ bg st rest many t) E (0,0)):=by
 rw[kp_ _ _ _ _ _ (by rw[xl_ h];omega) rfl rfl,wr_,we_,List.set_cons_succ,List.set_append_right _ _ (by simp;omega),List.set_append_right _ _ (by simp;omega)]
 simp[qs_,we_,h]
theorem kW_ (st':List UInt32) (h:st.length=8∧rest.length=64∧st'.length=8):zn_ (some (true,8)) (some (.cells (qs_ bg st rest many taken) E (0,0))) 1 (.agg (a32 st'))=some (.cells (qs_ bg st' rest many taken) E (0,0)):=by
 have hs:1+8≤ (qs_ bg st rest many taken).size:=by rw[xl_ ⟨h.1,h.2.1⟩];omega
 have hp:Qz_ (qs_ bg st rest many taken) 1 (a32 st').toList=qs_ bg st' rest many taken:=by
  have:=Wx_ (a32 st').toList [.bool bg] (st.map fun x=>Value.int .u32 (x.toNat:Int)) (rest.map (fun x=>Value.int .u8 (x.toNat:Int))++ [vi many,v64 taken]) (by simp[a32,h])
  simpa [qs_,we_,a32] using this
 have h1: (a32 st').size=8:=by rw[Qc_];exact h.2.2
 simp only[zn_,zj_,h1,hs,Nat.le_refl,true_or,aix_,and_self, ↓reduceIte,hp]
end
def acc (b:List UInt8) (i:Nat):Nat→UInt32
 |0=>0
 |k+1=>xM_ (acc b i k) 8|||UInt32.ofNat (b.getD (4*i+k) 0).toNat
theorem ju_ {α:Type} (l:List α) (i:Nat) (x d:α) (h:i<l.length): (l.set i x).getD i d=x:=by
 simp[List.getD_eq_getElem?_getD,h]
def wG (b:List UInt8) (g:Nat):List UInt32:=wGo (wPre b 16) (g - 16)
theorem ajT_ (b:List UInt8) (g:Nat): (wG b g).length=64:=by rw[wG,V5_,Zz_]
theorem an6_ (b:List UInt8) (g:Nat) (h:16≤g):wG b (g+1)=amt_ (wG b g) g:=by
 unfold wG
 have:g+1 - 16=(g - 16)+1:=by omega
 rw[this]
 show amt_ _ (16+ (g - 16))=_
 rw[show 16+ (g - 16)=g from by omega]
theorem aqU_ (b:List UInt8):wG b 64=wAll b:=rfl
theorem alH_ (b:List UInt8):wPre b 16=wG b 16:=rfl
def Glob (w:World):Prop:= ∃e0 e1 f0 f1,w.heap[0]? =some (.cells (a32 initL) e0 f0)∧w.heap[1]? =some (.cells (a32 kL) e1 f1)
theorem Glob.of {w0 w:World} {L:zc_} (hg:Glob w0) (h:Hp w0 L w) (hk: ∀b,b∈keys L→1<b):Glob w:=by
 obtain⟨e0,e1,f0,f1,h0,h1⟩:=hg
 refine⟨e0,e1,f0,f1, ?_, ?_⟩
 ·rw[h.old 0 (Array.getElem?_eq_some_iff.1 h0).1 (fun hm=>by have:=hk 0 hm;omega)];exact h0
 ·rw[h.old 1 (Array.getElem?_eq_some_iff.1 h1).1 (fun hm=>by have:=hk 1 hm;omega)];exact h1
structure Hs where
 st:List UInt32
 rest:List UInt8
 many:Nat
structure Hs.Ok (s:Hs):Prop where
 st:s.st.length=8
 rest:s.rest.length=64
 many:s.many<64
def hput (s:Hs) (x:UInt8):Hs:=
 if s.many+1=64 then⟨comp s.st (s.rest.set s.many x),s.rest.set s.many x,0⟩ else⟨s.st,s.rest.set s.many x,s.many+1⟩
theorem an4_ {s:Hs} (x:UInt8) (h:s.Ok): (hput s x).Ok:=by
 unfold hput
 split
 ·exact⟨ZJ_ _ _,by simp[h.rest],by show(0:Nat)<64;omega⟩
 ·exact⟨h.st,by simp[h.rest],by show s.many+1<64;have:=h.many;omega⟩
def ao6_ (s:Hs) (l:List UInt8):Hs:=l.foldl hput s
def asQ_ (bg:Bool) (s:Hs):Hs:=if bg then s else{s with st:=initL}
def auq_ (s:Hs) (taken:UInt64):Array Value:=qs_ true s.st s.rest s.many taken
def arb_ (t:UInt64) (l:List (List UInt8)):UInt64:=l.foldl (fun t a=>t+UInt64.ofNat a.length) t
theorem abI_ (cs:Array Value) (E:TypeId) (fz:Nat×Nat) (n i:Nat):zk_ (some (false,n)) (some (.cells cs E fz)) i=cs[i]? :=(rfl)
structure Strs (w:World) (v:Value) (l:List (List UInt8)):Prop where
 nil_or: (l= []∧v= .slice none 0 0)∨ ∃b off c arr E fz,v=vsl b off l.length c∧w.heap[b]? =some (.cells arr E fz)∧ ∀i,i<l.length→arr[off+i]? =some (vs (l.getD i []))
end Go.Dig
section
open Go Go.Proofs Go.Sx Go.Dig
namespace Go.Proofs
set_option maxRecDepth 10000
set_option maxHeartbeats 4000000
set_option linter.unusedSimpArgs false
def GlobE (w:World):Prop:= ∃e0 e1 f0 f1,w.heap[3]? =some (.cells (a32 initL) e0 f0)∧w.heap[4]? =some (.cells (a32 kL) e1 f1)
theorem GlobE.of {w0 w:World} {L:zc_} (hg:GlobE w0) (h:Hp w0 L w) (hk: ∀b,b∈keys L→4<b):GlobE w:=by
 obtain⟨e0,e1,f0,f1,h0,h1⟩:=hg
 refine⟨e0,e1,f0,f1, ?_, ?_⟩
 ·rw[h.old _ (Array.getElem?_eq_some_iff.1 h0).1 (fun hm=>by have:=hk _ hm;omega)];exact h0
 ·rw[h.old _ (Array.getElem?_eq_some_iff.1 h1).1 (fun hm=>by have:=hk _ hm;omega)];exact h1
theorem jc_ (x:UInt32) (n:UInt64) (w:World):Rets Tryz.prog 186 #[v32 x,v64 n] w (fun v D=>v=v32 (rgt x n)∧D= []):=by
 refine Rets.enterV Tryz.func186 rfl (rs:= [.tmp 4]) Tryz.results186 Tryz.ntmps186 ?_
 refine kf ?_
 first|with_reducible refine ks [] @Nat.add_zero ?_|refine kp @Nat.add_zero ?_
 refine⟨_,(ke @Nat.add_zero),trivial, ?_⟩
 rfl
theorem adb_ (w:World):Rets Tryz.prog 187 #[] w (fun v D=>v= .agg (a32 kL)∧D= []):=by
 refine Rets.enterV Tryz.func187 rfl (rs:= [.cell 0 256]) Tryz.results187 Tryz.ntmps187 ?_
 refine kf ?_
 first|with_reducible refine ks [] @Nat.add_zero ?_|refine kp @Nat.add_zero ?_
 have hkl:kL.length=64:=rfl
 refine Ow.alloc rfl rfl Tryz.zr256 fun b1 _ hw1=> ?_
 refine ko @Nat.add_zero ?_
 first|with_reducible refine ks [] @Nat.add_zero ?_|refine kp @Nat.add_zero ?_
 refine Ow.build (.agg (a32 kL)) rfl (by kernel_rfl) ?_
 refine ko @Nat.add_zero ?_
 first|with_reducible refine ks [] @Nat.add_zero ?_|refine kp @Nat.add_zero ?_
 refine⟨_,(ke @Nat.add_zero),⟨hw1,trivial⟩, ?_⟩
 rfl
end Go.Proofs
end
section
open Go Go.Proofs Go.Sx Go.Dig
namespace Go.Proofs
set_option maxRecDepth 10000
set_option maxHeartbeats 4000000
set_option linter.unusedSimpArgs false
set_option linter.defProp false
def atG_:=And.intro (And.intro (And.intro (And.intro (@w5_) (@Zh_)) (And.intro (@wZ_) (@vJ_))) (And.intro (And.intro (@Za_) (@Zj_)) (And.intro (@v2_) (@kK_)))) (And.intro (And.intro (And.intro (@x0_) (@vM_)) (And.intro (@vA_) (@vX_))) (And.intro (And.intro (@vI_) (@vG_)) (And.intro (@kW_) (@ju_))))
end Go.Proofs
end
section
open Go Go.Proofs Go.Sx Go.Dig
namespace Go.Proofs
set_option maxRecDepth 10000
set_option maxHeartbeats 1000000
set_option linter.unusedSimpArgs false
theorem acm_ (n:Nat):UInt64.ofInt (n:Int)=UInt64.ofNat n:=by
 apply UInt64.toNat.inj
 rw[show UInt64.ofInt (n:Int)=UInt64.ofNat ((n:Int)%2^64).toNat from rfl,UInt64.toNat_ofNat',UInt64.toNat_ofNat']
 omega
theorem apk_ (b o:Nat):qE_ Tryz.prog .eql 275 (vp b o) (.pointer none)=some (.bool false):=by
 simp[qE_,eqX,qe_,qd_,Tryz.underlying275,vp]
theorem akL_:qE_ Tryz.prog .eql 275 (.pointer none) (.pointer none)=some (.bool true):=by
 simp[qE_,eqX,qe_,qd_,Tryz.underlying275]
theorem akS_ (b o:Nat):qE_ Tryz.prog .neq 275 (vp b o) (.pointer none)=some (.bool true):=by
 simp[qE_,eqX,qe_,qd_,Tryz.underlying275,vp]
theorem aeC_:qE_ Tryz.prog .neq 275 (.pointer none) (.pointer none)=some (.bool false):=by
 simp[qE_,eqX,qe_,qd_,Tryz.underlying275]
set_option linter.defProp false
def atE_:=And.intro (And.intro (And.intro (And.intro (@w5_) (@Zh_)) (And.intro (@wZ_) (And.intro (@vJ_) (@Za_)))) (And.intro (And.intro (@Zj_) (@v2_)) (And.intro (@kK_) (And.intro (@x0_) (@vM_))))) (And.intro (And.intro (And.intro (@vA_) (@vX_)) (And.intro (@vI_) (And.intro (@vG_) (@kW_)))) (And.intro (And.intro (@ju_) (@apk_)) (And.intro (@akL_) (And.intro (@akS_) (@aeC_)))))
end Go.Proofs
end
namespace Go.Dig
open Go.Sx
def KT_ (m:Nat):Nat:=(120 - m)%64
def lenB (t:UInt64) (g:Nat):UInt8:=UInt8.ofNat (jU_ (8*t) (56 - 8*g)).toNat
def len8 (t:UInt64):List UInt8:=(List.range 8).map (lenB t)
def outB (st:List UInt32) (j:Nat):UInt8:=UInt8.ofNat (z8_ (st.getD (j / 4) 0) (24 - 8* (j%4))).toNat
def kO_ (st:List UInt32) (k:Nat):List UInt8:=(List.range 32).map fun j=>if j<k then outB st j else 0
def aq9_ (s:Hs) (taken:UInt64):Hs:=ao6_ (ao6_ (hput s 128) (List.replicate (KT_ (hput s 128).many) 0)) (len8 taken)
def hsum (s:Hs) (taken:UInt64):List UInt8:=kO_ (aq9_ s taken).st 32
def H0:Hs:=⟨initL,List.replicate 64 0,0⟩
theorem asq_:H0.Ok:=⟨rfl,by simp[H0],by show(0:Nat)<64;omega⟩
def sumV (l:List (List UInt8)):List UInt8:=hsum (ao6_ H0 l.flatten) (arb_ 0 l)
theorem outPre_length (st:List UInt32) (k:Nat): (kO_ st k).length=32:=by simp[kO_]
theorem aed_ (st:List UInt32):kO_ st 0=List.replicate 32 0:=by
 apply List.ext_getElem
 ·simp[kO_]
 intro k hk1 hk2
 simp only[kO_,List.getElem_map,List.getElem_range,List.getElem_replicate]
 rw[if_neg (by omega)]
theorem aeM_ (st:List UInt32) (k:Nat): (kO_ st k).set k (outB st k)=kO_ st (k+1):=by
 apply List.ext_getElem
 ·simp[kO_]
 intro j hk1 hk2
 rw[List.getElem_set]
 by_cases h:k=j
 ·subst h;simp[kO_]
 ·rw[if_neg h]
  simp only[kO_,List.getElem_map,List.getElem_range]
  by_cases h1:j<k
  ·rw[if_pos h1,if_pos (by omega)]
  ·rw[if_neg h1,if_neg (by omega)]
theorem adc_ (t:UInt64): (len8 t).length=8:=by simp[len8]
end Go.Dig
section
open Go Go.Proofs Go.Sx Go.Dig
namespace Go.Proofs
set_option maxRecDepth 10000
set_option maxHeartbeats 1000000
set_option linter.unusedSimpArgs false
set_option linter.defProp false
def avb_:=And.intro (And.intro (And.intro (And.intro (@w5_) (@Zh_)) (And.intro (@wZ_) (And.intro (@vJ_) (@Za_)))) (And.intro (And.intro (@Zj_) (@v2_)) (And.intro (@kK_) (And.intro (@x0_) (@vM_))))) (And.intro (And.intro (And.intro (@vA_) (@vX_)) (And.intro (@vI_) (And.intro (@vG_) (@kW_)))) (And.intro (And.intro (@ju_) (@apk_)) (And.intro (@akL_) (And.intro (@akS_) (@aeC_)))))
end Go.Proofs
end
section
open Go Go.Proofs Go.Sx Go.Dig
namespace Go.Proofs
set_option maxRecDepth 10000
set_option maxHeartbeats 1000000
set_option linter.unusedSimpArgs false
set_option linter.defProp false
def au7_:=And.intro (And.intro (And.intro (And.intro (@w5_) (@Zh_)) (And.intro (@wZ_) (And.intro (@vJ_) (@Za_)))) (And.intro (And.intro (@Zj_) (@v2_)) (And.intro (@kK_) (And.intro (@x0_) (@vM_))))) (And.intro (And.intro (And.intro (@vA_) (@vX_)) (And.intro (@vI_) (And.intro (@vG_) (@kW_)))) (And.intro (And.intro (@ju_) (@apk_)) (And.intro (@akL_) (And.intro (@akS_) (@aeC_)))))
end Go.Proofs
end
namespace Go.Dig
open Go.Sx
def quoN (t:UInt64):Nat→UInt64
 |0=>t
 |n+1=>quoN t n / 256
theorem ahq_ (t:UInt64) (n:Nat): (quoN t n).toNat=t.toNat / 256^n:=by
 induction n with
 |zero=>simp[quoN]
 |succ n ih=>
  show(quoN t n / 256).toNat=_
  rw[UInt64.toNat_div,ih,Nat.pow_succ,Nat.div_div_eq_div_mul];rfl
def apA_ (t:UInt64) (j:Nat):UInt8:=UInt8.ofNat (jU_ t (56 - 8*j)).toNat
theorem amo_ (t:UInt64) (i:Nat) (h:i<8):UInt8.ofNat (quoN t i%256).toNat=apA_ t (7 - i):=by
 apply UInt8.toNat.inj
 unfold apA_
 rw[UInt8.toNat_ofNat',UInt8.toNat_ofNat',UInt64.toNat_mod,ahq_,jU_,UInt64.toNat_ofNat']
 have e:56 - 8* (7 - i)=8*i:=by omega
 have ht:=t.toNat_lt
 have hd:t.toNat / 2^ (8*i)≤t.toNat:=Nat.div_le_self _ _
 rw[e,Nat.mod_eq_of_lt (a:=t.toNat / 2^ (8*i)) (by omega)]
 have e2:256^i=2^ (8*i):=by rw[Nat.pow_mul]
 rw[e2,show(256:UInt64).toNat=256 from rfl]
 omega
def jF_ (t:UInt64) (i:Nat):List UInt8:=(List.range 8).map fun j=>if 8≤j+i then apA_ t j else 0
theorem Vn_ (t:UInt64) (i:Nat): (jF_ t i).length=8:=by simp[jF_]
theorem ab8_ (t:UInt64):jF_ t 0=List.replicate 8 0:=by
 apply List.ext_getElem
 ·simp[jF_]
 intro k hk1 hk2
 have:k<8:=by simpa [jF_] using hk1
 simp only[jF_,List.getElem_map,List.getElem_range,List.getElem_replicate]
 rw[if_neg (by omega)]
theorem abZ_ (t:UInt64) (i:Nat) (h:i<8): (jF_ t i).set (7 - i) (UInt8.ofNat (quoN t i%256).toNat)=jF_ t (i+1):=by
 rw[amo_ t i h]
 apply List.ext_getElem
 ·simp[jF_]
 intro j hj1 hj2
 have hj:j<8:=by simpa [jF_] using hj2
 rw[List.getElem_set]
 by_cases h1:7 - i=j
 ·rw[if_pos h1]
  simp only[jF_,List.getElem_map,List.getElem_range]
  rw[if_pos (by omega),h1]
 ·rw[if_neg h1]
  simp only[jF_,List.getElem_map,List.getElem_range]
  by_cases h2:8≤j+i
  ·rw[if_pos h2,if_pos (by omega)]
  ·rw[if_neg h2,if_neg (by omega)]
theorem ac0_ (t:UInt64):jF_ (8*t) 8=len8 t:=by
 unfold jF_ len8
 apply List.map_congr_left
 intro j hj
 rw[if_pos (by omega)];rfl
def padR (m:List UInt8):List UInt8:=m++ [128]++List.replicate (KT_ ((m.length+1)%64)) 0++len8 (UInt64.ofNat m.length)
theorem VE_ (n:Nat): (n+KT_ (n%64))%64=56∧KT_ (n%64)<64:=by unfold KT_;omega
theorem aee_ (m:List UInt8): (padR m).length%64=0∧(padR m).length≤m.length+72:=by
 have:=VE_ (m.length+1)
 simp only[padR,List.length_append,List.length_replicate,adc_,List.length_cons,List.length_nil]
 omega
def shaR (m:List UInt8):List UInt8:=kO_ (ZL_ initL (padR m) ((padR m).length / 64)) 32
theorem ahb_ (st s:List UInt32):abN_ st s 8= [st.getD 0 0+s.getD 0 0,st.getD 1 0+s.getD 1 0,st.getD 2 0+s.getD 2 0,st.getD 3 0+s.getD 3 0,st.getD 4 0+s.getD 4 0,st.getD 5 0+s.getD 5 0,st.getD 6 0+s.getD 6 0,st.getD 7 0+s.getD 7 0]:=rfl
end Go.Dig
section
open Go Go.Proofs Go.Sx Go.Dig
namespace Go.Proofs
set_option maxRecDepth 10000
set_option maxHeartbeats 1000000
set_option linter.unusedSimpArgs false
set_option linter.defProp false
def zH_:= @ju_
theorem Ky_ (m:List UInt8) (hm:m.length<1099511627776) (w:World):
  Rets Tryz.prog 152 #[vs m] w (fun v D=>v=vs (padR m)∧D= []):=by
 refine Rets.enterV Tryz.func152 rfl (rs:= [.tmp 2]) Tryz.results152 Tryz.ntmps152 ?_
 refine kf ?_
 first|with_reducible refine ks [] @zH_ ?_|refine kp @zH_ ?_
 have hz:=VE_ (m.length+1)
 rw[show m++ [128]=m++ [128]++List.replicate 0 0 from(List.append_nil _).symm]
 refine Cw.loopG (G:=Nat) [9,10,11,12,13,14,3] (fun g=> [(3,vs (m++ [128]++List.replicate g 0))]) (fun g=> []) (fun g=>g≤KT_ ((m.length+1)%64)) (fun g=>KT_ ((m.length+1)%64) - g) 0 rfl rfl ?_ ?_
 ·omega
 intro g j hg
 refine kv ?_
 have hl: (m++ [128]++List.replicate g 0).length=m.length+1+g:=by simp;omega
 by_cases hlt:g<KT_ ((m.length+1)%64)
 ·have h56: (m.length+1+g)%64≠56:=by unfold KT_ at*;omega
  first|with_reducible refine ks [] (And.intro @zH_ @hl) ?_|refine kp (And.intro @zH_ @hl) ?_
  refine Again.mk (g+1) (by omega) (by omega) rfl ?_
  rw[show m++ [128]++List.replicate (g+1) 0=m++ [128]++List.replicate g 0++ [0] from by rw[List.replicate_succ'];simp]
  rfl
 ·have hge:g=KT_ ((m.length+1)%64):=by omega
  subst hge
  first|with_reducible refine ks [] (And.intro @zH_ @hl) ?_|refine kp (And.intro @zH_ @hl) ?_
  refine Ow.alloc rfl rfl Tryz.zr255 fun b1 hb1 hw1=> ?_
  rw[show UInt64.ofInt (m.length:Int)=UInt64.ofNat m.length from acm_ _]
  refine ko @zH_ ?_
  first|with_reducible refine ks [] @zH_ ?_|refine kp @zH_ ?_
  generalize ht:UInt64.ofNat m.length*8=t
  rw[←ab8_ t]
  refine Cw.loopG (G:=Nat) [19,20,23,24,25,26,27,28,29,30,4,21,22,6] (fun i=> [(4,v64 (quoN t i)),(6,vi i)]) (fun i=> [(b1, .cells (a8 (jF_ t i)) 255 (0,0))]) (fun i=>i≤8) (fun i=>8 - i) 0 rfl rfl ?_ ?_
  ·omega
  intro i ji hi
  refine kv ?_
  have htl:=Vn_ t i
  by_cases hi8:i<8
  ·first|with_reducible refine ks [] @zH_ ?_|refine kp @zH_ ?_
   refine Again.mk (i+1) (by omega) (by omega) ?_ rfl
   rw[abZ_ t i hi8]
  ·have hie:i=8:=by omega
   subst hie
   first|with_reducible refine ks [] @zH_ ?_|refine kp @zH_ ?_
   rw[List.drop_zero,List.take_of_length_le (show(jF_ t 8).length≤8 by omega),←ht,UInt64.mul_comm,ac0_]
   refine⟨_,(ke @zH_),⟨hw1,trivial⟩, ?_⟩
   rfl
theorem af7_ (st:List UInt32) (blk:List UInt8) (hst:st.length=8) (hbk:blk.length=64) (w:World):
  Rets Tryz.prog 153 #[.agg (a32 st),vs blk] w (fun v D=>v= .agg (a32 (comp st blk))∧D= []):=by
 have hkl:kL.length=64:=rfl
 refine Rets.enterV Tryz.func153 rfl (rs:= [.cell 4 227]) Tryz.results153 Tryz.ntmps153 ?_
 refine kf ?_
 first|with_reducible refine ks [] @zH_ ?_|refine kp @zH_ ?_
 refine Ow.box rfl rfl fun b1 hb1 hw1=> ?_
 refine ko @zH_ ?_
 refine Ow.alloc rfl rfl Tryz.zr227 fun b2 hb2 hw2=> ?_
 obtain⟨h12,-⟩:=hb2
 refine ko @zH_ ?_
 first|with_reducible refine ks [] @zH_ ?_|refine kp @zH_ ?_
 refine Ow.alloc rfl rfl Tryz.zr256 fun b3 hb3 hw3=> ?_
 obtain⟨h13,h23,-⟩:=hb3
 refine ko @zH_ ?_
 first|with_reducible refine ks [] @zH_ ?_|refine kp @zH_ ?_
 rw[←aiK_ blk]
 refine Cw.loopG (G:=Nat) [22,23,26,27,28,29,30,31,32,33,34,35,36,37,38,39,40,41,42,43,44,45,46,47,48,49,50,51,52,53,54,55,56,24,25,6] (fun g=> [(6,vi g)]) (fun g=> [(b1, .cells (a32 st) 227 (0,0)),(b2, .cells (a32 (List.replicate 8 0)) 227 (0,0)),(b3, .cells (a32 (wPre blk g)) 256 (0,0))]) (fun g=>g≤16) (fun g=>16 - g) 0 rfl rfl ?_ ?_
 ·omega
 intro g j hg
 refine kv ?_
 have hlen:=Zz_ blk g
 by_cases hlt:g<16
 ·first|with_reducible refine ks [] @zH_ ?_|refine kp @zH_ ?_
  refine Cw.regionO [0,1,2,3,4,5,6,7,8,9,10,11,12,13,14,15,16,17,18,19,20,21,22,23,24,25,26,27,28,29,30,31] [31] rfl (by kernel_rfl) (by kernel_rfl) ?_
  simp only[zo_, ↓zi_, ↓zd_, ↓zz_, ↓zy_,ze_]
  refine kq @zH_ ?_
  refine Ow.store rfl rfl rfl (ke @zH_) ?_
  refine ko @zH_ ?_
  first|with_reducible refine ks [] @zH_ ?_|refine kp @zH_ ?_
  exact Again.mk (g+1) (by omega) (by omega) (by rw[←ait_];rfl) rfl
 ·have hg16:g=16:=by omega
  subst hg16
  first|with_reducible refine ks [] @zH_ ?_|refine kp @zH_ ?_
  rw[alH_]
  refine Cw.loopG (G:=Nat) [57,58,61,62,63,64,65,66,67,68,8,9,69,70,71,72,73,74,75,76,77,78,79,80,81,82,83,84,85,86,87,88,89,90,91,92,93,94,95,96,97,59,60,7] (fun g=> [(7,vi g)]) (fun g=> [(b1, .cells (a32 st) 227 (0,0)),(b2, .cells (a32 (List.replicate 8 0)) 227 (0,0)),(b3, .cells (a32 (wG blk g)) 256 (0,0))]) (fun g=>16≤g∧g≤64) (fun g=>64 - g) 16 rfl rfl ?_ ?_
  ·omega
  intro g j hg
  refine kv ?_
  obtain⟨hg1,hg2⟩:=hg
  have hlen:=ajT_ blk g
  by_cases hlt:g<64
  ·first|with_reducible refine ks [] @zH_ ?_|refine kp @zH_ ?_
   refine Cw.regionO [0,1,2,4,5,6,3,8,7,9] [] rfl (by kernel_rfl) (by kernel_rfl) ?_
   simp only[zo_, ↓zi_, ↓zd_, ↓zz_, ↓zy_,ze_]
   refine kq @zH_ ?_
   first|with_reducible refine ks [] @zH_ ?_|refine kp @zH_ ?_
   refine Cw.regionO [0,1,3,6,7,9,10,11,14,16,19,20,23,24,25,12,26,2,4,5,8,13,15,17,18,21,22,27,28,29] [29] rfl (by kernel_rfl) (by kernel_rfl) ?_
   simp only[zo_, ↓zi_, ↓zd_, ↓zz_, ↓zy_,ze_]
   refine kq @zH_ ?_
   refine Ow.callFV rfl Tryz.call186 (fun w' hw'=>jc_ _ 17 w') ?_
   refine kq @zH_ ?_
   refine Ow.callFV rfl Tryz.call186 (fun w' hw'=>jc_ _ 19 w') ?_
   refine kq @zH_ ?_
   refine Ow.callFV rfl Tryz.call186 (fun w' hw'=>jc_ _ 7 w') ?_
   refine kq @zH_ ?_
   refine Ow.callFV rfl Tryz.call186 (fun w' hw'=>jc_ _ 18 w') ?_
   refine kq @zH_ ?_
   refine Ow.store rfl rfl rfl (ke @zH_) ?_
   refine ko @zH_ ?_
   first|with_reducible refine ks [] @zH_ ?_|refine kp @zH_ ?_
   exact Again.mk (g+1) (by omega) (by omega) (by rw[an6_ blk g hg1];rfl) rfl
  ·have hg64:g=64:=by omega
   subst hg64
   rw[aqU_]
   have hwl:=ac8_ blk
   first|with_reducible refine ks [] @zH_ ?_|refine kp @zH_ ?_
   refine Ow.callFV rfl Tryz.call187 (fun w' hw'=>adb_ w') ?_
   refine ko @zH_ ?_
   refine Ow.alloc rfl rfl Tryz.zr256 fun b4 hb4 hw4=> ?_
   obtain⟨h14,h24,h34,-⟩:=hb4
   refine ko @zH_ ?_
   first|with_reducible refine ks [] @zH_ ?_|refine kp @zH_ ?_
   refine Cw.regionO [0,2,4,6,1,8,3,9,5,10,7,11] [] rfl (by kernel_rfl) (by kernel_rfl) ?_
   simp only[zo_, ↓zi_, ↓zd_, ↓zz_, ↓zy_,ze_]
   refine kq @zH_ ?_
   first|with_reducible refine ks [] @zH_ ?_|refine kp @zH_ ?_
   refine Cw.regionO [0,2,4,6,1,8,3,9,5,10,7,11] [] rfl (by kernel_rfl) (by kernel_rfl) ?_
   simp only[zo_, ↓zi_, ↓zd_, ↓zz_, ↓zy_,ze_]
   refine kq @zH_ ?_
   first|with_reducible refine ks [] @zH_ ?_|refine kp @zH_ ?_
   generalize hw:wAll blk=W at*
   refine Cw.loopG (G:=Nat) [115,116,119,120,121,122,123,124,125,126,127,128,129,130,131,132,133,134,135,136,137,138,139,140,141,142,143,144,145,20,146,147,148,149,150,151,152,153,154,155,156,157,158,159,160,161,162,163,164,165,21,166,18,167,17,168,16,169,170,171,15,172,14,173,13,174,12,175,176,177,11,117,118,19] (fun g=> [(19,vi g),(11,v32 ((rGo st W g).getD 0 0)),(12,v32 ((rGo st W g).getD 1 0)),(13,v32 ((rGo st W g).getD 2 0)),(14,v32 ((rGo st W g).getD 3 0)),(15,v32 ((rGo st W g).getD 4 0)),(16,v32 ((rGo st W g).getD 5 0)),(17,v32 ((rGo st W g).getD 6 0)),(18,v32 ((rGo st W g).getD 7 0))]) (fun g=> [(b1, .cells (a32 st) 227 (0,0)),(b2, .cells (a32 (List.replicate 8 0)) 227 (0,0)),(b3, .cells (a32 W) 256 (0,0)),(b4, .cells (a32 kL) 256 (0,0))]) (fun g=>g≤64) (fun g=>64 - g) 0 rfl rfl ?_ ?_
   ·omega
   ·intro g j hg
    refine kv ?_
    by_cases hlt:g<64
    ·first|with_reducible refine ks [] @zH_ ?_|refine kp @zH_ ?_
     refine Cw.regionO [0,1,3,6,10,11,12,13,14,15,16,17,19,20,23,24,21,25,2,4,5,7,8,9,18,22,26,27] [] rfl (by kernel_rfl) (by kernel_rfl) ?_
     simp only[zo_, ↓zi_, ↓zd_, ↓zz_, ↓zy_,ze_]
     refine kq @zH_ ?_
     refine Ow.callFV rfl Tryz.call186 (fun w' hw'=>jc_ _ 6 w') ?_
     refine kq @zH_ ?_
     refine Ow.callFV rfl Tryz.call186 (fun w' hw'=>jc_ _ 11 w') ?_
     refine kq @zH_ ?_
     refine Ow.callFV rfl Tryz.call186 (fun w' hw'=>jc_ _ 25 w') ?_
     refine kq @zH_ ?_
     first|with_reducible refine ks [] @zH_ ?_|refine kp @zH_ ?_
     refine Ow.callFV rfl Tryz.call186 (fun w' hw'=>jc_ _ 2 w') ?_
     refine ko @zH_ ?_
     refine Ow.callFV rfl Tryz.call186 (fun w' hw'=>jc_ _ 13 w') ?_
     refine ko @zH_ ?_
     refine Ow.callFV rfl Tryz.call186 (fun w' hw'=>jc_ _ 22 w') ?_
     refine ko @zH_ ?_
     first|with_reducible refine ks [] @zH_ ?_|refine kp @zH_ ?_
     exact Again.mk (g+1) (by omega) (by omega) rfl rfl
    ·have hg64:g=64:=by omega
     subst hg64
     first|with_reducible refine ks [] @zH_ ?_|refine kp @zH_ ?_
     have hcomp:comp st blk=abN_ st (rGo st W 64) 8:=by rw[←hw];rfl
     rw[hcomp]
     generalize rGo st W 64=R at*
     rw[ahb_]
     refine Ow.build (.agg (a32 [st.getD 0 0+R.getD 0 0,st.getD 1 0+R.getD 1 0,st.getD 2 0+R.getD 2 0,st.getD 3 0+R.getD 3 0,st.getD 4 0+R.getD 4 0,st.getD 5 0+R.getD 5 0,st.getD 6 0+R.getD 6 0,st.getD 7 0+R.getD 7 0])) rfl (by kernel_rfl) ?_
     refine ko @zH_ ?_
     first|with_reducible refine ks [] @zH_ ?_|refine kp @zH_ ?_
     refine⟨_,(ke @zH_),⟨hw1,hw2,hw3,hw4,trivial⟩, ?_⟩
     rfl
end Go.Proofs
end
section
open Go Go.Proofs Go.Sx Go.Dig
namespace Go.Proofs
set_option maxRecDepth 10000
set_option maxHeartbeats 1000000
set_option linter.unusedSimpArgs false
set_option linter.defProp false
def j3_:= @ju_
theorem aeJ_ (m:List UInt8) (hm:m.length<1099511627776) (w:World):
  Rets Tryz.prog 110 #[vs m] w (fun v D=>v= .agg (a8 (shaR m))∧D= []):=by
 refine Rets.enterV Tryz.func110 rfl (rs:= [.cell 2 84]) Tryz.results110 Tryz.ntmps110 ?_
 refine kf ?_
 first|with_reducible refine ks [] @j3_ ?_|refine kp @j3_ ?_
 refine Ow.alloc rfl rfl Tryz.zr84 fun b1 hb1 hw1=> ?_
 refine ko @j3_ ?_
 first|with_reducible refine ks [] @j3_ ?_|refine kp @j3_ ?_
 refine Ow.callFV rfl Tryz.call152 (fun w' hw'=>Ky_ m hm w') ?_
 have hp:=aee_ m
 unfold shaR
 generalize padR m=p at*
 refine ko @j3_ ?_
 first|with_reducible refine ks [] @j3_ ?_|refine kp @j3_ ?_
 refine Ow.build (.agg (a32 initL)) rfl (by kernel_rfl) ?_
 refine ko @j3_ ?_
 refine Ow.alloc rfl rfl Tryz.zr227 fun b2 hb2 hw2=> ?_
 obtain⟨h12,-⟩:=hb2
 have hil:initL.length=8:=rfl
 refine ko @j3_ ?_
 first|with_reducible refine ks [] @j3_ ?_|refine kp @j3_ ?_
 rw[show a32 initL=a32 (ZL_ initL p 0) from rfl]
 refine Cw.loopG (G:=Nat) [11,12,13,14,17,18,19,20,21,22,23,15,16,5] (fun g=> [(5,vi (64*g))]) (fun g=> [(b1, .cells (a8 (List.replicate 32 0)) 84 (0,0)),(b2, .cells (a32 (ZL_ initL p g)) 227 (0,0))]) (fun g=>64*g≤p.length) (fun g=>p.length - 64*g) 0 rfl rfl ?_ ?_
 ·omega
 intro g j hg
 refine kv ?_
 have hcl:=abi_ initL p g rfl
 by_cases hlt:64*g<p.length
 ·first|with_reducible refine ks [] @j3_ ?_|refine kp @j3_ ?_
  refine Cw.regionO [1,2,3,4,5,0,6,7] [7] rfl (by kernel_rfl) (by kernel_rfl) ?_
  simp only[zo_, ↓zi_, ↓zd_, ↓zz_, ↓zy_,ze_]
  refine kq @j3_ ?_
  rw[show List.drop (64*g) (List.take (64*g+64) p)=(p.drop (64*g)).take 64 from by rw[List.drop_take];congr 1;omega]
  refine Ow.callFV rfl Tryz.call153 (fun w' hw'=>af7_ _ _ hcl (by simp;omega) w') ?_
  have hcl2:=ZJ_ (ZL_ initL p g) ((p.drop (64*g)).take 64)
  refine kq @j3_ ?_
  refine Ow.store rfl rfl rfl (ke @j3_) ?_
  refine ko @j3_ ?_
  first|with_reducible refine ks [] @j3_ ?_|refine kp @j3_ ?_
  exact Again.mk (g+1) (by omega) (by omega) rfl (by rw[show 64* ((g+1:Nat):Int)=64* (g:Int)+64 from by omega];rfl)
 ·have hge:g=p.length / 64:=by omega
  first|with_reducible refine ks [] @j3_ ?_|refine kp @j3_ ?_
  rw[←hge]
  refine Ow.alloc rfl rfl Tryz.zr84 fun b3 hb3 hw3=> ?_
  obtain⟨h13,h23,-⟩:=hb3
  refine ko @j3_ ?_
  first|with_reducible refine ks [] @j3_ ?_|refine kp @j3_ ?_
  generalize ZL_ initL p g=S at*
  rw[show [(b1,Obj.cells (a8 (List.replicate 32 0)) 84 (0,0)),(b2, .cells (a32 S) 227 (0,0)),(b3, .cells (a8 (List.replicate 32 0)) 84 (0,0))]= [(b1,Obj.cells (a8 (List.replicate 32 0)) 84 (0,0)),(b2, .cells (a32 S) 227 (0,0)),(b3, .cells (a8 (kO_ S 0)) 84 (0,0))] from by rw[aed_]]
  refine Cw.loopG (G:=Nat) [24,25,28,29,30,31,32,33,34,35,36,37,38,39,40,26,27,7] (fun k=> [(7,vi k)]) (fun k=> [(b1, .cells (a8 (List.replicate 32 0)) 84 (0,0)),(b2, .cells (a32 S) 227 (0,0)),(b3, .cells (a8 (kO_ S k)) 84 (0,0))]) (fun k=>k≤32) (fun k=>32 - k) 0 rfl rfl ?_ ?_
  ·omega
  intro k jk hk
  refine kv ?_
  have hol:=outPre_length S k
  by_cases hk:k<32
  ·first|with_reducible refine ks [] @j3_ ?_|refine kp @j3_ ?_
   refine Again.mk (k+1) (by omega) (by omega) ?_ rfl
   have e: (UInt64.ofInt (24 - 8* ((k:Int)%4))).toNat=24 - 8* (k%4):=by
    rw[show(24 - 8* ((k:Int)%4))=((24 - 8* (k%4):Nat):Int) from by omega,acm_,UInt64.toNat_ofNat',Nat.mod_eq_of_lt (by omega)]
   rw[e,←aeM_];rfl
  ·have hke:k=32:=by omega
   subst hke
   first|with_reducible refine ks [] @j3_ ?_|refine kp @j3_ ?_
   refine⟨_,(ke @j3_),⟨hw1,hw2,hw3,trivial⟩, ?_⟩
   rfl
end Go.Proofs
end
namespace Go.Dig
open Go.Sx
structure Inv (s:Hs) (p:List UInt8):Prop where
 ok:s.Ok
 st:s.st=ZL_ initL p (p.length / 64)
 many:s.many=p.length%64
 rest:s.rest.take s.many=p.drop (64* (p.length / 64))
theorem Inv.put {s:Hs} {p:List UInt8} (h:Inv s p) (x:UInt8):Inv (hput s x) (p++ [x]):=by
 obtain⟨hok,hst,hmany,hrest⟩:=h
 have hk:=an4_ x hok
 have hm64:=hok.many
 have hrl:=hok.rest
 have hle:64* (p.length / 64)≤p.length:=by omega
 have htake: (s.rest.set s.many x).take (s.many+1)=p.drop (64* (p.length / 64))++ [x]:=by
  rw[List.take_add_one,List.take_set,←hrest]
  congr 1
  ·rw[List.set_eq_of_length_le (by simp only[List.length_take];exact Nat.min_le_left _ _)]
  ·simp[hrl,hm64]
 have hlen: (p++ [x]).length=p.length+1:=by simp
 have hc:ZL_ initL (p++ [x]) (p.length / 64)=ZL_ initL p (p.length / 64):=abA_ _ _ _ _ hle
 by_cases h64:s.many+1=64
 ·have e:hput s x=⟨comp s.st (s.rest.set s.many x),s.rest.set s.many x,0⟩:=by unfold hput;rw[if_pos h64]
  have hd: (p.length+1) / 64=p.length / 64+1:=by omega
  have hr: (s.rest.set s.many x)=p.drop (64* (p.length / 64))++ [x]:=by
   rw[←htake,h64,List.take_of_length_le (by simp[hrl])]
  refine⟨hk, ?_, ?_, ?_⟩
  ·rw[e,hlen,hd]
   show comp s.st _=comp (ZL_ initL (p++ [x]) (p.length / 64)) _
   rw[hc,←hst,hr,List.drop_append_of_le_length hle,List.take_of_length_le (by simp;omega)]
  ·rw[e,hlen];show 0=_;omega
  ·rw[e,hlen]
   show List.take 0 _=_
   rw[List.take_zero,List.drop_of_length_le (by rw[hlen];omega)]
 ·have e:hput s x=⟨s.st,s.rest.set s.many x,s.many+1⟩:=by unfold hput;rw[if_neg h64]
  have hd: (p.length+1) / 64=p.length / 64:=by omega
  refine⟨hk, ?_, ?_, ?_⟩
  ·rw[e,hlen,hd,hc];exact hst
  ·rw[e,hlen];show s.many+1=_;omega
  ·rw[e,hlen,hd]
   show List.take (s.many+1) (s.rest.set s.many x)=_
   rw[htake,List.drop_append_of_le_length hle]
theorem Inv.zero:Inv H0 []:=⟨asq_,rfl,rfl,rfl⟩
end Go.Dig
section
open Go Go.Proofs Go.Sx Go.StP
namespace Go.Proofs
set_option maxRecDepth 10000
set_option maxHeartbeats 400000
set_option linter.unusedSimpArgs false
theorem GlobE.new {w0 w:World} {L:zc_} (hg:GlobE w0) (h:Hp w0 L w) (hn:New w0.heap.size L):GlobE w:=by
 obtain⟨e0,e1,f0,f1,h0,h1⟩:=id hg
 have:4<w0.heap.size:=(Array.getElem?_eq_some_iff.1 h1).1
 exact hg.of h fun b hb=>by have:=hn.le b hb;omega
theorem WH_ (m:List UInt8): (Dig.shaR m).length=32:=Dig.outPre_length _ _
set_option linter.defProp false
def zG_:=And.intro (And.intro (And.intro (@q6_) (@qt_)) (And.intro (@qq_) (@qC_))) (And.intro (And.intro (@Sx.tup2_0) (@Sx.tup2_1)) (And.intro (@zg_) (@zf_)))
def idV (k:Int) (t:List UInt8):IdL:=if RdOk k t then⟨Dig.shaR (ark_ k t),WH_ _⟩ else id0
def Ji_ (k:Int) (t:List UInt8):List UInt8:=(if k=3 then [99] else if k=2 then [116] else [98])++QQ_ t
theorem adG_ (k:Int) (t:List UInt8) (w:World) (ht:t.length<100000):Rets Tryz.prog 111 #[obV k t] w (fun v D=>v=vs (Ji_ k t)∧D= []):=by
 have tl:=wN_ (s:=t) (by omega)
 refine Rets.enterV Tryz.func111 rfl (rs:= [.tmp 2]) Tryz.results111 Tryz.ntmps111 ?_
 refine kf ?_
 first|with_reducible refine ks [] @zG_ ?_|refine kp @zG_ ?_
 refine Ow.box rfl rfl fun b1 hb1 hw1=> ?_
 simp only[qv_,qu_,qA_,zj_,List.nil_append]
 unfold Ji_
 by_cases h3:k=3
 ·have e2: (k==2)=false:=beq_eq_false_iff_ne.2 (by omega)
  have e3: (k==3)=true:=by simp[h3]
  rw[if_pos h3]
  refine ko (And.intro @zG_ (And.intro @e2 (@e3))) ?_
  first|with_reducible refine ks [] (And.intro @zG_ (And.intro @e2 (@e3))) ?_|refine kp (And.intro @zG_ (And.intro @e2 (@e3))) ?_
  refine Ow.callFV rfl Tryz.call154 (fun w' hw'=>vb_ t w' (by omega)) ?_
  refine ko @zG_ ?_
  first|with_reducible refine ks [] @zG_ ?_|refine kp @zG_ ?_
  refine⟨_,(ke @zG_),⟨hw1,trivial⟩, ?_⟩
  rfl
 ·have e3: (k==3)=false:=by simpa using h3
  rw[if_neg h3]
  by_cases h2:k=2
  ·have e2: (k==2)=true:=by simp[h2]
   rw[if_pos h2]
   refine ko (And.intro @zG_ (And.intro @e2 (@e3))) ?_
   first|with_reducible refine ks [] (And.intro @zG_ (And.intro @e2 (@e3))) ?_|refine kp (And.intro @zG_ (And.intro @e2 (@e3))) ?_
   refine Ow.callFV rfl Tryz.call154 (fun w' hw'=>vb_ t w' (by omega)) ?_
   refine ko @zG_ ?_
   first|with_reducible refine ks [] @zG_ ?_|refine kp @zG_ ?_
   refine⟨_,(ke @zG_),⟨hw1,trivial⟩, ?_⟩
   rfl
  ·have e2: (k==2)=false:=by simpa using h2
   rw[if_neg h2]
   refine ko (And.intro @zG_ (And.intro @e2 (@e3))) ?_
   first|with_reducible refine ks [] (And.intro @zG_ (And.intro @e2 (@e3))) ?_|refine kp (And.intro @zG_ (And.intro @e2 (@e3))) ?_
   refine Ow.callFV rfl Tryz.call154 (fun w' hw'=>vb_ t w' (by omega)) ?_
   refine ko @zG_ ?_
   first|with_reducible refine ks [] @zG_ ?_|refine kp @zG_ ?_
   refine⟨_,(ke @zG_),⟨hw1,trivial⟩, ?_⟩
   rfl
theorem amM_ (k:Int) (t:List UInt8) (w:World) (ht:t.length<100000):Rets Tryz.prog 55 #[obV k t] w (fun v D=>v= .agg (a8 (Dig.shaR (Ji_ k t)))∧D= []):=by
 have tl:=wN_ (s:=t) (by omega)
 have fl: (Ji_ k t).length<1099511627776:=by
  have nl:=je_ (t.length:Int)
  unfold Ji_ QQ_;rw[List.length_append,List.length_append]
  have: ((if k=3 then [99] else if k=2 then [116] else [98]:List UInt8)).length=1:=by split<;>(try split)<;>rfl
  omega
 have hsl:=WH_ (Ji_ k t)
 refine Rets.enterV Tryz.func55 rfl (rs:= [.cell 2 84]) Tryz.results55 Tryz.ntmps55 ?_
 refine kf ?_
 first|with_reducible refine ks [] @zG_ ?_|refine kp @zG_ ?_
 refine Ow.box rfl rfl fun b1 hb1 hw1=> ?_
 simp only[qv_,qu_,qA_,zj_,List.nil_append]
 refine ko @zG_ ?_
 refine Ow.alloc rfl rfl agi_ fun b2 hb2 hw2=> ?_
 simp only[zj_,List.nil_append,List.cons_append]
 have h12:b1<b2:=zv_ hb2 (by simp[keys])
 have hi0:=id0.h
 refine ko @zG_ ?_
 refine Ow.callFV rfl Tryz.call111 (fun w' hw'=>adG_ k t w' ht) ?_
 refine ko @zG_ ?_
 refine Ow.callFV rfl Tryz.call110 (fun w' hw'=>aeJ_ _ fl w') ?_
 refine ko @zG_ ?_
 first|with_reducible refine ks [] @zG_ ?_|refine kp @zG_ ?_
 refine⟨_,(ke @zG_),⟨hw1,hw2,trivial⟩, ?_⟩
 rfl
end Go.Proofs
end
section
open Go Go.Proofs Go.Sx Go.StP Go.Flo
namespace Go.Proofs
set_option maxRecDepth 10000
set_option maxHeartbeats 400000
set_option linter.unusedSimpArgs false
structure ObL where
 k:Int
 t:List UInt8
def ob0:ObL:=⟨0,[]⟩
def obC (o:ObL):List Value:= [vi o.k,vs o.t]
theorem vP_ (o:ObL): (obC o).length=2:=rfl
theorem Kn_ (o:ObL): (obC o).all Value.oneCell'=true:=rfl
def wh_ (s:List UInt8):ObL:=⟨if Wt_ s then frK s else 0,if Wt_ s then(frT s).1 else []⟩
def idOf (s:List UInt8):IdL:=idV (wh_ s).k (wh_ s).t
def anz_:List (List UInt8)→List IdL→List ObL→Option (List IdL×List ObL)
 | [],ids,os=>some (ids,os)
 |s::r,ids,os=>if Wt_ s=true∧(ids.any fun y=>(idOf s).l==y.l)=false then anz_ r (ids++ [idOf s]) (os++ [wh_ s]) else none
def fillV (l:List PartL):Option (List IdL×List ObL):=match allV l with
 | .ok ts=>anz_ ts [] []
 | .error _=>none
end Go.Proofs
end
section
open Go Go.Proofs Go.Sx
namespace Go.Proofs
set_option maxRecDepth 10000
set_option maxHeartbeats 4000000
set_option linter.unusedSimpArgs false
def hvL:List UInt32:= [0x00000000,0x1db71064,0x3b6e20c8,0x26d930ac,0x76dc4190,0x6b6b51f4,0x4db26158,0x5005713c,0xedb88320,0xf00f9344,0xd6d6a3e8,0xcb61b38c,0x9b64c2b0,0x86d3d2d4,0xa00ae278,0xbdbdf21c]
def aaC_ (n:UInt32):UInt32:=z8_ n 4^^^hvL.getD (n&&&15).toNat 0
def aot_ (n:UInt32):Nat→UInt32
 |0=>n
 |k+1=>aaC_ (aot_ n k)
def ak9_ (n:UInt32) (b:UInt8):UInt32:=aot_ (n^^^UInt32.ofNat b.toNat) 2
def GlobC (w:World):Prop:= ∃e f,w.heap[(2:Nat)]? =some (.cells (a32 hvL) e f)
theorem GlobC.of {w w':World} {L:zc_} (h:GlobC w) (hw:Hp w L w') (hn: (2:Nat)∉keys L):GlobC w':=by
 obtain⟨e,f,h⟩:=h
 exact⟨e,f,by rw[hw.old _ (Array.getElem?_eq_some_iff.1 h).1 hn];exact h⟩
set_option linter.defProp false
def atp_:=And.intro (And.intro (@zg_) (@kT_)) (And.intro (@vU_) (And.intro (@vE_) (@zf_)))
def ahp_ (n:UInt32) (s:List UInt8):UInt32:=s.foldl ak9_ n
theorem ag6_ (n:UInt32) (s:List UInt8) (g:Nat) (h:g<s.length):ahp_ n (s.take (g+1))=ak9_ (ahp_ n (s.take g)) (s.getD g 0):=by
 unfold ahp_
 rw[List.take_succ_eq_append_getElem h,List.foldl_append,List.getD_eq_getElem?_getD,List.getElem?_eq_getElem h]
 rfl
def crcV (s:List UInt8):UInt32:= ~~~ (ahp_ (~~~ (0:UInt32)) s)
def arc_ (n:UInt32) (g:Nat):List UInt8:=(List.range 4).map fun j=>if j<g then UInt8.ofNat (z8_ n (8*j)).toNat else 0
def sum4 (n:UInt32):List UInt8:=arc_ n 4
def aaH_ (s:List UInt8):List UInt8:=s++sum4 (crcV s)
def zF_ (s:List UInt8):List UInt8×Bool:=
 if s.length<4 then([],false) else if aaH_ (s.take (s.length - 4))=s then(s.take (s.length - 4),true) else([],false)
end Go.Proofs
end
section
open Go Go.Proofs Go.Sx Go.StP Go.Flo
namespace Go.Proofs
set_option maxRecDepth 10000
set_option maxHeartbeats 400000
set_option linter.unusedSimpArgs false
def farV (i:Nat) (p:PartL):Int:=if p.d=true then(i:Int) - p.b else 0
def aeV_ (i:Nat) (p:PartL):List UInt8:=KL_ (q8_ (farV i p))++QQ_ p.x
def ain_:Nat→List PartL→List UInt8
 |_,[]=> []
 |i,p::r=>aeV_ i p++ain_ (i+1) r
def magB:List UInt8:= [83,80,75,49]
def asc_ (l:List PartL):List UInt8:=magB++ (KL_ (q8_ (l.length:Int))++ain_ 0 l)
def Jl_ (s:List UInt8) (i a:Nat) (e:Int):PartL×Nat×Int:=
 (⟨decide (0< (zD_ s a e 200).1),if 0< (zD_ s a e 200).1 then(i:Int) - (zD_ s a e 200).1 else 0,(zX_ s (zD_ s a e 200).2.1 (zD_ s a e 200).2.2 65536).1⟩,(zX_ s (zD_ s a e 200).2.1 (zD_ s a e 200).2.2 65536).2)
def qL_ (s:List UInt8):Nat→Nat→Nat→Int→List PartL×List Nat×Nat×Int
 |0,_,a,e=>([],[],a,e)
 |k+1,i,a,e=>if(Jl_ s i a e).2.2=0 then((Jl_ s i a e).1:: (qL_ s k (i+1) (Jl_ s i a e).2.1 0).1,a:: (qL_ s k (i+1) (Jl_ s i a e).2.1 0).2.1,(qL_ s k (i+1) (Jl_ s i a e).2.1 0).2.2) else([],[],(Jl_ s i a e).2)
def kw_ (s:List UInt8):Int×Bool×Nat×Int:=
 if(jo_ s 0 0 4).1=magB then((zD_ s (jo_ s 0 0 4).2.1 (jo_ s 0 0 4).2.2 200).1,(zD_ s (jo_ s 0 0 4).2.1 (jo_ s 0 0 4).2.2 200).2.2==0,(zD_ s (jo_ s 0 0 4).2.1 (jo_ s 0 0 4).2.2 200).2) else(0,false,(jo_ s 0 0 4).2)
def xT_ (s:List UInt8):List PartL×List Nat×Nat×Int:=qL_ s (kw_ s).1.toNat 0 (kw_ s).2.2.1 (kw_ s).2.2.2
def asp_ (b:List UInt8):Option (List PartL×List Nat×List IdL×List ObL):=
 if(zF_ b).2=true∧(kw_ (zF_ b).1).2.1=true∧vF_ (zF_ b).1 (xT_ (zF_ b).1).2.2.1 (xT_ (zF_ b).1).2.2.2=0 then(fillV (xT_ (zF_ b).1).1).map fun q=>((xT_ (zF_ b).1).1,(xT_ (zF_ b).1).2.1,q) else none
def asK_ (l:List PartL):List UInt8×Int:=match fillV l with
 |some _=>(aaH_ (asc_ l),0)
 |none=>([],1)
instance:DecidableEq ObL:=fun a b=>if h:a.k=b.k∧a.t=b.t then .isTrue (by cases a;cases b;simp only at h;obtain⟨rfl,rfl⟩:=h;rfl) else .isFalse (fun e=>h (by rw[e];exact⟨rfl,rfl⟩))
def vc_ (l:List PartL):Nat→List ObL
 |0=> []
 |k+1=>match partV l (k:Nat) with
  | .ok s=>if Wt_ s=true∧wh_ s∉vc_ l k then vc_ l k++ [wh_ s] else vc_ l k
  | .error _=>vc_ l k
def WP_ (b:List UInt8):List ObL:=if(kw_ b).2.1=true then vc_ (xT_ b).1 (xT_ b).1.length else []
def apX_ (i:Nat) (p:PartL):Prop:=(if p.d=true then 0≤p.b∧p.b<i∧(i:Int)≤200 else p.b=0)∧p.x.length≤65536
def aoP_:Nat→List PartL→Prop
 |_,[]=>True
 |i,p::r=>apX_ i p∧aoP_ (i+1) r
def arh_:Nat→Nat→List PartL→List Nat
 |_,_,[]=> []
 |i,a,p::r=>a::arh_ (i+1) (a+ (aeV_ i p).length) r
end Go.Proofs
end
section
open Go Go.Proofs Go.Sx Go.StP Go.Flo
namespace Go.Proofs
set_option maxRecDepth 10000
set_option maxHeartbeats 400000
set_option linter.unusedSimpArgs false
theorem Kj_ {s:List UInt8}: ∀ (k i a:Nat) (e:Int),(qL_ s k i a e).1.length≤k∧(qL_ s k i a e).2.1.length=(qL_ s k i a e).1.length
 |0,i,a,e=>⟨Nat.le_refl _,rfl⟩
 |k+1,i,a,e=>by
  have:=Kj_ (s:=s) k (i+1) (Jl_ s i a e).2.1 0
  unfold qL_
  split
  ·simp only[List.length_cons];omega
  ·simp
end Go.Proofs
end
section
open Go Go.Proofs Go.Sx Go.StP Go.Flo
namespace Go.Proofs
set_option maxRecDepth 10000
set_option maxHeartbeats 400000
set_option linter.unusedSimpArgs false
def magI:List UInt8:= [83,73,88,49]
def rowB (r:RwL):List UInt8:=r.id.l++ (KL_ (q8_ r.place)++KL_ (q8_ r.spot))
def ast_ (l:List RwL):List UInt8:=(l.map rowB).flatten
def arR_ (F:List Nat):List Int:=F.map fun(n:Nat)=>(n:Int)
def arW_ (F:List Nat):List UInt8:=ar2_ (arR_ F)
def idxB (s:List UInt8) (l:List RwL):List UInt8:=magI++ (s++ (KL_ (q8_ (l.length:Int))++ (arW_ (fanL l)++ast_ l)))
def aim_ (s:List UInt8) (l:List RwL):Bool:=okTo l l.length&& (decide (s.length=4)&&decide (l.length≤200))
def asO_ (s:List UInt8) (l:List RwL):List UInt8×Int:=if aim_ s l=true then(aaH_ (idxB s l),0) else([],1)
def numP (s:List UInt8) (q:Nat×Int):Int×Nat×Int:=zD_ s q.1 q.2 1099511627775
def rowR (s:List UInt8) (a:Nat) (e:Int):RwL×Nat×Int:=
 (⟨Jt_ (idR s a e).1,(numP s (idR s a e).2).1,(numP s (numP s (idR s a e).2).2).1⟩,(numP s (numP s (idR s a e).2).2).2)
def apH_ (s:List UInt8):Nat→Nat×Int→List RwL×Nat×Int
 |0,q=>([],q)
 |k+1,q=>((rowR s q.1 q.2).1:: (apH_ s k (rowR s q.1 q.2).2).1,(apH_ s k (rowR s q.1 q.2).2).2)
def aqb_ (s:List UInt8) (m:Int):Nat→Nat×Int→Nat×Int
 |0,q=>q
 |k+1,q=>aqb_ s m k (zD_ s q.1 q.2 m).2
def ZS_ (s:List UInt8) (f:Int→Int):List UInt8×List RwL×Nat×Int:=
 ((jo_ s 0 0 8).1.drop 4,apH_ s (zD_ s (jo_ s 0 0 8).2.1 (jo_ s 0 0 8).2.2 200).1.toNat (aqb_ s (f (zD_ s (jo_ s 0 0 8).2.1 (jo_ s 0 0 8).2.2 200).1) 16 (zD_ s (jo_ s 0 0 8).2.1 (jo_ s 0 0 8).2.2 200).2))
def atC_ (b:List UInt8):Option (List UInt8×List RwL):=
 if vF_ (zF_ b).1 (ZS_ (zF_ b).1 id).2.2.1 (ZS_ (zF_ b).1 id).2.2.2=0∧aim_ (ZS_ (zF_ b).1 id).1 (ZS_ (zF_ b).1 id).2.1=true∧aaH_ (idxB (ZS_ (zF_ b).1 id).1 (ZS_ (zF_ b).1 id).2.1)=b then some ((ZS_ (zF_ b).1 id).1,(ZS_ (zF_ b).1 id).2.1) else none
def atz_ (b:List UInt8):Prop:=(zF_ b).2=true∧8≤ (zF_ b).1.length∧vF_ (zF_ b).1 (ZS_ (zF_ b).1 fun _=>200).2.2.1 (ZS_ (zF_ b).1 fun _=>200).2.2.2=0∧aim_ (ZS_ (zF_ b).1 fun _=>200).1 (ZS_ (zF_ b).1 fun _=>200).2.1=true∧aaH_ (idxB (ZS_ (zF_ b).1 fun _=>200).1 (ZS_ (zF_ b).1 fun _=>200).2.1)=b
def atH_ (l:List RwL) (x:IdL):RwL×Bool:=match l.find? (fun r=>r.id.l==x.l) with
 |some r=>(r,true)
 |none=>(rw0,false)
def atQ_ (l:List RwL) (d:Nat):Nat:=if d=0 then 0 else fanV l (d - 1)
end Go.Proofs
end
section
open Go Go.Proofs Go.Sx Go.StP Go.Flo
namespace Go.Proofs
set_option maxRecDepth 10000
set_option maxHeartbeats 400000
set_option linter.unusedSimpArgs false
theorem ag7_ {b d:List UInt8} (_h: (xL_ b d).2=0): (xL_ b d).1.length≤4099:=by
 unfold xL_
 split
 ·simp
 ·rename_i p hp
  split
  ·simp
  ·rename_i hb
   obtain⟨m,hm⟩:=Wh_ hp
   rw[show p.1=b.length by omega] at hm
   have hk:chkV (b.length:Nat) p.2=(((wD_ (b.length:Nat) p.2:Nat):Int),(0:Int)):=by
    unfold chkV at hm ⊢
    split at hm
    ·cases hm
    ·rename_i h1
     rw[if_neg h1]
     split at hm
     ·cases hm
     ·rename_i h2
      rw[if_neg h2]
      split at hm
      ·cases hm
      ·rename_i h3;rw[if_neg h3]
   obtain⟨-,-,h1,h2,-⟩:=adO_ hk
   show(txtP b p.2).length≤4099
   rw[aaf_ h1]
   exact h2
theorem ahF_ {l:List PartL} {a:Int} {s:List UInt8} (h:partV l a= .ok s):s.length≤4099:=by
 unfold partV at h
 cases hp:k8_ l a with
 |error e=>rw[hp] at h;cases h
 |ok p=>
  rw[hp] at h
  change vY_ l p= .ok s at h
  cases p with
  |nil=>cases h;simp
  |cons x p=>
   unfold vY_ at h
   cases hf:vY_ l p with
   |error e=>rw[hf] at h;cases h
   |ok t=>
    rw[hf] at h
    change(if(kq_ (l.getD x j0_) t).2=0 then _ else _)=_ at h
    split at h
    ·rename_i h0
     cases h
     unfold kq_ at h0 ⊢
     split
     ·rename_i hd;rw[if_pos hd] at h0;exact ag7_ h0
     ·rename_i hd
      split
      ·simp
      ·show(l.getD x j0_).x.length≤4099;omega
    ·cases h
theorem wS_ {D:zc_} {E:TypeId} {m n:Nat} {v:Value} {cs:List Value} (h:GrI D E m v n cs) (x:Bool×Nat):Jv_ (.sl x) v=some (vi n):=by
 obtain⟨X,-,h⟩:=h;exact h.len x
structure FiG where
 k:Nat
 ids:List IdL
 os:List ObL
 x2:Value
 x3:Value
 D2:zc_
 D3:zc_
 DG:zc_
set_option linter.defProp false
def au2_:=And.intro (And.intro (And.intro (@zg_) (@zf_)) (And.intro (@Sx.tup2_0) (@Sx.tup2_1))) (And.intro (And.intro (@q6_) (@qt_)) (And.intro (@qq_) (And.intro (@qC_) (@xB_))))
end Go.Proofs
end
section
open Go Go.Proofs Go.Sx Go.StP Go.Flo
namespace Go.Proofs
set_option maxRecDepth 10000
set_option maxHeartbeats 400000
set_option linter.unusedSimpArgs false
def wrO (s:List UInt8) (a:Nat) (e:Int):Obj:= .cells #[vs s,vi a,vi e] 250 (0,0)
theorem Kt_ (p:PartL) (E:TypeId) (a:Bool) (x:Bool):zn_ (some (a,1)) (some (.cells (z3_ p).toArray E (0,0))) 0 (.bool x)=some (.cells (z3_ ⟨x,p.b,p.x⟩).toArray E (0,0)):=(rfl)
theorem Xf_ (p:PartL) (E:TypeId) (a:Bool) (x:Int):zn_ (some (a,1)) (some (.cells (z3_ p).toArray E (0,0))) 1 (vi x)=some (.cells (z3_ ⟨p.d,x,p.x⟩).toArray E (0,0)):=(rfl)
theorem w7_ (p:PartL) (E:TypeId):zk_ (some (true,3)) (some (.cells (z3_ p).toArray E (0,0))) 0=some (.agg (z3_ p).toArray):=v1_ (n:=3) [] (z3_ p) [] E (0,0) rfl rfl
theorem adS_ (t:List UInt8):jk_ (vw_ Tryz.prog 279) (zL_ Tryz.prog 279) [(2,vs t)]=some (.agg (z3_ ⟨false,0,t⟩).toArray):=by
 rw[show vw_ Tryz.prog 279=some [(0,1),(1,1),(2,1)] from id (by kernel_rfl),aa5_];rfl
set_option linter.defProp false
def au5_:=And.intro (And.intro (And.intro (@zg_) (And.intro (@zf_) (@Sx.tup2_0))) (And.intro (@Sx.tup2_1) (And.intro (@jw_) (@js_)))) (And.intro (And.intro (@jt_) (And.intro (@w7_) (@qO_))) (And.intro (@w0_) (And.intro (@Kt_) (@Xf_))))
structure RdG where
 lab:Nat
 l:List PartL
 sp:List Nat
 a:Nat
 e:Int
 v1:Value
 v2:Value
 b4:Nat
 q:PartL
 D1:zc_
 D2:zc_
 DG:zc_
def RdJ (s:List UInt8) (n a0:Nat) (e0:Int) (sz:Nat) (g:RdG):Prop:=
 sz≤g.b4∧New sz g.D1∧New sz g.D2∧New sz g.DG∧Gr g.D1 279 3 g.v1 g.l.length (g.l.map z3_).flatten∧Gr g.D2 3 1 g.v2 g.sp.length (g.sp.map natC).flatten∧g.sp.length=g.l.length∧g.a≤s.length∧g.l.length≤n∧
  ((g.lab=1∧qL_ s n 0 a0 e0=(g.l++ (qL_ s (n - g.l.length) g.l.length g.a g.e).1,g.sp++ (qL_ s (n - g.l.length) g.l.length g.a g.e).2.1,(qL_ s (n - g.l.length) g.l.length g.a g.e).2.2))∨
  (g.lab=0∧qL_ s n 0 a0 e0=(g.l,g.sp,g.a,g.e)))
def RdL (g:RdG):Nat:=match g.lab with
 |1=>1
 |_=>0
end Go.Proofs
end
section
open Go Go.Proofs Go.Sx Go.StP Go.Flo
namespace Go.Proofs
set_option maxRecDepth 10000
set_option maxHeartbeats 400000
set_option linter.unusedSimpArgs false
abbrev auK_ (w:World) (v:Value) (l:List Nat):Prop:=SlV 1 natC 0 w v l
abbrev ObSl (w:World) (v:Value) (l:List ObL):Prop:=SlV 2 obC ob0 w v l
set_option linter.defProp false
def ate_:=And.intro (And.intro (@zg_) (And.intro (@zf_) (@q6_))) (And.intro (And.intro (@qt_) (@qq_)) (And.intro (@qC_) (@xB_)))
def hasV (l:List PartL) (i:Int):Bool:=decide (0≤i)&&decide (i< (l.length:Int))
end Go.Proofs
end
section
open Go Go.Proofs Go.Sx Go.StP Go.Flo
namespace Go.Proofs
set_option maxRecDepth 10000
set_option maxHeartbeats 400000
set_option linter.unusedSimpArgs false
theorem wK_ {w0:World} {L X D:zc_} (hC:Came w0 L X D) (hX:New w0.heap.size X):New w0.heap.size D:=New.of_le fun c hc=>by
 rcases hC.new c hc with h| ⟨-,h⟩
 ·exact hX.le c h
 ·exact h
def anu_ (l:List PartL):Prop:= ∀g,g<l.length→(l.getD g j0_).x.length≤17000000
structure PwG where
 k:Nat
 D:zc_
set_option linter.defProp false
def at1_:=And.intro (And.intro (And.intro (@zg_) (@zf_)) (And.intro (@jw_) (And.intro (@js_) (@jt_)))) (And.intro (And.intro (@w7_) (@qO_)) (And.intro (@w0_) (And.intro (@Sx.tup2_0) (@Sx.tup2_1))))
end Go.Proofs
end
section
open Go Go.Proofs Go.Sx Go.StP Go.Flo
namespace Go.Proofs
set_option maxRecDepth 10000
set_option maxHeartbeats 400000
set_option linter.unusedSimpArgs false
set_option linter.defProp false
def atq_:=And.intro (@zg_) (@zf_)
structure IwG where
 k:Nat
 D:zc_
set_option linter.defProp false
def auu_:=And.intro (And.intro (And.intro (@zg_) (@zf_)) (And.intro (@x3_) (And.intro (@wL_) (@JJ_)))) (And.intro (And.intro (@JZ_) (@JA_)) (And.intro (@xG_) (And.intro (@Sx.tup2_0) (@Sx.tup2_1))))
end Go.Proofs
end
section
open Go Go.Proofs Go.Sx Go.StP Go.Flo
namespace Go.Proofs
set_option maxRecDepth 10000
set_option maxHeartbeats 400000
set_option linter.unusedSimpArgs false
theorem eqDi (a b:Int):eqD Tryz.prog 7 3 (vi a) (vi b)=some (a==b):=by unfold eqD;rw[Tryz.underlying3];rfl
theorem eqDs (a b:List UInt8):eqD Tryz.prog 7 9 (vs a) (vs b)=some (a==b):=by unfold eqD;rw[Tryz.underlying9];simp only[vs,Kk_]
theorem eqDb (a b:Bool):eqD Tryz.prog 7 4 (.bool a) (.bool b)=some (a==b):=by unfold eqD;rw[Tryz.underlying4];rfl
theorem agI:zT_ Tryz.prog 3=some (false,1):=id (by kernel_rfl)
theorem agS:zT_ Tryz.prog 9=some (false,1):=id (by kernel_rfl)
theorem agB:zT_ Tryz.prog 4=some (false,1):=id (by kernel_rfl)
theorem asm_ (a b:ObL):eqD Tryz.prog 8 82 (obV a.k a.t) (obV b.k b.t)=some (decide (a=b)):=by
 have p0: ∀o:ObL,Sx.partV (false,1) #[vi o.k,vs o.t] 0=some (vi o.k):=fun _=>rfl
 have p1: ∀o:ObL,Sx.partV (false,1) #[vi o.k,vs o.t] 1=some (vs o.t):=fun _=>rfl
 unfold eqD obV
 rw[Tryz.underlying82]
 simp only
 rw[show Tryz.prog.stoodInHeld 82=false by kernel_rfl]
 simp only[Bool.false_eq_true, ↓reduceIte,xJ_,kl_,agI,agS,p0,p1,eqDi,eqDs]
 obtain⟨k,t⟩:=a
 obtain⟨k',t'⟩:=b
 have e:decide ((⟨k,t⟩:ObL)=⟨k',t'⟩)=((k==k')&& (t==t')):=by rw[Bool.eq_iff_iff];simp
 rw[e]
 cases(k==k')<;>cases(t==t')<;>rfl
theorem aqB_ (a b:ObL):qE_ Tryz.prog .eql 82 (obV a.k a.t) (obV b.k b.t)=some (.bool (decide (a=b))):=by
 have h:=asm_ a b
 unfold qE_ eqX obV at*;rw[show Tryz.prog.eqGuardType Tryz.prog.depth 82=false by kernel_rfl];simp[qe_,h]
instance:DecidableEq PartL:=fun a b=>if h:a.d=b.d∧a.b=b.b∧a.x=b.x then .isTrue (by cases a;cases b;simp only at h;obtain⟨rfl,rfl,rfl⟩:=h;rfl) else .isFalse (fun e=>h (by rw[e];exact⟨rfl,rfl,rfl⟩))
theorem aow_ (a b:PartL):eqD Tryz.prog 8 279 (.agg (z3_ a).toArray) (.agg (z3_ b).toArray)=some (decide (a=b)):=by
 have p0: ∀o:PartL,Sx.partV (false,1) (z3_ o).toArray 0=some (.bool o.d):=fun _=>rfl
 have p1: ∀o:PartL,Sx.partV (false,1) (z3_ o).toArray 1=some (vi o.b):=fun _=>rfl
 have p2: ∀o:PartL,Sx.partV (false,1) (z3_ o).toArray 2=some (vs o.x):=fun _=>rfl
 unfold eqD
 rw[Tryz.underlying279]
 simp only
 rw[show Tryz.prog.stoodInHeld 279=false by kernel_rfl]
 simp only[Bool.false_eq_true, ↓reduceIte,xJ_,kl_,agI,agS,agB,p0,p1,p2,eqDi,eqDs,eqDb]
 obtain⟨d,k,t⟩:=a
 obtain⟨d',k',t'⟩:=b
 have e:decide ((⟨d,k,t⟩:PartL)=⟨d',k',t'⟩)=((d==d')&& ((k==k')&& (t==t'))):=by rw[Bool.eq_iff_iff];simp
 rw[e]
 simp only[ne_eq,String.reduceEq,not_false_eq_true, ↓reduceIte]
 cases(d==d')<;>cases(k==k')<;>cases(t==t')<;>rfl
theorem ao0_ (a b:PartL):qE_ Tryz.prog .neq 279 (.agg (z3_ a).toArray) (.agg (z3_ b).toArray)=some (.bool (!decide (a=b))):=by
 have h:=aow_ a b
 unfold qE_ eqX;rw[show Tryz.prog.eqGuardType Tryz.prog.depth 279=false by kernel_rfl];simp[qe_,h]
def idxO (x:ObL):List ObL→Nat→Int
 | [],_=> -1
 |y::r,i=>if x=y then(i:Int) else idxO x r (i+1)
set_option linter.defProp false
def aut_:=And.intro (And.intro (@aqB_) (And.intro (@q6_) (@qt_))) (And.intro (@qq_) (And.intro (@zg_) (@zf_)))
end Go.Proofs
end
section
open Go Go.Proofs Go.Sx Go.StP Go.Flo
namespace Go.Proofs
set_option maxRecDepth 10000
set_option maxHeartbeats 400000
set_option linter.unusedSimpArgs false
theorem aod_ (s:List UInt8): ∃n:Nat,(kw_ s).1=n∧n≤200:=by
 unfold kw_
 split
 ·have:=jB_ (s:=s) (a:=(jo_ s 0 0 4).2.1) (e:=(jo_ s 0 0 4).2.2) (most:=200) (by omega)
  exact⟨(zD_ s (jo_ s 0 0 4).2.1 (jo_ s 0 0 4).2.2 200).1.toNat,by simp only;omega,by omega⟩
 ·exact⟨0,rfl,by omega⟩
theorem agw_ (s:List UInt8) (a:Nat) (e most:Int) (hm:0≤most): ((zX_ s a e most).1.length:Int)≤most:=by
 have h1:=jB_ (s:=s) (a:=a) (e:=e) (most:=most) hm
 have h2: ∀ (b:Nat) (e n:Int),0≤n→((jo_ s b e n).1.length:Int)≤n:=by
  intro b e n hn
  unfold jo_
  split
  ·simpa using hn
  ·split
   ·simpa using hn
   ·split
    ·simpa using hn
    ·simp only[List.length_take,List.length_drop];omega
 unfold zX_
 simp only
 split
 ·simpa using hm
 ·have:=h2 (zD_ s a e most).2.1 (zD_ s a e most).2.2 (zD_ s a e most).1 h1.1
  omega
theorem aav_ {s:List UInt8}: ∀ (k i a:Nat) (e:Int) (p:PartL),p∈ (qL_ s k i a e).1→p.x.length≤65536
 |0,i,a,e,p,h=>by cases h
 |k+1,i,a,e,p,h=>by
  unfold qL_ at h
  split at h
  ·rcases List.mem_cons.1 h with rfl|h
   ·have:=agw_ s (zD_ s a e 200).2.1 (zD_ s a e 200).2.2 65536 (by omega)
    show(zX_ s (zD_ s a e 200).2.1 (zD_ s a e 200).2.2 65536).1.length≤65536
    omega
   ·exact aav_ k _ _ _ p h
  ·cases h
theorem adz_ (s:List UInt8):anu_ (xT_ s).1:=fun g hg=>Nat.le_trans (aav_ _ _ _ _ _ (xp_ hg)) (by omega)
theorem abL_ (s:List UInt8): (xT_ s).1.length≤200∧(xT_ s).2.1.length=(xT_ s).1.length:=by
 obtain⟨n,hn,hle⟩:=aod_ s
 have:=Kj_ (s:=s) (kw_ s).1.toNat 0 (kw_ s).2.2.1 (kw_ s).2.2.2
 unfold xT_
 rw[hn,Int.toNat_natCast] at this ⊢
 omega
theorem afj_ {D:zc_} {E:TypeId} {m n:Nat} {v:Value} {cs:List Value} (h:GrI D E m v n cs):Value.oneCell' v=true∧v.cells= #[v]:=by
 obtain⟨X,hX,h⟩:=h;exact h.cell
set_option linter.defProp false
def auz_:=And.intro (And.intro (@zg_) (@zf_)) (And.intro (@Sx.tup2_0) (@Sx.tup2_1))
end Go.Proofs
end
section
open Go Go.Proofs Go.Sx Go.StP Go.Flo
namespace Go.Proofs
set_option maxRecDepth 10000
set_option maxHeartbeats 400000
set_option linter.unusedSimpArgs false
structure OiG where
 k:Nat
 q:Nat×Int
structure OrG where
 l:List RwL
 q:Nat×Int
 v:Value
 D1:zc_
 DG:zc_
set_option linter.defProp false
def aua_:=And.intro (And.intro (And.intro (@zg_) (And.intro (@zf_) (@x3_))) (And.intro (@wL_) (And.intro (@JJ_) (@JZ_)))) (And.intro (And.intro (@JA_) (And.intro (@xG_) (@ahW_))) (And.intro (@aiv_) (And.intro (@Sx.tup2_0) (@Sx.tup2_1))))
end Go.Proofs
end
section
open Go Go.Proofs Go.Sx Go.Dig
namespace Go.Proofs
set_option maxRecDepth 10000
set_option maxHeartbeats 1000000
set_option linter.unusedSimpArgs false
set_option linter.defProp false
def atn_:=And.intro (@zg_) (@zf_)
end Go.Proofs
end
section
open Go Go.Proofs Go.Sx Go.StP Go.Flo Go.Dig
namespace Go.Proofs
set_option maxRecDepth 10000
set_option maxHeartbeats 400000
set_option linter.unusedSimpArgs false
theorem aq2_ (v:Value) (n:Nat) (E:TypeId) (fz:Nat×Nat):zk_ (some (false,n)) (some (.cells #[v] E fz)) 0=some v:=(rfl)
theorem amE_:Value.cells (.pointer none)= #[.pointer none]:=(rfl)
theorem ank_ (b o:Nat):Value.cells (vp b o)= #[vp b o]:=(rfl)
def bsGo (p:Nat→Bool) (i j:Nat):Nat:=if i<j then(if p ((i+j) / 2)=true then bsGo p i ((i+j) / 2) else bsGo p ((i+j) / 2+1) j) else i
termination_by j - i
decreasing_by all_goals omega
section
variable {P:Program} {w0:World} {f:Fr} {L:zc_} {N:Fr→zc_→Prop} {ops:Array Oper} {rest:List Oper} {md:Md} {d:Option Tmp} {ty:TypeId} {ps:String} {af:Array Edge} {g:Option (Nat×Bool)}
end
structure SrG where
 i:Nat
 j:Nat
set_option linter.defProp false
def atx_:=And.intro (@zg_) (And.intro (@zf_) (@aaE_))
set_option linter.defProp false
def aty_:=And.intro (And.intro (And.intro (@zg_) (And.intro (@zf_) (@aq2_))) (And.intro (And.intro (@amE_) (@ank_)) (And.intro (@xB_) (@wL_)))) (And.intro (And.intro (@JJ_) (And.intro (@JZ_) (@JA_))) (And.intro (And.intro (@x3_) (@xG_)) (And.intro (@Sx.tup2_0) (@Sx.tup2_1))))
def askP (l:List RwL) (x:IdL) (from_:Nat) (k:Nat):Bool:=decide (0≤cmpI (l.getD (from_+k) rw0).id x)
def aqm_ (pre:List UInt8) (r:RwL):Bool:=decide (pre.length≤ (hexV r.id.l).length)&& ((hexV r.id.l).take pre.length==pre)
def asS_ (l:List RwL) (pre:List UInt8):List RwL:=l.filter (aqm_ pre)
structure UnG where
 k:Nat
 v:Value
 D1:zc_
 DG:zc_
end Go.Proofs
end
section
open Go Go.Proofs Go.Sx Go.StP Go.Flo
namespace Go.Proofs
set_option maxRecDepth 100000
set_option maxHeartbeats 1000000
set_option linter.unusedSimpArgs false
structure LnL where
 id:IdL
 share:Int
 place:Int
 spot:Int
def lnC (r:LnL):List Value:=r.id.l.map v8++ ([vi r.share]++ ([vi r.place]++ ([vi r.spot])))
def ln0:LnL:=⟨id0,0,0,0⟩
theorem alY_ (r:LnL):Value.cells (.agg (lnC r).toArray)=(lnC r).toArray:=zj_ _
theorem aq7_ (r:LnL):lnC r=([]:List Value)++ ((r.id.l.map v8)++ ([vi r.share]++ ([vi r.place]++ ([vi r.spot])))):=by
 unfold lnC;simp only[List.append_assoc,List.nil_append,List.append_nil]
theorem ami_ (r:LnL) (E:TypeId) (fz:Nat×Nat):zk_ (some (true,32)) (some (.cells (lnC r).toArray E fz)) 0=some (Value.agg (a8 r.id.l)):=by
 rw[aq7_,v1_ _ _ _ E fz (by simp) (by simp[r.id.h])];rfl
structure ShL where
 name:List UInt8
 bytes:List UInt8
def shC (r:ShL):List Value:= [vs r.name]++ ([vs r.bytes])
def sh0:ShL:=⟨[],[]⟩
theorem amv_ (r:ShL):Value.cells (.agg (shC r).toArray)=(shC r).toArray:=zj_ _
theorem apT_ (r:ShL):shC r=([]:List Value)++ (([vs r.name])++ ([vs r.bytes])):=by
 unfold shC;simp only[List.append_assoc,List.nil_append,List.append_nil]
theorem alf_ (r:ShL) (n:Nat) (E:TypeId) (fz:Nat×Nat):zk_ (some (false,n)) (some (.cells (shC r).toArray E fz)) 0=some (vs r.name):=by
 rw[apT_];exact zK_ _ _ _ n E fz (by simp)
def auM_ (s:List UInt8):Bool:=s.all (fun c=> !(decide (c<33) ||decide (126<c)))&& (!(s== [])&&decide (s.length≤40))
def numM (n:Int):Bool:=decide (0≤n)&&decide (n≤1099511627775)
def risG (c:Nat→Int):Nat→Bool
 |0=>true
 |k+1=>risG c k&& (decide (k=0) ||decide (c k<0))
def aus_ (l:List (List UInt8)) (k:Nat):Int:=cmpS (l.getD (k - 1) []) (l.getD k [])
def au8_ (l:List LnL) (k:Nat):Int:=cmpI (l.getD (k - 1) ln0).id (l.getD k ln0).id
abbrev adK_ (w:World) (v:Value) (l:List (List UInt8)):Prop:=SlV 1 strC [] w v l
abbrev LnSl (w:World) (v:Value) (l:List LnL):Prop:=SlV 35 lnC ln0 w v l
theorem Xo_ {w:World} {v:Value} {l:List (List UInt8)} {b off:Nat} {arr:Array Value} {E:TypeId} {fz:Nat×Nat} (h:RowS 1 strC [] w v l b off arr E fz) {k:Nat} (hk:k<l.length) (n:Nat):
  zk_ (some (false,n)) (some (.cells arr E fz)) (off+k)=some (vs (l.getD k [])):=by
 have:=h.cell (j:=0) (n:=n) hk (by omega)
 rwa [Nat.mul_one,Nat.add_zero] at this
set_option linter.defProp false
def atf_:=And.intro (And.intro (@zg_) (And.intro (@zf_) (@alY_))) (And.intro (@ami_) (And.intro (@alf_) (@amv_)))
end Go.Proofs
end
section
open Go Go.Proofs Go.Sx Go.StP
namespace Go.Proofs
set_option maxRecDepth 10000
set_option maxHeartbeats 400000
set_option linter.unusedSimpArgs false
def qp_ (s:List UInt8):Bool:= !(s== [])&&decide (s.length≤80)&& !(s.any ZW_)
set_option linter.defProp false
def qH_:=And.intro (And.intro (And.intro (@zg_) (And.intro (@kT_) (@vU_))) (And.intro (And.intro (@vE_) (@zf_)) (And.intro (@afn_) (@XH_)))) (And.intro (And.intro (And.intro (@Ke_) (@Xq_)) (And.intro (@aiU_) (@Je_))) (And.intro (And.intro (@Sx.tup3_0) (@Sx.tup3_1)) (And.intro (@Sx.tup3_2) (@eqb))))
theorem abE_ (c:Int) (w:World):Rets Tryz.prog 119 #[VM_ c] w (fun v D=>v= .bool (badR c)∧D= []):=by
 refine Rets.enterV Tryz.func119 rfl (rs:= [.tmp 2]) Tryz.results119 Tryz.ntmps119 ?_
 refine kf ?_
 unfold badR
 cases h1:decide (c<33)
 ·cases h2:decide (126<c)
  ·first|with_reducible refine ks [] (And.intro @qH_ (And.intro @h1 (@h2))) ?_|refine kp (And.intro @qH_ (And.intro @h1 (@h2))) ?_
   refine⟨_,(ke @qH_),trivial, ?_⟩
   simp[vj_]
  ·first|with_reducible refine ks [] (And.intro @qH_ (And.intro @h1 (@h2))) ?_|refine kp (And.intro @qH_ (And.intro @h1 (@h2))) ?_
   refine⟨_,(ke @qH_),trivial, ?_⟩
   simp[vj_]
 ·first|with_reducible refine ks [] (And.intro @qH_ @h1) ?_|refine kp (And.intro @qH_ @h1) ?_
  refine⟨_,(ke @qH_),trivial, ?_⟩
  simp[vj_]
theorem Jp_ (s:List UInt8) (w:World) (hs:s.length<1099511627776):
  Rets Tryz.prog 74 #[vs s] w (fun v D=>v= .bool (qp_ s)∧D= []):=by
 refine Rets.enterV Tryz.func74 rfl (rs:= [.tmp 2]) Tryz.results74 Tryz.ntmps74 ?_
 refine kf ?_
 cases h0: (s != [])
 ·have e0: (s== [])=true:=by simpa using h0
  first|with_reducible refine ks [] (And.intro @qH_ @h0) ?_|refine kp (And.intro @qH_ @h0) ?_
  refine⟨_,(ke @qH_),trivial, ?_⟩
  simp[vj_,qp_,e0]
 ·have e0: (s== [])=false:=by simpa using h0
  cases h1:decide ((s.length:Int)≤80)
  ·have e1:decide (s.length≤80)=false:=decide_eq_false (by have:=of_decide_eq_false h1;omega)
   first|with_reducible refine ks [] (And.intro @qH_ (And.intro @h0 (@h1))) ?_|refine kp (And.intro @qH_ (And.intro @h0 (@h1))) ?_
   refine⟨_,(ke @qH_),trivial, ?_⟩
   simp only[vj_,qp_,e0,e1,Bool.not_false,Bool.true_and,Bool.false_and,Bool.and_false]
  ·have e1:decide (s.length≤80)=true:=decide_eq_true (by have:=of_decide_eq_true h1;omega)
   first|with_reducible refine ks [] (And.intro @qH_ (And.intro @h0 (@h1))) ?_|refine kp (And.intro @qH_ (And.intro @h0 (@h1))) ?_
   refine Ow.callFV rfl Tryz.call118 (fun w' hw'=>Q3_ s 119 Tryz.call119 abE_ w' hs) ?_
   refine ko @qH_ ?_
   first|with_reducible refine ks [] @qH_ ?_|refine kp @qH_ ?_
   refine⟨_,(ke @qH_),trivial, ?_⟩
   simp only[vj_,qp_,e0,e1,Bool.not_false,Bool.true_and]
theorem ahz_ (s:List UInt8) (w:World) (hs:s.length<1099511627776):Rets Tryz.prog 126 #[vs s] w (fun v D=>v= .bool (!qp_ s)∧D= []):=by
 refine Rets.enterV Tryz.func126 rfl (rs:= [.tmp 2]) Tryz.results126 Tryz.ntmps126 ?_
 refine kf ?_
 first|with_reducible refine ks [] @qH_ ?_|refine kp @qH_ ?_
 refine Ow.callFV rfl Tryz.call74 (fun w' hw'=>Jp_ s w' hs) ?_
 refine ko @qH_ ?_
 first|with_reducible refine ks [] @qH_ ?_|refine kp @qH_ ?_
 refine⟨_,(ke @qH_),trivial, ?_⟩
 rfl
theorem X7_ (v:Value) (l:List (List UInt8)) (w:World) (hv:adK_ w v l) (hl:l.length<1000000) (hs: ∀s,s∈l→s.length<1099511627776):Rets Tryz.prog 165 #[v, .func (.func 126) #[] #[]] w (fun v D=>(∃i:Int,v=vi i∧decide (0≤i)= !(l.all qp_))∧D= []):=by
 obtain⟨rb,off,arr,E,fz,hr⟩:=hv.row
 have ln:=hv.len
 refine Rets.enterV Tryz.func165 rfl (rs:= [.tmp 4]) Tryz.results165 Tryz.ntmps165 ?_
 refine kf ?_
 first|with_reducible refine ks [] (And.intro @qH_ @ln) ?_|refine kp (And.intro @qH_ @ln) ?_
 refine Cw.loopG (G:=Nat) [9,10,5,11,12,13,14,15,16,17,4,18,8] (fun k=> [(4,vi 0),(8,vi k)]) (fun k=> []) (fun k=>k≤l.length∧(l.take k).all qp_=true) (fun k=>l.length - k) 0 rfl rfl ?_ ?_
 ·exact⟨Nat.zero_le _,rfl⟩
 intro k jk hk
 refine kv ?_
 obtain⟨hk,hal⟩:=hk
 by_cases hlt:k<l.length
 ·have d1:decide ((k:Int)< (l.length:Int))=true:=decide_eq_true (by omega)
  have hb:=hr.has (by omega)
  have ix:=hr.idx false k hlt
  have ld:=fun n=>Xo_ hr hlt n
  have hts:=StP.take_snoc (z:=([]:List UInt8)) hlt
  have hm:l.getD k []∈l:=by rw[List.getD_eq_getElem?_getD,List.getElem?_eq_getElem hlt];exact List.getElem_mem hlt
  have hsl:=hs _ hm
  generalize l.getD k []=s at*
  first|with_reducible refine ks [] (And.intro @qH_ (And.intro @d1 (And.intro @hb (And.intro @ix (@ld))))) ?_|refine kp (And.intro @qH_ (And.intro @d1 (And.intro @hb (And.intro @ix (@ld))))) ?_
  refine Ow.callFn1 (v:= .bool (!qp_ s)) rfl rfl rfl Tryz.call126 (fun w' hw'=>ahz_ s w' hsl) ?_
  cases hn:qp_ s with
  |true=>
   refine ko @qH_ ?_
   refine Again.mk (G:=Nat) (k+1) (by show l.length - (k+1)<l.length - k;omega) ⟨hlt, ?_⟩ rfl rfl
   rw[hts,List.all_append,hal,List.all_cons,hn];rfl
  |false=>
   refine ko @qH_ ?_
   first|with_reducible refine ks [] @qH_ ?_|refine kp @qH_ ?_
   refine⟨_,(ke @qH_),trivial, ?_⟩
   refine⟨(k:Int),rfl, ?_⟩
   rw[decide_eq_true (show(0:Int)≤ (k:Int) by omega),show l.all qp_=false from List.all_eq_false.2 ⟨s,hm,by rw[hn];simp⟩];rfl
 ·obtain rfl:k=l.length:=by omega
  have d1:decide ((l.length:Int)< (l.length:Int))=false:=decide_eq_false (by omega)
  rw[List.take_length] at hal
  first|with_reducible refine ks [] (And.intro @qH_ @d1) ?_|refine kp (And.intro @qH_ @d1) ?_
  refine⟨_,(ke @qH_),trivial, ?_⟩
  exact⟨-1,rfl,by rw[hal];rfl⟩
theorem Vm_ (v:Value) (l:List (List UInt8)) (w:World) (hv:adK_ w v l) (hl:l.length<1000000) (hs: ∀s,s∈l→s.length<1099511627776):Rets Tryz.prog 125 #[v, .func (.func 126) #[] #[]] w (fun v D=>v= .bool (!(l.all qp_))∧D= []):=by
 refine Rets.enterV Tryz.func125 rfl (rs:= [.tmp 4]) Tryz.results125 Tryz.ntmps125 ?_
 refine kf ?_
 first|with_reducible refine ks [] @qH_ ?_|refine kp @qH_ ?_
 refine Ow.callC rfl rfl Tryz.call165 (fun w' hw'=>Rets.toX (X7_ v l w' (hv.oldN hw' trivial) hl hs)) (fun B1 v1 D1 hA1 hB1 hN1 hS1=> ?_)
 obtain⟨rfl,i,rfl,hi⟩:=hS1
 refine ko (And.intro @qH_ @hi) ?_
 first|with_reducible refine ks [] @qH_ ?_|refine kp @qH_ ?_
 refine⟨_,(ke @qH_),trivial, ?_⟩
 rfl
end Go.Proofs
end
section
open Go Go.Proofs Go.Sx Go.StP
namespace Go.Proofs
set_option maxRecDepth 10000
set_option maxHeartbeats 400000
set_option linter.unusedSimpArgs false
structure FileL where
 data:List UInt8
 stl:Nat
def q2_:FileL:=⟨[],0⟩
structure CallL where
 kind:Nat
 a:List UInt8
 b:List UInt8
 n:Nat
def wa_:CallL:=⟨2,[],[],0⟩
abbrev NmL:=List (List UInt8×Nat)
structure DirL where
 seen:NmL
 stl:NmL
 pend:List CallL
structure DiskL where
 dir:Nat→DirL
 files:List FileL
 max:Int
 fuse:Int
 fused:Bool
 off:Bool
def zC_ (l:NmL) (s:List UInt8):Option Nat:=(l.find? fun p=>s==p.1).map Prod.snd
def qI_ (l:NmL) (s:List UInt8):NmL:=l.filter fun p=> !(s==p.1)
def insN:NmL→List UInt8×Nat→NmL
 | [],x=> [x]
 |p::r,x=>if ltB x.1 p.1=true then x::p::r else p::insN r x
def KK_ (l:NmL) (x:List UInt8×Nat):NmL:=insN (qI_ l x.1) x
def SrtN (l:NmL):Prop:=l.Pairwise fun p q=>ltB p.1 q.1=true
theorem SrtN.nodup {l:NmL} (h:SrtN l): (l.map Prod.fst).Nodup:=by
 refine List.pairwise_map.2 (List.Pairwise.imp ?_ h)
 intro a b hab e
 rw[e,Q1_] at hab;cases hab
theorem xF_ (x:List UInt8×Nat): ∀l:NmL,(insN l x).Perm (x::l)
 | []=>List.Perm.refl _
 |p::r=>by
  unfold insN
  split
  ·exact List.Perm.refl _
  ·exact((xF_ x r).cons p).trans (List.Perm.swap x p r)
theorem afM_ {x:List UInt8×Nat}: ∀ {l:NmL},SrtN l→(∀p,p∈l→p.1≠x.1)→SrtN (insN l x)
 | [],_,_=>List.pairwise_singleton _ _
 |p::r,h,hx=>by
  unfold SrtN at h
  rw[List.pairwise_cons] at h
  unfold insN
  split
  ·rename_i h1
   refine List.pairwise_cons.2 ⟨fun q hq=> ?_,List.pairwise_cons.2 h⟩
   rcases List.mem_cons.1 hq with rfl|hq
   ·exact h1
   ·exact XI_ h1 (h.1 q hq)
  ·rename_i h1
   refine List.pairwise_cons.2 ⟨fun q hq=> ?_,afM_ h.2 fun q hq=>hx q (List.mem_cons_of_mem _ hq)⟩
   rcases List.mem_cons.1 ((xF_ x r).mem_iff.1 hq) with rfl|hq
   ·have h1':ltB q.1 p.1=false:=by simpa using h1
    exact Qb_ h1' (fun e=>hx p List.mem_cons_self e.symm)
   ·exact h.1 q hq
theorem Kr_ {l:NmL} (s:List UInt8) (h:SrtN l):SrtN (qI_ l s):=List.Pairwise.filter _ h
theorem amH_ {l:NmL} {s:List UInt8} {p:List UInt8×Nat} (h:p∈qI_ l s):p.1≠s:=by
 have:=(List.mem_filter.1 h).2
 intro e
 rw[e] at this;simp at this
theorem JG_ {l:NmL} (x:List UInt8×Nat) (h:SrtN l):SrtN (KK_ l x):=afM_ (Kr_ _ h) fun _ hp=>amH_ hp
theorem jO_ {l:NmL} {s:List UInt8} {n:Nat} (h:zC_ l s=some n): (s,n)∈l:=by
 unfold zC_ at h
 cases hf:l.find? fun p=>s==p.1 with
 |none=>rw[hf] at h;cases h
 |some p=>
  rw[hf] at h
  have h1:=List.find?_some hf
  have h2:=List.mem_of_find?_eq_some hf
  obtain⟨a,b⟩:=p
  cases h
  rw[show s=a from by simpa using h1];exact h2
theorem V4_ {l:NmL} {s:List UInt8} (h:zC_ l s=none): ∀p,p∈l→p.1≠s:=by
 intro p hp e
 unfold zC_ at h
 cases hf:l.find? fun p=>s==p.1 with
 |none=>
  have:=List.find?_eq_none.1 hf p hp
  rw[e] at this;simp at this
 |some q=>rw[hf] at h;cases h
theorem abO_ {α β:Type} {m:List (α×β)} (hn: (m.map Prod.fst).Nodup) {k:α} {a b:β} (h1: (k,a)∈m) (h2: (k,b)∈m):a=b:=by
 induction m with
 |nil=>cases h1
 |cons p r ih=>
  rw[List.map_cons,List.nodup_cons] at hn
  rcases List.mem_cons.1 h1 with e1|h1
  ·rcases List.mem_cons.1 h2 with e2|h2
   ·rw[←e1] at e2;exact(congrArg Prod.snd e2).symm
   ·exact absurd (by rw[←e1];exact List.mem_map.2 ⟨_,h2,rfl⟩) hn.1
  ·rcases List.mem_cons.1 h2 with e2|h2
   ·exact absurd (by rw[←e2];exact List.mem_map.2 ⟨_,h1,rfl⟩) hn.1
   ·exact ih hn.2 h1 h2
theorem J1_ {l:NmL} (hn: (l.map Prod.fst).Nodup) {s:List UInt8} {n:Nat} (h: (s,n)∈l):zC_ l s=some n:=by
 cases hf:zC_ l s with
 |none=>exact absurd rfl (V4_ hf _ h)
 |some m=>rw[abO_ hn (jO_ hf) h]
section
variable {α β:Type} [BEq α] [LawfulBEq α]
theorem apE_ {m:List (α×β)} (hn: (m.map Prod.fst).Nodup) {k:α} {v z:β} (h: (k,v)∈m):getG k z m=v:=by
 unfold getG
 cases hf:m.find? fun p=>k==p.1 with
 |none=>
  have:=List.find?_eq_none.1 hf _ h
  exact absurd (beq_self_eq_true k) this
 |some q=>
  have h1:=List.find?_some hf
  have h2:=List.mem_of_find?_eq_some hf
  obtain⟨a,b⟩:=q
  have e:k=a:=eq_of_beq h1
  subst e
  exact abO_ hn h2 h
theorem aoK_ {m:List (α×β)} {k:α} {z:β} (h: ∀p,p∈m→p.1≠k):getG k z m=z:=by
 unfold getG
 cases hf:m.find? fun p=>k==p.1 with
 |none=>rfl
 |some q=>
  have h1:=List.find?_some hf
  exact absurd (eq_of_beq h1).symm (h q (List.mem_of_find?_eq_some hf))
theorem aao_ {m:List (α×β)} {k:α} (h: ∀p,p∈m→p.1≠k):m.filter (fun p=> !(k==p.1))=m:=
 List.filter_eq_self.2 fun p hp=>by
  have:=h p hp
  cases e:k==p.1 with
  |false=>rfl
  |true=>exact absurd (eq_of_beq e).symm this
theorem abe_ (k:α) (v:β): ∀ {m:List (α×β)},(m.map Prod.fst).Nodup→(updG k v m).Perm ((k,v)::m.filter fun p=> !(k==p.1))
 | [],_=>List.Perm.refl _
 |p::r,hn=>by
  rw[List.map_cons,List.nodup_cons] at hn
  unfold updG
  cases hk: (k==p.1) with
  |true=>
   rw[if_pos rfl,List.filter_cons,hk]
   have e:k=p.1:=eq_of_beq hk
   have hr:r.filter (fun p=> !(k==p.1))=r:=aao_ fun q hq e2=>hn.1 (List.mem_map.2 ⟨q,hq,by rw[e2,e]⟩)
   simp only[Bool.not_true,Bool.false_eq_true, ↓reduceIte,hr]
   rw[e]
  |false=>
   rw[if_neg (by simp),List.filter_cons,hk]
   simp only[Bool.not_false, ↓reduceIte]
   exact((abe_ k v hn.2).cons p).trans (List.Perm.swap _ _ _)
theorem aiY_ (k:α): ∀ {m:List (α×β)},(m.map Prod.fst).Nodup→delG k m=m.filter fun p=> !(k==p.1)
 | [],_=>rfl
 |p::r,hn=>by
  rw[List.map_cons,List.nodup_cons] at hn
  unfold delG
  cases hk: (k==p.1) with
  |true=>
   rw[if_pos rfl,List.filter_cons,hk]
   have e:k=p.1:=eq_of_beq hk
   have hr:r.filter (fun p=> !(k==p.1))=r:=aao_ fun q hq e2=>hn.1 (List.mem_map.2 ⟨q,hq,by rw[e2,e]⟩)
   simp only[Bool.not_true,Bool.false_eq_true, ↓reduceIte,hr]
  |false=>
   rw[if_neg (by simp),List.filter_cons,hk,aiY_ k hn.2]
   simp only[Bool.not_false, ↓reduceIte]
end
def qT_:Option Nat→Value
 |none=> .pointer none
 |some b=>vp b 0
def ptrN (fb:List Nat) (p:List UInt8×Nat):List UInt8×Option Nat:=(p.1,some (fb.getD p.2 0))
def NmP (fb:List Nat) (l:NmL) (m:List (List UInt8×Option Nat)):Prop:=m.Perm (l.map (ptrN fb))
theorem NmP.keys {fb:List Nat} {l:NmL} {m:List (List UInt8×Option Nat)} (h:NmP fb l m) (hn: (l.map Prod.fst).Nodup): (m.map Prod.fst).Nodup:=by
 refine((h.map Prod.fst).nodup_iff).2 ?_
 rw[List.map_map]
 exact hn
theorem NmP.get {fb:List Nat} {l:NmL} {m:List (List UInt8×Option Nat)} (h:NmP fb l m) (hn: (l.map Prod.fst).Nodup) (s:List UInt8):getG s none m=(zC_ l s).map fun n=>fb.getD n 0:=by
 cases hf:zC_ l s with
 |none=>
  refine aoK_ fun p hp e=> ?_
  obtain⟨q,hq,rfl⟩:=List.mem_map.1 (h.mem_iff.1 hp)
  exact V4_ hf q hq e
 |some n=>exact apE_ (h.keys hn) (h.mem_iff.2 (List.mem_map.2 ⟨_,jO_ hf,rfl⟩))
theorem afN_ (fb:List Nat) (l:NmL) (s:List UInt8): (l.map (ptrN fb)).filter (fun p=> !(s==p.1))=(qI_ l s).map (ptrN fb):=by
 unfold qI_
 rw[List.filter_map];rfl
theorem NmP.wipe {fb:List Nat} {l:NmL} {m:List (List UInt8×Option Nat)} (h:NmP fb l m) (hn: (l.map Prod.fst).Nodup) (s:List UInt8):NmP fb (qI_ l s) (delG s m):=by
 unfold NmP
 rw[aiY_ s (h.keys hn),←afN_]
 exact h.filter _
theorem NmP.put {fb:List Nat} {l:NmL} {m:List (List UInt8×Option Nat)} (h:NmP fb l m) (hn: (l.map Prod.fst).Nodup) (s:List UInt8) (n:Nat):NmP fb (KK_ l (s,n)) (updG s (some (fb.getD n 0)) m):=by
 refine(abe_ s _ (h.keys hn)).trans ?_
 unfold KK_
 refine List.Perm.trans ?_ ((xF_ (s,n) (qI_ l s)).map (ptrN fb)).symm
 rw[List.map_cons,←afN_]
 exact(h.filter _).cons _
theorem NmP.mono {fb fb':List Nat} {l:NmL} {m:List (List UInt8×Option Nat)} (h:NmP fb l m) (hb: ∀p,p∈l→fb'.getD p.2 0=fb.getD p.2 0):NmP fb' l m:=by
 unfold NmP at h ⊢
 rw[show l.map (ptrN fb')=l.map (ptrN fb) from List.map_congr_left fun p hp=>by unfold ptrN;rw[hb p hp]]
 exact h
def z9_:List UInt8:= [108,111,111,115,101]
def vT_:List UInt8:= [112,97,99,107]
def refD:List UInt8:= [114,101,102]
def jY_ (k:Nat):List UInt8:=match k with|0=>z9_|1=>vT_|_=>refD
def zE_ (s:List UInt8):Option Nat:=if s==z9_ then some 0 else if s==vT_ then some 1 else if s==refD then some 2 else none
theorem qD_ {s:List UInt8} {k:Nat} (h:zE_ s=some k):k<3∧s=jY_ k:=by
 unfold zE_ at h
 split at h
 ·rename_i e;cases h;exact⟨by omega,eq_of_beq e⟩
 ·split at h
  ·rename_i e;cases h;exact⟨by omega,eq_of_beq e⟩
  ·split at h
   ·rename_i e;cases h;exact⟨by omega,eq_of_beq e⟩
   ·cases h
theorem jG_ {k:Nat} (h:k<3):zE_ (jY_ k)=some k:=by
 have:k=0∨k=1∨k=2:=by omega
 rcases this with rfl|rfl|rfl<;>rfl
def qr_ (l:NmL) (c:CallL):NmL:=match c.kind with
 |0=>KK_ l (c.a,c.n)
 |1=>KK_ (qI_ l c.a) (c.b,(zC_ l c.a).getD 0)
 |_=>qI_ l c.a
def zZ_ (S:DiskL) (k:Nat) (d:DirL):DiskL:={S with dir:=fun j=>if j=k then d else S.dir j}
def jg_ (S:DiskL) (dir:List UInt8) (names:List (List UInt8)):Nat:=if zE_ dir=none∨names.all qp_=false then 1 else if S.off=true then 9 else 0
def zm_ (S:DiskL):DiskL×Nat:=if S.fused=true∧S.fuse=0 then({S with off:=true},9) else if S.fused=true then({S with fuse:=S.fuse - 1},0) else(S,0)
def xs_ (S:DiskL) (l:NmL):Nat:=(l.map fun p=>(S.files.getD p.2 q2_).data.length).sum
def kn_ (S:DiskL):Nat:=xs_ S (S.dir 0).seen+xs_ S (S.dir 1).seen+xs_ S (S.dir 2).seen
structure DkOk (S:DiskL):Prop where
 seen: ∀k,k<3→SrtN (S.dir k).seen
 stl: ∀k,k<3→SrtN (S.dir k).stl
 seenN: ∀k,k<3→ ∀p,p∈ (S.dir k).seen→p.2<S.files.length
 stlN: ∀k,k<3→ ∀p,p∈ (S.dir k).stl→p.2<S.files.length
 pendN: ∀k,k<3→ ∀c,c∈ (S.dir k).pend→c.kind=0→c.n<S.files.length
 file: ∀f,f∈S.files→f.data.length≤1048576∧f.stl≤f.data.length
 fuse: -9223372036854775808≤S.fuse∧S.fuse<9223372036854775808∧(S.fused=true→0≤S.fuse)
 max: -9223372036854775808≤S.max∧S.max<9223372036854775808
end Go.Proofs
end
section
open Go Go.Proofs Go.Sx Go.StP
namespace Go.Proofs
set_option maxRecDepth 10000
set_option maxHeartbeats 400000
set_option linter.unusedSimpArgs false
def kc_ (f:FileL):Obj:= .cells #[vs f.data,vi (f.stl:Int)] 126 (0,0)
def xW_ (a b:Nat) (v:Value):Obj:= .cells #[vm a,vm b,v] 130 (0,0)
def jr_ (bm:Nat) (S:DiskL):Obj:= .cells #[vm bm,vi S.max,vi S.fuse, .bool S.fused, .bool S.off] 123 (0,0)
def vB_ (s:List UInt8):Obj:= .cells #[vs s] 9 (0,0)
def VI_ (b:Nat):Obj:= .cells #[vp b 0] 124 (0,0)
structure DkG where
 bd:Nat
 bm:Nat
 d:Nat→Nat
 s:Nat→Nat
 t:Nat→Nat
 p:Nat→Value
 fb:List Nat
def Jr_ (G:DkG):List (List UInt8×Option Nat):= [(z9_,some (G.d 0)),(vT_,some (G.d 1)),(refD,some (G.d 2))]
def FnP (X:zc_) (fb:List Nat) (v:Value) (c:CallL):Prop:=match c.kind with
 |0=> ∃b1 b2,v= .func (.func 159) #[] #[vp b1 0,vp b2 0]∧Sx.look X b1=some (VI_ (fb.getD c.n 0))∧Sx.look X b2=some (vB_ c.a)
 |1=> ∃b1 b2,v= .func (.func 121) #[] #[vp b1 0,vp b2 0]∧Sx.look X b1=some (vB_ c.a)∧Sx.look X b2=some (vB_ c.b)
 |_=> ∃b1,v= .func (.func 161) #[] #[vp b1 0]∧Sx.look X b1=some (vB_ c.a)
def NmM (X:zc_) (fb:List Nat) (b:Nat) (l:NmL):Prop:= ∃o m,Sx.look X b=some o∧wY_ vs qT_ o m∧NmP fb l m
structure DkP (X:zc_) (G:DkG) (S:DiskL):Prop where
 disk:Sx.look X G.bd=some (jr_ G.bm S)
 dirs: ∃o,Sx.look X G.bm=some o∧wY_ vs qT_ o (Jr_ G)
 dir: ∀k,k<3→Sx.look X (G.d k)=some (xW_ (G.s k) (G.t k) (G.p k))
 seen: ∀k,k<3→NmM X G.fb (G.s k) (S.dir k).seen
 stl: ∀k,k<3→NmM X G.fb (G.t k) (S.dir k).stl
 pend: ∀k,k<3→ ∃vals:List Value,vals.length=(S.dir k).pend.length∧Gr X 137 1 (G.p k) vals.length vals∧ ∀i,i<vals.length→FnP X G.fb (vals.getD i undef) ((S.dir k).pend.getD i wa_)
 file: ∀n,n<S.files.length→Sx.look X (G.fb.getD n 0)=some (kc_ (S.files.getD n q2_))
 len:G.fb.length=S.files.length
 nodf:G.fb.Nodup
 nodm: [G.s 0,G.s 1,G.s 2,G.t 0,G.t 1,G.t 2].Nodup
 nodd: [G.d 0,G.d 1,G.d 2].Nodup
 nodb: ∀k,k<3→G.bm≠G.s k∧G.bm≠G.t k
 nodp: ∀i j,i<3→j<3→i≠j→ ∀b,slB (G.p i)=some b→slB (G.p j)≠some b
 ok:DkOk S
def DkW (w:World) (G:DkG) (S:DiskL):Prop:= ∃X,(∀b o,Sx.look X b=some o→w.heap[b]? =some o)∧DkP X G S
theorem FnP.keep {X X':zc_} {fb:List Nat} {v:Value} {c:CallL} (h:FnP X fb v c) (hk: ∀b o,Sx.look X b=some o→((∃s,o=vB_ s)∨ ∃a,o=VI_ a)→Sx.look X' b=some o):FnP X' fb v c:=by
 unfold FnP at h ⊢
 split at h
 ·obtain⟨b1,b2,h1,h2,h3⟩:=h;exact⟨b1,b2,h1,hk _ _ h2 (.inr ⟨_,rfl⟩),hk _ _ h3 (.inl ⟨_,rfl⟩)⟩
 ·obtain⟨b1,b2,h1,h2,h3⟩:=h;exact⟨b1,b2,h1,hk _ _ h2 (.inl ⟨_,rfl⟩),hk _ _ h3 (.inl ⟨_,rfl⟩)⟩
 ·obtain⟨b1,h1,h2⟩:=h;exact⟨b1,h1,hk _ _ h2 (.inl ⟨_,rfl⟩)⟩
theorem NmM.keep {X X':zc_} {fb:List Nat} {b:Nat} {l:NmL} (h:NmM X fb b l) (hk: ∀o,Sx.look X b=some o→Sx.look X' b=some o):NmM X' fb b l:=by
 obtain⟨o,m,h1,h2,h3⟩:=h;exact⟨o,m,hk _ h1,h2,h3⟩
theorem kC_ {L:zc_} {E:TypeId} {m n:Nat} {v:Value} {cs:List Value} (h:Gr L E m v n cs) {b:Nat} (hb:slB v=some b): ∃arr,Sx.look L b=some (.cells arr E (0,0)):=by
 rcases h with h| ⟨-,-,c,rfl,h⟩
 ·cases h with
  |nl=>cases hb
  |at_ hl=>cases hb;exact⟨_,hl⟩
 ·cases hb;exact⟨_,h⟩
def tyO:Obj→Option TypeId
 | .cells _ t _=>some t
 |_=>none
theorem qU_ {α β:Type} {encK:α→Value} {encV:β→Value} {o:Obj} {m:List (α×β)} (h:wY_ encK encV o m):tyO o=none:=by
 obtain⟨es,c,rfl,-⟩:=h;rfl
theorem qj_ {X:zc_} {c b:Nat} {oc x o:Obj} (hc:Sx.look X c=some oc) (hb:Sx.look X b=some o) (ht:tyO o≠tyO oc):Sx.look (setB X c x) b=some o:=by
 rw[zb_ (by rintro rfl;rw[hc] at hb;cases hb;exact ht rfl)];exact hb
theorem DkP.mono {X X':zc_} {G:DkG} {S:DiskL} (h:DkP X G S) (hk: ∀b o,Sx.look X b=some o→Sx.look X' b=some o):DkP X' G S where
 disk:=hk _ _ h.disk
 dirs:=by obtain⟨o,h1,h2⟩:=h.dirs;exact⟨o,hk _ _ h1,h2⟩
 dir k hk':=hk _ _ (h.dir k hk')
 seen k hk':=(h.seen k hk').keep fun o=>hk _ o
 stl k hk':=(h.stl k hk').keep fun o=>hk _ o
 pend k hk':=by
  obtain⟨vals,h1,h2,h3⟩:=h.pend k hk'
  exact⟨vals,h1,h2.keep fun b o _=>hk b o,fun i hi=>(h3 i hi).keep fun b o ho _=>hk b o ho⟩
 file n hn:=hk _ _ (h.file n hn)
 len:=h.len
 nodf:=h.nodf
 nodm:=h.nodm
 nodd:=h.nodd
 nodb:=h.nodb
 nodp:=h.nodp
 ok:=h.ok
theorem DkP.setDisk {X:zc_} {G:DkG} {S:DiskL} (h:DkP X G S) (S':DiskL) (hd:S'.dir=S.dir) (hf:S'.files=S.files) (ok:DkOk S'):DkP (setB X G.bd (jr_ G.bm S')) G S' where
 disk:=zw_ h.disk
 dirs:=by obtain⟨o,h1,h2⟩:=h.dirs;exact⟨o,qj_ h.disk h1 (by rw[qU_ h2];intro e;cases e),h2⟩
 dir k hk':=qj_ h.disk (h.dir k hk') (by simp[tyO,xW_,jr_])
 seen k hk':=by
  rw[hd]
  obtain⟨o,m,h1,h2,h3⟩:=h.seen k hk'
  exact⟨o,m,qj_ h.disk h1 (by rw[qU_ h2];intro e;cases e),h2,h3⟩
 stl k hk':=by
  rw[hd]
  obtain⟨o,m,h1,h2,h3⟩:=h.stl k hk'
  exact⟨o,m,qj_ h.disk h1 (by rw[qU_ h2];intro e;cases e),h2,h3⟩
 pend k hk':=by
  rw[hd]
  obtain⟨vals,h1,h2,h3⟩:=h.pend k hk'
  refine⟨vals,h1,h2.keep fun b o hb ho=> ?_,fun i hi=>(h3 i hi).keep fun b o ho hx=>qj_ h.disk ho ?_⟩
  ·obtain⟨arr,ha⟩:=kC_ h2 hb
   rw[ho] at ha;cases ha
   exact qj_ h.disk ho (by simp[tyO,jr_])
  ·rcases hx with⟨s,rfl⟩ | ⟨a,rfl⟩<;>simp[tyO,jr_,vB_,VI_]
 file n hn:=by rw[hf] at hn ⊢;exact qj_ h.disk (h.file n hn) (by simp[tyO,jr_,kc_])
 len:=by rw[hf];exact h.len
 nodf:=h.nodf
 nodm:=h.nodm
 nodd:=h.nodd
 nodb:=h.nodb
 nodp:=h.nodp
 ok:=ok
theorem DkP.setFile {X:zc_} {G:DkG} {S:DiskL} (h:DkP X G S) {n:Nat} (hn:n<S.files.length) (f:FileL) (ok:DkOk {S with files:=S.files.set n f}):DkP (setB X (G.fb.getD n 0) (kc_ f)) G {S with files:=S.files.set n f} where
 disk:=qj_ (h.file n hn) h.disk (by simp[tyO,jr_,kc_])
 dirs:=by obtain⟨o,h1,h2⟩:=h.dirs;exact⟨o,qj_ (h.file n hn) h1 (by rw[qU_ h2];intro e;cases e),h2⟩
 dir k hk':=qj_ (h.file n hn) (h.dir k hk') (by simp[tyO,xW_,kc_])
 seen k hk':=by
  obtain⟨o,m,h1,h2,h3⟩:=h.seen k hk'
  exact⟨o,m,qj_ (h.file n hn) h1 (by rw[qU_ h2];intro e;cases e),h2,h3⟩
 stl k hk':=by
  obtain⟨o,m,h1,h2,h3⟩:=h.stl k hk'
  exact⟨o,m,qj_ (h.file n hn) h1 (by rw[qU_ h2];intro e;cases e),h2,h3⟩
 pend k hk':=by
  obtain⟨vals,h1,h2,h3⟩:=h.pend k hk'
  refine⟨vals,h1,h2.keep fun b o hb ho=> ?_,fun i hi=>(h3 i hi).keep fun b o ho hx=>qj_ (h.file n hn) ho ?_⟩
  ·obtain⟨arr,ha⟩:=kC_ h2 hb
   rw[ho] at ha;cases ha
   exact qj_ (h.file n hn) ho (by simp[tyO,kc_])
  ·rcases hx with⟨s,rfl⟩ | ⟨a,rfl⟩<;>simp[tyO,kc_,vB_,VI_]
 file i hi:=by
  simp only[List.length_set] at hi
  by_cases e:i=n
  ·subst e
   rw[zw_ (h.file i hn),List.getD_eq_getElem?_getD,List.getElem?_set_self hn];rfl
  ·have hl:=h.len
   have hne:G.fb.getD i 0≠G.fb.getD n 0:=by
    intro e2
    rw[List.getD_eq_getElem?_getD,List.getD_eq_getElem?_getD,List.getElem?_eq_getElem (by omega),List.getElem?_eq_getElem (by omega)] at e2
    simp only[Option.getD_some] at e2
    rcases Nat.lt_or_gt_of_ne e with hlt|hlt
    ·exact(List.pairwise_iff_getElem.1 h.nodf) i n (by omega) (by omega) hlt e2
    ·exact(List.pairwise_iff_getElem.1 h.nodf) n i (by omega) (by omega) hlt e2.symm
   rw[zb_ (Ne.symm hne),h.file i hi,List.getD_eq_getElem?_getD,List.getD_eq_getElem?_getD,List.getElem?_set_ne (Ne.symm e)]
 len:=by rw[List.length_set];exact h.len
 nodf:=h.nodf
 nodm:=h.nodm
 nodd:=h.nodd
 nodb:=h.nodb
 nodp:=h.nodp
 ok:=ok
theorem DkP.world {X:zc_} {G:DkG} {S:DiskL} {w0 w:World} (h:DkP X G S) (hw:Hp w0 X w):DkW w G S:=⟨X,fun _ _ hb=>hw.has _ _ (zp_ hb),h⟩
theorem DkP.worldX {X:zc_} {G:DkG} {S:DiskL} {w:World} (h:DkP X G S) (hX: ∀p,p∈X→w.heap[p.1]? =some p.2):DkW w G S:=⟨X,fun _ _ hb=>hX _ (zp_ hb),h⟩
theorem DkW.old {w w':World} {L:zc_} {G:DkG} {S:DiskL} (h:DkW w G S) (hw:Hp w L w') (hn:New w.heap.size L):DkW w' G S:=by
 obtain⟨X,h1,h2⟩:=h
 refine⟨X,fun b o hb=> ?_,h2⟩
 have hlt:=(Array.getElem?_eq_some_iff.1 (h1 b o hb)).1
 rw[hw.old b hlt (hn.not hlt)];exact h1 b o hb
end Go.Proofs
end
section
open Go Go.Proofs Go.Sx Go.StP
namespace Go.Proofs
set_option maxRecDepth 10000
set_option maxHeartbeats 400000
set_option linter.unusedSimpArgs false
theorem qx_ (bm:Nat) (S:DiskL) (n:Nat):zk_ (some (false,n)) (some (jr_ bm S)) 0=some (vm bm):=(rfl)
theorem k9_ (bm:Nat) (S:DiskL) (n:Nat):zk_ (some (false,n)) (some (jr_ bm S)) 1=some (vi S.max):=(rfl)
theorem aaI_ (bm:Nat) (S:DiskL) (n:Nat):zk_ (some (false,n)) (some (jr_ bm S)) 2=some (vi S.fuse):=(rfl)
theorem abR_ (bm:Nat) (S:DiskL) (n:Nat):zk_ (some (false,n)) (some (jr_ bm S)) 3=some (.bool S.fused):=(rfl)
theorem abJ_ (bm:Nat) (S:DiskL) (n:Nat):zk_ (some (false,n)) (some (jr_ bm S)) 4=some (.bool S.off):=(rfl)
theorem agj_ (bm:Nat) (S:DiskL) (x:Int) (a:Bool):zn_ (some (a,1)) (some (jr_ bm S)) 1 (vi x)=some (jr_ bm {S with max:=x}):=zs_ [vm bm] [vi S.max] [vi x] [vi S.fuse, .bool S.fused, .bool S.off] a _ 123 rfl rfl rfl rfl rfl
theorem agt_ (bm:Nat) (S:DiskL) (x:Int) (a:Bool):zn_ (some (a,1)) (some (jr_ bm S)) 2 (vi x)=some (jr_ bm {S with fuse:=x}):=zs_ [vm bm,vi S.max] [vi S.fuse] [vi x] [.bool S.fused, .bool S.off] a _ 123 rfl rfl rfl rfl rfl
theorem V1_ (bm:Nat) (S:DiskL) (x:Bool) (a:Bool):zn_ (some (a,1)) (some (jr_ bm S)) 3 (.bool x)=some (jr_ bm {S with fused:=x}):=zs_ [vm bm,vi S.max,vi S.fuse] [.bool S.fused] [.bool x] [.bool S.off] a _ 123 rfl rfl rfl rfl rfl
theorem Wa_ (bm:Nat) (S:DiskL) (x:Bool) (a:Bool):zn_ (some (a,1)) (some (jr_ bm S)) 4 (.bool x)=some (jr_ bm {S with off:=x}):=zs_ [vm bm,vi S.max,vi S.fuse, .bool S.fused] [.bool S.off] [.bool x] [] a _ 123 rfl rfl rfl rfl rfl
theorem qV_ (a b:Nat) (v:Value) (n:Nat):zk_ (some (false,n)) (some (xW_ a b v)) 0=some (vm a):=(rfl)
theorem qP_ (a b:Nat) (v:Value) (n:Nat):zk_ (some (false,n)) (some (xW_ a b v)) 1=some (vm b):=(rfl)
theorem qQ_ (a b:Nat) (v:Value) (n:Nat):zk_ (some (false,n)) (some (xW_ a b v)) 2=some v:=(rfl)
theorem kt_ (f:FileL) (n:Nat):zk_ (some (false,n)) (some (kc_ f)) 0=some (vs f.data):=(rfl)
theorem kx_ (f:FileL) (n:Nat):zk_ (some (false,n)) (some (kc_ f)) 1=some (vi (f.stl:Int)):=(rfl)
theorem QZ_ (f:FileL) (x:List UInt8) (a:Bool):zn_ (some (a,1)) (some (kc_ f)) 0 (vs x)=some (kc_ {f with data:=x}):=zs_ [] [vs f.data] [vs x] [vi (f.stl:Int)] a _ 126 rfl rfl rfl rfl rfl
theorem QR_ (f:FileL) (x:Nat) (a:Bool):zn_ (some (a,1)) (some (kc_ f)) 1 (vi (x:Int))=some (kc_ {f with stl:=x}):=zs_ [vs f.data] [vi (f.stl:Int)] [vi (x:Int)] [] a _ 126 rfl rfl rfl rfl rfl
theorem amW_ (b o:Nat):qE_ Tryz.prog .eql 27 (vp b o) (.pointer none)=some (.bool false):=by
 simp[qE_,eqX,qe_,qd_,Tryz.underlying27,vp]
theorem ann_ (b o:Nat):qE_ Tryz.prog .neq 27 (vp b o) (.pointer none)=some (.bool true):=by
 simp[qE_,eqX,qe_,qd_,Tryz.underlying27,vp]
theorem agv_ (b o:Nat):qE_ Tryz.prog .eql 120 (vp b o) (.pointer none)=some (.bool false):=by
 simp[qE_,eqX,qe_,qd_,Tryz.underlying120,vp]
theorem V0_:qE_ Tryz.prog .eql 120 (.pointer none) (.pointer none)=some (.bool true):=by
 simp[qE_,eqX,qe_,qd_,Tryz.underlying120]
theorem akH_ (b o:Nat):qE_ Tryz.prog .eql 124 (vp b o) (.pointer none)=some (.bool false):=by
 simp[qE_,eqX,qe_,qd_,Tryz.underlying124,vp]
theorem acd_:qE_ Tryz.prog .eql 124 (.pointer none) (.pointer none)=some (.bool true):=by
 simp[qE_,eqX,qe_,qd_,Tryz.underlying124]
theorem zrPd:zL_ Tryz.prog 120=some (qT_ none):=id (by kernel_rfl)
theorem zrPf:zL_ Tryz.prog 124=some (qT_ none):=id (by kernel_rfl)
theorem jM_:KeyOk Tryz.prog 9 vs:=KeyOk.str Tryz.underlying9
theorem Z7_ (G:DkG) (s:List UInt8):getG s none (Jr_ G)=(zE_ s).map G.d:=by
 unfold getG Jr_ zE_
 rw[List.find?_cons,List.find?_cons,List.find?_cons,List.find?_nil]
 cases h1:s==z9_
 ·cases h2:s==vT_
  ·cases h3:s==refD<;>rfl
  ·rfl
 ·rfl
set_option linter.defProp false
def wb_:=And.intro (And.intro (And.intro (@zg_) (And.intro (@zf_) (@qx_))) (And.intro (@k9_) (And.intro (@aaI_) (@abR_)))) (And.intro (And.intro (@abJ_) (And.intro (@agj_) (@agt_))) (And.intro (And.intro (@V1_) (@Wa_)) (And.intro (@amW_) (@ann_))))
theorem vh_ (b bm:Nat) (S:DiskL) (w:World) (hf: -9223372036854775808≤S.fuse∧S.fuse<9223372036854775808∧(S.fused=true→0≤S.fuse)) (ho:w.heap[b]? =some (jr_ bm S)):
  Rets Tryz.prog 81 #[vp b 0] w (fun v D=> ∃o,D= [(b,o)]∧v=vi (zm_ S).2∧o=jr_ bm (zm_ S).1):=by
 refine Rets.enterM Tryz.func81 rfl (rs:= [.tmp 2]) Tryz.results81 Tryz.ntmps81 ho ?_
 refine kf ?_
 unfold zm_
 cases hfd:S.fused with
 |false=>
  rw[if_neg (by simp),if_neg (by simp)]
  first|with_reducible refine ks [] (And.intro @wb_ @hfd) ?_|refine kp (And.intro @wb_ @hfd) ?_
  refine⟨_,_,_,(ke @wb_),rfl,trivial, ?_⟩
  exact⟨rfl,rfl⟩
 |true=>
  by_cases h0:S.fuse=0
  ·have e0: (S.fuse==0)=true:=beq_iff_eq.2 h0
   rw[if_pos ⟨rfl,h0⟩]
   first|with_reducible refine ks [] (And.intro @wb_ (And.intro @hfd (@e0))) ?_|refine kp (And.intro @wb_ (And.intro @hfd (@e0))) ?_
   refine⟨_,_,_,(ke @wb_),rfl,trivial, ?_⟩
   exact⟨rfl,rfl⟩
  ·have e0: (S.fuse==0)=false:=beq_eq_false_iff_ne.2 h0
   have h1:=hf.2.2 hfd
   rw[if_neg (fun h=>h0 h.2),if_pos rfl]
   first|with_reducible refine ks [] (And.intro @wb_ (And.intro @hfd (@e0))) ?_|refine kp (And.intro @wb_ (And.intro @hfd (@e0))) ?_
   refine⟨_,_,_,(ke @wb_),rfl,trivial, ?_⟩
   exact⟨rfl,rfl⟩
theorem ai2_ (w:World) (G:DkG) (S:DiskL) (hD:DkW w G S):Rets Tryz.prog 34 #[vp G.bd 0] w (fun v D=>v= .bool S.off∧D= []):=by
 obtain⟨X,hX,hP⟩:=hD
 have hd:=hX _ _ hP.disk
 refine Rets.enterV Tryz.func34 rfl (rs:= [.tmp 2]) Tryz.results34 Tryz.ntmps34 ?_
 refine kf ?_
 first|with_reducible refine ks [] (And.intro @wb_ @hd) ?_|refine kp (And.intro @wb_ @hd) ?_
 refine⟨_,(ke @wb_),trivial, ?_⟩
 rfl
theorem aeo_ (b bm:Nat) (S:DiskL) (n:Int) (w:World) (ho:w.heap[b]? =some (jr_ bm S)):
  Rets Tryz.prog 78 #[vp b 0,vi n] w (fun v D=> ∃o,D= [(b,o)]∧v=vj_ []∧o=jr_ bm {S with max:=n}):=by
 refine Rets.enterM Tryz.func78 rfl (rs:= []) Tryz.results78 Tryz.ntmps78 ho ?_
 refine kf ?_
 first|with_reducible refine ks [] @wb_ ?_|refine kp @wb_ ?_
 refine⟨_,_,_,(ke @wb_),rfl,trivial, ?_⟩
 exact⟨rfl,rfl⟩
theorem af9_ (b bm:Nat) (S:DiskL) (n:Int) (w:World) (ho:w.heap[b]? =some (jr_ bm S)):
  Rets Tryz.prog 37 #[vp b 0,vi n] w (fun v D=> ∃o,D= [(b,o)]∧v=vj_ []∧o=jr_ bm {S with fuse:=n,fused:=decide (0≤n)}):=by
 refine Rets.enterM Tryz.func37 rfl (rs:= []) Tryz.results37 Tryz.ntmps37 ho ?_
 refine kf ?_
 first|with_reducible refine ks [] @wb_ ?_|refine kp @wb_ ?_
 refine⟨_,_,_,(ke @wb_),rfl,trivial, ?_⟩
 exact⟨rfl,rfl⟩
def aqg_ (G:DkG) (S:DiskL) (dir:List UInt8) (names:List (List UInt8)) (v:Value):Prop:=
 (jg_ S dir names≠0∧v= .tuple #[.pointer none,vi (jg_ S dir names:Nat)])∨(jg_ S dir names=0∧ ∃k,zE_ dir=some k∧v= .tuple #[vp (G.d k) 0,vi 0])
set_option linter.defProp false
def vC_:=And.intro (And.intro (And.intro (@zg_) (@zf_)) (And.intro (@qx_) (And.intro (@k9_) (@aaI_)))) (And.intro (And.intro (@abR_) (And.intro (@abJ_) (@amW_))) (And.intro (@ann_) (And.intro (@agv_) (@V0_))))
theorem jX_ (w:World) (G:DkG) (S:DiskL) (dir:List UInt8) (v:Value) (names:List (List UInt8)) (hD:DkW w G S) (hv:adK_ w v names) (hl:names.length<1000000) (hs: ∀s,s∈names→s.length<1099511627776):
  Rets Tryz.prog 80 #[vp G.bd 0,vs dir,v] w (fun v D=>aqg_ G S dir names v∧D= []):=by
 obtain⟨X,hX,hP⟩:=hD
 have hd:=hX _ _ hP.disk
 obtain⟨om,hom,hM⟩:=hP.dirs
 have hb:=hX _ _ hom
 refine Rets.enterV Tryz.func80 rfl (rs:= [.tmp 6, .tmp 7]) Tryz.results80 Tryz.ntmps80 ?_
 refine kf ?_
 first|with_reducible refine ks [] (And.intro @vC_ @hd) ?_|refine kp (And.intro @vC_ @hd) ?_
 refine Ow.mapGetG (encK:=vs) (encV:=qT_) (k:=dir) (z:=none) rfl rfl Tryz.underlying121 jM_ zrPd rfl rfl hb hM ?_
 rw[Z7_]
 unfold aqg_ jg_
 cases hw:zE_ dir with
 |none=>
  rw[if_pos (.inl rfl)]
  have hp0:qT_ none= .pointer none:=rfl
  refine ko (And.intro @vC_ @hp0) ?_
  first|with_reducible refine ks [] @vC_ ?_|refine kp @vC_ ?_
  refine⟨_,(ke @vC_),trivial, ?_⟩
  exact .inl ⟨by decide,rfl⟩
 |some k=>
  have hp: ∀q:Nat,qT_ (some q)=vp q 0:=fun _=>rfl
  refine ko (And.intro @vC_ @hp) ?_
  refine Ow.callFV rfl Tryz.call125 (fun w' hw'=>Vm_ v names w' (hv.oldN hw' trivial) hl hs) ?_
  cases hal:names.all qp_ with
  |false=>
   rw[if_pos (.inr rfl)]
   refine ko @vC_ ?_
   first|with_reducible refine ks [] @vC_ ?_|refine kp @vC_ ?_
   refine⟨_,(ke @vC_),trivial, ?_⟩
   exact .inl ⟨by decide,rfl⟩
  |true=>
   rw[if_neg (by simp)]
   cases hof:S.off with
   |true=>
    rw[if_pos rfl]
    refine ko @vC_ ?_
    first|with_reducible refine ks [] (And.intro @vC_ (And.intro @hd (@hof))) ?_|refine kp (And.intro @vC_ (And.intro @hd (@hof))) ?_
    refine⟨_,(ke @vC_),trivial, ?_⟩
    exact .inl ⟨by decide,rfl⟩
   |false=>
    rw[if_neg (by simp)]
    refine ko @vC_ ?_
    first|with_reducible refine ks [] (And.intro @vC_ (And.intro @hd (@hof))) ?_|refine kp (And.intro @vC_ (And.intro @hd (@hof))) ?_
    refine⟨_,(ke @vC_),trivial, ?_⟩
    exact .inr ⟨rfl,k,rfl,rfl⟩
end Go.Proofs
end
section
open Go Go.Proofs Go.Sx Go.StP
namespace Go.Proofs
set_option maxRecDepth 10000
set_option maxHeartbeats 400000
set_option linter.unusedSimpArgs false
theorem ace_ {w:World} {b:Nat} {s:List UInt8} {E:TypeId} (h:w.heap[b]? =some (.cells #[vs s] E (0,0))):adK_ w (vsl b 0 1 1) [s]:=
 SlV.sl (l:= [s]) h (fun k hk j hj=>by
  obtain rfl:k=0:=by simpa using hk
  obtain rfl:j=0:=by omega
  rfl) (Nat.le_refl _) (by simp)
theorem aqO_ {w:World} {b:Nat} {s u:List UInt8} {E:TypeId} (h:w.heap[b]? =some (.cells #[vs s,vs u] E (0,0))):adK_ w (vsl b 0 2 2) [s,u]:=
 SlV.sl (l:= [s,u]) h (fun k hk j hj=>by
  obtain rfl:j=0:=by omega
  have:k=0∨k=1:=by simp at hk;omega
  rcases this with rfl|rfl<;>rfl) (Nat.le_refl _) (by simp)
theorem agr_ {S:DiskL} {dir:List UInt8} {names:List (List UInt8)} (h:jg_ S dir names=0):zE_ dir≠none∧names.all qp_=true∧S.off=false:=by
 unfold jg_ at h
 split at h
 ·cases h
 ·split at h
  ·cases h
  ·rename_i h1 h2
   refine⟨fun e=>h1 (.inl e), ?_,by simpa using h2⟩
   cases e:names.all qp_ with
   |true=>rfl
   |false=>exact absurd (.inr e) h1
def Zl_ (S:DiskL) (dir name:List UInt8):List UInt8×Nat:=
 if jg_ S dir [name]≠0 then([],jg_ S dir [name]) else match(zE_ dir).bind fun k=>zC_ (S.dir k).seen name with
  |none=>([],6)
  |some n=>((S.files.getD n q2_).data,0)
theorem xu_ {n:Nat} (h:n≠0): ((n:Int) !=0)=true:=bne_iff_ne.2 (by omega)
set_option linter.defProp false
def wc_:=And.intro (And.intro (And.intro (And.intro (@zg_) (@zf_)) (And.intro (@qx_) (@qV_))) (And.intro (And.intro (@qP_) (@qQ_)) (And.intro (@kt_) (And.intro (@kx_) (@agv_))))) (And.intro (And.intro (And.intro (@V0_) (@akH_)) (And.intro (@acd_) (@Sx.tup2_0))) (And.intro (And.intro (@Sx.tup2_1) (@Je_)) (And.intro (@Sx.tup3_0) (And.intro (@Sx.tup3_1) (@Sx.tup3_2)))))
theorem VF_ (w:World) (G:DkG) (S:DiskL) (dir name:List UInt8) (hD:DkW w G S) (hn:name.length<1099511627776):
  Rets Tryz.prog 23 #[vp G.bd 0,vs dir,vs name] w (fun v D=>v= .tuple #[vs (Zl_ S dir name).1,vi ((Zl_ S dir name).2:Nat)]∧D= []):=by
 have hD':=hD
 obtain⟨X,hX,hP⟩:=hD
 refine Rets.enterV Tryz.func23 rfl (rs:= [.tmp 6, .tmp 7]) Tryz.results23 Tryz.ntmps23 ?_
 refine kf ?_
 first|with_reducible refine ks [] @wc_ ?_|refine kp @wc_ ?_
 refine Ow.buildSlice (e:=9) #[vs name] rfl rfl (by kernel_rfl) fun b1 hb1 hw1=> ?_
 refine ko @wc_ ?_
 have hN1:New w.heap.size [(b1,Obj.cells #[vs name] 9 (0,0))]:=⟨hw1,trivial⟩
 refine Ow.callC rfl rfl Tryz.call80 (fun w' hw'=>Rets.toX (jX_ w' G S dir (vsl b1 0 1 1) [name] (hD'.old hw' hN1) (ace_ (hw'.has _ _ List.mem_cons_self)) (by simp) (by simpa using hn))) (fun B2 v2 D2 hA2 hB2 hN2 hS2=> ?_)
 obtain⟨rfl,hS2⟩:=hS2
 rw[List.append_nil]
 unfold Zl_
 rcases hS2 with⟨he,rfl⟩ | ⟨he,k,hk,rfl⟩
 ·rw[if_pos he]
  have e1:=xu_ he
  refine ko @wc_ ?_
  first|with_reducible refine ks [] (And.intro @wc_ @e1) ?_|refine kp (And.intro @wc_ @e1) ?_
  refine⟨_,(ke @wc_),hN1, ?_⟩
  rfl
 ·rw[if_neg (by rw[he];simp),hk]
  have hk3:=(qD_ hk).1
  have hdr:=hX _ _ (hP.dir k hk3)
  obtain⟨os,ms,hos,hms,hnp⟩:=hP.seen k hk3
  have hso:=hX _ _ hos
  have hl1:=(Array.getElem?_eq_some_iff.1 hdr).1
  have hl2:=(Array.getElem?_eq_some_iff.1 hso).1
  have hr1:zA_ w [(b1,Obj.cells #[vs name] 9 (0,0))] (G.d k)=some (xW_ (G.s k) (G.t k) (G.p k)):=by rw[z2_ (hN1.not hl1)];exact hdr
  have hr2:zA_ w [(b1,Obj.cells #[vs name] 9 (0,0))] (G.s k)=some os:=by rw[z2_ (hN1.not hl2)];exact hso
  have e1: ((0:Int) !=0)=false:=rfl
  refine ko @wc_ ?_
  first|with_reducible refine ks [] (And.intro @wc_ (And.intro @e1 (And.intro @hdr (@hr1)))) ?_|refine kp (And.intro @wc_ (And.intro @e1 (And.intro @hdr (@hr1)))) ?_
  refine Ow.mapGetG (encK:=vs) (encV:=qT_) (k:=name) (z:=none) rfl rfl Tryz.underlying127 jM_ zrPf rfl rfl hr2 hms ?_
  rw[hnp.get (hP.ok.seen k hk3).nodup]
  show Ow _ _ _ _ _ _ _ _
  cases hf:zC_ (S.dir k).seen name with
  |none=>
   have hf': (some k).bind (fun k=>zC_ (S.dir k).seen name)=none:=hf
   rw[hf']
   have hp0:qT_ none= .pointer none:=rfl
   refine ko (And.intro @wc_ @hp0) ?_
   first|with_reducible refine ks [] @wc_ ?_|refine kp @wc_ ?_
   refine⟨_,(ke @wc_),hN1, ?_⟩
   rfl
  |some n=>
   have hf': (some k).bind (fun k=>zC_ (S.dir k).seen name)=some n:=hf
   rw[hf']
   have hnl:=hP.ok.seenN k hk3 _ (jO_ hf)
   have hfl:=hX _ _ (hP.file n hnl)
   have hl3:=(Array.getElem?_eq_some_iff.1 hfl).1
   have hr3:zA_ w [(b1,Obj.cells #[vs name] 9 (0,0))] (G.fb.getD n 0)=some (kc_ (S.files.getD n q2_)):=by rw[z2_ (hN1.not hl3)];exact hfl
   have hp: ∀q:Nat,qT_ (some q)=vp q 0:=fun _=>rfl
   refine ko (And.intro @wc_ @hp) ?_
   first|with_reducible refine ks [] (And.intro @wc_ (And.intro @hfl (@hr3))) ?_|refine kp (And.intro @wc_ (And.intro @hfl (@hr3))) ?_
   refine⟨_,(ke @wc_),hN1, ?_⟩
   rfl
end Go.Proofs
end
section
open Go Go.Proofs Go.Sx Go.StP
namespace Go.Proofs
set_option maxRecDepth 10000
set_option maxHeartbeats 400000
set_option linter.unusedSimpArgs false
def uDir (S:DiskL) (p:List UInt8×Option Nat):Nat:=match zE_ p.1 with|some k=>xs_ S (S.dir k).seen|none=>0
def QK_ (S:DiskL) (l:NmL) (p:List UInt8×Option Nat):Nat:=match zC_ l p.1 with|some n=>(S.files.getD n q2_).data.length|none=>0
theorem amu_ (S:DiskL) (G:DkG): ((Jr_ G).map (uDir S)).sum=kn_ S:=by
 unfold Jr_ kn_
 simp only[List.map_cons,List.map_nil,List.sum_cons,List.sum_nil]
 show xs_ S (S.dir 0).seen+ (xs_ S (S.dir 1).seen+ (xs_ S (S.dir 2).seen+0))=_
 omega
theorem akh_ (S:DiskL) {fb:List Nat} {l:NmL} {m:List (List UInt8×Option Nat)} (h:NmP fb l m) (hn: (l.map Prod.fst).Nodup): (m.map (QK_ S l)).sum=xs_ S l:=by
 rw[(h.map (QK_ S l)).sum_nat,List.map_map]
 unfold xs_
 congr 1
 refine List.map_congr_left fun p hp=> ?_
 show QK_ S l (ptrN fb p)=_
 unfold QK_ ptrN
 rw[J1_ hn hp]
theorem ae5_ {α:Type} (f:α→Nat) {a b m:List α} (h: (a++b).Perm m): (a.map f).sum≤ (m.map f).sum:=by
 rw[← (h.map f).sum_nat,List.map_append,List.sum_append]
 omega
theorem kF_ {α β:Type} {encK:α→Value} {encV:β→Value} {o:Obj} {bm:Nat} {om:Obj} {m dn lf:List (α×β)} (h:ItG encK encV o bm om m dn lf): (dn++lf).Perm m:=by
 obtain⟨es,clock,ds,-,-,-,-,-,-,hp⟩:=h;exact hp
theorem aaK_ {G:DkG} {p:List UInt8×Option Nat} (h:p∈Jr_ G): ∃k,k<3∧p=(jY_ k,some (G.d k)):=by
 unfold Jr_ at h
 simp only[List.mem_cons,List.not_mem_nil,or_false] at h
 rcases h with rfl|rfl|rfl
 ·exact⟨0,by omega,rfl⟩
 ·exact⟨1,by omega,rfl⟩
 ·exact⟨2,by omega,rfl⟩
structure UsG where
 dn:List (List UInt8×Option Nat)
 lf:List (List UInt8×Option Nat)
 it:Obj
 DG:zc_
set_option linter.defProp false
def j8_:=And.intro (And.intro (And.intro (And.intro (@zg_) (@zf_)) (And.intro (@qx_) (@qV_))) (And.intro (And.intro (@qP_) (@qQ_)) (And.intro (@kt_) (And.intro (@kx_) (@amW_))))) (And.intro (And.intro (And.intro (@agv_) (@V0_)) (And.intro (@akH_) (And.intro (@acd_) (@Sx.tup2_0)))) (And.intro (And.intro (@Sx.tup2_1) (@Je_)) (And.intro (@Sx.tup3_0) (And.intro (@Sx.tup3_1) (@Sx.tup3_2)))))
theorem QX_ (w:World) (G:DkG) (S:DiskL) (hD:DkW w G S) (hb:kn_ S<4611686018427387904):Rets Tryz.prog 24 #[vp G.bd 0] w (fun v D=>v=vi (kn_ S:Nat)∧D= []):=by
 obtain⟨X,hX,hP⟩:=hD
 have hd:=hX _ _ hP.disk
 obtain⟨om,hom,hM⟩:=hP.dirs
 have hbm:=hX _ _ hom
 have hlm:=(Array.getElem?_eq_some_iff.1 hbm).1
 have hU:=amu_ S G
 have old: ∀b o,w.heap[b]? =some o→ ∀Y,New w.heap.size Y→zA_ w Y b=some o:=fun b o hb Y hY=>by
  rw[z2_ (hY.not (Array.getElem?_eq_some_iff.1 hb).1)];exact hb
 refine Rets.enterV Tryz.func24 rfl (rs:= [.tmp 2]) Tryz.results24 Tryz.ntmps24 ?_
 refine kf ?_
 first|with_reducible refine ks [] (And.intro @j8_ @hd) ?_|refine kp (And.intro @j8_ @hd) ?_
 refine Ow.rangeMapG (encK:=vs) (encV:=qT_) rfl rfl Tryz.underlying121 rfl hbm hM fun bi oi hbi hwi hI=> ?_
 rw[List.nil_append]
 refine ko @j8_ ?_
 first|with_reducible refine ks [] @j8_ ?_|refine kp @j8_ ?_
 refine Cw.loopG (G:=UsG) [15,16,17,18,5,19,20,21,22,23,24,25,26,27,7,28,29,30,31,32,33,34,3] (fun g=> [(3,vi ((g.dn.map (uDir S)).sum:Nat))]) (fun g=>(bi,g.it)::g.DG) (fun g=>ItG vs qT_ g.it G.bm om (Jr_ G) g.dn g.lf∧New w.heap.size g.DG) (fun g=>g.lf.length) ⟨[],Jr_ G,oi,[]⟩ rfl rfl ?_ ?_
 ·exact⟨hI,trivial⟩
 intro g j hg
 refine kv ?_
 clear hI
 obtain⟨dn,lf,it,DG⟩:=g
 simp only at hg ⊢
 obtain⟨hI,hN⟩:=hg
 have hNi: ∀x,New w.heap.size ((bi,x)::DG):=fun x=>⟨hwi,hN⟩
 first|with_reducible refine ks [] @j8_ ?_|refine kp @j8_ ?_
 refine Ow.nextMapG rfl rfl rfl (ky_ _ _ _) (old _ _ hbm _ (hNi it)) hI (fun hlf=> ?_) (fun p it' lf' hl' hI'=> ?_)
 ·subst hlf
  have hp:=kF_ hI
  rw[List.append_nil] at hp
  rw[(hp.map (uDir S)).sum_nat,hU]
  refine ko @j8_ ?_
  first|with_reducible refine ks [] @j8_ ?_|refine kp @j8_ ?_
  refine⟨_,(ke @j8_),hNi it, ?_⟩
  rfl
 ·refine kn ?_
  refine ko @j8_ ?_
  first|with_reducible refine ks [] @j8_ ?_|refine kp @j8_ ?_
  refine Ow.entryMapG (encK:=vs) (encV:=qT_) rfl rfl rfl (xi_ _ _ _ _) (old _ _ hbm _ (hNi it')) hI' ?_
  have hp:=kF_ hI'
  obtain⟨k,hk3,rfl⟩:=aaK_ (hp.mem_iff.1 (List.mem_append_left _ (List.mem_append_right _ List.mem_cons_self)))
  have hle:=ae5_ (uDir S) hp
  rw[hU,List.map_append,List.sum_append] at hle
  have huk: ([(jY_ k,some (G.d k))].map (uDir S)).sum=xs_ S (S.dir k).seen:=by
   show uDir S (jY_ k,some (G.d k))+0=_
   unfold uDir
   simp only[jG_ hk3,Nat.add_zero]
  rw[huk] at hle
  have hac: ((dn++ [(jY_ k,some (G.d k))]).map (uDir S)).sum=(dn.map (uDir S)).sum+xs_ S (S.dir k).seen:=by rw[List.map_append,List.sum_append,huk]
  generalize (dn.map (uDir S)).sum=A at*
  have hdr:=hX _ _ (hP.dir k hk3)
  obtain⟨os,ms,hos,hms,hnp⟩:=hP.seen k hk3
  have hso:=hX _ _ hos
  have hs:=akh_ S hnp (hP.ok.seen k hk3).nodup
  have hdr1:=old _ _ hdr _ (hNi it')
  have hdr2:=old _ _ hdr _ hN
  have hp': ∀q:Nat,qT_ (some q)=vp q 0:=fun _=>rfl
  refine ko (And.intro @j8_ (And.intro @hp' (And.intro @hdr1 (@hdr2)))) ?_
  refine Ow.rangeMapG (encK:=vs) (encV:=qT_) rfl rfl Tryz.underlying127 rfl (old _ _ hso _ (hNi it')) hms fun bj oj hbj hwj hJ=> ?_
  refine Ow.permL (M:=(bj,oj):: (bi,it')::DG) (by classical exact List.perm_iff_count.2 fun a=>by simp only[List.count_append,List.count_cons,List.count_nil]<;>omega) ?_
  refine ko @j8_ ?_
  first|with_reducible refine ks [] @j8_ ?_|refine kp @j8_ ?_
  refine Cw.loopG (G:=UsG) [24,25,26,27,7,28,29,30,31,32,33,34,3] (fun p=> [(3,vi ((A+ (p.dn.map (QK_ S (S.dir k).seen)).sum:Nat):Int))]) (fun p=>(bj,p.it):: (bi,it')::DG) (fun p=>ItG vs qT_ p.it (G.s k) os ms p.dn p.lf) (fun p=>p.lf.length) ⟨[],ms,oj,[]⟩ rfl rfl ?_ ?_
  ·exact hJ
  intro p jp hp
  refine kv ?_
  clear hJ
  obtain⟨dn2,lf2,jt,DX⟩:=p
  simp only at hp ⊢
  first|with_reducible refine ks [] @j8_ ?_|refine kp @j8_ ?_
  refine Ow.nextMapG rfl rfl rfl (ky_ _ _ _) (old _ _ hso _ ⟨hwj,hNi it'⟩) hp (fun hlf=> ?_) (fun p jt' lf2' hl2' hJ'=> ?_)
  ·subst hlf
   have hq:=kF_ hp
   rw[List.append_nil] at hq
   rw[(hq.map (QK_ S (S.dir k).seen)).sum_nat,hs]
   refine Ow.permL (M:=(bi,it'):: (bj,jt)::DG) (by classical exact List.perm_iff_count.2 fun a=>by simp only[List.count_append,List.count_cons,List.count_nil]<;>omega) ?_
   refine ko @j8_ ?_
   first|with_reducible refine ks [] @j8_ ?_|refine kp @j8_ ?_
   exact Again.mk ⟨dn++ [(jY_ k,some (G.d k))],lf',it',(bj,jt)::DG⟩ (by show lf'.length<lf.length;omega) ⟨hI',hwj,hN⟩ rfl (by simp only[hac];rfl)
  ·refine kn ?_
   refine ko @j8_ ?_
   first|with_reducible refine ks [] @j8_ ?_|refine kp @j8_ ?_
   have hq:=kF_ hJ'
   have hle2:=ae5_ (QK_ S (S.dir k).seen) hq
   rw[hs] at hle2
   have hpm:p∈ (S.dir k).seen.map (ptrN G.fb):=hnp.mem_iff.1 (hq.mem_iff.1 (List.mem_append_left _ (List.mem_append_right _ List.mem_cons_self)))
   obtain⟨⟨s,n⟩,hsn,rfl⟩:=List.mem_map.1 hpm
   have huf: ([ptrN G.fb (s,n)].map (QK_ S (S.dir k).seen)).sum=(S.files.getD n q2_).data.length:=by
    show QK_ S (S.dir k).seen (s,some (G.fb.getD n 0))+0=_
    unfold QK_
    simp only[J1_ (hP.ok.seen k hk3).nodup hsn,Nat.add_zero]
   rw[List.map_append,List.sum_append,huf] at hle2
   have hac2: ((dn2++ [ptrN G.fb (s,n)]).map (QK_ S (S.dir k).seen)).sum=(dn2.map (QK_ S (S.dir k).seen)).sum+ (S.files.getD n q2_).data.length:=by rw[List.map_append,List.sum_append,huf]
   have hfl:=hX _ _ (hP.file n (hP.ok.seenN k hk3 _ hsn))
   have hf1:=old _ _ hfl _ (show New w.heap.size ((bj,jt'):: (bi,it')::DG) from⟨hwj,hNi it'⟩)
   have hf2:=old _ _ hfl _ (hNi it')
   have hf3:=old _ _ hfl _ hN
   generalize (dn2.map (QK_ S (S.dir k).seen)).sum=B at*
   refine Ow.entryMapG (encK:=vs) (encV:=qT_) rfl rfl rfl (xi_ _ _ _ _) (old _ _ hso _ ⟨hwj,hNi it'⟩) hJ' ?_
   unfold ptrN at hJ' hac2 ⊢
   simp only at hJ' hac2 ⊢
   generalize G.fb.getD n 0=fbn at*
   generalize S.files.getD n q2_=fl at*
   refine ko (And.intro @j8_ (And.intro @hp' (And.intro @hf1 (And.intro @hf2 (@hf3))))) ?_
   first|with_reducible refine ks [] @j8_ ?_|refine kp @j8_ ?_
   exact Again.mk ⟨dn2++ [(s,some fbn)],lf2',jt',DX⟩ (by show lf2'.length<lf2.length;omega) hJ' rfl (by simp only[hac2,←Nat.add_assoc,Int.natCast_add];rfl)
end Go.Proofs
end
section
open Go Go.Proofs Go.Sx Go.StP
namespace Go.Proofs
set_option maxRecDepth 10000
set_option maxHeartbeats 400000
set_option linter.unusedSimpArgs false
def atD (S:DiskL) (dir name:List UInt8):Option Nat:=(zE_ dir).bind fun k=>zC_ (S.dir k).seen name
def zx_ (S:DiskL) (n:Nat):FileL:=S.files.getD n q2_
def Zw_ (S:DiskL) (n:Nat) (f:FileL):DiskL:={S with files:=S.files.set n f}
def ZD_ (S:DiskL) (dir name:List UInt8):DiskL×Nat:=
 if jg_ S dir [name]≠0 then(S,jg_ S dir [name]) else match atD S dir name with
  |none=>(S,6)
  |some n=>if(zm_ S).2≠0 then zm_ S else(Zw_ (zm_ S).1 n ⟨(zx_ S n).data,(zx_ S n).data.length⟩,0)
theorem jy_ (S:DiskL): (zm_ S).1.dir=S.dir∧(zm_ S).1.files=S.files∧(zm_ S).1.max=S.max:=by
 unfold zm_
 split
 ·exact⟨rfl,rfl,rfl⟩
 ·split
  ·exact⟨rfl,rfl,rfl⟩
  ·exact⟨rfl,rfl,rfl⟩
theorem k6_ {S:DiskL} (h:DkOk S):DkOk (zm_ S).1:=by
 obtain⟨h1,h2,h3⟩:=jy_ S
 refine⟨by rw[h1];exact h.seen,by rw[h1];exact h.stl,by rw[h1,h2];exact h.seenN,by rw[h1,h2];exact h.stlN,by rw[h1,h2];exact h.pendN,by rw[h2];exact h.file, ?_,by rw[h3];exact h.max⟩
 have hf:=h.fuse
 unfold zm_
 split
 ·exact hf
 ·split
  ·rename_i h4 h5
   have:=hf.2.2 h5
   have h6:S.fuse≠0:=fun e=>h4 ⟨h5,e⟩
   exact⟨by show _≤S.fuse - 1;omega,by show S.fuse - 1<_;omega,fun _=>by show 0≤S.fuse - 1;omega⟩
  ·exact hf
theorem JR_ {S:DiskL} (h:DkOk S) {n:Nat} {f:FileL} (hf:f.data.length≤1048576∧f.stl≤f.data.length):DkOk (Zw_ S n f):=by
 refine⟨h.seen,h.stl,fun k hk p hp=>by show p.2< (S.files.set n f).length;rw[List.length_set];exact h.seenN k hk p hp,fun k hk p hp=>by show p.2< (S.files.set n f).length;rw[List.length_set];exact h.stlN k hk p hp,fun k hk c hc h0=>by show c.n< (S.files.set n f).length;rw[List.length_set];exact h.pendN k hk c hc h0,fun g hg=> ?_,h.fuse,h.max⟩
 rcases List.mem_or_eq_of_mem_set hg with hg|rfl
 ·exact h.file g hg
 ·exact hf
theorem wF_ {S:DiskL} (h:DkOk S) {n:Nat} (hn:n<S.files.length): (zx_ S n).data.length≤1048576∧(zx_ S n).stl≤ (zx_ S n).data.length:=by
 unfold zx_
 rw[List.getD_eq_getElem?_getD,List.getElem?_eq_getElem hn]
 exact h.file _ (List.getElem_mem hn)
set_option linter.defProp false
def xS_:=And.intro (And.intro (And.intro (And.intro (@zg_) (@zf_)) (And.intro (@qx_) (@k9_))) (And.intro (And.intro (@qV_) (@qP_)) (And.intro (@qQ_) (@kt_)))) (And.intro (And.intro (And.intro (@kx_) (@QZ_)) (And.intro (@QR_) (@agv_))) (And.intro (And.intro (@V0_) (@akH_)) (And.intro (@acd_) (And.intro (@Sx.tup2_0) (@Sx.tup2_1)))))
theorem VK_ (X:zc_) (G:DkG) (S:DiskL) (dir name:List UInt8) (w:World) (hX: ∀p,p∈X→w.heap[p.1]? =some p.2) (hn: (keys X).Nodup) (hP:DkP X G S) (hnm:name.length<1099511627776):
  Rets Tryz.prog 20 #[vp G.bd 0,vs dir,vs name] w (XS w X (fun v D=>v=vi ((ZD_ S dir name).2:Nat)∧DkP D G (ZD_ S dir name).1)):=by
 refine Rets.enterX Tryz.func20 rfl (rs:= [.tmp 6]) Tryz.results20 Tryz.ntmps20 hX hn ?_
 refine kf ?_
 first|with_reducible refine ks [] @xS_ ?_|refine kp @xS_ ?_
 refine Ow.buildSlice (e:=9) #[vs name] rfl rfl (by kernel_rfl) fun b1 hb1 hw1=> ?_
 have hP1:=hP.mono (X':=X++ [(b1,Obj.cells #[vs name] 9 (0,0))]) fun b o h=>zl_ h
 have hE1:=(Ext.refl w X).app (o:=Obj.cells #[vs name] 9 (0,0)) hw1
 have hm1: (b1,Obj.cells #[vs name] 9 (0,0))∈X++ [(b1,Obj.cells #[vs name] 9 (0,0))]:=by simp
 generalize X++ [(b1,Obj.cells #[vs name] 9 (0,0))]=L1 at*
 refine ko @xS_ ?_
 refine Ow.callC rfl rfl Tryz.call80 (fun w' hw'=>Rets.toX (jX_ w' G S dir (vsl b1 0 1 1) [name] (hP1.world hw') (ace_ (hw'.has _ _ hm1)) (by simp) (by simpa using hnm))) (fun B2 v2 D2 hA2 hB2 hN2 hS2=> ?_)
 obtain⟨rfl,hS2⟩:=hS2
 rw[List.append_nil]
 clear hm1 hA2 hN2
 unfold ZD_ atD
 rcases hS2 with⟨he,rfl⟩ | ⟨he,k,hk,rfl⟩
 ·rw[if_pos he]
  have e1:=xu_ he
  refine ko @xS_ ?_
  first|with_reducible refine ks [] (And.intro @xS_ @e1) ?_|refine kp (And.intro @xS_ @e1) ?_
  refine⟨_,(ke @xS_), ?_⟩
  exact⟨hE1,rfl,hP1⟩
 ·rw[if_neg (by rw[he];simp),hk]
  have hk3:=(qD_ hk).1
  have hdr:=za_ (w0:=w) (hP1.dir k hk3)
  obtain⟨os,ms,hos,hms,hnp⟩:=hP1.seen k hk3
  have hso:=za_ (w0:=w) hos
  have e1: ((0:Int) !=0)=false:=rfl
  refine ko @xS_ ?_
  first|with_reducible refine ks [] (And.intro @xS_ (And.intro @e1 (@hdr))) ?_|refine kp (And.intro @xS_ (And.intro @e1 (@hdr))) ?_
  refine Ow.mapGetG (encK:=vs) (encV:=qT_) (k:=name) (z:=none) rfl rfl Tryz.underlying127 jM_ zrPf rfl rfl hso hms ?_
  rw[hnp.get (hP.ok.seen k hk3).nodup]
  show Ow _ _ _ _ _ _ _ _
  cases hf:zC_ (S.dir k).seen name with
  |none=>
   have hf': (some k).bind (fun k=>zC_ (S.dir k).seen name)=none:=hf
   rw[hf']
   have hp0:qT_ none= .pointer none:=rfl
   refine ko (And.intro @xS_ @hp0) ?_
   first|with_reducible refine ks [] @xS_ ?_|refine kp @xS_ ?_
   refine⟨_,(ke @xS_), ?_⟩
   exact⟨hE1,rfl,hP1⟩
  |some n=>
   have hf': (some k).bind (fun k=>zC_ (S.dir k).seen name)=some n:=hf
   rw[hf']
   have hnl:=hP.ok.seenN k hk3 _ (jO_ hf)
   have hp: ∀q:Nat,qT_ (some q)=vp q 0:=fun _=>rfl
   have hbk:G.bd∈keys L1:=zh_ hP1.disk
   refine ko (And.intro @xS_ @hp) ?_
   first|with_reducible refine ks [] @xS_ ?_|refine kp @xS_ ?_
   refine Ow.callM rfl rfl Tryz.call81 hbk (fun w' hw'=>vh_ G.bd G.bm S w' hP.ok.fuse (hw'.has _ _ (zp_ hP1.disk))) ?_
   obtain⟨hb1,hb2,hb3⟩:=jy_ S
   have hP2:=hP1.setDisk (zm_ S).1 hb1 hb2 (k6_ hP.ok)
   have hE2:=hE1.setB (b:=G.bd) (o:=jr_ G.bm (zm_ S).1)
   generalize setB L1 G.bd (jr_ G.bm (zm_ S).1)=L2 at*
   by_cases hbn: (zm_ S).2=0
   ·have hlk:=hP2.file n (by rw[hb2];exact hnl)
    have hrd:=za_ (w0:=w) hlk
    have e2: (((zm_ S).2:Int) !=0)=false:=by rw[hbn];rfl
    rw[if_neg (by rw[hbn];simp)]
    have hfo:=wF_ hP.ok hnl
    have hP3:=hP2.setFile (n:=n) (by rw[hb2];exact hnl) ⟨(zx_ S n).data,(zx_ S n).data.length⟩ (JR_ (k6_ hP.ok) ⟨hfo.1,Nat.le_refl _⟩)
    have hfe: (zm_ S).1.files.getD n q2_=zx_ S n:=by rw[hb2];rfl
    rw[hfe] at hlk hrd
    refine ko (And.intro @xS_ @e2) ?_
    first|with_reducible refine ks [] (And.intro @xS_ (And.intro @hrd (@hlk))) ?_|refine kp (And.intro @xS_ (And.intro @hrd (@hlk))) ?_
    refine⟨_,(ke @xS_), ?_⟩
    exact⟨hE2.setB,rfl,hP3⟩
   ·have e2:=xu_ hbn
    rw[if_pos hbn]
    refine ko (And.intro @xS_ @e2) ?_
    first|with_reducible refine ks [] @xS_ ?_|refine kp @xS_ ?_
    refine⟨_,(ke @xS_), ?_⟩
    exact⟨hE2,rfl,hP2⟩
end Go.Proofs
end
section
open Go Go.Proofs Go.Sx Go.StP
namespace Go.Proofs
set_option maxRecDepth 10000
set_option maxHeartbeats 400000
set_option linter.unusedSimpArgs false
def wo_ (S:DiskL) (n:Nat) (s:List UInt8):Bool:=decide ((1048576:Int) - ((zx_ S n).data.length:Int)< (s.length:Int)) ||decide (S.max< (kn_ S:Int)) ||decide (S.max - (kn_ S:Int)< (s.length:Int))
def jf_ (S:DiskL) (dir name s:List UInt8):DiskL×Nat:=
 if jg_ S dir [name]≠0 then(S,jg_ S dir [name]) else match atD S dir name with
  |none=>(S,6)
  |some n=>if wo_ S n s=true then(S,8) else if(zm_ S).2≠0 then zm_ S else(Zw_ (zm_ S).1 n ⟨(zx_ S n).data++s,(zx_ S n).stl⟩,0)
set_option linter.defProp false
def qN_:=And.intro (And.intro (And.intro (And.intro (@zg_) (@zf_)) (And.intro (@qx_) (@k9_))) (And.intro (And.intro (@qV_) (@qP_)) (And.intro (@qQ_) (@kt_)))) (And.intro (And.intro (And.intro (@kx_) (@QZ_)) (And.intro (@QR_) (@agv_))) (And.intro (And.intro (@V0_) (@akH_)) (And.intro (@acd_) (And.intro (@Sx.tup2_0) (@Sx.tup2_1)))))
theorem kH_ (X:zc_) (G:DkG) (S:DiskL) (dir name s:List UInt8) (w:World) (hX: ∀p,p∈X→w.heap[p.1]? =some p.2) (hn: (keys X).Nodup) (hP:DkP X G S) (hnm:name.length<1099511627776) (hsl:s.length<1099511627776) (hu:kn_ S<4611686018427387904):
  Rets Tryz.prog 73 #[vp G.bd 0,vs dir,vs name,vs s] w (XS w X (fun v D=>v=vi ((jf_ S dir name s).2:Nat)∧DkP D G (jf_ S dir name s).1)):=by
 refine Rets.enterX Tryz.func73 rfl (rs:= [.tmp 8]) Tryz.results73 Tryz.ntmps73 hX hn ?_
 refine kf ?_
 first|with_reducible refine ks [] @qN_ ?_|refine kp @qN_ ?_
 refine Ow.buildSlice (e:=9) #[vs name] rfl rfl (by kernel_rfl) fun b1 hb1 hw1=> ?_
 have hP1:=hP.mono (X':=X++ [(b1,Obj.cells #[vs name] 9 (0,0))]) fun b o h=>zl_ h
 have hE1:=(Ext.refl w X).app (o:=Obj.cells #[vs name] 9 (0,0)) hw1
 have hm1: (b1,Obj.cells #[vs name] 9 (0,0))∈X++ [(b1,Obj.cells #[vs name] 9 (0,0))]:=by simp
 generalize X++ [(b1,Obj.cells #[vs name] 9 (0,0))]=L1 at*
 refine ko @qN_ ?_
 refine Ow.callC rfl rfl Tryz.call80 (fun w' hw'=>Rets.toX (jX_ w' G S dir (vsl b1 0 1 1) [name] (hP1.world hw') (ace_ (hw'.has _ _ hm1)) (by simp) (by simpa using hnm))) (fun B2 v2 D2 hA2 hB2 hN2 hS2=> ?_)
 obtain⟨rfl,hS2⟩:=hS2
 rw[List.append_nil]
 clear hm1 hA2 hN2
 unfold jf_ atD
 rcases hS2 with⟨he,rfl⟩ | ⟨he,k,hk,rfl⟩
 ·rw[if_pos he]
  have e1:=xu_ he
  refine ko @qN_ ?_
  first|with_reducible refine ks [] (And.intro @qN_ @e1) ?_|refine kp (And.intro @qN_ @e1) ?_
  refine⟨_,(ke @qN_), ?_⟩
  exact⟨hE1,rfl,hP1⟩
 ·rw[if_neg (by rw[he];simp),hk]
  have hk3:=(qD_ hk).1
  have hdr:=za_ (w0:=w) (hP1.dir k hk3)
  obtain⟨os,ms,hos,hms,hnp⟩:=hP1.seen k hk3
  have hso:=za_ (w0:=w) hos
  have e1: ((0:Int) !=0)=false:=rfl
  refine ko @qN_ ?_
  first|with_reducible refine ks [] (And.intro @qN_ (And.intro @e1 (@hdr))) ?_|refine kp (And.intro @qN_ (And.intro @e1 (@hdr))) ?_
  refine Ow.mapGetG (encK:=vs) (encV:=qT_) (k:=name) (z:=none) rfl rfl Tryz.underlying127 jM_ zrPf rfl rfl hso hms ?_
  rw[hnp.get (hP.ok.seen k hk3).nodup]
  show Ow _ _ _ _ _ _ _ _
  cases hf:zC_ (S.dir k).seen name with
  |none=>
   have hf': (some k).bind (fun k=>zC_ (S.dir k).seen name)=none:=hf
   rw[hf']
   have hp0:qT_ none= .pointer none:=rfl
   refine ko (And.intro @qN_ @hp0) ?_
   first|with_reducible refine ks [] @qN_ ?_|refine kp @qN_ ?_
   refine⟨_,(ke @qN_), ?_⟩
   exact⟨hE1,rfl,hP1⟩
  |some n=>
   have hf': (some k).bind (fun k=>zC_ (S.dir k).seen name)=some n:=hf
   rw[hf']
   have hnl:n<S.files.length:=hP.ok.seenN k hk3 _ (jO_ hf)
   have hfo:=wF_ hP.ok hnl
   have hp: ∀q:Nat,qT_ (some q)=vp q 0:=fun _=>rfl
   have hbk:G.bd∈keys L1:=zh_ hP1.disk
   have hrf:=za_ (w0:=w) (hP1.file n hnl)
   have hrb:=za_ (w0:=w) hP1.disk
   have hrf':zA_ w L1 (G.fb.getD n 0)=some (kc_ (zx_ S n)):=hrf
   have hmx:=hP.ok.max
   refine ko (And.intro @qN_ @hp) ?_
   first|with_reducible refine ks [] @qN_ ?_|refine kp @qN_ ?_
   refine Cw.regionS [G.fb.getD n 0,G.bd] [0,1,2,3,4,5,6,7,8,9,10,12,13,14,15,11,16,17,18,19,20,21,22,23,25,24,26,27,28,29,30] [] (by kernel_rfl) (by kernel_rfl) (by kernel_rfl) ?_
   simp only[zo_, ↓zi_, ↓zd_, ↓zz_, ↓zy_,ze_]
   cases h1:decide ((1048576:Int) - ((zx_ S n).data.length:Int)< (s.length:Int)) with
   |true=>
    refine kq (And.intro @qN_ (And.intro @hrf' (And.intro @hrb (@h1)))) ?_
    have hF:wo_ S n s=true:=by unfold wo_;rw[h1];simp
    rw[if_pos hF]
    try with_reducible refine Ow.nil ?_
    first|with_reducible refine ks [] @qN_ ?_|refine kp @qN_ ?_
    refine⟨_,(ke @qN_), ?_⟩
    exact⟨hE1,rfl,hP1⟩
   |false=>
    refine kq (And.intro @qN_ (And.intro @hrf' (And.intro @hrb (@h1)))) ?_
    refine Ow.soft rfl rfl rfl ?_
    refine Ow.callFV rfl Tryz.call24 (fun w' hw'=>QX_ w' G S (hP1.world hw') hu) ?_
    with_reducible refine Ow.nil ?_
    refine⟨by intro b hb;simp only[List.mem_cons,List.not_mem_nil,or_false] at hb;(try subst hb);rfl, ?_⟩
    cases h2:decide (S.max< (kn_ S:Int)) with
    |true=>
     refine kq (And.intro @qN_ (And.intro @hrb (@h2))) ?_
     have hF:wo_ S n s=true:=by unfold wo_;rw[h2];simp
     rw[if_pos hF]
     try with_reducible refine Ow.nil ?_
     first|with_reducible refine ks [] @qN_ ?_|refine kp @qN_ ?_
     refine⟨_,(ke @qN_), ?_⟩
     exact⟨hE1,rfl,hP1⟩
    |false=>
     have h2':=of_decide_eq_false h2
     refine kq (And.intro @qN_ (And.intro @hrb (@h2))) ?_
     refine Ow.soft rfl rfl rfl ?_
     refine Ow.callFV rfl Tryz.call24 (fun w' hw'=>QX_ w' G S (hP1.world hw') hu) ?_
     with_reducible refine Ow.nil ?_
     refine⟨by intro b hb;simp only[List.mem_cons,List.not_mem_nil,or_false] at hb;(try subst hb);rfl, ?_⟩
     cases h3:decide (S.max - (kn_ S:Int)< (s.length:Int)) with
     |true=>
      refine kq (And.intro @qN_ (And.intro @hrb (@h3))) ?_
      have hF:wo_ S n s=true:=by unfold wo_;rw[h3];simp
      rw[if_pos hF]
      try with_reducible refine Ow.nil ?_
      first|with_reducible refine ks [] @qN_ ?_|refine kp @qN_ ?_
      refine⟨_,(ke @qN_), ?_⟩
      exact⟨hE1,rfl,hP1⟩
     |false=>
      have hF:wo_ S n s=false:=by unfold wo_;rw[h1,h2,h3];rfl
      rw[if_neg (by rw[hF];simp)]
      have h1':=of_decide_eq_false h1
      refine kq (And.intro @qN_ (And.intro @hrb (@h3))) ?_
      try with_reducible refine Ow.nil ?_
      first|with_reducible refine ks [] @qN_ ?_|refine kp @qN_ ?_
      refine Ow.callM rfl rfl Tryz.call81 hbk (fun w' hw'=>vh_ G.bd G.bm S w' hP.ok.fuse (hw'.has _ _ (zp_ hP1.disk))) ?_
      obtain⟨hb1,hb2,hb3⟩:=jy_ S
      have hP2:=hP1.setDisk (zm_ S).1 hb1 hb2 (k6_ hP.ok)
      have hE2:=hE1.setB (b:=G.bd) (o:=jr_ G.bm (zm_ S).1)
      generalize setB L1 G.bd (jr_ G.bm (zm_ S).1)=L2 at*
      by_cases hbn: (zm_ S).2=0
      ·have hlk:=hP2.file n (by rw[hb2];exact hnl)
       have hrd:=za_ (w0:=w) hlk
       have e2: (((zm_ S).2:Int) !=0)=false:=by rw[hbn];rfl
       rw[if_neg (by rw[hbn];simp)]
       have hP3:=hP2.setFile (n:=n) (by rw[hb2];exact hnl) ⟨(zx_ S n).data++s,(zx_ S n).stl⟩ (JR_ (k6_ hP.ok) ⟨by simp only[List.length_append];omega,by simp only[List.length_append];omega⟩)
       have hfe: (zm_ S).1.files.getD n q2_=zx_ S n:=by rw[hb2];rfl
       rw[hfe] at hlk hrd
       refine ko (And.intro @qN_ @e2) ?_
       first|with_reducible refine ks [] (And.intro @qN_ (And.intro @hrd (@hlk))) ?_|refine kp (And.intro @qN_ (And.intro @hrd (@hlk))) ?_
       refine⟨_,(ke @qN_), ?_⟩
       exact⟨hE2.setB,rfl,hP3⟩
      ·have e2:=xu_ hbn
       rw[if_pos hbn]
       refine ko (And.intro @qN_ @e2) ?_
       first|with_reducible refine ks [] @qN_ ?_|refine kp @qN_ ?_
       refine⟨_,(ke @qN_), ?_⟩
       exact⟨hE2,rfl,hP2⟩
end Go.Proofs
end
section
open Go Go.Proofs Go.Sx Go.StP
namespace Go.Proofs
set_option maxRecDepth 10000
set_option maxHeartbeats 400000
set_option linter.unusedSimpArgs false
structure Only (X D:zc_) (bs:Nat) (o:Obj):Prop where
 keys:Sx.keys D=Sx.keys X
 at_:Sx.look D bs=some o
 rest: ∀b,b≠bs→Sx.look D b=Sx.look X b
theorem Only.set {X:zc_} {bs:Nat} {o o':Obj} (h:Sx.look X bs=some o):Only X (setB X bs o') bs o':=⟨zQ_ _ _ _,zw_ h,fun _ hb=>zb_ (Ne.symm hb)⟩
theorem Only.trans {X D D':zc_} {bs:Nat} {o o':Obj} (h:Only X D bs o) (h':Only D D' bs o'):Only X D' bs o':=⟨h'.keys.trans h.keys,h'.at_,fun b hb=>(h'.rest b hb).trans (h.rest b hb)⟩
theorem aa8_ (s:List UInt8) (n:Nat):zk_ (some (false,n)) (some (vB_ s)) 0=some (vs s):=(rfl)
theorem akP_ (b:Nat) (n:Nat):zk_ (some (false,n)) (some (VI_ b)) 0=some (vp b 0):=(rfl)
set_option linter.defProp false
def Zm_:=And.intro (And.intro (@zg_) (@zf_)) (And.intro (@aa8_) (@akP_))
theorem WK_ (X:zc_) (b1 b2 bs fbn:Nat) (a:List UInt8) (o:Obj) (m:List (List UInt8×Option Nat)) (w:World) (hX: ∀p,p∈X→w.heap[p.1]? =some p.2) (hn: (keys X).Nodup)
  (h1:Sx.look X b1=some (VI_ fbn)) (h2:Sx.look X b2=some (vB_ a)) (hs:Sx.look X bs=some o) (hm:wY_ vs qT_ o m):
  Rets Tryz.prog 159 #[vm bs,vp b1 0,vp b2 0] w (XS w X (fun v D=>v=vj_ []∧ ∃o',Only X D bs o'∧wY_ vs qT_ o' (updG a (some fbn) m))):=by
 have r1:=za_ (w0:=w) h1
 have r2:=za_ (w0:=w) h2
 refine Rets.enterX Tryz.func159 rfl (rs:= []) Tryz.results159 Tryz.ntmps159 hX hn ?_
 refine kf ?_
 first|with_reducible refine ks [] (And.intro @Zm_ (And.intro @r1 (@r2))) ?_|refine kp (And.intro @Zm_ (And.intro @r1 (@r2))) ?_
 refine Ow.mapUpdateG (encK:=vs) (encV:=qT_) (k:=a) (v:=some fbn) rfl rfl Tryz.underlying127 jM_ rfl rfl rfl hs hm (fun o' hm'=> ?_)
 refine ko @Zm_ ?_
 refine⟨_,(ke @Zm_), ?_⟩
 exact⟨(Ext.refl w X).setB,rfl,o',Only.set hs,hm'⟩
theorem Wn_ (X:zc_) (b1 bs:Nat) (a:List UInt8) (o:Obj) (m:List (List UInt8×Option Nat)) (w:World) (hX: ∀p,p∈X→w.heap[p.1]? =some p.2) (hn: (keys X).Nodup)
  (h1:Sx.look X b1=some (vB_ a)) (hs:Sx.look X bs=some o) (hm:wY_ vs qT_ o m):
  Rets Tryz.prog 161 #[vm bs,vp b1 0] w (XS w X (fun v D=>v=vj_ []∧ ∃o',Only X D bs o'∧wY_ vs qT_ o' (delG a m))):=by
 have r1:=za_ (w0:=w) h1
 refine Rets.enterX Tryz.func161 rfl (rs:= []) Tryz.results161 Tryz.ntmps161 hX hn ?_
 refine kf ?_
 first|with_reducible refine ks [] (And.intro @Zm_ @r1) ?_|refine kp (And.intro @Zm_ @r1) ?_
 refine Ow.mapDeleteG (encK:=vs) (encV:=qT_) (k:=a) rfl rfl Tryz.underlying127 jM_ rfl rfl hs hm (fun o' hm'=> ?_)
 refine ko @Zm_ ?_
 refine⟨_,(ke @Zm_), ?_⟩
 exact⟨(Ext.refl w X).setB,rfl,o',Only.set hs,hm'⟩
theorem acb_ (X:zc_) (b1 b2 bs:Nat) (a b:List UInt8) (o:Obj) (m:List (List UInt8×Option Nat)) (w:World) (hX: ∀p,p∈X→w.heap[p.1]? =some p.2) (hn: (keys X).Nodup)
  (h1:Sx.look X b1=some (vB_ a)) (h2:Sx.look X b2=some (vB_ b)) (hs:Sx.look X bs=some o) (hm:wY_ vs qT_ o m):
  Rets Tryz.prog 121 #[vm bs,vp b1 0,vp b2 0] w (XS w X (fun v D=>v=vj_ []∧ ∃o',Only X D bs o'∧wY_ vs qT_ o' (delG a (updG b (getG a none m) m)))):=by
 have r1:=za_ (w0:=w) h1
 have r2:=za_ (w0:=w) h2
 refine Rets.enterX Tryz.func121 rfl (rs:= []) Tryz.results121 Tryz.ntmps121 hX hn ?_
 refine kf ?_
 first|with_reducible refine ks [] (And.intro @Zm_ (And.intro @r1 (@r2))) ?_|refine kp (And.intro @Zm_ (And.intro @r1 (@r2))) ?_
 refine Ow.mapGetG (encK:=vs) (encV:=qT_) (k:=a) (z:=none) rfl rfl Tryz.underlying127 jM_ zrPf rfl rfl (za_ hs) hm ?_
 refine ko @Zm_ ?_
 refine Ow.mapUpdateG (encK:=vs) (encV:=qT_) (k:=b) (v:=getG a none m) rfl rfl Tryz.underlying127 jM_ rfl rfl rfl hs hm (fun o1 hm1=> ?_)
 have ho1:Only X (setB X bs o1) bs o1:=Only.set hs
 have hne:b1≠bs:=by
  rintro rfl
  rw[hs] at h1;cases h1
  obtain⟨es,c,h,-⟩:=hm;cases h
 have r3:=za_ (w0:=w) ((ho1.rest b1 hne).trans h1)
 have hE:=(Ext.refl w X).setB (b:=bs) (o:=o1)
 generalize setB X bs o1=L1 at*
 refine ko @Zm_ ?_
 first|with_reducible refine ks [] (And.intro @Zm_ @r3) ?_|refine kp (And.intro @Zm_ @r3) ?_
 refine Ow.mapDeleteG (encK:=vs) (encV:=qT_) (k:=a) rfl rfl Tryz.underlying127 jM_ rfl rfl ho1.at_ hm1 (fun o' hm'=> ?_)
 refine ko @Zm_ ?_
 refine⟨_,(ke @Zm_), ?_⟩
 exact⟨hE.setB,rfl,o',ho1.trans (Only.set ho1.at_),hm'⟩
end Go.Proofs
end
section
open Go Go.Proofs Go.Sx Go.StP
namespace Go.Proofs
set_option maxRecDepth 10000
set_option maxHeartbeats 400000
set_option linter.unusedSimpArgs false
def okC (l:NmL) (c:CallL):Prop:=c.kind=1→zC_ l c.a≠none∧c.a≠c.b
theorem NmP.ren {fb:List Nat} {l:NmL} {m:List (List UInt8×Option Nat)} (h:NmP fb l m) (hs:SrtN l) {a b:List UInt8} {n:Nat} (hab:a≠b):NmP fb (KK_ (qI_ l a) (b,n)) (delG a (updG b (some (fb.getD n 0)) m)):=by
 have h1:=h.put hs.nodup b n
 have h2:=h1.wipe (JG_ (b,n) hs).nodup a
 refine h2.trans (List.Perm.map _ ?_)
 unfold KK_
 refine(List.Perm.filter _ (xF_ (b,n) (qI_ l b))).trans ?_
 refine List.Perm.trans ?_ (xF_ (b,n) (qI_ (qI_ l a) b)).symm
 have e: (a==b)=false:=beq_eq_false_iff_ne.2 hab
 rw[List.filter_cons]
 simp only[e,Bool.not_false, ↓reduceIte]
 unfold qI_
 rw[List.filter_filter,List.filter_filter]
 refine List.Perm.cons _ (List.Perm.of_eq (List.filter_congr fun p _=>Bool.and_comm _ _))
theorem afq_ {l:NmL} (c:CallL) (h:SrtN l):SrtN (qr_ l c):=by
 unfold qr_
 split
 ·exact JG_ _ h
 ·exact JG_ _ (Kr_ _ h)
 ·exact Kr_ _ h
theorem Xb_ {X:zc_} {fb:List Nat} {v:Value} {c:CallL} {bs:Nat} {l:NmL} (hv:FnP X fb v c) (hN:NmM X fb bs l) (hs:SrtN l) (hok:okC l c):
  ∃k cap,v= .func (.func k) #[] cap∧(∀a w,(callFunc k a).run Tryz.prog w= .ok (.enter k a) w)∧ ∀w,(∀p,p∈X→w.heap[p.1]? =some p.2)→(keys X).Nodup→Rets Tryz.prog k (#[vm bs]++cap) w (XS w X (fun r D=>r=vj_ []∧ ∃o',Only X D bs o'∧NmM D fb bs (qr_ l c))):=by
 obtain⟨o,m,ho,hm,hp⟩:=hN
 unfold FnP at hv
 split at hv
 ·rename_i hk
  obtain⟨b1,b2,rfl,h1,h2⟩:=hv
  refine⟨_,_,rfl,Tryz.call159,fun w hX hn=>Rets.mono (WK_ X b1 b2 bs _ c.a o m w hX hn h1 h2 ho hm) ?_⟩
  rintro r D ⟨hE,hr,o',hO,hm'⟩
  refine⟨hE,hr,o',hO,o',_,hO.at_,hm', ?_⟩
  unfold qr_
  rw[hk]
  exact hp.put hs.nodup c.a c.n
 ·rename_i hk
  obtain⟨b1,b2,rfl,h1,h2⟩:=hv
  obtain⟨hf,hab⟩:=hok hk
  refine⟨_,_,rfl,Tryz.call121,fun w hX hn=>Rets.mono (acb_ X b1 b2 bs c.a c.b o m w hX hn h1 h2 ho hm) ?_⟩
  rintro r D ⟨hE,hr,o',hO,hm'⟩
  refine⟨hE,hr,o',hO,o',_,hO.at_,hm', ?_⟩
  unfold qr_
  rw[hk,hp.get hs.nodup]
  cases e:zC_ l c.a with
  |none=>exact absurd e hf
  |some n=>exact hp.ren hs hab
 ·rename_i h0 h1'
  obtain⟨b1,rfl,h1⟩:=hv
  refine⟨_,_,rfl,Tryz.call161,fun w hX hn=>Rets.mono (Wn_ X b1 bs c.a o m w hX hn h1 ho hm) ?_⟩
  rintro r D ⟨hE,hr,o',hO,hm'⟩
  refine⟨hE,hr,o',hO,o',_,hO.at_,hm', ?_⟩
  have e:qr_ l c=qI_ l c.a:=by
   unfold qr_
   split
   ·rename_i e;exact absurd e h0
   ·rename_i e;exact absurd e h1'
   ·rfl
  rw[e]
  exact hp.wipe hs.nodup c.a
end Go.Proofs
end
section
open Go Go.Proofs Go.Sx Go.StP
namespace Go.Proofs
set_option maxRecDepth 10000
set_option maxHeartbeats 400000
set_option linter.unusedSimpArgs false
theorem Kl_ {α:Type} {a b:List α} (z:α) (k:Nat) (h:k<a.length): (a++b).getD k z=a.getD k z:=by
 rw[List.getD_eq_getElem?_getD,List.getElem?_append_left h,←List.getD_eq_getElem?_getD]
theorem QE_ {α:Type} {a:List α} (z x:α) {k:Nat} (h:a.length=k): (a++ [x]).getD k z=x:=by
 subst h
 rw[List.getD_eq_getElem?_getD,List.getElem?_append_right (Nat.le_refl _),Nat.sub_self];rfl
def setP (G:DkG) (k:Nat) (v:Value):DkG:={G with p:=fun j=>if j=k then v else G.p j}
theorem WR_ {l:NmL} {c:CallL} {n:Nat} (hl: ∀p,p∈l→p.2<n) (hok:okC l c) (hc:c.kind=0→c.n<n): ∀p,p∈qr_ l c→p.2<n:=by
 intro p hp
 have hput: ∀ {l:NmL} {x:List UInt8×Nat},(∀p,p∈l→p.2<n)→x.2<n→p∈KK_ l x→p.2<n:=by
  intro l x h1 h2 h3
  rcases List.mem_cons.1 ((xF_ x (qI_ l x.1)).mem_iff.1 h3) with rfl|h3
  ·exact h2
  ·exact h1 _ ((List.mem_filter.1 h3).1)
 unfold qr_ at hp
 split at hp
 ·rename_i hk;exact hput hl (hc hk) hp
 ·rename_i hk
  refine hput (fun q hq=>hl q ((List.mem_filter.1 hq).1)) ?_ hp
  cases e:zC_ l c.a with
  |none=>exact absurd e (hok hk).1
  |some m=>
   have:=hl _ (jO_ e)
   exact this
 ·exact hl _ ((List.mem_filter.1 hp).1)
theorem Qe_ {S:DiskL} (h:DkOk S) {k:Nat} (d:DirL) (h1:SrtN d.seen) (h2:SrtN d.stl) (h3: ∀p,p∈d.seen→p.2<S.files.length) (h4: ∀p,p∈d.stl→p.2<S.files.length) (h5: ∀c,c∈d.pend→c.kind=0→c.n<S.files.length):DkOk (zZ_ S k d):=by
 refine⟨fun j hj=> ?_,fun j hj=> ?_,fun j hj=> ?_,fun j hj=> ?_,fun j hj=> ?_,h.file,h.fuse,h.max⟩<;>unfold zZ_<;>simp only<;>by_cases e:j=k
 ·rw[if_pos e];exact h1
 ·rw[if_neg e];exact h.seen j hj
 ·rw[if_pos e];exact h2
 ·rw[if_neg e];exact h.stl j hj
 ·rw[if_pos e];exact h3
 ·rw[if_neg e];exact h.seenN j hj
 ·rw[if_pos e];exact h4
 ·rw[if_neg e];exact h.stlN j hj
 ·rw[if_pos e];exact h5
 ·rw[if_neg e];exact h.pendN j hj
theorem wB_ {G:DkG} (h: [G.s 0,G.s 1,G.s 2,G.t 0,G.t 1,G.t 2].Nodup) {i j:Nat} (hi:i<3) (hj:j<3): (i≠j→G.s i≠G.s j)∧(i≠j→G.t i≠G.t j)∧G.s i≠G.t j:=by
 simp only[List.nodup_cons,List.mem_cons,List.not_mem_nil,not_or,or_false,List.nodup_nil,and_true,not_false_eq_true] at h
 have a:i=0∨i=1∨i=2:=by omega
 have b:j=0∨j=1∨j=2:=by omega
 rcases a with rfl|rfl|rfl<;>rcases b with rfl|rfl|rfl<;>refine⟨fun hne=> ?_,fun hne=> ?_, ?_⟩<;>first|omega| (exact absurd rfl hne)
theorem anM_ {G:DkG} (h: [G.d 0,G.d 1,G.d 2].Nodup) {i j:Nat} (hi:i<3) (hj:j<3):i≠j→G.d i≠G.d j:=by
 simp only[List.nodup_cons,List.mem_cons,List.not_mem_nil,not_or,or_false,List.nodup_nil,and_true,not_false_eq_true] at h
 have a:i=0∨i=1∨i=2:=by omega
 have b:j=0∨j=1∨j=2:=by omega
 rcases a with rfl|rfl|rfl<;>rcases b with rfl|rfl|rfl<;>intro hne<;>first|omega| (exact absurd rfl hne)
structure DkP.Turn (X L:zc_) (G:DkG) (k:Nat):Prop where
 keep: ∀b o,Sx.look X b=some o→b≠G.s k→b≠G.d k→slB (G.p k)≠some b→Sx.look L b=some o
theorem DkP.turn {X L:zc_} {G:DkG} {S:DiskL} (h:DkP X G S) {k:Nat} (hk:k<3) {c:CallL} {v v2:Value} {vals:List Value} (hT:DkP.Turn X L G k)
  (hs:NmM L G.fb (G.s k) (qr_ (S.dir k).seen c)) (hd:Sx.look L (G.d k)=some (xW_ (G.s k) (G.t k) v2)) (hv:vals.length=(S.dir k).pend.length)
  (hF: ∀i,i<vals.length→FnP X G.fb (vals.getD i undef) ((S.dir k).pend.getD i wa_)) (hGo:Gr X 137 1 (G.p k) vals.length vals)
  (hGr:Gr L 137 1 v2 (vals.length+1) (vals++ [v])) (hFv:FnP X G.fb v c) (hsl:slB v2=slB (G.p k)∨ ∃b,slB v2=some b∧b∉keys X) (hok:okC (S.dir k).seen c) (hcn:c.kind=0→c.n<S.files.length):
  DkP L (setP G k v2) (zZ_ S k ⟨qr_ (S.dir k).seen c,(S.dir k).stl,(S.dir k).pend++ [c]⟩):=by
 have hpk: ∀b o,Sx.look X b=some o→tyO o≠some 137→slB (G.p k)≠some b:=by
  intro b o hb ht e
  obtain⟨arr,ha⟩:=kC_ hGo e
  rw[hb] at ha;cases ha;exact ht rfl
 obtain⟨osk,msk,hosk,hmsk,-⟩:=h.seen k hk
 have hns: ∀b o,Sx.look X b=some o→tyO o≠none→b≠G.s k:=by
  rintro b o hb ht rfl
  rw[hosk] at hb;cases hb;exact ht (qU_ hmsk)
 have hnd: ∀b o,Sx.look X b=some o→tyO o≠some 130→b≠G.d k:=by
  rintro b o hb ht rfl
  rw[h.dir k hk] at hb;cases hb;exact ht rfl
 have K: ∀b o,Sx.look X b=some o→tyO o≠none→tyO o≠some 130→tyO o≠some 137→Sx.look L b=some o:=fun b o hb h1 h2 h3=>hT.keep b o hb (hns b o hb h1) (hnd b o hb h2) (hpk b o hb h3)
 have KM: ∀b o,Sx.look X b=some o→tyO o=none→b≠G.s k→Sx.look L b=some o:=fun b o hb h1 h2=>hT.keep b o hb h2 (hnd b o hb (by rw[h1];intro e;cases e)) (hpk b o hb (by rw[h1];intro e;cases e))
 have KF: ∀ {w c},FnP X G.fb w c→FnP L G.fb w c:=fun hw=>hw.keep fun b o hb hx=>K b o hb (by rcases hx with⟨s,rfl⟩ | ⟨a,rfl⟩<;>simp[tyO,vB_,VI_]) (by rcases hx with⟨s,rfl⟩ | ⟨a,rfl⟩<;>simp[tyO,vB_,VI_]) (by rcases hx with⟨s,rfl⟩ | ⟨a,rfl⟩<;>simp[tyO,vB_,VI_])
 refine⟨?_, ?_, ?_, ?_, ?_, ?_, ?_,h.len,h.nodf,h.nodm,h.nodd,h.nodb, ?_, ?_⟩
 ·exact K _ _ h.disk (by simp[tyO,jr_]) (by simp[tyO,jr_]) (by simp[tyO,jr_])
 ·obtain⟨o,h1,h2⟩:=h.dirs
  exact⟨o,KM _ _ h1 (qU_ h2) (h.nodb k hk).1,h2⟩
 ·intro j hj
  by_cases e:j=k
  ·subst e
   show Sx.look L (G.d j)=some (xW_ (G.s j) (G.t j) (if j=j then v2 else G.p j))
   rw[if_pos rfl];exact hd
  ·show Sx.look L (G.d j)=some (xW_ (G.s j) (G.t j) (if j=k then v2 else G.p j))
   rw[if_neg e]
   exact hT.keep _ _ (h.dir j hj) (hns _ _ (h.dir j hj) (by simp[tyO,xW_])) (anM_ h.nodd hj hk e) (hpk _ _ (h.dir j hj) (by simp[tyO,xW_]))
 ·intro j hj
  show NmM L G.fb (G.s j) (if j=k then _ else S.dir j).seen
  by_cases e:j=k
  ·subst e;rw[if_pos rfl];exact hs
  ·rw[if_neg e]
   obtain⟨o,m,h1,h2,h3⟩:=h.seen j hj
   exact⟨o,m,KM _ _ h1 (qU_ h2) ((wB_ h.nodm hj hk).1 e),h2,h3⟩
 ·intro j hj
  show NmM L G.fb (G.t j) (if j=k then _ else S.dir j).stl
  have e2: (if j=k then⟨qr_ (S.dir k).seen c,(S.dir k).stl,(S.dir k).pend++ [c]⟩ else S.dir j:DirL).stl=(S.dir j).stl:=by
   by_cases e:j=k
   ·subst e;rw[if_pos rfl]
   ·rw[if_neg e]
  rw[e2]
  obtain⟨o,m,h1,h2,h3⟩:=h.stl j hj
  exact⟨o,m,KM _ _ h1 (qU_ h2) (Ne.symm (wB_ h.nodm hk hj).2.2),h2,h3⟩
 ·intro j hj
  by_cases e:j=k
  ·subst e
   refine⟨vals++ [v], ?_, ?_, ?_⟩
   ·show(vals++ [v]).length=(if j=j then _ else S.dir j:DirL).pend.length
    rw[if_pos rfl,List.length_append,List.length_append,hv];rfl
   ·show Gr L _ 1 (if j=j then v2 else G.p j) (vals++ [v]).length (vals++ [v])
    rw[if_pos rfl,List.length_append];exact hGr
   ·intro i hi
    show FnP L G.fb ((vals++ [v]).getD i undef) ((if j=j then _ else S.dir j:DirL).pend.getD i wa_)
    rw[if_pos rfl]
    rw[List.length_append,List.length_singleton] at hi
    by_cases ei:i=vals.length
    ·subst ei
     rw[QE_ _ _ rfl,QE_ _ _ hv.symm]
     exact KF hFv
    ·rw[Kl_ _ _ (by omega),Kl_ _ _ (by omega)]
     exact KF (hF i (by omega))
  ·obtain⟨vj,h1,h2,h3⟩:=h.pend j hj
   refine⟨vj, ?_, ?_, ?_⟩
   ·show vj.length=(if j=k then _ else S.dir j:DirL).pend.length
    rw[if_neg e];exact h1
   ·show Gr L _ 1 (if j=k then v2 else G.p j) vj.length vj
    rw[if_neg e]
    refine h2.keep fun b o hb ho=> ?_
    obtain⟨arr,ha⟩:=kC_ h2 hb
    rw[ho] at ha;cases ha
    exact hT.keep _ _ ho (hns _ _ ho (by simp[tyO])) (hnd _ _ ho (by simp[tyO])) (h.nodp j k hj hk e b hb)
   ·intro i hi
    show FnP L G.fb (vj.getD i undef) ((if j=k then _ else S.dir j:DirL).pend.getD i wa_)
    rw[if_neg e]
    exact KF (h3 i hi)
 ·intro n hn
  exact K _ _ (h.file n hn) (by simp[tyO,kc_]) (by simp[tyO,kc_]) (by simp[tyO,kc_])
 ·intro i j hi hj hij b hb
  have key: ∀j,j<3→ ∀b,slB (G.p j)=some b→b∈keys X:=fun j hj b hb=>by
   obtain⟨vj,-,h2,-⟩:=h.pend j hj
   obtain⟨arr,ha⟩:=kC_ h2 hb
   exact zh_ ha
  show slB (if j=k then v2 else G.p j)≠some b
  have hb':slB (if i=k then v2 else G.p i)=some b:=hb
  by_cases ei:i=k
  ·subst ei
   rw[if_pos rfl] at hb'
   rw[if_neg (Ne.symm hij)]
   rcases hsl with e| ⟨b',e,hb2⟩
   ·exact h.nodp i j hi hj hij b (by rw[←e];exact hb')
   ·rw[e] at hb';cases hb'
    exact fun h'=>hb2 (key j hj _ h')
  ·rw[if_neg ei] at hb'
   by_cases ej:j=k
   ·subst ej
    rw[if_pos rfl]
    rcases hsl with e| ⟨b',e,hb2⟩
    ·rw[e];exact h.nodp i j hi hj hij b hb'
    ·rw[e]
     intro h';cases h'
     exact hb2 (key i hi _ hb')
   ·rw[if_neg ej];exact h.nodp i j hi hj hij b hb'
 ·exact Qe_ h.ok _ (afq_ c (h.ok.seen k hk)) (h.ok.stl k hk) (WR_ (h.ok.seenN k hk) hok hcn) (h.ok.stlN k hk) (fun d hd h0=>by
   rcases List.mem_append.1 hd with hd|hd
   ·exact h.ok.pendN k hk d hd h0
   ·rw[List.mem_singleton.1 hd] at h0 ⊢;exact hcn h0)
end Go.Proofs
end
section
open Go Go.Proofs Go.Sx Go.StP
namespace Go.Proofs
set_option maxRecDepth 10000
set_option maxHeartbeats 400000
set_option linter.unusedSimpArgs false
def Qh_ (S:DiskL) (k:Nat) (c:CallL):DiskL:=zZ_ S k ⟨qr_ (S.dir k).seen c,(S.dir k).stl,(S.dir k).pend++ [c]⟩
theorem QO_ (a b:Nat) (v q:Value) (x:Bool) (hq:Value.oneCell' q=true∧q.cells= #[q]):zn_ (some (x,1)) (some (xW_ a b v)) 2 q=some (xW_ a b q):=zs_ [vm a,vm b] [v] [q] [] x _ 130 rfl rfl hq.2 rfl (by simp[hq.1])
set_option linter.defProp false
def wR_:=And.intro (And.intro (@zg_) (And.intro (@zf_) (@qx_))) (And.intro (And.intro (@k9_) (@qV_)) (And.intro (@qP_) (@qQ_)))
theorem Zv_ (X:zc_) (G:DkG) (S:DiskL) (k:Nat) (c:CallL) (v:Value) (w:World) (hX: ∀p,p∈X→w.heap[p.1]? =some p.2) (hn: (keys X).Nodup) (hP:DkP X G S) (hk:k<3) (hv:FnP X G.fb v c) (hok:okC (S.dir k).seen c) (hcn:c.kind=0→c.n<S.files.length) (hpl: (S.dir k).pend.length<1000000):
  Rets Tryz.prog 116 #[vp G.bd 0,vp (G.d k) 0,v] w (XS w X (fun r D=>r=vi ((zm_ S).2:Nat)∧if(zm_ S).2≠0 then D=setB X G.bd (jr_ G.bm (zm_ S).1) else∃v2,DkP D (setP G k v2) (Qh_ (zm_ S).1 k c))):=by
 obtain⟨fk,cap,rfl,-,-⟩:=Xb_ hv (hP.seen k hk) (hP.ok.seen k hk) hok
 refine Rets.enterX Tryz.func116 rfl (rs:= [.tmp 6]) Tryz.results116 Tryz.ntmps116 hX hn ?_
 refine kf ?_
 first|with_reducible refine ks [] @wR_ ?_|refine kp @wR_ ?_
 refine Ow.callM rfl rfl Tryz.call81 (zh_ hP.disk) (fun w' hw'=>vh_ G.bd G.bm S w' hP.ok.fuse (hw'.has _ _ (zp_ hP.disk))) ?_
 obtain⟨hb1,hb2,hb3⟩:=jy_ S
 have hP1:=hP.setDisk (zm_ S).1 hb1 hb2 (k6_ hP.ok)
 have hE1:=(Ext.refl w X).setB (b:=G.bd) (o:=jr_ G.bm (zm_ S).1)
 have hv1:FnP (setB X G.bd (jr_ G.bm (zm_ S).1)) G.fb (.func (.func fk) #[] cap) c:=hv.keep fun b o ho hx=>qj_ hP.disk ho (by rcases hx with⟨s,rfl⟩ | ⟨a,rfl⟩<;>simp[tyO,jr_,vB_,VI_])
 generalize hL1:setB X G.bd (jr_ G.bm (zm_ S).1)=L1 at*
 by_cases hbn: (zm_ S).2=0
 ·have e2: (((zm_ S).2:Int) !=0)=false:=by rw[hbn];rfl
  have hsk:SrtN ((zm_ S).1.dir k).seen:=hP1.ok.seen k hk
  have hok1:okC ((zm_ S).1.dir k).seen c:=by rw[hb1];exact hok
  obtain⟨fk',cap',he,hfk,hcall⟩:=Xb_ hv1 (hP1.seen k hk) hsk hok1
  cases he
  have hdr:=za_ (w0:=w) (hP1.dir k hk)
  obtain⟨os,ms,hos,hms,-⟩:=hP1.seen k hk
  have hds:G.d k≠G.s k:=by
   intro e
   have h1:=hP1.dir k hk
   rw[e,hos] at h1;cases h1
   obtain⟨es,cl,h,-⟩:=hms;cases h
  obtain⟨vals,hvl,hGr,hF⟩:=hP1.pend k hk
  refine ko (And.intro @wR_ @e2) ?_
  first|with_reducible refine ks [] (And.intro @wR_ @hdr) ?_|refine kp (And.intro @wR_ @hdr) ?_
  refine Ow.callFnXC (b:=vm (G.s k)) (cap:=cap) (ars:= #[vm (G.s k)]++cap) rfl (X:=L1) (Y:= []) (List.append_nil _).symm rfl rfl rfl rfl hfk (fun w' hw' hX' hn'=>hcall w' hX' hn') (fun r D hC hS=> ?_)
  rw[List.append_nil]
  obtain⟨rfl,o',hO,hN2⟩:=hS
  have hE2:=hE1.came0 hC
  have hdl:Sx.look D (G.d k)=some (xW_ (G.s k) (G.t k) (G.p k)):=(hO.rest _ hds).trans (hP1.dir k hk)
  have hdr2:=za_ (w0:=w) hdl
  have hGD:Gr D 137 1 (G.p k) vals.length vals:=hGr.keep fun b o hb ho=>by
   obtain⟨arr,ha⟩:=kC_ hGr hb
   rw[ho] at ha;cases ha
   refine(hO.rest b ?_).trans ho
   rintro rfl
   rw[hos] at ho;cases ho
   obtain⟨es,cl,h,-⟩:=hms;cases h
  refine ko @wR_ ?_
  first|with_reducible refine ks [] (And.intro @wR_ @hdr2) ?_|refine kp (And.intro @wR_ @hdr2) ?_
  refine Ow.buildSlice (e:=137) #[.func (.func fk) #[] cap] rfl rfl (by kernel_rfl) fun ba hba hwa=> ?_
  refine ko @wR_ ?_
  refine Ow.appendG (e:=137) (k:=1) (new:= [.func (.func fk) #[] cap]) (G.p k) rfl rfl rfl Tryz.underlying128 (id (by kernel_rfl):zT_ Tryz.prog 137=some (false,1)) (by kernel_rfl) (id (by kernel_rfl):zL_ Tryz.prog 137=some .nilFunc) rfl Tryz.underlying128 (by intro k h;cases h) hGD.app (fun w' hw'=>AppX.one1 (hw'.has _ _ (List.mem_append_right _ List.mem_cons_self)) rfl rfl) rfl (by rw[hvl,hb1];omega) (fun v2 L2 hB2 _ hg2 hs2=> ?_)
  have hE3:=(hE2.app (o:= .cells #[.func (.func fk) #[] cap] 137 (0,0)) hwa).grew hg2
  have hpd:slB (G.p k)≠some (G.d k):=fun e=>by
   obtain⟨arr,ha⟩:=kC_ hGD e
   rw[hdl] at ha
   simp[xW_] at ha
  have hd2:Sx.look L2 (G.d k)=some (xW_ (G.s k) (G.t k) (G.p k)):=hg2.look _ _ hpd (zl_ hdl)
  have hr2:=za_ (w0:=w) hd2
  have st:=fun x=>QO_ (G.s k) (G.t k) (G.p k) v2 x hB2.cell
  refine ko @wR_ ?_
  first|with_reducible refine ks [] (And.intro @wR_ (And.intro @hd2 (@st))) ?_|refine kp (And.intro @wR_ (And.intro @hd2 (@st))) ?_
  refine⟨_,(ke @wR_), ?_⟩
  refine⟨hE3.setB,by rw[hbn];rfl, ?_⟩
  rw[if_neg (by rw[hbn];simp)]
  have hAb: ∀b,jI_ (D++ [(ba, .cells #[.func (.func fk) #[] cap] 137 (0,0))]) b→b∉keys L1:=fun b hb hm=>by
   have:=zv_ hb (b:=b) (by rw[zt_,hO.keys];exact List.mem_append_left _ hm)
   omega
  have hkd: ∀b o,Sx.look L1 b=some o→b≠G.s k→b≠G.d k→slB (G.p k)≠some b→Sx.look (setB L2 (G.d k) (xW_ (G.s k) (G.t k) v2)) b=some o:=fun b o hb h1 h2 h3=>by
   rw[zb_ (Ne.symm h2)]
   exact hg2.look _ _ h3 (zl_ ((hO.rest b h1).trans hb))
  obtain⟨oN,mN,hN3,hN4,hN5⟩:=hN2
  have hps:slB (G.p k)≠some (G.s k):=fun e=>by
   obtain⟨arr,ha⟩:=kC_ hGr e
   rw[hos] at ha;cases ha
   obtain⟨es,cl,h,-⟩:=hms;cases h
  have hv2d:slB v2≠some (G.d k):=fun e=>by
   rcases hs2 with h| ⟨b',h,ha⟩
   ·exact hpd (by rw[←h];exact e)
   ·rw[h] at e;cases e
    exact hAb _ ha (zh_ (hP1.dir k hk))
  refine⟨v2,hP1.turn hk (c:=c) (v:= .func (.func fk) #[] cap) (v2:=v2) (vals:=vals) ⟨hkd⟩ ⟨oN,mN, ?_,hN4,hN5⟩ (zw_ hd2) hvl hF hGr (hB2.keep fun b o hb ho=> ?_) hv1 (hs2.imp id fun⟨b',h,ha⟩=>⟨b',h,hAb _ ha⟩) hok1 (by rw[hb2];exact hcn)⟩
  ·rw[zb_ hds]
   exact hg2.look _ _ hps (zl_ hN3)
  ·rw[zb_ (by rintro rfl;exact hv2d hb)];exact ho
 ·have e2:=xu_ hbn
  refine ko (And.intro @wR_ @e2) ?_
  first|with_reducible refine ks [] @wR_ ?_|refine kp @wR_ ?_
  refine⟨_,(ke @wR_), ?_⟩
  refine⟨hE1,rfl, ?_⟩
  rw[if_pos hbn]
end Go.Proofs
end
section
open Go Go.Proofs Go.Sx Go.StP
namespace Go.Proofs
set_option maxRecDepth 10000
set_option maxHeartbeats 400000
set_option linter.unusedSimpArgs false
def addF (G:DkG) (bf:Nat):DkG:={G with fb:=G.fb++ [bf]}
def k0_ (S:DiskL) (f:FileL):DiskL:={S with files:=S.files++ [f]}
theorem alX_ {S:DiskL} (h:DkOk S) {f:FileL} (hf:f.data.length≤1048576∧f.stl≤f.data.length):DkOk (k0_ S f):=by
 have e: (k0_ S f).files.length=S.files.length+1:=by unfold k0_;simp
 refine⟨h.seen,h.stl,fun k hk p hp=>by rw[e];exact Nat.lt_succ_of_lt (h.seenN k hk p hp),fun k hk p hp=>by rw[e];exact Nat.lt_succ_of_lt (h.stlN k hk p hp),fun k hk c hc h0=>by rw[e];exact Nat.lt_succ_of_lt (h.pendN k hk c hc h0),fun g hg=> ?_,h.fuse,h.max⟩
 rcases List.mem_append.1 hg with hg|hg
 ·exact h.file g hg
 ·rw[List.mem_singleton.1 hg];exact hf
theorem anw_ {fb:List Nat} {bf n:Nat} (h:n<fb.length): (fb++ [bf]).getD n 0=fb.getD n 0:=Kl_ 0 n h
theorem DkP.addFile {X:zc_} {G:DkG} {S:DiskL} (h:DkP X G S) {bf:Nat} {f:FileL} (hb:Sx.look X bf=some (kc_ f)) (hn:bf∉G.fb) (hf:f.data.length≤1048576∧f.stl≤f.data.length):DkP X (addF G bf) (k0_ S f):=by
 have hl:=h.len
 have hNm: ∀ {b:Nat} {l:NmL},(∀p,p∈l→p.2<S.files.length)→NmM X G.fb b l→NmM X (G.fb++ [bf]) b l:=by
  rintro b l hlt ⟨o,m,h1,h2,h3⟩
  exact⟨o,m,h1,h2,h3.mono fun p hp=>anw_ (by have:=hlt p hp;omega)⟩
 refine⟨h.disk,h.dirs,h.dir,fun k hk=>hNm (h.ok.seenN k hk) (h.seen k hk),fun k hk=>hNm (h.ok.stlN k hk) (h.stl k hk),fun k hk=> ?_,fun n hn'=> ?_, ?_, ?_,h.nodm,h.nodd,h.nodb,h.nodp,alX_ h.ok hf⟩
 ·obtain⟨vals,h1,h2,h3⟩:=h.pend k hk
  refine⟨vals,h1,h2,fun i hi=> ?_⟩
  have hF:=h3 i hi
  have hm: ((S.dir k).pend.getD i wa_)∈ (S.dir k).pend:=by
   rw[List.getD_eq_getElem?_getD,List.getElem?_eq_getElem (by omega)];exact List.getElem_mem _
  have hc:=h.ok.pendN k hk _ hm
  show FnP X (G.fb++ [bf]) (vals.getD i undef) ((S.dir k).pend.getD i wa_)
  generalize (S.dir k).pend.getD i wa_=c at*
  unfold FnP at hF ⊢
  split at hF
  ·rename_i hk0
   rw[anw_ (by have:=hc hk0;omega)]
   exact hF
  ·exact hF
  ·exact hF
 ·have hn2:n<S.files.length+1:=by
   have: (k0_ S f).files.length=S.files.length+1:=by unfold k0_;simp
   omega
  show Sx.look X ((G.fb++ [bf]).getD n 0)=some (kc_ ((S.files++ [f]).getD n q2_))
  by_cases e:n=S.files.length
  ·subst e
   rw[QE_ _ _ hl,QE_ _ _ rfl];exact hb
  ·rw[Kl_ _ _ (by omega),Kl_ _ _ (by omega)]
   exact h.file n (by omega)
 ·show(G.fb++ [bf]).length=(S.files++ [f]).length
  rw[List.length_append,List.length_append,hl];rfl
 ·show(G.fb++ [bf]).Nodup
  refine List.nodup_append.2 ⟨h.nodf,by simp,fun a ha b hb'=> ?_⟩
  rw[List.mem_singleton.1 hb']
  rintro rfl;exact hn ha
theorem ai4_:jk_ (vw_ Tryz.prog 126) (zL_ Tryz.prog 126) []=some (.agg #[vs [],vi 0]):=by
 rw[show vw_ Tryz.prog 126=some [(0,1),(1,1)] from id (by kernel_rfl),show zL_ Tryz.prog 126=some (.agg #[vs [],vi 0]) from id (by kernel_rfl)];rfl
theorem asr_:zL_ Tryz.prog 124=some (.pointer none):=zrPf
theorem ajw_ (b:Nat) (a:Bool):zn_ (some (a,1)) (some (.cells (Value.pointer none).cells 124 (0,0))) 0 (vp b 0)=some (VI_ b):=
 zs_ [] [.pointer none] [vp b 0] [] a _ 124 rfl rfl rfl rfl rfl
set_option linter.defProp false
def wg_:=And.intro (@zg_) (And.intro (@zf_) (@ajw_))
theorem Vh_ (name:List UInt8) (w:World):Rets Tryz.prog 117 #[vs name] w (XS w [] (fun v D=> ∃bp bn bf,v= .func (.func 159) #[] #[vp bp 0,vp bn 0]∧Sx.look D bp=some (VI_ bf)∧Sx.look D bn=some (vB_ name)∧Sx.look D bf=some (kc_ q2_))):=by
 refine Rets.enterX Tryz.func117 rfl (rs:= [.tmp 2]) Tryz.results117 Tryz.ntmps117 (fun p hp=>by cases hp) (by simp[keys]) ?_
 refine kf ?_
 first|with_reducible refine ks [] @wg_ ?_|refine kp @wg_ ?_
 refine Ow.box rfl rfl fun bn hbn hwn=> ?_
 simp only[qv_,qu_,qA_,List.nil_append]
 refine ko @wg_ ?_
 first|with_reducible refine ks [] @wg_ ?_|refine kp @wg_ ?_
 refine Ow.build (.agg #[vs [],vi 0]) rfl ai4_ ?_
 refine ko @wg_ ?_
 refine Ow.box rfl rfl fun bf hbf hwf=> ?_
 simp only[qv_,qu_,qA_,zj_]
 refine ko @wg_ ?_
 refine Ow.alloc rfl rfl asr_ fun bp hbp hwp=> ?_
 have h1:bn<bf:=zv_ hbf (by simp[keys])
 have h2:bn<bp:=zv_ hbp (by simp[keys])
 have h3:bf<bp:=zv_ hbp (by simp[keys])
 refine Ow.permL (M:= [(bp, .cells (Value.pointer none).cells 124 (0,0)),(bf, .cells #[vs [],vi 0] 126 (0,0)),(bn, .cells (vs name).cells 9 (0,0))]) (by classical exact List.perm_iff_count.2 fun a=>by simp only[List.count_append,List.count_cons,List.count_nil]<;>omega) ?_
 refine ko @wg_ ?_
 first|with_reducible refine ks [] @wg_ ?_|refine kp @wg_ ?_
 refine⟨_,(ke @wg_), ?_⟩
 refine⟨Ext.of_new ⟨hwp,hwf,hwn,trivial⟩,bp,bn,bf, ?_, ?_, ?_, ?_⟩
 ·simp only[vj_,List.map_toArray,List.map_cons,List.map_nil,qv_,qu_,qA_]
 ·simp[Sx.look]
 ·simp[Sx.look,show bp≠bn by omega,show bf≠bn by omega];rfl
 ·simp[Sx.look,show bp≠bf by omega];rfl
theorem KU_ (name:List UInt8) (w:World):Rets Tryz.prog 122 #[vs name] w (XS w [] (fun v D=> ∃bn,v= .func (.func 161) #[] #[vp bn 0]∧Sx.look D bn=some (vB_ name))):=by
 refine Rets.enterX Tryz.func122 rfl (rs:= [.tmp 2]) Tryz.results122 Tryz.ntmps122 (fun p hp=>by cases hp) (by simp[keys]) ?_
 refine kf ?_
 first|with_reducible refine ks [] @wg_ ?_|refine kp @wg_ ?_
 refine Ow.box rfl rfl fun bn hbn hwn=> ?_
 simp only[qv_,qu_,qA_,List.nil_append]
 refine ko @wg_ ?_
 first|with_reducible refine ks [] @wg_ ?_|refine kp @wg_ ?_
 refine⟨_,(ke @wg_), ?_⟩
 exact⟨Ext.of_new ⟨hwn,trivial⟩,bn,by simp only[vj_,List.map_toArray,List.map_cons,List.map_nil,qv_,qu_,qA_],by simp[Sx.look];rfl⟩
end Go.Proofs
end
section
open Go Go.Proofs Go.Sx Go.StP
namespace Go.Proofs
set_option maxRecDepth 10000
set_option maxHeartbeats 400000
set_option linter.unusedSimpArgs false
def jT_ (S:DiskL) (dir name:List UInt8):DiskL×Nat:=
 if jg_ S dir [name]≠0 then(S,jg_ S dir [name]) else match atD S dir name with
  |some _=>(S,7)
  |none=>if(zm_ S).2≠0 then zm_ S else(Qh_ (k0_ (zm_ S).1 q2_) ((zE_ dir).getD 0) ⟨0,name,[],S.files.length⟩,0)
def vy_ (S:DiskL) (dir name:List UInt8):DiskL×Nat:=
 if jg_ S dir [name]≠0 then(S,jg_ S dir [name]) else match atD S dir name with
  |none=>(S,6)
  |some _=>if(zm_ S).2≠0 then zm_ S else(Qh_ (zm_ S).1 ((zE_ dir).getD 0) ⟨2,name,[],0⟩,0)
def vZ_ (S:DiskL) (dir name to:List UInt8):DiskL×Nat:=
 if jg_ S dir [name,to]≠0 then(S,jg_ S dir [name,to]) else match atD S dir name with
  |none=>(S,6)
  |some _=>if name=to then zm_ S else if(zm_ S).2≠0 then zm_ S else(Qh_ (zm_ S).1 ((zE_ dir).getD 0) ⟨1,name,to,0⟩,0)
theorem ag8_ (S:DiskL) (f:FileL):zm_ (k0_ S f)=(k0_ (zm_ S).1 f,(zm_ S).2):=by
 unfold zm_
 by_cases h1:S.fused=true∧S.fuse=0
 ·rw[if_pos h1,if_pos (by exact h1)];rfl
 ·rw[if_neg h1,if_neg (by exact h1)]
  by_cases h2:S.fused=true
  ·rw[if_pos h2,if_pos (by exact h2)];rfl
  ·rw[if_neg h2,if_neg (by exact h2)]
theorem ap2_ (b o:Nat):qE_ Tryz.prog .neq 124 (vp b o) (.pointer none)=some (.bool true):=by
 simp[qE_,eqX,qe_,qd_,Tryz.underlying124,vp]
theorem apB_:qE_ Tryz.prog .neq 124 (.pointer none) (.pointer none)=some (.bool false):=by
 simp[qE_,eqX,qe_,qd_,Tryz.underlying124]
theorem Qq_ {L D:zc_} {B:Nat} (hA:jI_ L B) (hN:New B D) {b:Nat} {o:Obj} (h:Sx.look D b=some o):Sx.look (L++D) b=some o:=by
 rw[z5_ (fun hm=>by have:=zv_ hA hm;have:=hN.le b (zh_ h);omega)];exact h
theorem DkP.fb_key {X:zc_} {G:DkG} {S:DiskL} (h:DkP X G S) {b:Nat} (hb:b∈G.fb):b∈keys X:=by
 obtain⟨n,hn,rfl⟩:=List.getElem_of_mem hb
 have:=h.file n (by rw[←h.len];exact hn)
 rw[List.getD_eq_getElem?_getD,List.getElem?_eq_getElem hn] at this
 exact zh_ this
set_option linter.defProp false
def zI_:=And.intro (And.intro (And.intro (And.intro (@zg_) (@zf_)) (And.intro (@qx_) (@k9_))) (And.intro (And.intro (@qV_) (@qP_)) (And.intro (@qQ_) (And.intro (@kt_) (@kx_))))) (And.intro (And.intro (And.intro (@aa8_) (@agv_)) (And.intro (@V0_) (@akH_))) (And.intro (And.intro (@acd_) (@ap2_)) (And.intro (@apB_) (And.intro (@Sx.tup2_0) (@Sx.tup2_1)))))
theorem Jh_ (X:zc_) (G:DkG) (S:DiskL) (dir name:List UInt8) (w:World) (hX: ∀p,p∈X→w.heap[p.1]? =some p.2) (hn: (keys X).Nodup) (hP:DkP X G S) (hnm:name.length<1099511627776) (hpl: ∀k,k<3→(S.dir k).pend.length<1000000):
  Rets Tryz.prog 72 #[vp G.bd 0,vs dir,vs name] w (XS w X (fun v D=>v=vi ((jT_ S dir name).2:Nat)∧ ∃G',G'.bd=G.bd∧DkP D G' (jT_ S dir name).1)):=by
 refine Rets.enterX Tryz.func72 rfl (rs:= [.tmp 6]) Tryz.results72 Tryz.ntmps72 hX hn ?_
 refine kf ?_
 first|with_reducible refine ks [] @zI_ ?_|refine kp @zI_ ?_
 refine Ow.buildSlice (e:=9) #[vs name] rfl rfl (by kernel_rfl) fun b1 hb1 hw1=> ?_
 have hP1:=hP.mono (X':=X++ [(b1,Obj.cells #[vs name] 9 (0,0))]) fun b o h=>zl_ h
 have hE1:=(Ext.refl w X).app (o:=Obj.cells #[vs name] 9 (0,0)) hw1
 have hm1: (b1,Obj.cells #[vs name] 9 (0,0))∈X++ [(b1,Obj.cells #[vs name] 9 (0,0))]:=by simp
 generalize X++ [(b1,Obj.cells #[vs name] 9 (0,0))]=L1 at*
 refine ko @zI_ ?_
 refine Ow.callC rfl rfl Tryz.call80 (fun w' hw'=>Rets.toX (jX_ w' G S dir (vsl b1 0 1 1) [name] (hP1.world hw') (ace_ (hw'.has _ _ hm1)) (by simp) (by simpa using hnm))) (fun B2 v2 D2 hA2 hB2 hN2 hS2=> ?_)
 obtain⟨rfl,hS2⟩:=hS2
 rw[List.append_nil]
 clear hm1 hA2 hN2
 unfold jT_ atD
 rcases hS2 with⟨he,rfl⟩ | ⟨he,k,hk,rfl⟩
 ·have e1:=xu_ he
  refine ko @zI_ ?_
  first|with_reducible refine ks [] (And.intro @zI_ @e1) ?_|refine kp (And.intro @zI_ @e1) ?_
  refine⟨_,(ke @zI_), ?_⟩
  rw[if_pos he]
  exact⟨hE1,rfl,G,rfl,hP1⟩
 ·have he': ¬ (jg_ S dir [name]≠0):=by rw[he];simp
  have hk3:=(qD_ hk).1
  have hdr:=za_ (w0:=w) (hP1.dir k hk3)
  obtain⟨os,ms,hos,hms,hnp⟩:=hP1.seen k hk3
  have hso:=za_ (w0:=w) hos
  have e1: ((0:Int) !=0)=false:=rfl
  refine ko @zI_ ?_
  first|with_reducible refine ks [] (And.intro @zI_ (And.intro @e1 (@hdr))) ?_|refine kp (And.intro @zI_ (And.intro @e1 (@hdr))) ?_
  refine Ow.mapGetG (encK:=vs) (encV:=qT_) (k:=name) (z:=none) rfl rfl Tryz.underlying127 jM_ zrPf rfl rfl hso hms ?_
  rw[hnp.get (hP.ok.seen k hk3).nodup]
  show Ow _ _ _ _ _ _ _ _
  have hq: (zE_ dir).bind (fun k=>zC_ (S.dir k).seen name)=zC_ (S.dir k).seen name:=by rw[hk];rfl
  cases hf:zC_ (S.dir k).seen name with
  |some n=>
   have hp: ∀q:Nat,qT_ (some q)=vp q 0:=fun _=>rfl
   refine ko (And.intro @zI_ @hp) ?_
   first|with_reducible refine ks [] @zI_ ?_|refine kp @zI_ ?_
   refine⟨_,(ke @zI_), ?_⟩
   rw[if_neg he',hq,hf]
   exact⟨hE1,rfl,G,rfl,hP1⟩
  |none=>
   have hp0:qT_ none= .pointer none:=rfl
   refine ko (And.intro @zI_ @hp0) ?_
   first|with_reducible refine ks [] @zI_ ?_|refine kp @zI_ ?_
   refine Ow.callC rfl rfl Tryz.call117 (fun w' hw'=>Vh_ name w') (fun B3 v3 D3 hA3 hB3 hN3 hS3=> ?_)
   obtain⟨bp,bn,bf,rfl,hbp,hbn,hbf⟩:=hS3
   have hP2:=hP1.mono (X':=L1++D3) fun b o h=>zl_ h
   have hbp2:=Qq_ hA3 hN3 hbp
   have hbn2:=Qq_ hA3 hN3 hbn
   have hbf2:=Qq_ hA3 hN3 hbf
   have hnf:bf∉G.fb:=fun hm=>by
    have h1:=zv_ hA3 (hP1.fb_key hm)
    have h2:=hN3.le bf (zh_ hbf)
    omega
   have hP3:=hP2.addFile hbf2 hnf (f:=q2_) ⟨by decide,by decide⟩
   have hE2:Ext w X (L1++D3):=⟨fun c hc=>by
    rw[zt_] at hc
    rcases List.mem_append.1 hc with hc|hc
    ·exact hE1.new c hc
    ·exact .inr (Nat.le_trans hB3 (hN3.le c hc)),fun c hc=>by rw[zt_];exact List.mem_append_left _ (hE1.all c hc)⟩
   generalize L1++D3=L3 at*
   refine ko @zI_ ?_
   refine Ow.callX (X:=L3) (Y:= []) (List.append_nil _).symm rfl rfl Tryz.call116 (fun w' hw' hX' hn'=>Zv_ L3 (addF G bf) (k0_ S q2_) k ⟨0,name,[],S.files.length⟩ _ w' hX' hn' hP3 hk3 ⟨bp,bn,rfl,by show Sx.look L3 bp=some (VI_ ((G.fb++ [bf]).getD S.files.length 0));rw[QE_ _ _ hP.len];exact hbp2,hbn2⟩ (fun h=>by cases h) (fun _=>by show S.files.length< (S.files++ [q2_]).length;simp) (hpl k hk3)) (fun v4 D4 hC4 hS4=> ?_)
   rw[ag8_] at hS4
   obtain⟨rfl,hS4⟩:=hS4
   simp only at hS4
   have hE4:=hE2.came0 hC4
   rw[List.append_nil]
   refine ko @zI_ ?_
   first|with_reducible refine ks [] @zI_ ?_|refine kp @zI_ ?_
   refine⟨_,(ke @zI_), ?_⟩
   rw[if_neg he',hq,hf]
   simp only
   by_cases hbn': (zm_ S).2=0
   ·rw[if_neg (by rw[hbn'];simp)] at hS4
    rw[if_neg (by rw[hbn'];simp)]
    obtain⟨v5,hP5⟩:=hS4
    rw[hk]
    exact⟨hE4,by rw[hbn'];rfl,setP (addF G bf) k v5,rfl,hP5⟩
   ·rw[if_pos hbn'] at hS4
    rw[if_pos hbn']
    subst hS4
    obtain⟨hb1,hb2,hb3⟩:=jy_ S
    exact⟨hE4,rfl,G,rfl,hP2.setDisk (zm_ S).1 hb1 hb2 (k6_ hP.ok)⟩
theorem abY_ (X:zc_) (G:DkG) (S:DiskL) (dir name:List UInt8) (w:World) (hX: ∀p,p∈X→w.heap[p.1]? =some p.2) (hn: (keys X).Nodup) (hP:DkP X G S) (hnm:name.length<1099511627776) (hpl: ∀k,k<3→(S.dir k).pend.length<1000000):
  Rets Tryz.prog 77 #[vp G.bd 0,vs dir,vs name] w (XS w X (fun v D=>v=vi ((vy_ S dir name).2:Nat)∧ ∃G',G'.bd=G.bd∧DkP D G' (vy_ S dir name).1)):=by
 refine Rets.enterX Tryz.func77 rfl (rs:= [.tmp 6]) Tryz.results77 Tryz.ntmps77 hX hn ?_
 refine kf ?_
 first|with_reducible refine ks [] @zI_ ?_|refine kp @zI_ ?_
 refine Ow.buildSlice (e:=9) #[vs name] rfl rfl (by kernel_rfl) fun b1 hb1 hw1=> ?_
 have hP1:=hP.mono (X':=X++ [(b1,Obj.cells #[vs name] 9 (0,0))]) fun b o h=>zl_ h
 have hE1:=(Ext.refl w X).app (o:=Obj.cells #[vs name] 9 (0,0)) hw1
 have hm1: (b1,Obj.cells #[vs name] 9 (0,0))∈X++ [(b1,Obj.cells #[vs name] 9 (0,0))]:=by simp
 generalize X++ [(b1,Obj.cells #[vs name] 9 (0,0))]=L1 at*
 refine ko @zI_ ?_
 refine Ow.callC rfl rfl Tryz.call80 (fun w' hw'=>Rets.toX (jX_ w' G S dir (vsl b1 0 1 1) [name] (hP1.world hw') (ace_ (hw'.has _ _ hm1)) (by simp) (by simpa using hnm))) (fun B2 v2 D2 hA2 hB2 hN2 hS2=> ?_)
 obtain⟨rfl,hS2⟩:=hS2
 rw[List.append_nil]
 clear hm1 hA2 hN2
 unfold vy_ atD
 rcases hS2 with⟨he,rfl⟩ | ⟨he,k,hk,rfl⟩
 ·have e1:=xu_ he
  refine ko @zI_ ?_
  first|with_reducible refine ks [] (And.intro @zI_ @e1) ?_|refine kp (And.intro @zI_ @e1) ?_
  refine⟨_,(ke @zI_), ?_⟩
  rw[if_pos he]
  exact⟨hE1,rfl,G,rfl,hP1⟩
 ·have he': ¬ (jg_ S dir [name]≠0):=by rw[he];simp
  have hk3:=(qD_ hk).1
  have hdr:=za_ (w0:=w) (hP1.dir k hk3)
  obtain⟨os,ms,hos,hms,hnp⟩:=hP1.seen k hk3
  have hso:=za_ (w0:=w) hos
  have e1: ((0:Int) !=0)=false:=rfl
  refine ko @zI_ ?_
  first|with_reducible refine ks [] (And.intro @zI_ (And.intro @e1 (@hdr))) ?_|refine kp (And.intro @zI_ (And.intro @e1 (@hdr))) ?_
  refine Ow.mapGetG (encK:=vs) (encV:=qT_) (k:=name) (z:=none) rfl rfl Tryz.underlying127 jM_ zrPf rfl rfl hso hms ?_
  rw[hnp.get (hP.ok.seen k hk3).nodup]
  show Ow _ _ _ _ _ _ _ _
  have hq: (zE_ dir).bind (fun k=>zC_ (S.dir k).seen name)=zC_ (S.dir k).seen name:=by rw[hk];rfl
  cases hf:zC_ (S.dir k).seen name with
  |none=>
   have hp0:qT_ none= .pointer none:=rfl
   refine ko (And.intro @zI_ @hp0) ?_
   first|with_reducible refine ks [] @zI_ ?_|refine kp @zI_ ?_
   refine⟨_,(ke @zI_), ?_⟩
   rw[if_neg he',hq,hf]
   exact⟨hE1,rfl,G,rfl,hP1⟩
  |some n=>
   have hp: ∀q:Nat,qT_ (some q)=vp q 0:=fun _=>rfl
   refine ko (And.intro @zI_ @hp) ?_
   first|with_reducible refine ks [] @zI_ ?_|refine kp @zI_ ?_
   refine Ow.callC rfl rfl Tryz.call122 (fun w' hw'=>KU_ name w') (fun B3 v3 D3 hA3 hB3 hN3 hS3=> ?_)
   obtain⟨bn,rfl,hbn⟩:=hS3
   have hP2:=hP1.mono (X':=L1++D3) fun b o h=>zl_ h
   have hbn2:=Qq_ hA3 hN3 hbn
   have hE2:Ext w X (L1++D3):=⟨fun c hc=>by
    rw[zt_] at hc
    rcases List.mem_append.1 hc with hc|hc
    ·exact hE1.new c hc
    ·exact .inr (Nat.le_trans hB3 (hN3.le c hc)),fun c hc=>by rw[zt_];exact List.mem_append_left _ (hE1.all c hc)⟩
   generalize L1++D3=L3 at*
   refine ko @zI_ ?_
   refine Ow.callX (X:=L3) (Y:= []) (List.append_nil _).symm rfl rfl Tryz.call116 (fun w' hw' hX' hn'=>Zv_ L3 G S k ⟨2,name,[],0⟩ _ w' hX' hn' hP2 hk3 ⟨bn,rfl,hbn2⟩ (fun h=>by cases h) (fun h=>by cases h) (hpl k hk3)) (fun v4 D4 hC4 hS4=> ?_)
   obtain⟨rfl,hS4⟩:=hS4
   have hE4:=hE2.came0 hC4
   rw[List.append_nil]
   refine ko @zI_ ?_
   first|with_reducible refine ks [] @zI_ ?_|refine kp @zI_ ?_
   refine⟨_,(ke @zI_), ?_⟩
   rw[if_neg he',hq,hf]
   simp only
   by_cases hbn': (zm_ S).2=0
   ·rw[if_neg (by rw[hbn'];simp)] at hS4
    rw[if_neg (by rw[hbn'];simp)]
    obtain⟨v5,hP5⟩:=hS4
    rw[hk]
    exact⟨hE4,by rw[hbn'];rfl,setP G k v5,rfl,hP5⟩
   ·rw[if_pos hbn'] at hS4
    rw[if_pos hbn']
    subst hS4
    obtain⟨hb1,hb2,hb3⟩:=jy_ S
    exact⟨hE4,rfl,G,rfl,hP2.setDisk (zm_ S).1 hb1 hb2 (k6_ hP.ok)⟩
theorem ab7_ (X:zc_) (G:DkG) (S:DiskL) (dir name to:List UInt8) (w:World) (hX: ∀p,p∈X→w.heap[p.1]? =some p.2) (hn: (keys X).Nodup) (hP:DkP X G S) (hnm:name.length<1099511627776) (hto:to.length<1099511627776) (hpl: ∀k,k<3→(S.dir k).pend.length<1000000):
  Rets Tryz.prog 76 #[vp G.bd 0,vs dir,vs name,vs to] w (XS w X (fun v D=>v=vi ((vZ_ S dir name to).2:Nat)∧ ∃G',G'.bd=G.bd∧DkP D G' (vZ_ S dir name to).1)):=by
 refine Rets.enterX Tryz.func76 rfl (rs:= [.tmp 8]) Tryz.results76 Tryz.ntmps76 hX hn ?_
 refine kf ?_
 first|with_reducible refine ks [] @zI_ ?_|refine kp @zI_ ?_
 refine Ow.box rfl rfl fun b6 hb6 hw6=> ?_
 simp only[qv_,qu_,qA_]
 refine ko @zI_ ?_
 refine Ow.box rfl rfl fun b7 hb7 hw7=> ?_
 simp only[qv_,qu_,qA_]
 refine Ow.permL (M:=X++ [(b6,vB_ name)]++ [(b7,vB_ to)]) (List.Perm.refl _) ?_
 have hP0:=hP.mono (X':=X++ [(b6,vB_ name)]++ [(b7,vB_ to)]) fun b o h=>zl_ (zl_ h)
 have hE0:=((Ext.refl w X).app (o:=vB_ name) hw6).app (o:=vB_ to) hw7
 have hl6:Sx.look (X++ [(b6,vB_ name)]++ [(b7,vB_ to)]) b6=some (vB_ name):=zl_ (xz_ hb6)
 have hl7:Sx.look (X++ [(b6,vB_ name)]++ [(b7,vB_ to)]) b7=some (vB_ to):=xz_ hb7
 generalize X++ [(b6,vB_ name)]++ [(b7,vB_ to)]=L0 at*
 have hr6:=za_ (w0:=w) hl6
 have hr7:=za_ (w0:=w) hl7
 refine ko @zI_ ?_
 first|with_reducible refine ks [] (And.intro @zI_ (And.intro @hr6 (@hr7))) ?_|refine kp (And.intro @zI_ (And.intro @hr6 (@hr7))) ?_
 refine Ow.buildSlice (e:=9) #[vs name,vs to] rfl rfl (by kernel_rfl) fun b1 hb1 hw1=> ?_
 have hP1:=hP0.mono (X':=L0++ [(b1,Obj.cells #[vs name,vs to] 9 (0,0))]) fun b o h=>zl_ h
 have hE1:=hE0.app (o:=Obj.cells #[vs name,vs to] 9 (0,0)) hw1
 have hm1: (b1,Obj.cells #[vs name,vs to] 9 (0,0))∈L0++ [(b1,Obj.cells #[vs name,vs to] 9 (0,0))]:=by simp
 have hl6:=zl_ (M:= [(b1,Obj.cells #[vs name,vs to] 9 (0,0))]) hl6
 have hl7:=zl_ (M:= [(b1,Obj.cells #[vs name,vs to] 9 (0,0))]) hl7
 generalize L0++ [(b1,Obj.cells #[vs name,vs to] 9 (0,0))]=L1 at*
 have hr6:=za_ (w0:=w) hl6
 have hr7:=za_ (w0:=w) hl7
 have hnms: ∀s,s∈ [name,to]→s.length<1099511627776:=by
  intro s hs
  simp only[List.mem_cons,List.not_mem_nil,or_false] at hs
  rcases hs with rfl|rfl
  ·exact hnm
  ·exact hto
 refine ko @zI_ ?_
 refine Ow.callC rfl rfl Tryz.call80 (fun w' hw'=>Rets.toX (jX_ w' G S dir (vsl b1 0 2 2) [name,to] (hP1.world hw') (aqO_ (hw'.has _ _ hm1)) (by simp) hnms)) (fun B2 v2 D2 hA2 hB2 hN2 hS2=> ?_)
 obtain⟨rfl,hS2⟩:=hS2
 rw[List.append_nil]
 clear hm1 hA2 hN2 hnms
 unfold vZ_ atD
 rcases hS2 with⟨he,rfl⟩ | ⟨he,k,hk,rfl⟩
 ·have e1:=xu_ he
  refine ko @zI_ ?_
  first|with_reducible refine ks [] (And.intro @zI_ @e1) ?_|refine kp (And.intro @zI_ @e1) ?_
  refine⟨_,(ke @zI_), ?_⟩
  rw[if_pos he]
  exact⟨hE1,rfl,G,rfl,hP1⟩
 ·have he': ¬ (jg_ S dir [name,to]≠0):=by rw[he];simp
  have hk3:=(qD_ hk).1
  have hdr:=za_ (w0:=w) (hP1.dir k hk3)
  obtain⟨os,ms,hos,hms,hnp⟩:=hP1.seen k hk3
  have hso:=za_ (w0:=w) hos
  have e1: ((0:Int) !=0)=false:=rfl
  have hq: (zE_ dir).bind (fun k=>zC_ (S.dir k).seen name)=zC_ (S.dir k).seen name:=by rw[hk];rfl
  refine ko @zI_ ?_
  first|with_reducible refine ks [] (And.intro @zI_ @e1) ?_|refine kp (And.intro @zI_ @e1) ?_
  refine Cw.regionS [G.d k,b6] [0,1,2,3,4,5,6,7] [] (by kernel_rfl) (by kernel_rfl) (by kernel_rfl) ?_
  simp only[zo_, ↓zi_, ↓zd_, ↓zz_, ↓zy_,ze_]
  refine kq (And.intro @zI_ (And.intro @hdr (@hr6))) ?_
  refine Ow.soft rfl rfl rfl ?_
  refine Ow.mapGetG (encK:=vs) (encV:=qT_) (k:=name) (z:=none) rfl rfl Tryz.underlying127 jM_ zrPf rfl rfl hso hms ?_
  with_reducible refine Ow.nil ?_
  refine⟨by intro b hb;simp only[List.mem_cons,List.not_mem_nil,or_false] at hb;(try subst hb);rfl, ?_⟩
  rw[hnp.get (hP.ok.seen k hk3).nodup]
  show Ow _ _ _ _ _ _ _ _
  cases hf:zC_ (S.dir k).seen name with
  |none=>
   have hp0:qT_ none= .pointer none:=rfl
   refine kq (And.intro @zI_ @hp0) ?_
   try with_reducible refine Ow.nil ?_
   first|with_reducible refine ks [] @zI_ ?_|refine kp @zI_ ?_
   refine⟨_,(ke @zI_), ?_⟩
   rw[if_neg he',hq,hf]
   exact⟨hE1,rfl,G,rfl,hP1⟩
  |some n=>
   have hp: ∀q:Nat,qT_ (some q)=vp q 0:=fun _=>rfl
   have hbk:G.bd∈keys L1:=zh_ hP1.disk
   obtain⟨hb1,hb2,hb3⟩:=jy_ S
   refine kq (And.intro @zI_ @hp) ?_
   try with_reducible refine Ow.nil ?_
   cases hnt: (name==to) with
   |true=>
    have hnt':name=to:=eq_of_beq hnt
    first|with_reducible refine ks [] (And.intro @zI_ (And.intro @hr6 (And.intro @hr7 (@hnt)))) ?_|refine kp (And.intro @zI_ (And.intro @hr6 (And.intro @hr7 (@hnt)))) ?_
    refine Ow.callM rfl rfl Tryz.call81 hbk (fun w' hw'=>vh_ G.bd G.bm S w' hP.ok.fuse (hw'.has _ _ (zp_ hP1.disk))) ?_
    have hP2:=hP1.setDisk (zm_ S).1 hb1 hb2 (k6_ hP.ok)
    have hE2:=hE1.setB (b:=G.bd) (o:=jr_ G.bm (zm_ S).1)
    generalize setB L1 G.bd (jr_ G.bm (zm_ S).1)=L2 at*
    refine ko @zI_ ?_
    first|with_reducible refine ks [] @zI_ ?_|refine kp @zI_ ?_
    refine⟨_,(ke @zI_), ?_⟩
    rw[if_neg he',hq,hf]
    simp only
    rw[if_pos hnt']
    exact⟨hE2,rfl,G,rfl,hP2⟩
   |false=>
    have hnt':name≠to:=fun e=>by rw[e] at hnt;simp at hnt
    first|with_reducible refine ks [] (And.intro @zI_ (And.intro @hr6 (And.intro @hr7 (@hnt)))) ?_|refine kp (And.intro @zI_ (And.intro @hr6 (And.intro @hr7 (@hnt)))) ?_
    simp only[List.map_toArray,List.map_cons,List.map_nil,qv_,qu_,qA_]
    refine Ow.callX (X:=L1) (Y:= []) (List.append_nil _).symm rfl rfl Tryz.call116 (fun w' hw' hX' hn'=>Zv_ L1 G S k ⟨1,name,to,0⟩ (.func (.func 121) #[] #[vp b6 0,vp b7 0]) w' hX' hn' hP1 hk3 ⟨b6,b7,rfl,hl6,hl7⟩ (fun _=>⟨by rw[hf];simp,hnt'⟩) (fun h=>by cases h) (hpl k hk3)) (fun v4 D4 hC4 hS4=> ?_)
    obtain⟨rfl,hS4⟩:=hS4
    have hE4:=hE1.came0 hC4
    rw[List.append_nil]
    refine ko @zI_ ?_
    first|with_reducible refine ks [] @zI_ ?_|refine kp @zI_ ?_
    refine⟨_,(ke @zI_), ?_⟩
    rw[if_neg he',hq,hf]
    simp only
    rw[if_neg hnt']
    by_cases hbn': (zm_ S).2=0
    ·rw[if_neg (by rw[hbn'];simp)] at hS4
     rw[if_neg (by rw[hbn'];simp)]
     obtain⟨v5,hP5⟩:=hS4
     rw[hk]
     exact⟨hE4,by rw[hbn'];rfl,setP G k v5,rfl,hP5⟩
    ·rw[if_pos hbn'] at hS4
     rw[if_pos hbn']
     subst hS4
     exact⟨hE4,rfl,G,rfl,hP1.setDisk (zm_ S).1 hb1 hb2 (k6_ hP.ok)⟩
end Go.Proofs
end
section
open Go Go.Proofs Go.Sx Go.StP
namespace Go.Proofs
set_option maxRecDepth 10000
set_option maxHeartbeats 400000
set_option linter.unusedSimpArgs false
structure CpG where
 L:zc_
 it:Obj
 o:Obj
 dn:List (List UInt8×Option Nat)
 lf:List (List UInt8×Option Nat)
theorem XA_ {α β:Type} [BEq α] [LawfulBEq α] {k:α} {v:β}: ∀ {m:List (α×β)},(∀p,p∈m→p.1≠k)→updG k v m=m++ [(k,v)]
 | [],_=>rfl
 |p::r,h=>by
  have h1: (k==p.1)=false:=beq_eq_false_iff_ne.2 fun e=>h p List.mem_cons_self e.symm
  unfold updG
  rw[if_neg (by rw[h1];simp),XA_ fun q hq=>h q (List.mem_cons_of_mem _ hq)];rfl
set_option linter.defProp false
def vf_:=And.intro (And.intro (And.intro (@zg_) (@zf_)) (And.intro (@Sx.tup2_0) (@Sx.tup2_1))) (And.intro (And.intro (@Je_) (@Sx.tup3_0)) (And.intro (@Sx.tup3_1) (@Sx.tup3_2)))
theorem aho_ (X:zc_) (bt bs:Nat) (ot os:Obj) (m:List (List UInt8×Option Nat)) (w:World) (hX: ∀p,p∈X→w.heap[p.1]? =some p.2) (hn: (keys X).Nodup)
  (ht:Sx.look X bt=some ot) (hmt:wY_ vs qT_ ot ([]:List (List UInt8×Option Nat))) (hs:Sx.look X bs=some os) (hms:wY_ vs qT_ os m) (hne:bt≠bs) (hnd: (m.map Prod.fst).Nodup):
  Rets Tryz.prog 120 #[vm bt,vm bs] w (XS w X (fun v D=>v=vj_ []∧(∀b o,b≠bt→Sx.look X b=some o→Sx.look D b=some o)∧ ∃o' m',Sx.look D bt=some o'∧wY_ vs qT_ o' m'∧m'.Perm m)):=by
 refine Rets.enterX Tryz.func120 rfl (rs:= []) Tryz.results120 Tryz.ntmps120 hX hn ?_
 refine kf ?_
 first|with_reducible refine ks [] @vf_ ?_|refine kp @vf_ ?_
 refine Ow.rangeMapG (encK:=vs) (encV:=qT_) rfl rfl Tryz.underlying127 rfl (za_ hs) hms fun bi oi hbi hwi hI=> ?_
 have hbiX: ∀b o,Sx.look X b=some o→b≠bi:=fun b o hb e=>by
  have:=zv_ hbi (zh_ hb)
  omega
 refine ko @vf_ ?_
 first|with_reducible refine ks [] @vf_ ?_|refine kp @vf_ ?_
 refine Cw.loopG (G:=CpG) [8,9,10,11,12,4,5,13,14,15] (fun g=> []) (fun g=>g.L) (fun g=>Sx.look g.L bi=some g.it∧Sx.look g.L bt=some g.o∧wY_ vs qT_ g.o g.dn∧(∀b o,b≠bt→Sx.look X b=some o→Sx.look g.L b=some o)∧Ext w X g.L∧ItG vs qT_ g.it bs os m g.dn g.lf) (fun g=>g.lf.length) ⟨X++ [(bi,oi)],oi,ot,[],m⟩ rfl rfl ?_ ?_
 ·exact⟨xz_ hbi,zl_ ht,hmt,fun b o _ hb=>zl_ hb,(Ext.refl w X).app hwi,hI⟩
 intro g j hg
 refine kv ?_
 clear hI
 obtain⟨L,it,o,dn,lf⟩:=g
 simp only at hg ⊢
 obtain⟨hli,hlt,hmo,hkeep,hE,hI⟩:=hg
 have hls:=hkeep bs os (Ne.symm hne) hs
 have hit:bt≠bi:=hbiX _ _ ht
 have hsi:bs≠bi:=hbiX _ _ hs
 first|with_reducible refine ks [] @vf_ ?_|refine kp @vf_ ?_
 refine Ow.nextMapG rfl rfl rfl hli (za_ hls) hI (fun hlf=> ?_) (fun p it' lf' hl' hI'=> ?_)
 ·subst hlf
  have hp:=kF_ hI
  rw[List.append_nil] at hp
  refine ko @vf_ ?_
  first|with_reducible refine ks [] @vf_ ?_|refine kp @vf_ ?_
  refine⟨_,(ke @vf_), ?_⟩
  exact⟨hE,rfl,hkeep,o,dn,hlt,hmo,hp⟩
 ·have h1:Sx.look (setB L bi it') bi=some it':=zw_ hli
  have h2:Sx.look (setB L bi it') bt=some o:=by rw[zb_ (Ne.symm hit)];exact hlt
  have h3:Sx.look (setB L bi it') bs=some os:=by rw[zb_ (Ne.symm hsi)];exact hls
  have h4: ∀b o,b≠bt→Sx.look X b=some o→Sx.look (setB L bi it') b=some o:=fun b o hb hx=>by rw[zb_ (Ne.symm (hbiX _ _ hx))];exact hkeep b o hb hx
  have hE1:=hE.setB (b:=bi) (o:=it')
  generalize setB L bi it'=L1 at*
  refine ko @vf_ ?_
  first|with_reducible refine ks [] @vf_ ?_|refine kp @vf_ ?_
  refine Ow.entryMapG (encK:=vs) (encV:=qT_) rfl rfl rfl (za_ h1) (za_ h3) hI' ?_
  obtain⟨s,q⟩:=p
  have hp:=kF_ hI'
  have hds: ∀p,p∈dn→p.1≠s:=by
   have h5:=((hp.map Prod.fst).nodup_iff).2 hnd
   rw[List.map_append,List.map_append,List.nodup_append] at h5
   have h6:=h5.1
   rw[List.nodup_append] at h6
   intro p hp' e
   exact h6.2.2 p.1 (List.mem_map_of_mem hp') s (by simp) e
  refine ko @vf_ ?_
  first|with_reducible refine ks [] @vf_ ?_|refine kp @vf_ ?_
  refine Ow.mapUpdateG (encK:=vs) (encV:=qT_) (k:=s) (v:=q) rfl rfl Tryz.underlying127 jM_ rfl rfl rfl h2 hmo (fun o2 hm2=> ?_)
  rw[XA_ hds] at hm2
  refine ko @vf_ ?_
  first|with_reducible refine ks [] @vf_ ?_|refine kp @vf_ ?_
  exact Again.mk ⟨setB L1 bt o2,it',o2,dn++ [(s,q)],lf'⟩ (by show lf'.length<lf.length;omega) ⟨by show Sx.look (setB L1 bt o2) bi=_;rw[zb_ hit];exact h1,zw_ h2,hm2,fun b o hb hx=>by show Sx.look (setB L1 bt o2) b=_;rw[zb_ (Ne.symm hb)];exact h4 b o hb hx,hE1.setB,hI'⟩ rfl rfl
end Go.Proofs
end
section
open Go Go.Proofs Go.Sx Go.StP
namespace Go.Proofs
set_option maxRecDepth 10000
set_option maxHeartbeats 400000
set_option linter.unusedSimpArgs false
def aio_ (G:DkG) (k s':Nat):DkG:={G with s:=fun j=>if j=k then s' else G.s j,p:=fun j=>if j=k then .slice none 0 0 else G.p j}
theorem DkP.calm {X L:zc_} {G:DkG} {S:DiskL} (h:DkP X G S) {k:Nat} (hk:k<3) {s':Nat} (d:DirL) (hd0:d.pend= [])
  (keep: ∀b o,Sx.look X b=some o→b≠G.t k→b≠G.d k→Sx.look L b=some o) (hs:NmM L G.fb s' d.seen) (ht:NmM L G.fb (G.t k) d.stl)
  (hd:Sx.look L (G.d k)=some (xW_ s' (G.t k) (.slice none 0 0))) (hsn:s'=G.s k∨s'∉keys X) (h1:SrtN d.seen) (h2:SrtN d.stl) (h3: ∀p,p∈d.seen→p.2<S.files.length) (h4: ∀p,p∈d.stl→p.2<S.files.length):
  DkP L (aio_ G k s') (zZ_ S k d):=by
 obtain⟨otk,mtk,hotk,hmtk,-⟩:=h.stl k hk
 have hnt: ∀b o,Sx.look X b=some o→tyO o≠none→b≠G.t k:=by
  rintro b o hb ht rfl
  rw[hotk] at hb;cases hb;exact ht (qU_ hmtk)
 have hnd: ∀b o,Sx.look X b=some o→tyO o≠some 130→b≠G.d k:=by
  rintro b o hb ht rfl
  rw[h.dir k hk] at hb;cases hb;exact ht rfl
 have K: ∀b o,Sx.look X b=some o→tyO o≠none→tyO o≠some 130→Sx.look L b=some o:=fun b o hb h1 h2=>keep b o hb (hnt b o hb h1) (hnd b o hb h2)
 have KM: ∀b o,Sx.look X b=some o→tyO o=none→b≠G.t k→Sx.look L b=some o:=fun b o hb h1 h2=>keep b o hb h2 (hnd b o hb (by rw[h1];intro e;cases e))
 have KF: ∀ {w c},FnP X G.fb w c→FnP L G.fb w c:=fun hw=>hw.keep fun b o hb hx=>K b o hb (by rcases hx with⟨s,rfl⟩ | ⟨a,rfl⟩<;>simp[tyO,vB_,VI_]) (by rcases hx with⟨s,rfl⟩ | ⟨a,rfl⟩<;>simp[tyO,vB_,VI_])
 have hs1: ∀j,j<3→j≠k→s'≠G.s j:=fun j hj hjk=>by
  rcases hsn with e|e
  ·rw[e];exact(wB_ h.nodm hk hj).1 (Ne.symm hjk)
  ·obtain⟨o,m,ho,-⟩:=h.seen j hj
   rintro rfl;exact e (zh_ ho)
 have hs2: ∀j,j<3→s'≠G.t j:=fun j hj=>by
  rcases hsn with e|e
  ·rw[e];exact(wB_ h.nodm hk hj).2.2
  ·obtain⟨o,m,ho,-⟩:=h.stl j hj
   rintro rfl;exact e (zh_ ho)
 have hs3:G.bm≠s':=by
  rcases hsn with e|e
  ·rw[e];exact(h.nodb k hk).1
  ·obtain⟨o,ho,-⟩:=h.dirs
   rintro rfl;exact e (zh_ ho)
 refine⟨?_, ?_, ?_, ?_, ?_, ?_, ?_,h.len,h.nodf, ?_,h.nodd, ?_, ?_, ?_⟩
 ·exact K _ _ h.disk (by simp[tyO,jr_]) (by simp[tyO,jr_])
 ·obtain⟨o,h1,h2⟩:=h.dirs
  exact⟨o,KM _ _ h1 (qU_ h2) (h.nodb k hk).2,h2⟩
 ·intro j hj
  show Sx.look L (G.d j)=some (xW_ (if j=k then s' else G.s j) (G.t j) (if j=k then .slice none 0 0 else G.p j))
  by_cases e:j=k
  ·subst e;rw[if_pos rfl,if_pos rfl];exact hd
  ·rw[if_neg e,if_neg e]
   exact keep _ _ (h.dir j hj) (hnt _ _ (h.dir j hj) (by simp[tyO,xW_])) (anM_ h.nodd hj hk e)
 ·intro j hj
  show NmM L G.fb (if j=k then s' else G.s j) (if j=k then d else S.dir j).seen
  by_cases e:j=k
  ·subst e;rw[if_pos rfl,if_pos rfl];exact hs
  ·rw[if_neg e,if_neg e]
   obtain⟨o,m,h1,h2,h3⟩:=h.seen j hj
   exact⟨o,m,KM _ _ h1 (qU_ h2) (wB_ h.nodm hj hk).2.2,h2,h3⟩
 ·intro j hj
  show NmM L G.fb (G.t j) (if j=k then d else S.dir j).stl
  by_cases e:j=k
  ·subst e;rw[if_pos rfl];exact ht
  ·rw[if_neg e]
   obtain⟨o,m,h1,h2,h3⟩:=h.stl j hj
   exact⟨o,m,KM _ _ h1 (qU_ h2) ((wB_ h.nodm hj hk).2.1 e),h2,h3⟩
 ·intro j hj
  by_cases e:j=k
  ·subst e
   refine⟨[], ?_, ?_,fun i hi=>absurd hi (Nat.not_lt_zero _)⟩
   ·show 0=(if j=j then d else S.dir j:DirL).pend.length
    rw[if_pos rfl,hd0];rfl
   ·show Gr L _ 1 (if j=j then .slice none 0 0 else G.p j) 0 []
    rw[if_pos rfl];exact Gr.nl
  ·obtain⟨vj,h1,h2,h3⟩:=h.pend j hj
   refine⟨vj, ?_, ?_, ?_⟩
   ·show vj.length=(if j=k then _ else S.dir j:DirL).pend.length
    rw[if_neg e];exact h1
   ·show Gr L _ 1 (if j=k then .slice none 0 0 else G.p j) vj.length vj
    rw[if_neg e]
    refine h2.keep fun b o hb ho=> ?_
    obtain⟨arr,ha⟩:=kC_ h2 hb
    rw[ho] at ha;cases ha
    exact K _ _ ho (by simp[tyO]) (by simp[tyO])
   ·intro i hi
    show FnP L G.fb (vj.getD i undef) ((if j=k then _ else S.dir j:DirL).pend.getD i wa_)
    rw[if_neg e]
    exact KF (h3 i hi)
 ·intro n hn
  exact K _ _ (h.file n hn) (by simp[tyO,kc_]) (by simp[tyO,kc_])
 ·have hn:=h.nodm
  have hk':k=0∨k=1∨k=2:=by omega
  rcases hk' with rfl|rfl|rfl
  ·show [s',G.s 1,G.s 2,G.t 0,G.t 1,G.t 2].Nodup
   exact List.nodup_cons.2 ⟨by simp only[List.mem_cons,List.not_mem_nil,or_false,not_or];exact⟨hs1 1 (by omega) (by omega),hs1 2 (by omega) (by omega),hs2 0 (by omega),hs2 1 (by omega),hs2 2 (by omega)⟩,(List.nodup_cons.1 hn).2⟩
  ·show [G.s 0,s',G.s 2,G.t 0,G.t 1,G.t 2].Nodup
   refine(List.Perm.swap (G.s 0) s' _).nodup_iff.1 ?_
   exact List.nodup_cons.2 ⟨by simp only[List.mem_cons,List.not_mem_nil,or_false,not_or];exact⟨hs1 0 (by omega) (by omega),hs1 2 (by omega) (by omega),hs2 0 (by omega),hs2 1 (by omega),hs2 2 (by omega)⟩,(List.nodup_cons.1 ((List.Perm.swap (G.s 0) (G.s 1) _).nodup_iff.2 hn)).2⟩
  ·show [G.s 0,G.s 1,s',G.t 0,G.t 1,G.t 2].Nodup
   have hp: ∀x:Nat,(x:: [G.s 0,G.s 1,G.t 0,G.t 1,G.t 2]).Perm [G.s 0,G.s 1,x,G.t 0,G.t 1,G.t 2]:=fun x=>((List.perm_middle (l₁:= [G.s 0,G.s 1]) (a:=x) (l₂:= [G.t 0,G.t 1,G.t 2]))).symm
   refine(hp s').nodup_iff.1 ?_
   exact List.nodup_cons.2 ⟨by simp only[List.mem_cons,List.not_mem_nil,or_false,not_or];exact⟨hs1 0 (by omega) (by omega),hs1 1 (by omega) (by omega),hs2 0 (by omega),hs2 1 (by omega),hs2 2 (by omega)⟩,(List.nodup_cons.1 ((hp (G.s 2)).nodup_iff.2 hn)).2⟩
 ·intro j hj
  show G.bm≠ (if j=k then s' else G.s j)∧G.bm≠G.t j
  by_cases e:j=k
  ·rw[if_pos e];exact⟨hs3,(h.nodb j hj).2⟩
  ·rw[if_neg e];exact h.nodb j hj
 ·intro i j hi hj hij b hb
  show slB (if j=k then .slice none 0 0 else G.p j)≠some b
  have hb':slB (if i=k then .slice none 0 0 else G.p i)=some b:=hb
  by_cases ei:i=k
  ·rw[if_pos ei] at hb';cases hb'
  ·rw[if_neg ei] at hb'
   by_cases ej:j=k
   ·rw[if_pos ej];intro e;cases e
   ·rw[if_neg ej];exact h.nodp i j hi hj hij b hb'
 ·exact Qe_ h.ok _ h1 h2 h3 h4 (fun c hc=>by rw[hd0] at hc;cases hc)
set_option linter.defProp false
def aaa_:=And.intro (And.intro (And.intro (@zg_) (@zf_)) (And.intro (@qx_) (@qV_))) (And.intro (And.intro (@qP_) (@qQ_)) (And.intro (@Sx.tup2_0) (@Sx.tup2_1)))
def xf_ (S:DiskL) (k:Nat):DiskL:=zZ_ S k ⟨(S.dir k).seen,(S.dir k).seen,[]⟩
theorem Xp_ (X:zc_) (G:DkG) (S:DiskL) (k:Nat) (w:World) (hX: ∀p,p∈X→w.heap[p.1]? =some p.2) (hn: (keys X).Nodup) (hP:DkP X G S) (hk:k<3):
  Rets Tryz.prog 75 #[vp (G.d k) 0] w (XS w X (fun v D=>v=vj_ []∧DkP D (aio_ G k (G.s k)) (xf_ S k)∧ ∀b o,Sx.look X b=some o→b≠G.t k→b≠G.d k→Sx.look D b=some o)):=by
 obtain⟨ot,mt,hot,hmt,hnt⟩:=hP.stl k hk
 obtain⟨os,ms,hos,hms,hns⟩:=hP.seen k hk
 have hdl:=hP.dir k hk
 have hst:G.s k≠G.t k:=(wB_ hP.nodm hk hk).2.2
 have hnm: ∀ {b:Nat} {o:Obj} {m:List (List UInt8×Option Nat)},Sx.look X b=some o→wY_ vs qT_ o m→G.d k≠b:=by
  rintro b o m hb hm rfl
  rw[hdl] at hb;cases hb
  obtain⟨es,cl,h,-⟩:=hm;cases h
 have hdt:=hnm hot hmt
 refine Rets.enterX Tryz.func75 rfl (rs:= []) Tryz.results75 Tryz.ntmps75 hX hn ?_
 refine kf ?_
 ((try with_reducible refine Cw.go [] ?_);(try simp(disch:=(first|assumption|omega| (simp only[KC_,XQ_,UInt64.reduceToNat];try omega))) only[↓Sx.S0,Sx.S1,Tryz.fx,aaa_,Nat.reduceAdd,Nat.reducePow,Int.reducePow,Nat.reduceBEq, ↓reduceIte,UInt8.reduceToNat,UInt16.reduceToNat,UInt32.reduceToNat,UInt64.reduceToNat,Int.reduceToNat,(za_ (w0:=w) hdl)]))
 refine Ow.mapClearG (encK:=vs) (encV:=qT_) rfl rfl Tryz.underlying127 rfl hot hmt (fun o1 hm1=> ?_)
 have hO:Only X (setB X (G.t k) o1) (G.t k) o1:=Only.set hot
 have hE1:=(Ext.refl w X).setB (b:=G.t k) (o:=o1)
 generalize setB X (G.t k) o1=L1 at*
 have hdl1:Sx.look L1 (G.d k)=some (xW_ (G.s k) (G.t k) (G.p k)):=(hO.rest _ hdt).trans hdl
 have hos1:Sx.look L1 (G.s k)=some os:=(hO.rest _ hst).trans hos
 have hr1:=za_ (w0:=w) hdl1
 refine ko @aaa_ ?_
 first|with_reducible refine ks [] @aaa_ ?_|refine kp @aaa_ ?_
 refine Cw.regionS [G.d k] [0,1,2,4,5,6,3,7,8] [] (by kernel_rfl) (by kernel_rfl) (by kernel_rfl) ?_
 simp only[zo_, ↓zi_, ↓zd_, ↓zz_, ↓zy_,ze_]
 refine kq (And.intro @aaa_ @hr1) ?_
 refine Ow.soft rfl rfl rfl ?_
 refine Ow.callX (X:=L1) (Y:= []) (List.append_nil _).symm rfl rfl Tryz.call120 (fun w' hw' hX' hn'=>aho_ L1 (G.t k) (G.s k) o1 os ms w' hX' hn' hO.at_ hm1 hos1 hms (Ne.symm hst) (hns.keys (hP.ok.seen k hk).nodup)) (fun v4 D4 hC4 hS4=> ?_)
 obtain⟨rfl,hkp,o2,m2,hl2,hm2,hp2⟩:=hS4
 have hE2:=hE1.came0 hC4
 rw[List.append_nil]
 have hdl2:=hkp _ _ hdt hdl1
 have hr2:=za_ (w0:=w) hdl2
 with_reducible refine Ow.nil ?_
 refine⟨fun b hb=>by rw[List.mem_singleton] at hb;subst hb;rw[hr1,hr2], ?_⟩
 refine kq @aaa_ ?_
 try with_reducible refine Ow.nil ?_
 have st:=fun x=>QO_ (G.s k) (G.t k) (G.p k) (.slice none 0 0) x ⟨rfl,rfl⟩
 first|with_reducible refine ks [] (And.intro @aaa_ (And.intro @hdl2 (@st))) ?_|refine kp (And.intro @aaa_ (And.intro @hdl2 (@st))) ?_
 refine⟨_,(ke @aaa_), ?_⟩
 have hkeep: ∀b o,Sx.look X b=some o→b≠G.t k→b≠G.d k→Sx.look (setB D4 (G.d k) (xW_ (G.s k) (G.t k) (.slice none 0 0))) b=some o:=fun b o hb h1 h2=>by
  rw[zb_ (Ne.symm h2)]
  exact hkp _ _ h1 ((hO.rest _ h1).trans hb)
 refine⟨hE2.setB,rfl, ?_,hkeep⟩
 have hos2:=hkp _ _ hst hos1
 refine hP.calm hk ⟨(S.dir k).seen,(S.dir k).seen,[]⟩ rfl hkeep ⟨os,ms, ?_,hms,hns⟩ ⟨o2,m2, ?_,hm2,hp2.trans hns⟩ (zw_ hdl2) (.inl rfl) (hP.ok.seen k hk) (hP.ok.seen k hk) (hP.ok.seenN k hk) (hP.ok.seenN k hk)
 ·rw[zb_ (hnm hos hms)];exact hos2
 ·rw[zb_ hdt];exact hl2
end Go.Proofs
end
section
open Go Go.Proofs Go.Sx Go.StP
namespace Go.Proofs
set_option maxRecDepth 10000
set_option maxHeartbeats 400000
set_option linter.unusedSimpArgs false
def q3_ (S:DiskL) (dir:List UInt8):DiskL×Nat:=
 if jg_ S dir []≠0 then(S,jg_ S dir []) else if(zm_ S).2≠0 then zm_ S else(xf_ (zm_ S).1 ((zE_ dir).getD 0),0)
set_option linter.defProp false
def vo_:=And.intro (And.intro (And.intro (@zg_) (@zf_)) (And.intro (@qx_) (@qV_))) (And.intro (And.intro (@qP_) (@qQ_)) (And.intro (@Sx.tup2_0) (@Sx.tup2_1)))
theorem Z2_ (X:zc_) (G:DkG) (S:DiskL) (dir:List UInt8) (w:World) (hX: ∀p,p∈X→w.heap[p.1]? =some p.2) (hn: (keys X).Nodup) (hP:DkP X G S):
  Rets Tryz.prog 21 #[vp G.bd 0,vs dir] w (XS w X (fun v D=>v=vi ((q3_ S dir).2:Nat)∧ ∃G',G'.bd=G.bd∧DkP D G' (q3_ S dir).1)):=by
 refine Rets.enterX Tryz.func21 rfl (rs:= [.tmp 4]) Tryz.results21 Tryz.ntmps21 hX hn ?_
 refine kf ?_
 first|with_reducible refine ks [] @vo_ ?_|refine kp @vo_ ?_
 refine Ow.callC rfl rfl Tryz.call80 (fun w' hw'=>Rets.toX (jX_ w' G S dir (.slice none 0 0) [] (hP.world hw') (SlV.nil w') (by simp) (fun s hs=>by cases hs))) (fun B2 v2 D2 hA2 hB2 hN2 hS2=> ?_)
 obtain⟨rfl,hS2⟩:=hS2
 rw[List.append_nil]
 unfold q3_
 rcases hS2 with⟨he,rfl⟩ | ⟨he,k,hk,rfl⟩
 ·have e1:=xu_ he
  refine ko @vo_ ?_
  first|with_reducible refine ks [] (And.intro @vo_ @e1) ?_|refine kp (And.intro @vo_ @e1) ?_
  refine⟨_,(ke @vo_), ?_⟩
  rw[if_pos he]
  exact⟨Ext.refl w X,rfl,G,rfl,hP⟩
 ·have he': ¬ (jg_ S dir []≠0):=by rw[he];simp
  have hk3:=(qD_ hk).1
  have e1: ((0:Int) !=0)=false:=rfl
  obtain⟨hb1,hb2,hb3⟩:=jy_ S
  refine ko @vo_ ?_
  first|with_reducible refine ks [] (And.intro @vo_ @e1) ?_|refine kp (And.intro @vo_ @e1) ?_
  refine Ow.callM rfl rfl Tryz.call81 (zh_ hP.disk) (fun w' hw'=>vh_ G.bd G.bm S w' hP.ok.fuse (hw'.has _ _ (zp_ hP.disk))) ?_
  have hP2:=hP.setDisk (zm_ S).1 hb1 hb2 (k6_ hP.ok)
  have hE2:=(Ext.refl w X).setB (b:=G.bd) (o:=jr_ G.bm (zm_ S).1)
  generalize setB X G.bd (jr_ G.bm (zm_ S).1)=L2 at*
  by_cases hbn: (zm_ S).2=0
  ·have e2: (((zm_ S).2:Int) !=0)=false:=by rw[hbn];rfl
   refine ko (And.intro @vo_ @e2) ?_
   first|with_reducible refine ks [] @vo_ ?_|refine kp @vo_ ?_
   refine Ow.callX (X:=L2) (Y:= []) (List.append_nil _).symm rfl rfl Tryz.call75 (fun w' hw' hX' hn'=>Xp_ L2 G (zm_ S).1 k w' hX' hn' hP2 hk3) (fun v4 D4 hC4 hS4=> ?_)
   obtain⟨rfl,hS4,-⟩:=hS4
   have hE4:=hE2.came0 hC4
   rw[List.append_nil]
   refine ko @vo_ ?_
   first|with_reducible refine ks [] @vo_ ?_|refine kp @vo_ ?_
   refine⟨_,(ke @vo_), ?_⟩
   rw[if_neg he',if_neg (by rw[hbn];simp),hk]
   exact⟨hE4,rfl,aio_ G k (G.s k),rfl,hS4⟩
  ·have e2:=xu_ hbn
   refine ko (And.intro @vo_ @e2) ?_
   first|with_reducible refine ks [] @vo_ ?_|refine kp @vo_ ?_
   refine⟨_,(ke @vo_), ?_⟩
   rw[if_neg he',if_pos hbn]
   exact⟨hE2,rfl,G,rfl,hP2⟩
def Qg_ (w:World):Prop:= ∃e fz,w.heap[0]? =some (.cells #[vs z9_,vs vT_,vs refD] e fz)
def Zp_ (quota:Int):DiskL:=⟨fun _=>⟨[],[],[]⟩,[],quota,0,false,false⟩
theorem ajc_ (b:Nat) (q:Int):jk_ (vw_ Tryz.prog 123) (zL_ Tryz.prog 123) [(0,vm b),(1,vi q)]=some (.agg #[vm b,vi q,vi 0, .bool false, .bool false]):=by
 rw[show vw_ Tryz.prog 123=some [(0,1),(1,1),(2,1),(3,1),(4,1)] from id (by kernel_rfl),show zL_ Tryz.prog 123=some (.agg #[.map none,vi 0,vi 0, .bool false, .bool false]) from id (by kernel_rfl)];rfl
theorem akC_ (a b:Nat):jk_ (vw_ Tryz.prog 130) (zL_ Tryz.prog 130) [(0,vm a),(1,vm b)]=some (.agg #[vm a,vm b, .slice none 0 0]):=by
 rw[show vw_ Tryz.prog 130=some [(0,1),(1,1),(2,1)] from id (by kernel_rfl),show zL_ Tryz.prog 130=some (.agg #[.map none, .map none, .slice none 0 0]) from id (by kernel_rfl)];rfl
theorem kU_ (e:TypeId) (fz:Nat×Nat):zk_ (some (true,3)) (some (.cells #[vs z9_,vs vT_,vs refD] e fz)) 0=some (.agg #[vs z9_,vs vT_,vs refD]):=jP_ _ e fz 3 rfl
theorem Qa_ {k:Nat} (hk:k<3):wt_ (.arr 3 (false,1)) (.agg #[vs z9_,vs vT_,vs refD]) (some (k:Int))=some (vs (jY_ k)):=by
 have:k=0∨k=1∨k=2:=by omega
 rcases this with rfl|rfl|rfl<;>rfl
def Q8_ (d:Nat→Nat):Nat→List (List UInt8×Option Nat)
 |0=> []
 |k+1=>Q8_ d k++ [(jY_ k,some (d k))]
theorem XO_ {d d':Nat→Nat}: ∀ {k:Nat},(∀j,j<k→d' j=d j)→Q8_ d' k=Q8_ d k
 |0,_=>rfl
 |k+1,h=>by
  unfold Q8_
  rw[XO_ fun j hj=>h j (by omega),h k (by omega)]
theorem ae4_ {d:Nat→Nat} {j:Nat} (hj:j<3): ∀ {k:Nat},k≤j→ ∀p,p∈Q8_ d k→p.1≠jY_ j
 |0,_,_,hp=>by cases hp
 |k+1,hk,p,hp=>by
  rcases List.mem_append.1 hp with hp|hp
  ·exact ae4_ hj (by omega) p hp
  ·rw[List.mem_singleton.1 hp]
   intro e
   have h1:=jG_ (k:=k) (by omega)
   have h2:=jG_ hj
   have e':jY_ k=jY_ j:=e
   rw[e',h2] at h1
   cases h1;omega
structure NwG where
 L:zc_
 o:Obj
 k:Nat
 d:Nat→Nat
 s:Nat→Nat
 t:Nat→Nat
def mtM (L:zc_) (b:Nat):Prop:= ∃o,Sx.look L b=some o∧wY_ vs qT_ o ([]:List (List UInt8×Option Nat))
set_option linter.defProp false
def vH_:=And.intro (And.intro (@zg_) (And.intro (@zf_) (@qx_))) (And.intro (@qV_) (And.intro (@qP_) (@qQ_)))
theorem Xk_ (quota:Int) (w:World) (hq: -9223372036854775808≤quota∧quota<9223372036854775808) (hG:Qg_ w):
  Rets Tryz.prog 28 #[vi quota] w (XS w [] (fun v D=> ∃G,v=vp G.bd 0∧DkP D G (Zp_ quota))):=by
 obtain⟨e,fz,hg⟩:=hG
 refine Rets.enterX Tryz.func28 rfl (rs:= [.tmp 2]) Tryz.results28 Tryz.ntmps28 (fun p hp=>by cases hp) (by simp[keys]) ?_
 refine kf ?_
 first|with_reducible refine ks [] @vH_ ?_|refine kp @vH_ ?_
 refine Ow.makeMapG (encK:=vs) (encV:=qT_) rfl rfl (fun bm om hbm hwm hM=> ?_)
 rw[List.nil_append]
 refine ko @vH_ ?_
 refine Ow.build (.agg #[vm bm,vi quota,vi 0, .bool false, .bool false]) rfl (ajc_ bm quota) ?_
 refine ko @vH_ ?_
 refine Ow.box rfl rfl fun bd hbd hwd=> ?_
 simp only[qv_,qu_,qA_,zj_]
 have hmd:bm<bd:=zv_ hbd (by simp[keys])
 refine Ow.permL (M:= [(bm,om)]++ [(bd,jr_ bm (Zp_ quota))]) (List.Perm.refl _) ?_
 have h0:Sx.look ([(bm,om)]++ [(bd,jr_ bm (Zp_ quota))]) bm=some om:=by simp[Sx.look]
 have h1:Sx.look ([(bm,om)]++ [(bd,jr_ bm (Zp_ quota))]) bd=some (jr_ bm (Zp_ quota)):=xz_ hbd
 have hN:New w.heap.size ([(bm,om)]++ [(bd,jr_ bm (Zp_ quota))]):=⟨hwm,hwd,trivial⟩
 generalize [(bm,om)]++ [(bd,jr_ bm (Zp_ quota))]=L0 at*
 have hg0:=(Array.getElem?_eq_some_iff.1 hg).1
 have hrg:zA_ w L0 0=some (.cells #[vs z9_,vs vT_,vs refD] e fz):=by rw[z2_ (hN.not hg0)];exact hg
 refine ko @vH_ ?_
 first|with_reducible refine ks [] (And.intro @vH_ (And.intro @hrg (@kU_))) ?_|refine kp (And.intro @vH_ (And.intro @hrg (@kU_))) ?_
 refine Cw.loopG (G:=NwG) [12,13,5,14,15,16,17,18,19,20,21,22,23,11] (fun g=> [(11,vi g.k)]) (fun g=>g.L) (fun g=>g.k≤3∧Sx.look g.L bm=some g.o∧wY_ vs qT_ g.o (Q8_ g.d g.k)∧Sx.look g.L bd=some (jr_ bm (Zp_ quota))∧New w.heap.size g.L∧ ∀j,j<g.k→Sx.look g.L (g.d j)=some (xW_ (g.s j) (g.t j) (.slice none 0 0))∧mtM g.L (g.s j)∧mtM g.L (g.t j)∧g.s j<g.t j∧g.t j<g.d j∧bd<g.s j∧ ∀i,i<j→g.d i<g.s j) (fun g=>3 - g.k) ⟨L0,om,0,fun _=>0,fun _=>0,fun _=>0⟩ rfl rfl ?_ ?_
 ·exact⟨Nat.zero_le _,h0,hM,h1,hN,fun j hj=>absurd hj (Nat.not_lt_zero _)⟩
 intro g j hg
 refine kv ?_
 clear h0 hM h1 hN hrg
 obtain⟨L,o,k,d,s,t⟩:=g
 simp only at hg ⊢
 obtain⟨hk,hlm,hM,hld,hN,hall⟩:=hg
 by_cases hlt:k<3
 ·have d1:decide ((k:Int)<3)=true:=decide_eq_true (by omega)
  have ixk:=Qa_ hlt
  have rdd:=za_ (w0:=w) hld
  first|with_reducible refine ks [] (And.intro @vH_ (And.intro @d1 (And.intro @ixk (@rdd)))) ?_|refine kp (And.intro @vH_ (And.intro @d1 (And.intro @ixk (@rdd)))) ?_
  refine Ow.makeMapG (encK:=vs) (encV:=qT_) rfl rfl (fun bs os hbs hws hMs=> ?_)
  refine ko @vH_ ?_
  refine Ow.makeMapG (encK:=vs) (encV:=qT_) rfl rfl (fun bt ot hbt hwt hMt=> ?_)
  refine ko @vH_ ?_
  refine Ow.build (.agg #[vm bs,vm bt, .slice none 0 0]) rfl (akC_ bs bt) ?_
  refine ko @vH_ ?_
  refine Ow.box rfl rfl fun br hbr hwr=> ?_
  simp only[qv_,qu_,qA_,zj_]
  refine Ow.permL (M:=L++ [(bs,os)]++ [(bt,ot)]++ [(br,xW_ bs bt (.slice none 0 0))]) (List.Perm.refl _) ?_
  have up: ∀b x,Sx.look L b=some x→Sx.look (L++ [(bs,os)]++ [(bt,ot)]++ [(br,xW_ bs bt (.slice none 0 0))]) b=some x:=fun b x h=>zl_ (zl_ (zl_ h))
  have ls:Sx.look (L++ [(bs,os)]++ [(bt,ot)]++ [(br,xW_ bs bt (.slice none 0 0))]) bs=some os:=zl_ (zl_ (xz_ hbs))
  have lt:Sx.look (L++ [(bs,os)]++ [(bt,ot)]++ [(br,xW_ bs bt (.slice none 0 0))]) bt=some ot:=zl_ (xz_ hbt)
  have lr:Sx.look (L++ [(bs,os)]++ [(bt,ot)]++ [(br,xW_ bs bt (.slice none 0 0))]) br=some (xW_ bs bt (.slice none 0 0)):=xz_ hbr
  have hN1:New w.heap.size (L++ [(bs,os)]++ [(bt,ot)]++ [(br,xW_ bs bt (.slice none 0 0))]):=((hN.app (show New w.heap.size [(bs,os)] from⟨hws,trivial⟩)).app (show New w.heap.size [(bt,ot)] from⟨hwt,trivial⟩)).app (show New w.heap.size [(br,xW_ bs bt (.slice none 0 0))] from⟨hwr,trivial⟩)
  have c1:bs<bt:=zv_ hbt (by rw[zt_];simp[keys])
  have c2:bt<br:=zv_ hbr (by rw[zt_];simp[keys])
  have c3:bd<bs:=zv_ hbs (zh_ hld)
  have c4: ∀j,j<k→d j<bs:=fun j hj=>zv_ hbs (zh_ (hall j hj).1)
  have c5:bm<bs:=zv_ hbs (zh_ hlm)
  generalize L++ [(bs,os)]++ [(bt,ot)]++ [(br,xW_ bs bt (.slice none 0 0))]=L1 at*
  refine ko @vH_ ?_
  refine Ow.mapUpdateG (encK:=vs) (encV:=qT_) (k:=jY_ k) (v:=some br) rfl rfl Tryz.underlying121 jM_ rfl rfl rfl (up _ _ hlm) hM (fun o2 hm2=> ?_)
  rw[XA_ (ae4_ hlt (Nat.le_refl _))] at hm2
  have ne: ∀b x,b≠bm→Sx.look L1 b=some x→Sx.look (setB L1 bm o2) b=some x:=fun b x h1 h2=>by rw[zb_ (Ne.symm h1)];exact h2
  refine ko @vH_ ?_
  first|with_reducible refine ks [] @vH_ ?_|refine kp @vH_ ?_
  refine Again.mk ⟨setB L1 bm o2,o2,k+1,fun j=>if j=k then br else d j,fun j=>if j=k then bs else s j,fun j=>if j=k then bt else t j⟩ (by show 3 - (k+1)<3 - k;omega) ⟨hlt,zw_ (up _ _ hlm), ?_,ne _ _ (by omega) (up _ _ hld),New.of_le fun q hq=>hN1.le q (by rwa [zQ_] at hq),fun j hj=> ?_⟩ rfl rfl
  ·show wY_ vs qT_ o2 (Q8_ (fun j=>if j=k then br else d j) (k+1))
   unfold Q8_
   rw[XO_ (d:=d) fun j hj=>if_neg (by omega),if_pos rfl]
   exact hm2
  ·show Sx.look (setB L1 bm o2) (if j=k then br else d j)=some (xW_ (if j=k then bs else s j) (if j=k then bt else t j) (.slice none 0 0))∧mtM (setB L1 bm o2) (if j=k then bs else s j)∧mtM (setB L1 bm o2) (if j=k then bt else t j)∧(if j=k then bs else s j)< (if j=k then bt else t j)∧(if j=k then bt else t j)< (if j=k then br else d j)∧bd< (if j=k then bs else s j)∧ ∀i,i<j→(if i=k then br else d i)< (if j=k then bs else s j)
   by_cases e:j=k
   ·subst e
    simp only[if_pos]
    refine⟨ne _ _ (by omega) lr,⟨os,ne _ _ (by omega) ls,hMs⟩,⟨ot,ne _ _ (by omega) lt,hMt⟩,c1,c2,c3,fun i hi=> ?_⟩
    rw[if_neg (by omega)];exact c4 i hi
   ·simp only[if_neg e]
    have hj':j<k:=by have:j<k+1:=hj;omega
    obtain⟨q1,⟨oo,q2,q3⟩,⟨oo2,q4,q5⟩,q6,q7,q8,q9⟩:=hall j hj'
    refine⟨ne _ _ (by omega) (up _ _ q1),⟨oo,ne _ _ (by omega) (up _ _ q2),q3⟩,⟨oo2,ne _ _ (by omega) (up _ _ q4),q5⟩,q6,q7,q8,fun i hi=> ?_⟩
    rw[if_neg (by omega)];exact q9 i hi
 ·obtain rfl:k=3:=by omega
  have d1:decide (((3:Nat):Int)<3)=false:=rfl
  first|with_reducible refine ks [] (And.intro @vH_ @d1) ?_|refine kp (And.intro @vH_ @d1) ?_
  refine⟨_,(ke @vH_), ?_⟩
  obtain⟨a1,a2,a3,a4,a5,a6,a7⟩:=hall 0 (by omega)
  obtain⟨b1,b2,b3,b4,b5,b6,b7⟩:=hall 1 (by omega)
  obtain⟨c1,c2,c3,c4,c5,c6,c7⟩:=hall 2 (by omega)
  have b8:=b7 0 (by omega)
  have c8:=c7 1 (by omega)
  refine⟨Ext.of_new hN,⟨bd,bm,d,s,t,fun _=> .slice none 0 0,[]⟩,rfl,hld,⟨o,hlm,hM⟩,fun k hk=>(hall k hk).1,fun k hk=> ?_,fun k hk=> ?_,fun k hk=>⟨[],rfl,Gr.nl,fun i hi=>absurd hi (Nat.not_lt_zero _)⟩,fun n hn=>absurd hn (Nat.not_lt_zero _),rfl,List.nodup_nil, ?_, ?_,fun k hk=> ?_,fun i j hi hj hij b hb=>(by cases hb), ?_⟩
  ·obtain⟨x,y,z⟩:=(hall k hk).2.1
   exact⟨x,[],y,z,List.Perm.nil⟩
  ·obtain⟨x,y,z⟩:=(hall k hk).2.2.1
   exact⟨x,[],y,z,List.Perm.nil⟩
  ·show [s 0,s 1,s 2,t 0,t 1,t 2].Nodup
   simp only[List.nodup_cons,List.mem_cons,List.not_mem_nil,not_or,or_false,List.nodup_nil,and_true,not_false_eq_true]
   refine⟨⟨?_, ?_, ?_, ?_, ?_⟩,⟨?_, ?_, ?_, ?_⟩,⟨?_, ?_, ?_⟩,⟨?_, ?_⟩, ?_⟩<;>omega
  ·show [d 0,d 1,d 2].Nodup
   simp only[List.nodup_cons,List.mem_cons,List.not_mem_nil,not_or,or_false,List.nodup_nil,and_true,not_false_eq_true]
   refine⟨⟨?_, ?_⟩, ?_⟩<;>omega
  ·have:=(hall k hk).2.2.2
   show bm≠s k∧bm≠t k
   omega
  ·exact⟨fun _ _=>List.Pairwise.nil,fun _ _=>List.Pairwise.nil,fun _ _ p hp=>(by cases hp),fun _ _ p hp=>(by cases hp),fun _ _ c hc=>(by cases hc),fun f hf=>(by cases hf),⟨show(-9223372036854775808:Int)≤0 by decide,show(0:Int)<9223372036854775808 by decide,fun _=>show(0:Int)≤0 by decide⟩,hq⟩
end Go.Proofs
end
section
open Go Go.Proofs Go.Sx Go.StP
namespace Go.Proofs
set_option maxRecDepth 10000
set_option maxHeartbeats 400000
set_option linter.unusedSimpArgs false
structure FiL where
 dir:List UInt8
 name:List UInt8
 data:List UInt8
def fiC (r:FiL):List Value:= [vs r.dir]++ ([vs r.name]++ ([vs r.data]))
def fi0:FiL:=⟨[],[],[]⟩
theorem xh_ (r:FiL): (fiC r).length=3:=by simp[fiC]
theorem vS_ (r:FiL):Value.cells (.agg (fiC r).toArray)=(fiC r).toArray:=zj_ _
theorem adq_ (r:FiL): (fiC r).all Value.oneCell'=true:=by
 unfold fiC
 simp only[List.all_append,List.all_cons,List.all_nil,v5_,Bool.and_true,Bool.true_and]
 rfl
theorem zrFi:zL_ Tryz.prog 36=some (.agg (fiC fi0).toArray):=id (by kernel_rfl)
theorem anb_:zT_ Tryz.prog 36=some (true,3):=id (by kernel_rfl)
theorem aiA_ (r:FiL):fiC r=([]:List Value)++ (([vs r.dir])++ ([vs r.name]++ ([vs r.data]))):=by
 unfold fiC;simp only[List.append_assoc,List.nil_append,List.append_nil]
theorem ase_ (r:FiL):Sx.partV (false,1) (fiC r).toArray 0=some (vs r.dir):=by
 rw[aiA_];exact Qv_ _ _ _ (by simp)
theorem afy_ (r:FiL) (n:Nat) (E:TypeId) (fz:Nat×Nat):zk_ (some (false,n)) (some (.cells (fiC r).toArray E fz)) 0=some (vs r.dir):=by
 rw[aiA_];exact zK_ _ _ _ n E fz (by simp)
theorem aoR_ {w:World} {v:Value} {l:List FiL} {b off:Nat} {arr:Array Value} {E:TypeId} {fz:Nat×Nat} (h:RowS 3 fiC fi0 w v l b off arr E fz) {k:Nat} (hk:k<l.length) (n:Nat):zk_ (some (false,n)) (some (.cells arr E fz)) (off+k*3+0)=some (vs (l.getD k fi0).dir):=by
 rw[RowS.cell h hk (by omega)];generalize l.getD k fi0=r;rw[aiA_];exact kI_ _ _ _ (by simp)
theorem ah3_ (r:FiL):fiC r=(([vs r.dir]))++ (([vs r.name])++ ([vs r.data])):=by
 unfold fiC;simp only[List.append_assoc,List.nil_append,List.append_nil]
theorem aso_ (r:FiL):Sx.partV (false,1) (fiC r).toArray 1=some (vs r.name):=by
 rw[ah3_];exact Qv_ _ _ _ (by simp)
theorem afm_ (r:FiL) (n:Nat) (E:TypeId) (fz:Nat×Nat):zk_ (some (false,n)) (some (.cells (fiC r).toArray E fz)) 1=some (vs r.name):=by
 rw[ah3_];exact zK_ _ _ _ n E fz (by simp)
theorem aiE_ {w:World} {v:Value} {l:List FiL} {b off:Nat} {arr:Array Value} {E:TypeId} {fz:Nat×Nat} (h:RowS 3 fiC fi0 w v l b off arr E fz) {k:Nat} (hk:k<l.length) (n:Nat):zk_ (some (false,n)) (some (.cells arr E fz)) (off+k*3+1)=some (vs (l.getD k fi0).name):=by
 rw[RowS.cell h hk (by omega)];generalize l.getD k fi0=r;rw[ah3_];exact kI_ _ _ _ (by simp)
theorem aji_ (r:FiL):fiC r=(([vs r.dir])++ ([vs r.name]))++ (([vs r.data])++ (([]:List Value))):=by
 unfold fiC;simp only[List.append_assoc,List.nil_append,List.append_nil]
theorem arT_ (r:FiL):Sx.partV (false,1) (fiC r).toArray 2=some (vs r.data):=by
 rw[aji_];exact Qv_ _ _ _ (by simp)
theorem afR_ (r:FiL) (n:Nat) (E:TypeId) (fz:Nat×Nat):zk_ (some (false,n)) (some (.cells (fiC r).toArray E fz)) 2=some (vs r.data):=by
 rw[aji_];exact zK_ _ _ _ n E fz (by simp)
theorem acS_ {w:World} {v:Value} {l:List FiL} {b off:Nat} {arr:Array Value} {E:TypeId} {fz:Nat×Nat} (h:RowS 3 fiC fi0 w v l b off arr E fz) {k:Nat} (hk:k<l.length) (n:Nat):zk_ (some (false,n)) (some (.cells arr E fz)) (off+k*3+2)=some (vs (l.getD k fi0).data):=by
 rw[RowS.cell h hk (by omega)];generalize l.getD k fi0=r;rw[aji_];exact kI_ _ _ _ (by simp)
theorem acP_ (r:FiL) (E:TypeId) (fz:Nat×Nat):zk_ (some (true,3)) (some (.cells (fiC r).toArray E fz)) 0=some (.agg (fiC r).toArray):=jP_ _ E fz 3 (by rw[List.size_toArray,xh_])
theorem al8_ (old:Array Value) (r:FiL) (a:Bool) (E:TypeId) (h:old.size=3):zn_ (some (a,3)) (some (.cells old E (0,0))) 0 (.agg (fiC r).toArray)=some (.cells (fiC r).toArray E (0,0)):=q4_ _ a old E (xh_ r) (adq_ r) h
theorem abP_ (r r':FiL) (a:Bool) (E:TypeId):zn_ (some (a,3)) (some (.cells (fiC r').toArray E (0,0))) 0 (.agg (fiC r).toArray)=some (.cells (fiC r).toArray E (0,0)):=al8_ _ r a E (by rw[List.size_toArray,xh_])
theorem anA_ {w:World} {v:Value} {l:List FiL} {b off:Nat} {arr:Array Value} {E:TypeId} {fz:Nat×Nat} (h:RowS 3 fiC fi0 w v l b off arr E fz) {k:Nat} (hk:k<l.length):zk_ (some (true,3)) (some (.cells arr E fz)) (off+k*3)=some (.agg (fiC (l.getD k fi0)).toArray):=RowS.load h xh_ (by omega) hk
theorem aoV_:Tryz.prog.stoodInHeld 36=false:=by kernel_rfl
theorem aoT_:Tryz.prog.eqGuardType Tryz.prog.depth 36=false:=by kernel_rfl
theorem asw_ (r r':FiL):eqD Tryz.prog 8 36 (.agg (fiC r).toArray) (.agg (fiC r').toArray)=some ((r.dir==r'.dir)&& (r.name==r'.name)&& (r.data==r'.data)):=by
 have hs: ∀ (a b:List UInt8),eqD Tryz.prog 7 9 (vs a) (vs b)=some (a==b):=by
  intro a b;unfold eqD;rw[Tryz.underlying9];simp only[vs,Kk_]
 have ags:zT_ Tryz.prog 9=some (false,1):=id (by kernel_rfl)
 unfold eqD
 rw[Tryz.underlying36]
 simp only
 rw[aoV_]
 simp only[Bool.false_eq_true, ↓reduceIte,xJ_,kl_,ags,ase_,aso_,arT_,hs]
 cases(r.dir==r'.dir)<;>cases(r.name==r'.name)<;>cases(r.data==r'.data)<;>simp
theorem neFi (r r':FiL):qE_ Tryz.prog .neq 36 (.agg (fiC r).toArray) (.agg (fiC r').toArray)=some (.bool (!((r.dir==r'.dir)&& (r.name==r'.name)&& (r.data==r'.data)))):=by
 unfold qE_ eqX;rw[aoT_];simp[qe_,asw_]
theorem afx_ (r:FiL):jk_ (vw_ Tryz.prog 36) (zL_ Tryz.prog 36) [(0,vs r.dir),(1,vs r.name),(2,vs r.data)]=some (.agg (fiC r).toArray):=by
 have hp:vw_ Tryz.prog 36=some [(0,1),(1,1),(2,1)]:=id (by kernel_rfl)
 rw[hp,zrFi]
 have e0: (fiC fi0).toArray=(([]:List Value)++ (([vs fi0.dir])++ ([vs fi0.name]++ ([vs fi0.data])))).toArray:=by congr 1<;>simp only[fiC,List.append_assoc,List.nil_append,List.append_nil]
 have q0:Qz_ (([]:List Value)++ (([vs fi0.dir])++ ([vs fi0.name]++ ([vs fi0.data])))).toArray 0 ([vs r.dir])=(([]:List Value)++ (([vs r.dir])++ ([vs fi0.name]++ ([vs fi0.data])))).toArray:=XE_ _ _ _ _ (by simp) (rfl)
 have s0: (([]:List Value)++ (([vs fi0.dir])++ ([vs fi0.name]++ ([vs fi0.data])))).toArray.size=3:=by simp
 have z0: (Value.cells (vs r.dir)).toList= [vs r.dir]:=by rfl
 have y0: (Value.cells (vs r.dir)).size=1:=by rw[←Array.length_toList,z0];simp
 have e1: (([]:List Value)++ (([vs r.dir])++ ([vs fi0.name]++ ([vs fi0.data])))).toArray=((([vs r.dir]))++ (([vs fi0.name])++ ([vs fi0.data]))).toArray:=by congr 1<;>simp only[fiC,List.append_assoc,List.nil_append,List.append_nil]
 have q1:Qz_ ((([vs r.dir]))++ (([vs fi0.name])++ ([vs fi0.data]))).toArray 1 ([vs r.name])=((([vs r.dir]))++ (([vs r.name])++ ([vs fi0.data]))).toArray:=XE_ _ _ _ _ (by simp) (rfl)
 have s1: ((([vs r.dir]))++ (([vs fi0.name])++ ([vs fi0.data]))).toArray.size=3:=by simp
 have z1: (Value.cells (vs r.name)).toList= [vs r.name]:=by rfl
 have y1: (Value.cells (vs r.name)).size=1:=by rw[←Array.length_toList,z1];simp
 have e2: ((([vs r.dir]))++ (([vs r.name])++ ([vs fi0.data]))).toArray=((([vs r.dir])++ ([vs r.name]))++ (([vs fi0.data])++ (([]:List Value)))).toArray:=by congr 1<;>simp only[fiC,List.append_assoc,List.nil_append,List.append_nil]
 have q2:Qz_ ((([vs r.dir])++ ([vs r.name]))++ (([vs fi0.data])++ (([]:List Value)))).toArray 2 ([vs r.data])=((([vs r.dir])++ ([vs r.name]))++ (([vs r.data])++ (([]:List Value)))).toArray:=XE_ _ _ _ _ (by simp) (rfl)
 have s2: ((([vs r.dir])++ ([vs r.name]))++ (([vs fi0.data])++ (([]:List Value)))).toArray.size=3:=by simp
 have z2: (Value.cells (vs r.data)).toList= [vs r.data]:=by rfl
 have y2: (Value.cells (vs r.data)).size=1:=by rw[←Array.length_toList,z2];simp
 have e3: ((([vs r.dir])++ ([vs r.name]))++ (([vs r.data])++ (([]:List Value)))).toArray=(fiC r).toArray:=by congr 1<;>simp only[fiC,List.append_assoc,List.nil_append,List.append_nil]
 simp only[jk_]
 rw[e0]
 unfold Sx.fillV
 simp only[List.getElem?_cons_zero,List.getElem?_cons_succ,z0,y0]
 rw[if_pos ⟨trivial,by rw[s0];decide⟩,q0]
 rw[e1]
 unfold Sx.fillV
 simp only[List.getElem?_cons_zero,List.getElem?_cons_succ,z1,y1]
 rw[if_pos ⟨trivial,by rw[s1];decide⟩,q1]
 rw[e2]
 unfold Sx.fillV
 simp only[List.getElem?_cons_zero,List.getElem?_cons_succ,z2,y2]
 rw[if_pos ⟨trivial,by rw[s2];decide⟩,q2]
 rw[e3];rfl
abbrev FiSl (w:World) (v:Value) (l:List FiL):Prop:=SlV 3 fiC fi0 w v l
theorem DkP.seen1 {X L:zc_} {G:DkG} {S:DiskL} (h:DkP X G S) {k:Nat} (hk:k<3) {l':NmL} (keep: ∀b o,Sx.look X b=some o→b≠G.s k→Sx.look L b=some o) (hs:NmM L G.fb (G.s k) l') (h1:SrtN l') (h3: ∀p,p∈l'→p.2<S.files.length):
  DkP L G (zZ_ S k ⟨l',(S.dir k).stl,(S.dir k).pend⟩):=by
 obtain⟨osk,msk,hosk,hmsk,-⟩:=h.seen k hk
 have hns: ∀b o,Sx.look X b=some o→tyO o≠none→b≠G.s k:=by
  rintro b o hb ht rfl
  rw[hosk] at hb;cases hb;exact ht (qU_ hmsk)
 have K: ∀b o,Sx.look X b=some o→tyO o≠none→Sx.look L b=some o:=fun b o hb h1=>keep b o hb (hns b o hb h1)
 have es: ∀j,(zZ_ S k ⟨l',(S.dir k).stl,(S.dir k).pend⟩).dir j=if j=k then⟨l',(S.dir k).stl,(S.dir k).pend⟩ else S.dir j:=fun _=>rfl
 have e2: ∀j,((zZ_ S k ⟨l',(S.dir k).stl,(S.dir k).pend⟩).dir j).stl=(S.dir j).stl:=fun j=>by
  rw[es];by_cases e:j=k
  ·subst e;rw[if_pos rfl]
  ·rw[if_neg e]
 have e3: ∀j,((zZ_ S k ⟨l',(S.dir k).stl,(S.dir k).pend⟩).dir j).pend=(S.dir j).pend:=fun j=>by
  rw[es];by_cases e:j=k
  ·subst e;rw[if_pos rfl]
  ·rw[if_neg e]
 refine⟨K _ _ h.disk (by simp[tyO,jr_]), ?_,fun j hj=>K _ _ (h.dir j hj) (by simp[tyO,xW_]),fun j hj=> ?_,fun j hj=> ?_,fun j hj=> ?_,fun n hn=>K _ _ (h.file n hn) (by simp[tyO,kc_]),h.len,h.nodf,h.nodm,h.nodd,h.nodb,h.nodp,Qe_ h.ok _ h1 (h.ok.stl k hk) h3 (h.ok.stlN k hk) (h.ok.pendN k hk)⟩
 ·obtain⟨o,h1,h2⟩:=h.dirs
  exact⟨o,keep _ _ h1 (h.nodb k hk).1,h2⟩
 ·rw[es]
  by_cases e:j=k
  ·subst e;rw[if_pos rfl];exact hs
  ·rw[if_neg e]
   obtain⟨o,m,h1,h2,h3⟩:=h.seen j hj
   exact⟨o,m,keep _ _ h1 ((wB_ h.nodm hj hk).1 e),h2,h3⟩
 ·rw[e2]
  obtain⟨o,m,h1,h2,h3⟩:=h.stl j hj
  exact⟨o,m,keep _ _ h1 (Ne.symm (wB_ h.nodm hk hj).2.2),h2,h3⟩
 ·rw[e3]
  obtain⟨vals,h1,h2,h3⟩:=h.pend j hj
  refine⟨vals,h1,h2.keep fun b o hb ho=> ?_,fun i hi=>(h3 i hi).keep fun b o ho hx=>K b o ho ?_⟩
  ·obtain⟨arr,ha⟩:=kC_ h2 hb
   rw[ho] at ha;cases ha
   exact K _ _ ho (by simp[tyO])
  ·rcases hx with⟨s,rfl⟩ | ⟨a,rfl⟩<;>simp[tyO,vB_,VI_]
def zR_ (S:DiskL) (f:FiL):DiskL:=match zE_ f.dir with
 |some k=>if qp_ f.name=true∧f.data.length≤1048576 then zZ_ (k0_ S ⟨f.data,f.data.length⟩) k ⟨KK_ (S.dir k).seen (f.name,S.files.length),(S.dir k).stl,(S.dir k).pend⟩ else S
 |none=>S
def setV (S:DiskL) (vis:List Nat):DiskL:={S with dir:=fun k=>if k∈vis then⟨(S.dir k).seen,(S.dir k).seen,[]⟩ else S.dir k}
theorem ak5_ (S:DiskL):setV S []=S:=by
 unfold setV
 simp
theorem aer_ (S:DiskL) (vis:List Nat) (k:Nat):xf_ (setV S vis) k=setV S (vis++ [k]):=by
 unfold xf_ zZ_ setV
 simp only
 congr 1
 funext j
 by_cases e:j=k
 ·subst e
  rw[if_pos rfl,if_pos (List.mem_append_right _ (List.mem_singleton.2 rfl))]
  by_cases h:j∈vis
  ·rw[if_pos h]
  ·rw[if_neg h]
 ·rw[if_neg e]
  by_cases h:j∈vis
  ·rw[if_pos h,if_pos (List.mem_append_left _ h)]
  ·rw[if_neg h,if_neg (fun hm=>by
    rcases List.mem_append.1 hm with hm|hm
    ·exact h hm
    ·exact e (List.mem_singleton.1 hm))]
theorem ahk_ (S:DiskL) {a b:List Nat} (h: ∀k,k∈a↔k∈b):setV S a=setV S b:=by
 unfold setV
 congr 1
 funext j
 by_cases e:j∈a
 ·rw[if_pos e,if_pos ((h j).1 e)]
 ·rw[if_neg e,if_neg (fun e2=>e ((h j).2 e2))]
def ofD (quota:Int) (l:List FiL):DiskL:=setV (l.foldl zR_ (Zp_ quota)) [0,1,2]
end Go.Proofs
end
