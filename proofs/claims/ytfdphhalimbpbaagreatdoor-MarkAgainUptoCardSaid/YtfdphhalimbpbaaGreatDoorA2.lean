/-
  Part 2 of the walk: contracts of the functions that the law reaches, and the calculus they stand on.
  No conditions.
-/
import Derived.Test.YtfdphhalimbpbaaGreatDoorA1
import Derived.Lib.Strings
import Derived.Lib.Bytealg
section
open Go Go.Proofs Go.Sx Go.StP
namespace Go.Proofs
set_option maxRecDepth 10000
set_option maxHeartbeats 4000000
set_option linter.unusedSimpArgs false
structure EntL where
 name:List UInt8
 kind:Int
 id:IdL
def zR_ (r:EntL):List Value:= [vs r.name]++ ([vi r.kind]++ (r.id.l.map v8))
def ent0:EntL:=⟨[],0,id0⟩
theorem zZ_ (r:EntL): (zR_ r).length=34:=by simp[zR_,r.id.h]
theorem qh_ (r:EntL):Value.cells (.agg (zR_ r).toArray)=(zR_ r).toArray:=ze_ _
theorem Zl_ (r:EntL): (zR_ r).all Value.oneCell'=true:=by
 unfold zR_
 simp only[List.all_append,List.all_cons,List.all_nil,Qf_,Bool.and_true,Bool.true_and]
 rfl
theorem vM_:z8_ Tryz.prog 117=some (.agg (zR_ ent0).toArray):=id (by kernel_rfl)
theorem Jr_:zU_ Tryz.prog 117=some (true,34):=id (by kernel_rfl)
theorem K5_ (r:EntL):zR_ r=([]:List Value)++ (([vs r.name])++ ([vi r.kind]++ (r.id.l.map v8))):=by
 unfold zR_;simp only[List.append_assoc,List.nil_append,List.append_nil]
theorem x6_ (r:EntL) (n:Nat) (E:TypeId) (fz:Nat×Nat):zA_ (some (false,n)) (some (.cells (zR_ r).toArray E fz)) 0=some (vs r.name):=by
 rw[K5_];exact xR_ _ _ _ n E fz (by simp)
theorem Zj_ {w:World} {v:Value} {l:List EntL} {b off:Nat} {arr:Array Value} {E:TypeId} {fz:Nat×Nat} (h:RowS 34 zR_ ent0 w v l b off arr E fz) {k:Nat} (hk:k<l.length) (n:Nat):zA_ (some (false,n)) (some (.cells arr E fz)) (off+k*34+0)=some (vs (l.getD k ent0).name):=by
 rw[RowS.cell h hk (by omega)];generalize l.getD k ent0=r;rw[K5_];exact adt_ _ _ _ (by simp)
theorem Kh_ (r:EntL) (x:List UInt8) (a:Bool) (E:TypeId):zs_ (some (a,1)) (some (.cells (zR_ r).toArray E (0,0))) 0 (vs x)=some (.cells (zR_ {r with name:=x}).toArray E (0,0)):=by
 rw[K5_ r,K5_ {r with name:=x}];exact jz_ _ _ _ _ a _ E (by simp) rfl (rfl) rfl (rfl)
theorem Vg_ (r:EntL):zR_ r=(([vs r.name]))++ (([vi r.kind])++ (r.id.l.map v8)):=by
 unfold zR_;simp only[List.append_assoc,List.nil_append,List.append_nil]
theorem k2_ (r:EntL) (n:Nat) (E:TypeId) (fz:Nat×Nat):zA_ (some (false,n)) (some (.cells (zR_ r).toArray E fz)) 1=some (vi r.kind):=by
 rw[Vg_];exact xR_ _ _ _ n E fz (by simp)
theorem ad3_ {w:World} {v:Value} {l:List EntL} {b off:Nat} {arr:Array Value} {E:TypeId} {fz:Nat×Nat} (h:RowS 34 zR_ ent0 w v l b off arr E fz) {k:Nat} (hk:k<l.length) (n:Nat):zA_ (some (false,n)) (some (.cells arr E fz)) (off+k*34+1)=some (vi (l.getD k ent0).kind):=by
 rw[RowS.cell h hk (by omega)];generalize l.getD k ent0=r;rw[Vg_];exact adt_ _ _ _ (by simp)
theorem Ka_ (r:EntL) (x:Int) (a:Bool) (E:TypeId):zs_ (some (a,1)) (some (.cells (zR_ r).toArray E (0,0))) 1 (vi x)=some (.cells (zR_ {r with kind:=x}).toArray E (0,0)):=by
 rw[Vg_ r,Vg_ {r with kind:=x}];exact jz_ _ _ _ _ a _ E (by simp) rfl (rfl) rfl (rfl)
theorem Vm_ (r:EntL):zR_ r=(([vs r.name])++ ([vi r.kind]))++ ((r.id.l.map v8)++ (([]:List Value))):=by
 unfold zR_;simp only[List.append_assoc,List.nil_append,List.append_nil]
theorem kS_ (r:EntL) (E:TypeId) (fz:Nat×Nat):zA_ (some (true,32)) (some (.cells (zR_ r).toArray E fz)) 2=some (Value.agg (a8 r.id.l)):=by
 rw[Vm_,xV_ _ _ _ E fz (by simp) (by simp[r.id.h])];rfl
theorem amU_ (r:EntL): (zR_ r).toArray.extract 2 34=a8 r.id.l:=by
 rw[Vm_];exact abs_ (o:=2) (n:=32) _ _ _ (by simp) (by simp[r.id.h])
theorem aiP_ {w:World} {v:Value} {l:List EntL} {b off:Nat} {arr:Array Value} {E:TypeId} {fz:Nat×Nat} (h:RowS 34 zR_ ent0 w v l b off arr E fz) {k:Nat} (hk:k<l.length):zA_ (some (true,32)) (some (.cells arr E fz)) (off+k*34+2)=some (Value.agg (a8 (l.getD k ent0).id.l)):=by
 rw[RowS.part h zZ_ hk (by omega) (by omega),amU_]
theorem KC_ (r:EntL) (x:IdL) (a:Bool) (E:TypeId):zs_ (some (a,32)) (some (.cells (zR_ r).toArray E (0,0))) 2 (Value.agg (a8 x.l))=some (.cells (zR_ {r with id:=x}).toArray E (0,0)):=by
 rw[Vm_ r,Vm_ {r with id:=x}];exact jz_ _ _ _ _ a _ E (by simp) (by simp[r.id.h]) (ze_ _) (by simp[x.h]) (Qf_ _)
theorem jm_ (r:EntL) (E:TypeId) (fz:Nat×Nat):zA_ (some (true,34)) (some (.cells (zR_ r).toArray E fz)) 0=some (.agg (zR_ r).toArray):=wf_ _ E fz 34 (by rw[List.size_toArray,zZ_])
theorem af2_ (old:Array Value) (r:EntL) (a:Bool) (E:TypeId) (h:old.size=34):zs_ (some (a,34)) (some (.cells old E (0,0))) 0 (.agg (zR_ r).toArray)=some (.cells (zR_ r).toArray E (0,0)):=wM_ _ a old E (zZ_ r) (Zl_ r) h
theorem qk_ (r r':EntL) (a:Bool) (E:TypeId):zs_ (some (a,34)) (some (.cells (zR_ r').toArray E (0,0))) 0 (.agg (zR_ r).toArray)=some (.cells (zR_ r).toArray E (0,0)):=af2_ _ r a E (by rw[List.size_toArray,zZ_])
theorem aig_ {w:World} {v:Value} {l:List EntL} {b off:Nat} {arr:Array Value} {E:TypeId} {fz:Nat×Nat} (h:RowS 34 zR_ ent0 w v l b off arr E fz) {k:Nat} (hk:k<l.length):zA_ (some (true,34)) (some (.cells arr E fz)) (off+k*34)=some (.agg (zR_ (l.getD k ent0)).toArray):=RowS.load h zZ_ (by omega) hk
theorem aia_ (r:EntL):jn_ (wA_ Tryz.prog 117) (z8_ Tryz.prog 117) [(0,vs r.name),(1,vi r.kind),(2,Value.agg (a8 r.id.l))]=some (.agg (zR_ r).toArray):=by
 have hp:wA_ Tryz.prog 117=some [(0,1),(1,1),(2,32)]:=id (by kernel_rfl)
 rw[hp,vM_]
 have e0: (zR_ ent0).toArray=(([]:List Value)++ (([vs ent0.name])++ ([vi ent0.kind]++ (ent0.id.l.map v8)))).toArray:=by congr 1<;>simp only[zR_,List.append_assoc,List.nil_append,List.append_nil]
 have q0:xA_ (([]:List Value)++ (([vs ent0.name])++ ([vi ent0.kind]++ (ent0.id.l.map v8)))).toArray 0 ([vs r.name])=(([]:List Value)++ (([vs r.name])++ ([vi ent0.kind]++ (ent0.id.l.map v8)))).toArray:=ZW_ _ _ _ _ (by simp) (rfl)
 have s0: (([]:List Value)++ (([vs ent0.name])++ ([vi ent0.kind]++ (ent0.id.l.map v8)))).toArray.size=34:=by simp[r.id.h,ent0.id.h]
 have z0: (Value.cells (vs r.name)).toList= [vs r.name]:=by rfl
 have y0: (Value.cells (vs r.name)).size=1:=by rw[←Array.length_toList,z0];simp
 have e1: (([]:List Value)++ (([vs r.name])++ ([vi ent0.kind]++ (ent0.id.l.map v8)))).toArray=((([vs r.name]))++ (([vi ent0.kind])++ (ent0.id.l.map v8))).toArray:=by congr 1<;>simp only[zR_,List.append_assoc,List.nil_append,List.append_nil]
 have q1:xA_ ((([vs r.name]))++ (([vi ent0.kind])++ (ent0.id.l.map v8))).toArray 1 ([vi r.kind])=((([vs r.name]))++ (([vi r.kind])++ (ent0.id.l.map v8))).toArray:=ZW_ _ _ _ _ (by simp) (rfl)
 have s1: ((([vs r.name]))++ (([vi ent0.kind])++ (ent0.id.l.map v8))).toArray.size=34:=by simp[r.id.h,ent0.id.h]
 have z1: (Value.cells (vi r.kind)).toList= [vi r.kind]:=by rfl
 have y1: (Value.cells (vi r.kind)).size=1:=by rw[←Array.length_toList,z1];simp
 have e2: ((([vs r.name]))++ (([vi r.kind])++ (ent0.id.l.map v8))).toArray=((([vs r.name])++ ([vi r.kind]))++ ((ent0.id.l.map v8)++ (([]:List Value)))).toArray:=by congr 1<;>simp only[zR_,List.append_assoc,List.nil_append,List.append_nil]
 have q2:xA_ ((([vs r.name])++ ([vi r.kind]))++ ((ent0.id.l.map v8)++ (([]:List Value)))).toArray 2 (r.id.l.map v8)=((([vs r.name])++ ([vi r.kind]))++ ((r.id.l.map v8)++ (([]:List Value)))).toArray:=ZW_ _ _ _ _ (by simp) (by simp[ent0.id.h,r.id.h])
 have s2: ((([vs r.name])++ ([vi r.kind]))++ ((ent0.id.l.map v8)++ (([]:List Value)))).toArray.size=34:=by simp[r.id.h,ent0.id.h]
 have z2: (Value.cells (Value.agg (a8 r.id.l))).toList=r.id.l.map v8:=by rw[ze_];rfl
 have y2: (Value.cells (Value.agg (a8 r.id.l))).size=32:=by rw[←Array.length_toList,z2];simp[r.id.h]
 have e3: ((([vs r.name])++ ([vi r.kind]))++ ((r.id.l.map v8)++ (([]:List Value)))).toArray=(zR_ r).toArray:=by congr 1<;>simp only[zR_,List.append_assoc,List.nil_append,List.append_nil]
 simp only[jn_]
 rw[e0]
 unfold Sx.fillV
 simp only[List.getElem?_cons_zero,List.getElem?_cons_succ,z0,y0]
 rw[if_pos ⟨trivial,by rw[s0];decide⟩,q0]
 rw[e1]
 unfold Sx.fillV
 simp only[List.getElem?_cons_zero,List.getElem?_cons_succ,z1,y1]
 rw[if_pos ⟨trivial,by rw[s1];decide⟩,q1]
 rw[e2]
 unfold Sx.fillV
 simp only[List.getElem?_cons_zero,List.getElem?_cons_succ,z2,y2]
 rw[if_pos ⟨trivial,by rw[s2];decide⟩,q2]
 rw[e3];rfl
theorem Kj_ (s:List UInt8) (w:World):Rets Tryz.prog 190 #[vs s] w (fun v D=>v= .bool false∧D= []):=by
 refine Rets.enterV Tryz.func190 rfl (rs:= [.tmp 2]) Tryz.results190 Tryz.ntmps190 ?_
 refine kf ?_
 first|with_reducible refine ks [] @Nat.add_zero ?_|refine kp @Nat.add_zero ?_
 refine⟨_,(ke @Nat.add_zero),trivial, ?_⟩
 simp[kC_]
def cmpS (a b:List UInt8):Int:=if ltB a b then -1 else if ltB b a then 1 else 0
theorem wW_ (a b:List UInt8): (!(Op.bytesLess a b||a==b))=ltB b a:=by
 cases h:ltB a b
 ·have h':Op.bytesLess a b=false:=h
  rw[h',Bool.false_or]
  by_cases e:a=b
  ·subst e;rw[h];simp
  ·rw[x9_ h e];simp[e]
 ·have h':Op.bytesLess a b=true:=h
  rw[h',JG_ h];rfl
theorem aaA_ (a b:List UInt8) (w:World):Rets Tryz.prog 122 #[vs a,vs b] w (fun v D=>v=vi (cmpS a b)∧D= []):=by
 refine Rets.enterV Tryz.func122 rfl (rs:= [.tmp 4]) Tryz.results122 Tryz.ntmps122 ?_
 refine kf ?_
 first|with_reducible refine ks [] @Nat.add_zero ?_|refine kp @Nat.add_zero ?_
 refine Ow.callFV rfl Tryz.call190 (fun w' hw'=>Kj_ a w') ?_
 refine ko @Nat.add_zero ?_
 refine Ow.callFV rfl Tryz.call190 (fun w' hw'=>Kj_ b w') ?_
 refine ko @Nat.add_zero ?_
 unfold cmpS
 cases h1:Op.bytesLess a b
 ·cases h2:ltB b a
  ·have h3: (!(Op.bytesLess a b||a==b))=false:=by rw[wW_,h2]
   rw[h1] at h3
   first|with_reducible refine ks [] (And.intro @h3 @wW_) ?_|refine kp (And.intro @h3 @wW_) ?_
   refine⟨_,(ke @Nat.add_zero),trivial, ?_⟩
   simp[kC_,ltB,h1,h2]
  ·have h3: (!(Op.bytesLess a b||a==b))=true:=by rw[wW_,h2]
   rw[h1] at h3
   first|with_reducible refine ks [] (And.intro @h3 @wW_) ?_|refine kp (And.intro @h3 @wW_) ?_
   refine⟨_,(ke @Nat.add_zero),trivial, ?_⟩
   simp[kC_,ltB,h1]
 ·first|with_reducible refine ks [] @Nat.add_zero ?_|refine kp @Nat.add_zero ?_
  refine⟨_,(ke @Nat.add_zero),trivial, ?_⟩
  simp[kC_,ltB,h1]
set_option linter.defProp false
def aaC_:=And.intro (@x6_) (@qh_)
def cmpE (a b:EntL):Int:=cmpS a.name b.name
theorem Zh_ (a b:EntL) (w:World):Rets Tryz.prog 121 #[.agg (zR_ a).toArray, .agg (zR_ b).toArray] w (fun v D=>v=vi (cmpE a b)∧D= []):=by
 refine Rets.enterV Tryz.func121 rfl (rs:= [.tmp 4]) Tryz.results121 Tryz.ntmps121 ?_
 refine kf ?_
 first|with_reducible refine ks [] @aaC_ ?_|refine kp @aaC_ ?_
 refine Ow.box rfl rfl fun b1 hb1 hw1=> ?_
 simp only[zW_,zT_,z1_,ze_,List.nil_append,List.cons_append]
 refine Ow.go rfl ?_
 simp(disch:=(first|assumption|omega| (simp only[qF_,qC_,UInt64.reduceToNat];try omega))) only[↓Sx.S0,Sx.S1,Tryz.fx,aaC_,Nat.reduceAdd,Nat.reducePow,Int.reducePow,Nat.reduceBEq, ↓reduceIte,UInt8.reduceToNat,UInt16.reduceToNat,UInt32.reduceToNat,UInt64.reduceToNat,Int.reduceToNat]
 refine Ow.box rfl rfl fun b2 hb2 hw2=> ?_
 simp only[zW_,zT_,z1_,ze_,List.nil_append,List.cons_append]
 refine Ow.go rfl ?_
 simp(disch:=(first|assumption|omega| (simp only[qF_,qC_,UInt64.reduceToNat];try omega))) only[↓Sx.S0,Sx.S1,Tryz.fx,aaC_,Nat.reduceAdd,Nat.reducePow,Int.reducePow,Nat.reduceBEq, ↓reduceIte,UInt8.reduceToNat,UInt16.reduceToNat,UInt32.reduceToNat,UInt64.reduceToNat,Int.reduceToNat]
 obtain⟨h12,-⟩:=hb2
 have hn:b1≠b2:=by omega
 first|with_reducible refine ks [] @aaC_ ?_|refine kp @aaC_ ?_
 refine Ow.callFV rfl Tryz.call122 (fun w' hw'=>aaA_ a.name b.name w') ?_
 refine ko @aaC_ ?_
 refine⟨_,(ke @aaC_),⟨hw1,hw2,trivial⟩, ?_⟩
 rfl
end Go.Proofs
end
section
open Go Go.Proofs Go.Sx Go.StP
namespace Go.Proofs
set_option maxRecDepth 10000
set_option maxHeartbeats 4000000
set_option linter.unusedSimpArgs false
def swp {α:Type} (a x m y c:List α) (i:Nat):List α:=a++ ((y.take i++x.drop i)++ (m++ ((x.take i++y.drop i)++c)))
section
variable {α:Type} {a x m y c:List α} {i k:Nat} {z:α}
theorem alV_ (hx:x.length=k) (hy:y.length=k) (hi:i≤k): (swp a x m y c i).length=a.length+k+m.length+k+c.length:=by
 unfold swp;simp only[List.length_append,List.length_take,List.length_drop];omega
theorem an6_ (hx:x.length=k) (hy:y.length=k) (hi:i<k) {n:Nat} (hn:n=a.length+i): (swp a x m y c i).getD n z=x.getD i z:=by
 subst hn
 unfold swp
 rw[drop_cons (z:=z) (l:=x) (by omega),List.append_assoc,List.cons_append,←List.append_assoc]
 exact at_0 _ (by simp only[List.length_append,List.length_take];omega)
theorem aoe_ (hx:x.length=k) (hy:y.length=k) (hi:i<k) {n:Nat} (hn:n=a.length+k+m.length+i): (swp a x m y c i).getD n z=y.getD i z:=by
 subst hn
 unfold swp
 rw[drop_cons (z:=z) (l:=y) (by omega),List.append_assoc (x.take i),List.cons_append,←List.append_assoc,←List.append_assoc,←List.append_assoc]
 exact at_0 _ (by simp only[List.length_append,List.length_take,List.length_drop];omega)
theorem akK_ {l r:List α} (u v:α) {n:Nat} (h:n=l.length): (l++u::r).set n v=l++v::r:=by
 subst h
 rw[List.set_append_right _ _ (Nat.le_refl _),Nat.sub_self,List.set_cons_zero]
theorem aiT_ (hx:x.length=k) (hy:y.length=k) (hi:i<k) {n n':Nat} (hn:n=a.length+i) (hn':n'=a.length+k+m.length+i):
  ((swp a x m y c i).set n (y.getD i z)).set n' (x.getD i z)=swp a x m y c (i+1):=by
 subst hn hn'
 have e:swp a x m y c i=(a++y.take i)++ (x.getD i z:: (x.drop (i+1)++ (m++ (x.take i++ (y.getD i z:: (y.drop (i+1)++c)))))):=by
  unfold swp
  rw[drop_cons (z:=z) (l:=y) (by omega),drop_cons (z:=z) (l:=x) (by omega)]
  simp only[List.append_assoc,List.cons_append]
 have e':swp a x m y c (i+1)=(a++y.take i)++ (y.getD i z:: (x.drop (i+1)++ (m++ (x.take i++ (x.getD i z:: (y.drop (i+1)++c)))))):=by
  unfold swp
  rw[take_snoc (z:=z) (l:=y) (by omega),take_snoc (z:=z) (l:=x) (by omega)]
  simp only[List.append_assoc,List.cons_append,List.nil_append]
 rw[e,e',akK_ _ _ (by simp only[List.length_append,List.length_take];omega)]
 have e2: ∀u v:α,(a++y.take i)++ (u:: (x.drop (i+1)++ (m++ (x.take i++ (v:: (y.drop (i+1)++c))))))=((a++y.take i)++ (u:: (x.drop (i+1)++ (m++x.take i))))++ (v:: (y.drop (i+1)++c)):=fun u v=>by
  simp only[List.append_assoc,List.cons_append]
 rw[e2,e2,akK_ _ _ (by simp only[List.length_append,List.length_take,List.length_cons,List.length_drop];omega)]
end
abbrev k5_ (rest:List Value) (d:List EntL):Obj:=Qe_ zR_ 117 rest d
theorem xw_ {rest:List Value} {d:List EntL} (k:Nat) (hk:k<d.length):zA_ (some (true,34)) (some (k5_ rest d)) (k*34)=some (.agg (zR_ (d.getD k ent0)).toArray):=vr_ (z:=ent0) zZ_ k hk
theorem xZ_ {rest:List Value} {d:List EntL} (k:Nat) (x:EntL) (a:Bool) (hk:k<d.length):zs_ (some (a,34)) (some (k5_ rest d)) (k*34) (.agg (zR_ x).toArray)=some (k5_ rest (d.set k x)):=V8_ zZ_ Zl_ k x a hk
set_option linter.defProp false
def kn_:=And.intro (And.intro (@xw_) (@xZ_)) (And.intro (@jm_) (And.intro (@qk_) (@qh_)))
theorem kB_ (rb n c:Nat) (A X M Y C:List EntL) (rest:List Value) (fv:Value) (a b k:Nat) (w:World) (hX:X.length=k) (hY:Y.length=k) (ha:A.length=a) (hb:b=a+k+M.length) (hn:n=a+k+M.length+k+C.length) (hs:n<1000000)
  (ho:w.heap[rb]? =some (k5_ rest (A++ (X++ (M++ (Y++C)))))):
  Rets Tryz.prog 317 #[vsl rb 0 n c,vi a,vi b,vi k,fv] w (fun v D=> ∃o,D= [(rb,o)]∧v= .tuple #[]∧o=k5_ rest (A++ (Y++ (M++ (X++C))))):=by
 refine Rets.enterM Tryz.func317 rfl (rs:= []) Tryz.results317 Tryz.ntmps317 ho ?_
 refine kf ?_
 first|with_reducible refine ks [] @kn_ ?_|refine kp @kn_ ?_
 subst ha hb hn
 refine Cw.loopG (G:=Nat) [11,12,13,16,17,18,19,20,21,22,23,24,25,26,27,28,29,30,31,32,33,34,35,36,37,14,15,10] (fun g=> [(10,vi g)]) (fun g=> [(rb,k5_ rest (swp A X M Y C g))]) (fun g=>g≤k) (fun g=>k - g) 0 rfl rfl ?_ ?_
 ·exact Nat.zero_le _
 ·intro g j hg
  refine kv ?_
  by_cases hlt:g<k
  ·first|with_reducible refine ks [] @kn_ ?_|refine kp @kn_ ?_
   have hl:=alV_ (a:=A) (m:=M) (c:=C) hX hY hg
   have h1:=an6_ (a:=A) (m:=M) (c:=C) (z:=ent0) hX hY hlt rfl
   have h2:=aoe_ (a:=A) (m:=M) (c:=C) (z:=ent0) hX hY hlt rfl
   refine Cw.regionS [rb] [0,1,2,3,4,5,6,7,8,9,10,11,12,14,15,16,17,18,13,19,20,21,22,23] [21,23] (by kernel_rfl) (by kernel_rfl) (by kernel_rfl) ?_
   simp only[zh_, ↓zc_, ↓za_, ↓zk_, ↓zj_,zb_]
   refine kq @kn_ ?_
   refine Ow.store rfl rfl rfl (ke @kn_) ?_
   refine ko @kn_ ?_
   rw[h1,h2]
   refine Again.mk (g+1) (by omega) (by omega) ?_ rfl
   rw[aiT_ hX hY hlt rfl rfl]
  ·obtain rfl:g=k:=by omega
   first|with_reducible refine ks [] @kn_ ?_|refine kp @kn_ ?_
   refine⟨_,_,_,(ke @kn_),rfl,trivial, ?_⟩
   exact⟨rfl,by unfold swp;rw[List.take_of_length_le (by omega),List.take_of_length_le (by omega),List.drop_eq_nil_of_le (by omega),List.drop_eq_nil_of_le (by omega),List.append_nil,List.append_nil]⟩
structure RotG where
 A:List EntL
 U:List EntL
 V:List EntL
 B:List EntL
theorem ag7_ {α:Type} (l:List α) {k:Nat} (h:k≤l.length): ∃a b,l=a++b∧a.length=k:=⟨l.take k,l.drop k,(List.take_append_drop k l).symm,by rw[List.length_take];omega⟩
theorem acR_ (rb n c:Nat) (A U V B:List EntL) (rest:List Value) (fv:Value) (a m b:Nat) (w:World) (hU:0<U.length) (hV:0<V.length) (ha:A.length=a) (hm:m=a+U.length) (hb:b=m+V.length) (hn:n=b+B.length) (hs:n<1000000)
  (ho:w.heap[rb]? =some (k5_ rest (A++ (U++ (V++B))))):
  Rets Tryz.prog 301 #[vsl rb 0 n c,vi a,vi m,vi b,fv] w (fun v D=> ∃o,D= [(rb,o)]∧v= .tuple #[]∧o=k5_ rest (A++ (V++ (U++B)))):=by
 have e1: (m:Int) - a=(U.length:Nat):=by omega
 have e2: (b:Int) - m=(V.length:Nat):=by omega
 refine Rets.enterM Tryz.func301 rfl (rs:= []) Tryz.results301 Tryz.ntmps301 ho ?_
 refine kf ?_
 first|with_reducible refine ks [] (And.intro @kn_ (And.intro @e1 (@e2))) ?_|refine kp (And.intro @kn_ (And.intro @e1 (@e2))) ?_
 refine Cw.loopG (G:=RotG) [18,19,20,21,22,23,24,25,26,27,28,29,30,31,32,33,34,10,35,36,37,38,39,40,41,42,43,44,45,46,47,48,49,11] (fun g=> [(10,vi g.U.length),(11,vi g.V.length)]) (fun g=> [(rb,k5_ rest (g.A++ (g.U++ (g.V++g.B))))]) (fun g=>0<g.U.length∧0<g.V.length∧g.A.length+g.U.length=m∧g.A++ (g.V++ (g.U++g.B))=A++ (V++ (U++B))∧m+g.V.length+g.B.length=n) (fun g=>g.U.length+g.V.length) ⟨A,U,V,B⟩ rfl rfl ?_ ?_
 ·exact⟨hU,hV,by show A.length+U.length=m;omega,rfl,by show m+V.length+B.length=n;omega⟩
 ·intro g j hg
  refine kv ?_
  obtain⟨A',U',V',B'⟩:=g
  obtain⟨hu,hv,hA,hT,hN⟩:=hg
  dsimp only at hu hv hA hT hN ⊢
  have e3: (m:Int) - U'.length=(A'.length:Nat):=by omega
  by_cases h1:U'.length=V'.length
  ·first|with_reducible refine ks [] (And.intro @kn_ @e3) ?_|refine kp (And.intro @kn_ @e3) ?_
   refine Ow.callM rfl rfl Tryz.call317 (by simp[keys]) (fun w' hw'=>kB_ rb n c A' U' [] V' B' rest fv A'.length m U'.length w' rfl h1.symm rfl (by simp only[List.length_nil];omega) (by simp only[List.length_nil];omega) hs (hw'.has _ _ List.mem_cons_self)) ?_
   refine ko @kn_ ?_
   refine⟨_,_,_,(ke @kn_),rfl,trivial, ?_⟩
   exact⟨rfl,congrArg (k5_ rest) hT⟩
  ·by_cases h2:V'.length<U'.length
   ·obtain⟨U1,U2,rfl,hU1⟩:=ag7_ U' (Nat.le_of_lt h2)
    rw[List.length_append] at hA h2 hu h1
    have e4: (m:Int) - (U1++U2).length=(A'.length:Nat):=by rw[List.length_append];omega
    first|with_reducible refine ks [] (And.intro @kn_ @e4) ?_|refine kp (And.intro @kn_ @e4) ?_
    refine Ow.callM rfl rfl Tryz.call317 (by simp[keys]) (fun w' hw'=>kB_ rb n c A' U1 U2 V' B' rest fv A'.length m V'.length w' hU1 rfl rfl (by omega) (by omega) hs (by rw[←List.append_assoc U1];exact hw'.has _ _ List.mem_cons_self)) ?_
    have e5: ((U1++U2).length:Int) - (V'.length:Int)=(U2.length:Nat):=by rw[List.length_append];omega
    refine ko (And.intro @kn_ @e5) ?_
    refine Again.mk ⟨A'++V',U2,U1,B'⟩ (by simp only[List.length_append];omega) ⟨by show 0<U2.length;omega,by show 0<U1.length;omega,by simp only[List.length_append];omega, ?_,by show m+U1.length+B'.length=n;omega⟩ ?_ ?_
    ·rw[←hT];simp only[List.append_assoc]
    ·simp only[List.append_assoc]
    ·dsimp only;rw[hU1];rfl
   ·obtain⟨V1,V2,rfl,hV1⟩:=ag7_ V' (show V'.length - U'.length≤V'.length by omega)
    rw[List.length_append] at hN h2 hv h1 hV1
    have e4: (m:Int)+ (V1++V2).length - U'.length=((A'.length+U'.length+V1.length:Nat):Int):=by rw[List.length_append];omega
    first|with_reducible refine ks [] (And.intro @kn_ (And.intro @e3 (@e4))) ?_|refine kp (And.intro @kn_ (And.intro @e3 (@e4))) ?_
    refine Ow.callM rfl rfl Tryz.call317 (by simp[keys]) (fun w' hw'=>kB_ rb n c A' U' V1 V2 B' rest fv A'.length (A'.length+U'.length+V1.length) U'.length w' rfl (by omega) rfl (by omega) (by omega) hs (by rw[←List.append_assoc V1];exact hw'.has _ _ List.mem_cons_self)) ?_
    have e5: ((V1++V2).length:Int) - (U'.length:Int)=(V1.length:Nat):=by rw[List.length_append];omega
    have e6:V2.length=U'.length:=by omega
    refine ko (And.intro @kn_ @e5) ?_
    refine Again.mk ⟨A',V2,V1,U'++B'⟩ (by simp only[List.length_append];omega) ⟨by show 0<V2.length;omega,by show 0<V1.length;omega,by show A'.length+V2.length=m;omega, ?_,by simp only[List.length_append];omega⟩ ?_ ?_
    ·rw[←hT];simp only[List.append_assoc]
    ·simp only[List.append_assoc]
    ·dsimp only;rw[e6];rfl
end Go.Proofs
end
section
open Go Go.Proofs Go.Sx Go.StP
namespace Go.Proofs
set_option maxRecDepth 10000
set_option maxHeartbeats 4000000
set_option linter.unusedSimpArgs false
abbrev ltE (a b:EntL):Bool:=StP.lt EntL.name a b
abbrev qN_ (l:List EntL):Prop:=StP.Sorted EntL.name l
abbrev StE (l l':List EntL):Prop:=StP.St EntL.name l l'
theorem acN_ (a b:EntL):decide (cmpE a b<0)=ltE a b:=by
 unfold cmpE cmpS ltE StP.lt
 cases h:ltB a.name b.name
 ·rw[if_neg (by simp)]
  split<;>rfl
 ·rw[if_pos rfl];rfl
structure InsG where
 S:List EntL
 R:List EntL
set_option linter.defProp false
def xt_:=And.intro (And.intro (@xw_) (And.intro (@xZ_) (@jm_))) (And.intro (@qk_) (And.intro (@qh_) (@acN_)))
theorem wu_ (rb n c:Nat) (A M B:List EntL) (rest:List Value) (a b:Nat) (w:World) (ha:A.length=a) (hb:b=a+M.length) (hn:n=b+B.length) (hs:n<1000000)
  (ho:w.heap[rb]? =some (k5_ rest (A++ (M++B)))):
  Rets Tryz.prog 260 #[vsl rb 0 n c,vi a,vi b, .func (.func 121) #[] #[]] w (fun v D=> ∃o,D= [(rb,o)]∧v= .tuple #[]∧ ∃M',o=k5_ rest (A++ (M'++B))∧M'.length=M.length∧qN_ M'∧StE M M'):=by
 cases M with
 |nil=>
  simp only[List.length_nil,Nat.add_zero] at hb
  subst hb
  refine Rets.enterM Tryz.func260 rfl (rs:= []) Tryz.results260 Tryz.ntmps260 ho ?_
  refine kf ?_
  first|with_reducible refine ks [] @xt_ ?_|refine kp @xt_ ?_
  refine Cw.loopG (G:=Unit) [12,13,14,17,9,18,19,20,21,22,23,24,25,26,27,28,29,30,31,32,33,34,37,38,39,40,41,42,43,44,45,46,47,48,49,50,51,52,35,36,15,16,8] (fun g=> [(8,vi (b+1))]) (fun g=> [(rb,k5_ rest (A++ ([]++B)))]) (fun g=>True) (fun g=>0) () rfl rfl ?_ ?_
  ·trivial
  ·intro g j hg
   refine kv ?_
   first|with_reducible refine ks [] @xt_ ?_|refine kp @xt_ ?_
   refine⟨_,_,_,(ke @xt_),rfl,trivial, ?_⟩
   exact⟨rfl,[],rfl,rfl,List.Pairwise.nil,StP.St.refl _ _⟩
 |cons x0 M=>
  refine Rets.enterM Tryz.func260 rfl (rs:= []) Tryz.results260 Tryz.ntmps260 ho ?_
  refine kf ?_
  first|with_reducible refine ks [] @xt_ ?_|refine kp @xt_ ?_
  have e0: (a:Int)+1=((a+ [x0].length:Nat):Int):=by simp
  rw[e0]
  refine Cw.loopG (G:=InsG) [12,13,14,17,9,18,19,20,21,22,23,24,25,26,27,28,29,30,31,32,33,34,37,38,39,40,41,42,43,44,45,46,47,48,49,50,51,52,35,36,15,16,8] (fun g=> [(8,vi (a+g.S.length:Nat))]) (fun g=> [(rb,k5_ rest (A++ (g.S++ (g.R++B))))]) (fun g=> ∃M1,x0::M=M1++g.R∧g.S.length=M1.length∧qN_ g.S∧StE M1 g.S) (fun g=>g.R.length) ⟨[x0],M⟩ rfl rfl ?_ ?_
  ·exact⟨[x0],rfl,rfl,List.pairwise_singleton _ _,StP.St.refl _ _⟩
  ·intro g j hg
   refine kv ?_
   obtain⟨S,R⟩:=g
   obtain⟨M1,hM,hS1,hS2,hS3⟩:=hg
   dsimp only at hM hS1 hS2 hS3 ⊢
   have hlen:=congrArg List.length hM
   rw[List.length_cons,List.length_append] at hlen
   rw[List.length_cons] at hb
   cases R with
   |nil=>
    rw[List.length_nil] at hlen
    first|with_reducible refine ks [] @xt_ ?_|refine kp @xt_ ?_
    refine⟨_,_,_,(ke @xt_),rfl,trivial, ?_⟩
    exact⟨rfl,S,rfl,by show S.length=M.length+1;omega,hS2,by rw[show x0::M=M1 from by rw[hM,List.append_nil]];exact hS3⟩
   |cons x R=>
    rw[List.length_cons] at hlen
    have e1:A++ (S++ (x::R++B))=qU_ A S x (R++B) S.length:=by rw[Wx_ _ _ _ _ (Nat.le_refl _)];simp only[List.append_assoc,List.cons_append,List.nil_append]
    rw[e1]
    first|with_reducible refine ks [] @xt_ ?_|refine kp @xt_ ?_
    refine Cw.loopG (G:=Nat) [18,19,20,21,22,23,24,25,26,27,28,29,30,31,32,33,34,37,38,39,40,41,42,43,44,45,46,47,48,49,50,51,52,35,36,9] (fun g=> [(9,vi (a+g:Nat))]) (fun g=> [(rb,k5_ rest (qU_ A S x (R++B) g))]) (fun g=>g≤S.length∧(S.length≤g∨ltE x (S.getD g ent0)=true)) (fun g=>g) S.length rfl rfl ?_ ?_
    ·exact⟨Nat.le_refl _, .inl (Nat.le_refl _)⟩
    ·intro k jk hk
     refine kv ?_
     obtain⟨hk1,hk2⟩:=hk
     have hl:=v7_ A S x (R++B) k
     rw[List.length_append] at hl
     have done: (k=0∨ltE x (S.getD (k - 1) ent0)=false)→StE (M1++ [x]) (S.take k++x::S.drop k)∧qN_ (S.take k++x::S.drop k):=fun h=>by
      obtain⟨q1,q2⟩:=Qs_ (z:=ent0) hS2 hk1 h hk2
      exact⟨(StP.St.app hS3 (StP.St.refl _ _)).trans q2,q1⟩
     first|with_reducible refine ks [] @xt_ ?_|refine kp @xt_ ?_
     by_cases hk0:k=0
     ·have e2:decide ((a:Int)< ((a+k:Nat):Int))=false:=decide_eq_false (by omega)
      refine Cw.regionS [rb] [0,1,2,3,4,5,6,7,9,10,11,12,8,13,14,15,16] [] (by kernel_rfl) (by kernel_rfl) (by kernel_rfl) ?_
      simp only[zh_, ↓zc_, ↓za_, ↓zk_, ↓zj_,zb_]
      refine kq (And.intro @xt_ @e2) ?_
      first|with_reducible refine ks [] @xt_ ?_|refine kp @xt_ ?_
      obtain⟨d1,d2⟩:=done (.inl hk0)
      refine Again.mk ⟨S.take k++x::S.drop k,R⟩ (by show R.length< (x::R).length;simp) ⟨M1++ [x],by rw[hM];simp,by simp only[List.length_append,List.length_cons,List.length_nil,List.length_take,List.length_drop];omega,d2,d1⟩ ?_ ?_
      ·rw[Zx_]
      ·dsimp only
       rw[show(S.take k++x::S.drop k).length=S.length+1 by simp only[List.length_append,List.length_cons,List.length_take,List.length_drop];omega]
       rfl
     ·have e2:decide ((a:Int)< ((a+k:Nat):Int))=true:=decide_eq_true (by omega)
      refine Cw.regionS [rb] [0,1,2,3,4,5,6,7,9,10,11,12,8,13,14,15,16] [] (by kernel_rfl) (by kernel_rfl) (by kernel_rfl) ?_
      simp only[zh_, ↓zc_, ↓za_, ↓zk_, ↓zj_,zb_]
      refine kq (And.intro @xt_ @e2) ?_
      refine Ow.callFn2 (v:=vi (cmpE x (S.getD (k - 1) ent0))) rfl rfl (by
       show Value.agg _=Value.agg (zR_ x).toArray
       rw[ZY_ (z:=ent0) hk1 (by rw[ha])]) (by
       show Value.agg _=Value.agg (zR_ (S.getD (k - 1) ent0)).toArray
       rw[show k=(k - 1)+1 by omega,acv_ (z:=ent0) (k:=k - 1) (by omega) (by rw[ha];omega)];rfl) Tryz.call121 (fun w' hw'=>Zh_ x (S.getD (k - 1) ent0) w') ?_
      refine kq @xt_ ?_
      cases hc:ltE x (S.getD (k - 1) ent0)
      ·first|with_reducible refine ks [] @xt_ ?_|refine kp @xt_ ?_
       obtain⟨d1,d2⟩:=done (.inr hc)
       refine Again.mk ⟨S.take k++x::S.drop k,R⟩ (by show R.length< (x::R).length;simp) ⟨M1++ [x],by rw[hM];simp,by simp only[List.length_append,List.length_cons,List.length_nil,List.length_take,List.length_drop];omega,d2,d1⟩ ?_ ?_
       ·rw[Zx_]
       ·dsimp only
        rw[show(S.take k++x::S.drop k).length=S.length+1 by simp only[List.length_append,List.length_cons,List.length_take,List.length_drop];omega]
        rfl
      ·first|with_reducible refine ks [] @xt_ ?_|refine kp @xt_ ?_
       obtain⟨k,rfl⟩: ∃q,k=q+1:=⟨k - 1,by omega⟩
       have h1:=ZY_ (z:=ent0) (a:=A) (b:=R++B) (x:=x) hk1 (show a+ (k+1)=A.length+ (k+1) by omega)
       have h2:=acv_ (z:=ent0) (a:=A) (b:=R++B) (x:=x) (k:=k) (s:=S) (by omega) (show a+k=A.length+k by omega)
       have e3:a+ (k+1) - 1=a+k:=by omega
       refine Cw.regionS [rb] [0,1,2,3,4,5,6,7,8,10,11,12,9,13,14,15,16,17] [15,17] (by kernel_rfl) (by kernel_rfl) (by kernel_rfl) ?_
       simp only[zh_, ↓zc_, ↓za_, ↓zk_, ↓zj_,zb_]
       refine kq (And.intro @xt_ (And.intro @e3 (And.intro @h1 (@h2)))) ?_
       refine Ow.store rfl rfl rfl (ke (And.intro @xt_ (And.intro @e3 (And.intro @h1 (@h2))))) ?_
       refine ko (And.intro @xt_ (And.intro @e3 (And.intro @h1 (@h2)))) ?_
       rw[aap_ (by omega),←Nat.add_assoc,Kx_ (z:=ent0) (by omega) (by rw[ha])]
       refine Again.mk k (by omega) ⟨by omega, .inr hc⟩ rfl ?_
       rw[show(((a+k+1:Nat):Int)) - 1=((a+k:Nat):Int) by omega]
       rfl
end Go.Proofs
end
section
open Go Go.Proofs Go.Sx Go.StP
namespace Go.Proofs
set_option maxRecDepth 10000
set_option maxHeartbeats 4000000
set_option linter.unusedSimpArgs false
theorem aks_ (p q:Nat) (h:p+q<4611686018427387904):IntKind.wrap .i64 ((jV_ (UInt64.ofInt ((p:Int)+ (q:Int))) 1).toNat:Int)=(((p+q) / 2:Nat):Int):=by
 have e: (UInt64.ofInt ((p:Int)+ (q:Int))).toNat=p+q:=by
  have h2:UInt64.ofInt ((p:Int)+ (q:Int))=UInt64.ofNat (((p:Int)+ (q:Int))%2^64).toNat:=rfl
  rw[h2,UInt64.toNat_ofNat']
  omega
 have e2: (jV_ (UInt64.ofInt ((p:Int)+ (q:Int))) 1).toNat=(p+q) / 2:=by
  unfold jV_
  rw[e,UInt64.toNat_ofNat',Nat.pow_one]
  omega
 rw[e2,jE_ _ (by omega)]
structure BsG where
 i:Nat
 j:Nat
abbrev Z0_:Value:= .func (.func 121) #[] #[]
def afP_ (rb:Nat) (A X Y B:List EntL) (rest:List Value) (v:Value) (D:zi_):Prop:=
 ∃o,D= [(rb,o)]∧v= .tuple #[]∧ ∃Z,o=k5_ rest (A++ (Z++B))∧Z.length=X.length+Y.length∧qN_ Z∧StE (X++Y) Z
set_option linter.defProp false
def kT_:=And.intro (And.intro (@xw_) (And.intro (@xZ_) (@jm_))) (And.intro (And.intro (@qk_) (@qh_)) (And.intro (@acN_) (@aks_)))
theorem aih_ (rb n c:Nat) (A:List EntL) (x:EntL) (Y B:List EntL) (rest:List Value) (a m b:Nat) (w:World) (ha:A.length=a) (hm:m=a+1) (hb:b=m+Y.length) (hn:n=b+B.length) (hs:n<1000000) (hY:qN_ Y)
  (ho:w.heap[rb]? =some (k5_ rest (A++ ([x]++ (Y++B))))):
  Rets Tryz.prog 261 #[vsl rb 0 n c,vi a,vi m,vi b,Z0_] w (afP_ rb A [x] Y B rest):=by
 subst hb
 refine Rets.enterM Tryz.func261 rfl (rs:= []) Tryz.results261 Tryz.ntmps261 ho ?_
 refine kf ?_
 first|with_reducible refine ks [] @kT_ ?_|refine kp @kT_ ?_
 have e0:A++x:: (Y++B)=qU_ A Y x B 0:=by rw[aeV_];simp only[List.append_assoc,List.cons_append,List.nil_append]
 rw[e0]
 refine Cw.loopG (G:=BsG) [31,32,33,34,35,36,37,38,39,12,40,41,42,43,44,45,46,47,48,49,50,51,52,10,53,11] (fun g=> [(10,vi (m+g.i:Nat)),(11,vi (m+g.j:Nat))]) (fun g=> [(rb,k5_ rest (qU_ A Y x B 0))]) (fun g=>g.i≤g.j∧g.j≤Y.length∧(g.i=0∨ltE (Y.getD (g.i - 1) ent0) x=true)∧(Y.length≤g.j∨ltE (Y.getD g.j ent0) x=false)) (fun g=>g.j - g.i) ⟨0,Y.length⟩ rfl rfl ?_ ?_
 ·exact⟨Nat.zero_le _,Nat.le_refl _, .inl rfl, .inl (Nat.le_refl _)⟩
 ·intro g j hg
  refine kv ?_
  obtain⟨i,j⟩:=g
  obtain⟨h1,h2,h3,h4⟩:=hg
  dsimp only at h1 h2 h3 h4 ⊢
  by_cases hij:i<j
  ·have e1: (m+i+ (m+j)) / 2=m+ (i+j) / 2:=by omega
   have hl:=v7_ A Y x B 0
   first|with_reducible refine ks [] (And.intro @kT_ @e1) ?_|refine kp (And.intro @kT_ @e1) ?_
   have g1: (qU_ A Y x B 0).getD (m+ (i+j) / 2) ent0=Y.getD ((i+j) / 2) ent0:=ajf_ (Nat.zero_le _) (by omega) (by omega)
   have g2: (qU_ A Y x B 0).getD a ent0=x:=ZY_ (Nat.zero_le _) (by omega)
   refine Cw.regionS [rb] [0,1,2,3,5,6,7,4,8,9,10] [] (by kernel_rfl) (by kernel_rfl) (by kernel_rfl) ?_
   simp only[zh_, ↓zc_, ↓za_, ↓zk_, ↓zj_,zb_]
   refine kq (And.intro @kT_ (And.intro @g1 (@g2))) ?_
   refine Ow.callFn2 (v:=vi (cmpE (Y.getD ((i+j) / 2) ent0) x)) rfl rfl rfl rfl Tryz.call121 (fun w' hw'=>Zh_ _ _ w') ?_
   refine kq @kT_ ?_
   cases hc:ltE (Y.getD ((i+j) / 2) ent0) x
   ·first|with_reducible refine ks [] @kT_ ?_|refine kp @kT_ ?_
    refine Again.mk ⟨i,(i+j) / 2⟩ (by show(i+j) / 2 - i<j - i;omega) ⟨by show i≤ (i+j) / 2;omega,by show(i+j) / 2≤Y.length;omega,h3, .inr hc⟩ rfl rfl
   ·first|with_reducible refine ks [] @kT_ ?_|refine kp @kT_ ?_
    refine Again.mk ⟨(i+j) / 2+1,j⟩ (by show j - ((i+j) / 2+1)<j - i;omega) ⟨by show(i+j) / 2+1≤j;omega,h2, .inr hc,h4⟩ rfl rfl
  ·obtain rfl:i=j:=by omega
   first|with_reducible refine ks [] @kT_ ?_|refine kp @kT_ ?_
   refine Cw.loopG (G:=Nat) [55,56,57,58,61,62,63,64,65,66,67,68,69,70,71,72,73,74,75,76,59,60,13] (fun g=> [(13,vi (a+g:Nat))]) (fun g=> [(rb,k5_ rest (qU_ A Y x B g))]) (fun g=>g≤i) (fun g=>i - g) 0 rfl rfl ?_ ?_
   ·exact Nat.zero_le _
   ·intro k jk hk
    refine kv ?_
    by_cases hk1:k<i
    ·first|with_reducible refine ks [] @kT_ ?_|refine kp @kT_ ?_
     have hl:=v7_ A Y x B k
     have g1: (qU_ A Y x B k).getD (a+k) ent0=x:=ZY_ (by omega) (by omega)
     have g2: (qU_ A Y x B k).getD (a+k+1) ent0=Y.getD k ent0:=akS_ (by omega) (by omega)
     refine Cw.regionS [rb] [0,1,2,3,4,5,6,7,8,10,11,12,9,13,14,15,16,17] [15,17] (by kernel_rfl) (by kernel_rfl) (by kernel_rfl) ?_
     simp only[zh_, ↓zc_, ↓za_, ↓zk_, ↓zj_,zb_]
     refine kq (And.intro @kT_ (And.intro @g1 (@g2))) ?_
     refine Ow.store rfl rfl rfl (ke (And.intro @kT_ (And.intro @g1 (@g2)))) ?_
     refine ko (And.intro @kT_ (And.intro @g1 (@g2))) ?_
     rw[aiW_ (z:=ent0) (by omega) (by omega)]
     exact Again.mk (k+1) (by omega) (by omega) rfl rfl
    ·obtain rfl:k=i:=by omega
     first|with_reducible refine ks [] @kT_ ?_|refine kp @kT_ ?_
     have hz:=Vh_ (z:=ent0) hY h2 h3 h4
     refine⟨_,_,_,(ke @kT_),rfl,trivial, ?_⟩
     exact⟨rfl,_,by rw[Zx_],by simp only[List.length_append,List.length_cons,List.length_nil,List.length_take,List.length_drop];omega,hz.1,hz.2⟩
end Go.Proofs
end
section
open Go Go.Proofs Go.Sx Go.StP
namespace Go.Proofs
set_option maxRecDepth 10000
set_option maxHeartbeats 4000000
set_option linter.unusedSimpArgs false
set_option linter.defProp false
def z7_:=And.intro (And.intro (@xw_) (And.intro (@xZ_) (@jm_))) (And.intro (And.intro (@qk_) (@qh_)) (And.intro (@acN_) (@aks_)))
theorem afs_ (rb n c:Nat) (A X:List EntL) (y:EntL) (B:List EntL) (rest:List Value) (a m b:Nat) (w:World) (ha:A.length=a) (hm:m=a+X.length) (hX2:X.length≠1) (hb:b=m+1) (hn:n=b+B.length) (hs:n<1000000) (hX:qN_ X)
  (ho:w.heap[rb]? =some (k5_ rest (A++ (X++ ([y]++B))))):
  Rets Tryz.prog 261 #[vsl rb 0 n c,vi a,vi m,vi b,Z0_] w (afP_ rb A X [y] B rest):=by
 subst hm
 refine Rets.enterM Tryz.func261 rfl (rs:= []) Tryz.results261 Tryz.ntmps261 ho ?_
 refine kf ?_
 first|with_reducible refine ks [] @z7_ ?_|refine kp @z7_ ?_
 have e0:A++ (X++y::B)=qU_ A X y B X.length:=by rw[Wx_ _ _ _ _ (Nat.le_refl _)];simp only[List.append_assoc,List.cons_append,List.nil_append]
 rw[e0]
 refine Cw.loopG (G:=BsG) [83,84,85,86,87,88,89,90,91,16,92,93,94,95,96,97,98,99,100,101,102,103,104,105,14,106,15] (fun g=> [(14,vi (a+g.i:Nat)),(15,vi (a+g.j:Nat))]) (fun g=> [(rb,k5_ rest (qU_ A X y B X.length))]) (fun g=>g.i≤g.j∧g.j≤X.length∧(g.i=0∨ltE y (X.getD (g.i - 1) ent0)=false)∧(X.length≤g.j∨ltE y (X.getD g.j ent0)=true)) (fun g=>g.j - g.i) ⟨0,X.length⟩ rfl rfl ?_ ?_
 ·exact⟨Nat.zero_le _,Nat.le_refl _, .inl rfl, .inl (Nat.le_refl _)⟩
 ·intro g j hg
  refine kv ?_
  obtain⟨i,j⟩:=g
  obtain⟨h1,h2,h3,h4⟩:=hg
  dsimp only at h1 h2 h3 h4 ⊢
  by_cases hij:i<j
  ·have e1: (a+i+ (a+j)) / 2=a+ (i+j) / 2:=by omega
   have hl:=v7_ A X y B X.length
   first|with_reducible refine ks [] (And.intro @z7_ @e1) ?_|refine kp (And.intro @z7_ @e1) ?_
   have g1: (qU_ A X y B X.length).getD (a+ (i+j) / 2) ent0=X.getD ((i+j) / 2) ent0:=aiu_ (by omega) (by omega) (by omega)
   have g2: (qU_ A X y B X.length).getD (a+X.length) ent0=y:=ZY_ (Nat.le_refl _) (by omega)
   refine Cw.regionS [rb] [0,1,2,3,5,6,7,4,8,9,10,11] [] (by kernel_rfl) (by kernel_rfl) (by kernel_rfl) ?_
   simp only[zh_, ↓zc_, ↓za_, ↓zk_, ↓zj_,zb_]
   refine kq (And.intro @z7_ (And.intro @g1 (@g2))) ?_
   refine Ow.callFn2 (v:=vi (cmpE y (X.getD ((i+j) / 2) ent0))) rfl rfl rfl rfl Tryz.call121 (fun w' hw'=>Zh_ _ _ w') ?_
   refine kq @z7_ ?_
   cases hc:ltE y (X.getD ((i+j) / 2) ent0)
   ·first|with_reducible refine ks [] @z7_ ?_|refine kp @z7_ ?_
    refine Again.mk ⟨(i+j) / 2+1,j⟩ (by show j - ((i+j) / 2+1)<j - i;omega) ⟨by show(i+j) / 2+1≤j;omega,h2, .inr hc,h4⟩ rfl rfl
   ·first|with_reducible refine ks [] @z7_ ?_|refine kp @z7_ ?_
    refine Again.mk ⟨i,(i+j) / 2⟩ (by show(i+j) / 2 - i<j - i;omega) ⟨by show i≤ (i+j) / 2;omega,by show(i+j) / 2≤X.length;omega,h3, .inr hc⟩ rfl rfl
  ·obtain rfl:i=j:=by omega
   first|with_reducible refine ks [] @z7_ ?_|refine kp @z7_ ?_
   refine Cw.loopG (G:=Nat) [108,109,110,113,114,115,116,117,118,119,120,121,122,123,124,125,126,127,128,111,112,17] (fun g=> [(17,vi (a+g:Nat))]) (fun g=> [(rb,k5_ rest (qU_ A X y B g))]) (fun g=>i≤g∧g≤X.length) (fun g=>g) X.length rfl rfl ?_ ?_
   ·exact⟨h2,Nat.le_refl _⟩
   ·intro k jk hk
    refine kv ?_
    obtain⟨hk1,hk2⟩:=hk
    by_cases hk:i<k
    ·obtain⟨k,rfl⟩: ∃q,k=q+1:=⟨k - 1,by omega⟩
     first|with_reducible refine ks [] @z7_ ?_|refine kp @z7_ ?_
     have hl:=v7_ A X y B (k+1)
     have g1: (qU_ A X y B (k+1)).getD (a+ (k+1)) ent0=y:=ZY_ (by omega) (by omega)
     have g2: (qU_ A X y B (k+1)).getD (a+k) ent0=X.getD k ent0:=acv_ (by omega) (by omega)
     have e3:a+ (k+1) - 1=a+k:=by omega
     refine Cw.regionS [rb] [0,1,2,3,4,5,6,7,8,10,11,12,9,13,14,15,16,17] [15,17] (by kernel_rfl) (by kernel_rfl) (by kernel_rfl) ?_
     simp only[zh_, ↓zc_, ↓za_, ↓zk_, ↓zj_,zb_]
     refine kq (And.intro @z7_ (And.intro @e3 (And.intro @g1 (@g2)))) ?_
     refine Ow.store rfl rfl rfl (ke (And.intro @z7_ (And.intro @e3 (And.intro @g1 (@g2))))) ?_
     refine ko (And.intro @z7_ (And.intro @e3 (And.intro @g1 (@g2)))) ?_
     rw[aap_ (by omega),←Nat.add_assoc,Kx_ (z:=ent0) (by omega) (by omega)]
     refine Again.mk k (by omega) ⟨by omega,by omega⟩ rfl ?_
     rw[show(((a+k+1:Nat):Int)) - 1=((a+k:Nat):Int) by omega]
     rfl
    ·obtain rfl:k=i:=by omega
     first|with_reducible refine ks [] @z7_ ?_|refine kp @z7_ ?_
     have hz:=Qs_ (z:=ent0) hX h2 h3 h4
     refine⟨_,_,_,(ke @z7_),rfl,trivial, ?_⟩
     exact⟨rfl,_,by rw[Zx_],by simp only[List.length_append,List.length_cons,List.length_nil,List.length_take,List.length_drop];omega,hz.1,hz.2⟩
theorem D_x {A X C:List EntL} {h i:Nat} (hh:h<X.length) (e:i=A.length+h): (A++ (X++C)).getD i ent0=X.getD h ent0:=by
 subst e
 rw[jC_ (by omega),Nat.add_sub_cancel_left,k0_ hh]
theorem D_y {A X Y C:List EntL} {h i:Nat} (hh:h<Y.length) (e:i=A.length+X.length+h): (A++ (X++ (Y++C))).getD i ent0=Y.getD h ent0:=by
 subst e
 rw[jC_ (by omega),jC_ (by omega),k0_ (by omega)]
 congr 1;omega
theorem ZI_ (q:Nat): ∀ (rb n c:Nat) (A X Y B:List EntL) (rest:List Value) (a m b:Nat) (w:World) (_ha:A.length=a) (_hm:m=a+X.length) (_hb:b=m+Y.length) (_hn:n=b+B.length) (_hs:n<1000000) (_hX:qN_ X) (_hY:qN_ Y) (_hx0:0<X.length) (_hy0:0<Y.length) (_hq:X.length+Y.length≤q)
  (_ho:w.heap[rb]? =some (k5_ rest (A++ (X++ (Y++B))))),
  Rets Tryz.prog 261 #[vsl rb 0 n c,vi a,vi m,vi b,Z0_] w (afP_ rb A X Y B rest):=by
 induction q with
 |zero=>intros;omega
 |succ q ih=>
  intro rb n c A X Y B rest a m b w ha hm hb hn hs hX hY hx0 hy0 hq ho
  by_cases hX1:X.length=1
  ·obtain⟨x,rfl⟩:=List.length_eq_one_iff.1 hX1
   exact aih_ rb n c A x Y B rest a m b w ha hm hb hn hs hY ho
  by_cases hY1:Y.length=1
  ·obtain⟨y,rfl⟩:=List.length_eq_one_iff.1 hY1
   exact afs_ rb n c A X y B rest a m b w ha hm hX1 hb hn hs hX ho
  have e1: (m:Int) - a=(X.length:Nat):=by omega
  have e2: (b:Int) - m=(Y.length:Nat):=by omega
  refine Rets.enterM Tryz.func261 rfl (rs:= []) Tryz.results261 Tryz.ntmps261 ho ?_
  refine kf ?_
  obtain⟨mid,hmd⟩: ∃q,q=(a+b) / 2:=⟨_,rfl⟩
  obtain⟨nn,hnn⟩: ∃q,q=mid+m:=⟨_,rfl⟩
  have e3: (mid:Int)+ (m:Int)=(nn:Nat):=by omega
  have e5: (nn:Int) - 1=((nn - 1:Nat):Int):=by omega
  have hl: (A++ (X++ (Y++B))).length=n:=by simp only[List.length_append];omega
  ((try with_reducible refine Cw.go [1000027] ?_);(try simp(disch:=(first|assumption|omega| (simp only[qF_,qC_,UInt64.reduceToNat];try omega))) only[↓Sx.S0,Sx.S1,Tryz.fx,z7_,Nat.reduceAdd,Nat.reducePow,Int.reducePow,Nat.reduceBEq, ↓reduceIte,UInt8.reduceToNat,UInt16.reduceToNat,UInt32.reduceToNat,UInt64.reduceToNat,Int.reduceToNat,e1,e2,←hmd,e3,e5]))
  refine Cw.cut (G:=BsG) 220 (fun g=> [(0,vsl rb 0 n c),(1,vi a),(2,vi m),(3,vi b),(4,Z0_),(18,vi mid),(19,vi nn),(20,vi g.i),(21,vi g.j)]) (fun g=> [(rb,k5_ rest (A++ (X++ (Y++B))))]) (fun g=>g.i≤g.j∧g.j≤m∧nn≤b+g.i∧m+g.j≤nn∧a≤g.i∧(g.i=a∨nn=b+g.i)∧(g.j=m∨m+g.j=nn)) ?_ ?_
  ·by_cases hmid:mid<m
   ·have e4: (nn:Int) - (b:Int)=((nn - b:Nat):Int):=by omega
    first|with_reducible refine ks [] (And.intro @z7_ @e4) ?_|refine kp (And.intro @z7_ @e4) ?_
    exact CutM.mk ⟨nn - b,mid⟩ ⟨by show nn - b≤mid;omega,by show mid≤m;omega,by show nn≤b+ (nn - b);omega,by show m+mid≤nn;omega,by show a≤nn - b;omega, .inr (by show nn=b+ (nn - b);omega), .inr (by show m+mid=nn;omega)⟩ rfl rfl
   ·first|with_reducible refine ks [] @z7_ ?_|refine kp @z7_ ?_
    exact CutM.mk ⟨a,m⟩ ⟨by show a≤m;omega,by show m≤m;omega,by show nn≤b+a;omega,by show m+m≤nn;omega,by show a≤a;omega, .inl rfl, .inl rfl⟩ rfl rfl
  ·intro g j hg
   simp only[ahl_,agX_,pin,zy_,zz_,Nat.reduceAdd]
   obtain⟨s0,r0⟩:=g
   obtain⟨f1,f2,f3,f4,f5,f6,f7⟩:=hg
   dsimp only at f1 f2 f3 f4 f5 f6 f7 ⊢
   first|with_reducible refine ks [1000039,1000041] (And.intro @z7_ @e5) ?_|refine kp (And.intro @z7_ @e5) ?_
   refine Cw.loopG (G:=BsG) [149,150,151,152,153,154,155,156,157,23,158,159,160,161,162,163,164,165,166,167,168,169,170,171,172,173,20,174,21] (fun g=> [(20,vi g.i),(21,vi g.j)]) (fun g=> [(rb,k5_ rest (A++ (X++ (Y++B))))]) (fun g=>s0≤g.i∧g.i≤g.j∧g.j≤r0∧(g.i=s0∨ltE ((A++ (X++ (Y++B))).getD (nn - g.i) ent0) ((A++ (X++ (Y++B))).getD (g.i - 1) ent0)=false)∧(g.j=r0∨ltE ((A++ (X++ (Y++B))).getD (nn - 1 - g.j) ent0) ((A++ (X++ (Y++B))).getD g.j ent0)=true)) (fun g=>g.j - g.i) ⟨s0,r0⟩ rfl rfl ?_ ?_
   ·exact⟨Nat.le_refl _,f1,Nat.le_refl _, .inl rfl, .inl rfl⟩
   ·intro g j hg
    refine kv ?_
    obtain⟨i,j⟩:=g
    obtain⟨h1,h2,h3,h4,h5⟩:=hg
    dsimp only at h1 h2 h3 h4 h5 ⊢
    by_cases hij:i<j
    ·obtain⟨h,hh⟩: ∃q,q=(i+j) / 2:=⟨_,rfl⟩
     have e6: ((nn - 1:Nat):Int) - (h:Int)=((nn - 1 - h:Nat):Int):=by omega
     ((try with_reducible refine Cw.go [] ?_);(try simp(disch:=(first|assumption|omega| (simp only[qF_,qC_,UInt64.reduceToNat];try omega))) only[↓Sx.S0,Sx.S1,Tryz.fx,z7_,Nat.reduceAdd,Nat.reducePow,Int.reducePow,Nat.reduceBEq, ↓reduceIte,UInt8.reduceToNat,UInt16.reduceToNat,UInt32.reduceToNat,UInt64.reduceToNat,Int.reduceToNat,←hh]))
     refine Cw.regionS [rb] [0,1,2,3,4,5,7,8,9,6,10,11,12,13] [] (by kernel_rfl) (by kernel_rfl) (by kernel_rfl) ?_
     simp only[zh_, ↓zc_, ↓za_, ↓zk_, ↓zj_,zb_]
     refine kq (And.intro @z7_ @e6) ?_
     refine Ow.callFn2 (v:=vi (cmpE ((A++ (X++ (Y++B))).getD (nn - 1 - h) ent0) ((A++ (X++ (Y++B))).getD h ent0))) rfl rfl rfl rfl Tryz.call121 (fun w' hw'=>Zh_ _ _ w') ?_
     refine kq @z7_ ?_
     cases hc:ltE ((A++ (X++ (Y++B))).getD (nn - 1 - h) ent0) ((A++ (X++ (Y++B))).getD h ent0)
     ·first|with_reducible refine ks [] @z7_ ?_|refine kp @z7_ ?_
      refine Again.mk ⟨h+1,j⟩ (by show j - (h+1)<j - i;omega) ⟨by show s0≤h+1;omega,by show h+1≤j;omega,h3, .inr ?_,h5⟩ rfl rfl
      show ltE ((A++ (X++ (Y++B))).getD (nn - (h+1)) ent0) ((A++ (X++ (Y++B))).getD (h+1 - 1) ent0)=false
      rw[show nn - (h+1)=nn - 1 - h by omega,Nat.add_sub_cancel];exact hc
     ·first|with_reducible refine ks [] @z7_ ?_|refine kp @z7_ ?_
      refine Again.mk ⟨i,h⟩ (by show h - i<j - i;omega) ⟨h1,by show i≤h;omega,by show h≤r0;omega,h4, .inr hc⟩ rfl rfl
    ·obtain rfl:i=j:=by omega
     obtain⟨ix,hix⟩: ∃q,q=i - a:=⟨_,rfl⟩
     obtain⟨jy,hjy⟩: ∃q,q=nn - i - m:=⟨_,rfl⟩
     have q1:jy=0∨X.length≤ix∨ltE (Y.getD (jy - 1) ent0) (X.getD ix ent0)=true:=by
      by_cases c1:jy=0
      ·exact .inl c1
      by_cases c2:X.length≤ix
      ·exact .inr (.inl c2)
      rcases h5 with h5|h5
      ·omega
      ·rw[D_y (h:=jy - 1) (by omega) (by omega),D_x (h:=ix) (by omega) (by omega)] at h5
       exact .inr (.inr h5)
     have q2:ix=0∨Y.length≤jy∨ltE (Y.getD jy ent0) (X.getD (ix - 1) ent0)=false:=by
      by_cases c1:ix=0
      ·exact .inl c1
      by_cases c2:Y.length≤jy
      ·exact .inr (.inl c2)
      rcases h4 with h4|h4
      ·omega
      ·rw[D_y (h:=jy) (by omega) (by omega),D_x (h:=ix - 1) (by omega) (by omega)] at h4
       exact .inr (.inr h4)
     have hmc:=fun x1 x2=>agP_ (z:=ent0) (x1:=x1) (x2:=x2) hX hY (show ix≤X.length by omega) (show jy≤Y.length by omega) q1 q2
     have sX1:qN_ (X.take ix):=StP.Sorted.left (b:=X.drop ix) (by rw[List.take_append_drop];exact hX)
     have sX2:qN_ (X.drop ix):=StP.Sorted.right (a:=X.take ix) (by rw[List.take_append_drop];exact hX)
     have sY1:qN_ (Y.take jy):=StP.Sorted.left (b:=Y.drop jy) (by rw[List.take_append_drop];exact hY)
     have sY2:qN_ (Y.drop jy):=StP.Sorted.right (a:=Y.take jy) (by rw[List.take_append_drop];exact hY)
     have hrow:A++ (X++ (Y++B))=A++ (X.take ix++ (X.drop ix++ (Y.take jy++ (Y.drop jy++B)))):=by
      rw[←List.append_assoc (X.take ix),List.take_append_drop,←List.append_assoc (Y.take jy),List.take_append_drop]
     have lX1: (X.take ix).length=ix:=by rw[List.length_take];omega
     have lX2: (X.drop ix).length=m - i:=by rw[List.length_drop];omega
     have lY1: (Y.take jy).length=jy:=by rw[List.length_take];omega
     have lY2: (Y.drop jy).length=b - m - jy:=by rw[List.length_drop];omega
     have e7: (nn:Int) - (i:Int)=((m+jy:Nat):Int):=by omega
     first|with_reducible refine ks [] (And.intro @z7_ @e7) ?_|refine kp (And.intro @z7_ @e7) ?_
     rw[hrow]
     generalize X.take ix=X1 at*
     generalize X.drop ix=X2 at*
     generalize Y.take jy=Y1 at*
     generalize Y.drop jy=Y2 at*
     have em:mid=i+jy:=by omega
     refine Cw.cut (G:=Unit) 220 (fun g=> [(0,vsl rb 0 n c),(1,vi a),(2,vi m),(3,vi b),(4,Z0_),(18,vi mid),(20,vi i),(24,vi (m+jy:Nat))]) (fun g=> [(rb,k5_ rest (A++ (X1++ (Y1++ (X2++ (Y2++B))))))]) (fun g=>True) ?_ ?_
     ·by_cases c1:i<m
      ·have d1:decide ((i:Int)< (m:Int))=true:=decide_eq_true (by omega)
       by_cases c2:0<jy
       ·have d2:decide ((m:Int)< ((m+jy:Nat):Int))=true:=decide_eq_true (by omega)
        first|with_reducible refine ks [] (And.intro @z7_ (And.intro @d1 (@d2))) ?_|refine kp (And.intro @z7_ (And.intro @d1 (@d2))) ?_
        refine Ow.callM rfl rfl Tryz.call301 (by simp[keys]) (fun w' hw'=>acR_ rb n c (A++X1) X2 Y1 (Y2++B) rest Z0_ i m (m+jy) w' (by omega) (by omega) (by rw[List.length_append];omega) (by omega) (by omega) (by rw[List.length_append];omega) hs (by rw[List.append_assoc];exact hw'.has _ _ List.mem_cons_self)) ?_
        refine ko @z7_ ?_
        exact CutM.mk () trivial (by simp only[List.append_assoc]) rfl
       ·have d2:decide ((m:Int)< ((m+jy:Nat):Int))=false:=decide_eq_false (by omega)
        first|with_reducible refine ks [] (And.intro @z7_ (And.intro @d1 (@d2))) ?_|refine kp (And.intro @z7_ (And.intro @d1 (@d2))) ?_
        obtain rfl:Y1= []:=List.eq_nil_of_length_eq_zero (by omega)
        exact CutM.mk () trivial (by simp only[List.nil_append]) rfl
      ·have d1:decide ((i:Int)< (m:Int))=false:=decide_eq_false (by omega)
       first|with_reducible refine ks [] (And.intro @z7_ @d1) ?_|refine kp (And.intro @z7_ @d1) ?_
       obtain rfl:X2= []:=List.eq_nil_of_length_eq_zero (by omega)
       exact CutM.mk () trivial (by simp only[List.nil_append]) rfl
     ·intro u ju hu
      simp only[ahl_,agX_,pin,zy_,zz_,Nat.reduceAdd]
      first|with_reducible refine ks [1000041,1000043] @z7_ ?_|refine kp @z7_ ?_
      refine Cw.cut (G:=(List EntL)) 220 (fun g=> [(0,vsl rb 0 n c),(3,vi b),(4,Z0_),(18,vi mid),(24,vi (m+jy:Nat))]) (fun g=> [(rb,k5_ rest (A++ (g++ (X2++ (Y2++B)))))]) (fun g=>g.length=ix+jy∧qN_ g∧StE (X1++Y1) g) ?_ ?_
      ·by_cases c1:a<i
       ·have d1:decide ((a:Int)< (i:Int))=true:=decide_eq_true (by omega)
        by_cases c2:0<jy
        ·have d2:decide ((i:Int)< (mid:Int))=true:=decide_eq_true (by omega)
         first|with_reducible refine ks [] (And.intro @z7_ (And.intro @d1 (@d2))) ?_|refine kp (And.intro @z7_ (And.intro @d1 (@d2))) ?_
         refine Ow.callE rfl rfl Tryz.call261 (by simp[keys]) (fun w' hw'=>ih rb n c A X1 Y1 (X2++ (Y2++B)) rest a i mid w' ha (by omega) (by omega) (by simp only[List.length_append];omega) hs sX1 sY1 (by omega) (by omega) (by omega) (hw'.has _ _ List.mem_cons_self)) (fun v1 o1 hS1=> ?_)
         obtain⟨rfl,Z1,rfl,z1,z2,z3⟩:=hS1
         refine ko @z7_ ?_
         exact CutM.mk Z1 ⟨by omega,z2,z3⟩ rfl rfl
        ·have d2:decide ((i:Int)< (mid:Int))=false:=decide_eq_false (by omega)
         first|with_reducible refine ks [] (And.intro @z7_ (And.intro @d1 (@d2))) ?_|refine kp (And.intro @z7_ (And.intro @d1 (@d2))) ?_
         obtain rfl:Y1= []:=List.eq_nil_of_length_eq_zero (by omega)
         exact CutM.mk X1 ⟨by omega,sX1,by rw[List.append_nil];exact StP.St.refl _ _⟩ rfl rfl
       ·have d1:decide ((a:Int)< (i:Int))=false:=decide_eq_false (by omega)
        first|with_reducible refine ks [] (And.intro @z7_ @d1) ?_|refine kp (And.intro @z7_ @d1) ?_
        obtain rfl:X1= []:=List.eq_nil_of_length_eq_zero (by omega)
        exact CutM.mk Y1 ⟨by omega,sY1,StP.St.refl _ _⟩ (by simp only[List.nil_append]) rfl
      ·intro Z1 jZ1 hZ1
       simp only[ahl_,agX_,pin,zy_,zz_,Nat.reduceAdd]
       obtain⟨z1,z2,z3⟩:=hZ1
       by_cases c1:i<m
       ·have d1:decide ((mid:Int)< ((m+jy:Nat):Int))=true:=decide_eq_true (by omega)
        by_cases c2:m+jy<b
        ·have d2:decide (((m+jy:Nat):Int)< (b:Int))=true:=decide_eq_true (by omega)
         first|with_reducible refine ks [] (And.intro @z7_ (And.intro @d1 (@d2))) ?_|refine kp (And.intro @z7_ (And.intro @d1 (@d2))) ?_
         refine Ow.callE rfl rfl Tryz.call261 (by simp[keys]) (fun w' hw'=>ih rb n c (A++Z1) X2 Y2 B rest mid (m+jy) b w' (by rw[List.length_append];omega) (by omega) (by omega) hn hs sX2 sY2 (by omega) (by omega) (by omega) (by rw[List.append_assoc];exact hw'.has _ _ List.mem_cons_self)) (fun v2 o2 hS2=> ?_)
         obtain⟨rfl,Z2,rfl,y1,y2,y3⟩:=hS2
         obtain⟨r1,r2⟩:=hmc Z1 Z2 z2 z3 y2 y3
         refine ko @z7_ ?_
         refine⟨_,_,_,(ke @z7_),rfl,trivial, ?_⟩
         exact⟨rfl,Z1++Z2,by simp only[List.append_assoc],by rw[List.length_append];omega,r1,r2⟩
        ·have d2:decide (((m+jy:Nat):Int)< (b:Int))=false:=decide_eq_false (by omega)
         first|with_reducible refine ks [] (And.intro @z7_ (And.intro @d1 (@d2))) ?_|refine kp (And.intro @z7_ (And.intro @d1 (@d2))) ?_
         obtain rfl:Y2= []:=List.eq_nil_of_length_eq_zero (by omega)
         obtain⟨r1,r2⟩:=hmc Z1 X2 z2 z3 sX2 (by rw[List.append_nil];exact StP.St.refl _ _)
         refine⟨_,_,_,(ke @z7_),rfl,trivial, ?_⟩
         exact⟨rfl,Z1++X2,by simp only[List.append_assoc,List.nil_append],by rw[List.length_append];omega,r1,r2⟩
       ·have d1:decide ((mid:Int)< ((m+jy:Nat):Int))=false:=decide_eq_false (by omega)
        first|with_reducible refine ks [] (And.intro @z7_ @d1) ?_|refine kp (And.intro @z7_ @d1) ?_
        obtain rfl:X2= []:=List.eq_nil_of_length_eq_zero (by omega)
        obtain⟨r1,r2⟩:=hmc Z1 Y2 z2 z3 sY2 (StP.St.refl _ _)
        refine⟨_,_,_,(ke @z7_),rfl,trivial, ?_⟩
        exact⟨rfl,Z1++Y2,by simp only[List.append_assoc,List.nil_append],by rw[List.length_append];omega,r1,r2⟩
end Go.Proofs
end
section
open Go Go.Proofs Go.Sx Go.StP
namespace Go.Proofs
set_option maxRecDepth 10000
set_option maxHeartbeats 4000000
set_option linter.unusedSimpArgs false
def Blks (k:Nat) (ls:List (List EntL)):Prop:= ∀x,x∈ls→x.length=k∧qN_ x
theorem Blks.snoc {k:Nat} {ls:List (List EntL)} {x:List EntL} (h:Blks k ls) (hx:x.length=k) (hs:qN_ x):Blks k (ls++ [x]):=by
 intro y hy
 rcases List.mem_append.1 hy with hy|hy
 ·exact h y hy
 ·rw[List.mem_singleton] at hy;subst hy;exact⟨hx,hs⟩
structure StG where
 k:Nat
 ls:List (List EntL)
 r:List EntL
structure StH where
 l2:List (List EntL)
 ls:List (List EntL)
theorem abU_ (rb n c:Nat) (d:List EntL) (rest:List Value) (w:World) (hn:n=d.length) (hs:n<1000000)
  (ho:w.heap[rb]? =some (k5_ rest d)):
  Rets Tryz.prog 229 #[vsl rb 0 n c,vi n,Z0_] w (fun v D=> ∃o,D= [(rb,o)]∧v= .tuple #[]∧ ∃Z,o=k5_ rest Z∧Z.length=d.length∧qN_ Z∧StE d Z):=by
 refine Rets.enterM Tryz.func229 rfl (rs:= []) Tryz.results229 Tryz.ntmps229 ho ?_
 refine kf ?_
 first|with_reducible refine ks [1000006] @Nat.add_zero ?_|refine kp @Nat.add_zero ?_
 refine Cw.loopG (G:=StG) [11,12,13,14,15,16,17,18,19,7,20,21,22,8] (fun g=> [(7,vi g.ls.flatten.length),(8,vi (g.ls.flatten.length+20:Nat))]) (fun g=> [(rb,k5_ rest (g.ls.flatten++g.r))]) (fun g=>Blks 20 g.ls∧StE d (g.ls.flatten++g.r)∧g.ls.flatten.length+g.r.length=n) (fun g=>g.r.length) ⟨20,[],d⟩ rfl rfl ?_ ?_
 ·refine⟨fun x hx=> ?_,StP.St.refl _ _,by show 0+d.length=n;omega⟩
  exact absurd hx (by simp)
 ·intro g j hg
  refine kv ?_
  obtain⟨_,ls,r⟩:=g
  obtain⟨h1,h2,h3⟩:=hg
  dsimp only at h1 h2 h3 ⊢
  by_cases hb:ls.flatten.length+20≤n
  ·obtain⟨M,R,rfl,hM⟩:=ag7_ r (show 20≤r.length by omega)
   rw[List.length_append] at h3
   first|with_reducible refine ks [] @Nat.add_zero ?_|refine kp @Nat.add_zero ?_
   refine Ow.callE rfl rfl Tryz.call260 (by simp[keys]) (fun w' hw'=>wu_ rb n c ls.flatten M R rest ls.flatten.length (ls.flatten.length+20) w' rfl (by omega) (by omega) hs (hw'.has _ _ List.mem_cons_self)) (fun v1 o1 hS1=> ?_)
   obtain⟨rfl,M',rfl,l1,s1,t1⟩:=hS1
   refine ko @Nat.add_zero ?_
   have e1: (ls++ [M']).flatten=ls.flatten++M':=by simp
   refine Again.mk ⟨20,ls++ [M'],R⟩ (by show R.length< (M++R).length;rw[List.length_append];omega) ⟨h1.snoc (by omega) s1, ?_, ?_⟩ ?_ ?_
   ·show StE d ((ls++ [M']).flatten++R)
    rw[e1,List.append_assoc]
    exact h2.trans (StP.St.app (StP.St.refl _ _) (StP.St.app t1 (StP.St.refl _ _)))
   ·show(ls++ [M']).flatten.length+R.length=n
    rw[e1,List.length_append];omega
   ·rw[e1,List.append_assoc]
   ·dsimp only
    rw[e1,show(ls.flatten++M').length=ls.flatten.length+20 by rw[List.length_append];omega]
    rfl
  ·first|with_reducible refine ks [] @Nat.add_zero ?_|refine kp @Nat.add_zero ?_
   have e0:ls.flatten++r=ls.flatten++ (r++ []):=by rw[List.append_nil]
   rw[e0]
   first|with_reducible refine ks [1000007] @Nat.add_zero ?_|refine kp @Nat.add_zero ?_
   refine Ow.callE rfl rfl Tryz.call260 (by simp[keys]) (fun w' hw'=>wu_ rb n c ls.flatten r [] rest ls.flatten.length n w' rfl (by omega) (by simp) hs (hw'.has _ _ List.mem_cons_self)) (fun v1 o1 hS1=> ?_)
   obtain⟨rfl,r',rfl,l1,s1,t1⟩:=hS1
   rw[show r'++ []=r' from List.append_nil r']
   refine ko @Nat.add_zero ?_
   refine Cw.loopG (G:=StG) [28,29,30,31,32,7,8,33,34,35,36,37,38,39,40,41,42,43,44,45,46,47,48,49,50,51,9,52,53,54,55,56,57,58,59,60,61,62,6] (fun g=> [(6,vi g.k)]) (fun g=> [(rb,k5_ rest (g.ls.flatten++g.r))]) (fun g=>0<g.k∧Blks g.k g.ls∧qN_ g.r∧g.r.length<g.k∧StE d (g.ls.flatten++g.r)∧g.ls.flatten.length+g.r.length=n) (fun g=>n - g.k) ⟨20,ls,r'⟩ rfl rfl ?_ ?_
   ·exact⟨by show 0<20;omega,h1,s1,by show r'.length<20;omega,h2.trans (StP.St.app (StP.St.refl _ _) t1),by show ls.flatten.length+r'.length=n;omega⟩
   ·intro g j hg
    refine kv ?_
    clear h1 h2 h3 hb e0 l1 s1 t1
    obtain⟨k,ls,r⟩:=g
    obtain⟨h0,h1,h2,h3,h4,h5⟩:=hg
    dsimp only at h0 h1 h2 h3 h4 h5 ⊢
    by_cases hk:k<n
    ·have e1:2* (k:Int)=((2*k:Nat):Int):=by omega
     first|with_reducible refine ks [1000013] @e1 ?_|refine kp @e1 ?_
     refine Cw.loopG (G:=StH) [33,34,35,36,37,38,39,40,41,42,43,44,7,45,46,47,48,8] (fun g=> [(7,vi g.l2.flatten.length),(8,vi (2*k+g.l2.flatten.length:Nat))]) (fun g=> [(rb,k5_ rest (g.l2.flatten++ (g.ls.flatten++r)))]) (fun g=>Blks (2*k) g.l2∧Blks k g.ls∧StE d (g.l2.flatten++ (g.ls.flatten++r))∧g.l2.flatten.length+ (g.ls.flatten.length+r.length)=n) (fun g=>g.ls.length) ⟨[],ls⟩ rfl rfl ?_ ?_
     ·refine⟨fun x hx=> ?_,h1,h4,by show 0+ (ls.flatten.length+r.length)=n;omega⟩
      exact absurd hx (by simp)
     ·clear h1 h4 h5
      intro g j hg
      refine kv ?_
      obtain⟨l2,ls⟩:=g
      obtain⟨g1,g2,g3,g4⟩:=hg
      dsimp only at g1 g2 g3 g4 ⊢
      by_cases hb:2*k+l2.flatten.length≤n
      ·have hls: ∃x y t,ls=x::y::t:=by
        cases ls with
        |nil=>rw[List.flatten_nil,List.length_nil] at g4;omega
        |cons x t=>
         have hx:=(g2 x List.mem_cons_self).1
         cases t with
         |nil=>rw[List.flatten_cons,List.flatten_nil,List.append_nil] at g4;omega
         |cons y t=>exact⟨x,y,t,rfl⟩
       obtain⟨x,y,t,rfl⟩:=hls
       have hx:=g2 x List.mem_cons_self
       have hy:=g2 y (by simp)
       have ht:Blks k t:=fun u hu=>g2 u (by simp[hu])
       rw[List.flatten_cons,List.flatten_cons] at g3 g4
       simp only[List.length_append,List.append_assoc] at g3 g4
       have e2: (x::y::t).flatten++r=x++ (y++ (t.flatten++r)):=by simp
       rw[e2]
       have e3: (l2.flatten.length:Int)+ (k:Int)=((l2.flatten.length+k:Nat):Int):=by omega
       first|with_reducible refine ks [] @e3 ?_|refine kp @e3 ?_
       refine Ow.callE rfl rfl Tryz.call261 (by simp[keys]) (fun w' hw'=>ZI_ (2*k) rb n c l2.flatten x y (t.flatten++r) rest l2.flatten.length (l2.flatten.length+k) (2*k+l2.flatten.length) w' rfl (by omega) (by omega) (by rw[List.length_append];omega) hs hx.2 hy.2 (by omega) (by omega) (by omega) (hw'.has _ _ List.mem_cons_self)) (fun v1 o1 hS1=> ?_)
       obtain⟨rfl,Z,rfl,z1,z2,z3⟩:=hS1
       have e4: ((2*k+l2.flatten.length:Nat):Int)+ ((2*k:Nat):Int)=((2*k+ (l2.flatten.length+2*k):Nat):Int):=by omega
       refine ko (And.intro @e1 @e4) ?_
       have e5: (l2++ [Z]).flatten=l2.flatten++Z:=by simp
       have e6: (l2.flatten++Z).length=2*k+l2.flatten.length:=by rw[List.length_append];omega
       refine Again.mk ⟨l2++ [Z],t⟩ (by show t.length< (x::y::t).length;simp only[List.length_cons];omega) ⟨g1.snoc (by omega) z2,ht, ?_, ?_⟩ ?_ ?_
       ·show StE d ((l2++ [Z]).flatten++ (t.flatten++r))
        rw[e5,List.append_assoc]
        refine g3.trans (StP.St.app (StP.St.refl _ _) ?_)
        rw[←List.append_assoc]
        exact StP.St.app z3 (StP.St.refl _ _)
       ·show(l2++ [Z]).flatten.length+ (t.flatten.length+r.length)=n
        rw[e5,e6];omega
       ·rw[e5,List.append_assoc]
       ·dsimp only
        rw[e5,e6,show l2.flatten.length+2*k=2*k+l2.flatten.length by omega]
        rfl
      ·have e7: (k:Int)*2=((2*k:Nat):Int):=by omega
       have e3: (l2.flatten.length:Int)+ (k:Int)=((l2.flatten.length+k:Nat):Int):=by omega
       have hls:ls= []∨ ∃x,ls= [x]:=by
        cases ls with
        |nil=>exact .inl rfl
        |cons x t=>
         have hx:=(g2 x List.mem_cons_self).1
         cases t with
         |nil=>exact .inr ⟨x,rfl⟩
         |cons y t=>
          have hy:=(g2 y (by simp)).1
          rw[List.flatten_cons,List.flatten_cons,List.length_append,List.length_append] at g4
          omega
       have fin: ∀r',(ls.flatten++r).length=r'.length→StE (ls.flatten++r) r'→StE d (l2.flatten++r')∧l2.flatten.length+r'.length=n:=by
        intro r' hl ht'
        rw[List.length_append] at hl
        exact⟨g3.trans (StP.St.app (StP.St.refl _ _) ht'),by omega⟩
       rcases hls with rfl| ⟨x,rfl⟩
       ·rw[List.flatten_nil,List.length_nil] at g4
        first|with_reducible refine ks [] @Nat.add_zero ?_|refine kp @Nat.add_zero ?_
        first|with_reducible refine ks [] (And.intro @e3 @e7) ?_|refine kp (And.intro @e3 @e7) ?_
        obtain⟨w1,w2⟩:=fin r rfl (StP.St.refl _ _)
        refine Again.mk ⟨2*k,l2,r⟩ (by show n - 2*k<n - k;omega) ⟨by show 0<2*k;omega,g1,h2,by show r.length<2*k;omega,w1,w2⟩ rfl rfl
       ·have hx:=g2 x List.mem_cons_self
        rw[List.flatten_cons,List.flatten_nil,List.append_nil] at g4 fin
        rw[List.flatten_cons,List.flatten_nil,List.append_nil]
        by_cases hr:r.length=0
        ·obtain rfl:r= []:=List.eq_nil_of_length_eq_zero hr
         first|with_reducible refine ks [] @Nat.add_zero ?_|refine kp @Nat.add_zero ?_
         first|with_reducible refine ks [] (And.intro @e3 @e7) ?_|refine kp (And.intro @e3 @e7) ?_
         obtain⟨w1,w2⟩:=fin x (by rw[List.append_nil]) (by rw[List.append_nil];exact StP.St.refl _ _)
         refine Again.mk ⟨2*k,l2,x⟩ (by show n - 2*k<n - k;omega) ⟨by show 0<2*k;omega,g1,hx.2,by show x.length<2*k;omega,w1,w2⟩ ?_ rfl
         rw[List.append_nil]
        ·have e8:x++r=x++ (r++ []):=by rw[List.append_nil]
         rw[e8]
         first|with_reducible refine ks [] @Nat.add_zero ?_|refine kp @Nat.add_zero ?_
         first|with_reducible refine ks [] (And.intro @e3 @e7) ?_|refine kp (And.intro @e3 @e7) ?_
         refine Ow.callE rfl rfl Tryz.call261 (by simp[keys]) (fun w' hw'=>ZI_ (2*k) rb n c l2.flatten x r [] rest l2.flatten.length (l2.flatten.length+k) n w' rfl (by omega) (by omega) (by simp) hs hx.2 h2 (by omega) (by omega) (by omega) (hw'.has _ _ List.mem_cons_self)) (fun v1 o1 hS1=> ?_)
         obtain⟨rfl,Z,rfl,z1,z2,z3⟩:=hS1
         rw[show Z++ []=Z from List.append_nil Z]
         refine ko @e7 ?_
         obtain⟨w1,w2⟩:=fin Z (by rw[List.length_append];omega) z3
         refine Again.mk ⟨2*k,l2,Z⟩ (by show n - 2*k<n - k;omega) ⟨by show 0<2*k;omega,g1,z2,by show Z.length<2*k;omega,w1,w2⟩ rfl rfl
    ·first|with_reducible refine ks [] @Nat.add_zero ?_|refine kp @Nat.add_zero ?_
     have hZ:qN_ (ls.flatten++r):=by
      cases ls with
      |nil=>exact h2
      |cons x ls=>
       have hx:=h1 x List.mem_cons_self
       rw[List.flatten_cons,List.length_append] at h5
       obtain rfl:r= []:=List.eq_nil_of_length_eq_zero (by omega)
       cases ls with
       |nil=>simpa using hx.2
       |cons y ls=>
        have hy:=h1 y (by simp)
        rw[List.flatten_cons,List.length_append] at h5
        omega
     have hZl: (ls.flatten++r).length=d.length:=by rw[List.length_append];omega
     refine⟨_,_,_,(ke @Nat.add_zero),rfl,trivial, ?_⟩
     exact⟨rfl,_,rfl,hZl,hZ,h4⟩
end Go.Proofs
end
section
open Go Go.Proofs Go.Sx Go.StP
namespace Go.Proofs
set_option maxRecDepth 10000
set_option maxHeartbeats 4000000
set_option linter.unusedSimpArgs false
abbrev EntS (w:World) (v:Value) (l:List EntL):Prop:=SlV 34 zR_ ent0 w v l
theorem aaV_ (v:Value) (w:World) (hv:Value.oneCell' v=true∧v.cells= #[v]):
  Rets Tryz.prog 120 #[v] w (fun v' D=> ∃b1,w.heap.size≤b1∧v'= .func (.func 189) #[] #[vp b1 0]∧D= [(b1, .cells #[v] 122 (0,0))]):=by
 refine Rets.enter Tryz.func120 rfl (rs:= [.tmp 2]) Tryz.results120 Tryz.ntmps120 ?_
 refine kf ?_
 first|with_reducible refine ks [] @Nat.add_zero ?_|refine kp @Nat.add_zero ?_
 refine Ow.box rfl rfl fun b1 hb1 hw1=> ?_
 simp only[zW_,zT_,hv.2,List.nil_append]
 refine ko @Nat.add_zero ?_
 refine⟨_,(ke @Nat.add_zero), ?_⟩
 exact⟨b1,hw1,by simp[kC_,ev,vC_],rfl⟩
theorem k9_ (w0:World) {L:zi_} {b:Nat} {o:Obj} (h:ju_ L b):zv_ w0 (L++ [(b,o)]) b=some o:=zg_ (j6_ h)
structure ValG where
 k:Nat
 X:zi_
set_option linter.defProp false
def XC_:=And.intro (And.intro (@xw_) (@xZ_)) (And.intro (@jm_) (And.intro (@qk_) (@qh_)))
theorem acL_ (b1:Nat) (v:Value) (ls:List EntL) (w:World) (hv:EntS w v ls) (hb:w.heap[b1]? =some (.cells #[v] 122 (0,0))) (hls:ls.length<1000000):
  aiR_ Tryz.prog 189 #[vp b1 0] (fun x=> .agg (zR_ x).toArray) ls w:=by
 intro l J w1 X hold hX hsz hp hJ0 hJm hY
 have hb1:=(Array.getElem?_eq_some_iff.1 hb).1
 obtain⟨b,off,arr,E,fz,hr⟩:=hv.row
 have rd: ∀X',Ext w1 X X'→ ∀c,c<w.heap.size→zv_ w1 X' c=w.heap[c]? :=fun X' hE c hc=>by
  rw[qD_ (hE.not (Nat.lt_of_lt_of_le hc hsz) (fun hm=>by have:=hX c hm;omega)),hold c hc]
 have r1:zv_ w1 X b1=some (.cells #[v] 122 (0,0)):=by rw[rd X (Ext.refl _ _) b1 hb1,hb]
 have ld1:zA_ (some (false,1)) (some (.cells #[v] 122 (0,0))) 0=some v:=rfl
 have ln:=hv.len
 show Rets Tryz.prog _ #[.func (.yield l) #[] #[],vp b1 0] w1 (XS w1 X (fun _ D=>J ls D))
 refine Rets.enterX Tryz.func189 rfl (rs:= []) Tryz.results189 Tryz.ntmps189 (fun p hp'=>hp.has _ _ hp') hp.nodup ?_
 refine kf ?_
 first|with_reducible refine ks [] (And.intro @XC_ (And.intro @r1 (And.intro @ld1 (@ln)))) ?_|refine kp (And.intro @XC_ (And.intro @r1 (And.intro @ld1 (@ln)))) ?_
 refine Cw.loopG (G:=ValG) [8,9,10,4,11,12,13,14,15,7] (fun g=> [(7,vi g.k)]) (fun g=>g.X) (fun g=>g.k≤ls.length∧J (ls.take g.k) g.X∧Ext w1 X g.X) (fun g=>ls.length - g.k) ⟨0,X⟩ rfl rfl ?_ ?_
 ·exact⟨Nat.zero_le _,hJ0,Ext.refl _ _⟩
 ·intro g j hg
  refine kv ?_
  obtain⟨k,X'⟩:=g
  obtain⟨h1,h2,h3⟩:=hg
  dsimp only at h1 h2 h3 ⊢
  by_cases hk:k<ls.length
  ·have hbl:=hr.lt (Nat.lt_of_le_of_lt (Nat.zero_le _) hk)
   have r2:zv_ w1 X' b=some (.cells arr E fz):=by rw[rd X' h3 b hbl,hr.has (Nat.lt_of_le_of_lt (Nat.zero_le _) hk)]
   have i2:=hr.idx true k hk
   have l2:=aig_ hr hk
   first|with_reducible refine ks [3] (And.intro @XC_ (And.intro @r2 (And.intro @i2 (@l2)))) ?_|refine kp (And.intro @XC_ (And.intro @r2 (And.intro @i2 (@l2)))) ?_
   refine Ow.alloc rfl rfl vM_ fun b4 hb4 hw4=> ?_
   simp only[ze_,List.nil_append,List.cons_append]
   have k4:=fun o=>j6_ (o:=o) hb4
   have s4:=fun o x=>wh_ (o:=o) (x:=x) hb4
   have rd4:=fun o=>k9_ w1 (o:=o) hb4
   refine ko (And.intro @XC_ (And.intro @k4 (@s4))) ?_
   refine Cw.regionI ?_
   show OwI _ _ _ _ ([_,_]++ [_,_]) _ _ _
   refine OwI.pre rfl ?_
   refine ko (And.intro @XC_ @rd4) ?_
   refine OwI.yieldX (S:=fun D=>J (ls.take k++ [ls.getD k ent0]) D) (X:=X') (Y:= [(b4, .cells (zR_ (ls.getD k ent0)).toArray 117 (0,0))]) rfl rfl rfl (fun w2 hw2=> ?_) (fun D hC hJ=> ?_)
   ·exact hY (ls.take k) (ls.getD k ent0) (ls.drop (k+1)) X' w2 (by rw[←drop_cons hk,List.take_append_drop]) hw2 (fun c hc=>by
     rcases h3.new c hc with h|h
     ·exact hX c h
     ·omega) h2
   ·refine OwI.all rfl ?_
    refine ko @XC_ ?_
    refine Again.mk ⟨k+1,D++ [(b4, .cells (zR_ (ls.getD k ent0)).toArray 117 (0,0))]⟩ (by show ls.length - (k+1)<ls.length - k;omega) ⟨hk, ?_, ?_⟩ rfl rfl
    ·show J (ls.take (k+1)) _
     rw[take_snoc (z:=ent0) hk]
     exact hJm _ _ _ hJ
    ·show Ext w1 X (D++_)
     exact(Ext.came0 h3 hC).app hw4
  ·obtain rfl:k=ls.length:=by omega
   first|with_reducible refine ks [] @XC_ ?_|refine kp @XC_ ?_
   refine⟨_,(ke @XC_), ?_⟩
   rw[List.take_length] at h2
   exact⟨h3,h2⟩
end Go.Proofs
end
section
open Go Go.Proofs Go.Sx Go.StP
namespace Go.Proofs
set_option maxRecDepth 10000
set_option maxHeartbeats 4000000
set_option linter.unusedSimpArgs false
set_option linter.defProp false
def XO_:=And.intro (And.intro (@xw_) (@xZ_)) (And.intro (@jm_) (And.intro (@qk_) (@qh_)))
theorem XD_ (gf:Nat) (lb:Array Value) (xs:List EntL) (w:World) (eg: ∀args w,(callFunc gf args).run Tryz.prog w= .ok (.enter gf args) w) (hxs:xs.length<1000000)
  (hseq:aiR_ Tryz.prog gf lb (fun x=> .agg (zR_ x).toArray) xs w):
  Rets Tryz.prog 228 #[.slice none 0 0, .func (.func gf) #[] lb] w (XS w [] (fun v D=>Gr D 117 34 v xs.length (xs.map zR_).flatten)):=by
 refine Rets.enterR Tryz.func228 rfl (rs:= [.tmp 4]) Tryz.results228 Tryz.ntmps228 ?_
 simp only[List.size_toArray,List.length_cons,List.length_nil,Nat.reduceAdd,Nat.reduceSub,List.replicate_succ,List.replicate_zero,List.cons_append,List.nil_append]
 refine KS_ (Hp.refl w) ?_
 first|with_reducible refine ks [] @XO_ ?_|refine kp @XO_ ?_
 refine Ow.box rfl rfl fun bs hbs hws=> ?_
 simp only[zW_,zT_,List.nil_append]
 refine ko @XO_ ?_
 refine⟨rfl,fun w1 hp1=> ?_⟩
 refine wp_seq ?_
 refine KS_ hp1 ?_
 first|with_reducible refine ks [] @XO_ ?_|refine kp @XO_ ?_
 refine⟨rfl,fun w2 hp2=> ?_⟩
 refine wp_block ?_
 refine aan_ (S:=fun dk D=>Sx.look D dk=some (.deferred (some []))∧ ∃v,Sx.look D bs=some (.cells #[v] 122 (0,0))∧Gr D 117 34 v xs.length (xs.map zR_).flatten) hp2 rfl eg (fun fn dk w3 rc hrc hab hdk hp3=> ?_) (fun dk fn D w3 rc hrc hab hdk hS hE hp3=> ?_)
 ·have hne:bs≠dk:=by
   have:=zf_ hab (show bs∈keys [(bs,_)] by simp[keys]);omega
  have hne1:bs≠dk+1:=by
   have:=zf_ hab (show bs∈keys [(bs,_)] by simp[keys]);omega
  refine Rets.mono (hseq (dk+1) (fun pre X=>Sx.look X (dk+1)=some (.loop rc)∧Sx.look X dk=some (.deferred (some []))∧ ∃v,Sx.look X bs=some (.cells #[v] 122 (0,0))∧Gr X 117 34 v pre.length (pre.map zR_).flatten) w3 _ (fun b hb=> ?_) (fun b hb=> ?_) ?_ (by have:=Hp.part (Y:= []) (by simpa using hp3);simpa using this) ?_ ?_ ?_) ?_
  ·refine hp3.old b hb (fun hm=> ?_)
   simp[keys] at hm;omega
  ·simp[keys] at hb;omega
  ·exact hp3.size
  ·refine⟨?_, ?_,_, ?_,Gr.nl⟩
   ·simp[Sx.look,hne1]
   ·simp[Sx.look,hne]
   ·simp[Sx.look];rfl
  ·rintro pre X Y ⟨q1,q2,v,q3,q4⟩
   exact⟨zp_ q1,zp_ q2,v,zp_ q3,q4.app⟩
  ·rintro pre x post X2 w4 hx hp4 hX2 ⟨q1,q2,v,q3,q4⟩
   refine YieldAt.of (S:=fun D=>Ext w4 X2 D∧_) hp4 q1 (by rw[hrc];rfl) (by rw[hrc];rfl) (by rw[hrc];rfl) ?_
   have hlen:=congrArg List.length hx
   rw[List.length_append,List.length_cons] at hlen
   have n1:slB v≠some bs:=q4.ne q3 (fun a e=>by cases e)
   have n2:slB v≠some dk:=q4.ne q2 (fun a e=>by cases e)
   have n3:slB v≠some (dk+1):=q4.ne q1 (fun a e=>by cases e)
   have hrc':=hrc
   unfold recR at hrc'
   rw[hrc'] at q1 ⊢
   dsimp only
   rw[am2_]
   show CwR _ _ _ (Code.region _ (List.toArray _) false) [.slice none 0 0, .func (.func gf) #[] lb,vp bs 0,undef, .slice none 0 0,undef, .func (.func gf) #[] lb, .agg (zR_ x).toArray,undef,undef,undef,undef,undef] X2 _
   refine CwR.region rfl ?_
   refine Ow.alloc rfl rfl vM_ fun b5 hb5 hw5=> ?_
   simp only[ze_,List.nil_append,List.cons_append]
   have k5:=fun o=>j6_ (o:=o) hb5
   have s5:=fun o x=>wh_ (o:=o) (x:=x) hb5
   refine ko (And.intro @XO_ (And.intro @k5 (@s5))) ?_
   refine⟨trivial,zp_ q1, ?_⟩
   refine CwR.block (CwR.region rfl ?_)
   generalize hBZ:Loop.mk .busy _ _ _ _ _ _ _=BZ
   have hk5:dk+1<b5:=zf_ hb5 (zn_ q1)
   have hk5':dk<b5:=zf_ hb5 (zn_ q2)
   have hs5:bs<b5:=zf_ hb5 (zn_ q3)
   have l1:Sx.look (setB (X2++ [(b5,Obj.cells (zR_ x).toArray 117 (0,0))]) (dk+1) (.loop BZ)) (dk+1)=some (.loop BZ):=qy_ (zp_ q1)
   have l2:Sx.look (setB (X2++ [(b5,Obj.cells (zR_ x).toArray 117 (0,0))]) (dk+1) (.loop BZ)) dk=some (.deferred (some [])):=by rw[zB_ (by omega)];exact zp_ q2
   have l3:Sx.look (setB (X2++ [(b5,Obj.cells (zR_ x).toArray 117 (0,0))]) (dk+1) (.loop BZ)) bs=some (.cells #[v] 122 (0,0)):=by rw[zB_ (by omega)];exact zp_ q3
   have l4:Sx.look (setB (X2++ [(b5,Obj.cells (zR_ x).toArray 117 (0,0))]) (dk+1) (.loop BZ)) b5=some (.cells (zR_ x).toArray 117 (0,0)):=by rw[zB_ (by omega)];exact j6_ hb5
   have lg:Gr (setB (X2++ [(b5,Obj.cells (zR_ x).toArray 117 (0,0))]) (dk+1) (.loop BZ)) 117 34 v pre.length (pre.map zR_).flatten:=(q4.app (M:= [(b5,Obj.cells (zR_ x).toArray 117 (0,0))])).setB n3 _
   have le:Ext w4 X2 (setB (X2++ [(b5,Obj.cells (zR_ x).toArray 117 (0,0))]) (dk+1) (.loop BZ)):=((Ext.refl w4 X2).app hw5).setB
   generalize setB (X2++ [(b5,Obj.cells (zR_ x).toArray 117 (0,0))]) (dk+1) (.loop BZ)=L1 at*
   have rbs:=zg_ (w0:=w4) l3
   have rb5:=zg_ (w0:=w4) l4
   have ld1:zA_ (some (false,1)) (some (.cells #[v] 122 (0,0))) 0=some v:=rfl
   refine ko (And.intro @XO_ (And.intro @rbs (And.intro @rb5 (@ld1)))) ?_
   refine Ow.buildSlice (e:=117) (zR_ x).toArray rfl rfl (qu_ Tryz.underlying122 Jr_ vM_ (by decide) (zZ_ x)) fun b6 hb6 hw6=> ?_
   refine ko @XO_ ?_
   refine Ow.appendG (e:=117) (k:=1) (new:=zR_ x) v rfl rfl rfl Tryz.underlying122 Jr_ (by kernel_rfl) vM_ (by rw[qh_,List.size_toArray,zZ_]) Tryz.underlying122 (by intro k h;cases h) lg.app (fun w' hw'=>AppX.one1 (hw'.has _ _ (List.mem_append_right _ List.mem_cons_self)) (zZ_ x) (Zl_ x)) (by show(zR_ x).length=1*34;rw[zZ_]) (by omega) (fun v2 L2 hB hB2 hG hS=> ?_)
   have g1:=hG.look _ _ n3 (zp_ l1)
   have g2:=hG.look _ _ n2 (zp_ l2)
   have g3:=hG.look _ _ n1 (zp_ l3)
   have c2:=hB.cell
   have st:zs_ (some (false,1)) (some (.cells #[v] 122 (0,0))) 0 v2=some (.cells #[v2] 122 (0,0)):=by simp[zs_,c2,xA_]
   have m2:slB v2≠some bs:=hB.ne g3 (fun a e=>by cases e)
   refine ko (And.intro @XO_ (And.intro @g3 (And.intro @st (@wD_)))) ?_
   refine⟨rfl, ?_, ?_, ?_, ?_,v2, ?_, ?_⟩
   ·rw[zB_ (by omega)];exact g1
   ·exact((le.app (o:= .cells (zR_ x).toArray 117 (0,0)) hw6).grew hG).setB.setB
   ·exact qy_ (by rw[zB_ (by omega)];exact g1)
   ·rw[zB_ (by omega),zB_ (by omega)];exact g2
   ·rw[zB_ (by omega)];exact qy_ g3
   ·rw[List.length_append,List.map_append,List.flatten_append]
    have e1: ([x].map zR_).flatten=zR_ x:=by simp
    rw[e1]
    exact(hB.setB m2 _).setB (hB.ne g1 (fun a e=>by cases e)) _
  ·rintro v D ⟨hE,q1,q2⟩
   exact⟨hE,q1,q2⟩
 ·obtain⟨hS1,v,hS2,hS3⟩:=hS
  show Code.wp _ (Code.seq _ _) _ _ _
  have hne:dk+1≠bs:=by
   have:=zf_ hab (show bs∈keys [(bs,_)] by simp[keys]);omega
  have r1:=fun o=>(jY_ (w0:=w) (L:=D) (x:=o) hne).trans (zg_ hS2)
  have ld1:zA_ (some (false,1)) (some (.cells #[v] 122 (0,0))) 0=some v:=rfl
  refine wp_mono (CwE.seq (ds:= [{target:= .collected dk,args:= #[]}]) (K:=fun e f' L'=>e= .ret∧L'=setB D (dk+1) _∧vC_ f' 4=v) (CwE.region (f':= [.slice none 0 0, .func (.func gf) #[] lb,vp bs 0,undef,v,undef, .func (.func gf) #[] lb,undef,undef,undef,undef,undef,v]) ?_ (CwE.ret ⟨rfl,rfl,rfl⟩)) w3 hp3) ?_
  ·simp(disch:=(first|assumption|omega| (simp only[qF_,qC_,UInt64.reduceToNat];try omega))) only[↓Sx.S0,Sx.S1,Tryz.fx,XO_,Nat.reduceAdd,Nat.reducePow,Int.reducePow,Nat.reduceBEq, ↓reduceIte,UInt8.reduceToNat,UInt16.reduceToNat,UInt32.reduceToNat,UInt64.reduceToNat,Int.reduceToNat,evVs,x7_,r1,ld1]
  ·rintro e a w5 ⟨hd,L,hp5,rfl,rfl,hv⟩
   refine⟨.inr rfl,dk,hd,_,hp5, ?_,[v], ?_, ?_, ?_⟩
   ·rw[zB_ (by omega)];exact hS1
   ·rw[wc_,w5_,QW_,hv];rfl
   ·refine⟨fun c hc=> ?_,fun c hc=>by cases hc⟩
    rw[qP_,qP_] at hc
    rcases hE.new c hc with h|h
    ·simp[keys] at h;exact .inr (by omega)
    ·exact .inr h
   ·exact(hS3.setB (hS3.ne hrc (fun a e=>by cases e)) _).setB (hS3.ne hS1 (fun a e=>by cases e)) _
end Go.Proofs
end
section
open Go Go.Proofs Go.Sx Go.StP
namespace Go.Proofs
set_option maxRecDepth 10000
set_option maxHeartbeats 4000000
set_option linter.unusedSimpArgs false
theorem WM_ (gf:Nat) (lb:Array Value) (xs:List EntL) (w:World) (eg: ∀args w,(callFunc gf args).run Tryz.prog w= .ok (.enter gf args) w) (hxs:xs.length<1000000)
  (hseq: ∀w',Hp w [] w'→aiR_ Tryz.prog gf lb (fun x=> .agg (zR_ x).toArray) xs w'):
  Rets Tryz.prog 187 #[.func (.func gf) #[] lb] w (XS w [] (fun v D=>Gr D 117 34 v xs.length (xs.map zR_).flatten)):=by
 refine Rets.enterX Tryz.func187 rfl (rs:= [.tmp 2]) Tryz.results187 Tryz.ntmps187 (fun p hp=>by cases hp) (by simp[keys]) ?_
 refine kf ?_
 first|with_reducible refine ks [] @Nat.add_zero ?_|refine kp @Nat.add_zero ?_
 refine Ow.callC rfl rfl Tryz.call228 (fun w' hw'=>XD_ gf lb xs w' eg hxs (hseq w' hw')) (fun B v D hA hB hN hS=> ?_)
 refine ko @Nat.add_zero ?_
 refine⟨_,(ke @Nat.add_zero), ?_⟩
 exact⟨Ext.of_new (New.mono hB hN),hS⟩
theorem Vn_ (w:World):Rets Tryz.prog 260 #[.slice none 0 0,vi 0,vi 0,Z0_] w (fun v D=>v= .tuple #[]∧D= []):=by
 refine Rets.enterV Tryz.func260 rfl (rs:= []) Tryz.results260 Tryz.ntmps260 ?_
 refine kf ?_
 first|with_reducible refine ks [] @Nat.add_zero ?_|refine kp @Nat.add_zero ?_
 refine Cw.loopG (G:=Unit) [12,13,14,17,9,18,19,20,21,22,23,24,25,26,27,28,29,30,31,32,33,34,37,38,39,40,41,42,43,44,45,46,47,48,49,50,51,52,35,36,15,16,8] (fun g=> [(8,vi 1)]) (fun g=> []) (fun g=>True) (fun g=>0) () rfl rfl ?_ ?_
 ·trivial
 ·intro g j hg
  refine kv ?_
  first|with_reducible refine ks [] @Nat.add_zero ?_|refine kp @Nat.add_zero ?_
  refine⟨_,(ke @Nat.add_zero),trivial, ?_⟩
  rfl
theorem aek_ (w:World):Rets Tryz.prog 229 #[.slice none 0 0,vi 0,Z0_] w (fun v D=>v= .tuple #[]∧D= []):=by
 refine Rets.enterV Tryz.func229 rfl (rs:= []) Tryz.results229 Tryz.ntmps229 ?_
 refine kf ?_
 first|with_reducible refine ks [] @Nat.add_zero ?_|refine kp @Nat.add_zero ?_
 refine Cw.loopG (G:=Unit) [11,12,13,14,15,16,17,18,19,7,20,21,22,8] (fun g=> [(7,vi 0),(8,vi 20)]) (fun g=> []) (fun g=>True) (fun g=>0) () rfl rfl ?_ ?_
 ·trivial
 ·intro g j hg
  refine kv ?_
  first|with_reducible refine ks [] @Nat.add_zero ?_|refine kp @Nat.add_zero ?_
  refine Ow.callFV rfl Tryz.call260 (fun w' hw'=>Vn_ w') ?_
  refine ko @Nat.add_zero ?_
  refine Cw.loopG (G:=Unit) [28,29,30,31,32,7,8,33,34,35,36,37,38,39,40,41,42,43,44,45,46,47,48,49,50,51,9,52,53,54,55,56,57,58,59,60,61,62,6] (fun g=> [(6,vi 20)]) (fun g=> []) (fun g=>True) (fun g=>0) () rfl rfl ?_ ?_
  ·trivial
  ·intro u ju hu
   refine kv ?_
   first|with_reducible refine ks [] @Nat.add_zero ?_|refine kp @Nat.add_zero ?_
   refine⟨_,(ke @Nat.add_zero),trivial, ?_⟩
   rfl
theorem Xu_ (w:World):Rets Tryz.prog 188 #[.slice none 0 0,Z0_] w (fun v D=>v= .tuple #[]∧D= []):=by
 refine Rets.enterV Tryz.func188 rfl (rs:= []) Tryz.results188 Tryz.ntmps188 ?_
 refine kf ?_
 first|with_reducible refine ks [] @ahq_ ?_|refine kp @ahq_ ?_
 refine Ow.callFV rfl Tryz.call229 (fun w' hw'=>aek_ w') ?_
 refine ko @Nat.add_zero ?_
 refine⟨_,(ke @Nat.add_zero),trivial, ?_⟩
 rfl
theorem v0_ (rb n c:Nat) (d:List EntL) (rest:List Value) (w:World) (hn:n=d.length) (hs:n<1000000) (ho:w.heap[rb]? =some (k5_ rest d)):
  Rets Tryz.prog 188 #[vsl rb 0 n c,Z0_] w (fun v D=> ∃o,D= [(rb,o)]∧v= .tuple #[]∧ ∃Z,o=k5_ rest Z∧Z.length=d.length∧qN_ Z∧StE d Z):=by
 refine Rets.enterM Tryz.func188 rfl (rs:= []) Tryz.results188 Tryz.ntmps188 ho ?_
 refine kf ?_
 first|with_reducible refine ks [] @Nat.add_zero ?_|refine kp @Nat.add_zero ?_
 refine Ow.callE rfl rfl Tryz.call229 (by simp[keys]) (fun w' hw'=>abU_ rb n c d rest w' hn hs (hw'.has _ _ List.mem_cons_self)) (fun v1 o1 hS1=> ?_)
 obtain⟨rfl,Z,rfl,z1,z2,z3⟩:=hS1
 refine ko @Nat.add_zero ?_
 refine⟨_,_,_,(ke @Nat.add_zero),rfl,trivial, ?_⟩
 exact⟨rfl,Z,rfl,z1,z2,z3⟩
def SortOf (l Z:List EntL):Prop:=Z.length=l.length∧qN_ Z∧StE l Z
theorem SortOf.eq {l Z Z':List EntL} (h:SortOf l Z) (h':SortOf l Z'):Z=Z':=StP.St.eq h.2.1 h'.2.1 (h.2.2.symm.trans h'.2.2)
theorem acy_ (gf:Nat) (lb:Array Value) (xs:List EntL) (w:World) (eg: ∀args w,(callFunc gf args).run Tryz.prog w= .ok (.enter gf args) w) (hxs:xs.length<1000000)
  (hseq: ∀w',Hp w [] w'→aiR_ Tryz.prog gf lb (fun x=> .agg (zR_ x).toArray) xs w'):
  Rets Tryz.prog 119 #[.func (.func gf) #[] lb,Z0_] w (XS w [] (fun v D=> ∃Z,SortOf xs Z∧Gr D 117 34 v xs.length (Z.map zR_).flatten)):=by
 refine Rets.enterX Tryz.func119 rfl (rs:= [.tmp 4]) Tryz.results119 Tryz.ntmps119 (fun p hp=>by cases hp) (by simp[keys]) ?_
 refine kf ?_
 first|with_reducible refine ks [] @Nat.add_zero ?_|refine kp @Nat.add_zero ?_
 refine Ow.callC rfl rfl Tryz.call187 (fun w' hw'=>WM_ gf lb xs w' eg hxs (fun w2 h2=>hseq w2 (hw'.trans_nil h2))) (fun B v D hA hB hN hS=> ?_)
 rw[List.nil_append]
 refine ko @Nat.add_zero ?_
 have main: ∀rb c rest,v=vsl rb 0 xs.length c→Sx.look D rb=some (k5_ rest xs)→True:=fun _ _ _ _ _=>trivial
 have hE:=Ext.of_new (New.mono hB hN)
 rcases hS with hS| ⟨h0,h1,rb,rfl,hl⟩
 ·rcases hS.inv with⟨rfl,h0,h1⟩ | ⟨rb,c,rest,rfl,hl,-,hc,hc0,hr⟩
  ·obtain rfl:xs= []:=List.eq_nil_of_length_eq_zero h0
   refine Ow.callFV rfl Tryz.call188 (fun w' hw'=>Xu_ w') ?_
   refine ko @Nat.add_zero ?_
   refine⟨_,(ke @Nat.add_zero), ?_⟩
   exact⟨hE,[],⟨rfl,List.Pairwise.nil,StP.St.refl _ _⟩,Gr.nl⟩
  ·refine Ow.callE rfl rfl Tryz.call188 (zn_ hl) (fun w' hw'=>v0_ rb xs.length c xs rest w' rfl hxs (hw'.has _ _ (zF_ hl))) (fun v1 o1 hS1=> ?_)
   obtain⟨rfl,Z,rfl,z1,z2,z3⟩:=hS1
   refine ko @Nat.add_zero ?_
   refine⟨_,(ke @Nat.add_zero), ?_⟩
   refine⟨hE.setB,Z,⟨z1,z2,z3⟩, .inl ?_⟩
   rw[←z1]
   exact Buf.at_ (qy_ hl) (by rw[k8_ zZ_]) (by rw[z1];exact hr) (by omega) hc0
 ·obtain rfl:xs= []:=List.eq_nil_of_length_eq_zero h0
  refine Ow.callE rfl rfl Tryz.call188 (zn_ hl) (fun w' hw'=>v0_ rb 0 0 [] [] w' rfl (by omega) (hw'.has _ _ (zF_ hl))) (fun v1 o1 hS1=> ?_)
  obtain⟨rfl,Z,rfl,z1,z2,z3⟩:=hS1
  obtain rfl:Z= []:=List.eq_nil_of_length_eq_zero z1
  refine ko @Nat.add_zero ?_
  refine⟨_,(ke @Nat.add_zero), ?_⟩
  exact⟨hE.setB,[],⟨rfl,List.Pairwise.nil,StP.St.refl _ _⟩, .inr ⟨rfl,rfl,rb,rfl,qy_ hl⟩⟩
end Go.Proofs
end
section
open Go Go.Proofs Go.Sx
namespace Go.Proofs
set_option maxRecDepth 10000
set_option maxHeartbeats 4000000
set_option linter.unusedSimpArgs false
def badR (c:Int):Bool:=decide (c<33) ||decide (126<c) || (c==47)
def QO_ (b:UInt8):Bool:=decide (b.toNat<33) ||decide (126<b.toNat) || (b.toNat==47)
theorem eqb (a b:Bool):q9_ Tryz.prog .eql 4 (.bool a) (.bool b)=some (.bool (a==b)):=by
 simp[q9_,eqX,qX_,jr_,Tryz.underlying4]
theorem akw_ (a:Value): (#[a]:Array Value)[0]? =some a:=(rfl)
set_option linter.defProp false
def qi_:=And.intro (And.intro (And.intro (@zJ_) (And.intro (@Q3_) (@QZ_))) (And.intro (And.intro (@QR_) (@zI_)) (And.intro (@ajn_) (@abD_)))) (And.intro (And.intro (And.intro (@acl_) (@abo_)) (And.intro (@als_) (@akw_))) (And.intro (And.intro (@Sx.tup3_0) (@Sx.tup3_1)) (And.intro (@Sx.tup3_2) (@eqb))))
theorem Wq_ (c:Int) (w:World):Rets Tryz.prog 231 #[Kf_ c] w (fun v D=>v= .bool (badR c)∧D= []):=by
 refine Rets.enterV Tryz.func231 rfl (rs:= [.tmp 2]) Tryz.results231 Tryz.ntmps231 ?_
 refine kf ?_
 unfold badR
 cases h1:decide (c<33)
 ·cases h2:decide (126<c)
  ·first|with_reducible refine ks [] (And.intro @qi_ (And.intro @h1 (@h2))) ?_|refine kp (And.intro @qi_ (And.intro @h1 (@h2))) ?_
   refine⟨_,(ke @qi_),trivial, ?_⟩
   simp[kC_]
  ·first|with_reducible refine ks [] (And.intro @qi_ (And.intro @h1 (@h2))) ?_|refine kp (And.intro @qi_ (And.intro @h1 (@h2))) ?_
   refine⟨_,(ke @qi_),trivial, ?_⟩
   simp[kC_]
 ·first|with_reducible refine ks [] (And.intro @qi_ @h1) ?_|refine kp (And.intro @qi_ @h1) ?_
  refine⟨_,(ke @qi_),trivial, ?_⟩
  simp[kC_]
theorem ajD_ (l:List UInt8) (i:Nat) (h:i<l.length):badR ((Utf8.decode ⟨l.toArray⟩ i).1:Nat)=QO_ (l.getD i 0)∧(QO_ (l.getD i 0)=false→(Utf8.decode ⟨l.toArray⟩ i).2=1):=by
 obtain⟨h0,h1,h2⟩:=abj_ l i h
 by_cases hc: (l.getD i 0).toNat<128
 ·rw[h1 hc]
  refine⟨?_,fun _=>rfl⟩
  unfold badR QO_
  congr 1
  ·congr 1
   ·apply decide_eq_decide.2;omega
   ·apply decide_eq_decide.2;omega
  ·rw[Bool.eq_iff_iff,beq_iff_eq,beq_iff_eq];omega
 ·have h2':=h2 (by omega)
  have hb:QO_ (l.getD i 0)=true:=by
   unfold QO_
   rw[decide_eq_true (show 126< (l.getD i 0).toNat by omega)];simp
  rw[hb]
  refine⟨?_,fun h=>by cases h⟩
  unfold badR
  rw[decide_eq_true (show(126:Int)< (((Utf8.decode ⟨l.toArray⟩ i).1:Nat):Int) by omega)];simp
theorem X9_ (s:List UInt8) (k:FuncId) (hk: ∀a w,(callFunc k a).run Tryz.prog w= .ok (.enter k a) w) (hc: ∀c w,Rets Tryz.prog k #[Kf_ c] w (fun v D=>v= .bool (badR c)∧D= [])) (w:World) (hs:s.length<1099511627776):
  Rets Tryz.prog 256 #[vs s, .func (.func k) #[] #[], .bool true] w (fun v D=> ∃n:Int,v=vi n∧(0≤n↔s.any QO_=true)∧D= []):=by
 refine Rets.mono (S:=fun v D=>(∃n:Int,v=vi n∧(0≤n↔s.any QO_=true))∧D= []) ?_ (by rintro v D ⟨⟨n,h1,h2⟩,h3⟩;exact⟨n,h1,h2,h3⟩)
 refine Rets.enterV Tryz.func256 rfl (rs:= [.tmp 6]) Tryz.results256 Tryz.ntmps256 ?_
 refine kf ?_
 first|with_reducible refine ks [] @qi_ ?_|refine kp @qi_ ?_
 refine Ow.rangeText rfl rfl Tryz.underlying9 rfl fun b1 hb1 hw1=> ?_
 refine ko @qi_ ?_
 first|with_reducible refine ks [] @qi_ ?_|refine kp @qi_ ?_
 refine Cw.loopG (G:=Nat) [11,12,13,14,7,8,15,16,17,18,19,20,6] (fun g=> []) (fun g=> [(b1, .stringIter ⟨s.toArray⟩ g)]) (fun g=>g≤s.length∧ ∀i,i<g→QO_ (s.getD i 0)=false) (fun g=>s.length - g) 0 rfl rfl ?_ ?_
 ·exact⟨by omega,fun i hi=>by omega⟩
 intro g j hg
 refine kv ?_
 obtain⟨hgL,hgood⟩:=hg
 by_cases hlt:g<s.length
 ·have hbr:=ajD_ s g hlt
  first|with_reducible refine ks [] @qi_ ?_|refine kp @qi_ ?_
  refine Ow.nextText rfl rfl rfl (zH_ _ _ _) hlt ?_
  rw[qt_]
  generalize hdd:Utf8.decode ⟨s.toArray⟩ g=dd at*
  obtain⟨c,n⟩:=dd
  simp only at hbr ⊢
  refine ko @qi_ ?_
  first|with_reducible refine ks [] @qi_ ?_|refine kp @qi_ ?_
  refine Ow.callFn1 (v:= .bool (badR c)) (k:=k) rfl rfl rfl hk (fun w' hw'=>hc _ w') ?_
  rw[hbr.1]
  refine ko @qi_ ?_
  cases hbb:QO_ (s.getD g 0)
  ·first|with_reducible refine ks [] @qi_ ?_|refine kp @qi_ ?_
   refine Again.mk (g+1) (by omega) ⟨by omega,fun i hi=> ?_⟩ ?_ rfl
   ·by_cases hig:i=g
    ·rw[hig];exact hbb
    ·exact hgood i (by omega)
   ·rw[hbr.2 hbb]
  ·first|with_reducible refine ks [] @qi_ ?_|refine kp @qi_ ?_
   refine⟨_,(ke @qi_),⟨hw1,trivial⟩, ?_⟩
   refine⟨(g:Int),rfl,⟨fun _=> ?_,fun _=>by omega⟩⟩
   rw[List.any_eq_true]
   refine⟨s.getD g 0, ?_,hbb⟩
   rw[List.getD_eq_getElem?_getD,List.getElem?_eq_getElem hlt]
   exact List.getElem_mem hlt
 ·obtain rfl:g=s.length:=by omega
  first|with_reducible refine ks [] @qi_ ?_|refine kp @qi_ ?_
  refine Ow.nextOver rfl rfl rfl (zH_ _ _ _) hlt ?_
  refine ko @qi_ ?_
  first|with_reducible refine ks [] @qi_ ?_|refine kp @qi_ ?_
  refine⟨_,(ke @qi_),⟨hw1,trivial⟩, ?_⟩
  refine⟨-1,rfl,⟨fun h=>by omega,fun h=> ?_⟩⟩
  rw[List.any_eq_true] at h
  obtain⟨x,hx,hxb⟩:=h
  obtain⟨i,hi,rfl⟩:=List.getElem_of_mem hx
  have:=hgood i hi
  rw[List.getD_eq_getElem?_getD,List.getElem?_eq_getElem hi] at this
  exact absurd hxb (by simpa using this)
theorem XY_ (s:List UInt8) (k:FuncId) (hk: ∀a w,(callFunc k a).run Tryz.prog w= .ok (.enter k a) w) (hc: ∀c w,Rets Tryz.prog k #[Kf_ c] w (fun v D=>v= .bool (badR c)∧D= [])) (w:World) (hs:s.length<1099511627776):
  Rets Tryz.prog 223 #[vs s, .func (.func k) #[] #[]] w (fun v D=> ∃n:Int,v=vi n∧(0≤n↔s.any QO_=true)∧D= []):=by
 refine Rets.mono (S:=fun v D=>(∃n:Int,v=vi n∧(0≤n↔s.any QO_=true))∧D= []) ?_ (by rintro v D ⟨⟨n,h1,h2⟩,h3⟩;exact⟨n,h1,h2,h3⟩)
 refine Rets.enterV Tryz.func223 rfl (rs:= [.tmp 4]) Tryz.results223 Tryz.ntmps223 ?_
 refine kf ?_
 first|with_reducible refine ks [] @qi_ ?_|refine kp @qi_ ?_
 refine Ow.callF rfl rfl Tryz.call256 (S:=fun _ v D=> ∃n:Int,v=vi n∧(0≤n↔s.any QO_=true)∧D= []) (fun w' hw'=>X9_ s k hk hc w' hs) ?_
 rintro B v D - - ⟨n,rfl,hn,rfl⟩
 refine⟨_,Mrg.nil, ?_⟩
 refine ko @qi_ ?_
 first|with_reducible refine ks [] @qi_ ?_|refine kp @qi_ ?_
 refine⟨_,(ke @qi_),trivial, ?_⟩
 exact⟨n,rfl,hn⟩
theorem Qd_ (s:List UInt8) (k:FuncId) (hk: ∀a w,(callFunc k a).run Tryz.prog w= .ok (.enter k a) w) (hc: ∀c w,Rets Tryz.prog k #[Kf_ c] w (fun v D=>v= .bool (badR c)∧D= [])) (w:World) (hs:s.length<1099511627776):
  Rets Tryz.prog 170 #[vs s, .func (.func k) #[] #[]] w (fun v D=>v= .bool (s.any QO_)∧D= []):=by
 refine Rets.enterV Tryz.func170 rfl (rs:= [.tmp 4]) Tryz.results170 Tryz.ntmps170 ?_
 refine kf ?_
 first|with_reducible refine ks [] @qi_ ?_|refine kp @qi_ ?_
 refine Ow.callF rfl rfl Tryz.call223 (S:=fun _ v D=> ∃n:Int,v=vi n∧(0≤n↔s.any QO_=true)∧D= []) (fun w' hw'=>XY_ s k hk hc w' hs) ?_
 rintro B v D - - ⟨n,rfl,hn,rfl⟩
 refine⟨_,Mrg.nil, ?_⟩
 refine ko @qi_ ?_
 first|with_reducible refine ks [] @qi_ ?_|refine kp @qi_ ?_
 refine⟨_,(ke @qi_),trivial, ?_⟩
 exact congrArg Value.bool (by rw[Bool.eq_iff_iff,decide_eq_true_eq];exact hn)
theorem abG_ (s:List UInt8) (w:World) (hs:s.length<1099511627776):
  Rets Tryz.prog 193 #[vs s] w (fun v D=>v= .bool (!(s== [])&&decide (s.length≤32)&& !(s.any QO_))∧D= []):=by
 refine Rets.enterV Tryz.func193 rfl (rs:= [.tmp 2]) Tryz.results193 Tryz.ntmps193 ?_
 refine kf ?_
 cases h0: (s != [])
 ·have e0: (s== [])=true:=by simpa using h0
  first|with_reducible refine ks [] (And.intro @qi_ @h0) ?_|refine kp (And.intro @qi_ @h0) ?_
  refine⟨_,(ke @qi_),trivial, ?_⟩
  simp[kC_,e0]
 ·have e0: (s== [])=false:=by simpa using h0
  cases h1:decide ((s.length:Int)≤32)
  ·have e1:decide (s.length≤32)=false:=decide_eq_false (by have:=of_decide_eq_false h1;omega)
   first|with_reducible refine ks [] (And.intro @qi_ (And.intro @h0 (@h1))) ?_|refine kp (And.intro @qi_ (And.intro @h0 (@h1))) ?_
   refine⟨_,(ke @qi_),trivial, ?_⟩
   simp only[kC_,e0,e1,Bool.not_false,Bool.true_and,Bool.false_and,Bool.and_false]
  ·have e1:decide (s.length≤32)=true:=decide_eq_true (by have:=of_decide_eq_true h1;omega)
   first|with_reducible refine ks [] (And.intro @qi_ (And.intro @h0 (@h1))) ?_|refine kp (And.intro @qi_ (And.intro @h0 (@h1))) ?_
   refine Ow.callFV rfl Tryz.call170 (fun w' hw'=>Qd_ s 231 Tryz.call231 Wq_ w' hs) ?_
   refine ko @qi_ ?_
   first|with_reducible refine ks [] @qi_ ?_|refine kp @qi_ ?_
   refine⟨_,(ke @qi_),trivial, ?_⟩
   simp only[kC_,e0,e1,Bool.not_false,Bool.true_and]
set_option linter.defProp false
def ve_:=And.intro (And.intro (@zJ_) (@Q3_)) (And.intro (@QZ_) (And.intro (@QR_) (@zI_)))
def K7_ (s:List UInt8):Bool:= !(s== [])&&decide (s.length≤32)&& !(s.any QO_)
theorem al2_ (c:UInt8):QO_ c=(decide (c<33) ||decide (126<c) || (c==47)):=by
 unfold QO_
 congr 1
 rw[Bool.eq_iff_iff,beq_iff_eq,beq_iff_eq,←UInt8.toNat_inj];rfl
theorem Wy_ (s:List UInt8) (w:World) (hs:s.length<1099511627776):
  Rets Tryz.prog 195 #[vs s] w (fun v D=>v= .bool (K7_ s)∧D= []):=by
 refine Rets.enterV Tryz.func195 rfl (rs:= [.tmp 2]) Tryz.results195 Tryz.ntmps195 ?_
 refine kf ?_
 first|with_reducible refine ks [] @ve_ ?_|refine kp @ve_ ?_
 refine Cw.loopG (G:=Nat) [4,5,6,7,10,11,12,13,14,15,16,17,18,19,20,21,22,23,24,25,2,8,9,3] (fun g=> [(3,vi g)]) (fun g=> []) (fun g=>g≤s.length∧ ∀i,i<g→QO_ (s.getD i 0)=false) (fun g=>s.length - g) 0 rfl rfl ?_ ?_
 ·exact⟨by omega,fun i hi=>by omega⟩
 intro g j hg
 refine kv ?_
 obtain⟨hgL,hgood⟩:=hg
 by_cases hlt:g<s.length
 ·have hb:=al2_ (s.getD g 0)
  have hbad:QO_ (s.getD g 0)=true→K7_ s=false:=by
   intro h
   have:s.any QO_=true:=List.any_eq_true.2 ⟨s.getD g 0,by rw[List.getD_eq_getElem?_getD,List.getElem?_eq_getElem hlt];exact List.getElem_mem hlt,h⟩
   unfold K7_
   rw[this];simp
  have hgo:QO_ (s.getD g 0)=false→ ∀i,i<g+1→QO_ (s.getD i 0)=false:=fun h i hi=>by
   by_cases hig:i=g
   ·rw[hig];exact h
   ·exact hgood i (by omega)
  generalize hc:s.getD g 0=c at*
  cases h1:decide (c<33)
  ·cases h2:decide (126<c)
   ·cases h3: (c==47)
    ·first|with_reducible refine ks [] (And.intro @ve_ (And.intro @hc (And.intro @h1 (And.intro @h2 (@h3))))) ?_|refine kp (And.intro @ve_ (And.intro @hc (And.intro @h1 (And.intro @h2 (@h3))))) ?_
     refine Again.mk (g+1) (by omega) ⟨by omega,hgo (by rw[hb,h1,h2,h3];rfl)⟩ rfl rfl
    ·first|with_reducible refine ks [] (And.intro @ve_ (And.intro @hc (And.intro @h1 (And.intro @h2 (@h3))))) ?_|refine kp (And.intro @ve_ (And.intro @hc (And.intro @h1 (And.intro @h2 (@h3))))) ?_
     rw[hbad (by rw[hb,h1,h2,h3];rfl)]
     refine⟨_,(ke @ve_),trivial, ?_⟩
     rfl
   ·first|with_reducible refine ks [] (And.intro @ve_ (And.intro @hc (And.intro @h1 (@h2)))) ?_|refine kp (And.intro @ve_ (And.intro @hc (And.intro @h1 (@h2)))) ?_
    rw[hbad (by rw[hb,h1,h2];rfl)]
    refine⟨_,(ke @ve_),trivial, ?_⟩
    rfl
  ·first|with_reducible refine ks [] (And.intro @ve_ (And.intro @hc (@h1))) ?_|refine kp (And.intro @ve_ (And.intro @hc (@h1))) ?_
   rw[hbad (by rw[hb,h1];simp)]
   refine⟨_,(ke @ve_),trivial, ?_⟩
   rfl
 ·obtain rfl:g=s.length:=by omega
  have hany:s.any QO_=false:=by
   rw[List.any_eq_false]
   intro x hx
   obtain⟨i,hi,rfl⟩:=List.getElem_of_mem hx
   have:=hgood i hi
   rw[List.getD_eq_getElem?_getD,List.getElem?_eq_getElem hi] at this
   simpa using this
  unfold K7_
  rw[hany]
  cases h1:decide (1≤ (s.length:Int))
  ·have e0: (s== [])=true:=by
    have:=of_decide_eq_false h1
    rw[List.eq_nil_of_length_eq_zero (show s.length=0 by omega)];rfl
   first|with_reducible refine ks [] (And.intro @ve_ @h1) ?_|refine kp (And.intro @ve_ @h1) ?_
   refine⟨_,(ke @ve_),trivial, ?_⟩
   simp only[kC_,e0,Bool.not_true,Bool.false_and]
  ·have e0: (s== [])=false:=by
    have:=of_decide_eq_true h1
    cases s with
    |nil=>simp at this
    |cons x r=>rfl
   have e1:decide ((s.length:Int)≤32)=decide (s.length≤32):=decide_eq_decide.2 (by omega)
   first|with_reducible refine ks [] (And.intro @ve_ @h1) ?_|refine kp (And.intro @ve_ @h1) ?_
   refine⟨_,(ke @ve_),trivial, ?_⟩
   simp only[kC_,e0,e1,Bool.not_false,Bool.true_and,Bool.and_true]
end Go.Proofs
end
section
open Go Go.Proofs Go.Sx Go.StP
namespace Go.Proofs
set_option maxRecDepth 10000
set_option maxHeartbeats 4000000
set_option linter.unusedSimpArgs false
def jo_ (l:List EntL) (i:Nat):Bool:=
 K7_ (l.getD i ent0).name&& ((l.getD i ent0).kind==1|| (l.getD i ent0).kind==2)&& (i==0||ltB (l.getD (i - 1) ent0).name (l.getD i ent0).name)
def qO_ (l:List EntL):Bool:=decide (l.length≤32)&& (List.range l.length).all (jo_ l)
theorem xs_ {l:List EntL} {k:Nat} (hk:k<l.length) (h:jo_ l k=false):qO_ l=false:=by
 unfold qO_
 have: (List.range l.length).all (jo_ l)=false:=by
  rw[List.all_eq_false]
  exact⟨k,List.mem_range.2 hk,by simp[h]⟩
 rw[this,Bool.and_false]
theorem KH_ {l:List EntL} (h: ∀i,i<l.length→jo_ l i=true):qO_ l=decide (l.length≤32):=by
 unfold qO_
 have: (List.range l.length).all (jo_ l)=true:=List.all_eq_true.2 fun i hi=>h i (List.mem_range.1 hi)
 rw[this,Bool.and_true]
set_option linter.defProp false
def xa_:=And.intro (And.intro (And.intro (@x6_) (@k2_)) (And.intro (@kS_) (@jm_))) (And.intro (And.intro (@qk_) (@qh_)) (And.intro (@zJ_) (@zI_)))
def Ks_ (l:List EntL):Prop:= ∀i,i<l.length→(l.getD i ent0).name.length<1099511627776
theorem WO_ (s:List UInt8) (w:World) (hs:s.length<1099511627776):Rets Tryz.prog 193 #[vs s] w (fun v D=>v= .bool (K7_ s)∧D= []):=abG_ s w hs
theorem VK_ {a b:Int} {c:Bool} (h: (a !=b)=c): (a==b)= !c:=by rw[←h];simp[bne]
theorem Qi_ (v:Value) (l:List EntL) (w:World) (hv:EntS w v l) (hl:l.length<1000000) (hsh:Ks_ l):
  Rets Tryz.prog 127 #[v] w (fun v' D=>v'= .bool (qO_ l)∧D= []):=by
 obtain⟨b,off,arr,E,fz,hr⟩:=hv.row
 have ln:=hv.len
 refine Rets.enterV Tryz.func127 rfl (rs:= [.tmp 2]) Tryz.results127 Tryz.ntmps127 ?_
 refine kf ?_
 first|with_reducible refine ks [] (And.intro @xa_ @ln) ?_|refine kp (And.intro @xa_ @ln) ?_
 refine Cw.loopG (G:=Nat) [8,9,10,11,4,3,12,13,14,15,16,17,18,19,20,21,22,23,24,25,26,27,28,29,30,31,32,33,34,35,36,37,38,39,40,2,41,7] (fun g=> [(7,vi g)]) (fun g=> []) (fun g=>g≤l.length∧ ∀i,i<g→jo_ l i=true) (fun g=>l.length - g) 0 rfl rfl ?_ ?_
 ·exact⟨Nat.zero_le _,fun i hi=>absurd hi (Nat.not_lt_zero i)⟩
 ·intro k jk hk
  refine kv ?_
  obtain⟨h1,h2⟩:=hk
  by_cases hk:k<l.length
  ·have h0:0<l.length:=by omega
   have hbl:=hr.lt h0
   have r2:=hr.has h0
   have i2:=hr.idx true k hk
   have l2:=aig_ hr hk
   first|with_reducible refine ks [6] (And.intro @xa_ (And.intro @r2 (And.intro @i2 (@l2)))) ?_|refine kp (And.intro @xa_ (And.intro @r2 (And.intro @i2 (@l2)))) ?_
   refine Ow.alloc rfl rfl vM_ fun b4 hb4 hw4=> ?_
   simp only[ze_,List.nil_append,List.cons_append]
   have hn4:b4≠b:=by omega
   refine ko @xa_ ?_
   have hs:=hsh k hk
   refine Cw.regionS [b4,b] [0,1,2,3,4,5,6,7,8,9,10,11,12,13,14,15,16,17,18,19,20,21,22,24,23,25,26,27,28] [] (by kernel_rfl) (by kernel_rfl) (by kernel_rfl) ?_
   simp only[zh_, ↓zc_, ↓za_, ↓zk_, ↓zj_,zb_]
   refine kq @xa_ ?_
   refine Ow.callFV rfl Tryz.call193 (fun w' hw'=>WO_ (l.getD k ent0).name w' hs) ?_
   cases hn:K7_ (l.getD k ent0).name
   ·have e0:jo_ l k=false:=by unfold jo_;rw[hn];rfl
    rw[xs_ hk e0]
    refine kq @xa_ ?_
    refine⟨_,(ke @xa_),⟨hw4,trivial⟩, ?_⟩
    rfl
   ·cases hk1: ((l.getD k ent0).kind !=1)
    ·have hkk: ((l.getD k ent0).kind==1|| (l.getD k ent0).kind==2)=true:=by rw[VK_ hk1];rfl
     by_cases h0k:k=0
     ·have d1:decide ((0:Int)< (k:Int))=false:=decide_eq_false (by omega)
      have e1:jo_ l k=true:=by unfold jo_;rw[hn,hkk,h0k];rfl
      refine kq (And.intro @xa_ (And.intro @hk1 (@d1))) ?_
      refine Cw.forgetN [] (by exact⟨hw4,trivial⟩) (by intro p hp;simp only[List.mem_cons,List.not_mem_nil,or_false] at hp ⊢;all_goals (first| (rcases hp with rfl|hp<;>simp_all) | (subst hp;simp) |simp_all)) (by simp[keys]<;>omega) ?_
      first|with_reducible refine ks [] @xa_ ?_|refine kp @xa_ ?_
      exact Again.mk (k+1) (by omega) ⟨by omega,fun i hi=>by
       rcases Nat.lt_succ_iff_lt_or_eq.1 hi with h|rfl
       ·exact h2 i h
       ·exact e1⟩ rfl rfl
     ·have d1:decide ((0:Int)< (k:Int))=true:=decide_eq_true (by omega)
      have i3:zK_ (.sl (true,34)) v (some ((k:Int) - 1))=some (vp b (off+ (k - 1)*34)):=by
       rw[show(k:Int) - 1=((k - 1:Nat):Int) by omega];exact hr.idx true (k - 1) (by omega)
      have l3: ∀n,zA_ (some (false,n)) (some (.cells arr E fz)) (off+ (k - 1)*34)=some (vs (l.getD (k - 1) ent0).name):=fun n=>Zj_ hr (show k - 1<l.length by omega) n
      have ek: (k==0)=false:=beq_eq_false_iff_ne.2 h0k
      cases hl3:Op.bytesLess (l.getD (k - 1) ent0).name (l.getD k ent0).name
      ·have e1:jo_ l k=false:=by unfold jo_;rw[hn,hkk,ek];exact hl3
       rw[xs_ hk e1]
       refine kq (And.intro @xa_ (And.intro @hk1 (And.intro @d1 (And.intro @i3 (And.intro @r2 (And.intro @l3 (@hl3))))))) ?_
       refine⟨_,(ke @xa_),⟨hw4,trivial⟩, ?_⟩
       rfl
      ·have e1:jo_ l k=true:=by unfold jo_;rw[hn,hkk,ek];exact hl3
       refine kq (And.intro @xa_ (And.intro @hk1 (And.intro @d1 (And.intro @i3 (And.intro @r2 (And.intro @l3 (@hl3))))))) ?_
       refine Cw.forgetN [] (by exact⟨hw4,trivial⟩) (by intro p hp;simp only[List.mem_cons,List.not_mem_nil,or_false] at hp ⊢;all_goals (first| (rcases hp with rfl|hp<;>simp_all) | (subst hp;simp) |simp_all)) (by simp[keys]<;>omega) ?_
       first|with_reducible refine ks [] @xa_ ?_|refine kp @xa_ ?_
       exact Again.mk (k+1) (by omega) ⟨by omega,fun i hi=>by
        rcases Nat.lt_succ_iff_lt_or_eq.1 hi with h|rfl
        ·exact h2 i h
        ·exact e1⟩ rfl rfl
    ·cases hk2: ((l.getD k ent0).kind !=2)
     ·have hkk: ((l.getD k ent0).kind==1|| (l.getD k ent0).kind==2)=true:=by rw[VK_ hk2];simp
      by_cases h0k:k=0
      ·have d1:decide ((0:Int)< (k:Int))=false:=decide_eq_false (by omega)
       have e1:jo_ l k=true:=by unfold jo_;rw[hn,hkk,h0k];rfl
       refine kq (And.intro @xa_ (And.intro @hk1 (And.intro @hk2 (@d1)))) ?_
       refine Cw.forgetN [] (by exact⟨hw4,trivial⟩) (by intro p hp;simp only[List.mem_cons,List.not_mem_nil,or_false] at hp ⊢;all_goals (first| (rcases hp with rfl|hp<;>simp_all) | (subst hp;simp) |simp_all)) (by simp[keys]<;>omega) ?_
       first|with_reducible refine ks [] @xa_ ?_|refine kp @xa_ ?_
       exact Again.mk (k+1) (by omega) ⟨by omega,fun i hi=>by
        rcases Nat.lt_succ_iff_lt_or_eq.1 hi with h|rfl
        ·exact h2 i h
        ·exact e1⟩ rfl rfl
      ·have d1:decide ((0:Int)< (k:Int))=true:=decide_eq_true (by omega)
       have i3:zK_ (.sl (true,34)) v (some ((k:Int) - 1))=some (vp b (off+ (k - 1)*34)):=by
        rw[show(k:Int) - 1=((k - 1:Nat):Int) by omega];exact hr.idx true (k - 1) (by omega)
       have l3: ∀n,zA_ (some (false,n)) (some (.cells arr E fz)) (off+ (k - 1)*34)=some (vs (l.getD (k - 1) ent0).name):=fun n=>Zj_ hr (show k - 1<l.length by omega) n
       have ek: (k==0)=false:=beq_eq_false_iff_ne.2 h0k
       cases hl3:Op.bytesLess (l.getD (k - 1) ent0).name (l.getD k ent0).name
       ·have e1:jo_ l k=false:=by unfold jo_;rw[hn,hkk,ek];exact hl3
        rw[xs_ hk e1]
        refine kq (And.intro @xa_ (And.intro @hk1 (And.intro @hk2 (And.intro @d1 (And.intro @i3 (And.intro @r2 (And.intro @l3 (@hl3)))))))) ?_
        refine⟨_,(ke @xa_),⟨hw4,trivial⟩, ?_⟩
        rfl
       ·have e1:jo_ l k=true:=by unfold jo_;rw[hn,hkk,ek];exact hl3
        refine kq (And.intro @xa_ (And.intro @hk1 (And.intro @hk2 (And.intro @d1 (And.intro @i3 (And.intro @r2 (And.intro @l3 (@hl3)))))))) ?_
        refine Cw.forgetN [] (by exact⟨hw4,trivial⟩) (by intro p hp;simp only[List.mem_cons,List.not_mem_nil,or_false] at hp ⊢;all_goals (first| (rcases hp with rfl|hp<;>simp_all) | (subst hp;simp) |simp_all)) (by simp[keys]<;>omega) ?_
        first|with_reducible refine ks [] @xa_ ?_|refine kp @xa_ ?_
        exact Again.mk (k+1) (by omega) ⟨by omega,fun i hi=>by
         rcases Nat.lt_succ_iff_lt_or_eq.1 hi with h|rfl
         ·exact h2 i h
         ·exact e1⟩ rfl rfl
     ·have e0:jo_ l k=false:=by
       unfold jo_
       rw[hn,VK_ hk1,VK_ hk2];rfl
      rw[xs_ hk e0]
      refine kq (And.intro @xa_ (And.intro @hk1 (@hk2))) ?_
      refine⟨_,(ke @xa_),⟨hw4,trivial⟩, ?_⟩
      rfl
  ·obtain rfl:k=l.length:=by omega
   rw[KH_ h2]
   first|with_reducible refine ks [] (And.intro @xa_ @ln) ?_|refine kp (And.intro @xa_ @ln) ?_
   refine⟨_,(ke @xa_),trivial, ?_⟩
   exact congrArg Value.bool (decide_eq_decide.2 (by omega))
end Go.Proofs
end
section
open Go Go.Proofs Go.Sx Go.StP
namespace Go.Proofs
set_option maxRecDepth 10000
set_option maxHeartbeats 4000000
set_option linter.unusedSimpArgs false
set_option linter.defProp false
def kF_:=And.intro (And.intro (And.intro (@x6_) (@k2_)) (And.intro (@kS_) (@jm_))) (And.intro (And.intro (@qk_) (@qh_)) (And.intro (@zJ_) (@zI_)))
theorem agH_ (a b:List UInt8): (Op.bytesLess a b||a==b)= !ltB b a:=by rw[←wW_,Bool.not_not]
theorem XW_ (v:Value) (l:List EntL) (w:World) (hv:EntS w v l) (hl:l.length<1000000) (hsh:Ks_ l):
  Rets Tryz.prog 132 #[v] w (fun v' D=>v'= .bool (qO_ l)∧D= []):=by
 obtain⟨b,off,arr,E,fz,hr⟩:=hv.row
 have ln:=hv.len
 refine Rets.enterV Tryz.func132 rfl (rs:= [.tmp 2]) Tryz.results132 Tryz.ntmps132 ?_
 refine kf ?_
 by_cases h32:32<l.length
 ·first|with_reducible refine ks [] (And.intro @kF_ @ln) ?_|refine kp (And.intro @kF_ @ln) ?_
  have:qO_ l=false:=by unfold qO_;rw[decide_eq_false (by omega),Bool.false_and]
  rw[this]
  refine⟨_,(ke @kF_),trivial, ?_⟩
  rfl
 ·first|with_reducible refine ks [] (And.intro @kF_ @ln) ?_|refine kp (And.intro @kF_ @ln) ?_
  refine Cw.loopG (G:=Nat) [7,8,9,10,13,14,15,16,17,18,19,20,21,22,23,24,25,26,27,28,29,30,31,32,33,34,35,2,36,37,38,39,40,41,42,43,44,45,46,47,48,49,50,51,11,12,3] (fun g=> [(3,vi g)]) (fun g=> []) (fun g=>g≤l.length∧ ∀i,i<g→jo_ l i=true) (fun g=>l.length - g) 0 rfl rfl ?_ ?_
  ·exact⟨Nat.zero_le _,fun i hi=>absurd hi (Nat.not_lt_zero i)⟩
  ·intro k jk hk
   refine kv ?_
   obtain⟨h1,h2⟩:=hk
   by_cases hk:k<l.length
   ·have h0:0<l.length:=by omega
    have hbl:=hr.lt h0
    have r2:=hr.has h0
    have i2:=hr.idx true k hk
    have m0: ∀n,zA_ (some (false,n)) (some (.cells arr E fz)) (off+k*34)=some (vs (l.getD k ent0).name):=fun n=>Zj_ hr hk n
    have m1: ∀n,zA_ (some (false,n)) (some (.cells arr E fz)) (off+k*34+1)=some (vi (l.getD k ent0).kind):=fun n=>ad3_ hr hk n
    have hs:=hsh k hk
    first|with_reducible refine ks [] (And.intro @kF_ (And.intro @ln (And.intro @r2 (And.intro @i2 (And.intro @m0 (@m1)))))) ?_|refine kp (And.intro @kF_ (And.intro @ln (And.intro @r2 (And.intro @i2 (And.intro @m0 (@m1)))))) ?_
    refine Ow.callFV rfl Tryz.call195 (fun w' hw'=>Wy_ (l.getD k ent0).name w' hs) ?_
    cases hn:K7_ (l.getD k ent0).name
    ·have e0:jo_ l k=false:=by unfold jo_;rw[hn];rfl
     rw[xs_ hk e0]
     refine ko @kF_ ?_
     refine⟨_,(ke @kF_),trivial, ?_⟩
     rfl
    ·cases hk1:decide ((l.getD k ent0).kind<1)
     ·cases hk2:decide (2< (l.getD k ent0).kind)
      ·have hkk: ((l.getD k ent0).kind==1|| (l.getD k ent0).kind==2)=true:=by
        have q1:=of_decide_eq_false hk1
        have q2:=of_decide_eq_false hk2
        rcases(show(l.getD k ent0).kind=1∨(l.getD k ent0).kind=2 by omega) with h|h<;>rw[h]<;>rfl
       refine ko (And.intro @kF_ (And.intro @r2 (And.intro @i2 (And.intro @m0 (And.intro @m1 (And.intro @hk1 (@hk2))))))) ?_
       by_cases h0k:k=0
       ·have d1:decide ((0:Int)< (k:Int))=false:=decide_eq_false (by omega)
        have e1:jo_ l k=true:=by unfold jo_;rw[hn,hkk,h0k];rfl
        refine Cw.regionS [b] [0,1,2,3,4,5,6,8,9,10,11,12,7,13,14,15] [] (by kernel_rfl) (by kernel_rfl) (by kernel_rfl) ?_
        simp only[zh_, ↓zc_, ↓za_, ↓zk_, ↓zj_,zb_]
        refine kq (And.intro @kF_ @d1) ?_
        exact Again.mk (k+1) (by omega) ⟨by omega,fun i hi=>by
         rcases Nat.lt_succ_iff_lt_or_eq.1 hi with h|rfl
         ·exact h2 i h
         ·exact e1⟩ rfl rfl
       ·have d1:decide ((0:Int)< (k:Int))=true:=decide_eq_true (by omega)
        have i3:zK_ (.sl (true,34)) v (some ((k:Int) - 1))=some (vp b (off+ (k - 1)*34)):=by
         rw[show(k:Int) - 1=((k - 1:Nat):Int) by omega];exact hr.idx true (k - 1) (by omega)
        have l3: ∀n,zA_ (some (false,n)) (some (.cells arr E fz)) (off+ (k - 1)*34)=some (vs (l.getD (k - 1) ent0).name):=fun n=>Zj_ hr (show k - 1<l.length by omega) n
        have ek: (k==0)=false:=beq_eq_false_iff_ne.2 h0k
        cases hl3:ltB (l.getD (k - 1) ent0).name (l.getD k ent0).name
        ·have e1:jo_ l k=false:=by unfold jo_;rw[hn,hkk,ek];exact hl3
         rw[xs_ hk e1]
         refine Cw.regionS [b] [0,1,2,3,4,5,6,8,9,10,11,12,7,13,14,15] [] (by kernel_rfl) (by kernel_rfl) (by kernel_rfl) ?_
         simp only[zh_, ↓zc_, ↓za_, ↓zk_, ↓zj_,zb_]
         refine kq (And.intro @kF_ (And.intro @d1 (And.intro @i2 (And.intro @i3 (And.intro @r2 (And.intro @m0 (And.intro @l3 (And.intro @agH_ (@hl3))))))))) ?_
         refine⟨_,(ke @kF_),trivial, ?_⟩
         rfl
        ·have e1:jo_ l k=true:=by unfold jo_;rw[hn,hkk,ek];exact hl3
         refine Cw.regionS [b] [0,1,2,3,4,5,6,8,9,10,11,12,7,13,14,15] [] (by kernel_rfl) (by kernel_rfl) (by kernel_rfl) ?_
         simp only[zh_, ↓zc_, ↓za_, ↓zk_, ↓zj_,zb_]
         refine kq (And.intro @kF_ (And.intro @d1 (And.intro @i2 (And.intro @i3 (And.intro @r2 (And.intro @m0 (And.intro @l3 (And.intro @agH_ (@hl3))))))))) ?_
         exact Again.mk (k+1) (by omega) ⟨by omega,fun i hi=>by
          rcases Nat.lt_succ_iff_lt_or_eq.1 hi with h|rfl
          ·exact h2 i h
          ·exact e1⟩ rfl rfl
      ·have e0:jo_ l k=false:=by
        have q2:=of_decide_eq_true hk2
        unfold jo_
        rw[hn,show((l.getD k ent0).kind==1)=false from beq_eq_false_iff_ne.2 (by omega),show((l.getD k ent0).kind==2)=false from beq_eq_false_iff_ne.2 (by omega)];rfl
       rw[xs_ hk e0]
       refine ko (And.intro @kF_ (And.intro @r2 (And.intro @i2 (And.intro @m0 (And.intro @m1 (And.intro @hk1 (@hk2))))))) ?_
       refine⟨_,(ke @kF_),trivial, ?_⟩
       rfl
     ·have e0:jo_ l k=false:=by
       have q2:=of_decide_eq_true hk1
       unfold jo_
       rw[hn,show((l.getD k ent0).kind==1)=false from beq_eq_false_iff_ne.2 (by omega),show((l.getD k ent0).kind==2)=false from beq_eq_false_iff_ne.2 (by omega)];rfl
      rw[xs_ hk e0]
      refine ko (And.intro @kF_ (And.intro @r2 (And.intro @i2 (And.intro @m0 (And.intro @m1 (@hk1)))))) ?_
      refine⟨_,(ke @kF_),trivial, ?_⟩
      rfl
   ·obtain rfl:k=l.length:=by omega
    rw[KH_ h2,show decide (l.length≤32)=true from decide_eq_true (by omega)]
    first|with_reducible refine ks [] (And.intro @kF_ @ln) ?_|refine kp (And.intro @kF_ @ln) ?_
    refine⟨_,(ke @kF_),trivial, ?_⟩
    rfl
end Go.Proofs
end
section
open Go Go.Proofs Go.Sx Go.StP
namespace Go.Proofs
set_option maxRecDepth 10000
set_option maxHeartbeats 4000000
set_option linter.unusedSimpArgs false
theorem ki_ (x:IdL): (z4_ x).length=32:=by simp[z4_,x.h]
theorem V1_ (x:IdL): (z4_ x).all Value.oneCell'=true:=Qf_ _
abbrev IdS (w:World) (v:Value) (l:List IdL):Prop:=SlV 32 z4_ id0 w v l
theorem JX_ {w:World} {v:Value} {l:List IdL} {b off:Nat} {arr:Array Value} {E:TypeId} {fz:Nat×Nat} (h:RowS 32 z4_ id0 w v l b off arr E fz) {k:Nat} (hk:k<l.length):
  zA_ (some (true,32)) (some (.cells arr E fz)) (off+k*32)=some (.agg (a8 (l.getD k id0).l)):=RowS.load h ki_ (by omega) hk
theorem akg_ (a b:IdL):q9_ Tryz.prog .eql 24 (.agg (a8 a.l)) (.agg (a8 b.l))=some (.bool (a.l==b.l)):=
 agr_ Tryz.underlying24 Tryz.underlying5 Tryz.ag5 (by kernel_rfl) a.l b.l ⟨a.h,b.h⟩
theorem ajc_ (a b:IdL):q9_ Tryz.prog .neq 24 (.agg (a8 a.l)) (.agg (a8 b.l))=some (.bool (!(a.l==b.l))):=
 adh_ Tryz.underlying24 Tryz.underlying5 Tryz.ag5 (by kernel_rfl) a.l b.l ⟨a.h,b.h⟩
instance:DecidableEq IdL:=fun a b=>if h:a.l=b.l then .isTrue (by cases a;cases b;simp only at h;subst h;rfl) else .isFalse (fun e=>h (by rw[e]))
theorem IdL.ext' {a b:IdL} (h:a.l=b.l):a=b:=by cases a;cases b;simp only at h;subst h;rfl
def idxG (x:IdL):List IdL→Nat→Int
 | [],_=> -1
 |y::r,i=>if x.l==y.l then(i:Int) else idxG x r (i+1)
theorem agU_ (x y:IdL) (r:List IdL) (i:Nat):idxG x (y::r) i=if x.l==y.l then(i:Int) else idxG x r (i+1):=rfl
theorem adu_ (x:IdL): ∀ (l:List IdL) (i:Nat),decide (0≤idxG x l i)=l.any fun y=>x.l==y.l
 | [],_=>rfl
 |y::r,i=>by
  unfold idxG
  rw[List.any_cons]
  cases h: (x.l==y.l)
  ·rw[if_neg (by simp),Bool.false_or];exact adu_ x r (i+1)
  ·rw[if_pos rfl,Bool.true_or,decide_eq_true (by omega)]
theorem q4_ (x:IdL) (E:TypeId) (fz:Nat×Nat):zA_ (some (true,32)) (some (.cells (a8 x.l) E fz)) 0=some (.agg (a8 x.l)):=ZJ_ _ E fz 32 x.h
set_option linter.defProp false
def q8_:=And.intro (And.intro (@akg_) (@ajc_)) (And.intro (@q4_) (And.intro (@zJ_) (@zI_)))
theorem V5_ (v:Value) (l:List IdL) (x:IdL) (w:World) (hv:IdS w v l) (hl:l.length<1000000):
  Rets Tryz.prog 271 #[v, .agg (a8 x.l)] w (fun v' D=>v'=vi (idxG x l 0)∧D= []):=by
 obtain⟨b,off,arr,E,fz,hr⟩:=hv.row
 have ln:=hv.len
 refine Rets.enterV Tryz.func271 rfl (rs:= [.tmp 4]) Tryz.results271 Tryz.ntmps271 ?_
 refine kf ?_
 first|with_reducible refine ks [] @q8_ ?_|refine kp @q8_ ?_
 refine Ow.box rfl rfl fun b1 hb1 hw1=> ?_
 simp only[zW_,zT_,z1_,ze_,List.nil_append,List.cons_append]
 refine Ow.go rfl ?_
 simp(disch:=(first|assumption|omega| (simp only[qF_,qC_,UInt64.reduceToNat];try omega))) only[↓Sx.S0,Sx.S1,Tryz.fx,q8_,Nat.reduceAdd,Nat.reducePow,Int.reducePow,Nat.reduceBEq, ↓reduceIte,UInt8.reduceToNat,UInt16.reduceToNat,UInt32.reduceToNat,UInt64.reduceToNat,Int.reduceToNat]
 first|with_reducible refine ks [] (And.intro @q8_ @ln) ?_|refine kp (And.intro @q8_ @ln) ?_
 refine Cw.loopG (G:=Nat) [9,10,5,11,12,13,14,15,16,17,4,18,8] (fun g=> [(8,vi g)]) (fun g=> [(b1, .cells (a8 x.l) 24 (0,0))]) (fun g=>g≤l.length∧idxG x l 0=idxG x (l.drop g) g) (fun g=>l.length - g) 0 rfl rfl ?_ ?_
 ·exact⟨Nat.zero_le _,rfl⟩
 ·intro k jk hk
  refine kv ?_
  obtain⟨h1,h2⟩:=hk
  by_cases hk:k<l.length
  ·have h0:0<l.length:=by omega
   have hbl:=hr.lt h0
   have hn1:b1≠b:=by omega
   have r2:=hr.has h0
   have i2:=hr.idx true k hk
   have l2:=JX_ hr hk
   rw[drop_cons (z:=id0) hk,agU_] at h2
   first|with_reducible refine ks [] @q8_ ?_|refine kp @q8_ ?_
   refine Cw.regionS [b1,b] [1,2,3,0,4,5] [] (by kernel_rfl) (by kernel_rfl) (by kernel_rfl) ?_
   simp only[zh_, ↓zc_, ↓za_, ↓zk_, ↓zj_,zb_]
   refine kq (And.intro @q8_ (And.intro @i2 (And.intro @r2 (@l2)))) ?_
   cases hq: (x.l==(l.getD k id0).l)
   ·rw[hq,if_neg (by simp)] at h2
    first|with_reducible refine ks [] (And.intro @q8_ @hq) ?_|refine kp (And.intro @q8_ @hq) ?_
    exact Again.mk (k+1) (by omega) ⟨hk,h2⟩ rfl rfl
   ·rw[hq,if_pos rfl] at h2
    rw[h2]
    first|with_reducible refine ks [] (And.intro @q8_ @hq) ?_|refine kp (And.intro @q8_ @hq) ?_
    refine⟨_,(ke @q8_),⟨hw1,trivial⟩, ?_⟩
    rfl
  ·obtain rfl:k=l.length:=by omega
   rw[List.drop_length] at h2
   rw[h2]
   first|with_reducible refine ks [] @q8_ ?_|refine kp @q8_ ?_
   refine⟨_,(ke @q8_),⟨hw1,trivial⟩, ?_⟩
   rfl
theorem Jq_ (v:Value) (l:List IdL) (x:IdL) (w:World) (hv:IdS w v l) (hl:l.length<1000000):
  Rets Tryz.prog 235 #[v, .agg (a8 x.l)] w (fun v' D=>v'= .bool (l.any fun y=>x.l==y.l)∧D= []):=by
 refine Rets.enterV Tryz.func235 rfl (rs:= [.tmp 4]) Tryz.results235 Tryz.ntmps235 ?_
 refine kf ?_
 first|with_reducible refine ks [] @q8_ ?_|refine kp @q8_ ?_
 refine Ow.box rfl rfl fun b1 hb1 hw1=> ?_
 simp only[zW_,zT_,z1_,ze_,List.nil_append,List.cons_append]
 refine Ow.go rfl ?_
 simp(disch:=(first|assumption|omega| (simp only[qF_,qC_,UInt64.reduceToNat];try omega))) only[↓Sx.S0,Sx.S1,Tryz.fx,q8_,Nat.reduceAdd,Nat.reducePow,Int.reducePow,Nat.reduceBEq, ↓reduceIte,UInt8.reduceToNat,UInt16.reduceToNat,UInt32.reduceToNat,UInt64.reduceToNat,Int.reduceToNat]
 first|with_reducible refine ks [] @q8_ ?_|refine kp @q8_ ?_
 refine Ow.callFV rfl Tryz.call271 (fun w' hw'=>V5_ v l x w' (hv.oldN hw' ⟨hw1,trivial⟩) hl) ?_
 refine ko @q8_ ?_
 refine⟨_,(ke @q8_),⟨hw1,trivial⟩, ?_⟩
 exact congrArg Value.bool (adu_ x l 0)
theorem jZ_ (v1 v2:Value) (l1 l2:List IdL) (w:World) (hv1:IdS w v1 l1) (hv2:IdS w v2 l2) (hl1:l1.length<1000000) (_hl2:l2.length<1000000):
  Rets Tryz.prog 26 #[v1,v2] w (fun v' D=>v'= .bool (decide (l1=l2))∧D= []):=by
 obtain⟨b1,off1,arr1,E1,fz1,hr1⟩:=hv1.row
 obtain⟨b2,off2,arr2,E2,fz2,hr2⟩:=hv2.row
 have ln1:=hv1.len
 have ln2:=hv2.len
 refine Rets.enterV Tryz.func26 rfl (rs:= [.tmp 4]) Tryz.results26 Tryz.ntmps26 ?_
 refine kf ?_
 by_cases hl:l1.length=l2.length
 ·first|with_reducible refine ks [] (And.intro @q8_ (And.intro @ln1 (@ln2))) ?_|refine kp (And.intro @q8_ (And.intro @ln1 (@ln2))) ?_
  refine Cw.loopG (G:=Nat) [11,12,13,14,17,18,19,20,21,22,23,24,25,4,15,16,5] (fun g=> [(5,vi g)]) (fun g=> []) (fun g=>g≤l1.length∧l1.take g=l2.take g) (fun g=>l1.length - g) 0 rfl rfl ?_ ?_
  ·exact⟨Nat.zero_le _,rfl⟩
  ·intro k jk hk
   refine kv ?_
   obtain⟨h1,h2⟩:=hk
   by_cases hk:k<l1.length
   ·have h0:0<l1.length:=by omega
    have ra:=hr1.has h0
    have rb:=hr2.has (show 0<l2.length by omega)
    have ia:=hr1.idx true k hk
    have ib:=hr2.idx true k (show k<l2.length by omega)
    have la:=JX_ hr1 hk
    have lb:=JX_ hr2 (show k<l2.length by omega)
    first|with_reducible refine ks [] (And.intro @q8_ @ln1) ?_|refine kp (And.intro @q8_ @ln1) ?_
    refine Cw.regionS [b1,b2] [0,1,2,4,5,6,3,7,8] [] (by kernel_rfl) (by kernel_rfl) (by kernel_rfl) ?_
    simp only[zh_, ↓zc_, ↓za_, ↓zk_, ↓zj_,zb_]
    refine kq (And.intro @q8_ (And.intro @ra (And.intro @rb (And.intro @ia (And.intro @ib (And.intro @la (@lb))))))) ?_
    cases hq: ((l1.getD k id0).l==(l2.getD k id0).l)
    ·have:decide (l1=l2)=false:=decide_eq_false (fun e=>by rw[e] at hq;simp at hq)
     rw[this]
     first|with_reducible refine ks [] (And.intro @q8_ @hq) ?_|refine kp (And.intro @q8_ @hq) ?_
     refine⟨_,(ke @q8_),trivial, ?_⟩
     rfl
    ·first|with_reducible refine ks [] (And.intro @q8_ @hq) ?_|refine kp (And.intro @q8_ @hq) ?_
     refine Again.mk (k+1) (by omega) ⟨hk, ?_⟩ rfl rfl
     have e:l1.getD k id0=l2.getD k id0:=IdL.ext' (by simpa using hq)
     rw[take_snoc (z:=id0) hk,take_snoc (z:=id0) (show k<l2.length by omega),h2,e]
   ·obtain rfl:k=l1.length:=by omega
    have:l1=l2:=by rw[List.take_length,hl,List.take_length] at h2;exact h2
    rw[decide_eq_true this]
    first|with_reducible refine ks [] (And.intro @q8_ @ln1) ?_|refine kp (And.intro @q8_ @ln1) ?_
    refine⟨_,(ke @q8_),trivial, ?_⟩
    rfl
 ·have:decide (l1=l2)=false:=decide_eq_false (fun e=>hl (by rw[e]))
  rw[this]
  first|with_reducible refine ks [] (And.intro @q8_ (And.intro @ln1 (@ln2))) ?_|refine kp (And.intro @q8_ (And.intro @ln1 (@ln2))) ?_
  refine⟨_,(ke @q8_),trivial, ?_⟩
  rfl
end Go.Proofs
end
section
open Go Go.Proofs Go.Sx Go.StP
namespace Go.Proofs
set_option maxRecDepth 10000
set_option maxHeartbeats 4000000
set_option linter.unusedSimpArgs false
structure ComL where
 tree:IdL
 par:List IdL
 text:List UInt8
def qG_ (t:IdL) (p:Value) (x:List UInt8):List Value:=t.l.map v8++ ([p]++ [vs x])
theorem vo_ (t:IdL) (p:Value) (x:List UInt8): (qG_ t p x).length=34:=by simp[qG_,t.h]
theorem akf_ (t:IdL) (p:Value) (x:List UInt8) (hp:Value.oneCell' p=true): (qG_ t p x).all Value.oneCell'=true:=by
 unfold qG_
 simp only[List.all_append,List.all_cons,List.all_nil,Qf_,hp,Bool.and_true,Bool.true_and]
 rfl
theorem kd_ (t:IdL) (p:Value) (x:List UInt8):Value.cells (.agg (qG_ t p x).toArray)=(qG_ t p x).toArray:=ze_ _
theorem vY_ (t:IdL) (p:Value) (x:List UInt8) (E:TypeId) (fz:Nat×Nat):zA_ (some (true,32)) (some (.cells (qG_ t p x).toArray E fz)) 0=some (.agg (a8 t.l)):=by
 unfold qG_;exact xV_ [] _ _ E fz rfl (by simp[t.h])
theorem vZ_ (t:IdL) (p:Value) (x:List UInt8) (n:Nat) (E:TypeId) (fz:Nat×Nat):zA_ (some (false,n)) (some (.cells (qG_ t p x).toArray E fz)) 32=some p:=by
 unfold qG_;exact xR_ _ _ p n E fz (by simp[t.h])
theorem v5_ (t:IdL) (p:Value) (x:List UInt8) (n:Nat) (E:TypeId) (fz:Nat×Nat):zA_ (some (false,n)) (some (.cells (qG_ t p x).toArray E fz)) 33=some (vs x):=by
 have e:qG_ t p x=(t.l.map v8++ [p])++ ([vs x]++ []):=by unfold qG_;simp only[List.append_assoc,List.append_nil]
 rw[e];exact xR_ _ _ (vs x) n E fz (by simp[t.h])
theorem w6_ (t:IdL) (p:Value) (x:List UInt8) (E:TypeId) (fz:Nat×Nat):zA_ (some (true,34)) (some (.cells (qG_ t p x).toArray E fz)) 0=some (.agg (qG_ t p x).toArray):=wf_ _ E fz 34 (by rw[List.size_toArray,vo_])
theorem ZH_ (old:Array Value) (t:IdL) (p:Value) (x:List UInt8) (a:Bool) (E:TypeId) (h:old.size=34) (hp:Value.oneCell' p=true):zs_ (some (a,34)) (some (.cells old E (0,0))) 0 (.agg (qG_ t p x).toArray)=some (.cells (qG_ t p x).toArray E (0,0)):=wM_ _ a old E (vo_ t p x) (akf_ t p x hp) h
def wJ_ (l:List IdL) (i:Nat):Bool:= !((l.take i).any fun y=>(l.getD i id0).l==y.l)
def v3_ (c:ComL):Bool:=(decide (c.par.length≤4)&&decide (c.text.length≤64))&& (List.range c.par.length).all (wJ_ c.par)
theorem adO_ {c:ComL} {k:Nat} (hk:k<c.par.length) (h:wJ_ c.par k=false):v3_ c=false:=by
 unfold v3_
 have: (List.range c.par.length).all (wJ_ c.par)=false:=by
  rw[List.all_eq_false]
  exact⟨k,List.mem_range.2 hk,by simp[h]⟩
 rw[this,Bool.and_false]
theorem aaI_ {c:ComL} (h: ∀i,i<c.par.length→wJ_ c.par i=true):v3_ c=(decide (c.par.length≤4)&&decide (c.text.length≤64)):=by
 unfold v3_
 have: (List.range c.par.length).all (wJ_ c.par)=true:=List.all_eq_true.2 fun i hi=>h i (List.mem_range.1 hi)
 rw[this,Bool.and_true]
abbrev ComS (w:World) (v:Value) (c:ComL):Prop:= ∃p,v= .agg (qG_ c.tree p c.text).toArray∧IdS w p c.par
theorem SlV.one {α:Type} {m:Nat} {enc:α→List Value} {z:α} {w:World} {v:Value} {l:List α} (h:SlV m enc z w v l):Value.oneCell' v=true∧v.cells= #[v]:=by
 obtain⟨b,off,c,arr,E,fz,-,-,⟨rfl,-,-⟩ | ⟨rfl,-,-⟩⟩:=h<;>exact⟨rfl,rfl⟩
set_option linter.defProp false
def kV_:=And.intro (And.intro (And.intro (@akg_) (@ajc_)) (And.intro (@q4_) (And.intro (@zJ_) (@zI_)))) (And.intro (And.intro (@vY_) (@vZ_)) (And.intro (@v5_) (And.intro (@w6_) (@kd_))))
theorem abV_ (v:Value) (c:ComL) (w:World) (hv:ComS w v c) (hl:c.par.length<1000000) (ht:c.text.length<1099511627776):
  Rets Tryz.prog 204 #[v] w (fun v' D=>v'= .bool (v3_ c)∧D= []):=by
 obtain⟨p,rfl,hp⟩:=hv
 obtain⟨b,off,arr,E,fz,hr⟩:=hp.row
 have ln:=hp.len
 refine Rets.enterV Tryz.func204 rfl (rs:= [.tmp 2]) Tryz.results204 Tryz.ntmps204 ?_
 refine kf ?_
 first|with_reducible refine ks [] @kV_ ?_|refine kp @kV_ ?_
 refine Ow.box rfl rfl fun bx hbx hwx=> ?_
 simp only[zW_,zT_,z1_,ze_,List.nil_append,List.cons_append]
 refine Ow.go rfl ?_
 simp(disch:=(first|assumption|omega| (simp only[qF_,qC_,UInt64.reduceToNat];try omega))) only[↓Sx.S0,Sx.S1,Tryz.fx,kV_,Nat.reduceAdd,Nat.reducePow,Int.reducePow,Nat.reduceBEq, ↓reduceIte,UInt8.reduceToNat,UInt16.reduceToNat,UInt32.reduceToNat,UInt64.reduceToNat,Int.reduceToNat]
 first|with_reducible refine ks [] (And.intro @kV_ @ln) ?_|refine kp (And.intro @kV_ @ln) ?_
 refine Cw.loopG (G:=Nat) [9,10,11,12,4,3,13,14,15,16,17,18,2,19,8] (fun g=> [(8,vi g)]) (fun g=> [(bx, .cells (qG_ c.tree p c.text).toArray 126 (0,0))]) (fun g=>g≤c.par.length∧ ∀i,i<g→wJ_ c.par i=true) (fun g=>c.par.length - g) 0 rfl rfl ?_ ?_
 ·exact⟨Nat.zero_le _,fun i hi=>absurd hi (Nat.not_lt_zero i)⟩
 ·intro k jk hk
  refine kv ?_
  obtain⟨h1,h2⟩:=hk
  by_cases hk:k<c.par.length
  ·have h0:0<c.par.length:=by omega
   have hbl:=hr.lt h0
   have hnb:bx≠b:=by omega
   have r2:=hr.has h0
   have i2:=hr.idx true k hk
   have l2:=JX_ hr hk
   obtain⟨v3,s3,hv3,-⟩:=hp.take (show k≤c.par.length by omega) true
   first|with_reducible refine ks [6] (And.intro @kV_ (And.intro @i2 (And.intro @r2 (@l2)))) ?_|refine kp (And.intro @kV_ (And.intro @i2 (And.intro @r2 (@l2)))) ?_
   refine Ow.alloc rfl rfl Tryz.zr24 fun b4 hb4 hw4=> ?_
   simp only[ze_,List.nil_append,List.cons_append]
   obtain⟨h4,-⟩:=hb4
   have hxl:=(c.par.getD k id0).h
   refine ko @kV_ ?_
   refine Cw.regionS [bx,b4] [0,2,1,3,4,5] [] (by kernel_rfl) (by kernel_rfl) (by kernel_rfl) ?_
   simp only[zh_, ↓zc_, ↓za_, ↓zk_, ↓zj_,zb_]
   refine kq (And.intro @kV_ @s3) ?_
   refine Ow.callFV rfl Tryz.call235 (fun w' hw'=>Jq_ v3 (c.par.take k) (c.par.getD k id0) w' (hv3.oldN hw' ⟨hwx,hw4,trivial⟩) (by rw[List.length_take];omega)) ?_
   cases hq: (c.par.take k).any fun y=>(c.par.getD k id0).l==y.l
   ·have e1:wJ_ c.par k=true:=by unfold wJ_;rw[hq];rfl
    refine kq @kV_ ?_
    refine Cw.forgetN [(bx, .cells (qG_ c.tree p c.text).toArray 126 (0,0))] (by exact⟨hwx,hw4,trivial⟩) (by intro p hp;simp only[List.mem_cons,List.not_mem_nil,or_false] at hp ⊢;all_goals (first| (rcases hp with rfl|hp<;>simp_all) | (subst hp;simp) |simp_all)) (by simp[keys]<;>omega) ?_
    first|with_reducible refine ks [] @kV_ ?_|refine kp @kV_ ?_
    exact Again.mk (k+1) (by omega) ⟨by omega,fun i hi=>by
     rcases Nat.lt_succ_iff_lt_or_eq.1 hi with h|rfl
     ·exact h2 i h
     ·exact e1⟩ rfl rfl
   ·have e1:wJ_ c.par k=false:=by unfold wJ_;rw[hq];rfl
    rw[adO_ hk e1]
    refine kq @kV_ ?_
    refine⟨_,(ke @kV_),⟨hwx,hw4,trivial⟩, ?_⟩
    rfl
  ·obtain rfl:k=c.par.length:=by omega
   rw[aaI_ h2]
   by_cases h4:c.par.length≤4
   ·have d1:decide (((c.par.length:Nat):Int)≤4)=true:=decide_eq_true (by omega)
    first|with_reducible refine ks [] (And.intro @kV_ (And.intro @ln (@d1))) ?_|refine kp (And.intro @kV_ (And.intro @ln (@d1))) ?_
    refine⟨_,(ke @kV_),⟨hwx,trivial⟩, ?_⟩
    rw[show decide (c.par.length≤4)=true from decide_eq_true h4,Bool.true_and];exact congrArg Value.bool (decide_eq_decide.2 (by omega))
   ·have d1:decide (((c.par.length:Nat):Int)≤4)=false:=decide_eq_false (by omega)
    first|with_reducible refine ks [] (And.intro @kV_ (And.intro @ln (@d1))) ?_|refine kp (And.intro @kV_ (And.intro @ln (@d1))) ?_
    refine⟨_,(ke @kV_),⟨hwx,trivial⟩, ?_⟩
    rw[show decide (c.par.length≤4)=false from decide_eq_false h4];rfl
end Go.Proofs
end
section
open Go Go.Proofs Go.Sx Go.StP
namespace Go.Proofs
set_option maxRecDepth 10000
set_option maxHeartbeats 4000000
set_option linter.unusedSimpArgs false
set_option linter.defProp false
def xu_:=And.intro (And.intro (And.intro (@akg_) (@ajc_)) (And.intro (@q4_) (And.intro (@zJ_) (@zI_)))) (And.intro (And.intro (@vY_) (@vZ_)) (And.intro (@v5_) (And.intro (@w6_) (@kd_))))
theorem ajN_ {l:List IdL} {k:Nat} {x:IdL} (hk:k<l.length) (h: ((l.take k).any fun y=>x.l==y.l)=false) (h2: (x.l==(l.getD k id0).l)=false): ((l.take (k+1)).any fun y=>x.l==y.l)=false:=by
 rw[take_snoc (z:=id0) hk,List.any_append,h,Bool.false_or,List.any_cons,h2];rfl
theorem alQ_ {l:List IdL} {k i:Nat} {x:IdL} (hk:k<l.length) (hi:k<i) (h2: (x.l==(l.getD k id0).l)=true): ((l.take i).any fun y=>x.l==y.l)=true:=by
 rw[List.any_eq_true]
 refine⟨l.getD k id0, ?_,h2⟩
 rw[←getD_take (l:=l) (z:=id0) hi]
 exact Q2_ (by rw[List.length_take];omega)
theorem QJ_ (v:Value) (c:ComL) (w:World) (hv:ComS w v c) (hl:c.par.length<1000000) (ht:c.text.length<1099511627776):
  Rets Tryz.prog 134 #[v] w (fun v' D=>v'= .bool (v3_ c)∧D= []):=by
 obtain⟨p,rfl,hp⟩:=hv
 obtain⟨b,off,arr,E,fz,hr⟩:=hp.row
 have ln:=hp.len
 refine Rets.enterV Tryz.func134 rfl (rs:= [.tmp 2]) Tryz.results134 Tryz.ntmps134 ?_
 refine kf ?_
 first|with_reducible refine ks [] @xu_ ?_|refine kp @xu_ ?_
 refine Ow.box rfl rfl fun bx hbx hwx=> ?_
 simp only[zW_,zT_,z1_,ze_,List.nil_append,List.cons_append]
 refine Ow.go rfl ?_
 simp(disch:=(first|assumption|omega| (simp only[qF_,qC_,UInt64.reduceToNat];try omega))) only[↓Sx.S0,Sx.S1,Tryz.fx,xu_,Nat.reduceAdd,Nat.reducePow,Int.reducePow,Nat.reduceBEq, ↓reduceIte,UInt8.reduceToNat,UInt16.reduceToNat,UInt32.reduceToNat,UInt64.reduceToNat,Int.reduceToNat]
 by_cases h4:4<c.par.length
 ·have d1:decide (4< ((c.par.length:Nat):Int))=true:=decide_eq_true (by omega)
  first|with_reducible refine ks [] (And.intro @xu_ (And.intro @ln (@d1))) ?_|refine kp (And.intro @xu_ (And.intro @ln (@d1))) ?_
  have:v3_ c=false:=by unfold v3_;rw[show decide (c.par.length≤4)=false from decide_eq_false (by omega)];rfl
  rw[this]
  refine⟨_,(ke @xu_),⟨hwx,trivial⟩, ?_⟩
  rfl
 have d1:decide (4< ((c.par.length:Nat):Int))=false:=decide_eq_false (by omega)
 by_cases h64:64<c.text.length
 ·have d2:decide (64< ((c.text.length:Nat):Int))=true:=decide_eq_true (by omega)
  first|with_reducible refine ks [] (And.intro @xu_ (And.intro @ln (And.intro @d1 (@d2)))) ?_|refine kp (And.intro @xu_ (And.intro @ln (And.intro @d1 (@d2)))) ?_
  have:v3_ c=false:=by unfold v3_;rw[show decide (c.text.length≤64)=false from decide_eq_false (by omega),Bool.and_false];rfl
  rw[this]
  refine⟨_,(ke @xu_),⟨hwx,trivial⟩, ?_⟩
  rfl
 have d2:decide (64< ((c.text.length:Nat):Int))=false:=decide_eq_false (by omega)
 first|with_reducible refine ks [] (And.intro @xu_ (And.intro @ln (And.intro @d1 (@d2)))) ?_|refine kp (And.intro @xu_ (And.intro @ln (And.intro @d1 (@d2)))) ?_
 refine Cw.loopG (G:=Nat) [15,16,17,18,19,4,22,23,24,27,28,29,30,31,32,33,34,35,36,37,2,25,26,20,21,3] (fun g=> [(3,vi g)]) (fun g=> [(bx, .cells (qG_ c.tree p c.text).toArray 126 (0,0))]) (fun g=>g≤c.par.length∧ ∀i,i<g→wJ_ c.par i=true) (fun g=>c.par.length - g) 0 rfl rfl ?_ ?_
 ·exact⟨Nat.zero_le _,fun i hi=>absurd hi (Nat.not_lt_zero i)⟩
 ·intro i ji hi
  refine kv ?_
  obtain⟨h1,h2⟩:=hi
  by_cases hi:i<c.par.length
  ·have h0:0<c.par.length:=by omega
   have hbl:=hr.lt h0
   have hnb:bx≠b:=by omega
   have r2:=hr.has h0
   have i2:=hr.idx true i hi
   have l2:=JX_ hr hi
   first|with_reducible refine ks [] (And.intro @xu_ @ln) ?_|refine kp (And.intro @xu_ @ln) ?_
   refine Cw.loopG (G:=Nat) [22,23,24,27,28,29,30,31,32,33,34,35,36,37,2,25,26,4] (fun g=> [(4,vi g)]) (fun g=> [(bx, .cells (qG_ c.tree p c.text).toArray 126 (0,0))]) (fun g=>g≤i∧((c.par.take g).any fun y=>(c.par.getD i id0).l==y.l)=false) (fun g=>i - g) 0 rfl rfl ?_ ?_
   ·exact⟨Nat.zero_le _,rfl⟩
   ·intro k jk hk
    refine kv ?_
    obtain⟨g1,g2⟩:=hk
    by_cases hk:k<i
    ·have i3:=hr.idx true k (show k<c.par.length by omega)
     have l3:=JX_ hr (show k<c.par.length by omega)
     first|with_reducible refine ks [] @xu_ ?_|refine kp @xu_ ?_
     refine Cw.regionS [bx,b] [0,2,5,7,1,3,4,6,8,9,10] [] (by kernel_rfl) (by kernel_rfl) (by kernel_rfl) ?_
     simp only[zh_, ↓zc_, ↓za_, ↓zk_, ↓zj_,zb_]
     refine kq (And.intro @xu_ (And.intro @i2 (And.intro @r2 (And.intro @l2 (And.intro @i3 (@l3)))))) ?_
     cases hq: ((c.par.getD i id0).l==(c.par.getD k id0).l)
     ·first|with_reducible refine ks [] (And.intro @xu_ @hq) ?_|refine kp (And.intro @xu_ @hq) ?_
      exact Again.mk (k+1) (by omega) ⟨by omega,ajN_ (by omega) g2 hq⟩ rfl rfl
     ·have e1:wJ_ c.par i=false:=by unfold wJ_;rw[alQ_ (by omega) hk hq];rfl
      rw[adO_ hi e1]
      first|with_reducible refine ks [] (And.intro @xu_ @hq) ?_|refine kp (And.intro @xu_ @hq) ?_
      refine⟨_,(ke @xu_),⟨hwx,trivial⟩, ?_⟩
      rfl
    ·obtain rfl:k=i:=by omega
     have e1:wJ_ c.par k=true:=by unfold wJ_;rw[g2];rfl
     first|with_reducible refine ks [] @xu_ ?_|refine kp @xu_ ?_
     exact Again.mk (k+1) (by omega) ⟨by omega,fun i hi=>by
      rcases Nat.lt_succ_iff_lt_or_eq.1 hi with h|rfl
      ·exact h2 i h
      ·exact e1⟩ rfl rfl
  ·obtain rfl:i=c.par.length:=by omega
   rw[aaI_ h2,show decide (c.par.length≤4)=true from decide_eq_true (by omega),show decide (c.text.length≤64)=true from decide_eq_true (by omega)]
   first|with_reducible refine ks [] (And.intro @xu_ @ln) ?_|refine kp (And.intro @xu_ @ln) ?_
   refine⟨_,(ke @xu_),⟨hwx,trivial⟩, ?_⟩
   rfl
end Go.Proofs
end
section
open Go Go.Proofs Go.Sx
namespace Go.Proofs
set_option maxRecDepth 10000
set_option maxHeartbeats 4000000
set_option linter.unusedSimpArgs false
theorem k4_ {n:Nat} (h:n<1099511627776):qx_ (n:Int)=n:=by unfold qx_ maxN;omega
theorem vU_: ∀ (k:Nat) (n:Int) (w:World),qx_ n≤k→
  Rets Tryz.prog 174 #[vi n] w (fun v D=>v=vs (vq_ (qx_ n))∧D= []):=by
 intro k
 induction k using Nat.strongRecOn with
 |ind k ih=>
  intro n w hk
  refine Rets.enterV Tryz.func174 rfl (rs:= [.tmp 2]) Tryz.results174 Tryz.ntmps174 ?_
  refine kf ?_
  by_cases h0:n<0
  ·have d1:decide (n<0)=true:=decide_eq_true h0
   have e:qx_ n=0:=by unfold qx_ maxN;omega
   rw[e]
   first|with_reducible refine ks [] @d1 ?_|refine kp @d1 ?_
   refine Ow.buildSlice (e:=5) #[v8 0] rfl rfl (by kernel_rfl) fun b1 hb1 hw1=> ?_
   rw[show(#[v8 0]:Array Value)=a8 [0] from rfl]
   refine ko @Nat.add_zero ?_
   first|with_reducible refine ks [] @Nat.add_zero ?_|refine kp @Nat.add_zero ?_
   refine⟨_,(ke @Nat.add_zero),⟨hw1,trivial⟩, ?_⟩
   rw[jA_ (by omega)];rfl
  ·have d1:decide (n<0)=false:=decide_eq_false h0
   generalize hm:qx_ n=m at hk ⊢
   have hm2:m≤1099511627775:=by unfold qx_ maxN at hm;omega
   by_cases h1:n>1099511627775
   ·have d2:decide (1099511627775<n)=true:=decide_eq_true h1
    have e: (1099511627775:Int)=(m:Int):=by unfold qx_ maxN at hm;omega
    first|with_reducible refine ks [5] (And.intro @d1 @d2) ?_|refine kp (And.intro @d1 @d2) ?_
    rw[e]
    by_cases h2:m<128
    ·have d3:decide ((m:Int)<128)=true:=decide_eq_true (by omega)
     rw[jA_ h2]
     first|with_reducible refine ks [] (And.intro @d1 @d3) ?_|refine kp (And.intro @d1 @d3) ?_
     generalize hc:UInt8.ofInt (m:Int)=c
     have hc':c=UInt8.ofNat m:=by rw[←hc,wj_]
     refine Ow.buildSlice (e:=5) #[v8 c] rfl rfl (by kernel_rfl) fun b1 hb1 hw1=> ?_
     rw[show(#[v8 c]:Array Value)=a8 [c] from rfl]
     have e4:List.take 1 (List.drop 0 [c])= [c]:=rfl
     refine ko @e4 ?_
     first|with_reducible refine ks [] @Nat.add_zero ?_|refine kp @Nat.add_zero ?_
     refine⟨_,(ke @Nat.add_zero),⟨hw1,trivial⟩, ?_⟩
     rw[hc'];rfl
    ·have d3:decide ((m:Int)<128)=false:=decide_eq_false (by omega)
     have ih2:=fun w=>ih (m / 128) (by omega) ((m / 128:Nat):Int) w (by rw[k4_ (by omega)];omega)
     rw[k4_ (by omega)] at ih2
     have hl2:=kc_ 6 (m / 128) (by omega) (by omega)
     rw[vi_ h2]
     first|with_reducible refine ks [] (And.intro @d1 @d3) ?_|refine kp (And.intro @d1 @d3) ?_
     refine Cw.regionK 11 (by kernel_rfl) (by kernel_rfl) ?_
     refine OwK.run [0,1,2,3,6,7] [true,true,true,true,false,false,true,true,false,false,false] 5 rfl (by kernel_rfl) (by kernel_rfl) fun k hk=> ?_
     simp only[zh_, ↓zc_, ↓za_, ↓zk_, ↓zj_,zb_]
     simp(disch:=(first|assumption|omega| (simp only[qF_,qC_,UInt64.reduceToNat];try omega))) only[↓Sx.S0,Sx.S1,Tryz.fx,Nat.reduceAdd,Nat.reducePow,Int.reducePow,Nat.reduceBEq, ↓reduceIte,UInt8.reduceToNat,UInt16.reduceToNat,UInt32.reduceToNat,UInt64.reduceToNat,Int.reduceToNat]
     (with_reducible refine hk _ _ _ ?_);clear hk k
     generalize hc:UInt8.ofInt ((m:Int)%128+128)=c
     have hc':c=UInt8.ofNat (m%128+128):=by rw[←hc,show((m:Int)%128+128)=((m%128+128:Nat):Int) from rfl,wj_]
     rw[show(m:Int) / 128=((m / 128:Nat):Int) from rfl]
     refine OwK.two 4 8 _ _ (by kernel_rfl) rfl rfl ?_ ?_
     ·refine Ow.buildSlice (e:=5) #[v8 c] rfl rfl (by kernel_rfl) fun b1 hb1 hw1=> ?_
      rw[show(#[v8 c]:Array Value)=a8 [c] from rfl]
      have e4:List.take 1 (List.drop 0 [c])= [c]:=rfl
      refine ko @e4 ?_
      try with_reducible refine Ow.nil ?_
      refine OwK.two 5 8 _ _ (by kernel_rfl) rfl rfl ?_ ?_
      ·refine ko @e4 ?_
       refine OwK.rest [8,9,10] [4,8] rfl (by kernel_rfl) (by kernel_rfl) ?_
       simp only[zh_, ↓zc_, ↓za_, ↓zk_, ↓zj_,zb_]
       refine Ow.callFV rfl Tryz.call174 (fun w' hw'=>ih2 w') ?_
       refine ko @Nat.add_zero ?_
       first|with_reducible refine ks [] @Nat.add_zero ?_|refine kp @Nat.add_zero ?_
       refine⟨_,(ke @Nat.add_zero),⟨hw1,trivial⟩, ?_⟩
       rw[hc'];rfl
      ·refine Ow.callFV rfl Tryz.call174 (fun w' hw'=>ih2 w') ?_
       refine ko @Nat.add_zero ?_
       refine OwK.rest [5,9,10] [4,8] rfl (by kernel_rfl) (by kernel_rfl) ?_
       simp only[zh_, ↓zc_, ↓za_, ↓zk_, ↓zj_,zb_]
       refine ko @e4 ?_
       first|with_reducible refine ks [] @Nat.add_zero ?_|refine kp @Nat.add_zero ?_
       refine⟨_,(ke @Nat.add_zero),⟨hw1,trivial⟩, ?_⟩
       rw[hc'];rfl
     ·refine Ow.callFV rfl Tryz.call174 (fun w' hw'=>ih2 w') ?_
      refine ko @Nat.add_zero ?_
      refine OwK.rest [4,5,9,10] [4,8] rfl (by kernel_rfl) (by kernel_rfl) ?_
      simp only[zh_, ↓zc_, ↓za_, ↓zk_, ↓zj_,zb_]
      refine Ow.buildSlice (e:=5) #[v8 c] rfl rfl (by kernel_rfl) fun b1 hb1 hw1=> ?_
      rw[show(#[v8 c]:Array Value)=a8 [c] from rfl]
      have e4:List.take 1 (List.drop 0 [c])= [c]:=rfl
      refine ko @e4 ?_
      first|with_reducible refine ks [] @Nat.add_zero ?_|refine kp @Nat.add_zero ?_
      refine⟨_,(ke @Nat.add_zero),⟨hw1,trivial⟩, ?_⟩
      rw[hc'];rfl
   ·have d2:decide (1099511627775<n)=false:=decide_eq_false h1
    have e:n=(m:Int):=by unfold qx_ maxN at hm;omega
    subst e
    first|with_reducible refine ks [5] (And.intro @d1 @d2) ?_|refine kp (And.intro @d1 @d2) ?_
    by_cases h2:m<128
    ·have d3:decide ((m:Int)<128)=true:=decide_eq_true (by omega)
     rw[jA_ h2]
     first|with_reducible refine ks [] (And.intro @d1 @d3) ?_|refine kp (And.intro @d1 @d3) ?_
     generalize hc:UInt8.ofInt (m:Int)=c
     have hc':c=UInt8.ofNat m:=by rw[←hc,wj_]
     refine Ow.buildSlice (e:=5) #[v8 c] rfl rfl (by kernel_rfl) fun b1 hb1 hw1=> ?_
     rw[show(#[v8 c]:Array Value)=a8 [c] from rfl]
     have e4:List.take 1 (List.drop 0 [c])= [c]:=rfl
     refine ko @e4 ?_
     first|with_reducible refine ks [] @Nat.add_zero ?_|refine kp @Nat.add_zero ?_
     refine⟨_,(ke @Nat.add_zero),⟨hw1,trivial⟩, ?_⟩
     rw[hc'];rfl
    ·have d3:decide ((m:Int)<128)=false:=decide_eq_false (by omega)
     have ih2:=fun w=>ih (m / 128) (by omega) ((m / 128:Nat):Int) w (by rw[k4_ (by omega)];omega)
     rw[k4_ (by omega)] at ih2
     have hl2:=kc_ 6 (m / 128) (by omega) (by omega)
     rw[vi_ h2]
     first|with_reducible refine ks [] (And.intro @d1 @d3) ?_|refine kp (And.intro @d1 @d3) ?_
     refine Cw.regionK 11 (by kernel_rfl) (by kernel_rfl) ?_
     refine OwK.run [0,1,2,3,6,7] [true,true,true,true,false,false,true,true,false,false,false] 5 rfl (by kernel_rfl) (by kernel_rfl) fun k hk=> ?_
     simp only[zh_, ↓zc_, ↓za_, ↓zk_, ↓zj_,zb_]
     simp(disch:=(first|assumption|omega| (simp only[qF_,qC_,UInt64.reduceToNat];try omega))) only[↓Sx.S0,Sx.S1,Tryz.fx,Nat.reduceAdd,Nat.reducePow,Int.reducePow,Nat.reduceBEq, ↓reduceIte,UInt8.reduceToNat,UInt16.reduceToNat,UInt32.reduceToNat,UInt64.reduceToNat,Int.reduceToNat]
     (with_reducible refine hk _ _ _ ?_);clear hk k
     generalize hc:UInt8.ofInt ((m:Int)%128+128)=c
     have hc':c=UInt8.ofNat (m%128+128):=by rw[←hc,show((m:Int)%128+128)=((m%128+128:Nat):Int) from rfl,wj_]
     rw[show(m:Int) / 128=((m / 128:Nat):Int) from rfl]
     refine OwK.two 4 8 _ _ (by kernel_rfl) rfl rfl ?_ ?_
     ·refine Ow.buildSlice (e:=5) #[v8 c] rfl rfl (by kernel_rfl) fun b1 hb1 hw1=> ?_
      rw[show(#[v8 c]:Array Value)=a8 [c] from rfl]
      have e4:List.take 1 (List.drop 0 [c])= [c]:=rfl
      refine ko @e4 ?_
      try with_reducible refine Ow.nil ?_
      refine OwK.two 5 8 _ _ (by kernel_rfl) rfl rfl ?_ ?_
      ·refine ko @e4 ?_
       refine OwK.rest [8,9,10] [4,8] rfl (by kernel_rfl) (by kernel_rfl) ?_
       simp only[zh_, ↓zc_, ↓za_, ↓zk_, ↓zj_,zb_]
       refine Ow.callFV rfl Tryz.call174 (fun w' hw'=>ih2 w') ?_
       refine ko @Nat.add_zero ?_
       first|with_reducible refine ks [] @Nat.add_zero ?_|refine kp @Nat.add_zero ?_
       refine⟨_,(ke @Nat.add_zero),⟨hw1,trivial⟩, ?_⟩
       rw[hc'];rfl
      ·refine Ow.callFV rfl Tryz.call174 (fun w' hw'=>ih2 w') ?_
       refine ko @Nat.add_zero ?_
       refine OwK.rest [5,9,10] [4,8] rfl (by kernel_rfl) (by kernel_rfl) ?_
       simp only[zh_, ↓zc_, ↓za_, ↓zk_, ↓zj_,zb_]
       refine ko @e4 ?_
       first|with_reducible refine ks [] @Nat.add_zero ?_|refine kp @Nat.add_zero ?_
       refine⟨_,(ke @Nat.add_zero),⟨hw1,trivial⟩, ?_⟩
       rw[hc'];rfl
     ·refine Ow.callFV rfl Tryz.call174 (fun w' hw'=>ih2 w') ?_
      refine ko @Nat.add_zero ?_
      refine OwK.rest [4,5,9,10] [4,8] rfl (by kernel_rfl) (by kernel_rfl) ?_
      simp only[zh_, ↓zc_, ↓za_, ↓zk_, ↓zj_,zb_]
      refine Ow.buildSlice (e:=5) #[v8 c] rfl rfl (by kernel_rfl) fun b1 hb1 hw1=> ?_
      rw[show(#[v8 c]:Array Value)=a8 [c] from rfl]
      have e4:List.take 1 (List.drop 0 [c])= [c]:=rfl
      refine ko @e4 ?_
      first|with_reducible refine ks [] @Nat.add_zero ?_|refine kp @Nat.add_zero ?_
      refine⟨_,(ke @Nat.add_zero),⟨hw1,trivial⟩, ?_⟩
      rw[hc'];rfl
theorem kJ_ (s:List UInt8) (w:World) (hs:s.length<1099511627776):
  Rets Tryz.prog 138 #[vs s] w (fun v D=>v=vs (jP_ s)∧D= []):=by
 have hnl:=zM_ (s.length:Int)
 refine Rets.enterV Tryz.func138 rfl (rs:= [.tmp 2]) Tryz.results138 Tryz.ntmps138 ?_
 refine kf ?_
 first|with_reducible refine ks [] @Nat.add_zero ?_|refine kp @Nat.add_zero ?_
 refine Ow.callFV rfl Tryz.call174 (fun w' hw'=>vU_ _ _ w' (Nat.le_refl _)) ?_
 refine ko @Nat.add_zero ?_
 first|with_reducible refine ks [] @Nat.add_zero ?_|refine kp @Nat.add_zero ?_
 refine⟨_,(ke @Nat.add_zero),trivial, ?_⟩
 rfl
theorem VR_ (x:IdL) (w:World):
  Rets Tryz.prog 175 #[.agg (a8 x.l)] w (fun v D=>v=vs x.l∧D= []):=by
 have hxl:=x.h
 refine Rets.enterV Tryz.func175 rfl (rs:= [.tmp 2]) Tryz.results175 Tryz.ntmps175 ?_
 refine kf ?_
 first|with_reducible refine ks [] @Nat.add_zero ?_|refine kp @Nat.add_zero ?_
 refine Ow.box rfl rfl fun bx hbx hwx=> ?_
 simp only[zW_,zT_,z1_,ze_,List.nil_append,List.cons_append]
 refine Ow.go rfl ?_
 simp(disch:=(first|assumption|omega| (simp only[qF_,qC_,UInt64.reduceToNat];try omega))) only[↓Sx.S0,Sx.S1,Tryz.fx,Nat.reduceAdd,Nat.reducePow,Int.reducePow,Nat.reduceBEq, ↓reduceIte,UInt8.reduceToNat,UInt16.reduceToNat,UInt32.reduceToNat,UInt64.reduceToNat,Int.reduceToNat]
 have e4:List.take 32 (List.drop 0 x.l)=x.l:=by rw[List.drop_zero,List.take_of_length_le (by omega)]
 first|with_reducible refine ks [] @e4 ?_|refine kp @e4 ?_
 refine⟨_,(ke @Nat.add_zero),⟨hwx,trivial⟩, ?_⟩
 rfl
end Go.Proofs
end
section
open Go Go.Proofs Go.Sx Go.StP
namespace Go.Proofs
set_option maxRecDepth 10000
set_option maxHeartbeats 400000
set_option linter.unusedSimpArgs false
set_option linter.defProp false
def JB_:=And.intro (And.intro (And.intro (@x6_) (@k2_)) (And.intro (@kS_) (@jm_))) (And.intro (And.intro (@qk_) (@qh_)) (And.intro (@zJ_) (@zI_)))
def entB (e:EntL):List UInt8:=(vq_ (qx_ e.kind)++jP_ e.name)++e.id.l
def qm_ (l:List EntL):List UInt8:=(l.map entB).flatten
theorem ZX_ {l:List EntL} {k:Nat} (hk:k<l.length):qm_ (l.take (k+1))=qm_ (l.take k)++entB (l.getD k ent0):=by
 unfold qm_
 rw[List.take_succ_eq_append_getElem hk,List.map_append,List.flatten_append,List.getD_eq_getElem?_getD,List.getElem?_eq_getElem hk]
 simp
theorem J3_ {l:List EntL} {k:Nat} (hk:k<l.length):qm_ (l.take (k+1))=qm_ (l.take k)++vq_ (qx_ (l.getD k ent0).kind)++jP_ (l.getD k ent0).name++ (l.getD k ent0).id.l:=by
 rw[ZX_ hk];simp only[entB,List.append_assoc]
theorem kg_ {s:List UInt8} (h:s.length<1099511627776): (jP_ s).length<1099511627783:=by
 have:=zM_ (s.length:Int)
 unfold jP_;rw[List.length_append];omega
theorem aaf_ {l:List EntL} (hsh:Ks_ l): ∀k,k≤l.length→(qm_ (l.take k)).length≤k*1099511627830
 |0,_=>by simp[qm_]
 |k+1,hk=>by
  have ih:=aaf_ hsh k (by omega)
  have h1:=kg_ (hsh k hk)
  have h2:=zM_ (l.getD k ent0).kind
  have h3:=(l.getD k ent0).id.h
  rw[ZX_ hk]
  unfold entB
  simp only[List.length_append]
  omega
theorem K1_ (v:Value) (l:List EntL) (w:World) (hv:EntS w v l) (hl:l.length<1000000) (hsh:Ks_ l):
  Rets Tryz.prog 133 #[v] w (fun v' D=>v'=vs (qm_ l)∧D= []):=by
 obtain⟨b,off,arr,E,fz,hr⟩:=hv.row
 have ln:=hv.len
 refine Rets.enterV Tryz.func133 rfl (rs:= [.tmp 2]) Tryz.results133 Tryz.ntmps133 ?_
 refine kf ?_
 first|with_reducible refine ks [] (And.intro @JB_ @ln) ?_|refine kp (And.intro @JB_ @ln) ?_
 refine Cw.loopG (G:=Nat) [5,6,7,8,11,12,13,14,15,16,17,18,19,20,21,22,23,24,25,26,27,28,29,30,31,32,3,9,10,4] (fun g=> [(3,vs (qm_ (l.take g))),(4,vi g)]) (fun g=> []) (fun g=>g≤l.length) (fun g=>l.length - g) 0 rfl rfl ?_ ?_
 ·exact Nat.zero_le _
 ·intro k jk hk
  refine kv ?_
  have h1:k≤l.length:=hk
  clear hk
  by_cases hk:k<l.length
  ·have h0:0<l.length:=by omega
   have hbl:=hr.lt h0
   have r2:=hr.has h0
   have i2:=hr.idx true k hk
   have m0: ∀n,zA_ (some (false,n)) (some (.cells arr E fz)) (off+k*34)=some (vs (l.getD k ent0).name):=fun n=>Zj_ hr hk n
   have m1: ∀n,zA_ (some (false,n)) (some (.cells arr E fz)) (off+k*34+1)=some (vi (l.getD k ent0).kind):=fun n=>ad3_ hr hk n
   have m2:zA_ (some (true,32)) (some (.cells arr E fz)) (off+k*34+2)=some (.agg (a8 (l.getD k ent0).id.l)):=aiP_ hr hk
   have hs:=hsh k hk
   have t1:=aaf_ hsh k h1
   have t2:=kg_ hs
   have t3:=zM_ (l.getD k ent0).kind
   have t4:=(l.getD k ent0).id.h
   first|with_reducible refine ks [] (And.intro @JB_ @ln) ?_|refine kp (And.intro @JB_ @ln) ?_
   refine Cw.regionS [b] [0,1,2,3,4,8,9,10,11,15,16,17,18,5,12,19,6,7,13,14,20,21,22] [] (by kernel_rfl) (by kernel_rfl) (by kernel_rfl) ?_
   simp only[zh_, ↓zc_, ↓za_, ↓zk_, ↓zj_,zb_]
   refine kq (And.intro @JB_ (And.intro @r2 (And.intro @i2 (And.intro @m0 (And.intro @m1 (@m2)))))) ?_
   refine Ow.callFV rfl Tryz.call174 (fun w' hw'=>vU_ _ _ w' (Nat.le_refl _)) ?_
   refine kq (And.intro @JB_ (And.intro @r2 (And.intro @i2 (And.intro @m0 (And.intro @m1 (@m2)))))) ?_
   refine Ow.callFV rfl Tryz.call138 (fun w' hw'=>kJ_ _ w' hs) ?_
   refine kq (And.intro @JB_ (And.intro @r2 (And.intro @i2 (And.intro @m0 (And.intro @m1 (@m2)))))) ?_
   refine Ow.callFV rfl Tryz.call175 (fun w' hw'=>VR_ _ w') ?_
   refine kq (And.intro @JB_ (And.intro @r2 (And.intro @i2 (And.intro @m0 (And.intro @m1 (@m2)))))) ?_
   exact Again.mk (k+1) (by omega) (by omega) rfl (by rw[J3_ hk];rfl)
  ·obtain rfl:k=l.length:=by omega
   first|with_reducible refine ks [] (And.intro @JB_ @ln) ?_|refine kp (And.intro @JB_ @ln) ?_
   refine⟨_,(ke @JB_),trivial, ?_⟩
   rw[List.take_length];rfl
def idsB (l:List IdL):List UInt8:=(l.map IdL.l).flatten
theorem af1_ {l:List IdL} {k:Nat} (hk:k<l.length):idsB (l.take (k+1))=idsB (l.take k)++ (l.getD k id0).l:=by
 unfold idsB
 rw[List.take_succ_eq_append_getElem hk,List.map_append,List.flatten_append,List.getD_eq_getElem?_getD,List.getElem?_eq_getElem hk]
 simp
theorem adr_: ∀ (l:List IdL),(idsB l).length=l.length*32
 | []=>rfl
 |x::r=>by
  have h:=adr_ r
  have:=x.h
  unfold idsB at h ⊢
  rw[List.map_cons,List.flatten_cons,List.length_append,h,List.length_cons]
  omega
def aby_ (c:ComL):List UInt8:=c.tree.l++vq_ (qx_ c.par.length)
def comB (c:ComL):List UInt8:=aby_ c++idsB c.par++jP_ c.text
set_option linter.defProp false
def wL_:=And.intro (And.intro (And.intro (@akg_) (@ajc_)) (And.intro (@q4_) (And.intro (@zJ_) (@zI_)))) (And.intro (And.intro (@vY_) (@vZ_)) (And.intro (@v5_) (And.intro (@w6_) (@kd_))))
theorem J5_ (v:Value) (c:ComL) (w:World) (hv:ComS w v c) (hl:c.par.length<1000000) (ht:c.text.length<1099511627776):
  Rets Tryz.prog 135 #[v] w (fun v' D=>v'=vs (comB c)∧D= []):=by
 obtain⟨p,rfl,hp⟩:=hv
 obtain⟨b,off,arr,E,fz,hr⟩:=hp.row
 have ln:=hp.len
 have t2:=kg_ ht
 have t3:=zM_ (c.par.length:Int)
 have t4:=c.tree.h
 have t5: (aby_ c).length≤38:=by unfold aby_;rw[List.length_append];omega
 refine Rets.enterV Tryz.func135 rfl (rs:= [.tmp 2]) Tryz.results135 Tryz.ntmps135 ?_
 refine kf ?_
 first|with_reducible refine ks [] @wL_ ?_|refine kp @wL_ ?_
 refine Ow.box rfl rfl fun bx hbx hwx=> ?_
 simp only[zW_,zT_,z1_,ze_,List.nil_append,List.cons_append]
 refine Ow.go rfl ?_
 simp(disch:=(first|assumption|omega| (simp only[qF_,qC_,UInt64.reduceToNat];try omega))) only[↓Sx.S0,Sx.S1,Tryz.fx,wL_,Nat.reduceAdd,Nat.reducePow,Int.reducePow,Nat.reduceBEq, ↓reduceIte,UInt8.reduceToNat,UInt16.reduceToNat,UInt32.reduceToNat,UInt64.reduceToNat,Int.reduceToNat]
 first|with_reducible refine ks [] (And.intro @wL_ @ln) ?_|refine kp (And.intro @wL_ @ln) ?_
 refine Cw.regionS [bx] [0,3,1,4,5,2,6,7,8] [] (by kernel_rfl) (by kernel_rfl) (by kernel_rfl) ?_
 simp only[zh_, ↓zc_, ↓za_, ↓zk_, ↓zj_,zb_]
 refine kq (And.intro @wL_ @ln) ?_
 refine Ow.callFV rfl Tryz.call175 (fun w' hw'=>VR_ _ w') ?_
 refine kq (And.intro @wL_ @ln) ?_
 refine Ow.callFV rfl Tryz.call174 (fun w' hw'=>vU_ _ _ w' (Nat.le_refl _)) ?_
 refine kq (And.intro @wL_ @ln) ?_
 rw[show c.tree.l++vq_ (qx_ c.par.length)=aby_ c++idsB (c.par.take 0) by simp[aby_,idsB]]
 refine Cw.loopG (G:=Nat) [13,14,15,16,17,20,21,22,23,24,25,26,27,3,18,19,4] (fun g=> [(3,vs (aby_ c++idsB (c.par.take g))),(4,vi g)]) (fun g=> [(bx, .cells (qG_ c.tree p c.text).toArray 126 (0,0))]) (fun g=>g≤c.par.length) (fun g=>c.par.length - g) 0 rfl rfl ?_ ?_
 ·exact Nat.zero_le _
 ·intro k jk hk
  refine kv ?_
  have h1:k≤c.par.length:=hk
  clear hk
  have t6:=adr_ (c.par.take k)
  rw[List.length_take,Nat.min_eq_left h1] at t6
  by_cases hk:k<c.par.length
  ·have h0:0<c.par.length:=by omega
   have hbl:=hr.lt h0
   have hnb:bx≠b:=by omega
   have r2:=hr.has h0
   have i2:=hr.idx true k hk
   have l2:=JX_ hr hk
   have hxl:=(c.par.getD k id0).h
   first|with_reducible refine ks [] (And.intro @wL_ (And.intro @ln (And.intro @r2 (And.intro @i2 (@l2))))) ?_|refine kp (And.intro @wL_ (And.intro @ln (And.intro @r2 (And.intro @i2 (@l2))))) ?_
   refine Ow.callFV rfl Tryz.call175 (fun w' hw'=>VR_ _ w') ?_
   refine ko (And.intro @wL_ (And.intro @ln (And.intro @r2 (And.intro @i2 (@l2))))) ?_
   exact Again.mk (k+1) (by omega) (by omega) rfl (by rw[af1_ hk,←List.append_assoc];rfl)
  ·obtain rfl:k=c.par.length:=by omega
   rw[List.take_length]
   rw[List.take_length] at t6
   first|with_reducible refine ks [] (And.intro @wL_ @ln) ?_|refine kp (And.intro @wL_ @ln) ?_
   refine Ow.callFV rfl Tryz.call138 (fun w' hw'=>kJ_ _ w' ht) ?_
   refine ko @wL_ ?_
   refine⟨_,(ke @wL_),⟨hwx,trivial⟩, ?_⟩
   rfl
end Go.Proofs
end
section
open Go Go.Proofs Go.Sx Go.StP
namespace Go.Proofs
set_option maxRecDepth 10000
set_option maxHeartbeats 400000
set_option linter.unusedSimpArgs false
instance:DecidableEq EntL:=fun a b=>if h:a.name=b.name∧a.kind=b.kind∧a.id.l=b.id.l then .isTrue (by cases a;cases b;simp only at h;obtain⟨rfl,rfl,h3⟩:=h;rw[IdL.ext' h3]) else .isFalse (fun e=>h (by rw[e];exact⟨rfl,rfl,rfl⟩))
theorem EntL.ext' {a b:EntL} (h: (a.name==b.name&&a.kind==b.kind&&a.id.l==b.id.l)=true):a=b:=by
 simp only[Bool.and_eq_true,beq_iff_eq] at h
 cases a;cases b;simp only at h;obtain⟨⟨rfl,rfl⟩,h3⟩:=h;rw[IdL.ext' h3]
set_option linter.defProp false
end Go.Proofs
end
section
open Go Go.Proofs Go.Sx Go.StP
namespace Go.Proofs
set_option maxRecDepth 10000
set_option maxHeartbeats 400000
set_option linter.unusedSimpArgs false
set_option linter.defProp false
end Go.Proofs
end
section
open Go Go.Proofs Go.Sx Go.StP
namespace Go.Proofs
set_option maxRecDepth 10000
set_option maxHeartbeats 400000
set_option linter.unusedSimpArgs false
def vB_ (l:List UInt8):IdL:=if h:l.length=32 then⟨l,h⟩ else id0
theorem vg_ {l:List UInt8} (h:l.length=32): (vB_ l).l=l:=by unfold vB_;rw[dif_pos h]
theorem wV_ (s:List UInt8) (a:Nat) (e:Int): (idR s a e).1.length=32:=by
 unfold idR
 simp only
 split
 ·assumption
 ·simp[z32]
theorem Kz_ {s:List UInt8} {a:Nat} {e:Int} (ha:a≤s.length):a≤ (idR s a e).2.1∧(idR s a e).2.1≤s.length:=abC_ ha
theorem vn_ {s:List UInt8} {a:Nat} {e most:Int} (ha:a≤s.length):a≤ (ql_ s a e most).2.1∧(ql_ s a e most).2.1≤s.length:=by
 have hp:=xD_ (e:=e) (most:=most) ha
 have hq:=abC_ (e:=(qB_ s a e most).2.2) (n:=(qB_ s a e most).1) hp.2
 unfold ql_
 simp only
 split
 ·exact⟨Nat.le_refl _,ha⟩
 ·exact⟨by omega,hq.2⟩
theorem Jf_ (s:List UInt8) (a:Nat) (e most:Int): (ql_ s a e most).1.length≤s.length:=by
 have: ∀ (b:Nat) (e n:Int),(vA_ s b e n).1.length≤s.length:=by
  intro b e n
  unfold vA_
  split
  ·simp
  ·split
   ·simp
   ·split
    ·simp
    ·simp only[List.length_take,List.length_drop];omega
 unfold ql_
 simp only
 split
 ·simp
 ·exact this _ _ _
theorem ahS_ {s:List UInt8} {a:Nat} {e n:Int} (he:e≠0): (vA_ s a e n).2=(a,e):=by unfold vA_;rw[if_pos he]
theorem akI_ {s:List UInt8} {a:Nat} {e most:Int} (he:e≠0): (qB_ s a e most).2=(a,e):=by unfold qB_;rw[if_pos he]
theorem VC_ {s:List UInt8} {a:Nat} {e most:Int} (he:e≠0): (ql_ s a e most).2=(a,e):=by
 unfold ql_
 simp only[akI_ he,ahS_ he]
 rw[if_pos he]
theorem agv_ {s:List UInt8} {a:Nat} {e:Int} (he:e≠0): (idR s a e).2=(a,e):=by unfold idR;simp only[ahS_ he]
theorem ahp_ {s:List UInt8} {a:Nat} {e n:Int} (h:e≠5): (vA_ s a e n).2.2≠5:=by
 unfold vA_
 split
 ·exact h
 ·split
  ·show(2:Int)≠5;decide
  ·split
   ·show(3:Int)≠5;decide
   ·show(0:Int)≠5;decide
theorem ak3_ (most:Int): ∀ (l:List UInt8) (k n x:Nat),qc_ most l k n= .error x→x≠5:=by
 intro l
 induction l with
 |nil=>intro k n x h;unfold qc_ at h;cases h;decide
 |cons c r ih=>
  intro k n x h
  unfold qc_ at h
  split at h
  ·split at h
   ·cases h;decide
   ·exact ih _ _ _ h
  ·split at h
   ·cases h;decide
   ·split at h
    ·cases h
    ·cases h;decide
theorem agW_ (most:Int): ∀ (l:List UInt8) (k n:Nat),qc_ most l k n≠ .error 0:=by
 intro l
 induction l with
 |nil=>intro k n h;unfold qc_ at h;cases h
 |cons c r ih=>
  intro k n h
  unfold qc_ at h
  split at h
  ·split at h
   ·cases h
   ·exact ih _ _ h
  ·split at h
   ·cases h
   ·split at h
    ·cases h
    ·cases h
theorem afL_ {s:List UInt8} {a:Nat} {e most:Int} (h:e≠5): (qB_ s a e most).2.2≠5:=by
 unfold qB_
 split
 ·exact h
 ·split
  ·show(0:Int)≠5;decide
  ·rename_i x hx
   have:=ak3_ _ _ _ _ _ hx
   show((x:Nat):Int)≠5
   omega
theorem ak7_ {s:List UInt8} {a:Nat} {e most:Int} (h:e≠5): (ql_ s a e most).2.2≠5:=by
 unfold ql_
 simp only
 split
 ·exact ahp_ (afL_ h)
 ·exact ahp_ (afL_ h)
theorem aoa_ {s:List UInt8} {a:Nat} {e:Int} (h:e≠5): (idR s a e).2.2≠5:=by unfold idR;exact ahp_ h
theorem alA_ {s:List UInt8} {a:Nat} {e most:Int} (h: (qB_ s a e most).2.2=0):a< (qB_ s a e most).2.1:=by
 unfold qB_ at h ⊢
 split
 ·rename_i he
  rw[if_pos he] at h
  exact absurd h he
 ·rename_i he
  rw[if_neg he] at h
  split
  ·rename_i n k hk
   have:=Vk_ _ _ _ _ _ _ hk
   show a<a+k
   omega
  ·rename_i x hx
   rw[hx] at h
   exfalso
   have:x=0:=by have: ((x:Nat):Int)=0:=h;omega
   subst this
   exact agW_ _ _ _ _ hx
def QQ_ (s:List UInt8) (a:Nat) (e:Int):EntL×Nat×Int:=
 let p:=qB_ s a e 2
 let q:=ql_ s p.2.1 p.2.2 32
 let i:=idR s q.2.1 q.2.2
 (⟨q.1,p.1,vB_ i.1⟩,i.2)
theorem acz_ {s:List UInt8} {a:Nat} {e:Int} (ha:a≤s.length):a≤ (QQ_ s a e).2.1∧(QQ_ s a e).2.1≤s.length:=by
 have h1:=xD_ (e:=e) (most:=2) ha
 have h2:=vn_ (e:=(qB_ s a e 2).2.2) (most:=32) h1.2
 have h3:=Kz_ (e:=(ql_ s (qB_ s a e 2).2.1 (qB_ s a e 2).2.2 32).2.2) h2.2
 unfold QQ_
 exact⟨by simp only;omega,h3.2⟩
theorem am1_ {s:List UInt8} {a:Nat} {e:Int} (h:e≠5): (QQ_ s a e).2.2≠5:=aoa_ (ak7_ (afL_ h))
theorem afN_ {s:List UInt8} {a:Nat} {e:Int} (ha:a≤s.length) (h: (QQ_ s a e).2.2=0):a< (QQ_ s a e).2.1:=by
 have h1:=xD_ (e:=e) (most:=2) ha
 have h2:=vn_ (e:=(qB_ s a e 2).2.2) (most:=32) h1.2
 have h3:=Kz_ (e:=(ql_ s (qB_ s a e 2).2.1 (qB_ s a e 2).2.2 32).2.2) h2.2
 unfold QQ_ at h ⊢
 simp only at h ⊢
 have e2: (ql_ s (qB_ s a e 2).2.1 (qB_ s a e 2).2.2 32).2.2=0:=Decidable.byContradiction fun hn=>by rw[agv_ hn] at h;exact hn h
 have e1: (qB_ s a e 2).2.2=0:=Decidable.byContradiction fun hn=>by rw[VC_ hn] at e2;exact hn e2
 have:=alA_ e1
 omega
def ka_ (s:List UInt8):Nat→Nat→Int→List EntL→List EntL×Nat×Int
 |0,a,e,l=>(l,a,e)
 |n+1,a,e,l=>if e=0∧a<s.length then ka_ s n (QQ_ s a e).2.1 (QQ_ s a e).2.2 (l++ [(QQ_ s a e).1]) else(l,a,e)
theorem Zb_ {s:List UInt8} {n a:Nat} {e:Int} {l:List EntL} (h:e=0∧a<s.length):ka_ s (n+1) a e l=ka_ s n (QQ_ s a e).2.1 (QQ_ s a e).2.2 (l++ [(QQ_ s a e).1]):=by rw[ka_,if_pos h]
theorem v9_ {s:List UInt8} {n a:Nat} {e:Int} {l:List EntL} (h: ¬ (e=0∧a<s.length)):ka_ s n a e l=(l,a,e):=by
 cases n with
 |zero=>rfl
 |succ n=>rw[ka_,if_neg h]
def qS_ (s:List UInt8):List EntL×Nat×Int:=ka_ s (s.length+1) 0 0 []
structure EntsJ (s:List UInt8) (n a:Nat) (e:Int) (l:List EntL):Prop where
 go:qS_ s=ka_ s n a e l
 le:a≤s.length
 five:e≠5
 fuel:e=0→s.length<a+n
 cnt:l.length+n=s.length+1
 short: ∀i,i<l.length→(l.getD i ent0).name.length≤s.length
theorem EntsJ.init (s:List UInt8):EntsJ s (s.length+1) 0 0 []:=⟨rfl,Nat.zero_le _,by decide,fun _=>by omega,by simp,fun i hi=>by simp at hi⟩
theorem EntsJ.next {s:List UInt8} {n a:Nat} {e:Int} {l:List EntL} (h:EntsJ s n a e l) (hc:e=0∧a<s.length): ∃m,n=m+1∧EntsJ s m (QQ_ s a e).2.1 (QQ_ s a e).2.2 (l++ [(QQ_ s a e).1]):=by
 have:=h.fuel hc.1
 obtain⟨m,rfl⟩: ∃m,n=m+1:=⟨n - 1,by omega⟩
 refine⟨m,rfl,h.go.trans (Zb_ hc),(acz_ h.le).2,am1_ h.five,fun h0=> ?_, ?_,fun i hi=> ?_⟩
 ·have:=afN_ h.le h0;omega
 ·have:=h.cnt;simp only[List.length_append,List.length_cons,List.length_nil];omega
 ·by_cases hlt:i<l.length
  ·rw[k0_ hlt];exact h.short i hlt
  ·have:i=l.length:=by simp only[List.length_append,List.length_cons,List.length_nil] at hi;omega
   subst this
   rw[jC_ (Nat.le_refl _),Nat.sub_self]
   exact Jf_ _ _ _ _
theorem EntsJ.done {s:List UInt8} {n a:Nat} {e:Int} {l:List EntL} (h:EntsJ s n a e l) (hc: ¬ (e=0∧a<s.length)):qS_ s=(l,a,e):=h.go.trans (v9_ hc)
theorem EntsJ.sh {s:List UInt8} {n a:Nat} {e:Int} {l:List EntL} (h:EntsJ s n a e l) (hs:s.length<1000000):Ks_ l:=fun i hi=>by have:=h.short i hi;omega
end Go.Proofs
end
section
open Go Go.Proofs Go.Sx Go.StP
namespace Go.Proofs
set_option maxRecDepth 10000
set_option maxHeartbeats 400000
set_option linter.unusedSimpArgs false
theorem abd_:jn_ (wA_ Tryz.prog 117) (z8_ Tryz.prog 117) []=some (.agg (zR_ ent0).toArray):=by
 rw[show wA_ Tryz.prog 117=some [(0,1),(1,1),(2,32)] from id (by kernel_rfl),vM_];rfl
def KU_ (s:List UInt8):Option (List EntL):=if(qS_ s).2.2=0∧qO_ (qS_ s).1=true∧qm_ (qS_ s).1=s then some (qS_ s).1 else none
def adC_ (s:List UInt8) (v:Value) (D:zi_):Prop:=
 match KU_ s with
 |some l=> ∃v1,v= .tuple #[v1, .bool true]∧Gr D 117 34 v1 l.length (l.map zR_).flatten
 |none=>v= .tuple #[.slice none 0 0, .bool false]
structure EnG where
 n:Nat
 a:Nat
 e:Int
 l:List EntL
 v:Value
 D:zi_
set_option linter.defProp false
def q5_:=And.intro (And.intro (And.intro (@xK_) (And.intro (@xP_) (@xW_))) (And.intro (@xc_) (And.intro (@xh_) (@jm_)))) (And.intro (And.intro (@Kh_) (And.intro (@Ka_) (@KC_))) (And.intro (And.intro (@qk_) (@qh_)) (And.intro (@zJ_) (@zI_))))
theorem ZC_ (s:List UInt8) (w:World) (hs:s.length<100000):
  Rets Tryz.prog 68 #[vs s] w (XS w [] (adC_ s)):=by
 refine Rets.enterX Tryz.func68 rfl (rs:= [.tmp 2, .tmp 3]) Tryz.results68 Tryz.ntmps68 (fun p hp=>by cases hp) (by simp[keys]) ?_
 refine kf ?_
 first|with_reducible refine ks [] @q5_ ?_|refine kp @q5_ ?_
 refine Ow.build ((.agg #[vs s,vi 0,vi 0])) rfl (by kernel_rfl) ?_
 refine ko @q5_ ?_
 refine Ow.box rfl rfl fun br hbr hwr=> ?_
 simp only[zW_,zT_,z1_,ze_,List.nil_append]
 refine ko @q5_ ?_
 refine Cw.loopG (G:=EnG) [10,11,12,13,14,15,16,17,18,19,20,21,22,23,24,6,25,26,27,28,29,30,31,32,33,34,35,36,37,5] (fun q=> [(5,q.v)]) (fun q=>(br, .cells #[vs s,vi q.a,vi q.e] 243 (0,0))::q.D) (fun q=>EntsJ s q.n q.a q.e q.l∧New (br+1) q.D∧Gr q.D 117 34 q.v q.l.length (q.l.map zR_).flatten) (fun q=>q.n) ⟨s.length+1,0,0,[], .slice none 0 0,[]⟩ rfl rfl ?_ ?_
 ·exact⟨EntsJ.init s,trivial,Gr.nl⟩
 ·intro q jq hq
  refine kv ?_
  obtain⟨n,a,e,l,v,D⟩:=q
  simp only at hq ⊢
  obtain⟨hJ,hN,hG⟩:=hq
  have hle:=hJ.le
  by_cases hc:e=0∧a<s.length
  ·obtain⟨m,rfl,hJ'⟩:=hJ.next hc
   obtain⟨he,hlt⟩:=hc
   have d1: (e==0)=true:=by simp[he]
   have d2:decide ((a:Int)< (s.length:Int))=true:=decide_eq_true (by omega)
   have hp:=xD_ (e:=e) (most:=2) hle
   have hq:=vn_ (e:=(qB_ s a e 2).2.2) (most:=32) hp.2
   have heq:QQ_ s a e=(⟨(ql_ s (qB_ s a e 2).2.1 (qB_ s a e 2).2.2 32).1,(qB_ s a e 2).1,vB_ (idR s (ql_ s (qB_ s a e 2).2.1 (qB_ s a e 2).2.2 32).2.1 (ql_ s (qB_ s a e 2).2.1 (qB_ s a e 2).2.2 32).2.2).1⟩,(idR s (ql_ s (qB_ s a e 2).2.1 (qB_ s a e 2).2.2 32).2.1 (ql_ s (qB_ s a e 2).2.1 (qB_ s a e 2).2.2 32).2.2).2):=rfl
   have hil:=wV_ s (ql_ s (qB_ s a e 2).2.1 (qB_ s a e 2).2.2 32).2.1 (ql_ s (qB_ s a e 2).2.1 (qB_ s a e 2).2.2 32).2.2
   first|with_reducible refine ks [] (And.intro @q5_ (And.intro @d1 (@d2))) ?_|refine kp (And.intro @q5_ (And.intro @d1 (@d2))) ?_
   refine Ow.build (.agg (zR_ ent0).toArray) rfl abd_ ?_
   refine ko @q5_ ?_
   refine Ow.alloc rfl rfl vM_ fun b6 hb6 hw6=> ?_
   simp only[ze_,List.nil_append,List.cons_append]
   have hr6:br<b6:=zf_ hb6 (by simp[keys])
   refine Ow.permL (M:=(b6,Obj.cells (zR_ ent0).toArray 117 (0,0)):: (br, .cells #[vs s,vi a,vi e] 243 (0,0))::D) (by classical exact List.perm_iff_count.2 fun a=>by simp only[List.count_append,List.count_cons,List.count_nil]<;>omega) ?_
   refine ko @q5_ ?_
   refine Ow.callM rfl rfl Tryz.call128 (by simp[keys]) (fun w' hw'=>kE_ br s a e 2 w' hle (by omega) (hw'.has _ _ (List.mem_cons_of_mem _ List.mem_cons_self))) ?_
   generalize qB_ s a e 2=p at*
   obtain⟨kd,a1,e1⟩:=p
   simp only at hp hq heq hil ⊢
   refine kn ?_
   refine ko @q5_ ?_
   first|with_reducible refine ks [] @q5_ ?_|refine kp @q5_ ?_
   refine Ow.callM rfl rfl Tryz.call129 (by simp[keys]) (fun w' hw'=>Qw_ br s a1 e1 32 w' hp.2 (by omega) (hw'.has _ _ (List.mem_cons_of_mem _ List.mem_cons_self))) ?_
   generalize ql_ s a1 e1 32=q at*
   obtain⟨tt,a2,e2⟩:=q
   simp only at hq heq hil ⊢
   refine kn ?_
   refine ko @q5_ ?_
   first|with_reducible refine ks [] @q5_ ?_|refine kp @q5_ ?_
   refine Ow.callM rfl rfl Tryz.call130 (by simp[keys]) (fun w' hw'=>Z7_ br s a2 e2 w' hq.2 (by omega) (hw'.has _ _ (List.mem_cons_of_mem _ List.mem_cons_self))) ?_
   generalize idR s a2 e2=i at*
   obtain⟨il,a3,e3⟩:=i
   simp only at heq hil ⊢
   obtain⟨I,hI⟩: ∃I,vB_ il=I:=⟨_,rfl⟩
   have hiI:il=I.l:=by rw[←hI,vg_ hil]
   rw[hI] at heq
   rw[hiI]
   refine kn ?_
   refine ko @q5_ ?_
   generalize hx: ({name:=tt,kind:=kd,id:=I}:EntL)=x
   rw[hx] at heq
   rw[heq] at hJ'
   refine Ow.buildSlice (e:=117) (zR_ x).toArray rfl rfl (qu_ Tryz.underlying122 Jr_ vM_ (by decide) (zZ_ x)) fun b13 hb13 hw13=> ?_
   have hr13:br<b13:=zf_ hb13 (by simp[keys])
   refine Ow.permL (M:=D++ ((b6,Obj.cells (zR_ x).toArray 117 (0,0)):: (br, .cells #[vs s,vi a3,vi e3] 243 (0,0)):: [(b13,Obj.cells (zR_ x).toArray 117 (0,0))])) (by classical exact List.perm_iff_count.2 fun a=>by simp only[List.count_append,List.count_cons,List.count_nil]<;>omega) ?_
   refine ko @q5_ ?_
   refine Ow.appendX (e:=117) (k:=1) (new:=zR_ x) (X:=D) v rfl rfl rfl rfl Tryz.underlying122 Jr_ (by kernel_rfl) vM_ (by rw[qh_,List.size_toArray,zZ_]) Tryz.underlying122 (by intro k h;cases h) hG (fun w' hw'=>AppX.one1 (hw'.has b13 (.cells (zR_ x).toArray 117 (0,0)) (by simp)) (zZ_ _) (Zl_ _)) (by omega) (by have:=hJ.cnt;omega) (fun B v4 D4 hA4 hB4 hbuf hk1 hk2 hlk=> ?_)
   have hB13:b13<B:=zf_ hA4 (by simp[zd_,keys])
   have hN4:New (br+1) D4:=New.of_le fun q hq=>by
    rcases hk2 q hq with h|h
    ·exact hN.le q h
    ·omega
   refine Ow.permL (M:=(br, .cells #[vs s,vi a3,vi e3] 243 (0,0)):: (D4++ [(b6,Obj.cells (zR_ x).toArray 117 (0,0)),(b13,Obj.cells (zR_ x).toArray 117 (0,0))])) (by classical exact List.perm_iff_count.2 fun a=>by simp only[List.count_append,List.count_cons,List.count_nil]<;>omega) ?_
   refine ko @q5_ ?_
   refine Again.mk (EnG.mk m a3 e3 (l++ [x]) v4 (D4++ [(b6,Obj.cells (zR_ x).toArray 117 (0,0)),(b13,Obj.cells (zR_ x).toArray 117 (0,0))])) (by show m<m+1;omega) ⟨hJ',hN4.app ⟨by omega,by omega,trivial⟩, ?_⟩ rfl rfl
   show Gr _ _ _ _ (l++ [x]).length ((l++ [x]).map zR_).flatten
   rw[List.length_append,List.map_append,List.flatten_append,show([x].map zR_).flatten=zR_ x by simp]
   exact Gr.app (.inl hbuf)
  ·have hd:=hJ.done hc
   have hsh:=hJ.sh (by omega)
   have hcn:=hJ.cnt
   have hR:KU_ s=if e=0∧qO_ l=true∧qm_ l=s then some l else none:=by unfold KU_;rw[hd]
   unfold adC_
   rw[hR]
   have hNe:New w.heap.size ((br,Obj.cells #[vs s,vi a,vi e] 243 (0,0))::D):=⟨hwr,New.mono (by omega) hN⟩
   by_cases he:e=0
   ·have d1: (e==0)=true:=by simp[he]
    have d2:decide ((a:Int)< (s.length:Int))=false:=decide_eq_false (by omega)
    have hend: (if e≠0 then e else if(a:Int)< (s.length:Int) then 5 else 0)=(0:Int):=by rw[if_neg (by simp[he]),if_neg (by omega)]
    first|with_reducible refine ks [] (And.intro @q5_ (And.intro @d1 (@d2))) ?_|refine kp (And.intro @q5_ (And.intro @d1 (@d2))) ?_
    refine Ow.callFV rfl Tryz.call131 (fun w' hw'=>wQ_ br s a e w' (hw'.has _ _ (by simp))) ?_
    rw[hend]
    have d4: ((0:Int) !=0)=false:=rfl
    refine ko (And.intro @q5_ @d4) ?_
    refine Ow.callFV rfl Tryz.call132 (fun w' hw'=>XW_ v l w' (hG.slM (fun b o hm=>hw'.has b o (by simp[hm])) rfl rfl zZ_) (by omega) hsh) ?_
    cases hr:qO_ l
    ·rw[if_neg (by simp)]
     refine ko @q5_ ?_
     first|with_reducible refine ks [] @q5_ ?_|refine kp @q5_ ?_
     refine⟨_,(ke @q5_), ?_⟩
     exact⟨Ext.of_new hNe,rfl⟩
    ·refine ko @q5_ ?_
     refine Ow.callFV rfl Tryz.call133 (fun w' hw'=>K1_ v l w' (hG.slM (fun b o hm=>hw'.has b o (by simp[hm])) rfl rfl zZ_) (by omega) hsh) ?_
     by_cases hb:qm_ l=s
     ·have d3: (qm_ l !=s)=false:=by simp[hb]
      rw[if_pos ⟨he,rfl,hb⟩]
      refine ko (And.intro @q5_ @d3) ?_
      first|with_reducible refine ks [] @q5_ ?_|refine kp @q5_ ?_
      refine⟨_,(ke @q5_), ?_⟩
      exact⟨Ext.of_new hNe,v,rfl,hG.keep fun b o hb ho=>by rw[Sx.look,if_neg (by have:=hN.le b (zn_ ho);omega)];exact ho⟩
     ·have d3: (qm_ l !=s)=true:=by simp[hb]
      rw[if_neg (fun h=>hb h.2.2)]
      refine ko (And.intro @q5_ @d3) ?_
      first|with_reducible refine ks [] @q5_ ?_|refine kp @q5_ ?_
      refine⟨_,(ke @q5_), ?_⟩
      exact⟨Ext.of_new hNe,rfl⟩
   ·have d1: (e==0)=false:=by simp[he]
    have d3: (e !=0)=true:=by simp[he]
    have hend: (if e≠0 then e else if(a:Int)< (s.length:Int) then 5 else 0)=e:=by rw[if_pos he]
    rw[if_neg (fun h=>he h.1)]
    first|with_reducible refine ks [] (And.intro @q5_ @d1) ?_|refine kp (And.intro @q5_ @d1) ?_
    refine Ow.callFV rfl Tryz.call131 (fun w' hw'=>wQ_ br s a e w' (hw'.has _ _ (by simp))) ?_
    rw[hend]
    refine ko (And.intro @q5_ @d3) ?_
    first|with_reducible refine ks [] @q5_ ?_|refine kp @q5_ ?_
    refine⟨_,(ke @q5_), ?_⟩
    exact⟨Ext.of_new hNe,rfl⟩
end Go.Proofs
end
section
open Go Go.Proofs Go.Sx Go.StP
namespace Go.Proofs
set_option maxRecDepth 10000
set_option maxHeartbeats 400000
set_option linter.unusedSimpArgs false
theorem wH_ (most:Int): ∀ (l:List UInt8) (k n m k':Nat),qc_ most l k n= .ok (m,k')→(m:Int)≤most
 | [],_,_,_,_,h=>by simp[qc_] at h
 |c::r,k,n,m,k',h=>by
  unfold qc_ at h
  split at h
  ·split at h
   ·cases h
   ·exact wH_ most r _ _ _ _ h
  ·split at h
   ·cases h
   ·split at h
    ·rename_i hh
     cases h
     exact hh.2
    ·cases h
theorem Qb_ {s:List UInt8} {a:Nat} {e most:Int} (h0:0≤most):0≤ (qB_ s a e most).1∧(qB_ s a e most).1≤most:=by
 unfold qB_
 split
 ·exact⟨Int.le_refl 0,h0⟩
 ·split
  ·rename_i n k h
   exact⟨Int.natCast_nonneg _,wH_ most _ _ _ _ _ h⟩
  ·exact⟨Int.le_refl 0,h0⟩
def zQ_ (s:List UInt8) (a:Nat) (e:Int):Nat→List IdL×Nat×Int
 |0=>([],a,e)
 |n+1=>let p:=zQ_ s a e n;let i:=idR s p.2.1 p.2.2;(p.1++ [vB_ i.1],i.2)
theorem vI_ (s:List UInt8) (a:Nat) (e:Int): ∀n,(zQ_ s a e n).1.length=n
 |0=>rfl
 |n+1=>by simp only[zQ_,List.length_append,List.length_cons,List.length_nil,vI_ s a e n]
theorem Zv_ {s:List UInt8} {a:Nat} {e:Int} (ha:a≤s.length): ∀n,(zQ_ s a e n).2.1≤s.length
 |0=>ha
 |n+1=>(Kz_ (Zv_ ha n)).2
def comN (s:List UInt8):Int×Nat×Int:=qB_ s (idR s 0 0).2.1 (idR s 0 0).2.2 4
def vy_ (s:List UInt8):List IdL×Nat×Int:=zQ_ s (comN s).2.1 (comN s).2.2 (comN s).1.toNat
def comT (s:List UInt8):List UInt8×Nat×Int:=ql_ s (vy_ s).2.1 (vy_ s).2.2 64
def kk_ (s:List UInt8):ComL×Nat×Int:=(⟨vB_ (idR s 0 0).1,(vy_ s).1,(comT s).1⟩,(comT s).2)
def wd_ (s:List UInt8) (a:Nat) (e:Int):Int:=if e≠0 then e else if(a:Int)< (s.length:Int) then 5 else 0
def Vp_ (s:List UInt8):Option ComL:=if wd_ s (kk_ s).2.1 (kk_ s).2.2=0∧v3_ (kk_ s).1=true∧comB (kk_ s).1=s then some (kk_ s).1 else none
theorem VP_ (s:List UInt8): (kk_ s).1.par.length≤4:=by
 show(vy_ s).1.length≤4
 unfold vy_
 rw[vI_]
 have:=Qb_ (s:=s) (a:=(idR s 0 0).2.1) (e:=(idR s 0 0).2.2) (most:=4) (by decide)
 unfold comN
 omega
theorem ad8_ (t x:IdL) (p:Value) (y:List UInt8) (a:Bool) (E:TypeId):zs_ (some (a,32)) (some (.cells (qG_ t p y).toArray E (0,0))) 0 (.agg (a8 x.l))=some (.cells (qG_ x p y).toArray E (0,0)):=
 jz_ [] _ _ _ a _ E rfl (by simp[t.h]) (ze_ _) (by simp[x.h]) (Qf_ _)
theorem aeQ_ (t:IdL) (p q:Value) (y:List UInt8) (a:Bool) (E:TypeId) (hq:Value.oneCell' q=true∧q.cells= #[q]):zs_ (some (a,1)) (some (.cells (qG_ t p y).toArray E (0,0))) 32 q=some (.cells (qG_ t q y).toArray E (0,0)):=
 jz_ (t.l.map v8) [p] [q] [vs y] a _ E (by simp[t.h]) rfl hq.2 rfl (by simp[hq.1])
theorem aee_ (t:IdL) (p:Value) (y z:List UInt8) (a:Bool) (E:TypeId):zs_ (some (a,1)) (some (.cells (qG_ t p y).toArray E (0,0))) 33 (vs z)=some (.cells (qG_ t p z).toArray E (0,0)):=by
 have e: ∀y,qG_ t p y=(t.l.map v8++ [p])++ ([vs y]++ []):=fun y=>by unfold qG_;simp only[List.append_assoc,List.append_nil]
 rw[e,e];exact jz_ _ _ _ _ a _ E (by simp[t.h]) rfl rfl rfl rfl
theorem ahL_:z8_ Tryz.prog 126=some (.agg (qG_ id0 (.slice none 0 0) []).toArray):=id (by kernel_rfl)
theorem wk_:jn_ (wA_ Tryz.prog 126) (z8_ Tryz.prog 126) []=some (.agg (qG_ id0 (.slice none 0 0) []).toArray):=by
 rw[show wA_ Tryz.prog 126=some [(0,32),(32,1),(33,1)] from id (by kernel_rfl),ahL_];rfl
theorem Kt_:zU_ Tryz.prog 24=some (true,32):=id (by kernel_rfl)
theorem Qz_:z8_ Tryz.prog 24=some (.agg (a8 id0.l)):=id (by kernel_rfl)
end Go.Proofs
end
section
open Go Go.Proofs Go.Sx Go.StP
namespace Go.Proofs
set_option maxRecDepth 10000
set_option maxHeartbeats 400000
set_option linter.unusedSimpArgs false
theorem Zq_ {b:Nat} {x:Obj}: ∀ {D L:zi_},b∉keys D→setB (D++L) b x=D++setB L b x
 | [],_,_=>rfl
 | (c,y)::r,L,h=>by
  simp only[keys,List.map_cons,List.mem_cons,not_or] at h
  rw[List.cons_append,z6_ _ _ _ _ _ (Ne.symm h.1),Zq_ (by simpa [keys] using h.2)];rfl
def adM_ (s:List UInt8) (v:Value) (D:zi_):Prop:=
 match Vp_ s with
 |some c=> ∃p,v= .tuple #[.agg (qG_ c.tree p c.text).toArray, .bool true]∧Gr D 24 32 p c.par.length (c.par.map z4_).flatten
 |none=>v= .tuple #[.agg (qG_ id0 (.slice none 0 0) []).toArray, .bool false]
theorem aaO_ (b:Nat) (s:List UInt8) (a:Nat) (e:Int) (w:World) (ho:w.heap[b]? =some (.cells #[vs s,vi a,vi e] 243 (0,0))):
  Rets Tryz.prog 131 #[vp b 0] w (fun v D=>v=vi (wd_ s a e)∧D= []):=wQ_ b s a e w ho
structure CmG where
 g:Nat
 v:Value
 D:zi_
set_option linter.defProp false
def qT_:=And.intro (And.intro (And.intro (@xK_) (And.intro (@xP_) (@xW_))) (And.intro (And.intro (@xc_) (@xh_)) (And.intro (@vY_) (@vZ_)))) (And.intro (And.intro (@v5_) (And.intro (@w6_) (@kd_))) (And.intro (And.intro (@ad8_) (@aee_)) (And.intro (@zJ_) (@zI_))))
theorem Zp_ (s:List UInt8) (w:World) (hs:s.length<100000):
  Rets Tryz.prog 69 #[vs s] w (XS w [] (adM_ s)):=by
 refine Rets.enterX Tryz.func69 rfl (rs:= [.cell 2 126, .tmp 3]) Tryz.results69 Tryz.ntmps69 (fun p hp=>by cases hp) (by simp[keys]) ?_
 refine kf ?_
 first|with_reducible refine ks [] @qT_ ?_|refine kp @qT_ ?_
 refine Ow.alloc rfl rfl ahL_ fun b2 hb2 hw2=> ?_
 simp only[ze_,List.nil_append,List.cons_append]
 refine ko @qT_ ?_
 refine Ow.build ((.agg #[vs s,vi 0,vi 0])) rfl (by kernel_rfl) ?_
 refine ko @qT_ ?_
 refine Ow.box rfl rfl fun br hbr hwr=> ?_
 have h2r:b2<br:=zf_ hbr (by simp[keys])
 simp only[zW_,zT_,z1_,ze_,List.nil_append,List.cons_append]
 refine ko @qT_ ?_
 refine Ow.build (.agg (qG_ id0 (.slice none 0 0) []).toArray) rfl wk_ ?_
 refine ko @qT_ ?_
 refine Ow.alloc rfl rfl ahL_ fun b5 hb5 hw5=> ?_
 simp only[ze_,List.nil_append,List.cons_append]
 have h25:b2<b5:=zf_ hb5 (by simp[keys])
 have hr5:br<b5:=zf_ hb5 (by simp[keys])
 have st5: ∀a E,zs_ (some (a,34)) (some (.cells (qG_ id0 (.slice none 0 0) []).toArray E (0,0))) 0 (.agg (qG_ id0 (.slice none 0 0) []).toArray)=some (.cells (qG_ id0 (.slice none 0 0) []).toArray E (0,0)):=fun a E=>ZH_ _ _ _ _ a E (by rw[List.size_toArray,vo_]) rfl
 refine ko (And.intro @qT_ @st5) ?_
 refine Ow.callM rfl rfl Tryz.call130 (by simp[keys]) (fun w' hw'=>Z7_ br s 0 0 w' (Nat.zero_le _) (by omega) (hw'.has _ _ (List.mem_cons_of_mem _ List.mem_cons_self))) ?_
 have ip:=Kz_ (s:=s) (a:=0) (e:=0) (Nat.zero_le _)
 have np:=xD_ (e:=(idR s 0 0).2.2) (most:=4) ip.2
 have nm:=Qb_ (s:=s) (a:=(idR s 0 0).2.1) (e:=(idR s 0 0).2.2) (most:=4) (by decide)
 obtain⟨T,hT⟩: ∃T,vB_ (idR s 0 0).1=T:=⟨_,rfl⟩
 have hiT: (idR s 0 0).1=T.l:=by rw[←hT,vg_ (wV_ s 0 0)]
 have hcE:kk_ s=(⟨T,(vy_ s).1,(comT s).1⟩,(comT s).2):=by unfold kk_;rw[hT]
 rw[hiT]
 refine kn ?_
 refine ko @qT_ ?_
 refine Ow.callM rfl rfl Tryz.call128 (by simp[keys]) (fun w' hw'=>kE_ br s _ _ 4 w' ip.2 (by omega) (hw'.has _ _ (List.mem_cons_of_mem _ List.mem_cons_self))) ?_
 have hP:vy_ s=zQ_ s (qB_ s (idR s 0 0).2.1 (idR s 0 0).2.2 4).2.1 (qB_ s (idR s 0 0).2.1 (idR s 0 0).2.2 4).2.2 (qB_ s (idR s 0 0).2.1 (idR s 0 0).2.2 4).1.toNat:=rfl
 generalize qB_ s (idR s 0 0).2.1 (idR s 0 0).2.2 4=nr at*
 obtain⟨cn,na,ne⟩:=nr
 simp only at np nm hP ⊢
 obtain⟨k,rfl⟩:=Int.eq_ofNat_of_zero_le nm.1
 rw[Int.toNat_natCast] at hP
 refine kn ?_
 refine ko @qT_ ?_
 refine Cw.permL (M:=(b5, .cells (qG_ T (.slice none 0 0) []).toArray 126 (0,0)):: (br, .cells #[vs s,vi na,vi ne] 243 (0,0)):: (b2, .cells (qG_ id0 (.slice none 0 0) []).toArray 126 (0,0)):: []) (by classical exact List.perm_iff_count.2 fun a=>by simp only[List.count_append,List.count_cons,List.count_nil]<;>omega) ?_
 refine Cw.loopG (G:=CmG) [17,18,19,22,23,24,25,26,27,28,20,21,7] (fun q=> [(7,vi q.g)]) (fun q=>(b5, .cells (qG_ T q.v []).toArray 126 (0,0)):: (br, .cells #[vs s,vi (zQ_ s na ne q.g).2.1,vi (zQ_ s na ne q.g).2.2] 243 (0,0)):: (b2, .cells (qG_ id0 (.slice none 0 0) []).toArray 126 (0,0))::q.D) (fun q=>q.g≤k∧New (b5+1) q.D∧Gr q.D 24 32 q.v q.g ((zQ_ s na ne q.g).1.map z4_).flatten) (fun q=>k - q.g) ⟨0, .slice none 0 0,[]⟩ rfl rfl ?_ ?_
 ·exact⟨Nat.zero_le _,trivial,Gr.nl⟩
 ·intro q jq hq
  refine kv ?_
  obtain⟨g,v,D⟩:=q
  simp only at hq ⊢
  obtain⟨hgk,hN,hG⟩:=hq
  have gle:=Zv_ (e:=ne) np.2 g
  by_cases hlt:g<k
  ·have hgs:zQ_ s na ne (g+1)=((zQ_ s na ne g).1++ [vB_ (idR s (zQ_ s na ne g).2.1 (zQ_ s na ne g).2.2).1],(idR s (zQ_ s na ne g).2.1 (zQ_ s na ne g).2.2).2):=rfl
   first|with_reducible refine ks [7] @qT_ ?_|refine kp @qT_ ?_
   refine Cw.regionS [b5] [0,2,1,3,4,5,6,7] [7] (by kernel_rfl) (by kernel_rfl) (by kernel_rfl) ?_
   simp only[zh_, ↓zc_, ↓za_, ↓zk_, ↓zj_,zb_]
   refine kq @qT_ ?_
   refine Ow.soft rfl rfl rfl ?_
   refine Ow.callM rfl rfl Tryz.call130 (by simp[keys]) (fun w' hw'=>Z7_ br s (zQ_ s na ne g).2.1 (zQ_ s na ne g).2.2 w' gle (by omega) (hw'.has _ _ (List.mem_cons_of_mem _ List.mem_cons_self))) ?_
   with_reducible refine Ow.nil ?_
   refine⟨fun b hb=>jY_ (by simp only[List.mem_cons,List.not_mem_nil,or_false] at hb;omega), ?_⟩
   have hil:=wV_ s (zQ_ s na ne g).2.1 (zQ_ s na ne g).2.2
   obtain⟨I,hI⟩: ∃I,vB_ (idR s (zQ_ s na ne g).2.1 (zQ_ s na ne g).2.2).1=I:=⟨_,rfl⟩
   have hiI: (idR s (zQ_ s na ne g).2.1 (zQ_ s na ne g).2.2).1=I.l:=by rw[←hI,vg_ hil]
   rw[hI] at hgs
   have hg1: (zQ_ s na ne (g+1)).1=(zQ_ s na ne g).1++ [I]:=by rw[hgs]
   have hg2: (zQ_ s na ne (g+1)).2=(idR s (zQ_ s na ne g).2.1 (zQ_ s na ne g).2.2).2:=by rw[hgs]
   rw[hiI,←hg2]
   refine kn ?_
   refine Ow.soft rfl rfl rfl ?_
   refine Ow.buildSlice (e:=24) (a8 I.l) rfl rfl (qu_ (cs:=I.l.map v8) Tryz.underlying30 Kt_ Qz_ (by decide) (by simp[I.h])) fun b13 hb13 hw13=> ?_
   have hr13:b5<b13:=zf_ hb13 (by simp[keys])
   with_reducible refine Ow.nil ?_
   refine⟨zq_ (by simp[keys]), ?_⟩
   try simp only[List.cons_append,List.nil_append]
   refine Ow.soft rfl rfl rfl ?_
   refine Ow.permL (M:=D++ ((b5,Obj.cells (qG_ T v []).toArray 126 (0,0)):: (br,Obj.cells #[vs s,vi (zQ_ s na ne (g+1)).2.1,vi (zQ_ s na ne (g+1)).2.2] 243 (0,0)):: (b2,Obj.cells (qG_ id0 (.slice none 0 0) []).toArray 126 (0,0)):: [(b13,Obj.cells (a8 I.l) 24 (0,0))])) (by classical exact List.perm_iff_count.2 fun a=>by simp only[List.count_append,List.count_cons,List.count_nil]<;>omega) ?_
   refine Ow.appendX (e:=24) (k:=1) (new:=z4_ I) (X:=D) v rfl rfl rfl rfl Tryz.underlying30 Kt_ (by kernel_rfl) Qz_ (by rw[ze_,wU_,id0.h]) Tryz.underlying30 (by intro k h;cases h) hG (fun w' hw'=>AppX.one1 (hw'.has b13 (.cells (a8 I.l) 24 (0,0)) (by simp)) (ki_ I) (V1_ I)) (by omega) (by omega) (fun B v4 D4 hA4 hB4 hbuf hk1 hk2 hlk=> ?_)
   have hB13:b13<B:=zf_ hA4 (by simp[zd_,keys])
   have hN4:New (b5+1) D4:=New.of_le fun q hq=>by
    rcases hk2 q hq with h|h
    ·exact hN.le q h
    ·omega
   have h54:b5∉keys D4:=hN4.not (by omega)
   with_reducible refine Ow.nil ?_
   refine⟨fun q hq=> ?_, ?_⟩
   ·rw[List.mem_singleton] at hq
    subst hq
    rw[kQ_ h54]
    simp only[zV_]
   have hlk5: ∀M,Sx.look (D4++M) b5=Sx.look M b5:=fun M=>z3_ h54
   have hsb5: ∀M x,setB (D4++M) b5 x=D4++setB M b5 x:=fun M x=>Zq_ h54
   have st5:=fun a E=>aeQ_ T v v4 [] a E hbuf.cell
   refine kq (And.intro @qT_ (And.intro @hlk5 (And.intro @hsb5 (And.intro @st5 (@wD_))))) ?_
   have hst7:xp_ (zU_ Tryz.prog 30) (D4++ [(b5,Obj.cells (qG_ T v []).toArray 126 (0,0)),(br,Obj.cells #[vs s,vi (zQ_ s na ne (g+1)).2.1,vi (zQ_ s na ne (g+1)).2.2] 243 (0,0)),(b2,Obj.cells (qG_ id0 (.slice none 0 0) []).toArray 126 (0,0)),(b13,Obj.cells (a8 I.l) 24 (0,0))]) (vp b5 32) v4=
     some (D4++ [(b5,Obj.cells (qG_ T v4 []).toArray 126 (0,0)),(br,Obj.cells #[vs s,vi (zQ_ s na ne (g+1)).2.1,vi (zQ_ s na ne (g+1)).2.2] 243 (0,0)),(b2,Obj.cells (qG_ id0 (.slice none 0 0) []).toArray 126 (0,0)),(b13,Obj.cells (a8 I.l) 24 (0,0))]):=by
    rw[Tryz.ag30,xv_,hlk5]
    simp only[zH_,st5,kv_,hsb5,qt_]
   refine Ow.store rfl rfl rfl hst7 ?_
   refine ko @qT_ ?_
   refine Cw.permL (M:=(b5,Obj.cells (qG_ T v4 []).toArray 126 (0,0)):: (br,Obj.cells #[vs s,vi (zQ_ s na ne (g+1)).2.1,vi (zQ_ s na ne (g+1)).2.2] 243 (0,0)):: (b2,Obj.cells (qG_ id0 (.slice none 0 0) []).toArray 126 (0,0)):: (D4++ [(b13,Obj.cells (a8 I.l) 24 (0,0))])) (by classical exact List.perm_iff_count.2 fun a=>by simp only[List.count_append,List.count_cons,List.count_nil]<;>omega) ?_
   first|with_reducible refine ks [] @qT_ ?_|refine kp @qT_ ?_
   refine Again.mk (CmG.mk (g+1) v4 (D4++ [(b13,Obj.cells (a8 I.l) 24 (0,0))])) (by show k - (g+1)<k - g;omega) ⟨by show g+1≤k;omega,hN4.app ⟨by omega,trivial⟩, ?_⟩ rfl rfl
   show Gr _ _ _ _ (g+1) ((zQ_ s na ne (g+1)).1.map z4_).flatten
   rw[hg1,List.map_append,List.flatten_append,show([I].map z4_).flatten=z4_ I by simp]
   exact Gr.app (.inl hbuf)
  ·obtain rfl:g=k:=by omega
   rw[←hP] at hG
   rw[←hP] at gle
   rw[←hP]
   have tp:=vn_ (e:=(vy_ s).2.2) (most:=64) gle
   first|with_reducible refine ks [] @qT_ ?_|refine kp @qT_ ?_
   refine Ow.callM rfl rfl Tryz.call129 (by simp[keys]) (fun w' hw'=>Qw_ br s (vy_ s).2.1 (vy_ s).2.2 64 w' gle (by omega) (hw'.has _ _ (List.mem_cons_of_mem _ List.mem_cons_self))) ?_
   refine kn ?_
   refine ko @qT_ ?_
   have hT2:comT s=ql_ s (vy_ s).2.1 (vy_ s).2.2 64:=rfl
   have htl:=Jf_ s (vy_ s).2.1 (vy_ s).2.2 64
   rw[hT2] at hcE
   generalize ql_ s (vy_ s).2.1 (vy_ s).2.2 64=tx at*
   obtain⟨tt,a3,e3⟩:=tx
   simp only at tp hcE htl ⊢
   have hPl: (vy_ s).1.length=g:=by rw[hP,vI_]
   generalize (vy_ s).1=pl at*
   have hg4:g≤4:=by omega
   have hC: ∀w',Hp w ((b5,Obj.cells (qG_ T v tt).toArray 126 (0,0)):: (br, .cells #[vs s,vi a3,vi e3] 243 (0,0)):: (b2,Obj.cells (qG_ id0 (.slice none 0 0) []).toArray 126 (0,0))::D) w'→ComS w' (.agg (qG_ T v tt).toArray) ⟨T,pl,tt⟩:=fun w' hw'=>
    ⟨v,rfl,hG.slM (fun b o hm=>hw'.has b o (by simp[hm])) hPl rfl ki_⟩
   have hNe:New w.heap.size ((b5,Obj.cells (qG_ T v tt).toArray 126 (0,0)):: (br, .cells #[vs s,vi a3,vi e3] 243 (0,0)):: (b2,Obj.cells (qG_ id0 (.slice none 0 0) []).toArray 126 (0,0))::D):=⟨hw5,hwr,hw2,New.mono (by omega) hN⟩
   have hR:Vp_ s=if wd_ s a3 e3=0∧v3_ ⟨T,pl,tt⟩=true∧comB ⟨T,pl,tt⟩=s then some ⟨T,pl,tt⟩ else none:=by unfold Vp_;rw[hcE]
   have stz: ∀a E,zs_ (some (a,34)) (some (.cells (qG_ id0 (.slice none 0 0) []).toArray E (0,0))) 0 (.agg (qG_ id0 (.slice none 0 0) []).toArray)=some (.cells (qG_ id0 (.slice none 0 0) []).toArray E (0,0)):=st5
   unfold adM_
   rw[hR]
   refine Ow.callFV rfl Tryz.call131 (fun w' hw'=>aaO_ br s a3 e3 w' (hw'.has _ _ (List.mem_cons_of_mem _ List.mem_cons_self))) ?_
   by_cases he:wd_ s a3 e3=0
   ·have d1: (wd_ s a3 e3 !=0)=false:=by simp[he]
    refine ko (And.intro @qT_ @d1) ?_
    refine Ow.callFV rfl Tryz.call134 (fun w' hw'=>QJ_ _ _ w' (hC w' hw') (by show pl.length<1000000;omega) (by show tt.length<1099511627776;omega)) ?_
    cases hr:v3_ ⟨T,pl,tt⟩
    ·rw[if_neg (by simp)]
     refine ko @qT_ ?_
     refine Ow.build (.agg (qG_ id0 (.slice none 0 0) []).toArray) rfl wk_ ?_
     refine ko (And.intro @qT_ @stz) ?_
     first|with_reducible refine ks [] @qT_ ?_|refine kp @qT_ ?_
     refine⟨_,(ke @qT_), ?_⟩
     exact⟨Ext.of_new hNe,rfl⟩
    ·refine ko @qT_ ?_
     refine Ow.callFV rfl Tryz.call135 (fun w' hw'=>J5_ _ _ w' (hC w' hw') (by show pl.length<1000000;omega) (by show tt.length<1099511627776;omega)) ?_
     by_cases hb:comB ⟨T,pl,tt⟩=s
     ·have d3: (comB ⟨T,pl,tt⟩ !=s)=false:=by simp[hb]
      have stq: ∀a E,zs_ (some (a,34)) (some (.cells (qG_ id0 (.slice none 0 0) []).toArray E (0,0))) 0 (.agg (qG_ T v tt).toArray)=some (.cells (qG_ T v tt).toArray E (0,0)):=fun a E=>ZH_ _ _ _ _ a E (by rw[List.size_toArray,vo_]) hG.cell.1
      rw[if_pos ⟨he,rfl,hb⟩]
      refine ko (And.intro @qT_ (And.intro @d3 (@stq))) ?_
      first|with_reducible refine ks [] @qT_ ?_|refine kp @qT_ ?_
      refine⟨_,(ke @qT_), ?_⟩
      refine⟨Ext.of_new ⟨hw5,hwr,hw2,New.mono (by omega) hN⟩,v,rfl, ?_⟩
      show Gr _ _ _ _ pl.length (pl.map z4_).flatten
      rw[hPl]
      exact hG.keep fun b o hb ho=>by
       have:=hN.le b (zn_ ho)
       simp(disch:=omega) only[zY_]
       exact ho
     ·have d3: (comB ⟨T,pl,tt⟩ !=s)=true:=by simp[hb]
      rw[if_neg (fun h=>hb h.2.2)]
      refine ko (And.intro @qT_ @d3) ?_
      refine Ow.build (.agg (qG_ id0 (.slice none 0 0) []).toArray) rfl wk_ ?_
      refine ko (And.intro @qT_ @stz) ?_
      first|with_reducible refine ks [] @qT_ ?_|refine kp @qT_ ?_
      refine⟨_,(ke @qT_), ?_⟩
      exact⟨Ext.of_new hNe,rfl⟩
   ·have d1: (wd_ s a3 e3 !=0)=true:=by simp[he]
    rw[if_neg (fun h=>he h.1)]
    refine ko (And.intro @qT_ @d1) ?_
    refine Ow.build (.agg (qG_ id0 (.slice none 0 0) []).toArray) rfl wk_ ?_
    refine ko (And.intro @qT_ @stz) ?_
    first|with_reducible refine ks [] @qT_ ?_|refine kp @qT_ ?_
    refine⟨_,(ke @qT_), ?_⟩
    exact⟨Ext.of_new hNe,rfl⟩
end Go.Proofs
end
section
open Go Go.Proofs Go.Sx Go.StP
namespace Go.Proofs
set_option maxRecDepth 10000
set_option maxHeartbeats 400000
set_option linter.unusedSimpArgs false
def roC (r v:Value) (t:IdL) (p:Value) (y:List UInt8):List Value:= [r]++ ([v]++qG_ t p y)
theorem KW_ (r v:Value) (t:IdL) (p:Value) (y:List UInt8) (n:Nat) (E:TypeId) (fz:Nat×Nat):zA_ (some (false,n)) (some (.cells (roC r v t p y).toArray E fz)) 0=some r:=xR_ [] _ r n E fz rfl
theorem K9_ (r v:Value) (t:IdL) (p:Value) (y:List UInt8) (n:Nat) (E:TypeId) (fz:Nat×Nat):zA_ (some (false,n)) (some (.cells (roC r v t p y).toArray E fz)) 1=some v:=by
 unfold roC;exact xR_ [r] _ v n E fz rfl
theorem Ve_ (r v:Value) (t:IdL) (p:Value) (y:List UInt8) (E:TypeId) (fz:Nat×Nat):zA_ (some (true,34)) (some (.cells (roC r v t p y).toArray E fz)) 2=some (.agg (qG_ t p y).toArray):=by
 have e:roC r v t p y= [r,v]++ (qG_ t p y++ []):=by unfold roC;simp
 rw[e];exact xV_ [r,v] _ _ E fz rfl (vo_ _ _ _)
theorem Q5_ (r v:Value) (t:IdL) (p:Value) (y:List UInt8) (n:Nat) (E:TypeId) (fz:Nat×Nat):zA_ (some (false,n)) (some (.cells (roC r v t p y).toArray E fz)) 34=some p:=by
 have e:roC r v t p y=([r,v]++t.l.map v8)++ ([p]++ [vs y]):=by unfold roC qG_;simp
 rw[e];exact xR_ _ _ p n E fz (by simp[t.h])
theorem agJ_ (r v q:Value) (t:IdL) (p:Value) (y:List UInt8) (a:Bool) (E:TypeId) (hq:Value.oneCell' q=true∧q.cells= #[q]):zs_ (some (a,1)) (some (.cells (roC r v t p y).toArray E (0,0))) 1 q=some (.cells (roC r q t p y).toArray E (0,0)):=by
 unfold roC
 exact jz_ [r] [v] [q] _ a _ E rfl rfl hq.2 rfl (by simp[hq.1])
theorem aha_ (r v:Value) (t x:IdL) (p:Value) (y:List UInt8) (a:Bool) (E:TypeId):zs_ (some (a,32)) (some (.cells (roC r v t p y).toArray E (0,0))) 2 (.agg (a8 x.l))=some (.cells (roC r v x p y).toArray E (0,0)):=by
 have e: ∀t,roC r v t p y= [r,v]++ (t.l.map v8++ ([p]++ [vs y])):=fun t=>by unfold roC qG_;simp
 rw[e,e];exact jz_ [r,v] _ _ _ a _ E rfl (by simp[t.h]) (ze_ _) (by simp[x.h]) (Qf_ _)
theorem aex_ (r v:Value) (t:IdL) (p q:Value) (y:List UInt8) (a:Bool) (E:TypeId) (hq:Value.oneCell' q=true∧q.cells= #[q]):zs_ (some (a,1)) (some (.cells (roC r v t p y).toArray E (0,0))) 34 q=some (.cells (roC r v t q y).toArray E (0,0)):=by
 have e: ∀p,roC r v t p y=([r,v]++t.l.map v8)++ ([p]++ [vs y]):=fun p=>by unfold roC qG_;simp
 rw[e,e];exact jz_ _ [p] [q] [vs y] a _ E (by simp[t.h]) rfl hq.2 rfl (by simp[hq.1])
theorem aeI_ (r v:Value) (t:IdL) (p:Value) (y z:List UInt8) (a:Bool) (E:TypeId):zs_ (some (a,1)) (some (.cells (roC r v t p y).toArray E (0,0))) 35 (vs z)=some (.cells (roC r v t p z).toArray E (0,0)):=by
 have e: ∀y,roC r v t p y=(([r,v]++t.l.map v8)++ [p])++ ([vs y]++ []):=fun y=>by unfold roC qG_;simp
 rw[e,e];exact jz_ _ _ _ _ a _ E (by simp[t.h]) rfl rfl rfl rfl
theorem aet_ (k:Int) (t:List UInt8):jn_ (wA_ Tryz.prog 117) (z8_ Tryz.prog 117) [(1,vi k),(0,vs t)]=some (.agg (zR_ ⟨t,k,id0⟩).toArray):=by
 rw[show wA_ Tryz.prog 117=some [(0,1),(1,1),(2,32)] from id (by kernel_rfl),vM_];rfl
theorem Qa_ (b:Nat) (s:List UInt8) (a:Nat) (e:Int) (w:World) (ho:w.heap[b]? =some (.cells #[vs s,vi a,vi e] 314 (0,0))):
  Rets Tryz.prog 167 #[vp b 0] w (fun v D=>v=vi (wd_ s a e)∧D= []):=afG_ b s a e w ho
set_option linter.defProp false
def kf_:=And.intro (And.intro (And.intro (And.intro (@xK_) (@xP_)) (And.intro (@xW_) (@xc_))) (And.intro (And.intro (@xh_) (@KW_)) (And.intro (@K9_) (@Ve_)))) (And.intro (And.intro (And.intro (@Q5_) (@jm_)) (And.intro (@Kh_) (@Ka_))) (And.intro (And.intro (@KC_) (@qk_)) (And.intro (@qh_) (And.intro (@zJ_) (@zI_)))))
theorem agG_ {w:World} {a b:Nat} {x y:Obj} (h:w.heap[a]? =some x) (h':w.heap[b]? =some y): ∀p:Nat×Obj,p∈ [(a,x),(b,y)]→w.heap[p.1]? =some p.2:=by
 intro p hp
 simp only[List.mem_cons,List.not_mem_nil,or_false] at hp
 rcases hp with rfl|rfl<;>assumption
structure EnH where
 n:Nat
 a:Nat
 e:Int
 l:List EntL
 v:Value
 D:zi_
 H:zi_
def akA_ (bo bw:Nat) (s:List UInt8) (v:Value) (D:zi_):Prop:=
 v= .bool (wd_ s (qS_ s).2.1 (qS_ s).2.2==0&&qO_ (qS_ s).1)∧ ∃v1,Sx.look D bo=some (.cells (roC (vp bw 0) v1 id0 (.slice none 0 0) []).toArray 142 (0,0))∧Gr D 117 34 v1 (qS_ s).1.length ((qS_ s).1.map zR_).flatten
theorem acp_ (bo bw:Nat) (s:List UInt8) (w:World) (hs:s.length<100000) (hne:bo≠bw)
  (ho:w.heap[bo]? =some (.cells (roC (vp bw 0) (.slice none 0 0) id0 (.slice none 0 0) []).toArray 142 (0,0))) (hr:w.heap[bw]? =some (.cells #[vs s,vi 0,vi 0] 314 (0,0))):
  Rets Tryz.prog 145 #[vp bo 0] w (XS w [(bo, .cells (roC (vp bw 0) (.slice none 0 0) id0 (.slice none 0 0) []).toArray 142 (0,0)),(bw, .cells #[vs s,vi 0,vi 0] 314 (0,0))] (akA_ bo bw s)):=by
 have hob:bo<w.heap.size:=(Array.getElem?_eq_some_iff.1 ho).1
 have hwb:bw<w.heap.size:=(Array.getElem?_eq_some_iff.1 hr).1
 refine Rets.enterX Tryz.func145 rfl (rs:= [.tmp 2]) Tryz.results145 Tryz.ntmps145 (agG_ ho hr) (by simp[keys,hne]) ?_
 refine kf ?_
 first|with_reducible refine ks [] @kf_ ?_|refine kp @kf_ ?_
 refine Cw.loopG (G:=EnH) [4,5,6,7,8,9,10,11,12,13,14,15,16,17,18,19,20,3,21,22,23,24,25,26,27,28,29,30,31,32,33,34,35,36] (fun q=> []) (fun q=>q.H) (fun q=>EntsJ s q.n q.a q.e q.l∧New w.heap.size q.D∧Gr q.D 117 34 q.v q.l.length (q.l.map zR_).flatten∧((bo,Obj.cells (roC (vp bw 0) q.v id0 (.slice none 0 0) []).toArray 142 (0,0)):: (bw, .cells #[vs s,vi q.a,vi q.e] 314 (0,0))::q.D).Perm q.H) (fun q=>q.n) ⟨s.length+1,0,0,[], .slice none 0 0,[],[(bo,Obj.cells (roC (vp bw 0) (.slice none 0 0) id0 (.slice none 0 0) []).toArray 142 (0,0)),(bw, .cells #[vs s,vi 0,vi 0] 314 (0,0))]⟩ rfl rfl ?_ ?_
 ·exact⟨EntsJ.init s,trivial,Gr.nl,List.Perm.refl _⟩
 ·intro q jq hq
  refine kv ?_
  obtain⟨n,a,e,l,v,D,H0⟩:=q
  simp only at hq ⊢
  obtain⟨hJ,hN,hG,hPm⟩:=hq
  refine Cw.permL hPm ?_
  clear hPm
  have hle:=hJ.le
  first|with_reducible refine ks [3] @kf_ ?_|refine kp @kf_ ?_
  refine Ow.callFV rfl Tryz.call167 (fun w' hw'=>Qa_ bw s a e w' (hw'.has _ _ (List.mem_cons_of_mem _ List.mem_cons_self))) ?_
  by_cases hc:e=0∧a<s.length
  ·obtain⟨m,rfl,hJ'⟩:=hJ.next hc
   obtain⟨he,hlt⟩:=hc
   have h5:wd_ s a e=5:=by unfold wd_;rw[if_neg (by simp[he]),if_pos (by omega)]
   have d1: (wd_ s a e==5)=true:=by simp[h5]
   refine ko (And.intro @kf_ @d1) ?_
   have hp:=xD_ (e:=e) (most:=2) hle
   have hq:=vn_ (e:=(qB_ s a e 2).2.2) (most:=32) hp.2
   have heq:QQ_ s a e=(⟨(ql_ s (qB_ s a e 2).2.1 (qB_ s a e 2).2.2 32).1,(qB_ s a e 2).1,vB_ (idR s (ql_ s (qB_ s a e 2).2.1 (qB_ s a e 2).2.2 32).2.1 (ql_ s (qB_ s a e 2).2.1 (qB_ s a e 2).2.2 32).2.2).1⟩,(idR s (ql_ s (qB_ s a e 2).2.1 (qB_ s a e 2).2.2 32).2.1 (ql_ s (qB_ s a e 2).2.1 (qB_ s a e 2).2.2 32).2.2).2):=rfl
   have hil:=wV_ s (ql_ s (qB_ s a e 2).2.1 (qB_ s a e 2).2.2 32).2.1 (ql_ s (qB_ s a e 2).2.1 (qB_ s a e 2).2.2 32).2.2
   refine Cw.regionD [bo] [12] 11 3 117 12 _ rfl (by kernel_rfl) (by kernel_rfl) rfl (by kernel_rfl) vM_ (fun hD=> ?_)
   simp only[List.replicate_succ,List.replicate_zero]
   refine OwD.run [0,1,2,3,5,6,7,8] [true,true,true,true,false,true,true,true,true,false,false,false,false] 4 rfl hD (by kernel_rfl) fun k hk=> ?_
   simp only[zh_, ↓zc_, ↓za_, ↓zk_, ↓zj_,zb_]
   simp(disch:=(first|assumption|omega| (simp only[qF_,qC_,UInt64.reduceToNat];try omega))) only[↓Sx.S0,Sx.S1,Tryz.fx,kf_,Nat.reduceAdd,Nat.reducePow,Int.reducePow,Nat.reduceBEq, ↓reduceIte,UInt8.reduceToNat,UInt16.reduceToNat,UInt32.reduceToNat,UInt64.reduceToNat,Int.reduceToNat,Md.next_sofnil,Md.next_sofnil]
   (with_reducible refine hk _ _ _ ?_);clear hk k
   refine OwD.soft 4 _ hD rfl (by kernel_rfl) (fun E hE=> ?_)
   refine Ow.callM rfl rfl Tryz.call165 (by simp[keys]) (fun w' hw'=>vQ_ bw s a e 2 w' hle (by omega) (hw'.has _ _ (by simp))) ?_
   generalize qB_ s a e 2=p at*
   obtain⟨kd,a1,e1⟩:=p
   simp only at hp hq heq hil ⊢
   refine kn ?_
   with_reducible refine Ow.nil ?_
   refine⟨(bo,Obj.cells (roC (vp bw 0) v id0 (.slice none 0 0) []).toArray 142 (0,0)):: (bw, .cells #[vs s,vi a1,vi e1] 314 (0,0))::D,(by classical exact List.perm_iff_count.2 fun a=>by simp only[List.count_append,List.count_cons,List.count_nil]<;>omega),fun r hr=> ?_, ?_⟩
   ·rw[List.mem_singleton.1 hr]
    simp only[zV_]
   simp only[List.set_cons_zero,List.set_cons_succ,zl_,zy_,zz_]
   refine OwD.soft 9 _ hD rfl (by kernel_rfl) (fun E hE=> ?_)
   refine Ow.callM rfl rfl Tryz.call202 (by simp[keys]) (fun w' hw'=>Kd_ bw s a1 e1 32 w' hp.2 (by omega) (hw'.has _ _ (by simp))) ?_
   generalize ql_ s a1 e1 32=q at*
   obtain⟨tt,a2,e2⟩:=q
   simp only at hq heq hil ⊢
   refine kn ?_
   with_reducible refine Ow.nil ?_
   refine⟨(bo,Obj.cells (roC (vp bw 0) v id0 (.slice none 0 0) []).toArray 142 (0,0)):: (bw, .cells #[vs s,vi a2,vi e2] 314 (0,0))::D,(by classical exact List.perm_iff_count.2 fun a=>by simp only[List.count_append,List.count_cons,List.count_nil]<;>omega),fun r hr=> ?_, ?_⟩
   ·rw[List.mem_singleton.1 hr]
    simp only[zV_]
   simp only[List.set_cons_zero,List.set_cons_succ,zl_,zy_,zz_]
   refine OwD.soft 10 _ hD rfl (by kernel_rfl) (fun E hE=> ?_)
   refine Ow.build (.agg (zR_ ⟨tt,kd,id0⟩).toArray) rfl (aet_ kd tt) ?_
   with_reducible refine Ow.nil ?_
   refine⟨_,List.Perm.refl _,fun _ _=>rfl, ?_⟩
   simp only[List.set_cons_zero,List.set_cons_succ,zl_,zy_,zz_]
   refine OwD.real [12] rfl hD (by kernel_rfl) (by kernel_rfl) (by kernel_rfl) (by kernel_rfl) (fun r hr=>by rw[List.mem_singleton.1 hr];exact .inl (by simp[keys])) ?_
   simp only[zh_, ↓zc_, ↓za_, ↓zk_, ↓zj_,zb_]
   intro b3 hw3 hbL
   simp only[zy_,zz_]
   have hst3:=qk_ ⟨tt,kd,id0⟩ ent0
   refine Ow.store rfl rfl rfl (L':=((bo,Obj.cells (roC (vp bw 0) v id0 (.slice none 0 0) []).toArray 142 (0,0)):: (bw, .cells #[vs s,vi a2,vi e2] 314 (0,0))::D)++ [(b3, .cells (zR_ ⟨tt,kd,id0⟩).toArray 117 (0,0))]) ?_ ?_
   ·simp only[zW_,zT_,z1_]
    rw[Tryz.ag117,xv_,vk_ hbL,ze_,hst3,kv_,x2_ hbL]
    exact []
   refine ko @kf_ ?_
   refine Cw.permL (M:=(b3, .cells (zR_ ⟨tt,kd,id0⟩).toArray 117 (0,0)):: (bo,Obj.cells (roC (vp bw 0) v id0 (.slice none 0 0) []).toArray 142 (0,0)):: (bw, .cells #[vs s,vi a2,vi e2] 314 (0,0))::D) (by classical exact List.perm_iff_count.2 fun a=>by simp only[List.count_append,List.count_cons,List.count_nil]<;>omega) ?_
   have hb3o:bo≠b3:=by simp[keys] at hbL;omega
   have hb3w:bw≠b3:=by simp[keys] at hbL;omega
   first|with_reducible refine ks [] @kf_ ?_|refine kp @kf_ ?_
   refine Ow.callM rfl rfl Tryz.call203 (by simp[keys]) (fun w' hw'=>K3_ bw s a2 e2 w' hq.2 (by omega) (hw'.has _ _ (by simp))) ?_
   generalize idR s a2 e2=i at*
   obtain⟨il,a3,e3⟩:=i
   simp only at heq hil ⊢
   obtain⟨I,hI⟩: ∃I,vB_ il=I:=⟨_,rfl⟩
   have hiI:il=I.l:=by rw[←hI,vg_ hil]
   rw[hI] at heq
   rw[hiI]
   refine kn ?_
   refine ko @kf_ ?_
   generalize hx: ({name:=tt,kind:=kd,id:=I}:EntL)=x
   rw[hx] at heq
   rw[heq] at hJ'
   refine Cw.regionS [bo,b3] [0,1,2,3,4,5,6,7,8,9,10] [10] (by kernel_rfl) (by kernel_rfl) (by kernel_rfl) ?_
   simp only[zh_, ↓zc_, ↓za_, ↓zk_, ↓zj_,zb_]
   refine kq @kf_ ?_
   refine Ow.soft rfl rfl rfl ?_
   refine Ow.buildSlice (e:=117) (zR_ x).toArray rfl rfl (qu_ Tryz.underlying122 Jr_ vM_ (by decide) (zZ_ x)) fun b13 hb13 hw13=> ?_
   have h3d:b3<b13:=zf_ hb13 (by simp[keys])
   with_reducible refine Ow.nil ?_
   refine⟨zq_ (by simp[keys]), ?_⟩
   try simp only[List.cons_append,List.nil_append]
   refine Ow.soft rfl rfl rfl ?_
   refine Ow.permL (M:=D++ [(b3,Obj.cells (zR_ x).toArray 117 (0,0)),(bo,Obj.cells (roC (vp bw 0) v id0 (.slice none 0 0) []).toArray 142 (0,0)),(bw, .cells #[vs s,vi a3,vi e3] 314 (0,0)),(b13,Obj.cells (zR_ x).toArray 117 (0,0))]) (by classical exact List.perm_iff_count.2 fun a=>by simp only[List.count_append,List.count_cons,List.count_nil]<;>omega) ?_
   refine Ow.appendX (e:=117) (k:=1) (new:=zR_ x) (X:=D) v rfl rfl rfl rfl Tryz.underlying122 Jr_ (by kernel_rfl) vM_ (by rw[qh_,List.size_toArray,zZ_]) Tryz.underlying122 (by intro k h;cases h) hG (fun w' hw'=>AppX.one1 (hw'.has b13 (.cells (zR_ x).toArray 117 (0,0)) (by simp)) (zZ_ _) (Zl_ _)) (by omega) (by have:=hJ.cnt;omega) (fun B v4 D4 hA4 hB4 hbuf hk1 hk2 hlk=> ?_)
   have hB3:b3<B:=zf_ hA4 (by simp[zd_,keys])
   have hN4:New w.heap.size D4:=New.of_le fun q hq=>by
    rcases hk2 q hq with h|h
    ·exact hN.le q h
    ·omega
   have ho4:bo∉keys D4:=hN4.not hob
   have h34:b3∉keys D4:=fun hm=>by
    rcases hk2 b3 hm with h|h
    ·exact hbL (by simp only[keys,List.map_cons,List.mem_cons];exact .inr (.inr h))
    ·omega
   with_reducible refine Ow.nil ?_
   refine⟨fun q hq=> ?_, ?_⟩
   ·simp only[List.mem_cons,List.not_mem_nil,or_false] at hq
    rcases hq with rfl|rfl
    ·rw[kQ_ ho4]
     simp(disch:=omega) only[zV_,zx_]
    ·rw[kQ_ h34]
     simp(disch:=omega) only[zV_,zx_]
   have hlko: ∀M,Sx.look (D4++M) bo=Sx.look M bo:=fun M=>z3_ ho4
   have hsbo: ∀M x,setB (D4++M) bo x=D4++setB M bo x:=fun M x=>Zq_ ho4
   have st1:=fun a E=>agJ_ (vp bw 0) v v4 id0 (.slice none 0 0) [] a E hbuf.cell
   have hst7:xp_ (zU_ Tryz.prog 122) (D4++ [(b3,Obj.cells (zR_ x).toArray 117 (0,0)),(bo,Obj.cells (roC (vp bw 0) v id0 (.slice none 0 0) []).toArray 142 (0,0)),(bw, .cells #[vs s,vi a3,vi e3] 314 (0,0)),(b13,Obj.cells (zR_ x).toArray 117 (0,0))]) (vp bo 1) v4=some (D4++ [(b3,Obj.cells (zR_ x).toArray 117 (0,0)),(bo,Obj.cells (roC (vp bw 0) v4 id0 (.slice none 0 0) []).toArray 142 (0,0)),(bw, .cells #[vs s,vi a3,vi e3] 314 (0,0)),(b13,Obj.cells (zR_ x).toArray 117 (0,0))]):=by
    rw[Tryz.ag122,xv_,hlko]
    simp(disch:=omega) only[zH_,zY_,st1,kv_,hsbo,qt_,z6_]
   refine kq @kf_ ?_
   refine Ow.store rfl rfl rfl hst7 ?_
   refine ko @kf_ ?_
   refine Again.mk (EnH.mk m a3 e3 (l++ [x]) v4 (D4++ [(b3,Obj.cells (zR_ x).toArray 117 (0,0)),(b13,Obj.cells (zR_ x).toArray 117 (0,0))]) _) (by show m<m+1;omega) ⟨hJ',hN4.app ⟨by omega,by omega,trivial⟩, ?_, ?_⟩ rfl rfl
   ·show Gr _ _ _ _ (l++ [x]).length ((l++ [x]).map zR_).flatten
    rw[List.length_append,List.map_append,List.flatten_append,show([x].map zR_).flatten=zR_ x by simp]
    exact Gr.app (.inl hbuf)
   ·exact(by classical exact List.perm_iff_count.2 fun a=>by simp only[List.count_append,List.count_cons,List.count_nil]<;>omega)
  ·have hd:=hJ.done hc
   have hsh:=hJ.sh (by omega)
   have hcn:=hJ.cnt
   have h5:wd_ s a e≠5:=by
    unfold wd_
    by_cases he:e=0
    ·rw[if_neg (by simp[he]),if_neg (by omega)];decide
    ·rw[if_pos he];exact hJ.five
   have d1: (wd_ s a e==5)=false:=by simpa using h5
   have hE:Ext w [(bo,Obj.cells (roC (vp bw 0) (.slice none 0 0) id0 (.slice none 0 0) []).toArray 142 (0,0)),(bw,Obj.cells #[vs s,vi 0,vi 0] 314 (0,0))] ((bo,Obj.cells (roC (vp bw 0) v id0 (.slice none 0 0) []).toArray 142 (0,0)):: (bw,Obj.cells #[vs s,vi a,vi e] 314 (0,0))::D):=by
    refine⟨fun c hc=> ?_,fun c hc=> ?_⟩
    ·simp only[keys,List.map_cons,List.map_nil,List.mem_cons,List.not_mem_nil,or_false] at hc ⊢
     rcases hc with h|h|h
     ·exact .inl (.inl h)
     ·exact .inl (.inr h)
     ·exact .inr (hN.le c h)
    ·simp only[keys,List.map_cons,List.map_nil,List.mem_cons,List.not_mem_nil,or_false] at hc ⊢
     rcases hc with h|h
     ·exact .inl h
     ·exact .inr (.inl h)
   have hF:Gr ((bo,Obj.cells (roC (vp bw 0) v id0 (.slice none 0 0) []).toArray 142 (0,0)):: (bw,Obj.cells #[vs s,vi a,vi e] 314 (0,0))::D) 117 34 v l.length (l.map zR_).flatten:=hG.keep fun b o hb ho=>by
    have:=hN.le b (zn_ ho)
    simp(disch:=omega) only[zY_]
    exact ho
   unfold akA_
   rw[hd]
   refine ko (And.intro @kf_ @d1) ?_
   refine Ow.callFV rfl Tryz.call167 (fun w' hw'=>Qa_ bw s a e w' (hw'.has _ _ (List.mem_cons_of_mem _ List.mem_cons_self))) ?_
   by_cases he:wd_ s a e=0
   ·have d2: (wd_ s a e==0)=true:=by simp[he]
    rw[d2]
    refine ko (And.intro @kf_ @d2) ?_
    refine Ow.callFV rfl Tryz.call127 (fun w' hw'=>Qi_ v l w' (hG.slM (fun b o hm=>hw'.has b o (by simp[hm])) rfl rfl zZ_) (by omega) hsh) ?_
    refine ko @kf_ ?_
    first|with_reducible refine ks [] @kf_ ?_|refine kp @kf_ ?_
    refine⟨_,(ke @kf_), ?_⟩
    exact⟨hE,rfl,v,by simp only[zH_],hF⟩
   ·have d2: (wd_ s a e==0)=false:=by simpa using he
    rw[d2]
    refine ko (And.intro @kf_ @d2) ?_
    first|with_reducible refine ks [] @kf_ ?_|refine kp @kf_ ?_
    refine⟨_,(ke @kf_), ?_⟩
    exact⟨hE,rfl,v,by simp only[zH_],hF⟩
end Go.Proofs
end
section
open Go Go.Proofs Go.Sx Go.StP
namespace Go.Proofs
set_option maxRecDepth 10000
set_option maxHeartbeats 400000
set_option linter.unusedSimpArgs false
set_option linter.defProp false
def kG_:=And.intro (And.intro (And.intro (@xK_) (And.intro (@xP_) (@xW_))) (And.intro (And.intro (@xc_) (@xh_)) (And.intro (@KW_) (@K9_)))) (And.intro (And.intro (@Ve_) (And.intro (@Q5_) (@aha_))) (And.intro (And.intro (@aeI_) (@kd_)) (And.intro (@zJ_) (@zI_))))
structure CmH where
 g:Nat
 v:Value
 D:zi_
 H:zi_
def amz_ (bo bw:Nat) (s:List UInt8) (v:Value) (D:zi_):Prop:=
 v= .bool (wd_ s (kk_ s).2.1 (kk_ s).2.2==0&&v3_ (kk_ s).1)∧ ∃p,Sx.look D bo=some (.cells (roC (vp bw 0) (.slice none 0 0) (kk_ s).1.tree p (kk_ s).1.text).toArray 142 (0,0))∧Gr D 24 32 p (kk_ s).1.par.length ((kk_ s).1.par.map z4_).flatten
theorem afj_ (bo bw:Nat) (s:List UInt8) (w:World) (hs:s.length<100000) (hne:bo≠bw)
  (ho:w.heap[bo]? =some (.cells (roC (vp bw 0) (.slice none 0 0) id0 (.slice none 0 0) []).toArray 142 (0,0))) (hr:w.heap[bw]? =some (.cells #[vs s,vi 0,vi 0] 314 (0,0))):
  Rets Tryz.prog 146 #[vp bo 0] w (XS w [(bo,Obj.cells (roC (vp bw 0) (.slice none 0 0) id0 (.slice none 0 0) []).toArray 142 (0,0)),(bw,Obj.cells #[vs s,vi 0,vi 0] 314 (0,0))] (amz_ bo bw s)):=by
 have hob:bo<w.heap.size:=(Array.getElem?_eq_some_iff.1 ho).1
 have hwb:bw<w.heap.size:=(Array.getElem?_eq_some_iff.1 hr).1
 refine Rets.enterX Tryz.func146 rfl (rs:= [.tmp 2]) Tryz.results146 Tryz.ntmps146 (agG_ ho hr) (by simp[keys,hne]) ?_
 refine kf ?_
 first|with_reducible refine ks [] @kG_ ?_|refine kp @kG_ ?_
 refine Ow.callM rfl rfl Tryz.call203 (by simp[keys]) (fun w' hw'=>K3_ bw s 0 0 w' (Nat.zero_le _) (by omega) (hw'.has _ _ (List.mem_cons_of_mem _ List.mem_cons_self))) ?_
 have ip:=Kz_ (s:=s) (a:=0) (e:=0) (Nat.zero_le _)
 have np:=xD_ (e:=(idR s 0 0).2.2) (most:=4) ip.2
 have nm:=Qb_ (s:=s) (a:=(idR s 0 0).2.1) (e:=(idR s 0 0).2.2) (most:=4) (by decide)
 obtain⟨T,hT⟩: ∃T,vB_ (idR s 0 0).1=T:=⟨_,rfl⟩
 have hiT: (idR s 0 0).1=T.l:=by rw[←hT,vg_ (wV_ s 0 0)]
 have hcE:kk_ s=(⟨T,(vy_ s).1,(comT s).1⟩,(comT s).2):=by unfold kk_;rw[hT]
 rw[hiT]
 refine kn ?_
 refine ko @kG_ ?_
 refine Ow.callM rfl rfl Tryz.call165 (by simp[keys]) (fun w' hw'=>vQ_ bw s _ _ 4 w' ip.2 (by omega) (hw'.has _ _ (List.mem_cons_of_mem _ List.mem_cons_self))) ?_
 have hP:vy_ s=zQ_ s (qB_ s (idR s 0 0).2.1 (idR s 0 0).2.2 4).2.1 (qB_ s (idR s 0 0).2.1 (idR s 0 0).2.2 4).2.2 (qB_ s (idR s 0 0).2.1 (idR s 0 0).2.2 4).1.toNat:=rfl
 generalize qB_ s (idR s 0 0).2.1 (idR s 0 0).2.2 4=nr at*
 obtain⟨cn,na,ne⟩:=nr
 simp only at np nm hP ⊢
 obtain⟨k,rfl⟩:=Int.eq_ofNat_of_zero_le nm.1
 rw[Int.toNat_natCast] at hP
 refine kn ?_
 refine ko @kG_ ?_
 refine Cw.loopG (G:=CmH) [18,19,20,21,22,23,24,25,26,27,28,29,30,31,32,33,34,35,17] (fun q=> [(17,vi q.g)]) (fun q=>q.H) (fun q=>q.g≤k∧New w.heap.size q.D∧Gr q.D 24 32 q.v q.g ((zQ_ s na ne q.g).1.map z4_).flatten∧((bo,Obj.cells (roC (vp bw 0) (.slice none 0 0) T q.v []).toArray 142 (0,0)):: (bw,Obj.cells #[vs s,vi (zQ_ s na ne q.g).2.1,vi (zQ_ s na ne q.g).2.2] 314 (0,0))::q.D).Perm q.H) (fun q=>k - q.g) ⟨0, .slice none 0 0,[],[(bo,Obj.cells (roC (vp bw 0) (.slice none 0 0) T (.slice none 0 0) []).toArray 142 (0,0)),(bw,Obj.cells #[vs s,vi na,vi ne] 314 (0,0))]⟩ rfl rfl ?_ ?_
 ·exact⟨Nat.zero_le _,trivial,Gr.nl,List.Perm.refl _⟩
 ·intro q jq hq
  refine kv ?_
  obtain⟨g,v,D,H0⟩:=q
  simp only at hq ⊢
  obtain⟨hgk,hN,hG,hPm⟩:=hq
  refine Cw.permL hPm ?_
  clear hPm
  have gle:=Zv_ (e:=ne) np.2 g
  by_cases hlt:g<k
  ·have hgs:zQ_ s na ne (g+1)=((zQ_ s na ne g).1++ [vB_ (idR s (zQ_ s na ne g).2.1 (zQ_ s na ne g).2.2).1],(idR s (zQ_ s na ne g).2.1 (zQ_ s na ne g).2.2).2):=rfl
   first|with_reducible refine ks [] @kG_ ?_|refine kp @kG_ ?_
   refine Cw.regionS [bo] [0,1,2,3,4,6,7,8,5,9,10,11,12,13,14,15,16] [16] (by kernel_rfl) (by kernel_rfl) (by kernel_rfl) ?_
   simp only[zh_, ↓zc_, ↓za_, ↓zk_, ↓zj_,zb_]
   refine kq @kG_ ?_
   refine Ow.soft rfl rfl rfl ?_
   refine Ow.callM rfl rfl Tryz.call203 (by simp[keys]) (fun w' hw'=>K3_ bw s (zQ_ s na ne g).2.1 (zQ_ s na ne g).2.2 w' gle (by omega) (hw'.has _ _ (List.mem_cons_of_mem _ List.mem_cons_self))) ?_
   with_reducible refine Ow.nil ?_
   refine⟨fun b hb=>jY_ (by simp only[List.mem_cons,List.not_mem_nil,or_false] at hb;omega), ?_⟩
   have hil:=wV_ s (zQ_ s na ne g).2.1 (zQ_ s na ne g).2.2
   obtain⟨I,hI⟩: ∃I,vB_ (idR s (zQ_ s na ne g).2.1 (zQ_ s na ne g).2.2).1=I:=⟨_,rfl⟩
   have hiI: (idR s (zQ_ s na ne g).2.1 (zQ_ s na ne g).2.2).1=I.l:=by rw[←hI,vg_ hil]
   rw[hI] at hgs
   have hg1: (zQ_ s na ne (g+1)).1=(zQ_ s na ne g).1++ [I]:=by rw[hgs]
   have hg2: (zQ_ s na ne (g+1)).2=(idR s (zQ_ s na ne g).2.1 (zQ_ s na ne g).2.2).2:=by rw[hgs]
   rw[hiI,←hg2]
   refine kn ?_
   refine Ow.soft rfl rfl rfl ?_
   refine Ow.buildSlice (e:=24) (a8 I.l) rfl rfl (qu_ (cs:=I.l.map v8) Tryz.underlying30 Kt_ Qz_ (by decide) (by simp[I.h])) fun b13 hb13 hw13=> ?_
   with_reducible refine Ow.nil ?_
   refine⟨zq_ (by simp[keys]), ?_⟩
   try simp only[List.cons_append,List.nil_append]
   refine Ow.soft rfl rfl rfl ?_
   refine Ow.permL (M:=D++ [(bo,Obj.cells (roC (vp bw 0) (.slice none 0 0) T v []).toArray 142 (0,0)),(bw,Obj.cells #[vs s,vi (zQ_ s na ne (g+1)).2.1,vi (zQ_ s na ne (g+1)).2.2] 314 (0,0)),(b13,Obj.cells (a8 I.l) 24 (0,0))]) (by classical exact List.perm_iff_count.2 fun a=>by simp only[List.count_append,List.count_cons,List.count_nil]<;>omega) ?_
   refine Ow.appendX (e:=24) (k:=1) (new:=z4_ I) (X:=D) v rfl rfl rfl rfl Tryz.underlying30 Kt_ (by kernel_rfl) Qz_ (by rw[ze_,wU_,id0.h]) Tryz.underlying30 (by intro k h;cases h) hG (fun w' hw'=>AppX.one1 (hw'.has b13 (.cells (a8 I.l) 24 (0,0)) (by simp)) (ki_ I) (V1_ I)) (by omega) (by omega) (fun B v4 D4 hA4 hB4 hbuf hk1 hk2 hlk=> ?_)
   have hN4:New w.heap.size D4:=New.of_le fun q hq=>by
    rcases hk2 q hq with h|h
    ·exact hN.le q h
    ·omega
   have ho4:bo∉keys D4:=hN4.not hob
   with_reducible refine Ow.nil ?_
   refine⟨fun q hq=> ?_, ?_⟩
   ·rw[List.mem_singleton] at hq
    subst hq
    rw[kQ_ ho4]
    simp only[zV_]
   have hlko: ∀M,Sx.look (D4++M) bo=Sx.look M bo:=fun M=>z3_ ho4
   have hsbo: ∀M x,setB (D4++M) bo x=D4++setB M bo x:=fun M x=>Zq_ ho4
   have st1:=fun a E=>aex_ (vp bw 0) (.slice none 0 0) T v v4 [] a E hbuf.cell
   have hst7:xp_ (zU_ Tryz.prog 30) (D4++ [(bo,Obj.cells (roC (vp bw 0) (.slice none 0 0) T v []).toArray 142 (0,0)),(bw,Obj.cells #[vs s,vi (zQ_ s na ne (g+1)).2.1,vi (zQ_ s na ne (g+1)).2.2] 314 (0,0)),(b13,Obj.cells (a8 I.l) 24 (0,0))]) (vp bo 34) v4=some (D4++ [(bo,Obj.cells (roC (vp bw 0) (.slice none 0 0) T v4 []).toArray 142 (0,0)),(bw,Obj.cells #[vs s,vi (zQ_ s na ne (g+1)).2.1,vi (zQ_ s na ne (g+1)).2.2] 314 (0,0)),(b13,Obj.cells (a8 I.l) 24 (0,0))]):=by
    rw[Tryz.ag30,xv_,hlko]
    simp(disch:=omega) only[zH_,zY_,st1,kv_,hsbo,qt_,z6_]
   refine kq @kG_ ?_
   refine Ow.store rfl rfl rfl hst7 ?_
   refine ko @kG_ ?_
   refine Again.mk (CmH.mk (g+1) v4 (D4++ [(b13,Obj.cells (a8 I.l) 24 (0,0))]) _) (by show k - (g+1)<k - g;omega) ⟨by show g+1≤k;omega,hN4.app ⟨by omega,trivial⟩, ?_, ?_⟩ rfl rfl
   ·show Gr _ _ _ _ (g+1) ((zQ_ s na ne (g+1)).1.map z4_).flatten
    rw[hg1,List.map_append,List.flatten_append,show([I].map z4_).flatten=z4_ I by simp]
    exact Gr.app (.inl hbuf)
   ·exact(by classical exact List.perm_iff_count.2 fun a=>by simp only[List.count_append,List.count_cons,List.count_nil]<;>omega)
  ·obtain rfl:g=k:=by omega
   rw[←hP] at hG
   rw[←hP] at gle
   rw[←hP]
   have tp:=vn_ (e:=(vy_ s).2.2) (most:=64) gle
   first|with_reducible refine ks [] @kG_ ?_|refine kp @kG_ ?_
   refine Ow.callM rfl rfl Tryz.call202 (by simp[keys]) (fun w' hw'=>Kd_ bw s (vy_ s).2.1 (vy_ s).2.2 64 w' gle (by omega) (hw'.has _ _ (List.mem_cons_of_mem _ List.mem_cons_self))) ?_
   refine kn ?_
   refine ko @kG_ ?_
   have hT2:comT s=ql_ s (vy_ s).2.1 (vy_ s).2.2 64:=rfl
   have htl:=Jf_ s (vy_ s).2.1 (vy_ s).2.2 64
   rw[hT2] at hcE
   generalize ql_ s (vy_ s).2.1 (vy_ s).2.2 64=tx at*
   obtain⟨tt,a3,e3⟩:=tx
   simp only at tp hcE htl ⊢
   have hPl: (vy_ s).1.length=g:=by rw[hP,vI_]
   generalize (vy_ s).1=pl at*
   have hC: ∀w',Hp w ((bo,Obj.cells (roC (vp bw 0) (.slice none 0 0) T v tt).toArray 142 (0,0)):: (bw,Obj.cells #[vs s,vi a3,vi e3] 314 (0,0))::D) w'→ComS w' (.agg (qG_ T v tt).toArray) ⟨T,pl,tt⟩:=fun w' hw'=>
    ⟨v,rfl,hG.slM (fun b o hm=>hw'.has b o (by simp[hm])) hPl rfl ki_⟩
   have hE:Ext w [(bo,Obj.cells (roC (vp bw 0) (.slice none 0 0) id0 (.slice none 0 0) []).toArray 142 (0,0)),(bw,Obj.cells #[vs s,vi 0,vi 0] 314 (0,0))] ((bo,Obj.cells (roC (vp bw 0) (.slice none 0 0) T v tt).toArray 142 (0,0)):: (bw,Obj.cells #[vs s,vi a3,vi e3] 314 (0,0))::D):=by
    refine⟨fun c hc=> ?_,fun c hc=> ?_⟩
    ·simp only[keys,List.map_cons,List.map_nil,List.mem_cons,List.not_mem_nil,or_false] at hc ⊢
     rcases hc with h|h|h
     ·exact .inl (.inl h)
     ·exact .inl (.inr h)
     ·exact .inr (hN.le c h)
    ·simp only[keys,List.map_cons,List.map_nil,List.mem_cons,List.not_mem_nil,or_false] at hc ⊢
     rcases hc with h|h
     ·exact .inl h
     ·exact .inr (.inl h)
   have hF:Gr ((bo,Obj.cells (roC (vp bw 0) (.slice none 0 0) T v tt).toArray 142 (0,0)):: (bw,Obj.cells #[vs s,vi a3,vi e3] 314 (0,0))::D) 24 32 v pl.length (pl.map z4_).flatten:=by
    rw[hPl]
    exact hG.keep fun b o hb ho=>by
     have:=hN.le b (zn_ ho)
     simp(disch:=omega) only[zY_]
     exact ho
   unfold amz_
   rw[hcE]
   refine Ow.callFV rfl Tryz.call167 (fun w' hw'=>Qa_ bw s a3 e3 w' (hw'.has _ _ (List.mem_cons_of_mem _ List.mem_cons_self))) ?_
   by_cases he:wd_ s a3 e3=0
   ·have d2: (wd_ s a3 e3==0)=true:=by simp[he]
    rw[d2]
    refine ko (And.intro @kG_ @d2) ?_
    refine Ow.callFV rfl Tryz.call204 (fun w' hw'=>abV_ _ _ w' (hC w' hw') (by show pl.length<1000000;omega) (by show tt.length<1099511627776;omega)) ?_
    refine ko @kG_ ?_
    first|with_reducible refine ks [] @kG_ ?_|refine kp @kG_ ?_
    refine⟨_,(ke @kG_), ?_⟩
    exact⟨hE,rfl,v,by simp only[zH_],hF⟩
   ·have d2: (wd_ s a3 e3==0)=false:=by simpa using he
    rw[d2]
    refine ko (And.intro @kG_ @d2) ?_
    first|with_reducible refine ks [] @kG_ ?_|refine kp @kG_ ?_
    refine⟨_,(ke @kG_), ?_⟩
    exact⟨hE,rfl,v,by simp only[zH_],hF⟩
end Go.Proofs
end
section
open Go Go.Proofs Go.Sx Go.StP
namespace Go.Proofs
set_option maxRecDepth 10000
set_option maxHeartbeats 400000
set_option linter.unusedSimpArgs false
theorem aco_ (v:Value) (w:World):Rets Tryz.prog 144 #[v] w (fun v' D=>v'= .bool true∧D= []):=by
 refine Rets.enterV Tryz.func144 rfl (rs:= [.tmp 2]) Tryz.results144 Tryz.ntmps144 ?_
 refine kf ?_
 first|with_reducible refine ks [] @Nat.add_zero ?_|refine kp @Nat.add_zero ?_
 refine⟨_,(ke @Nat.add_zero),trivial, ?_⟩
 rfl
abbrev obV (k:Int) (t:List UInt8):Value:= .agg #[vi k,vs t]
theorem qw_ (k:Int) (t:List UInt8) (E:TypeId) (fz:Nat×Nat):zA_ (some (true,2)) (some (.cells #[vi k,vs t] E fz)) 0=some (obV k t):=(rfl)
theorem qg_ (k:Int) (t:List UInt8) (n:Nat) (E:TypeId) (fz:Nat×Nat):zA_ (some (false,n)) (some (.cells #[vi k,vs t] E fz)) 0=some (vi k):=(rfl)
theorem qf_ (k:Int) (t:List UInt8) (n:Nat) (E:TypeId) (fz:Nat×Nat):zA_ (some (false,n)) (some (.cells #[vi k,vs t] E fz)) 1=some (vs t):=(rfl)
theorem qd_ (k k':Int) (t t':List UInt8) (a:Bool) (E:TypeId):zs_ (some (a,2)) (some (.cells #[vi k',vs t'] E (0,0))) 0 (obV k t)=some (.cells #[vi k,vs t] E (0,0)):=(rfl)
set_option linter.defProp false
def jI_:=And.intro (And.intro (@qw_) (And.intro (@qg_) (@qf_))) (And.intro (@qd_) (And.intro (@zJ_) (@zI_)))
def fnV (k:Nat):Value:= .func (.func k) #[] #[]
def fnsV:Array Value:= #[.nilFunc,fnV 144,fnV 145,fnV 146]
abbrev T4:TypeId:=262
theorem agY_:jn_ (wA_ Tryz.prog T4) (z8_ Tryz.prog T4) [(1,fnV 144),(2,fnV 145),(3,fnV 146)]=some (.agg fnsV):=by
 have hp:wA_ Tryz.prog T4=some [(0,1),(1,1),(2,1),(3,1)]:=id (by kernel_rfl)
 have hz:z8_ Tryz.prog T4=some (.agg #[.nilFunc, .nilFunc, .nilFunc, .nilFunc]):=id (by kernel_rfl)
 rw[hp,hz];rfl
theorem anX_:z8_ Tryz.prog T4=some (.agg #[.nilFunc, .nilFunc, .nilFunc, .nilFunc]):=id (by kernel_rfl)
theorem agV_ (a:Bool) (E:TypeId):zs_ (some (a,4)) (some (.cells #[.nilFunc, .nilFunc, .nilFunc, .nilFunc] E (0,0))) 0 (.agg fnsV)=some (.cells fnsV E (0,0)):=(rfl)
theorem ajz_ (x:Value) (hx:x.cells= #[x]):jn_ (wA_ Tryz.prog 142) (z8_ Tryz.prog 142) [(0,x)]=some (.agg (roC x (.slice none 0 0) id0 (.slice none 0 0) []).toArray):=by
 have hp:wA_ Tryz.prog 142=some [(0,1),(1,1),(2,34)]:=id (by kernel_rfl)
 have hz:z8_ Tryz.prog 142=some (.agg (roC (.pointer none) (.slice none 0 0) id0 (.slice none 0 0) []).toArray):=id (by kernel_rfl)
 rw[hp,hz]
 simp only[jn_,fillV,List.getElem?_cons_zero,hx]
 rfl
def xS_ (k:Int) (t:List UInt8):Bool:=
 if 1≤k∧k≤3∧t.length≤4096 then
  (if k=1 then true else if k=2 then(wd_ t (qS_ t).2.1 (qS_ t).2.2==0&&qO_ (qS_ t).1) else(wd_ t (kk_ t).2.1 (kk_ t).2.2==0&&v3_ (kk_ t).1))
 else false
def RdS (k:Int) (t:List UInt8) (v:Value) (D:zi_):Prop:=
 ∃p,v= .tuple #[p, .bool (xS_ k t)]∧(1≤k∧k≤3∧t.length≤4096→ ∃bo bw v1 c1 x1 y1,p=vp bo 0∧Sx.look D bo=some (.cells (roC (vp bw 0) v1 c1 x1 y1).toArray 142 (0,0))∧
  (k=2→Gr D 117 34 v1 (qS_ t).1.length ((qS_ t).1.map zR_).flatten)∧
  (k=3→c1=(kk_ t).1.tree∧y1=(kk_ t).1.text∧Gr D 24 32 x1 (kk_ t).1.par.length ((kk_ t).1.par.map z4_).flatten)∧(k≠2→v1= .slice none 0 0))
theorem KB_ (k:Int) (t:List UInt8) (w:World):Rets Tryz.prog 76 #[obV k t] w (XS w [] (RdS k t)):=by
 refine Rets.enterX Tryz.func76 rfl (rs:= [.tmp 2, .tmp 3]) Tryz.results76 Tryz.ntmps76 (fun p hp=>by cases hp) (by simp[keys]) ?_
 refine kf ?_
 first|with_reducible refine ks [] @jI_ ?_|refine kp @jI_ ?_
 refine Ow.box rfl rfl fun b1 hb1 hw1=> ?_
 simp only[zW_,zT_,z1_,ze_,List.nil_append]
 refine ko @jI_ ?_
 refine Ow.build (.agg fnsV) rfl agY_ ?_
 refine ko @jI_ ?_
 refine Ow.alloc rfl rfl anX_ fun b4 hb4 hw4=> ?_
 simp only[ze_,List.nil_append,List.cons_append]
 have h14:b1<b4:=zf_ hb4 (by simp[keys])
 refine ko (And.intro @jI_ @agV_) ?_
 by_cases h1:k<1
 ·have d1:decide (k<1)=true:=decide_eq_true h1
  have e:xS_ k t=false:=by unfold xS_;rw[if_neg (by omega)]
  first|with_reducible refine ks [] (And.intro @jI_ @d1) ?_|refine kp (And.intro @jI_ @d1) ?_
  refine⟨_,(ke @jI_), ?_⟩
  exact⟨Ext.of_new ⟨hw1,hw4,trivial⟩, .pointer none,by rw[e];rfl,fun h=>absurd h.1 (by omega)⟩
 ·have d1:decide (k<1)=false:=decide_eq_false h1
  by_cases h2:3<k
  ·have d2:decide (3<k)=true:=decide_eq_true h2
   have e:xS_ k t=false:=by unfold xS_;rw[if_neg (by omega)]
   first|with_reducible refine ks [] (And.intro @jI_ (And.intro @d1 (@d2))) ?_|refine kp (And.intro @jI_ (And.intro @d1 (@d2))) ?_
   refine⟨_,(ke @jI_), ?_⟩
   exact⟨Ext.of_new ⟨hw1,hw4,trivial⟩, .pointer none,by rw[e];rfl,fun h=>absurd h.2.1 (by omega)⟩
  ·have d2:decide (3<k)=false:=decide_eq_false h2
   by_cases h3:4096<t.length
   ·have d3:decide (4096< (t.length:Int))=true:=decide_eq_true (by omega)
    have e:xS_ k t=false:=by unfold xS_;rw[if_neg (by omega)]
    first|with_reducible refine ks [] (And.intro @jI_ (And.intro @d1 (And.intro @d2 (@d3)))) ?_|refine kp (And.intro @jI_ (And.intro @d1 (And.intro @d2 (@d3)))) ?_
    refine⟨_,(ke @jI_), ?_⟩
    exact⟨Ext.of_new ⟨hw1,hw4,trivial⟩, .pointer none,by rw[e];rfl,fun h=>absurd h.2.2 (by omega)⟩
   ·have d3:decide (4096< (t.length:Int))=false:=decide_eq_false (by omega)
    first|with_reducible refine ks [] (And.intro @jI_ (And.intro @d1 (And.intro @d2 (@d3)))) ?_|refine kp (And.intro @jI_ (And.intro @d1 (And.intro @d2 (@d3)))) ?_
    refine Ow.callF rfl rfl Tryz.call147 (S:=fun B v D=> ∃b',B≤b'∧v=vp b' 0∧D= [(b', .cells #[vs t,vi 0,vi 0] 314 (0,0))]) (fun w' hw'=>agc_ t w') ?_
    rintro B v D hab hB ⟨bw,hbw,rfl,rfl⟩
    obtain⟨h1B,h4B,-⟩:=hab
    refine⟨_,Mrg.fresh (by intro q hq;simp only[keys,List.map_cons,List.map_nil,List.mem_singleton] at hq;omega), ?_⟩
    simp only[List.cons_append,List.nil_append]
    refine ko @jI_ ?_
    refine Ow.build (.agg (roC (vp bw 0) (.slice none 0 0) id0 (.slice none 0 0) []).toArray) rfl (ajz_ _ rfl) ?_
    refine ko @jI_ ?_
    refine Ow.box rfl rfl fun bo hbo hwo=> ?_
    simp only[zW_,zT_,z1_,ze_,List.nil_append,List.cons_append]
    have hobw:bo≠bw:=by have:=zf_ hbo (show bw∈keys _ by simp[keys]);omega
    rcases(show k=1∨k=2∨k=3 by omega) with rfl|rfl|rfl
    ·have lf: ∀n E fz,zA_ (some (false,n)) (some (.cells fnsV E fz)) 1=some (fnV 144):=fun _ _ _=>rfl
     have e:xS_ 1 t=true:=by unfold xS_;rw[if_pos (by omega)];rfl
     refine ko (And.intro @jI_ @lf) ?_
     refine Ow.callV rfl rfl Tryz.call144 (fun w' hw'=>by have:=aco_ (vp bo 0) w';simpa [zW_,z1_,zT_] using this) ?_
     refine ko @jI_ ?_
     first|with_reducible refine ks [] @jI_ ?_|refine kp @jI_ ?_
     refine⟨_,(ke @jI_), ?_⟩
     refine⟨Ext.of_new ⟨hw1,hw4,by omega,hwo,trivial⟩,vp bo 0,by rw[e];rfl,fun h=>⟨bo,bw, .slice none 0 0,id0, .slice none 0 0,[],rfl, ?_,fun h=>absurd h (by decide),fun h=>absurd h (by decide),fun _=>rfl⟩⟩
     have hb1o:b1≠bo:=by have:=zf_ hbo (show b1∈keys _ by simp[keys]);omega
     have hb4o:b4≠bo:=by have:=zf_ hbo (show b4∈keys _ by simp[keys]);omega
     simp(disch:=omega) only[zH_,zY_]
    ·have lf: ∀n E fz,zA_ (some (false,n)) (some (.cells fnsV E fz)) 2=some (fnV 145):=fun _ _ _=>rfl
     have e:xS_ 2 t=(wd_ t (qS_ t).2.1 (qS_ t).2.2==0&&qO_ (qS_ t).1):=by unfold xS_;rw[if_pos (by omega)];rfl
     refine ko (And.intro @jI_ @lf) ?_
     refine Ow.permL (M:= [(bo,Obj.cells (roC (vp bw 0) (.slice none 0 0) id0 (.slice none 0 0) []).toArray 142 (0,0)),(bw,Obj.cells #[vs t,vi 0,vi 0] 314 (0,0))]++ [(b1,Obj.cells #[vi 2,vs t] 35 (0,0)),(b4,Obj.cells fnsV 262 (0,0))]) (by classical exact List.perm_iff_count.2 fun a=>by simp only[List.count_append,List.count_cons,List.count_nil]<;>omega) ?_
     refine Ow.callFnX (b:=vp bo 0) (X:= [(bo,Obj.cells (roC (vp bw 0) (.slice none 0 0) id0 (.slice none 0 0) []).toArray 142 (0,0)),(bw,Obj.cells #[vs t,vi 0,vi 0] 314 (0,0))]) (Y:= [(b1,Obj.cells #[vi 2,vs t] 35 (0,0)),(b4,Obj.cells fnsV 262 (0,0))]) rfl rfl rfl rfl rfl Tryz.call145 (fun w' hw' hX hn=>acp_ bo bw t w' (by omega) hobw (hX _ List.mem_cons_self) (hX _ (List.mem_cons_of_mem _ List.mem_cons_self))) (fun v D hC hS=> ?_)
     obtain⟨rfl,v1,hl1,hg1⟩:=hS
     have hNX:New w.heap.size (D++ [(b1,Obj.cells #[vi 2,vs t] 35 (0,0)),(b4,Obj.cells fnsV 262 (0,0))]):=by
      refine New.of_le fun c hc=> ?_
      rw[zd_,List.mem_append] at hc
      rcases hc with hc|hc
      ·rcases hC.new c hc with h| ⟨-,h⟩
       ·simp only[keys,List.map_cons,List.map_nil,List.mem_cons,List.not_mem_nil,or_false] at h;omega
       ·exact h
      ·simp only[keys,List.map_cons,List.map_nil,List.mem_cons,List.not_mem_nil,or_false] at hc;omega
     refine ko @jI_ ?_
     first|with_reducible refine ks [] @jI_ ?_|refine kp @jI_ ?_
     refine⟨_,(ke @jI_), ?_⟩
     exact⟨Ext.of_new hNX,vp bo 0,by rw[e];rfl,fun _=>⟨bo,bw,v1,_,_,_,rfl,zp_ hl1,fun _=>hg1.app,fun h=>absurd h (by decide),fun h=>absurd rfl h⟩⟩
    ·have lf: ∀n E fz,zA_ (some (false,n)) (some (.cells fnsV E fz)) 3=some (fnV 146):=fun _ _ _=>rfl
     have e:xS_ 3 t=(wd_ t (kk_ t).2.1 (kk_ t).2.2==0&&v3_ (kk_ t).1):=by unfold xS_;rw[if_pos (by omega)];rfl
     refine ko (And.intro @jI_ @lf) ?_
     refine Ow.permL (M:= [(bo,Obj.cells (roC (vp bw 0) (.slice none 0 0) id0 (.slice none 0 0) []).toArray 142 (0,0)),(bw,Obj.cells #[vs t,vi 0,vi 0] 314 (0,0))]++ [(b1,Obj.cells #[vi 3,vs t] 35 (0,0)),(b4,Obj.cells fnsV 262 (0,0))]) (by classical exact List.perm_iff_count.2 fun a=>by simp only[List.count_append,List.count_cons,List.count_nil]<;>omega) ?_
     refine Ow.callFnX (b:=vp bo 0) (X:= [(bo,Obj.cells (roC (vp bw 0) (.slice none 0 0) id0 (.slice none 0 0) []).toArray 142 (0,0)),(bw,Obj.cells #[vs t,vi 0,vi 0] 314 (0,0))]) (Y:= [(b1,Obj.cells #[vi 3,vs t] 35 (0,0)),(b4,Obj.cells fnsV 262 (0,0))]) rfl rfl rfl rfl rfl Tryz.call146 (fun w' hw' hX hn=>afj_ bo bw t w' (by omega) hobw (hX _ List.mem_cons_self) (hX _ (List.mem_cons_of_mem _ List.mem_cons_self))) (fun v D hC hS=> ?_)
     obtain⟨rfl,p1,hl1,hg1⟩:=hS
     have hNX:New w.heap.size (D++ [(b1,Obj.cells #[vi 3,vs t] 35 (0,0)),(b4,Obj.cells fnsV 262 (0,0))]):=by
      refine New.of_le fun c hc=> ?_
      rw[zd_,List.mem_append] at hc
      rcases hc with hc|hc
      ·rcases hC.new c hc with h| ⟨-,h⟩
       ·simp only[keys,List.map_cons,List.map_nil,List.mem_cons,List.not_mem_nil,or_false] at h;omega
       ·exact h
      ·simp only[keys,List.map_cons,List.map_nil,List.mem_cons,List.not_mem_nil,or_false] at hc;omega
     refine ko @jI_ ?_
     first|with_reducible refine ks [] @jI_ ?_|refine kp @jI_ ?_
     refine⟨_,(ke @jI_), ?_⟩
     exact⟨Ext.of_new hNX,vp bo 0,by rw[e];rfl,fun _=>⟨bo,bw,_,_,p1,_,rfl,zp_ hl1,fun h=>absurd h (by decide),fun _=>⟨rfl,rfl,hg1.app⟩,fun _=>rfl⟩⟩
end Go.Proofs
end
section
open Go Go.Proofs Go.Sx Go.StP
namespace Go.Proofs
set_option maxRecDepth 10000
set_option maxHeartbeats 400000
set_option linter.unusedSimpArgs false
set_option linter.defProp false
def jK_:=And.intro (And.intro (And.intro (@qw_) (@qg_)) (And.intro (@qf_) (@qd_))) (And.intro (And.intro (@Sx.tup2_0) (@Sx.tup2_1)) (And.intro (@zJ_) (@zI_)))
theorem JO_ (k:Int) (t:List UInt8) (w:World):Rets Tryz.prog 184 #[obV k t] w (fun v D=>v= .bool (xS_ k t)∧D= []):=by
 refine Rets.enterV Tryz.func184 rfl (rs:= [.tmp 2]) Tryz.results184 Tryz.ntmps184 ?_
 refine kf ?_
 first|with_reducible refine ks [] @jK_ ?_|refine kp @jK_ ?_
 refine Ow.box rfl rfl fun b1 hb1 hw1=> ?_
 simp only[zW_,zT_,z1_,ze_,List.nil_append]
 refine ko @jK_ ?_
 refine Ow.callC rfl rfl Tryz.call76 (fun w' hw'=>KB_ k t w') (fun B v D hA hB hN hS=> ?_)
 obtain⟨p,rfl,-⟩:=hS
 refine ko @jK_ ?_
 first|with_reducible refine ks [] @jK_ ?_|refine kp @jK_ ?_
 refine⟨_,(ke @jK_),⟨hw1,New.mono hB hN⟩, ?_⟩
 rfl
def ab0_ (k:Int) (t:List UInt8) (ok:Bool):Int:=if ok&&xS_ k t then k else 0
def ab9_ (k:Int) (t:List UInt8) (ok:Bool):List UInt8:=if ok&&xS_ k t then t else []
def abS_ (k:Int) (t:List UInt8) (ok:Bool):Int:=if ok&&xS_ k t then 0 else 1
theorem Xl_:z8_ Tryz.prog 35=some (obV 0 []):=id (by kernel_rfl)
theorem J0_:jn_ (wA_ Tryz.prog 35) (z8_ Tryz.prog 35) []=some (obV 0 []):=by
 have hp:wA_ Tryz.prog 35=some [(0,1),(1,1)]:=id (by kernel_rfl)
 rw[hp,Xl_];rfl
theorem W3_ (k:Int) (t:List UInt8):jn_ (wA_ Tryz.prog 35) (z8_ Tryz.prog 35) [(0,vi k),(1,vs t)]=some (obV k t):=by
 have hp:wA_ Tryz.prog 35=some [(0,1),(1,1)]:=id (by kernel_rfl)
 rw[hp,Xl_];rfl
theorem Wh_ (k:Int) (t:List UInt8) (ok:Bool) (w:World):Rets Tryz.prog 116 #[obV k t, .bool ok] w (fun v D=>v= .tuple #[obV (ab0_ k t ok) (ab9_ k t ok),vi (abS_ k t ok)]∧D= []):=by
 refine Rets.enterV Tryz.func116 rfl (rs:= [.cell 4 35, .tmp 5]) Tryz.results116 Tryz.ntmps116 ?_
 refine kf ?_
 first|with_reducible refine ks [] @jK_ ?_|refine kp @jK_ ?_
 refine Ow.box rfl rfl fun b2 hb2 hw2=> ?_
 simp only[zW_,zT_,z1_,ze_,List.nil_append]
 refine ko @jK_ ?_
 refine Ow.alloc rfl rfl Xl_ fun b4 hb4 hw4=> ?_
 simp only[ze_,List.nil_append,List.cons_append]
 have h24:b2<b4:=zf_ hb4 (by simp[keys])
 unfold ab0_ ab9_ abS_
 cases ok
 ·refine ko @jK_ ?_
  refine Ow.build (obV 0 []) rfl J0_ ?_
  refine ko @jK_ ?_
  first|with_reducible refine ks [] @jK_ ?_|refine kp @jK_ ?_
  refine⟨_,(ke @jK_),⟨hw2,hw4,trivial⟩, ?_⟩
  rfl
 ·refine ko @jK_ ?_
  refine Ow.callFV rfl Tryz.call184 (fun w' hw'=>JO_ k t w') ?_
  cases hr:xS_ k t
  ·refine ko @jK_ ?_
   refine Ow.build (obV 0 []) rfl J0_ ?_
   refine ko @jK_ ?_
   first|with_reducible refine ks [] @jK_ ?_|refine kp @jK_ ?_
   refine⟨_,(ke @jK_),⟨hw2,hw4,trivial⟩, ?_⟩
   rfl
  ·refine ko @jK_ ?_
   first|with_reducible refine ks [] @jK_ ?_|refine kp @jK_ ?_
   refine⟨_,(ke @jK_),⟨hw2,hw4,trivial⟩, ?_⟩
   rfl
theorem ahC_ (t:List UInt8) (w:World):Rets Tryz.prog 65 #[vs t] w (fun v D=>v= .tuple #[obV (ab0_ 1 t true) (ab9_ 1 t true),vi (abS_ 1 t true)]∧D= []):=by
 refine Rets.enterV Tryz.func65 rfl (rs:= [.cell 2 35, .tmp 3]) Tryz.results65 Tryz.ntmps65 ?_
 refine kf ?_
 first|with_reducible refine ks [] @jK_ ?_|refine kp @jK_ ?_
 refine Ow.alloc rfl rfl Xl_ fun b2 hb2 hw2=> ?_
 simp only[ze_,List.nil_append,List.cons_append]
 refine ko @jK_ ?_
 refine Ow.build (obV 1 t) rfl (W3_ 1 t) ?_
 refine ko @jK_ ?_
 refine Ow.callFV rfl Tryz.call116 (fun w' hw'=>Wh_ 1 t true w') ?_
 refine ko @jK_ ?_
 first|with_reducible refine ks [] @jK_ ?_|refine kp @jK_ ?_
 refine⟨_,(ke @jK_),⟨hw2,trivial⟩, ?_⟩
 rfl
end Go.Proofs
end
section
open Go Go.Proofs Go.Sx Go.StP
namespace Go.Proofs
set_option maxRecDepth 10000
set_option maxHeartbeats 400000
set_option linter.unusedSimpArgs false
set_option linter.defProp false
theorem BldAt.zeroE (b:Nat) {L:zi_} (h:Sx.look L b=some (.cells #[.pointer none, .slice none 0 0] 236 (0,0))):BldAt b [] L:=
 ⟨_,_,h, .inl rfl, .nl,fun h=>by cases h⟩
theorem zrWr:z8_ Tryz.prog 236=some (.agg #[.pointer none, .slice none 0 0]):=id (by kernel_rfl)
theorem agf_ (x:IdL):kU_ Tryz.prog 30 1 [(0, .agg (a8 x.l))]=some (24,a8 x.l):=qu_ (cs:=x.l.map v8) Tryz.underlying30 Kt_ Qz_ (by decide) (by simp[x.h])
theorem ahh_ (x:IdL) {w':World} {b:Nat} (h:w'.heap[b]? =some (.cells (a8 x.l) 24 (0,0))):RowS 32 z4_ id0 w' (vsl b 0 1 1) [x] b 0 (a8 x.l) 24 (0,0):=RowS.sl rfl h (by
 intro k hk j hj
 obtain rfl:k=0:=by simpa using hk
 simp only[Nat.zero_mul,Nat.zero_add,List.getD_cons_zero]
 rw[←ZM_,List.getElem?_toArray])
theorem Came.newE {w0:World} {L X D:zi_} {b:Nat} (hC:Came w0 L X D) (hN:New (b+1) X) (hb:b∈keys L):New (b+1) D:=New.of_le fun c hc=>by
 rcases hC.new c hc with h| ⟨h,-⟩
 ·exact hN.le c h
 ·have:=zf_ h hb;omega
end Go.Proofs
end
section
open Go Go.Proofs Go.Sx Go.StP
namespace Go.Proofs
set_option maxRecDepth 10000
set_option maxHeartbeats 400000
set_option linter.unusedSimpArgs false
set_option linter.defProp false
def xT_:=And.intro (And.intro (And.intro (@qw_) (And.intro (@qg_) (@qf_))) (And.intro (And.intro (@qd_) (@Sx.tup2_0)) (And.intro (@Sx.tup2_1) (@x6_)))) (And.intro (And.intro (@k2_) (And.intro (@kS_) (@jm_))) (And.intro (And.intro (@qk_) (@qh_)) (And.intro (@zJ_) (@zI_))))
structure WrG where
 g:Nat
 D:zi_
theorem Came.newF {w0:World} {L X D:zi_} {m b:Nat} (hC:Came w0 L X D) (hN:New m X) (hb:b∈keys L) (hm:m≤b+1):New m D:=New.of_le fun c hc=>by
 rcases hC.new c hc with h| ⟨h,-⟩
 ·exact hN.le c h
 ·have:=zf_ h hb;omega
theorem akz_ {l Z:List EntL} (h:StE l Z) {y:EntL} (hy:y∈Z):y∈l:=by
 have h1:=h y.name
 have h2:y∈StP.of EntL.name y.name Z:=List.mem_filter.2 ⟨hy,by simp⟩
 rw[h1] at h2
 exact(List.mem_filter.1 h2).1
theorem ZR_ {l:List EntL} (hsh: ∀e,e∈l→e.name.length<10000): ∀k,k≤l.length→(qm_ (l.take k)).length≤k*10060
 |0,_=>by simp[qm_]
 |k+1,hk=>by
  have ih:=ZR_ hsh k (by omega)
  have hn:=hsh _ (Q2_ (z:=ent0) (show k<l.length by omega))
  have h1: (jP_ (l.getD k ent0).name).length=(vq_ (qx_ (l.getD k ent0).name.length)).length+ (l.getD k ent0).name.length:=by unfold jP_;rw[List.length_append]
  have h4:=zM_ ((l.getD k ent0).name.length:Int)
  have h2:=zM_ (l.getD k ent0).kind
  have h3:=(l.getD k ent0).id.h
  rw[ZX_ (by omega)]
  unfold entB
  simp only[List.length_append]
  omega
theorem afa_ (v:Value) (l:List EntL) (w:World) (hv:EntS w v l) (hl:l.length<1000) (hsh: ∀e,e∈l→e.name.length<10000):
  Rets Tryz.prog 67 #[v] w (XS w [] (fun v' _=> ∃Z,SortOf l Z∧v'= .tuple #[obV (ab0_ 2 (qm_ Z) (qO_ Z)) (ab9_ 2 (qm_ Z) (qO_ Z)),vi (abS_ 2 (qm_ Z) (qO_ Z))])):=by
 have ln:=hv.len
 refine Rets.enterX Tryz.func67 rfl (rs:= [.cell 2 35, .tmp 3]) Tryz.results67 Tryz.ntmps67 (fun p hp=>by cases hp) (by simp[keys]) ?_
 refine kf ?_
 first|with_reducible refine ks [] @xT_ ?_|refine kp @xT_ ?_
 refine Ow.alloc rfl rfl Xl_ fun b2 hb2 hw2=> ?_
 simp only[ze_,List.nil_append,List.cons_append]
 refine ko @xT_ ?_
 refine Ow.callF rfl rfl Tryz.call120 (S:=fun B v' D=> ∃b1,B≤b1∧v'= .func (.func 189) #[] #[vp b1 0]∧D= [(b1, .cells #[v] 122 (0,0))]) (fun w' hw'=>aaV_ v w' (SlV.one hv)) ?_
 rintro B v D hab hB ⟨b1,hb1,rfl,rfl⟩
 obtain⟨h2B,-⟩:=hab
 refine⟨_,Mrg.fresh (by intro q hq;simp only[keys,List.map_cons,List.map_nil,List.mem_singleton] at hq;omega), ?_⟩
 simp only[List.cons_append,List.nil_append]
 refine ko @xT_ ?_
 refine Ow.callC rfl rfl Tryz.call119 (fun w' hw'=>acy_ _ _ l w' Tryz.call189 (by omega) (fun w2 h2=>acL_ b1 v l w2 (hv.oldN (hw'.trans_nil h2) ⟨by omega,by omega,trivial⟩) ((hw'.trans_nil h2).has _ _ (List.mem_cons_of_mem _ List.mem_cons_self)) (by omega))) (fun B2 v2 D2 hA2 hB2 hN2 hS2=> ?_)
 obtain⟨Z,hZ,hG⟩:=hS2
 refine ko @xT_ ?_
 refine Ow.alloc rfl rfl zrWr fun bw hbw hww=> ?_
 simp only[ze_,List.nil_append,List.cons_append]
 have h2w:b2<bw:=zf_ hbw (by simp[keys])
 have h1w:b1<bw:=zf_ hbw (by simp[keys])
 have hDw: ∀c,c∈keys D2→c<bw:=fun c hc=>zf_ hbw (by simp only[keys,List.map_cons,List.mem_cons];exact .inr (.inr hc))
 refine Ow.permL (M:= [(bw,Obj.cells #[.pointer none, .slice none 0 0] 236 (0,0))]++ (D2++ [(b2,Obj.cells #[vi 0,vs []] 35 (0,0)),(b1,Obj.cells #[v] 122 (0,0))])) (by classical exact List.perm_iff_count.2 fun a=>by simp only[List.count_append,List.count_cons,List.count_nil]<;>omega) ?_
 have hB0:BldAt bw [] [(bw,Obj.cells #[.pointer none, .slice none 0 0] 236 (0,0))]:=BldAt.zeroE bw (zH_ _ _ _)
 have hN0:New bw [(bw,Obj.cells #[.pointer none, .slice none 0 0] 236 (0,0))]:=⟨Nat.le_refl _,trivial⟩
 have hM0:bw∈keys [(bw,Obj.cells #[.pointer none, .slice none 0 0] 236 (0,0))]:=by simp[keys]
 generalize [(bw,Obj.cells #[.pointer none, .slice none 0 0] 236 (0,0))]=D0 at hB0 hN0 hM0 ⊢
 have ln2:=hG.len
 refine ko (And.intro @xT_ @ln2) ?_
 have hZl:=hZ.1
 have hshZ: ∀e,e∈Z→e.name.length<10000:=fun e he=>hsh e (akz_ hZ.2.2 he)
 refine Cw.loopG (G:=WrG) [13,14,15,6,16,17,18,19,20,21,22,23,24,25,26,27,28,12] (fun q=> [(12,vi q.g)]) (fun q=>q.D++ (D2++ [(b2,Obj.cells #[vi 0,vs []] 35 (0,0)),(b1,Obj.cells #[v] 122 (0,0))])) (fun q=>q.g≤l.length∧BldAt bw (qm_ (Z.take q.g)) q.D∧New bw q.D∧bw∈keys q.D) (fun q=>l.length - q.g) ⟨0,D0⟩ rfl rfl ?_ ?_
 ·exact⟨Nat.zero_le _,hB0,hN0,hM0⟩
 ·intro q jq hq
  refine kv ?_
  obtain⟨k,D⟩:=q
  simp only at hq ⊢
  obtain⟨h1,hB1,hN1,hM1⟩:=hq
  by_cases hk:k<l.length
  ·have hkZ:k<Z.length:=by omega
   obtain⟨c,cc,rest,hv2,hlk⟩: ∃c cc rest,v2=vsl c 0 l.length cc∧Sx.look D2 c=some (k5_ rest Z):=by
    rcases hG with h| ⟨h,-⟩
    ·rcases h.inv with⟨-,h,-⟩ | ⟨c,cc,rest,h,hlk,-⟩
     ·omega
     ·exact⟨c,cc,rest,h,hlk⟩
    ·omega
   subst hv2
   have hcw:=hDw c (zn_ hlk)
   have rdz: ∀M,zv_ w (D++ (D2++M)) c=some (k5_ rest Z):=fun M=>zg_ (by rw[z3_ (hN1.not hcw)];exact zp_ hlk)
   have ldz:=xw_ (rest:=rest) k hkZ
   generalize hx:Z.getD k ent0=x at ldz
   first|with_reducible refine ks [] (And.intro @xT_ (And.intro @rdz (@ldz))) ?_|refine kp (And.intro @xT_ (And.intro @rdz (@ldz))) ?_
   refine Ow.alloc rfl rfl vM_ fun b6 hb6 hw6=> ?_
   simp only[ze_,List.nil_append,List.cons_append]
   have hw6':bw<b6:=zf_ hb6 (by simp only[keys,List.map_append,List.mem_append] at hM1 ⊢;simp[hM1])
   refine Ow.permL (M:=(b6,Obj.cells (zR_ ent0).toArray 117 (0,0)):: (D++ (D2++ [(b2,Obj.cells #[vi 0,vs []] 35 (0,0)),(b1,Obj.cells #[v] 122 (0,0))]))) (by classical exact List.perm_iff_count.2 fun a=>by simp only[List.count_append,List.count_cons,List.count_nil]<;>omega) ?_
   refine ko @xT_ ?_
   have hxn:x.name.length<10000:=by rw[←hx];exact hsh _ (akz_ hZ.2.2 (Q2_ hkZ))
   have htl:x4_ [x.name]=jP_ x.name:=by simp[x4_]
   have tll:=kg_ (s:=x.name) (by omega)
   have tnl: (jP_ x.name).length=(vq_ (qx_ x.name.length)).length+x.name.length:=by unfold jP_;rw[List.length_append]
   have nl1:=zM_ (x.name.length:Int)
   have nl2:=zM_ x.kind
   have tbl:=ZR_ hshZ k (by omega)
   refine Ow.buildSlice (e:=3) #[vi x.kind] rfl rfl (by kernel_rfl) fun b18 hb18 hw18=> ?_
   have hD18:b18∉keys D:=fun hm=>Nat.lt_irrefl _ (zf_ hb18 (by simp only[keys,List.map_cons,List.map_append,List.mem_cons,List.mem_append] at hm ⊢;simp[hm]))
   have hw18':bw<b18:=zf_ hb18 (by simp only[keys,List.map_cons,List.map_append,List.mem_cons,List.mem_append] at hM1 ⊢;simp[hM1])
   refine Ow.permL (M:=D++ ((b6,Obj.cells (zR_ x).toArray 117 (0,0)):: (b18,Obj.cells #[vi x.kind] 3 (0,0)):: (D2++ [(b2,Obj.cells #[vi 0,vs []] 35 (0,0)),(b1,Obj.cells #[v] 122 (0,0))]))) (by classical exact List.perm_iff_count.2 fun a=>by simp only[List.count_append,List.count_cons,List.count_nil]<;>omega) ?_
   refine ko @xT_ ?_
   refine Ow.callX (Y:=((b6,Obj.cells (zR_ x).toArray 117 (0,0)):: (b18,Obj.cells #[vi x.kind] 3 (0,0)):: (D2++ [(b2,Obj.cells #[vi 0,vs []] 35 (0,0)),(b1,Obj.cells #[v] 122 (0,0))]))) (by simp) rfl rfl Tryz.call123 (fun w' hw' hX hn=>Ql_ bw D _ _ b18 0 [x.kind] _ _ _ w' hB1 hX hn (OneS.lit [x.kind] rfl rfl (hw'.has _ _ (List.mem_append_right _ (List.mem_cons_of_mem _ List.mem_cons_self)))) (fun _=>hD18) (by simp only[List.length_cons,List.length_nil];omega)) (fun u1 E1 hC1 hS1=> ?_)
   obtain⟨rfl,hB1'⟩:=hS1
   have hN1':=Came.newF hC1 hN1 (b:=b18) (by simp[keys]) (by omega)
   have hM1':=hC1.all _ hM1
   have hB2:=hB1'.app (Y:= [(b18,Obj.cells #[vi x.kind] 3 (0,0))])
   have hN2:=hN1'.app (show New bw [(b18,Obj.cells #[vi x.kind] 3 (0,0))] from⟨by omega,trivial⟩)
   have hM2:bw∈keys (E1++ [(b18,Obj.cells #[vi x.kind] 3 (0,0))]):=by rw[zd_];exact List.mem_append_left _ hM1'
   refine Ow.permL (M:=(b6,Obj.cells (zR_ x).toArray 117 (0,0)):: ((E1++ [(b18,Obj.cells #[vi x.kind] 3 (0,0))])++ (D2++ [(b2,Obj.cells #[vi 0,vs []] 35 (0,0)),(b1,Obj.cells #[v] 122 (0,0))]))) (by classical exact List.perm_iff_count.2 fun a=>by simp only[List.count_append,List.count_cons,List.count_nil]<;>omega) ?_
   generalize E1++ [(b18,Obj.cells #[vi x.kind] 3 (0,0))]=F2 at hB2 hN2 hM2 ⊢
   refine ko @xT_ ?_
   rw[aaG_] at hB2
   refine Ow.buildSlice (e:=9) #[vs x.name] rfl rfl (by kernel_rfl) fun b22 hb22 hw22=> ?_
   have hD22:b22∉keys F2:=fun hm=>Nat.lt_irrefl _ (zf_ hb22 (by simp only[keys,List.map_cons,List.map_append,List.mem_cons,List.mem_append] at hm ⊢;simp[hm]))
   have hw22':bw<b22:=zf_ hb22 (by simp only[keys,List.map_cons,List.map_append,List.mem_cons,List.mem_append] at hM2 ⊢;simp[hM2])
   refine Ow.permL (M:=F2++ ((b6,Obj.cells (zR_ x).toArray 117 (0,0)):: (b22,Obj.cells #[vs x.name] 9 (0,0)):: (D2++ [(b2,Obj.cells #[vi 0,vs []] 35 (0,0)),(b1,Obj.cells #[v] 122 (0,0))]))) (by classical exact List.perm_iff_count.2 fun a=>by simp only[List.count_append,List.count_cons,List.count_nil]<;>omega) ?_
   refine ko @xT_ ?_
   refine Ow.callX (Y:=((b6,Obj.cells (zR_ x).toArray 117 (0,0)):: (b22,Obj.cells #[vs x.name] 9 (0,0)):: (D2++ [(b2,Obj.cells #[vi 0,vs []] 35 (0,0)),(b1,Obj.cells #[v] 122 (0,0))]))) (by simp) rfl rfl Tryz.call124 (fun w' hw' hX hn=>Kl_ bw F2 _ _ b22 0 [x.name] _ _ _ w' hB2 hX hn (StrS.lit [x.name] rfl rfl (hw'.has _ _ (List.mem_append_right _ (List.mem_cons_of_mem _ List.mem_cons_self)))) (fun _=>hD22) (by rw[htl];simp only[List.length_append,List.length_cons,List.length_nil];omega) (by simp)) (fun u2 E2 hC2 hS2=> ?_)
   obtain⟨rfl,hB2'⟩:=hS2
   have hN2':=Came.newF hC2 hN2 (b:=b22) (by simp[keys]) (by omega)
   have hM2':=hC2.all _ hM2
   have hB3:=hB2'.app (Y:= [(b22,Obj.cells #[vs x.name] 9 (0,0))])
   have hN3:=hN2'.app (show New bw [(b22,Obj.cells #[vs x.name] 9 (0,0))] from⟨by omega,trivial⟩)
   have hM3:bw∈keys (E2++ [(b22,Obj.cells #[vs x.name] 9 (0,0))]):=by rw[zd_];exact List.mem_append_left _ hM2'
   refine Ow.permL (M:=(b6,Obj.cells (zR_ x).toArray 117 (0,0)):: ((E2++ [(b22,Obj.cells #[vs x.name] 9 (0,0))])++ (D2++ [(b2,Obj.cells #[vi 0,vs []] 35 (0,0)),(b1,Obj.cells #[v] 122 (0,0))]))) (by classical exact List.perm_iff_count.2 fun a=>by simp only[List.count_append,List.count_cons,List.count_nil]<;>omega) ?_
   generalize E2++ [(b22,Obj.cells #[vs x.name] 9 (0,0))]=F3 at hB3 hN3 hM3 ⊢
   refine ko @xT_ ?_
   rw[htl] at hB3
   refine Ow.buildSlice (e:=24) (a8 x.id.l) rfl rfl (agf_ x.id) fun b26 hb26 hw26=> ?_
   have hD26:b26∉keys F3:=fun hm=>Nat.lt_irrefl _ (zf_ hb26 (by simp only[keys,List.map_cons,List.map_append,List.mem_cons,List.mem_append] at hm ⊢;simp[hm]))
   have hw26':bw<b26:=zf_ hb26 (by simp only[keys,List.map_cons,List.map_append,List.mem_cons,List.mem_append] at hM3 ⊢;simp[hM3])
   refine Ow.permL (M:=F3++ ((b6,Obj.cells (zR_ x).toArray 117 (0,0)):: (b26,Obj.cells (a8 x.id.l) 24 (0,0)):: (D2++ [(b2,Obj.cells #[vi 0,vs []] 35 (0,0)),(b1,Obj.cells #[v] 122 (0,0))]))) (by classical exact List.perm_iff_count.2 fun a=>by simp only[List.count_append,List.count_cons,List.count_nil]<;>omega) ?_
   refine ko @xT_ ?_
   refine Ow.callX (Y:=((b6,Obj.cells (zR_ x).toArray 117 (0,0)):: (b26,Obj.cells (a8 x.id.l) 24 (0,0)):: (D2++ [(b2,Obj.cells #[vi 0,vs []] 35 (0,0)),(b1,Obj.cells #[v] 122 (0,0))]))) (by simp) rfl rfl Tryz.call125 (fun w' hw' hX hn=>aiM_ bw F3 _ _ b26 0 [x.id] _ _ _ w' hB3 hX hn (ahh_ x.id (hw'.has _ _ (List.mem_append_right _ (List.mem_cons_of_mem _ List.mem_cons_self)))) (fun _=>hD26) (by simp only[List.length_append,List.length_cons,List.length_nil];omega)) (fun u3 E3 hC3 hS3=> ?_)
   obtain⟨rfl,hB3'⟩:=hS3
   have hN3':=Came.newF hC3 hN3 (b:=b26) (by simp[keys]) (by omega)
   have hM3':=hC3.all _ hM3
   have hB4:=hB3'.app (Y:= [(b26,Obj.cells (a8 x.id.l) 24 (0,0))])
   have hN4:=hN3'.app (show New bw [(b26,Obj.cells (a8 x.id.l) 24 (0,0))] from⟨by omega,trivial⟩)
   have hM4:bw∈keys (E3++ [(b26,Obj.cells (a8 x.id.l) 24 (0,0))]):=by rw[zd_];exact List.mem_append_left _ hM3'
   refine Ow.permL (M:=(b6,Obj.cells (zR_ x).toArray 117 (0,0)):: ((E3++ [(b26,Obj.cells (a8 x.id.l) 24 (0,0))])++ (D2++ [(b2,Obj.cells #[vi 0,vs []] 35 (0,0)),(b1,Obj.cells #[v] 122 (0,0))]))) (by classical exact List.perm_iff_count.2 fun a=>by simp only[List.count_append,List.count_cons,List.count_nil]<;>omega) ?_
   generalize E3++ [(b26,Obj.cells (a8 x.id.l) 24 (0,0))]=F4 at hB4 hN4 hM4 ⊢
   refine Ow.permL (M:=(F4++ [(b6,Obj.cells (zR_ x).toArray 117 (0,0))])++ (D2++ [(b2,Obj.cells #[vi 0,vs []] 35 (0,0)),(b1,Obj.cells #[v] 122 (0,0))])) (by classical exact List.perm_iff_count.2 fun a=>by simp only[List.count_append,List.count_cons,List.count_nil]<;>omega) ?_
   refine ko @xT_ ?_
   refine Again.mk (WrG.mk (k+1) (F4++ [(b6,Obj.cells (zR_ x).toArray 117 (0,0))])) (by show l.length - (k+1)<l.length - k;omega) ⟨by show k+1≤l.length;omega, ?_,hN4.app ⟨by omega,trivial⟩,by show bw∈keys (F4++_);rw[zd_];exact List.mem_append_left _ hM4⟩ rfl rfl
   show BldAt bw (qm_ (Z.take (k+1))) (F4++_)
   rw[J3_ hkZ,hx]
   have e1:idsL [x.id]=x.id.l:=by simp[idsL]
   rw[e1] at hB4
   exact hB4.app
  ·obtain rfl:k=l.length:=by omega
   have hall:Z.take l.length=Z:=List.take_of_length_le (by omega)
   rw[hall] at hB1
   first|with_reducible refine ks [] @xT_ ?_|refine kp @xT_ ?_
   have tbl:=ZR_ hshZ Z.length (Nat.le_refl _)
   rw[List.take_length] at tbl
   have hsZ:Ks_ Z:=fun i hi=>by have:=hshZ _ (Q2_ (z:=ent0) hi);omega
   refine Ow.callX (Y:=(D2++ [(b2,Obj.cells #[vi 0,vs []] 35 (0,0)),(b1,Obj.cells #[v] 122 (0,0))])) (by simp) rfl rfl Tryz.call126 (fun w' hw' hX hn=>Qy_ bw D (qm_ Z) w' hB1 hX hn (by omega)) (fun v5 D5 hC5 hS5=> ?_)
   obtain rfl:=hS5
   have hN5:=Came.newF hC5 hN1 (b:=bw) (by rw[zd_];exact List.mem_append_left _ hM1) (by omega)
   have hN2':New w.heap.size D2:=hN2.mono (by omega)
   have hNe:New w.heap.size (D5++ (D2++ [(b2,Obj.cells #[vi 0,vs []] 35 (0,0)),(b1,Obj.cells #[v] 122 (0,0))])):=(New.mono (by omega) hN5).app (hN2'.app ⟨hw2,by omega,trivial⟩)
   refine ko @xT_ ?_
   refine Ow.build (obV 2 (qm_ Z)) rfl (W3_ 2 _) ?_
   refine ko @xT_ ?_
   refine Ow.callFV rfl Tryz.call127 (fun w' hw'=>Qi_ v2 Z w' (hG.slM (fun b o hm=>hw'.has b o (by simp[hm])) hZl rfl zZ_) (by omega) hsZ) ?_
   refine ko @xT_ ?_
   refine Ow.callFV rfl Tryz.call116 (fun w' hw'=>Wh_ 2 (qm_ Z) (qO_ Z) w') ?_
   refine Ow.permL (M:=(b2,Obj.cells #[vi 0,vs []] 35 (0,0)):: (D5++ (D2++ [(b1,Obj.cells #[v] 122 (0,0))]))) (by classical exact List.perm_iff_count.2 fun a=>by simp only[List.count_append,List.count_cons,List.count_nil]<;>omega) ?_
   refine ko @xT_ ?_
   first|with_reducible refine ks [] @xT_ ?_|refine kp @xT_ ?_
   refine⟨_,(ke @xT_), ?_⟩
   exact⟨Ext.of_new ⟨hw2,(New.mono (by omega) hN5).app (hN2'.app ⟨by omega,trivial⟩)⟩,Z,hZ,rfl⟩
end Go.Proofs
end
section
open Go Go.Proofs Go.Sx Go.StP
namespace Go.Proofs
set_option maxRecDepth 10000
set_option maxHeartbeats 400000
set_option linter.unusedSimpArgs false
theorem wZ_ {k:Int} {t:List UInt8} (h:xS_ k t=true):1≤k∧k≤3∧t.length≤4096:=by
 unfold xS_ at h
 split at h
 ·assumption
 ·cases h
set_option linter.defProp false
end Go.Proofs
end
section
open Go Go.Proofs Go.Sx Go.StP
namespace Go.Proofs
set_option maxRecDepth 10000
set_option maxHeartbeats 400000
set_option linter.unusedSimpArgs false
set_option linter.defProp false
def vG_:=And.intro (And.intro (And.intro (@qw_) (@qg_)) (And.intro (@qf_) (@qd_))) (And.intro (And.intro (@Sx.tup2_0) (@Sx.tup2_1)) (And.intro (@zJ_) (@zI_)))
def Zw_ (k:Int):List UInt8:=(([32,98,116,99]:List UInt8).take (k+1).toNat).drop k.toNat
def xx_ (k:Int) (t:List UInt8):List UInt8:=Zw_ k++jP_ t
theorem abu_ (k:Int) (t:List UInt8) (w:World):Rets Tryz.prog 117 #[obV k t] w (XS w [] (fun v _=>v=if xS_ k t then .tuple #[vs (xx_ k t),vi 0] else .tuple #[vs [],vi 1])):=by
 refine Rets.enterX Tryz.func117 rfl (rs:= [.tmp 2, .tmp 3]) Tryz.results117 Tryz.ntmps117 (fun p hp=>by cases hp) (by simp[keys]) ?_
 refine kf ?_
 first|with_reducible refine ks [] @vG_ ?_|refine kp @vG_ ?_
 refine Ow.box rfl rfl fun b1 hb1 hw1=> ?_
 simp only[zW_,zT_,z1_,ze_,List.nil_append]
 refine ko @vG_ ?_
 refine Ow.callFV rfl Tryz.call184 (fun w' hw'=>JO_ k t w') ?_
 cases hr:xS_ k t
 ·refine ko @vG_ ?_
  first|with_reducible refine ks [] @vG_ ?_|refine kp @vG_ ?_
  refine⟨_,(ke @vG_), ?_⟩
  exact⟨Ext.of_new ⟨hw1,trivial⟩,rfl⟩
 ·obtain⟨hk1,hk3,htl⟩:=wZ_ hr
  have hhl: (Zw_ k).length≤4:=by unfold Zw_;simp only[List.length_drop,List.length_take,List.length_cons,List.length_nil];omega
  refine ko @vG_ ?_
  refine Ow.alloc rfl rfl zrWr fun b4 hb4 hw4=> ?_
  simp only[ze_,List.nil_append,List.cons_append]
  have h14:b1<b4:=zf_ hb4 (by simp[keys])
  refine Ow.permL (M:= [(b4,Obj.cells #[.pointer none, .slice none 0 0] 236 (0,0))]++ [(b1,Obj.cells #[vi k,vs t] 35 (0,0))]) (by classical exact List.perm_iff_count.2 fun a=>by simp only[List.count_append,List.count_cons,List.count_nil]<;>omega) ?_
  have hB0:BldAt b4 [] [(b4,Obj.cells #[.pointer none, .slice none 0 0] 236 (0,0))]:=BldAt.zeroE b4 (zH_ _ _ _)
  have hN0:New (b1+1) [(b4,Obj.cells #[.pointer none, .slice none 0 0] 236 (0,0))]:=⟨by omega,trivial⟩
  generalize [(b4,Obj.cells #[.pointer none, .slice none 0 0] 236 (0,0))]=D0 at hB0 hN0 ⊢
  have rdc: ∀ {D},New (b1+1) D→ ∀M,zv_ w (D++ (b1,Obj.cells #[vi k,vs t] 35 (0,0))::M) b1=some (.cells #[vi k,vs t] 35 (0,0)):=fun hn M=>zg_ (by rw[z3_ (hn.not (by omega))];exact zH_ _ _ _)
  have r0:=rdc hN0
  have hsl:qR_ .str (vs ([32,98,116,99]:List UInt8)) (some (some k)) (some (some (k+1)))=some (vs (Zw_ k)):=ww_ _ _ _ ⟨by omega,by omega,by simp only[List.length_cons,List.length_nil];omega⟩
  refine ko (And.intro @vG_ (And.intro @r0 (@hsl))) ?_
  refine Ow.buildSlice (e:=9) #[vs (Zw_ k)] rfl rfl (by kernel_rfl) fun b14 hb14 hw14=> ?_
  have h114:b1<b14:=zf_ hb14 (by simp[keys])
  have hD14:b14∉keys D0:=fun hm=>Nat.lt_irrefl _ (zf_ hb14 (by rw[zd_];exact List.mem_append_left _ hm))
  refine ko @vG_ ?_
  refine Ow.callX (Y:= [(b1,Obj.cells #[vi k,vs t] 35 (0,0)),(b14,Obj.cells #[vs (Zw_ k)] 9 (0,0))]) (by simp) rfl rfl Tryz.call154 (fun w' hw' hX hn=>Xe_ b4 D0 _ _ b14 0 [Zw_ k] _ _ _ w' hB0 hX hn (StrS.lit [Zw_ k] rfl rfl (hw'.has _ _ (List.mem_append_right _ List.mem_cons_self))) (fun _=>hD14) (by simp;omega) (by simp)) (fun u0 E0 hC0 hS0=> ?_)
  obtain⟨rfl,hB0'⟩:=hS0
  have hN0':=Came.newE hC0 hN0 (by simp[keys])
  have hB1:=hB0'.app (Y:= [(b14,Obj.cells #[vs (Zw_ k)] 9 (0,0))])
  have hN1:=hN0'.app (show New (b1+1) [(b14,Obj.cells #[vs (Zw_ k)] 9 (0,0))] from⟨by omega,trivial⟩)
  refine Ow.permL (M:=(E0++ [(b14,Obj.cells #[vs (Zw_ k)] 9 (0,0))])++ [(b1,Obj.cells #[vi k,vs t] 35 (0,0))]) (by classical exact List.perm_iff_count.2 fun a=>by simp only[List.count_append,List.count_cons,List.count_nil]<;>omega) ?_
  generalize E0++ [(b14,Obj.cells #[vs (Zw_ k)] 9 (0,0))]=F1 at hB1 hN1 ⊢
  simp only[List.flatten_cons,List.flatten_nil,List.append_nil,List.nil_append] at hB1
  have r1:=rdc hN1
  refine ko (And.intro @vG_ @r1) ?_
  have htx:x4_ [t]=jP_ t:=by simp[x4_]
  have tll:=kg_ (s:=t) (by omega)
  have tnl: (jP_ t).length=(vq_ (qx_ t.length)).length+t.length:=by unfold jP_;rw[List.length_append]
  have nl1:=zM_ (t.length:Int)
  refine Ow.buildSlice (e:=9) #[vs t] rfl rfl (by kernel_rfl) fun b18 hb18 hw18=> ?_
  have h118:b1<b18:=zf_ hb18 (by simp[keys])
  have hD18:b18∉keys F1:=fun hm=>Nat.lt_irrefl _ (zf_ hb18 (by rw[zd_];exact List.mem_append_left _ hm))
  refine ko @vG_ ?_
  refine Ow.callX (Y:= [(b1,Obj.cells #[vi k,vs t] 35 (0,0)),(b18,Obj.cells #[vs t] 9 (0,0))]) (by simp) rfl rfl Tryz.call124 (fun w' hw' hX hn=>Kl_ b4 F1 _ _ b18 0 [t] _ _ _ w' hB1 hX hn (StrS.lit [t] rfl rfl (hw'.has _ _ (List.mem_append_right _ List.mem_cons_self))) (fun _=>hD18) (by rw[htx];omega) (by simp)) (fun u1 E1 hC1 hS1=> ?_)
  obtain⟨rfl,hB1'⟩:=hS1
  have hN1':=Came.newE hC1 hN1 (by simp[keys])
  have hB2:=hB1'.app (Y:= [(b18,Obj.cells #[vs t] 9 (0,0))])
  have hN2:=hN1'.app (show New (b1+1) [(b18,Obj.cells #[vs t] 9 (0,0))] from⟨by omega,trivial⟩)
  refine Ow.permL (M:=(E1++ [(b18,Obj.cells #[vs t] 9 (0,0))])++ [(b1,Obj.cells #[vi k,vs t] 35 (0,0))]) (by classical exact List.perm_iff_count.2 fun a=>by simp only[List.count_append,List.count_cons,List.count_nil]<;>omega) ?_
  generalize E1++ [(b18,Obj.cells #[vs t] 9 (0,0))]=F2 at hB2 hN2 ⊢
  rw[htx] at hB2
  refine ko @vG_ ?_
  refine Ow.callX (Y:= [(b1,Obj.cells #[vi k,vs t] 35 (0,0))]) (by simp) rfl rfl Tryz.call126 (fun w' hw' hX hn=>Qy_ b4 F2 _ w' hB2 hX hn (by rw[List.length_append];omega)) (fun v5 D5 hC5 hS5=> ?_)
  obtain rfl:=hS5
  have hN5:=Came.newE hC5 hN2 (by simp[keys])
  refine ko @vG_ ?_
  first|with_reducible refine ks [] @vG_ ?_|refine kp @vG_ ?_
  refine⟨_,(ke @vG_), ?_⟩
  exact⟨Ext.of_new ((New.mono (by omega) hN5).app ⟨hw1,trivial⟩),rfl⟩
end Go.Proofs
end
section
open Go Go.Proofs Go.Sx Go.StP
namespace Go.Proofs
set_option maxRecDepth 10000
set_option maxHeartbeats 400000
set_option linter.unusedSimpArgs false
set_option linter.defProp false
def km_:=And.intro (And.intro (And.intro (@qw_) (@qg_)) (And.intro (@qf_) (@qd_))) (And.intro (And.intro (@Sx.tup2_0) (@Sx.tup2_1)) (And.intro (@kd_) (And.intro (@zJ_) (@zI_))))
def JR_ (k:Int) (t:List UInt8):Bool:=if 4096<t.length then false else if k=2 then(KU_ t).isSome else if k=3 then(Vp_ t).isSome else k==1
theorem wI_ (k:Int) (t:List UInt8) (w:World):Rets Tryz.prog 19 #[obV k t] w (fun v D=>v= .bool (JR_ k t)∧D= []):=by
 refine Rets.enterV Tryz.func19 rfl (rs:= [.tmp 2]) Tryz.results19 Tryz.ntmps19 ?_
 refine kf ?_
 first|with_reducible refine ks [] @km_ ?_|refine kp @km_ ?_
 refine Ow.box rfl rfl fun b1 hb1 hw1=> ?_
 simp only[zW_,zT_,z1_,ze_,List.nil_append]
 refine ko @km_ ?_
 unfold JR_
 by_cases h3:4096<t.length
 ·have d1:decide (4096< (t.length:Int))=true:=decide_eq_true (by omega)
  rw[if_pos h3]
  first|with_reducible refine ks [] (And.intro @km_ @d1) ?_|refine kp (And.intro @km_ @d1) ?_
  refine⟨_,(ke @km_),⟨hw1,trivial⟩, ?_⟩
  rfl
 ·have d1:decide (4096< (t.length:Int))=false:=decide_eq_false (by omega)
  rw[if_neg h3]
  by_cases h2:k=2
  ·subst h2
   rw[if_pos rfl]
   first|with_reducible refine ks [] (And.intro @km_ @d1) ?_|refine kp (And.intro @km_ @d1) ?_
   refine Ow.callC rfl rfl Tryz.call68 (fun w' hw'=>ZC_ t w' (by omega)) (fun B v D hA hB hN hS=> ?_)
   obtain⟨p,b,rfl,hb⟩: ∃p b,v= .tuple #[p, .bool b]∧(KU_ t).isSome=b:=by
    unfold adC_ at hS
    cases h:KU_ t with
    |none=>rw[h] at hS;exact⟨_,_,hS,rfl⟩
    |some l=>rw[h] at hS;obtain⟨v1,rfl,-⟩:=hS;exact⟨_,_,rfl,rfl⟩
   rw[hb]
   refine ko @km_ ?_
   first|with_reducible refine ks [] @km_ ?_|refine kp @km_ ?_
   refine⟨_,(ke @km_),⟨hw1,New.mono hB hN⟩, ?_⟩
   rfl
  ·have d2: (k==2)=false:=by simpa using h2
   rw[if_neg h2]
   by_cases h4:k=3
   ·subst h4
    rw[if_pos rfl]
    first|with_reducible refine ks [] (And.intro @km_ (And.intro @d1 (@d2))) ?_|refine kp (And.intro @km_ (And.intro @d1 (@d2))) ?_
    refine Ow.callC rfl rfl Tryz.call69 (fun w' hw'=>Zp_ t w' (by omega)) (fun B v D hA hB hN hS=> ?_)
    obtain⟨c,p,x,b,rfl,hp,hb⟩: ∃c p x b,v= .tuple #[.agg (qG_ c p x).toArray, .bool b]∧Value.oneCell' p=true∧(Vp_ t).isSome=b:=by
     unfold adM_ at hS
     cases h:Vp_ t with
     |none=>rw[h] at hS;exact⟨_,_,_,_,hS,rfl,rfl⟩
     |some l=>rw[h] at hS;obtain⟨v1,rfl,hg⟩:=hS;exact⟨_,_,_,_,rfl,hg.cell.1,rfl⟩
    rw[hb]
    have stq: ∀a E,zs_ (some (a,34)) (some (.cells (qG_ id0 (.slice none 0 0) []).toArray E (0,0))) 0 (.agg (qG_ c p x).toArray)=some (.cells (qG_ c p x).toArray E (0,0)):=fun a E=>ZH_ _ _ _ _ a E (by rw[List.size_toArray,vo_]) hp
    refine ko @km_ ?_
    refine Ow.alloc rfl rfl ahL_ fun b5 hb5 hw5=> ?_
    simp only[ze_,List.nil_append,List.cons_append]
    refine Ow.permL (M:=(b5,Obj.cells (qG_ id0 (.slice none 0 0) []).toArray 126 (0,0)):: (b1,Obj.cells #[vi 3,vs t] 35 (0,0))::D) (by classical exact List.perm_iff_count.2 fun a=>by simp only[List.count_append,List.count_cons,List.count_nil]<;>omega) ?_
    refine ko (And.intro @km_ @stq) ?_
    first|with_reducible refine ks [] @km_ ?_|refine kp @km_ ?_
    refine⟨_,(ke @km_),⟨hw5,hw1,New.mono hB hN⟩, ?_⟩
    rfl
   ·have d3: (k==3)=false:=by simpa using h4
    rw[if_neg h4]
    first|with_reducible refine ks [] (And.intro @km_ (And.intro @d1 (And.intro @d2 (@d3)))) ?_|refine kp (And.intro @km_ (And.intro @d1 (And.intro @d2 (@d3)))) ?_
    refine⟨_,(ke @km_),⟨hw1,trivial⟩, ?_⟩
    rfl
end Go.Proofs
end
section
open Go Go.Proofs Go.Sx Go.StP
namespace Go.Proofs
set_option maxRecDepth 10000
set_option maxHeartbeats 400000
set_option linter.unusedSimpArgs false
theorem ahc_ (n:Nat):0< (vq_ n).length:=by
 by_cases h:n<128
 ·rw[jA_ h];simp
 ·rw[vi_ h];simp
theorem adf_ (most:Int): ∀ (l:List UInt8) (k acc m k':Nat),qc_ most l k acc= .ok (m,k')→ ∃n,l=vq_ n++l.drop (k' - k)∧m=acc+n*128^k∧(0<k→0<n)∧k<k':=by
 intro l
 induction l with
 |nil=>intro k acc m k' h;simp[qc_] at h
 |cons c r ih=>
  intro k acc m k' h
  unfold qc_ at h
  have hcl:=c.toNat_lt
  split at h
  ·rename_i hc
   split at h
   ·cases h
   ·obtain⟨n,h1,h2,h3,h4⟩:=ih _ _ _ _ h
    have hn:=h3 (by omega)
    refine⟨c.toNat%128+128*n, ?_, ?_,fun _=>by omega,by omega⟩
    ·rw[vi_ (by omega),show(c.toNat%128+128*n) / 128=n by omega,show(c.toNat%128+128*n)%128+128=c.toNat by omega]
     rw[show k' - k=(k' - (k+1))+1 by omega,List.drop_succ_cons,List.cons_append,←h1]
     simp
    ·rw[h2,Nat.pow_succ,Nat.add_mul,Nat.add_assoc]
     congr 2
     rw[Nat.mul_comm 128 n,Nat.mul_assoc,Nat.mul_comm (128^k) 128]
  ·rename_i hc
   split at h
   ·cases h
   ·rename_i hz
    split at h
    ·cases h
     refine⟨c.toNat, ?_, ?_,fun hk=>by omega,by omega⟩
     ·rw[jA_ (by omega),Nat.add_sub_cancel_left]
      simp
     ·rw[Nat.mod_eq_of_lt (by omega)]
    ·cases h
theorem x3_ {n:Nat} (h:n≤1099511627775):qx_ (n:Int)=n:=k4_ (by omega)
theorem Qn_ (most:Int): ∀ (l:List UInt8) (k n m k':Nat),qc_ most l k n= .ok (m,k')→m≤1099511627775
 | [],_,_,_,_,h=>by simp[qc_] at h
 |c::r,k,n,m,k',h=>by
  unfold qc_ at h
  split at h
  ·split at h
   ·cases h
   ·exact Qn_ most r _ _ _ _ h
  ·split at h
   ·cases h
   ·split at h
    ·rename_i hh
     cases h
     exact hh.1
    ·cases h
theorem ZS_ {s:List UInt8} {a:Nat} {most:Int} (h: (qB_ s a 0 most).2.2=0): ∃n:Nat,(qB_ s a 0 most).1=(n:Int)∧n≤1099511627775∧(n:Int)≤most∧s.drop a=vq_ n++s.drop (qB_ s a 0 most).2.1:=by
 unfold qB_ at h ⊢
 rw[if_neg (by simp)] at h ⊢
 cases hg:qc_ most (s.drop a) 0 0 with
 |ok p=>
  obtain⟨m,k⟩:=p
  obtain⟨n,h1,h2,-,-⟩:=adf_ _ _ _ _ _ _ hg
  obtain rfl:m=n:=by rw[h2];simp
  refine⟨m,rfl,Qn_ _ _ _ _ _ _ hg,wH_ _ _ _ _ _ _ hg, ?_⟩
  rw[Nat.sub_zero,List.drop_drop] at h1
  exact h1
 |error x=>
  rw[hg] at h
  exfalso
  have:x=0:=by have: ((x:Nat):Int)=0:=h;omega
  subst this
  exact agW_ _ _ _ _ hg
theorem Kc_ {s:List UInt8} {a:Nat} {n:Int} (ha:a≤s.length) (h: (vA_ s a 0 n).2.2=0):0≤n∧(vA_ s a 0 n).1.length=n.toNat∧s.drop a=(vA_ s a 0 n).1++s.drop (vA_ s a 0 n).2.1:=by
 unfold vA_ at h ⊢
 rw[if_neg (by simp)] at h ⊢
 split at h
 ·exact absurd (show(2:Int)=0 from h) (by decide)
 ·rename_i h1
  rw[if_neg h1]
  split at h
  ·exact absurd (show(3:Int)=0 from h) (by decide)
  ·rename_i h2
   rw[if_neg h2]
   refine⟨by omega, ?_, ?_⟩
   ·simp only[List.length_take,List.length_drop];omega
   ·simp only
    rw[←List.drop_drop,List.take_append_drop]
theorem JT_ {s:List UInt8} {a:Nat} {most:Int} (ha:a≤s.length) (h: (ql_ s a 0 most).2.2=0): ((ql_ s a 0 most).1.length:Int)≤most∧s.drop a=jP_ (ql_ s a 0 most).1++s.drop (ql_ s a 0 most).2.1:=by
 have hle:=xD_ (e:=0) (most:=most) ha
 have e1: (qB_ s a 0 most).2.2=0:=Decidable.byContradiction fun hn=>by
  unfold ql_ at h
  simp only[ahS_ hn] at h
  rw[if_pos hn] at h
  exact hn h
 obtain⟨n,hn,hb,hm,hd⟩:=ZS_ e1
 unfold ql_ at h ⊢
 simp only at h ⊢
 generalize qB_ s a 0 most=p at*
 obtain⟨p1,p2,p3⟩:=p
 simp only at e1 hn hd hle h ⊢
 subst e1 hn
 have e2: (vA_ s p2 0 (n:Int)).2.2=0:=Decidable.byContradiction fun hh=>by rw[if_pos hh] at h;exact hh h
 rw[if_neg (by simp[e2])]
 obtain⟨-,hl,hr⟩:=Kc_ hle.2 e2
 rw[Int.toNat_natCast] at hl
 refine⟨by rw[hl];exact hm, ?_⟩
 unfold jP_
 rw[hl,x3_ hb,List.append_assoc,←hr]
 exact hd
theorem Jn_ {s:List UInt8} {a:Nat} (ha:a≤s.length) (h: (idR s a 0).2.2=0):s.drop a=(vB_ (idR s a 0).1).l++s.drop (idR s a 0).2.1:=by
 have e2: (vA_ s a 0 32).2.2=0:=h
 obtain⟨-,hl,hr⟩:=Kc_ ha e2
 rw[vg_ (wV_ s a 0)]
 unfold idR
 simp only
 have hl': (vA_ s a 0 32).1.length=32:=hl
 rw[if_pos hl']
 exact hr
theorem aep_ {s:List UInt8} {a:Nat} (ha:a≤s.length) (h: (QQ_ s a 0).2.2=0):s.drop a=entB (QQ_ s a 0).1++s.drop (QQ_ s a 0).2.1:=by
 have hq:=xD_ (e:=0) (most:=2) ha
 unfold QQ_ at h ⊢
 simp only at h ⊢
 have e1: (qB_ s a 0 2).2.2=0:=Decidable.byContradiction fun hn=>by
  rw[agv_ (by rw[VC_ hn];exact hn),VC_ hn] at h;exact hn h
 obtain⟨n,hn,hb,-,hd⟩:=ZS_ e1
 generalize qB_ s a 0 2=p at*
 obtain⟨p1,p2,p3⟩:=p
 simp only at e1 hn hd hq h ⊢
 subst e1 hn
 have ht:=vn_ (e:=0) (most:=32) hq.2
 have e2: (ql_ s p2 0 32).2.2=0:=Decidable.byContradiction fun hn=>by rw[agv_ hn] at h;exact hn h
 obtain⟨-,hd2⟩:=JT_ hq.2 e2
 generalize ql_ s p2 0 32=q at*
 obtain⟨q1,q2,q3⟩:=q
 simp only at e2 hd2 ht h ⊢
 subst e2
 have hd3:=Jn_ ht.2 h
 unfold entB
 simp only
 rw[x3_ hb,List.append_assoc,List.append_assoc,←hd3,←hd2]
 exact hd
theorem Kq_ (l:List EntL) (x:EntL):qm_ (l++ [x])=qm_ l++entB x:=by unfold qm_;simp
theorem Qg_ {s:List UInt8}: ∀ (n a:Nat) (e:Int) (l:List EntL),a≤s.length→(e=0→s=qm_ l++s.drop a)→((ka_ s n a e l).2.2=0→s=qm_ (ka_ s n a e l).1++s.drop (ka_ s n a e l).2.1)
 |0,_,_,_,_,h=>h
 |n+1,a,e,l,ha,h=>by
  by_cases hc:e=0∧a<s.length
  ·rw[Zb_ hc]
   refine Qg_ n _ _ _ (acz_ ha).2 fun h0=> ?_
   obtain⟨rfl,-⟩:=hc
   rw[Kq_,List.append_assoc,←aep_ ha h0]
   exact h rfl
  ·rw[v9_ hc]
   exact h
theorem Jo_ {s:List UInt8} {a:Nat} {e:Int} (h:wd_ s a e=0):e=0∧s.length≤a:=by
 unfold wd_ at h
 split at h
 ·rename_i he;exact absurd h he
 ·rename_i he
  split at h
  ·exact absurd h (by decide)
  ·exact⟨Decidable.byContradiction he,by omega⟩
theorem ab4_ {s:List UInt8} (h:wd_ s (qS_ s).2.1 (qS_ s).2.2=0):qm_ (qS_ s).1=s:=by
 obtain⟨h1,h2⟩:=Jo_ h
 have:=Qg_ (s:=s) (s.length+1) 0 0 [] (Nat.zero_le _) (fun _=>by simp[qm_]) h1
 rw[show ka_ s (s.length+1) 0 0 []=qS_ s from rfl,List.drop_eq_nil_of_le h2,List.append_nil] at this
 exact this.symm
theorem JI_ {s:List UInt8}: ∀ (n a:Nat) (e:Int) (l:List EntL),a≤s.length→(e=0→s.length<a+n)→(ka_ s n a e l).2.2=0→s.length≤ (ka_ s n a e l).2.1
 |0,a,e,l,ha,hf,h=>by have:=hf h;show s.length≤a;omega
 |n+1,a,e,l,ha,hf,h=>by
  by_cases hc:e=0∧a<s.length
  ·rw[Zb_ hc] at h ⊢
   refine JI_ n _ _ _ (acz_ ha).2 (fun h0=> ?_) h
   obtain⟨rfl,-⟩:=hc
   have:=afN_ ha h0
   have:=hf rfl
   omega
  ·rw[v9_ hc] at h ⊢
   have h':e=0:=h
   exact Decidable.byContradiction fun hn=>hc ⟨h',by have hn': ¬s.length≤a:=hn;omega⟩
theorem WC_ (s:List UInt8): (wd_ s (qS_ s).2.1 (qS_ s).2.2=0)↔(qS_ s).2.2=0:=by
 refine⟨fun h=>(Jo_ h).1,fun h=> ?_⟩
 have:=JI_ (s:=s) (s.length+1) 0 0 [] (Nat.zero_le _) (fun _=>by omega) h
 have h2:s.length≤ (qS_ s).2.1:=this
 unfold wd_
 rw[if_neg (by simp[h]),if_neg (by omega)]
theorem agg_ (l:List IdL) (x:IdL):idsB (l++ [x])=idsB l++x.l:=by unfold idsB;simp
theorem JA_ {s:List UInt8} {a:Nat} (ha:a≤s.length): ∀n,(zQ_ s a 0 n).2.2=0→s.drop a=idsB (zQ_ s a 0 n).1++s.drop (zQ_ s a 0 n).2.1
 |0,_=>by simp[zQ_,idsB]
 |n+1,h=>by
  unfold zQ_ at h ⊢
  simp only at h ⊢
  have e1: (zQ_ s a 0 n).2.2=0:=Decidable.byContradiction fun hn=>by rw[agv_ hn] at h;exact hn h
  have ih:=JA_ ha n e1
  have hl:=Zv_ (e:=0) ha n
  generalize zQ_ s a 0 n=p at*
  obtain⟨p1,p2,p3⟩:=p
  simp only at e1 ih hl h ⊢
  subst e1
  rw[agg_,List.append_assoc,←Jn_ hl h]
  exact ih
theorem ahM_ {s:List UInt8} {a:Nat} {e:Int} (he:e≠0): ∀n,(zQ_ s a e n).2=(a,e)
 |0=>rfl
 |n+1=>by
  have ih:=ahM_ (s:=s) (a:=a) he n
  unfold zQ_
  simp only
  rw[ih,agv_ he]
theorem aeC_ {s:List UInt8} (h:wd_ s (kk_ s).2.1 (kk_ s).2.2=0):comB (kk_ s).1=s:=by
 obtain⟨h1,h2⟩:=Jo_ h
 have ip:=Kz_ (s:=s) (a:=0) (e:=0) (Nat.zero_le _)
 have np:=xD_ (e:=(idR s 0 0).2.2) (most:=4) ip.2
 unfold kk_ at h1 h2 ⊢
 simp only at h1 h2 ⊢
 have e3: (vy_ s).2.2=0:=Decidable.byContradiction fun hn=>by unfold comT at h1;rw[VC_ hn] at h1;exact hn h1
 have e2: (comN s).2.2=0:=Decidable.byContradiction fun hn=>by unfold vy_ at e3;rw[ahM_ hn] at e3;exact hn e3
 have e1: (idR s 0 0).2.2=0:=Decidable.byContradiction fun hn=>by unfold comN at e2;rw[akI_ hn] at e2;exact hn e2
 have d1:=Jn_ (Nat.zero_le _) e1
 rw[e1] at np
 have hcN:comN s=qB_ s (idR s 0 0).2.1 0 4:=by unfold comN;rw[e1]
 rw[hcN] at e2
 obtain⟨n,hn,hb,-,d2⟩:=ZS_ e2
 have hcP:vy_ s=zQ_ s (comN s).2.1 0 n:=by unfold vy_;rw[hcN,e2,hn,Int.toNat_natCast]
 have hp: (comN s).2.1≤s.length:=by rw[hcN];exact np.2
 rw[hcP] at e3
 have d3:=JA_ hp n e3
 have hpl: (vy_ s).1.length=n:=by rw[hcP,vI_]
 have hcT:comT s=ql_ s (vy_ s).2.1 0 64:=by unfold comT;rw[hcP,e3]
 have hle: (vy_ s).2.1≤s.length:=by rw[hcP];exact Zv_ hp n
 rw[hcT] at h1
 obtain⟨-,d4⟩:=JT_ hle h1
 rw[←hcT] at d4
 rw[←hcP] at d3
 rw[←hcN] at d2
 unfold comB aby_
 simp only
 rw[hpl,x3_ hb]
 rw[List.drop_eq_nil_of_le h2,List.append_nil] at d4
 rw[List.append_assoc,List.append_assoc,←d4,←d3,←d2,←d1]
 rfl
theorem kP_ (k:Int) (t:List UInt8):xS_ k t=JR_ k t:=by
 unfold xS_ JR_
 by_cases h4:4096<t.length
 ·rw[if_neg (by omega),if_pos h4]
 ·rw[if_neg h4]
  by_cases h2:k=2
  ·subst h2
   rw[if_pos (by omega),if_neg (by decide),if_pos rfl,if_pos rfl]
   unfold KU_
   by_cases hz:wd_ t (qS_ t).2.1 (qS_ t).2.2=0
   ·have:=ab4_ hz
    have h1:=(WC_ t).1 hz
    rw[hz]
    cases ho:qO_ (qS_ t).1
    ·rw[if_neg (fun h=>by cases h.2.1)];rfl
    ·rw[if_pos ⟨h1,rfl,this⟩];rfl
   ·have h': ¬ (qS_ t).2.2=0:=fun h=>hz ((WC_ t).2 h)
    simp[hz,h']
  ·by_cases h3:k=3
   ·subst h3
    rw[if_pos (by omega),if_neg (by decide),if_neg (by decide),if_neg (by decide),if_pos rfl]
    unfold Vp_
    by_cases hz:wd_ t (kk_ t).2.1 (kk_ t).2.2=0
    ·have:=aeC_ hz
     cases ho:v3_ (kk_ t).1<;>simp[hz,this]
    ·simp[hz]
   ·rw[if_neg h2,if_neg h3]
    by_cases h1:k=1
    ·subst h1
     rw[if_pos (by omega)];rfl
    ·rw[if_neg (by omega)]
     simp[h1,h2]
theorem aba_ (most:Int) (r:List UInt8): ∀ (n k acc:Nat),(0<k→0<n)→k+ (vq_ n).length≤6→acc+n*128^k≤1099511627775→((acc+n*128^k:Nat):Int)≤most→
  qc_ most (vq_ n++r) k acc= .ok (acc+n*128^k,k+ (vq_ n).length):=by
 intro n
 induction n using Nat.strongRecOn with
 |ind n ih=>
  intro k acc hk hl hs hm
  by_cases h:n<128
  ·rw[jA_ h,List.cons_append,List.nil_append,qc_]
   have hc: (UInt8.ofNat n).toNat=n:=by rw[UInt8.toNat_ofNat'];omega
   rw[hc,Nat.mod_eq_of_lt h,if_neg (by omega),if_neg (by omega),if_pos ⟨hs,hm⟩]
   rfl
  ·have hb:=vi_ h
   rw[hb] at hl ⊢
   rw[List.cons_append,qc_]
   have hc: (UInt8.ofNat (n%128+128)).toNat=n%128+128:=by rw[UInt8.toNat_ofNat'];omega
   have hp:=ahc_ (n / 128)
   rw[List.length_cons] at hl
   have e:acc+ (n%128+128)%128*128^k+n / 128*128^ (k+1)=acc+n*128^k:=by
    have h1: (n%128+128)%128=n%128:=by omega
    rw[h1,Nat.pow_succ,Nat.add_assoc]
    congr 1
    have h2:n / 128* (128^k*128)=(n / 128*128)*128^k:=by rw[Nat.mul_comm (128^k),Nat.mul_assoc]
    rw[h2,←Nat.add_mul]
    congr 1
    omega
   rw[hc,if_pos (by omega),if_neg (by omega),ih (n / 128) (by omega) (k+1) _ (fun _=>by omega) (by omega) (by rw[e];exact hs) (by rw[e];exact hm),e,List.length_cons]
   congr 2
   omega
theorem W7_ (A r:List UInt8) (n:Nat) (most:Int) (hn:n≤1099511627775) (hm: (n:Int)≤most):qB_ (A++ (vq_ n++r)) A.length 0 most=((n:Int),A.length+ (vq_ n).length,0):=by
 have hl:=kc_ 6 n (by omega) (by omega)
 have h:=aba_ most r n 0 0 (fun h=>absurd h (Nat.lt_irrefl 0)) (by omega) (by simpa using hn) (by simpa using hm)
 simp only[Nat.pow_zero,Nat.mul_one,Nat.zero_add] at h
 exact JW_ rfl (by rw[List.drop_left];exact h)
theorem WS_ (A x r:List UInt8):vA_ (A++ (x++r)) A.length 0 (x.length:Int)=(x,A.length+x.length,0):=by
 unfold vA_
 rw[if_neg (by simp),if_neg (by omega),if_neg (by simp only[List.length_append];omega),List.drop_left,Int.toNat_natCast,List.take_left]
theorem ae1_ (A t r:List UInt8) (most:Int) (hn:t.length≤1099511627775) (hm: (t.length:Int)≤most):ql_ (A++ (jP_ t++r)) A.length 0 most=(t,A.length+ (jP_ t).length,0):=by
 have h1:=W7_ A (t++r) t.length most hn hm
 have h2:=WS_ (A++vq_ t.length) t r
 unfold ql_ jP_
 rw[x3_ (by omega)]
 rw[List.append_assoc,h1]
 simp only
 rw[List.append_assoc,List.length_append] at h2
 rw[h2]
 simp only[ne_eq,not_true_eq_false, ↓reduceIte,List.length_append,Nat.add_assoc]
theorem aj5_ (A r:List UInt8) (i:IdL):idR (A++ (i.l++r)) A.length 0=(i.l,A.length+32,0):=by
 have h:=WS_ A i.l r
 have hi:=i.h
 rw[hi] at h
 unfold idR
 rw[show(32:Int)=((32:Nat):Int) from rfl,h]
 simp only[hi, ↓reduceIte]
theorem amc_ (i:IdL):vB_ i.l=i:=by unfold vB_;rw[dif_pos i.h]
theorem ah2_ (A r:List UInt8) (x:EntL) (hk:0≤x.kind∧x.kind≤2) (hn:x.name.length≤32):QQ_ (A++ (entB x++r)) A.length 0=(x,A.length+ (entB x).length,0):=by
 obtain⟨nm,kd,id⟩:=x
 simp only at hk hn
 obtain⟨k,rfl⟩:=Int.eq_ofNat_of_zero_le hk.1
 have h1:=W7_ A (jP_ nm++ (id.l++r)) k 2 (by omega) hk.2
 have h2:=ae1_ (A++vq_ k) nm (id.l++r) 32 (by omega) (by omega)
 have h3:=aj5_ (A++vq_ k++jP_ nm) r id
 unfold QQ_ entB
 simp only
 rw[x3_ (by omega)]
 simp only[List.append_assoc,List.length_append] at h1 h2 h3 ⊢
 rw[h1]
 simp only
 rw[h2]
 simp only[Nat.add_assoc] at h3 ⊢
 rw[h3]
 simp only[amc_,id.h,Nat.add_assoc]
def aag_ (l:List EntL):Prop:= ∀x,x∈l→0≤x.kind∧x.kind≤2∧x.name.length≤32
theorem aiU_ (x:EntL):0< (entB x).length:=by
 unfold entB
 simp only[List.length_append]
 have:=x.id.h
 omega
theorem KA_ (x:EntL) (l:List EntL):qm_ (x::l)=entB x++qm_ l:=by unfold qm_;simp
theorem KK_: ∀ (l A:List EntL) (n:Nat),aag_ l→(qm_ l).length<n→ka_ (qm_ A++qm_ l) n (qm_ A).length 0 A=(A++l,(qm_ A++qm_ l).length,0)
 | [],A,n,_,hn=>by
  rw[v9_ (fun h=>by have:=h.2;simp[qm_] at this)]
  simp[qm_]
 |x::l,A,n,hs,hn=>by
  obtain⟨m,rfl⟩: ∃m,n=m+1:=⟨n - 1,by omega⟩
  have hx:=hs x List.mem_cons_self
  have hp:=aiU_ x
  rw[KA_] at hn ⊢
  rw[List.length_append] at hn
  rw[Zb_ ⟨rfl,by simp only[List.length_append];omega⟩,ah2_ _ _ _ ⟨hx.1,hx.2.1⟩ hx.2.2]
  simp only
  have ih:=KK_ l (A++ [x]) m (fun y hy=>hs y (List.mem_cons_of_mem _ hy)) (by omega)
  rw[Kq_,List.append_assoc,List.length_append,List.append_assoc] at ih
  exact ih
theorem JQ_ {l:List EntL} (h:aag_ l):qS_ (qm_ l)=(l,(qm_ l).length,0):=by
 have h1:=KK_ l [] ((qm_ l).length+1) h (by omega)
 rw[show qm_ []= [] from rfl,List.nil_append,List.nil_append,List.length_nil] at h1
 exact h1
theorem ku_ {l:List EntL} (h:qO_ l=true):l.length≤32∧ ∀x,x∈l→(x.kind=1∨x.kind=2)∧x.name.length≤32:=by
 unfold qO_ at h
 simp only[Bool.and_eq_true,decide_eq_true_eq,List.all_eq_true,List.mem_range] at h
 refine⟨h.1,fun x hx=> ?_⟩
 obtain⟨i,hi,rfl⟩:=List.getElem_of_mem hx
 have h2:=h.2 i hi
 unfold jo_ K7_ at h2
 rw[List.getD_eq_getElem?_getD,List.getElem?_eq_getElem hi,Option.getD_some] at h2
 simp only[Bool.and_eq_true,Bool.or_eq_true,decide_eq_true_eq,beq_iff_eq] at h2
 exact⟨h2.1.2,h2.1.1.1.2⟩
theorem aar_ {n:Nat} (h:n<128): (vq_ n).length=1:=by rw[jA_ h];rfl
theorem Jd_: ∀ {l:List EntL},(∀x,x∈l→(x.kind=1∨x.kind=2)∧x.name.length≤32)→(qm_ l).length≤l.length*66
 | [],_=>by simp[qm_]
 |x::l,h=>by
  have ih:=Jd_ (l:=l) fun y hy=>h y (List.mem_cons_of_mem _ hy)
  have hx:=h x List.mem_cons_self
  have h1: (vq_ (qx_ x.kind)).length=1:=by
   rcases hx.1 with e|e<;>rw[e]<;>exact aar_ (by decide)
  have h2: (jP_ x.name).length≤33:=by
   unfold jP_
   rw[x3_ (by omega),List.length_append,aar_ (by omega)]
   omega
  have h3:=x.id.h
  rw[KA_,List.length_append,List.length_cons]
  unfold entB
  simp only[List.length_append]
  omega
theorem Wd_ {l:List EntL} (h:qO_ l=true):xS_ 2 (qm_ l)=true:=by
 have hs:=ku_ h
 have hl:=Jd_ hs.2
 have he:qS_ (qm_ l)=(l,(qm_ l).length,0):=JQ_ fun x hx=>by
  have:=hs.2 x hx
  omega
 unfold xS_
 rw[if_pos (by omega),if_neg (by decide),if_pos rfl,he]
 simp only[wd_,h]
 simp
end Go.Proofs
end
section
open Go Go.Proofs Go.Sx Go.StP
namespace Go.Proofs
set_option maxRecDepth 10000
set_option maxHeartbeats 400000
set_option linter.unusedSimpArgs false
set_option linter.defProp false
end Go.Proofs
end
section
open Go Go.Proofs Go.Sx Go.StP
namespace Go.Proofs
set_option maxRecDepth 10000
set_option maxHeartbeats 400000
set_option linter.unusedSimpArgs false
set_option linter.defProp false
end Go.Proofs
end
