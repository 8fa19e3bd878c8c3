/-
  Part 4 of the walk: contracts of the functions that the law reaches, and the calculus they stand on.
  No conditions.
-/
import Derived.Test.YtejnodepkhldgaaGreatDoorG3
import Derived.Lib.Small
import Derived.Lib.Walk
import Derived.Sort.Grow
import Derived.Deep.Draws
import Derived.Deep.QuietTactic
import Derived.ProofKit
import Derived.OpenShut
import Derived.WideKeyArgs
import Derived.ChangeSame
import Derived.ChangeMaps5
import Derived.Lib.LaidTab
import Derived.SliceStrings
import Derived.DataReads
import Derived.Deep.Strs
set_option linter.unusedVariables false
section
open Go Go.Proofs Go.Sx Go.StP Go.Flo Go.Shelf Go.Sort
namespace Go.Proofs
set_option maxRecDepth 10000
set_option maxHeartbeats 1000000
set_option linter.unusedSimpArgs false
structure OnL where
 k:Fin 4
 x:Tk
 id:IdL
def onC (a:OnL):List Value:=vi ((a.k.val:Nat):Int)::vs (tkT a.x)::jd_ a.id
theorem q3_ (a:OnL): (onC a).length=34:=by unfold onC;simp[zX_]
theorem Kc_ (a:OnL): (onC a).all Value.oneCell'=true:=by
 unfold onC
 rw[List.all_cons,List.all_cons,j2_];rfl
def wW_ (arr:Array Value) (off:Nat) (l:List UInt8):Prop:= ∀j,j<l.length→arr[off+j]? =some (v8 (l.getD j 0))
theorem Zl_ {b off c:Nat} {l:List UInt8} {arr:Array Value} {E:TypeId} {fz:Nat×Nat} {w:World} (hb:w.heap[b]? =some (.cells arr E fz)) (h:wW_ arr off l): (Extern.Bytes.bytesOf (vsl b off l.length c)).run Tryz.prog w= .ok ⟨l.toArray⟩ w:=by
 have h:=vP_ hb l off .empty h
 show(Extern.Bytes.loadBytes ⟨b,off,none⟩ l.length .empty).run Tryz.prog w=_
 rw[h]
 congr 1
theorem aex_ {b o1 k1 c o2 k2:Nat} {l m:List UInt8} {a1 a2:Array Value} {E E2:TypeId} {f1 f2:Nat×Nat} {w:World} (hb:w.heap[b]? =some (.cells a1 E f1)) (h1:wW_ a1 o1 l) (hc:w.heap[c]? =some (.cells a2 E2 f2)) (h2:wW_ a2 o2 m):
  (callFunc 90 #[vsl b o1 l.length k1,vsl c o2 m.length k2]).run Tryz.prog w= .ok (.value (vi (Lib.compareBytes l m))) w:=by
 rw[run_callFunc_extern Tryz.func90 (by kernel_rfl) (by kernel_rfl) (by kernel_rfl) (e:=Extern.BytealgCompare.compare) (by kernel_rfl)]
 show((Extern.BytealgCompare.compare #[vsl b o1 l.length k1,vsl c o2 m.length k2]).run Tryz.prog w).andThen _=_
 have: (Extern.BytealgCompare.compare #[vsl b o1 l.length k1,vsl c o2 m.length k2]).run Tryz.prog w= .ok (vi (Lib.compareBytes l m)) w:=by
  change Sem.run Tryz.prog (do pure (goInt (Extern.BytealgCompare.cmp (←Extern.Bytes.bytesOf _) (←Extern.Bytes.bytesOf _)))) w=_
  have h1:=Zl_ (c:=k1) hb h1
  have h2:=Zl_ (c:=k2) hc h2
  rw[Sem.run_bind]
  erw[h1]
  rw[Result.andThen_ok,Sem.run_bind]
  erw[h2]
  rw[Result.andThen_ok,Lib.cmp_eq]
  rfl
 rw[this];rfl
theorem alL_ {b o1 k1 c o2 k2:Nat} {x y:IdL} {a1 a2:Array Value} {E E2:TypeId} {f1 f2:Nat×Nat} {w:World} (hb:w.heap[b]? =some (.cells a1 E f1)) (h1:wW_ a1 o1 x.l) (hc:w.heap[c]? =some (.cells a2 E2 f2)) (h2:wW_ a2 o2 y.l):
  Calls Tryz.prog 49 #[vsl b o1 32 k1,vsl c o2 32 k2] w fun e w'=>e= .returned (vi (Lib.compareBytes x.l y.l))∧w'=w:=by
 have hr:=aex_ (k1:=k1) (k2:=k2) hb h1 hc h2
 rw[x.h,y.h] at hr
 generalize Lib.compareBytes x.l y.l=r at hr ⊢
 generalize vsl b o1 32 k1=u at hr ⊢
 generalize vsl c o2 32 k2=v at hr ⊢
 go_enter Tryz.func49,Tryz.ntmps49
 go_wp2
 go_ret
 exact⟨rfl,rfl⟩
theorem abk_ (a:OnL):wW_ (onC a).toArray 2 a.id.l:=by
 intro j hj
 have h2: (onC a).toArray[2+j]? =(jd_ a.id)[j]? :=by
  rw[List.getElem?_toArray,Nat.add_comm];rfl
 rw[h2]
 show(a.id.l.map v8)[j]? =_
 rw[List.getElem?_map,List.getElem?_eq_getElem hj,List.getD_eq_getElem?_getD,List.getElem?_eq_getElem hj]
 rfl
theorem anq_ (a b:Fin 4):IntKind.i64.wrap (((b.val:Nat):Int) - ((a.val:Nat):Int))=((b.val:Nat):Int) - ((a.val:Nat):Int):=by
 have h1:=a.isLt
 have h2:=b.isLt
 simp[IntKind.wrap,IntKind.bits,IntKind.signed];omega
theorem agf_ (a b:OnL) (W:World):Calls Tryz.prog 27 #[.agg (onC a).toArray, .agg (onC b).toArray] W fun e w'=>e= .returned (vi (((b.k.val:Nat):Int) - ((a.k.val:Nat):Int)))∧ ∃q os',w'=Go.Sort.grow (W.drewN q) os':=by
 have hw:=anq_ a.k b.k
 obtain⟨cx,hcx⟩: ∃cx,onC a=vi ((a.k.val:Nat):Int)::cx:=⟨_,rfl⟩
 obtain⟨cy,hcy⟩: ∃cy,onC b=vi ((b.k.val:Nat):Int)::cy:=⟨_,rfl⟩
 rw[hcx,hcy]
 generalize ((a.k.val:Nat):Int)=x at*
 generalize ((b.k.val:Nat):Int)=y at*
 have hsub:zM_ .sub (vi y) (vi x)=some (vi (y - x)):=by
  show some (Value.int .i64 (IntKind.i64.wrap (y - x)))=_
  rw[hw];rfl
 go_enter Tryz.func27,Tryz.ntmps27
 go_wp2
 rw[aa9_ _ hsub]
 go_wp2
 go_ret
 exact⟨rfl,0,_,by rw[Go.Sort.alloc_eq_grow,Go.Sort.alloc_eq_grow,Go.Sort.grow_grow];rfl⟩
theorem ajl_ (x y:OnL) (W:World):Calls Tryz.prog 28 #[.agg (onC x).toArray, .agg (onC y).toArray] W fun e w'=>e= .returned (.int .i64 (Lib.compareBytes x.id.l y.id.l))∧ ∃q os',w'=Go.Sort.grow (W.drewN q) os':=by
 have hx: (Value.agg (onC x).toArray).cells=(onC x).toArray:=rfl
 have hy: (Value.agg (onC y).toArray).cells=(onC y).toArray:=rfl
 go_enter Tryz.func28,Tryz.ntmps28
 go_wp2
 have h0: ((W.alloc (Obj.cells (onC x).toArray 70)).alloc (Obj.cells (onC y).toArray 70)).heap[W.heap.size]? =some (.cells (onC x).toArray 70 (0,0)):=by
  show((W.heap.push _).push _)[W.heap.size]? =_
  rw[Array.getElem?_push,if_neg (by simp),Array.getElem?_push,if_pos rfl]
 have h1: ((W.alloc (Obj.cells (onC x).toArray 70)).alloc (Obj.cells (onC y).toArray 70)).heap[W.heap.size+1]? =some (.cells (onC y).toArray 70 (0,0)):=by
  show((W.heap.push _).push _)[W.heap.size+1]? =_
  rw[Array.getElem?_push,if_pos (by simp)]
 refine wp_region_quiet_lit (by kernel_rfl) (by kernel_rfl) ?_
 quiet_step (skip)
 quiet_step (skip)
 quiet_step (skip)
 quiet_step (skip)
 refine wpQuiet_step (fun K hK=> ?_)
 go_simp
 refine⟨.int .i64 (Lib.compareBytes x.id.l y.id.l),fun n=>Calls.quiet_of_same (alL_ h0 (abk_ x) h1 (abk_ y)),hK _ ?_⟩
 clear hK K
 quiet_step (skip)
 refine wpQuiet_nil ?_
 intro _ hw'
 obtain⟨nq,rfl⟩:=hw'
 go_wp2
 go_ret
 exact⟨rfl,nq,_,by rw[Go.Sort.alloc_eq_grow,Go.Sort.alloc_eq_grow,Go.Sort.grow_grow];rfl⟩
def cfOn (a b:OnL):Int:=if((b.k.val:Nat):Int) - ((a.k.val:Nat):Int)≠0 then((b.k.val:Nat):Int) - ((a.k.val:Nat):Int) else Lib.compareBytes a.id.l b.id.l
section
variable {P:Program} {f:Fr} {w:World} {K:Act→World→Prop} {Q:Exit→Act→World→Prop} {d:Option Tmp} {ty:TypeId} {ps:String} {af:Array Edge} {g:Option (Nat×Bool)}
theorem w3_ {o:Oper} {v:Value} (h:q2_ P w [] f o.op=some v) (hK:K (act (qg_ f o.dst v)) w):Oper.wp P o (act f) w K Q:=by
 unfold Oper.wp
 rw[qT_,qH_ (Hp.refl w) h,Oper.upon_value,z0_]
 exact hK
theorem ajc_ {x y y2:Operand} {ts:Array TypeId} {k:FuncId} {b b2 v:Value} {R:World→Prop} (hx:ev f x= .func (.func k) #[] #[]) (hy:ev f y=b) (hy2:ev f y2=b2) (hk: ∀a w,(callFunc k a).run P w= .ok (.enter k a) w)
  (hc:Calls P k #[b,b2] w (fun e w'=>e= .returned v∧R w')) (hK: ∀w',R w'→K (act (qg_ f d v)) w'):Oper.wp P ⟨d, .call ⟨.value x, #[y,y2],ts⟩,ty,ps,af,g⟩ (act f) w K Q:=by
 unfold Oper.wp
 rw[qT_,X1_ hx hk w,Oper.upon_enter]
 rw[show(#[]++ #[y,y2].map (ev f)++ #[]:Array Value)= #[b,b2] by simp[hy,hy2]]
 refine hc.mono ?_
 rintro e w' ⟨rfl,hR⟩
 show K ((act f).put d v) w'
 rw[z0_]
 exact hK w' hR
end
theorem XX_ {w:World} {os:Array Obj} {q b:Nat} {o:Obj} (h:w.heap[b]? =some o): (Go.Sort.grow (w.drewN q) os).heap[b]? =some o:=by
 have hl:=(Array.getElem?_eq_some_iff.1 h).1
 show(w.heap++os)[b]? =_
 rw[Array.getElem?_append_left hl];exact h
theorem aiA_ (W:World) (o o2:Obj) (q:Nat) (os:Array Obj):Go.Sort.grow (((W.alloc o).alloc o2).drewN q) os=Go.Sort.grow (W.drewN q) (#[o]++ #[o2]++os):=by
 rw[Go.Sort.alloc_eq_grow,Go.Sort.alloc_eq_grow,Go.Sort.grow_grow]
 show Go.Sort.grow (Go.Sort.grow (W.drewN q) _) os=_
 rw[Go.Sort.grow_grow]
theorem adk_ (W:World) (q q2:Nat) (os os2:Array Obj):Go.Sort.grow ((Go.Sort.grow (W.drewN q) os).drewN q2) os2=Go.Sort.grow (W.drewN (q+q2)) (os++os2):=by
 show Go.Sort.grow (Go.Sort.grow ((W.drewN q).drewN q2) os) os2=_
 rw[Go.Sort.grow_grow]
 show Go.Sort.grow {W with drawn:=W.drawn+q+q2} _=Go.Sort.grow {W with drawn:=W.drawn+ (q+q2)} _
 rw[Nat.add_assoc]
theorem jm_ (a:OnL) (E:TypeId):zn_ (some (true,34)) (some (.cells (onC a).toArray E (0,0))) 0=some (.agg (onC a).toArray):=xe_ _ E (0,0) 34 (q3_ a)
theorem agb_ (a b:OnL) (c0 c1:Nat) (W:World) (h0:W.heap[c0]? =some (.cells #[.func (.func 27) #[] #[]] 72 (0,0))) (h1:W.heap[c1]? =some (.cells #[.func (.func 28) #[] #[]] 72 (0,0))):
  Calls Tryz.prog 48 #[.agg (onC a).toArray, .agg (onC b).toArray,vp c0 0,vp c1 0] W fun e w'=>e= .returned (vi (cfOn a b))∧ ∃q os',w'=Go.Sort.grow (W.drewN q) os':=by
 have hc0:=(Array.getElem?_eq_some_iff.1 h0).1
 have hc1:=(Array.getElem?_eq_some_iff.1 h1).1
 have gx: ∀ (c:Nat) (o:Obj),W.heap[c]? =some o→((W.alloc (Obj.cells (onC a).toArray 70)).alloc (Obj.cells (onC b).toArray 70)).heap[c]? =some o:=fun c o hc=>by
  have hl:=(Array.getElem?_eq_some_iff.1 hc).1
  show((W.heap.push _).push _)[c]? =_
  rw[Array.getElem?_push,if_neg (by rw[Array.size_push];omega),Array.getElem?_push,if_neg (by omega)];exact hc
 have g0:=gx c0 _ h0
 have g1:=gx c1 _ h1
 have gA: ((W.alloc (Obj.cells (onC a).toArray 70)).alloc (Obj.cells (onC b).toArray 70)).heap[W.heap.size]? =some (.cells (onC a).toArray 70 (0,0)):=by
  show((W.heap.push _).push _)[W.heap.size]? =_
  rw[Array.getElem?_push,if_neg (by simp),Array.getElem?_push,if_pos rfl]
 have gB: ((W.alloc (Obj.cells (onC a).toArray 70)).alloc (Obj.cells (onC b).toArray 70)).heap[W.heap.size+1]? =some (.cells (onC b).toArray 70 (0,0)):=by
  show((W.heap.push _).push _)[W.heap.size+1]? =_
  rw[Array.getElem?_push,if_pos (by simp)]
 have hgr:=aiA_ W (Obj.cells (onC a).toArray 70) (Obj.cells (onC b).toArray 70)
 have hkr:=agf_ a b
 have hir:=ajl_ a b
 have hcf:cfOn a b=if((b.k.val:Nat):Int) - ((a.k.val:Nat):Int)≠0 then((b.k.val:Nat):Int) - ((a.k.val:Nat):Int) else Lib.compareBytes a.id.l b.id.l:=rfl
 generalize cfOn a b=r at*
 generalize ((b.k.val:Nat):Int) - ((a.k.val:Nat):Int)=x at*
 generalize Lib.compareBytes a.id.l b.id.l=y at*
 go_enter Tryz.func48,Tryz.ntmps48
 iterate 16 go_step
 generalize (W.alloc (Obj.cells (onC a).toArray 70)).alloc (Obj.cells (onC b).toArray 70)=W2 at*
 change Code.wp _ _ _ (act [.agg (onC a).toArray, .agg (onC b).toArray,vp c0 0,vp c1 0,vp W.heap.size 0,vp (W.heap.size+1) 0,vi 0,undef,undef,undef,undef,undef,undef,undef,undef,undef,undef,undef,undef]) W2
 generalize W.heap.size=n at*
 iterate 3 go_step
 refine w3_ (v:= .func (.func 27) #[] #[]) (by simp only[q2_,zw_,zC_,zB_,qZ_,zQ_,Tryz.ag72,Tryz.ag70,g0];first|done|rfl|exact jm_ _ _) ?_
 simp only[zK_,qu_,qv_]
 iterate 2 go_step
 refine w3_ (v:= .agg (onC a).toArray) (by simp only[q2_,zw_,zC_,zB_,qZ_,zQ_,Tryz.ag72,Tryz.ag70,gA];first|done|rfl|exact jm_ _ _) ?_
 simp only[zK_,qu_,qv_]
 iterate 2 go_step
 refine w3_ (v:= .agg (onC b).toArray) (by simp only[q2_,zw_,zC_,zB_,qZ_,zQ_,Tryz.ag72,Tryz.ag70,gB];first|done|rfl|exact jm_ _ _) ?_
 simp only[zK_,qu_,qv_]
 iterate 2 go_step
 refine ajc_ rfl rfl rfl Tryz.call27 (hkr W2) (fun w' hR=> ?_)
 obtain⟨q,os,rfl⟩:=hR
 simp only[zK_,qu_,qv_]
 iterate 2 go_step
 refine w3_ (v:=vi x) (by simp only[q2_,zw_,zC_,zB_,qZ_,zQ_,Tryz.ag72,Tryz.ag70,zw_];first|done|rfl|exact jm_ _ _) ?_
 simp only[zK_,qu_,qv_]
 iterate 2 go_step
 iterate 5 go_step
 refine w3_ (v:=vi x) (by simp only[q2_,zw_,zC_,zB_,qZ_,zQ_,Tryz.ag72,Tryz.ag70,zw_];first|done|rfl|exact jm_ _ _) ?_
 simp only[zK_,qu_,qv_]
 iterate 2 go_step
 have nx:q0_ Tryz.prog .neq 3 (vi x) (Value.int .i64 0)=some (.bool (x !=0)):=rfl
 by_cases hx:x=0
 ·have hb: (x !=0)=false:=by rw[hx];rfl
  have hr:r=y:=by rw[hcf,if_neg (by simp[hx])]
  rw[hb] at nx
  refine w3_ (v:= .bool false) (by simp only[q2_,zw_,zC_,zB_,qZ_,zQ_,Tryz.ag72,Tryz.ag70,XQ_,nx];first|done|rfl|exact jm_ _ _) ?_
  simp only[zK_,qu_,qv_]
  iterate 2 go_step
  iterate 2 go_step
  refine wp_cond_false rfl ?_
  iterate 6 go_step
  refine w3_ (v:= .func (.func 28) #[] #[]) (by simp only[q2_,zw_,zC_,zB_,qZ_,zQ_,Tryz.ag72,Tryz.ag70,XX_ g1];first|done|rfl|exact jm_ _ _) ?_
  simp only[zK_,qu_,qv_]
  iterate 2 go_step
  refine w3_ (v:= .agg (onC a).toArray) (by simp only[q2_,zw_,zC_,zB_,qZ_,zQ_,Tryz.ag72,Tryz.ag70,XX_ gA];first|done|rfl|exact jm_ _ _) ?_
  simp only[zK_,qu_,qv_]
  iterate 2 go_step
  refine w3_ (v:= .agg (onC b).toArray) (by simp only[q2_,zw_,zC_,zB_,qZ_,zQ_,Tryz.ag72,Tryz.ag70,XX_ gB];first|done|rfl|exact jm_ _ _) ?_
  simp only[zK_,qu_,qv_]
  iterate 2 go_step
  refine ajc_ rfl rfl rfl Tryz.call28 (hir _) (fun w' hR=> ?_)
  obtain⟨q2,os2,rfl⟩:=hR
  simp only[zK_,qu_,qv_]
  iterate 2 go_step
  refine w3_ (v:=vi y) (by simp only[q2_,zw_,zC_,zB_,qZ_,zQ_,Tryz.ag72,Tryz.ag70,zw_];first|done|rfl|exact jm_ _ _) ?_
  simp only[zK_,qu_,qv_]
  iterate 2 go_step
  iterate 3 go_step
  go_ret
  rw[hr]
  exact⟨rfl,_,_,by rw[hgr,adk_]⟩
 ·have hb: (x !=0)=true:=by simpa using hx
  have hr:r=x:=by rw[hcf,if_pos hx]
  rw[hb] at nx
  refine w3_ (v:= .bool true) (by simp only[q2_,zw_,zC_,zB_,qZ_,zQ_,Tryz.ag72,Tryz.ag70,XQ_,nx];first|done|rfl|exact jm_ _ _) ?_
  simp only[zK_,qu_,qv_]
  iterate 2 go_step
  iterate 2 go_step
  refine wp_cond_true rfl ?_
  iterate 3 go_step
  refine w3_ (v:=vi x) (by simp only[q2_,zw_,zC_,zB_,qZ_,zQ_,Tryz.ag72,Tryz.ag70,zw_];first|done|rfl|exact jm_ _ _) ?_
  simp only[zK_,qu_,qv_]
  iterate 2 go_step
  refine w3_ (v:=vi x) (by simp only[q2_,zw_,zC_,zB_,qZ_,zQ_,Tryz.ag72,Tryz.ag70,zw_];first|done|rfl|exact jm_ _ _) ?_
  simp only[zK_,qu_,qv_]
  iterate 2 go_step
  iterate 3 go_step
  go_ret
  rw[hr]
  exact⟨rfl,_,_,hgr _ _⟩
end Go.Proofs
end
section
open Go Go.Proofs Go.Sx Go.StP Go.Flo Go.Shelf Go.Sort
namespace Go.Proofs
set_option maxRecDepth 10000
set_option maxHeartbeats 1000000
set_option linter.unusedSimpArgs false
theorem ZR_ (x y:OnL):ltOf cfOn x y=true↔(y.k.val<x.k.val∨y.k.val=x.k.val∧ltB x.id.l y.id.l=true):=by
 have h:=ltId x.id y.id
 unfold ltOf at h ⊢
 simp only at h
 rw[decide_eq_true_eq]
 unfold cfOn
 by_cases hk: ((y.k.val:Nat):Int) - ((x.k.val:Nat):Int)=0
 ·rw[if_neg (by simp[hk]),←h,decide_eq_true_eq]
  constructor
  ·intro h1;exact .inr ⟨by omega,h1⟩
  ·rintro(h1| ⟨-,h1⟩)
   ·omega
   ·exact h1
 ·rw[if_pos hk]
  constructor
  ·intro h1;exact .inl (by omega)
  ·rintro(h1| ⟨h1,-⟩)<;>omega
theorem ank_:SWO (ltOf cfOn) where
 irrefl x:=by
  rw[Bool.eq_false_iff]
  intro h
  rcases(ZR_ x x).1 h with h| ⟨-,h⟩
  ·omega
  ·rw[xo_] at h;cases h
 trans x y z h1 h2:=by
  rw[ZR_] at*
  rcases h1 with h1| ⟨h1,h3⟩<;>rcases h2 with h2| ⟨h2,h4⟩
  ·exact .inl (by omega)
  ·exact .inl (by omega)
  ·exact .inl (by omega)
  ·exact .inr ⟨by omega,kR_ h3 h4⟩
 ntrans x y z h1 h2:=by
  rw[Bool.eq_false_iff] at*
  intro h
  rw[Ne,ZR_] at h1 h2
  rcases(ZR_ x z).1 h with h| ⟨h,h3⟩
  ·omega
  ·have e1:y.k.val=x.k.val:=by omega
   have h4:ltB x.id.l y.id.l=false:=Bool.eq_false_iff.2 fun h5=>h1 (.inr ⟨e1,h5⟩)
   have h6:ltB y.id.l z.id.l=false:=Bool.eq_false_iff.2 fun h5=>h2 (.inr ⟨by omega,h5⟩)
   by_cases hxy:x.id.l=y.id.l
   ·rw[hxy,h6] at h3;cases h3
   ·rw[kR_ (wu_ h4 fun e=>hxy e) h3] at h6;cases h6
theorem aeB_ (x:OnL): ∀v∈onC x,v.oneCell'=true:=fun v hv=>List.all_eq_true.1 (Kc_ x) v hv
def on0:OnL:=⟨0, .e,id0⟩
def WI_ (l Z:List OnL):Prop:=Z.Perm l∧Z.Pairwise (fun x y=>ltOf cfOn y x=false)
theorem W2_ {b c c0 c1:Nat} {l:List OnL} {rest:List Value} {E:TypeId} (w:World) (hb:w.heap[b]? =some (rowO onC E rest l)) (hsz:l.length<4611686018427387904)
  (h0:w.heap[c0]? =some (.cells #[.func (.func 27) #[] #[]] 72 (0,0))) (h1:w.heap[c1]? =some (.cells #[.func (.func 28) #[] #[]] 72 (0,0))) (hn0:b≠c0) (hn1:b≠c1):
  Rets Tryz.prog 25 #[vsl b 0 l.length c, .func (.func 48) #[] #[vp c0 0,vp c1 0]] w
   (fun v D=> ∃o,D= [(b,o)]∧v= .tuple #[]∧ ∃Z:List OnL,WI_ l Z∧o=rowO onC E rest Z):=by
 have hl0:=(Array.getElem?_eq_some_iff.1 h0).1
 have hl1:=(Array.getElem?_eq_some_iff.1 h1).1
 have hcm: @CmpLays OnL ⟨on0⟩ Tryz.prog 48 #[vp c0 0,vp c1 0] onC 34 cfOn b 0 l.length w:=fun m os dk _ x y=>by
  refine agb_ x y c0 c1 _ ?_ ?_
  ·show((w.heap.modify b _)++os)[c0]? =_
   rw[Array.getElem?_append_left (by rw[Array.size_modify];exact hl0),Array.getElem?_modify,if_neg hn0];exact h0
  ·show((w.heap.modify b _)++os)[c1]? =_
   rw[Array.getElem?_append_left (by rw[Array.size_modify];exact hl1),Array.getElem?_modify,if_neg hn1];exact h1
 have h:= @aco_ OnL ⟨Go.Proofs.on0⟩ onC 34 Tryz.prog Tryz.sortOn_ren Tryz.sortOn Tryz.isAgg70 Tryz.sizeOf70 q3_ aeB_ cfOn ank_ 48 #[vp c0 0,vp c1 0] Tryz.call48 w b c E l rest hcm hb hsz
 refine Rets.mono h ?_
 rintro v D ⟨o,rfl,rfl,l',hp,hs,rfl⟩
 exact⟨_,rfl,rfl,l',⟨hp,hs⟩,rfl⟩
theorem ajw_ (v:Value) (X:zb_) (l:List OnL) (c0 c1:Nat) (w:World) (hG:Gr X 70 34 v l.length (l.map onC).flatten) (hX: ∀p,p∈X→w.heap[p.1]? =some p.2) (hn: (keys X).Nodup) (hl:l.length<1000000)
  (h0:w.heap[c0]? =some (.cells #[.func (.func 27) #[] #[]] 72 (0,0))) (h1:w.heap[c1]? =some (.cells #[.func (.func 28) #[] #[]] 72 (0,0))) (hn0:c0∉keys X) (hn1:c1∉keys X):
  Rets Tryz.prog 25 #[v, .func (.func 48) #[] #[vp c0 0,vp c1 0]] w (XS w X (fun v' D=>v'= .tuple #[]∧ ∃Z,WI_ l Z∧Gr D 70 34 v l.length (Z.map onC).flatten)):=by
 rcases hG with hS| ⟨e0,e1,rb,rfl,hlk⟩
 ·rcases hS.inv with⟨rfl,e0,e1⟩ | ⟨rb,c,rest,rfl,hlk,-,hc,hc0,hr⟩
  ·obtain rfl:l= []:=List.eq_nil_of_length_eq_zero e0
   refine(Rets.chunkV hX hn (@VJ_ Tryz.prog Tryz.sortOn_ren Tryz.sortOn none 0 _ w)).mono ?_
   rintro v' D ⟨hE,rfl,hv⟩
   exact⟨hE,hv,[],⟨List.Perm.nil,List.Pairwise.nil⟩,Gr.nl⟩
  ·have hk:=zm_ hlk
   refine(Rets.chunk hX hn hk (W2_ (c:=c) w (hX _ (zF_ hlk)) (by omega) h0 h1 (fun e=>hn0 (e▸hk)) (fun e=>hn1 (e▸hk)))).mono ?_
   rintro v' D ⟨hE,o,rfl,hv,Z,hZ,rfl⟩
   refine⟨hE,hv,Z,hZ, .inl ?_⟩
   have z1:=hZ.1.length_eq
   rw[←z1]
   exact Buf.at_ (x7_ hlk) (by rw[Zz_ q3_]) (by rw[z1];exact hr) (by omega) hc0
 ·obtain rfl:l= []:=List.eq_nil_of_length_eq_zero e0
  refine(Rets.chunkV hX hn (@VJ_ Tryz.prog Tryz.sortOn_ren Tryz.sortOn (some ⟨rb,0,none⟩) 0 _ w)).mono ?_
  rintro v' D ⟨hE,rfl,hv⟩
  exact⟨hE,hv,[],⟨List.Perm.nil,List.Pairwise.nil⟩, .inr ⟨rfl,rfl,rb,rfl,hlk⟩⟩
theorem XA_ (k:Nat):Value.cells (.func (.func k) #[] #[])= #[.func (.func k) #[] #[]]:=rfl
set_option linter.defProp false
def QT_:= @XA_
theorem aep_ (w:World):
  Rets Tryz.prog 26 #[.func (.func 27) #[] #[], .func (.func 28) #[] #[]] w (XS w [] (fun v D=> ∃c0 c1,v= .func (.func 48) #[] #[vp c0 0,vp c1 0]∧(c0,Obj.cells #[.func (.func 27) #[] #[]] 72 (0,0))∈D∧(c1,Obj.cells #[.func (.func 28) #[] #[]] 72 (0,0))∈D)):=by
 refine Rets.enterX Tryz.func26 rfl (rs:= [.tmp 4]) Tryz.results26 Tryz.ntmps26 (fun p hp=>by cases hp) (by simp[keys]) ?_
 refine kf ?_
 first|with_reducible refine ks [] @QT_ ?_|refine kp @QT_ ?_
 refine Ow.box rfl rfl fun b2 hb2 hw2=> ?_
 simp only[zw_,zC_,zB_,za_,List.nil_append,List.cons_append]
 refine Ow.go rfl ?_
 simp(disch:=(first|assumption|omega| (simp only[kk_,kj_,UInt64.reduceToNat];try omega))) only[↓Sx.S0,Sx.S1,Tryz.fx,QT_,Nat.reduceAdd,Nat.reducePow,Int.reducePow,Nat.reduceBEq, ↓reduceIte,UInt8.reduceToNat,UInt16.reduceToNat,UInt32.reduceToNat,UInt64.reduceToNat,Int.reduceToNat]
 refine Ow.box rfl rfl fun b3 hb3 hw3=> ?_
 simp only[zw_,zC_,zB_,za_,List.nil_append,List.cons_append]
 refine Ow.go rfl ?_
 simp(disch:=(first|assumption|omega| (simp only[kk_,kj_,UInt64.reduceToNat];try omega))) only[↓Sx.S0,Sx.S1,Tryz.fx,QT_,Nat.reduceAdd,Nat.reducePow,Int.reducePow,Nat.reduceBEq, ↓reduceIte,UInt8.reduceToNat,UInt16.reduceToNat,UInt32.reduceToNat,UInt64.reduceToNat,Int.reduceToNat]
 first|with_reducible refine ks [] @QT_ ?_|refine kp @QT_ ?_
 refine⟨_,(ke @QT_), ?_⟩
 simp only[List.map_toArray,List.map_cons,List.map_nil,zw_,zC_,zB_]
 exact⟨Ext.of_new ⟨hw2,hw3,trivial⟩,b2,b3,rfl,by simp[XA_],by simp[XA_]⟩
theorem VI_ (a:OnL) (E:TypeId):zn_ (some (true,2)) (some (.cells (onC a).toArray E (0,0))) 0=some (obV ((a.k.val:Nat):Int) (tkT a.x)):=by
 exact vB_ [] [vi ((a.k.val:Nat):Int),vs (tkT a.x)] (jd_ a.id) E (0,0) rfl rfl
def onO (a:OnL):ObK:=⟨((a.k.val:Nat):Int),tkT a.x⟩
theorem amQ_ (a b:ObK):q0_ Tryz.prog .eql 38 (obV a.k a.t) (obV b.k b.t)=some (.bool (decide (a=b))):=by
 have h:=aiR_ a b
 unfold q0_ eqX obV at*;rw[show Tryz.prog.eqGuardType Tryz.prog.depth 38=false by kernel_rfl];simp[qy_,h]
set_option linter.defProp false
def Qz_:= @VI_
theorem ahf_ (a b:OnL) (w:World):Rets Tryz.prog 30 #[.agg (onC a).toArray, .agg (onC b).toArray] w (fun v D=>v= .bool (decide (onO a=onO b))∧D= []):=by
 have e:q0_ Tryz.prog .eql 38 (obV ((a.k.val:Nat):Int) (tkT a.x)) (obV ((b.k.val:Nat):Int) (tkT b.x))=some (.bool (decide (onO a=onO b))):=amQ_ (onO a) (onO b)
 refine Rets.enterV Tryz.func30 rfl (rs:= [.tmp 4]) Tryz.results30 Tryz.ntmps30 ?_
 refine kf ?_
 first|with_reducible refine ks [] @Qz_ ?_|refine kp @Qz_ ?_
 refine Ow.box rfl rfl fun b2 hb2 hw2=> ?_
 simp only[zw_,zC_,zB_,za_,List.nil_append,List.cons_append]
 refine Ow.go rfl ?_
 simp(disch:=(first|assumption|omega| (simp only[kk_,kj_,UInt64.reduceToNat];try omega))) only[↓Sx.S0,Sx.S1,Tryz.fx,Qz_,Nat.reduceAdd,Nat.reducePow,Int.reducePow,Nat.reduceBEq, ↓reduceIte,UInt8.reduceToNat,UInt16.reduceToNat,UInt32.reduceToNat,UInt64.reduceToNat,Int.reduceToNat]
 refine Ow.box rfl rfl fun b3 hb3 hw3=> ?_
 simp only[zw_,zC_,zB_,za_,List.nil_append,List.cons_append]
 refine Ow.go rfl ?_
 simp(disch:=(first|assumption|omega| (simp only[kk_,kj_,UInt64.reduceToNat];try omega))) only[↓Sx.S0,Sx.S1,Tryz.fx,Qz_,Nat.reduceAdd,Nat.reducePow,Int.reducePow,Nat.reduceBEq, ↓reduceIte,UInt8.reduceToNat,UInt16.reduceToNat,UInt32.reduceToNat,UInt64.reduceToNat,Int.reduceToNat]
 obtain⟨h23,-⟩:=hb3
 have r2:zk_ w [(b2,Obj.cells (onC a).toArray 70 (0,0)),(b3, .cells (onC b).toArray 70 (0,0))] b2=some (.cells (onC a).toArray 70 (0,0)):=zp_ _ _ _ _
 have r3:zk_ w [(b2,Obj.cells (onC a).toArray 70 (0,0)),(b3, .cells (onC b).toArray 70 (0,0))] b3=some (.cells (onC b).toArray 70 (0,0)):=by rw[zh_ _ _ _ _ _ (by omega)];exact zp_ _ _ _ _
 first|with_reducible refine ks [] (And.intro @Qz_ (And.intro @e (And.intro @r2 (@r3)))) ?_|refine kp (And.intro @Qz_ (And.intro @e (And.intro @r2 (@r3)))) ?_
 refine⟨_,(ke @Qz_),⟨hw2,hw3,trivial⟩, ?_⟩
 rfl
theorem JV_ {w:World} {v:Value} {l:List OnL} {b off:Nat} {arr:Array Value} {E:TypeId} {fz:Nat×Nat} (h:RowS 34 onC on0 w v l b off arr E fz) {k:Nat} (hk:k<l.length):
  zn_ (some (true,34)) (some (.cells arr E fz)) (off+k*34)=some (.agg (onC (l.getD k on0)).toArray):=h.load q3_ (by decide) hk
set_option linter.defProp false
def xI_:=And.intro (@zv_) (@zu_)
theorem VX_ (v:Value) (l:List OnL) (w:World) (hv:SlV 34 onC on0 w v l) (hl:l.length<1000000) (hne: ∀i,0<i→i<l.length→onO (l.getD i on0)≠onO (l.getD (i - 1) on0)):
  Rets Tryz.prog 29 #[v, .func (.func 30) #[] #[]] w (fun r D=>r=v∧D= []):=by
 obtain⟨rb,off,arr,E,fz,hr⟩:=hv.row
 have ln:=fun x=>hr.len x
 refine Rets.enterV Tryz.func29 rfl (rs:= [.tmp 4]) Tryz.results29 Tryz.ntmps29 ?_
 refine kf ?_
 by_cases h2:l.length<2
 ·have d1:decide ((l.length:Int)<2)=true:=decide_eq_true (by omega)
  first|with_reducible refine ks [] (And.intro @xI_ (And.intro @ln (@d1))) ?_|refine kp (And.intro @xI_ (And.intro @ln (@d1))) ?_
  refine⟨_,(ke @xI_),trivial, ?_⟩
  rfl
 have d1:decide ((l.length:Int)<2)=false:=decide_eq_false (by omega)
 first|with_reducible refine ks [] (And.intro @xI_ (And.intro @ln (@d1))) ?_|refine kp (And.intro @xI_ (And.intro @ln (@d1))) ?_
 refine Cw.loopG (G:=SkOG) [12,13,14,15,18,19,20,21,22,23,24,25,26,27,28,29,30,31,6,7,32,33,34,35,38,39,40,41,42,43,44,45,46,47,48,49,50,51,52,53,54,55,56,57,58,5,36,37,59,60,61,62,63,64,4,16,17] (fun g=> [(5,vi ((g.i+1:Nat):Int))]) (fun g=> []) (fun g=>g.i+1≤l.length) (fun g=>l.length - g.i) ⟨0⟩ rfl rfl ?_ ?_
 ·show 0+1≤l.length;omega
 intro g j hg
 refine kv ?_
 obtain⟨i⟩:=g
 simp only at hg ⊢
 by_cases hlt:i+1<l.length
 ·have hrl:=hr.lt (by omega)
  have ix:=hr.idx true (i+1) hlt
  have ld:=JV_ hr hlt
  have ix2:=hr.idx true i (by omega)
  have ld2:=JV_ hr (show i<l.length by omega)
  have rd:zk_ w [] rb=some (.cells arr E fz):=by rw[zQ_];exact hr.has (by omega)
  have hd0:decide (((i+1:Nat):Int)< (l.length:Int))=true:=decide_eq_true (by omega)
  have hn:=hne (i+1) (by omega) hlt
  have em: ((i+1:Nat):Int) - 1=(i:Int):=by omega
  rw[Nat.add_sub_cancel] at hn
  first|with_reducible refine ks [] (And.intro @xI_ (And.intro @ln (@hd0))) ?_|refine kp (And.intro @xI_ (And.intro @ln (@hd0))) ?_
  refine Cw.regionS [rb] [0,1,2,3,5,6,7,8,4,9,10] [] (by kernel_rfl) (by kernel_rfl) (by kernel_rfl) ?_
  refine kya ?_
  refine kq (And.intro @xI_ (And.intro @ix (And.intro @ld (And.intro @ix2 (And.intro @ld2 (And.intro @rd (@em))))))) ?_
  have hq:=fun w'=>ahf_ (l.getD (i+1) on0) (l.getD i on0) w'
  rw[decide_eq_false hn] at hq
  refine Ow.callV (v:= .bool false) rfl rfl Tryz.call30 (fun w' hw'=>by
   simp only[List.map_toArray,List.map_cons,List.map_nil,zw_,zC_,zB_,Array.empty_append,Array.append_empty]
   exact hq w') ?_
  refine kq @xI_ ?_
  try with_reducible refine Ow.nil ?_
  first|with_reducible refine ks [] @xI_ ?_|refine kp @xI_ ?_
  exact Again.mk ⟨i+1⟩ (by show l.length - (i+1)<l.length - i;omega) hlt rfl rfl
 ·have hd0:decide (((i+1:Nat):Int)< (l.length:Int))=false:=decide_eq_false (by omega)
  first|with_reducible refine ks [] (And.intro @xI_ (And.intro @ln (@hd0))) ?_|refine kp (And.intro @xI_ (And.intro @ln (@hd0))) ?_
  refine⟨_,(ke @xI_),trivial, ?_⟩
  rfl
end Go.Proofs
end
section
open Go Go.Proofs Go.Sx Go.StP Go.Flo Go.Shelf Go.Sort
namespace Go.Proofs
set_option maxRecDepth 10000
set_option maxHeartbeats 1000000
set_option linter.unusedSimpArgs false
theorem zrOn:zG_ Tryz.prog 70=some (.agg (onC on0).toArray):=id (by kernel_rfl)
theorem abn_ (a b:OnL) (E:TypeId):zi_ (some (true,34)) (some (.cells (onC a).toArray E (0,0))) 0 (.agg (onC b).toArray)=some (.cells (onC b).toArray E (0,0)):=by
 have:=jO_ (onC b) (n:=34) true (onC a).toArray E (by rw[q3_]) (Kc_ b) (by rw[List.size_toArray,q3_])
 exact this
theorem aix_ (a:OnL) (E:TypeId) (n:Nat):zn_ (some (false,n)) (some (.cells (onC a).toArray E (0,0))) 1=some (vs (tkT a.x)):=rfl
theorem ZC_ (a:OnL):Value.cells (.agg (onC a).toArray)=(onC a).toArray:=za_ _
theorem abi_ (x:OnL):xx_ Tryz.prog 68 1 [(0, .agg (onC x).toArray)]=some (70,(onC x).toArray):=qa_ Tryz.underlying68 Tryz.ag70 zrOn (by decide) (q3_ x)
theorem ah0_ {w:World} {b:Nat} {s:List UInt8} (h:w.heap[b]? =some (.cells #[vs s] 9 (0,0))):SlV 1 Kq_ [] w (vsl b 0 1 1) [s]:=
 SlV.sl (l:=([s]:List (List UInt8))) h (fun i hi j hj=>by
  obtain rfl:i=0:=by simp at hi;omega
  obtain rfl:j=0:=by omega
  rfl) (by simp) (by simp)
structure NrG where
 i:Nat
 v:Value
 X:zb_
 Y:zb_
theorem alT_ {D:zb_} {v:Value} {n:Nat} (h:GrI D 3 1 v n ((jc_ 0 n).map kf_).flatten):n=0∨ ∃b c rest,v=vsl b 0 n c∧(b,Obj.cells (((jc_ 0 n).map kf_).flatten++rest).toArray 3 (0,0))∈D:=by
 obtain⟨X,hX,h| ⟨h0,-⟩⟩:=h
 ·rcases h.inv with⟨-,h0,-⟩ | ⟨b,c,rest,rfl,hl,-⟩
  ·exact .inl h0
  ·exact .inr ⟨b,c,rest,rfl,hX _ (zF_ hl)⟩
 ·exact .inl h0
set_option linter.defProp false
def qG_:=And.intro (And.intro (@zv_) (And.intro (@zu_) (@jm_))) (And.intro (@aix_) (And.intro (@ZC_) (@abn_)))
theorem Va_ (v:Value) (l:List OnL) (w:World) (hv:SlV 34 onC on0 w v l) (hl:l.length≤2) (h0:0<l.length):
  Rets Tryz.prog 31 #[v] w (XS w [] (fun r D=>GrI D 70 34 r l.length (l.map onC).flatten)):=by
 obtain⟨rb,off,arr,E,fz,hr⟩:=hv.row
 have ln:=fun x=>hr.len x
 refine Rets.enterX Tryz.func31 rfl (rs:= [.tmp 2]) Tryz.results31 Tryz.ntmps31 (fun p hp=>by cases hp) (by simp[keys]) ?_
 refine kf ?_
 first|with_reducible refine ks [] (And.intro @qG_ @ln) ?_|refine kp (And.intro @qG_ @ln) ?_
 refine Cw.loopG (G:=NrG) [12,13,14,5,15,16,17,18,19,20,21,22,3,23,11] (fun g=> [(11,vi g.i),(3,g.v)]) (fun g=>g.X++g.Y) (fun g=>g.i≤l.length∧New w.heap.size g.X∧New w.heap.size g.Y∧Gr g.X 113 4 g.v g.i (((l.take g.i).map OnL.x).map skL).flatten) (fun g=>l.length - g.i) ⟨0, .slice none 0 0,[],[]⟩ rfl rfl ?_ ?_
 ·exact⟨Nat.zero_le _,trivial,trivial,Gr.nl⟩
 intro g j hg
 refine kv ?_
 obtain⟨i,vl,X,Y⟩:=g
 simp only at hg ⊢
 obtain⟨hi,hNX,hNY,hGr⟩:=hg
 by_cases hlt:i<l.length
 ·have hd0:decide ((i:Int)< (l.length:Int))=true:=decide_eq_true (by omega)
  have hrl:=hr.lt (by omega)
  have ix:=hr.idx true i hlt
  have ld:=JV_ hr hlt
  have hNN:New w.heap.size (X++Y):=hNX.app hNY
  have rd:zk_ w (X++Y) rb=some (.cells arr E fz):=by rw[z4_ (hNN.not hrl)];exact hr.has (by omega)
  have hts: (l.take (i+1)).map OnL.x=(l.take i).map OnL.x++ [(l.getD i on0).x]:=by
   rw[StP.take_snoc (z:=on0) hlt,List.map_append];rfl
  generalize l.getD i on0=a at*
  first|with_reducible refine ks [] (And.intro @qG_ (And.intro @hd0 (And.intro @ix (And.intro @ld (@rd))))) ?_|refine kp (And.intro @qG_ (And.intro @hd0 (And.intro @ix (And.intro @ld (@rd))))) ?_
  refine Ow.alloc rfl rfl zrOn fun b5 hb5 hw5=> ?_
  simp only[za_,List.nil_append,List.cons_append]
  refine Ow.permL (M:=(b5, .cells (onC on0).toArray 70 (0,0)):: (X++Y)) (by classical exact List.perm_iff_count.2 fun a=>by simp only[List.count_append,List.count_cons,List.count_nil]<;>omega) ?_
  refine ko @qG_ ?_
  first|with_reducible refine ks [] @qG_ ?_|refine kp @qG_ ?_
  refine Ow.buildSlice (e:=9) #[vs (tkT a.x)] rfl rfl (by kernel_rfl) fun b6 hb6 hw6=> ?_
  refine ko @qG_ ?_
  refine Ow.callFV rfl Tryz.call50 (fun w' hw'=>akL_ a.x _ w' (ah0_ (hw'.has b6 (.cells #[vs (tkT a.x)] 9 (0,0)) (by simp)))) ?_
  refine ko @qG_ ?_
  refine Ow.buildSlice (e:=113) (skL a.x).toArray rfl rfl (abz_ _) fun b9 hb9 hw9=> ?_
  refine Ow.permL (M:=X++ (Y++ [(b5, .cells (onC a).toArray 70 (0,0)),(b6, .cells #[vs (tkT a.x)] 9 (0,0)),(b9, .cells (skL a.x).toArray 113 (0,0))])) (by classical exact List.perm_iff_count.2 fun a=>by simp only[List.count_append,List.count_cons,List.count_nil]<;>omega) ?_
  refine ko @qG_ ?_
  refine Ow.appendXG (e:=113) (k:=1) (new:=skL a.x) (X:=X) vl rfl rfl rfl rfl Tryz.underlying110 Tryz.ag113 (by kernel_rfl) zrSk rfl Tryz.underlying110 (by intro k h;cases h) hGr (fun w' hw'=>AppX.one1 (hw'.has b9 (.cells (skL a.x).toArray 113 (0,0)) (by simp)) (wU_ _) (We_ _)) (by omega) (fun B3 v3 D3 hA3 hB3 hG3 hk13 hk23 hlk3=> ?_)
  have hN3:New w.heap.size D3:=New.of_le fun c hc=>by
   rcases hk23 c hc with h|h
   ·exact hNX.le c h
   ·omega
  refine ko @qG_ ?_
  first|with_reducible refine ks [] @qG_ ?_|refine kp @qG_ ?_
  refine Again.mk ⟨i+1,v3,D3,Y++ [(b5, .cells (onC a).toArray 70 (0,0)),(b6, .cells #[vs (tkT a.x)] 9 (0,0)),(b9, .cells (skL a.x).toArray 113 (0,0))]⟩ (by show l.length - (i+1)<l.length - i;omega) ⟨hlt,hN3,hNY.app ⟨hw5,hw6,hw9,trivial⟩, ?_⟩ rfl rfl
  show Gr D3 113 4 v3 (i+1) (((l.take (i+1)).map OnL.x).map skL).flatten
  rw[hts]
  simpa using hG3
 ·obtain rfl:i=l.length:=by omega
  have hd0:decide ((l.length:Int)< (l.length:Int))=false:=by simp
  rw[List.take_length] at hGr
  first|with_reducible refine ks [] (And.intro @qG_ @hd0) ?_|refine kp (And.intro @qG_ @hd0) ?_
  refine Ow.callC rfl rfl Tryz.call51 (fun w' hw'=>KG_ vl (l.map OnL.x) w' (hGr.slM (fun b o hm=>hw'.has b o (by simp[hm])) (by simp) rfl wU_) (by simpa using hl)) (fun B4 v4 D4 hA4 hB4 hN4 hS4=> ?_)
  rw[List.length_map] at hS4
  have hN4':=hN4.mono hB4
  rcases alT_ hS4 with hz| ⟨bn,cn,rn,rfl,hmn⟩
  ·omega
  have ln4:=w4_ hS4
  have hNY4:New w.heap.size (X++Y++D4):=(hNX.app hNY).app hN4'
  have hmY: (bn,Obj.cells (((jc_ 0 l.length).map kf_).flatten++rn).toArray 3 (0,0))∈X++Y++D4:=List.mem_append_right _ hmn
  clear hN4 hA4 hB4 hS4
  generalize X++Y++D4=Y4 at*
  refine ko (And.intro @qG_ @ln4) ?_
  first|with_reducible refine ks [] (And.intro @qG_ @ln4) ?_|refine kp (And.intro @qG_ @ln4) ?_
  refine Cw.loopG (G:=NrG) [28,29,30,8,31,32,33,34,35,36,37,6,38,27] (fun g=> [(27,vi g.i),(6,g.v)]) (fun g=>g.X++g.Y) (fun g=>g.i≤l.length∧New w.heap.size g.X∧New w.heap.size g.Y∧Gr g.X 70 34 g.v g.i ((l.take g.i).map onC).flatten∧(bn,Obj.cells (((jc_ 0 l.length).map kf_).flatten++rn).toArray 3 (0,0))∈g.Y) (fun g=>l.length - g.i) ⟨0, .slice none 0 0,[],Y4⟩ rfl rfl ?_ ?_
  ·exact⟨Nat.zero_le _,trivial,hNY4,Gr.nl,hmY⟩
  intro g j hg
  refine kv ?_
  clear hNY4 hmY hGr
  obtain⟨i,vo,XO,Y⟩:=g
  simp only at hg ⊢
  obtain⟨hi,hNX,hNY,hGr,hmY⟩:=hg
  by_cases hlt:i<l.length
  ·refine Cw.world fun wz hwz=> ?_
   have hnd:=hwz.nodup
   clear hwz wz
   have d2:decide ((i:Int)< (l.length:Int))=true:=decide_eq_true (by omega)
   have hNN:New w.heap.size (XO++Y):=hNX.app hNY
   have rdn:zk_ w (XO++Y) bn=some (.cells (((jc_ 0 l.length).map kf_).flatten++rn).toArray 3 (0,0)):=zo_ (qC_ hnd (List.mem_append_right _ hmY))
   have ixn:=qz_ (false,1) bn 0 l.length cn i ⟨by omega,by omega⟩
   have ldn:=w0_ rn 3 (j:=0) (n:=1) hlt
   simp only[Nat.mul_one,Nat.zero_add] at ixn ldn
   have hrl:=hr.lt (by omega)
   have ix:=hr.idx true i hlt
   have ld:=JV_ hr hlt
   have rd:zk_ w (XO++Y) rb=some (.cells arr E fz):=by rw[z4_ (hNN.not hrl)];exact hr.has (by omega)
   have hts:l.take (i+1)=l.take i++ [l.getD i on0]:=StP.take_snoc (z:=on0) hlt
   generalize l.getD i on0=a at*
   first|with_reducible refine ks [] (And.intro @qG_ (And.intro @d2 (And.intro @ixn (And.intro @ldn (And.intro @rdn (And.intro @ix (And.intro @ld (@rd)))))))) ?_|refine kp (And.intro @qG_ (And.intro @d2 (And.intro @ixn (And.intro @ldn (And.intro @rdn (And.intro @ix (And.intro @ld (@rd)))))))) ?_
   refine Ow.buildSlice (e:=70) (onC a).toArray rfl rfl (abi_ _) fun b9 hb9 hw9=> ?_
   refine ko @qG_ ?_
   refine Ow.appendXG (e:=70) (k:=1) (new:=onC a) (X:=XO) vo (List.append_assoc _ _ _) rfl rfl rfl Tryz.underlying68 Tryz.ag70 (by kernel_rfl) zrOn (by rw[ZC_,List.size_toArray,q3_]) Tryz.underlying68 (by intro k h;cases h) hGr (fun w' hw'=>AppX.one1 (hw'.has b9 (.cells (onC a).toArray 70 (0,0)) (by simp)) (q3_ _) (Kc_ _)) (by omega) (fun B3 v3 D3 hA3 hB3 hG3 hk13 hk23 hlk3=> ?_)
   have hN3:New w.heap.size D3:=New.of_le fun c hc=>by
    rcases hk23 c hc with h|h
    ·exact hNX.le c h
    ·omega
   refine ko @qG_ ?_
   first|with_reducible refine ks [] @qG_ ?_|refine kp @qG_ ?_
   refine Again.mk ⟨i+1,v3,D3,Y++ [(b9, .cells (onC a).toArray 70 (0,0))]⟩ (by show l.length - (i+1)<l.length - i;omega) ⟨hlt,hN3,hNY.app ⟨hw9,trivial⟩, ?_,List.mem_append_left _ hmY⟩ rfl rfl
   show Gr D3 70 34 v3 (i+1) ((l.take (i+1)).map onC).flatten
   rw[hts]
   simpa using hG3
  ·obtain rfl:i=l.length:=by omega
   have d2:decide ((l.length:Int)< (l.length:Int))=false:=by simp
   rw[List.take_length] at hGr
   first|with_reducible refine ks [] (And.intro @qG_ @d2) ?_|refine kp (And.intro @qG_ @d2) ?_
   refine⟨_,(ke @qG_), ?_⟩
   exact⟨Ext.of_new (hNX.app hNY),hGr.i fun p hp=>by simp[hp]⟩
end Go.Proofs
end
section
open Go Go.Proofs Go.Sx Go.StP Go.Flo Go.Shelf Go.Sort
namespace Go.Proofs
set_option maxRecDepth 10000
set_option maxHeartbeats 1000000
set_option linter.unusedSimpArgs false
theorem ahh_ (a:OnL):buildV (xY_ Tryz.prog 70) (zG_ Tryz.prog 70) [(0,obV ((a.k.val:Nat):Int) (tkT a.x)),(1, .agg (a8 a.id.l))]=some (.agg (onC a).toArray):=by
 have hp:xY_ Tryz.prog 70=some [(0,2),(2,32)]:=id (by kernel_rfl)
 rw[hp,zrOn,←ZK_]
 have e1:kZ_ (onC on0).toArray 0 [vi ((a.k.val:Nat):Int),vs (tkT a.x)]=([vi ((a.k.val:Nat):Int),vs (tkT a.x)]++jd_ id0).toArray:=ZY_ [vi ((a.k.val:Nat):Int),vs (tkT a.x)] [] [vi 0,vs []] (jd_ id0) rfl
 have e2:kZ_ ([vi ((a.k.val:Nat):Int),vs (tkT a.x)]++jd_ id0).toArray 2 (jd_ a.id)=(onC a).toArray:=by
  have:=ZY_ (jd_ a.id) [vi ((a.k.val:Nat):Int),vs (tkT a.x)] (jd_ id0) [] (by rw[zX_,zX_])
  rw[List.append_nil,List.append_nil] at this
  exact this
 have s1: (onC on0).toArray.size=34:=by rw[List.size_toArray,q3_]
 have s2: ([vi ((a.k.val:Nat):Int),vs (tkT a.x)]++jd_ id0).toArray.size=34:=by rw[List.size_toArray,List.length_append,zX_];rfl
 have c1:Value.cells (obV ((a.k.val:Nat):Int) (tkT a.x))= [vi ((a.k.val:Nat):Int),vs (tkT a.x)].toArray:=rfl
 have c2:Value.cells (.agg (jd_ a.id).toArray)=(jd_ a.id).toArray:=rfl
 have l2:=zX_ a.id
 show(Sx.fillV [(0,2),(2,32)] (onC on0).toArray [(0,obV ((a.k.val:Nat):Int) (tkT a.x)),(1, .agg (jd_ a.id).toArray)]).map Value.agg=_
 unfold Sx.fillV
 simp only[List.getElem?_cons_zero,c1,s1,List.size_toArray,List.length_cons,List.length_nil,Nat.reduceAdd,Nat.reduceLeDiff,and_self, ↓reduceIte,e1]
 unfold Sx.fillV
 simp only[List.getElem?_cons_succ,List.getElem?_cons_zero,c2,s2,l2,List.size_toArray,Nat.reduceAdd,Nat.reduceLeDiff,and_self, ↓reduceIte,e2]
 unfold Sx.fillV
 rfl
def K9_ (Z:List OnL) (i:Nat):Int:=if i=0∨(Z.getD i on0).k≠ (Z.getD (i - 1) on0).k then -1 else(i:Int) - 1
def basL (Z:List OnL) (n:Nat):List Int:=(List.range n).map (K9_ Z)
def VW_ (n:Int):List Value:= [vi n]
structure OrG where
 i:Nat
 v:Value
 X:zb_
 Y:zb_
structure OrH where
 n:Nat
 vo:Value
 vb:Value
 XO:zb_
 XB:zb_
 Y:zb_
set_option linter.defProp false
def zg_:=And.intro (And.intro (And.intro (@zv_) (And.intro (@zu_) (@jB_))) (And.intro (And.intro (@jJ_) (@jx_)) (And.intro (@jW_) (@xA_)))) (And.intro (And.intro (And.intro (@kq_) (@Sx.tup2_0)) (And.intro (@Sx.tup2_1) (@wo_))) (And.intro (And.intro (@abn_) (@jm_)) (And.intro (@VI_) (@ZC_))))
theorem JT_ (v:Value) (L:List OnL) (w:World) (hG:GlobE w) (hv:SlV 2 qm_ jg_ w v (L.map onO)) (hid: ∀a,a∈L→rdK (onO a)=true∧a.id=idK (onO a)) (hl:L.length≤3) (hl0:0<L.length)
  (hnd: (L.map onO).Nodup) (hg3: ∀Z,WI_ L Z→ ∀i,i+2<Z.length→(Z.getD i on0).k≠ (Z.getD (i+2) on0).k):
  Rets Tryz.prog 15 #[v] w (XS w [] (fun r D=> ∃Z vo vb,WI_ L Z∧r= .tuple #[vo,vb,vi 0]∧GrI D 38 2 vo L.length ((Z.map onO).map qm_).flatten∧GrI D 3 1 vb L.length ((basL Z L.length).map VW_).flatten)):=by
 obtain⟨rb,off,arr,E,fz,hr⟩:=hv.row
 have ln:=fun x=>hr.len x
 rw[List.length_map] at ln
 refine Rets.enterX Tryz.func15 rfl (rs:= [.tmp 2, .tmp 3, .tmp 4]) Tryz.results15 Tryz.ntmps15 (fun p hp=>by cases hp) (by simp[keys]) ?_
 refine kf ?_
 first|with_reducible refine ks [] (And.intro @zg_ @ln) ?_|refine kp (And.intro @zg_ @ln) ?_
 refine Cw.loopG (G:=OrG) [20,21,22,7,24,25,23,26,27,8,9,28,29,2,3,4,30,31,32,33,34,35,5,36,19] (fun g=> [(19,vi g.i),(5,g.v)]) (fun g=>g.X++g.Y) (fun g=>g.i≤L.length∧New w.heap.size g.X∧New w.heap.size g.Y∧Gr g.X 70 34 g.v g.i ((L.take g.i).map onC).flatten) (fun g=>L.length - g.i) ⟨0, .slice none 0 0,[],[]⟩ rfl rfl ?_ ?_
 ·exact⟨Nat.zero_le _,trivial,trivial,Gr.nl⟩
 intro g j hg
 refine kv ?_
 obtain⟨i,va,X,Y⟩:=g
 simp only at hg ⊢
 obtain⟨hi,hNX,hNY,hGr⟩:=hg
 by_cases hlt:i<L.length
 ·have hd0:decide ((i:Int)< (L.length:Int))=true:=decide_eq_true (by omega)
  have hlm:i< (L.map onO).length:=by rw[List.length_map];exact hlt
  have hrl:=hr.lt (by omega)
  have ix:=hr.idx true i hlm
  have ld:=kx_ hr hlm
  have hgm: (L.map onO).getD i jg_=onO (L.getD i on0):=by
   rw[List.getD_eq_getElem?_getD,List.getElem?_map,List.getElem?_eq_getElem hlt,List.getD_eq_getElem?_getD,List.getElem?_eq_getElem hlt];rfl
  rw[hgm] at ld
  have hNN:New w.heap.size (X++Y):=hNX.app hNY
  have rd:zk_ w (X++Y) rb=some (.cells arr E fz):=by rw[z4_ (hNN.not hrl)];exact hr.has (by omega)
  have hts:L.take (i+1)=L.take i++ [L.getD i on0]:=StP.take_snoc (z:=on0) hlt
  have hmm:L.getD i on0∈L:=by rw[List.getD_eq_getElem?_getD,List.getElem?_eq_getElem hlt];exact List.getElem_mem _
  obtain⟨hrd,hia⟩:=hid _ hmm
  generalize L.getD i on0=a at*
  have ld1:zn_ (some (true,2)) (some (.cells arr E fz)) (off+i*2)=some (obV ((a.k.val:Nat):Int) (tkT a.x)):=ld
  have hid1:idV ((a.k.val:Nat):Int) (tkT a.x)=a.id:=hia.symm
  have hrd1:kH_ ((a.k.val:Nat):Int) (tkT a.x)=true:=hrd
  have hxh:=a.id.h
  have hi0:=id0.h
  first|with_reducible refine ks [] (And.intro @zg_ (And.intro @hd0 (And.intro @ix (And.intro @ld1 (@rd))))) ?_|refine kp (And.intro @zg_ (And.intro @hd0 (And.intro @ix (And.intro @ld1 (@rd))))) ?_
  refine Ow.alloc rfl rfl wb_ fun b7 hb7 hw7=> ?_
  simp only[za_,List.nil_append,List.cons_append]
  refine Ow.permL (M:=(b7, .cells #[vi 0,vs []] 38 (0,0)):: (X++Y)) (by classical exact List.perm_iff_count.2 fun a=>by simp only[List.count_append,List.count_cons,List.count_nil]<;>omega) ?_
  refine ko @zg_ ?_
  first|with_reducible refine ks [] @zg_ ?_|refine kp @zg_ ?_
  refine Ow.callFV rfl Tryz.call23 (fun w' hw'=>X8_ ((a.k.val:Nat):Int) (tkT a.x) w' (hG.new hw' ⟨hw7,hNN⟩)) ?_
  rw[hid1,hrd1]
  refine ko @zg_ ?_
  refine Ow.alloc rfl rfl v1_ fun b8 hb8 hw8=> ?_
  simp only[za_,List.nil_append,List.cons_append]
  have h78:b7<b8:=ze_ hb8 (by simp[keys])
  refine Ow.permL (M:=(b8, .cells (a8 id0.l) 42 (0,0)):: (b7, .cells #[vi ((a.k.val:Nat):Int),vs (tkT a.x)] 38 (0,0)):: (X++Y)) (by classical exact List.perm_iff_count.2 fun a=>by simp only[List.count_append,List.count_cons,List.count_nil]<;>omega) ?_
  refine ko @zg_ ?_
  have nt: (!true)=false:=rfl
  first|with_reducible refine ks [] (And.intro @zg_ @nt) ?_|refine kp (And.intro @zg_ @nt) ?_
  have r7:zk_ w ((b8,Obj.cells (a8 a.id.l) 42 (0,0)):: (b7, .cells #[vi ((a.k.val:Nat):Int),vs (tkT a.x)] 38 (0,0)):: (X++Y)) b7=some (.cells #[vi ((a.k.val:Nat):Int),vs (tkT a.x)] 38 (0,0)):=by rw[zh_ _ _ _ _ _ (by omega)];exact zp_ _ _ _ _
  first|with_reducible refine ks [] (And.intro @zg_ @r7) ?_|refine kp (And.intro @zg_ @r7) ?_
  refine Ow.build (.agg (onC a).toArray) rfl (ahh_ a) ?_
  refine ko @zg_ ?_
  refine Ow.buildSlice (e:=70) (onC a).toArray rfl rfl (abi_ _) fun b9 hb9 hw9=> ?_
  refine Ow.permL (M:=X++ (Y++ [(b8, .cells (a8 a.id.l) 42 (0,0)),(b7, .cells #[vi ((a.k.val:Nat):Int),vs (tkT a.x)] 38 (0,0)),(b9, .cells (onC a).toArray 70 (0,0))])) (by classical exact List.perm_iff_count.2 fun a=>by simp only[List.count_append,List.count_cons,List.count_nil]<;>omega) ?_
  refine ko @zg_ ?_
  refine Ow.appendXG (e:=70) (k:=1) (new:=onC a) (X:=X) va rfl rfl rfl rfl Tryz.underlying68 Tryz.ag70 (by kernel_rfl) zrOn (by rw[ZC_,List.size_toArray,q3_]) Tryz.underlying68 (by intro k h;cases h) hGr (fun w' hw'=>AppX.one1 (hw'.has b9 (.cells (onC a).toArray 70 (0,0)) (by simp)) (q3_ _) (Kc_ _)) (by omega) (fun B3 v3 D3 hA3 hB3 hG3 hk13 hk23 hlk3=> ?_)
  have hN3:New w.heap.size D3:=New.of_le fun c hc=>by
   rcases hk23 c hc with h|h
   ·exact hNX.le c h
   ·omega
  refine ko @zg_ ?_
  first|with_reducible refine ks [] @zg_ ?_|refine kp @zg_ ?_
  refine Again.mk ⟨i+1,v3,D3,Y++ [(b8, .cells (a8 a.id.l) 42 (0,0)),(b7, .cells #[vi ((a.k.val:Nat):Int),vs (tkT a.x)] 38 (0,0)),(b9, .cells (onC a).toArray 70 (0,0))]⟩ (by show L.length - (i+1)<L.length - i;omega) ⟨hlt,hN3,hNY.app ⟨hw8,hw7,hw9,trivial⟩, ?_⟩ rfl rfl
  show Gr D3 70 34 v3 (i+1) ((L.take (i+1)).map onC).flatten
  rw[hts]
  simpa using hG3
 ·obtain rfl:i=L.length:=by omega
  have hd0:decide ((L.length:Int)< (L.length:Int))=false:=by simp
  rw[List.take_length] at hGr
  first|with_reducible refine ks [] (And.intro @zg_ @hd0) ?_|refine kp (And.intro @zg_ @hd0) ?_
  refine Ow.callC rfl rfl Tryz.call26 (fun w' hw'=>aep_ w') (fun B4 v4 D4 hA4 hB4 hN4 hS4=> ?_)
  obtain⟨c0,c1,rfl,hm0,hm1⟩:=hS4
  have hN4':=hN4.mono hB4
  have hcX: ∀c,c∈keys D4→c∉keys X:=fun c hc hx=>by
   have h1:=hN4.le c hc
   have h2:=ze_ hA4 (show c∈keys (X++Y) by rw[zd_];exact List.mem_append_left _ hx)
   omega
  have hk0:c0∈keys D4:=List.mem_map_of_mem (f:=Prod.fst) hm0
  have hk1:c1∈keys D4:=List.mem_map_of_mem (f:=Prod.fst) hm1
  refine ko @zg_ ?_
  refine Ow.callX (X:=X) (Y:=Y++D4) (List.append_assoc _ _ _) rfl rfl Tryz.call25 (fun w' hw' hX' hn'=>ajw_ va X L c0 c1 w' hGr hX' hn' (by omega) (hw'.has c0 _ (by simp[hm0])) (hw'.has c1 _ (by simp[hm1])) (hcX c0 hk0) (hcX c1 hk1)) (fun v5 D5 hC5 hS5=> ?_)
  obtain⟨rfl,Z,hZ,hG5⟩:=hS5
  have hN5:New w.heap.size D5:=((Ext.of_new hNX).came0 hC5).new0
  have hNY5:New w.heap.size (Y++D4):=hNY.app hN4'
  clear hC5 hcX hk0 hk1 hm0 hm1 hN4 hN4' hA4 hB4 hGr hNX hNY
  generalize Y++D4=Y5 at*
  have hZl:Z.length=L.length:=hZ.1.length_eq
  have hZn: (Z.map onO).Nodup:=((hZ.1.map onO).nodup_iff).2 hnd
  have hZd: ∀i,0<i→i<Z.length→onO (Z.getD i on0)≠onO (Z.getD (i - 1) on0):=fun i h0 hi he=>by
   rw[List.getD_eq_getElem?_getD,List.getD_eq_getElem?_getD,List.getElem?_eq_getElem hi,List.getElem?_eq_getElem (show i - 1<Z.length by omega)] at he
   have h1:=List.pairwise_iff_getElem.1 hZn (i - 1) i (by rw[List.length_map];omega) (by rw[List.length_map];exact hi) (by omega)
   rw[List.getElem_map,List.getElem_map] at h1
   exact h1 he.symm
  have lnZ: ∀x,v4_ (.sl x) va=some (vi L.length):=fun x=>hG5.len x
  refine ko @zg_ ?_
  first|with_reducible refine ks [] @zg_ ?_|refine kp @zg_ ?_
  refine Ow.callFV rfl Tryz.call29 (fun w' hw'=>VX_ va Z w' (hG5.slM (fun b o hm=>hw'.has b o (by simp[hm])) hZl rfl q3_) (by omega) hZd) ?_
  have d200:decide ((200:Int)< (L.length:Int))=false:=decide_eq_false (by omega)
  refine ko @zg_ ?_
  first|with_reducible refine ks [] (And.intro @zg_ (And.intro @lnZ (@d200))) ?_|refine kp (And.intro @zg_ (And.intro @lnZ (@d200))) ?_
  refine Cw.world fun wz hwz=> ?_
  obtain⟨bz,oz,az,Ez,fy,hrz,hlz⟩:=GrI.rowL (z:=on0) (hG5.i (D:=D5++Y5) (fun p hp=>by simp[hp])) hZl hwz q3_
  have hmz: (bz,Obj.cells az Ez fy)∈D5++Y5:=zF_ (hlz (by omega))
  clear hwz hlz
  have hNY6:New w.heap.size (D5++Y5):=hN5.app hNY5
  have hg5Y: ∀w',(∀p,p∈D5++Y5→w'.heap[p.1]? =some p.2)→SlV 34 onC on0 w' va Z:=fun w' hw'=>hG5.slM (fun b o hm=>hw' (b,o) (by simp[hm])) hZl rfl q3_
  clear hG5 hN5 hNY5
  generalize D5++Y5=Y6 at*
  generalize hNN:L.length=N at*
  have cellk: ∀m,m<N→ ∀q,zn_ (some (false,q)) (some (.cells az Ez fy)) (oz+m*34)=some (vi (((Z.getD m on0).k.val:Nat):Int)):=fun m hm q=>by
   have:=hrz.cell (j:=0) (n:=q) (show m<Z.length by omega) (by decide)
   rw[Nat.add_zero] at this
   exact this
  refine Cw.loopG (G:=OrH) [45,46,47,48,49,13,50,51,52,53,54,55,56,57,58,59,60,61,62,63,64,65,66,67,68,69,70,71,72,73,74,75,76,77,78,79,80,81,15,14,82,83,84,16,85,86,87,88,89,90,91,92,93,94,95,10,11,96,97,12] (fun g=> [(12,vi g.n),(10,g.vo),(11,g.vb)]) (fun g=>g.XO++ (g.XB++g.Y)) (fun g=>g.n≤N∧New w.heap.size g.XO∧New w.heap.size g.XB∧New w.heap.size g.Y∧Gr g.XO 38 2 g.vo g.n (((Z.take g.n).map onO).map qm_).flatten∧Gr g.XB 3 1 g.vb g.n ((basL Z g.n).map VW_).flatten∧(∀p,p∈Y6→p∈g.Y)∧(g.n=0∨g.n=N∨(Z.getD g.n on0).k≠ (Z.getD (g.n - 1) on0).k)) (fun g=>N - g.n) ⟨0, .slice none 0 0, .slice none 0 0,[],[],Y6⟩ rfl rfl ?_ ?_
  ·exact⟨Nat.zero_le _,trivial,trivial,hNY6,Gr.nl,Gr.nl,fun p hp=>hp, .inl rfl⟩
  intro g j hg
  refine kv ?_
  clear hNY6
  obtain⟨n,vo,vb,XO,XB,Y⟩:=g
  simp only at hg ⊢
  obtain⟨hn,hNO,hNB,hNY,hGO,hGB,hYs,hbd⟩:=hg
  have lnO:=fun x=>hGO.len x
  by_cases hltn:n<N
  ·have d1:decide ((n:Int)< (N:Int))=true:=decide_eq_true (by omega)
   first|with_reducible refine ks [] (And.intro @zg_ (And.intro @lnZ (@d1))) ?_|refine kp (And.intro @zg_ (And.intro @lnZ (@d1))) ?_
   refine Cw.loopG (G:=SkOG) [50,51,52,53,54,55,56,57,58,59,60,61,62,63,64,65,66,67,68,69,70,13] (fun g=> [(13,vi g.i)]) (fun g=>XO++ (XB++Y)) (fun g=>n≤g.i∧g.i≤N∧ ∀i,n≤i→i<g.i→(Z.getD i on0).k=(Z.getD n on0).k) (fun g=>N - g.i) ⟨n⟩ rfl rfl ?_ ?_
   ·exact⟨Nat.le_refl _,hn,fun i (h1:n≤i) (h2:i<n)=>absurd h2 (by omega)⟩
   intro g j hg
   refine kv ?_
   obtain⟨m⟩:=g
   simp only at hg ⊢
   obtain⟨hnm,hmN,hsame⟩:=hg
   refine Cw.world fun wz hwz=> ?_
   have hnd1:=hwz.nodup
   obtain⟨vt,hsl,-⟩:=SlV.mid (hg5Y wz (fun p hp=>hwz.has p.1 p.2 (by simp[hYs _ hp]))) (k:=n) (q:=m) hnm (by omega) true
   clear hwz wz
   have rdz:zk_ w (XO++ (XB++Y)) bz=some (.cells az Ez fy):=zo_ (qC_ hnd1 (by simp[hYs _ hmz]))
   have ixn:=hrz.idx true n (show n<Z.length by omega)
   have ckn:=cellk n hltn
   by_cases hmlt:m<N
   ·have d2:decide ((m:Int)< (N:Int))=true:=decide_eq_true (by omega)
    have ixm:=hrz.idx true m (show m<Z.length by omega)
    have ckm:=cellk m hmlt
    by_cases hk: (Z.getD m on0).k=(Z.getD n on0).k
    ·have e1: ((((Z.getD m on0).k.val:Nat):Int)==(((Z.getD n on0).k.val:Nat):Int))=true:=by rw[hk];simp
     first|with_reducible refine ks [] (And.intro @zg_ (And.intro @lnZ (@d2))) ?_|refine kp (And.intro @zg_ (And.intro @lnZ (@d2))) ?_
     refine Cw.regionS [bz] [0,1,2,3,4,5,6,7,8,9,11,12,13,14,15,10,16,17,18] [] (by kernel_rfl) (by kernel_rfl) (by kernel_rfl) ?_
     refine kya ?_
     refine kq (And.intro @zg_ (And.intro @lnZ (And.intro @d2 (And.intro @ixm (And.intro @ixn (And.intro @ckm (And.intro @ckn (And.intro @rdz (@e1))))))))) ?_
     try with_reducible refine Ow.nil ?_
     first|with_reducible refine ks [] @zg_ ?_|refine kp @zg_ ?_
     exact Again.mk ⟨m+1⟩ (by show N - (m+1)<N - m;omega) ⟨by show n≤m+1;omega,hmlt,fun i h1 (h2:i<m+1)=>by
      by_cases him:i=m
      ·rw[him];exact hk
      ·exact hsame i h1 (by omega)⟩ rfl rfl
    ·have e1: ((((Z.getD m on0).k.val:Nat):Int)==(((Z.getD n on0).k.val:Nat):Int))=false:=by
      rw[beq_eq_false_iff_ne]
      intro h
      exact hk (Fin.ext (by omega))
     have hnm1:n<m:=by
      rcases Nat.lt_or_ge n m with h|h
      ·exact h
      ·exact absurd (by rw[show m=n by omega]) hk
     have hend:m=N∨(Z.getD m on0).k≠ (Z.getD n on0).k:= .inr hk
     first|with_reducible refine ks [] (And.intro @zg_ (And.intro @lnZ (@d2))) ?_|refine kp (And.intro @zg_ (And.intro @lnZ (@d2))) ?_
     refine Cw.regionS [bz] [0,1,2,3,4,5,6,7,8,9,11,12,13,14,15,10,16,17,18] [] (by kernel_rfl) (by kernel_rfl) (by kernel_rfl) ?_
     refine kya ?_
     refine kq (And.intro @zg_ (And.intro @lnZ (And.intro @d2 (And.intro @ixm (And.intro @ixn (And.intro @ckm (And.intro @ckn (And.intro @rdz (@e1))))))))) ?_
     try with_reducible refine Ow.nil ?_
     have hgp:m - n≤2:=by
      rcases Nat.lt_or_ge (n+2) m with h|h
      ·exact absurd (hsame (n+2) (by omega) h).symm (hg3 Z hZ n (by omega))
      ·omega
     have hgl: ((Z.drop n).take (m - n)).length=m - n:=by rw[List.length_take,List.length_drop];omega
     first|with_reducible refine ks [] (And.intro @zg_ @hsl) ?_|refine kp (And.intro @zg_ @hsl) ?_
     refine Ow.callC rfl rfl Tryz.call31 (fun w' hw'=>Va_ vt ((Z.drop n).take (m - n)) w' (by obtain⟨v2,h1,h2⟩:=SlV.mid (hg5Y w' (fun p hp=>hw'.has p.1 p.2 (by simp[hYs _ hp]))) hnm (by omega) true;rw[hsl] at h1;cases h1;exact h2) (by omega) (by omega)) (fun B6 v6 D6 hA6 hB6 hN6 hS6=> ?_)
     rw[hgl] at hS6
     have hN6':=hN6.mono hB6
     have ln6:=w4_ hS6
     refine Ow.permL (M:=XO++ (XB++ (Y++D6))) (by classical exact List.perm_iff_count.2 fun a=>by simp only[List.count_append,List.count_cons,List.count_nil]<;>omega) ?_
     refine ko (And.intro @zg_ @ln6) ?_
     first|with_reducible refine ks [] (And.intro @zg_ @ln6) ?_|refine kp (And.intro @zg_ @ln6) ?_
     refine Cw.loopG (G:=OrH) [78,79,80,81,15,14,82,83,84,16,85,86,87,88,89,90,91,92,93,94,95,10,11,96,77] (fun g=> [(77,vi g.n),(10,g.vo),(11,g.vb)]) (fun g=>g.XO++ (g.XB++g.Y)) (fun g=>g.n≤m - n∧New w.heap.size g.XO∧New w.heap.size g.XB∧New w.heap.size g.Y∧Gr g.XO 38 2 g.vo (n+g.n) (((Z.take (n+g.n)).map onO).map qm_).flatten∧Gr g.XB 3 1 g.vb (n+g.n) ((basL Z (n+g.n)).map VW_).flatten∧(∀p,p∈Y6→p∈g.Y)∧(∀p,p∈D6→p∈g.Y)) (fun g=>m - n - g.n) ⟨0,vo,vb,XO,XB,Y++D6⟩ rfl rfl ?_ ?_
     ·exact⟨Nat.zero_le _,hNO,hNB,hNY.app hN6',hGO,hGB,fun p hp=>List.mem_append_left _ (hYs p hp),fun p hp=>List.mem_append_right _ hp⟩
     intro g j hg
     refine kv ?_
     clear hNO hNB hNY hGO hGB hYs lnO hN6' hN6 hA6 hB6 hnd1 rdz
     obtain⟨i,vo,vb,XO,XB,Y⟩:=g
     simp only at hg ⊢
     obtain⟨hi,hNO,hNB,hNY,hGO,hGB,hYs,hYd⟩:=hg
     have lnO:=fun x=>hGO.len x
     by_cases hli:i<m - n
     ·refine Cw.world fun wz hwz=> ?_
      obtain⟨bg,og,ag,Eg,fg,hrg,hlg⟩:=GrI.rowL (z:=on0) (l:=(Z.drop n).take (m - n)) (hS6.mono (D':=XO++ (XB++Y)) (fun p hp=>by simp[hYd _ hp])) hgl hwz q3_
      have rdg:zk_ w (XO++ (XB++Y)) bg=some (.cells ag Eg fg):=zo_ (hlg (by omega))
      clear hwz hlg
      have d3:decide ((i:Int)< ((m - n:Nat):Int))=true:=decide_eq_true (by omega)
      have ixg:=hrg.idx true i (by omega)
      have ldg:=JV_ hrg (show i<_ by omega)
      have hga: ((Z.drop n).take (m - n)).getD i on0=Z.getD (n+i) on0:=by
       rw[List.getD_eq_getElem?_getD,List.getElem?_take_of_lt hli,List.getElem?_drop,←List.getD_eq_getElem?_getD]
      rw[hga] at ldg
      have hts:Z.take (n+ (i+1))=Z.take (n+i)++ [Z.getD (n+i) on0]:=by
       rw[←Nat.add_assoc];exact StP.take_snoc (z:=on0) (by omega)
      have htb:basL Z (n+ (i+1))=basL Z (n+i)++ [K9_ Z (n+i)]:=by
       unfold basL;rw[←Nat.add_assoc,List.range_succ,List.map_append];rfl
      have hbk:K9_ Z (n+i)=if i=0 then -1 else((n+i:Nat):Int) - 1:=by
       unfold K9_
       by_cases h0:i=0
       ·subst h0
        rw[if_pos rfl,if_pos ?_]
        rcases hbd with h|h|h
        ·exact .inl (by omega)
        ·omega
        ·exact .inr h
       ·rw[if_neg h0,if_neg ?_]
        rintro(h|h)
        ·omega
        ·exact h (by rw[hsame (n+i) (by omega) (by omega),hsame (n+i - 1) (by omega) (by omega)])
      generalize Z.getD (n+i) on0=a at*
      generalize K9_ Z (n+i)=bk at*
      first|with_reducible refine ks [] (And.intro @zg_ (And.intro @d3 (And.intro @ixg (And.intro @ldg (@rdg))))) ?_|refine kp (And.intro @zg_ (And.intro @d3 (And.intro @ixg (And.intro @ldg (@rdg))))) ?_
      refine Ow.alloc rfl rfl zrOn fun b5 hb5 hw5=> ?_
      simp only[za_,List.nil_append,List.cons_append]
      refine Ow.permL (M:=(b5, .cells (onC on0).toArray 70 (0,0)):: (XO++ (XB++Y))) (by classical exact List.perm_iff_count.2 fun a=>by simp only[List.count_append,List.count_cons,List.count_nil]<;>omega) ?_
      refine ko @zg_ ?_
      by_cases h0:i=0
      ·rw[if_pos h0] at hbk
       have e3: ((i:Int)==0)=true:=by rw[h0];rfl
       first|with_reducible refine ks [] (And.intro @zg_ (And.intro @lnO (@e3))) ?_|refine kp (And.intro @zg_ (And.intro @lnO (@e3))) ?_
       refine Ow.buildSlice (e:=38) (qm_ (onO a)).toArray rfl rfl (j6_ (onO a)) fun b9 hb9 hw9=> ?_
       refine Ow.permL (M:=XO++ (XB++ (Y++ [(b5, .cells (onC a).toArray 70 (0,0)),(b9, .cells (qm_ (onO a)).toArray 38 (0,0))]))) (by classical exact List.perm_iff_count.2 fun a=>by simp only[List.count_append,List.count_cons,List.count_nil]<;>omega) ?_
       refine ko @zg_ ?_
       refine Ow.appendXG (e:=38) (k:=1) (new:=qm_ (onO a)) (X:=XO) vo rfl rfl rfl rfl Tryz.underlying22 Tryz.ag38 (by kernel_rfl) wb_ (by simp[za_]) Tryz.underlying22 (by intro k h;cases h) hGO (fun w' hw'=>AppX.one1 (hw'.has b9 (.cells (qm_ (onO a)).toArray 38 (0,0)) (by simp)) (z8_ _) (xJ_ _)) (by omega) (fun B7 v7 D7 hA7 hB7 hG7 hk17 hk27 hlk7=> ?_)
       have hN7:New w.heap.size D7:=New.of_le fun c hc=>by
        rcases hk27 c hc with h|h
        ·exact hNO.le c h
        ·omega
       refine ko @zg_ ?_
       refine Ow.buildSlice (e:=3) #[vi ((-1))] rfl rfl (by kernel_rfl) fun b8 hb8 hw8=> ?_
       refine Ow.permL (M:=XB++ (D7++ (Y++ [(b5, .cells (onC a).toArray 70 (0,0)),(b9, .cells (qm_ (onO a)).toArray 38 (0,0)),(b8, .cells #[vi ((-1))] 3 (0,0))]))) (by classical exact List.perm_iff_count.2 fun a=>by simp only[List.count_append,List.count_cons,List.count_nil]<;>omega) ?_
       refine ko @zg_ ?_
       refine Ow.appendXG (e:=3) (k:=1) (new:=VW_ ((-1))) (X:=XB) vb rfl rfl rfl rfl Tryz.underlying47 Tryz.ag3 (by kernel_rfl) wg_ rfl Tryz.underlying47 (by intro k h;cases h) hGB (fun w' hw'=>AppX.one1 (hw'.has b8 (.cells #[vi ((-1))] 3 (0,0)) (by simp)) rfl rfl) (by omega) (fun B8 v8 D8 hA8 hB8 hG8 hk18 hk28 hlk8=> ?_)
       have hN8:New w.heap.size D8:=New.of_le fun c hc=>by
        rcases hk28 c hc with h|h
        ·exact hNB.le c h
        ·omega
       refine Ow.permL (M:=D7++ (D8++ (Y++ [(b5, .cells (onC a).toArray 70 (0,0)),(b9, .cells (qm_ (onO a)).toArray 38 (0,0)),(b8, .cells #[vi ((-1))] 3 (0,0))]))) (by classical exact List.perm_iff_count.2 fun a=>by simp only[List.count_append,List.count_cons,List.count_nil]<;>omega) ?_
       refine ko @zg_ ?_
       first|with_reducible refine ks [] @zg_ ?_|refine kp @zg_ ?_
       refine Again.mk ⟨i+1,v7,v8,D7,D8,Y++ [(b5, .cells (onC a).toArray 70 (0,0)),(b9, .cells (qm_ (onO a)).toArray 38 (0,0)),(b8, .cells #[vi ((-1))] 3 (0,0))]⟩ (by show m - n - (i+1)<m - n - i;omega) ⟨hli,hN7,hN8,hNY.app ⟨hw5,hw9,hw8,trivial⟩, ?_, ?_,fun p hp=>List.mem_append_left _ (hYs p hp),fun p hp=>List.mem_append_left _ (hYd p hp)⟩ rfl rfl
       ·show Gr D7 38 2 v7 (n+ (i+1)) (((Z.take (n+ (i+1))).map onO).map qm_).flatten
        rw[hts]
        simpa [Nat.add_assoc] using hG7
       ·show Gr D8 3 1 v8 (n+ (i+1)) ((basL Z (n+ (i+1))).map VW_).flatten
        rw[htb,hbk]
        simpa [Nat.add_assoc] using hG8
      ·rw[if_neg h0] at hbk
       have e3: ((i:Int)==0)=false:=by rw[beq_eq_false_iff_ne];omega
       first|with_reducible refine ks [] (And.intro @zg_ (And.intro @lnO (@e3))) ?_|refine kp (And.intro @zg_ (And.intro @lnO (@e3))) ?_
       refine Ow.buildSlice (e:=38) (qm_ (onO a)).toArray rfl rfl (j6_ (onO a)) fun b9 hb9 hw9=> ?_
       refine Ow.permL (M:=XO++ (XB++ (Y++ [(b5, .cells (onC a).toArray 70 (0,0)),(b9, .cells (qm_ (onO a)).toArray 38 (0,0))]))) (by classical exact List.perm_iff_count.2 fun a=>by simp only[List.count_append,List.count_cons,List.count_nil]<;>omega) ?_
       refine ko @zg_ ?_
       refine Ow.appendXG (e:=38) (k:=1) (new:=qm_ (onO a)) (X:=XO) vo rfl rfl rfl rfl Tryz.underlying22 Tryz.ag38 (by kernel_rfl) wb_ (by simp[za_]) Tryz.underlying22 (by intro k h;cases h) hGO (fun w' hw'=>AppX.one1 (hw'.has b9 (.cells (qm_ (onO a)).toArray 38 (0,0)) (by simp)) (z8_ _) (xJ_ _)) (by omega) (fun B7 v7 D7 hA7 hB7 hG7 hk17 hk27 hlk7=> ?_)
       have hN7:New w.heap.size D7:=New.of_le fun c hc=>by
        rcases hk27 c hc with h|h
        ·exact hNO.le c h
        ·omega
       refine ko @zg_ ?_
       refine Ow.buildSlice (e:=3) #[vi ((((n+i:Nat):Int) - 1))] rfl rfl (by kernel_rfl) fun b8 hb8 hw8=> ?_
       refine Ow.permL (M:=XB++ (D7++ (Y++ [(b5, .cells (onC a).toArray 70 (0,0)),(b9, .cells (qm_ (onO a)).toArray 38 (0,0)),(b8, .cells #[vi ((((n+i:Nat):Int) - 1))] 3 (0,0))]))) (by classical exact List.perm_iff_count.2 fun a=>by simp only[List.count_append,List.count_cons,List.count_nil]<;>omega) ?_
       refine ko @zg_ ?_
       refine Ow.appendXG (e:=3) (k:=1) (new:=VW_ ((((n+i:Nat):Int) - 1))) (X:=XB) vb rfl rfl rfl rfl Tryz.underlying47 Tryz.ag3 (by kernel_rfl) wg_ rfl Tryz.underlying47 (by intro k h;cases h) hGB (fun w' hw'=>AppX.one1 (hw'.has b8 (.cells #[vi ((((n+i:Nat):Int) - 1))] 3 (0,0)) (by simp)) rfl rfl) (by omega) (fun B8 v8 D8 hA8 hB8 hG8 hk18 hk28 hlk8=> ?_)
       have hN8:New w.heap.size D8:=New.of_le fun c hc=>by
        rcases hk28 c hc with h|h
        ·exact hNB.le c h
        ·omega
       refine Ow.permL (M:=D7++ (D8++ (Y++ [(b5, .cells (onC a).toArray 70 (0,0)),(b9, .cells (qm_ (onO a)).toArray 38 (0,0)),(b8, .cells #[vi ((((n+i:Nat):Int) - 1))] 3 (0,0))]))) (by classical exact List.perm_iff_count.2 fun a=>by simp only[List.count_append,List.count_cons,List.count_nil]<;>omega) ?_
       refine ko @zg_ ?_
       first|with_reducible refine ks [] @zg_ ?_|refine kp @zg_ ?_
       refine Again.mk ⟨i+1,v7,v8,D7,D8,Y++ [(b5, .cells (onC a).toArray 70 (0,0)),(b9, .cells (qm_ (onO a)).toArray 38 (0,0)),(b8, .cells #[vi ((((n+i:Nat):Int) - 1))] 3 (0,0))]⟩ (by show m - n - (i+1)<m - n - i;omega) ⟨hli,hN7,hN8,hNY.app ⟨hw5,hw9,hw8,trivial⟩, ?_, ?_,fun p hp=>List.mem_append_left _ (hYs p hp),fun p hp=>List.mem_append_left _ (hYd p hp)⟩ rfl rfl
       ·show Gr D7 38 2 v7 (n+ (i+1)) (((Z.take (n+ (i+1))).map onO).map qm_).flatten
        rw[hts]
        simpa [Nat.add_assoc] using hG7
       ·show Gr D8 3 1 v8 (n+ (i+1)) ((basL Z (n+ (i+1))).map VW_).flatten
        rw[htb,hbk]
        simpa [Nat.add_assoc] using hG8
     ·obtain rfl:i=m - n:=by omega
      have d3:decide (((m - n:Nat):Int)< ((m - n:Nat):Int))=false:=by simp
      have enm:n+ (m - n)=m:=by omega
      rw[enm] at hGO hGB
      first|with_reducible refine ks [] (And.intro @zg_ @d3) ?_|refine kp (And.intro @zg_ @d3) ?_
      refine Again.mk ⟨m,vo,vb,XO,XB,Y⟩ (by show N - m<N - n;omega) ⟨hmN,hNO,hNB,hNY,hGO,hGB,hYs, .inr (hend.imp id fun h e=>h (by rw[e];exact hsame (m - 1) (by omega) (by omega)))⟩ rfl rfl
   ·have d2:decide ((m:Int)< (N:Int))=false:=decide_eq_false (by omega)
    have hnm1:n<m:=by omega
    have hend:m=N∨(Z.getD m on0).k≠ (Z.getD n on0).k:= .inl (by omega)
    first|with_reducible refine ks [] (And.intro @zg_ (And.intro @lnZ (@d2))) ?_|refine kp (And.intro @zg_ (And.intro @lnZ (@d2))) ?_
    refine Cw.regionS [bz] [0,1,2,3,4,5,6,7,8,9,11,12,13,14,15,10,16,17,18] [] (by kernel_rfl) (by kernel_rfl) (by kernel_rfl) ?_
    refine kya ?_
    refine kq (And.intro @zg_ (And.intro @lnZ (@d2))) ?_
    try with_reducible refine Ow.nil ?_
    have hgp:m - n≤2:=by
     rcases Nat.lt_or_ge (n+2) m with h|h
     ·exact absurd (hsame (n+2) (by omega) h).symm (hg3 Z hZ n (by omega))
     ·omega
    have hgl: ((Z.drop n).take (m - n)).length=m - n:=by rw[List.length_take,List.length_drop];omega
    first|with_reducible refine ks [] (And.intro @zg_ @hsl) ?_|refine kp (And.intro @zg_ @hsl) ?_
    refine Ow.callC rfl rfl Tryz.call31 (fun w' hw'=>Va_ vt ((Z.drop n).take (m - n)) w' (by obtain⟨v2,h1,h2⟩:=SlV.mid (hg5Y w' (fun p hp=>hw'.has p.1 p.2 (by simp[hYs _ hp]))) hnm (by omega) true;rw[hsl] at h1;cases h1;exact h2) (by omega) (by omega)) (fun B6 v6 D6 hA6 hB6 hN6 hS6=> ?_)
    rw[hgl] at hS6
    have hN6':=hN6.mono hB6
    have ln6:=w4_ hS6
    refine Ow.permL (M:=XO++ (XB++ (Y++D6))) (by classical exact List.perm_iff_count.2 fun a=>by simp only[List.count_append,List.count_cons,List.count_nil]<;>omega) ?_
    refine ko (And.intro @zg_ @ln6) ?_
    first|with_reducible refine ks [] (And.intro @zg_ @ln6) ?_|refine kp (And.intro @zg_ @ln6) ?_
    refine Cw.loopG (G:=OrH) [78,79,80,81,15,14,82,83,84,16,85,86,87,88,89,90,91,92,93,94,95,10,11,96,77] (fun g=> [(77,vi g.n),(10,g.vo),(11,g.vb)]) (fun g=>g.XO++ (g.XB++g.Y)) (fun g=>g.n≤m - n∧New w.heap.size g.XO∧New w.heap.size g.XB∧New w.heap.size g.Y∧Gr g.XO 38 2 g.vo (n+g.n) (((Z.take (n+g.n)).map onO).map qm_).flatten∧Gr g.XB 3 1 g.vb (n+g.n) ((basL Z (n+g.n)).map VW_).flatten∧(∀p,p∈Y6→p∈g.Y)∧(∀p,p∈D6→p∈g.Y)) (fun g=>m - n - g.n) ⟨0,vo,vb,XO,XB,Y++D6⟩ rfl rfl ?_ ?_
    ·exact⟨Nat.zero_le _,hNO,hNB,hNY.app hN6',hGO,hGB,fun p hp=>List.mem_append_left _ (hYs p hp),fun p hp=>List.mem_append_right _ hp⟩
    intro g j hg
    refine kv ?_
    clear hNO hNB hNY hGO hGB hYs lnO hN6' hN6 hA6 hB6 hnd1 rdz
    obtain⟨i,vo,vb,XO,XB,Y⟩:=g
    simp only at hg ⊢
    obtain⟨hi,hNO,hNB,hNY,hGO,hGB,hYs,hYd⟩:=hg
    have lnO:=fun x=>hGO.len x
    by_cases hli:i<m - n
    ·refine Cw.world fun wz hwz=> ?_
     obtain⟨bg,og,ag,Eg,fg,hrg,hlg⟩:=GrI.rowL (z:=on0) (l:=(Z.drop n).take (m - n)) (hS6.mono (D':=XO++ (XB++Y)) (fun p hp=>by simp[hYd _ hp])) hgl hwz q3_
     have rdg:zk_ w (XO++ (XB++Y)) bg=some (.cells ag Eg fg):=zo_ (hlg (by omega))
     clear hwz hlg
     have d3:decide ((i:Int)< ((m - n:Nat):Int))=true:=decide_eq_true (by omega)
     have ixg:=hrg.idx true i (by omega)
     have ldg:=JV_ hrg (show i<_ by omega)
     have hga: ((Z.drop n).take (m - n)).getD i on0=Z.getD (n+i) on0:=by
      rw[List.getD_eq_getElem?_getD,List.getElem?_take_of_lt hli,List.getElem?_drop,←List.getD_eq_getElem?_getD]
     rw[hga] at ldg
     have hts:Z.take (n+ (i+1))=Z.take (n+i)++ [Z.getD (n+i) on0]:=by
      rw[←Nat.add_assoc];exact StP.take_snoc (z:=on0) (by omega)
     have htb:basL Z (n+ (i+1))=basL Z (n+i)++ [K9_ Z (n+i)]:=by
      unfold basL;rw[←Nat.add_assoc,List.range_succ,List.map_append];rfl
     have hbk:K9_ Z (n+i)=if i=0 then -1 else((n+i:Nat):Int) - 1:=by
      unfold K9_
      by_cases h0:i=0
      ·subst h0
       rw[if_pos rfl,if_pos ?_]
       rcases hbd with h|h|h
       ·exact .inl (by omega)
       ·omega
       ·exact .inr h
      ·rw[if_neg h0,if_neg ?_]
       rintro(h|h)
       ·omega
       ·exact h (by rw[hsame (n+i) (by omega) (by omega),hsame (n+i - 1) (by omega) (by omega)])
     generalize Z.getD (n+i) on0=a at*
     generalize K9_ Z (n+i)=bk at*
     first|with_reducible refine ks [] (And.intro @zg_ (And.intro @d3 (And.intro @ixg (And.intro @ldg (@rdg))))) ?_|refine kp (And.intro @zg_ (And.intro @d3 (And.intro @ixg (And.intro @ldg (@rdg))))) ?_
     refine Ow.alloc rfl rfl zrOn fun b5 hb5 hw5=> ?_
     simp only[za_,List.nil_append,List.cons_append]
     refine Ow.permL (M:=(b5, .cells (onC on0).toArray 70 (0,0)):: (XO++ (XB++Y))) (by classical exact List.perm_iff_count.2 fun a=>by simp only[List.count_append,List.count_cons,List.count_nil]<;>omega) ?_
     refine ko @zg_ ?_
     by_cases h0:i=0
     ·rw[if_pos h0] at hbk
      have e3: ((i:Int)==0)=true:=by rw[h0];rfl
      first|with_reducible refine ks [] (And.intro @zg_ (And.intro @lnO (@e3))) ?_|refine kp (And.intro @zg_ (And.intro @lnO (@e3))) ?_
      refine Ow.buildSlice (e:=38) (qm_ (onO a)).toArray rfl rfl (j6_ (onO a)) fun b9 hb9 hw9=> ?_
      refine Ow.permL (M:=XO++ (XB++ (Y++ [(b5, .cells (onC a).toArray 70 (0,0)),(b9, .cells (qm_ (onO a)).toArray 38 (0,0))]))) (by classical exact List.perm_iff_count.2 fun a=>by simp only[List.count_append,List.count_cons,List.count_nil]<;>omega) ?_
      refine ko @zg_ ?_
      refine Ow.appendXG (e:=38) (k:=1) (new:=qm_ (onO a)) (X:=XO) vo rfl rfl rfl rfl Tryz.underlying22 Tryz.ag38 (by kernel_rfl) wb_ (by simp[za_]) Tryz.underlying22 (by intro k h;cases h) hGO (fun w' hw'=>AppX.one1 (hw'.has b9 (.cells (qm_ (onO a)).toArray 38 (0,0)) (by simp)) (z8_ _) (xJ_ _)) (by omega) (fun B7 v7 D7 hA7 hB7 hG7 hk17 hk27 hlk7=> ?_)
      have hN7:New w.heap.size D7:=New.of_le fun c hc=>by
       rcases hk27 c hc with h|h
       ·exact hNO.le c h
       ·omega
      refine ko @zg_ ?_
      refine Ow.buildSlice (e:=3) #[vi ((-1))] rfl rfl (by kernel_rfl) fun b8 hb8 hw8=> ?_
      refine Ow.permL (M:=XB++ (D7++ (Y++ [(b5, .cells (onC a).toArray 70 (0,0)),(b9, .cells (qm_ (onO a)).toArray 38 (0,0)),(b8, .cells #[vi ((-1))] 3 (0,0))]))) (by classical exact List.perm_iff_count.2 fun a=>by simp only[List.count_append,List.count_cons,List.count_nil]<;>omega) ?_
      refine ko @zg_ ?_
      refine Ow.appendXG (e:=3) (k:=1) (new:=VW_ ((-1))) (X:=XB) vb rfl rfl rfl rfl Tryz.underlying47 Tryz.ag3 (by kernel_rfl) wg_ rfl Tryz.underlying47 (by intro k h;cases h) hGB (fun w' hw'=>AppX.one1 (hw'.has b8 (.cells #[vi ((-1))] 3 (0,0)) (by simp)) rfl rfl) (by omega) (fun B8 v8 D8 hA8 hB8 hG8 hk18 hk28 hlk8=> ?_)
      have hN8:New w.heap.size D8:=New.of_le fun c hc=>by
       rcases hk28 c hc with h|h
       ·exact hNB.le c h
       ·omega
      refine Ow.permL (M:=D7++ (D8++ (Y++ [(b5, .cells (onC a).toArray 70 (0,0)),(b9, .cells (qm_ (onO a)).toArray 38 (0,0)),(b8, .cells #[vi ((-1))] 3 (0,0))]))) (by classical exact List.perm_iff_count.2 fun a=>by simp only[List.count_append,List.count_cons,List.count_nil]<;>omega) ?_
      refine ko @zg_ ?_
      first|with_reducible refine ks [] @zg_ ?_|refine kp @zg_ ?_
      refine Again.mk ⟨i+1,v7,v8,D7,D8,Y++ [(b5, .cells (onC a).toArray 70 (0,0)),(b9, .cells (qm_ (onO a)).toArray 38 (0,0)),(b8, .cells #[vi ((-1))] 3 (0,0))]⟩ (by show m - n - (i+1)<m - n - i;omega) ⟨hli,hN7,hN8,hNY.app ⟨hw5,hw9,hw8,trivial⟩, ?_, ?_,fun p hp=>List.mem_append_left _ (hYs p hp),fun p hp=>List.mem_append_left _ (hYd p hp)⟩ rfl rfl
      ·show Gr D7 38 2 v7 (n+ (i+1)) (((Z.take (n+ (i+1))).map onO).map qm_).flatten
       rw[hts]
       simpa [Nat.add_assoc] using hG7
      ·show Gr D8 3 1 v8 (n+ (i+1)) ((basL Z (n+ (i+1))).map VW_).flatten
       rw[htb,hbk]
       simpa [Nat.add_assoc] using hG8
     ·rw[if_neg h0] at hbk
      have e3: ((i:Int)==0)=false:=by rw[beq_eq_false_iff_ne];omega
      first|with_reducible refine ks [] (And.intro @zg_ (And.intro @lnO (@e3))) ?_|refine kp (And.intro @zg_ (And.intro @lnO (@e3))) ?_
      refine Ow.buildSlice (e:=38) (qm_ (onO a)).toArray rfl rfl (j6_ (onO a)) fun b9 hb9 hw9=> ?_
      refine Ow.permL (M:=XO++ (XB++ (Y++ [(b5, .cells (onC a).toArray 70 (0,0)),(b9, .cells (qm_ (onO a)).toArray 38 (0,0))]))) (by classical exact List.perm_iff_count.2 fun a=>by simp only[List.count_append,List.count_cons,List.count_nil]<;>omega) ?_
      refine ko @zg_ ?_
      refine Ow.appendXG (e:=38) (k:=1) (new:=qm_ (onO a)) (X:=XO) vo rfl rfl rfl rfl Tryz.underlying22 Tryz.ag38 (by kernel_rfl) wb_ (by simp[za_]) Tryz.underlying22 (by intro k h;cases h) hGO (fun w' hw'=>AppX.one1 (hw'.has b9 (.cells (qm_ (onO a)).toArray 38 (0,0)) (by simp)) (z8_ _) (xJ_ _)) (by omega) (fun B7 v7 D7 hA7 hB7 hG7 hk17 hk27 hlk7=> ?_)
      have hN7:New w.heap.size D7:=New.of_le fun c hc=>by
       rcases hk27 c hc with h|h
       ·exact hNO.le c h
       ·omega
      refine ko @zg_ ?_
      refine Ow.buildSlice (e:=3) #[vi ((((n+i:Nat):Int) - 1))] rfl rfl (by kernel_rfl) fun b8 hb8 hw8=> ?_
      refine Ow.permL (M:=XB++ (D7++ (Y++ [(b5, .cells (onC a).toArray 70 (0,0)),(b9, .cells (qm_ (onO a)).toArray 38 (0,0)),(b8, .cells #[vi ((((n+i:Nat):Int) - 1))] 3 (0,0))]))) (by classical exact List.perm_iff_count.2 fun a=>by simp only[List.count_append,List.count_cons,List.count_nil]<;>omega) ?_
      refine ko @zg_ ?_
      refine Ow.appendXG (e:=3) (k:=1) (new:=VW_ ((((n+i:Nat):Int) - 1))) (X:=XB) vb rfl rfl rfl rfl Tryz.underlying47 Tryz.ag3 (by kernel_rfl) wg_ rfl Tryz.underlying47 (by intro k h;cases h) hGB (fun w' hw'=>AppX.one1 (hw'.has b8 (.cells #[vi ((((n+i:Nat):Int) - 1))] 3 (0,0)) (by simp)) rfl rfl) (by omega) (fun B8 v8 D8 hA8 hB8 hG8 hk18 hk28 hlk8=> ?_)
      have hN8:New w.heap.size D8:=New.of_le fun c hc=>by
       rcases hk28 c hc with h|h
       ·exact hNB.le c h
       ·omega
      refine Ow.permL (M:=D7++ (D8++ (Y++ [(b5, .cells (onC a).toArray 70 (0,0)),(b9, .cells (qm_ (onO a)).toArray 38 (0,0)),(b8, .cells #[vi ((((n+i:Nat):Int) - 1))] 3 (0,0))]))) (by classical exact List.perm_iff_count.2 fun a=>by simp only[List.count_append,List.count_cons,List.count_nil]<;>omega) ?_
      refine ko @zg_ ?_
      first|with_reducible refine ks [] @zg_ ?_|refine kp @zg_ ?_
      refine Again.mk ⟨i+1,v7,v8,D7,D8,Y++ [(b5, .cells (onC a).toArray 70 (0,0)),(b9, .cells (qm_ (onO a)).toArray 38 (0,0)),(b8, .cells #[vi ((((n+i:Nat):Int) - 1))] 3 (0,0))]⟩ (by show m - n - (i+1)<m - n - i;omega) ⟨hli,hN7,hN8,hNY.app ⟨hw5,hw9,hw8,trivial⟩, ?_, ?_,fun p hp=>List.mem_append_left _ (hYs p hp),fun p hp=>List.mem_append_left _ (hYd p hp)⟩ rfl rfl
      ·show Gr D7 38 2 v7 (n+ (i+1)) (((Z.take (n+ (i+1))).map onO).map qm_).flatten
       rw[hts]
       simpa [Nat.add_assoc] using hG7
      ·show Gr D8 3 1 v8 (n+ (i+1)) ((basL Z (n+ (i+1))).map VW_).flatten
       rw[htb,hbk]
       simpa [Nat.add_assoc] using hG8
    ·obtain rfl:i=m - n:=by omega
     have d3:decide (((m - n:Nat):Int)< ((m - n:Nat):Int))=false:=by simp
     have enm:n+ (m - n)=m:=by omega
     rw[enm] at hGO hGB
     first|with_reducible refine ks [] (And.intro @zg_ @d3) ?_|refine kp (And.intro @zg_ @d3) ?_
     refine Again.mk ⟨m,vo,vb,XO,XB,Y⟩ (by show N - m<N - n;omega) ⟨hmN,hNO,hNB,hNY,hGO,hGB,hYs, .inr (hend.imp id fun h e=>h (by rw[e];exact hsame (m - 1) (by omega) (by omega)))⟩ rfl rfl
  ·obtain rfl:n=N:=by omega
   have d1:decide ((n:Int)< (n:Int))=false:=by simp
   first|with_reducible refine ks [] (And.intro @zg_ (And.intro @lnZ (@d1))) ?_|refine kp (And.intro @zg_ (And.intro @lnZ (@d1))) ?_
   refine⟨_,(ke @zg_), ?_⟩
   refine⟨Ext.of_new (hNO.app (hNB.app hNY)),Z,vo,vb,hZ,rfl, ?_,hGB.i fun p hp=>by simp[hp]⟩
   rw[List.take_of_length_le (by omega)] at hGO
   exact hGO.i fun p hp=>by simp[hp]
end Go.Proofs
end
section
open Go Go.Proofs Go.Sx Go.StP Go.Flo Go.Shelf Go.Sort
namespace Go.Proofs
set_option maxRecDepth 10000
set_option maxHeartbeats 1000000
set_option linter.unusedSimpArgs false
theorem ai5_ {w:World} {v:Value} {l:List (List UInt8)} {b off:Nat} {arr:Array Value} {E:TypeId} {fz:Nat×Nat} (h:RowS 1 Kq_ [] w v l b off arr E fz) {k:Nat} (hk:k<l.length) (n:Nat):
  zn_ (some (false,n)) (some (.cells arr E fz)) (off+k)=some (vs (l.getD k [])):=by
 have:=agA_ h hk n
 rwa [Nat.mul_one] at this
theorem adv_ (p:PartL) (E:TypeId):zn_ (some (true,3)) (some (.cells (zs_ p).toArray E (0,0))) 0=some (.agg (zs_ p).toArray):=xe_ _ E (0,0) 3 rfl
set_option linter.defProp false
def qJ_:=And.intro (And.intro (@zv_) (@zu_)) (And.intro (@jo_) (And.intro (@adv_) (@xk_)))
theorem afs_ (v0 vt:Value) (s:List UInt8) (w:World) (hv:SlV 1 Kq_ [] w vt [s]):
  Rets Tryz.prog 93 #[v0,vt,vi 0,vi (-1)] w (fun r D=>r= .agg (zs_ ⟨false,0,s⟩).toArray∧D= []):=by
 obtain⟨rb,off,arr,E,fz,hr⟩:=hv.row
 have ix:=hr.idx false 0 (by simp)
 have ld:=ai5_ hr (k:=0) (by simp)
 simp only[Nat.zero_mul,Nat.add_zero,List.getD_cons_zero] at ix ld
 have ix0:zW_ (.sl (false,1)) vt (some (0:Int))=some (vp rb off):=ix
 have hrl:=hr.lt (by simp)
 refine Rets.enterV Tryz.func93 rfl (rs:= [.cell 8 126]) Tryz.results93 Tryz.ntmps93 ?_
 refine kf ?_
 first|with_reducible refine ks [2] @qJ_ ?_|refine kp @qJ_ ?_
 refine Ow.alloc rfl rfl x6_ fun b8 hb8 hw8=> ?_
 simp only[za_,List.nil_append,List.cons_append]
 have rd:zk_ w [(b8,Obj.cells (zs_ qi_).toArray 126 (0,0))] rb=some (.cells arr E fz):=by
  rw[zh_ _ _ _ _ _ (by omega),zQ_];exact hr.has (by simp)
 refine ko @qJ_ ?_
 first|with_reducible refine ks [2] (And.intro @qJ_ (And.intro @ix0 (And.intro @ld (@rd)))) ?_|refine kp (And.intro @qJ_ (And.intro @ix0 (And.intro @ld (@rd)))) ?_
 refine Ow.build (.agg (zs_ ⟨false,0,s⟩).toArray) rfl (Qt_ s) ?_
 refine ko @qJ_ ?_
 refine Ow.alloc rfl rfl x6_ fun b9 hb9 hw9=> ?_
 simp only[za_,List.nil_append,List.cons_append]
 have h89:b8<b9:=ze_ hb9 (by simp[keys])
 refine Ow.permL (M:= [(b9, .cells (zs_ qi_).toArray 126 (0,0)),(b8, .cells (zs_ qi_).toArray 126 (0,0))]) (by classical exact List.perm_iff_count.2 fun a=>by simp only[List.count_append,List.count_cons,List.count_nil]<;>omega) ?_
 refine ko @qJ_ ?_
 refine Cw.permL (M:= [(b8, .cells (zs_ qi_).toArray 126 (0,0)),(b9, .cells (zs_ ⟨false,0,s⟩).toArray 126 (0,0))]) (by classical exact List.perm_iff_count.2 fun a=>by simp only[List.count_append,List.count_cons,List.count_nil]<;>omega) ?_
 have r9:zk_ w [(b8,Obj.cells (zs_ qi_).toArray 126 (0,0)),(b9, .cells (zs_ ⟨false,0,s⟩).toArray 126 (0,0))] b9=some (.cells (zs_ ⟨false,0,s⟩).toArray 126 (0,0)):=by rw[zh_ _ _ _ _ _ (by omega)];exact zp_ _ _ _ _
 have dm:decide ((-1:Int)<0)=true:=rfl
 first|with_reducible refine ks [] (And.intro @qJ_ (And.intro @dm (@r9))) ?_|refine kp (And.intro @qJ_ (And.intro @dm (@r9))) ?_
 refine⟨_,(ke @qJ_),⟨hw8,hw9,trivial⟩, ?_⟩
 rfl
theorem ahG_ (p:PartL):xx_ Tryz.prog 77 1 [(0, .agg (zs_ p).toArray)]=some (126,(zs_ p).toArray):=qa_ Tryz.underlying77 Tryz.ag126 x6_ (by decide) rfl
structure PtG where
 i:Nat
 v:Value
 X:zb_
 Y:zb_
theorem aap_ (vt vb:Value) (s:List UInt8) (w:World) (hv:SlV 1 Kq_ [] w vt [s]) (hb:SlV 1 VW_ 0 w vb [-1]) (hs:s.length≤4099):
  Rets Tryz.prog 52 #[vt,vb] w (XS w [] (fun r D=> ∃v,r= .tuple #[v,vi 0]∧GrI D 126 3 v 1 (zs_ ⟨false,0,s⟩))):=by
 obtain⟨rb,off,arr,E,fz,hr⟩:=hv.row
 obtain⟨rb2,off2,arr2,E2,fz2,hr2⟩:=hb.row
 have ln1: ∀x,v4_ (.sl x) vt=some (vi 1):=fun x=>hr.len x
 have ln2: ∀x,v4_ (.sl x) vb=some (vi 1):=fun x=>hr2.len x
 have ix:=hr.idx false 0 (by simp)
 have ld:=ai5_ hr (k:=0) (by simp)
 have ix2:=hr2.idx false 0 (by simp)
 have ld2: ∀q,zn_ (some (false,q)) (some (.cells arr2 E2 fz2)) off2=some (vi (-1)):=fun q=>by
  have:=hr2.cell (k:=0) (j:=0) (n:=q) (by simp) (by decide)
  rw[Nat.zero_mul,Nat.add_zero] at this
  exact this
 simp only[Nat.zero_mul,Nat.add_zero,List.getD_cons_zero] at ix ld ix2
 have hrl:=hr.lt (by simp)
 have hrl2:=hr2.lt (by simp)
 have d1:decide ((200:Int)<1)=false:=rfl
 have e1: ((1:Int) !=1)=false:=rfl
 have r1:zk_ w [] rb=some (.cells arr E fz):=by rw[zQ_];exact hr.has (by simp)
 have r2:zk_ w [] rb2=some (.cells arr2 E2 fz2):=by rw[zQ_];exact hr2.has (by simp)
 refine Rets.enterX Tryz.func52 rfl (rs:= [.tmp 4, .tmp 5]) Tryz.results52 Tryz.ntmps52 (fun p hp=>by cases hp) (by simp[keys]) ?_
 refine kf ?_
 first|with_reducible refine ks [] (And.intro @qJ_ (And.intro @ln1 (And.intro @ln2 (And.intro @d1 (@e1))))) ?_|refine kp (And.intro @qJ_ (And.intro @ln1 (And.intro @ln2 (And.intro @d1 (@e1))))) ?_
 refine Cw.loopG (G:=SkOG) [24,25,26,7,27,28,29,4,5,30,23] (fun g=> [(23,vi g.i)]) (fun g=> []) (fun g=>g.i≤1) (fun g=>1 - g.i) ⟨0⟩ rfl rfl ?_ ?_
 ·exact Nat.zero_le _
 intro g j hg
 refine kv ?_
 obtain⟨i⟩:=g
 simp only at hg ⊢
 obtain rfl|rfl:i=0∨i=1:=by omega
 ·have d2:decide ((4099:Int)< (s.length:Int))=false:=decide_eq_false (by omega)
  first|with_reducible refine ks [] (And.intro @qJ_ (And.intro @ix (And.intro @ld (And.intro @r1 (@d2))))) ?_|refine kp (And.intro @qJ_ (And.intro @ix (And.intro @ld (And.intro @r1 (@d2))))) ?_
  exact Again.mk ⟨1⟩ (by decide) (Nat.le_refl _) rfl rfl
 have d3:decide (((1:Nat):Int)<1)=false:=rfl
 first|with_reducible refine ks [] (And.intro @qJ_ (And.intro @d3 (@ln2))) ?_|refine kp (And.intro @qJ_ (And.intro @d3 (@ln2))) ?_
 refine Cw.loopG (G:=PtG) [34,35,36,37,9,10,38,39,40,41,42,43,44,45,8,46,33] (fun g=> [(33,vi g.i),(8,g.v)]) (fun g=>g.X++g.Y) (fun g=>g.i≤1∧New w.heap.size g.X∧New w.heap.size g.Y∧Gr g.X 126 3 g.v g.i (if g.i=0 then [] else zs_ ⟨false,0,s⟩)) (fun g=>1 - g.i) ⟨0, .slice none 0 0,[],[]⟩ rfl rfl ?_ ?_
 ·exact⟨Nat.zero_le _,trivial,trivial,Gr.nl⟩
 intro g j hg
 refine kv ?_
 obtain⟨i,vp0,X,Y⟩:=g
 simp only at hg ⊢
 obtain⟨hi,hNX,hNY,hGr⟩:=hg
 obtain rfl|rfl:i=0∨i=1:=by omega
 ·have hNN:=hNX.app hNY
  have rd2:zk_ w (X++Y) rb2=some (.cells arr2 E2 fz2):=by rw[z4_ (hNN.not hrl2)];exact hr2.has (by simp)
  rw[if_pos rfl] at hGr
  first|with_reducible refine ks [] (And.intro @qJ_ (And.intro @ix2 (And.intro @ld2 (@rd2)))) ?_|refine kp (And.intro @qJ_ (And.intro @ix2 (And.intro @ld2 (@rd2)))) ?_
  refine Ow.callFV rfl Tryz.call93 (fun w' hw'=>afs_ vp0 vt s w' (hv.oldN hw' hNN)) ?_
  refine ko @qJ_ ?_
  refine Ow.buildSlice (e:=126) (zs_ ⟨false,0,s⟩).toArray rfl rfl (ahG_ _) fun b9 hb9 hw9=> ?_
  refine ko @qJ_ ?_
  refine Ow.appendXG (e:=126) (k:=1) (new:=zs_ ⟨false,0,s⟩) (X:=X) vp0 (List.append_assoc _ _ _) rfl rfl rfl Tryz.underlying77 Tryz.ag126 (by kernel_rfl) x6_ rfl Tryz.underlying77 (by intro k h;cases h) hGr (fun w' hw'=>AppX.one1 (hw'.has b9 (.cells (zs_ ⟨false,0,s⟩).toArray 126 (0,0)) (by simp)) rfl (kT_ _)) (by omega) (fun B3 v3 D3 hA3 hB3 hG3 hk13 hk23 hlk3=> ?_)
  have hN3:New w.heap.size D3:=New.of_le fun c hc=>by
   rcases hk23 c hc with h|h
   ·exact hNX.le c h
   ·omega
  refine ko @qJ_ ?_
  first|with_reducible refine ks [] @qJ_ ?_|refine kp @qJ_ ?_
  exact Again.mk ⟨1,v3,D3,Y++ [(b9, .cells (zs_ ⟨false,0,s⟩).toArray 126 (0,0))]⟩ (by show 1 - 1<1 - 0;omega) ⟨Nat.le_refl _,hN3,hNY.app ⟨hw9,trivial⟩,by simpa using hG3⟩ rfl rfl
 ·rw[if_neg (by decide)] at hGr
  first|with_reducible refine ks [] (And.intro @qJ_ @d3) ?_|refine kp (And.intro @qJ_ @d3) ?_
  refine⟨_,(ke @qJ_), ?_⟩
  exact⟨Ext.of_new (hNX.app hNY),vp0,rfl,hGr.i fun p hp=>by simp[hp]⟩
theorem abd_ {a:OnL} {Z:List OnL} (h:WI_ [a] Z):Z= [a]:=List.perm_singleton.1 h.1
set_option linter.defProp false
def qp_:=And.intro (And.intro (And.intro (@zv_) (And.intro (@zu_) (@jB_))) (And.intro (@jJ_) (And.intro (@jx_) (@jW_)))) (And.intro (And.intro (@xA_) (And.intro (@Sx.tup2_0) (@Sx.tup2_1))) (And.intro (@Sx.tup3_0) (And.intro (@Sx.tup3_1) (@Sx.tup3_2))))
theorem adt_ (v:Value) (a:OnL) (w:World) (hG:GlobE w) (hv:SlV 2 qm_ jg_ w v [onO a]) (hrd:rdK (onO a)=true) (hia:a.id=idK (onO a)) (hfl: (qM_ ((a.k.val:Nat):Int) (tkT a.x)).length≤4099):
  Rets Tryz.prog 32 #[v] w (XS w [] (fun r D=> ∃vp,r= .tuple #[vp,vi 0]∧GrI D 126 3 vp 1 (zs_ ⟨false,0,qM_ ((a.k.val:Nat):Int) (tkT a.x)⟩))):=by
 have hrd1:kH_ ((a.k.val:Nat):Int) (tkT a.x)=true:=hrd
 refine Rets.enterX Tryz.func32 rfl (rs:= [.tmp 2, .tmp 3]) Tryz.results32 Tryz.ntmps32 (fun p hp=>by cases hp) (by simp[keys]) ?_
 refine kf ?_
 first|with_reducible refine ks [] @qp_ ?_|refine kp @qp_ ?_
 refine Ow.callC rfl rfl Tryz.call15 (fun w' hw'=>JT_ v [a] w' (hG.new hw' trivial) (hv.oldN hw' trivial) (fun b hb=>by rw[List.mem_singleton.1 hb];exact⟨hrd,hia⟩) (by simp) (by simp) (by simp) (fun Z hZ i hi=>by rw[abd_ hZ] at hi;simp at hi)) (fun B1 v1 D1 hA1 hB1 hN1 hS1=> ?_)
 obtain⟨Z,vo,vb,hZ,rfl,hGO,hGB⟩:=hS1
 rw[abd_ hZ] at hGO hGB
 have hN1':=hN1.mono hB1
 rw[List.nil_append]
 have lnO: ∀x,v4_ (.sl x) vo=some (vi 1):=w4_ hGO
 have e0: ((0:Int) !=0)=false:=rfl
 generalize hfr:qM_ ((a.k.val:Nat):Int) (tkT a.x)=fr at*
 refine ko @qp_ ?_
 first|with_reducible refine ks [] (And.intro @qp_ (And.intro @lnO (@e0))) ?_|refine kp (And.intro @qp_ (And.intro @lnO (@e0))) ?_
 refine Cw.loopG (G:=PtG) [24,25,26,9,28,29,27,30,31,10,11,32,33,34,35,7,36,23] (fun g=> [(23,vi g.i),(7,g.v)]) (fun g=>g.X++g.Y) (fun g=>g.i≤1∧New w.heap.size g.X∧New w.heap.size g.Y∧Gr g.X 9 1 g.v g.i (if g.i=0 then [] else Kq_ fr)∧(∀p,p∈D1→p∈g.Y)) (fun g=>1 - g.i) ⟨0, .slice none 0 0,[],D1⟩ rfl rfl ?_ ?_
 ·exact⟨Nat.zero_le _,trivial,hN1',Gr.nl,fun p hp=>hp⟩
 intro g j hg
 refine kv ?_
 clear hN1' hN1
 obtain⟨i,vx,X,Y⟩:=g
 simp only at hg ⊢
 obtain⟨hi,hNX,hNY,hGr,hD1⟩:=hg
 have hNN:=hNX.app hNY
 obtain rfl|rfl:i=0∨i=1:=by omega
 ·refine Cw.world fun wz hwz=> ?_
  obtain⟨bg,og,ag,Eg,fg,hrg,hlg⟩:=GrI.rowL (z:=jg_) (l:= [onO a]) (hGO.mono (D':=X++Y) (fun p hp=>by simp[hD1 _ hp])) rfl hwz z8_
  have rdg:zk_ w (X++Y) bg=some (.cells ag Eg fg):=zo_ (hlg (by simp))
  clear hwz hlg
  have ixg:=hrg.idx true 0 (by simp)
  have ldg:zn_ (some (true,2)) (some (.cells ag Eg fg)) og=some (obV ((a.k.val:Nat):Int) (tkT a.x)):=by
   have:=kx_ hrg (k:=0) (by simp)
   rw[Nat.zero_mul,Nat.add_zero] at this
   exact this
  simp only[Nat.zero_mul,Nat.add_zero] at ixg
  rw[if_pos rfl] at hGr
  first|with_reducible refine ks [] (And.intro @qp_ (And.intro @ixg (And.intro @ldg (@rdg)))) ?_|refine kp (And.intro @qp_ (And.intro @ixg (And.intro @ldg (@rdg)))) ?_
  refine Ow.alloc rfl rfl wb_ fun b9 hb9 hw9=> ?_
  simp only[za_,List.nil_append,List.cons_append]
  refine Ow.permL (M:=(b9, .cells #[vi 0,vs []] 38 (0,0)):: (X++Y)) (by classical exact List.perm_iff_count.2 fun a=>by simp only[List.count_append,List.count_cons,List.count_nil]<;>omega) ?_
  refine ko @qp_ ?_
  first|with_reducible refine ks [] @qp_ ?_|refine kp @qp_ ?_
  refine Ow.callC rfl rfl Tryz.call44 (fun w' hw'=>Z1_ ((a.k.val:Nat):Int) (tkT a.x) w') (fun B4 v4 D4 hA4 hB4 hN4 hS4=> ?_)
  rw[hrd1,if_pos rfl,hfr] at hS4
  subst hS4
  have hN4':=hN4.mono hB4
  refine ko @qp_ ?_
  first|with_reducible refine ks [] @qp_ ?_|refine kp @qp_ ?_
  refine Ow.buildSlice (e:=9) #[vs fr] rfl rfl (by kernel_rfl) fun b8 hb8 hw8=> ?_
  refine Ow.permL (M:=X++ (Y++ ((b9, .cells #[vi ((a.k.val:Nat):Int),vs (tkT a.x)] 38 (0,0)):: (b8, .cells #[vs fr] 9 (0,0))::D4))) (by classical exact List.perm_iff_count.2 fun a=>by simp only[List.count_append,List.count_cons,List.count_nil]<;>omega) ?_
  refine ko @qp_ ?_
  refine Ow.appendXG (e:=9) (k:=1) (new:=Kq_ fr) (X:=X) vx rfl rfl rfl rfl Tryz.underlying116 Tryz.ag9 (by kernel_rfl) Tryz.zr9 rfl Tryz.underlying116 (by intro k h;cases h) hGr (fun w' hw'=>AppX.one1 (hw'.has b8 (.cells #[vs fr] 9 (0,0)) (by simp)) rfl rfl) (by omega) (fun B3 v3 D3 hA3 hB3 hG3 hk13 hk23 hlk3=> ?_)
  have hN3:New w.heap.size D3:=New.of_le fun c hc=>by
   rcases hk23 c hc with h|h
   ·exact hNX.le c h
   ·omega
  refine ko @qp_ ?_
  first|with_reducible refine ks [] @qp_ ?_|refine kp @qp_ ?_
  exact Again.mk ⟨1,v3,D3,Y++ ((b9, .cells #[vi ((a.k.val:Nat):Int),vs (tkT a.x)] 38 (0,0)):: (b8, .cells #[vs fr] 9 (0,0))::D4)⟩ (by show 1 - 1<1 - 0;omega) ⟨Nat.le_refl _,hN3,hNY.app ⟨hw9,hw8,hN4'⟩,by simpa using hG3,fun p hp=>List.mem_append_left _ (hD1 p hp)⟩ rfl rfl
 ·rw[if_neg (by decide)] at hGr
  have d3:decide (((1:Nat):Int)<1)=false:=rfl
  first|with_reducible refine ks [] (And.intro @qp_ @d3) ?_|refine kp (And.intro @qp_ @d3) ?_
  refine Ow.callC rfl rfl Tryz.call52 (fun w' hw'=>aap_ vx vb fr w' (hGr.slM (l:= [fr]) (fun b o hm=>hw'.has b o (by simp[hm])) rfl (by simp) abL_) ((hGB.mono (D':=X++Y) (fun p hp=>by simp[hD1 _ hp])).slV (l:= [(-1:Int)]) hw' rfl (by rfl) (fun _=>rfl)) hfl) (fun B5 v5 D5 hA5 hB5 hN5 hS5=> ?_)
  obtain⟨vq,rfl,hGP⟩:=hS5
  refine ko @qp_ ?_
  first|with_reducible refine ks [] @qp_ ?_|refine kp @qp_ ?_
  refine⟨_,(ke @qp_), ?_⟩
  exact⟨Ext.of_new (hNN.app (hN5.mono hB5)),vq,rfl,hGP.mono fun p hp=>List.mem_append_right _ hp⟩
theorem Kh_ (v:Value) (a:OnL) (w:World) (hG:GlobE w) (hC:GlobC w) (hv:SlV 2 qm_ jg_ w v [onO a]) (hrd:rdK (onO a)=true) (hia:a.id=idK (onO a)) (hfl: (qM_ ((a.k.val:Nat):Int) (tkT a.x)).length≤4099):
  Rets Tryz.prog 16 #[v] w (fun r D=>r= .tuple #[vs (Qf_ [⟨false,0,qM_ ((a.k.val:Nat):Int) (tkT a.x)⟩]).1,vi (Qf_ [⟨false,0,qM_ ((a.k.val:Nat):Int) (tkT a.x)⟩]).2]∧D= []):=by
 generalize hfr:qM_ ((a.k.val:Nat):Int) (tkT a.x)=fr at*
 have hps:=fun w' h1 h2=>adt_ v a w' h1 h2 hrd hia (by rw[hfr];exact hfl)
 rw[hfr] at hps
 refine Rets.enterV Tryz.func16 rfl (rs:= [.tmp 2, .tmp 3]) Tryz.results16 Tryz.ntmps16 ?_
 refine kf ?_
 first|with_reducible refine ks [] @qp_ ?_|refine kp @qp_ ?_
 refine Ow.callC rfl rfl Tryz.call32 (fun w' hw'=>hps w' (hG.new hw' trivial) (hv.oldN hw' trivial)) (fun B1 v1 D1 hA1 hB1 hN1 hS1=> ?_)
 obtain⟨vq,rfl,hGP⟩:=hS1
 have hN1':=hN1.mono hB1
 have e0: ((0:Int) !=0)=false:=rfl
 refine ko @qp_ ?_
 first|with_reducible refine ks [] (And.intro @qp_ @e0) ?_|refine kp (And.intro @qp_ @e0) ?_
 refine Ow.callFV rfl Tryz.call33 (fun w' hw'=>WZ_ vq [⟨false,0,fr⟩] w' (hGP.slV (l:= [⟨false,0,fr⟩]) hw' rfl (by simp) jC_) (hG.new hw' hN1') (hC.newP hw' hN1') (fun g hg=>by obtain rfl:g=0:=(by simpa using hg);exact(show fr.length<9223372036854775808 by omega)) (by simp)) ?_
 refine ko @qp_ ?_
 first|with_reducible refine ks [] @qp_ ?_|refine kp @qp_ ?_
 refine⟨_,(ke @qp_),hN1', ?_⟩
 rfl
end Go.Proofs
end
section
open Go Go.Proofs Go.Sx Go.StP Go.Flo Go.Shelf Go.Sort
namespace Go.Proofs
set_option maxRecDepth 10000
set_option maxHeartbeats 1000000
set_option linter.unusedSimpArgs false
def pbS:List UInt8:= [98,1,98]
def pbP:PartL:=⟨false,0,pbS⟩
theorem pb_read:frOk pbS=true∧zN_ pbS=⟨1,[98]⟩:=by
 have h:frOk pbS=true:=by decide
 refine⟨h, ?_⟩
 unfold zN_
 rw[if_pos h,if_pos h]
 decide
theorem afm_:fillV [pbP]=some ([xg_ pbS],[⟨1,[98]⟩]):=by
 unfold fillV
 rw[show QI_ [pbP]= .ok [pbS] from rfl]
 show q7_ [pbS] [] []=_
 rw[q7_,if_pos ⟨pb_read.1,rfl⟩,q7_,pb_read.2]
 rfl
theorem ahb_: ∀p,p∈ [pbP]→p.x.length≤65536:=by
 intro p hp;rw[List.mem_singleton] at hp;subst hp;decide
theorem alG_: (vE_ (k7_ [pbP])).length=14:=by
 have h1:jM_ (zO_ (([pbP].length:Nat):Int))= [1]:=by rw[show zO_ (([pbP].length:Nat):Int)=1 from rfl,qx_ (by decide)];rfl
 have h2:jM_ (zO_ (Zp_ 0 pbP))= [0]:=by rw[show zO_ (Zp_ 0 pbP)=0 from rfl,qx_ (by decide)];rfl
 have h3:jM_ (zO_ ((pbS.length:Nat):Int))= [3]:=by rw[show zO_ ((pbS.length:Nat):Int)=3 from rfl,qx_ (by decide)];rfl
 have h4:js_ pbP.x= [3]++pbS:=by show jM_ (zO_ ((pbS.length:Nat):Int))++pbS=_;rw[h3]
 rw[VC_]
 unfold k7_ qY_ qY_ kJ_
 rw[h1,h2,h4]
 rfl
theorem aiE_:qM_ 1 [98]=pbS:=by
 have h3:jM_ (zO_ (([98]:List UInt8).length:Int))= [1]:=by rw[show zO_ ((([98]:List UInt8).length:Nat):Int)=1 from rfl,qx_ (by decide)];rfl
 show v8_ 1++ (jM_ (zO_ ((([98]:List UInt8).length:Nat):Int))++ [98])=_
 rw[h3];rfl
def oB:OnL:=⟨1, .b,idK ⟨1,[98]⟩⟩
def oT:OnL:=⟨2, .e,idK ⟨2,[]⟩⟩
def oA:OnL:=⟨1, .a,idK ⟨1,[97]⟩⟩
theorem amp_:rdK (onO oB)=true:=by decide
theorem am4_:rdK (onO oA)=true:=by decide
theorem ano_:rdK (onO oT)=true:=by decide
theorem aiu_: ∀a,a∈ [oB,oT,oA]→rdK (onO a)=true∧a.id=idK (onO a):=by
 intro a ha
 simp only[List.mem_cons,List.not_mem_nil,or_false] at ha
 rcases ha with rfl|rfl|rfl
 ·exact⟨amp_,rfl⟩
 ·exact⟨ano_,rfl⟩
 ·exact⟨am4_,rfl⟩
theorem ahV_: ([oB,oT,oA].map onO).Nodup:=by decide
theorem aej_: ∀a b c:Fin 4,[a,b,c].Perm [1,2,1]→b.val≤a.val→c.val≤b.val→a=2∧b=1∧c=1:=by decide
theorem KX_ {Z:List OnL} (h:WI_ [oB,oT,oA] Z): ∃p q,Z= [oT,p,q]∧p.k=1∧q.k=1:=by
 obtain⟨hp,hs⟩:=h
 have hl:=hp.length_eq
 match Z,hl with
 | [x,y,z],_=>
  have hkp: [x.k,y.k,z.k].Perm [1,2,1]:=hp.map OnL.k
  have hk: ∀a b:OnL,ltOf cfOn b a=false→b.k.val≤a.k.val:=fun a b hab=>by
   rcases Nat.lt_or_ge a.k.val b.k.val with h|h
   ·rw[(ZR_ b a).2 (.inl h)] at hab;cases hab
   ·exact h
  simp only[List.pairwise_cons,List.mem_cons,List.not_mem_nil,or_false,forall_eq_or_imp,forall_eq] at hs
  obtain⟨⟨h1,h2⟩,h3,-⟩:=hs
  have e1:=hk _ _ h1
  have e2:=hk _ _ h3
  obtain⟨f1,f2,f3⟩:=aej_ x.k y.k z.k hkp e1 e2
  have hx:x∈ [oB,oT,oA]:=hp.mem_iff.1 (by simp)
  simp only[List.mem_cons,List.not_mem_nil,or_false] at hx
  rcases hx with rfl|rfl|rfl
  ·cases f1
  ·exact⟨y,z,rfl,f2,f3⟩
  ·cases f1
theorem aif_: ∀Z,WI_ [oB,oT,oA] Z→ ∀i,i+2<Z.length→(Z.getD i on0).k≠ (Z.getD (i+2) on0).k:=fun Z hZ i hi=>by
 obtain⟨p,q,rfl,hp,hq⟩:=KX_ hZ
 obtain rfl:i=0:=by simp at hi;omega
 show(2:Fin 4)≠q.k
 rw[hq];decide
theorem agB_ {p q:OnL} (hp:p.k=1) (hq:q.k=1):basL [oT,p,q] 3= [-1,-1,1]:=by
 have h0:K9_ [oT,p,q] 0= -1:=rfl
 have h1:K9_ [oT,p,q] 1= -1:=by
  unfold K9_
  rw[if_pos (.inr (by show p.k≠ (2:Fin 4);rw[hp];decide))]
 have h2:K9_ [oT,p,q] 2=1:=by
  unfold K9_
  rw[if_neg (by rintro(h|h);exact absurd h (by decide);exact h (by show q.k=p.k;rw[hp,hq]))]
  rfl
 show [K9_ [oT,p,q] 0,K9_ [oT,p,q] 1,K9_ [oT,p,q] 2]=_
 rw[h0,h1,h2]
theorem agm_ {w:World} {v:Value} {l:List Int} {b off:Nat} {arr:Array Value} {E:TypeId} {fz:Nat×Nat} (h:RowS 1 VW_ 0 w v l b off arr E fz) {k:Nat} (hk:k<l.length) (n:Nat):
  zn_ (some (false,n)) (some (.cells arr E fz)) (off+k)=some (vi (l.getD k 0)):=by
 have:=h.cell (j:=0) (n:=n) hk (by decide)
 rw[Nat.mul_one,Nat.add_zero] at this
 exact this
set_option linter.defProp false
def vL_:=And.intro (@zv_) (@zu_)
theorem XD_ (v1 v2:Value) (l:List Int) (w:World) (h1:SlV 1 VW_ 0 w v1 l) (h2:SlV 1 VW_ 0 w v2 l) (hl:l.length<1000000):
  Rets Tryz.prog 19 #[v1,v2] w (fun r D=>r= .bool true∧D= []):=by
 obtain⟨b1,off1,arr1,E1,fz1,hr1⟩:=h1.row
 obtain⟨b2,off2,arr2,E2,fz2,hr2⟩:=h2.row
 have ln1:=fun x=>hr1.len x
 have ln2:=fun x=>hr2.len x
 have e1: ((l.length:Int) !=(l.length:Int))=false:=by simp
 refine Rets.enterV Tryz.func19 rfl (rs:= [.tmp 4]) Tryz.results19 Tryz.ntmps19 ?_
 refine kf ?_
 first|with_reducible refine ks [] (And.intro @vL_ (And.intro @ln1 (And.intro @ln2 (@e1)))) ?_|refine kp (And.intro @vL_ (And.intro @ln1 (And.intro @ln2 (@e1)))) ?_
 refine Cw.loopG (G:=SkOG) [11,12,13,14,17,18,19,20,21,22,23,24,25,4,15,16,5] (fun g=> [(5,vi g.i)]) (fun g=> []) (fun g=>g.i≤l.length) (fun g=>l.length - g.i) ⟨0⟩ rfl rfl ?_ ?_
 ·exact Nat.zero_le _
 intro g j hg
 refine kv ?_
 obtain⟨i⟩:=g
 simp only at hg ⊢
 by_cases hlt:i<l.length
 ·have d1:decide ((i:Int)< (l.length:Int))=true:=decide_eq_true (by omega)
  have ix1:=hr1.idx false i hlt
  have ix2:=hr2.idx false i hlt
  have ld1:=agm_ hr1 hlt
  have ld2:=agm_ hr2 hlt
  simp only[Nat.mul_one] at ix1 ix2
  have r1:zk_ w [] b1=some (.cells arr1 E1 fz1):=by rw[zQ_];exact hr1.has (by omega)
  have r2:zk_ w [] b2=some (.cells arr2 E2 fz2):=by rw[zQ_];exact hr2.has (by omega)
  have e2: (l.getD i 0 !=l.getD i 0)=false:=by simp
  first|with_reducible refine ks [] (And.intro @vL_ (And.intro @ln1 (@d1))) ?_|refine kp (And.intro @vL_ (And.intro @ln1 (@d1))) ?_
  refine Cw.regionS [b1,b2] [0,1,2,4,5,6,3,7,8] [] (by kernel_rfl) (by kernel_rfl) (by kernel_rfl) ?_
  refine kya ?_
  refine kq (And.intro @vL_ (And.intro @ix1 (And.intro @ix2 (And.intro @ld1 (And.intro @ld2 (And.intro @r1 (And.intro @r2 (@e2)))))))) ?_
  try with_reducible refine Ow.nil ?_
  first|with_reducible refine ks [] @vL_ ?_|refine kp @vL_ ?_
  exact Again.mk ⟨i+1⟩ (by show l.length - (i+1)<l.length - i;omega) hlt rfl rfl
 ·obtain rfl:i=l.length:=by omega
  have d1:decide ((l.length:Int)< (l.length:Int))=false:=by simp
  first|with_reducible refine ks [] (And.intro @vL_ (And.intro @ln1 (@d1))) ?_|refine kp (And.intro @vL_ (And.intro @ln1 (@d1))) ?_
  refine⟨_,(ke @vL_),trivial, ?_⟩
  rfl
end Go.Proofs
end
section
open Go Go.Proofs Go.Sx Go.StP Go.Flo Go.Shelf Go.Sort
namespace Go.Proofs
set_option maxRecDepth 10000
set_option maxHeartbeats 1000000
set_option linter.unusedSimpArgs false
theorem QP_ (k:Int) (t:List UInt8):buildV (xY_ Tryz.prog 38) (zG_ Tryz.prog 38) [(0,vi k),(1,vs t)]=some (obV k t):=by
 rw[show xY_ Tryz.prog 38=some [(0,1),(1,1)] from id (by kernel_rfl),wb_];rfl
theorem adO_ (k:Int):buildV (xY_ Tryz.prog 38) (zG_ Tryz.prog 38) [(0,vi k)]=some (obV k []):=by
 rw[show xY_ Tryz.prog 38=some [(0,1),(1,1)] from id (by kernel_rfl),wb_];rfl
theorem ady_:xx_ Tryz.prog 22 3 [(0,obV 1 [98]),(1,obV 2 []),(2,obV 1 [97])]=some (38, #[vi 1,vs [98],vi 2,vs [],vi 1,vs [97]]):=id (by kernel_rfl)
theorem ad1_ {w:World} {b:Nat} (h:w.heap[b]? =some (.cells #[vi 1,vs [98],vi 2,vs [],vi 1,vs [97]] 38 (0,0))):SlV 2 qm_ jg_ w (vsl b 0 3 3) ([oB,oT,oA].map onO):=
 SlV.sl (l:=([oB,oT,oA].map onO:List ObK)) h (fun i hi j hj=>by
  have h2:i=0∨i=1∨i=2:=by simp at hi;omega
  have h3:j=0∨j=1:=by omega
  rcases h2 with rfl|rfl|rfl<;>rcases h3 with rfl|rfl<;>rfl) (by simp) (by simp)
theorem aj6_ {w:World} {b:Nat} (h:w.heap[b]? =some (.cells #[vi 1,vs [98]] 38 (0,0))):SlV 2 qm_ jg_ w (vsl b 0 1 1) [onO oB]:=
 SlV.sl (l:=([onO oB]:List ObK)) h (fun i hi j hj=>by
  obtain rfl:i=0:=by simp at hi;omega
  have h3:j=0∨j=1:=by omega
  rcases h3 with rfl|rfl<;>rfl) (by simp) (by simp)
theorem ahd_ {w:World} {b:Nat} (h:w.heap[b]? =some (.cells #[vi (-1),vi (-1),vi 1] 3 (0,0))):SlV 1 VW_ 0 w (vsl b 0 3 3) [-1,-1,1]:=
 SlV.sl (l:=([-1,-1,1]:List Int)) h (fun i hi j hj=>by
  have h2:i=0∨i=1∨i=2:=by simp at hi;omega
  obtain rfl:j=0:=by omega
  rcases h2 with rfl|rfl|rfl<;>rfl) (by simp) (by simp)
set_option linter.defProp false
def q5_:=And.intro (And.intro (And.intro (@zv_) (@zu_)) (And.intro (@Sx.tup2_0) (And.intro (@Sx.tup2_1) (@Sx.tup3_0)))) (And.intro (And.intro (@Sx.tup3_1) (@Sx.tup3_2)) (And.intro (@jB_) (And.intro (@jJ_) (@jx_))))
theorem j4_ (w:World) (hG:GlobE w) (hC:GlobC w):Rets Tryz.prog 4 #[] w (fun v D=>v= .bool true∧D= []):=by
 have hop:age_ (vE_ (k7_ [pbP]))=some ([pbP],_,_):=adi_ afm_ ahb_
 have hal:=alG_
 have hwv:Qf_ [pbP]=(vE_ (k7_ [pbP]),0):=by unfold Qf_;rw[afm_]
 generalize vE_ (k7_ [pbP])=b at*
 refine Rets.enterV Tryz.func4 rfl (rs:= [.tmp 0]) Tryz.results4 Tryz.ntmps4 ?_
 refine kf ?_
 first|with_reducible refine ks [] @q5_ ?_|refine kp @q5_ ?_
 refine Ow.build (obV 1 [98]) rfl (QP_ 1 [98]) ?_
 refine ko @q5_ ?_
 refine Ow.build (obV 2 []) rfl (adO_ 2) ?_
 refine ko @q5_ ?_
 refine Ow.build (obV 1 [97]) rfl (QP_ 1 [97]) ?_
 refine ko @q5_ ?_
 refine Ow.buildSlice (e:=38) #[vi 1,vs [98],vi 2,vs [],vi 1,vs [97]] rfl rfl ady_ fun b1 hb1 hw1=> ?_
 refine ko @q5_ ?_
 refine Ow.callC rfl rfl Tryz.call15 (fun w' hw'=>JT_ _ [oB,oT,oA] w' (hG.new hw' ⟨hw1,trivial⟩) (ad1_ (hw'.has b1 (.cells #[vi 1,vs [98],vi 2,vs [],vi 1,vs [97]] 38 (0,0)) (by simp))) aiu_ (by decide) (by decide) ahV_ aif_) (fun B1 v1 D1 hA1 hB1 hN1 hS1=> ?_)
 obtain⟨Z,vo,vb,hZ,rfl,hGO,hGB⟩:=hS1
 obtain⟨p,q,rfl,hpk,hqk⟩:=KX_ hZ
 rw[show [oB,oT,oA].length=3 from rfl] at hGO hGB
 rw[agB_ hpk hqk] at hGB
 have lnO: ∀x,v4_ (.sl x) vo=some (vi 3):=w4_ hGO
 have hN1':New w.heap.size ([(b1,Obj.cells #[vi 1,vs [98],vi 2,vs [],vi 1,vs [97]] 38 (0,0))]++D1):=New.app ⟨hw1,trivial⟩ (hN1.mono hB1)
 refine ko @q5_ ?_
 first|with_reducible refine ks [] @q5_ ?_|refine kp @q5_ ?_
 refine Ow.build (obV 1 [98]) rfl (QP_ 1 [98]) ?_
 refine ko @q5_ ?_
 refine Ow.buildSlice (e:=38) #[vi 1,vs [98]] rfl rfl (j6_ ⟨1,[98]⟩) fun b2 hb2 hw2=> ?_
 refine ko @q5_ ?_
 have hfr:qM_ (((oB.k.val:Nat)):Int) (tkT oB.x)=pbS:=aiE_
 have hps:=fun w' h1 h2 h3=>Kh_ (vsl b2 0 1 1) oB w' h1 h2 h3 amp_ rfl (by rw[hfr];decide)
 rw[hfr,show([⟨false,0,pbS⟩]:List PartL)= [pbP] from rfl,hwv] at hps
 have hN2':=hN1'.app (show New w.heap.size [(b2,Obj.cells #[vi 1,vs [98]] 38 (0,0))] from⟨hw2,trivial⟩)
 refine Ow.callFV rfl Tryz.call16 (fun w' hw'=>hps w' (hG.new hw' hN2') (hC.newP hw' hN2') (aj6_ (hw'.has b2 (.cells #[vi 1,vs [98]] 38 (0,0)) (by simp)))) ?_
 refine ko @q5_ ?_
 first|with_reducible refine ks [] @q5_ ?_|refine kp @q5_ ?_
 refine Ow.callC rfl rfl Tryz.call17 (fun w' hw'=>ac2_ b w' (hG.new hw' hN2') (hC.newP hw' hN2') (by omega)) (fun B3 v3 D3 hA3 hB3 hN3 hS3=> ?_)
 unfold aj9_ at hS3
 rw[hop] at hS3
 obtain⟨bp,rfl,hP⟩:=hS3
 simp only at hP
 have hN3':=hN2'.app (hN3.mono hB3)
 have e00: ((0:Int)==0)=true:=rfl
 refine ko @q5_ ?_
 first|with_reducible refine ks [] (And.intro @q5_ @e00) ?_|refine kp (And.intro @q5_ @e00) ?_
 refine Ow.callFV rfl Tryz.call18 (fun w' hw'=>af7_ bp [pbP] (QW_ 0 (4+ (jM_ [pbP].length).length) [pbP]) [xg_ pbS] [⟨1,[98]⟩] w' (hP.inW (fun q hq=>by simp[hq]) hw')) ?_
 refine Ow.world fun wz hwz=> ?_
 obtain⟨bo,oo,ao,Eo,fo,hro,hlo⟩:=GrI.rowL (z:=jg_) (l:= [oT,p,q].map onO) (hGO.mono (fun p hp=>by simp[hp])) rfl hwz z8_
 have rdo:=zo_ (w0:=w) (hlo (by simp))
 clear hwz hlo
 have ixo:zW_ (.sl (true,2)) vo (some (0:Int))=some (vp bo oo):=by
  have:=hro.idx true 0 (by simp)
  rw[Nat.zero_mul,Nat.add_zero] at this
  exact this
 have ldo: ∀n,zn_ (some (false,n)) (some (.cells ao Eo fo)) oo=some (vi 2):=fun n=>by
  have:=hro.cell (k:=0) (j:=0) (n:=n) (by simp) (by decide)
  rw[Nat.zero_mul,Nat.add_zero] at this
  exact this
 have e11: (((([pbP]:List PartL).length:Nat):Int)==1)=true:=rfl
 have e33: ((3:Int)==3)=true:=rfl
 have e22: ((2:Int)==2)=true:=rfl
 refine ko (And.intro @q5_ (And.intro @e00 (And.intro @e11 (And.intro @e33 (And.intro @e22 (And.intro @lnO (And.intro @ixo (And.intro @ldo (@rdo))))))))) ?_
 refine Ow.buildSlice (e:=3) #[vi (-1),vi (-1),vi 1] rfl rfl (id (by kernel_rfl)) fun b4 hb4 hw4=> ?_
 refine ko @q5_ ?_
 refine Ow.callFV rfl Tryz.call19 (fun w' hw'=>XD_ vb (vsl b4 0 3 3) [-1,-1,1] w' ((hGB.mono (fun p hp=>by simp[hp])).slV (l:=([-1,-1,1]:List Int)) hw' rfl rfl (fun _=>rfl)) (ahd_ (hw'.has b4 (.cells #[vi (-1),vi (-1),vi 1] 3 (0,0)) (by simp))) (by decide)) ?_
 refine ko @q5_ ?_
 first|with_reducible refine ks [] @q5_ ?_|refine kp @q5_ ?_
 have hN4:=hN3'.app (show New w.heap.size [(b4,Obj.cells #[vi (-1),vi (-1),vi 1] 3 (0,0))] from⟨hw4,trivial⟩)
 refine⟨_,(ke @q5_),(by simpa [List.append_assoc] using hN4), ?_⟩
 rfl
end Go.Proofs
end
section
open Go Go.Proofs Go.Sx Go.StP Go.Flo Go.Shelf Go.Sort
namespace Go.Proofs
set_option maxRecDepth 10000
set_option maxHeartbeats 1000000
set_option linter.unusedSimpArgs false
theorem abD_ (b o n c:Nat):q0_ Tryz.prog .eql 23 (vsl b o n c) (.slice none 0 0)=some (.bool false):=by
 simp[q0_,eqX,qy_,qr_,Tryz.underlying23,vsl]
theorem Xh_:q0_ Tryz.prog .eql 23 (.slice none 0 0) (.slice none 0 0)=some (.bool true):=by
 simp[q0_,eqX,qy_,qr_,Tryz.underlying23]
theorem ab8_ (b o n c:Nat):q0_ Tryz.prog .eql 22 (vsl b o n c) (.slice none 0 0)=some (.bool false):=by
 simp[q0_,eqX,qy_,qr_,Tryz.underlying22,vsl]
theorem Xu_:q0_ Tryz.prog .eql 22 (.slice none 0 0) (.slice none 0 0)=some (.bool true):=by
 simp[q0_,eqX,qy_,qr_,Tryz.underlying22]
set_option linter.defProp false
def jr_:=And.intro (@zv_) (@zu_)
theorem Vr_ (v:Value) (ls:List IdL) (w:World) (hv:SlV 32 jd_ id0 w v ls) (hl:ls.length<1000000):
  Rets Tryz.prog 22 #[v] w (XS w [] (fun v D=>Gr D 42 32 v ls.length (ls.map jd_).flatten)):=by
 obtain⟨b,off,c,arr,E,fz,hr,hc,⟨rfl,rfl,rfl⟩ | ⟨rfl,hb,hsz⟩⟩:=hv
 ·refine Rets.enterX Tryz.func22 rfl (rs:= [.tmp 2]) Tryz.results22 Tryz.ntmps22 (fun p hp=>by cases hp) (by simp[keys]) ?_
  refine kf ?_
  first|with_reducible refine ks [] (And.intro @jr_ (And.intro @abD_ (@Xh_))) ?_|refine kp (And.intro @jr_ (And.intro @abD_ (@Xh_))) ?_
  refine⟨_,(ke @jr_), ?_⟩
  exact⟨Ext.refl _ _,Gr.nl⟩
 ·have hbl:=(Array.getElem?_eq_some_iff.1 hb).1
  have hv:SlV 32 jd_ id0 w (vsl b off ls.length c) ls:=⟨b,off,c,arr,E,fz,hr,hc, .inr ⟨rfl,hb,hsz⟩⟩
  refine Rets.enterX Tryz.func22 rfl (rs:= [.tmp 2]) Tryz.results22 Tryz.ntmps22 (fun p hp=>by cases hp) (by simp[keys]) ?_
  refine kf ?_
  first|with_reducible refine ks [] (And.intro @jr_ (And.intro @abD_ (@Xh_))) ?_|refine kp (And.intro @jr_ (And.intro @abD_ (@Xh_))) ?_
  refine Ow.buildSlice (e:=42) #[] rfl rfl (by kernel_rfl) fun b1 hb1 hw1=> ?_
  refine ko @jr_ ?_
  refine Ow.appendG (e:=42) (k:=ls.length) (new:=(ls.map jd_).flatten) (vsl b1 0 0 0) rfl rfl rfl Tryz.underlying23 Tryz.ag42 (by kernel_rfl) v1_ (by rw[show Value.cells (.agg (a8 id0.l))=(jd_ id0).toArray from rfl,List.size_toArray,zX_]) Tryz.underlying23 (by intro k h;cases h) (.inr ⟨rfl,rfl,b1,rfl,Xj_ hb1⟩) (fun w' hw'=>(hv.oldN hw' ⟨hw1,trivial⟩).appX zX_ j2_) (Zz_ zX_ ls) (by omega) (fun v2 L2 hB hB2 hG hS=> ?_)
  rw[Nat.zero_add,List.nil_append] at hB
  refine ko @jr_ ?_
  first|with_reducible refine ks [] @jr_ ?_|refine kp @jr_ ?_
  refine⟨_,(ke @jr_), ?_⟩
  exact⟨((Ext.refl w []).app (o:=Obj.cells #[] 42 (0,0)) hw1).grew hG,hB⟩
theorem K5_ (v:Value) (ls:List ObK) (w:World) (hv:SlV 2 qm_ jg_ w v ls) (hl:ls.length<1000000):
  Rets Tryz.prog 24 #[v] w (XS w [] (fun v D=>Gr D 38 2 v ls.length (ls.map qm_).flatten)):=by
 obtain⟨b,off,c,arr,E,fz,hr,hc,⟨rfl,rfl,rfl⟩ | ⟨rfl,hb,hsz⟩⟩:=hv
 ·refine Rets.enterX Tryz.func24 rfl (rs:= [.tmp 2]) Tryz.results24 Tryz.ntmps24 (fun p hp=>by cases hp) (by simp[keys]) ?_
  refine kf ?_
  first|with_reducible refine ks [] (And.intro @jr_ (And.intro @ab8_ (@Xu_))) ?_|refine kp (And.intro @jr_ (And.intro @ab8_ (@Xu_))) ?_
  refine⟨_,(ke @jr_), ?_⟩
  exact⟨Ext.refl _ _,Gr.nl⟩
 ·have hbl:=(Array.getElem?_eq_some_iff.1 hb).1
  have hv:SlV 2 qm_ jg_ w (vsl b off ls.length c) ls:=⟨b,off,c,arr,E,fz,hr,hc, .inr ⟨rfl,hb,hsz⟩⟩
  refine Rets.enterX Tryz.func24 rfl (rs:= [.tmp 2]) Tryz.results24 Tryz.ntmps24 (fun p hp=>by cases hp) (by simp[keys]) ?_
  refine kf ?_
  first|with_reducible refine ks [] (And.intro @jr_ (And.intro @ab8_ (@Xu_))) ?_|refine kp (And.intro @jr_ (And.intro @ab8_ (@Xu_))) ?_
  refine Ow.buildSlice (e:=38) #[] rfl rfl (by kernel_rfl) fun b1 hb1 hw1=> ?_
  refine ko @jr_ ?_
  refine Ow.appendG (e:=38) (k:=ls.length) (new:=(ls.map qm_).flatten) (vsl b1 0 0 0) rfl rfl rfl Tryz.underlying22 Tryz.ag38 (by kernel_rfl) wb_ (by simp[za_]) Tryz.underlying22 (by intro k h;cases h) (.inr ⟨rfl,rfl,b1,rfl,Xj_ hb1⟩) (fun w' hw'=>(hv.oldN hw' ⟨hw1,trivial⟩).appX z8_ xJ_) (Zz_ z8_ ls) (by omega) (fun v2 L2 hB hB2 hG hS=> ?_)
  rw[Nat.zero_add,List.nil_append] at hB
  refine ko @jr_ ?_
  first|with_reducible refine ks [] @jr_ ?_|refine kp @jr_ ?_
  refine⟨_,(ke @jr_), ?_⟩
  exact⟨((Ext.refl w []).app (o:=Obj.cells #[] 38 (0,0)) hw1).grew hG,hB⟩
set_option linter.defProp false
def vT_:=And.intro (@zv_) (@zu_)
theorem va_ (v1 v2:Value) (l:List ObK) (w:World) (h1:SlV 2 qm_ jg_ w v1 l) (h2:SlV 2 qm_ jg_ w v2 l) (hl:l.length<1000000):
  Rets Tryz.prog 13 #[v1,v2] w (fun r D=>r= .bool true∧D= []):=by
 obtain⟨b1,off1,arr1,E1,fz1,hr1⟩:=h1.row
 obtain⟨b2,off2,arr2,E2,fz2,hr2⟩:=h2.row
 have ln1:=fun x=>hr1.len x
 have ln2:=fun x=>hr2.len x
 have e1: ((l.length:Int) !=(l.length:Int))=false:=by simp
 refine Rets.enterV Tryz.func13 rfl (rs:= [.tmp 4]) Tryz.results13 Tryz.ntmps13 ?_
 refine kf ?_
 first|with_reducible refine ks [] (And.intro @vT_ (And.intro @ln1 (And.intro @ln2 (@e1)))) ?_|refine kp (And.intro @vT_ (And.intro @ln1 (And.intro @ln2 (@e1)))) ?_
 refine Cw.loopG (G:=SkOG) [11,12,13,14,17,18,19,20,21,22,23,24,25,4,15,16,5] (fun g=> [(5,vi g.i)]) (fun g=> []) (fun g=>g.i≤l.length) (fun g=>l.length - g.i) ⟨0⟩ rfl rfl ?_ ?_
 ·exact Nat.zero_le _
 intro g j hg
 refine kv ?_
 obtain⟨i⟩:=g
 simp only at hg ⊢
 by_cases hlt:i<l.length
 ·have d1:decide ((i:Int)< (l.length:Int))=true:=decide_eq_true (by omega)
  have ix1:=hr1.idx true i hlt
  have ix2:=hr2.idx true i hlt
  have ld1:=kx_ hr1 hlt
  have ld2:=kx_ hr2 hlt
  have r1:zk_ w [] b1=some (.cells arr1 E1 fz1):=by rw[zQ_];exact hr1.has (by omega)
  have r2:zk_ w [] b2=some (.cells arr2 E2 fz2):=by rw[zQ_];exact hr2.has (by omega)
  generalize l.getD i jg_=a at*
  have e2:=alj_ a a
  rw[decide_eq_true (rfl:a=a),Bool.not_true] at e2
  first|with_reducible refine ks [] (And.intro @vT_ (And.intro @ln1 (@d1))) ?_|refine kp (And.intro @vT_ (And.intro @ln1 (@d1))) ?_
  refine Cw.regionS [b1,b2] [0,1,2,4,5,6,3,7,8] [] (by kernel_rfl) (by kernel_rfl) (by kernel_rfl) ?_
  refine kya ?_
  refine kq (And.intro @vT_ (And.intro @ix1 (And.intro @ix2 (And.intro @ld1 (And.intro @ld2 (And.intro @r1 (And.intro @r2 (@e2)))))))) ?_
  try with_reducible refine Ow.nil ?_
  first|with_reducible refine ks [] @vT_ ?_|refine kp @vT_ ?_
  exact Again.mk ⟨i+1⟩ (by show l.length - (i+1)<l.length - i;omega) hlt rfl rfl
 ·obtain rfl:i=l.length:=by omega
  have d1:decide ((l.length:Int)< (l.length:Int))=false:=by simp
  first|with_reducible refine ks [] (And.intro @vT_ (And.intro @ln1 (@d1))) ?_|refine kp (And.intro @vT_ (And.intro @ln1 (@d1))) ?_
  refine⟨_,(ke @vT_),trivial, ?_⟩
  rfl
end Go.Proofs
end
section
open Go Go.Proofs Go.Sx Go.StP Go.Shelf Go.Sort
namespace Go.Proofs
set_option maxRecDepth 10000
set_option maxHeartbeats 1000000
set_option linter.unusedSimpArgs false
theorem adc_ (P:Program) (w0:World) (f:Fr) (L:zb_) (st:Bool) (md:Md) (d:Option Tmp) (ty:TypeId) (ps:String) (af:Array Edge) (g:Option (Nat×Bool)) (go:Fr→zb_→Prop) (stop:Prop) (x:Operand) (n:String) (a:Array Operand) (t:Array TypeId):vcB P w0 st md ⟨d, .call ⟨.invoke x n,a,t⟩,ty,ps,af,g⟩ f L go stop=stop:=(rfl)
section
variable {P:Program} {w0:World} {f:Fr} {L:zb_} {N:Fr→zb_→Prop} {ops:Array Oper} {rest:List Oper}
 {d:Option Tmp} {ty:TypeId} {ps:String} {af:Array Edge} {g:Option (Nat×Bool)}
theorem _root_.Go.Sx.Ow.nilMeth {x:Operand} {name:String} {t:TypeId} {u:Value} {cap:Array Value} (hs:zf_ ops f ⟨d, .nilCheck x,ty,ps,af,g⟩=false) (hx:ev f x= .func (.method name) #[.iface t u] cap)
  (hm: ∀w,(nilAhead (P.types.size+Made.depth) t u name).run P w= .ok (some false) w) (hn:Ow P w0 ops .seq rest (qg_ f d (.func (.method name) #[.iface t u] cap)) L N):Ow P w0 ops .seq (⟨d, .nilCheck x,ty,ps,af,g⟩::rest) f L N:=by
 intro w hw
 unfold wpList
 rw[qc_,hs]
 simp only[Bool.not_false, ↓reduceIte]
 have h:OpS P w0 f L ⟨d, .nilCheck x,ty,ps,af,g⟩ (fun v L'=>v= .func (.method name) #[.iface t u] cap∧L'=L):=fun w hw=> .inl ⟨_,w,L,by
  simp only[execOp,hx]
  have e0: (#[Value.iface t u]:Array Value)[0]? =some (.iface t u):=rfl
  simp only[e0,Sem.run_bind,program]
  show Result.andThen (Result.andThen (Result.ok P w) _) _=_
  simp only[Result.andThen_ok,hm]
  rfl,hw,rfl,rfl⟩
 exact .inl (h.wp (fun v L' w' hp hm=>by obtain⟨rfl,rfl⟩:=hm;exact hn w' hp) hw)
end
theorem aiN_ (b:Nat) (w:World): (nilAhead (Tryz.prog.types.size+Made.depth) 61 (vp b 0) "Get").run Tryz.prog w= .ok (some false) w:=by kernel_rfl
theorem akU_ {D:zb_} {v:Value} {l:List IdL} {w:World} (h:GrI D 42 32 v l.length (l.map jd_).flatten) (hD: ∀b o,(b,o)∈D→w.heap[b]? =some o):SlV 32 jd_ id0 w v l:=by
 obtain⟨X,hX,h⟩:=h
 exact h.slM (fun b o hm=>hD b o (hX _ hm)) rfl rfl zX_
theorem ZD_ {D:zb_} {v:Value} {l:List ObK} {w:World} (h:GrI D 38 2 v l.length (l.map qm_).flatten) (hD: ∀b o,(b,o)∈D→w.heap[b]? =some o):SlV 2 qm_ jg_ w v l:=by
 obtain⟨X,hX,h⟩:=h
 exact h.slM (fun b o hm=>hD b o (hX _ hm)) rfl rfl z8_
structure GaA (bg:Nat) (r:List IdL) (h:List ObK) (vL vH:Value) (Q M X:zb_):Prop where
 perm:X.Perm ((bg, .cells #[vL,vH] 60 (0,0)):: (Q++M))
 q:Qu Q 42 32 vL r.length (r.map jd_).flatten
 o:Gr M 38 2 vH h.length (h.map qm_).flatten
def GaP (bg:Nat) (r:List IdL) (h:List ObK) (X:zb_):Prop:= ∃vL vH Q M,GaA bg r h vL vH Q M X
theorem GaA.ne {bg:Nat} {r:List IdL} {h:List ObK} {vL vH:Value} {Q M X:zb_} (a:GaA bg r h vL vH Q M X) (hn: (keys X).Nodup): ∀c,c∈keys Q∨c∈keys M→c≠bg:=by
 have:=(a.perm.map Prod.fst).nodup_iff.1 hn
 simp only[List.map_cons,List.map_append,List.nodup_cons,List.mem_append,not_or] at this
 intro c hc e
 subst e
 rcases hc with hc|hc
 ·exact this.1.1 hc
 ·exact this.1.2 hc
theorem alS_ (b o:Nat):q0_ Tryz.prog .eql 26 (vp b o) (.pointer none)=some (.bool false):=by
 simp[q0_,eqX,qy_,qr_,Tryz.underlying26,vp]
theorem ai1_:q0_ Tryz.prog .eql 26 (.pointer none) (.pointer none)=some (.bool true):=by
 simp[q0_,eqX,qy_,qr_,Tryz.underlying26]
theorem afj_ (a b v:Value) (E:TypeId) (h:Value.oneCell' v=true∧v.cells= #[v]):zi_ (some (false,1)) (some (.cells #[a,b] E (0,0))) 0 v=some (.cells #[v,b] E (0,0)):=JJ_ a b v E h
theorem aga_ (a b v:Value) (E:TypeId) (h:Value.oneCell' v=true∧v.cells= #[v]):zi_ (some (false,1)) (some (.cells #[a,b] E (0,0))) 1 v=some (.cells #[a,v] E (0,0)):=JX_ a b v E h
set_option linter.defProp false
def je_:=And.intro (And.intro (@alS_) (@ai1_)) (And.intro (@kU_) (@ve_))
theorem xs_ (bg n:Nat) (vL vH:Value) (w:World) (hb:w.heap[bg]? =some (.cells #[vL,vH] 60 (0,0))) (hl: ∀x,v4_ (.sl x) vL=some (vi n)):
  Rets Tryz.prog 12 #[vp bg 0] w (fun v D=>v=vi n∧D= []):=by
 have r0:zk_ w [] bg=some (.cells #[vL,vH] 60 (0,0)):=by rw[zQ_];exact hb
 refine Rets.enterV Tryz.func12 rfl (rs:= [.tmp 2]) Tryz.results12 Tryz.ntmps12 ?_
 refine kf ?_
 first|with_reducible refine ks [] (And.intro @je_ (And.intro @r0 (@hl))) ?_|refine kp (And.intro @je_ (And.intro @r0 (@hl))) ?_
 refine⟨_,(ke @je_),trivial, ?_⟩
 rfl
theorem Jx_ (w:World):Rets Tryz.prog 12 #[.pointer none] w (fun v D=>v=vi 0∧D= []):=by
 refine Rets.enterV Tryz.func12 rfl (rs:= [.tmp 2]) Tryz.results12 Tryz.ntmps12 ?_
 refine kf ?_
 first|with_reducible refine ks [] @je_ ?_|refine kp @je_ ?_
 refine⟨_,(ke @je_),trivial, ?_⟩
 rfl
theorem wT_ (bg:Nat) (vL vH:Value) (h:List ObK) (w:World) (hb:w.heap[bg]? =some (.cells #[vL,vH] 60 (0,0))) (hv:SlV 2 qm_ jg_ w vH h) (hl:h.length<1000000):
  Rets Tryz.prog 14 #[vp bg 0] w (XS w [] (fun v D=>GrI D 38 2 v h.length (h.map qm_).flatten)):=by
 have r0:zk_ w [] bg=some (.cells #[vL,vH] 60 (0,0)):=by rw[zQ_];exact hb
 refine Rets.enterX Tryz.func14 rfl (rs:= [.tmp 2]) Tryz.results14 Tryz.ntmps14 (fun p hp=>by cases hp) (by simp[keys]) ?_
 refine kf ?_
 first|with_reducible refine ks [] (And.intro @je_ @r0) ?_|refine kp (And.intro @je_ @r0) ?_
 refine Ow.callC rfl rfl Tryz.call24 (fun w' hw'=>K5_ vH h w' (hv.oldN hw' trivial) hl) (fun B v2 D2 hA2 hB2 hN2 hS2=> ?_)
 rw[List.nil_append]
 refine ko @je_ ?_
 refine⟨_,(ke @je_), ?_⟩
 exact⟨Ext.of_new (hN2.mono hB2),hS2.i fun p hp=>hp⟩
theorem aeH_ (w:World):Rets Tryz.prog 14 #[.pointer none] w (fun v D=>v= .slice none 0 0∧D= []):=by
 refine Rets.enterV Tryz.func14 rfl (rs:= [.tmp 2]) Tryz.results14 Tryz.ntmps14 ?_
 refine kf ?_
 first|with_reducible refine ks [] @je_ ?_|refine kp @je_ ?_
 refine⟨_,(ke @je_),trivial, ?_⟩
 rfl
theorem ahD_ (v:Value) (h:v.cells= #[v]):buildV (xY_ Tryz.prog 60) (zG_ Tryz.prog 60) [(0,v)]=some (.agg #[v, .slice none 0 0]):=by
 rw[show xY_ Tryz.prog 60=some [(0,1),(1,1)] from id (by kernel_rfl),show zG_ Tryz.prog 60=some (.agg #[.slice none 0 0, .slice none 0 0]) from id (by kernel_rfl)]
 simp[Sx.buildV,Sx.fillV,h,kZ_]
set_option linter.defProp false
theorem ado_ (v:Value) (l:List IdL) (w:World) (hv:SlV 32 jd_ id0 w v l) (hl:l.length<1000000):
  Rets Tryz.prog 7 #[v] w (XS w [] (fun r D=> ∃bg,r=vp bg 0∧GaP bg l [] D)):=by
 refine Rets.enterX Tryz.func7 rfl (rs:= [.tmp 2]) Tryz.results7 Tryz.ntmps7 (fun p hp=>by cases hp) (by simp[keys]) ?_
 refine kf ?_
 first|with_reducible refine ks [] @je_ ?_|refine kp @je_ ?_
 refine Ow.callC rfl rfl Tryz.call22 (fun w' hw'=>Vr_ v l w' (hv.oldN hw' trivial) hl) (fun B v2 D2 hA2 hB2 hN2 hS2=> ?_)
 rw[List.nil_append]
 have hN2':=hN2.mono hB2
 refine ko @je_ ?_
 refine Ow.build (.agg #[v2, .slice none 0 0]) rfl (ahD_ v2 hS2.cell.2) ?_
 refine ko @je_ ?_
 refine Ow.box rfl rfl fun b3 hb3 hw3=> ?_
 simp only[zw_,zC_,zB_,za_]
 refine ko @je_ ?_
 first|with_reducible refine ks [] @je_ ?_|refine kp @je_ ?_
 refine⟨_,(ke @je_), ?_⟩
 exact⟨Ext.of_new (hN2'.app ⟨hw3,trivial⟩),b3,rfl,v2, .slice none 0 0,D2,[],(by classical exact List.perm_iff_count.2 fun a=>by simp only[List.count_append,List.count_cons,List.count_nil]<;>omega),hS2.qu,Gr.nl⟩
end Go.Proofs
end
section
open Go Go.Proofs Go.Sx Go.StP Go.Shelf Go.Sort
namespace Go.Proofs
set_option maxRecDepth 10000
set_option maxHeartbeats 1000000
set_option linter.unusedSimpArgs false
def gaS (s:SrcF):List IdL→List ObK→Bool×Int×List IdL×List ObK
 | [],h=>(true,0,[],h)
 |i::r,h=>if(s i).2=true then(decide (r.length=0),0,r,h++ [(s i).1]) else(false,6,i::r,h)
set_option linter.defProp false
def ql_:=And.intro (And.intro (And.intro (@alS_) (And.intro (@ai1_) (@kU_))) (And.intro (And.intro (@ve_) (@jB_)) (And.intro (@jJ_) (@jx_)))) (And.intro (And.intro (And.intro (@jW_) (@xA_)) (And.intro (@Sx.tup2_0) (@Sx.tup2_1))) (And.intro (And.intro (@zv_) (@zu_)) (And.intro (@wo_) (@adc_))))
theorem W9_ (bg:Nat) (r:List IdL) (h:List ObK) (sv:Value) (m:List (IdL×ObK)) (X:zb_) (w:World) (hX: ∀p,p∈X→w.heap[p.1]? =some p.2) (hn: (keys X).Nodup) (hP:GaP bg r h X) (hS:SrcW w sv m X) (hr:r.length<1000000) (hh:h.length<1000000):
  Rets Tryz.prog 9 #[vp bg 0,sv] w (XS w X (fun v D=>v= .tuple #[.bool (gaS (kD_ m) r h).1,vi (gaS (kD_ m) r h).2.1]∧GaP bg (gaS (kD_ m) r h).2.2.1 (gaS (kD_ m) r h).2.2.2 D)):=by
 obtain⟨vL,vH,Q,M,hA⟩:=hP
 have hk:=hA.ne hn
 have lnL:=fun x=>hA.q.len x
 refine Rets.enterX Tryz.func9 rfl (rs:= [.tmp 4, .tmp 5]) Tryz.results9 Tryz.ntmps9 hX hn ?_
 refine kf ?_
 refine Cw.permL hA.perm.symm ?_
 have hE0:Ext w X X:=Ext.refl _ _
 cases r with
 |nil=>
  first|with_reducible refine ks [] @ql_ ?_|refine kp @ql_ ?_
  refine Ow.callFV rfl Tryz.call12 (fun w' hw'=>xs_ bg 0 vL vH w' (hw'.has bg (.cells #[vL,vH] 60 (0,0)) (by simp)) lnL) ?_
  have e0: (((0:Nat):Int)==0)=true:=rfl
  refine ko (And.intro @ql_ @e0) ?_
  first|with_reducible refine ks [] @ql_ ?_|refine kp @ql_ ?_
  refine⟨_,(ke @ql_), ?_⟩
  exact⟨hE0.perm hA.perm.symm,rfl,vL,vH,Q,M,List.Perm.refl _,hA.q,hA.o⟩
 |cons i r=>
  have hq1:=hA.q
  rw[List.length_cons] at hq1 lnL hr
  obtain⟨bq,offq,arrq,hlq,hixq,hldq⟩:=Qu.head hq1 zX_
  obtain⟨vt,hvt,hq2⟩:=Qu.tail hq1 zX_
  have hbq:=hk bq (.inl (zm_ hlq))
  rw[ZK_] at hldq
  first|with_reducible refine ks [] @ql_ ?_|refine kp @ql_ ?_
  refine Ow.callFV rfl Tryz.call12 (fun w' hw'=>xs_ bg (r.length+1) vL vH w' (hw'.has bg (.cells #[vL,vH] 60 (0,0)) (by simp)) lnL) ?_
  have e0: (((r.length+1:Nat):Int)==0)=false:=by rw[beq_eq_false_iff_ne];omega
  have rbg:zk_ w ((bg,Obj.cells #[vL,vH] 60 (0,0)):: (Q++M)) bg=some (.cells #[vL,vH] 60 (0,0)):=zp_ _ _ _ _
  have rbq:zk_ w ((bg,Obj.cells #[vL,vH] 60 (0,0)):: (Q++M)) bq=some (.cells arrq 42 (0,0)):=by
   rw[zh_ _ _ _ _ _ (Ne.symm hbq)];exact zo_ (z9_ hlq)
  obtain⟨bx,bm,om,hSA,hbx,hbm⟩:=hS
  have hsv:=hSA.sv
  subst hsv
  have hlx:=(Array.getElem?_eq_some_iff.1 hSA.bx).1
  have hlm:=(Array.getElem?_eq_some_iff.1 hSA.bm).1
  have hkX:=(hA.perm.map Prod.fst).mem_iff (a:=bx)
  have hkX2:=(hA.perm.map Prod.fst).mem_iff (a:=bm)
  refine ko (And.intro @ql_ @e0) ?_
  first|with_reducible refine ks [] (And.intro @ql_ @e0) ?_|refine kp (And.intro @ql_ @e0) ?_
  refine Cw.regionD [bg,bq] [15] 14 6 38 16 _ rfl (by kernel_rfl) (by kernel_rfl) rfl (by kernel_rfl) wb_ (fun hD=> ?_)
  refine kyc ?_
  refine OwD.run [0,1,2,3,4,5,6,7] [true,true,true,true,true,true,true,true,false,false,false,false,false,false,false,false,false] 8 rfl hD (by kernel_rfl) fun k hk=> ?_
  refine kya ?_
  simp(disch:=(first|assumption|omega| (simp only[kk_,kj_,UInt64.reduceToNat];try omega))) only[↓Sx.S0,Sx.S1,Tryz.fx,ql_,Nat.reduceAdd,Nat.reducePow,Int.reducePow,Nat.reduceBEq, ↓reduceIte,UInt8.reduceToNat,UInt16.reduceToNat,UInt32.reduceToNat,UInt64.reduceToNat,Int.reduceToNat,Md.next_sofnil,hixq,rbq,hldq,rbg]
  (with_reducible refine hk _ _ _ ?_);clear hk k
  refine OwD.soft 8 _ hD rfl (by kernel_rfl) (fun E2 hE2=> ?_)
  simp only[List.map_toArray,List.map_cons,List.map_nil,zw_,zC_,zB_]
  refine Ow.nilMeth rfl rfl (aiN_ bx) ?_
  with_reducible refine Ow.nil ?_
  refine⟨_,List.Perm.refl _,fun _ _=>rfl, ?_⟩
  simp only[List.set_cons_zero,List.set_cons_succ,zK_,qu_,qv_]
  refine OwD.run [9] [true,true,true,true,true,true,true,true,true,true,false,false,false,false,false,false,false] 6 rfl hD (by kernel_rfl) fun k hk=> ?_
  refine kya ?_
  simp(disch:=(first|assumption|omega| (simp only[kk_,kj_,UInt64.reduceToNat];try omega))) only[↓Sx.S0,Sx.S1,Tryz.fx,ql_,Nat.reduceAdd,Nat.reducePow,Int.reducePow,Nat.reduceBEq, ↓reduceIte,UInt8.reduceToNat,UInt16.reduceToNat,UInt32.reduceToNat,UInt64.reduceToNat,Int.reduceToNat,Md.next_sofnil,Md.next_sofnil]
  (with_reducible refine hk _ _ _ ?_);clear hk k
  refine OwD.soft 10 _ hD rfl (by kernel_rfl) (fun E3 hE3=> ?_)
  have hNE:=alD_ hE3
  have nk: ∀b,b<w.heap.size→b∉keys X→b∉keys ((bg,Obj.cells #[vL,vH] 60 (0,0)):: (Q++M)++E3):=fun b hb hx hm=>by
   rw[zd_] at hm
   rcases List.mem_append.1 hm with hm|hm
   ·exact hx ((hA.perm.map Prod.fst).mem_iff.2 hm)
   ·exact hNE.not hb hm
  refine Ow.callIV rfl rfl rfl (ak8_ bx) Tryz.call180 (fun w' hw'=>afC_ bx bm om m i _ w' (hSA.old hw' (nk bx hlx hbx) (nk bm hlm hbm))) ?_
  obtain⟨o,ho⟩: ∃o,o=(kD_ m i).1:=⟨_,rfl⟩
  obtain⟨is,his⟩: ∃b,b=(kD_ m i).2:=⟨_,rfl⟩
  have hgs:gaS (kD_ m) (i::r) h=if is=true then(decide (r.length=0),0,r,h++ [o]) else(false,6,i::r,h):=by
   rw[gaS,←ho,←his]
  rw[hgs,←ho,←his,show obKV o=obV o.k o.t from rfl]
  clear hNE nk
  with_reducible refine Ow.nil ?_
  refine⟨_,List.Perm.refl _,fun _ _=>rfl, ?_⟩
  simp only[List.set_cons_zero,List.set_cons_succ,zK_,qu_,qv_]
  refine OwD.run [11,12,13] [true,true,true,true,true,true,true,true,true,true,true,true,true,true,false,false,false] 2 rfl hD (by kernel_rfl) fun k hk=> ?_
  refine kya ?_
  simp(disch:=(first|assumption|omega| (simp only[kk_,kj_,UInt64.reduceToNat];try omega))) only[↓Sx.S0,Sx.S1,Tryz.fx,ql_,Nat.reduceAdd,Nat.reducePow,Int.reducePow,Nat.reduceBEq, ↓reduceIte,UInt8.reduceToNat,UInt16.reduceToNat,UInt32.reduceToNat,UInt64.reduceToNat,Int.reduceToNat,Md.next_sofnil,Sx.tup2_0,Sx.tup2_1]
  (with_reducible refine hk _ _ _ ?_);clear hk k
  refine OwD.real [15,16] rfl hD (by kernel_rfl) (by kernel_rfl) (by kernel_rfl) (by kernel_rfl) (fun r hr=>by simp only[List.mem_cons,List.not_mem_nil,or_false] at hr;rcases hr with rfl|rfl;exact .inl (by simp[keys]);exact .inl (by simp only[keys,List.map_cons,List.map_append,List.mem_cons,List.mem_append];exact .inr (.inl (zm_ hlq)))) ?_
  refine kya ?_
  intro b6 hw6 hbL
  simp only[qu_,qv_]
  refine Ow.store rfl rfl rfl (L':=(bg,Obj.cells #[vL,vH] 60 (0,0)):: (Q++M)++ [(b6,Obj.cells #[vi o.k,vs o.t] 38 (0,0))]) ?_ ?_
  ·simp only[zw_,zC_,zB_]
   have hst:zi_ (some (true,2)) (some (Obj.cells (Value.cells (obV 0 [])) 38 (0,0))) 0 (obV o.k o.t)=some (.cells #[vi o.k,vs o.t] 38 (0,0)):=rfl
   rw[Tryz.ag38,j7_,xw_ hbL,hst,xh_,x9_ hbL]
   exact []
  have hN6:New w.heap.size [(b6,Obj.cells #[vi o.k,vs o.t] 38 (0,0))]:=⟨hw6,trivial⟩
  refine ko @ql_ ?_
  cases is with
  |false=>
   have nf: (!false)=true:=rfl
   first|with_reducible refine ks [] (And.intro @ql_ @nf) ?_|refine kp (And.intro @ql_ @nf) ?_
   refine⟨_,(ke @ql_), ?_⟩
   rw[if_neg (by decide)]
   refine⟨aht_ (hE0.perm hA.perm.symm) hN6,rfl,vL,vH,Q,M++ [(b6,Obj.cells #[vi o.k,vs o.t] 38 (0,0))],(by classical exact List.perm_iff_count.2 fun a=>by simp only[List.count_append,List.count_cons,List.count_nil]<;>omega),hA.q,hA.o.app⟩
  |true=>
   have nt: (!true)=false:=rfl
   first|with_reducible refine ks [] (And.intro @ql_ @nt) ?_|refine kp (And.intro @ql_ @nt) ?_
   have hbM:bg∉keys M:=fun h=>hk bg (.inr h) rfl
   have h6M:b6∉keys M:=fun h=>hbL (by simp only[keys,List.map_cons,List.map_append,List.mem_cons,List.mem_append];exact .inr (.inr h))
   have hb6:bg≠b6:=fun e=>hbL (by simp[keys,e])
   refine Cw.permL (M:=M++ ((bg, .cells #[vL,vH] 60 (0,0)):: (b6, .cells #[vi o.k,vs o.t] 38 (0,0))::Q)) (by classical exact List.perm_iff_count.2 fun a=>by simp only[List.count_append,List.count_cons,List.count_nil]<;>omega) ?_
   have rbg6:=fun Y=>zo_ (w0:=w) (jZ_ (D:=M) (Y:=Y) (o:= .cells #[vL,vH] 60 (0,0)) hbM)
   have rb6:=fun Y=>zo_ (w0:=w) (ZS_ (D:=M) (Y:=Y) (o:= .cells #[vL,vH] 60 (0,0)) (x:= .cells #[vi o.k,vs o.t] 38 (0,0)) h6M hb6)
   refine Cw.regionG [bg,b6] [16,19] 20 (by kernel_rfl) rfl ?_
   refine kyc ?_
   refine OwG.run [0,1,2,3,4,5,6,7,8,9,10,11] [true,true,true,true,true,true,true,true,true,true,true,true,false,false,false,false,false,false,false,false] 8 rfl (by kernel_rfl) (by kernel_rfl) fun k hk=> ?_
   refine kya ?_
   refine kp (And.intro @ql_ (And.intro @Md.next_sofnil (And.intro @rbg6 (And.intro @rb6 (@hvt))))) ?_
   (with_reducible refine hk _ _ _ ?_);clear hk k
   refine OwG.one 12 _ (by kernel_rfl) rfl ?_
   refine Ow.buildSlice (e:=38) (qm_ o).toArray rfl rfl (j6_ o) fun ba hba hwa=> ?_
   with_reducible refine Ow.nil ?_
   refine⟨(qh_ (fun r hr=>by simp only[List.mem_cons,List.not_mem_nil,or_false] at hr;rcases hr with rfl|rfl<;>simp[keys])), ?_⟩
   refine kyb ?_
   refine OwG.one 13 _ (by kernel_rfl) rfl ?_
   refine Ow.appendXG (e:=38) (k:=1) (new:=qm_ o) (X:=M) vH (List.append_assoc _ _ _) rfl rfl rfl Tryz.underlying22 Tryz.ag38 (by kernel_rfl) wb_ (by simp[za_]) Tryz.underlying22 (by intro k h;cases h) hA.o (fun w' hw'=>AppX.one1 (hw'.has ba (.cells (qm_ o).toArray 38 (0,0)) (by simp)) (z8_ _) (xJ_ _)) (by omega) (fun B7 v7 D7 hA7 hB7 hG7 hk17 hk27 hlk7=> ?_)
   have hbD:bg∉keys D7:=XM_ hA7 (by simp[keys]) hbM hk27
   have h6D:b6∉keys D7:=XM_ hA7 (by simp[keys]) h6M hk27
   have lD7:=fun Y=>jZ_ (D:=D7) (Y:=Y) (o:= .cells #[vL,vH] 60 (0,0)) hbD
   have lD8:=fun Y=>jZ_ (D:=D7) (Y:=Y) (o:= .cells #[vt,vH] 60 (0,0)) hbD
   have st7:=afj_ vL vH vt 60 hq2.cell
   have st8:=aga_ vt vH v7 60 hG7.cell
   with_reducible refine Ow.nil ?_
   refine⟨(fun r hr=>by simp only[List.mem_cons,List.not_mem_nil,or_false] at hr;rcases hr with rfl|rfl;exact(zo_ (jZ_ hbD)).trans (zo_ (z9_ (jZ_ hbM))).symm;exact(zo_ (ZS_ h6D hb6)).trans (zo_ (z9_ (ZS_ h6M hb6))).symm), ?_⟩
   refine kyb ?_
   refine OwG.rest [14,15,16,17,18,19] rfl (by kernel_rfl) (by kernel_rfl) ?_
   refine kya ?_
   refine kq @ql_ ?_
   refine Ow.store rfl rfl rfl (ke (And.intro @ql_ (And.intro @lD7 (@st7)))) ?_
   have es7:=fun Y x=>ZE_ (D:=D7) (Y:=Y) (o:= .cells #[vL,vH] 60 (0,0)) (x:=x) hbD
   have es8:=fun Y x=>ZE_ (D:=D7) (Y:=Y) (o:= .cells #[vt,vH] 60 (0,0)) (x:=x) hbD
   simp only[List.cons_append] at*
   rw[es7]
   have u8:=fun Y x=>(xh_ (D7++ ((bg,Obj.cells #[vt,vH] 60 (0,0))::Y)) bg x).trans (congrArg some (es8 Y x))
   have lnt:=fun x=>hq2.len x
   have rbg9:=fun Y=>zo_ (w0:=w) (jZ_ (D:=D7) (Y:=Y) (o:= .cells #[vt,v7] 60 (0,0)) hbD)
   refine ko (And.intro @ql_ (And.intro @lD8 (And.intro @st8 (And.intro @u8 (And.intro @ab9_ (And.intro @rbg9 (@lnt))))))) ?_
   first|with_reducible refine ks [] @ql_ ?_|refine kp @ql_ ?_
   refine⟨_,(ke @ql_), ?_⟩
   rw[if_pos rfl]
   have eb: ((r.length:Int)==0)=decide (r.length=0):=by
    rw[Bool.eq_iff_iff,beq_iff_eq,decide_eq_true_eq];omega
   rw[eb]
   have hkm: ∀c,c∈keys X↔c=bg∨c∈keys Q∨c∈keys M:=fun c=>by
    have:=(hA.perm.map Prod.fst).mem_iff (a:=c)
    simpa only[keys,List.map_cons,List.map_append,List.mem_cons,List.mem_append] using this
   refine⟨⟨fun c hc=> ?_,fun c hc=> ?_⟩,rfl,vt,v7,Q,D7++ [(b6, .cells #[vi o.k,vs o.t] 38 (0,0)),(ba, .cells (qm_ o).toArray 38 (0,0))],(by classical exact List.perm_iff_count.2 fun a=>by simp only[List.count_append,List.count_cons,List.count_nil]<;>omega),hq2, ?_⟩
   ·simp only[keys,List.map_append,List.map_cons,List.map_nil,List.mem_append,List.mem_cons,List.not_mem_nil,or_false] at hc
    rcases hc with hc|rfl|rfl|hc|rfl
    ·rcases hk27 c hc with h1|h1
     ·exact .inl ((hkm c).2 (.inr (.inr h1)))
     ·exact .inr (by omega)
    ·exact .inl ((hkm _).2 (.inl rfl))
    ·exact .inr hw6
    ·exact .inl ((hkm c).2 (.inr (.inl hc)))
    ·exact .inr hwa
   ·simp only[keys,List.map_append,List.map_cons,List.map_nil,List.mem_append,List.mem_cons,List.not_mem_nil,or_false]
    rcases(hkm c).1 hc with h1|h1|h1
    ·exact .inr (.inl h1)
    ·exact .inr (.inr (.inr (.inl h1)))
    ·exact .inl (hk17 c h1)
   ·have:=hG7.app (M:= [(b6,Obj.cells #[vi o.k,vs o.t] 38 (0,0)),(ba, .cells (qm_ o).toArray 38 (0,0))])
    simpa using this
theorem adu_ (sv:Value) (w:World):Rets Tryz.prog 9 #[.pointer none,sv] w (fun v D=>v= .tuple #[.bool true,vi 0]∧D= []):=by
 refine Rets.enterV Tryz.func9 rfl (rs:= [.tmp 4, .tmp 5]) Tryz.results9 Tryz.ntmps9 ?_
 refine kf ?_
 first|with_reducible refine ks [] @ql_ ?_|refine kp @ql_ ?_
 refine Ow.callFV rfl Tryz.call12 (fun w' hw'=>Jx_ w') ?_
 have e0: ((0:Int)==0)=true:=rfl
 refine ko (And.intro @ql_ @e0) ?_
 first|with_reducible refine ks [] @ql_ ?_|refine kp @ql_ ?_
 refine⟨_,(ke @ql_),trivial, ?_⟩
 rfl
end Go.Proofs
end
section
open Go Go.Proofs Go.Sx Go.StP Go.Shelf Go.Sort
namespace Go.Proofs
set_option maxRecDepth 10000
set_option maxHeartbeats 1000000
set_option linter.unusedSimpArgs false
theorem amg_ {X L Y:zb_} (h: (keys (X++L)).Nodup) (hY: ∀p,p∈Y→p∈L): ∀c,c∈keys Y→c∉keys X:=by
 intro c hc hx
 rw[zd_,List.nodup_append] at h
 obtain⟨p,hp,rfl⟩:=List.mem_map.1 hc
 exact h.2.2 _ hx _ (List.mem_map_of_mem (hY p hp)) rfl
theorem SrcK.WX {w0 w:World} {L Y X:zb_} {v:Value} {m:List (IdL×ObK)} (h:SrcK Y v m) (hw:Hp w0 L w) (hY: ∀p,p∈Y→p∈L) (hd: ∀c,c∈keys Y→c∉keys X):SrcW w v m X:=by
 obtain⟨bx,bm,om,h1,h2,h3,h4⟩:=h
 exact⟨bx,bm,om,⟨h1,hw.has _ _ (hY _ h2),hw.has _ _ (hY _ h3),h4⟩,hd _ (List.mem_map_of_mem h2),hd _ (List.mem_map_of_mem h3)⟩
theorem akG_ (a:Bool):q0_ Tryz.prog .neq 4 (.bool a) (.bool a)=some (.bool false):=by
 cases a<;>simp[q0_,eqX,qy_,qr_,Tryz.underlying4]
theorem amY_ (c:UInt8):zM_ .rem (v8 c) (v8 50)=some (v8 (c%50)):=by
 simp only[zM_,v8,x8_, ↓reduceIte]
 rw[if_neg (by decide),UInt8.toNat_mod]
 rfl
structure GaG where
 i:Nat
 k:Nat
 h:List ObK
 vh:Value
 X:zb_
 XH:zb_
 Y:zb_
set_option linter.defProp false
def zl_:=And.intro (And.intro (And.intro (@zv_) (And.intro (@zu_) (@Sx.tup2_0))) (And.intro (@Sx.tup2_1) (And.intro (@wo_) (@kq_)))) (And.intro (And.intro (@VA_) (And.intro (@kU_) (@ve_))) (And.intro (@Jy_) (And.intro (@jB_) (@xA_))))
theorem Zo_ (v vr:Value) (l:List ObK) (r:List IdL) (c:UInt8) (w:World) (hG:GlobE w) (hC:GlobC w) (hv:SlV 2 qm_ jg_ w v l) (hr:SlV 32 jd_ id0 w vr r):
  Rets Tryz.prog 3 #[v,vr,v8 c] w (fun v' D=>v'= .bool true∧D= []):=by
 have lnr:=hr.len
 obtain⟨rb,off,arr,E,fz,hrr⟩:=hr.row
 refine Rets.enterV Tryz.func3 rfl (rs:= [.tmp 6]) Tryz.results3 Tryz.ntmps3 ?_
 refine kf ?_
 first|with_reducible refine ks [] @zl_ ?_|refine kp @zl_ ?_
 refine Ow.callFV rfl Tryz.call4 (fun w' hw'=>j4_ w' (hG.new hw' trivial) (hC.newP hw' trivial)) ?_
 refine ko @zl_ ?_
 first|with_reducible refine ks [] @zl_ ?_|refine kp @zl_ ?_
 refine Ow.callFV rfl Tryz.call5 (fun w' hw'=>V1_ v l w' (SlV.rowX (hv.oldN hw' trivial))) ?_
 cases hgr:Ku_ l with
 |true=>
  refine ko @zl_ ?_
  first|with_reducible refine ks [] @zl_ ?_|refine kp @zl_ ?_
  refine Ow.callFV rfl Tryz.call4 (fun w' hw'=>j4_ w' (hG.new hw' trivial) (hC.newP hw' trivial)) ?_
  refine ko @zl_ ?_
  first|with_reducible refine ks [] @zl_ ?_|refine kp @zl_ ?_
  refine⟨_,(ke @zl_),trivial, ?_⟩
  rfl
 |false=>
 obtain⟨h40,h25⟩:=afp_ hgr
 refine ko @zl_ ?_
 refine Ow.callC rfl rfl Tryz.call6 (fun w' hw'=>Rets.toX (KJ_ v l w' (SlV.rowX (hv.oldN hw' trivial)) (by omega) (fun o ho=>by have:=h25 o ho;omega))) (fun BC vC DC hAC hBC hNC hSC=> ?_)
 obtain⟨rfl,bc,rfl,hcl⟩:=hSC
 clear hAC hNC
 rw[List.append_nil]
 cases bc with
 |true=>
  refine ko @zl_ ?_
  first|with_reducible refine ks [] @zl_ ?_|refine kp @zl_ ?_
  refine Ow.callFV rfl Tryz.call4 (fun w' hw'=>j4_ w' (hG.new hw' trivial) (hC.newP hw' trivial)) ?_
  refine ko @zl_ ?_
  first|with_reducible refine ks [] @zl_ ?_|refine kp @zl_ ?_
  refine⟨_,(ke @zl_),trivial, ?_⟩
  rfl
 |false=>
 replace hcl:=hcl rfl
 by_cases h30:40<r.length
 ·have d1:decide ((40:Int)< (r.length:Int))=true:=decide_eq_true (by omega)
  refine ko (And.intro @zl_ (And.intro @lnr (@d1))) ?_
  first|with_reducible refine ks [] @zl_ ?_|refine kp @zl_ ?_
  refine Ow.callFV rfl Tryz.call4 (fun w' hw'=>j4_ w' (hG.new hw' trivial) (hC.newP hw' trivial)) ?_
  refine ko @zl_ ?_
  first|with_reducible refine ks [] @zl_ ?_|refine kp @zl_ ?_
  refine⟨_,(ke @zl_),trivial, ?_⟩
  rfl
 have d1:decide ((40:Int)< (r.length:Int))=false:=decide_eq_false (by omega)
 refine ko (And.intro @zl_ (And.intro @lnr (@d1))) ?_
 first|with_reducible refine ks [] @zl_ ?_|refine kp @zl_ ?_
 refine Ow.callC rfl rfl Tryz.call7 (fun w' hw'=>ado_ vr r w' (hr.oldN hw' trivial) (by omega)) (fun B1 v1 X1 hA1 hB1 hN1 hS1=> ?_)
 obtain⟨bg,rfl,hP1⟩:=hS1
 have hN1':=hN1.mono hB1
 rw[List.nil_append]
 refine ko @zl_ ?_
 first|with_reducible refine ks [] @zl_ ?_|refine kp @zl_ ?_
 refine Ow.callC rfl rfl Tryz.call8 (fun w' hw'=>ahp_ v l w' (SlV.rowX (hv.oldN hw' hN1')) (by omega) (fun o ho=>by have:=h25 o ho;omega)) (fun B2 v2 D2 hA2 hB2 hN2 hS2=> ?_)
 obtain⟨vL,vI,rfl,hgL,hgI⟩:=hS2
 have hN2':=hN2.mono hB2
 refine ko @zl_ ?_
 refine Ow.alloc rfl rfl ajj_ fun b6 hb6 hw6=> ?_
 simp only[za_,List.nil_append,List.cons_append]
 refine Ow.permL (M:=(b6, .cells #[.slice none 0 0, .slice none 0 0] 29 (0,0)):: (X1++D2)) (by classical exact List.perm_iff_count.2 fun a=>by simp only[List.count_append,List.count_cons,List.count_nil]<;>omega) ?_
 have stf:=J9_ (.slice none 0 0) (.slice none 0 0) vL vI 29 (Vy_ hgL).1 (Vy_ hgI).1
 refine ko (And.intro @zl_ @stf) ?_
 refine Cw.permL (M:=X1++ ((b6, .cells #[vL,vI] 29 (0,0))::D2)) (by classical exact List.perm_iff_count.2 fun a=>by simp only[List.count_append,List.count_cons,List.count_nil]<;>omega) ?_
 have hNs:New w.heap.size ((b6,Obj.cells #[vL,vI] 29 (0,0))::D2):=⟨hw6,hN2'⟩
 have hms: (b6,Obj.cells #[vL,vI] 29 (0,0))∈ ((b6,Obj.cells #[vL,vI] 29 (0,0))::D2):=List.mem_cons_self
 have hmL: ∀p,p∈D2→p∈ ((b6,Obj.cells #[vL,vI] 29 (0,0))::D2):=fun p hp=>List.mem_cons_of_mem _ hp
 have hgL':=hgL.mono hmL
 have hgI':=hgI.mono hmL
 clear hgL hgI hmL hN2' hN2 hb6 hA1 hB1 hN1 hA2 hB2 hw6
 generalize (b6,Obj.cells #[vL,vI] 29 (0,0))::D2=DS at*
 first|with_reducible refine ks [] @zl_ ?_|refine kp @zl_ ?_
 obtain⟨n,hnn⟩: ∃n,n=(c%50).toNat:=⟨_,rfl⟩
 have hrm:=amY_ c
 have hn50:n<50:=by rw[hnn,UInt8.toNat_mod];exact Nat.mod_lt _ (by decide)
 have hes:=agl_ hcl
 refine Cw.loopG (G:=GaG) [39,40,41,42,43,47,48,49,50,46,51,52,12,13,53,54,55,56,14,15,57,58,60,61,62,63,64,65,59,66,67,16,17,68,69,70,71,72,10,73,74,9,75,76,77,78,79,80,81,82,83,84,85,86,87,88,89,90,91,92,93,94,95,96,97,98,99,100,101,102,6,44,45,11] (fun g=> [(11,vi g.i),(9,vi g.k),(10,g.vh)]) (fun g=>g.X++ (g.XH++g.Y)) (fun g=>g.i≤n∧g.k≤r.length∧g.h.length≤g.k∧New w.heap.size g.X∧New w.heap.size g.XH∧New w.heap.size g.Y∧GaP bg (r.drop g.k) g.h g.X∧Gr g.XH 38 2 g.vh g.h.length (g.h.map qm_).flatten∧(∀p,p∈DS→p∈g.Y)) (fun g=>n - g.i) ⟨0,0,[], .slice none 0 0,X1,[],DS⟩ rfl rfl ?_ ?_
 ·exact⟨Nat.zero_le _,Nat.zero_le _,Nat.le_refl _,hN1',trivial,hNs,hP1,Gr.nl,fun p hp=>hp⟩
 intro g j hg
 refine kv ?_
 clear hN1' hNs hP1
 obtain⟨i,k,h,vh,X,XH,Y⟩:=g
 simp only at hg ⊢
 obtain⟨hi,hk,hhk,hNX,hNH,hNY,hP,hGH,hDS⟩:=hg
 have hNN:New w.heap.size (X++ (XH++Y)):=hNX.app (hNH.app hNY)
 by_cases hlt:i<n
 ·have d2:decide ((i:Int)< ((c%50).toNat:Int))=true:=decide_eq_true (by omega)
  first|with_reducible refine ks [] (And.intro @zl_ (And.intro @hrm (@d2))) ?_|refine kp (And.intro @zl_ (And.intro @hrm (@d2))) ?_
  refine Ow.callC rfl rfl Tryz.call10 (fun w' hw'=>abW_ v l w' (hG.new hw' hNN) (SlV.rowX (hv.oldN hw' hNN)) (by omega)) (fun B4 v4 D4 hA4 hB4 hN4 hS4=> ?_)
  have hN4':=hN4.mono hB4
  refine ko @zl_ ?_
  refine Ow.callX (X:=X) (Y:=XH++Y++D4) (List.append_assoc _ _ _) rfl rfl Tryz.call9 (fun w' hw' hX' hn'=>W9_ bg (r.drop k) h v4 (vI_ l) X w' hX' hn' hP (hS4.WX hw' (fun p hp=>by simp[hp]) (amg_ (L:=XH++Y++D4) (by have:=hw'.nodup;rwa [List.append_assoc] at this) (fun p hp=>by simp[hp]))) (by rw[List.length_drop];omega) (by omega)) (fun v5 X5 hC5 hS5=> ?_)
  obtain⟨rfl,hP5⟩:=hS5
  rw[hes] at hP5 ⊢
  have hN5:New w.heap.size X5:=((Ext.of_new hNX).came0 hC5).new0
  have hNR:New w.heap.size (XH++Y++D4):=(hNH.app hNY).app hN4'
  clear hP hC5 hA4 hB4 hN4
  by_cases hkl:k<r.length
  ·have hd:r.drop k=r.getD k id0::r.drop (k+1):=by
    rw[List.getD_eq_getElem?_getD,List.getElem?_eq_getElem hkl]
    exact List.drop_eq_getElem_cons hkl
   have ix:=hrr.idx true k hkl
   have ldx:=QE_ hrr hkl
   rw[hd] at hP5 ⊢
   generalize r.getD k id0=x at*
   have hxh:=x.h
   obtain⟨o,ho⟩: ∃o,o=(srcD l x).1:=⟨_,rfl⟩
   obtain⟨is,his⟩: ∃b,b=(srcD l x).2:=⟨_,rfl⟩
   have hgs:gaS (srcD l) (x::r.drop (k+1)) h=if is=true then(decide ((r.drop (k+1)).length=0),0,r.drop (k+1),h++ [o]) else(false,6,x::r.drop (k+1),h):=by
    rw[gaS,←ho,←his]
   rw[hgs] at hP5 ⊢
   have dg:decide ((r.length:Int)≤ (k:Int))=false:=decide_eq_false (by omega)
   have nf: (!false)=true:=rfl
   have nt: (!true)=false:=rfl
   have hrl:=hrr.lt (by omega)
   have hNN5:New w.heap.size (X5++ (XH++Y++D4)):=hN5.app hNR
   have rdr:zk_ w (X5++ (XH++Y++D4)) rb=some (.cells arr E fz):=by rw[z4_ (hNN5.not hrl)];exact hrr.has (by omega)
   have hff:=List.length_filter_le rdK l
   refine ko @zl_ ?_
   first|with_reducible refine ks [] (And.intro @zl_ (And.intro @lnr (And.intro @dg (@nf)))) ?_|refine kp (And.intro @zl_ (And.intro @lnr (And.intro @dg (@nf)))) ?_
   refine Cw.world fun wz hwz=> ?_
   have hnd:=hwz.nodup
   clear hwz wz
   have rd6:zk_ w (X5++ (XH++Y++D4)) b6=some (.cells #[vL,vI] 29 (0,0)):=zo_ (qC_ hnd (by simp[hDS _ hms]))
   have hk6:b6∈keys (X5++ (XH++Y++D4)):=List.mem_map_of_mem (f:=Prod.fst) (show(b6,Obj.cells #[vL,vI] 29 (0,0))∈_ by simp[hDS _ hms])
   refine Cw.regionD [b6,rb] [10] 9 16 38 11 _ rfl (by kernel_rfl) (by kernel_rfl) rfl (by kernel_rfl) wb_ (fun hD=> ?_)
   refine kyc ?_
   refine OwD.run [0,1,2,3,4] [true,true,true,true,true,false,false,false,false,false,false,false] 6 rfl hD (by kernel_rfl) fun k hk=> ?_
   refine kya ?_
   simp(disch:=(first|assumption|omega| (simp only[kk_,kj_,UInt64.reduceToNat];try omega))) only[↓Sx.S0,Sx.S1,Tryz.fx,zl_,Nat.reduceAdd,Nat.reducePow,Int.reducePow,Nat.reduceBEq, ↓reduceIte,UInt8.reduceToNat,UInt16.reduceToNat,UInt32.reduceToNat,UInt64.reduceToNat,Int.reduceToNat,Md.next_sofnil,rd6,ix,rdr,ldx]
   (with_reducible refine hk _ _ _ ?_);clear hk k
   refine OwD.soft 5 _ hD rfl (by kernel_rfl) (fun E2 hE2=> ?_)
   refine Ow.callFV rfl Tryz.call11 (fun w' hw'=>afI_ vL vI (l.filter rdK) x w' (SlV.rowX (ZD_ hgL' (fun b o hm=>hw'.has b o (by simp[hDS _ hm])))) (SlV.rowX (akU_ hgI' (fun b o hm=>hw'.has b o (by simp[hDS _ hm])))) (by omega)) ?_
   rw[akr_,←ho,←his,show obKV o=obV o.k o.t from rfl]
   with_reducible refine Ow.nil ?_
   refine⟨_,List.Perm.refl _,fun _ _=>rfl, ?_⟩
   simp only[List.set_cons_zero,List.set_cons_succ,zK_,qu_,qv_]
   refine OwD.run [6,7,8] [true,true,true,true,true,true,true,true,true,false,false,false] 2 rfl hD (by kernel_rfl) fun k hk=> ?_
   refine kya ?_
   simp(disch:=(first|assumption|omega| (simp only[kk_,kj_,UInt64.reduceToNat];try omega))) only[↓Sx.S0,Sx.S1,Tryz.fx,zl_,Nat.reduceAdd,Nat.reducePow,Int.reducePow,Nat.reduceBEq, ↓reduceIte,UInt8.reduceToNat,UInt16.reduceToNat,UInt32.reduceToNat,UInt64.reduceToNat,Int.reduceToNat,Md.next_sofnil,Sx.tup2_0,Sx.tup2_1]
   (with_reducible refine hk _ _ _ ?_);clear hk k
   refine OwD.real [10,11] rfl hD (by kernel_rfl) (by kernel_rfl) (by kernel_rfl) (by kernel_rfl) (fun r hr=>by simp only[List.mem_cons,List.not_mem_nil,or_false] at hr;rcases hr with rfl|rfl;exact .inl hk6;exact .inr hrl) ?_
   refine kya ?_
   intro b16 hw16 hbL
   simp only[qu_,qv_]
   refine Ow.store rfl rfl rfl (L':=X5++ (XH++Y++D4)++ [(b16,Obj.cells #[vi o.k,vs o.t] 38 (0,0))]) ?_ ?_
   ·simp only[zw_,zC_,zB_]
    have hst:zi_ (some (true,2)) (some (Obj.cells (Value.cells (obV 0 [])) 38 (0,0))) 0 (obV o.k o.t)=some (.cells #[vi o.k,vs o.t] 38 (0,0)):=rfl
    rw[Tryz.ag38,j7_,xw_ hbL,hst,xh_,x9_ hbL]
    exact []
   have hN16:New w.heap.size [(b16,Obj.cells #[vi o.k,vs o.t] 38 (0,0))]:=⟨hw16,trivial⟩
   refine ko @zl_ ?_
   cases is with
   |false=>
    rw[if_neg (by decide)] at hP5 ⊢
    have hG5:=hGH
    generalize hvh:vh=vh5 at*
    have nb:=akG_ false
    have ne: ((6:Int) !=6)=false:=rfl
    first|with_reducible refine ks [] (And.intro @zl_ (And.intro @nb (@ne))) ?_|refine kp (And.intro @zl_ (And.intro @nb (@ne))) ?_
    obtain⟨vL5,vH5,Q5,M5,hA5⟩:=hP5
    have hbm: (bg,Obj.cells #[vL5,vH5] 60 (0,0))∈X5:=hA5.perm.mem_iff.2 List.mem_cons_self
    have hM5: ∀p,p∈M5→p∈X5:=fun p hp=>hA5.perm.mem_iff.2 (List.mem_cons_of_mem _ (List.mem_append_right _ hp))
    have lnq:=fun x=>hA5.q.len x
    refine Ow.callFV rfl Tryz.call12 (fun w' hw'=>xs_ bg ((x::r.drop (k+1)).length) vL5 vH5 w' (hw'.has bg (.cells #[vL5,vH5] 60 (0,0)) (by simp[hbm])) lnq) ?_
    have el: ((((((x::r.drop (k+1)).length:Nat)):Int)) !=((r.length:Int) - ((k:Int))))=false:=by
     have: (((x::r.drop (k+1)).length:Nat):Int)=(r.length:Int) - ((k:Int)):=by(rw[List.length_cons,List.length_drop];omega)
     rw[this];simp
    refine ko (And.intro @zl_ (And.intro @lnr (@el))) ?_
    refine Ow.callC rfl rfl Tryz.call14 (fun w' hw'=>wT_ bg vL5 vH5 (h) w' (hw'.has bg (.cells #[vL5,vH5] 60 (0,0)) (by simp[hbm])) (hA5.o.slM (fun b o hm=>hw'.has b o (by simp[hM5 _ hm])) rfl rfl z8_) (by omega)) (fun B9 v9 D9 hA9 hB9 hN9 hS9=> ?_)
    have hN9':=hN9.mono hB9
    refine ko @zl_ ?_
    refine Ow.callFV rfl Tryz.call13 (fun w' hw'=>va_ v9 vh5 (h) w' (ZD_ hS9 (fun b o hm=>hw'.has b o (by simp[hm]))) (hG5.slM (fun b o hm=>hw'.has b o (by simp[hm])) rfl rfl z8_) (by omega)) ?_
    refine ko (And.intro @zl_ @nt) ?_
    have hNY5:New w.heap.size (Y++ (D4++ ([(b16,Obj.cells #[vi o.k,vs o.t] 38 (0,0))]++D9))):=hNY.app (hN4'.app (hN16.app hN9'))
    exact Again.mk ⟨i+1,k,h,vh5,X5,XH,Y++ (D4++ ([(b16,Obj.cells #[vi o.k,vs o.t] 38 (0,0))]++D9))⟩ (by show n - (i+1)<n - i;omega) ⟨hlt,hk,hhk,hN5,hNH,hNY5,by show GaP bg (r.drop k) h X5;rw[hd];exact⟨vL5,vH5,Q5,M5,hA5⟩,hG5,fun p hp=>List.mem_append_left _ (hDS p hp)⟩ (by simp[List.append_assoc]) rfl
   |true=>
    rw[if_pos rfl] at hP5 ⊢
    have r16:zk_ w (X5++ (XH++Y++D4)++ [(b16,Obj.cells #[vi o.k,vs o.t] 38 (0,0))]) b16=some (.cells #[vi o.k,vs o.t] 38 (0,0)):=zo_ (@xw_ _ [] _ _ hbL)
    first|with_reducible refine ks [] (And.intro @zl_ @r16) ?_|refine kp (And.intro @zl_ @r16) ?_
    refine Ow.buildSlice (e:=38) (qm_ o).toArray rfl rfl (j6_ o) fun ba hba hwa=> ?_
    refine Ow.permL (M:=XH++ (X5++ (Y++ (D4++ [(b16, .cells #[vi o.k,vs o.t] 38 (0,0)),(ba, .cells (qm_ o).toArray 38 (0,0))])))) (by classical exact List.perm_iff_count.2 fun a=>by simp only[List.count_append,List.count_cons,List.count_nil]<;>omega) ?_
    refine ko @zl_ ?_
    refine Ow.appendXG (e:=38) (k:=1) (new:=qm_ o) (X:=XH) vh rfl rfl rfl rfl Tryz.underlying22 Tryz.ag38 (by kernel_rfl) wb_ (by simp[za_]) Tryz.underlying22 (by intro k h;cases h) hGH (fun w' hw'=>AppX.one1 (hw'.has ba (.cells (qm_ o).toArray 38 (0,0)) (by simp)) (z8_ _) (xJ_ _)) (by omega) (fun B7 vh5 D7 hA7 hB7 hG7 hk17 hk27 hlk7=> ?_)
    have hN7:New w.heap.size D7:=New.of_le fun c hc=>by
     rcases hk27 c hc with h1|h1
     ·exact hNH.le c h1
     ·omega
    have hG5:Gr D7 38 2 vh5 (h++ [o]).length ((h++ [o]).map qm_).flatten:=by simpa using hG7
    refine Ow.permL (M:=X5++ (D7++ (Y++ (D4++ [(b16, .cells #[vi o.k,vs o.t] 38 (0,0)),(ba, .cells (qm_ o).toArray 38 (0,0))])))) (by classical exact List.perm_iff_count.2 fun a=>by simp only[List.count_append,List.count_cons,List.count_nil]<;>omega) ?_
    have eb: ((k:Int)+1==(r.length:Int))=decide ((r.drop (k+1)).length=0):=by
     rw[Bool.eq_iff_iff,beq_iff_eq,decide_eq_true_eq,List.length_drop];omega
    have nb:=akG_ (decide ((r.drop (k+1)).length=0))
    have ne: ((0:Int) !=0)=false:=rfl
    refine ko @zl_ ?_
    first|with_reducible refine ks [] (And.intro @zl_ (And.intro @lnr (And.intro @eb (And.intro @nb (@ne))))) ?_|refine kp (And.intro @zl_ (And.intro @lnr (And.intro @eb (And.intro @nb (@ne))))) ?_
    obtain⟨vL5,vH5,Q5,M5,hA5⟩:=hP5
    have hbm: (bg,Obj.cells #[vL5,vH5] 60 (0,0))∈X5:=hA5.perm.mem_iff.2 List.mem_cons_self
    have hM5: ∀p,p∈M5→p∈X5:=fun p hp=>hA5.perm.mem_iff.2 (List.mem_cons_of_mem _ (List.mem_append_right _ hp))
    have lnq:=fun x=>hA5.q.len x
    refine Ow.callFV rfl Tryz.call12 (fun w' hw'=>xs_ bg ((r.drop (k+1)).length) vL5 vH5 w' (hw'.has bg (.cells #[vL5,vH5] 60 (0,0)) (by simp[hbm])) lnq) ?_
    have el: ((((((r.drop (k+1)).length:Nat)):Int)) !=((r.length:Int) - ((k:Int)+1)))=false:=by
     have: (((r.drop (k+1)).length:Nat):Int)=(r.length:Int) - ((k:Int)+1):=by(rw[List.length_drop];omega)
     rw[this];simp
    refine ko (And.intro @zl_ (And.intro @lnr (@el))) ?_
    refine Ow.callC rfl rfl Tryz.call14 (fun w' hw'=>wT_ bg vL5 vH5 (h++ [o]) w' (hw'.has bg (.cells #[vL5,vH5] 60 (0,0)) (by simp[hbm])) (hA5.o.slM (fun b o hm=>hw'.has b o (by simp[hM5 _ hm])) rfl rfl z8_) (by(rw[List.length_append,List.length_singleton];omega))) (fun B9 v9 D9 hA9 hB9 hN9 hS9=> ?_)
    have hN9':=hN9.mono hB9
    refine ko @zl_ ?_
    refine Ow.callFV rfl Tryz.call13 (fun w' hw'=>va_ v9 vh5 (h++ [o]) w' (ZD_ hS9 (fun b o hm=>hw'.has b o (by simp[hm]))) (hG5.slM (fun b o hm=>hw'.has b o (by simp[hm])) rfl rfl z8_) (by(rw[List.length_append,List.length_singleton];omega))) ?_
    refine ko (And.intro @zl_ @nt) ?_
    have hNY5:New w.heap.size (Y++ (D4++ ([(b16,Obj.cells #[vi o.k,vs o.t] 38 (0,0)),(ba, .cells (qm_ o).toArray 38 (0,0))]++D9))):=hNY.app (hN4'.app (New.app ⟨hw16,hwa,trivial⟩ hN9'))
    exact Again.mk ⟨i+1,k+1,h++ [o],vh5,X5,D7,Y++ (D4++ ([(b16,Obj.cells #[vi o.k,vs o.t] 38 (0,0)),(ba, .cells (qm_ o).toArray 38 (0,0))]++D9))⟩ (by show n - (i+1)<n - i;omega) ⟨hlt,hkl,by show(h++ [o]).length≤k+1;rw[List.length_append,List.length_singleton];omega,hN5,hN7,hNY5,⟨vL5,vH5,Q5,M5,hA5⟩,hG5,fun p hp=>List.mem_append_left _ (hDS p hp)⟩ (by simp[List.append_assoc]) rfl
  ·have hd:r.drop k= []:=List.drop_eq_nil_of_le (by omega)
   rw[hd,gaS] at hP5 ⊢
   have dg:decide ((r.length:Int)≤ (k:Int))=true:=decide_eq_true (by omega)
   have nt: (!true)=false:=rfl
   have hG5:=hGH
   generalize hvh:vh=vh5 at*
   have nb:=akG_ true
   have ne: ((0:Int) !=0)=false:=rfl
   refine ko @zl_ ?_
   first|with_reducible refine ks [] (And.intro @zl_ (And.intro @lnr (And.intro @dg (And.intro @nt (And.intro @nb (@ne)))))) ?_|refine kp (And.intro @zl_ (And.intro @lnr (And.intro @dg (And.intro @nt (And.intro @nb (@ne)))))) ?_
   obtain⟨vL5,vH5,Q5,M5,hA5⟩:=hP5
   have hbm: (bg,Obj.cells #[vL5,vH5] 60 (0,0))∈X5:=hA5.perm.mem_iff.2 List.mem_cons_self
   have hM5: ∀p,p∈M5→p∈X5:=fun p hp=>hA5.perm.mem_iff.2 (List.mem_cons_of_mem _ (List.mem_append_right _ hp))
   have lnq:=fun x=>hA5.q.len x
   refine Ow.callFV rfl Tryz.call12 (fun w' hw'=>xs_ bg (0) vL5 vH5 w' (hw'.has bg (.cells #[vL5,vH5] 60 (0,0)) (by simp[hbm])) lnq) ?_
   have el: (((((0:Nat)):Int)) !=((r.length:Int) - ((k:Int))))=false:=by
    have: ((0:Nat):Int)=(r.length:Int) - ((k:Int)):=by omega
    rw[this];simp
   refine ko (And.intro @zl_ (And.intro @lnr (@el))) ?_
   refine Ow.callC rfl rfl Tryz.call14 (fun w' hw'=>wT_ bg vL5 vH5 (h) w' (hw'.has bg (.cells #[vL5,vH5] 60 (0,0)) (by simp[hbm])) (hA5.o.slM (fun b o hm=>hw'.has b o (by simp[hM5 _ hm])) rfl rfl z8_) (by omega)) (fun B9 v9 D9 hA9 hB9 hN9 hS9=> ?_)
   have hN9':=hN9.mono hB9
   refine ko @zl_ ?_
   refine Ow.callFV rfl Tryz.call13 (fun w' hw'=>va_ v9 vh5 (h) w' (ZD_ hS9 (fun b o hm=>hw'.has b o (by simp[hm]))) (hG5.slM (fun b o hm=>hw'.has b o (by simp[hm])) rfl rfl z8_) (by omega)) ?_
   refine ko (And.intro @zl_ @nt) ?_
   have hNY5:New w.heap.size (Y++ (D4++D9)):=hNY.app (hN4'.app hN9')
   exact Again.mk ⟨i+1,k,h,vh5,X5,XH,Y++ (D4++D9)⟩ (by show n - (i+1)<n - i;omega) ⟨hlt,hk,hhk,hN5,hNH,hNY5,by show GaP bg (r.drop k) h X5;rw[hd];exact⟨vL5,vH5,Q5,M5,hA5⟩,hG5,fun p hp=>List.mem_append_left _ (hDS p hp)⟩ (by simp[List.append_assoc]) rfl
 ·obtain rfl:i=n:=by omega
  have d2:decide ((i:Int)< ((c%50).toNat:Int))=false:=decide_eq_false (by omega)
  first|with_reducible refine ks [] (And.intro @zl_ (And.intro @hrm (@d2))) ?_|refine kp (And.intro @zl_ (And.intro @hrm (@d2))) ?_
  refine Ow.callC rfl rfl Tryz.call10 (fun w' hw'=>abW_ v l w' (hG.new hw' hNN) (SlV.rowX (hv.oldN hw' hNN)) (by omega)) (fun B4 v4 D4 hA4 hB4 hN4 hS4=> ?_)
  have hN4':=hNN.app (hN4.mono hB4)
  refine ko @zl_ ?_
  refine Ow.callFV rfl Tryz.call9 (fun w' hw'=>adu_ v4 w') ?_
  refine ko @zl_ ?_
  first|with_reducible refine ks [] @zl_ ?_|refine kp @zl_ ?_
  refine Ow.callFV rfl Tryz.call4 (fun w' hw'=>j4_ w' (hG.new hw' hN4') (hC.newP hw' hN4')) ?_
  have e0: ((0:Int)==0)=true:=rfl
  refine ko (And.intro @zl_ @e0) ?_
  refine Ow.callFV rfl Tryz.call14 (fun w' hw'=>aeH_ w') ?_
  have ln0: ∀x,v4_ (.sl x) (.slice none 0 0)=some (vi 0):=fun x=>rfl
  refine ko (And.intro @zl_ (And.intro @ln0 (@e0))) ?_
  refine Ow.callFV rfl Tryz.call12 (fun w' hw'=>Jx_ w') ?_
  refine ko (And.intro @zl_ @e0) ?_
  first|with_reducible refine ks [] @zl_ ?_|refine kp @zl_ ?_
  refine⟨_,(ke @zl_),hN4', ?_⟩
  rfl
end Go.Proofs
end
namespace Go.Sx
open Go Go.ChangeShapes Go.WideShapes Go.RowKit
theorem Hp.same0 {W W':World} (h:Hp W [] W') {b:Nat} (hb:b<W.heap.size):W'.heap[b]? =W.heap[b]? :=h.old b hb (fun hm=>by cases hm)
theorem Hp.kept {W W':World} (h:Hp W [] W') (may:MemPlace→Prop):W.keptBut W' may:=by
 refine⟨h.os,h.output,fun i hi=> ?_⟩
 rw[h.same0 hi]
 cases ho:W.heap[i]? with
 |none=>rfl
 |some o=>
  cases o<;>first
   |exact⟨rfl,rfl,rfl,fun _ _=>rfl⟩
   |exact .inr ⟨rfl,rfl⟩
   |rfl
theorem Hp.sameAt {W W':World} (h:Hp W [] W') {p:MemPlace} (hp:p.block<W.heap.size):W.sameAt W' p:=by
 cases p with
 |cell b off=>
  have:=h.same0 (b:=b) hp
  simp only[World.sameAt,World.cell?,this]
 |map b=>exact h.same0 hp
theorem Hp.frozen {W W':World} (h:Hp W [] W') {a:Addr} (ha:a.block<W.heap.size):W'.frozen? a=W.frozen? a:=by
 simp only[World.frozen?,h.same0 ha]
section
variable {H:Type} {enc:TypeId×Value→H} {P:Program}
theorem wE_ (hl:laidOutB P=true) {W W':World} {sp:Nat→Bool} (hp:Hp W [] W'): ∀ {ts:List TypeId} {vs:List Value} {ds:List (DataW H)} {ps:List MemPlace},
  (∀t∈ts,P.readableRec t=true∧t<P.types.size)→(∀p∈ps,p.block<W.heap.size)→(∀p∈ps,sp p.block=true)→
  DataW.TrodAll enc P W 0 (fun _=>true) true ts vs ds ps→DataW.TrodAll enc P W' 0 sp true ts vs ds ps
 | [],_,_,_,_,_,_,h=>by
  obtain⟨rfl,rfl,rfl⟩:=trodAll_nil h
  exact trodAll_mk0
 |t::ts,_,_,_,ht,hlt,hs,h=>by
  obtain⟨v,vs,d,ds,p,q,rfl,rfl,rfl,h1,h2⟩:=trodAll_cons h
  have hlt1: ∀x∈p,x.block<W.heap.size:=fun x hx=>hlt x (List.mem_append_left _ hx)
  exact trodAll_cons_mk (WideElems.Trod_stays hl (ht t List.mem_cons_self).1 (ht t List.mem_cons_self).2 h1 (fun x hx=>hp.sameAt (hlt1 x hx)) (fun x hx=>hs x (List.mem_append_left _ hx)))
   (wE_ hl hp (fun u hu=>ht u (List.mem_cons_of_mem _ hu)) (fun x hx=>hlt x (List.mem_append_right _ hx)) (fun x hx=>hs x (List.mem_append_right _ hx)) h2)
theorem afr_ {f:Func} {s:ChangeSpec} {W W':World} {args:Array Value} {ds gs:List (DataW H)} {before:List MemPlace} {tb:TypeId} (hl:laidOutB P=true)
  (hW:DataW.Whole enc P f.params.toList s.vars false W args.toList ds gs before) (hv:s.vars= []) (hpar: ∀t∈f.params.toList,P.readableRec t=true∧t<P.types.size)
  (hr:f.resultTypes= #[tb]) (htb:P.underlying tb=some .bool) (hfn:s.fn H ds={results:= [.lit (.bool true)],args:=ds}) (hp:Hp W [] W'):
  s.post enc P f false true false false W args (.bool true) W':=by
 have hlt:=hW.lt
 have hW0:=hW
 obtain⟨p,q,hA,hV,rfl,hz,hn⟩:=hW
 rw[hv] at hV
 obtain⟨rfl,rfl⟩:=trodVars_none hV
 rw[List.append_nil] at hW0 hlt hz
 have hargs: ∀sp:Nat→Bool,(∀x∈p,sp x.block=true)→DataW.TrodAll enc P W' 0 sp true f.params.toList args.toList (s.fn H (ds++ [])).args p:=fun sp hs=>by
  rw[List.append_nil,hfn]
  exact wE_ hl hp hpar hlt hs hA
 have hvars: ∀sp:Nat→Bool,DataW.TrodVars enc P W' sp s.vars (s.fn H (ds++ [])).vars []:=fun sp=>by
  rw[List.append_nil,hfn,hv];rfl
 have hres: ∀ (b:Nat) (sp:Nat→Bool) (hd:Bool),DataW.TrodAll enc P W' b sp hd f.resultTypes.toList ((Value.bool true).resultList f.resultTypes.size) (s.fn H (ds++ [])).results []:=fun b sp hd=>by
  rw[List.append_nil,hfn,hr]
  exact trodAll_cons_mk (shut_bool htb true) trodAll_mk0
 have hold: ∀x∈p,(fun b=>decide (b<W.heap.size)) x.block=true:=fun x hx=>by simpa using hlt x hx
 refine⟨ds,[],p,[],p,[],hW0,hres _ _ _,hargs _ hold,hvars _,hp.kept _,fun _=> ?_⟩
 refine⟨ok_one hr rfl (okWide_bool_mk htb true),_,_,([]++p)++ [],⟨[]++p,[],trodAll_append (hargs _ (fun _ _=>rfl)) (hres _ _ _),hvars _,rfl, ?_,fun h=>by cases h⟩, ?_⟩
 ·intro b off hx
  have hx':MemPlace.cell b off∈p:=by simpa using hx
  rw[hp.frozen (hlt _ hx')]
  exact hz b off hx'
 ·intro x hx _
  simpa using hx
end
section
variable {P:Program} {W:World} {name:String} {k:IntKind} {zs:List Int}
theorem ky_ {t e:TypeId} {g n:Nat} (hg:P.globalNamed name=some g) (hty: (P.globals[g]?).map (·.type)=some t) (ht:P.underlying t=some (.array n e)) (he:P.underlying e=some (.int k)) (hce:P.cellsOf e=1) (hct:P.cellsOf t=n):
  ∀ {laid:List (String×DataW Unit)} {ps:List MemPlace},DataW.LaidVars P W laid ps→(name,Lib.tabData k zs)∈laid→Lib.TabIs P W name k zs
 | [],_,_,hm=>by cases hm
 | (n',d')::rest,ps,h,hm=>by
  obtain⟨g',t',cs,fuel,p,q,hg',ht',hvar,hd,hr,-⟩:=h
  rcases List.mem_cons.1 hm with hm|hm
  ·cases hm
   obtain rfl:=Option.some.inj (hg.symm.trans hg')
   obtain rfl:=Option.some.inj (hty.symm.trans ht')
   unfold Lib.TabIs
   rw[hvar,←Lib.cells_of_tab ht he hce hct hd]
  ·exact ky_ hg hty ht he hce hct hr hm
theorem vX_ {g:Nat} (hg:P.globalNamed name=some g) (h:Lib.TabIs P W name k zs): ∃e f,W.heap[g]? =some (.cells (zs.map fun z=>Value.int k z).toArray e f):=by
 unfold Lib.TabIs at h
 simp only[World.var?,hg,Option.bind_some] at h
 split at h
 ·rename_i cs e f hb
  cases h
  exact⟨e,f,hb⟩
 ·cases h
end
section
variable {H:Type} {enc:TypeId×Value→H} {P:Program}
end
end Go.Sx
namespace Go.Sx
open Go
section
variable {P:Program}
theorem ag7_ {fits:TypeId→Bool} {d:Nat} {e:TypeId} {count off n:Nat} (h:rowAt P fits d e count off n=true):off≤count*P.cellsOf e:=by
 cases d with
 |zero=>simp[rowAt] at h
 |succ d=>
  unfold rowAt at h
  simp only at h
  split at h
  ·cases h
  ·rename_i hs
   have hs':0<P.cellsOf e:=Nat.pos_of_ne_zero hs
   have hd:=Nat.div_add_mod off (P.cellsOf e)
   have hm:=Nat.mod_lt off hs'
   rw[Bool.or_eq_true] at h
   rcases h with h|h
   ·simp only[Bool.and_eq_true,beq_iff_eq,decide_eq_true_eq] at h
    have:off / P.cellsOf e*P.cellsOf e≤count*P.cellsOf e:=Nat.mul_le_mul_right _ (by omega)
    rw[Nat.mul_comm (P.cellsOf e)] at hd
    omega
   ·simp only[Bool.and_eq_true,decide_eq_true_eq] at h
    have: (off / P.cellsOf e+1)*P.cellsOf e≤count*P.cellsOf e:=Nat.mul_le_mul_right _ (by omega)
    rw[Nat.add_mul,Nat.one_mul] at this
    rw[Nat.mul_comm (P.cellsOf e)] at hd
    omega
theorem VB_ {e:TypeId} {count off:Nat}: ∀ {d:Nat} {u:TypeId} {n:Nat},liesAt P d e count off u n=true→off≤count*P.cellsOf e
 |0,u,n,h=>by simp[liesAt] at h
 |d+1,u,n,h=>by
  unfold liesAt at h
  rw[Bool.or_eq_true] at h
  rcases h with h|h
  ·exact ag7_ h
  ·split at h
   ·exact VB_ h
   ·cases h
theorem alH_ {W:World} {r:Reach} {base:Nat} {a:Addr} {e:TypeId} {n:Nat} (h:W.has P r base a e n):a.spot=none∧ ∃arr E fz,W.heap[a.block]? =some (.cells arr E fz)∧a.off≤arr.size:=by
 obtain⟨-,hs,row,cells,hsh,hl⟩:=h
 refine⟨hs, ?_⟩
 unfold World.shape? at hsh
 split at hsh
 ·rename_i c el fz hh
  cases hsh
  refine⟨c,_,fz,hh,Nat.le_trans (VB_ hl) ?_⟩
  exact Nat.div_mul_le_self _ _
 ·cases hsh
theorem ae5_ {W:World} {r:Reach} {base:Nat} {t e:TypeId} {v:Value} (ht:P.underlying t=some (.slice e)) (h:Value.okWide P W r base t v):
  v= .slice none 0 0∨ ∃b off len cap arr E fz,v=vsl b off len cap∧len≤cap∧W.heap[b]? =some (.cells arr E fz)∧off≤arr.size:=by
 obtain⟨a,len,cap,rfl⟩:=Go.WideShapes.okWide_slice ht h
 unfold Value.okWide at h
 rw[ht] at h
 unfold Cell.okWide at h
 rw[ht] at h
 simp only at h
 unfold Cell.ok at h
 rw[ht] at h
 cases a with
 |none=>
  left
  simp only at h
  split at h
  all_goals first| (cases h;done) |simp_all
 |some a=>
  right
  simp only at h
  obtain⟨hle,-,hh⟩:=h
  obtain⟨hs,arr,E,fz,hb,ho⟩:=alH_ hh
  obtain⟨b,off,sp⟩:=a
  simp only at hs
  subst hs
  exact⟨b,off,len,cap,arr,E,fz,rfl,hle,hb,ho⟩
theorem amr_ {α:Type} {enc:α→List Value} {z:α} {m:Nat} {W:World} {base b off c:Nat} {l:List α} {arr:Array Value} {E:TypeId} {fz:Nat×Nat} (hm0:0<m) (hm: ∀x,(enc x).length=m)
  (hcells: ∀i,i<l.length→W.cells? base ((Addr.mk b off none).add (i*m)) m=some (enc (l.getD i z))) (hheap:W.heap[b]? =some (.cells arr E fz)) (hoff:off≤arr.size) (hc:l.length≤c):SlV m enc z W (vsl b off l.length c) l:=by
 have get: ∀k,k<l.length→ ∀j,j<m→arr[off+k*m+j]? =(enc (l.getD k z))[j]? :=by
  intro k hk j hj
  obtain⟨-,hl,hg⟩:=World.cells?_some (hcells k hk)
  have:=hg j (by omega)
  rw[qP_,qP_] at this
  simp only[World.cell?,hheap,Option.isSome_none,Bool.false_eq_true,if_false] at this
  exact this
 refine SlV.sl hheap get hc ?_
 by_cases h0:l.length=0
 ·rw[h0];omega
 ·have h1:=get (l.length - 1) (by omega) (m - 1) (by omega)
  rw[List.getElem?_eq_getElem (by rw[hm];omega)] at h1
  have h2:=(Array.getElem?_eq_some_iff.1 h1).1
  have h3: (l.length - 1)*m+m=l.length*m:=by
   rw[←Nat.succ_mul];congr 1;omega
  omega
theorem ab4_ {H:Type} {tell:TypeId×Value→H} {α:Type} {enc:α→List Value} {z:α} {m:Nat} {W:World} {r:Reach} {base b0:Nat} {sp:Nat→Bool} {held:Bool} {fuel:Nat} {t e:TypeId} {v:Value} {x:DataW H×List MemPlace}
  (ht:P.underlying t=some (.slice e)) (he:P.cellsOf e=m) (hm0:0<m) (hm: ∀x,(enc x).length=m) (hval:Value.okWide P W r b0 t v)
  (hdec: ∀n cs y,DataW.trod tell P W base sp held n e cs=some y→ ∃a,cs=enc a) (hd:DataW.trod tell P W base sp held fuel t [v]=some x): ∃l,SlV m enc z W v l:=by
 rcases DataW.trod_slice ht hd with⟨hcs,-⟩ | ⟨a,len,cap,elems,rest,n,-,hcs,-,-,hl,-,hlen,hel,-,-⟩
 ·simp only[List.cons.injEq,and_true] at hcs
  subst hcs
  exact⟨[],SlV.nil W⟩
 ·simp only[List.cons.injEq,and_true] at hcs
  subst hcs
  rcases ae5_ ht hval with h0| ⟨b,off,len',cap',arr,E,fz,h1,-,hb,ho⟩
  ·cases h0
  ·unfold vsl at h1
   cases h1
   rw[he] at hel
   have hex: ∀i,i<len→ ∃q,W.cells? base ((Addr.mk b off none).add (i*m)) m=some (enc q):=by
    intro i hi
    have h2:=hel i hi
    rw[List.getElem?_eq_getElem (by omega)] at h2
    cases hc:W.cells? base ((Addr.mk b off none).add (i*m)) m with
    |none=>rw[hc] at h2;cases h2
    |some cs=>
     rw[hc] at h2
     obtain⟨q,rfl⟩:=hdec _ _ _ h2
     exact⟨q,rfl⟩
   obtain⟨f,hf⟩: ∃f:Nat→α,∀i,i<len→W.cells? base ((Addr.mk b off none).add (i*m)) m=some (enc (f i)):=by
    classical
    refine⟨fun i=>if h:i<len then Classical.choose (hex i h) else z,fun i hi=> ?_⟩
    simp only[dif_pos hi]
    exact Classical.choose_spec (hex i hi)
   have hll: ((List.range len).map f).length=len:=by simp
   refine⟨(List.range len).map f, ?_⟩
   have:=amr_ (W:=W) (base:=base) (b:=b) (off:=off) (c:=cap) (l:=(List.range len).map f) (z:=z) hm0 hm (fun i hi=>by
    rw[hll] at hi
    rw[hf i hi]
    congr 2
    rw[List.getD_eq_getElem?_getD,List.getElem?_map,List.getElem?_range hi];rfl) hb ho (by rw[hll];exact hl)
   rw[hll] at this
   exact this
end
end Go.Sx
section
open Go Go.Proofs Go.Sx Go.StP Go.ChangeShapes
namespace Go.Proofs
set_option maxRecDepth 10000
set_option maxHeartbeats 1000000
set_option linter.unusedSimpArgs false
theorem ag5_ {H:Type} {tell:TypeId×Value→H} {W:World} {base:Nat} {sp:Nat→Bool} {held:Bool} {n:Nat} {cs:List Value} {y:DataW H×List MemPlace}
  (h:DataW.trod tell Tryz.prog W base sp held n 42 cs=some y): ∃i:IdL,cs=i.l.map v8:=by
 obtain⟨xs,m,-,-,hlen,hxl,hel⟩:=DataW.trod_array Tryz.underlying42 h
 have hc: (Tryz.prog).cellsOf 42=32:=by kernel_rfl
 have h1: (Tryz.prog).cellsOf 5=1:=by kernel_rfl
 rw[hc] at hlen
 rw[h1] at hel
 have hex: ∀i (hi:i<cs.length),∃x:UInt8,cs[i]=v8 x:=by
  intro i hi
  have h2:=hel i (by omega)
  rw[List.getElem?_eq_getElem (by omega),Nat.mul_one,List.drop_eq_getElem_cons hi,List.take_succ_cons,List.take_zero] at h2
  obtain⟨z,hz,-,hw⟩:=DataW.trod_int Tryz.underlying5 h2
  simp only[List.cons.injEq,and_true] at hz
  rw[hz]
  simp only[Lit.wf,Bool.and_eq_true,decide_eq_true_eq] at hw
  have hw1:0≤z:=by simpa [IntKind.min,IntKind.bits,IntKind.signed] using hw.1
  have hw2:z≤255:=by simpa [IntKind.max,IntKind.bits,IntKind.signed] using hw.2
  refine⟨UInt8.ofNat z.toNat, ?_⟩
  unfold v8
  rw[UInt8.toNat_ofNat',Nat.mod_eq_of_lt (by omega)]
  congr 1;omega
 have hl: ∃l:List UInt8,cs=l.map v8:=by
  clear hel hlen hxl h
  induction cs with
  |nil=>exact⟨[],rfl⟩
  |cons c r ih=>
   obtain⟨x,hx⟩:=hex 0 (by simp)
   obtain⟨l,hl⟩:=ih (fun i hi=>by have:=hex (i+1) (by simpa using hi);simpa using this)
   exact⟨x::l,by rw[hl];simp at hx;simp[hx]⟩
 obtain⟨l,rfl⟩:=hl
 exact⟨⟨l,by simpa using hlen⟩,rfl⟩
theorem ajz_ {H:Type} {tell:TypeId×Value→H} {W:World} {base:Nat} {sp:Nat→Bool} {held:Bool} (n:Nat) (cs:List Value) (y:DataW H×List MemPlace)
  (h:DataW.trod tell Tryz.prog W base sp held n 38 cs=some y): ∃o:ObK,cs=qm_ o:=by
 have hc: (Tryz.prog).cellsOf 38=2:=by kernel_rfl
 have hc3: (Tryz.prog).cellsOf 3=1:=by kernel_rfl
 have hcT: (Tryz.prog).cellsOf 9=1:=by kernel_rfl
 obtain⟨y0,y1,n',-,hlen,h0,h1⟩:=ChangeShapes.trod_struct2 Tryz.underlying38 h
 simp only at h0 h1 hlen
 rw[hc3,List.drop_zero] at h0
 rw[hcT] at h1
 rw[hc] at hlen
 obtain⟨z,hz,-,-⟩:=DataW.trod_int Tryz.underlying3 h0
 obtain⟨s,hs2,-,-⟩:=DataW.trod_string Tryz.underlying9 h1
 have hd:cs=cs.take 1++ (cs.drop 1).take 1:=by
  rw[show(cs.drop 1).take 1=cs.drop 1 from List.take_of_length_le (by rw[List.length_drop];omega),List.take_append_drop]
 rw[hz,hs2] at hd
 exact⟨⟨z,s.data.toList⟩,by rw[hd];rfl⟩
theorem aeZ_ {H:Type} {enc:TypeId×Value→H} {W:World} {r:Reach} {b0 base:Nat} {sp:Nat→Bool} {held:Bool} {v:Value} {d:DataW H} {p:List MemPlace}
  (hval:Value.okWide Tryz.prog W r b0 22 v) (hd:DataW.Trod enc Tryz.prog W base sp held 22 v d p): ∃l,SlV 2 qm_ jg_ W v l:=by
 obtain⟨a0,len,cap,rfl⟩:=WideShapes.okWide_slice Tryz.underlying22 hval
 obtain⟨fu,hf⟩:=hd
 exact ab4_ (z:=jg_) Tryz.underlying22 (by kernel_rfl) (by decide) z8_ hval ajz_ hf
theorem ag3_ {H:Type} {enc:TypeId×Value→H} {W:World} {r:Reach} {b0 base:Nat} {sp:Nat→Bool} {held:Bool} {v:Value} {d:DataW H} {p:List MemPlace}
  (hval:Value.okWide Tryz.prog W r b0 23 v) (hd:DataW.Trod enc Tryz.prog W base sp held 23 v d p): ∃l,SlV 32 jd_ id0 W v l:=by
 obtain⟨a0,len,cap,rfl⟩:=WideShapes.okWide_slice Tryz.underlying23 hval
 obtain⟨fu,hf⟩:=hd
 exact ab4_ (z:=id0) Tryz.underlying23 (by kernel_rfl) (by decide) zX_ hval (fun n cs y h=>by obtain⟨i,hi⟩:=ag5_ h;exact⟨i,hi⟩) hf
end Go.Proofs
end
section
open Go Go.Proofs Go.Sx Go.StP
namespace Go.Proofs
set_option linter.unusedSimpArgs false
theorem amn_ {n:Int} (h: (Lit.int .u8 n).wf=true): ∃c:UInt8,Value.int .u8 n=v8 c:=by
 simp only[Lit.wf,Bool.and_eq_true,decide_eq_true_eq] at h
 have h1: (0:Int)≤n:=h.1
 have h2:n≤255:=h.2
 refine⟨UInt8.ofNat n.toNat, ?_⟩
 unfold v8
 rw[UInt8.toNat_ofNat',Nat.mod_eq_of_lt (by omega),Int.toNat_of_nonneg h1]
end Go.Proofs
end
namespace Go.Proofs
end Go.Proofs
namespace Go.Sx
open Go
theorem agz_ {P:Program} {f:FuncId} {fn:Func} {s:ChangeSpec} {c:OpenClaim}
  (h1: (c.wf (OpenSpec.ofChange s))=true)
  (h2: (laidOutB P)=true)
  (h3: (mapsRowed P)=true)
  (h4: (fn.params.all (P.readableRec ·))=true)
  (h5: (namedTie P c.named s.vars)=true)
  (h6: ((c.stops== []))=true)
  (h7: ((P.stops== []))=true)
  (h8: ((c.knobs== []))=true)
  (h9: ((P.stopKnobs== []))=true)
  (h10: ((c.inPlace==P.inPlace f))=true)
  (h11: ((c.unfollowed==P.unfollowed f))=true)
  (h12: ((c.recurses==P.recurses f))=true)
  (h13: ((c.named==P.varsNamed f))=true)
  (h14: ((c.maps==(fn.params.toList++s.plain.varTypes P).any (P.mapsRec ·)))=true)
  (h15: ((c.ifaces==(fn.params.toList++s.plain.varTypes P).any (P.ifacesRec ·)))=true)
  (h16: ((c.mapsOut==P.mapsAmong fn.resultTypes.toList))=true)
  (h17: ((c.loops==(fn.params.toList++s.plain.varTypes P).any (P.loopsFrom ·)))=true)
  (h18: ((c.wideKeys==(fn.params.toList++s.plain.varTypes P++fn.resultTypes.toList).any (P.wideKeysFrom ·)))=true)
  (h19: (s.vars.all (P.varReadable ·))=true)
  (h20: (fn.resultTypes.all (fun t=>P.readableRec t&&decide (t<P.types.size)))=true)
  (h21: ((c.ifacesOut==fn.resultTypes.toList.any (P.ifacesRec ·)))=true)
  (h22: ((c.loopsOut==fn.resultTypes.toList.any (P.loopsFrom ·)))=true)
  (h23: ((c.plainKeys==P.plainKeys))=true)
  (h24: (c.shortTexts.isNone)=true)
  (h25: (P.stopsHeard)=true)
  (h26: (P.mayEnter)=true)
  (h27: ((c.lifted==P.liftsFinal))=true)
  (h28: ((P.make==some c.make))=true)
  (h29: ((c.kinds==(if c.domain.isEmpty then [] else fn.params.toList.map fun t=>match P.underlying t with|some (.int k)=>some k|_=>none)))=true)
  (h30: ((c.pinned==c.pinnedBy))=true)
  (h31: ((c.veiled==(fn.params.toList++s.plain.varTypes P++fn.resultTypes.toList).any (P.veiledRec ·)))=true)
  (h32: (c.veiledFits P fn.params.toList (fn.params.toList++s.plain.varTypes P++fn.resultTypes.toList))=true):
  joinedFacts P f fn s c=true:=by
 unfold joinedFacts
 exact(Bool.and_eq_true_iff.2 ⟨(Bool.and_eq_true_iff.2 ⟨(Bool.and_eq_true_iff.2 ⟨(Bool.and_eq_true_iff.2 ⟨(Bool.and_eq_true_iff.2 ⟨(Bool.and_eq_true_iff.2 ⟨(Bool.and_eq_true_iff.2 ⟨(Bool.and_eq_true_iff.2 ⟨(Bool.and_eq_true_iff.2 ⟨(Bool.and_eq_true_iff.2 ⟨(Bool.and_eq_true_iff.2 ⟨(Bool.and_eq_true_iff.2 ⟨(Bool.and_eq_true_iff.2 ⟨(Bool.and_eq_true_iff.2 ⟨(Bool.and_eq_true_iff.2 ⟨(Bool.and_eq_true_iff.2 ⟨(Bool.and_eq_true_iff.2 ⟨(Bool.and_eq_true_iff.2 ⟨(Bool.and_eq_true_iff.2 ⟨(Bool.and_eq_true_iff.2 ⟨(Bool.and_eq_true_iff.2 ⟨(Bool.and_eq_true_iff.2 ⟨(Bool.and_eq_true_iff.2 ⟨(Bool.and_eq_true_iff.2 ⟨(Bool.and_eq_true_iff.2 ⟨(Bool.and_eq_true_iff.2 ⟨(Bool.and_eq_true_iff.2 ⟨(Bool.and_eq_true_iff.2 ⟨(Bool.and_eq_true_iff.2 ⟨(Bool.and_eq_true_iff.2 ⟨(Bool.and_eq_true_iff.2 ⟨h1,h2⟩),h3⟩),h4⟩),h5⟩),h6⟩),h7⟩),h8⟩),h9⟩),h10⟩),h11⟩),h12⟩),h13⟩),h14⟩),h15⟩),h16⟩),h17⟩),h18⟩),h19⟩),h20⟩),h21⟩),h22⟩),h23⟩),h24⟩),h25⟩),h26⟩),h27⟩),h28⟩),h29⟩),h30⟩),h31⟩),h32⟩)
end Go.Sx
