/-
  Part 4 of the walk: contracts of the functions that the law reaches, and the calculus they stand on.
  No conditions.
-/
import Derived.Test.YtooklcgflocbcaaGreatDoorK3
import Derived.ProofKit
import Derived.OpenShut
import Derived.WideKeyArgs
import Derived.ChangeSame
import Derived.ChangeMaps5
import Derived.Lib.LaidTab
import Derived.SliceStrings
import Derived.DataReads
import Derived.Deep.Strs
section
open Go Go.Proofs Go.Sx Go.StP Go.Flo Go.Dig
namespace Go.Proofs
set_option maxRecDepth 10000
set_option maxHeartbeats 400000
set_option linter.unusedSimpArgs false
theorem aow_ (b o:Nat):qJ_ Tryz.prog .eql 93 (vp b o) (.pointer none)=some (.bool false):=by
 simp[qJ_,eqX,qw_,qE_,Tryz.underlying93,vp]
theorem alO_:qJ_ Tryz.prog .eql 93 (.pointer none) (.pointer none)=some (.bool true):=by
 simp[qJ_,eqX,qw_,qE_,Tryz.underlying93]
theorem aoD_ (v:Value) (n:Nat) (E:TypeId) (fz:Nat×Nat):zr_ (some (false,n)) (some (.cells #[v] E fz)) 0=some v:=(rfl)
theorem ajM_:Value.cells (.pointer none)= #[.pointer none]:=(rfl)
theorem ajB_ (b o:Nat):Value.cells (vp b o)= #[vp b o]:=(rfl)
theorem aiV_ (s:List UInt8) (v1:Value) (l:List RwL) (n:Nat):zr_ (some (false,n)) (some (ixO s v1 (x0_ l))) 2=some (vi ((xP_ l 0:Nat):Int)):=by
 have:=Q1_ s v1 (x0_ l) n 0 (by rw[vd_];omega)
 rwa [show(x0_ l).getD 0 0=xP_ l 0 from rfl] at this
theorem acI_ (l:List RwL) {d:Nat} (h:d<16): (x0_ l).getD d 0=xP_ l d:=by
 unfold x0_
 rw[List.getD_eq_getElem?_getD,List.getElem?_map,List.getElem?_range h];rfl
def WJ_ (p:Nat→Bool) (i j:Nat):Nat:=if i<j then(if p ((i+j) / 2)=true then WJ_ p i ((i+j) / 2) else WJ_ p ((i+j) / 2+1) j) else i
termination_by j - i
decreasing_by all_goals omega
theorem J1_ (p:Nat→Bool): ∀ (n i j:Nat),j - i≤n→i≤j→i≤WJ_ p i j∧WJ_ p i j≤j∧(WJ_ p i j=i∨p (WJ_ p i j - 1)=false)∧(WJ_ p i j=j∨p (WJ_ p i j)=true)
 |0,i,j,h,hij=>by
  rw[WJ_,if_neg (by omega)]
  exact⟨Nat.le_refl _,hij, .inl rfl, .inl (by omega)⟩
 |n+1,i,j,h,hij=>by
  rw[WJ_]
  by_cases hlt:i<j
  ·rw[if_pos hlt]
   cases hp:p ((i+j) / 2) with
   |true=>
    rw[if_pos rfl]
    obtain⟨h1,h2,h3,h4⟩:=J1_ p n i ((i+j) / 2) (by omega) (by omega)
    refine⟨h1,by omega,h3, ?_⟩
    rcases h4 with h4|h4
    ·right;rw[h4];exact hp
    ·exact .inr h4
   |false=>
    rw[if_neg (by simp)]
    obtain⟨h1,h2,h3,h4⟩:=J1_ p n ((i+j) / 2+1) j (by omega) (by omega)
    refine⟨by omega,h2, ?_,h4⟩
    rcases h3 with h3|h3
    ·right;rw[h3,Nat.add_sub_cancel];exact hp
    ·exact .inr h3
  ·rw[if_neg hlt]
   exact⟨Nat.le_refl _,hij, .inl rfl, .inl (by omega)⟩
section
variable {P:Program} {w0:World} {f:Fr} {L:zd_} {N:Fr→zd_→Prop} {ops:Array Oper} {rest:List Oper} {md:Md} {d:Option Tmp} {ty:TypeId} {ps:String} {af:Array Edge} {g:Option (Nat×Bool)}
theorem Ow.callFn1C {x y:Operand} {ts:Array TypeId} {k:FuncId} {v a:Value} {cap:Array Value} (hs:zl_ ops f ⟨d, .call ⟨.value x, #[y],ts⟩,ty,ps,af,g⟩=false) (hx:ev f x= .func (.func k) #[] cap) (hy:ev f y=a)
  (hk: ∀a w,(callFunc k a).run P w= .ok (.enter k a) w) (hc: ∀w,Hp w0 L w→Rets P k (#[a]++cap) w (fun v' D=>v'=v∧D= [])) (hn:Ow P w0 ops md.next rest (qz_ f d v) L N):
  Ow P w0 ops md (⟨d, .call ⟨.value x, #[y],ts⟩,ty,ps,af,g⟩::rest) f L N:=
 Ow.callV hs hx hk (fun w hw=>by simpa [hy] using hc w hw) hn
end
structure SrG where
 i:Nat
 j:Nat
set_option linter.defProp false
def Vr_:=And.intro (@zg_) (And.intro (@zf_) (@V9_))
theorem ab3_ (p:Nat→Bool) (n k:Nat) (cap:Array Value) (w:World) (hn:n<1000000) (hk: ∀a w,(callFunc k a).run Tryz.prog w= .ok (.enter k a) w) (hc: ∀i,i<n→ ∀w',Hp w [] w'→Rets Tryz.prog k (#[vi (i:Int)]++cap) w' (fun v D=>v= .bool (p i)∧D= [])):
  Rets Tryz.prog 119 #[vi n, .func (.func k) #[] cap] w (fun v D=>v=vi (WJ_ p 0 n:Nat)∧D= []):=by
 refine Rets.enterV Tryz.func119 rfl (rs:= [.tmp 4]) Tryz.results119 Tryz.ntmps119 ?_
 refine kf ?_
 obtain⟨r,hr⟩: ∃r,r=WJ_ p 0 n:=⟨_,rfl⟩
 rw[←hr]
 first|with_reducible refine ks [] @Vr_ ?_|refine kp @Vr_ ?_
 refine Cw.loopG (G:=SrG) [9,10,11,12,13,14,15,16,17,7,18,19,20,21,22,23,5,24,6] (fun g=> [(5,vi g.i),(6,vi g.j)]) (fun g=> []) (fun g=>g.i≤g.j∧g.j≤n∧r=WJ_ p g.i g.j) (fun g=>g.j - g.i) ⟨0,n⟩ rfl rfl ?_ ?_
 ·exact⟨Nat.zero_le _,Nat.le_refl _,hr⟩
 intro g j hg
 refine kv ?_
 obtain⟨i,j⟩:=g
 simp only at hg ⊢
 obtain⟨h1,h2,h3⟩:=hg
 by_cases hlt:i<j
 ·have d1:decide ((i:Int)< (j:Int))=true:=decide_eq_true (by omega)
  rw[WJ_,if_pos hlt] at h3
  first|with_reducible refine ks [] (And.intro @Vr_ @d1) ?_|refine kp (And.intro @Vr_ @d1) ?_
  refine Ow.callFn1C (v:= .bool (p ((i+j) / 2))) rfl rfl rfl hk (fun w' hw'=>by have:=hc ((i+j) / 2) (by omega) w' hw';exact this) ?_
  cases hp:p ((i+j) / 2) with
  |true=>
   rw[hp,if_pos rfl] at h3
   refine ko @Vr_ ?_
   exact Again.mk ⟨i,(i+j) / 2⟩ (by show(i+j) / 2 - i<j - i;omega) ⟨by show i≤ (i+j) / 2;omega,by show(i+j) / 2≤n;omega,h3⟩ rfl rfl
  |false=>
   rw[hp,if_neg (by simp)] at h3
   refine ko @Vr_ ?_
   exact Again.mk ⟨(i+j) / 2+1,j⟩ (by show j - ((i+j) / 2+1)<j - i;omega) ⟨by show(i+j) / 2+1≤j;omega,h2,h3⟩ rfl rfl
 ·have d1:decide ((i:Int)< (j:Int))=false:=decide_eq_false (by omega)
  rw[WJ_,if_neg hlt] at h3
  first|with_reducible refine ks [] (And.intro @Vr_ @d1) ?_|refine kp (And.intro @Vr_ @d1) ?_
  refine⟨_,(ke @Vr_),trivial, ?_⟩
  rw[h3];rfl
set_option linter.defProp false
def zt_:=And.intro (And.intro (And.intro (And.intro (@zg_) (@zf_)) (And.intro (@aoD_) (@ajM_))) (And.intro (And.intro (@ajB_) (@jd_)) (And.intro (@adz_) (And.intro (@alt_) (@aow_))))) (And.intro (And.intro (And.intro (@alO_) (@jZ_)) (And.intro (@xm_) (@xM_))) (And.intro (And.intro (@xT_) (@zI_)) (And.intro (@qL_) (And.intro (@Sx.tup2_0) (@Sx.tup2_1)))))
theorem Qe_ (bi:Nat) (s:List UInt8) (l:List RwL) (w:World) (h:IxIn w bi s l) (hl:l.length<1000000):
  Rets Tryz.prog 51 #[vp bi 0] w (XS w [] (fun v D=>GrI D 104 34 v l.length (l.map rwC).flatten)):=by
 obtain⟨x,h1,h2⟩:=id h
 refine Rets.enterX Tryz.func51 rfl (rs:= [.tmp 2]) Tryz.results51 Tryz.ntmps51 (fun p hp=>by cases hp) (by simp[keys]) ?_
 refine kf ?_
 first|with_reducible refine ks [] (And.intro @zt_ @h1) ?_|refine kp (And.intro @zt_ @h1) ?_
 refine Ow.callX (Y:= []) (by simp) rfl rfl Tryz.call107 (fun w' hw' hX hn=>Qt_ x l w' (h2.oldN hw' trivial) hl) (fun v2 D2 hC2 hS2=> ?_)
 rw[List.append_nil]
 refine ko @zt_ ?_
 first|with_reducible refine ks [] @zt_ ?_|refine kp @zt_ ?_
 refine⟨_,(ke @zt_), ?_⟩
 exact⟨Ext.of_new (New.of_le fun c hc=>(hC2.new c hc).elim (fun h=>by cases h) fun h=>h.2),Gr.i hS2 fun p hp=>hp⟩
theorem Xk_ (w:World):Rets Tryz.prog 51 #[.pointer none] w (fun v D=>v= .slice none 0 0∧D= []):=by
 refine Rets.enterV Tryz.func51 rfl (rs:= [.tmp 2]) Tryz.results51 Tryz.ntmps51 ?_
 refine kf ?_
 first|with_reducible refine ks [] @zt_ ?_|refine kp @zt_ ?_
 refine⟨_,(ke @zt_),trivial, ?_⟩
 rfl
theorem agG_ (bi:Nat) (s:List UInt8) (l:List RwL) (w:World) (h:IxIn w bi s l):Rets Tryz.prog 52 #[vp bi 0] w (fun v D=>v=vs s∧D= []):=by
 obtain⟨x,h1,h2⟩:=id h
 refine Rets.enterV Tryz.func52 rfl (rs:= [.tmp 2]) Tryz.results52 Tryz.ntmps52 ?_
 refine kf ?_
 first|with_reducible refine ks [] (And.intro @zt_ @h1) ?_|refine kp (And.intro @zt_ @h1) ?_
 refine⟨_,(ke @zt_),trivial, ?_⟩
 rfl
theorem aep_ (w:World):Rets Tryz.prog 52 #[.pointer none] w (fun v D=>v=vs []∧D= []):=by
 refine Rets.enterV Tryz.func52 rfl (rs:= [.tmp 2]) Tryz.results52 Tryz.ntmps52 ?_
 refine kf ?_
 first|with_reducible refine ks [] @zt_ ?_|refine kp @zt_ ?_
 refine⟨_,(ke @zt_),trivial, ?_⟩
 rfl
theorem ag2_ (bi:Nat) (s:List UInt8) (l:List RwL) (d:Nat) (w:World) (h:IxIn w bi s l) (hd:d<16):
  Rets Tryz.prog 117 #[vp bi 0,vi d] w (fun v D=>v= .tuple #[vi (js_ l d:Nat),vi (xP_ l d:Nat)]∧D= []):=by
 obtain⟨x,h1,h2⟩:=id h
 refine Rets.enterV Tryz.func117 rfl (rs:= [.tmp 4, .tmp 5]) Tryz.results117 Tryz.ntmps117 ?_
 refine kf ?_
 by_cases h0:d=0
 ·subst h0
  have lf:=aiV_ s x l
  have d1: (((0:Nat):Int)==0)=true:=rfl
  first|with_reducible refine ks [] (And.intro @zt_ @d1) ?_|refine kp (And.intro @zt_ @d1) ?_
  refine Cw.regionS [bi] [0,1,2,3,5,4,6] [] (by kernel_rfl) (by kernel_rfl) (by kernel_rfl) ?_
  simp only[zh_, ↓zc_, ↓zb_, ↓zn_, ↓zo_,za_]
  refine kq (And.intro @zt_ (And.intro @h1 (@lf))) ?_
  try with_reducible refine Ow.nil ?_
  first|with_reducible refine ks [] @zt_ ?_|refine kp @zt_ ?_
  refine⟨_,(ke @zt_),trivial, ?_⟩
  rfl
 ·have d1: ((d:Int)==0)=false:=beq_eq_false_iff_ne.2 (by omega)
  have e1: (d:Int) - 1=((d - 1:Nat):Int):=by omega
  have lf:=fun n=>Q1_ s x (x0_ l) n d (by rw[vd_];omega)
  have lg:=fun n=>Q1_ s x (x0_ l) n (d - 1) (by rw[vd_];omega)
  rw[acI_ l hd] at lf
  rw[acI_ l (by omega)] at lg
  first|with_reducible refine ks [] (And.intro @zt_ @d1) ?_|refine kp (And.intro @zt_ @d1) ?_
  refine Cw.regionS [bi] [0,1,2,3,4,5,7,8,9,10,11,6,13,12,14] [] (by kernel_rfl) (by kernel_rfl) (by kernel_rfl) ?_
  simp only[zh_, ↓zc_, ↓zb_, ↓zn_, ↓zo_,za_]
  refine kq (And.intro @zt_ (And.intro @h1 (And.intro @e1 (And.intro @lf (@lg))))) ?_
  try with_reducible refine Ow.nil ?_
  first|with_reducible refine ks [] @zt_ ?_|refine kp @zt_ ?_
  refine⟨_,(ke @zt_),trivial, ?_⟩
  unfold js_;rw[if_neg h0];rfl
def askP (l:List RwL) (x:IdL) (from_:Nat) (k:Nat):Bool:=decide (0≤cmpI (l.getD (from_+k) rw0).id x)
theorem WS_ {w:World} {v:Value} {l:List RwL} {b off:Nat} {arr:Array Value} {E:TypeId} {fz:Nat×Nat} (h:RowS 34 rwC rw0 w v l b off arr E fz) {k:Nat} (hk:k<l.length):kL_ arr (off+k*34) (l.getD k rw0).id.l:=by
 intro j hj
 have hil:=(l.getD k rw0).id.h
 have hj2:j<34:=by rw[hil] at hj;omega
 rw[h.get k hk j hj2]
 generalize l.getD k rw0=r at*
 unfold rwC
 rw[List.getElem?_append_left (by simp only[List.length_map];exact hj),List.getElem?_map,List.getElem?_eq_getElem hj,List.getD_eq_getElem?_getD,List.getElem?_eq_getElem hj]
 rfl
theorem aln_ (x:IdL):kL_ (a8 x.l) 0 x.l:=by
 intro j hj
 rw[Nat.zero_add]
 show(x.l.map v8).toArray[j]? =_
 rw[List.getElem?_toArray,List.getElem?_map,List.getElem?_eq_getElem hj,List.getD_eq_getElem?_getD,List.getElem?_eq_getElem hj]
 rfl
theorem afL_ (bi:Nat) (s:List UInt8) (l:List RwL) (x:IdL) (from_ k bx bf bd:Nat) (w:World) (h:IxIn w bi s l) (hk:from_+k<l.length) (hx:w.heap[bx]? =some (.cells #[vp bi 0] 93 (0,0))) (hf:w.heap[bf]? =some (.cells #[vi from_] 3 (0,0))) (hd:w.heap[bd]? =some (.cells (a8 x.l) 37 (0,0))) (hl:l.length<1000000):
  Rets Tryz.prog 120 #[vi (k:Int),vp bx 0,vp bf 0,vp bd 0] w (fun v D=>v= .bool (askP l x from_ k)∧D= []):=by
 obtain⟨v1,h1,h2⟩:=id h
 obtain⟨rb,off,arr,E,fz,hr⟩:=h2.row
 have hb:=hr.has (by omega)
 have e1: (from_:Int)+ (k:Int)=((from_+k:Nat):Int):=by omega
 have ix:=hr.idx true (from_+k) hk
 have hby:=WS_ hr hk
 refine Rets.enterV Tryz.func120 rfl (rs:= [.tmp 5]) Tryz.results120 Tryz.ntmps120 ?_
 refine kf ?_
 first|with_reducible refine ks [] @zt_ ?_|refine kp @zt_ ?_
 refine Cw.regionS [bx,bf,bi] [5,10,0,1,2,3,4,6,7,8,9,11,12,13] [] (by kernel_rfl) (by kernel_rfl) (by kernel_rfl) ?_
 simp only[zh_, ↓zc_, ↓zb_, ↓zn_, ↓zo_,za_]
 refine kq (And.intro @zt_ (And.intro @hx (And.intro @hf (And.intro @h1 (And.intro @e1 (@ix)))))) ?_
 refine Ow.soft rfl rfl rfl ?_
 refine Ow.callFV rfl Tryz.call121 (fun w' hw'=>alK_ (x:=(l.getD (from_+k) rw0).id) (y:=x) (by rw[hw'.old rb (Array.getElem?_eq_some_iff.1 hb).1 (by simp[keys])];exact hb) hby (by rw[hw'.old bd (Array.getElem?_eq_some_iff.1 hd).1 (by simp[keys])];exact hd) (aln_ x)) ?_
 with_reducible refine Ow.nil ?_
 refine⟨by intro b hb;simp only[List.mem_cons,List.not_mem_nil,or_false] at hb;(try subst hb);rfl, ?_⟩
 refine kq @zt_ ?_
 try with_reducible refine Ow.nil ?_
 first|with_reducible refine ks [] @zt_ ?_|refine kp @zt_ ?_
 refine⟨_,(ke @zt_),trivial, ?_⟩
 rfl
theorem ahI_ (x:IdL) (w:World):Rets Tryz.prog 56 #[.pointer none, .agg (a8 x.l)] w (fun v D=>v= .tuple #[.agg (rwC rw0).toArray, .bool false]∧D= []):=by
 refine Rets.enterV Tryz.func56 rfl (rs:= [.cell 4 104, .tmp 5]) Tryz.results56 Tryz.ntmps56 ?_
 refine kf ?_
 first|with_reducible refine ks [] @zt_ ?_|refine kp @zt_ ?_
 refine Ow.box rfl rfl fun b2 hb2 hw2=> ?_
 simp only[qi_,qe_,qc_,ze_,List.nil_append,List.cons_append]
 refine Ow.go rfl ?_
 simp(disch:=(first|assumption|omega| (simp only[jF_,jE_,UInt64.reduceToNat];try omega))) only[↓Sx.S0,Sx.S1,Tryz.fx,zt_,Nat.reduceAdd,Nat.reducePow,Int.reducePow,Nat.reduceBEq, ↓reduceIte,UInt8.reduceToNat,UInt16.reduceToNat,UInt32.reduceToNat,UInt64.reduceToNat,Int.reduceToNat]
 refine Ow.box rfl rfl fun b3 hb3 hw3=> ?_
 simp only[qi_,qe_,qc_,ze_,List.nil_append,List.cons_append]
 refine Ow.go rfl ?_
 simp(disch:=(first|assumption|omega| (simp only[jF_,jE_,UInt64.reduceToNat];try omega))) only[↓Sx.S0,Sx.S1,Tryz.fx,zt_,Nat.reduceAdd,Nat.reducePow,Int.reducePow,Nat.reduceBEq, ↓reduceIte,UInt8.reduceToNat,UInt16.reduceToNat,UInt32.reduceToNat,UInt64.reduceToNat,Int.reduceToNat]
 refine Ow.alloc rfl rfl Q9_ fun b4 hb4 hw4=> ?_
 simp only[ze_,List.nil_append,List.cons_append]
 obtain⟨h23,-⟩:=hb3
 obtain⟨h24,h34,-⟩:=hb4
 refine Ow.permL (M:= [(b4, .cells (rwC rw0).toArray 104 (0,0)),(b2, .cells #[.pointer none] 93 (0,0)),(b3, .cells (a8 x.l) 37 (0,0))]) (by classical exact List.perm_iff_count.2 fun a=>by simp only[List.count_append,List.count_cons,List.count_nil]<;>omega) ?_
 refine ko @zt_ ?_
 first|with_reducible refine ks [] @zt_ ?_|refine kp @zt_ ?_
 refine Ow.build (.agg (rwC rw0).toArray) rfl (by rw[show kt_ Tryz.prog 104=some [(0,32),(32,1),(33,1)] from id (by kernel_rfl),Q9_];simp[qg_,Sx.fillV]) ?_
 refine ko @zt_ ?_
 first|with_reducible refine ks [] @zt_ ?_|refine kp @zt_ ?_
 refine⟨_,(ke @zt_),⟨hw4,hw2,hw3,trivial⟩, ?_⟩
 rfl
theorem apU_ {n:Nat} {E:zd_} {o:Obj} {Q:Nat→Prop} (h:E= []∨ ∃b,E= [(b,o)]∧n≤b∧Q b):New n E:=by
 rcases h with rfl| ⟨b,rfl,h,-⟩
 ·trivial
 ·exact⟨h,trivial⟩
theorem afl_ (bi:Nat) (s:List UInt8) (l:List RwL) (x:IdL) (w:World) (h:IxIn w bi s l) (hok:wJ_ l l.length=true) (hl:l.length<1000000):
  Rets Tryz.prog 56 #[vp bi 0, .agg (a8 x.l)] w (fun v D=>v= .tuple #[.agg (rwC (QO_ l x).1).toArray, .bool (QO_ l x).2]∧D= []):=by
 obtain⟨v1,h1,h2⟩:=id h
 obtain⟨rb,off,arr,E,fz,hr⟩:=h2.row
 have hbil:=(Array.getElem?_eq_some_iff.1 h1).1
 have hd16:=ad2_ x
 have hfl:=anG_ (l:=l) (zT_ x)
 have hfn:=KZ_ l (zT_ x)
 have hbs:=J1_ (askP l x (js_ l (zT_ x))) _ 0 (xP_ l (zT_ x) - js_ l (zT_ x)) (Nat.le_refl _) (Nat.zero_le _)
 generalize hat:WJ_ (askP l x (js_ l (zT_ x))) 0 (xP_ l (zT_ x) - js_ l (zT_ x))=at_ at hbs
 have hfa:=amW_ hok x (at_:=js_ l (zT_ x)+at_) (by omega) (by omega) (by
  rcases hbs.2.2.1 with e|e
  ·left;omega
  ·by_cases h0:at_=0
   ·left;omega
   ·right
    unfold askP at e
    rw[show js_ l (zT_ x)+at_ - 1=js_ l (zT_ x)+ (at_ - 1) by omega]
    rw[decide_eq_false_iff_not] at e
    exact cmpI_lt.1 (Int.not_le.1 e)) (by
  rcases hbs.2.2.2 with e|e
  ·left;omega
  ·right
   unfold askP at e
   rw[decide_eq_true_eq] at e
   exact cmpI_ge.1 e)
 rw[hfa]
 refine Rets.enterV Tryz.func56 rfl (rs:= [.cell 4 104, .tmp 5]) Tryz.results56 Tryz.ntmps56 ?_
 refine kf ?_
 first|with_reducible refine ks [] @zt_ ?_|refine kp @zt_ ?_
 refine Ow.box rfl rfl fun b2 hb2 hw2=> ?_
 simp only[qi_,qe_,qc_,ze_,List.nil_append,List.cons_append]
 refine Ow.go rfl ?_
 simp(disch:=(first|assumption|omega| (simp only[jF_,jE_,UInt64.reduceToNat];try omega))) only[↓Sx.S0,Sx.S1,Tryz.fx,zt_,Nat.reduceAdd,Nat.reducePow,Int.reducePow,Nat.reduceBEq, ↓reduceIte,UInt8.reduceToNat,UInt16.reduceToNat,UInt32.reduceToNat,UInt64.reduceToNat,Int.reduceToNat]
 refine Ow.box rfl rfl fun b3 hb3 hw3=> ?_
 simp only[qi_,qe_,qc_,ze_,List.nil_append,List.cons_append]
 refine Ow.go rfl ?_
 simp(disch:=(first|assumption|omega| (simp only[jF_,jE_,UInt64.reduceToNat];try omega))) only[↓Sx.S0,Sx.S1,Tryz.fx,zt_,Nat.reduceAdd,Nat.reducePow,Int.reducePow,Nat.reduceBEq, ↓reduceIte,UInt8.reduceToNat,UInt16.reduceToNat,UInt32.reduceToNat,UInt64.reduceToNat,Int.reduceToNat]
 refine Ow.alloc rfl rfl Q9_ fun b4 hb4 hw4=> ?_
 simp only[ze_,List.nil_append,List.cons_append]
 obtain⟨h23,-⟩:=hb3
 obtain⟨h24,h34,-⟩:=hb4
 refine Ow.permL (M:= [(b4, .cells (rwC rw0).toArray 104 (0,0)),(b2, .cells #[vp bi 0] 93 (0,0)),(b3, .cells (a8 x.l) 37 (0,0))]) (by classical exact List.perm_iff_count.2 fun a=>by simp only[List.count_append,List.count_cons,List.count_nil]<;>omega) ?_
 refine ko @zt_ ?_
 have hN4:New w.heap.size [(b4,Obj.cells (rwC rw0).toArray 104 (0,0)),(b2, .cells #[vp bi 0] 93 (0,0)),(b3, .cells (a8 x.l) 37 (0,0))]:=⟨hw4,hw2,hw3,trivial⟩
 first|with_reducible refine ks [] @zt_ ?_|refine kp @zt_ ?_
 refine Cw.regionD [b2,b3] [8] 7 6 3 9 _ rfl (by kernel_rfl) (by kernel_rfl) rfl (by kernel_rfl) (id (by kernel_rfl):zK_ Tryz.prog 3=some (vi 0)) (fun hD=> ?_)
 simp only[List.replicate_succ,List.replicate_zero]
 refine OwD.run [0,1] [true,true,false,false,false,false,false,false,false,false] 7 rfl hD (by kernel_rfl) fun k hk=> ?_
 simp only[zh_, ↓zc_, ↓zb_, ↓zn_, ↓zo_,za_]
 simp(disch:=(first|assumption|omega| (simp only[jF_,jE_,UInt64.reduceToNat];try omega))) only[↓Sx.S0,Sx.S1,Tryz.fx,zt_,Nat.reduceAdd,Nat.reducePow,Int.reducePow,Nat.reduceBEq, ↓reduceIte,UInt8.reduceToNat,UInt16.reduceToNat,UInt32.reduceToNat,UInt64.reduceToNat,Int.reduceToNat,Md.next_sofnil,Md.next_sofnil]
 (with_reducible refine hk _ _ _ ?_);clear hk k
 refine OwD.soft 2 _ hD rfl (by kernel_rfl) (fun E hE=> ?_)
 refine Ow.callFV rfl Tryz.call118 (fun w' hw'=>Xc_ x w') ?_
 with_reducible refine Ow.nil ?_
 refine⟨_,List.Perm.refl _,fun _ _=>rfl, ?_⟩
 simp only[List.set_cons_zero,List.set_cons_succ,zO_,qO_,qM_]
 refine OwD.soft 3 _ hD rfl (by kernel_rfl) (fun E2 hE2=> ?_)
 have hN2:=hN4.app (apU_ hE2)
 refine Ow.callFV rfl Tryz.call117 (fun w' hw'=>ag2_ bi s l (zT_ x) w' (h.old hw' hN2) hd16) ?_
 with_reducible refine Ow.nil ?_
 refine⟨_,List.Perm.refl _,fun _ _=>rfl, ?_⟩
 simp only[List.set_cons_zero,List.set_cons_succ,zO_,qO_,qM_]
 refine OwD.run [4,5,6] [true,true,true,true,true,true,true,false,false,false] 2 rfl hD (by kernel_rfl) fun k hk=> ?_
 simp only[zh_, ↓zc_, ↓zb_, ↓zn_, ↓zo_,za_]
 simp(disch:=(first|assumption|omega| (simp only[jF_,jE_,UInt64.reduceToNat];try omega))) only[↓Sx.S0,Sx.S1,Tryz.fx,zt_,Nat.reduceAdd,Nat.reducePow,Int.reducePow,Nat.reduceBEq, ↓reduceIte,UInt8.reduceToNat,UInt16.reduceToNat,UInt32.reduceToNat,UInt64.reduceToNat,Int.reduceToNat,Md.next_sofnil,Sx.tup2_0,Sx.tup2_1]
 (with_reducible refine hk _ _ _ ?_);clear hk k
 refine OwD.real [8,9] rfl hD (by kernel_rfl) (by kernel_rfl) (by kernel_rfl) (by kernel_rfl) (fun r hr=>by simp only[List.mem_cons,List.not_mem_nil,or_false] at hr;rcases hr with rfl|rfl<;>exact .inl (by simp[keys])) ?_
 simp only[zh_, ↓zc_, ↓zb_, ↓zn_, ↓zo_,za_]
 intro b6 hw6 hbL
 simp only[qO_,qM_]
 refine Ow.store rfl rfl rfl (L':= [(b4, .cells (rwC rw0).toArray 104 (0,0)),(b2, .cells #[vp bi 0] 93 (0,0)),(b3, .cells (a8 x.l) 37 (0,0))]++ [(b6, .cells #[vi (js_ l (zT_ x):Nat)] 3 (0,0))]) ?_ ?_
 ·simp only[qi_,qe_,qc_]
  have hst: ∀ (a:Bool) (n:Int),zp_ (some (a,1)) (some (Obj.cells (Value.cells (vi 0)) 3 (0,0))) 0 (vi n)=some (.cells #[vi n] 3 (0,0)):=fun _ _=>rfl
  rw[Tryz.ag3,v8_,Ji_ hbL,hst,ZE_,Qf_ hbL]
  exact []
 refine ko @zt_ ?_
 refine Cw.permL (M:= [(b6, .cells #[vi (js_ l (zT_ x):Nat)] 3 (0,0)),(b4, .cells (rwC rw0).toArray 104 (0,0)),(b2, .cells #[vp bi 0] 93 (0,0)),(b3, .cells (a8 x.l) 37 (0,0))]) (by classical exact List.perm_iff_count.2 fun a=>by simp only[List.count_append,List.count_cons,List.count_nil]<;>omega) ?_
 have h62:b2≠b6:=by simp[keys] at hbL;omega
 have h63:b3≠b6:=by simp[keys] at hbL;omega
 have h64:b4≠b6:=by simp[keys] at hbL;omega
 have hN6:New w.heap.size [(b6,Obj.cells #[vi (js_ l (zT_ x):Nat)] 3 (0,0)),(b4,Obj.cells (rwC rw0).toArray 104 (0,0)),(b2,Obj.cells #[vp bi 0] 93 (0,0)),(b3,Obj.cells (a8 x.l) 37 (0,0))]:=⟨hw6,hN4⟩
 have ef: ((xP_ l (zT_ x):Nat):Int) - ((js_ l (zT_ x):Nat):Int)=((xP_ l (zT_ x) - js_ l (zT_ x):Nat):Int):=by omega
 have hcb: ∀w',Hp w [(b6,Obj.cells #[vi (js_ l (zT_ x):Nat)] 3 (0,0)),(b4,Obj.cells (rwC rw0).toArray 104 (0,0)),(b2,Obj.cells #[vp bi 0] 93 (0,0)),(b3,Obj.cells (a8 x.l) 37 (0,0))] w'→Rets Tryz.prog 119 #[vi ((xP_ l (zT_ x) - js_ l (zT_ x):Nat):Int), .func (.func 120) #[] #[vp b2 0,vp b6 0,vp b3 0]] w' (fun v D=>v=vi (WJ_ (askP l x (js_ l (zT_ x))) 0 (xP_ l (zT_ x) - js_ l (zT_ x)):Nat)∧D= []):=fun w' hw'=>
  ab3_ (askP l x (js_ l (zT_ x))) (xP_ l (zT_ x) - js_ l (zT_ x)) 120 #[vp b2 0,vp b6 0,vp b3 0] w' (by omega) Tryz.call120 fun i hi w2 hw2=>by
   have hh: ∀b o,(b,o)∈ [(b6,Obj.cells #[vi (js_ l (zT_ x):Nat)] 3 (0,0)),(b4,Obj.cells (rwC rw0).toArray 104 (0,0)),(b2,Obj.cells #[vp bi 0] 93 (0,0)),(b3,Obj.cells (a8 x.l) 37 (0,0))]→w2.heap[b]? =some o:=fun b o hm=>(hw'.trans_nil hw2).has b o hm
   exact afL_ bi s l x (js_ l (zT_ x)) i b2 b6 b3 w2 (h.old (hw'.trans_nil hw2) hN6) (by omega) (hh b2 _ (by simp)) (hh b6 _ (by simp)) (hh b3 _ (by simp)) hl
 first|with_reducible refine ks [] @zt_ ?_|refine kp @zt_ ?_
 refine Cw.regionS [b6] [1,4,0,2,3,5,6,7] [] (by kernel_rfl) (by kernel_rfl) (by kernel_rfl) ?_
 simp only[zh_, ↓zc_, ↓zb_, ↓zn_, ↓zo_,za_]
 refine kq (And.intro @zt_ @ef) ?_
 refine Ow.soft rfl rfl rfl ?_
 simp only[List.map_toArray,List.map_cons,List.map_nil,qi_,qe_,qc_]
 refine Ow.callFV rfl Tryz.call119 (fun w' hw'=>hcb w' hw') ?_
 rw[hat]
 with_reducible refine Ow.nil ?_
 refine⟨by intro b hb;simp only[List.mem_cons,List.not_mem_nil,or_false] at hb;(try subst hb);rfl, ?_⟩
 have ea: ((js_ l (zT_ x):Nat):Int)+ (at_:Int)=((js_ l (zT_ x)+at_:Nat):Int):=by omega
 refine kq (And.intro @zt_ @ea) ?_
 try with_reducible refine Ow.nil ?_
 have hatn:js_ l (zT_ x)+at_≤xP_ l (zT_ x):=by omega
 generalize js_ l (zT_ x)+at_=ap at*
 generalize xP_ l (zT_ x)=tp at*
 by_cases hap:ap=tp
 ·subst hap
  rw[if_neg (fun h=>h.1 rfl)]
  have d1: ((ap:Int)==(ap:Int))=true:=beq_self_eq_true _
  first|with_reducible refine ks [] @zt_ ?_|refine kp @zt_ ?_
  refine Cw.regionS [b2,b3,bi,rb] [0,1,2,3,8,4,5,6,7,9,10,11,12,13,14] [] (by kernel_rfl) (by kernel_rfl) (by kernel_rfl) ?_
  simp only[zh_, ↓zc_, ↓zb_, ↓zn_, ↓zo_,za_]
  refine kq (And.intro @zt_ @d1) ?_
  try with_reducible refine Ow.nil ?_
  first|with_reducible refine ks [] @zt_ ?_|refine kp @zt_ ?_
  refine Ow.build (.agg (rwC rw0).toArray) rfl (by rw[show kt_ Tryz.prog 104=some [(0,32),(32,1),(33,1)] from id (by kernel_rfl),Q9_];simp[qg_,Sx.fillV]) ?_
  refine Ow.permL (M:= [(b4, .cells (rwC rw0).toArray 104 (0,0)),(b6, .cells #[vi (js_ l (zT_ x):Nat)] 3 (0,0)),(b2, .cells #[vp bi 0] 93 (0,0)),(b3, .cells (a8 x.l) 37 (0,0))]) (by classical exact List.perm_iff_count.2 fun a=>by simp only[List.count_append,List.count_cons,List.count_nil]<;>omega) ?_
  refine ko @zt_ ?_
  first|with_reducible refine ks [] @zt_ ?_|refine kp @zt_ ?_
  refine⟨_,(ke @zt_),⟨hw4,hw6,hw2,hw3,trivial⟩, ?_⟩
  rfl
 ·have hapl:ap<l.length:=by omega
  have hb:=hr.has (by omega)
  have hrl:=hr.lt (by omega)
  have d1: ((ap:Int)==(tp:Int))=false:=beq_eq_false_iff_ne.2 (by omega)
  have ix:=hr.idx true ap hapl
  have ld:=hr.load zi_ (by omega) hapl
  have ldi:=vg_ hr hapl
  rw[Nat.add_zero] at ldi
  generalize l.getD ap rw0=r at*
  have hn2:b2≠rb:=by omega
  have hn3:b3≠rb:=by omega
  have hn4:b4≠rb:=by omega
  have hn6:b6≠rb:=by omega
  have hn2':b2≠bi:=by omega
  have hn3':b3≠bi:=by omega
  have hn4':b4≠bi:=by omega
  have hn6':b6≠bi:=by omega
  first|with_reducible refine ks [] @zt_ ?_|refine kp @zt_ ?_
  refine Cw.regionS [b2,b3,bi,rb] [0,1,2,3,8,4,5,6,7,9,10,11,12,13,14] [] (by kernel_rfl) (by kernel_rfl) (by kernel_rfl) ?_
  simp only[zh_, ↓zc_, ↓zb_, ↓zn_, ↓zo_,za_]
  refine kq (And.intro @zt_ (And.intro @d1 (And.intro @h1 (And.intro @hb (And.intro @ix (And.intro @ldi (@abr_))))))) ?_
  try with_reducible refine Ow.nil ?_
  by_cases he:r.id.l=x.l
  ·have d2: (r.id.l==x.l)=true:=beq_iff_eq.2 he
   rw[if_pos ⟨hap,he⟩]
   first|with_reducible refine ks [] (And.intro @zt_ (And.intro @d2 (And.intro @h1 (And.intro @hb (And.intro @ix (@ld)))))) ?_|refine kp (And.intro @zt_ (And.intro @d2 (And.intro @h1 (And.intro @hb (And.intro @ix (@ld)))))) ?_
   refine⟨_,(ke @zt_),⟨hw6,hw4,hw2,hw3,trivial⟩, ?_⟩
   rfl
  ·have d2: (r.id.l==x.l)=false:=beq_eq_false_iff_ne.2 he
   rw[if_neg (fun h=>he h.2)]
   first|with_reducible refine ks [] (And.intro @zt_ @d2) ?_|refine kp (And.intro @zt_ @d2) ?_
   refine Ow.build (.agg (rwC rw0).toArray) rfl (by rw[show kt_ Tryz.prog 104=some [(0,32),(32,1),(33,1)] from id (by kernel_rfl),Q9_];simp[qg_,Sx.fillV]) ?_
   refine Ow.permL (M:= [(b4, .cells (rwC rw0).toArray 104 (0,0)),(b6, .cells #[vi (js_ l (zT_ x):Nat)] 3 (0,0)),(b2, .cells #[vp bi 0] 93 (0,0)),(b3, .cells (a8 x.l) 37 (0,0))]) (by classical exact List.perm_iff_count.2 fun a=>by simp only[List.count_append,List.count_cons,List.count_nil]<;>omega) ?_
   refine ko @zt_ ?_
   first|with_reducible refine ks [] @zt_ ?_|refine kp @zt_ ?_
   refine⟨_,(ke @zt_),⟨hw4,hw6,hw2,hw3,trivial⟩, ?_⟩
   rfl
def vC_ (pre:List UInt8) (r:RwL):Bool:=decide (pre.length≤ (JD_ r.id.l).length)&& ((JD_ r.id.l).take pre.length==pre)
def qD_ (l:List RwL) (pre:List UInt8):List RwL:=l.filter (vC_ pre)
structure UnG where
 k:Nat
 v:Value
 D1:zd_
 DG:zd_
theorem Kn_ (pre:List UInt8) (w:World):Rets Tryz.prog 53 #[.pointer none,vs pre] w (fun v D=>v= .slice none 0 0∧D= []):=by
 refine Rets.enterV Tryz.func53 rfl (rs:= [.tmp 4]) Tryz.results53 Tryz.ntmps53 ?_
 refine kf ?_
 first|with_reducible refine ks [] @zt_ ?_|refine kp @zt_ ?_
 refine Ow.callFV rfl Tryz.call51 (fun w' hw'=>Xk_ w') ?_
 refine ko (And.intro @zt_ @wY_) ?_
 refine Cw.loopG (G:=Unit) [12,13,14,7,15,16,17,18,19,20,21,22,23,5,24,11] (fun g=> [(5, .slice none 0 0),(11,vi 0)]) (fun g=> []) (fun g=>True) (fun g=>0) () rfl rfl ?_ ?_
 ·trivial
 ·intro g j hg
  refine kv ?_
  first|with_reducible refine ks [] @zt_ ?_|refine kp @zt_ ?_
  refine⟨_,(ke @zt_),trivial, ?_⟩
  rfl
theorem Jo_ (bi:Nat) (s:List UInt8) (l:List RwL) (pre:List UInt8) (w:World) (h:IxIn w bi s l) (hl:l.length<1000000):
  Rets Tryz.prog 53 #[vp bi 0,vs pre] w (XS w [] (fun v D=>GrI D 104 34 v (qD_ l pre).length ((qD_ l pre).map rwC).flatten)):=by
 refine Rets.enterX Tryz.func53 rfl (rs:= [.tmp 4]) Tryz.results53 Tryz.ntmps53 (fun p hp=>by cases hp) (by simp[keys]) ?_
 refine kf ?_
 first|with_reducible refine ks [] @zt_ ?_|refine kp @zt_ ?_
 refine Ow.callC rfl rfl Tryz.call51 (fun w' hw'=>Qe_ bi s l w' (h.old hw' trivial) hl) (fun B1 v9 D9 hA9 hB9 hN9 hS9=> ?_)
 have hN:New w.heap.size D9:=hN9.mono hB9
 have ln:=VQ_ hS9
 rw[List.nil_append]
 refine ko (And.intro @zt_ @ln) ?_
 refine Cw.world fun w1 hw1=> ?_
 obtain⟨rb,off,arr,E,fz,hr,hlk⟩:=hS9.rowL (z:=rw0) rfl hw1 zi_
 clear hw1 hS9 hN9 hA9 h hB9
 refine Cw.permL (M:=D9++ ([]++ [])) (by simp) ?_
 refine Cw.loopG (G:=UnG) [12,13,14,7,15,16,17,18,19,20,21,22,23,5,24,11] (fun g=> [(5,g.v),(11,vi g.k)]) (fun g=>D9++ (g.D1++g.DG)) (fun g=>g.k≤l.length∧New w.heap.size g.D1∧New w.heap.size g.DG∧Gr g.D1 104 34 g.v (qD_ (l.take g.k) pre).length ((qD_ (l.take g.k) pre).map rwC).flatten) (fun g=>l.length - g.k) ⟨0, .slice none 0 0,[],[]⟩ rfl rfl ?_ ?_
 ·exact⟨Nat.zero_le _,trivial,trivial,Gr.nl⟩
 intro g j hg
 refine kv ?_
 obtain⟨k,v,D1,DG⟩:=g
 simp only at hg ⊢
 obtain⟨hk,hN1,hNG,hG1⟩:=hg
 by_cases hlt:k<l.length
 ·have d1:decide ((k:Int)< (l.length:Int))=true:=decide_eq_true (by omega)
  have ix:=hr.idx true k hlt
  have ld:=hr.load zi_ (by omega) hlt
  have rd:zy_ w (D9++ (D1++DG)) rb=some (.cells arr E fz):=qd_ (je_ (hlk (by omega)))
  have hus:qD_ (l.take (k+1)) pre=qD_ (l.take k) pre++ (if vC_ pre (l.getD k rw0)=true then [l.getD k rw0] else []):=by
   unfold qD_
   rw[StP.take_snoc (z:=rw0) hlt,List.filter_append,List.filter_cons,List.filter_nil]
  have hml: (qD_ (l.take k) pre).length≤k:=Nat.le_trans (List.length_filter_le _ _) (by rw[List.length_take];omega)
  generalize l.getD k rw0=r at*
  first|with_reducible refine ks [7] (And.intro @zt_ (And.intro @d1 (And.intro @ix (And.intro @rd (@ld))))) ?_|refine kp (And.intro @zt_ (And.intro @d1 (And.intro @ix (And.intro @rd (@ld))))) ?_
  refine Ow.alloc rfl rfl Q9_ fun b7 hb7 hw7=> ?_
  simp only[ze_,List.nil_append,List.cons_append]
  refine Ow.permL (M:=(b7, .cells (rwC rw0).toArray 104 (0,0)):: (D9++ (D1++DG))) (by classical exact List.perm_iff_count.2 fun a=>by simp only[List.count_append,List.count_cons,List.count_nil]<;>omega) ?_
  refine ko @zt_ ?_
  first|with_reducible refine ks [] @zt_ ?_|refine kp @zt_ ?_
  refine Ow.callFV rfl Tryz.call114 (fun w' hw'=>akl_ r.id.l r.id.h w') ?_
  refine ko @zt_ ?_
  refine Ow.callFV rfl Tryz.call113 (fun w' hw'=>Wp_ (JD_ r.id.l) pre w' (by rw[x8_,r.id.h];omega)) ?_
  have hub: (decide (pre.length≤ (JD_ r.id.l).length)&& ((JD_ r.id.l).take pre.length==pre))=vC_ pre r:=rfl
  rw[hub]
  cases hc:vC_ pre r with
  |true=>
   rw[hc,if_pos rfl] at hus
   refine ko @zt_ ?_
   first|with_reducible refine ks [] @zt_ ?_|refine kp @zt_ ?_
   refine Ow.buildSlice (e:=104) (rwC r).toArray rfl rfl (zX_ Tryz.underlying81 aai_ Q9_ (by decide) (zi_ _)) fun ba hba hwa=> ?_
   refine ko @zt_ ?_
   refine Ow.permL (M:=D1++ ((b7, .cells (rwC r).toArray 104 (0,0)):: (DG++ ((ba, .cells (rwC r).toArray 104 (0,0))::D9)))) (by classical exact List.perm_iff_count.2 fun a=>by simp only[List.count_append,List.count_cons,List.count_nil]<;>omega) ?_
   refine Ow.appendXG (e:=104) (k:=1) (new:=rwC r) (X:=D1) v rfl rfl rfl rfl Tryz.underlying81 aai_ (by kernel_rfl) Q9_ (by rw[zI_,List.size_toArray,zi_]) Tryz.underlying81 (by intro k h;cases h) hG1 (fun w' hw'=>AppX.one1 (hw'.has ba (.cells (rwC r).toArray 104 (0,0)) (by simp)) (zi_ _) (jU_ _)) (by omega) (fun B4 v4 D4 hA4 hB4 hG4 hk41 hk42 hlk4=> ?_)
   have hN4:New w.heap.size D4:=New.of_le fun q hq=>by
    rcases hk42 q hq with h|h
    ·exact hN1.le q h
    ·omega
   refine ko @zt_ ?_
   refine Cw.permL (M:=D9++ (D4++ ((b7, .cells (rwC r).toArray 104 (0,0)):: (DG++ [(ba, .cells (rwC r).toArray 104 (0,0))])))) (by classical exact List.perm_iff_count.2 fun a=>by simp only[List.count_append,List.count_cons,List.count_nil]<;>omega) ?_
   first|with_reducible refine ks [] @zt_ ?_|refine kp @zt_ ?_
   refine Again.mk ⟨k+1,v4,D4,(b7, .cells (rwC r).toArray 104 (0,0)):: (DG++ [(ba, .cells (rwC r).toArray 104 (0,0))])⟩ (by show l.length - (k+1)<l.length - k;omega) ⟨hlt,hN4,⟨hw7,hNG.app ⟨hwa,trivial⟩⟩, ?_⟩ rfl rfl
   show Gr D4 104 34 v4 (qD_ (l.take (k+1)) pre).length ((qD_ (l.take (k+1)) pre).map rwC).flatten
   rw[hus,List.length_append,show [r].length=1 from rfl]
   simpa only[List.map_append,List.map_cons,List.map_nil,List.flatten_append,List.flatten_cons,List.flatten_nil,List.append_nil] using hG4
  |false=>
   rw[hc,if_neg (by simp),List.append_nil] at hus
   refine ko @zt_ ?_
   refine Cw.permL (M:=D9++ (D1++ ((b7, .cells (rwC r).toArray 104 (0,0))::DG))) (by classical exact List.perm_iff_count.2 fun a=>by simp only[List.count_append,List.count_cons,List.count_nil]<;>omega) ?_
   first|with_reducible refine ks [] @zt_ ?_|refine kp @zt_ ?_
   refine Again.mk ⟨k+1,v,D1,(b7, .cells (rwC r).toArray 104 (0,0))::DG⟩ (by show l.length - (k+1)<l.length - k;omega) ⟨hlt,hN1,⟨hw7,hNG⟩, ?_⟩ rfl rfl
   show Gr D1 104 34 v (qD_ (l.take (k+1)) pre).length ((qD_ (l.take (k+1)) pre).map rwC).flatten
   rw[hus];exact hG1
 ·obtain rfl:k=l.length:=by omega
  have d1:decide ((l.length:Int)< (l.length:Int))=false:=decide_eq_false (by omega)
  rw[List.take_length] at hG1
  first|with_reducible refine ks [] (And.intro @zt_ @d1) ?_|refine kp (And.intro @zt_ @d1) ?_
  refine⟨_,(ke @zt_), ?_⟩
  exact⟨Ext.of_new (hN.app (hN1.app hNG)),Gr.i hG1 fun p hp=>by simp[hp]⟩
end Go.Proofs
end
section
open Go Go.Proofs Go.Sx Go.StP Go.Flo
namespace Go.Proofs
set_option maxRecDepth 10000
set_option maxHeartbeats 400000
set_option linter.unusedSimpArgs false
structure SvG where
 k:Nat
 out:List ObL
 v6:Value
 D6:zd_
 DG:zd_
set_option linter.defProp false
def arI_:=And.intro (And.intro (And.intro (@zg_) (@zf_)) (And.intro (@K0_) (And.intro (@VH_) (@K7_)))) (And.intro (And.intro (@Sx.tup2_0) (And.intro (@Sx.tup2_1) (@q2_))) (And.intro (@qp_) (And.intro (@qo_) (@qA_))))
end Go.Proofs
end
section
open Go Go.Proofs Go.Sx Go.StP Go.Flo
namespace Go.Proofs
set_option maxRecDepth 10000
set_option maxHeartbeats 400000
set_option linter.unusedSimpArgs false
def ao2_:Nat→List PartL→Nat→Nat
 |_,[],_=>0
 |i,p::r,j=>if(k7_ i p).length≤j then ao2_ (i+1) r (j - (k7_ i p).length)+1 else 0
def endG (a i:Nat) (l:List PartL) (k:Nat):Nat:=a+ (q7_ i (l.take (k+1))).length
theorem Wt_: ∀ (ts:List (List UInt8)) (ids:List IdL) (os:List ObL) (q:List IdL×List ObL),q8_ ts ids os=some q→q=(ids++ts.map j8_,os++ts.map zG_)∧ ∀k,k<ts.length→frOk (ts.getD k [])=true∧ ∀y,y∈ids++ (ts.take k).map j8_→(j8_ (ts.getD k [])).l≠y.l
 | [],ids,os,q,h=>by cases h;exact⟨by simp,fun k hk=>absurd hk (Nat.not_lt_zero _)⟩
 |s::r,ids,os,q,h=>by
  rw[q8_] at h
  split at h
  ·rename_i hc
   obtain⟨h1,h2⟩:=Wt_ r _ _ q h
   refine⟨by rw[h1];simp, ?_⟩
   intro k hk
   cases k with
   |zero=>
    refine⟨hc.1,fun y hy=> ?_⟩
    simp only[List.take_zero,List.map_nil,List.append_nil] at hy
    have:=(List.any_eq_false.1 hc.2) y hy
    simpa using this
   |succ k=>
    have:=h2 k (by simpa using hk)
    refine⟨this.1,fun y hy=>this.2 y ?_⟩
    simpa using hy
  ·cases h
theorem af3_ {l:List PartL} {q:List IdL×List ObL} (h:fillV l=some q):q.2.length=l.length∧q.1.length=l.length∧ ∀k,k≤l.length→Jn_ l k=q.2.take k:=by
 unfold fillV at h
 cases ha:QK_ l with
 |error e=>rw[ha] at h;cases h
 |ok ts=>
  rw[ha] at h
  change q8_ ts [] []=some q at h
  obtain⟨h1,h2⟩:=Wt_ _ _ _ _ h
  simp only[List.nil_append] at h1 h2
  subst h1
  unfold QK_ at ha
  split at ha
  ·cases ha
  ·have hlen:=wb_ _ _ ha
   refine⟨by simp[hlen],by simp[hlen], ?_⟩
   intro k
   induction k with
   |zero=>intro _;rfl
   |succ k ih=>
    intro hk
    have hp:=vp_ _ _ ha k (by omega)
    obtain⟨hf,hn⟩:=h2 k (by omega)
    unfold Jn_
    rw[hp]
    simp only
    rw[ih (by omega)]
    have hno:zG_ (ts.getD k [])∉ (ts.map zG_).take k:=by
     intro hm
     rw[←List.map_take] at hm
     obtain⟨s,hs,he⟩:=List.mem_map.1 hm
     refine hn (j8_ s) (List.mem_map.2 ⟨s,hs,rfl⟩) ?_
     unfold j8_
     rw[he]
    rw[if_pos ⟨hf,hno⟩]
    have hk':k< (ts.map zG_).length:=by rw[List.length_map];omega
    rw[take_snoc (z:=ob0) hk']
    congr 2
    rw[List.getD_eq_getElem?_getD,List.getD_eq_getElem?_getD,List.getElem?_map,List.getElem?_eq_getElem (by omega)]
    rfl
end Go.Proofs
end
section
open Go Go.Proofs Go.Sx Go.StP Go.Flo
namespace Go.Proofs
set_option maxRecDepth 10000
set_option maxHeartbeats 400000
set_option linter.unusedSimpArgs false
def sumX (l:List PartL):Nat:=(l.map fun p=>p.x.length).sum
def sumW (l:List PartL):Nat→Int
 |0=>0
 |k+1=>IntKind.i64.wrap (sumW l k+ (l.getD k qt_).x.length)
def aqB_ (l:List PartL):Bool:=decide (210<l.length) || (List.range l.length).any fun k=>decide (30000<sumW l (k+1))
set_option linter.defProp false
def arR_:=And.intro (And.intro (@zg_) (And.intro (@zf_) (@jt_))) (And.intro (And.intro (@ju_) (@jo_)) (And.intro (@wj_) (@ans_)))
end Go.Proofs
end
section
open Go Go.Proofs Go.Sx Go.StP Go.Flo
namespace Go.Proofs
set_option maxRecDepth 10000
set_option maxHeartbeats 400000
set_option linter.unusedSimpArgs false
def abS:List UInt8:= [98,2,97,98]
def abP:PartL:=⟨false,0,abS⟩
theorem ab_read:frOk abS=true∧zG_ abS=⟨1,[97,98]⟩:=by
 have h:frOk abS=true:=by decide
 refine⟨h, ?_⟩
 unfold zG_
 rw[if_pos h,if_pos h]
 decide
theorem ahw_:fillV [abP]=some ([j8_ abS],[⟨1,[97,98]⟩]):=by
 unfold fillV
 rw[show QK_ [abP]= .ok [abS] from rfl]
 show q8_ [abS] [] []=_
 rw[q8_,if_pos ⟨ab_read.1,rfl⟩,q8_,ab_read.2]
 rfl
theorem alg_: ∀p,p∈ [abP]→p.x.length≤65536:=by
 intro p hp;rw[List.mem_singleton] at hp;subst hp;decide
theorem aoz_: (qP_ (vZ_ [abP])).length=15:=by
 have h1:qS_ (zz_ (([abP].length:Nat):Int))= [1]:=by rw[show zz_ (([abP].length:Nat):Int)=1 from rfl,qI_ (by decide)];rfl
 have h2:qS_ (zz_ (QM_ 0 abP))= [0]:=by rw[show zz_ (QM_ 0 abP)=0 from rfl,qI_ (by decide)];rfl
 have h3:qS_ (zz_ ((abS.length:Nat):Int))= [4]:=by rw[show zz_ ((abS.length:Nat):Int)=4 from rfl,qI_ (by decide)];rfl
 have h4:xD_ abP.x= [4]++abS:=by show qS_ (zz_ ((abS.length:Nat):Int))++abS=_;rw[h3]
 rw[Zd_]
 unfold vZ_ q7_ q7_ k7_
 rw[h1,h2,h4]
 rfl
theorem aqb_ (k k':Int) (t t':List UInt8):qJ_ Tryz.prog .eql 43 (obV k t) (obV k' t')=some (.bool (decide ((⟨k,t⟩:ObL)=⟨k',t'⟩))):=aoX_ ⟨k,t⟩ ⟨k',t'⟩
theorem ajl_ {w:World} {b:Nat} {p:PartL} (h:w.heap[b]? =some (.cells (zx_ p).toArray 114 (0,0))):ZF_ w (vsl b 0 1 1) [p]:=
 SlV.sl (l:= [p]) h (fun k hk j hj=>by
  obtain rfl:k=0:=by simpa using hk
  rw[Nat.zero_mul,Nat.zero_add,List.getElem?_toArray];rfl) (Nat.le_refl 1) (Nat.le_refl 3)
set_option linter.defProp false
def arD_:=And.intro (And.intro (And.intro (@zg_) (@zf_)) (And.intro (@Sx.tup2_0) (And.intro (@Sx.tup2_1) (@q2_)))) (And.intro (And.intro (@qp_) (@qo_)) (And.intro (@qA_) (And.intro (@aqb_) (@qk_))))
end Go.Proofs
end
section
open Go Go.Proofs Go.Sx Go.StP Go.Flo
namespace Go.Proofs
set_option maxRecDepth 10000
set_option maxHeartbeats 400000
set_option linter.unusedSimpArgs false
theorem acA_ {b:List UInt8} {l:List PartL} {sp:List Nat} {q:List IdL×List ObL} (h:ZY_ b=some (l,sp,q)):SmallP l∧l.length≤200∧sp.length=l.length∧q.1.length=l.length∧q.2.length=l.length:=by
 unfold ZY_ at h
 split at h
 ·rename_i hc
  have h1:=Jr_ (zq_ b).1
  have h2:=Wy_ (zq_ b).1
  cases hf:fillV (xc_ (zq_ b).1).1 with
  |none=>rw[hf] at h;cases h
  |some q'=>
   rw[hf] at h
   cases h
   obtain⟨h3,h4,-⟩:=af3_ hf
   exact⟨h1,h2.1,h2.2,h4,h3⟩
 ·cases h
set_option linter.defProp false
def aqY_:=And.intro (And.intro (@zg_) (@zf_)) (And.intro (@Sx.tup2_0) (@Sx.tup2_1))
end Go.Proofs
end
section
open Go Go.Proofs Go.Sx Go.StP Go.Flo
namespace Go.Proofs
set_option maxRecDepth 10000
set_option maxHeartbeats 400000
set_option linter.unusedSimpArgs false
def Zt_ (sp:List Nat) (ids:List IdL):List RwL:=(List.range ids.length).map fun i=>⟨ids.getD i id0,(i:Int),(sp.getD i 0:Nat)⟩
theorem ahz_ (sp:List Nat) (ids:List IdL): (Zt_ sp ids).length=ids.length:=by simp[Zt_]
theorem ajv_ (sp:List Nat) (ids:List IdL) {k:Nat} (h:k<ids.length): (Zt_ sp ids).getD k rw0=⟨ids.getD k id0,(k:Int),(sp.getD k 0:Nat)⟩:=by
 unfold Zt_
 rw[List.getD_eq_getElem?_getD,List.getElem?_map,List.getElem?_range h];rfl
def amy_ (b:List UInt8) (v:Value):Prop:=match ZY_ b with
 |none=>v= .tuple #[vs [],vi 2]
 |some q=> ∃Z,rws_SortOf (Zt_ q.2.1 q.2.2.1) Z∧v= .tuple #[vs (km_ (b.drop (b.length - 4)) Z).1,vi (km_ (b.drop (b.length - 4)) Z).2]
theorem ahh_ {b:List UInt8} {q:List PartL×List Nat×List IdL×List ObL} (h:ZY_ b=some q):4≤b.length:=by
 unfold ZY_ at h
 split at h
 ·rename_i hc
  have:=Vo_ hc.1
  rw[←this,Zd_];omega
 ·cases h
structure MkG where
 k:Nat
 v:Value
 D:zd_
set_option linter.defProp false
def xH_:=And.intro (And.intro (@zg_) (@zf_)) (And.intro (@Sx.tup2_0) (@Sx.tup2_1))
theorem afx_ (b:List UInt8) (w:World) (hG:GlobE w) (hC:GlobC w) (hb:b.length<1099511627776):
  Rets Tryz.prog 47 #[vs b] w (fun v D=>amy_ b v∧D= []):=by
 refine Rets.enterV Tryz.func47 rfl (rs:= [.tmp 2, .tmp 3]) Tryz.results47 Tryz.ntmps47 ?_
 refine kf ?_
 first|with_reducible refine ks [1000004] @xH_ ?_|refine kp @xH_ ?_
 refine Ow.callC rfl rfl Tryz.call17 (fun w' hw'=>aeH_ b w' (hG.new hw' trivial) (hC.newP hw' trivial) hb) (fun B1 v1 D1 hA1 hB1 hN1 hS1=> ?_)
 have hD1:New w.heap.size D1:=hN1.mono hB1
 rw[List.nil_append]
 unfold am0_ at hS1
 unfold amy_
 cases hop:ZY_ b with
 |none=>
  rw[hop] at hS1
  have hS1':v1= .tuple #[.pointer none,vi 2]:=hS1
  subst hS1'
  refine ko @xH_ ?_
  first|with_reducible refine ks [] @xH_ ?_|refine kp @xH_ ?_
  refine⟨_,(ke @xH_),hD1, ?_⟩
  rfl
 |some q=>
  obtain⟨l,sp,q⟩:=q
  rw[hop] at hS1
  obtain⟨bp,rfl,hP⟩:=hS1
  simp only at hP
  obtain⟨hs1,hs2,hs3,hs4,hs5⟩:=acA_ hop
  have hb4:=ahh_ hop
  obtain⟨ids,os⟩:=q
  simp only at hP hs3 hs4 hs5 ⊢
  have hrl:=ahz_ sp ids
  refine ko @xH_ ?_
  refine Cw.rebaseV hD1 (by rfl) fun w1 hw1=> ?_
  have hP1:=hP.inW (fun q hq=>hq) hw1
  have hC1:=hC.newP hw1 hD1
  clear hw1 hP hD1 hN1
  first|with_reducible refine ks [] @xH_ ?_|refine kp @xH_ ?_
  refine Ow.callFV rfl Tryz.call20 (fun w' hw'=>Ws_ bp l sp ids os w' (hP1.old hw' trivial)) ?_
  refine ko @xH_ ?_
  refine Cw.loopG (G:=MkG) [19,20,7,21,22,23,24,25,26,27,28,29,30,31,6,32,18] (fun g=> [(6,g.v),(18,vi g.k)]) (fun g=>g.D) (fun g=>g.k≤l.length∧Ext w1 [] g.D∧Gr g.D 104 34 g.v g.k (((Zt_ sp ids).take g.k).map rwC).flatten) (fun g=>l.length - g.k) ⟨0, .slice none 0 0,[]⟩ rfl rfl ?_ ?_
  ·exact⟨Nat.zero_le _,Ext.refl w1 [],Gr.nl⟩
  intro g j hg
  refine kv ?_
  obtain⟨k,v,D⟩:=g
  simp only at hg ⊢
  obtain⟨hk,hE,hGr⟩:=hg
  have hN:=hE.new0
  by_cases hlt:k<l.length
  ·have d1:decide ((k:Int)< (l.length:Int))=true:=decide_eq_true (by omega)
   have hh:hasV l (k:Int)=true:=by unfold hasV;rw[d1,Bool.and_true];exact decide_eq_true (by omega)
   have hra:=ajv_ sp ids (show k<ids.length by omega)
   first|with_reducible refine ks [] (And.intro @xH_ @d1) ?_|refine kp (And.intro @xH_ @d1) ?_
   refine Ow.callFV rfl Tryz.call22 (fun w' hw'=>akh_ bp (k:Int) l sp ids os w' (hP1.old hw' hN) (by omega)) ?_
   rw[hh,if_pos rfl,Int.toNat_natCast]
   refine ko @xH_ ?_
   refine Ow.callFV rfl Tryz.call23 (fun w' hw'=>afW_ bp (k:Int) l sp ids os w' (hP1.old hw' hN) hs3) ?_
   rw[hh,if_pos rfl,Int.toNat_natCast]
   refine ko @xH_ ?_
   refine Ow.build (.agg (rwC ((Zt_ sp ids).getD k rw0)).toArray) rfl (by rw[hra];exact VP_ ⟨ids.getD k id0,(k:Int),(sp.getD k 0:Nat)⟩) ?_
   refine ko @xH_ ?_
   refine Ow.buildSlice (e:=104) (rwC ((Zt_ sp ids).getD k rw0)).toArray rfl rfl (zX_ Tryz.underlying81 aai_ Q9_ (by decide) (zi_ _)) fun b6 hb6 hw6=> ?_
   refine ko @xH_ ?_
   refine Ow.appendG (e:=104) (k:=1) (new:=rwC ((Zt_ sp ids).getD k rw0)) v rfl rfl rfl Tryz.underlying81 aai_ (by kernel_rfl) Q9_ (by rw[zI_,List.size_toArray,zi_]) Tryz.underlying81 (by intro k h;cases h) hGr.app (fun w' hw'=>AppX.one1 (hw'.has _ _ (List.mem_append_right _ List.mem_cons_self)) (zi_ _) (jU_ _)) (by show(rwC _).length=1*34;rw[zi_]) (by omega) (fun v3 L3 hB3 _ hg3 hs3=> ?_)
   have hE3:=(hE.app (o:= .cells (rwC ((Zt_ sp ids).getD k rw0)).toArray 104 (0,0)) hw6).grew hg3
   refine ko @xH_ ?_
   first|with_reducible refine ks [] @xH_ ?_|refine kp @xH_ ?_
   refine Again.mk ⟨k+1,v3,L3⟩ (by show l.length - (k+1)<l.length - k;omega) ⟨hlt,hE3, ?_⟩ rfl rfl
   show Gr L3 104 34 v3 (k+1) (((Zt_ sp ids).take (k+1)).map rwC).flatten
   rw[StP.take_snoc (z:=rw0) (by omega)]
   simpa only[List.map_append,List.map_cons,List.map_nil,List.flatten_append,List.flatten_cons,List.flatten_nil,List.append_nil] using hB3
  ·obtain rfl:k=l.length:=by omega
   have d1:decide ((l.length:Int)< (l.length:Int))=false:=decide_eq_false (by omega)
   rw[List.take_of_length_le (by omega)] at hGr
   have e4: (b.length:Int) - 4=((b.length - 4:Nat):Int):=by omega
   first|with_reducible refine ks [] (And.intro @xH_ (And.intro @d1 (@e4))) ?_|refine kp (And.intro @xH_ (And.intro @d1 (@e4))) ?_
   have hdl: (b.drop (b.length - 4)).length<1099511627776:=by rw[List.length_drop];omega
   refine Ow.callC rfl rfl Tryz.call42 (fun w' hw'=>Rets.toX (w7_ (b.drop (b.length - 4)) v (Zt_ sp ids) w' (hC1.newP hw' hN) (hGr.slV hw' (by omega) rfl zi_) (by omega) hdl)) (fun B2 v2 D2 hA2 hB2 hN2 hS2=> ?_)
   obtain⟨rfl,Z,hZ,rfl⟩:=hS2
   rw[List.append_nil]
   refine ko @xH_ ?_
   first|with_reducible refine ks [] @xH_ ?_|refine kp @xH_ ?_
   refine⟨_,(ke @xH_),hN, ?_⟩
   exact⟨Z,hZ,rfl⟩
end Go.Proofs
end
section
open Go Go.Proofs Go.Sx Go.StP Go.Flo Go.Dig
namespace Go.Proofs
set_option maxRecDepth 10000
set_option maxHeartbeats 400000
set_option linter.unusedSimpArgs false
def aiR:RwL:=⟨j8_ abS,0,5⟩
theorem ao4_ (s:List UInt8) (h:s.length=4):qx_ s [aiR]=true:=by
 unfold qx_
 rw[h]
 rfl
theorem alj_ {r:RwL} {Z:List RwL} (h:rws_SortOf [r] Z):Z= [r]:=h.eq ⟨rfl,List.pairwise_singleton _ _,StP.St.refl _ _⟩
theorem ajq_: (qD_ [aiR] [])= [aiR]:=by
 unfold qD_
 rw[List.filter_cons,List.filter_nil,if_pos]
 unfold vC_
 rw[List.length_nil,List.take_zero]
 simp
set_option linter.defProp false
def vF_:=And.intro (And.intro (@zg_) (@zf_)) (And.intro (@Sx.tup2_0) (And.intro (@Sx.tup2_1) (@qk_)))
theorem qv_ (w:World) (hG:GlobE w) (hC:GlobC w):Rets Tryz.prog 41 #[] w (fun v D=>v= .bool true∧D= []):=by
 have hop:ZY_ (qP_ (vZ_ [abP]))=some ([abP],_,_):=ae4_ ahw_ alg_
 have hal:=aoz_
 have hwv:aat_ [abP]=(qP_ (vZ_ [abP]),0):=by unfold aat_;rw[ahw_]
 generalize qP_ (vZ_ [abP])=b at*
 have hsp:Zt_ (JI_ 0 (4+ (qS_ [abP].length).length) [abP]) [j8_ abS]= [aiR]:=by
  show [RwL.mk (j8_ abS) 0 _]=_
  rw[show qS_ [abP].length= [1] from by rw[show [abP].length=1 from rfl,qI_ (by decide)];rfl]
  rfl
 have hdl: (b.drop (b.length - 4)).length=4:=by rw[List.length_drop];omega
 have hri:=ao4_ (b.drop (b.length - 4)) hdl
 have hoi:=acE_ hri
 have hwi:km_ (b.drop (b.length - 4)) [aiR]=(qP_ (vB_ (b.drop (b.length - 4)) [aiR]),0):=by unfold km_;rw[if_pos hri]
 have hil: (qP_ (vB_ (b.drop (b.length - 4)) [aiR])).length<1000000:=by
  have h1:=Zr_ [aiR] 1 (by decide)
  have h2:=zs_ (([aiR].length:Nat):Int)
  have h3:=ZC_ (Qh_ (x0_ [aiR]))
  rw[k1_,vd_] at h3
  rw[List.take_of_length_le (by decide)] at h1
  rw[Zd_]
  unfold vB_ xG_
  rw[List.length_append,List.length_append,List.length_append,List.length_append,hdl,show magI.length=4 from rfl]
  omega
 refine Rets.enterV Tryz.func41 rfl (rs:= [.tmp 0]) Tryz.results41 Tryz.ntmps41 ?_
 refine kf ?_
 first|with_reducible refine ks [] @vF_ ?_|refine kp @vF_ ?_
 refine Ow.build (.agg (zx_ abP).toArray) rfl (JC_ abS) ?_
 refine ko @vF_ ?_
 refine Ow.buildSlice (e:=114) (zx_ abP).toArray rfl rfl (by kernel_rfl) fun b10 hb10 hw10=> ?_
 refine ko @vF_ ?_
 have hN10:New w.heap.size [(b10,Obj.cells (zx_ abP).toArray 114 (0,0))]:=⟨hw10,trivial⟩
 refine Ow.callFV rfl Tryz.call14 (fun w' hw'=>act_ (vsl b10 0 1 1) [abP] w' (ajl_ (hw'.has b10 _ List.mem_cons_self)) (hG.new hw' hN10) (hC.newP hw' hN10) (fun g hg=>by obtain rfl:g=0:=(by simpa using hg);decide) (by decide)) ?_
 rw[hwv]
 refine ko @vF_ ?_
 first|with_reducible refine ks [] @vF_ ?_|refine kp @vF_ ?_
 refine Ow.callC rfl rfl Tryz.call47 (fun w' hw'=>Rets.toX (afx_ b w' (hG.new hw' hN10) (hC.newP hw' hN10) (by omega))) (fun B1 v1 D1 hA1 hB1 hN1 hS1=> ?_)
 obtain⟨rfl,hS1⟩:=hS1
 unfold amy_ at hS1
 rw[hop] at hS1
 obtain⟨Z,hZ,rfl⟩:=hS1
 simp only at hZ
 rw[hsp] at hZ
 obtain rfl:=alj_ hZ
 rw[hwi,List.append_nil]
 generalize qP_ (vB_ (b.drop (b.length - 4)) [aiR])=s at*
 refine ko @vF_ ?_
 first|with_reducible refine ks [] @vF_ ?_|refine kp @vF_ ?_
 refine Ow.callC rfl rfl Tryz.call49 (fun w' hw'=>Km_ s w' (hC.newP hw' hN10) (by omega)) (fun B2 v2 D2 hA2 hB2 hN2 hS2=> ?_)
 unfold adQ_ at hS2
 rw[hoi] at hS2
 obtain⟨bi,rfl,hI⟩:=hS2
 simp only at hI
 have hN:=hN10.app (hN2.mono hB2)
 refine ko @vF_ ?_
 first|with_reducible refine ks [] @vF_ ?_|refine kp @vF_ ?_
 refine Ow.callC rfl rfl Tryz.call51 (fun w' hw'=>Qe_ bi _ [aiR] w' ((hI.mono (fun q hq=>by simp[hq])).inW hw') (by decide)) (fun B3 v3 D3 hA3 hB3 hN3 hS3=> ?_)
 have hN':=hN.app (hN3.mono hB3)
 refine Ow.world fun w1 hw1=> ?_
 obtain⟨rb,off,arr,E,fz,hr,hlk⟩:=(hS3.mono (D':=(b10,Obj.cells (zx_ abP).toArray 114 (0,0)):: (D2++D3)) (fun q hq=>by simp[hq])).rowL (z:=rw0) rfl hw1 zi_
 have rd:=qd_ (w0:=w) (hlk (by decide))
 have ln:=VQ_ hS3
 have ix:qa_ (.sl (true,34)) v3 (some 0)=some (vp rb off):=by simpa using hr.idx true 0 (by decide)
 have ld: ∀n,zr_ (some (false,n)) (some (.cells arr E fz)) (off+33)=some (vi 5):=fun n=>by simpa [aiR] using K5_ hr (k:=0) (by decide) n
 have e1: ((([aiR].length:Nat):Int)==1)=true:=rfl
 have e5: ((5:Int)==5)=true:=rfl
 refine ko (And.intro @vF_ (And.intro @ln (And.intro @ix (And.intro @rd (And.intro @ld (And.intro @e1 (@e5))))))) ?_
 refine Ow.callC rfl rfl Tryz.call53 (fun w' hw'=>Jo_ bi _ [aiR] [] w' ((hI.mono (fun q hq=>by simp[hq])).inW hw') (by decide)) (fun B4 v4 D4 hA4 hB4 hN4 hS4=> ?_)
 rw[ajq_] at hS4
 have ln4:=VQ_ hS4
 refine ko (And.intro @vF_ (And.intro @ln4 (@e1))) ?_
 first|with_reducible refine ks [] @vF_ ?_|refine kp @vF_ ?_
 refine⟨_,(ke @vF_),(hN'.app (hN4.mono hB4)), ?_⟩
 rfl
end Go.Proofs
end
section
open Go Go.Proofs Go.Sx Go.StP Go.Flo Go.Dig
namespace Go.Proofs
set_option maxRecDepth 10000
set_option maxHeartbeats 1000000
set_option linter.unusedSimpArgs false
theorem ah4_ (r:RwL): (!((r.id.l==r.id.l)&& (r.place==r.place)&& (r.spot==r.spot)))=false:=by simp
structure IbG where
 k:Nat
 DG:zd_
set_option linter.defProp false
def arT_:=And.intro (And.intro (And.intro (@zg_) (@zf_)) (And.intro (@Sx.tup2_0) (@Sx.tup2_1))) (And.intro (And.intro (@zI_) (@jZ_)) (And.intro (@xm_) (@qL_)))
end Go.Proofs
end
section
open Go Go.Proofs Go.Sx Go.StP Go.Flo
namespace Go.Proofs
set_option maxRecDepth 10000
set_option maxHeartbeats 400000
set_option linter.unusedSimpArgs false
set_option linter.defProp false
def aq7_:=And.intro (@zg_) (And.intro (@zf_) (@WY_))
def cpR (p:PcL) (b:Int):Value:=match cpV p b with
 |some q=> .tuple #[vi q.1,vi q.2, .bool true]
 |none=>if(1≤p.n∧p.n≤4099)∧p.x= []∧(p.n:Int)≤b then .tuple #[vi 0,vi p.n, .bool false] else .tuple #[vi 0,vi 0, .bool false]
set_option linter.defProp false
def arw_:=And.intro (And.intro (And.intro (And.intro (@zg_) (@zf_)) (And.intro (@xq_) (@xn_))) (And.intro (And.intro (@kQ_) (@jG_)) (And.intro (@J4_) (@cxz)))) (And.intro (And.intro (And.intro (@VK_) (@KX_)) (And.intro (@kj_) (@Sx.tup2_0))) (And.intro (And.intro (@Sx.tup2_1) (@Sx.tup3_0)) (And.intro (@Sx.tup3_1) (@Sx.tup3_2))))
end Go.Proofs
end
section
open Go Go.Proofs Go.Sx Go.StP Go.Flo
namespace Go.Proofs
set_option maxRecDepth 10000
set_option maxHeartbeats 400000
set_option linter.unusedSimpArgs false
set_option linter.defProp false
def ar2_:=And.intro (And.intro (And.intro (And.intro (@zg_) (@zf_)) (And.intro (@xq_) (@xn_))) (And.intro (And.intro (@kQ_) (@jG_)) (And.intro (@J4_) (@cxz)))) (And.intro (And.intro (And.intro (@VK_) (@KX_)) (And.intro (@kj_) (@Sx.tup2_0))) (And.intro (And.intro (@Sx.tup2_1) (@Sx.tup3_0)) (And.intro (@Sx.tup3_1) (@Sx.tup3_2))))
end Go.Proofs
end
section
open Go Go.Proofs Go.Sx Go.StP Go.Flo
namespace Go.Proofs
set_option maxRecDepth 10000
set_option maxHeartbeats 400000
set_option linter.unusedSimpArgs false
set_option linter.defProp false
def arn_:=And.intro (And.intro (And.intro (@zg_) (@zf_)) (And.intro (@xq_) (And.intro (@xn_) (@kQ_)))) (And.intro (And.intro (@jG_) (And.intro (@Sx.tup2_0) (@Sx.tup2_1))) (And.intro (@Sx.tup3_0) (And.intro (@Sx.tup3_1) (@Sx.tup3_2))))
end Go.Proofs
end
section
open Go Go.Proofs Go.Sx Go.StP Go.Flo
namespace Go.Proofs
set_option maxRecDepth 10000
set_option maxHeartbeats 400000
set_option linter.unusedSimpArgs false
set_option linter.defProp false
def arQ_:=And.intro (And.intro (And.intro (@zg_) (@zf_)) (And.intro (@xq_) (And.intro (@xn_) (@kQ_)))) (And.intro (And.intro (@jG_) (And.intro (@Sx.tup2_0) (@Sx.tup2_1))) (And.intro (@Sx.tup3_0) (And.intro (@Sx.tup3_1) (@Sx.tup3_2))))
end Go.Proofs
end
section
open Go Go.Proofs Go.Sx Go.StP Go.Flo
namespace Go.Proofs
set_option maxRecDepth 10000
set_option maxHeartbeats 400000
set_option linter.unusedSimpArgs false
def rrO (s:List UInt8) (a:Nat) (e:Int):Obj:= .cells #[vs s,vi a,vi e] 166 (0,0)
theorem adE_ (s:List UInt8) (a:Nat) (e:Int) (n:Nat):zr_ (some (false,n)) (some (rrO s a e)) 0=some (vs s):=(rfl)
theorem adT_ (s:List UInt8) (a:Nat) (e:Int) (n:Nat):zr_ (some (false,n)) (some (rrO s a e)) 1=some (vi a):=(rfl)
theorem adx_ (s:List UInt8) (a:Nat) (e:Int) (n:Nat):zr_ (some (false,n)) (some (rrO s a e)) 2=some (vi e):=(rfl)
theorem jX_ (b:Nat) (s:List UInt8) (a:Nat) (e most:Int) (w:World) (ha:a≤s.length) (hs:s.length<1099511627776) (ho:w.heap[b]? =some (rrO s a e)):
  Rets Tryz.prog 98 #[vp b 0,vi most] w (fun v D=> ∃o,D= [(b,o)]∧v=vi (zu_ s a e most).1∧o=rrO s (zu_ s a e most).2.1 (zu_ s a e most).2.2):=X9_ b s a e most w ha hs ho
theorem zrRR:zK_ Tryz.prog 166=some (.agg #[vs [],vi 0,vi 0]):=id (by kernel_rfl)
structure RrG where
 a:Nat
 e:Int
 out:List PcL
 v:Value
 D:zd_
 DG:zd_
def RrJ (d:List UInt8) (a0:Nat) (e0:Int) (sz:Nat) (g:RrG):Prop:=
 New sz g.D∧New sz g.DG∧Gr g.D 300 2 g.v g.out.length (g.out.map pcC).flatten∧g.a≤d.length∧BndP g.out∧g.out.length≤g.a+1∧(g.e=0→g.out.length≤g.a)∧
  ((e0≠0∧g.e≠0)∨(e0=0∧((g.e=0∧pcs d a0=(g.out++ (pcs d g.a).1,(pcs d g.a).2))∨(g.e≠0∧pcs d a0=(g.out,g.a,g.e)))))
def aqO_ (d:List UInt8) (v:Value) (D:zd_):Prop:=match kB_ d with
 |some p=> ∃x,v= .tuple #[vi p.1,x, .bool true]∧BndP p.2∧p.2.length≤4099∧p.1≤4099∧GrI D 300 2 x p.2.length (p.2.map pcC).flatten
 |none=>v= .tuple #[vi 0, .slice none 0 0, .bool false]
set_option linter.defProp false
def arz_:=And.intro (And.intro (And.intro (@zg_) (And.intro (@zf_) (@adE_))) (And.intro (And.intro (@adT_) (@adx_)) (And.intro (@xq_) (@xn_)))) (And.intro (And.intro (And.intro (@kQ_) (@jG_)) (And.intro (@Sx.tup2_0) (@Sx.tup2_1))) (And.intro (And.intro (@Sx.tup3_0) (@Sx.tup3_1)) (And.intro (@Sx.tup3_2) (@kj_))))
end Go.Proofs
end
section
open Go Go.Proofs Go.Sx Go.StP Go.Flo
namespace Go.Proofs
set_option maxRecDepth 10000
set_option maxHeartbeats 400000
set_option linter.unusedSimpArgs false
set_option linter.defProp false
def arc_:=And.intro (And.intro (And.intro (@zg_) (@zf_)) (And.intro (@xq_) (And.intro (@xn_) (@kQ_)))) (And.intro (And.intro (@jG_) (And.intro (@Sx.tup2_0) (@Sx.tup2_1))) (And.intro (@Sx.tup3_0) (And.intro (@Sx.tup3_1) (@Sx.tup3_2))))
structure PrG where
 at_:Nat
 out:List Nat
 v:Value
 D:zd_
 DG:zd_
set_option linter.defProp false
def arp_:=And.intro (And.intro (And.intro (@zg_) (@zf_)) (And.intro (@jt_) (@ju_))) (And.intro (And.intro (@jo_) (@qk_)) (And.intro (@Sx.tup2_0) (@Sx.tup2_1)))
end Go.Proofs
end
section
open Go Go.Proofs Go.Sx Go.StP Go.Flo
namespace Go.Proofs
set_option maxRecDepth 10000
set_option maxHeartbeats 400000
set_option linter.unusedSimpArgs false
def BndD (l:List PartL):Prop:= ∀g,g<l.length→(l.getD g qt_).x.length<100000000
structure TrG where
 n:Nat
 s:List UInt8
 DG:zd_
set_option linter.defProp false
def aru_:=And.intro (And.intro (And.intro (@zg_) (@zf_)) (And.intro (@jt_) (@ju_))) (And.intro (And.intro (@jo_) (@qk_)) (And.intro (@Sx.tup2_0) (@Sx.tup2_1)))
end Go.Proofs
end
section
open Go Go.Proofs Go.Sx Go.StP Go.Flo
namespace Go.Proofs
set_option maxRecDepth 10000
set_option maxHeartbeats 400000
set_option linter.unusedSimpArgs false
structure A9G where
 ts:List (List UInt8)
 v:Value
 D:zd_
 DG:zd_
set_option linter.defProp false
def ar3_:=And.intro (And.intro (@zg_) (@zf_)) (And.intro (@Sx.tup2_0) (@Sx.tup2_1))
end Go.Proofs
end
section
open Go Go.Proofs Go.Sx Go.StP Go.Flo
namespace Go.Proofs
set_option maxRecDepth 10000
set_option maxHeartbeats 400000
set_option linter.unusedSimpArgs false
set_option linter.defProp false
def arU_:=And.intro (And.intro (@zg_) (@zf_)) (And.intro (@jd_) (@afZ_))
end Go.Proofs
end
section
open Go Go.Proofs Go.Sx Go.StP Go.Flo
namespace Go.Proofs
set_option maxRecDepth 10000
set_option maxHeartbeats 1000000
set_option linter.unusedSimpArgs false
def mkO (v0 v1 v2 v3:Value):Obj:= .cells #[v0,v1,v2,v3] 32 (0,0)
def mkV (v0 v1 v2 v3:Value):Value:= .agg #[v0,v1,v2,v3]
theorem Q7_ (v0 v1 v2 v3:Value):zr_ (some (true,4)) (some (mkO v0 v1 v2 v3)) 0=some (mkV v0 v1 v2 v3):=(rfl)
theorem adC_ (v0 v1 v2 v3:Value) (n:Nat):zr_ (some (false,n)) (some (mkO v0 v1 v2 v3)) 2=some v2:=(rfl)
theorem QV_ (v0 v1 v2 v3:Value) (n:Nat):zr_ (some (false,n)) (some (mkO v0 v1 v2 v3)) 3=some v3:=(rfl)
abbrev OneC (q:Value):Prop:=Value.oneCell' q=true∧q.cells= #[q]
def OfS (l:List PartL) (v0:Value) (v:Value) (D:zd_):Prop:=match fillV l with
 |some p=> ∃x2 x3,v= .tuple #[mkV v0 (.slice none 0 0) x3 x2, .bool true]∧GrI D 37 32 x2 p.1.length (p.1.map wR_).flatten∧GrI D 43 2 x3 p.2.length (p.2.map obC).flatten
 |none=> ∃x2 x3,v= .tuple #[mkV v0 (.slice none 0 0) x3 x2, .bool false]∧OneC x2∧OneC x3
set_option linter.defProp false
def arH_:=And.intro (And.intro (And.intro (@zg_) (And.intro (@zf_) (@Q7_))) (And.intro (@adC_) (And.intro (@QV_) (@Sx.tup2_0)))) (And.intro (And.intro (@Sx.tup2_1) (And.intro (@q2_) (@qp_))) (And.intro (@qo_) (And.intro (@qA_) (@jd_))))
end Go.Proofs
end
namespace Go.Sx
def kB (c:Bool):BitVec 32:=bif c then 3988292384#32 else 0#32
def stB (x:BitVec 32):BitVec 32:=(x>>>1)^^^kB (x.getLsbD 0)
theorem an9_ (c:Bool) (j:Nat) (h:j<5): (kB c).getLsbD j=false:=by
 have:j=0∨j=1∨j=2∨j=3∨j=4:=by omega
 rcases this with rfl|rfl|rfl|rfl|rfl<;>cases c<;>decide
theorem Z9_ (x:BitVec 32) (j:Nat) (h:j<5): (stB x).getLsbD j=x.getLsbD (j+1):=by
 unfold stB
 rw[BitVec.getLsbD_xor,an9_ _ _ h,BitVec.getLsbD_ushiftRight,Bool.xor_false,Nat.add_comm]
theorem stB4 (x:BitVec 32):stB (stB (stB (stB x)))=(x>>>4)^^^ (kB (x.getLsbD 0)>>>3^^^kB (x.getLsbD 1)>>>2^^^kB (x.getLsbD 2)>>>1^^^kB (x.getLsbD 3)):=by
 have h1: (stB x).getLsbD 0=x.getLsbD 1:=Z9_ x 0 (by omega)
 have h2: (stB (stB x)).getLsbD 0=x.getLsbD 2:=by rw[Z9_ _ 0 (by omega),Z9_ _ 1 (by omega)]
 have h3: (stB (stB (stB x))).getLsbD 0=x.getLsbD 3:=by rw[Z9_ _ 0 (by omega),Z9_ _ 1 (by omega),Z9_ _ 2 (by omega)]
 have e4:stB (stB (stB (stB x)))=(stB (stB (stB x))>>>1)^^^kB (x.getLsbD 3):=by rw[←h3];rfl
 have e3:stB (stB (stB x))=(stB (stB x)>>>1)^^^kB (x.getLsbD 2):=by rw[←h2];rfl
 have e2:stB (stB x)=(stB x>>>1)^^^kB (x.getLsbD 1):=by rw[←h1];rfl
 have e1:stB x=(x>>>1)^^^kB (x.getLsbD 0):=rfl
 rw[e4,e3,e2,e1]
 simp only[BitVec.ushiftRight_xor_distrib,←BitVec.shiftRight_add,BitVec.xor_assoc]
def hvB:List (BitVec 32):= [0x00000000,0x1db71064,0x3b6e20c8,0x26d930ac,0x76dc4190,0x6b6b51f4,0x4db26158,0x5005713c,0xedb88320,0xf00f9344,0xd6d6a3e8,0xcb61b38c,0x9b64c2b0,0x86d3d2d4,0xa00ae278,0xbdbdf21c]
theorem tabB: ∀a b c d:Bool,(kB a>>>3^^^kB b>>>2^^^kB c>>>1^^^kB d)=hvB.getD (a.toNat+2*b.toNat+4*c.toNat+8*d.toNat) 0:=by decide
theorem lowB (x:BitVec 32):x.toNat%16=(x.getLsbD 0).toNat+2* (x.getLsbD 1).toNat+4* (x.getLsbD 2).toNat+8* (x.getLsbD 3).toNat:=by
 have e: ∀i,(x.getLsbD i).toNat=x.toNat / 2^i%2:=by
  intro i
  rw[BitVec.getLsbD,Nat.testBit_eq_decide_div_mod_eq]
  have:=Nat.mod_lt (x.toNat / 2^i) (show 0<2 by omega)
  by_cases h:x.toNat / 2^i%2=1
  ·simp[h]
  ·have h0:x.toNat / 2^i%2=0:=by omega
   simp[h0]
 rw[e 0,e 1,e 2,e 3]
 omega
theorem aqj_ (x:BitVec 32):stB (stB (stB (stB x)))=(x>>>4)^^^hvB.getD (x.toNat%16) 0:=by
 rw[stB4,tabB,lowB]
end Go.Sx
section
open Go Go.Proofs Go.Sx
namespace Go.Proofs
set_option maxRecDepth 10000
set_option maxHeartbeats 4000000
set_option linter.unusedSimpArgs false
def vP_ (n:UInt32):UInt32:=if n%2==1 then n / 2^^^3988292384 else n / 2
theorem Vq_ (n:UInt32): (vP_ n).toBitVec=stB n.toBitVec:=by
 have hd: (n / 2).toBitVec=n.toBitVec>>>1:=by
  apply BitVec.eq_of_toNat_eq
  rw[UInt32.toBitVec_div,BitVec.toNat_udiv,BitVec.toNat_ushiftRight]
  rfl
 have hm: (n%2==1)=n.toBitVec.getLsbD 0:=by
  rw[BitVec.getLsbD,Nat.testBit_eq_decide_div_mod_eq,Nat.pow_zero,Nat.div_one,Bool.eq_iff_iff,beq_iff_eq,decide_eq_true_eq,←UInt32.toNat_inj,UInt32.toNat_mod]
  rfl
 unfold vP_ stB
 rw[hm]
 cases n.toBitVec.getLsbD 0
 ·rw[if_neg (by decide),hd];simp[kB]
 ·rw[if_pos rfl,UInt32.toBitVec_xor,hd];rfl
theorem aak_ (n:UInt32):WM_ n=vP_ (vP_ (vP_ (vP_ n))):=by
 apply UInt32.toBitVec_inj.1
 rw[Vq_,Vq_,Vq_,Vq_,aqj_]
 unfold WM_
 rw[UInt32.toBitVec_xor]
 congr 1
 ·apply BitVec.eq_of_toNat_eq
  unfold zP_
  rw[BitVec.toNat_ushiftRight,Nat.shiftRight_eq_div_pow]
  have:=n.toNat_lt
  simp only[UInt32.toNat_toBitVec,UInt32.toNat_ofNat']
  omega
 ·have e: (n&&&15).toNat=n.toBitVec.toNat%16:=by
   rw[UInt32.toNat_and,show(15:UInt32).toNat=2^4 - 1 from rfl,Nat.and_two_pow_sub_one_eq_mod]
   rfl
  rw[e]
  have hlt:n.toBitVec.toNat%16<16:=Nat.mod_lt _ (by omega)
  generalize n.toBitVec.toNat%16=m at hlt
  have: ∀m,m<16→(hvL.getD m 0).toBitVec=hvB.getD m 0:=by decide
  exact this m hlt
def ak1_ (n:UInt32):Nat→UInt32
 |0=>n
 |k+1=>vP_ (ak1_ n k)
theorem aew_ (n:UInt32):ak1_ n 8=aeW_ n 2:=by
 show vP_ (vP_ (vP_ (vP_ (vP_ (vP_ (vP_ (vP_ n)))))))=WM_ (WM_ n)
 rw[aak_,aak_]
set_option linter.defProp false
def qm_:=And.intro (And.intro (@zg_) (@wo_)) (And.intro (@wk_) (And.intro (@ww_) (@zf_)))
theorem ah5_ (n:UInt32) (w:World):Rets Tryz.prog 192 #[v32 n] w (fun v D=>v=v32 (vP_ n)∧D= []):=by
 have hrem:zm_ .rem (v32 n) (v32 2)=some (v32 (n%2)):=kn_ _ _ (by decide)
 have hquo:zm_ .quo (v32 n) (v32 2)=some (v32 (n / 2)):=ks_ _ _ (by decide)
 refine Rets.enterV Tryz.func192 rfl (rs:= [.tmp 2]) Tryz.results192 Tryz.ntmps192 ?_
 refine kf ?_
 unfold vP_
 first|with_reducible refine ks [] (And.intro @qm_ (And.intro @hrem (@hquo))) ?_|refine kp (And.intro @qm_ (And.intro @hrem (@hquo))) ?_
 cases h: (n%2==1)
 ·first|with_reducible refine ks [] (And.intro @qm_ @hquo) ?_|refine kp (And.intro @qm_ @hquo) ?_
  refine⟨_,(ke @qm_),trivial, ?_⟩
  rfl
 ·first|with_reducible refine ks [] (And.intro @qm_ @hquo) ?_|refine kp (And.intro @qm_ @hquo) ?_
  refine⟨_,(ke @qm_),trivial, ?_⟩
  rfl
theorem aik_ (n:UInt32) (b:UInt8) (w:World):Rets Tryz.prog 169 #[v32 n,v8 b] w (fun v D=>v=v32 (af5_ n b)∧D= []):=by
 refine Rets.enterV Tryz.func169 rfl (rs:= [.tmp 4]) Tryz.results169 Tryz.ntmps169 ?_
 refine kf ?_
 first|with_reducible refine ks [] @qm_ ?_|refine kp @qm_ ?_
 unfold af5_
 generalize n^^^UInt32.ofNat b.toNat=m
 rw[←aew_,show v32 m=v32 (ak1_ m 0) from rfl]
 refine Cw.loopG (G:=Nat) [10,11,14,15,0,12,13,5] (fun g=> [(0,v32 (ak1_ m g)),(5,vi g)]) (fun g=> []) (fun g=>g≤8) (fun g=>8 - g) 0 rfl rfl ?_ ?_
 ·omega
 intro g j hg
 refine kv ?_
 by_cases hlt:g<8
 ·first|with_reducible refine ks [] @qm_ ?_|refine kp @qm_ ?_
  refine Ow.callFV rfl Tryz.call192 (fun w' hw'=>ah5_ _ w') ?_
  refine ko @qm_ ?_
  first|with_reducible refine ks [] @qm_ ?_|refine kp @qm_ ?_
  refine Again.mk (g+1) (by omega) (by omega) rfl rfl
 ·obtain rfl:g=8:=by omega
  first|with_reducible refine ks [] @qm_ ?_|refine kp @qm_ ?_
  refine⟨_,(ke @qm_),trivial, ?_⟩
  rfl
theorem am4_ (n:UInt32):4294967295 - n= ~~~ n:=by
 apply UInt32.toBitVec_inj.1
 rw[UInt32.toBitVec_sub,UInt32.toBitVec_not,←BitVec.allOnes_sub_eq_not]
 rfl
theorem abg_ (s:List UInt8) (w:World) (hs:s.length<1099511627776):Rets Tryz.prog 136 #[vs s] w (fun v D=>v=v32 (crcV s)∧D= []):=by
 refine Rets.enterV Tryz.func136 rfl (rs:= [.tmp 2]) Tryz.results136 Tryz.ntmps136 ?_
 refine kf ?_
 first|with_reducible refine ks [] @qm_ ?_|refine kp @qm_ ?_
 rw[show v32 4294967295=v32 (VZ_ (~~~ (0:UInt32)) (s.take 0)) from rfl]
 refine Cw.loopG (G:=Nat) [5,6,7,8,11,12,13,14,15,3,9,10,4] (fun g=> [(3,v32 (VZ_ (~~~ (0:UInt32)) (s.take g))),(4,vi g)]) (fun g=> []) (fun g=>g≤s.length) (fun g=>s.length - g) 0 rfl rfl ?_ ?_
 ·omega
 intro g j hg
 refine kv ?_
 by_cases hlt:g<s.length
 ·first|with_reducible refine ks [] @qm_ ?_|refine kp @qm_ ?_
  refine Ow.callFV rfl Tryz.call169 (fun w' hw'=>aik_ _ _ w') ?_
  refine ko @qm_ ?_
  first|with_reducible refine ks [] @qm_ ?_|refine kp @qm_ ?_
  refine Again.mk (g+1) (by omega) (by omega) rfl ?_
  rw[Kv_ _ _ _ hlt]
  rfl
 ·obtain rfl:g=s.length:=by omega
  first|with_reducible refine ks [] @qm_ ?_|refine kp @qm_ ?_
  rw[List.take_length]
  rw[am4_]
  refine⟨_,(ke @qm_),trivial, ?_⟩
  rfl
theorem amo_ (n:UInt32):sum4 n= [UInt8.ofNat (n%256).toNat,UInt8.ofNat (n / 256%256).toNat,UInt8.ofNat (n / 65536%256).toNat,UInt8.ofNat (n / 16777216).toNat]:=by
 show [UInt8.ofNat (zP_ n 0).toNat,UInt8.ofNat (zP_ n 8).toNat,UInt8.ofNat (zP_ n 16).toNat,UInt8.ofNat (zP_ n 24).toNat]=_
 have hn:=n.toNat_lt
 congr 1
 ·apply UInt8.toNat_inj.1
  simp[zP_]
 ·congr 1
  ·apply UInt8.toNat_inj.1
   simp[zP_]
  ·congr 1
   ·apply UInt8.toNat_inj.1
    simp[zP_]
   ·congr 1
    apply UInt8.toNat_inj.1
    simp[zP_]
theorem Qq_ (s:List UInt8) (w:World) (hs:s.length<1099511627776):
  Rets Tryz.prog 68 #[vs s] w (fun v D=>v=vs (qP_ s)∧D= []):=by
 refine Rets.enterV Tryz.func68 rfl (rs:= [.tmp 2]) Tryz.results68 Tryz.ntmps68 ?_
 refine kf ?_
 first|with_reducible refine ks [] @qm_ ?_|refine kp @qm_ ?_
 refine Ow.callFV rfl Tryz.call136 (fun w' hw'=>abg_ s w' hs) ?_
 refine ko @qm_ ?_
 unfold qP_
 rw[amo_]
 generalize crcV s=n
 have h1:zm_ .rem (v32 n) (v32 256)=some (v32 (n%256)):=kn_ _ _ (by decide)
 have h2:zm_ .quo (v32 n) (v32 256)=some (v32 (n / 256)):=ks_ _ _ (by decide)
 have h3:zm_ .rem (v32 (n / 256)) (v32 256)=some (v32 (n / 256%256)):=kn_ _ _ (by decide)
 have h4:zm_ .quo (v32 n) (v32 65536)=some (v32 (n / 65536)):=ks_ _ _ (by decide)
 have h5:zm_ .rem (v32 (n / 65536)) (v32 256)=some (v32 (n / 65536%256)):=kn_ _ _ (by decide)
 have h6:zm_ .quo (v32 n) (v32 16777216)=some (v32 (n / 16777216)):=ks_ _ _ (by decide)
 first|with_reducible refine ks [] (And.intro @qm_ (And.intro @h1 (And.intro @h2 (And.intro @h3 (And.intro @h4 (And.intro @h5 (@h6))))))) ?_|refine kp (And.intro @qm_ (And.intro @h1 (And.intro @h2 (And.intro @h3 (And.intro @h4 (And.intro @h5 (@h6))))))) ?_
 generalize UInt8.ofNat (n%256).toNat=q0
 generalize UInt8.ofNat (n / 256%256).toNat=q1
 generalize UInt8.ofNat (n / 65536%256).toNat=q2
 generalize UInt8.ofNat (n / 16777216).toNat=q3
 refine Ow.buildSlice (e:=5) #[v8 q0,v8 q1,v8 q2,v8 q3] rfl rfl (by kernel_rfl) fun b1 hb1 hw1=> ?_
 rw[show(#[v8 q0,v8 q1,v8 q2,v8 q3]:Array Value)=a8 [q0,q1,q2,q3] from rfl]
 have hl4: [q0,q1,q2,q3].length=4:=rfl
 have e4:List.take 4 (List.drop 0 [q0,q1,q2,q3])= [q0,q1,q2,q3]:=rfl
 generalize [q0,q1,q2,q3]=q at*
 refine ko (And.intro @qm_ @e4) ?_
 first|with_reducible refine ks [] @qm_ ?_|refine kp @qm_ ?_
 refine⟨_,(ke @qm_),⟨hw1,trivial⟩, ?_⟩
 rfl
theorem X6_ (s:List UInt8) (w:World) (hs:s.length<1099511627776):
  Rets Tryz.prog 75 #[vs s] w (fun v D=>v= .tuple #[vs (zq_ s).1, .bool (zq_ s).2]∧D= []):=by
 refine Rets.enterV Tryz.func75 rfl (rs:= [.tmp 2, .tmp 3]) Tryz.results75 Tryz.ntmps75 ?_
 refine kf ?_
 first|with_reducible refine ks [] @qm_ ?_|refine kp @qm_ ?_
 unfold zq_
 by_cases h4:s.length<4
 ·have e1:decide ((s.length:Int)<4)=true:=decide_eq_true (by omega)
  rw[if_pos h4]
  first|with_reducible refine ks [] (And.intro @qm_ @e1) ?_|refine kp (And.intro @qm_ @e1) ?_
  refine⟨_,(ke @qm_),trivial, ?_⟩
  rfl
 ·have e1:decide ((s.length:Int)<4)=false:=decide_eq_false (by omega)
  have e2: ((s.length:Int) - 4).toNat=s.length - 4:=by omega
  rw[if_neg h4]
  first|with_reducible refine ks [] (And.intro @qm_ (And.intro @e1 (@e2))) ?_|refine kp (And.intro @qm_ (And.intro @e1 (@e2))) ?_
  refine Ow.callFV rfl Tryz.call68 (fun w' hw'=>Qq_ (s.take (s.length - 4)) w' (by rw[List.length_take];omega)) ?_
  refine ko @qm_ ?_
  cases hq: (qP_ (s.take (s.length - 4)) !=s)
  ·rw[if_pos (by simpa using hq)]
   first|with_reducible refine ks [] (And.intro @qm_ (And.intro @hq (@e2))) ?_|refine kp (And.intro @qm_ (And.intro @hq (@e2))) ?_
   refine⟨_,(ke @qm_),trivial, ?_⟩
   rfl
  ·rw[if_neg (by simpa using hq)]
   first|with_reducible refine ks [] (And.intro @qm_ @hq) ?_|refine kp (And.intro @qm_ @hq) ?_
   refine⟨_,(ke @qm_),trivial, ?_⟩
   rfl
end Go.Proofs
end
section
open Go Go.Proofs Go.Sx Go.StP Go.Flo
namespace Go.Proofs
set_option maxRecDepth 10000
set_option maxHeartbeats 1000000
set_option linter.unusedSimpArgs false
set_option linter.defProp false
def arj_:=And.intro (And.intro (@zg_) (And.intro (@zf_) (@jt_))) (And.intro (@ju_) (And.intro (@jo_) (@qk_)))
end Go.Proofs
end
section
open Go Go.Proofs Go.Sx Go.StP Go.Flo
namespace Go.Proofs
set_option maxRecDepth 10000
set_option maxHeartbeats 1000000
set_option linter.unusedSimpArgs false
def aqH_ (s:List UInt8) (v:Value) (D:zd_):Prop:=
 if(xk_ s).2.1=true then∃x y n A,v= .tuple #[x,y,vi n,vi A, .bool true]∧n=(xk_ s).1∧0≤n∧n≤200∧GrI D 114 3 x (xc_ s).1.length ((xc_ s).1.map zx_).flatten∧GrI D 3 1 y (xc_ s).2.1.length ((xc_ s).2.1.map VI_).flatten∧
  (((xc_ s).2.2.2=0∧A=(xc_ s).2.2.1∧((xc_ s).1.length:Int)=n)∨((xc_ s).2.2.2≠0∧((xc_ s).1.length:Int)<n))
 else v= .tuple #[.slice none 0 0, .slice none 0 0,vi 0,vi 0, .bool false]
structure RdDG where
 l:List PartL
 sp:List Nat
 a:Nat
 v1:Value
 v2:Value
 D1:zd_
 D2:zd_
 DG:zd_
set_option linter.defProp false
def arK_:=And.intro (And.intro (@zg_) (And.intro (@zf_) (@adE_))) (And.intro (And.intro (@adT_) (@adx_)) (And.intro (@qk_) (@wj_)))
end Go.Proofs
end
section
open Go Go.Proofs Go.Sx Go.StP Go.Flo
namespace Go.Proofs
set_option maxRecDepth 10000
set_option maxHeartbeats 1000000
set_option linter.unusedSimpArgs false
def MkD (D:zd_) (v:Value) (l:List PartL) (sp:List Nat) (ids:List IdL) (os:List ObL):Prop:=
 ∃v0 v1 v2 v3,v=mkV v0 v1 v3 v2∧GrI D 114 3 v0 l.length (l.map zx_).flatten∧GrI D 3 1 v1 sp.length (sp.map VI_).flatten∧GrI D 37 32 v2 ids.length (ids.map wR_).flatten∧GrI D 43 2 v3 os.length (os.map obC).flatten
def aqM_ (b:List UInt8) (v:Value) (D:zd_):Prop:=match ZY_ b with
 |some q=> ∃x,v= .tuple #[x, .bool true]∧MkD D x q.1 q.2.1 q.2.2.1 q.2.2.2
 |none=> ∃c0 c1 c2 c3,v= .tuple #[mkV c0 c1 c2 c3, .bool false]∧OneC c0∧OneC c1∧OneC c2∧OneC c3
def aqu_ (l:List PartL) (_x c2 c3:Value) (ok:Bool) (D:zd_):Prop:=match fillV l with
 |some p=>ok=true∧GrI D 37 32 c2 p.1.length (p.1.map wR_).flatten∧GrI D 43 2 c3 p.2.length (p.2.map obC).flatten
 |none=>ok=false
theorem aoM_ (a b c d e:Value): #[a,b,c,d,e][0]? =some a:=rfl
theorem anZ_ (a b c d e:Value): #[a,b,c,d,e][1]? =some b:=rfl
theorem aoW_ (a b c d e:Value): #[a,b,c,d,e][2]? =some c:=rfl
theorem aoF_ (a b c d e:Value): #[a,b,c,d,e][3]? =some d:=rfl
theorem anR_ (a b c d e:Value): #[a,b,c,d,e][4]? =some e:=rfl
set_option linter.defProp false
def aqR_:=And.intro (And.intro (And.intro (@zg_) (@zf_)) (And.intro (@Q7_) (And.intro (@Sx.tup2_0) (@Sx.tup2_1)))) (And.intro (And.intro (@aoM_) (@anZ_)) (And.intro (@aoW_) (And.intro (@aoF_) (@anR_))))
end Go.Proofs
end
section
open Go Go.Proofs Go.Sx Go.StP Go.Flo Go.Dig
namespace Go.Proofs
set_option maxRecDepth 10000
set_option maxHeartbeats 1000000
set_option linter.unusedSimpArgs false
def Dist (l:List RwL):Prop:=l.Pairwise fun a b=>a.id.l≠b.id.l
end Go.Proofs
end
section
open Go Go.Proofs Go.Sx Go.StP Go.Flo Go.Dig
namespace Go.Proofs
set_option maxRecDepth 100000
set_option maxHeartbeats 400000
set_option linter.unusedSimpArgs false
theorem X8_:zK_ Tryz.prog 107=some (.agg (rwC rw0).toArray):=id (by kernel_rfl)
theorem Zc_:z0_ Tryz.prog 107=some (true,34):=id (by kernel_rfl)
theorem akr_ (r:RwL):qg_ (kt_ Tryz.prog 107) (zK_ Tryz.prog 107) [(0,Value.agg (a8 r.id.l)),(1,vi r.place),(2,vi r.spot)]=some (.agg (rwC r).toArray):=by
 have hp:kt_ Tryz.prog 107=some [(0,32),(32,1),(33,1)]:=id (by kernel_rfl)
 rw[hp,X8_]
 have e0: (rwC rw0).toArray=(([]:List Value)++ ((rw0.id.l.map v8)++ ([vi rw0.place]++ ([vi rw0.spot])))).toArray:=by congr 1<;>simp only[rwC,List.append_assoc,List.nil_append,List.append_nil]
 have q0:vH_ (([]:List Value)++ ((rw0.id.l.map v8)++ ([vi rw0.place]++ ([vi rw0.spot])))).toArray 0 (r.id.l.map v8)=(([]:List Value)++ ((r.id.l.map v8)++ ([vi rw0.place]++ ([vi rw0.spot])))).toArray:=w0_ _ _ _ _ (by simp) (by simp[rw0.id.h,r.id.h])
 have s0: (([]:List Value)++ ((rw0.id.l.map v8)++ ([vi rw0.place]++ ([vi rw0.spot])))).toArray.size=34:=by simp[r.id.h,rw0.id.h]
 have z0: (Value.cells (Value.agg (a8 r.id.l))).toList=r.id.l.map v8:=by rw[ze_];rfl
 have y0: (Value.cells (Value.agg (a8 r.id.l))).size=32:=by rw[←Array.length_toList,z0];simp[r.id.h]
 have e1: (([]:List Value)++ ((r.id.l.map v8)++ ([vi rw0.place]++ ([vi rw0.spot])))).toArray=(((r.id.l.map v8))++ (([vi rw0.place])++ ([vi rw0.spot]))).toArray:=by congr 1<;>simp only[rwC,List.append_assoc,List.nil_append,List.append_nil]
 have q1:vH_ (((r.id.l.map v8))++ (([vi rw0.place])++ ([vi rw0.spot]))).toArray 32 ([vi r.place])=(((r.id.l.map v8))++ (([vi r.place])++ ([vi rw0.spot]))).toArray:=w0_ _ _ _ _ (by simp[r.id.h]) (rfl)
 have s1: (((r.id.l.map v8))++ (([vi rw0.place])++ ([vi rw0.spot]))).toArray.size=34:=by simp[r.id.h,rw0.id.h]
 have z1: (Value.cells (vi r.place)).toList= [vi r.place]:=by rfl
 have y1: (Value.cells (vi r.place)).size=1:=by rw[←Array.length_toList,z1];simp
 have e2: (((r.id.l.map v8))++ (([vi r.place])++ ([vi rw0.spot]))).toArray=(((r.id.l.map v8)++ ([vi r.place]))++ (([vi rw0.spot])++ (([]:List Value)))).toArray:=by congr 1<;>simp only[rwC,List.append_assoc,List.nil_append,List.append_nil]
 have q2:vH_ (((r.id.l.map v8)++ ([vi r.place]))++ (([vi rw0.spot])++ (([]:List Value)))).toArray 33 ([vi r.spot])=(((r.id.l.map v8)++ ([vi r.place]))++ (([vi r.spot])++ (([]:List Value)))).toArray:=w0_ _ _ _ _ (by simp[r.id.h]) (rfl)
 have s2: (((r.id.l.map v8)++ ([vi r.place]))++ (([vi rw0.spot])++ (([]:List Value)))).toArray.size=34:=by simp[r.id.h,rw0.id.h]
 have z2: (Value.cells (vi r.spot)).toList= [vi r.spot]:=by rfl
 have y2: (Value.cells (vi r.spot)).size=1:=by rw[←Array.length_toList,z2];simp
 have e3: (((r.id.l.map v8)++ ([vi r.place]))++ (([vi r.spot])++ (([]:List Value)))).toArray=(rwC r).toArray:=by congr 1<;>simp only[rwC,List.append_assoc,List.nil_append,List.append_nil]
 simp only[qg_]
 rw[e0]
 unfold Sx.fillV
 simp only[List.getElem?_cons_zero,List.getElem?_cons_succ,z0,y0]
 rw[if_pos ⟨trivial,by rw[s0];decide⟩,q0]
 rw[e1]
 unfold Sx.fillV
 simp only[List.getElem?_cons_zero,List.getElem?_cons_succ,z1,y1]
 rw[if_pos ⟨trivial,by rw[s1];decide⟩,q1]
 rw[e2]
 unfold Sx.fillV
 simp only[List.getElem?_cons_zero,List.getElem?_cons_succ,z2,y2]
 rw[if_pos ⟨trivial,by rw[s2];decide⟩,q2]
 rw[e3];rfl
theorem aoV_: ∀ (g:Nat) (a b:List UInt8),a.take g=b.take g→g<a.length→g<b.length→a.getD g 0≠b.getD g 0→ltB a b=decide (a.getD g 0<b.getD g 0)
 |_,[],_,_,h,_,_=>by simp at h
 |_,_::_,[],_,_,h,_=>by simp at h
 |0,x::a,y::b,_,_,_,hne=>by
  simp only[List.getD_cons_zero] at hne ⊢
  rw[wK_]
  simp only[List.cons_lt_cons_iff]
  simp[hne]
 |g+1,x::a,y::b,h,h1,h2,hne=>by
  simp only[List.take_succ_cons,List.cons.injEq] at h
  simp only[List.getD_cons_succ] at hne ⊢
  obtain⟨rfl,h⟩:=h
  have ih:=aoV_ g a b h (by simpa using h1) (by simpa using h2) hne
  rw[wK_] at ih ⊢
  rw[←ih]
  simp
set_option linter.defProp false
def kV_:=And.intro (@zg_) (@zf_)
theorem Kx_ (x y:IdL) (w:World):Rets Tryz.prog 112 #[.agg (a8 x.l), .agg (a8 y.l)] w (fun v D=>v= .bool (ltB x.l y.l)∧D= []):=by
 have hx:=x.h
 have hy:=y.h
 refine Rets.enterV Tryz.func112 rfl (rs:= [.tmp 4]) Tryz.results112 Tryz.ntmps112 ?_
 refine kf ?_
 first|with_reducible refine ks [] @kV_ ?_|refine kp @kV_ ?_
 refine Ow.box rfl rfl fun b2 hb2 hw2=> ?_
 simp only[qi_,qe_,qc_,ze_,List.nil_append,List.cons_append]
 refine Ow.go rfl ?_
 simp(disch:=(first|assumption|omega| (simp only[jF_,jE_,UInt64.reduceToNat];try omega))) only[↓Sx.S0,Sx.S1,Tryz.fx,kV_,Nat.reduceAdd,Nat.reducePow,Int.reducePow,Nat.reduceBEq, ↓reduceIte,UInt8.reduceToNat,UInt16.reduceToNat,UInt32.reduceToNat,UInt64.reduceToNat,Int.reduceToNat]
 refine Ow.box rfl rfl fun b3 hb3 hw3=> ?_
 simp only[qi_,qe_,qc_,ze_,List.nil_append,List.cons_append]
 refine Ow.go rfl ?_
 simp(disch:=(first|assumption|omega| (simp only[jF_,jE_,UInt64.reduceToNat];try omega))) only[↓Sx.S0,Sx.S1,Tryz.fx,kV_,Nat.reduceAdd,Nat.reducePow,Int.reducePow,Nat.reduceBEq, ↓reduceIte,UInt8.reduceToNat,UInt16.reduceToNat,UInt32.reduceToNat,UInt64.reduceToNat,Int.reduceToNat]
 obtain⟨h23,-⟩:=hb3
 first|with_reducible refine ks [] @kV_ ?_|refine kp @kV_ ?_
 refine Cw.loopG (G:=Nat) [6,7,10,11,12,13,14,15,16,17,18,19,20,21,22,23,4,8,9,5] (fun g=> [(5,vi g)]) (fun g=> [(b2, .cells (a8 x.l) 37 (0,0)),(b3, .cells (a8 y.l) 37 (0,0))]) (fun g=>g≤32∧x.l.take g=y.l.take g) (fun g=>32 - g) 0 rfl rfl ?_ ?_
 ·exact⟨Nat.zero_le _,rfl⟩
 intro g j hg
 refine kv ?_
 obtain⟨hg1,hg2⟩:=hg
 by_cases hlt:g<32
 ·have d1:decide ((g:Int)<32)=true:=decide_eq_true (by omega)
  first|with_reducible refine ks [] (And.intro @kV_ @d1) ?_|refine kp (And.intro @kV_ @d1) ?_
  refine Cw.regionS [b2,b3] [0,1,3,4,2,5,6] [] (by kernel_rfl) (by kernel_rfl) (by kernel_rfl) ?_
  simp only[zh_, ↓zc_, ↓zb_, ↓zn_, ↓zo_,za_]
  refine kq @kV_ ?_
  by_cases hne:x.l.getD g 0=y.l.getD g 0
  ·have d2: (x.l.getD g 0 !=y.l.getD g 0)=false:=by rw[hne];exact bne_self_eq_false _
   first|with_reducible refine ks [] (And.intro @kV_ @d2) ?_|refine kp (And.intro @kV_ @d2) ?_
   refine Again.mk (G:=Nat) (g+1) (by show 32 - (g+1)<32 - g;omega) ⟨by show g+1≤32;omega, ?_⟩ rfl rfl
   rw[StP.take_snoc (z:=0) (by omega),StP.take_snoc (z:=0) (by omega),hg2,hne]
  ·have d2: (x.l.getD g 0 !=y.l.getD g 0)=true:=by simpa using hne
   first|with_reducible refine ks [] (And.intro @kV_ @d2) ?_|refine kp (And.intro @kV_ @d2) ?_
   refine Cw.regionS [b2,b3] [0,1,3,4,2,5,6,7] [] (by kernel_rfl) (by kernel_rfl) (by kernel_rfl) ?_
   simp only[zh_, ↓zc_, ↓zb_, ↓zn_, ↓zo_,za_]
   refine kq @kV_ ?_
   try with_reducible refine Ow.nil ?_
   first|with_reducible refine ks [] @kV_ ?_|refine kp @kV_ ?_
   refine⟨_,(ke @kV_),⟨hw2,hw3,trivial⟩, ?_⟩
   rw[aoV_ g x.l y.l hg2 (by omega) (by omega) hne];rfl
 ·obtain rfl:g=32:=by omega
  have d1:decide (((32:Nat):Int)<32)=false:=rfl
  first|with_reducible refine ks [] (And.intro @kV_ @d1) ?_|refine kp (And.intro @kV_ @d1) ?_
  have e:ltB x.l y.l=false:=by
   rw[List.take_of_length_le (by omega),List.take_of_length_le (by omega)] at hg2
   rw[hg2];exact x2_ _
  refine⟨_,(ke @kV_),⟨hw2,hw3,trivial⟩, ?_⟩
  rw[e];rfl
end Go.Proofs
end
section
open Go Go.Proofs Go.Sx Go.StP
namespace Go.Proofs
set_option maxRecDepth 10000
set_option maxHeartbeats 1000000
set_option linter.unusedSimpArgs false
structure rx_SoG where
 g:Nat
 Z:List RwL
 v:Value
 D:zd_
theorem vr_ {w:World} {D:zd_} {b:Nat} (h:b∉keys D):zy_ w D b=w.heap[b]? :=by
 unfold zy_
 cases e:Sx.look D b with
 |none=>rfl
 |some o=>exact absurd (zw_ e) h
theorem wv_ {Z:List RwL} {g:Nat} (h:Z.length=g): ((Z.map rwC).flatten).length=g*34:=by
 subst h
 induction Z with
 |nil=>rfl
 |cons x r ih=>rw[List.map_cons,List.flatten_cons,List.length_append,ih,zi_,List.length_cons];omega
theorem Xo_ {w w':World} {D:zd_} {E:TypeId} {v1 vt:Value} {Z:List RwL} {k:Nat} (hG:Gr D E 34 v1 Z.length (Z.map rwC).flatten) (hw':Hp w D w') (k1:k≤Z.length)
  (st:jx_ (.sl (true,34)) v1 none (some (some (k:Int)))=some vt):AppX Tryz.prog w' 34 vt k ((Z.take k).map rwC).flatten:=by
 obtain⟨v',e',h',-⟩:=(hG.slV (enc:=rwC) (z:=rw0) hw' rfl rfl zi_).take k1 true
 rw[st] at e';cases e'
 have:=h'.appX (P:=Tryz.prog) zi_ jU_
 rwa [List.length_take,Nat.min_eq_left k1] at this
theorem Q5_ {w w':World} {D:zd_} {E:TypeId} {v1 vt:Value} {Z:List RwL} {k:Nat} (hG:Gr D E 34 v1 Z.length (Z.map rwC).flatten) (hw':Hp w D w') (k1:k≤Z.length)
  (st:jx_ (.sl (true,34)) v1 (some (some (k:Int))) none=some vt):AppX Tryz.prog w' 34 vt (Z.length - k) ((Z.drop k).map rwC).flatten:=by
 obtain⟨v',e',h',-⟩:=(hG.slV (enc:=rwC) (z:=rw0) hw' rfl rfl zi_).dropE k1 true
 rw[st] at e';cases e'
 have:=h'.appX (P:=Tryz.prog) zi_ jU_
 rwa [List.length_drop] at this
set_option linter.defProp false
def kh_:=And.intro (@zI_) (And.intro (@zg_) (@zf_))
theorem Jm_ (v:Value) (l:List RwL) (w:World) (hv:Xt_ w v l) (hl:l.length<1000000):
  Rets Tryz.prog 43 #[v] w (XS w [] (fun v' D=> ∃Z,rws_SortOf l Z∧Gr D 107 34 v' l.length (Z.map rwC).flatten)):=by
 obtain⟨b,off,arr,E,fz,hr⟩:=hv.row
 have ln:=hv.len
 refine Rets.enterX Tryz.func43 rfl (rs:= [.tmp 2]) Tryz.results43 Tryz.ntmps43 (fun p hp=>by cases hp) (by simp[keys]) ?_
 refine kf ?_
 first|with_reducible refine ks [] (And.intro @kh_ @ln) ?_|refine kp (And.intro @kh_ @ln) ?_
 refine Cw.loopG (G:=rx_SoG) [7,8,9,10,13,14,5,15,16,17,18,19,20,21,22,23,24,25,26,27,28,29,30,31,32,6,33,34,35,36,37,38,39,40,41,42,43,44,45,46,47,48,49,50,3,11,12,4] (fun q=> [(3,q.v),(4,vi q.g)]) (fun q=>q.D) (fun q=>q.g≤l.length∧Ext w [] q.D∧rws_SortOf (l.take q.g) q.Z∧Gr q.D 107 34 q.v q.g (q.Z.map rwC).flatten) (fun q=>l.length - q.g) ⟨0,[], .slice none 0 0,[]⟩ rfl rfl ?_ ?_
 ·exact⟨Nat.zero_le _,Ext.refl w [],⟨rfl,List.Pairwise.nil,St.refl _ _⟩,Gr.nl⟩
 ·intro q jq hq
  refine kv ?_
  obtain⟨g,Z,v1,D⟩:=q
  simp only at hq ⊢
  obtain⟨h1,hE,hZ,hG⟩:=hq
  have hZl:Z.length=g:=by rw[hZ.1,List.length_take];omega
  subst hZl
  by_cases hg:Z.length<l.length
  ·have h0:0<l.length:=by omega
   have hbl:=hr.lt h0
   have hbD:=hE.new0.not hbl
   have r2:zy_ w D b=some (.cells arr E fz):=by rw[vr_ hbD];exact hr.has h0
   have i2:=hr.idx true Z.length hg
   have m0:=vg_ hr hg
   rw[Nat.add_zero] at m0
   have ln1:=hG.len
   generalize hx:l.getD Z.length rw0=x at m0
   first|with_reducible refine ks [] (And.intro @kh_ (And.intro @ln (@ln1))) ?_|refine kp (And.intro @kh_ (And.intro @ln (@ln1))) ?_
   refine Cw.loopG (G:=Nat) [15,16,17,18,19,20,21,22,23,24,25,26,27,28,29,30,31,32,5] (fun g=> [(5,vi g)]) (fun g=>D) (fun g=>g≤Z.length∧(Z.length≤g∨ltB x.id.l (Z.getD g rw0).id.l=true)) (fun g=>g) Z.length rfl rfl ?_ ?_
   ·exact⟨Nat.le_refl _, .inl (Nat.le_refl _)⟩
   ·intro k jk hk
    refine kv ?_
    obtain⟨k1,k2⟩:=hk
    refine Cw.world fun w1 hw1=> ?_
    have hS1:Xt_ w1 v1 Z:=hG.slV hw1 rfl rfl zi_
    have done: (k=0∨ltB x.id.l (Z.getD (k - 1) rw0).id.l=false)→rws_SortOf (l.take (Z.length+1)) (Z.take k++x::Z.drop k):=fun h=>by
     obtain⟨s1,s2⟩:=vM_ (z:=rw0) hZ.2.1 k1 h k2
     refine⟨?_,s1, ?_⟩
     ·simp only[List.length_append,List.length_take,List.length_cons,List.length_drop];omega
     ·rw[take_snoc (z:=rw0) hg,hx]
      exact(hZ.2.2.app (St.refl _ [x])).trans s2
    obtain⟨c,coff,carr,cE,cfz,hr1⟩:=hS1.row
    obtain⟨vt,st,-,-⟩:=hS1.take k1 true
    obtain⟨vd,sd,-,-⟩:=hS1.dropE k1 true
    have m3:zr_ (some (true,34)) (some (.cells arr E fz)) (off+Z.length*34)=some (.agg (rwC x).toArray):=by rw[←hx];exact anY_ hr hg
    by_cases hk:k=0
    ·have d1:decide ((0:Int)< (k:Int))=false:=decide_eq_false (by omega)
     first|with_reducible refine ks [] @kh_ ?_|refine kp @kh_ ?_
     refine Cw.regionS [b] [0,1,2,3,4,5,6,8,9,10,11,12,7,13,14,15] [] (by kernel_rfl) (by kernel_rfl) (by kernel_rfl) ?_
     simp only[zh_, ↓zc_, ↓zb_, ↓zn_, ↓zo_,za_]
     refine kq (And.intro @kh_ (And.intro @d1 (@st))) ?_
     refine Ow.appendG (e:=107) (k:=k) (new:=((Z.take k).map rwC).flatten) (.slice none 0 0) rfl rfl rfl Tryz.underlying83 Zc_ (by kernel_rfl) X8_ (by rw[zI_,List.size_toArray,zi_]) Tryz.underlying83 (by intro k h;cases h) Gr.nl (fun w' hw'=>Xo_ hG hw' k1 st) (wv_ (by rw[List.length_take];omega)) (by omega) (fun v2 L2 hB2 _ hg2 hs2=> ?_)
     have hG2:=hG.keep (L':=L2) fun b o hb ho=>hg2.look b o (by simp[slB]) ho
     have hE2:=hE.grew hg2
     have r22:zy_ w L2 b=some (.cells arr E fz):=by rw[vr_ (hE2.new0.not hbl)];exact hr.has h0
     rw[Nat.zero_add,List.nil_append] at hB2
     refine ko (And.intro @kh_ (And.intro @i2 (And.intro @r22 (@m3)))) ?_
     refine Ow.buildSlice (e:=107) (rwC x).toArray rfl rfl (zX_ Tryz.underlying83 Zc_ X8_ (by decide) (zi_ x)) fun b6 hb6 hw6=> ?_
     refine ko @kh_ ?_
     refine Ow.appendG (e:=107) (k:=1) (new:=rwC x) v2 rfl rfl rfl Tryz.underlying83 Zc_ (by kernel_rfl) X8_ (by rw[zI_,List.size_toArray,zi_]) Tryz.underlying83 (by intro k h;cases h) hB2.app (fun w' hw'=>AppX.one1 (hw'.has _ _ (List.mem_append_right _ List.mem_cons_self)) (zi_ x) (jU_ x)) (by show(rwC x).length=1*34;rw[zi_]) (by omega) (fun v3 L3 hB3 _ hg3 hs3=> ?_)
     have hE3:=(hE2.app (o:= .cells (rwC x).toArray 107 (0,0)) hw6).grew hg3
     have n2: ∀b,slB v1=some b→slB v2≠some b:=fun b hb e=>by
      rcases hs2 with h| ⟨c',h,ha⟩
      ·rw[h] at e;cases e
      ·rw[h] at e;cases e;exact Nat.lt_irrefl _ (zk_ ha (hG.key hb))
     have hG3:=(hG2.app (M:= [(b6, .cells (rwC x).toArray 107 (0,0))])).keep (L':=L3) fun b o hb ho=>hg3.look b o (n2 b hb) ho
     have n3: ∀b,slB v1=some b→slB v3≠some b:=fun b hb e=>by
      rcases hs3 with h| ⟨c',h,ha⟩
      ·rw[h] at e;exact n2 b hb e
      ·rw[h] at e;cases e;exact Nat.lt_irrefl _ (zk_ ha (by rw[zj_];exact List.mem_append_left _ (hG2.key hb)))
     refine ko (And.intro @kh_ @sd) ?_
     refine Ow.appendG (e:=107) (k:=Z.length - k) (new:=((Z.drop k).map rwC).flatten) v3 rfl rfl rfl Tryz.underlying83 Zc_ (by kernel_rfl) X8_ (by rw[zI_,List.size_toArray,zi_]) Tryz.underlying83 (by intro k h;cases h) hB3 (fun w' hw'=>Q5_ hG3 hw' k1 sd) (wv_ (by rw[List.length_drop])) (by omega) (fun v4 L4 hB4 _ hg4 hs4=> ?_)
     have hE4:=hE3.grew hg4
     refine ko @kh_ ?_
     refine Again.mk (rx_SoG.mk (Z.length+1) (Z.take k++x::Z.drop k) v4 L4) (by show l.length - (Z.length+1)<l.length - Z.length;omega) ⟨by show Z.length+1≤l.length;omega,hE4,done ?_, ?_⟩ rfl rfl
     ·exact .inl hk
     ·have:k+1+ (Z.length - k)=Z.length+1:=by omega
      rw[this] at hB4
      simpa only[List.map_append,List.map_cons,List.flatten_append,List.flatten_cons,List.append_assoc] using hB4
    ·have d1:decide ((0:Int)< (k:Int))=true:=decide_eq_true (by omega)
     have hZ0:0<Z.length:=by omega
     have i1:qa_ (.sl (true,34)) v1 (some ((k:Int) - 1))=some (vp c (coff+ (k - 1)*34)):=by
      rw[show(k:Int) - 1=((k - 1:Nat):Int) by omega];exact hr1.idx true (k - 1) (by omega)
     have m1:=vg_ hr1 (show k - 1<Z.length by omega)
     rw[Nat.add_zero] at m1
     have rc:zy_ w D c=some (.cells carr cE cfz):=by
      rcases hS1 with⟨b',off',c',arr',E',fz',hr',hc',⟨-,rfl,-⟩ | ⟨rfl,hb',-⟩⟩
      ·exact absurd hZ0 (by simp)
      ·have:c=b':=by
        have e1:=hr1.idx true 0 hZ0
        rw[jP_ _ _ _ _ _ _ ⟨by omega,by omega⟩] at e1
        have:=Option.some.inj e1
        simp[vp] at this
        exact this.1.symm
       subst this
       exact hG.read rfl hw1 (hr1.has hZ0)
     first|with_reducible refine ks [] @kh_ ?_|refine kp @kh_ ?_
     refine Cw.regionS [c,b] [0,1,2,3,4,5,6,8,9,10,11,12,7,13,14,15] [] (by kernel_rfl) (by kernel_rfl) (by kernel_rfl) ?_
     simp only[zh_, ↓zc_, ↓zb_, ↓zn_, ↓zo_,za_]
     refine kq (And.intro @kh_ (And.intro @d1 (And.intro @i1 (And.intro @i2 (And.intro @r2 (And.intro @rc (And.intro @m0 (@m1)))))))) ?_
     refine Ow.soft rfl rfl rfl ?_
     refine Ow.callFV rfl Tryz.call112 (fun w' hw'=>Kx_ x.id (Z.getD (k - 1) rw0).id w') ?_
     with_reducible refine Ow.nil ?_
     refine⟨by intro b hb;simp only[List.mem_cons,List.not_mem_nil,or_false] at hb;(try subst hb);rfl, ?_⟩
     cases hl3:ltB x.id.l (Z.getD (k - 1) rw0).id.l
     ·refine kq (And.intro @kh_ @st) ?_
      refine Ow.appendG (e:=107) (k:=k) (new:=((Z.take k).map rwC).flatten) (.slice none 0 0) rfl rfl rfl Tryz.underlying83 Zc_ (by kernel_rfl) X8_ (by rw[zI_,List.size_toArray,zi_]) Tryz.underlying83 (by intro k h;cases h) Gr.nl (fun w' hw'=>Xo_ hG hw' k1 st) (wv_ (by rw[List.length_take];omega)) (by omega) (fun v2 L2 hB2 _ hg2 hs2=> ?_)
      have hG2:=hG.keep (L':=L2) fun b o hb ho=>hg2.look b o (by simp[slB]) ho
      have hE2:=hE.grew hg2
      have r22:zy_ w L2 b=some (.cells arr E fz):=by rw[vr_ (hE2.new0.not hbl)];exact hr.has h0
      rw[Nat.zero_add,List.nil_append] at hB2
      refine ko (And.intro @kh_ (And.intro @i2 (And.intro @r22 (@m3)))) ?_
      refine Ow.buildSlice (e:=107) (rwC x).toArray rfl rfl (zX_ Tryz.underlying83 Zc_ X8_ (by decide) (zi_ x)) fun b6 hb6 hw6=> ?_
      refine ko @kh_ ?_
      refine Ow.appendG (e:=107) (k:=1) (new:=rwC x) v2 rfl rfl rfl Tryz.underlying83 Zc_ (by kernel_rfl) X8_ (by rw[zI_,List.size_toArray,zi_]) Tryz.underlying83 (by intro k h;cases h) hB2.app (fun w' hw'=>AppX.one1 (hw'.has _ _ (List.mem_append_right _ List.mem_cons_self)) (zi_ x) (jU_ x)) (by show(rwC x).length=1*34;rw[zi_]) (by omega) (fun v3 L3 hB3 _ hg3 hs3=> ?_)
      have hE3:=(hE2.app (o:= .cells (rwC x).toArray 107 (0,0)) hw6).grew hg3
      have n2: ∀b,slB v1=some b→slB v2≠some b:=fun b hb e=>by
       rcases hs2 with h| ⟨c',h,ha⟩
       ·rw[h] at e;cases e
       ·rw[h] at e;cases e;exact Nat.lt_irrefl _ (zk_ ha (hG.key hb))
      have hG3:=(hG2.app (M:= [(b6, .cells (rwC x).toArray 107 (0,0))])).keep (L':=L3) fun b o hb ho=>hg3.look b o (n2 b hb) ho
      have n3: ∀b,slB v1=some b→slB v3≠some b:=fun b hb e=>by
       rcases hs3 with h| ⟨c',h,ha⟩
       ·rw[h] at e;exact n2 b hb e
       ·rw[h] at e;cases e;exact Nat.lt_irrefl _ (zk_ ha (by rw[zj_];exact List.mem_append_left _ (hG2.key hb)))
      refine ko (And.intro @kh_ @sd) ?_
      refine Ow.appendG (e:=107) (k:=Z.length - k) (new:=((Z.drop k).map rwC).flatten) v3 rfl rfl rfl Tryz.underlying83 Zc_ (by kernel_rfl) X8_ (by rw[zI_,List.size_toArray,zi_]) Tryz.underlying83 (by intro k h;cases h) hB3 (fun w' hw'=>Q5_ hG3 hw' k1 sd) (wv_ (by rw[List.length_drop])) (by omega) (fun v4 L4 hB4 _ hg4 hs4=> ?_)
      have hE4:=hE3.grew hg4
      refine ko @kh_ ?_
      refine Again.mk (rx_SoG.mk (Z.length+1) (Z.take k++x::Z.drop k) v4 L4) (by show l.length - (Z.length+1)<l.length - Z.length;omega) ⟨by show Z.length+1≤l.length;omega,hE4,done ?_, ?_⟩ rfl rfl
      ·exact .inr hl3
      ·have:k+1+ (Z.length - k)=Z.length+1:=by omega
       rw[this] at hB4
       simpa only[List.map_append,List.map_cons,List.flatten_append,List.flatten_cons,List.append_assoc] using hB4
     ·refine kq @kh_ ?_
      exact Again.mk (k - 1) (by omega) ⟨by omega, .inr hl3⟩ rfl (by rw[show(k:Int) - 1=((k - 1:Nat):Int) by omega];rfl)
  ·have e:Z.length=l.length:=by omega
   first|with_reducible refine ks [] (And.intro @kh_ @ln) ?_|refine kp (And.intro @kh_ @ln) ?_
   refine⟨_,(ke @kh_), ?_⟩
   exact⟨hE,Z,by rw[e,List.take_length] at hZ;exact hZ,by rw[e] at hG;exact hG⟩
end Go.Proofs
end
section
open Go Go.Proofs Go.Sx Go.StP
namespace Go.Proofs
set_option maxRecDepth 10000
set_option maxHeartbeats 1000000
set_option linter.unusedSimpArgs false
theorem xR_ {s:List UInt8} {l:List RwL} (h: ¬wJ_ l l.length=true):qx_ s l=false:=by
 unfold qx_;rw[Bool.eq_false_iff.2 h,Bool.false_and]
structure RiG where
 k:Nat
 DG:zd_
set_option linter.defProp false
def zZ_:=And.intro (And.intro (And.intro (@zg_) (@zf_)) (And.intro (@zI_) (@jZ_))) (And.intro (And.intro (@xm_) (@xM_)) (And.intro (@xT_) (@qL_)))
theorem Q6_ (s:List UInt8) (v:Value) (l:List RwL) (w:World) (hv:Xt_ w v l):Rets Tryz.prog 45 #[vs s,v] w (fun v D=>v= .bool (qx_ s l)∧D= []):=by
 obtain⟨rb,off,arr,E,fz,hr⟩:=hv.row
 have ln:=hv.len
 refine Rets.enterV Tryz.func45 rfl (rs:= [.tmp 4]) Tryz.results45 Tryz.ntmps45 ?_
 refine kf ?_
 by_cases h4:s.length=4
 ·have d1: ((s.length:Int) !=4)=false:=by rw[h4];rfl
  by_cases h2:200<l.length
  ·have d2:decide ((200:Int)< (l.length:Int))=true:=decide_eq_true (by omega)
   have e:qx_ s l=false:=by unfold qx_;rw[decide_eq_false (show¬l.length≤200 by omega),Bool.and_false,Bool.and_false]
   first|with_reducible refine ks [] (And.intro @zZ_ (And.intro @d1 (And.intro @ln (@d2)))) ?_|refine kp (And.intro @zZ_ (And.intro @d1 (And.intro @ln (@d2)))) ?_
   refine⟨_,(ke @zZ_),trivial, ?_⟩
   rw[e];rfl
  have d2:decide ((200:Int)< (l.length:Int))=false:=decide_eq_false (by omega)
  first|with_reducible refine ks [] (And.intro @zZ_ (And.intro @d1 (And.intro @ln (@d2)))) ?_|refine kp (And.intro @zZ_ (And.intro @d1 (And.intro @ln (@d2)))) ?_
  refine Cw.loopG (G:=RiG) [15,16,17,18,21,22,23,24,6,25,26,27,28,29,30,31,32,33,34,35,36,37,38,39,40,41,42,43,44,45,46,47,48,49,50,51,52,53,54,55,56,57,58,4,19,20,5] (fun g=> [(4, .bool false),(5,vi g.k)]) (fun g=>g.DG) (fun g=>g.k≤l.length∧wJ_ l g.k=true∧New w.heap.size g.DG) (fun g=>l.length - g.k) ⟨0,[]⟩ rfl rfl ?_ ?_
  ·exact⟨Nat.zero_le _,rfl,trivial⟩
  intro g j hg
  refine kv ?_
  obtain⟨k,DG⟩:=g
  simp only at hg ⊢
  obtain⟨hk,hok,hN⟩:=hg
  by_cases hlt:k<l.length
  ·have d3:decide ((k:Int)< (l.length:Int))=true:=decide_eq_true (by omega)
   have hb:=hr.has (by omega)
   have hrl:=hr.lt (by omega)
   have ix:=hr.idx true k hlt
   have ld:=hr.load zi_ (by omega) hlt
   have rd: ∀X,New w.heap.size X→zy_ w X rb=some (.cells arr E fz):=fun X hX=>by rw[qK_ (hX.not hrl)];exact hb
   have rd1:=rd _ hN
   have hok1:wJ_ l (k+1)=((decide (k=0) ||decide (cmpI (l.getD (k - 1) rw0).id (l.getD k rw0).id<0))&&qs_ (l.getD k rw0)):=by show(wJ_ l k&&_&&_)=_;rw[hok,Bool.true_and]
   have hno:wJ_ l (k+1)=false→ ¬wJ_ l l.length=true:=fun h h'=>by rw[JV_ hlt h'] at h;cases h
   generalize hrr:l.getD k rw0=r at*
   first|with_reducible refine ks [] (And.intro @zZ_ (And.intro @ln (And.intro @d3 (And.intro @ix (And.intro @rd1 (@ld)))))) ?_|refine kp (And.intro @zZ_ (And.intro @ln (And.intro @d3 (And.intro @ix (And.intro @rd1 (@ld)))))) ?_
   refine Ow.alloc rfl rfl X8_ fun b6 hb6 hw6=> ?_
   simp only[ze_,List.nil_append,List.cons_append]
   refine Ow.permL (M:=(b6, .cells (rwC rw0).toArray 107 (0,0))::DG) (by classical exact List.perm_iff_count.2 fun a=>by simp only[List.count_append,List.count_cons,List.count_nil]<;>omega) ?_
   refine ko @zZ_ ?_
   have hN6:New w.heap.size ((b6,Obj.cells (rwC r).toArray 107 (0,0))::DG):=⟨hw6,hN⟩
   have hnb:b6≠rb:=by omega
   rcases Nat.eq_zero_or_pos k with hk0|hk0
   ·have d5:decide ((0:Int)< (k:Int))=false:=decide_eq_false (by omega)
    have hok2:wJ_ l (k+1)=qs_ r:=by rw[hok1,decide_eq_true hk0,Bool.true_or,Bool.true_and]
    first|with_reducible refine ks [] @zZ_ ?_|refine kp @zZ_ ?_
    refine Cw.regionS [b6] [0,1,2,3,4,5,6,7,9,8,10,11,12,13,14,15,16,17,18,19,20,21,22,23,24,25,26,27,28,29,30,31,32,33] [] (by kernel_rfl) (by kernel_rfl) (by kernel_rfl) ?_
    simp only[zh_, ↓zc_, ↓zb_, ↓zn_, ↓zo_,za_]
    cases p1:decide (r.place<0) with
    |true=>
     have hbad:=hok2.trans (show qs_ r=false by simp[qs_,p1])
     refine kq (And.intro @zZ_ (And.intro @d5 (@p1))) ?_
     try with_reducible refine Ow.nil ?_
     first|with_reducible refine ks [] @zZ_ ?_|refine kp @zZ_ ?_
     refine⟨_,(ke @zZ_),hN6, ?_⟩
     rw[xR_ (hno hbad)];rfl
    |false=>
     cases p2:decide (1099511627775<r.place) with
     |true=>
      have hbad:=hok2.trans (show qs_ r=false by simp[qs_,p2])
      refine kq (And.intro @zZ_ (And.intro @d5 (And.intro @p1 (@p2)))) ?_
      try with_reducible refine Ow.nil ?_
      first|with_reducible refine ks [] @zZ_ ?_|refine kp @zZ_ ?_
      refine⟨_,(ke @zZ_),hN6, ?_⟩
      rw[xR_ (hno hbad)];rfl
     |false=>
      cases p3:decide (r.spot<0) with
      |true=>
       have hbad:=hok2.trans (show qs_ r=false by simp[qs_,p3])
       refine kq (And.intro @zZ_ (And.intro @d5 (And.intro @p1 (And.intro @p2 (@p3))))) ?_
       try with_reducible refine Ow.nil ?_
       first|with_reducible refine ks [] @zZ_ ?_|refine kp @zZ_ ?_
       refine⟨_,(ke @zZ_),hN6, ?_⟩
       rw[xR_ (hno hbad)];rfl
      |false=>
       cases p4:decide (1099511627775<r.spot) with
       |true=>
        have hbad:=hok2.trans (show qs_ r=false by simp[qs_,p4])
        refine kq (And.intro @zZ_ (And.intro @d5 (And.intro @p1 (And.intro @p2 (And.intro @p3 (@p4)))))) ?_
        try with_reducible refine Ow.nil ?_
        first|with_reducible refine ks [] @zZ_ ?_|refine kp @zZ_ ?_
        refine⟨_,(ke @zZ_),hN6, ?_⟩
        rw[xR_ (hno hbad)];rfl
       |false=>
        refine kq (And.intro @zZ_ (And.intro @d5 (And.intro @p1 (And.intro @p2 (And.intro @p3 (@p4)))))) ?_
        try with_reducible refine Ow.nil ?_
        first|with_reducible refine ks [] @zZ_ ?_|refine kp @zZ_ ?_
        exact Again.mk ⟨k+1,(b6, .cells (rwC r).toArray 107 (0,0))::DG⟩ (by show l.length - (k+1)<l.length - k;omega) ⟨hlt,hok2.trans (by simp[qs_,p1,p2,p3,p4]),hN6⟩ rfl rfl
   ·have d5:decide ((0:Int)< (k:Int))=true:=decide_eq_true (by omega)
    have hki: (k:Int) - 1=((k - 1:Nat):Int):=by omega
    have ix':=hr.idx true (k - 1) (by omega)
    have ld':=vg_ hr (show k - 1<l.length by omega)
    rw[Nat.add_zero] at ld'
    have rd6:=rd _ hN6
    rw[decide_eq_false (show¬k=0 by omega),Bool.false_or] at hok1
    first|with_reducible refine ks [] @zZ_ ?_|refine kp @zZ_ ?_
    refine Cw.regionS [b6,rb] [0,1,2,3,4,5,6,7,9,8,10,11,12,13,14,15,16,17,18,19,20,21,22,23,24,25,26,27,28,29,30,31,32,33] [] (by kernel_rfl) (by kernel_rfl) (by kernel_rfl) ?_
    simp only[zh_, ↓zc_, ↓zb_, ↓zn_, ↓zo_,za_]
    refine kq (And.intro @zZ_ (And.intro @d5 (And.intro @hki (And.intro @ix' (And.intro @rd6 (@ld')))))) ?_
    refine Ow.soft rfl rfl rfl ?_
    refine Ow.callFV rfl Tryz.call112 (fun w' hw'=>Kx_ (l.getD (k - 1) rw0).id r.id w') ?_
    with_reducible refine Ow.nil ?_
    refine⟨by intro b hb;simp only[List.mem_cons,List.not_mem_nil,or_false] at hb;(try subst hb);rfl, ?_⟩
    have hcl:decide (cmpI (l.getD (k - 1) rw0).id r.id<0)=ltB (l.getD (k - 1) rw0).id.l r.id.l:=by
     cases h:ltB (l.getD (k - 1) rw0).id.l r.id.l
     ·exact decide_eq_false fun h'=>by rw[cmpI_lt.1 h'] at h;cases h
     ·exact decide_eq_true (cmpI_lt.2 h)
    rw[hcl] at hok1
    cases hl3:ltB (l.getD (k - 1) rw0).id.l r.id.l with
    |true=>
     rw[hl3,Bool.true_and] at hok1
     have hok2:=hok1
     cases p1:decide (r.place<0) with
     |true=>
      have hbad:=hok2.trans (show qs_ r=false by simp[qs_,p1])
      refine kq (And.intro @zZ_ (And.intro @hok1 (@p1))) ?_
      try with_reducible refine Ow.nil ?_
      first|with_reducible refine ks [] @zZ_ ?_|refine kp @zZ_ ?_
      refine⟨_,(ke @zZ_),hN6, ?_⟩
      rw[xR_ (hno hbad)];rfl
     |false=>
      cases p2:decide (1099511627775<r.place) with
      |true=>
       have hbad:=hok2.trans (show qs_ r=false by simp[qs_,p2])
       refine kq (And.intro @zZ_ (And.intro @hok1 (And.intro @p1 (@p2)))) ?_
       try with_reducible refine Ow.nil ?_
       first|with_reducible refine ks [] @zZ_ ?_|refine kp @zZ_ ?_
       refine⟨_,(ke @zZ_),hN6, ?_⟩
       rw[xR_ (hno hbad)];rfl
      |false=>
       cases p3:decide (r.spot<0) with
       |true=>
        have hbad:=hok2.trans (show qs_ r=false by simp[qs_,p3])
        refine kq (And.intro @zZ_ (And.intro @hok1 (And.intro @p1 (And.intro @p2 (@p3))))) ?_
        try with_reducible refine Ow.nil ?_
        first|with_reducible refine ks [] @zZ_ ?_|refine kp @zZ_ ?_
        refine⟨_,(ke @zZ_),hN6, ?_⟩
        rw[xR_ (hno hbad)];rfl
       |false=>
        cases p4:decide (1099511627775<r.spot) with
        |true=>
         have hbad:=hok2.trans (show qs_ r=false by simp[qs_,p4])
         refine kq (And.intro @zZ_ (And.intro @hok1 (And.intro @p1 (And.intro @p2 (And.intro @p3 (@p4)))))) ?_
         try with_reducible refine Ow.nil ?_
         first|with_reducible refine ks [] @zZ_ ?_|refine kp @zZ_ ?_
         refine⟨_,(ke @zZ_),hN6, ?_⟩
         rw[xR_ (hno hbad)];rfl
        |false=>
         refine kq (And.intro @zZ_ (And.intro @hok1 (And.intro @p1 (And.intro @p2 (And.intro @p3 (@p4)))))) ?_
         try with_reducible refine Ow.nil ?_
         first|with_reducible refine ks [] @zZ_ ?_|refine kp @zZ_ ?_
         exact Again.mk ⟨k+1,(b6, .cells (rwC r).toArray 107 (0,0))::DG⟩ (by show l.length - (k+1)<l.length - k;omega) ⟨hlt,hok2.trans (by simp[qs_,p1,p2,p3,p4]),hN6⟩ rfl rfl
    |false=>
     rw[hl3,Bool.false_and] at hok1
     refine kq (And.intro @zZ_ @hok1) ?_
     try with_reducible refine Ow.nil ?_
     first|with_reducible refine ks [] @zZ_ ?_|refine kp @zZ_ ?_
     refine⟨_,(ke @zZ_),hN6, ?_⟩
     rw[xR_ (hno hok1)];rfl
  ·obtain rfl:k=l.length:=by omega
   have d3:decide ((l.length:Int)< (l.length:Int))=false:=decide_eq_false (by omega)
   have e:qx_ s l=true:=by unfold qx_;rw[hok,h4,decide_eq_true (show l.length≤200 by omega)];rfl
   first|with_reducible refine ks [] (And.intro @zZ_ (And.intro @ln (@d3))) ?_|refine kp (And.intro @zZ_ (And.intro @ln (@d3))) ?_
   refine⟨_,(ke @zZ_),hN, ?_⟩
   rw[e];rfl
 ·have d1: ((s.length:Int) !=4)=true:=bne_iff_ne.2 (by omega)
  have e:qx_ s l=false:=by unfold qx_;rw[decide_eq_false h4,Bool.false_and,Bool.and_false]
  first|with_reducible refine ks [] (And.intro @zZ_ @d1) ?_|refine kp (And.intro @zZ_ @d1) ?_
  refine⟨_,(ke @zZ_),trivial, ?_⟩
  rw[e];rfl
end Go.Proofs
end
section
open Go Go.Proofs Go.Sx Go.StP
namespace Go.Proofs
set_option maxRecDepth 10000
set_option maxHeartbeats 1000000
set_option linter.unusedSimpArgs false
theorem aeG_ (F:List Nat) {d:Nat} (h:d<F.length):xG_ (F.take (d+1))=xG_ (F.take d)++qS_ (zz_ ((F.getD d 0:Nat):Int)):=by
 unfold xG_ Qh_ xw_
 rw[StP.take_snoc (z:=0) h]
 simp
theorem aaf_ (F:List Nat): (xG_ F).length≤F.length*6:=by
 have:=ZC_ (Qh_ F)
 rwa [k1_] at this
theorem akm_ {w:World} {v:Value} {l:List RwL} {b off:Nat} {arr:Array Value} {E:TypeId} {fz:Nat×Nat} (h:RowS 34 rwC rw0 w v l b off arr E fz) {k:Nat} (hk:k<l.length) (n:Nat):zr_ (some (false,n)) (some (.cells arr E fz)) (off+k*34)=some (v8 ((l.getD k rw0).id.l.getD 0 0)):=by
 have hil:=(l.getD k rw0).id.h
 have:=WS_ h hk 0 (by omega)
 rw[Nat.add_zero] at this
 unfold zr_
 simp only[this]
structure FnG where
 n:Nat
 q:Nat
structure ByG where
 t:List UInt8
 k:Nat
set_option linter.defProp false
def j7_:=And.intro (@zg_) (@zf_)
theorem Jy_ (s:List UInt8) (v:Value) (l:List RwL) (w:World) (hv:Xt_ w v l) (hl:l.length<1000000) (hs:s.length<1000000):Rets Tryz.prog 46 #[vs s,v] w (fun v D=>v=vs (qP_ (vB_ s l))∧D= []):=by
 obtain⟨rb,off,arr,E,fz,hr⟩:=hv.row
 have ln:=hv.len
 have hnl:=zs_ (l.length:Int)
 obtain⟨P0,hP0⟩: ∃P,P=magI++ (s++qS_ (zz_ (l.length:Int))):=⟨_,rfl⟩
 have hP0l:P0.length<2000000:=by rw[hP0];simp only[List.length_append];rw[show magI.length=4 from rfl];omega
 have hidx:vB_ s l=(P0++xG_ (x0_ l))++xy_ l:=by rw[hP0];unfold vB_;simp only[List.append_assoc]
 refine Rets.enterV Tryz.func46 rfl (rs:= [.tmp 4]) Tryz.results46 Tryz.ntmps46 ?_
 refine kf ?_
 first|with_reducible refine ks [] (And.intro @j7_ @ln) ?_|refine kp (And.intro @j7_ @ln) ?_
 refine Ow.callFV rfl Tryz.call91 (fun w' hw'=>kz_ _ (l.length:Int) w' (Nat.le_refl _)) ?_
 have hfl:=vd_ l
 refine ko @j7_ ?_
 refine Cw.loopG (G:=ByG) [16,17,7,8,20,21,22,23,26,27,28,29,30,31,32,33,34,35,36,37,24,25,38,39,40,41,5,18,19,6] (fun g=> [(5,vs g.t),(6,vi g.k)]) (fun g=> []) (fun g=>g.k≤16∧g.t=P0++xG_ ((x0_ l).take g.k)) (fun g=>16 - g.k) ⟨83::73::88::49:: (s++qS_ (zz_ (l.length:Int))),0⟩ rfl rfl ?_ ?_
 ·refine⟨Nat.zero_le _, ?_⟩
  rw[hP0];simp[magI,xG_,Qh_,xw_]
 intro g j hg
 refine kv ?_
 obtain⟨t,d⟩:=g
 simp only at hg ⊢
 obtain⟨hd,ht⟩:=hg
 by_cases hdl:d<16
 ·have d1:decide ((d:Int)<16)=true:=decide_eq_true (by omega)
  have hsn:=aeG_ (x0_ l) (d:=d) (by omega)
  rw[acI_ l hdl] at hsn
  have htl:t.length<2000100:=by
   rw[ht,List.length_append]
   have:=aaf_ ((x0_ l).take d)
   rw[List.length_take] at this
   omega
  first|with_reducible refine ks [] (And.intro @j7_ @d1) ?_|refine kp (And.intro @j7_ @d1) ?_
  refine Cw.loopG (G:=FnG) [20,21,22,23,26,27,28,29,30,31,32,33,34,35,36,37,7,24,25,8] (fun p=> [(7,vi p.n),(8,vi p.q)]) (fun p=> []) (fun p=>p.q≤l.length∧p.n=xP_ (l.take p.q) d) (fun p=>l.length - p.q) ⟨0,0⟩ rfl rfl ?_ ?_
  ·exact⟨Nat.zero_le _,rfl⟩
  intro p jp hp
  refine kv ?_
  obtain⟨n,q⟩:=p
  simp only at hp ⊢
  obtain⟨hq0,hn⟩:=hp
  by_cases hql:q<l.length
  ·have d2:decide ((q:Int)< (l.length:Int))=true:=decide_eq_true (by omega)
   have hb:=hr.has (by omega)
   have ix:=hr.idx true q hql
   have ld:=akm_ hr hql
   have hfs:=JB_ (l.take q) (l.getD q rw0) d
   rw[←StP.take_snoc (z:=rw0) hql] at hfs
   have hfq:xP_ (l.take q) d≤q:=Nat.le_trans (KZ_ _ _) (by rw[List.length_take];omega)
   have hdv:zT_ (l.getD q rw0).id=((l.getD q rw0).id.l.getD 0 0).toNat / 16:=rfl
   generalize l.getD q rw0=r at*
   have hc:=(r.id.l.getD 0 0).toNat_lt
   by_cases hle:zT_ r.id≤d
   ·have d3:decide ((((r.id.l.getD 0 0).toNat / 16:Nat):Int)≤ (d:Int))=true:=decide_eq_true (by omega)
    rw[if_pos hle] at hfs
    first|with_reducible refine ks [] (And.intro @j7_ (And.intro @ln (And.intro @d2 (And.intro @hb (And.intro @ix (And.intro @ld (@d3))))))) ?_|refine kp (And.intro @j7_ (And.intro @ln (And.intro @d2 (And.intro @hb (And.intro @ix (And.intro @ld (@d3))))))) ?_
    exact Again.mk ⟨n+1,q+1⟩ (by show l.length - (q+1)<l.length - q;omega) ⟨by show q+1≤l.length;omega,by show n+1=xP_ (l.take (q+1)) d;omega⟩ rfl rfl
   ·have d3:decide ((((r.id.l.getD 0 0).toNat / 16:Nat):Int)≤ (d:Int))=false:=decide_eq_false (by omega)
    rw[if_neg hle,Nat.add_zero] at hfs
    first|with_reducible refine ks [] (And.intro @j7_ (And.intro @ln (And.intro @d2 (And.intro @hb (And.intro @ix (And.intro @ld (@d3))))))) ?_|refine kp (And.intro @j7_ (And.intro @ln (And.intro @d2 (And.intro @hb (And.intro @ix (And.intro @ld (@d3))))))) ?_
    exact Again.mk ⟨n,q+1⟩ (by show l.length - (q+1)<l.length - q;omega) ⟨by show q+1≤l.length;omega,by show n=xP_ (l.take (q+1)) d;omega⟩ rfl rfl
  ·obtain rfl:q=l.length:=by omega
   have d2:decide ((l.length:Int)< (l.length:Int))=false:=decide_eq_false (by omega)
   have hfl2:=KZ_ l d
   rw[List.take_length] at hn
   subst hn
   first|with_reducible refine ks [] (And.intro @j7_ (And.intro @ln (@d2))) ?_|refine kp (And.intro @j7_ (And.intro @ln (@d2))) ?_
   refine Ow.callFV rfl Tryz.call91 (fun w' hw'=>kz_ _ (xP_ l d:Nat) w' (Nat.le_refl _)) ?_
   have hnl2:=zs_ ((xP_ l d:Nat):Int)
   refine ko @j7_ ?_
   exact Again.mk ⟨t++qS_ (zz_ ((xP_ l d:Nat):Int)),d+1⟩ (by show 16 - (d+1)<16 - d;omega) ⟨by show d+1≤16;omega,by show t++_=_;rw[ht,hsn,List.append_assoc]⟩ rfl rfl
 ·obtain rfl:d=16:=by omega
  have d1:decide (((16:Nat):Int)<16)=false:=rfl
  rw[List.take_of_length_le (by omega)] at ht
  have htl:t.length<2000100:=by
   rw[ht,List.length_append]
   have:=aaf_ (x0_ l)
   omega
  rw[←ht] at hidx
  first|with_reducible refine ks [] (And.intro @j7_ @d1) ?_|refine kp (And.intro @j7_ @d1) ?_
  refine Cw.loopG (G:=ByG) [42,43,44,45,48,49,50,51,52,53,54,55,56,57,58,59,60,61,62,63,64,65,66,67,68,69,5,46,47,9] (fun q=> [(5,vs q.t),(9,vi q.k)]) (fun q=> []) (fun q=>q.k≤l.length∧q.t=t++xy_ (l.take q.k)) (fun q=>l.length - q.k) ⟨t,0⟩ rfl rfl ?_ ?_
  ·exact⟨Nat.zero_le _,by simp[xy_]⟩
  intro q jq hq
  refine kv ?_
  obtain⟨u,k⟩:=q
  simp only at hq ⊢
  obtain⟨hk,hu⟩:=hq
  have hul:u.length≤2000100+k*44:=by
   rw[hu,List.length_append]
   have:=Zr_ l k hk
   omega
  by_cases hkl:k<l.length
  ·have d2:decide ((k:Int)< (l.length:Int))=true:=decide_eq_true (by omega)
   have hb:=hr.has (by omega)
   have ix:=hr.idx true k hkl
   have ld0:=vg_ hr hkl
   rw[Nat.add_zero] at ld0
   have ld1:=abH_ hr hkl
   have ld2:=K5_ hr hkl
   have hsn:=Z1_ l hkl
   generalize l.getD k rw0=r at*
   have hil:=r.id.h
   have h1:=zs_ r.place
   have h2:=zs_ r.spot
   first|with_reducible refine ks [] (And.intro @j7_ (And.intro @ln (@d2))) ?_|refine kp (And.intro @j7_ (And.intro @ln (@d2))) ?_
   refine Cw.regionS [rb] [0,1,2,3,4,8,9,10,11,15,16,17,18,5,12,19,6,7,13,14,20,21,22] [] (by kernel_rfl) (by kernel_rfl) (by kernel_rfl) ?_
   simp only[zh_, ↓zc_, ↓zb_, ↓zn_, ↓zo_,za_]
   refine kq (And.intro @j7_ (And.intro @hb (And.intro @ix (And.intro @ld0 (And.intro @ld1 (@ld2)))))) ?_
   refine Ow.soft rfl rfl rfl ?_
   refine Ow.callFV rfl Tryz.call93 (fun w' hw'=>ajF_ r.id w') ?_
   with_reducible refine Ow.nil ?_
   refine⟨by intro b hb;simp only[List.mem_cons,List.not_mem_nil,or_false] at hb;(try subst hb);rfl, ?_⟩
   refine kq @j7_ ?_
   refine Ow.soft rfl rfl rfl ?_
   refine Ow.callFV rfl Tryz.call91 (fun w' hw'=>kz_ _ r.place w' (Nat.le_refl _)) ?_
   with_reducible refine Ow.nil ?_
   refine⟨by intro b hb;simp only[List.mem_cons,List.not_mem_nil,or_false] at hb;(try subst hb);rfl, ?_⟩
   refine kq @j7_ ?_
   refine Ow.soft rfl rfl rfl ?_
   refine Ow.callFV rfl Tryz.call91 (fun w' hw'=>kz_ _ r.spot w' (Nat.le_refl _)) ?_
   with_reducible refine Ow.nil ?_
   refine⟨by intro b hb;simp only[List.mem_cons,List.not_mem_nil,or_false] at hb;(try subst hb);rfl, ?_⟩
   refine kq @j7_ ?_
   try with_reducible refine Ow.nil ?_
   first|with_reducible refine ks [] @j7_ ?_|refine kp @j7_ ?_
   exact Again.mk ⟨u++r.id.l++qS_ (zz_ r.place)++qS_ (zz_ r.spot),k+1⟩ (by show l.length - (k+1)<l.length - k;omega) ⟨by show k+1≤l.length;omega,by show _=t++xy_ (l.take (k+1));rw[hsn,hu];unfold rowB;simp only[List.append_assoc]⟩ rfl rfl
  ·obtain rfl:k=l.length:=by omega
   have d2:decide ((l.length:Int)< (l.length:Int))=false:=decide_eq_false (by omega)
   rw[List.take_length,←hidx] at hu
   first|with_reducible refine ks [] (And.intro @j7_ (And.intro @ln (@d2))) ?_|refine kp (And.intro @j7_ (And.intro @ln (@d2))) ?_
   rw[hu] at*
   refine Ow.callFV rfl Tryz.call68 (fun w' hw'=>Qq_ (vB_ s l) w' (by omega)) ?_
   refine ko @j7_ ?_
   first|with_reducible refine ks [] @j7_ ?_|refine kp @j7_ ?_
   refine⟨_,(ke @j7_),trivial, ?_⟩
   rfl
end Go.Proofs
end
section
open Go Go.Proofs Go.Sx Go.StP
namespace Go.Proofs
set_option maxRecDepth 10000
set_option maxHeartbeats 1000000
set_option linter.unusedSimpArgs false
structure CvG where
 k:Nat
 v:Value
 D:zd_
set_option linter.defProp false
def kw_:=And.intro (@zg_) (@zf_)
theorem acK_ (v:Value) (l:List RwL) (w:World) (hv:Xt_ w v l) (hl:l.length<1000000):
  Rets Tryz.prog 44 #[v] w (XS w [] (fun v' D=>Gr D 107 34 v' l.length (l.map rwC).flatten)):=by
 obtain⟨rb,off,arr,E,fz,hr⟩:=hv.row
 have ln:=hv.len
 refine Rets.enterX Tryz.func44 rfl (rs:= [.tmp 2]) Tryz.results44 Tryz.ntmps44 (fun p hp=>by cases hp) (by simp[keys]) ?_
 refine kf ?_
 first|with_reducible refine ks [] (And.intro @kw_ @ln) ?_|refine kp (And.intro @kw_ @ln) ?_
 refine Cw.loopG (G:=CvG) [5,6,7,8,11,12,13,14,15,16,17,18,19,20,21,22,23,24,25,26,27,28,29,3,9,10,4] (fun q=> [(3,q.v),(4,vi q.k)]) (fun q=>q.D) (fun q=>q.k≤l.length∧Ext w [] q.D∧Gr q.D 107 34 q.v q.k ((l.take q.k).map rwC).flatten) (fun q=>l.length - q.k) ⟨0, .slice none 0 0,[]⟩ rfl rfl ?_ ?_
 ·exact⟨Nat.zero_le _,Ext.refl w [],Gr.nl⟩
 intro q jq hq
 refine kv ?_
 obtain⟨k,v1,D⟩:=q
 simp only at hq ⊢
 obtain⟨hk,hE,hGr⟩:=hq
 by_cases hlt:k<l.length
 ·have d1:decide ((k:Int)< (l.length:Int))=true:=decide_eq_true (by omega)
  have hb:=hr.has (by omega)
  have hrl:=hr.lt (by omega)
  have rd:zy_ w D rb=some (.cells arr E fz):=by rw[qK_ (hE.new0.not hrl)];exact hb
  have ix:=hr.idx true k hlt
  have ld0:=vg_ hr hlt
  rw[Nat.add_zero] at ld0
  have ld1:=abH_ hr hlt
  have ld2:=K5_ hr hlt
  have hts:=StP.take_snoc (z:=rw0) hlt
  generalize l.getD k rw0=r at*
  first|with_reducible refine ks [] (And.intro @kw_ (And.intro @ln (@d1))) ?_|refine kp (And.intro @kw_ (And.intro @ln (@d1))) ?_
  refine Cw.regionO [0,1,2,3,4,6,7,8,9,11,12,13,14,5,10,15,16,17,18,19] [17,18] rfl (by kernel_rfl) (by kernel_rfl) ?_
  simp only[zh_, ↓zc_, ↓zb_, ↓zn_, ↓zo_,za_]
  refine kq (And.intro @kw_ (And.intro @ix (And.intro @rd (And.intro @ld0 (And.intro @ld1 (@ld2)))))) ?_
  refine Ow.build (.agg (rwC r).toArray) rfl (akr_ r) ?_
  refine kq @kw_ ?_
  refine Ow.buildSlice (e:=107) (rwC r).toArray rfl rfl (zX_ Tryz.underlying83 Zc_ X8_ (by decide) (zi_ _)) fun b6 hb6 hw6=> ?_
  refine ko @kw_ ?_
  refine Ow.appendG (e:=107) (k:=1) (new:=rwC r) v1 rfl rfl rfl Tryz.underlying83 Zc_ (by kernel_rfl) X8_ (by rw[zI_,List.size_toArray,zi_]) Tryz.underlying83 (by intro k h;cases h) hGr.app (fun w' hw'=>AppX.one1 (hw'.has _ _ (List.mem_append_right _ List.mem_cons_self)) (zi_ _) (jU_ _)) (by show(rwC _).length=1*34;rw[zi_]) (by omega) (fun v3 L3 hB3 _ hg3 hs3=> ?_)
  have hE3:=(hE.app (o:= .cells (rwC r).toArray 107 (0,0)) hw6).grew hg3
  refine ko @kw_ ?_
  refine Again.mk ⟨k+1,v3,L3⟩ (by show l.length - (k+1)<l.length - k;omega) ⟨hlt,hE3, ?_⟩ rfl rfl
  show Gr L3 107 34 v3 (k+1) ((l.take (k+1)).map rwC).flatten
  rw[hts]
  simpa only[List.map_append,List.map_cons,List.map_nil,List.flatten_append,List.flatten_cons,List.flatten_nil,List.append_nil] using hB3
 ·obtain rfl:k=l.length:=by omega
  have d1:decide ((l.length:Int)< (l.length:Int))=false:=decide_eq_false (by omega)
  rw[List.take_length] at hGr
  first|with_reducible refine ks [] (And.intro @kw_ (And.intro @ln (@d1))) ?_|refine kp (And.intro @kw_ (And.intro @ln (@d1))) ?_
  refine⟨_,(ke @kw_), ?_⟩
  exact⟨hE,hGr⟩
theorem afm_ (v:Value) (l:List RwL) (w:World) (hv:Xt_ w v l) (hl:l.length<1000000):
  Rets Tryz.prog 115 #[v] w (XS w [] (fun v' D=>Gr D 104 34 v' l.length (l.map rwC).flatten)):=by
 obtain⟨rb,off,arr,E,fz,hr⟩:=hv.row
 have ln:=hv.len
 refine Rets.enterX Tryz.func115 rfl (rs:= [.tmp 2]) Tryz.results115 Tryz.ntmps115 (fun p hp=>by cases hp) (by simp[keys]) ?_
 refine kf ?_
 first|with_reducible refine ks [] (And.intro @kw_ @ln) ?_|refine kp (And.intro @kw_ @ln) ?_
 refine Cw.loopG (G:=CvG) [5,6,7,8,11,12,13,14,15,16,17,18,19,20,21,22,23,24,25,26,27,28,29,3,9,10,4] (fun q=> [(3,q.v),(4,vi q.k)]) (fun q=>q.D) (fun q=>q.k≤l.length∧Ext w [] q.D∧Gr q.D 104 34 q.v q.k ((l.take q.k).map rwC).flatten) (fun q=>l.length - q.k) ⟨0, .slice none 0 0,[]⟩ rfl rfl ?_ ?_
 ·exact⟨Nat.zero_le _,Ext.refl w [],Gr.nl⟩
 intro q jq hq
 refine kv ?_
 obtain⟨k,v1,D⟩:=q
 simp only at hq ⊢
 obtain⟨hk,hE,hGr⟩:=hq
 by_cases hlt:k<l.length
 ·have d1:decide ((k:Int)< (l.length:Int))=true:=decide_eq_true (by omega)
  have hb:=hr.has (by omega)
  have hrl:=hr.lt (by omega)
  have rd:zy_ w D rb=some (.cells arr E fz):=by rw[qK_ (hE.new0.not hrl)];exact hb
  have ix:=hr.idx true k hlt
  have ld0:=vg_ hr hlt
  rw[Nat.add_zero] at ld0
  have ld1:=abH_ hr hlt
  have ld2:=K5_ hr hlt
  have hts:=StP.take_snoc (z:=rw0) hlt
  generalize l.getD k rw0=r at*
  first|with_reducible refine ks [] (And.intro @kw_ (And.intro @ln (@d1))) ?_|refine kp (And.intro @kw_ (And.intro @ln (@d1))) ?_
  refine Cw.regionO [0,1,2,3,4,6,7,8,9,11,12,13,14,5,10,15,16,17,18,19] [17,18] rfl (by kernel_rfl) (by kernel_rfl) ?_
  simp only[zh_, ↓zc_, ↓zb_, ↓zn_, ↓zo_,za_]
  refine kq (And.intro @kw_ (And.intro @ix (And.intro @rd (And.intro @ld0 (And.intro @ld1 (@ld2)))))) ?_
  refine Ow.build (.agg (rwC r).toArray) rfl (VP_ r) ?_
  refine kq @kw_ ?_
  refine Ow.buildSlice (e:=104) (rwC r).toArray rfl rfl (zX_ Tryz.underlying81 aai_ Q9_ (by decide) (zi_ _)) fun b6 hb6 hw6=> ?_
  refine ko @kw_ ?_
  refine Ow.appendG (e:=104) (k:=1) (new:=rwC r) v1 rfl rfl rfl Tryz.underlying81 aai_ (by kernel_rfl) Q9_ (by rw[zI_,List.size_toArray,zi_]) Tryz.underlying81 (by intro k h;cases h) hGr.app (fun w' hw'=>AppX.one1 (hw'.has _ _ (List.mem_append_right _ List.mem_cons_self)) (zi_ _) (jU_ _)) (by show(rwC _).length=1*34;rw[zi_]) (by omega) (fun v3 L3 hB3 _ hg3 hs3=> ?_)
  have hE3:=(hE.app (o:= .cells (rwC r).toArray 104 (0,0)) hw6).grew hg3
  refine ko @kw_ ?_
  refine Again.mk ⟨k+1,v3,L3⟩ (by show l.length - (k+1)<l.length - k;omega) ⟨hlt,hE3, ?_⟩ rfl rfl
  show Gr L3 104 34 v3 (k+1) ((l.take (k+1)).map rwC).flatten
  rw[hts]
  simpa only[List.map_append,List.map_cons,List.map_nil,List.flatten_append,List.flatten_cons,List.flatten_nil,List.append_nil] using hB3
 ·obtain rfl:k=l.length:=by omega
  have d1:decide ((l.length:Int)< (l.length:Int))=false:=decide_eq_false (by omega)
  rw[List.take_length] at hGr
  first|with_reducible refine ks [] (And.intro @kw_ (And.intro @ln (@d1))) ?_|refine kp (And.intro @kw_ (And.intro @ln (@d1))) ?_
  refine⟨_,(ke @kw_), ?_⟩
  exact⟨hE,hGr⟩
end Go.Proofs
end
section
open Go Go.Proofs Go.Sx Go.StP
namespace Go.Proofs
set_option maxRecDepth 10000
set_option maxHeartbeats 1000000
set_option linter.unusedSimpArgs false
set_option linter.defProp false
def q3_:=And.intro (And.intro (@zg_) (@zf_)) (And.intro (@Sx.tup2_0) (@Sx.tup2_1))
theorem QJ_ (s:List UInt8) (v:Value) (l:List RwL) (w:World) (hG:GlobE w) (hC:GlobC w) (hv:Xt_ w v l):Rets Tryz.prog 7 #[vs s,v] w (fun v D=>v= .bool true∧D= []):=by
 have ln:=hv.len
 refine Rets.enterV Tryz.func7 rfl (rs:= [.tmp 4]) Tryz.results7 Tryz.ntmps7 ?_
 refine kf ?_
 first|with_reducible refine ks [] @q3_ ?_|refine kp @q3_ ?_
 refine Ow.callFV rfl Tryz.call41 (fun w' hw'=>qv_ w' (hG.new hw' trivial) (hC.newP hw' trivial)) ?_
 refine ko @q3_ ?_
 by_cases hll:210<l.length
 ·have d1:decide ((210:Int)< (l.length:Int))=true:=decide_eq_true (by omega)
  first|with_reducible refine ks [] (And.intro @q3_ (And.intro @ln (@d1))) ?_|refine kp (And.intro @q3_ (And.intro @ln (@d1))) ?_
  refine Ow.callFV rfl Tryz.call41 (fun w' hw'=>qv_ w' (hG.new hw' trivial) (hC.newP hw' trivial)) ?_
  refine ko @q3_ ?_
  first|with_reducible refine ks [] @q3_ ?_|refine kp @q3_ ?_
  refine⟨_,(ke @q3_),trivial, ?_⟩
  rfl
 have d1:decide ((210:Int)< (l.length:Int))=false:=decide_eq_false (by omega)
 by_cases hsl:100<s.length
 ·have d2:decide ((100:Int)< (s.length:Int))=true:=decide_eq_true (by omega)
  first|with_reducible refine ks [] (And.intro @q3_ (And.intro @ln (And.intro @d1 (@d2)))) ?_|refine kp (And.intro @q3_ (And.intro @ln (And.intro @d1 (@d2)))) ?_
  refine Ow.callFV rfl Tryz.call41 (fun w' hw'=>qv_ w' (hG.new hw' trivial) (hC.newP hw' trivial)) ?_
  refine ko @q3_ ?_
  first|with_reducible refine ks [] @q3_ ?_|refine kp @q3_ ?_
  refine⟨_,(ke @q3_),trivial, ?_⟩
  rfl
 have d2:decide ((100:Int)< (s.length:Int))=false:=decide_eq_false (by omega)
 first|with_reducible refine ks [] (And.intro @q3_ (And.intro @ln (And.intro @d1 (@d2)))) ?_|refine kp (And.intro @q3_ (And.intro @ln (And.intro @d1 (@d2)))) ?_
 refine Ow.callC rfl rfl Tryz.call42 (fun w' hw'=>Rets.toX (w7_ s v l w' (hC.newP hw' trivial) (hv.oldN hw' trivial) (by omega) (by omega))) (fun B1 v1 D1 hA1 hB1 hN1 hS1=> ?_)
 obtain⟨rfl,Z,hZ,rfl⟩:=hS1
 rw[List.append_nil]
 refine ko @q3_ ?_
 first|with_reducible refine ks [] @q3_ ?_|refine kp @q3_ ?_
 refine Ow.callC rfl rfl Tryz.call44 (fun w' hw'=>acK_ v l w' (hv.oldN hw' trivial) (by omega)) (fun B2 v2 D2 hA2 hB2 hN2 hS2=> ?_)
 have hD2:New w.heap.size D2:=hN2.mono hB2
 rw[List.nil_append]
 refine ko @q3_ ?_
 refine Ow.callC rfl rfl Tryz.call43 (fun w' hw'=>Jm_ v2 l w' (hS2.slV hw' rfl rfl zi_) (by omega)) (fun B3 v3 D3 hA3 hB3 hN3 hS3=> ?_)
 obtain⟨Z',hZ',hG3⟩:=hS3
 obtain rfl:Z'=Z:=hZ'.eq hZ
 have hZl:=hZ.1
 have hD3:=hD2.app (hN3.mono hB3)
 have hG3':GrI (D2++D3) 107 34 v3 l.length (Z'.map rwC).flatten:=Gr.i hG3 fun p hp=>by simp[hp]
 refine ko @q3_ ?_
 first|with_reducible refine ks [] @q3_ ?_|refine kp @q3_ ?_
 refine Ow.callFV rfl Tryz.call45 (fun w' hw'=>Q6_ s v3 Z' w' (hG3'.slV hw' hZl rfl zi_)) ?_
 cases hr:qx_ s Z' with
 |false=>
  have hw:km_ s Z'=([],1):=by unfold km_;rw[if_neg (by rw[hr];simp)]
  rw[hw]
  have e1: ((1:Int)==1)=true:=rfl
  have e2: (([]:List UInt8)== [])=true:=rfl
  refine ko @q3_ ?_
  first|with_reducible refine ks [] @q3_ ?_|refine kp @q3_ ?_
  refine Ow.callFV rfl Tryz.call41 (fun w' hw'=>qv_ w' (hG.new hw' hD3) (hC.newP hw' hD3)) ?_
  refine ko (And.intro @q3_ (And.intro @e1 (@e2))) ?_
  first|with_reducible refine ks [] @q3_ ?_|refine kp @q3_ ?_
  refine⟨_,(ke @q3_),hD3, ?_⟩
  rfl
 |true=>
  have hw:km_ s Z'=(qP_ (vB_ s Z'),0):=by unfold km_;rw[if_pos hr]
  rw[hw]
  have e1: ((0:Int)==0)=true:=rfl
  have e2: (qP_ (vB_ s Z')==qP_ (vB_ s Z'))=true:=beq_self_eq_true _
  refine ko @q3_ ?_
  first|with_reducible refine ks [] @q3_ ?_|refine kp @q3_ ?_
  refine Ow.callFV rfl Tryz.call41 (fun w' hw'=>qv_ w' (hG.new hw' hD3) (hC.newP hw' hD3)) ?_
  refine ko (And.intro @q3_ @e1) ?_
  refine Ow.callFV rfl Tryz.call46 (fun w' hw'=>Jy_ s v3 Z' w' (hG3'.slV hw' hZl rfl zi_) (by omega) (by omega)) ?_
  refine ko (And.intro @q3_ @e2) ?_
  first|with_reducible refine ks [] @q3_ ?_|refine kp @q3_ ?_
  refine⟨_,(ke @q3_),hD3, ?_⟩
  rfl
end Go.Proofs
end
section
open Go Go.Proofs Go.Sx Go.StP Go.Flo
namespace Go.Proofs
set_option maxRecDepth 10000
set_option maxHeartbeats 1000000
set_option linter.unusedSimpArgs false
theorem alQ_:qJ_ Tryz.prog .eql 38 (.pointer none) (.pointer none)=some (.bool true):=by
 simp[qJ_,eqX,qw_,qE_,Tryz.underlying38]
theorem an6_ (b o:Nat):qJ_ Tryz.prog .neq 38 (vp b o) (.pointer none)=some (.bool true):=by
 simp[qJ_,eqX,qw_,qE_,Tryz.underlying38,vp]
set_option linter.defProp false
def aqV_:=And.intro (And.intro (And.intro (@zg_) (@zf_)) (And.intro (@alQ_) (@q2_))) (And.intro (And.intro (@qp_) (@qo_)) (And.intro (@qA_) (@jd_)))
end Go.Proofs
end
section
open Go Go.Proofs Go.Sx Go.StP Go.Flo
namespace Go.Proofs
set_option maxRecDepth 10000
set_option maxHeartbeats 1000000
set_option linter.unusedSimpArgs false
theorem ajN_ (v0 v1 v2 v3:Value) (n:Nat):zr_ (some (false,n)) (some (mkO v0 v1 v2 v3)) 0=some v0:=(rfl)
theorem ali_ (v0 v1 v2 v3:Value) (n:Nat):zr_ (some (false,n)) (some (mkO v0 v1 v2 v3)) 1=some v1:=(rfl)
theorem aoo_ (k k':Int) (t t':List UInt8):qJ_ Tryz.prog .neq 43 (obV k t) (obV k' t')=some (.bool (!decide ((⟨k,t⟩:ObL)=⟨k',t'⟩))):=aqr_ ⟨k,t⟩ ⟨k',t'⟩
structure SmG where
 i:Nat
 DG:zd_
set_option linter.defProp false
def arl_:=And.intro (And.intro (And.intro (And.intro (@zg_) (@zf_)) (And.intro (@Q7_) (@ajN_))) (And.intro (And.intro (@ali_) (@adC_)) (And.intro (@QV_) (@q2_)))) (And.intro (And.intro (And.intro (@qp_) (@qo_)) (And.intro (@qA_) (@jd_))) (And.intro (And.intro (@abr_) (@aoo_)) (And.intro (@Sx.tup2_0) (@Sx.tup2_1))))
end Go.Proofs
end
section
open Go Go.Proofs Go.Sx Go.StP Go.Flo
namespace Go.Proofs
set_option maxRecDepth 10000
set_option maxHeartbeats 1000000
set_option linter.unusedSimpArgs false
def Dst (l:List IdL):Prop:= ∀k,k<l.length→idxG (l.getD k id0) l 0=(k:Int)
set_option linter.defProp false
def ard_:=And.intro (And.intro (And.intro (@zg_) (And.intro (@zf_) (@Q7_))) (And.intro (And.intro (@QV_) (@q2_)) (And.intro (@qp_) (@qo_)))) (And.intro (And.intro (And.intro (@qA_) (@jd_)) (And.intro (@abr_) (@aoo_))) (And.intro (And.intro (@an6_) (@alQ_)) (And.intro (@Sx.tup2_0) (@Sx.tup2_1))))
end Go.Proofs
end
namespace Go.Sx
open Go Go.ChangeShapes Go.WideShapes Go.RowKit
theorem Hp.same0 {W W':World} (h:Hp W [] W') {b:Nat} (hb:b<W.heap.size):W'.heap[b]? =W.heap[b]? :=h.old b hb (fun hm=>by cases hm)
theorem Hp.kept {W W':World} (h:Hp W [] W') (may:MemPlace→Prop):W.keptBut W' may:=by
 refine⟨h.os,h.output,fun i hi=> ?_⟩
 rw[h.same0 hi]
 cases ho:W.heap[i]? with
 |none=>rfl
 |some o=>
  cases o<;>first
   |exact⟨rfl,rfl,rfl,fun _ _=>rfl⟩
   |exact .inr ⟨rfl,rfl⟩
   |rfl
theorem Hp.sameAt {W W':World} (h:Hp W [] W') {p:MemPlace} (hp:p.block<W.heap.size):W.sameAt W' p:=by
 cases p with
 |cell b off=>
  have:=h.same0 (b:=b) hp
  simp only[World.sameAt,World.cell?,this]
 |map b=>exact h.same0 hp
theorem Hp.frozen {W W':World} (h:Hp W [] W') {a:Addr} (ha:a.block<W.heap.size):W'.frozen? a=W.frozen? a:=by
 simp only[World.frozen?,h.same0 ha]
section
variable {H:Type} {enc:TypeId×Value→H} {P:Program}
theorem Zf_ (hl:laidOutB P=true) {W W':World} {sp:Nat→Bool} (hp:Hp W [] W'): ∀ {ts:List TypeId} {vs:List Value} {ds:List (DataW H)} {ps:List MemPlace},
  (∀t∈ts,P.readableRec t=true∧t<P.types.size)→(∀p∈ps,p.block<W.heap.size)→(∀p∈ps,sp p.block=true)→
  DataW.TrodAll enc P W 0 (fun _=>true) true ts vs ds ps→DataW.TrodAll enc P W' 0 sp true ts vs ds ps
 | [],_,_,_,_,_,_,h=>by
  obtain⟨rfl,rfl,rfl⟩:=trodAll_nil h
  exact trodAll_mk0
 |t::ts,_,_,_,ht,hlt,hs,h=>by
  obtain⟨v,vs,d,ds,p,q,rfl,rfl,rfl,h1,h2⟩:=trodAll_cons h
  have hlt1: ∀x∈p,x.block<W.heap.size:=fun x hx=>hlt x (List.mem_append_left _ hx)
  exact trodAll_cons_mk (WideElems.Trod_stays hl (ht t List.mem_cons_self).1 (ht t List.mem_cons_self).2 h1 (fun x hx=>hp.sameAt (hlt1 x hx)) (fun x hx=>hs x (List.mem_append_left _ hx)))
   (Zf_ hl hp (fun u hu=>ht u (List.mem_cons_of_mem _ hu)) (fun x hx=>hlt x (List.mem_append_right _ hx)) (fun x hx=>hs x (List.mem_append_right _ hx)) h2)
theorem aan_ {f:Func} {s:ChangeSpec} {W W':World} {args:Array Value} {ds gs:List (DataW H)} {before:List MemPlace} {tb:TypeId} (hl:laidOutB P=true)
  (hW:DataW.Whole enc P f.params.toList s.vars false W args.toList ds gs before) (hv:s.vars= []) (hpar: ∀t∈f.params.toList,P.readableRec t=true∧t<P.types.size)
  (hr:f.resultTypes= #[tb]) (htb:P.underlying tb=some .bool) (hfn:s.fn H ds={results:= [.lit (.bool true)],args:=ds}) (hp:Hp W [] W'):
  s.post enc P f false true false false W args (.bool true) W':=by
 have hlt:=hW.lt
 have hW0:=hW
 obtain⟨p,q,hA,hV,rfl,hz,hn⟩:=hW
 rw[hv] at hV
 obtain⟨rfl,rfl⟩:=trodVars_none hV
 rw[List.append_nil] at hW0 hlt hz
 have hargs: ∀sp:Nat→Bool,(∀x∈p,sp x.block=true)→DataW.TrodAll enc P W' 0 sp true f.params.toList args.toList (s.fn H (ds++ [])).args p:=fun sp hs=>by
  rw[List.append_nil,hfn]
  exact Zf_ hl hp hpar hlt hs hA
 have hvars: ∀sp:Nat→Bool,DataW.TrodVars enc P W' sp s.vars (s.fn H (ds++ [])).vars []:=fun sp=>by
  rw[List.append_nil,hfn,hv];rfl
 have hres: ∀ (b:Nat) (sp:Nat→Bool) (hd:Bool),DataW.TrodAll enc P W' b sp hd f.resultTypes.toList ((Value.bool true).resultList f.resultTypes.size) (s.fn H (ds++ [])).results []:=fun b sp hd=>by
  rw[List.append_nil,hfn,hr]
  exact trodAll_cons_mk (shut_bool htb true) trodAll_mk0
 have hold: ∀x∈p,(fun b=>decide (b<W.heap.size)) x.block=true:=fun x hx=>by simpa using hlt x hx
 refine⟨ds,[],p,[],p,[],hW0,hres _ _ _,hargs _ hold,hvars _,hp.kept _,fun _=> ?_⟩
 refine⟨ok_one hr rfl (okWide_bool_mk htb true),_,_,([]++p)++ [],⟨[]++p,[],trodAll_append (hargs _ (fun _ _=>rfl)) (hres _ _ _),hvars _,rfl, ?_,fun h=>by cases h⟩, ?_⟩
 ·intro b off hx
  have hx':MemPlace.cell b off∈p:=by simpa using hx
  rw[hp.frozen (hlt _ hx')]
  exact hz b off hx'
 ·intro x hx _
  simpa using hx
end
section
variable {P:Program} {W:World} {name:String} {k:IntKind} {zs:List Int}
theorem jM_ {t e:TypeId} {g n:Nat} (hg:P.globalNamed name=some g) (hty: (P.globals[g]?).map (·.type)=some t) (ht:P.underlying t=some (.array n e)) (he:P.underlying e=some (.int k)) (hce:P.cellsOf e=1) (hct:P.cellsOf t=n):
  ∀ {laid:List (String×DataW Unit)} {ps:List MemPlace},DataW.LaidVars P W laid ps→(name,Lib.tabData k zs)∈laid→Lib.TabIs P W name k zs
 | [],_,_,hm=>by cases hm
 | (n',d')::rest,ps,h,hm=>by
  obtain⟨g',t',cs,fuel,p,q,hg',ht',hvar,hd,hr,-⟩:=h
  rcases List.mem_cons.1 hm with hm|hm
  ·cases hm
   obtain rfl:=Option.some.inj (hg.symm.trans hg')
   obtain rfl:=Option.some.inj (hty.symm.trans ht')
   unfold Lib.TabIs
   rw[hvar,←Lib.cells_of_tab ht he hce hct hd]
  ·exact jM_ hg hty ht he hce hct hr hm
theorem j9_ {g:Nat} (hg:P.globalNamed name=some g) (h:Lib.TabIs P W name k zs): ∃e f,W.heap[g]? =some (.cells (zs.map fun z=>Value.int k z).toArray e f):=by
 unfold Lib.TabIs at h
 simp only[World.var?,hg,Option.bind_some] at h
 split at h
 ·rename_i cs e f hb
  cases h
  exact⟨e,f,hb⟩
 ·cases h
end
section
variable {H:Type} {enc:TypeId×Value→H} {P:Program}
end
end Go.Sx
namespace Go.Sx
open Go
section
variable {P:Program}
theorem akP_ {fits:TypeId→Bool} {d:Nat} {e:TypeId} {count off n:Nat} (h:rowAt P fits d e count off n=true):off≤count*P.cellsOf e:=by
 cases d with
 |zero=>simp[rowAt] at h
 |succ d=>
  unfold rowAt at h
  simp only at h
  split at h
  ·cases h
  ·rename_i hs
   have hs':0<P.cellsOf e:=Nat.pos_of_ne_zero hs
   have hd:=Nat.div_add_mod off (P.cellsOf e)
   have hm:=Nat.mod_lt off hs'
   rw[Bool.or_eq_true] at h
   rcases h with h|h
   ·simp only[Bool.and_eq_true,beq_iff_eq,decide_eq_true_eq] at h
    have:off / P.cellsOf e*P.cellsOf e≤count*P.cellsOf e:=Nat.mul_le_mul_right _ (by omega)
    rw[Nat.mul_comm (P.cellsOf e)] at hd
    omega
   ·simp only[Bool.and_eq_true,decide_eq_true_eq] at h
    have: (off / P.cellsOf e+1)*P.cellsOf e≤count*P.cellsOf e:=Nat.mul_le_mul_right _ (by omega)
    rw[Nat.add_mul,Nat.one_mul] at this
    rw[Nat.mul_comm (P.cellsOf e)] at hd
    omega
theorem aaD_ {e:TypeId} {count off:Nat}: ∀ {d:Nat} {u:TypeId} {n:Nat},liesAt P d e count off u n=true→off≤count*P.cellsOf e
 |0,u,n,h=>by simp[liesAt] at h
 |d+1,u,n,h=>by
  unfold liesAt at h
  rw[Bool.or_eq_true] at h
  rcases h with h|h
  ·exact akP_ h
  ·split at h
   ·exact aaD_ h
   ·cases h
theorem ao3_ {W:World} {r:Reach} {base:Nat} {a:Addr} {e:TypeId} {n:Nat} (h:W.has P r base a e n):a.spot=none∧ ∃arr E fz,W.heap[a.block]? =some (.cells arr E fz)∧a.off≤arr.size:=by
 obtain⟨-,hs,row,cells,hsh,hl⟩:=h
 refine⟨hs, ?_⟩
 unfold World.shape? at hsh
 split at hsh
 ·rename_i c el fz hh
  cases hsh
  refine⟨c,_,fz,hh,Nat.le_trans (aaD_ hl) ?_⟩
  exact Nat.div_mul_le_self _ _
 ·cases hsh
theorem ai1_ {W:World} {r:Reach} {base:Nat} {t e:TypeId} {v:Value} (ht:P.underlying t=some (.slice e)) (h:Value.okWide P W r base t v):
  v= .slice none 0 0∨ ∃b off len cap arr E fz,v=vsl b off len cap∧len≤cap∧W.heap[b]? =some (.cells arr E fz)∧off≤arr.size:=by
 obtain⟨a,len,cap,rfl⟩:=Go.WideShapes.okWide_slice ht h
 unfold Value.okWide at h
 rw[ht] at h
 unfold Cell.okWide at h
 rw[ht] at h
 simp only at h
 unfold Cell.ok at h
 rw[ht] at h
 cases a with
 |none=>
  left
  simp only at h
  split at h
  all_goals first| (cases h;done) |simp_all
 |some a=>
  right
  simp only at h
  obtain⟨hle,-,hh⟩:=h
  obtain⟨hs,arr,E,fz,hb,ho⟩:=ao3_ hh
  obtain⟨b,off,sp⟩:=a
  simp only at hs
  subst hs
  exact⟨b,off,len,cap,arr,E,fz,rfl,hle,hb,ho⟩
theorem an5_ {α:Type} {enc:α→List Value} {z:α} {m:Nat} {W:World} {base b off c:Nat} {l:List α} {arr:Array Value} {E:TypeId} {fz:Nat×Nat} (hm0:0<m) (hm: ∀x,(enc x).length=m)
  (hcells: ∀i,i<l.length→W.cells? base ((Addr.mk b off none).add (i*m)) m=some (enc (l.getD i z))) (hheap:W.heap[b]? =some (.cells arr E fz)) (hoff:off≤arr.size) (hc:l.length≤c):SlV m enc z W (vsl b off l.length c) l:=by
 have get: ∀k,k<l.length→ ∀j,j<m→arr[off+k*m+j]? =(enc (l.getD k z))[j]? :=by
  intro k hk j hj
  obtain⟨-,hl,hg⟩:=World.cells?_some (hcells k hk)
  have:=hg j (by omega)
  rw[jf_,jf_] at this
  simp only[World.cell?,hheap,Option.isSome_none,Bool.false_eq_true,if_false] at this
  exact this
 refine SlV.sl hheap get hc ?_
 by_cases h0:l.length=0
 ·rw[h0];omega
 ·have h1:=get (l.length - 1) (by omega) (m - 1) (by omega)
  rw[List.getElem?_eq_getElem (by rw[hm];omega)] at h1
  have h2:=(Array.getElem?_eq_some_iff.1 h1).1
  have h3: (l.length - 1)*m+m=l.length*m:=by
   rw[←Nat.succ_mul];congr 1;omega
  omega
theorem adw_ {H:Type} {tell:TypeId×Value→H} {α:Type} {enc:α→List Value} {z:α} {m:Nat} {W:World} {r:Reach} {base b0:Nat} {sp:Nat→Bool} {held:Bool} {fuel:Nat} {t e:TypeId} {v:Value} {x:DataW H×List MemPlace}
  (ht:P.underlying t=some (.slice e)) (he:P.cellsOf e=m) (hm0:0<m) (hm: ∀x,(enc x).length=m) (hval:Value.okWide P W r b0 t v)
  (hdec: ∀n cs y,DataW.trod tell P W base sp held n e cs=some y→ ∃a,cs=enc a) (hd:DataW.trod tell P W base sp held fuel t [v]=some x): ∃l,SlV m enc z W v l:=by
 rcases DataW.trod_slice ht hd with⟨hcs,-⟩ | ⟨a,len,cap,elems,rest,n,-,hcs,-,-,hl,-,hlen,hel,-,-⟩
 ·simp only[List.cons.injEq,and_true] at hcs
  subst hcs
  exact⟨[],SlV.nil W⟩
 ·simp only[List.cons.injEq,and_true] at hcs
  subst hcs
  rcases ai1_ ht hval with h0| ⟨b,off,len',cap',arr,E,fz,h1,-,hb,ho⟩
  ·cases h0
  ·unfold vsl at h1
   cases h1
   rw[he] at hel
   have hex: ∀i,i<len→ ∃q,W.cells? base ((Addr.mk b off none).add (i*m)) m=some (enc q):=by
    intro i hi
    have h2:=hel i hi
    rw[List.getElem?_eq_getElem (by omega)] at h2
    cases hc:W.cells? base ((Addr.mk b off none).add (i*m)) m with
    |none=>rw[hc] at h2;cases h2
    |some cs=>
     rw[hc] at h2
     obtain⟨q,rfl⟩:=hdec _ _ _ h2
     exact⟨q,rfl⟩
   obtain⟨f,hf⟩: ∃f:Nat→α,∀i,i<len→W.cells? base ((Addr.mk b off none).add (i*m)) m=some (enc (f i)):=by
    classical
    refine⟨fun i=>if h:i<len then Classical.choose (hex i h) else z,fun i hi=> ?_⟩
    simp only[dif_pos hi]
    exact Classical.choose_spec (hex i hi)
   have hll: ((List.range len).map f).length=len:=by simp
   refine⟨(List.range len).map f, ?_⟩
   have:=an5_ (W:=W) (base:=base) (b:=b) (off:=off) (c:=cap) (l:=(List.range len).map f) (z:=z) hm0 hm (fun i hi=>by
    rw[hll] at hi
    rw[hf i hi]
    congr 2
    rw[List.getD_eq_getElem?_getD,List.getElem?_map,List.getElem?_range hi];rfl) hb ho (by rw[hll];exact hl)
   rw[hll] at this
   exact this
end
end Go.Sx
section
open Go Go.Proofs Go.Sx Go.StP Go.ChangeShapes
namespace Go.Proofs
set_option maxRecDepth 10000
set_option maxHeartbeats 400000
end Go.Proofs
end
section
open Go Go.Proofs Go.Sx
namespace Go.Proofs
set_option maxRecDepth 10000
set_option maxHeartbeats 400000
theorem agj_ {H:Type} {tell:TypeId×Value→H} {W:World} {base:Nat} {sp:Nat→Bool} {held:Bool} {n:Nat} {cs:List Value} {y:DataW H×List MemPlace}
  (h:DataW.trod tell Tryz.prog W base sp held n 37 cs=some y): ∃i:IdL,cs=i.l.map v8:=by
 obtain⟨xs,m,-,-,hlen,hxl,hel⟩:=DataW.trod_array Tryz.underlying37 h
 have hc: (Tryz.prog).cellsOf 37=32:=by kernel_rfl
 have h1: (Tryz.prog).cellsOf 5=1:=by kernel_rfl
 rw[hc] at hlen
 rw[h1] at hel
 have hex: ∀i (hi:i<cs.length),∃x:UInt8,cs[i]=v8 x:=by
  intro i hi
  have h2:=hel i (by omega)
  rw[List.getElem?_eq_getElem (by omega),Nat.mul_one,List.drop_eq_getElem_cons hi,List.take_succ_cons,List.take_zero] at h2
  obtain⟨z,hz,-,hw⟩:=DataW.trod_int Tryz.underlying5 h2
  simp only[List.cons.injEq,and_true] at hz
  rw[hz]
  simp only[Lit.wf,Bool.and_eq_true,decide_eq_true_eq] at hw
  have hw1:0≤z:=by simpa [IntKind.min,IntKind.bits,IntKind.signed] using hw.1
  have hw2:z≤255:=by simpa [IntKind.max,IntKind.bits,IntKind.signed] using hw.2
  refine⟨UInt8.ofNat z.toNat, ?_⟩
  unfold v8
  rw[UInt8.toNat_ofNat',Nat.mod_eq_of_lt (by omega)]
  congr 1;omega
 have hl: ∃l:List UInt8,cs=l.map v8:=by
  clear hel hlen hxl h
  induction cs with
  |nil=>exact⟨[],rfl⟩
  |cons c r ih=>
   obtain⟨x,hx⟩:=hex 0 (by simp)
   obtain⟨l,hl⟩:=ih (fun i hi=>by have:=hex (i+1) (by simpa using hi);simpa using this)
   exact⟨x::l,by rw[hl];simp at hx;simp[hx]⟩
 obtain⟨l,rfl⟩:=hl
 exact⟨⟨l,by simpa using hlen⟩,rfl⟩
end Go.Proofs
end
section
open Go Go.Proofs Go.Sx Go.StP Go.ChangeShapes
namespace Go.Proofs
set_option maxRecDepth 10000
set_option maxHeartbeats 400000
theorem anD_ {H:Type} {tell:TypeId×Value→H} {W:World} {base:Nat} {sp:Nat→Bool} {held:Bool} (n:Nat) (cs:List Value) (y:DataW H×List MemPlace)
  (h:DataW.trod tell Tryz.prog W base sp held n 104 cs=some y): ∃a:RwL,cs=rwC a:=by
 obtain⟨y0,y1,y2,n',-,hlen,h0,h1,h2⟩:=Deep.trod_struct3 Tryz.underlying104 h
 have hc: (Tryz.prog).cellsOf 104=34:=by kernel_rfl
 have hc0: (Tryz.prog).cellsOf 37=32:=by kernel_rfl
 have hc1: (Tryz.prog).cellsOf 3=1:=by kernel_rfl
 simp only at h0 h1 h2
 rw[hc0,List.drop_zero] at h0
 rw[hc1] at h1 h2
 rw[hc] at hlen
 obtain⟨i,hi⟩:=agj_ h0
 obtain⟨z1,hz1,-,-⟩:=DataW.trod_int Tryz.underlying3 h1
 obtain⟨z2,hz2,-,-⟩:=DataW.trod_int Tryz.underlying3 h2
 refine⟨⟨i,z1,z2⟩, ?_⟩
 have hd:cs=cs.take 32++ ((cs.drop 32).take 1++ (cs.drop 33).take 1):=by
  rw[show(cs.drop 33).take 1=cs.drop 33 from List.take_of_length_le (by rw[List.length_drop];omega),show cs.drop 33=(cs.drop 32).drop 1 by rw[List.drop_drop],List.take_append_drop,List.take_append_drop]
 have e1: (cs.drop 32).take 1= [vi z1]:=hz1
 have e2: (cs.drop 33).take 1= [vi z2]:=hz2
 rw[hd,hi,e1,e2]
 rfl
theorem ais_ {H:Type} {enc:TypeId×Value→H} {W:World} {r:Reach} {b0 base:Nat} {sp:Nat→Bool} {held:Bool} {v:Value} {d:DataW H} {p:List MemPlace}
  (hval:Value.okWide Tryz.prog W r b0 81 v) (hd:DataW.Trod enc Tryz.prog W base sp held 81 v d p): ∃l,SlV 34 rwC rw0 W v l:=by
 obtain⟨a0,len,cap,rfl⟩:=WideShapes.okWide_slice Tryz.underlying81 hval
 obtain⟨fu,hf⟩:=hd
 exact adw_ (z:=rw0) Tryz.underlying81 (by kernel_rfl) (by decide) zi_ hval anD_ hf
theorem alx_ {H:Type} {enc:TypeId×Value→H} {W:World} {r:Reach} {b0 base:Nat} {sp:Nat→Bool} {held:Bool} {v:Value} {d:DataW H} {p:List MemPlace}
  (hval:Value.okWide Tryz.prog W r b0 30 v) (hd:DataW.Trod enc Tryz.prog W base sp held 30 v d p): ∃l,SlV 32 wR_ id0 W v l:=by
 obtain⟨a0,len,cap,rfl⟩:=WideShapes.okWide_slice Tryz.underlying30 hval
 obtain⟨fu,hf⟩:=hd
 exact adw_ (z:=id0) Tryz.underlying30 (by kernel_rfl) (by decide) jV_ hval (fun n cs y h=>by obtain⟨i,hi⟩:=agj_ h;exact⟨i,hi⟩) hf
end Go.Proofs
end
section
open Go Go.Proofs Go.Sx Go.StP Go.Flo
namespace Go.Proofs
set_option maxRecDepth 10000
set_option maxHeartbeats 1000000
set_option linter.unusedSimpArgs false
def OfRS (b:List UInt8) (v:Value) (D:zd_):Prop:=match ZY_ b with
 |none=>v= .tuple #[.slice none 0 0, .bool false]
 |some q=> ∃x Z,rws_SortOf (Zt_ q.2.1 q.2.2.1) Z∧v= .tuple #[x, .bool true]∧GrI D 107 34 x Z.length (Z.map rwC).flatten
structure OrfG where
 k:Nat
 v:Value
 D:zd_
theorem ago_ (v0 v1 v2 v3:Value) (n:Nat):zr_ (some (false,n)) (some (mkO v0 v1 v2 v3)) 1=some v1:=(rfl)
set_option linter.defProp false
def arN_:=And.intro (And.intro (@zg_) (And.intro (@zf_) (@Sx.tup2_0))) (And.intro (And.intro (@Sx.tup2_1) (@Q7_)) (And.intro (@QV_) (@ago_)))
end Go.Proofs
end
section
open Go Go.Proofs Go.Sx Go.StP Go.Flo
namespace Go.Proofs
set_option maxRecDepth 10000
set_option maxHeartbeats 1000000
set_option linter.unusedSimpArgs false
theorem ahe_ (s:List UInt8):qg_ (kt_ Tryz.prog 166) (zK_ Tryz.prog 166) [(0,vs s),(1,vi 8)]=some (.agg #[vs s,vi 8,vi 0]):=by
 rw[show kt_ Tryz.prog 166=some [(0,1),(1,1),(2,1)] from id (by kernel_rfl),zrRR];rfl
theorem acc_ (b:Nat) (s:List UInt8) (a:Nat) (e:Int) (w:World) (ha:a≤s.length) (hs:s.length<1099511627776) (ho:w.heap[b]? =some (rrO s a e)):
  Rets Tryz.prog 101 #[vp b 0] w (fun v D=> ∃o,D= [(b,o)]∧v= .agg (a8 (idR s a e).1)∧o=rrO s (idR s a e).2.1 (idR s a e).2.2):=afP_ b s a e w ha hs ho
theorem Wi_ (b:Nat) (s:List UInt8) (a:Nat) (e:Int) (w:World) (ho:w.heap[b]? =some (rrO s a e)):
  Rets Tryz.prog 102 #[vp b 0] w (fun v D=>v=vi (xY_ s a e)∧D= []):=Wf_ b s a e w ho
def adD_ (b:List UInt8) (v:Value) (D:zd_):Prop:=match QP_ b with
 |some q=> ∃x,v= .tuple #[vs q.1,x, .bool true]∧GrI D 107 34 x q.2.length (q.2.map rwC).flatten
 |none=>v= .tuple #[vs [], .slice none 0 0, .bool false]
theorem ajG_ (b:List UInt8) {s rs:List UInt8} {ok:Bool} {rl:List RwL} {ra:Nat} {re:Int} (hu:zq_ b=(s,ok)) (hr: (rs,rl,ra,re)=xU_ s fun _=>200):QP_ b=if ok=true∧8≤s.length∧xY_ s ra re=0∧qx_ rs rl=true∧qP_ (vB_ rs rl)=b then some (rs,rl) else none:=by
 by_cases h:aeO_ b
 ·have h':=h
  rw[ag9_ h]
  unfold aeO_ at h'
  rw[hu,←hr] at h'
  rw[if_pos h',hu,←hr]
 ·rw[ak9_ h]
  unfold aeO_ at h
  rw[hu,←hr] at h
  rw[if_neg h]
structure ODiG where
 k:Nat
 q:Nat×Int
structure ODrG where
 l:List RwL
 q:Nat×Int
 v:Value
 D1:zd_
 DG:zd_
theorem an0_ {s:List UInt8} (h:8≤s.length):jc_ s 0 0 8=(s.take 8,8,0):=by
 unfold jc_
 rw[if_neg (by decide),if_neg (by decide),if_neg (by omega)]
 rfl
set_option linter.defProp false
def z7_:=And.intro (And.intro (And.intro (@zg_) (And.intro (@zf_) (@zI_))) (And.intro (@jZ_) (And.intro (@xm_) (@xM_)))) (And.intro (And.intro (@xT_) (And.intro (@qL_) (@ah2_))) (And.intro (And.intro (@WE_) (@WB_)) (And.intro (@Sx.tup2_0) (@Sx.tup2_1))))
theorem QA_ (b:List UInt8) (w:World) (hb:b.length<1000000):
  Rets Tryz.prog 50 #[vs b] w (XS w [] (adD_ b)):=by
 have brz:qg_ (kt_ Tryz.prog 107) (zK_ Tryz.prog 107) []=some (.agg (rwC rw0).toArray):=by
  rw[show kt_ Tryz.prog 107=some [(0,32),(32,1),(33,1)] from id (by kernel_rfl),X8_];simp[qg_,Sx.fillV]
 refine Rets.enterX Tryz.func50 rfl (rs:= [.tmp 2, .tmp 3, .tmp 4]) Tryz.results50 Tryz.ntmps50 (fun p hp=>by cases hp) (by simp[keys]) ?_
 refine kf ?_
 first|with_reducible refine ks [] @z7_ ?_|refine kp @z7_ ?_
 refine Ow.callFV rfl Tryz.call75 (fun w' hw'=>X6_ b w' (by omega)) ?_
 have hun: (zq_ b).1.length≤b.length:=Xj_ b
 unfold adD_
 obtain⟨r,hr⟩: ∃r,r=xU_ (zq_ b).1 fun _=>200:=⟨_,rfl⟩
 obtain⟨rs,rl,ra,re⟩:=r
 obtain⟨u,hu⟩: ∃u,u=zq_ b:=⟨_,rfl⟩
 obtain⟨s,ok⟩:=u
 rw[←hu] at hun hr
 simp only at hun hr
 rw[ajG_ b hu.symm hr]
 rw[←hu]
 cases ok with
 |false=>
  rw[if_neg (by simp)]
  refine ko @z7_ ?_
  first|with_reducible refine ks [] @z7_ ?_|refine kp @z7_ ?_
  refine⟨_,(ke @z7_), ?_⟩
  exact⟨Ext.refl _ _,rfl⟩
 |true=>
  by_cases h8:s.length<8
  ·have d1:decide ((s.length:Int)<8)=true:=decide_eq_true (by omega)
   rw[if_neg (fun h=>by omega)]
   refine ko (And.intro @z7_ @d1) ?_
   first|with_reducible refine ks [] @z7_ ?_|refine kp @z7_ ?_
   refine⟨_,(ke @z7_), ?_⟩
   exact⟨Ext.refl _ _,rfl⟩
  have d1:decide ((s.length:Int)<8)=false:=decide_eq_false (by omega)
  have d48:decide ((0:Int)≤4∧(4:Int)≤8∧(8:Int)≤ (s.length:Int))=true:=decide_eq_true (by omega)
  unfold xU_ at hr
  rw[an0_ (by omega)] at hr
  simp only at hr
  refine ko (And.intro @z7_ @d1) ?_
  refine Ow.build (.agg #[vs s,vi 8,vi 0]) rfl (ahe_ s) ?_
  refine ko @z7_ ?_
  refine Ow.box rfl rfl fun br hbr hwr=> ?_
  simp only[qi_,qe_,qc_,ze_,List.nil_append]
  refine Ow.permL (M:= [(br,rrO s 8 0)]) (List.Perm.refl _) ?_
  refine ko @z7_ ?_
  refine Ow.callM rfl rfl Tryz.call98 (by simp[keys]) (fun w' hw'=>jX_ br s 8 0 200 w' (by omega) (by omega) (hw'.has _ _ List.mem_cons_self)) ?_
  have r2:=z4_ (s:=s) (a:=8) (e:=0) (most:=200) (by omega)
  have m2:=qW_ (s:=s) (a:=8) (e:=0) (most:=200) (by omega)
  generalize zu_ s 8 0 200=p at*
  obtain⟨n0,a2,e2⟩:=p
  simp only at r2 m2 hr ⊢
  obtain⟨n,rfl⟩: ∃n:Nat,n0=(n:Int):=⟨n0.toNat,by omega⟩
  rw[Int.toNat_natCast] at hr
  refine kn ?_
  refine ko @z7_ ?_
  refine Cw.loopG (G:=ODiG) [30,31,34,35,32,33,9] (fun g=> [(9,vi g.k)]) (fun g=> [(br,rrO s g.q.1 g.q.2)]) (fun g=>g.k≤16∧g.q.1≤s.length∧vi_ s 200 16 (a2,e2)=vi_ s 200 (16 - g.k) g.q) (fun g=>16 - g.k) ⟨0,(a2,e2)⟩ rfl rfl ?_ ?_
  ·exact⟨Nat.zero_le _,r2.2,rfl⟩
  intro g j hg
  refine kv ?_
  obtain⟨k,q⟩:=g
  simp only at hg ⊢
  obtain⟨hk,hq,hf⟩:=hg
  by_cases hlt:k<16
  ·have d2:decide ((k:Int)<16)=true:=decide_eq_true (by omega)
   have hf2:vi_ s 200 (16 - k) q=vi_ s 200 (16 - (k+1)) (zu_ s q.1 q.2 200).2:=by
    rw[show 16 - k=(16 - (k+1))+1 by omega];rfl
   first|with_reducible refine ks [] (And.intro @z7_ @d2) ?_|refine kp (And.intro @z7_ @d2) ?_
   refine Ow.callM rfl rfl Tryz.call98 (by simp[keys]) (fun w' hw'=>jX_ br s q.1 q.2 200 w' hq (by omega) (hw'.has _ _ List.mem_cons_self)) ?_
   refine kn ?_
   refine ko @z7_ ?_
   exact Again.mk ⟨k+1,(zu_ s q.1 q.2 200).2⟩ (by show 16 - (k+1)<16 - k;omega) ⟨hlt,(z4_ hq).2,hf.trans hf2⟩ rfl rfl
  obtain rfl:k=16:=by omega
  have d2:decide (((16:Nat):Int)<16)=false:=rfl
  have hf3:vi_ s 200 16 (a2,e2)=q:=hf
  rw[hf3] at hr
  clear hf hf3 r2
  first|with_reducible refine ks [] (And.intro @z7_ @d2) ?_|refine kp (And.intro @z7_ @d2) ?_
  refine Cw.permL (M:=(br,rrO s q.1 q.2):: ([]++ [])) (List.Perm.refl _) ?_
  obtain⟨q0,hq0⟩: ∃q0,q0=q:=⟨q,rfl⟩
  rw[←hq0] at hr
  refine Cw.loopG (G:=ODrG) [36,37,38,41,12,42,43,44,45,46,47,48,49,50,51,52,53,54,10,39,40,11] (fun g=> [(10,g.v),(11,vi g.l.length)]) (fun g=>(br,rrO s g.q.1 g.q.2):: (g.D1++g.DG)) (fun g=>g.l.length≤n∧g.q.1≤s.length∧New w.heap.size g.D1∧New w.heap.size g.DG∧Gr g.D1 107 34 g.v g.l.length (g.l.map rwC).flatten∧xt_ s n q0=(g.l++ (xt_ s (n - g.l.length) g.q).1,(xt_ s (n - g.l.length) g.q).2)) (fun g=>n - g.l.length) ⟨[],q, .slice none 0 0,[],[]⟩ rfl rfl ?_ ?_
  ·exact⟨Nat.zero_le _,hq,trivial,trivial,Gr.nl,by rw[hq0];rfl⟩
  intro g j hg
  refine kv ?_
  obtain⟨l,qq,v,D1,DG⟩:=g
  simp only at hg ⊢
  obtain⟨hln,hqq,hN1,hNG,hG1,hrr⟩:=hg
  by_cases hlt:l.length<n
  ·have d3:decide ((l.length:Int)< (n:Int))=true:=decide_eq_true (by omega)
   obtain⟨a,e⟩:=qq
   have hpr:xt_ s n q0=(l++ [(wM_ s a e).1]++ (xt_ s (n - (l++ [(wM_ s a e).1]).length) (wM_ s a e).2).1,(xt_ s (n - (l++ [(wM_ s a e).1]).length) (wM_ s a e).2).2):=by
    rw[hrr,show n - l.length=(n - (l++ [(wM_ s a e).1]).length)+1 by simp;omega]
    generalize n - (l++ [(wM_ s a e).1]).length=m
    show(l++ ((wM_ s a e).1:: (xt_ s m (wM_ s a e).2).1),(xt_ s m (wM_ s a e).2).2)=_
    rw[List.append_assoc];rfl
   have hrow:wM_ s a e=(⟨vV_ (idR s a e).1,(zu_ s (idR s a e).2.1 (idR s a e).2.2 1099511627775).1,(numP s (zu_ s (idR s a e).2.1 (idR s a e).2.2 1099511627775).2).1⟩,(numP s (zu_ s (idR s a e).2.1 (idR s a e).2.2 1099511627775).2).2):=rfl
   first|with_reducible refine ks [] (And.intro @z7_ @d3) ?_|refine kp (And.intro @z7_ @d3) ?_
   refine Ow.build (.agg (rwC rw0).toArray) rfl brz ?_
   refine ko @z7_ ?_
   refine Ow.alloc rfl rfl X8_ fun b10 hb10 hw10=> ?_
   simp only[ze_,List.nil_append,List.cons_append]
   have h10:br<b10:=zk_ hb10 (by simp[keys])
   refine Ow.permL (M:=(b10, .cells (rwC rw0).toArray 107 (0,0)):: (br,rrO s a e):: (D1++DG)) (by classical exact List.perm_iff_count.2 fun a=>by simp only[List.count_append,List.count_cons,List.count_nil]<;>omega) ?_
   refine ko @z7_ ?_
   first|with_reducible refine ks [] @z7_ ?_|refine kp @z7_ ?_
   refine Ow.callM rfl rfl Tryz.call101 (by simp[keys]) (fun w' hw'=>acc_ br s a e w' hqq (by omega) (hw'.has _ _ (List.mem_cons_of_mem _ List.mem_cons_self))) ?_
   obtain⟨i,hi⟩: ∃i,i=vV_ (idR s a e).1:=⟨_,rfl⟩
   have hil: (idR s a e).1=i.l:=by rw[hi];exact(ZS_ (J8_ s a e)).symm
   have hle1:=aix_ (e:=e) hqq
   rw[←hi] at hrow
   generalize idR s a e=p at*
   obtain⟨p1,a3,e3⟩:=p
   simp only at hil hrow hle1 ⊢
   subst hil
   clear hi
   refine kn ?_
   refine ko @z7_ ?_
   first|with_reducible refine ks [] @z7_ ?_|refine kp @z7_ ?_
   refine Ow.callM rfl rfl Tryz.call98 (by simp[keys]) (fun w' hw'=>jX_ br s a3 e3 1099511627775 w' hle1 (by omega) (hw'.has _ _ (List.mem_cons_of_mem _ List.mem_cons_self))) ?_
   have hle2:=(z4_ (e:=e3) (most:=1099511627775) hle1).2
   generalize zu_ s a3 e3 1099511627775=p at*
   obtain⟨x1,a4,e4⟩:=p
   simp only at hrow hle2 ⊢
   refine kn ?_
   refine ko @z7_ ?_
   first|with_reducible refine ks [] @z7_ ?_|refine kp @z7_ ?_
   refine Ow.callM rfl rfl Tryz.call98 (by simp[keys]) (fun w' hw'=>jX_ br s a4 e4 1099511627775 w' hle2 (by omega) (hw'.has _ _ (List.mem_cons_of_mem _ List.mem_cons_self))) ?_
   have hle3:=(z4_ (e:=e4) (most:=1099511627775) hle2).2
   have hrow2:wM_ s a e=(⟨i,x1,(zu_ s a4 e4 1099511627775).1⟩,(zu_ s a4 e4 1099511627775).2):=hrow
   clear hrow
   generalize zu_ s a4 e4 1099511627775=p at*
   obtain⟨x2,a5,e5⟩:=p
   simp only at hrow2 hle3 ⊢
   rw[hrow2] at hpr
   simp only at hpr
   refine kn ?_
   refine ko @z7_ ?_
   first|with_reducible refine ks [] @z7_ ?_|refine kp @z7_ ?_
   generalize (RwL.mk i x1 x2)=r at*
   refine Ow.buildSlice (e:=107) (rwC r).toArray rfl rfl (zX_ Tryz.underlying83 Zc_ X8_ (by decide) (zi_ _)) fun ba hba hwa=> ?_
   refine ko @z7_ ?_
   refine Ow.permL (M:=D1++ ((b10, .cells (rwC r).toArray 107 (0,0)):: (br,rrO s a5 e5):: (DG++ [(ba, .cells (rwC r).toArray 107 (0,0))]))) (by classical exact List.perm_iff_count.2 fun a=>by simp only[List.count_append,List.count_cons,List.count_nil]<;>omega) ?_
   refine Ow.appendXG (e:=107) (k:=1) (new:=rwC r) (X:=D1) v rfl rfl rfl rfl Tryz.underlying83 Zc_ (by kernel_rfl) X8_ (by rw[zI_,List.size_toArray,zi_]) Tryz.underlying83 (by intro k h;cases h) hG1 (fun w' hw'=>AppX.one1 (hw'.has ba (.cells (rwC r).toArray 107 (0,0)) (by simp)) (zi_ _) (jU_ _)) (by omega) (fun B4 v4 D4 hA4 hB4 hG4 hk41 hk42 hlk4=> ?_)
   have hN4:New w.heap.size D4:=New.of_le fun q hq=>by
    rcases hk42 q hq with h|h
    ·exact hN1.le q h
    ·omega
   refine Ow.permL (M:=(br,rrO s a5 e5):: (D4++ ((b10, .cells (rwC r).toArray 107 (0,0)):: (DG++ [(ba, .cells (rwC r).toArray 107 (0,0))])))) (by classical exact List.perm_iff_count.2 fun a=>by simp only[List.count_append,List.count_cons,List.count_nil]<;>omega) ?_
   refine ko @z7_ ?_
   have hl1: (l++ [r]).length=l.length+1:=by simp
   refine Again.mk ⟨l++ [r],(a5,e5),v4,D4,(b10, .cells (rwC r).toArray 107 (0,0)):: (DG++ [(ba, .cells (rwC r).toArray 107 (0,0))])⟩ (by show n - (l++ [r]).length<n - l.length;omega) ⟨by show(l++ [r]).length≤n;omega,hle3,hN4,⟨hw10,hNG.app ⟨hwa,trivial⟩⟩,by simpa using hG4,hpr⟩ rfl (by simp only[hl1];rfl)
  ·obtain rfl:n=l.length:=by omega
   have d3:decide ((l.length:Int)< (l.length:Int))=false:=decide_eq_false (by omega)
   rw[Nat.sub_self] at hrr
   rw[hrr] at hr
   simp only[xt_,List.append_nil,Prod.mk.injEq] at hr
   obtain⟨hrs,hrl,hq5⟩:=hr
   have hqa:ra=qq.1:=congrArg Prod.fst hq5
   have hqe:re=qq.2:=congrArg Prod.snd hq5
   rw[hrs,hrl,hqa,hqe]
   clear hrs hrl hqa hqe hq5 hrr
   have hNr:New w.heap.size ((br,rrO s qq.1 qq.2):: (D1++DG)):=⟨hwr,hN1.app hNG⟩
   have hss: (s.drop 4).take 4=(s.take 8).drop 4:=by rw[List.drop_take]
   have hsl: ((s.take 8).drop 4).length<1000000:=by rw[List.length_drop,List.length_take];omega
   first|with_reducible refine ks [] (And.intro @z7_ @d3) ?_|refine kp (And.intro @z7_ @d3) ?_
   refine Ow.callFV rfl Tryz.call102 (fun w' hw'=>Wi_ br s qq.1 qq.2 w' (hw'.has _ _ List.mem_cons_self)) ?_
   by_cases he:xY_ s qq.1 qq.2=0
   ·have e1': (xY_ s qq.1 qq.2 !=0)=false:=by rw[he];rfl
    refine ko (And.intro @z7_ (And.intro @e1' (@hss))) ?_
    refine Ow.callFV rfl Tryz.call45 (fun w' hw'=>Q6_ ((s.take 8).drop 4) v l w' ((Gr.i hG1 (fun c hc=>by simp[hc])).slV hw' rfl rfl zi_)) ?_
    cases hri:qx_ ((s.take 8).drop 4) l with
    |false=>
     rw[if_neg (by simp)]
     refine ko @z7_ ?_
     first|with_reducible refine ks [] @z7_ ?_|refine kp @z7_ ?_
     refine⟨_,(ke @z7_), ?_⟩
     exact⟨Ext.of_new hNr,rfl⟩
    |true=>
     refine ko (And.intro @z7_ @hss) ?_
     refine Ow.callFV rfl Tryz.call46 (fun w' hw'=>Jy_ ((s.take 8).drop 4) v l w' ((Gr.i hG1 (fun c hc=>by simp[hc])).slV hw' rfl rfl zi_) (by omega) hsl) ?_
     by_cases hbb:qP_ (vB_ ((s.take 8).drop 4) l)=b
     ·have d5: (qP_ (vB_ ((s.take 8).drop 4) l) !=b)=false:=bne_eq_false_iff_eq.2 hbb
      rw[if_pos ⟨rfl,by omega,he,rfl,hbb⟩]
      refine ko (And.intro @z7_ @d5) ?_
      first|with_reducible refine ks [] (And.intro @z7_ @hss) ?_|refine kp (And.intro @z7_ @hss) ?_
      refine⟨_,(ke @z7_), ?_⟩
      exact⟨Ext.of_new hNr,v,rfl,Gr.i hG1 (fun c hc=>by simp[hc])⟩
     ·have d5: (qP_ (vB_ ((s.take 8).drop 4) l) !=b)=true:=bne_iff_ne.2 hbb
      rw[if_neg (fun h=>hbb h.2.2.2.2)]
      refine ko (And.intro @z7_ @d5) ?_
      first|with_reducible refine ks [] @z7_ ?_|refine kp @z7_ ?_
      refine⟨_,(ke @z7_), ?_⟩
      exact⟨Ext.of_new hNr,rfl⟩
   ·have e1': (xY_ s qq.1 qq.2 !=0)=true:=bne_iff_ne.2 he
    rw[if_neg (fun h=>he h.2.2.1)]
    refine ko (And.intro @z7_ @e1') ?_
    first|with_reducible refine ks [] @z7_ ?_|refine kp @z7_ ?_
    refine⟨_,(ke @z7_), ?_⟩
    exact⟨Ext.of_new hNr,rfl⟩
end Go.Proofs
end
section
open Go Go.Proofs Go.Sx Go.StP Go.Flo Go.Dig
namespace Go.Proofs
set_option maxRecDepth 10000
set_option maxHeartbeats 1000000
set_option linter.unusedSimpArgs false
theorem aeA_ (r:RwL) (l:List RwL) (x:IdL):QO_ (r::l) x=if(r.id.l==x.l)=true then(r,true) else QO_ l x:=by
 unfold QO_
 rw[List.find?_cons]
 cases h:r.id.l==x.l<;>rfl
theorem alh_:qg_ (kt_ Tryz.prog 107) (zK_ Tryz.prog 107) []=some (.agg (rwC rw0).toArray):=by
 rw[show kt_ Tryz.prog 107=some [(0,32),(32,1),(33,1)] from id (by kernel_rfl),X8_];simp[qg_,Sx.fillV]
set_option linter.defProp false
def qF_:=And.intro (And.intro (And.intro (@zg_) (@zf_)) (And.intro (@jd_) (@jZ_))) (And.intro (And.intro (@xm_) (@xM_)) (And.intro (@xT_) (And.intro (@zI_) (@qL_))))
theorem aeu_ (v:Value) (l:List RwL) (x:IdL) (w:World) (hv:Xt_ w v l) (hl:l.length<1000000):Rets Tryz.prog 57 #[v, .agg (a8 x.l)] w (fun v D=>v= .tuple #[.agg (rwC (QO_ l x).1).toArray, .bool (QO_ l x).2]∧D= []):=by
 obtain⟨rb,off,arr,E,fz,hr⟩:=hv.row
 have ln:=hv.len
 obtain⟨R,hR⟩: ∃R,R=QO_ l x:=⟨_,rfl⟩
 rw[←hR]
 refine Rets.enterV Tryz.func57 rfl (rs:= [.cell 4 107, .tmp 5]) Tryz.results57 Tryz.ntmps57 ?_
 refine kf ?_
 first|with_reducible refine ks [] @qF_ ?_|refine kp @qF_ ?_
 refine Ow.box rfl rfl fun b3 hb3 hw3=> ?_
 simp only[qi_,qe_,qc_,ze_,List.nil_append,List.cons_append]
 refine Ow.go rfl ?_
 simp(disch:=(first|assumption|omega| (simp only[jF_,jE_,UInt64.reduceToNat];try omega))) only[↓Sx.S0,Sx.S1,Tryz.fx,qF_,Nat.reduceAdd,Nat.reducePow,Int.reducePow,Nat.reduceBEq, ↓reduceIte,UInt8.reduceToNat,UInt16.reduceToNat,UInt32.reduceToNat,UInt64.reduceToNat,Int.reduceToNat]
 refine Ow.alloc rfl rfl X8_ fun b4 hb4 hw4=> ?_
 simp only[ze_,List.nil_append,List.cons_append]
 obtain⟨h34,-⟩:=hb4
 refine Ow.permL (M:= [(b4, .cells (rwC rw0).toArray 107 (0,0)),(b3, .cells (a8 x.l) 37 (0,0))]) (by classical exact List.perm_iff_count.2 fun a=>by simp only[List.count_append,List.count_cons,List.count_nil]<;>omega) ?_
 refine ko @qF_ ?_
 have hN:New w.heap.size [(b4,Obj.cells (rwC rw0).toArray 107 (0,0)),(b3, .cells (a8 x.l) 37 (0,0))]:=⟨hw4,hw3,trivial⟩
 first|with_reducible refine ks [] @qF_ ?_|refine kp @qF_ ?_
 refine Cw.loopG (G:=Nat) [7,8,9,10,13,14,15,16,17,18,19,20,21,22,23,5,11,12,6] (fun q=> [(5, .bool false),(6,vi q)]) (fun q=> [(b4, .cells (rwC rw0).toArray 107 (0,0)),(b3, .cells (a8 x.l) 37 (0,0))]) (fun q=>q≤l.length∧R=QO_ (l.drop q) x) (fun q=>l.length - q) 0 rfl rfl ?_ ?_
 ·exact⟨Nat.zero_le _,hR⟩
 intro k jk hk
 refine kv ?_
 obtain⟨hk,hf⟩:=hk
 by_cases hlt:k<l.length
 ·have d1:decide ((k:Int)< (l.length:Int))=true:=decide_eq_true (by omega)
  have hb:=hr.has (by omega)
  have hrl:=hr.lt (by omega)
  have hn3:b3≠rb:=by omega
  have hn4:b4≠rb:=by omega
  have ix:=hr.idx true k hlt
  have ld:=hr.load zi_ (by omega) hlt
  have ld0:=vg_ hr hlt
  rw[Nat.add_zero] at ld0
  rw[StP.drop_cons (z:=rw0) hlt,aeA_] at hf
  generalize l.getD k rw0=r at*
  first|with_reducible refine ks [] (And.intro @qF_ (And.intro @ln (@d1))) ?_|refine kp (And.intro @qF_ (And.intro @ln (@d1))) ?_
  refine Cw.regionS [b3,rb] [0,1,2,3,4,5,6] [] (by kernel_rfl) (by kernel_rfl) (by kernel_rfl) ?_
  simp only[zh_, ↓zc_, ↓zb_, ↓zn_, ↓zo_,za_]
  refine kq (And.intro @qF_ (And.intro @hb (And.intro @ix (And.intro @ld0 (@afZ_))))) ?_
  try with_reducible refine Ow.nil ?_
  cases he:r.id.l==x.l with
  |true=>
   rw[he,if_pos rfl] at hf
   rw[hf]
   first|with_reducible refine ks [] (And.intro @qF_ (And.intro @hb (And.intro @ix (@ld)))) ?_|refine kp (And.intro @qF_ (And.intro @hb (And.intro @ix (@ld)))) ?_
   refine⟨_,(ke @qF_),hN, ?_⟩
   rfl
  |false=>
   rw[he,if_neg (by simp)] at hf
   first|with_reducible refine ks [] @qF_ ?_|refine kp @qF_ ?_
   exact Again.mk (G:=Nat) (k+1) (by show l.length - (k+1)<l.length - k;omega) ⟨hlt,hf⟩ rfl rfl
 ·obtain rfl:k=l.length:=by omega
  have d1:decide ((l.length:Int)< (l.length:Int))=false:=decide_eq_false (by omega)
  rw[List.drop_length] at hf
  rw[hf]
  first|with_reducible refine ks [] (And.intro @qF_ (And.intro @ln (@d1))) ?_|refine kp (And.intro @qF_ (And.intro @ln (@d1))) ?_
  refine Ow.build (.agg (rwC rw0).toArray) rfl alh_ ?_
  refine ko @qF_ ?_
  first|with_reducible refine ks [] @qF_ ?_|refine kp @qF_ ?_
  refine⟨_,(ke @qF_),hN, ?_⟩
  rfl
structure UdG where
 k:Nat
 v:Value
 D:zd_
theorem adf_ (v0:Value) (l:List RwL) (pre:List UInt8) (w:World) (hv:Xt_ w v0 l) (hl:l.length<1000000):Rets Tryz.prog 55 #[v0,vs pre] w (XS w [] (fun v D=>GrI D 107 34 v (qD_ l pre).length ((qD_ l pre).map rwC).flatten)):=by
 obtain⟨rb,off,arr,E,fz,hr⟩:=hv.row
 have ln:=hv.len
 refine Rets.enterX Tryz.func55 rfl (rs:= [.tmp 4]) Tryz.results55 Tryz.ntmps55 (fun p hp=>by cases hp) (by simp[keys]) ?_
 refine kf ?_
 first|with_reducible refine ks [] @qF_ ?_|refine kp @qF_ ?_
 refine Cw.loopG (G:=UdG) [8,9,10,11,14,15,16,17,18,19,7,20,21,22,23,24,25,26,27,28,29,30,31,32,33,34,35,36,37,5,12,13,6] (fun q=> [(5,q.v),(6,vi q.k)]) (fun q=>q.D) (fun q=>q.k≤l.length∧Ext w [] q.D∧Gr q.D 107 34 q.v (qD_ (l.take q.k) pre).length ((qD_ (l.take q.k) pre).map rwC).flatten) (fun q=>l.length - q.k) ⟨0, .slice none 0 0,[]⟩ rfl rfl ?_ ?_
 ·exact⟨Nat.zero_le _,Ext.refl w [],Gr.nl⟩
 intro q jq hq
 refine kv ?_
 obtain⟨k,v,D⟩:=q
 simp only at hq ⊢
 obtain⟨hk,hE,hG1⟩:=hq
 by_cases hlt:k<l.length
 ·have d1:decide ((k:Int)< (l.length:Int))=true:=decide_eq_true (by omega)
  have hb:=hr.has (by omega)
  have hrl:=hr.lt (by omega)
  have rd:zy_ w D rb=some (.cells arr E fz):=by rw[qK_ (hE.new0.not hrl)];exact hb
  have ix:=hr.idx true k hlt
  have ld:=hr.load zi_ (by omega) hlt
  have ld0:=vg_ hr hlt
  rw[Nat.add_zero] at ld0
  have hus:qD_ (l.take (k+1)) pre=qD_ (l.take k) pre++ (if vC_ pre (l.getD k rw0)=true then [l.getD k rw0] else []):=by
   unfold qD_
   rw[StP.take_snoc (z:=rw0) hlt,List.filter_append,List.filter_cons,List.filter_nil]
  have hml: (qD_ (l.take k) pre).length≤k:=Nat.le_trans (List.length_filter_le _ _) (by rw[List.length_take];omega)
  generalize l.getD k rw0=r at*
  have hhl: (JD_ r.id.l).length=64:=by rw[x8_,r.id.h]
  have again:vC_ pre r=false→ ∃g:Nat,True:=fun _=>⟨0,trivial⟩
  first|with_reducible refine ks [] (And.intro @qF_ (And.intro @ln (And.intro @d1 (And.intro @ix (And.intro @rd (@ld0)))))) ?_|refine kp (And.intro @qF_ (And.intro @ln (And.intro @d1 (And.intro @ix (And.intro @rd (@ld0)))))) ?_
  refine Ow.callFV rfl Tryz.call116 (fun w' hw'=>acg_ r.id.l r.id.h w') ?_
  by_cases hp:pre.length≤64
  ·have d2:decide ((pre.length:Int)≤64)=true:=decide_eq_true (by omega)
   have d3:decide ((0:Int)≤ (pre.length:Int)∧(pre.length:Int)≤ ((JD_ r.id.l).length:Int))=true:=decide_eq_true (by omega)
   have hub:vC_ pre r=((JD_ r.id.l).take pre.length==pre):=by unfold vC_;rw[decide_eq_true (by omega),Bool.true_and]
   cases hc:vC_ pre r with
   |true=>
    have d4: ((JD_ r.id.l).take pre.length==pre)=true:=hub.symm.trans hc
    rw[hc,if_pos rfl] at hus
    refine ko (And.intro @qF_ (And.intro @d2 (And.intro @d3 (And.intro @d4 (And.intro @ix (And.intro @rd (@ld))))))) ?_
    refine Ow.buildSlice (e:=107) (rwC r).toArray rfl rfl (zX_ Tryz.underlying83 Zc_ X8_ (by decide) (zi_ _)) fun b6 hb6 hw6=> ?_
    refine ko @qF_ ?_
    refine Ow.appendG (e:=107) (k:=1) (new:=rwC r) v rfl rfl rfl Tryz.underlying83 Zc_ (by kernel_rfl) X8_ (by rw[zI_,List.size_toArray,zi_]) Tryz.underlying83 (by intro k h;cases h) hG1.app (fun w' hw'=>AppX.one1 (hw'.has _ _ (List.mem_append_right _ List.mem_cons_self)) (zi_ _) (jU_ _)) (by show(rwC _).length=1*34;rw[zi_]) (by omega) (fun v3 L3 hB3 _ hg3 hs3=> ?_)
    have hE3:=(hE.app (o:= .cells (rwC r).toArray 107 (0,0)) hw6).grew hg3
    refine ko @qF_ ?_
    refine Again.mk ⟨k+1,v3,L3⟩ (by show l.length - (k+1)<l.length - k;omega) ⟨hlt,hE3, ?_⟩ rfl rfl
    show Gr L3 107 34 v3 (qD_ (l.take (k+1)) pre).length ((qD_ (l.take (k+1)) pre).map rwC).flatten
    rw[hus,List.length_append,show [r].length=1 from rfl]
    simpa only[List.map_append,List.map_cons,List.map_nil,List.flatten_append,List.flatten_cons,List.flatten_nil,List.append_nil] using hB3
   |false=>
    have d4: ((JD_ r.id.l).take pre.length==pre)=false:=hub.symm.trans hc
    rw[hc,if_neg (by simp),List.append_nil] at hus
    refine ko (And.intro @qF_ (And.intro @d2 (And.intro @d3 (@d4)))) ?_
    refine Again.mk ⟨k+1,v,D⟩ (by show l.length - (k+1)<l.length - k;omega) ⟨hlt,hE, ?_⟩ rfl rfl
    show Gr D 107 34 v (qD_ (l.take (k+1)) pre).length ((qD_ (l.take (k+1)) pre).map rwC).flatten
    rw[hus];exact hG1
  ·have d2:decide ((pre.length:Int)≤64)=false:=decide_eq_false (by omega)
   have hc:vC_ pre r=false:=by unfold vC_;rw[decide_eq_false (by omega),Bool.false_and]
   rw[hc,if_neg (by simp),List.append_nil] at hus
   refine ko (And.intro @qF_ @d2) ?_
   refine Again.mk ⟨k+1,v,D⟩ (by show l.length - (k+1)<l.length - k;omega) ⟨hlt,hE, ?_⟩ rfl rfl
   show Gr D 107 34 v (qD_ (l.take (k+1)) pre).length ((qD_ (l.take (k+1)) pre).map rwC).flatten
   rw[hus];exact hG1
 ·obtain rfl:k=l.length:=by omega
  have d1:decide ((l.length:Int)< (l.length:Int))=false:=decide_eq_false (by omega)
  rw[List.take_length] at hG1
  first|with_reducible refine ks [] (And.intro @qF_ (And.intro @ln (@d1))) ?_|refine kp (And.intro @qF_ (And.intro @ln (@d1))) ?_
  refine⟨_,(ke @qF_), ?_⟩
  exact⟨hE,Gr.i hG1 fun p hp=>hp⟩
theorem aeZ_ (r:RwL): (!((r.id.l==r.id.l)&& (r.place==r.place)&& (r.spot==r.spot)))=false:=by simp
theorem KO_ (va vb:Value) (l:List RwL) (w:World) (hva:Xt_ w va l) (hvb:Xt_ w vb l) (hl:l.length<1000000):Rets Tryz.prog 54 #[va,vb] w (fun v D=>v= .bool true∧D= []):=by
 have lna:=hva.len
 have lnb:=hvb.len
 have e1: ((l.length:Int) !=(l.length:Int))=false:=bne_self_eq_false _
 refine Rets.enterV Tryz.func54 rfl (rs:= [.tmp 4]) Tryz.results54 Tryz.ntmps54 ?_
 refine kf ?_
 first|with_reducible refine ks [1000004] (And.intro @qF_ (And.intro @lna (And.intro @lnb (@e1)))) ?_|refine kp (And.intro @qF_ (And.intro @lna (And.intro @lnb (@e1)))) ?_
 refine Ow.callC rfl rfl Tryz.call115 (fun w' hw'=>afm_ vb l w' (hvb.oldN hw' trivial) hl) (fun B1 v1 D1 hA1 hB1 hN1 hS1=> ?_)
 have hD1:New w.heap.size D1:=hN1.mono hB1
 rw[List.nil_append]
 refine ko @qF_ ?_
 refine Cw.rebaseV hD1 (by rfl) fun w1 hw1=> ?_
 have hva1:Xt_ w1 va l:=hva.oldN hw1 hD1
 have hv1:Xt_ w1 v1 l:=hS1.slV hw1 rfl rfl zi_
 obtain⟨ra,oa,aa,Ea,fa,hra⟩:=hva1.row
 obtain⟨rb,ob,ab,Eb,fb,hrb⟩:=hv1.row
 clear hw1 hS1
 first|with_reducible refine ks [] @qF_ ?_|refine kp @qF_ ?_
 refine Cw.loopG (G:=Nat) [14,15,16,17,20,21,22,23,24,25,26,27,28,4,18,19,6] (fun q=> [(4, .bool false),(6,vi q)]) (fun q=> []) (fun q=>q≤l.length) (fun q=>l.length - q) 0 rfl rfl ?_ ?_
 ·exact Nat.zero_le _
 intro k jk hk
 refine kv ?_
 by_cases hlt:k<l.length
 ·have d1:decide ((k:Int)< (l.length:Int))=true:=decide_eq_true (by omega)
  have ba:=hra.has (by omega)
  have bb:=hrb.has (by omega)
  have ixa:=hra.idx true k hlt
  have ixb:=hrb.idx true k hlt
  have lda:=hra.load zi_ (by omega) hlt
  have ldb:=hrb.load zi_ (by omega) hlt
  have nr:=neRw (l.getD k rw0) (l.getD k rw0)
  rw[aeZ_] at nr
  first|with_reducible refine ks [] (And.intro @qF_ (And.intro @lna (@d1))) ?_|refine kp (And.intro @qF_ (And.intro @lna (@d1))) ?_
  refine Cw.regionS [ra,rb] [0,1,2,4,5,6,3,7,8] [] (by kernel_rfl) (by kernel_rfl) (by kernel_rfl) ?_
  simp only[zh_, ↓zc_, ↓zb_, ↓zn_, ↓zo_,za_]
  refine kq (And.intro @qF_ (And.intro @ba (And.intro @bb (And.intro @ixa (And.intro @ixb (And.intro @lda (And.intro @ldb (@nr)))))))) ?_
  try with_reducible refine Ow.nil ?_
  first|with_reducible refine ks [] @qF_ ?_|refine kp @qF_ ?_
  exact Again.mk (G:=Nat) (k+1) (by show l.length - (k+1)<l.length - k;omega) hlt rfl rfl
 ·obtain rfl:k=l.length:=by omega
  have d1:decide ((l.length:Int)< (l.length:Int))=false:=decide_eq_false (by omega)
  first|with_reducible refine ks [] (And.intro @qF_ (And.intro @lna (@d1))) ?_|refine kp (And.intro @qF_ (And.intro @lna (@d1))) ?_
  refine⟨_,(ke @qF_),trivial, ?_⟩
  rfl
end Go.Proofs
end
section
open Go Go.Proofs Go.Sx Go.StP Go.Flo Go.Dig
namespace Go.Proofs
set_option maxRecDepth 10000
set_option maxHeartbeats 1000000
set_option linter.unusedSimpArgs false
structure IfG where
 k:Nat
 DG:zd_
set_option linter.defProp false
def arm_:=And.intro (And.intro (And.intro (@zg_) (@zf_)) (And.intro (@Sx.tup2_0) (And.intro (@Sx.tup2_1) (@zI_)))) (And.intro (And.intro (@jZ_) (And.intro (@xm_) (@xM_))) (And.intro (@xT_) (And.intro (@qL_) (@jd_))))
end Go.Proofs
end
section
open Go Go.Proofs Go.Sx Go.StP Go.Flo Go.Dig
namespace Go.Proofs
set_option maxRecDepth 10000
set_option maxHeartbeats 1000000
set_option linter.unusedSimpArgs false
theorem alZ_ (a b:Bool):qJ_ Tryz.prog .neq 4 (.bool a) (.bool b)=some (.bool (a !=b)):=by cases a<;>cases b<;>rfl
structure IoG where
 k:Nat
 DG:zd_
theorem ajS_:qg_ (kt_ Tryz.prog 104) (zK_ Tryz.prog 104) []=some (.agg (rwC rw0).toArray):=by
 rw[show kt_ Tryz.prog 104=some [(0,32),(32,1),(33,1)] from id (by kernel_rfl),Q9_];simp[qg_,Sx.fillV]
theorem anT_ (a b c:Value): #[a,b,c][0]? =some a:=rfl
theorem aol_ (a b c:Value): #[a,b,c][1]? =some b:=rfl
theorem aon_ (a b c:Value): #[a,b,c][2]? =some c:=rfl
set_option linter.defProp false
def zN_:=And.intro (And.intro (And.intro (@zg_) (And.intro (@zf_) (@Sx.tup2_0))) (And.intro (And.intro (@Sx.tup2_1) (@anT_)) (And.intro (@aol_) (@aon_)))) (And.intro (And.intro (And.intro (@aow_) (@alO_)) (And.intro (@zI_) (@jZ_))) (And.intro (And.intro (@xm_) (@xM_)) (And.intro (@xT_) (@qL_))))
theorem JE_ (b:List UInt8) (v1:Value) (L:List IdL) (pre:List UInt8) (w:World) (hG:GlobE w) (hC:GlobC w) (hv:SlV 32 wR_ id0 w v1 L):Rets Tryz.prog 9 #[vs b,v1,vs pre] w (fun v D=>v= .bool true∧D= []):=by
 have ln:=hv.len
 refine Rets.enterV Tryz.func9 rfl (rs:= [.tmp 6]) Tryz.results9 Tryz.ntmps9 ?_
 refine kf ?_
 first|with_reducible refine ks [1000007,16] @zN_ ?_|refine kp @zN_ ?_
 refine Ow.callFV rfl Tryz.call41 (fun w' hw'=>qv_ w' (hG.new hw' trivial) (hC.newP hw' trivial)) ?_
 refine ko @zN_ ?_
 by_cases hbl:8000<b.length
 ·have d1:decide ((8000:Int)< (b.length:Int))=true:=decide_eq_true (by omega)
  first|with_reducible refine ks [] (And.intro @zN_ (And.intro @ln (@d1))) ?_|refine kp (And.intro @zN_ (And.intro @ln (@d1))) ?_
  refine Ow.callFV rfl Tryz.call41 (fun w' hw'=>qv_ w' (hG.new hw' trivial) (hC.newP hw' trivial)) ?_
  refine ko @zN_ ?_
  first|with_reducible refine ks [] @zN_ ?_|refine kp @zN_ ?_
  refine⟨_,(ke @zN_),trivial, ?_⟩
  rfl
 have d1:decide ((8000:Int)< (b.length:Int))=false:=decide_eq_false (by omega)
 by_cases hll:40<L.length
 ·have d2:decide ((40:Int)< (L.length:Int))=true:=decide_eq_true (by omega)
  first|with_reducible refine ks [] (And.intro @zN_ (And.intro @ln (And.intro @d1 (@d2)))) ?_|refine kp (And.intro @zN_ (And.intro @ln (And.intro @d1 (@d2)))) ?_
  refine Ow.callFV rfl Tryz.call41 (fun w' hw'=>qv_ w' (hG.new hw' trivial) (hC.newP hw' trivial)) ?_
  refine ko @zN_ ?_
  first|with_reducible refine ks [] @zN_ ?_|refine kp @zN_ ?_
  refine⟨_,(ke @zN_),trivial, ?_⟩
  rfl
 have d2:decide ((40:Int)< (L.length:Int))=false:=decide_eq_false (by omega)
 by_cases hpl:100<pre.length
 ·have d3:decide ((100:Int)< (pre.length:Int))=true:=decide_eq_true (by omega)
  first|with_reducible refine ks [] (And.intro @zN_ (And.intro @ln (And.intro @d1 (And.intro @d2 (@d3))))) ?_|refine kp (And.intro @zN_ (And.intro @ln (And.intro @d1 (And.intro @d2 (@d3))))) ?_
  refine Ow.callFV rfl Tryz.call41 (fun w' hw'=>qv_ w' (hG.new hw' trivial) (hC.newP hw' trivial)) ?_
  refine ko @zN_ ?_
  first|with_reducible refine ks [] @zN_ ?_|refine kp @zN_ ?_
  refine⟨_,(ke @zN_),trivial, ?_⟩
  rfl
 have d3:decide ((100:Int)< (pre.length:Int))=false:=decide_eq_false (by omega)
 first|with_reducible refine ks [] (And.intro @zN_ (And.intro @ln (And.intro @d1 (And.intro @d2 (@d3))))) ?_|refine kp (And.intro @zN_ (And.intro @ln (And.intro @d1 (And.intro @d2 (@d3))))) ?_
 refine Ow.callC rfl rfl Tryz.call49 (fun w' hw'=>Km_ b w' (hC.newP hw' trivial) (by omega)) (fun B1 v2 D1 hA1 hB1 hN1 hS1=> ?_)
 have hD1:New w.heap.size D1:=hN1.mono hB1
 rw[List.nil_append]
 unfold adQ_ at hS1
 have z1:decide ((0:Int)< ((0:Nat):Int))=false:=rfl
 have z2: (([]:List UInt8) != [])=false:=rfl
 cases hop:QP_ b with
 |none=>
  rw[hop] at hS1
  have hS1':v2= .tuple #[.pointer none,vi 2]:=hS1
  subst hS1'
  refine ko @zN_ ?_
  first|with_reducible refine ks [] @zN_ ?_|refine kp @zN_ ?_
  refine Ow.callC rfl rfl Tryz.call50 (fun w' hw'=>QA_ b w' (by omega)) (fun B2 v3 D2 hA2 hB2 hN2 hS2=> ?_)
  have hD2:=hD1.app (hN2.mono hB2)
  unfold adD_ at hS2
  rw[hop] at hS2
  have hS2':v3= .tuple #[vs [], .slice none 0 0, .bool false]:=hS2
  subst hS2'
  refine ko @zN_ ?_
  first|with_reducible refine ks [] @zN_ ?_|refine kp @zN_ ?_
  refine Ow.callFV rfl Tryz.call51 (fun w' hw'=>Xk_ w') ?_
  refine ko (And.intro @zN_ (And.intro @wY_ (@z1))) ?_
  refine Ow.callFV rfl Tryz.call52 (fun w' hw'=>aep_ w') ?_
  refine ko (And.intro @zN_ @z2) ?_
  refine Ow.callFV rfl Tryz.call53 (fun w' hw'=>Kn_ pre w') ?_
  refine ko (And.intro @zN_ (And.intro @wY_ (@z1))) ?_
  refine Ow.callFV rfl Tryz.call41 (fun w' hw'=>qv_ w' (hG.new hw' hD2) (hC.newP hw' hD2)) ?_
  have e1: ((2:Int)==2)=true:=rfl
  refine ko (And.intro @zN_ @e1) ?_
  first|with_reducible refine ks [] @zN_ ?_|refine kp @zN_ ?_
  refine⟨_,(ke @zN_),hD2, ?_⟩
  rfl
 |some q=>
  obtain⟨s,l⟩:=q
  rw[hop] at hS1
  obtain⟨bi,rfl,hI⟩:=hS1
  simp only at hI
  obtain⟨hri,-⟩:=openI_iff.1 hop
  obtain⟨hok,-,hl2⟩:=ke_ hri
  refine ko @zN_ ?_
  first|with_reducible refine ks [] @zN_ ?_|refine kp @zN_ ?_
  refine Ow.callC rfl rfl Tryz.call50 (fun w' hw'=>QA_ b w' (by omega)) (fun B2 v3 D2 hA2 hB2 hN2 hS2=> ?_)
  have hD2:=hD1.app (hN2.mono hB2)
  unfold adD_ at hS2
  rw[hop] at hS2
  obtain⟨x,rfl,hg⟩:=hS2
  simp only at hg
  refine ko @zN_ ?_
  refine Cw.rebaseV hD2 (by rfl) fun w1 hw1=> ?_
  have hG1:=hG.new hw1 hD2
  have hC1:=hC.newP hw1 hD2
  have hI1:=(hI.mono (fun q hq=>by simp[hq])).inW hw1
  have hx1:Xt_ w1 x l:=(hg.mono (fun q hq=>by simp[hq])).slV hw1 rfl rfl zi_
  have hv1:=hv.oldN hw1 hD2
  clear hw1 hI hg hD2 hD1 hN1 hN2 hA1 hA2 hG hC hv hop
  obtain⟨rb,off,arr,E,fz,hr⟩:=hv1.row
  have e3: ((0:Int) !=0)=false:=rfl
  have e4: (s !=s)=false:=bne_self_eq_false s
  first|with_reducible refine ks [] @zN_ ?_|refine kp @zN_ ?_
  refine Ow.callFV rfl Tryz.call51 (fun w' hw'=>Xk_ w') ?_
  refine ko (And.intro @zN_ (And.intro @wY_ (@z1))) ?_
  refine Ow.callFV rfl Tryz.call52 (fun w' hw'=>aep_ w') ?_
  refine ko (And.intro @zN_ @z2) ?_
  refine Ow.callFV rfl Tryz.call53 (fun w' hw'=>Kn_ pre w') ?_
  refine ko (And.intro @zN_ (And.intro @wY_ (And.intro @z1 (@e3)))) ?_
  refine Ow.callFV rfl Tryz.call52 (fun w' hw'=>agG_ bi s l w' (hI1.old hw' trivial)) ?_
  refine ko (And.intro @zN_ @e4) ?_
  refine Ow.callC rfl rfl Tryz.call51 (fun w' hw'=>Qe_ bi s l w' (hI1.old hw' trivial) (by omega)) (fun B3 v4 D3 hA3 hB3 hN3 hS3=> ?_)
  have hD3:New w1.heap.size D3:=hN3.mono hB3
  rw[List.nil_append]
  refine ko @zN_ ?_
  refine Ow.callFV rfl Tryz.call54 (fun w' hw'=>KO_ v4 x l w' (hS3.slV hw' rfl rfl zi_) (hx1.oldN hw' hD3) (by omega)) ?_
  refine ko @zN_ ?_
  refine Ow.callC rfl rfl Tryz.call53 (fun w' hw'=>Jo_ bi s l pre w' (hI1.old hw' hD3) (by omega)) (fun B4 v5 D4 hA4 hB4 hN4 hS4=> ?_)
  have hD4:=hD3.app (hN4.mono hB4)
  refine ko @zN_ ?_
  refine Ow.callC rfl rfl Tryz.call55 (fun w' hw'=>adf_ x l pre w' (hx1.oldN hw' hD4) (by omega)) (fun B5 v6 D5 hA5 hB5 hN5 hS5=> ?_)
  have hD5:=hD4.app (hN5.mono hB5)
  have hul: (qD_ l pre).length<1000000:=Nat.lt_of_le_of_lt (List.length_filter_le _ _) (by omega)
  refine ko @zN_ ?_
  refine Ow.callFV rfl Tryz.call54 (fun w' hw'=>KO_ v5 v6 (qD_ l pre) w' ((hS4.mono (fun q hq=>by simp[hq])).slV hw' rfl rfl zi_) ((hS5.mono (fun q hq=>by simp[hq])).slV hw' rfl rfl zi_) hul) ?_
  refine ko @zN_ ?_
  refine Cw.loopG (G:=IoG) [103,104,105,106,110,111,112,113,114,115,109,116,117,14,15,119,120,121,122,123,124,118,125,126,16,17,128,129,130,131,132,133,127,134,135,18,19,136,137,138,139,140,141,142,143,144,145,146,147,148,149,150,151,152,153,154,155,156,157,6,107,108,13] (fun g=> [(6, .bool false),(13,vi g.k)]) (fun g=>g.DG) (fun g=>g.k≤L.length∧New w1.heap.size g.DG) (fun g=>L.length - g.k) ⟨0,D3++D4++D5⟩ rfl rfl ?_ ?_
  ·exact⟨Nat.zero_le _,hD5⟩
  intro g j hg
  refine kv ?_
  obtain⟨k,DG⟩:=g
  simp only at hg ⊢
  obtain⟨hk,hN⟩:=hg
  by_cases hlt:k<L.length
  ·have d5:decide ((k:Int)< (L.length:Int))=true:=decide_eq_true (by omega)
   have hb:=hr.has (by omega)
   have hrl:=hr.lt (by omega)
   have ix:=hr.idx true k hlt
   have ld:=adJ_ hr hlt
   have rd: ∀X,New w1.heap.size X→zy_ w1 X rb=some (.cells arr E fz):=fun X hX=>by rw[qK_ (hX.not hrl)];exact hb
   have rd1:=rd _ hN
   generalize L.getD k id0=i at*
   first|with_reducible refine ks [16] (And.intro @zN_ (And.intro @ln (And.intro @d5 (And.intro @ix (And.intro @rd1 (@ld)))))) ?_|refine kp (And.intro @zN_ (And.intro @ln (And.intro @d5 (And.intro @ix (And.intro @rd1 (@ld)))))) ?_
   refine Ow.callFV rfl Tryz.call56 (fun w' hw'=>afl_ bi s l i w' (hI1.old hw' hN) hok (by omega)) ?_
   generalize hfr:QO_ l i=fr
   obtain⟨r,ok⟩:=fr
   refine ko @zN_ ?_
   refine Ow.alloc rfl rfl Q9_ fun b14 hb14 hw14=> ?_
   simp only[ze_,List.nil_append,List.cons_append]
   refine Ow.permL (M:=(b14, .cells (rwC rw0).toArray 104 (0,0))::DG) (by classical exact List.perm_iff_count.2 fun a=>by simp only[List.count_append,List.count_cons,List.count_nil]<;>omega) ?_
   have hN14:New w1.heap.size ((b14,Obj.cells (rwC r).toArray 104 (0,0))::DG):=⟨hw14,hN⟩
   have rd2:=rd _ hN14
   refine ko (And.intro @zN_ (And.intro @ix (And.intro @rd2 (@ld)))) ?_
   refine Ow.callFV rfl Tryz.call57 (fun w' hw'=>aeu_ x l i w' (hx1.oldN hw' hN14) (by omega)) ?_
   rw[hfr]
   refine ko @zN_ ?_
   refine Ow.alloc rfl rfl X8_ fun b16 hb16 hw16=> ?_
   simp only[ze_,List.nil_append,List.cons_append]
   have h1416:b14<b16:=zk_ hb16 (by simp[keys])
   refine Ow.permL (M:=(b16, .cells (rwC rw0).toArray 107 (0,0)):: (b14, .cells (rwC r).toArray 104 (0,0))::DG) (by classical exact List.perm_iff_count.2 fun a=>by simp only[List.count_append,List.count_cons,List.count_nil]<;>omega) ?_
   have hN16:New w1.heap.size ((b16,Obj.cells (rwC r).toArray 107 (0,0)):: (b14,Obj.cells (rwC r).toArray 104 (0,0))::DG):=⟨hw16,hN14⟩
   have rd3:=rd _ hN16
   refine ko (And.intro @zN_ (And.intro @ix (And.intro @rd3 (@ld)))) ?_
   refine Ow.callFV rfl Tryz.call56 (fun w' hw'=>ahI_ i w') ?_
   refine ko @zN_ ?_
   refine Ow.alloc rfl rfl Q9_ fun b18 hb18 hw18=> ?_
   simp only[ze_,List.nil_append,List.cons_append]
   have h1418:b14<b18:=zk_ hb18 (by simp[keys])
   have h1618:b16<b18:=zk_ hb18 (by simp[keys])
   refine Ow.permL (M:=(b18, .cells (rwC rw0).toArray 104 (0,0)):: (b16, .cells (rwC r).toArray 107 (0,0)):: (b14, .cells (rwC r).toArray 104 (0,0))::DG) (by classical exact List.perm_iff_count.2 fun a=>by simp only[List.count_append,List.count_cons,List.count_nil]<;>omega) ?_
   have nr:=neRw r r
   have nz:=neRw rw0 rw0
   rw[ah4_] at nr nz
   have eb: (ok !=ok)=false:=bne_self_eq_false ok
   refine ko (And.intro @zN_ (And.intro @alZ_ (@eb))) ?_
   refine Ow.build (.agg (rwC r).toArray) rfl (VP_ r) ?_
   refine ko (And.intro @zN_ @nr) ?_
   refine Ow.build (.agg (rwC rw0).toArray) rfl ajS_ ?_
   refine ko (And.intro @zN_ @nz) ?_
   first|with_reducible refine ks [] @zN_ ?_|refine kp @zN_ ?_
   exact Again.mk ⟨k+1,(b18, .cells (rwC rw0).toArray 104 (0,0)):: (b16, .cells (rwC r).toArray 107 (0,0)):: (b14, .cells (rwC r).toArray 104 (0,0))::DG⟩ (by show L.length - (k+1)<L.length - k;omega) ⟨hlt,hw18,hN16⟩ rfl rfl
  ·obtain rfl:k=L.length:=by omega
   have d5:decide ((L.length:Int)< (L.length:Int))=false:=decide_eq_false (by omega)
   first|with_reducible refine ks [] (And.intro @zN_ (And.intro @ln (@d5))) ?_|refine kp (And.intro @zN_ (And.intro @ln (@d5))) ?_
   refine Ow.callFV rfl Tryz.call41 (fun w' hw'=>qv_ w' (hG1.new hw' hN) (hC1.newP hw' hN)) ?_
   refine ko @zN_ ?_
   first|with_reducible refine ks [] @zN_ ?_|refine kp @zN_ ?_
   refine⟨_,(ke @zN_),hN, ?_⟩
   rfl
end Go.Proofs
end
