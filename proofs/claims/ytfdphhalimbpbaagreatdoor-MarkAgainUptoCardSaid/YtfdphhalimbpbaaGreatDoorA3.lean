/-
  Part 3 of the walk: contracts of the functions that the law reaches, and the calculus they stand on.
  No conditions.
-/
import Derived.Test.YtfdphhalimbpbaaGreatDoorA2
import Derived.Lib.Small
import Derived.Lib.Walk
import Derived.Lib.Bytealg
import Derived.Sort.Grow
import Derived.Deep.Draws
import Derived.Deep.QuietTactic
import Derived.Shelf.SlSortCmp.NoneTotal
import Derived.Shelf.SlLaysF0
import Derived.Ground.SlsfProg
section
open Go Go.Proofs Go.Sx Go.StP
namespace Go.Proofs
set_option maxRecDepth 10000
set_option maxHeartbeats 400000
set_option linter.unusedSimpArgs false
structure ChildL where
 id:IdL
 kind:Int
def zm_ (r:ChildL):List Value:=r.id.l.map v8++ ([vi r.kind])
def chd0:ChildL:=⟨id0,0⟩
theorem zo_ (r:ChildL): (zm_ r).length=33:=by simp[zm_,r.id.h]
theorem zG_ (r:ChildL):Value.cells (.agg (zm_ r).toArray)=(zm_ r).toArray:=ze_ _
theorem qe_ (r:ChildL): (zm_ r).all Value.oneCell'=true:=by
 unfold zm_
 simp only[List.all_append,List.all_cons,List.all_nil,Qf_,Bool.and_true,Bool.true_and]
 rfl
theorem jF_:z8_ Tryz.prog 59=some (.agg (zm_ chd0).toArray):=id (by kernel_rfl)
theorem q1_:zU_ Tryz.prog 59=some (true,33):=id (by kernel_rfl)
theorem afU_ (r:ChildL):zm_ r=([]:List Value)++ ((r.id.l.map v8)++ ([vi r.kind])):=by
 unfold zm_;simp only[List.append_assoc,List.nil_append,List.append_nil]
theorem akD_ (r:ChildL):Sx.partV (true,32) (zm_ r).toArray 0=some (Value.agg (a8 r.id.l)):=by
 rw[afU_,ai0_ _ _ _ (by simp) (by simp[r.id.h])];rfl
theorem xe_ (r:ChildL) (E:TypeId) (fz:Nat×Nat):zA_ (some (true,32)) (some (.cells (zm_ r).toArray E fz)) 0=some (Value.agg (a8 r.id.l)):=by
 rw[afU_,xV_ _ _ _ E fz (by simp) (by simp[r.id.h])];rfl
theorem ag3_ (r:ChildL):zm_ r=((r.id.l.map v8))++ (([vi r.kind])++ (([]:List Value))):=by
 unfold zm_;simp only[List.append_assoc,List.nil_append,List.append_nil]
theorem akx_ (r:ChildL):Sx.partV (false,1) (zm_ r).toArray 32=some (vi r.kind):=by
 rw[ag3_];exact akj_ _ _ _ (by simp[r.id.h])
theorem j7_ (r:ChildL) (n:Nat) (E:TypeId) (fz:Nat×Nat):zA_ (some (false,n)) (some (.cells (zm_ r).toArray E fz)) 32=some (vi r.kind):=by
 rw[ag3_];exact xR_ _ _ _ n E fz (by simp[r.id.h])
theorem xM_ (r:ChildL) (E:TypeId) (fz:Nat×Nat):zA_ (some (true,33)) (some (.cells (zm_ r).toArray E fz)) 0=some (.agg (zm_ r).toArray):=wf_ _ E fz 33 (by rw[List.size_toArray,zo_])
theorem afE_ (old:Array Value) (r:ChildL) (a:Bool) (E:TypeId) (h:old.size=33):zs_ (some (a,33)) (some (.cells old E (0,0))) 0 (.agg (zm_ r).toArray)=some (.cells (zm_ r).toArray E (0,0)):=wM_ _ a old E (zo_ r) (qe_ r) h
theorem jG_ (r r':ChildL) (a:Bool) (E:TypeId):zs_ (some (a,33)) (some (.cells (zm_ r').toArray E (0,0))) 0 (.agg (zm_ r).toArray)=some (.cells (zm_ r).toArray E (0,0)):=afE_ _ r a E (by rw[List.size_toArray,zo_])
theorem amk_ {w:World} {v:Value} {l:List ChildL} {b off:Nat} {arr:Array Value} {E:TypeId} {fz:Nat×Nat} (h:RowS 33 zm_ chd0 w v l b off arr E fz) {k:Nat} (hk:k<l.length):zA_ (some (true,33)) (some (.cells arr E fz)) (off+k*33)=some (.agg (zm_ (l.getD k chd0)).toArray):=RowS.load h zo_ (by omega) hk
theorem aj0_:Tryz.prog.stoodInHeld 59=false:=by kernel_rfl
theorem adx_:Tryz.prog.eqGuardType Tryz.prog.depth 59=false:=by kernel_rfl
theorem afV_ (r r':ChildL):eqD Tryz.prog 8 59 (.agg (zm_ r).toArray) (.agg (zm_ r').toArray)=some ((r.id.l==r'.id.l)&& (r.kind==r'.kind)):=by
 have hd: ∀ (a b:IdL),eqD Tryz.prog 7 24 (.agg (a8 a.l)) (.agg (a8 b.l))=some (a.l==b.l):=fun a b=>ads_ (d:=5) Tryz.underlying24 Tryz.underlying5 Tryz.ag5 _ _ a.h b.h
 have hi: ∀ (a b:Int),eqD Tryz.prog 7 3 (vi a) (vi b)=some (a==b):=by
  intro a b;unfold eqD;rw[Tryz.underlying3];rfl
 have agd:zU_ Tryz.prog 24=some (true,32):=id (by kernel_rfl)
 have agi:zU_ Tryz.prog 3=some (false,1):=id (by kernel_rfl)
 unfold eqD
 rw[Tryz.underlying59]
 simp only
 rw[aj0_]
 simp only[Bool.false_eq_true, ↓reduceIte,kW_,vj_,agd,agi,akD_,akx_,hd,hi]
 cases(r.id.l==r'.id.l)<;>cases(r.kind==r'.kind)<;>simp
theorem aok_ (r r':ChildL):q9_ Tryz.prog .eql 59 (.agg (zm_ r).toArray) (.agg (zm_ r').toArray)=some (.bool ((r.id.l==r'.id.l)&& (r.kind==r'.kind))):=by
 unfold q9_ eqX;rw[adx_];simp[qX_,afV_]
theorem an8_ (r r':ChildL):q9_ Tryz.prog .neq 59 (.agg (zm_ r).toArray) (.agg (zm_ r').toArray)=some (.bool (!((r.id.l==r'.id.l)&& (r.kind==r'.kind)))):=by
 unfold q9_ eqX;rw[adx_];simp[qX_,afV_]
theorem k1_ (r:ChildL):jn_ (wA_ Tryz.prog 59) (z8_ Tryz.prog 59) [(0,Value.agg (a8 r.id.l)),(1,vi r.kind)]=some (.agg (zm_ r).toArray):=by
 have hp:wA_ Tryz.prog 59=some [(0,32),(32,1)]:=id (by kernel_rfl)
 rw[hp,jF_]
 have e0: (zm_ chd0).toArray=(([]:List Value)++ ((chd0.id.l.map v8)++ ([vi chd0.kind]))).toArray:=by congr 1<;>simp only[zm_,List.append_assoc,List.nil_append,List.append_nil]
 have q0:xA_ (([]:List Value)++ ((chd0.id.l.map v8)++ ([vi chd0.kind]))).toArray 0 (r.id.l.map v8)=(([]:List Value)++ ((r.id.l.map v8)++ ([vi chd0.kind]))).toArray:=ZW_ _ _ _ _ (by simp) (by simp[chd0.id.h,r.id.h])
 have s0: (([]:List Value)++ ((chd0.id.l.map v8)++ ([vi chd0.kind]))).toArray.size=33:=by simp[r.id.h,chd0.id.h]
 have z0: (Value.cells (Value.agg (a8 r.id.l))).toList=r.id.l.map v8:=by rw[ze_];rfl
 have y0: (Value.cells (Value.agg (a8 r.id.l))).size=32:=by rw[←Array.length_toList,z0];simp[r.id.h]
 have e1: (([]:List Value)++ ((r.id.l.map v8)++ ([vi chd0.kind]))).toArray=(((r.id.l.map v8))++ (([vi chd0.kind])++ (([]:List Value)))).toArray:=by congr 1<;>simp only[zm_,List.append_assoc,List.nil_append,List.append_nil]
 have q1:xA_ (((r.id.l.map v8))++ (([vi chd0.kind])++ (([]:List Value)))).toArray 32 ([vi r.kind])=(((r.id.l.map v8))++ (([vi r.kind])++ (([]:List Value)))).toArray:=ZW_ _ _ _ _ (by simp[r.id.h]) (rfl)
 have s1: (((r.id.l.map v8))++ (([vi chd0.kind])++ (([]:List Value)))).toArray.size=33:=by simp[r.id.h,chd0.id.h]
 have z1: (Value.cells (vi r.kind)).toList= [vi r.kind]:=by rfl
 have y1: (Value.cells (vi r.kind)).size=1:=by rw[←Array.length_toList,z1];simp
 have e2: (((r.id.l.map v8))++ (([vi r.kind])++ (([]:List Value)))).toArray=(zm_ r).toArray:=by congr 1<;>simp only[zm_,List.append_assoc,List.nil_append,List.append_nil]
 simp only[jn_]
 rw[e0]
 unfold Sx.fillV
 simp only[List.getElem?_cons_zero,List.getElem?_cons_succ,z0,y0]
 rw[if_pos ⟨trivial,by rw[s0];decide⟩,q0]
 rw[e1]
 unfold Sx.fillV
 simp only[List.getElem?_cons_zero,List.getElem?_cons_succ,z1,y1]
 rw[if_pos ⟨trivial,by rw[s1];decide⟩,q1]
 rw[e2];rfl
def jN_ (e:EntL):ChildL:=⟨e.id,e.kind⟩
def q3_ (i:IdL):ChildL:=⟨i,3⟩
def jj_ (k:Int) (t:List UInt8):List ChildL:=
 if xS_ k t then(if k=2 then(qS_ t).1.map jN_ else if k=3 then⟨(kk_ t).1.tree,2⟩:: (kk_ t).1.par.map q3_ else []) else []
theorem Gr.rows {α:Type} {L:zi_} {E:TypeId} {m:Nat} {v:Value} {enc:α→List Value} {l:List α} (h:Gr L E m v l.length (l.map enc).flatten) (h0:0<l.length): ∃b c rest,v=vsl b 0 l.length c∧Sx.look L b=some (Qe_ enc E rest l):=by
 rcases h with h| ⟨h,-⟩
 ·rcases h.inv with⟨-,h,-⟩ | ⟨b,c,rest,hv,hl,-⟩
  ·omega
  ·exact⟨b,c,rest,hv,hl⟩
 ·omega
abbrev idRO (rest:List Value) (l:List IdL):Obj:=Qe_ z4_ 24 rest l
theorem aat_ {rest:List Value} {l:List IdL} (k:Nat) (hk:k<l.length):zA_ (some (true,32)) (some (idRO rest l)) (k*32)=some (.agg (a8 (l.getD k id0).l)):=by
 have:=vr_ (z:=id0) (E:=24) (rest:=rest) (ki_) k hk
 rw[this,←ZM_]
def SepK (b:Nat) (D E:zi_):Prop:= ∀c,c∈keys E→b<c∧ ∀d,d∈keys D→d<c
theorem SepK.nil {b:Nat} {D:zi_}:SepK b D []:=fun c hc=>by cases hc
theorem SepK.cons {b c:Nat} {o:Obj} {D E:zi_} (h:SepK b D E) (h1:b<c) (h2: ∀d,d∈keys D→d<c):SepK b D ((c,o)::E):=fun x hx=>by
 simp only[keys,List.map_cons,List.mem_cons] at hx
 rcases hx with rfl|hx
 ·exact⟨h1,h2⟩
 ·exact h x hx
theorem SepK.app {b:Nat} {D E F:zi_} (h:SepK b D E) (h2:SepK b D F):SepK b D (E++F):=fun x hx=>by
 rw[zd_,List.mem_append] at hx
 rcases hx with hx|hx
 ·exact h x hx
 ·exact h2 x hx
theorem SepK.grow {b B:Nat} {D E F:zi_} (h:SepK b D E) (hk: ∀c,c∈keys F→c∈keys E∨B≤c) (h1:b<B) (h2: ∀d,d∈keys D→d<B):SepK b D F:=fun x hx=>by
 rcases hk x hx with h'|h'
 ·exact h x h'
 ·exact⟨by omega,fun d hd=>by have:=h2 d hd;omega⟩
theorem SepK.look {b:Nat} {D E:zi_} {c:Nat} {o x:Obj} (h:SepK b D E) (hl:Sx.look E c=some o):Sx.look ((b,x):: (D++E)) c=some o:=by
 have:=h c (zn_ hl)
 rw[zY_ _ _ _ _ (by omega),z3_ (fun hm=>by have:=this.2 c hm;omega)]
 exact hl
theorem aik_ (r v:Value) (t:IdL) (p:Value) (y:List UInt8) (E:TypeId) (fz:Nat×Nat):zA_ (some (true,32)) (some (.cells (roC r v t p y).toArray E fz)) 2=some (.agg (a8 t.l)):=by
 have e:roC r v t p y= [r,v]++ (t.l.map v8++ ([p]++ [vs y])):=by unfold roC qG_;simp
 rw[e];exact xV_ [r,v] _ _ E fz rfl (by simp[t.h])
structure ChG where
 g:Nat
 v:Value
 D:zi_
theorem xI_ {α β:Type} (f:α→β) (z:α) {l:List α} {k:Nat} (hk:k<l.length): (l.take (k+1)).map f=(l.take k).map f++ [f (l.getD k z)]:=by
 rw[List.take_succ_eq_append_getElem hk,List.map_append,List.getD_eq_getElem?_getD,List.getElem?_eq_getElem hk];rfl
theorem Gr.snoc {α:Type} {L:zi_} {E:TypeId} {m n:Nat} {v:Value} {enc:α→List Value} {l:List α} {x:α} (hn:n=l.length) (h:Buf L E m v (n+1) ((l.map enc).flatten++enc x)):Gr L E m v (l++ [x]).length ((l++ [x]).map enc).flatten:=by
 subst hn
 rw[List.length_append,List.map_append,List.flatten_append,show([x].map enc).flatten=enc x by simp]
 exact .inl h
set_option linter.defProp false
def qI_:=And.intro (And.intro (And.intro (And.intro (@qw_) (@qg_)) (And.intro (@qf_) (And.intro (@qd_) (@Sx.tup2_0)))) (And.intro (And.intro (@Sx.tup2_1) (@KW_)) (And.intro (@K9_) (And.intro (@Ve_) (@aik_))))) (And.intro (And.intro (And.intro (@Q5_) (@x6_)) (And.intro (@k2_) (And.intro (@kS_) (@jm_)))) (And.intro (And.intro (@qk_) (@qh_)) (And.intro (@q4_) (And.intro (@zJ_) (@zI_)))))
theorem Xp_ (k:Int) (t:List UInt8) (w:World):Rets Tryz.prog 32 #[obV k t] w (XS w [] (fun v D=>Gr D 59 33 v (jj_ k t).length ((jj_ k t).map zm_).flatten)):=by
 refine Rets.enterX Tryz.func32 rfl (rs:= [.tmp 2]) Tryz.results32 Tryz.ntmps32 (fun p hp=>by cases hp) (by simp[keys]) ?_
 refine kf ?_
 first|with_reducible refine ks [] @qI_ ?_|refine kp @qI_ ?_
 refine Ow.box rfl rfl fun b1 hb1 hw1=> ?_
 simp only[zW_,zT_,z1_,ze_,List.nil_append]
 refine ko @qI_ ?_
 refine Ow.callC rfl rfl Tryz.call76 (fun w' hw'=>KB_ k t w') (fun B v D hA hB hN hS=> ?_)
 obtain⟨p,rfl,hS⟩:=hS
 obtain⟨h1B,-⟩:=hA
 have hNe:New w.heap.size ((b1,Obj.cells #[vi k,vs t] 35 (0,0))::D):=⟨hw1,New.mono hB hN⟩
 cases hr:xS_ k t
 ·refine ko @qI_ ?_
  first|with_reducible refine ks [] @qI_ ?_|refine kp @qI_ ?_
  refine⟨_,(ke @qI_), ?_⟩
  refine⟨Ext.of_new hNe, ?_⟩
  unfold jj_
  rw[hr]
  exact Gr.nl
 ·obtain⟨bo,bw,v1,c1,x1,y1,rfl,hlk,hg2,hg3,hgn⟩:=hS (wZ_ hr)
  have hob:=hN.le bo (zn_ hlk)
  have hob1:b1≠bo:=by omega
  obtain⟨l,hG1,hl2,hln,hl32⟩: ∃l:List EntL,Gr D 117 34 v1 l.length (l.map zR_).flatten∧(k=2→l=(qS_ t).1)∧(k≠2→l= [])∧l.length≤32:=by
   by_cases h2:k=2
   ·refine⟨(qS_ t).1,hg2 h2,fun _=>rfl,fun h=>absurd h2 h, ?_⟩
    subst h2
    have:=hr
    unfold xS_ at this
    rw[if_pos (wZ_ hr),if_neg (by decide),if_pos rfl] at this
    simp only[Bool.and_eq_true] at this
    exact(ku_ this.2).1
   ·exact⟨[],by rw[hgn h2];exact Gr.nl,fun h=>absurd h h2,fun _=>rfl,Nat.zero_le _⟩
  have ln1:=hG1.len
  have rdo: ∀M,zv_ w (D++M) bo=some (.cells (roC (vp bw 0) v1 c1 x1 y1).toArray 142 (0,0)):=fun M=>zg_ (zp_ hlk)
  have rdo0:zv_ w D bo=some (.cells (roC (vp bw 0) v1 c1 x1 y1).toArray 142 (0,0)):=zg_ hlk
  refine ko @qI_ ?_
  first|with_reducible refine ks [] (And.intro @qI_ (And.intro @rdo0 (@ln1))) ?_|refine kp (And.intro @qI_ (And.intro @rdo0 (@ln1))) ?_
  refine Cw.permL (M:=(b1,Obj.cells #[vi k,vs t] 35 (0,0)):: (D++ [])) (by rw[List.append_nil]) ?_
  refine Cw.loopG (G:=ChG) [23,24,25,7,26,27,28,29,30,31,32,33,5,34,22] (fun q=> [(5,q.v),(22,vi q.g)]) (fun q=>(b1,Obj.cells #[vi k,vs t] 35 (0,0)):: (D++q.D)) (fun q=>q.g≤l.length∧New w.heap.size q.D∧SepK b1 D q.D∧Gr q.D 59 33 q.v ((l.take q.g).map jN_).length (((l.take q.g).map jN_).map zm_).flatten) (fun q=>l.length - q.g) ⟨0, .slice none 0 0,[]⟩ rfl rfl ?_ ?_
  ·exact⟨Nat.zero_le _,trivial,SepK.nil,Gr.nl⟩
  ·intro q jq hq
   refine kv ?_
   obtain⟨g,v,D2⟩:=q
   simp only at hq ⊢
   obtain⟨hgl,hN2,hSp,hG⟩:=hq
   by_cases hlt:g<l.length
   ·obtain⟨c,cc,rest,rfl,hlc⟩:=Gr.rows hG1 (by omega)
    have hcb:=hN.le c (zn_ hlc)
    have hc1:b1≠c:=by omega
    have rdc: ∀M,zv_ w (D++M) c=some (k5_ rest l):=fun M=>zg_ (zp_ hlc)
    have ldc:=xw_ (rest:=rest) g hlt
    have hml:=xI_ jN_ ent0 hlt
    have hmll: ((l.take g).map jN_).length=g:=by rw[List.length_map,List.length_take];omega
    generalize hx:l.getD g ent0=x at ldc hml
    first|with_reducible refine ks [] (And.intro @qI_ (And.intro @rdc (@ldc))) ?_|refine kp (And.intro @qI_ (And.intro @rdc (@ldc))) ?_
    refine Ow.alloc rfl rfl vM_ fun b7 hb7 hw7=> ?_
    simp only[ze_,List.nil_append,List.cons_append]
    have h17:b1<b7:=zf_ hb7 (by simp[keys])
    refine Ow.permL (M:=(b7,Obj.cells (zR_ ent0).toArray 117 (0,0)):: (b1,Obj.cells #[vi k,vs t] 35 (0,0)):: (D++D2)) (by classical exact List.perm_iff_count.2 fun a=>by simp only[List.count_append,List.count_cons,List.count_nil]<;>omega) ?_
    refine ko @qI_ ?_
    first|with_reducible refine ks [] @qI_ ?_|refine kp @qI_ ?_
    refine Ow.build (.agg (zm_ (jN_ x)).toArray) rfl (k1_ (jN_ x)) ?_
    refine ko @qI_ ?_
    refine Ow.buildSlice (e:=59) (zm_ (jN_ x)).toArray rfl rfl (qu_ Tryz.underlying44 q1_ jF_ (by decide) (zo_ _)) fun b13 hb13 hw13=> ?_
    refine Ow.permL (M:=D2++ ((b7,Obj.cells (zR_ x).toArray 117 (0,0)):: (b13,Obj.cells (zm_ (jN_ x)).toArray 59 (0,0)):: (b1,Obj.cells #[vi k,vs t] 35 (0,0))::D)) (by classical exact List.perm_iff_count.2 fun a=>by simp only[List.count_append,List.count_cons,List.count_nil]<;>omega) ?_
    refine ko @qI_ ?_
    refine Ow.appendX (e:=59) (k:=1) (new:=zm_ (jN_ x)) (X:=D2) v rfl rfl rfl rfl Tryz.underlying44 q1_ (by kernel_rfl) jF_ (by rw[zG_,List.size_toArray,zo_]) Tryz.underlying44 (by intro k h;cases h) hG (fun w' hw'=>AppX.one1 (hw'.has b13 (.cells (zm_ (jN_ x)).toArray 59 (0,0)) (by simp)) (zo_ _) (qe_ _)) (by omega) (by rw[hmll];omega) (fun B2 v4 D4 hA4 hB4 hbuf hk1 hk2 hlk4=> ?_)
    have hN4:New w.heap.size D4:=New.of_le fun q hq=>by
     rcases hk2 q hq with h|h
     ·exact hN2.le q h
     ·omega
    have hSp4:SepK b1 D (D4++ [(b7,Obj.cells (zR_ x).toArray 117 (0,0)),(b13,Obj.cells (zm_ (jN_ x)).toArray 59 (0,0))]):=by
     refine(hSp.grow hk2 (zf_ hA4 (by simp[zd_,keys])) fun d hd=>zf_ hA4 (by simp only[keys,List.map_cons,List.map_nil,List.map_append,List.mem_cons,List.mem_append] at hd ⊢;simp[hd])).app ?_
     exact(SepK.nil.cons (zf_ hb13 (by simp[keys])) fun d hd=>zf_ hb13 (by simp only[keys,List.map_cons,List.map_nil,List.map_append,List.mem_cons,List.mem_append] at hd ⊢;simp[hd])).cons h17 fun d hd=>zf_ hb7 (by simp only[keys,List.map_cons,List.map_nil,List.map_append,List.mem_cons,List.mem_append] at hd ⊢;simp[hd])
    refine Ow.permL (M:=(b1,Obj.cells #[vi k,vs t] 35 (0,0)):: (D++ (D4++ [(b7,Obj.cells (zR_ x).toArray 117 (0,0)),(b13,Obj.cells (zm_ (jN_ x)).toArray 59 (0,0))]))) (by classical exact List.perm_iff_count.2 fun a=>by simp only[List.count_append,List.count_cons,List.count_nil]<;>omega) ?_
    refine ko @qI_ ?_
    first|with_reducible refine ks [] @qI_ ?_|refine kp @qI_ ?_
    refine Again.mk (ChG.mk (g+1) v4 (D4++ [(b7,Obj.cells (zR_ x).toArray 117 (0,0)),(b13,Obj.cells (zm_ (jN_ x)).toArray 59 (0,0))])) (by show l.length - (g+1)<l.length - g;omega) ⟨by show g+1≤l.length;omega,hN4.app ⟨hw7,hw13,trivial⟩,hSp4, ?_⟩ rfl rfl
    show Gr _ _ _ _ ((l.take (g+1)).map jN_).length (((l.take (g+1)).map jN_).map zm_).flatten
    rw[hml]
    exact Gr.app (Gr.snoc rfl hbuf)
   ·obtain rfl:g=l.length:=by omega
    rw[List.take_length] at hG
    by_cases h3:k=3
    ·obtain rfl:l= []:=hln (by omega)
     subst h3
     obtain⟨rfl,rfl,hgp⟩:=hg3 rfl
     have d3: ((3:Int)==3)=true:=rfl
     have hpl:=VP_ t
     have lnp:=hgp.len
     have hcl:jj_ 3 t=⟨(kk_ t).1.tree,2⟩:: (kk_ t).1.par.map q3_:=by
      unfold jj_
      rw[hr,if_pos rfl,if_neg (by decide),if_pos rfl]
     have rdo2:=rdo D2
     generalize (kk_ t).1.par=pl at*
     generalize (kk_ t).1.tree=T at*
     first|with_reducible refine ks [] (And.intro @qI_ (And.intro @d3 (@rdo2))) ?_|refine kp (And.intro @qI_ (And.intro @d3 (@rdo2))) ?_
     have bT:=k1_ ⟨T,2⟩
     refine Ow.build (.agg (zm_ ⟨T,2⟩).toArray) rfl bT ?_
     refine ko @qI_ ?_
     refine Ow.buildSlice (e:=59) (zm_ ⟨T,2⟩).toArray rfl rfl (qu_ Tryz.underlying44 q1_ jF_ (by decide) (zo_ _)) fun b13 hb13 hw13=> ?_
     refine Ow.permL (M:=D2++ ((b13,Obj.cells (zm_ ⟨T,2⟩).toArray 59 (0,0)):: (b1,Obj.cells #[vi 3,vs t] 35 (0,0))::D)) (by classical exact List.perm_iff_count.2 fun a=>by simp only[List.count_append,List.count_cons,List.count_nil]<;>omega) ?_
     refine ko @qI_ ?_
     refine Ow.appendX (e:=59) (k:=1) (new:=zm_ ⟨T,2⟩) (X:=D2) v rfl rfl rfl rfl Tryz.underlying44 q1_ (by kernel_rfl) jF_ (by rw[zG_,List.size_toArray,zo_]) Tryz.underlying44 (by intro k h;cases h) hG (fun w' hw'=>AppX.one1 (hw'.has b13 (.cells (zm_ ⟨T,2⟩).toArray 59 (0,0)) (by simp)) (zo_ _) (qe_ _)) (by omega) (by simp) (fun B2 v4 D4 hA4 hB4 hbuf hk1 hk2 hlk4=> ?_)
     have hN4:New w.heap.size D4:=New.of_le fun q hq=>by
      rcases hk2 q hq with h|h
      ·exact hN2.le q h
      ·omega
     have hSp4:SepK b1 D (D4++ [(b13,Obj.cells (zm_ ⟨T,2⟩).toArray 59 (0,0))]):=by
      refine(hSp.grow hk2 (zf_ hA4 (by simp[zd_,keys])) fun d hd=>zf_ hA4 (by simp only[keys,List.map_cons,List.map_nil,List.map_append,List.mem_cons,List.mem_append] at hd ⊢;simp[hd])).app ?_
      exact SepK.nil.cons (zf_ hb13 (by simp[keys])) fun d hd=>zf_ hb13 (by simp only[keys,List.map_cons,List.map_nil,List.map_append,List.mem_cons,List.mem_append] at hd ⊢;simp[hd])
     refine Ow.permL (M:=(b1,Obj.cells #[vi 3,vs t] 35 (0,0)):: (D++ (D4++ [(b13,Obj.cells (zm_ ⟨T,2⟩).toArray 59 (0,0))]))) (by classical exact List.perm_iff_count.2 fun a=>by simp only[List.count_append,List.count_cons,List.count_nil]<;>omega) ?_
     have hG4:Gr (D4++ [(b13,Obj.cells (zm_ ⟨T,2⟩).toArray 59 (0,0))]) 59 33 v4 (⟨T,2⟩:: (pl.take 0).map q3_:List ChildL).length ((⟨T,2⟩:: (pl.take 0).map q3_:List ChildL).map zm_).flatten:=by
      have:=Gr.snoc (l:=([]:List ChildL)) (x:=⟨T,2⟩) rfl (by simpa using hbuf)
      exact this.app
     have hN5:=hN4.app (show New w.heap.size [(b13,Obj.cells (zm_ ⟨T,2⟩).toArray 59 (0,0))] from⟨hw13,trivial⟩)
     generalize D4++ [(b13,Obj.cells (zm_ ⟨T,2⟩).toArray 59 (0,0))]=D5 at hSp4 hG4 hN5 ⊢
     have rdo5:=rdo D5
     refine ko @qI_ ?_
     first|with_reducible refine ks [] (And.intro @qI_ (And.intro @rdo5 (@lnp))) ?_|refine kp (And.intro @qI_ (And.intro @rdo5 (@lnp))) ?_
     refine Cw.loopG (G:=ChG) [54,55,56,9,57,58,59,60,61,5,62,53] (fun q=> [(5,q.v),(53,vi q.g)]) (fun q=>(b1,Obj.cells #[vi 3,vs t] 35 (0,0)):: (D++q.D)) (fun q=>q.g≤pl.length∧New w.heap.size q.D∧SepK b1 D q.D∧Gr q.D 59 33 q.v (⟨T,2⟩:: (pl.take q.g).map q3_:List ChildL).length ((⟨T,2⟩:: (pl.take q.g).map q3_:List ChildL).map zm_).flatten) (fun q=>pl.length - q.g) ⟨0,v4,D5⟩ rfl rfl ?_ ?_
     ·exact⟨Nat.zero_le _,hN5,hSp4,hG4⟩
     ·intro q jq hq
      refine kv ?_
      obtain⟨g,v,D2⟩:=q
      simp only at hq ⊢
      obtain⟨hgl,hN2,hSp,hG⟩:=hq
      by_cases hlt:g<pl.length
      ·obtain⟨c,cc,rest,rfl,hlc⟩:=Gr.rows hgp (by omega)
       have hcb:=hN.le c (zn_ hlc)
       have hc1:b1≠c:=by omega
       have rdc: ∀M,zv_ w (D++M) c=some (idRO rest pl):=fun M=>zg_ (zp_ hlc)
       have ldc:=aat_ (rest:=rest) g hlt
       have hml:=xI_ q3_ id0 hlt
       have hmll: ((pl.take g).map q3_).length=g:=by rw[List.length_map,List.length_take];omega
       generalize hx:pl.getD g id0=x at ldc hml
       have hxl:=x.h
       first|with_reducible refine ks [] (And.intro @qI_ (And.intro @rdc (@ldc))) ?_|refine kp (And.intro @qI_ (And.intro @rdc (@ldc))) ?_
       refine Ow.alloc rfl rfl Qz_ fun b7 hb7 hw7=> ?_
       simp only[ze_,List.nil_append,List.cons_append]
       have h17:b1<b7:=zf_ hb7 (by simp[keys])
       refine Ow.permL (M:=(b7,Obj.cells (a8 id0.l) 24 (0,0)):: (b1,Obj.cells #[vi 3,vs t] 35 (0,0)):: (D++D2)) (by classical exact List.perm_iff_count.2 fun a=>by simp only[List.count_append,List.count_cons,List.count_nil]<;>omega) ?_
       have hz0:=id0.h
       refine ko @qI_ ?_
       first|with_reducible refine ks [] @qI_ ?_|refine kp @qI_ ?_
       have bX:=k1_ (q3_ x)
       refine Ow.build (.agg (zm_ (q3_ x)).toArray) rfl bX ?_
       refine ko @qI_ ?_
       refine Ow.buildSlice (e:=59) (zm_ (q3_ x)).toArray rfl rfl (qu_ Tryz.underlying44 q1_ jF_ (by decide) (zo_ _)) fun b13 hb13 hw13=> ?_
       refine Ow.permL (M:=D2++ ((b7,Obj.cells (a8 x.l) 24 (0,0)):: (b13,Obj.cells (zm_ (q3_ x)).toArray 59 (0,0)):: (b1,Obj.cells #[vi 3,vs t] 35 (0,0))::D)) (by classical exact List.perm_iff_count.2 fun a=>by simp only[List.count_append,List.count_cons,List.count_nil]<;>omega) ?_
       refine ko @qI_ ?_
       refine Ow.appendX (e:=59) (k:=1) (new:=zm_ (q3_ x)) (X:=D2) v rfl rfl rfl rfl Tryz.underlying44 q1_ (by kernel_rfl) jF_ (by rw[zG_,List.size_toArray,zo_]) Tryz.underlying44 (by intro k h;cases h) hG (fun w' hw'=>AppX.one1 (hw'.has b13 (.cells (zm_ (q3_ x)).toArray 59 (0,0)) (by simp)) (zo_ _) (qe_ _)) (by omega) (by rw[List.length_cons,hmll];omega) (fun B2 v4 D4 hA4 hB4 hbuf hk1 hk2 hlk4=> ?_)
       have hN4:New w.heap.size D4:=New.of_le fun q hq=>by
        rcases hk2 q hq with h|h
        ·exact hN2.le q h
        ·omega
       have hSp4:SepK b1 D (D4++ [(b7,Obj.cells (a8 x.l) 24 (0,0)),(b13,Obj.cells (zm_ (q3_ x)).toArray 59 (0,0))]):=by
        refine(hSp.grow hk2 (zf_ hA4 (by simp[zd_,keys])) fun d hd=>zf_ hA4 (by simp only[keys,List.map_cons,List.map_nil,List.map_append,List.mem_cons,List.mem_append] at hd ⊢;simp[hd])).app ?_
        exact(SepK.nil.cons (zf_ hb13 (by simp[keys])) fun d hd=>zf_ hb13 (by simp only[keys,List.map_cons,List.map_nil,List.map_append,List.mem_cons,List.mem_append] at hd ⊢;simp[hd])).cons h17 fun d hd=>zf_ hb7 (by simp only[keys,List.map_cons,List.map_nil,List.map_append,List.mem_cons,List.mem_append] at hd ⊢;simp[hd])
       refine Ow.permL (M:=(b1,Obj.cells #[vi 3,vs t] 35 (0,0)):: (D++ (D4++ [(b7,Obj.cells (a8 x.l) 24 (0,0)),(b13,Obj.cells (zm_ (q3_ x)).toArray 59 (0,0))]))) (by classical exact List.perm_iff_count.2 fun a=>by simp only[List.count_append,List.count_cons,List.count_nil]<;>omega) ?_
       refine ko @qI_ ?_
       first|with_reducible refine ks [] @qI_ ?_|refine kp @qI_ ?_
       refine Again.mk (ChG.mk (g+1) v4 (D4++ [(b7,Obj.cells (a8 x.l) 24 (0,0)),(b13,Obj.cells (zm_ (q3_ x)).toArray 59 (0,0))])) (by show pl.length - (g+1)<pl.length - g;omega) ⟨by show g+1≤pl.length;omega,hN4.app ⟨hw7,hw13,trivial⟩,hSp4, ?_⟩ rfl rfl
       show Gr _ _ _ _ (⟨T,2⟩:: (pl.take (g+1)).map q3_:List ChildL).length ((⟨T,2⟩:: (pl.take (g+1)).map q3_:List ChildL).map zm_).flatten
       rw[hml]
       exact Gr.app (Gr.snoc (l:=(⟨T,2⟩:: (pl.take g).map q3_:List ChildL)) rfl hbuf)
      ·obtain rfl:g=pl.length:=by omega
       rw[List.take_length] at hG
       first|with_reducible refine ks [] @qI_ ?_|refine kp @qI_ ?_
       refine⟨_,(ke @qI_), ?_⟩
       refine⟨Ext.of_new ⟨hw1,(New.mono hB hN).app hN2⟩, ?_⟩
       rw[hcl]
       exact hG.keep fun b o hb ho=>hSp.look ho
    ·have d3: (k==3)=false:=by simpa using h3
     first|with_reducible refine ks [] (And.intro @qI_ @d3) ?_|refine kp (And.intro @qI_ @d3) ?_
     refine⟨_,(ke @qI_), ?_⟩
     refine⟨Ext.of_new ⟨hw1,(New.mono hB hN).app hN2⟩, ?_⟩
     have e:jj_ k t=l.map jN_:=by
      unfold jj_
      rw[hr,if_pos rfl,if_neg h3]
      by_cases h2:k=2
      ·rw[if_pos h2,←hl2 h2]
      ·rw[if_neg h2,hln h2];rfl
     rw[e]
     exact hG.keep fun b o hb ho=>hSp.look ho
end Go.Proofs
end
section
open Go Go.Proofs Go.Sx Go.StP
namespace Go.Proofs
set_option maxRecDepth 10000
set_option maxHeartbeats 400000
set_option linter.unusedSimpArgs false
set_option linter.defProp false
set_option linter.defProp false
end Go.Proofs
end
namespace Go.Dig
open Go.Sx
def rgt (x:UInt32) (n:UInt64):UInt32:=qH_ x n.toNat|||j9_ x (32 - n).toNat
def rol (x:UInt32) (k:Int):UInt32:=j9_ x (UInt64.ofInt k&&&31).toNat|||qH_ x (32 - (UInt64.ofInt k&&&31)).toNat
def agQ_ (x:UInt32) (a b c:Int):UInt32:=rol x (-a)^^^rol x (-b)^^^qH_ x c.toNat
def afR_ (x:UInt32) (a b c:Int):UInt32:=rol x (-a)^^^rol x (-b)^^^rol x (-c)
def S1 (e:UInt32):UInt32:=rgt e 6^^^rgt e 11^^^rgt e 25
def S0 (a:UInt32):UInt32:=rgt a 2^^^rgt a 13^^^rgt a 22
def s1 (y:UInt32):UInt32:=rgt y 17^^^rgt y 19^^^qH_ y 10
def s0 (x:UInt32):UInt32:=rgt x 7^^^rgt x 18^^^qH_ x 3
theorem rol6 (x:UInt32):rol x (-6)=rgt x 6:=by unfold rol rgt;rw[UInt32.or_comm];rfl
theorem anZ_ (x:UInt32):rol x (-11)=rgt x 11:=by unfold rol rgt;rw[UInt32.or_comm];rfl
theorem an0_ (x:UInt32):rol x (-25)=rgt x 25:=by unfold rol rgt;rw[UInt32.or_comm];rfl
theorem rol2 (x:UInt32):rol x (-2)=rgt x 2:=by unfold rol rgt;rw[UInt32.or_comm];rfl
theorem aoo_ (x:UInt32):rol x (-13)=rgt x 13:=by unfold rol rgt;rw[UInt32.or_comm];rfl
theorem anQ_ (x:UInt32):rol x (-22)=rgt x 22:=by unfold rol rgt;rw[UInt32.or_comm];rfl
theorem anT_ (x:UInt32):rol x (-17)=rgt x 17:=by unfold rol rgt;rw[UInt32.or_comm];rfl
theorem aoq_ (x:UInt32):rol x (-19)=rgt x 19:=by unfold rol rgt;rw[UInt32.or_comm];rfl
theorem rol7 (x:UInt32):rol x (-7)=rgt x 7:=by unfold rol rgt;rw[UInt32.or_comm];rfl
theorem aoc_ (x:UInt32):rol x (-18)=rgt x 18:=by unfold rol rgt;rw[UInt32.or_comm];rfl
theorem aof_ (x:UInt32):afR_ x 6 11 25=S1 x:=by unfold afR_ S1;rw[rol6,anZ_,an0_]
theorem anP_ (x:UInt32):afR_ x 2 13 22=S0 x:=by unfold afR_ S0;rw[rol2,aoo_,anQ_]
theorem an9_ (x:UInt32):agQ_ x 17 19 10=s1 x:=by unfold agQ_ s1;rw[anT_,aoq_];rfl
theorem an7_ (x:UInt32):agQ_ x 7 18 3=s0 x:=by unfold agQ_ s0;rw[rol7,aoc_];rfl
def kL:List UInt32:= [1116352408,1899447441,3049323471,3921009573,961987163,1508970993,2453635748,2870763221,3624381080,310598401,607225278,1426881987,1925078388,2162078206,2614888103,3248222580,3835390401,4022224774,264347078,604807628,770255983,1249150122,1555081692,1996064986,2554220882,2821834349,2952996808,3210313671,3336571891,3584528711,113926993,338241895,666307205,773529912,1294757372,1396182291,1695183700,1986661051,2177026350,2456956037,2730485921,2820302411,3259730800,3345764771,3516065817,3600352804,4094571909,275423344,430227734,506948616,659060556,883997877,958139571,1322822218,1537002063,1747873779,1955562222,2024104815,2227730452,2361852424,2428436474,2756734187,3204031479,3329325298]
def initL:List UInt32:= [1779033703,3144134277,1013904242,2773480762,1359893119,2600822924,528734635,1541459225]
def aiX_ (b:List UInt8) (i:Nat):UInt32:=
 UInt32.ofNat (b.getD (4*i) 0).toNat*16777216+UInt32.ofNat (b.getD (4*i+1) 0).toNat*65536+UInt32.ofNat (b.getD (4*i+2) 0).toNat*256+UInt32.ofNat (b.getD (4*i+3) 0).toNat
def KG_ (b:List UInt8) (i:Nat):List UInt32:=(List.range 64).map fun j=>if j<i then aiX_ b j else 0
theorem vl_ (b:List UInt8) (i:Nat): (KG_ b i).length=64:=by simp[KG_]
theorem Ws_ (b:List UInt8) (i:Nat): (KG_ b i).set i (aiX_ b i)=KG_ b (i+1):=by
 apply List.ext_getElem
 ·simp[KG_]
 intro k hk1 hk2
 have hk:k<64:=by simpa [KG_] using hk2
 rw[List.getElem_set]
 by_cases h:i=k
 ·subst h;simp[KG_]
 ·rw[if_neg h]
  simp only[KG_,List.getElem_map,List.getElem_range]
  by_cases h1:k<i
  ·rw[if_pos h1,if_pos (by omega)]
  ·rw[if_neg h1,if_neg (by omega)]
theorem WB_ (b:List UInt8):KG_ b 0=List.replicate 64 0:=by
 apply List.ext_getElem
 ·simp[KG_]
 intro k hk1 hk2
 simp only[KG_,List.getElem_map,List.getElem_range,List.getElem_replicate]
 rw[if_neg (by omega)]
def ajE_ (w:List UInt32) (g:Nat):List UInt32:=w.set g (s1 (w.getD (g - 2) 0)+w.getD (g - 7) 0+s0 (w.getD (g - 15) 0)+w.getD (g - 16) 0)
def wGo (w:List UInt32):Nat→List UInt32
 |0=>w
 |n+1=>ajE_ (wGo w n) (16+n)
theorem Kv_ (w:List UInt32) (n:Nat): (wGo w n).length=w.length:=by
 induction n with
 |zero=>rfl
 |succ n ih=>simp[wGo,ajE_,ih]
def Wn_ (b:List UInt8):List UInt32:=wGo (KG_ b 16) 48
theorem Jp_ (b:List UInt8): (Wn_ b).length=64:=by rw[Wn_,Kv_,vl_]
def alR_ (s:List UInt32) (k w:UInt32):List UInt32:=
 let t:=s.getD 7 0+S1 (s.getD 4 0)+ (s.getD 4 0&&&s.getD 5 0||| ~~~ s.getD 4 0&&&s.getD 6 0)+k+w
 let u:=S0 (s.getD 0 0)+ (s.getD 0 0&&&s.getD 1 0|||s.getD 0 0&&&s.getD 2 0|||s.getD 1 0&&&s.getD 2 0)
 [t+u,s.getD 0 0,s.getD 1 0,s.getD 2 0,s.getD 3 0+t,s.getD 4 0,s.getD 5 0,s.getD 6 0]
def rGo (st w:List UInt32):Nat→List UInt32
 |0=>st
 |n+1=>alR_ (rGo st w n) (kL.getD n 0) (w.getD n 0)
theorem aeh_ (st w:List UInt32) (n:Nat) (h:st.length=8): (rGo st w n).length=8:=by
 cases n with
 |zero=>exact h
 |succ n=>rfl
def xG_ (st s:List UInt32) (i:Nat):List UInt32:=(List.range 8).map fun j=>if j<i then st.getD j 0+s.getD j 0 else st.getD j 0
theorem ZE_ (st s:List UInt32) (i:Nat): (xG_ st s i).length=8:=by simp[xG_]
theorem aeX_ (st s:List UInt32) (i j:Nat) (hj:j<8): (xG_ st s i).getD j 0=if j<i then st.getD j 0+s.getD j 0 else st.getD j 0:=by
 simp[xG_,List.getD_eq_getElem?_getD,hj]
theorem aci_ (st s:List UInt32) (i:Nat): (xG_ st s i).set i (st.getD i 0+s.getD i 0)=xG_ st s (i+1):=by
 apply List.ext_getElem
 ·simp[xG_]
 intro k hk1 hk2
 rw[List.getElem_set]
 by_cases h:i=k
 ·subst h;simp[xG_]
 ·rw[if_neg h]
  simp only[xG_,List.getElem_map,List.getElem_range]
  by_cases h1:k<i
  ·rw[if_pos h1,if_pos (by omega)]
  ·rw[if_neg h1,if_neg (by omega)]
theorem abw_ (st s:List UInt32) (h:st.length=8):xG_ st s 0=st:=by
 apply List.ext_getElem
 ·simp[xG_,h]
 intro k hk1 hk2
 simp[xG_,List.getD_eq_getElem?_getD,hk2]
def comp (st:List UInt32) (b:List UInt8):List UInt32:=xG_ st (rGo st (Wn_ b) 64) 8
theorem wY_ (st:List UInt32) (b:List UInt8): (comp st b).length=8:=ZE_ _ _ _
def wE_ (st:List UInt32) (m:List UInt8):Nat→List UInt32
 |0=>st
 |n+1=>comp (wE_ st m n) ((m.drop (64*n)).take 64)
theorem WI_ (st:List UInt32) (m:List UInt8) (n:Nat) (h:st.length=8): (wE_ st m n).length=8:=by
 cases n with
 |zero=>exact h
 |succ n=>exact wY_ _ _
theorem WX_ (st:List UInt32) (m x:List UInt8) (n:Nat) (h:64*n≤m.length):wE_ st (m++x) n=wE_ st m n:=by
 induction n with
 |zero=>rfl
 |succ n ih=>
  simp only[wE_]
  rw[ih (by omega),List.drop_append_of_le_length (by omega),List.take_append_of_le_length (by simp;omega)]
def vD_ (bg:Bool) (st:List UInt32) (rest:List UInt8) (many:Int) (taken:UInt64):List Value:=
 .bool bg:: (st.map (fun x=>Value.int .u32 (x.toNat:Int))++ (rest.map (fun x=>Value.int .u8 (x.toNat:Int))++ [vi many,v64 taken]))
def zX_ (bg:Bool) (st:List UInt32) (rest:List UInt8) (many:Int) (taken:UInt64):Array Value:=(vD_ bg st rest many taken).toArray
section
variable {bg:Bool} {st:List UInt32} {rest:List UInt8} {many:Int} {taken:UInt64} {E:TypeId}
theorem jO_ (h:st.length=8∧rest.length=64): (zX_ bg st rest many taken).size=75:=by simp[zX_,vD_,h]
theorem afX_: (zX_ bg st rest many taken)[0]? =some (.bool bg):=rfl
theorem agL_ (k:Nat) (hk:k<8) (h:st.length=8): (zX_ bg st rest many taken)[1+k]? =some (v32 (st.getD k 0)):=by
 have:1+k=k+1:=by omega
 rw[this,zX_,List.getElem?_toArray,vD_,List.getElem?_cons_succ,List.getElem?_append_left (by simp;omega)]
 simp[v32,List.getD_eq_getElem?_getD,h,hk]
theorem aax_ (k:Nat) (hk:k<64) (h:st.length=8∧rest.length=64): (zX_ bg st rest many taken)[9+k]? =some (v8 (rest.getD k 0)):=by
 have:9+k=(8+k)+1:=by omega
 rw[this,zX_,List.getElem?_toArray,vD_,List.getElem?_cons_succ,List.getElem?_append_right (by simp;omega),List.getElem?_append_left (by simp;omega)]
 have e:8+k - (List.map (fun x:UInt32=>Value.int .u32 (x.toNat:Int)) st).length=k:=by simp;omega
 rw[e]
 simp[v8,List.getD_eq_getElem?_getD,h,hk]
theorem aga_ (h:st.length=8∧rest.length=64): (zX_ bg st rest many taken)[73]? =some (vi many):=by
 rw[zX_,List.getElem?_toArray,vD_,List.getElem?_cons_succ,List.getElem?_append_right (by simp;omega),List.getElem?_append_right (by simp;omega)]
 simp[h]
theorem ags_ (h:st.length=8∧rest.length=64): (zX_ bg st rest many taken)[74]? =some (v64 taken):=by
 rw[zX_,List.getElem?_toArray,vD_,List.getElem?_cons_succ,List.getElem?_append_right (by simp;omega),List.getElem?_append_right (by simp;omega)]
 simp[h]
theorem we_ (n:Nat):zA_ (some (false,n)) (some (.cells (zX_ bg st rest many taken) E (0,0))) 0=some (.bool bg):=afX_
theorem wo_ (n k:Nat) (h:k<8∧st.length=8):zA_ (some (false,n)) (some (.cells (zX_ bg st rest many taken) E (0,0))) (1+k)=some (v32 (st.getD k 0)):=agL_ k h.1 h.2
theorem wb_ (n k:Nat) (h:k<64∧st.length=8∧rest.length=64):zA_ (some (false,n)) (some (.cells (zX_ bg st rest many taken) E (0,0))) (9+k)=some (v8 (rest.getD k 0)):=aax_ k h.1 h.2
theorem vd_ (n j k:Nat) (h:j+k<64∧st.length=8∧rest.length=64):zA_ (some (false,n)) (some (.cells (zX_ bg st rest many taken) E (0,0))) (9+j+k)=some (v8 (rest.getD (j+k) 0)):=by
 rw[Nat.add_assoc];exact aax_ (j+k) h.1 h.2
theorem wl_ (n:Nat) (h:st.length=8∧rest.length=64):zA_ (some (false,n)) (some (.cells (zX_ bg st rest many taken) E (0,0))) 73=some (vi many):=aga_ h
theorem wp_ (n:Nat) (h:st.length=8∧rest.length=64):zA_ (some (false,n)) (some (.cells (zX_ bg st rest many taken) E (0,0))) 74=some (v64 taken):=ags_ h
theorem vw_ (h:st.length=8∧rest.length=64):zA_ (some (true,8)) (some (.cells (zX_ bg st rest many taken) E (0,0))) 1=some (.agg (a32 st)):=by
 have hs:1+8≤ (zX_ bg st rest many taken).size:=by rw[jO_ h];omega
 simp only[zA_,hs, ↓reduceIte]
 congr 2
 rw[zX_,a32,vD_]
 simp only[List.extract_toArray,List.extract_eq_take_drop]
 congr 1
 simp[h]
theorem kr_ (h:st.length=8∧rest.length=64):zA_ (some (true,75)) (some (.cells (zX_ bg st rest many taken) E (0,0))) 0=some (.agg (zX_ bg st rest many taken)):=wf_ _ _ _ _ (jO_ h)
theorem ajP_: (zX_ bg st rest many taken).toList.all Value.oneCell'=true:=by
 simp[zX_,vD_,Value.oneCell',vi,v64]
theorem xb_ (old:Array Value) (h:st.length=8∧rest.length=64∧old.size=75):zs_ (some (true,75)) (some (.cells old E (0,0))) 0 (.agg (zX_ bg st rest many taken))=some (.cells (zX_ bg st rest many taken) E (0,0)):=
 Za_ _ _ _ _ _ ⟨jO_ ⟨h.1,h.2.1⟩,h.2.2⟩ ajP_
theorem vO_ (i:Nat) (v:Value): (zX_ bg st rest many taken).setIfInBounds i v=((vD_ bg st rest many taken).set i v).toArray:=by simp[zX_]
theorem vm_ (b:Bool) (h:st.length=8∧rest.length=64):zs_ (some (false,1)) (some (.cells (zX_ bg st rest many taken) E (0,0))) 0 (.bool b)=some (.cells (zX_ b st rest many taken) E (0,0)):=by
 rw[kb_ _ _ _ _ _ (by rw[jO_ h];omega) rfl rfl,vO_];rfl
theorem k7_ (k:Nat) (x:UInt32) (h:k<8∧st.length=8∧rest.length=64):zs_ (some (false,1)) (some (.cells (zX_ bg st rest many taken) E (0,0))) (1+k) (v32 x)=some (.cells (zX_ bg (st.set k x) rest many taken) E (0,0)):=by
 have e:1+k=k+1:=by omega
 rw[kb_ _ _ _ _ _ (by rw[jO_ h.2];omega) rfl rfl,vO_,e,vD_,List.set_cons_succ,List.set_append_left _ _ (by simp;omega)]
 simp only[zX_,vD_,List.map_set];rfl
theorem vt_ (k:Nat) (x:UInt8) (h:k<64∧st.length=8∧rest.length=64):zs_ (some (false,1)) (some (.cells (zX_ bg st rest many taken) E (0,0))) (9+k) (v8 x)=some (.cells (zX_ bg st (rest.set k x) many taken) E (0,0)):=by
 have e:9+k=(8+k)+1:=by omega
 rw[kb_ _ _ _ _ _ (by rw[jO_ h.2];omega) rfl rfl,vO_,e,vD_,List.set_cons_succ,List.set_append_right _ _ (by simp;omega),List.set_append_left _ _ (by simp;omega)]
 have e2:8+k - (List.map (fun x:UInt32=>Value.int .u32 (x.toNat:Int)) st).length=k:=by simp;omega
 rw[e2]
 simp only[zX_,vD_,List.map_set];rfl
theorem vc_ (m:Int) (h:st.length=8∧rest.length=64):zs_ (some (false,1)) (some (.cells (zX_ bg st rest many taken) E (0,0))) 73 (vi m)=some (.cells (zX_ bg st rest m taken) E (0,0)):=by
 rw[kb_ _ _ _ _ _ (by rw[jO_ h];omega) rfl rfl,vO_,vD_,List.set_cons_succ,List.set_append_right _ _ (by simp;omega),List.set_append_right _ _ (by simp;omega)]
 simp[zX_,vD_,h]
theorem va_ (t:UInt64) (h:st.length=8∧rest.length=64):zs_ (some (false,1)) (some (.cells (zX_ bg st rest many taken) E (0,0))) 74 (v64 t)=some (.cells (zX_ bg st rest many t) E (0,0)):=by
 rw[kb_ _ _ _ _ _ (by rw[jO_ h];omega) rfl rfl,vO_,vD_,List.set_cons_succ,List.set_append_right _ _ (by simp;omega),List.set_append_right _ _ (by simp;omega)]
 simp[zX_,vD_,h]
theorem kz_ (st':List UInt32) (h:st.length=8∧rest.length=64∧st'.length=8):zs_ (some (true,8)) (some (.cells (zX_ bg st rest many taken) E (0,0))) 1 (.agg (a32 st'))=some (.cells (zX_ bg st' rest many taken) E (0,0)):=by
 have hs:1+8≤ (zX_ bg st rest many taken).size:=by rw[jO_ ⟨h.1,h.2.1⟩];omega
 have hp:xA_ (zX_ bg st rest many taken) 1 (a32 st').toList=zX_ bg st' rest many taken:=by
  have:=KZ_ (a32 st').toList [.bool bg] (st.map fun x=>Value.int .u32 (x.toNat:Int)) (rest.map (fun x=>Value.int .u8 (x.toNat:Int))++ [vi many,v64 taken]) (by simp[a32,h])
  simpa [zX_,vD_,a32] using this
 have h1: (a32 st').size=8:=by rw[Zn_];exact h.2.2
 simp only[zs_,ze_,h1,hs,Nat.le_refl,true_or,agn_,and_self, ↓reduceIte,hp]
end
def acc (b:List UInt8) (i:Nat):Nat→UInt32
 |0=>0
 |k+1=>j9_ (acc b i k) 8|||UInt32.ofNat (b.getD (4*i+k) 0).toNat
theorem QT_ (x:UInt32) (c:UInt8) (h:x.toNat<16777216): (j9_ x 8|||UInt32.ofNat c.toNat).toNat=x.toNat*256+c.toNat:=by
 have hc:=c.toNat_lt
 rw[UInt32.toNat_or,j9_,UInt32.toNat_ofNat',UInt32.toNat_ofNat',Nat.mod_eq_of_lt (by omega),Nat.mod_eq_of_lt (by omega),←Nat.shiftLeft_eq,←Nat.shiftLeft_add_eq_or_of_lt (by omega:c.toNat<2^8),Nat.shiftLeft_eq]
theorem aiq_ (b:List UInt8) (i:Nat):acc b i 4=aiX_ b i:=by
 have h0:=(b.getD (4*i) 0).toNat_lt
 have h1:=(b.getD (4*i+1) 0).toNat_lt
 have h2:=(b.getD (4*i+2) 0).toNat_lt
 have h3:=(b.getD (4*i+3) 0).toNat_lt
 have e1: (acc b i 1).toNat=(b.getD (4*i) 0).toNat:=by
  have:=QT_ 0 (b.getD (4*i+0) 0) (by decide)
  simpa [acc] using this
 have l1: (acc b i 1).toNat<16777216:=by omega
 have e2: (acc b i 2).toNat=(acc b i 1).toNat*256+ (b.getD (4*i+1) 0).toNat:=QT_ _ _ l1
 have l2: (acc b i 2).toNat<16777216:=by omega
 have e3: (acc b i 3).toNat=(acc b i 2).toNat*256+ (b.getD (4*i+2) 0).toNat:=QT_ _ _ l2
 have l3: (acc b i 3).toNat<16777216:=by omega
 have e4: (acc b i 4).toNat=(acc b i 3).toNat*256+ (b.getD (4*i+3) 0).toNat:=QT_ _ _ l3
 apply UInt32.toNat.inj
 rw[e4,e3,e2,e1]
 unfold aiX_
 simp only[UInt32.toNat_add,UInt32.toNat_mul,UInt32.toNat_ofNat']
 have k1: (16777216:UInt32).toNat=16777216:=rfl
 have k2: (65536:UInt32).toNat=65536:=rfl
 have k3: (256:UInt32).toNat=256:=rfl
 rw[k1,k2,k3]
 omega
theorem afy_ (b:List UInt8) (g:Nat):KG_ b g=(KG_ b g).set g (acc b g 0):=by
 apply List.ext_getElem
 ·simp
 intro k hk1 hk2
 rw[List.getElem_set]
 by_cases h:g=k
 ·subst h;simp[KG_,acc]
 ·rw[if_neg h]
theorem jB_ {α:Type} (l:List α) (i:Nat) (x d:α) (h:i<l.length): (l.set i x).getD i d=x:=by
 simp[List.getD_eq_getElem?_getD,h]
def wG (b:List UInt8) (g:Nat):List UInt32:=wGo (KG_ b 16) (g - 16)
theorem aab_ (b:List UInt8) (g:Nat): (wG b g).length=64:=by rw[wG,Kv_,vl_]
theorem afY_ (b:List UInt8) (g:Nat) (h:16≤g):wG b (g+1)=ajE_ (wG b g) g:=by
 unfold wG
 have:g+1 - 16=(g - 16)+1:=by omega
 rw[this]
 show ajE_ _ (16+ (g - 16))=_
 rw[show 16+ (g - 16)=g from by omega]
theorem akC_ (b:List UInt8):wG b 64=Wn_ b:=rfl
theorem adw_ (b:List UInt8):KG_ b 16=wG b 16:=rfl
theorem anj_ (a b c:UInt32): (a&&&b^^^ ~~~a&&&c)=(a&&&b||| ~~~a&&&c):=by
 apply UInt32.toBitVec_inj.1
 simp only[UInt32.toBitVec_xor,UInt32.toBitVec_or,UInt32.toBitVec_and,UInt32.toBitVec_not]
 ext i hi
 simp only[BitVec.getElem_xor,BitVec.getElem_or,BitVec.getElem_and,BitVec.getElem_not]
 cases a.toBitVec[i]<;>simp
theorem alE_ (a b c:UInt32): (a&&&b^^^a&&&c^^^b&&&c)=(a&&&b|||a&&&c|||b&&&c):=by
 apply UInt32.toBitVec_inj.1
 simp only[UInt32.toBitVec_xor,UInt32.toBitVec_or,UInt32.toBitVec_and]
 ext i hi
 simp only[BitVec.getElem_xor,BitVec.getElem_or,BitVec.getElem_and]
 cases a.toBitVec[i]<;>cases b.toBitVec[i]<;>simp
def Glob (w:World):Prop:= ∃e0 e1 f0 f1,w.heap[0]? =some (.cells (a32 initL) e0 f0)∧w.heap[1]? =some (.cells (a32 kL) e1 f1)
theorem Glob.of {w0 w:World} {L:zi_} (hg:Glob w0) (h:Hp w0 L w) (hk: ∀b,b∈keys L→1<b):Glob w:=by
 obtain⟨e0,e1,f0,f1,h0,h1⟩:=hg
 refine⟨e0,e1,f0,f1, ?_, ?_⟩
 ·rw[h.old 0 (Array.getElem?_eq_some_iff.1 h0).1 (fun hm=>by have:=hk 0 hm;omega)];exact h0
 ·rw[h.old 1 (Array.getElem?_eq_some_iff.1 h1).1 (fun hm=>by have:=hk 1 hm;omega)];exact h1
structure Hs where
 st:List UInt32
 rest:List UInt8
 many:Nat
structure Hs.Ok (s:Hs):Prop where
 st:s.st.length=8
 rest:s.rest.length=64
 many:s.many<64
def Xk_ (s:Hs) (x:UInt8):Hs:=
 if s.many+1=64 then⟨comp s.st (s.rest.set s.many x),s.rest.set s.many x,0⟩ else⟨s.st,s.rest.set s.many x,s.many+1⟩
theorem KT_ {s:Hs} (x:UInt8) (h:s.Ok): (Xk_ s x).Ok:=by
 unfold Xk_
 split
 ·exact⟨wY_ _ _,by simp[h.rest],by show(0:Nat)<64;omega⟩
 ·exact⟨h.st,by simp[h.rest],by show s.many+1<64;have:=h.many;omega⟩
def q7_ (s:Hs) (l:List UInt8):Hs:=l.foldl Xk_ s
theorem vu_ {s:Hs} (l:List UInt8) (h:s.Ok): (q7_ s l).Ok:=by
 induction l generalizing s with
 |nil=>exact h
 |cons x r ih=>exact ih (KT_ x h)
theorem j0_ (s:Hs) (a b:List UInt8):q7_ s (a++b)=q7_ (q7_ s a) b:=List.foldl_append
theorem kH_ {α:Type} (l:List α) (g:Nat) (d:α) (h:g<l.length):l.take (g+1)=l.take g++ [l.getD g d]:=by
 rw[List.take_add_one]
 simp[List.getD_eq_getElem?_getD,h]
theorem Kp_ (s:Hs) (l:List UInt8) (g:Nat) (h:g<l.length):q7_ s (l.take (g+1))=Xk_ (q7_ s (l.take g)) (l.getD g 0):=by
 rw[kH_ l g 0 h,j0_];rfl
def wx_ (bg:Bool) (s:Hs):Hs:=if bg then s else{s with st:=initL}
theorem Wg_ {s:Hs} (bg:Bool) (h:s.Ok): (wx_ bg s).Ok:=by
 unfold wx_;split
 ·exact h
 ·exact⟨rfl,h.rest,h.many⟩
def kD_ (s:Hs) (taken:UInt64):Array Value:=zX_ true s.st s.rest s.many taken
def k3_ (t:UInt64) (l:List (List UInt8)):UInt64:=l.foldl (fun t a=>t+UInt64.ofNat a.length) t
theorem acg_ (t:UInt64) (l:List (List UInt8)) (g:Nat) (h:g<l.length):k3_ t (l.take (g+1))=k3_ t (l.take g)+UInt64.ofNat (l.getD g []).length:=by
 rw[kH_ l g [] h,k3_,List.foldl_append];rfl
theorem W1_ (l:List (List UInt8)) (g:Nat) (h:g<l.length): (l.take (g+1)).flatten=(l.take g).flatten++l.getD g []:=by
 rw[kH_ l g [] h,List.flatten_append];simp
theorem loadV_one (cs:Array Value) (E:TypeId) (fz:Nat×Nat) (n i:Nat):zA_ (some (false,n)) (some (.cells cs E fz)) i=cs[i]? :=(rfl)
end Go.Dig
section
open Go Go.Proofs Go.Sx Go.Dig
namespace Go.Proofs
set_option maxRecDepth 10000
set_option maxHeartbeats 4000000
set_option linter.unusedSimpArgs false
def GlobE (w:World):Prop:= ∃e0 e1 f0 f1,w.heap[2]? =some (.cells (a32 initL) e0 f0)∧w.heap[3]? =some (.cells (a32 kL) e1 f1)
theorem GlobE.of {w0 w:World} {L:zi_} (hg:GlobE w0) (h:Hp w0 L w) (hk: ∀b,b∈keys L→3<b):GlobE w:=by
 obtain⟨e0,e1,f0,f1,h0,h1⟩:=hg
 refine⟨e0,e1,f0,f1, ?_, ?_⟩
 ·rw[h.old _ (Array.getElem?_eq_some_iff.1 h0).1 (fun hm=>by have:=hk _ hm;omega)];exact h0
 ·rw[h.old _ (Array.getElem?_eq_some_iff.1 h1).1 (fun hm=>by have:=hk _ hm;omega)];exact h1
theorem vV_ (x:UInt32) (k:Int) (w:World):Rets Tryz.prog 316 #[v32 x,vi k] w (fun v D=>v=v32 (rol x k)∧D= []):=by
 refine Rets.enterV Tryz.func316 rfl (rs:= [.tmp 4]) Tryz.results316 Tryz.ntmps316 ?_
 refine kf ?_
 first|with_reducible refine ks [] @Nat.add_zero ?_|refine kp @Nat.add_zero ?_
 refine⟨_,(ke @Nat.add_zero),trivial, ?_⟩
 rfl
theorem jd_ (x:UInt32) (n:UInt64) (w:World):Rets Tryz.prog 196 #[v32 x,v64 n] w (fun v D=>v=v32 (rgt x n)∧D= []):=by
 refine Rets.enterV Tryz.func196 rfl (rs:= [.tmp 4]) Tryz.results196 Tryz.ntmps196 ?_
 refine kf ?_
 first|with_reducible refine ks [] @Nat.add_zero ?_|refine kp @Nat.add_zero ?_
 refine⟨_,(ke @Nat.add_zero),trivial, ?_⟩
 rfl
theorem WV_ (x:UInt32) (a b c:Int) (ha:0≤a∧a≤64) (hb:0≤b∧b≤64) (hc:0≤c∧c≤64) (w:World):Rets Tryz.prog 299 #[v32 x,vi a,vi b,vi c] w (fun v D=>v=v32 (agQ_ x a b c)∧D= []):=by
 refine Rets.enterV Tryz.func299 rfl (rs:= [.tmp 8]) Tryz.results299 Tryz.ntmps299 ?_
 refine kf ?_
 first|with_reducible refine ks [] @Nat.add_zero ?_|refine kp @Nat.add_zero ?_
 refine Cw.regionO [0,1,2,4,5,6,9,10,11,3,7,8,12,13] [] rfl (by kernel_rfl) (by kernel_rfl) ?_
 simp only[zh_, ↓zc_, ↓za_, ↓zk_, ↓zj_,zb_]
 refine kq @Nat.add_zero ?_
 refine Ow.callFV rfl Tryz.call316 (fun w' hw'=>vV_ _ _ w') ?_
 refine kq @Nat.add_zero ?_
 refine Ow.callFV rfl Tryz.call316 (fun w' hw'=>vV_ _ _ w') ?_
 refine kq @Nat.add_zero ?_
 first|with_reducible refine ks [] @Nat.add_zero ?_|refine kp @Nat.add_zero ?_
 refine⟨_,(ke @Nat.add_zero),trivial, ?_⟩
 rfl
theorem aaD_ (x:UInt32) (a b c:Int) (ha:0≤a∧a≤64) (hb:0≤b∧b≤64) (hc:0≤c∧c≤64) (w:World):Rets Tryz.prog 300 #[v32 x,vi a,vi b,vi c] w (fun v D=>v=v32 (afR_ x a b c)∧D= []):=by
 refine Rets.enterV Tryz.func300 rfl (rs:= [.tmp 8]) Tryz.results300 Tryz.ntmps300 ?_
 refine kf ?_
 first|with_reducible refine ks [] @Nat.add_zero ?_|refine kp @Nat.add_zero ?_
 refine Ow.callFV rfl Tryz.call316 (fun w' hw'=>vV_ _ _ w') ?_
 refine ko @Nat.add_zero ?_
 refine Ow.callFV rfl Tryz.call316 (fun w' hw'=>vV_ _ _ w') ?_
 refine ko @Nat.add_zero ?_
 refine Ow.callFV rfl Tryz.call316 (fun w' hw'=>vV_ _ _ w') ?_
 refine ko @Nat.add_zero ?_
 first|with_reducible refine ks [] @Nat.add_zero ?_|refine kp @Nat.add_zero ?_
 refine⟨_,(ke @Nat.add_zero),trivial, ?_⟩
 rfl
theorem abz_ (w:World):Rets Tryz.prog 197 #[] w (fun v D=>v= .agg (a32 kL)∧D= []):=by
 refine Rets.enterV Tryz.func197 rfl (rs:= [.cell 0 307]) Tryz.results197 Tryz.ntmps197 ?_
 refine kf ?_
 first|with_reducible refine ks [] @Nat.add_zero ?_|refine kp @Nat.add_zero ?_
 have hkl:kL.length=64:=rfl
 refine Ow.alloc rfl rfl Tryz.zr307 fun b1 _ hw1=> ?_
 refine ko @Nat.add_zero ?_
 first|with_reducible refine ks [] @Nat.add_zero ?_|refine kp @Nat.add_zero ?_
 refine Ow.build (.agg (a32 kL)) rfl (by kernel_rfl) ?_
 refine ko @Nat.add_zero ?_
 first|with_reducible refine ks [] @Nat.add_zero ?_|refine kp @Nat.add_zero ?_
 refine⟨_,(ke @Nat.add_zero),⟨hw1,trivial⟩, ?_⟩
 rfl
end Go.Proofs
end
section
open Go Go.Proofs Go.Sx Go.Dig
namespace Go.Proofs
set_option maxRecDepth 10000
set_option maxHeartbeats 4000000
set_option linter.unusedSimpArgs false
set_option linter.defProp false
def qp_:=And.intro (And.intro (And.intro (And.intro (@we_) (@wo_)) (And.intro (@wb_) (@vd_))) (And.intro (And.intro (@wl_) (@wp_)) (And.intro (@vw_) (@kr_)))) (And.intro (And.intro (And.intro (@xb_) (@vm_)) (And.intro (@k7_) (@vt_))) (And.intro (And.intro (@vc_) (@va_)) (And.intro (@kz_) (@jB_))))
theorem af4_ (b:Nat) (bg:Bool) (st:List UInt32) (rest:List UInt8) (many:Int) (taken:UInt64) (w:World) (hG:GlobE w) (hb:3<b) (hs:st.length=8) (hr:rest.length=64)
  (ho:w.heap[b]? =some (.cells (zX_ bg st rest many taken) 298 (0,0))):
  Rets Tryz.prog 259 #[vp b 0] w (fun v D=> ∃o,D= [(b,o)]∧v= .tuple #[]∧o= .cells (zX_ bg (comp st rest) rest 0 taken) 298 (0,0)):=by
 obtain⟨e0,e1,f0,f1,h0,h1⟩:=hG
 have hbl:=(Array.getElem?_eq_some_iff.1 ho).1
 have hkl:kL.length=64:=rfl
 refine Rets.enterM Tryz.func259 rfl (rs:= []) Tryz.results259 Tryz.ntmps259 ho ?_
 refine kf ?_
 first|with_reducible refine ks [] @qp_ ?_|refine kp @qp_ ?_
 refine Ow.alloc rfl rfl Tryz.zr307 fun b1 hb1 hw1=> ?_
 obtain⟨h01,-⟩:=hb1
 refine ko @qp_ ?_
 first|with_reducible refine ks [] @qp_ ?_|refine kp @qp_ ?_
 rw[←WB_ rest]
 refine Cw.loopG (G:=Nat) [14,15,3,16,17,18,19,20,21,22,23,24,25,26,27,28,29,5,30,31,32,33,34,35,36,37,38,39,40,13] (fun g=> [(13,vi g)]) (fun g=> [(b, .cells (zX_ bg st rest many taken) 298),(b1, .cells (a32 (KG_ rest g)) 307)]) (fun g=>g≤16) (fun g=>16 - g) 0 rfl rfl ?_ ?_
 ·omega
 intro g j hg
 refine kv ?_
 have hlen:=vl_ rest g
 by_cases hlt:g<16
 ·first|with_reducible refine ks [] @qp_ ?_|refine kp @qp_ ?_
  rw[afy_ rest g]
  refine Cw.loopG (G:=Nat) [27,28,29,5,30,31,32,33,34,35,36,37,38,39,26] (fun k=> [(26,vi k)]) (fun k=> [(b, .cells (zX_ bg st rest many taken) 298 (0,0)),(b1, .cells (a32 ((KG_ rest g).set g (acc rest g k))) 307 (0,0))]) (fun k=>k≤4) (fun k=>4 - k) 0 rfl rfl ?_ ?_
  ·omega
  intro k jk hk
  refine kv ?_
  by_cases hk4:k<4
  ·first|with_reducible refine ks [] @qp_ ?_|refine kp @qp_ ?_
   exact Again.mk (k+1) (by omega) (by omega) rfl rfl
  ·have hk:k=4:=by omega
   subst hk
   first|with_reducible refine ks [] @qp_ ?_|refine kp @qp_ ?_
   refine Again.mk (g+1) (by omega) (by omega) ?_ rfl
   rw[aiq_,Ws_]
 ·have hg16:g=16:=by omega
  subst hg16
  first|with_reducible refine ks [] @qp_ ?_|refine kp @qp_ ?_
  rw[adw_]
  refine Cw.loopG (G:=Nat) [41,42,45,46,47,48,49,50,51,52,53,54,55,56,57,58,59,60,61,62,63,64,65,66,67,43,44,6] (fun g=> [(6,vi g)]) (fun g=> [(b, .cells (zX_ bg st rest many taken) 298 (0,0)),(b1, .cells (a32 (wG rest g)) 307)]) (fun g=>16≤g∧g≤64) (fun g=>64 - g) 16 rfl rfl ?_ ?_
  ·omega
  intro g j hg
  refine kv ?_
  obtain⟨hg1,hg2⟩:=hg
  have hlen:=aab_ rest g
  by_cases hlt:g<64
  ·first|with_reducible refine ks [] @qp_ ?_|refine kp @qp_ ?_
   refine Cw.regionO [0,1,2,3,6,7,8,11,12,13,17,18,19,4,9,14,20,5,10,15,16,21,22,23] [23] rfl (by kernel_rfl) (by kernel_rfl) ?_
   simp only[zh_, ↓zc_, ↓za_, ↓zk_, ↓zj_,zb_]
   refine kq @qp_ ?_
   refine Ow.callFV rfl Tryz.call299 (fun w' hw'=>WV_ _ _ _ _ (by omega) (by omega) (by omega) w') ?_
   refine kq @qp_ ?_
   refine Ow.callFV rfl Tryz.call299 (fun w' hw'=>WV_ _ _ _ _ (by omega) (by omega) (by omega) w') ?_
   refine kq @qp_ ?_
   refine Ow.store rfl rfl rfl (ke @qp_) ?_
   refine ko @qp_ ?_
   first|with_reducible refine ks [] @qp_ ?_|refine kp @qp_ ?_
   refine Again.mk (g+1) (by omega) (by omega) ?_ rfl
   rw[afY_ rest g hg1,an9_,an7_];rfl
  ·have hg64:g=64:=by omega
   subst hg64
   rw[akC_]
   have hwl:=Jp_ rest
   first|with_reducible refine ks [] (And.intro @qp_ @h1) ?_|refine kp (And.intro @qp_ @h1) ?_
   refine Ow.alloc rfl rfl Tryz.zr251 fun b2 hb2 hw2=> ?_
   obtain⟨h02,h12,-⟩:=hb2
   refine ko (And.intro @qp_ @h1) ?_
   first|with_reducible refine ks [] (And.intro @qp_ @h1) ?_|refine kp (And.intro @qp_ @h1) ?_
   refine Cw.loopG (G:=Nat) [74,75,76,8,9,77,78,79,80,81,82,83,84,85,86,87,88,89,90,91,92,93,94,95,96,97,98,99,100,101,10,102,103,104,105,106,107,108,109,110,111,112,113,114,115,116,117,118,119,120,121,122,11,123,124,125,126,127,128,129,130,131,132,133,134,135,136,137,138,139,140,141,142,143,73] (fun g=> [(73,vi g)]) (fun g=> [(b, .cells (zX_ bg st rest many taken) 298 (0,0)),(b1, .cells (a32 (Wn_ rest)) 307),(b2, .cells (a32 (rGo st (Wn_ rest) g)) 251)]) (fun g=>g≤64) (fun g=>64 - g) 0 rfl rfl ?_ ?_
   ·omega
   ·intro g j hg
    refine kv ?_
    have hrl:=aeh_ st (Wn_ rest) g hs
    by_cases hlt:g<64
    ·first|with_reducible refine ks [] @qp_ ?_|refine kp @qp_ ?_
     refine Cw.regionO [0,2,6,8,11,14,19,21,22,1,3,7,9,10,12,13,15,16,17,23,4,5,18,20,24,25] [] rfl (by kernel_rfl) (by kernel_rfl) ?_
     simp only[zh_, ↓zc_, ↓za_, ↓zk_, ↓zj_,zb_]
     refine kq @qp_ ?_
     refine Ow.callFV rfl Tryz.call300 (fun w' hw'=>aaD_ _ _ _ _ (by omega) (by omega) (by omega) w') ?_
     refine kq @qp_ ?_
     first|with_reducible refine ks [] @qp_ ?_|refine kp @qp_ ?_
     refine Cw.regionO [0,3,5,8,10,14,16,1,4,6,7,9,11,12,13,15,17,18,19,2,20,21] [] rfl (by kernel_rfl) (by kernel_rfl) ?_
     simp only[zh_, ↓zc_, ↓za_, ↓zk_, ↓zj_,zb_]
     refine kq @qp_ ?_
     refine Ow.callFV rfl Tryz.call300 (fun w' hw'=>aaD_ _ _ _ _ (by omega) (by omega) (by omega) w') ?_
     refine kq @qp_ ?_
     first|with_reducible refine ks [] @qp_ ?_|refine kp @qp_ ?_
     rw[aof_,anP_,anj_,alE_]
     refine Ow.build (.agg (a32 (alR_ (rGo st (Wn_ rest) g) (kL.getD g 0) ((Wn_ rest).getD g 0)))) rfl (by kernel_rfl) ?_
     have hrl2: (alR_ (rGo st (Wn_ rest) g) (kL.getD g 0) ((Wn_ rest).getD g 0)).length=8:=rfl
     refine ko @qp_ ?_
     first|with_reducible refine ks [] @qp_ ?_|refine kp @qp_ ?_
     exact Again.mk (g+1) (by omega) (by omega) rfl rfl
    ·have hg64:g=64:=by omega
     subst hg64
     first|with_reducible refine ks [] @qp_ ?_|refine kp @qp_ ?_
     rw[←abw_ st (rGo st (Wn_ rest) 64) hs]
     refine Cw.loopG (G:=Nat) [145,146,12,147,148,149,150,151,152,153,154,155,156,157,158,159,160,144] (fun k=> [(144,vi k)]) (fun k=> [(b, .cells (zX_ bg (xG_ st (rGo st (Wn_ rest) 64) k) rest many taken) 298 (0,0)),(b1, .cells (a32 (Wn_ rest)) 307),(b2, .cells (a32 (rGo st (Wn_ rest) 64)) 251)]) (fun k=>k≤8) (fun k=>8 - k) 0 rfl rfl ?_ ?_
     ·omega
     intro k jk hk
     refine kv ?_
     have hal:=ZE_ st (rGo st (Wn_ rest) 64) k
     by_cases hk8:k<8
     ·first|with_reducible refine ks [] @qp_ ?_|refine kp @qp_ ?_
      refine Cw.regionO [0,1,2,3,4,6,7,10,11,5,8,9,12,13] [13] rfl (by kernel_rfl) (by kernel_rfl) ?_
      simp only[zh_, ↓zc_, ↓za_, ↓zk_, ↓zj_,zb_]
      refine kq @qp_ ?_
      refine Ow.store rfl rfl rfl (ke @qp_) ?_
      refine ko @qp_ ?_
      first|with_reducible refine ks [] @qp_ ?_|refine kp @qp_ ?_
      refine Again.mk (k+1) (by omega) (by omega) ?_ rfl
      rw[←aci_,aeX_ _ _ _ _ (by omega),if_neg (by omega)]
     ·have hk8':k=8:=by omega
      subst hk8'
      first|with_reducible refine ks [] @qp_ ?_|refine kp @qp_ ?_
      refine⟨_,_,_,(ke @qp_),rfl,⟨hw1,hw2,trivial⟩, ?_⟩
      exact⟨rfl,rfl⟩
end Go.Proofs
end
section
open Go Go.Proofs Go.Sx Go.Dig
namespace Go.Proofs
set_option maxRecDepth 10000
set_option maxHeartbeats 1000000
set_option linter.unusedSimpArgs false
theorem Xg_ (n:Nat):UInt64.ofInt (n:Int)=UInt64.ofNat n:=by
 apply UInt64.toNat.inj
 rw[show UInt64.ofInt (n:Int)=UInt64.ofNat ((n:Int)%2^64).toNat from rfl,UInt64.toNat_ofNat',UInt64.toNat_ofNat']
 omega
theorem al1_ (b o:Nat):q9_ Tryz.prog .eql 337 (vp b o) (.pointer none)=some (.bool false):=by
 simp[q9_,eqX,qX_,jr_,Tryz.underlying337,vp]
theorem ah7_:q9_ Tryz.prog .eql 337 (.pointer none) (.pointer none)=some (.bool true):=by
 simp[q9_,eqX,qX_,jr_,Tryz.underlying337]
theorem aic_ (b o:Nat):q9_ Tryz.prog .neq 337 (vp b o) (.pointer none)=some (.bool true):=by
 simp[q9_,eqX,qX_,jr_,Tryz.underlying337,vp]
theorem acY_:q9_ Tryz.prog .neq 337 (.pointer none) (.pointer none)=some (.bool false):=by
 simp[q9_,eqX,qX_,jr_,Tryz.underlying337]
set_option linter.defProp false
def jf_:=And.intro (And.intro (And.intro (And.intro (@we_) (@wo_)) (And.intro (@wb_) (And.intro (@vd_) (@wl_)))) (And.intro (And.intro (@wp_) (@vw_)) (And.intro (@kr_) (And.intro (@xb_) (@vm_))))) (And.intro (And.intro (And.intro (@k7_) (@vt_)) (And.intro (@vc_) (And.intro (@va_) (@kz_)))) (And.intro (And.intro (@jB_) (@al1_)) (And.intro (@ah7_) (And.intro (@aic_) (@acY_)))))
theorem KE_ (b:Nat) (bg:Bool) (st:List UInt32) (rest:List UInt8) (many:Int) (taken:UInt64) (w:World) (hG:GlobE w) (hb:3<b) (hs:st.length=8) (hr:rest.length=64)
  (ho:w.heap[b]? =some (.cells (zX_ bg st rest many taken) 298 (0,0))):
  Rets Tryz.prog 226 #[vp b 0] w (fun v D=> ∃o,D= [(b,o)]∧v= .tuple #[]∧o= .cells (zX_ true (if bg then st else initL) rest many taken) 298 (0,0)):=by
 obtain⟨e0,e1,f0,f1,h0,h1⟩:=hG
 have hil:initL.length=8:=rfl
 refine Rets.enterM Tryz.func226 rfl (rs:= []) Tryz.results226 Tryz.ntmps226 ho ?_
 refine kf ?_
 cases bg
 ·first|with_reducible refine ks [] (And.intro @jf_ @h0) ?_|refine kp (And.intro @jf_ @h0) ?_
  refine⟨_,_,_,(ke @jf_),rfl,trivial, ?_⟩
  exact⟨rfl,rfl⟩
 ·first|with_reducible refine ks [] (And.intro @jf_ @h0) ?_|refine kp (And.intro @jf_ @h0) ?_
  refine⟨_,_,_,(ke @jf_),rfl,trivial, ?_⟩
  exact⟨rfl,rfl⟩
theorem QL_ (b:Nat) (s:Hs) (taken:UInt64) (x:UInt8) (w:World) (hG:GlobE w) (hb:3<b) (hs:s.Ok)
  (ho:w.heap[b]? =some (.cells (kD_ s taken) 298 (0,0))):
  Rets Tryz.prog 227 #[vp b 0,v8 x] w (fun v D=> ∃o,D= [(b,o)]∧v= .tuple #[]∧o= .cells (kD_ (Xk_ s x) taken) 298 (0,0)):=by
 obtain⟨st,rest,many⟩:=s
 obtain⟨hst,hrt,hmn⟩:=hs
 simp only[kD_] at ho hst hrt hmn ⊢
 refine Rets.enterM Tryz.func227 rfl (rs:= []) Tryz.results227 Tryz.ntmps227 ho ?_
 refine kf ?_
 first|with_reducible refine ks [] @jf_ ?_|refine kp @jf_ ?_
 refine Cw.regionO [0,1,2,3,5,6,7,4,8,9] [9] rfl (by kernel_rfl) (by kernel_rfl) ?_
 simp only[zh_, ↓zc_, ↓za_, ↓zk_, ↓zj_,zb_]
 refine kq @jf_ ?_
 refine Ow.store rfl rfl rfl (ke @jf_) ?_
 refine ko @jf_ ?_
 first|with_reducible refine ks [] @jf_ ?_|refine kp @jf_ ?_
 unfold Xk_
 by_cases h64:many+1=64
 ·simp only[h64, ↓reduceIte]
  have h64': (many:Int)+1=64:=by omega
  have h63:many=63:=by omega
  subst h63
  rw[ani_ _ _ _ _ _ _ (by omega)]
  first|with_reducible refine ks [] @jf_ ?_|refine kp @jf_ ?_
  refine Ow.callM rfl rfl Tryz.call259 (by simp[keys]) (fun w' hw'=>af4_ _ _ _ _ _ _ w' (GlobE.of hG hw' (by simp[keys];omega)) hb hst (by simp[hrt]) (hw'.has _ _ List.mem_cons_self)) ?_
  refine ko @jf_ ?_
  first|with_reducible refine ks [] @jf_ ?_|refine kp @jf_ ?_
  refine⟨_,_,_,(ke @jf_),rfl,trivial, ?_⟩
  exact⟨rfl,rfl⟩
 ·rw[am0_ _ _ _ _ _ _ (by omega)]
  simp only[h64, ↓reduceIte]
  first|with_reducible refine ks [] @jf_ ?_|refine kp @jf_ ?_
  refine⟨_,_,_,(ke @jf_),rfl,trivial, ?_⟩
  exact⟨rfl,by rw[if_neg h64];simp⟩
theorem aaY_ (b:Nat) (bg:Bool) (s:Hs) (taken:UInt64) (x:Value) (b2 off:Nat) (l:List (List UInt8)) (arr:Array Value) (E:TypeId) (fz:Nat×Nat) (w:World) (hG:GlobE w) (hb:3<b) (hs:s.Ok) (hne:0<l.length→b≠b2)
  (hS:StrS w x l b2 off arr E fz) (hn:l.length<1099511627776) (hz: ∀i,i<l.length→(l.getD i []).length<1099511627776)
  (ho:w.heap[b]? =some (.cells (zX_ bg s.st s.rest s.many taken) 298 (0,0))):
  Rets Tryz.prog 185 #[vp b 0,x] w (fun v D=> ∃o,D= [(b,o)]∧v= .tuple #[]∧o= .cells (kD_ (q7_ (wx_ bg s) l.flatten) (k3_ taken l)) 298 (0,0)):=by
 obtain⟨e0,e1,f0,f1,h0,h1⟩:=id hG
 obtain⟨st,rest,many⟩:=s
 obtain⟨hst,hrt,hmn⟩:=id hs
 simp only[kD_] at ho hst hrt hmn ⊢
 refine Rets.enterM Tryz.func185 rfl (rs:= []) Tryz.results185 Tryz.ntmps185 ho ?_
 refine kf ?_
 first|with_reducible refine ks [] @jf_ ?_|refine kp @jf_ ?_
 refine Ow.callM rfl rfl Tryz.call226 (by simp[keys]) (fun w' hw'=>KE_ _ _ _ _ _ _ w' (GlobE.of hG hw' (by simp[keys];omega)) hb hst hrt (hw'.has _ _ List.mem_cons_self)) ?_
 refine ko @jf_ ?_
 ((try with_reducible refine Cw.go [] ?_);(try simp(disch:=(first|assumption|omega| (simp only[qF_,qC_,UInt64.reduceToNat];try omega))) only[↓Sx.S0,Sx.S1,Tryz.fx,jf_,Nat.reduceAdd,Nat.reducePow,Int.reducePow,Nat.reduceBEq, ↓reduceIte,UInt8.reduceToNat,UInt16.reduceToNat,UInt32.reduceToNat,UInt64.reduceToNat,Int.reduceToNat,hS.len]))
 have e:zX_ true (if bg=true then st else initL) rest many taken=kD_ (q7_ (wx_ bg ⟨st,rest,many⟩) (l.take 0).flatten) (k3_ taken (l.take 0)):=by cases bg<;>rfl
 rw[e]
 have hok0:=Wg_ bg hs
 generalize wx_ bg ⟨st,rest,many⟩=S0 at*
 refine Cw.loopG (G:=Nat) [14,15,16,5,17,18,19,20,21,6,22,23,24,25,26,27,28,29,30,31,32,33,34,35,36,37,38,13] (fun g=> [(13,vi g)]) (fun g=> [(b, .cells (kD_ (q7_ S0 (l.take g).flatten) (k3_ taken (l.take g))) 298 (0,0))]) (fun g=>g≤l.length) (fun g=>l.length - g) 0 rfl rfl ?_ ?_
 ·omega
 intro g j hg
 refine kv ?_
 by_cases hlt:g<l.length
 ·have hlg:=hS.get g hlt
  have hb2:=hS.has (by omega)
  have hne2:=hne (by omega)
  have hzg:=hz g hlt
  ((try with_reducible refine Cw.go [] ?_);(try simp(disch:=(first|assumption|omega| (simp only[qF_,qC_,UInt64.reduceToNat];try omega))) only[↓Sx.S0,Sx.S1,Tryz.fx,jf_,Nat.reduceAdd,Nat.reducePow,Int.reducePow,Nat.reduceBEq, ↓reduceIte,UInt8.reduceToNat,UInt16.reduceToNat,UInt32.reduceToNat,UInt64.reduceToNat,Int.reduceToNat,Sx.loadV_one,hb2,hlg,hS.idx]))
  have hok:=vu_ (l.take g).flatten hok0
  rw[show kD_ (q7_ S0 (l.take g).flatten) (k3_ taken (l.take g))=kD_ (q7_ (q7_ S0 (l.take g).flatten) ((l.getD g []).take 0)) (k3_ taken (l.take g)) from rfl]
  refine Cw.loopG (G:=Nat) [20,21,6,22,23,24,25,26,27,19] (fun k=> [(19,vi k)]) (fun k=> [(b, .cells (kD_ (q7_ (q7_ S0 (l.take g).flatten) ((l.getD g []).take k)) (k3_ taken (l.take g))) 298 (0,0))]) (fun k=>k≤ (l.getD g []).length) (fun k=>(l.getD g []).length - k) 0 rfl rfl ?_ ?_
  ·omega
  intro k jk hk
  refine kv ?_
  by_cases hlk:k< (l.getD g []).length
  ·first|with_reducible refine ks [] @jf_ ?_|refine kp @jf_ ?_
   refine Ow.callM rfl rfl Tryz.call227 (by simp[keys]) (fun w' hw'=>QL_ _ _ _ _ w' (GlobE.of hG hw' (by simp[keys];omega)) hb (vu_ _ hok) (hw'.has _ _ List.mem_cons_self)) ?_
   refine ko @jf_ ?_
   first|with_reducible refine ks [] @jf_ ?_|refine kp @jf_ ?_
   refine Again.mk (k+1) (by omega) (by omega) ?_ rfl
   rw[Kp_ _ _ _ hlk]
  ·have hke:k=(l.getD g []).length:=by omega
   subst hke
   have hok2:=vu_ (l.getD g []) hok
   have hok3:=hok2.st
   have hok4:=hok2.rest
   rw[List.take_length]
   unfold kD_
   first|with_reducible refine ks [] @jf_ ?_|refine kp @jf_ ?_
   refine Again.mk (g+1) (by omega) (by omega) ?_ rfl
   rw[W1_ _ _ hlt,j0_,acg_ _ _ _ hlt,show UInt64.ofInt ((l.getD g []).length:Int)=UInt64.ofNat (l.getD g []).length from Xg_ _]
 ·have hge:g=l.length:=by omega
  subst hge
  first|with_reducible refine ks [] @jf_ ?_|refine kp @jf_ ?_
  rw[List.take_length]
  refine⟨_,_,_,(ke @jf_),rfl,trivial, ?_⟩
  exact⟨rfl,rfl⟩
end Go.Proofs
end
namespace Go.Dig
open Go.Sx
def kM_ (m:Nat):Nat:=(120 - m)%64
def lenB (t:UInt64) (g:Nat):UInt8:=UInt8.ofNat (jV_ (8*t) (56 - 8*g)).toNat
def len8 (t:UInt64):List UInt8:=(List.range 8).map (lenB t)
def outB (st:List UInt32) (j:Nat):UInt8:=UInt8.ofNat (qH_ (st.getD (j / 4) 0) (24 - 8* (j%4))).toNat
def xg_ (st:List UInt32) (k:Nat):List UInt8:=(List.range 32).map fun j=>if j<k then outB st j else 0
def ad1_ (s:Hs) (taken:UInt64):Hs:=q7_ (q7_ (Xk_ s 128) (List.replicate (kM_ (Xk_ s 128).many) 0)) (len8 taken)
def hsum (s:Hs) (taken:UInt64):List UInt8:=xg_ (ad1_ s taken).st 32
def H0:Hs:=⟨initL,List.replicate 64 0,0⟩
theorem ann_:H0.Ok:=⟨rfl,by simp[H0],by show(0:Nat)<64;omega⟩
def sumV (l:List (List UInt8)):List UInt8:=hsum (q7_ H0 l.flatten) (k3_ 0 l)
theorem ahx_ {s:Hs} (x:UInt8) (h:s.Ok): (Xk_ s x).many=(s.many+1)%64:=by
 have:=h.many
 unfold Xk_
 split
 ·show 0=_;omega
 ·show s.many+1=_;omega
theorem aeW_ {s:Hs} (l:List UInt8) (h:s.Ok): (q7_ s l).many=(s.many+l.length)%64:=by
 induction l generalizing s with
 |nil=>have:=h.many;show s.many=_;simp;omega
 |cons x r ih=>
  show(q7_ (Xk_ s x) r).many=_
  rw[ih (KT_ x h),ahx_ x h,List.length_cons];omega
theorem agz_ (s:Hs) (x:UInt8) (j:Nat):q7_ s (List.replicate (j+1) x)=Xk_ (q7_ s (List.replicate j x)) x:=by
 rw[List.replicate_succ',j0_];rfl
theorem outPre_length (st:List UInt32) (k:Nat): (xg_ st k).length=32:=by simp[xg_]
theorem JZ_ (st:List UInt32):xg_ st 0=List.replicate 32 0:=by
 apply List.ext_getElem
 ·simp[xg_]
 intro k hk1 hk2
 simp only[xg_,List.getElem_map,List.getElem_range,List.getElem_replicate]
 rw[if_neg (by omega)]
theorem kj_ (st:List UInt32) (k:Nat): (xg_ st k).set k (outB st k)=xg_ st (k+1):=by
 apply List.ext_getElem
 ·simp[xg_]
 intro j hk1 hk2
 rw[List.getElem_set]
 by_cases h:k=j
 ·subst h;simp[xg_]
 ·rw[if_neg h]
  simp only[xg_,List.getElem_map,List.getElem_range]
  by_cases h1:j<k
  ·rw[if_pos h1,if_pos (by omega)]
  ·rw[if_neg h1,if_neg (by omega)]
theorem VN_ (st:List UInt32) (i r:Nat) (h:r<4):outB st (4*i+r)=UInt8.ofNat (qH_ (st.getD i 0) (24 - 8*r)).toNat:=by
 unfold outB
 rw[show(4*i+r) / 4=i by omega,show(4*i+r)%4=r by omega]
theorem Wo_ (x:UInt32):qH_ x 0=x:=by
 apply UInt32.toNat.inj
 have:=x.toNat_lt
 rw[qH_,UInt32.toNat_ofNat']
 simp
theorem ac3_ (st:List UInt32) (i:Nat):
  ((((xg_ st (4*i)).set (4*i) (UInt8.ofNat (qH_ (st.getD i 0) 24).toNat)).set (4*i+1) (UInt8.ofNat (qH_ (st.getD i 0) 16).toNat)).set (4*i+2) (UInt8.ofNat (qH_ (st.getD i 0) 8).toNat)).set (4*i+3) (UInt8.ofNat (st.getD i 0).toNat)=xg_ st (4* (i+1)):=by
 have h0:=VN_ st i 0 (by omega)
 have h1:=VN_ st i 1 (by omega)
 have h2:=VN_ st i 2 (by omega)
 have h3:=VN_ st i 3 (by omega)
 rw[Nat.add_zero] at h0
 rw[show 24 - 8*3=0 from rfl,Wo_] at h3
 rw[←h3,←h2,←h1,←h0,kj_,kj_,kj_,kj_]
 rw[show 4* (i+1)=4*i+1+1+1+1 by omega]
theorem Js_ (t:UInt64): (len8 t).length=8:=by simp[len8]
theorem ahR_ (t:UInt64) (g:Nat) (h:g<8): (len8 t).getD g 0=lenB t g:=by simp[len8,List.getD_eq_getElem?_getD,h]
end Go.Dig
section
open Go Go.Proofs Go.Sx Go.Dig
namespace Go.Proofs
set_option maxRecDepth 10000
set_option maxHeartbeats 1000000
set_option linter.unusedSimpArgs false
set_option linter.defProp false
def jp_:=And.intro (And.intro (And.intro (And.intro (@we_) (@wo_)) (And.intro (@wb_) (And.intro (@vd_) (@wl_)))) (And.intro (And.intro (@wp_) (@vw_)) (And.intro (@kr_) (And.intro (@xb_) (@vm_))))) (And.intro (And.intro (And.intro (@k7_) (@vt_)) (And.intro (@vc_) (And.intro (@va_) (@kz_)))) (And.intro (And.intro (@jB_) (@al1_)) (And.intro (@ah7_) (And.intro (@aic_) (@acY_)))))
theorem akE_:z8_ Tryz.prog 298=some (.agg (zX_ false (List.replicate 8 0) (List.replicate 64 0) 0 0)):=id (by kernel_rfl)
theorem Ku_ (bg:Bool) (st:List UInt32) (rest:List UInt8) (many:Int) (taken:UInt64):Value.cells (.agg (zX_ bg st rest many taken))=zX_ bg st rest many taken:=ze_ _
theorem wB_ {bg bg':Bool} {st st':List UInt32} {rest rest':List UInt8} {many many':Int} {taken taken':UInt64} {E:TypeId} (h:st.length=8∧rest.length=64∧st'.length=8∧rest'.length=64):
  zs_ (some (true,75)) (some (.cells (zX_ bg' st' rest' many' taken') E (0,0))) 0 (.agg (zX_ bg st rest many taken))=some (.cells (zX_ bg st rest many taken) E (0,0)):=
 xb_ _ ⟨h.1,h.2.1,jO_ h.2.2⟩
theorem afT_ (b:Nat) (bg:Bool) (s:Hs) (taken:UInt64) (w:World) (hG:GlobE w) (hb:3<b) (hs:s.Ok)
  (ho:w.heap[b]? =some (.cells (zX_ bg s.st s.rest s.many taken) 298 (0,0))):
  Rets Tryz.prog 186 #[vp b 0] w (fun v D=>v= .agg (a8 (hsum (wx_ bg s) taken))∧D= []):=by
 obtain⟨e0,e1,f0,f1,h0,h1⟩:=id hG
 obtain⟨st,rest,many⟩:=s
 obtain⟨hst,hrt,hmn⟩:=id hs
 simp only at ho hst hrt hmn ⊢
 refine Rets.enterV Tryz.func186 rfl (rs:= [.cell 2 24]) Tryz.results186 Tryz.ntmps186 ?_
 refine kf ?_
 first|with_reducible refine ks [] @jp_ ?_|refine kp @jp_ ?_
 refine Ow.alloc rfl rfl Tryz.zr24 fun b1 hb1 hw1=> ?_
 refine ko @jp_ ?_
 first|with_reducible refine ks [] @jp_ ?_|refine kp @jp_ ?_
 refine Ow.alloc rfl rfl akE_ fun b2 hb2 hw2=> ?_
 obtain⟨h12,-⟩:=hb2
 have hbl:=(Array.getElem?_eq_some_iff.1 ho).1
 rw[Ku_]
 refine ko @jp_ ?_
 first|with_reducible refine ks [] (And.intro @jp_ (And.intro @ho (@wB_))) ?_|refine kp (And.intro @jp_ (And.intro @ho (@wB_))) ?_
 refine Ow.callM rfl rfl Tryz.call226 (by simp[keys]) (fun w' hw'=>KE_ _ _ _ _ _ _ w' (GlobE.of hG hw' (by simp[keys];omega)) (by omega) hst hrt (hw'.has _ _ (List.mem_cons_of_mem _ List.mem_cons_self))) ?_
 refine ko @jp_ ?_
 first|with_reducible refine ks [] @jp_ ?_|refine kp @jp_ ?_
 have e:zX_ true (if bg=true then st else initL) rest many taken=kD_ (wx_ bg ⟨st,rest,many⟩) taken:=by cases bg<;>rfl
 rw[e]
 have hok0:=Wg_ bg hs
 generalize wx_ bg ⟨st,rest,many⟩=S0 at*
 refine Ow.callM rfl rfl Tryz.call227 (by simp[keys]) (fun w' hw'=>QL_ _ _ _ 128 w' (GlobE.of hG hw' (by simp[keys];omega)) (by omega) hok0 (hw'.has _ _ (List.mem_cons_of_mem _ List.mem_cons_self))) ?_
 refine ko @jp_ ?_
 have hok1:=KT_ 128 hok0
 have ep:ad1_ S0 taken=q7_ (q7_ (Xk_ S0 128) (List.replicate (kM_ (Xk_ S0 128).many) 0)) (len8 taken):=rfl
 unfold hsum
 rw[ep]
 generalize Xk_ S0 128=S1 at*
 first|with_reducible refine ks [] @jp_ ?_|refine kp @jp_ ?_
 rw[show kD_ S1 taken=kD_ (q7_ S1 (List.replicate 0 0)) taken from rfl]
 have hz: (S1.many+kM_ S1.many)%64=56∧kM_ S1.many<64:=by have:=hok1.many;unfold kM_;omega
 refine Cw.loopG (G:=Nat) [15,16,17,18] (fun g=> []) (fun g=> [(b1, .cells (a8 (List.replicate 32 0)) 24 (0,0)),(b2, .cells (kD_ (q7_ S1 (List.replicate g 0)) taken) 298 (0,0))]) (fun g=>g≤kM_ S1.many) (fun g=>kM_ S1.many - g) 0 rfl rfl ?_ ?_
 ·omega
 intro g j hg
 refine kv ?_
 have hokg:=vu_ (List.replicate g 0) hok1
 have hm:=aeW_ (List.replicate g 0) hok1
 rw[List.length_replicate] at hm
 have hg1:=hokg.st
 have hg2:=hokg.rest
 by_cases hlt:g<kM_ S1.many
 ·have hzz: (S1.many+g)%64≠56:=by have:=hok1.many;unfold kM_ at hlt;omega
  unfold kD_
  first|with_reducible refine ks [] @jp_ ?_|refine kp @jp_ ?_
  refine Ow.callM rfl rfl Tryz.call227 (by simp[keys]) (fun w' hw'=>QL_ _ _ _ 0 w' (GlobE.of hG hw' (by simp[keys];omega)) (by omega) hokg (hw'.has _ _ (List.mem_cons_of_mem _ List.mem_cons_self))) ?_
  refine ko @jp_ ?_
  first|with_reducible refine ks [] @jp_ ?_|refine kp @jp_ ?_
  refine Again.mk (g+1) (by omega) (by omega) ?_ rfl
  rw[agz_];rfl
 ·have hge:g=kM_ S1.many:=by omega
  subst hge
  unfold kD_
  first|with_reducible refine ks [] @jp_ ?_|refine kp @jp_ ?_
  generalize q7_ S1 (List.replicate (kM_ S1.many) 0)=S2 at*
  rw[show zX_ true S2.st S2.rest S2.many taken=kD_ (q7_ S2 ((len8 taken).take 0)) taken from rfl]
  have h8:=Js_ taken
  refine Cw.loopG (G:=Nat) [19,20,23,24,25,26,27,28,29,21,22,4] (fun k=> [(4,vi (56 - 8*k))]) (fun k=> [(b1, .cells (a8 (List.replicate 32 0)) 24 (0,0)),(b2, .cells (kD_ (q7_ S2 ((len8 taken).take k)) taken) 298 (0,0))]) (fun k=>k≤8) (fun k=>8 - k) 0 rfl rfl ?_ ?_
  ·omega
  intro k jk hk
  refine kv ?_
  have hokk:=vu_ ((len8 taken).take k) hokg
  have hk1:=hokk.st
  have hk2:=hokk.rest
  by_cases hk8:k<8
  ·unfold kD_
   first|with_reducible refine ks [] @jp_ ?_|refine kp @jp_ ?_
   rw[show(56 - 8* (k:Int)).toNat=56 - 8*k from by omega]
   refine Ow.callM rfl rfl Tryz.call227 (by simp[keys]) (fun w' hw'=>QL_ _ _ _ (lenB taken k) w' (GlobE.of hG hw' (by simp[keys];omega)) (by omega) hokk (hw'.has _ _ (List.mem_cons_of_mem _ List.mem_cons_self))) ?_
   refine ko @jp_ ?_
   first|with_reducible refine ks [] @jp_ ?_|refine kp @jp_ ?_
   refine Again.mk (k+1) (by omega) (by omega) ?_ ?_
   ·rw[Kp_ _ _ _ (by omega),ahR_ _ _ hk8];rfl
   ·rw[show(56 - 8* ((k+1:Nat):Int))=56 - 8* (k:Int) - 8 from by omega];rfl
  ·have hke:k=8:=by omega
   subst hke
   first|with_reducible refine ks [] @jp_ ?_|refine kp @jp_ ?_
   rw[List.take_of_length_le (show(len8 taken).length≤8 by omega)] at*
   generalize q7_ S2 (len8 taken)=S3 at*
   refine Ow.alloc rfl rfl Tryz.zr24 fun b3 hb3 hw3=> ?_
   obtain⟨h13,h23,-⟩:=hb3
   unfold kD_
   refine ko @jp_ ?_
   first|with_reducible refine ks [] @jp_ ?_|refine kp @jp_ ?_
   rw[show a8 (List.replicate 32 0)=a8 (xg_ S3.st (4*0)) from by rw[JZ_]]
   have h3s:=(vu_ (len8 taken) hokg).st
   have hS3:S3.st.length=8:=hk1
   refine Cw.loopG (G:=Nat) [33,34,35,6,7,36,37,38,39,40,41,42,43,44,45,46,47,48,49,50,51,52,53,54,55,56,57,58,59,60,61,62,32] (fun i=> [(32,vi i)]) (fun i=> [(b1, .cells (a8 (xg_ S3.st (4*0))) 24 (0,0)),(b2, .cells (zX_ true S3.st S3.rest S3.many taken) 298 (0,0)),(b3, .cells (a8 (xg_ S3.st (4*i))) 24 (0,0))]) (fun i=>i≤8) (fun i=>8 - i) 0 rfl rfl ?_ ?_
   ·omega
   intro i ji hi
   refine kv ?_
   have hol:=outPre_length S3.st (4*i)
   have hol0:=outPre_length S3.st (4*0)
   by_cases hi8:i<8
   ·first|with_reducible refine ks [] @jp_ ?_|refine kp @jp_ ?_
    refine Again.mk (i+1) (by omega) (by omega) ?_ rfl
    rw[ac3_]
   ·have hie:i=8:=by omega
    subst hie
    first|with_reducible refine ks [] @jp_ ?_|refine kp @jp_ ?_
    rw[show 4*8=32 from rfl]
    refine⟨_,(ke @jp_),⟨hw1,hw2,hw3,trivial⟩, ?_⟩
    rfl
end Go.Proofs
end
section
open Go Go.Proofs Go.Sx Go.Dig
namespace Go.Proofs
set_option maxRecDepth 10000
set_option maxHeartbeats 1000000
set_option linter.unusedSimpArgs false
set_option linter.defProp false
def wX_:=And.intro (And.intro (And.intro (And.intro (@we_) (@wo_)) (And.intro (@wb_) (And.intro (@vd_) (@wl_)))) (And.intro (And.intro (@wp_) (@vw_)) (And.intro (@kr_) (And.intro (@xb_) (@vm_))))) (And.intro (And.intro (And.intro (@k7_) (@vt_)) (And.intro (@vc_) (And.intro (@va_) (@kz_)))) (And.intro (And.intro (@jB_) (@al1_)) (And.intro (@ah7_) (And.intro (@aic_) (@acY_)))))
theorem ahv_ (x:Value) (b2 off:Nat) (l:List (List UInt8)) (arr:Array Value) (E:TypeId) (fz:Nat×Nat) (w:World) (hG:GlobE w)
  (hS:StrS w x l b2 off arr E fz) (hn:l.length<1099511627776) (hz: ∀i,i<l.length→(l.getD i []).length<1099511627776):
  Rets Tryz.prog 118 #[x] w (fun v D=>v= .agg (a8 (sumV l))∧D= []):=by
 obtain⟨e0,e1,f0,f1,h0,h1⟩:=id hG
 have hg1:3<w.heap.size:=(Array.getElem?_eq_some_iff.1 h1).1
 have hbl:0<l.length→b2<w.heap.size:=fun h=>(Array.getElem?_eq_some_iff.1 (hS.has h)).1
 refine Rets.enterV Tryz.func118 rfl (rs:= [.cell 2 24]) Tryz.results118 Tryz.ntmps118 ?_
 refine kf ?_
 first|with_reducible refine ks [] @wX_ ?_|refine kp @wX_ ?_
 refine Ow.alloc rfl rfl Tryz.zr24 fun b1 hb1 hw1=> ?_
 refine ko @wX_ ?_
 first|with_reducible refine ks [] @wX_ ?_|refine kp @wX_ ?_
 refine Ow.alloc rfl rfl akE_ fun b3 hb3 hw3=> ?_
 obtain⟨h13,-⟩:=hb3
 rw[Ku_]
 refine ko @wX_ ?_
 first|with_reducible refine ks [] @wX_ ?_|refine kp @wX_ ?_
 refine Ow.callM rfl rfl Tryz.call185 (by simp[keys]) (fun w' hw'=>aaY_ _ _ ⟨List.replicate 8 0,List.replicate 64 0,0⟩ _ _ _ _ _ _ _ _ w' (GlobE.of hG hw' (by simp[keys];omega)) (by omega) ⟨by simp,by simp,by simp⟩ (fun h=>by have:=hbl h;omega) (hS.old hw' (fun h=>by have:=hbl h;simp[keys];omega)) hn hz (hw'.has _ _ (List.mem_cons_of_mem _ List.mem_cons_self))) ?_
 refine ko @wX_ ?_
 first|with_reducible refine ks [] @wX_ ?_|refine kp @wX_ ?_
 have hok:=vu_ l.flatten ann_
 have e:wx_ false ⟨List.replicate 8 0,List.replicate 64 0,0⟩=H0:=rfl
 rw[e]
 refine Ow.callFV rfl Tryz.call186 (fun w' hw'=>afT_ _ true _ _ w' (GlobE.of hG hw' (by simp[keys];omega)) (by omega) hok (hw'.has _ _ (List.mem_cons_of_mem _ List.mem_cons_self))) ?_
 have hsl: (hsum (wx_ true (q7_ H0 l.flatten)) (k3_ 0 l)).length=32:=outPre_length _ _
 refine ko @wX_ ?_
 first|with_reducible refine ks [] @wX_ ?_|refine kp @wX_ ?_
 refine⟨_,(ke @wX_),⟨hw1,hw3,trivial⟩, ?_⟩
 rfl
end Go.Proofs
end
namespace Go.Dig
open Go.Sx
def quoN (t:UInt64):Nat→UInt64
 |0=>t
 |n+1=>quoN t n / 256
theorem afo_ (t:UInt64) (n:Nat): (quoN t n).toNat=t.toNat / 256^n:=by
 induction n with
 |zero=>simp[quoN]
 |succ n ih=>
  show(quoN t n / 256).toNat=_
  rw[UInt64.toNat_div,ih,Nat.pow_succ,Nat.div_div_eq_div_mul];rfl
def ami_ (t:UInt64) (j:Nat):UInt8:=UInt8.ofNat (jV_ t (56 - 8*j)).toNat
theorem ajx_ (t:UInt64) (i:Nat) (h:i<8):UInt8.ofNat (quoN t i%256).toNat=ami_ t (7 - i):=by
 apply UInt8.toNat.inj
 unfold ami_
 rw[UInt8.toNat_ofNat',UInt8.toNat_ofNat',UInt64.toNat_mod,afo_,jV_,UInt64.toNat_ofNat']
 have e:56 - 8* (7 - i)=8*i:=by omega
 have ht:=t.toNat_lt
 have hd:t.toNat / 2^ (8*i)≤t.toNat:=Nat.div_le_self _ _
 rw[e,Nat.mod_eq_of_lt (a:=t.toNat / 2^ (8*i)) (by omega)]
 have e2:256^i=2^ (8*i):=by rw[Nat.pow_mul]
 rw[e2,show(256:UInt64).toNat=256 from rfl]
 omega
def jJ_ (t:UInt64) (i:Nat):List UInt8:=(List.range 8).map fun j=>if 8≤j+i then ami_ t j else 0
theorem XS_ (t:UInt64) (i:Nat): (jJ_ t i).length=8:=by simp[jJ_]
theorem aaE_ (t:UInt64):jJ_ t 0=List.replicate 8 0:=by
 apply List.ext_getElem
 ·simp[jJ_]
 intro k hk1 hk2
 have:k<8:=by simpa [jJ_] using hk1
 simp only[jJ_,List.getElem_map,List.getElem_range,List.getElem_replicate]
 rw[if_neg (by omega)]
theorem aas_ (t:UInt64) (i:Nat) (h:i<8): (jJ_ t i).set (7 - i) (UInt8.ofNat (quoN t i%256).toNat)=jJ_ t (i+1):=by
 rw[ajx_ t i h]
 apply List.ext_getElem
 ·simp[jJ_]
 intro j hj1 hj2
 have hj:j<8:=by simpa [jJ_] using hj2
 rw[List.getElem_set]
 by_cases h1:7 - i=j
 ·rw[if_pos h1]
  simp only[jJ_,List.getElem_map,List.getElem_range]
  rw[if_pos (by omega),h1]
 ·rw[if_neg h1]
  simp only[jJ_,List.getElem_map,List.getElem_range]
  by_cases h2:8≤j+i
  ·rw[if_pos h2,if_pos (by omega)]
  ·rw[if_neg h2,if_neg (by omega)]
theorem abp_ (t:UInt64):jJ_ (8*t) 8=len8 t:=by
 unfold jJ_ len8
 apply List.map_congr_left
 intro j hj
 rw[if_pos (by omega)];rfl
def padR (m:List UInt8):List UInt8:=m++ [128]++List.replicate (kM_ ((m.length+1)%64)) 0++len8 (UInt64.ofNat m.length)
theorem Kb_ (n:Nat): (n+kM_ (n%64))%64=56∧kM_ (n%64)<64:=by unfold kM_;omega
theorem acB_ (m:List UInt8): (padR m).length%64=0∧(padR m).length≤m.length+72:=by
 have:=Kb_ (m.length+1)
 simp only[padR,List.length_append,List.length_replicate,Js_,List.length_cons,List.length_nil]
 omega
def shaR (m:List UInt8):List UInt8:=xg_ (wE_ initL (padR m) ((padR m).length / 64)) 32
theorem afb_ (st s:List UInt32):xG_ st s 8= [st.getD 0 0+s.getD 0 0,st.getD 1 0+s.getD 1 0,st.getD 2 0+s.getD 2 0,st.getD 3 0+s.getD 3 0,st.getD 4 0+s.getD 4 0,st.getD 5 0+s.getD 5 0,st.getD 6 0+s.getD 6 0,st.getD 7 0+s.getD 7 0]:=rfl
end Go.Dig
section
open Go Go.Proofs Go.Sx Go.Dig
namespace Go.Proofs
set_option maxRecDepth 10000
set_option maxHeartbeats 1000000
set_option linter.unusedSimpArgs false
set_option linter.defProp false
def zP_:= @jB_
theorem Xb_ (m:List UInt8) (hm:m.length<1099511627776) (w:World):
  Rets Tryz.prog 136 #[vs m] w (fun v D=>v=vs (padR m)∧D= []):=by
 refine Rets.enterV Tryz.func136 rfl (rs:= [.tmp 2]) Tryz.results136 Tryz.ntmps136 ?_
 refine kf ?_
 first|with_reducible refine ks [] @zP_ ?_|refine kp @zP_ ?_
 have hz:=Kb_ (m.length+1)
 rw[show m++ [128]=m++ [128]++List.replicate 0 0 from(List.append_nil _).symm]
 refine Cw.loopG (G:=Nat) [9,10,11,12,13,14,3] (fun g=> [(3,vs (m++ [128]++List.replicate g 0))]) (fun g=> []) (fun g=>g≤kM_ ((m.length+1)%64)) (fun g=>kM_ ((m.length+1)%64) - g) 0 rfl rfl ?_ ?_
 ·omega
 intro g j hg
 refine kv ?_
 have hl: (m++ [128]++List.replicate g 0).length=m.length+1+g:=by simp;omega
 by_cases hlt:g<kM_ ((m.length+1)%64)
 ·have h56: (m.length+1+g)%64≠56:=by unfold kM_ at*;omega
  first|with_reducible refine ks [] (And.intro @zP_ @hl) ?_|refine kp (And.intro @zP_ @hl) ?_
  refine Again.mk (g+1) (by omega) (by omega) rfl ?_
  rw[show m++ [128]++List.replicate (g+1) 0=m++ [128]++List.replicate g 0++ [0] from by rw[List.replicate_succ'];simp]
  rfl
 ·have hge:g=kM_ ((m.length+1)%64):=by omega
  subst hge
  first|with_reducible refine ks [] (And.intro @zP_ @hl) ?_|refine kp (And.intro @zP_ @hl) ?_
  refine Ow.alloc rfl rfl Tryz.zr306 fun b1 hb1 hw1=> ?_
  rw[show UInt64.ofInt (m.length:Int)=UInt64.ofNat m.length from Xg_ _]
  refine ko @zP_ ?_
  first|with_reducible refine ks [] @zP_ ?_|refine kp @zP_ ?_
  generalize ht:UInt64.ofNat m.length*8=t
  rw[←aaE_ t]
  refine Cw.loopG (G:=Nat) [19,20,23,24,25,26,27,28,29,30,4,21,22,6] (fun i=> [(4,v64 (quoN t i)),(6,vi i)]) (fun i=> [(b1, .cells (a8 (jJ_ t i)) 306 (0,0))]) (fun i=>i≤8) (fun i=>8 - i) 0 rfl rfl ?_ ?_
  ·omega
  intro i ji hi
  refine kv ?_
  have htl:=XS_ t i
  by_cases hi8:i<8
  ·first|with_reducible refine ks [] @zP_ ?_|refine kp @zP_ ?_
   refine Again.mk (i+1) (by omega) (by omega) ?_ rfl
   rw[aas_ t i hi8]
  ·have hie:i=8:=by omega
   subst hie
   first|with_reducible refine ks [] @zP_ ?_|refine kp @zP_ ?_
   rw[List.drop_zero,List.take_of_length_le (show(jJ_ t 8).length≤8 by omega),←ht,UInt64.mul_comm,abp_]
   refine⟨_,(ke @zP_),⟨hw1,trivial⟩, ?_⟩
   rfl
theorem aem_ (st:List UInt32) (blk:List UInt8) (hst:st.length=8) (hbk:blk.length=64) (w:World):
  Rets Tryz.prog 137 #[.agg (a32 st),vs blk] w (fun v D=>v= .agg (a32 (comp st blk))∧D= []):=by
 have hkl:kL.length=64:=rfl
 refine Rets.enterV Tryz.func137 rfl (rs:= [.cell 4 251]) Tryz.results137 Tryz.ntmps137 ?_
 refine kf ?_
 first|with_reducible refine ks [] @zP_ ?_|refine kp @zP_ ?_
 refine Ow.box rfl rfl fun b1 hb1 hw1=> ?_
 refine ko @zP_ ?_
 refine Ow.alloc rfl rfl Tryz.zr251 fun b2 hb2 hw2=> ?_
 obtain⟨h12,-⟩:=hb2
 refine ko @zP_ ?_
 first|with_reducible refine ks [] @zP_ ?_|refine kp @zP_ ?_
 refine Ow.alloc rfl rfl Tryz.zr307 fun b3 hb3 hw3=> ?_
 obtain⟨h13,h23,-⟩:=hb3
 refine ko @zP_ ?_
 first|with_reducible refine ks [] @zP_ ?_|refine kp @zP_ ?_
 rw[←WB_ blk]
 refine Cw.loopG (G:=Nat) [22,23,26,27,28,29,30,31,32,33,34,35,36,37,38,39,40,41,42,43,44,45,46,47,48,49,50,51,52,53,54,55,56,24,25,6] (fun g=> [(6,vi g)]) (fun g=> [(b1, .cells (a32 st) 251 (0,0)),(b2, .cells (a32 (List.replicate 8 0)) 251 (0,0)),(b3, .cells (a32 (KG_ blk g)) 307 (0,0))]) (fun g=>g≤16) (fun g=>16 - g) 0 rfl rfl ?_ ?_
 ·omega
 intro g j hg
 refine kv ?_
 have hlen:=vl_ blk g
 by_cases hlt:g<16
 ·first|with_reducible refine ks [] @zP_ ?_|refine kp @zP_ ?_
  refine Cw.regionO [0,1,2,3,4,5,6,7,8,9,10,11,12,13,14,15,16,17,18,19,20,21,22,23,24,25,26,27,28,29,30,31] [31] rfl (by kernel_rfl) (by kernel_rfl) ?_
  simp only[zh_, ↓zc_, ↓za_, ↓zk_, ↓zj_,zb_]
  refine kq @zP_ ?_
  refine Ow.store rfl rfl rfl (ke @zP_) ?_
  refine ko @zP_ ?_
  first|with_reducible refine ks [] @zP_ ?_|refine kp @zP_ ?_
  exact Again.mk (g+1) (by omega) (by omega) (by rw[←Ws_];rfl) rfl
 ·have hg16:g=16:=by omega
  subst hg16
  first|with_reducible refine ks [] @zP_ ?_|refine kp @zP_ ?_
  rw[adw_]
  refine Cw.loopG (G:=Nat) [57,58,61,62,63,64,65,66,67,68,8,9,69,70,71,72,73,74,75,76,77,78,79,80,81,82,83,84,85,86,87,88,89,90,91,92,93,94,95,96,97,59,60,7] (fun g=> [(7,vi g)]) (fun g=> [(b1, .cells (a32 st) 251 (0,0)),(b2, .cells (a32 (List.replicate 8 0)) 251 (0,0)),(b3, .cells (a32 (wG blk g)) 307 (0,0))]) (fun g=>16≤g∧g≤64) (fun g=>64 - g) 16 rfl rfl ?_ ?_
  ·omega
  intro g j hg
  refine kv ?_
  obtain⟨hg1,hg2⟩:=hg
  have hlen:=aab_ blk g
  by_cases hlt:g<64
  ·first|with_reducible refine ks [] @zP_ ?_|refine kp @zP_ ?_
   refine Cw.regionO [0,1,2,4,5,6,3,8,7,9] [] rfl (by kernel_rfl) (by kernel_rfl) ?_
   simp only[zh_, ↓zc_, ↓za_, ↓zk_, ↓zj_,zb_]
   refine kq @zP_ ?_
   first|with_reducible refine ks [] @zP_ ?_|refine kp @zP_ ?_
   refine Cw.regionO [0,1,3,6,7,9,10,11,14,16,19,20,23,24,25,12,26,2,4,5,8,13,15,17,18,21,22,27,28,29] [29] rfl (by kernel_rfl) (by kernel_rfl) ?_
   simp only[zh_, ↓zc_, ↓za_, ↓zk_, ↓zj_,zb_]
   refine kq @zP_ ?_
   refine Ow.callFV rfl Tryz.call196 (fun w' hw'=>jd_ _ 17 w') ?_
   refine kq @zP_ ?_
   refine Ow.callFV rfl Tryz.call196 (fun w' hw'=>jd_ _ 19 w') ?_
   refine kq @zP_ ?_
   refine Ow.callFV rfl Tryz.call196 (fun w' hw'=>jd_ _ 7 w') ?_
   refine kq @zP_ ?_
   refine Ow.callFV rfl Tryz.call196 (fun w' hw'=>jd_ _ 18 w') ?_
   refine kq @zP_ ?_
   refine Ow.store rfl rfl rfl (ke @zP_) ?_
   refine ko @zP_ ?_
   first|with_reducible refine ks [] @zP_ ?_|refine kp @zP_ ?_
   exact Again.mk (g+1) (by omega) (by omega) (by rw[afY_ blk g hg1];rfl) rfl
  ·have hg64:g=64:=by omega
   subst hg64
   rw[akC_]
   have hwl:=Jp_ blk
   first|with_reducible refine ks [] @zP_ ?_|refine kp @zP_ ?_
   refine Ow.callFV rfl Tryz.call197 (fun w' hw'=>abz_ w') ?_
   refine ko @zP_ ?_
   refine Ow.alloc rfl rfl Tryz.zr307 fun b4 hb4 hw4=> ?_
   obtain⟨h14,h24,h34,-⟩:=hb4
   refine ko @zP_ ?_
   first|with_reducible refine ks [] @zP_ ?_|refine kp @zP_ ?_
   refine Cw.regionO [0,2,4,6,1,8,3,9,5,10,7,11] [] rfl (by kernel_rfl) (by kernel_rfl) ?_
   simp only[zh_, ↓zc_, ↓za_, ↓zk_, ↓zj_,zb_]
   refine kq @zP_ ?_
   first|with_reducible refine ks [] @zP_ ?_|refine kp @zP_ ?_
   refine Cw.regionO [0,2,4,6,1,8,3,9,5,10,7,11] [] rfl (by kernel_rfl) (by kernel_rfl) ?_
   simp only[zh_, ↓zc_, ↓za_, ↓zk_, ↓zj_,zb_]
   refine kq @zP_ ?_
   first|with_reducible refine ks [] @zP_ ?_|refine kp @zP_ ?_
   generalize hw:Wn_ blk=W at*
   refine Cw.loopG (G:=Nat) [115,116,119,120,121,122,123,124,125,126,127,128,129,130,131,132,133,134,135,136,137,138,139,140,141,142,143,144,145,20,146,147,148,149,150,151,152,153,154,155,156,157,158,159,160,161,162,163,164,165,21,166,18,167,17,168,16,169,170,171,15,172,14,173,13,174,12,175,176,177,11,117,118,19] (fun g=> [(19,vi g),(11,v32 ((rGo st W g).getD 0 0)),(12,v32 ((rGo st W g).getD 1 0)),(13,v32 ((rGo st W g).getD 2 0)),(14,v32 ((rGo st W g).getD 3 0)),(15,v32 ((rGo st W g).getD 4 0)),(16,v32 ((rGo st W g).getD 5 0)),(17,v32 ((rGo st W g).getD 6 0)),(18,v32 ((rGo st W g).getD 7 0))]) (fun g=> [(b1, .cells (a32 st) 251 (0,0)),(b2, .cells (a32 (List.replicate 8 0)) 251 (0,0)),(b3, .cells (a32 W) 307 (0,0)),(b4, .cells (a32 kL) 307 (0,0))]) (fun g=>g≤64) (fun g=>64 - g) 0 rfl rfl ?_ ?_
   ·omega
   ·intro g j hg
    refine kv ?_
    by_cases hlt:g<64
    ·first|with_reducible refine ks [] @zP_ ?_|refine kp @zP_ ?_
     refine Cw.regionO [0,1,3,6,10,11,12,13,14,15,16,17,19,20,23,24,21,25,2,4,5,7,8,9,18,22,26,27] [] rfl (by kernel_rfl) (by kernel_rfl) ?_
     simp only[zh_, ↓zc_, ↓za_, ↓zk_, ↓zj_,zb_]
     refine kq @zP_ ?_
     refine Ow.callFV rfl Tryz.call196 (fun w' hw'=>jd_ _ 6 w') ?_
     refine kq @zP_ ?_
     refine Ow.callFV rfl Tryz.call196 (fun w' hw'=>jd_ _ 11 w') ?_
     refine kq @zP_ ?_
     refine Ow.callFV rfl Tryz.call196 (fun w' hw'=>jd_ _ 25 w') ?_
     refine kq @zP_ ?_
     first|with_reducible refine ks [] @zP_ ?_|refine kp @zP_ ?_
     refine Ow.callFV rfl Tryz.call196 (fun w' hw'=>jd_ _ 2 w') ?_
     refine ko @zP_ ?_
     refine Ow.callFV rfl Tryz.call196 (fun w' hw'=>jd_ _ 13 w') ?_
     refine ko @zP_ ?_
     refine Ow.callFV rfl Tryz.call196 (fun w' hw'=>jd_ _ 22 w') ?_
     refine ko @zP_ ?_
     first|with_reducible refine ks [] @zP_ ?_|refine kp @zP_ ?_
     exact Again.mk (g+1) (by omega) (by omega) rfl rfl
    ·have hg64:g=64:=by omega
     subst hg64
     first|with_reducible refine ks [] @zP_ ?_|refine kp @zP_ ?_
     have hcomp:comp st blk=xG_ st (rGo st W 64) 8:=by rw[←hw];rfl
     rw[hcomp]
     generalize rGo st W 64=R at*
     rw[afb_]
     refine Ow.build (.agg (a32 [st.getD 0 0+R.getD 0 0,st.getD 1 0+R.getD 1 0,st.getD 2 0+R.getD 2 0,st.getD 3 0+R.getD 3 0,st.getD 4 0+R.getD 4 0,st.getD 5 0+R.getD 5 0,st.getD 6 0+R.getD 6 0,st.getD 7 0+R.getD 7 0])) rfl (by kernel_rfl) ?_
     refine ko @zP_ ?_
     first|with_reducible refine ks [] @zP_ ?_|refine kp @zP_ ?_
     refine⟨_,(ke @zP_),⟨hw1,hw2,hw3,hw4,trivial⟩, ?_⟩
     rfl
end Go.Proofs
end
section
open Go Go.Proofs Go.Sx Go.Dig
namespace Go.Proofs
set_option maxRecDepth 10000
set_option maxHeartbeats 1000000
set_option linter.unusedSimpArgs false
set_option linter.defProp false
def j4_:= @jB_
theorem ac7_ (m:List UInt8) (hm:m.length<1099511627776) (w:World):
  Rets Tryz.prog 70 #[vs m] w (fun v D=>v= .agg (a8 (shaR m))∧D= []):=by
 refine Rets.enterV Tryz.func70 rfl (rs:= [.cell 2 24]) Tryz.results70 Tryz.ntmps70 ?_
 refine kf ?_
 first|with_reducible refine ks [] @j4_ ?_|refine kp @j4_ ?_
 refine Ow.alloc rfl rfl Tryz.zr24 fun b1 hb1 hw1=> ?_
 refine ko @j4_ ?_
 first|with_reducible refine ks [] @j4_ ?_|refine kp @j4_ ?_
 refine Ow.callFV rfl Tryz.call136 (fun w' hw'=>Xb_ m hm w') ?_
 have hp:=acB_ m
 unfold shaR
 generalize padR m=p at*
 refine ko @j4_ ?_
 first|with_reducible refine ks [] @j4_ ?_|refine kp @j4_ ?_
 refine Ow.build (.agg (a32 initL)) rfl (by kernel_rfl) ?_
 refine ko @j4_ ?_
 refine Ow.alloc rfl rfl Tryz.zr251 fun b2 hb2 hw2=> ?_
 obtain⟨h12,-⟩:=hb2
 have hil:initL.length=8:=rfl
 refine ko @j4_ ?_
 first|with_reducible refine ks [] @j4_ ?_|refine kp @j4_ ?_
 rw[show a32 initL=a32 (wE_ initL p 0) from rfl]
 refine Cw.loopG (G:=Nat) [11,12,13,14,17,18,19,20,21,22,23,15,16,5] (fun g=> [(5,vi (64*g))]) (fun g=> [(b1, .cells (a8 (List.replicate 32 0)) 24 (0,0)),(b2, .cells (a32 (wE_ initL p g)) 251 (0,0))]) (fun g=>64*g≤p.length) (fun g=>p.length - 64*g) 0 rfl rfl ?_ ?_
 ·omega
 intro g j hg
 refine kv ?_
 have hcl:=WI_ initL p g rfl
 by_cases hlt:64*g<p.length
 ·first|with_reducible refine ks [] @j4_ ?_|refine kp @j4_ ?_
  refine Cw.regionO [1,2,3,4,5,0,6,7] [7] rfl (by kernel_rfl) (by kernel_rfl) ?_
  simp only[zh_, ↓zc_, ↓za_, ↓zk_, ↓zj_,zb_]
  refine kq @j4_ ?_
  rw[show List.drop (64*g) (List.take (64*g+64) p)=(p.drop (64*g)).take 64 from by rw[List.drop_take];congr 1;omega]
  refine Ow.callFV rfl Tryz.call137 (fun w' hw'=>aem_ _ _ hcl (by simp;omega) w') ?_
  have hcl2:=wY_ (wE_ initL p g) ((p.drop (64*g)).take 64)
  refine kq @j4_ ?_
  refine Ow.store rfl rfl rfl (ke @j4_) ?_
  refine ko @j4_ ?_
  first|with_reducible refine ks [] @j4_ ?_|refine kp @j4_ ?_
  exact Again.mk (g+1) (by omega) (by omega) rfl (by rw[show 64* ((g+1:Nat):Int)=64* (g:Int)+64 from by omega];rfl)
 ·have hge:g=p.length / 64:=by omega
  first|with_reducible refine ks [] @j4_ ?_|refine kp @j4_ ?_
  rw[←hge]
  refine Ow.alloc rfl rfl Tryz.zr24 fun b3 hb3 hw3=> ?_
  obtain⟨h13,h23,-⟩:=hb3
  refine ko @j4_ ?_
  first|with_reducible refine ks [] @j4_ ?_|refine kp @j4_ ?_
  generalize wE_ initL p g=S at*
  rw[show [(b1,Obj.cells (a8 (List.replicate 32 0)) 24 (0,0)),(b2, .cells (a32 S) 251 (0,0)),(b3, .cells (a8 (List.replicate 32 0)) 24 (0,0))]= [(b1,Obj.cells (a8 (List.replicate 32 0)) 24 (0,0)),(b2, .cells (a32 S) 251 (0,0)),(b3, .cells (a8 (xg_ S 0)) 24 (0,0))] from by rw[JZ_]]
  refine Cw.loopG (G:=Nat) [24,25,28,29,30,31,32,33,34,35,36,37,38,39,40,26,27,7] (fun k=> [(7,vi k)]) (fun k=> [(b1, .cells (a8 (List.replicate 32 0)) 24 (0,0)),(b2, .cells (a32 S) 251 (0,0)),(b3, .cells (a8 (xg_ S k)) 24 (0,0))]) (fun k=>k≤32) (fun k=>32 - k) 0 rfl rfl ?_ ?_
  ·omega
  intro k jk hk
  refine kv ?_
  have hol:=outPre_length S k
  by_cases hk:k<32
  ·first|with_reducible refine ks [] @j4_ ?_|refine kp @j4_ ?_
   refine Again.mk (k+1) (by omega) (by omega) ?_ rfl
   have e: (UInt64.ofInt (24 - 8* ((k:Int)%4))).toNat=24 - 8* (k%4):=by
    rw[show(24 - 8* ((k:Int)%4))=((24 - 8* (k%4):Nat):Int) from by omega,Xg_,UInt64.toNat_ofNat',Nat.mod_eq_of_lt (by omega)]
   rw[e,←kj_];rfl
  ·have hke:k=32:=by omega
   subst hke
   first|with_reducible refine ks [] @j4_ ?_|refine kp @j4_ ?_
   refine⟨_,(ke @j4_),⟨hw1,hw2,hw3,trivial⟩, ?_⟩
   rfl
end Go.Proofs
end
namespace Go.Dig
open Go.Sx
structure Inv (s:Hs) (p:List UInt8):Prop where
 ok:s.Ok
 st:s.st=wE_ initL p (p.length / 64)
 many:s.many=p.length%64
 rest:s.rest.take s.many=p.drop (64* (p.length / 64))
theorem Inv.put {s:Hs} {p:List UInt8} (h:Inv s p) (x:UInt8):Inv (Xk_ s x) (p++ [x]):=by
 obtain⟨hok,hst,hmany,hrest⟩:=h
 have hk:=KT_ x hok
 have hm64:=hok.many
 have hrl:=hok.rest
 have hle:64* (p.length / 64)≤p.length:=by omega
 have htake: (s.rest.set s.many x).take (s.many+1)=p.drop (64* (p.length / 64))++ [x]:=by
  rw[List.take_add_one,List.take_set,←hrest]
  congr 1
  ·rw[List.set_eq_of_length_le (by simp only[List.length_take];exact Nat.min_le_left _ _)]
  ·simp[hrl,hm64]
 have hlen: (p++ [x]).length=p.length+1:=by simp
 have hc:wE_ initL (p++ [x]) (p.length / 64)=wE_ initL p (p.length / 64):=WX_ _ _ _ _ hle
 by_cases h64:s.many+1=64
 ·have e:Xk_ s x=⟨comp s.st (s.rest.set s.many x),s.rest.set s.many x,0⟩:=by unfold Xk_;rw[if_pos h64]
  have hd: (p.length+1) / 64=p.length / 64+1:=by omega
  have hr: (s.rest.set s.many x)=p.drop (64* (p.length / 64))++ [x]:=by
   rw[←htake,h64,List.take_of_length_le (by simp[hrl])]
  refine⟨hk, ?_, ?_, ?_⟩
  ·rw[e,hlen,hd]
   show comp s.st _=comp (wE_ initL (p++ [x]) (p.length / 64)) _
   rw[hc,←hst,hr,List.drop_append_of_le_length hle,List.take_of_length_le (by simp;omega)]
  ·rw[e,hlen];show 0=_;omega
  ·rw[e,hlen]
   show List.take 0 _=_
   rw[List.take_zero,List.drop_of_length_le (by rw[hlen];omega)]
 ·have e:Xk_ s x=⟨s.st,s.rest.set s.many x,s.many+1⟩:=by unfold Xk_;rw[if_neg h64]
  have hd: (p.length+1) / 64=p.length / 64:=by omega
  refine⟨hk, ?_, ?_, ?_⟩
  ·rw[e,hlen,hd,hc];exact hst
  ·rw[e,hlen];show s.many+1=_;omega
  ·rw[e,hlen,hd]
   show List.take (s.many+1) (s.rest.set s.many x)=_
   rw[htake,List.drop_append_of_le_length hle]
theorem Inv.puts {s:Hs} {p:List UInt8} (h:Inv s p) (l:List UInt8):Inv (q7_ s l) (p++l):=by
 induction l generalizing s p with
 |nil=>rw[List.append_nil];exact h
 |cons x r ih=>
  have:=ih (h.put x)
  rw[List.append_assoc] at this
  exact this
theorem Inv.zero:Inv H0 []:=⟨ann_,rfl,rfl,rfl⟩
theorem ajZ_ (p:List UInt8): (q7_ H0 p).st=wE_ initL p (p.length / 64):=(Inv.zero.puts p).st
theorem ag2_ (l:List (List UInt8)) (n:Nat):k3_ (UInt64.ofNat n) l=UInt64.ofNat (n+l.flatten.length):=by
 induction l generalizing n with
 |nil=>rfl
 |cons a r ih=>
  show k3_ (UInt64.ofNat n+UInt64.ofNat a.length) r=_
  rw[←UInt64.ofNat_add,ih,List.flatten_cons,List.length_append,Nat.add_assoc]
theorem ali_ (m:List UInt8):hsum (q7_ H0 m) (UInt64.ofNat m.length)=shaR m:=by
 unfold hsum shaR
 rw[←ajZ_]
 suffices h:ad1_ (q7_ H0 m) (UInt64.ofNat m.length)=q7_ H0 (padR m) by rw[h]
 have hmany: (Xk_ (q7_ H0 m) 128).many=(m.length+1)%64:=by
  have:=((Inv.zero.puts m).put 128).many
  rw[this];simp
 unfold ad1_ padR
 rw[hmany,j0_,j0_,j0_,show q7_ (q7_ H0 m) [128]=Xk_ (q7_ H0 m) 128 from rfl]
theorem sumV_eq (l:List (List UInt8)):sumV l=shaR l.flatten:=by
 unfold sumV
 have:=ag2_ l 0
 rw[Nat.zero_add] at this
 rw[show(0:UInt64)=UInt64.ofNat 0 from rfl,this,ali_]
end Go.Dig
section
open Go Go.Proofs Go.Sx Go.StP
namespace Go.Proofs
set_option maxRecDepth 10000
set_option maxHeartbeats 400000
set_option linter.unusedSimpArgs false
theorem GlobE.new {w0 w:World} {L:zi_} (hg:GlobE w0) (h:Hp w0 L w) (hn:New w0.heap.size L):GlobE w:=by
 obtain⟨e0,e1,f0,f1,h0,h1⟩:=id hg
 have:3<w0.heap.size:=(Array.getElem?_eq_some_iff.1 h1).1
 exact hg.of h fun b hb=>by have:=hn.le b hb;omega
theorem acM_ {k:Int} {t:List UInt8} (h:xS_ k t=true): (xx_ k t).length<100000:=by
 obtain⟨h1,h2,h3⟩:=wZ_ h
 have hh: (Zw_ k).length≤4:=by unfold Zw_;simp only[List.length_drop,List.length_take,List.length_cons,List.length_nil];omega
 have:=zM_ (t.length:Int)
 unfold xx_ jP_
 rw[List.length_append,List.length_append]
 omega
theorem QS_ (m:List UInt8): (Dig.shaR m).length=32:=Dig.outPre_length _ _
set_option linter.defProp false
def qr_:=And.intro (And.intro (And.intro (@qw_) (@qg_)) (And.intro (@qf_) (@qd_))) (And.intro (And.intro (@Sx.tup2_0) (@Sx.tup2_1)) (And.intro (@zJ_) (@zI_)))
def idV (k:Int) (t:List UInt8):IdL:=if xS_ k t then⟨Dig.shaR (xx_ k t),QS_ _⟩ else id0
theorem af0_:jn_ (wA_ Tryz.prog 24) (z8_ Tryz.prog 24) []=some (.agg (a8 id0.l)):=id (by kernel_rfl)
theorem Vy_ (k:Int) (t:List UInt8) (w:World) (hG:GlobE w):Rets Tryz.prog 66 #[obV k t] w (fun v D=>v= .tuple #[.agg (a8 (idV k t).l), .bool (xS_ k t)]∧D= []):=by
 refine Rets.enterV Tryz.func66 rfl (rs:= [.cell 2 24, .tmp 3]) Tryz.results66 Tryz.ntmps66 ?_
 refine kf ?_
 first|with_reducible refine ks [] @qr_ ?_|refine kp @qr_ ?_
 refine Ow.box rfl rfl fun b1 hb1 hw1=> ?_
 simp only[zW_,zT_,z1_,ze_,List.nil_append]
 refine ko @qr_ ?_
 refine Ow.alloc rfl rfl Qz_ fun b2 hb2 hw2=> ?_
 simp only[ze_,List.nil_append,List.cons_append]
 have h12:b1<b2:=zf_ hb2 (by simp[keys])
 have hi0:=id0.h
 refine ko @qr_ ?_
 refine Ow.callC rfl rfl Tryz.call117 (fun w' hw'=>abu_ k t w') (fun B v D hA hB hN hS=> ?_)
 have hD:New w.heap.size D:=New.mono hB hN
 unfold idV
 cases hr:xS_ k t
 ·rw[hr,if_neg (by decide)] at hS
  subst hS
  have e: ((1:Int) !=0)=true:=rfl
  refine ko @qr_ ?_
  first|with_reducible refine ks [] (And.intro @qr_ @e) ?_|refine kp (And.intro @qr_ @e) ?_
  refine Ow.build (.agg (a8 id0.l)) rfl af0_ ?_
  refine ko @qr_ ?_
  first|with_reducible refine ks [] @qr_ ?_|refine kp @qr_ ?_
  refine⟨_,(ke @qr_),⟨hw1,hw2,hD⟩, ?_⟩
  rfl
 ·rw[hr,if_pos rfl] at hS
  subst hS
  have e: ((0:Int) !=0)=false:=rfl
  have hfl:=acM_ hr
  have hzl: ∀i,i< [xx_ k t].length→([xx_ k t].getD i []).length<1099511627776:=fun i hi=>by
   obtain rfl:i=0:=by simpa using hi
   show(xx_ k t).length<_;omega
  refine ko @qr_ ?_
  first|with_reducible refine ks [] (And.intro @qr_ @e) ?_|refine kp (And.intro @qr_ @e) ?_
  refine Ow.buildSlice (e:=9) #[vs (xx_ k t)] rfl rfl (by kernel_rfl) fun b15 hb15 hw15=> ?_
  refine ko @qr_ ?_
  refine Ow.callFV rfl Tryz.call118 (fun w' hw'=>ahv_ _ b15 0 [xx_ k t] _ _ _ w' (hG.new hw' (by exact⟨hw1,hw2,New.app hD ⟨hw15,trivial⟩⟩)) (StrS.lit [xx_ k t] rfl rfl (hw'.has _ (.cells #[vs (xx_ k t)] 9 (0,0)) (by simp))) (by show(1:Nat)<1099511627776;omega) hzl) ?_
  rw[Dig.sumV_eq,show([xx_ k t]:List (List UInt8)).flatten=xx_ k t by simp]
  have hsl:=QS_ (xx_ k t)
  refine ko @qr_ ?_
  first|with_reducible refine ks [] @qr_ ?_|refine kp @qr_ ?_
  refine⟨_,(ke @qr_),⟨hw1,hw2,hD.app ⟨hw15,trivial⟩⟩, ?_⟩
  rfl
def Zo_ (k:Int) (t:List UInt8):List UInt8:=(if k=3 then [99] else if k=2 then [116] else [98])++jP_ t
theorem agO_ {k:Int} {t:List UInt8} (h:xS_ k t=true):Zo_ k t=xx_ k t:=by
 obtain⟨h1,h2,-⟩:=wZ_ h
 unfold Zo_ xx_
 rcases(show k=1∨k=2∨k=3 by omega) with rfl|rfl|rfl<;>rfl
theorem abY_ (k:Int) (t:List UInt8) (w:World) (ht:t.length<100000):Rets Tryz.prog 71 #[obV k t] w (fun v D=>v=vs (Zo_ k t)∧D= []):=by
 have tl:=kg_ (s:=t) (by omega)
 refine Rets.enterV Tryz.func71 rfl (rs:= [.tmp 2]) Tryz.results71 Tryz.ntmps71 ?_
 refine kf ?_
 first|with_reducible refine ks [] @qr_ ?_|refine kp @qr_ ?_
 refine Ow.box rfl rfl fun b1 hb1 hw1=> ?_
 simp only[zW_,zT_,z1_,ze_,List.nil_append]
 unfold Zo_
 by_cases h3:k=3
 ·have e2: (k==2)=false:=beq_eq_false_iff_ne.2 (by omega)
  have e3: (k==3)=true:=by simp[h3]
  rw[if_pos h3]
  refine ko (And.intro @qr_ (And.intro @e2 (@e3))) ?_
  first|with_reducible refine ks [] (And.intro @qr_ (And.intro @e2 (@e3))) ?_|refine kp (And.intro @qr_ (And.intro @e2 (@e3))) ?_
  refine Ow.callFV rfl Tryz.call138 (fun w' hw'=>kJ_ t w' (by omega)) ?_
  refine ko @qr_ ?_
  first|with_reducible refine ks [] @qr_ ?_|refine kp @qr_ ?_
  refine⟨_,(ke @qr_),⟨hw1,trivial⟩, ?_⟩
  rfl
 ·have e3: (k==3)=false:=by simpa using h3
  rw[if_neg h3]
  by_cases h2:k=2
  ·have e2: (k==2)=true:=by simp[h2]
   rw[if_pos h2]
   refine ko (And.intro @qr_ (And.intro @e2 (@e3))) ?_
   first|with_reducible refine ks [] (And.intro @qr_ (And.intro @e2 (@e3))) ?_|refine kp (And.intro @qr_ (And.intro @e2 (@e3))) ?_
   refine Ow.callFV rfl Tryz.call138 (fun w' hw'=>kJ_ t w' (by omega)) ?_
   refine ko @qr_ ?_
   first|with_reducible refine ks [] @qr_ ?_|refine kp @qr_ ?_
   refine⟨_,(ke @qr_),⟨hw1,trivial⟩, ?_⟩
   rfl
  ·have e2: (k==2)=false:=by simpa using h2
   rw[if_neg h2]
   refine ko (And.intro @qr_ (And.intro @e2 (@e3))) ?_
   first|with_reducible refine ks [] (And.intro @qr_ (And.intro @e2 (@e3))) ?_|refine kp (And.intro @qr_ (And.intro @e2 (@e3))) ?_
   refine Ow.callFV rfl Tryz.call138 (fun w' hw'=>kJ_ t w' (by omega)) ?_
   refine ko @qr_ ?_
   first|with_reducible refine ks [] @qr_ ?_|refine kp @qr_ ?_
   refine⟨_,(ke @qr_),⟨hw1,trivial⟩, ?_⟩
   rfl
theorem VE_ (k:Int) (t:List UInt8) (w:World) (ht:t.length<100000):Rets Tryz.prog 20 #[obV k t] w (fun v D=>v= .agg (a8 (Dig.shaR (Zo_ k t)))∧D= []):=by
 have tl:=kg_ (s:=t) (by omega)
 have fl: (Zo_ k t).length<1099511627776:=by
  have nl:=zM_ (t.length:Int)
  unfold Zo_ jP_;rw[List.length_append,List.length_append]
  have: ((if k=3 then [99] else if k=2 then [116] else [98]:List UInt8)).length=1:=by split<;>(try split)<;>rfl
  omega
 have hsl:=QS_ (Zo_ k t)
 refine Rets.enterV Tryz.func20 rfl (rs:= [.cell 2 24]) Tryz.results20 Tryz.ntmps20 ?_
 refine kf ?_
 first|with_reducible refine ks [] @qr_ ?_|refine kp @qr_ ?_
 refine Ow.box rfl rfl fun b1 hb1 hw1=> ?_
 simp only[zW_,zT_,z1_,ze_,List.nil_append]
 refine ko @qr_ ?_
 refine Ow.alloc rfl rfl Qz_ fun b2 hb2 hw2=> ?_
 simp only[ze_,List.nil_append,List.cons_append]
 have h12:b1<b2:=zf_ hb2 (by simp[keys])
 have hi0:=id0.h
 refine ko @qr_ ?_
 refine Ow.callFV rfl Tryz.call71 (fun w' hw'=>abY_ k t w' ht) ?_
 refine ko @qr_ ?_
 refine Ow.callFV rfl Tryz.call70 (fun w' hw'=>ac7_ _ fl w') ?_
 refine ko @qr_ ?_
 first|with_reducible refine ks [] @qr_ ?_|refine kp @qr_ ?_
 refine⟨_,(ke @qr_),⟨hw1,hw2,trivial⟩, ?_⟩
 rfl
instance:DecidableEq ChildL:=fun a b=>if h:a.id.l=b.id.l∧a.kind=b.kind then .isTrue (by cases a;cases b;simp only at h;obtain⟨h3,rfl⟩:=h;rw[IdL.ext' h3]) else .isFalse (fun e=>h (by rw[e];exact⟨rfl,rfl⟩))
theorem ChildL.ext' {a b:ChildL} (h: (a.id.l==b.id.l&&a.kind==b.kind)=true):a=b:=by
 simp only[Bool.and_eq_true,beq_iff_eq] at h
 cases a;cases b;simp only at h;obtain⟨h3,rfl⟩:=h;rw[IdL.ext' h3]
set_option linter.defProp false
end Go.Proofs
end
section
open Go Go.Proofs Go.Sx Go.StP
namespace Go.Proofs
set_option maxRecDepth 10000
set_option maxHeartbeats 1000000
set_option linter.unusedSimpArgs false
theorem aiB_ {t:List UInt8} (h:xS_ 2 t=true):KU_ t=some (qS_ t).1:=by
 rw[kP_] at h
 unfold JR_ at h
 split at h
 ·cases h
 ·rw[if_pos rfl] at h
  unfold KU_ at h ⊢
  split at h
  ·rw[if_pos (by assumption)]
  ·cases h
theorem aiV_ {t:List UInt8} (h:xS_ 3 t=true):Vp_ t=some (kk_ t).1:=by
 rw[kP_] at h
 unfold JR_ at h
 split at h
 ·cases h
 ·rw[if_neg (by decide),if_pos rfl] at h
  unfold Vp_ at h ⊢
  split at h
  ·rw[if_pos (by assumption)]
  ·cases h
theorem agy_ {t:List UInt8} (h:xS_ 2 t=true):qO_ (qS_ t).1=true:=by
 have:=h
 unfold xS_ at this
 rw[if_pos (wZ_ h),if_neg (by decide),if_pos rfl] at this
 simp only[Bool.and_eq_true] at this
 exact this.2
set_option linter.defProp false
def qJ_:=And.intro (And.intro (And.intro (And.intro (@qw_) (@qg_)) (And.intro (@qf_) (And.intro (@qd_) (@Sx.tup2_0)))) (And.intro (And.intro (@Sx.tup2_1) (@vY_)) (And.intro (@vZ_) (And.intro (@v5_) (@w6_))))) (And.intro (And.intro (And.intro (@kd_) (@x6_)) (And.intro (@k2_) (And.intro (@kS_) (@jm_)))) (And.intro (And.intro (@qk_) (@qh_)) (And.intro (@q4_) (And.intro (@zJ_) (@zI_)))))
theorem Xq_ (k:Int) (t:List UInt8) (w:World) (hr:xS_ k t=true):Rets Tryz.prog 74 #[obV k t] w (XS w [] (fun v D=>Gr D 59 33 v (jj_ k t).length ((jj_ k t).map zm_).flatten)):=by
 obtain⟨hk1,hk3,ht⟩:=wZ_ hr
 refine Rets.enterX Tryz.func74 rfl (rs:= [.tmp 2]) Tryz.results74 Tryz.ntmps74 (fun p hp=>by cases hp) (by simp[keys]) ?_
 refine kf ?_
 first|with_reducible refine ks [] @qJ_ ?_|refine kp @qJ_ ?_
 refine Ow.box rfl rfl fun b1 hb1 hw1=> ?_
 simp only[zW_,zT_,z1_,ze_,List.nil_append]
 rcases(show k=1∨k=2∨k=3 by omega) with rfl|rfl|rfl
 ·have e2: ((1:Int)==2)=false:=rfl
  have e3: ((1:Int)==3)=false:=rfl
  refine ko (And.intro @qJ_ (And.intro @e2 (@e3))) ?_
  first|with_reducible refine ks [] (And.intro @qJ_ (And.intro @e2 (@e3))) ?_|refine kp (And.intro @qJ_ (And.intro @e2 (@e3))) ?_
  refine⟨_,(ke @qJ_), ?_⟩
  refine⟨Ext.of_new ⟨hw1,trivial⟩, ?_⟩
  have e:jj_ 1 t= []:=by unfold jj_;rw[hr];rfl
  rw[e];exact Gr.nl
 ·have e2: ((2:Int)==2)=true:=rfl
  have e3: ((2:Int)==3)=false:=rfl
  refine ko (And.intro @qJ_ (And.intro @e2 (@e3))) ?_
  first|with_reducible refine ks [] (And.intro @qJ_ (And.intro @e2 (@e3))) ?_|refine kp (And.intro @qJ_ (And.intro @e2 (@e3))) ?_
  refine Ow.callC rfl rfl Tryz.call68 (fun w' hw'=>ZC_ t w' (by omega)) (fun B v D hA hB hN hS=> ?_)
  unfold adC_ at hS
  rw[aiB_ hr] at hS
  obtain⟨v1,rfl,hG1⟩:=hS
  have hl32:=(ku_ (agy_ hr)).1
  have hcl:jj_ 2 t=(qS_ t).1.map jN_:=by unfold jj_;rw[hr,if_pos rfl,if_pos rfl]
  rw[hcl]
  generalize (qS_ t).1=l at*
  obtain⟨h1B,-⟩:=hA
  have ln1:=hG1.len
  have hD:New w.heap.size D:=New.mono hB hN
  refine ko @qJ_ ?_
  first|with_reducible refine ks [] (And.intro @qJ_ @ln1) ?_|refine kp (And.intro @qJ_ @ln1) ?_
  refine Cw.permL (M:=(b1,Obj.cells #[vi 2,vs t] 35 (0,0)):: (D++ [])) (by rw[List.append_nil]) ?_
  refine Cw.loopG (G:=ChG) [19,20,21,22,25,26,27,28,29,30,31,32,33,34,35,36,37,38,3,23,24,6] (fun q=> [(3,q.v),(6,vi q.g)]) (fun q=>(b1,Obj.cells #[vi 2,vs t] 35 (0,0)):: (D++q.D)) (fun q=>q.g≤l.length∧New w.heap.size q.D∧SepK b1 D q.D∧Gr q.D 59 33 q.v ((l.take q.g).map jN_).length (((l.take q.g).map jN_).map zm_).flatten) (fun q=>l.length - q.g) ⟨0, .slice none 0 0,[]⟩ rfl rfl ?_ ?_
  ·exact⟨Nat.zero_le _,trivial,SepK.nil,Gr.nl⟩
  ·intro q jq hq
   refine kv ?_
   obtain⟨g,v,D2⟩:=q
   simp only at hq ⊢
   obtain⟨hgl,hN2,hSp,hG⟩:=hq
   by_cases hlt:g<l.length
   ·obtain⟨c,cc,rest,rfl,hlc⟩:=Gr.rows hG1 (by omega)
    have hcD:=zn_ hlc
    have hcb:=hN.le c hcD
    have hc1:b1≠c:=by omega
    have hc2:c∉keys D2:=fun hm=>by have:=(hSp c hm).2 c hcD;omega
    have rdc: ∀M,zv_ w (D++M) c=some (k5_ rest l):=fun M=>zg_ (zp_ hlc)
    have ldc1: ∀n,zA_ (some (false,n)) (some (k5_ rest l)) (g*34+1)=some (vi (l.getD g ent0).kind):=fun n=>by
     obtain⟨A,C,e,hAl,-⟩:=w8_ (z:=ent0) (rest:=rest) zZ_ hlt
     show zA_ (some (false,n)) (some (.cells ((l.map zR_).flatten++rest).toArray 117 (0,0))) (g*34+1)=_
     rw[e]
     generalize l.getD g ent0=x
     rw[show A++ (zR_ x++C)=(A++ [vs x.name])++ ([vi x.kind]++ (x.id.l.map v8++C)) by unfold zR_;simp only[List.append_assoc]]
     exact xR_ _ _ _ n _ _ (by simp[hAl])
    have ldc2:zA_ (some (true,32)) (some (k5_ rest l)) (g*34+2)=some (.agg (a8 (l.getD g ent0).id.l)):=by
     obtain⟨A,C,e,hAl,-⟩:=w8_ (z:=ent0) (rest:=rest) zZ_ hlt
     show zA_ (some (true,32)) (some (.cells ((l.map zR_).flatten++rest).toArray 117 (0,0))) (g*34+2)=_
     rw[e]
     generalize l.getD g ent0=x
     rw[show A++ (zR_ x++C)=(A++ ([vs x.name]++ [vi x.kind]))++ (x.id.l.map v8++C) by unfold zR_;simp only[List.append_assoc]]
     exact xV_ _ _ _ _ _ (by simp[hAl]) (by simp[x.id.h])
    have hml:=xI_ jN_ ent0 hlt
    have hmll: ((l.take g).map jN_).length=g:=by rw[List.length_map,List.length_take];omega
    generalize hx:l.getD g ent0=x at ldc1 ldc2 hml
    first|with_reducible refine ks [6] @qJ_ ?_|refine kp @qJ_ ?_
    refine Cw.regionS [c] [0,1,2,3,4,6,7,8,9,5,10,11,12,13,14] [] (by kernel_rfl) (by kernel_rfl) (by kernel_rfl) ?_
    simp only[zh_, ↓zc_, ↓za_, ↓zk_, ↓zj_,zb_]
    refine kq (And.intro @qJ_ (And.intro @rdc (And.intro @ldc1 (@ldc2)))) ?_
    refine Ow.build (.agg (zm_ (jN_ x)).toArray) rfl (k1_ (jN_ x)) ?_
    refine kq @qJ_ ?_
    refine Ow.soft rfl rfl rfl ?_
    refine Ow.buildSlice (e:=59) (zm_ (jN_ x)).toArray rfl rfl (qu_ Tryz.underlying44 q1_ jF_ (by decide) (zo_ _)) fun b13 hb13 hw13=> ?_
    with_reducible refine Ow.nil ?_
    refine⟨fun q hq=>by rw[List.mem_singleton.1 hq];exact j8_ (by simp only[keys,List.map_cons,List.map_append,List.mem_cons,List.mem_append] at hcD ⊢;simp[hcD]), ?_⟩
    try simp only[List.cons_append,List.append_assoc]
    refine Ow.soft rfl rfl rfl ?_
    refine Ow.permL (M:=D2++ ((b1,Obj.cells #[vi 2,vs t] 35 (0,0)):: (D++ [(b13,Obj.cells (zm_ (jN_ x)).toArray 59 (0,0))]))) (by classical exact List.perm_iff_count.2 fun a=>by simp only[List.count_append,List.count_cons,List.count_nil]<;>omega) ?_
    refine Ow.appendX (e:=59) (k:=1) (new:=zm_ (jN_ x)) (X:=D2) v rfl rfl rfl rfl Tryz.underlying44 q1_ (by kernel_rfl) jF_ (by rw[zG_,List.size_toArray,zo_]) Tryz.underlying44 (by intro k h;cases h) hG (fun w' hw'=>AppX.one1 (hw'.has b13 (.cells (zm_ (jN_ x)).toArray 59 (0,0)) (by simp)) (zo_ _) (qe_ _)) (by omega) (by rw[hmll];omega) (fun B2 v4 D4 hA4 hB4 hbuf hk1 hk2 hlk4=> ?_)
    have hN4:New w.heap.size D4:=New.of_le fun q hq=>by
     rcases hk2 q hq with h|h
     ·exact hN2.le q h
     ·omega
    have hSp4':SepK b1 D D4:=hSp.grow hk2 (zf_ hA4 (by simp[zd_,keys])) fun d hd=>zf_ hA4 (by simp only[keys,List.map_cons,List.map_nil,List.map_append,List.mem_cons,List.mem_append] at hd ⊢;simp[hd])
    have hc4:c∉keys D4:=fun hm=>by have:=(hSp4' c hm).2 c hcD;omega
    have hSp4:SepK b1 D (D4++ [(b13,Obj.cells (zm_ (jN_ x)).toArray 59 (0,0))]):=by
     refine hSp4'.app ?_
     exact SepK.nil.cons (zf_ hb13 (by simp[keys])) fun d hd=>zf_ hb13 (by simp only[keys,List.map_cons,List.map_nil,List.map_append,List.mem_cons,List.mem_append] at hd ⊢;simp[hd])
    with_reducible refine Ow.nil ?_
    refine⟨fun q hq=> ?_, ?_⟩
    ·rw[List.mem_singleton.1 hq,kQ_ hc4]
     simp(disch:=omega) only[zx_]
     rw[rdc,rdc]
    refine kq @qJ_ ?_
    refine Cw.permL (M:=(b1,Obj.cells #[vi 2,vs t] 35 (0,0)):: (D++ (D4++ [(b13,Obj.cells (zm_ (jN_ x)).toArray 59 (0,0))]))) (by classical exact List.perm_iff_count.2 fun a=>by simp only[List.count_append,List.count_cons,List.count_nil]<;>omega) ?_
    first|with_reducible refine ks [] @qJ_ ?_|refine kp @qJ_ ?_
    refine Again.mk (ChG.mk (g+1) v4 (D4++ [(b13,Obj.cells (zm_ (jN_ x)).toArray 59 (0,0))])) (by show l.length - (g+1)<l.length - g;omega) ⟨by show g+1≤l.length;omega,hN4.app ⟨hw13,trivial⟩,hSp4, ?_⟩ rfl rfl
    show Gr _ _ _ _ ((l.take (g+1)).map jN_).length (((l.take (g+1)).map jN_).map zm_).flatten
    rw[hml]
    exact Gr.app (Gr.snoc rfl hbuf)
   ·obtain rfl:g=l.length:=by omega
    rw[List.take_length] at hG
    first|with_reducible refine ks [] (And.intro @qJ_ (And.intro @e3 (@ln1))) ?_|refine kp (And.intro @qJ_ (And.intro @e3 (@ln1))) ?_
    refine⟨_,(ke @qJ_), ?_⟩
    refine⟨Ext.of_new ⟨hw1,hD.app hN2⟩, ?_⟩
    exact hG.keep fun b o hb ho=>hSp.look ho
 ·have e2: ((3:Int)==2)=false:=rfl
  have e3: ((3:Int)==3)=true:=rfl
  refine ko (And.intro @qJ_ (And.intro @e2 (@e3))) ?_
  first|with_reducible refine ks [] (And.intro @qJ_ (And.intro @e2 (@e3))) ?_|refine kp (And.intro @qJ_ (And.intro @e2 (@e3))) ?_
  refine Ow.callC rfl rfl Tryz.call69 (fun w' hw'=>Zp_ t w' (by omega)) (fun B v D hA hB hN hS=> ?_)
  unfold adM_ at hS
  rw[aiV_ hr] at hS
  obtain⟨p,rfl,hgp⟩:=hS
  have hpl:=VP_ t
  have hcl:jj_ 3 t=⟨(kk_ t).1.tree,2⟩:: (kk_ t).1.par.map q3_:=by
   unfold jj_
   rw[hr,if_pos rfl,if_neg (by decide),if_pos rfl]
  rw[hcl]
  generalize (kk_ t).1.par=pl at*
  generalize (kk_ t).1.tree=T at*
  generalize (kk_ t).1.text=tx at*
  have lnp:=hgp.len
  have hD:New w.heap.size D:=New.mono hB hN
  have st7: ∀a E,zs_ (some (a,34)) (some (.cells (qG_ id0 (.slice none 0 0) []).toArray E (0,0))) 0 (.agg (qG_ T p tx).toArray)=some (.cells (qG_ T p tx).toArray E (0,0)):=fun a E=>ZH_ _ _ _ _ a E (by rw[List.size_toArray,vo_]) hgp.cell.1
  refine ko @qJ_ ?_
  refine Ow.alloc rfl rfl ahL_ fun b7 hb7 hw7=> ?_
  simp only[ze_,List.nil_append,List.cons_append]
  have h17:b1<b7:=zf_ hb7 (by simp[keys])
  have hB7: ∀d,d∈keys D→d<b7:=fun d hd=>zf_ hb7 (by simp only[keys,List.map_cons,List.map_append,List.mem_cons,List.mem_append] at hd ⊢;simp[hd])
  refine Ow.permL (M:=(b7,Obj.cells (qG_ id0 (.slice none 0 0) []).toArray 126 (0,0)):: (b1,Obj.cells #[vi 3,vs t] 35 (0,0))::D) (by classical exact List.perm_iff_count.2 fun a=>by simp only[List.count_append,List.count_cons,List.count_nil]<;>omega) ?_
  refine ko (And.intro @qJ_ @st7) ?_
  first|with_reducible refine ks [] @qJ_ ?_|refine kp @qJ_ ?_
  refine Ow.build (.agg (zm_ ⟨T,2⟩).toArray) rfl (k1_ ⟨T,2⟩) ?_
  refine ko @qJ_ ?_
  refine Ow.buildSlice (e:=59) (zm_ ⟨T,2⟩).toArray rfl rfl (qu_ Tryz.underlying44 q1_ jF_ (by decide) (zo_ _)) fun b13 hb13 hw13=> ?_
  have h713:b7<b13:=zf_ hb13 (by simp[keys])
  have h113:b1<b13:=zf_ hb13 (by simp[keys])
  have hB13: ∀d,d∈keys D→d<b13:=fun d hd=>by have:=hB7 d hd;omega
  refine Ow.permL (M:= []++ ((b13,Obj.cells (zm_ ⟨T,2⟩).toArray 59 (0,0)):: (b7,Obj.cells (qG_ T p tx).toArray 126 (0,0)):: (b1,Obj.cells #[vi 3,vs t] 35 (0,0))::D)) (by classical exact List.perm_iff_count.2 fun a=>by simp only[List.count_append,List.count_cons,List.count_nil]<;>omega) ?_
  refine Ow.appendX (e:=59) (n:=0) (cs:= []) (k:=1) (new:=zm_ ⟨T,2⟩) (X:= []) (.slice none 0 0) rfl rfl rfl rfl Tryz.underlying44 q1_ (by kernel_rfl) jF_ (by rw[zG_,List.size_toArray,zo_]) Tryz.underlying44 (by intro k h;cases h) Gr.nl (fun w' hw'=>AppX.one1 (hw'.has b13 (.cells (zm_ ⟨T,2⟩).toArray 59 (0,0)) (by simp)) (zo_ _) (qe_ _)) (by omega) (by omega) (fun B2 v4 D4 hA4 hB4 hbuf hk1 hk2 hlk4=> ?_)
  have hN4:New w.heap.size D4:=New.of_le fun q hq=>by
   rcases hk2 q hq with h|h
   ·cases h
   ·omega
  have hSp4:SepK b7 ((b1,Obj.cells #[vi 3,vs t] 35 (0,0))::D) (D4++ [(b13,Obj.cells (zm_ ⟨T,2⟩).toArray 59 (0,0))]):=by
   refine SepK.app (SepK.nil.grow hk2 (zf_ hA4 (by simp[keys])) fun d hd=>zf_ hA4 (by simp only[keys,List.map_cons,List.map_append,List.nil_append,List.mem_cons,List.mem_append] at hd ⊢;rcases hd with hd|hd<;>simp[hd])) (SepK.nil.cons h713 fun d hd=> ?_)
   simp only[keys,List.map_cons,List.mem_cons] at hd
   rcases hd with hd|hd
   ·omega
   ·exact hB13 d hd
  refine Ow.permL (M:=(b7,Obj.cells (qG_ T p tx).toArray 126 (0,0)):: ((b1,Obj.cells #[vi 3,vs t] 35 (0,0))::D++ (D4++ [(b13,Obj.cells (zm_ ⟨T,2⟩).toArray 59 (0,0))]))) (by classical exact List.perm_iff_count.2 fun a=>by simp only[List.count_append,List.count_cons,List.count_nil]<;>omega) ?_
  have hG4:Gr (D4++ [(b13,Obj.cells (zm_ ⟨T,2⟩).toArray 59 (0,0))]) 59 33 v4 (⟨T,2⟩:: (pl.take 0).map q3_:List ChildL).length ((⟨T,2⟩:: (pl.take 0).map q3_:List ChildL).map zm_).flatten:=by
   have:=Gr.snoc (l:=([]:List ChildL)) (x:=⟨T,2⟩) rfl (by simpa using hbuf)
   exact this.app
  have hN5:=hN4.app (show New w.heap.size [(b13,Obj.cells (zm_ ⟨T,2⟩).toArray 59 (0,0))] from⟨hw13,trivial⟩)
  generalize D4++ [(b13,Obj.cells (zm_ ⟨T,2⟩).toArray 59 (0,0))]=D5 at hSp4 hG4 hN5 ⊢
  refine ko @qJ_ ?_
  first|with_reducible refine ks [] @qJ_ ?_|refine kp @qJ_ ?_
  refine Cw.loopG (G:=ChG) [54,55,56,57,58,61,62,63,64,65,66,67,68,69,3,59,60,9] (fun q=> [(3,q.v),(9,vi q.g)]) (fun q=>(b7,Obj.cells (qG_ T p tx).toArray 126 (0,0)):: ((b1,Obj.cells #[vi 3,vs t] 35 (0,0))::D++q.D)) (fun q=>q.g≤pl.length∧New w.heap.size q.D∧SepK b7 ((b1,Obj.cells #[vi 3,vs t] 35 (0,0))::D) q.D∧Gr q.D 59 33 q.v (⟨T,2⟩:: (pl.take q.g).map q3_:List ChildL).length ((⟨T,2⟩:: (pl.take q.g).map q3_:List ChildL).map zm_).flatten) (fun q=>pl.length - q.g) ⟨0,v4,D5⟩ rfl rfl ?_ ?_
  ·exact⟨Nat.zero_le _,hN5,hSp4,hG4⟩
  ·intro q jq hq
   refine kv ?_
   obtain⟨g,v,D2⟩:=q
   simp only at hq ⊢
   obtain⟨hgl,hN2,hSp,hG⟩:=hq
   by_cases hlt:g<pl.length
   ·obtain⟨c,cc,rest,rfl,hlc⟩:=Gr.rows hgp (by omega)
    have hcD:=zn_ hlc
    have hcb:=hN.le c hcD
    have hc1:b1≠c:=by have:=hA.1;omega
    have hc7:b7≠c:=by have:=hB7 c hcD;omega
    have rdc: ∀M,zv_ w (D++M) c=some (idRO rest pl):=fun M=>zg_ (zp_ hlc)
    have ldc:=aat_ (rest:=rest) g hlt
    have hml:=xI_ q3_ id0 hlt
    have hmll: ((pl.take g).map q3_).length=g:=by rw[List.length_map,List.length_take];omega
    generalize hx:pl.getD g id0=x at ldc hml
    have hxl:=x.h
    have d9:decide (((g:Nat):Int)< ((pl.length:Nat):Int))=true:=decide_eq_true (by omega)
    first|with_reducible refine ks [] (And.intro @qJ_ (And.intro @rdc (And.intro @ldc (@d9)))) ?_|refine kp (And.intro @qJ_ (And.intro @rdc (And.intro @ldc (@d9)))) ?_
    refine Ow.build (.agg (zm_ (q3_ x)).toArray) rfl (k1_ (q3_ x)) ?_
    refine ko @qJ_ ?_
    refine Ow.buildSlice (e:=59) (zm_ (q3_ x)).toArray rfl rfl (qu_ Tryz.underlying44 q1_ jF_ (by decide) (zo_ _)) fun b14 hb14 hw14=> ?_
    refine Ow.permL (M:=D2++ ((b7,Obj.cells (qG_ T (vsl c 0 pl.length cc) tx).toArray 126 (0,0)):: (b14,Obj.cells (zm_ (q3_ x)).toArray 59 (0,0)):: (b1,Obj.cells #[vi 3,vs t] 35 (0,0))::D)) (by classical exact List.perm_iff_count.2 fun a=>by simp only[List.count_append,List.count_cons,List.count_nil]<;>omega) ?_
    refine Ow.appendX (e:=59) (k:=1) (new:=zm_ (q3_ x)) (X:=D2) v rfl rfl rfl rfl Tryz.underlying44 q1_ (by kernel_rfl) jF_ (by rw[zG_,List.size_toArray,zo_]) Tryz.underlying44 (by intro k h;cases h) hG (fun w' hw'=>AppX.one1 (hw'.has b14 (.cells (zm_ (q3_ x)).toArray 59 (0,0)) (by simp)) (zo_ _) (qe_ _)) (by omega) (by rw[List.length_cons,hmll];omega) (fun B3 v6 D6 hA6 hB6 hbuf hk1' hk2' hlk6=> ?_)
    have hN6:New w.heap.size D6:=New.of_le fun q hq=>by
     rcases hk2' q hq with h|h
     ·exact hN2.le q h
     ·omega
    have hSp6:SepK b7 ((b1,Obj.cells #[vi 3,vs t] 35 (0,0))::D) (D6++ [(b14,Obj.cells (zm_ (q3_ x)).toArray 59 (0,0))]):=by
     refine SepK.app (hSp.grow hk2' (zf_ hA6 (by simp[keys])) fun d hd=>zf_ hA6 (by simp only[keys,List.map_cons,List.map_append,List.mem_cons,List.mem_append] at hd ⊢;rcases hd with hd|hd<;>simp[hd])) (SepK.nil.cons (zf_ hb14 (by simp[keys])) fun d hd=>zf_ hb14 ?_)
     simp only[keys,List.map_cons,List.map_append,List.mem_cons,List.mem_append] at hd ⊢
     rcases hd with hd|hd<;>simp[hd]
    refine Ow.permL (M:=(b7,Obj.cells (qG_ T (vsl c 0 pl.length cc) tx).toArray 126 (0,0)):: ((b1,Obj.cells #[vi 3,vs t] 35 (0,0))::D++ (D6++ [(b14,Obj.cells (zm_ (q3_ x)).toArray 59 (0,0))]))) (by classical exact List.perm_iff_count.2 fun a=>by simp only[List.count_append,List.count_cons,List.count_nil]<;>omega) ?_
    refine ko @qJ_ ?_
    first|with_reducible refine ks [] @qJ_ ?_|refine kp @qJ_ ?_
    refine Again.mk (ChG.mk (g+1) v6 (D6++ [(b14,Obj.cells (zm_ (q3_ x)).toArray 59 (0,0))])) (by show pl.length - (g+1)<pl.length - g;omega) ⟨by show g+1≤pl.length;omega,hN6.app ⟨hw14,trivial⟩,hSp6, ?_⟩ rfl rfl
    show Gr _ _ _ _ (⟨T,2⟩:: (pl.take (g+1)).map q3_:List ChildL).length ((⟨T,2⟩:: (pl.take (g+1)).map q3_:List ChildL).map zm_).flatten
    rw[hml]
    exact Gr.app (Gr.snoc (l:=(⟨T,2⟩:: (pl.take g).map q3_:List ChildL)) rfl hbuf)
   ·obtain rfl:g=pl.length:=by omega
    rw[List.take_length] at hG
    have d9:decide (((pl.length:Nat):Int)< ((pl.length:Nat):Int))=false:=decide_eq_false (by omega)
    first|with_reducible refine ks [] (And.intro @qJ_ (And.intro @lnp (@d9))) ?_|refine kp (And.intro @qJ_ (And.intro @lnp (@d9))) ?_
    refine⟨_,(ke @qJ_), ?_⟩
    refine⟨Ext.of_new ⟨hw7,New.app (show New w.heap.size ((b1,Obj.cells #[vi 3,vs t] 35 (0,0))::D) from⟨hw1,hD⟩) hN2⟩, ?_⟩
    exact hG.keep fun b o hb ho=>hSp.look ho
end Go.Proofs
end
namespace Go.RooP
open Go Go.Sx
abbrev Il:=List (List UInt8)
def putI (x:List UInt8):Il→Il
 | []=> [x]
 |a::l=>if ltB a x=true then a::putI x l else if a==x then a::l else x::a::l
def Ris (l:Il):Prop:=l.Pairwise fun a b=>ltB a b=true
theorem mem_putI {x y:List UInt8}: ∀ {l:Il},y∈putI x l↔y=x∨y∈l
 | []=>by simp[putI]
 |a::l=>by
  unfold putI
  split
  ·rw[List.mem_cons,mem_putI (l:=l),List.mem_cons]
   constructor
   ·rintro(h|h|h)<;>simp[h]
   ·rintro(h|h|h)<;>simp[h]
  ·split
   ·rename_i h;have h:=eq_of_beq h;subst h
    rw[List.mem_cons]
    constructor
    ·rintro(h|h)<;>simp[h]
    ·rintro(h|h|h)<;>simp[h]
   ·rw[List.mem_cons]
theorem ad4_ {x:List UInt8}: ∀ {l:Il},Ris l→Ris (putI x l)
 | [],_=>by simp[putI,Ris]
 |a::l,h=>by
  have h1:=List.pairwise_cons.1 h
  unfold putI
  split
  ·rename_i hlt
   refine List.pairwise_cons.2 ⟨fun y hy=> ?_,ad4_ h1.2⟩
   rcases mem_putI.1 hy with rfl|hy
   ·exact hlt
   ·exact h1.1 y hy
  ·rename_i hlt
   split
   ·exact h
   ·rename_i hne
    have hxa:ltB x a=true:=x9_ (by simpa using hlt) (fun e=>hne (by simp[e]))
    refine List.pairwise_cons.2 ⟨fun y hy=> ?_,h⟩
    rcases List.mem_cons.1 hy with rfl|hy
    ·exact hxa
    ·exact kR_ hxa (h1.1 y hy)
theorem Ris.ext: ∀ {a b:Il},Ris a→Ris b→(∀x,x∈a↔x∈b)→a=b
 | [],[],_,_,_=>rfl
 | [],y::b,_,_,h=>by have:=(h y).2 List.mem_cons_self;cases this
 |x::a,[],_,_,h=>by have:=(h x).1 List.mem_cons_self;cases this
 |x::a,y::b,ha,hb,h=>by
  have pa:=List.pairwise_cons.1 ha
  have pb:=List.pairwise_cons.1 hb
  have hxy:x=y:=by
   rcases List.mem_cons.1 ((h x).1 List.mem_cons_self) with e|e
   ·exact e
   ·rcases List.mem_cons.1 ((h y).2 List.mem_cons_self) with e2|e2
    ·exact e2.symm
    ·have h1:=pa.1 y e2
     have h2:=pb.1 x e
     rw[JG_ h1] at h2;cases h2
  subst hxy
  congr 1
  refine Ris.ext pa.2 pb.2 fun z=> ?_
  have hz:=h z
  rw[List.mem_cons,List.mem_cons] at hz
  constructor
  ·intro hm
   rcases hz.1 (.inr hm) with rfl|h3
   ·have:=pa.1 z hm;rw[xo_] at this;cases this
   ·exact h3
  ·intro hm
   rcases hz.2 (.inr hm) with rfl|h3
   ·have:=pb.1 z hm;rw[xo_] at this;cases this
   ·exact h3
end Go.RooP
namespace Go.RefP
open Go Go.Sx
abbrev Pr:=List UInt8×List UInt8
def zp:Pr:=([],[])
def setM (z:List UInt8) (r:Pr) (m:xk_):xk_:=if r.2==z then delV r.1 (updV r.1 r.2 m) else updV r.1 r.2 m
def JF_ (x:Pr):xk_→Bool→xk_
 | [],dn=>if dn then [] else [x]
 |p::r,dn=>if p.1==x.1 then JF_ x r dn else if !dn&& !(ltB p.1 x.1||p.1==x.1) then x::p::JF_ x r true else p::JF_ x r dn
def setL (z:List UInt8) (l:xk_) (x:Pr):xk_:=JF_ x l (x.2==z)
def Rising (l:xk_):Prop:=l.Pairwise fun a b=>ltB a.1 b.1=true
def vH_ (m:xk_):Prop:=(m.map Prod.fst).Nodup
theorem Rising.nd {l:xk_} (h:Rising l):vH_ l:=by
 unfold vH_ List.Nodup
 rw[List.pairwise_map]
 exact List.Pairwise.imp (fun hab=>akq_ hab) h
def but (k:List UInt8) (m:xk_):xk_:=m.filter fun p=> !(p.1==k)
theorem KN_ {k:List UInt8} {m:xk_} (h:k∉m.map Prod.fst):but k m=m:=by
 unfold but
 refine List.filter_eq_self.2 fun p hp=> ?_
 have:p.1≠k:=fun e=>h (List.mem_map.2 ⟨p,hp,e⟩)
 simp[this]
theorem Wb_ (k:List UInt8) (m:xk_):k∉ (but k m).map Prod.fst:=by
 intro h
 obtain⟨p,hp,rfl⟩:=List.mem_map.1 h
 simp[but] at hp
theorem Ze_ {k v:List UInt8}: ∀ {m:xk_},vH_ m→(updV k v m).Perm ((k,v)::but k m)
 | [],_=>List.Perm.refl _
 |p::r,h=>by
  simp only[vH_,List.map_cons,List.nodup_cons] at h
  unfold updV
  cases hk: (k==p.1)
  ·simp only[Bool.false_eq_true, ↓reduceIte]
   have hk': (p.1==k)=false:=by
    rw[beq_eq_false_iff_ne] at hk ⊢;exact fun e=>hk e.symm
   have ih:=Ze_ (k:=k) (v:=v) (m:=r) h.2
   have:but k (p::r)=p::but k r:=by unfold but;rw[List.filter_cons];simp[hk']
   rw[this]
   exact(List.Perm.cons p ih).trans (List.Perm.swap _ _ _)
  ·simp only[↓reduceIte]
   have e:k=p.1:=by simpa using hk
   subst e
   have:but p.1 (p::r)=r:=by
    have h2:=KN_ h.1
    unfold but at h2 ⊢;rw[List.filter_cons];simp[h2]
   rw[this]
theorem alF_ {k v:List UInt8} {m:xk_} (h:vH_ m):vH_ (updV k v m):=by
 have hp:=(Ze_ (k:=k) (v:=v) h).map Prod.fst
 refine(List.Perm.nodup_iff hp).2 ?_
 simp only[List.map_cons,List.nodup_cons]
 refine⟨Wb_ k m, ?_⟩
 exact List.Nodup.sublist (List.Sublist.map _ List.filter_sublist) h
theorem ahy_ {k:List UInt8}: ∀ {m:xk_},vH_ m→delV k m=but k m
 | [],_=>rfl
 |p::r,h=>by
  simp only[vH_,List.map_cons,List.nodup_cons] at h
  unfold delV
  cases hk: (k==p.1)
  ·have hk': (p.1==k)=false:=by
    rw[beq_eq_false_iff_ne] at hk ⊢;exact fun e=>hk e.symm
   simp only[Bool.false_eq_true, ↓reduceIte,ahy_ h.2]
   unfold but;rw[List.filter_cons];simp[hk']
  ·have e:k=p.1:=by simpa using hk
   subst e
   simp only[↓reduceIte]
   have h2:=KN_ h.1
   unfold but at h2 ⊢;rw[List.filter_cons];simp[h2]
theorem akW_ {k v:List UInt8} {m:xk_} (h:vH_ m): (but k (updV k v m)).Perm (but k m):=by
 have hp:=(Ze_ (k:=k) (v:=v) h).filter fun p=> !(p.1==k)
 have e1:List.filter (fun p=> !(p.1==k)) ((k,v)::but k m)=but k m:=by
  rw[List.filter_cons]
  simp only[beq_self_eq_true,Bool.not_true,Bool.false_eq_true, ↓reduceIte]
  exact KN_ (Wb_ k m)
 rw[e1] at hp
 exact hp
theorem ahz_ {z:List UInt8} {r:Pr} {m:xk_} (h:vH_ m): (setM z r m).Perm (if r.2==z then but r.1 m else r::but r.1 m):=by
 unfold setM
 split
 ·rw[ahy_ (alF_ h)];exact akW_ h
 ·exact Ze_ h
theorem xY_ (x:Pr): ∀ (l:xk_),JF_ x l true=but x.1 l
 | []=>rfl
 |p::r=>by
  unfold JF_
  cases h: (p.1==x.1)
  ·simp only[Bool.false_eq_true, ↓reduceIte,Bool.not_true,Bool.false_and,xY_ x r]
   unfold but;rw[List.filter_cons];simp[h]
  ·simp only[↓reduceIte,xY_ x r]
   unfold but;rw[List.filter_cons];simp[h]
theorem v8_ (x:Pr): ∀ (l:xk_),(JF_ x l false).Perm (x::but x.1 l)
 | []=>List.Perm.refl _
 |p::r=>by
  unfold JF_
  cases h: (p.1==x.1)
  ·have e:but x.1 (p::r)=p::but x.1 r:=by unfold but;rw[List.filter_cons];simp[h]
   simp only[Bool.false_eq_true, ↓reduceIte,Bool.not_false,Bool.true_and,Bool.or_false]
   rw[e]
   split
   ·rw[xY_]
   ·exact(List.Perm.cons p (v8_ x r)).trans (List.Perm.swap _ _ _)
  ·have e:but x.1 (p::r)=but x.1 r:=by unfold but;rw[List.filter_cons];simp[h]
   simp only[↓reduceIte]
   rw[e]
   exact v8_ x r
theorem ahu_ (z:List UInt8) (l:xk_) (x:Pr): (setL z l x).Perm (if x.2==z then but x.1 l else x::but x.1 l):=by
 unfold setL
 cases x.2==z
 ·exact v8_ x l
 ·rw[xY_];exact List.Perm.refl _
theorem Ke_ {k:List UInt8} {l:xk_} (h:Rising l):Rising (but k l):=List.Pairwise.sublist List.filter_sublist h
theorem afF_ {x p:Pr} {l:xk_} (h:p∈JF_ x l false):p=x∨p∈l:=by
 have:=(v8_ x l).mem_iff.1 h
 rcases List.mem_cons.1 this with rfl|h2
 ·exact .inl rfl
 ·exact .inr (List.mem_filter.1 h2).1
theorem vN_ (x:Pr): ∀ {l:xk_},Rising l→Rising (JF_ x l false)
 | [],_=>List.pairwise_singleton _ _
 |p::r,h=>by
  have h':=List.pairwise_cons.1 h
  unfold JF_
  cases hk: (p.1==x.1)
  ·simp only[Bool.false_eq_true, ↓reduceIte,Bool.not_false,Bool.true_and,Bool.or_false]
   have hne:p.1≠x.1:=by simpa using hk
   cases hl:ltB p.1 x.1
   ·have hx:=x9_ hl hne
    simp only[Bool.not_false, ↓reduceIte]
    rw[xY_]
    refine List.pairwise_cons.2 ⟨?_,List.pairwise_cons.2 ⟨?_,Ke_ h'.2⟩⟩
    ·intro q hq
     rcases List.mem_cons.1 hq with rfl|hq
     ·exact hx
     ·exact kR_ hx (h'.1 q (List.mem_filter.1 hq).1)
    ·intro q hq
     exact h'.1 q (List.mem_filter.1 hq).1
   ·simp only[Bool.not_true,Bool.false_eq_true, ↓reduceIte]
    refine List.pairwise_cons.2 ⟨?_,vN_ x h'.2⟩
    intro q hq
    rcases afF_ hq with rfl|hq
    ·exact hl
    ·exact h'.1 q hq
  ·simp only[↓reduceIte]
   exact vN_ x h'.2
theorem ac1_ {z:List UInt8} {l:xk_} {x:Pr} (h:Rising l):Rising (setL z l x):=by
 unfold setL
 cases x.2==z
 ·exact vN_ x h
 ·rw[xY_];exact Ke_ h
def Rel (m l:xk_):Prop:=m.Perm l∧Rising l
theorem Rel.nd {m l:xk_} (h:Rel m l):vH_ m:=(List.Perm.nodup_iff (h.1.map Prod.fst)).2 h.2.nd
theorem Rel.set {z:List UInt8} {m l:xk_} {x:Pr} (h:Rel m l):Rel (setM z x m) (setL z l x):=by
 refine⟨?_,ac1_ h.2⟩
 have hb: (but x.1 m).Perm (but x.1 l):=h.1.filter _
 refine(ahz_ h.nd).trans (List.Perm.trans ?_ (ahu_ z l x).symm)
 split
 ·exact hb
 ·exact List.Perm.cons _ hb
def anR_ (nm:List UInt8→Bool) (z:List UInt8) (t:xk_) (g:Nat):Bool:=
 nm (t.getD g zp).1&& !((t.getD g zp).2==z)&& (g==0||ltB (t.getD (g - 1) zp).1 (t.getD g zp).1)
def logL (nm:List UInt8→Bool) (z:List UInt8) (l:xk_) (m0:xk_):Nat→Option xk_
 |0=>some m0
 |g+1=>(logL nm z l m0 g).bind fun m=>if(nm (l.getD g zp).1&&decide ((setL z m (l.getD g zp)).length≤16))=true then some (setL z m (l.getD g zp)) else none
def ane_ (nm:List UInt8→Bool) (z:List UInt8) (t:xk_):Bool:=(List.range t.length).all (anR_ nm z t)
def ofL (nm:List UInt8→Bool) (z:List UInt8) (t l:xk_) (k:Nat):Option xk_:=
 if t.length≤16∧l.length≤100∧ane_ nm z t=true then logL nm z l t k else none
def JR_ (nm:List UInt8→Bool) (z:List UInt8) (t l:xk_):Bool:=(ofL nm z t l l.length).isSome
theorem K8_ {k v:List UInt8}: ∀ {m:xk_} {p:Pr},p∈updV k v m→p.2=v∨p∈m
 | [],p,h=>by simp only[updV,List.mem_singleton] at h;exact .inl (by rw[h])
 |q::r,p,h=>by
  unfold updV at h
  split at h
  ·rcases List.mem_cons.1 h with rfl|h
   ·exact .inl rfl
   ·exact .inr (List.mem_cons_of_mem _ h)
  ·rcases List.mem_cons.1 h with rfl|h
   ·exact .inr List.mem_cons_self
   ·rcases K8_ h with h|h
    ·exact .inl h
    ·exact .inr (List.mem_cons_of_mem _ h)
theorem adq_ {k:List UInt8}: ∀ {m:xk_} {p:Pr},p∈delV k m→p∈m
 | [],_,h=>h
 |q::r,p,h=>by
  unfold delV at h
  split at h
  ·exact List.mem_cons_of_mem _ h
  ·rcases List.mem_cons.1 h with rfl|h
   ·exact List.mem_cons_self
   ·exact List.mem_cons_of_mem _ (adq_ h)
theorem aji_ {z:List UInt8} {r p:Pr} {m:xk_} (h:p∈setM z r m):p.2=r.2∨p∈m:=by
 unfold setM at h
 split at h
 ·exact K8_ (adq_ h)
 ·exact K8_ h
def AllLen (m:xk_):Prop:= ∀p,p∈m→p.2.length=32
theorem AllLen.set {z:List UInt8} {r:Pr} {m:xk_} (h:AllLen m) (hr:r.2.length=32):AllLen (setM z r m):=by
 intro p hp
 rcases aji_ hp with e|h2
 ·rw[e];exact hr
 ·exact h p h2
end Go.RefP
section
open Go Go.Proofs Go.Sx Go.RefP Go.RooP
namespace Go.Proofs
set_option maxRecDepth 100000
set_option maxHeartbeats 400000
set_option linter.unusedSimpArgs false
theorem af6_: ∀ (a b:List UInt8),Lib.compareBytes a b=if ltB a b=true then -1 else if ltB b a=true then 1 else 0
 | [],[]=>by simp[Lib.compareBytes,ltB,Op.bytesLess]
 |_::_,[]=>by simp[Lib.compareBytes,ltB,Op.bytesLess]
 | [],_::_=>by simp[Lib.compareBytes,ltB,Op.bytesLess]
 |a::x,b::y=>by
  have ih:=af6_ x y
  unfold Lib.compareBytes
  rw[Zd_,Zd_] at*
  rw[ih]
  simp only[List.cons_lt_cons_iff,decide_eq_true_eq]
  by_cases h1:a<b
  ·simp[h1]
  ·by_cases h2:b<a
   ·have: ¬a=b:=fun e=>by subst e;exact h1 h2
    simp[h1,h2,this]
   ·have:a=b:=UInt8.le_antisymm (UInt8.not_lt.1 h2) (UInt8.not_lt.1 h1)
    subst this
    simp[h1]
theorem wz_ {b:Nat} {E:TypeId} {fz:Nat×Nat} {arr:Array Value} {w:World} (hb:w.heap[b]? =some (.cells arr E fz)): ∀ (l:List UInt8) (off:Nat) (acc:ByteArray),(∀j,j<l.length→arr[off+j]? =some (v8 (l.getD j 0)))→
  (Extern.Bytes.loadBytes ⟨b,off,none⟩ l.length acc).run Tryz.prog w= .ok (acc++ ⟨l.toArray⟩) w
 | [],off,acc,_=>by
  show Result.ok acc w=_
  congr 1
  apply ByteArray.ext
  simp
 |x::l,off,acc,h=>by
  have h0:=h 0 (by simp)
  simp only[Nat.add_zero,List.getD_cons_zero] at h0
  have hc:w.cell? ⟨b,off,none⟩=some (v8 x):=by rw[cell_of_row w b _ arr E fz hb];exact h0
  have hld: (load ⟨b,off,none⟩).run Tryz.prog w= .ok (v8 x) w:=by
   simp only[load,Sem.run,hc]
  rw[List.length_cons,Extern.Bytes.loadBytes,Sem.run_bind,hld,Result.andThen_ok]
  simp only[v8,qE_]
  have e: ((x.toNat:Int).toNat.toUInt8)=x:=by
   rw[Int.toNat_natCast]
   exact UInt8.ofNat_toNat
  rw[e,wz_ hb l (off+1) _ (fun j hj=>by
   have:=h (j+1) (by simpa using hj)
   rw[List.getD_cons_succ] at this
   rw[←this];congr 1;omega)]
  congr 1
  apply ByteArray.ext
  simp
theorem J8_ {b:Nat} {l:List UInt8} {E:TypeId} {w:World} (hb:w.heap[b]? =some (.cells (a8 l) E (0,0))): (Extern.Bytes.bytesOf (vsl b 0 l.length l.length)).run Tryz.prog w= .ok ⟨l.toArray⟩ w:=by
 have h:=wz_ hb l 0 .empty (fun j hj=>by simp[a8,v8,hj])
 show(Extern.Bytes.loadBytes ⟨b,0,none⟩ l.length .empty).run Tryz.prog w=_
 rw[h]
 congr 1
theorem aiO_ {b c:Nat} {l m:List UInt8} {E E2:TypeId} {w:World} (hb:w.heap[b]? =some (.cells (a8 l) E (0,0))) (hc:w.heap[c]? =some (.cells (a8 m) E2 (0,0))):
  (callFunc 201 #[vsl b 0 l.length l.length,vsl c 0 m.length m.length]).run Tryz.prog w= .ok (.value (.int .i64 (Lib.compareBytes l m))) w:=by
 rw[run_callFunc_extern Tryz.func201 (by kernel_rfl) (by kernel_rfl) (by kernel_rfl) (e:=Extern.BytealgCompare.compare) (by kernel_rfl)]
 show((Extern.BytealgCompare.compare #[vsl b 0 l.length l.length,vsl c 0 m.length m.length]).run Tryz.prog w).andThen _=_
 have: (Extern.BytealgCompare.compare #[vsl b 0 l.length l.length,vsl c 0 m.length m.length]).run Tryz.prog w= .ok (.int .i64 (Lib.compareBytes l m)) w:=by
  change Sem.run Tryz.prog (do pure (goInt (Extern.BytealgCompare.cmp (←Extern.Bytes.bytesOf _) (←Extern.Bytes.bytesOf _)))) w=_
  have h1:=J8_ hb
  have h2:=J8_ hc
  rw[Sem.run_bind]
  erw[h1]
  rw[Result.andThen_ok,Sem.run_bind]
  erw[h2]
  rw[Result.andThen_ok,Lib.cmp_eq]
  rfl
 rw[this];rfl
theorem VS_ {b c:Nat} {l m:List UInt8} {E E2:TypeId} {w:World} (hb:w.heap[b]? =some (.cells (a8 l) E (0,0))) (hc:w.heap[c]? =some (.cells (a8 m) E2 (0,0))):
  Calls Tryz.prog 143 #[vsl b 0 l.length l.length,vsl c 0 m.length m.length] w fun e w'=>e= .returned (.int .i64 (Lib.compareBytes l m))∧w'=w:=by
 have hr:=aiO_ hb hc
 generalize vsl b 0 l.length l.length=x at hr ⊢
 generalize vsl c 0 m.length m.length=y at hr ⊢
 go_enter Tryz.func143,Tryz.ntmps143
 go_wp2
 go_ret
 exact⟨rfl,rfl⟩
theorem Xd_ {b c:Nat} {x y:IdL} {E E2:TypeId} {w:World} (hb:w.heap[b]? =some (.cells (a8 x.l) E (0,0))) (hc:w.heap[c]? =some (.cells (a8 y.l) E2 (0,0))):
  Calls Tryz.prog 143 #[.slice (some ⟨b,0,none⟩) 32 32, .slice (some ⟨c,0,none⟩) 32 32] w fun e w'=>e= .returned (.int .i64 (Lib.compareBytes x.l y.l))∧w'=w:=by
 have h:=VS_ hb hc
 rw[x.h,y.h] at h
 exact h
theorem aew_ (x y:IdL) (W:World):Calls Tryz.prog 142 #[.agg (a8 x.l), .agg (a8 y.l)] W fun e w'=>e= .returned (.int .i64 (Lib.compareBytes x.l y.l))∧ ∃q os',w'=Go.Sort.grow (W.drewN q) os':=by
 have hx: (Value.agg (a8 x.l)).cells=a8 x.l:=rfl
 have hy: (Value.agg (a8 y.l)).cells=a8 y.l:=rfl
 go_enter Tryz.func142,Tryz.ntmps142
 go_wp2
 have h0: ((W.alloc (Obj.cells (a8 x.l) 24)).alloc (Obj.cells (a8 y.l) 24)).heap[W.heap.size]? =some (.cells (a8 x.l) 24 (0,0)):=by
  show((W.heap.push _).push _)[W.heap.size]? =_
  rw[Array.getElem?_push,if_neg (by simp),Array.getElem?_push,if_pos rfl]
 have h1: ((W.alloc (Obj.cells (a8 x.l) 24)).alloc (Obj.cells (a8 y.l) 24)).heap[W.heap.size+1]? =some (.cells (a8 y.l) 24 (0,0)):=by
  show((W.heap.push _).push _)[W.heap.size+1]? =_
  rw[Array.getElem?_push,if_pos (by simp)]
 refine wp_region_quiet_lit (by kernel_rfl) (by kernel_rfl) ?_
 quiet_step (skip)
 quiet_step (skip)
 refine wpQuiet_step (fun K hK=> ?_)
 go_simp
 refine⟨.int .i64 (Lib.compareBytes x.l y.l),fun n=>Calls.quiet_of_same (Xd_ h0 h1),hK _ ?_⟩
 clear hK K
 quiet_step (skip)
 refine wpQuiet_nil ?_
 intro _ hw'
 obtain⟨nq,rfl⟩:=hw'
 go_wp2
 go_ret
 exact⟨rfl,nq,_,by rw[Go.Sort.alloc_eq_grow,Go.Sort.alloc_eq_grow,Go.Sort.grow_grow];rfl⟩
theorem vf_ (x:IdL): (z4_ x).all Value.oneCell'=true:=Qf_ _
theorem aeJ_ (a b:IdL):q9_ Tryz.prog .eql 24 (.agg (a8 a.l)) (.agg (a8 b.l))=some (.bool (a.l==b.l)):=
 agr_ Tryz.underlying24 Tryz.underlying5 Tryz.ag5 (by kernel_rfl) a.l b.l ⟨a.h,b.h⟩
theorem akh_ (a b:IdL):q9_ Tryz.prog .neq 24 (.agg (a8 a.l)) (.agg (a8 b.l))=some (.bool (!(a.l==b.l))):=
 adh_ Tryz.underlying24 Tryz.underlying5 Tryz.ag5 (by kernel_rfl) a.l b.l ⟨a.h,b.h⟩
theorem IdL.ext2 {a b:IdL} (h:a.l=b.l):a=b:=by cases a;cases b;simp only at h;subst h;rfl
theorem JL_:z8_ Tryz.prog 24=some (.agg (a8 (List.replicate 32 0))):=Tryz.zr24
theorem amE_: ∀ (g:Nat) (a b:List UInt8),a.take g=b.take g→g<a.length→g<b.length→a.getD g 0≠b.getD g 0→ltB a b=decide (a.getD g 0<b.getD g 0)
 |_,[],_,_,h,_,_=>by simp at h
 |_,_::_,[],_,_,h,_=>by simp at h
 |0,x::a,y::b,_,_,_,hne=>by
  simp only[List.getD_cons_zero] at hne ⊢
  rw[Zd_]
  simp only[List.cons_lt_cons_iff]
  simp[hne]
 |g+1,x::a,y::b,h,h1,h2,hne=>by
  simp only[List.take_succ_cons,List.cons.injEq] at h
  simp only[List.getD_cons_succ] at hne ⊢
  obtain⟨rfl,h⟩:=h
  have ih:=amE_ g a b h (by simpa using h1) (by simpa using h2) hne
  rw[Zd_] at ih ⊢
  rw[←ih]
  simp
set_option linter.defProp false
def kL_:=And.intro (And.intro (@zJ_) (@zI_)) (And.intro (@aeJ_) (@akh_))
theorem ad7_ (x y:IdL) (w:World):Rets Tryz.prog 139 #[.agg (a8 x.l), .agg (a8 y.l)] w (fun v D=>v= .bool (ltB x.l y.l)∧D= []):=by
 have hx:=x.h
 have hy:=y.h
 refine Rets.enterV Tryz.func139 rfl (rs:= [.tmp 4]) Tryz.results139 Tryz.ntmps139 ?_
 refine kf ?_
 first|with_reducible refine ks [] @kL_ ?_|refine kp @kL_ ?_
 refine Ow.box rfl rfl fun b2 hb2 hw2=> ?_
 simp only[zW_,zT_,z1_,ze_,List.nil_append,List.cons_append]
 refine Ow.go rfl ?_
 simp(disch:=(first|assumption|omega| (simp only[qF_,qC_,UInt64.reduceToNat];try omega))) only[↓Sx.S0,Sx.S1,Tryz.fx,kL_,Nat.reduceAdd,Nat.reducePow,Int.reducePow,Nat.reduceBEq, ↓reduceIte,UInt8.reduceToNat,UInt16.reduceToNat,UInt32.reduceToNat,UInt64.reduceToNat,Int.reduceToNat]
 refine Ow.box rfl rfl fun b3 hb3 hw3=> ?_
 simp only[zW_,zT_,z1_,ze_,List.nil_append,List.cons_append]
 refine Ow.go rfl ?_
 simp(disch:=(first|assumption|omega| (simp only[qF_,qC_,UInt64.reduceToNat];try omega))) only[↓Sx.S0,Sx.S1,Tryz.fx,kL_,Nat.reduceAdd,Nat.reducePow,Int.reducePow,Nat.reduceBEq, ↓reduceIte,UInt8.reduceToNat,UInt16.reduceToNat,UInt32.reduceToNat,UInt64.reduceToNat,Int.reduceToNat]
 obtain⟨h23,-⟩:=hb3
 first|with_reducible refine ks [] @kL_ ?_|refine kp @kL_ ?_
 refine Cw.loopG (G:=Nat) [6,7,10,11,12,13,14,15,16,17,18,19,20,21,22,23,4,8,9,5] (fun g=> [(5,vi g)]) (fun g=> [(b2, .cells (a8 x.l) 24 (0,0)),(b3, .cells (a8 y.l) 24 (0,0))]) (fun g=>g≤32∧x.l.take g=y.l.take g) (fun g=>32 - g) 0 rfl rfl ?_ ?_
 ·exact⟨Nat.zero_le _,rfl⟩
 intro g j hg
 refine kv ?_
 obtain⟨hg1,hg2⟩:=hg
 by_cases hlt:g<32
 ·have d1:decide ((g:Int)<32)=true:=decide_eq_true (by omega)
  first|with_reducible refine ks [] (And.intro @kL_ @d1) ?_|refine kp (And.intro @kL_ @d1) ?_
  refine Cw.regionS [b2,b3] [0,1,3,4,2,5,6] [] (by kernel_rfl) (by kernel_rfl) (by kernel_rfl) ?_
  simp only[zh_, ↓zc_, ↓za_, ↓zk_, ↓zj_,zb_]
  refine kq @kL_ ?_
  by_cases hne:x.l.getD g 0=y.l.getD g 0
  ·have d2: (x.l.getD g 0 !=y.l.getD g 0)=false:=by rw[hne];exact bne_self_eq_false _
   first|with_reducible refine ks [] (And.intro @kL_ @d2) ?_|refine kp (And.intro @kL_ @d2) ?_
   refine Again.mk (G:=Nat) (g+1) (by show 32 - (g+1)<32 - g;omega) ⟨by show g+1≤32;omega, ?_⟩ rfl rfl
   rw[StP.take_snoc (z:=0) (by omega),StP.take_snoc (z:=0) (by omega),hg2,hne]
  ·have d2: (x.l.getD g 0 !=y.l.getD g 0)=true:=by simpa using hne
   first|with_reducible refine ks [] (And.intro @kL_ @d2) ?_|refine kp (And.intro @kL_ @d2) ?_
   refine Cw.regionS [b2,b3] [0,1,3,4,2,5,6,7] [] (by kernel_rfl) (by kernel_rfl) (by kernel_rfl) ?_
   simp only[zh_, ↓zc_, ↓za_, ↓zk_, ↓zj_,zb_]
   refine kq @kL_ ?_
   try with_reducible refine Ow.nil ?_
   first|with_reducible refine ks [] @kL_ ?_|refine kp @kL_ ?_
   refine⟨_,(ke @kL_),⟨hw2,hw3,trivial⟩, ?_⟩
   rw[amE_ g x.l y.l hg2 (by omega) (by omega) hne];rfl
 ·obtain rfl:g=32:=by omega
  have d1:decide (((32:Nat):Int)<32)=false:=rfl
  first|with_reducible refine ks [] (And.intro @kL_ @d1) ?_|refine kp (And.intro @kL_ @d1) ?_
  have e:ltB x.l y.l=false:=by
   rw[List.take_of_length_le (by omega),List.take_of_length_le (by omega)] at hg2
   rw[hg2];exact xo_ _
  refine⟨_,(ke @kL_),⟨hw2,hw3,trivial⟩, ?_⟩
  rw[e];rfl
def Qp_ (x:IdL):List IdL→List IdL
 | []=> [x]
 |a::l=>if ltB a.l x.l=true then a::Qp_ x l else if a.l==x.l then a::l else x::a::l
theorem adB_ (x:IdL): ∀ (l:List IdL),(Qp_ x l).map IdL.l=putI x.l (l.map IdL.l)
 | []=>rfl
 |a::l=>by
  unfold Qp_
  simp only[List.map_cons,putI]
  split
  ·rw[List.map_cons,adB_ x l]
  ·split<;>rfl
theorem adi_ (x:IdL): ∀ (l:List IdL),(Qp_ x l).length≤l.length+1
 | []=>Nat.le_refl _
 |a::l=>by
  unfold Qp_
  have:=adi_ x l
  split
  ·simp only[List.length_cons];omega
  ·split<;>simp
abbrev IdSl (w:World) (v:Value) (l:List IdL):Prop:=SlV 32 z4_ id0 w v l
theorem xq_ (i:IdL):kU_ Tryz.prog 30 1 [(0, .agg (a8 i.l))]=some (24,(z4_ i).toArray):=
 qu_ Tryz.underlying30 Tryz.ag24 JL_ (by decide) (z0_ i)
theorem kp_ (x:IdL) (E:TypeId):zA_ (some (true,32)) (some (.cells (a8 x.l) E (0,0))) 0=some (.agg (a8 x.l)):=ZJ_ _ E (0,0) 32 x.h
theorem JU_ {w:World} {v:Value} {l:List IdL} {b off:Nat} {arr:Array Value} {E:TypeId} {fz:Nat×Nat} (h:RowS 32 z4_ id0 w v l b off arr E fz) {k:Nat} (hk:k<l.length):
  zA_ (some (true,32)) (some (.cells arr E fz)) (off+k*32)=some (.agg (a8 (l.getD k id0).l)):=RowS.load h z0_ (by omega) hk
def PutS (v:Value) (l:List IdL) (x:IdL) (v':Value) (D:zi_):Prop:=
 (v'=v∧Qp_ x l=l)∨GrI D 24 32 v' (Qp_ x l).length ((Qp_ x l).map z4_).flatten
set_option linter.defProp false
def qv_:=And.intro (And.intro (@zJ_) (@zI_)) (And.intro (@aeJ_) (And.intro (@akh_) (@kp_)))
theorem kO_ (v:Value) (l:List IdL) (x:IdL) (w:World) (hv:IdSl w v l) (hl:l.length<100000):
  Rets Tryz.prog 73 #[v, .agg (a8 x.l)] w (XS w [] (PutS v l x)):=by
 obtain⟨b,off,arr,E,fz,hr⟩:=hv.row
 have ln:=hv.len
 refine Rets.enterX Tryz.func73 rfl (rs:= [.tmp 4]) Tryz.results73 Tryz.ntmps73 (fun p hp=>by cases hp) (by simp[keys]) ?_
 refine kf ?_
 first|with_reducible refine ks [] @qv_ ?_|refine kp @qv_ ?_
 refine Ow.box rfl rfl fun b3 hb3 hw3=> ?_
 simp only[zW_,zT_,z1_,ze_,List.nil_append,List.cons_append]
 refine Ow.go rfl ?_
 simp(disch:=(first|assumption|omega| (simp only[qF_,qC_,UInt64.reduceToNat];try omega))) only[↓Sx.S0,Sx.S1,Tryz.fx,qv_,Nat.reduceAdd,Nat.reducePow,Int.reducePow,Nat.reduceBEq, ↓reduceIte,UInt8.reduceToNat,UInt16.reduceToNat,UInt32.reduceToNat,UInt64.reduceToNat,Int.reduceToNat]
 first|with_reducible refine ks [] @qv_ ?_|refine kp @qv_ ?_
 have hN3:New w.heap.size [(b3,Obj.cells (a8 x.l) 24 (0,0))]:=⟨hw3,trivial⟩
 refine Cw.loopG (G:=Nat) [7,8,9,10,11,12,13,14,15,16,17,18,19,20,5] (fun g=> [(5,vi g)]) (fun g=> [(b3, .cells (a8 x.l) 24 (0,0))]) (fun g=>g≤l.length∧Qp_ x l=l.take g++Qp_ x (l.drop g)) (fun g=>l.length - g) 0 rfl rfl ?_ ?_
 ·exact⟨Nat.zero_le _,rfl⟩
 intro g j hg
 refine kv ?_
 obtain⟨h1,h2⟩:=hg
 obtain⟨vt,hvt,hlt',-⟩:=hv.take h1 true
 obtain⟨vd,hvd,hld',-⟩:=hv.dropE h1 true
 by_cases hlt:g<l.length
 ·have hb0:0<l.length:=by omega
  have hbl:=hr.lt hb0
  have r2:=hr.has hb0
  have hne:b3≠b:=by omega
  have i2:=hr.idx true g hlt
  have l2:=JU_ hr hlt
  have hdc:=StP.drop_cons (z:=id0) hlt
  generalize hy:l.getD g id0=y at*
  have rb:zv_ w [(b3,Obj.cells (a8 x.l) 24 (0,0))] b=some (.cells arr E fz):=by rw[qD_ (by simp[keys];omega)];exact r2
  have d1:decide ((g:Int)< (l.length:Int))=true:=decide_eq_true (by omega)
  first|with_reducible refine ks [] @qv_ ?_|refine kp @qv_ ?_
  refine Cw.regionS [b,b3] [0,1,2,3,4,5,6,7,8,9,10,11] [] (by kernel_rfl) (by kernel_rfl) (by kernel_rfl) ?_
  simp only[zh_, ↓zc_, ↓za_, ↓zk_, ↓zj_,zb_]
  refine kq (And.intro @qv_ (And.intro @ln (And.intro @d1 (And.intro @i2 (And.intro @rb (@l2)))))) ?_
  refine Ow.soft rfl rfl rfl ?_
  refine Ow.callFV rfl Tryz.call139 (fun w' hw'=>ad7_ y x w') ?_
  with_reducible refine Ow.nil ?_
  refine⟨by intro b hb;simp only[List.mem_cons,List.not_mem_nil,or_false] at hb;(try subst hb);rfl, ?_⟩
  cases hyx:ltB y.l x.l
  ·refine kq @qv_ ?_
   try with_reducible refine Ow.nil ?_
   first|with_reducible refine ks [] @qv_ ?_|refine kp @qv_ ?_
   refine Cw.regionS [b,b3] [0,1,2,3,4,5,6,7,8,9,10,11] [] (by kernel_rfl) (by kernel_rfl) (by kernel_rfl) ?_
   simp only[zh_, ↓zc_, ↓za_, ↓zk_, ↓zj_,zb_]
   refine kq (And.intro @qv_ (And.intro @ln (And.intro @d1 (And.intro @i2 (And.intro @rb (@l2)))))) ?_
   cases hxy: (y.l==x.l)
   ·have d5: (y.l==x.l)=false:=hxy
    first|with_reducible refine ks [] (And.intro @qv_ @hvt) ?_|refine kp (And.intro @qv_ @hvt) ?_
    have hpe:Qp_ x l=l.take g++x::l.drop g:=by rw[h2,hdc,Qp_,if_neg (by rw[hyx];simp),if_neg (by rw[hxy];simp)]
    have htl: (l.take g).length≤l.length:=by rw[List.length_take];omega
    have hdl: (l.drop g).length≤l.length:=by rw[List.length_drop];omega
    refine Ow.appendXG (e:=24) (k:=(l.take g).length) (new:=((l.take g).map z4_).flatten) (X:= []) (n:=0) (cs:= []) (.slice none 0 0) rfl rfl rfl rfl Tryz.underlying30 Tryz.ag24 (by kernel_rfl) JL_ (by simp[ze_,a8]) Tryz.underlying30 (by intro k h;cases h) Gr.nl (fun w' hw'=>(hlt'.oldN hw' hN3).appX z0_ vf_) (by omega) (fun B4 v4 D4 hA4 hB4 hG4 hk14 hk24 hlk4=> ?_)
    have hN4:New w.heap.size D4:=New.of_le fun q hq=>by
     rcases hk24 q hq with h|h
     ·cases h
     ·omega
    rw[Nat.zero_add,List.nil_append] at hG4
    refine Ow.permL (M:=(b3,Obj.cells (a8 x.l) 24 (0,0))::D4) (by classical exact List.perm_iff_count.2 fun a=>by simp only[List.count_append,List.count_cons,List.count_nil]<;>omega) ?_
    refine ko @qv_ ?_
    first|with_reducible refine ks [] @qv_ ?_|refine kp @qv_ ?_
    refine Ow.buildSlice (e:=24) (z4_ x).toArray rfl rfl (xq_ x) fun b6 hb6 hw6=> ?_
    refine Ow.permL (M:=D4++ [(b3,Obj.cells (a8 x.l) 24 (0,0)),(b6,Obj.cells (z4_ x).toArray 24 (0,0))]) (by classical exact List.perm_iff_count.2 fun a=>by simp only[List.count_append,List.count_cons,List.count_nil]<;>omega) ?_
    refine ko @qv_ ?_
    refine Ow.appendXG (e:=24) (k:=1) (new:=z4_ x) (X:=D4) v4 rfl rfl rfl rfl Tryz.underlying30 Tryz.ag24 (by kernel_rfl) JL_ (by simp[ze_,a8]) Tryz.underlying30 (by intro k h;cases h) hG4 (fun w' hw'=>AppX.one1 (hw'.has b6 (.cells (z4_ x).toArray 24 (0,0)) (by simp)) (z0_ x) (vf_ x)) (by omega) (fun B5 v5 D5 hA5 hB5 hG5 hk15 hk25 hlk5=> ?_)
    have hN5:New w.heap.size D5:=New.of_le fun q hq=>by
     rcases hk25 q hq with h|h
     ·exact hN4.le q h
     ·omega
    have hN5':New w.heap.size (D5++ [(b3,Obj.cells (a8 x.l) 24 (0,0)),(b6,Obj.cells (z4_ x).toArray 24 (0,0))]):=hN5.app ⟨hw3,hw6,trivial⟩
    refine ko @qv_ ?_
    first|with_reducible refine ks [] (And.intro @qv_ @hvd) ?_|refine kp (And.intro @qv_ @hvd) ?_
    refine Ow.appendXG (e:=24) (k:=(l.drop g).length) (new:=((l.drop g).map z4_).flatten) (X:=D5) v5 rfl rfl rfl rfl Tryz.underlying30 Tryz.ag24 (by kernel_rfl) JL_ (by simp[ze_,a8]) Tryz.underlying30 (by intro k h;cases h) hG5 (fun w' hw'=>(hld'.oldN hw' hN5').appX z0_ vf_) (by omega) (fun B6 v6 D6 hA6 hB6 hG6 hk16 hk26 hlk6=> ?_)
    have hN6:New w.heap.size D6:=New.of_le fun q hq=>by
     rcases hk26 q hq with h|h
     ·exact hN5.le q h
     ·omega
    refine ko @qv_ ?_
    first|with_reducible refine ks [] @qv_ ?_|refine kp @qv_ ?_
    refine⟨_,(ke @qv_), ?_⟩
    refine⟨Ext.of_new (hN6.app ⟨hw3,hw6,trivial⟩), .inr (Gr.i (X:=D6) ?_ fun q hq=>List.mem_append_left _ hq)⟩
    rw[hpe]
    have e1: (l.take g).length+1+ (l.drop g).length=(l.take g++x::l.drop g).length:=by simp only[List.length_append,List.length_cons];omega
    rw[e1] at hG6
    show Gr D6 24 32 v6 _ _
    simpa only[List.map_append,List.map_cons,List.flatten_append,List.flatten_cons,List.append_assoc] using hG6
   ·have hpl:Qp_ x l=l:=by
     rw[h2,hdc,Qp_,if_neg (by rw[hyx];simp),if_pos hxy,←hdc,List.take_append_drop]
    first|with_reducible refine ks [] @qv_ ?_|refine kp @qv_ ?_
    refine⟨_,(ke @qv_), ?_⟩
    exact⟨Ext.of_new hN3, .inl ⟨rfl,hpl⟩⟩
  ·refine kq @qv_ ?_
   try with_reducible refine Ow.nil ?_
   first|with_reducible refine ks [] @qv_ ?_|refine kp @qv_ ?_
   refine Again.mk (G:=Nat) (g+1) (by show l.length - (g+1)<l.length - g;omega) ⟨hlt, ?_⟩ rfl rfl
   rw[h2,hdc,Qp_,if_pos hyx,StP.take_snoc (z:=id0) hlt,hy,List.append_assoc];rfl
 ·obtain rfl:g=l.length:=by omega
  have d1:decide ((l.length:Int)< (l.length:Int))=false:=by simp
  first|with_reducible refine ks [] @qv_ ?_|refine kp @qv_ ?_
  refine Cw.regionS [] [0,1,2,3,4,5,6,7,8,9,10,11] [] (by kernel_rfl) (by kernel_rfl) (by kernel_rfl) ?_
  simp only[zh_, ↓zc_, ↓za_, ↓zk_, ↓zj_,zb_]
  refine kq (And.intro @qv_ (And.intro @ln (@d1))) ?_
  try with_reducible refine Ow.nil ?_
  first|with_reducible refine ks [] @qv_ ?_|refine kp @qv_ ?_
  refine Cw.regionS [] [0,1,2,3,4,5,6,7,8,9,10,11] [] (by kernel_rfl) (by kernel_rfl) (by kernel_rfl) ?_
  simp only[zh_, ↓zc_, ↓za_, ↓zk_, ↓zj_,zb_]
  refine kq (And.intro @qv_ (And.intro @ln (@d1))) ?_
  try with_reducible refine Ow.nil ?_
  first|with_reducible refine ks [] (And.intro @qv_ @hvt) ?_|refine kp (And.intro @qv_ @hvt) ?_
  generalize hgl:l.length=g at*
  have hpe:Qp_ x l=l.take g++x::l.drop g:=by rw[h2,←hgl,List.drop_length];rfl
  have htl: (l.take g).length≤l.length:=by rw[List.length_take];omega
  have hdl: (l.drop g).length≤l.length:=by rw[List.length_drop];omega
  refine Ow.appendXG (e:=24) (k:=(l.take g).length) (new:=((l.take g).map z4_).flatten) (X:= []) (n:=0) (cs:= []) (.slice none 0 0) rfl rfl rfl rfl Tryz.underlying30 Tryz.ag24 (by kernel_rfl) JL_ (by simp[ze_,a8]) Tryz.underlying30 (by intro k h;cases h) Gr.nl (fun w' hw'=>(hlt'.oldN hw' hN3).appX z0_ vf_) (by omega) (fun B4 v4 D4 hA4 hB4 hG4 hk14 hk24 hlk4=> ?_)
  have hN4:New w.heap.size D4:=New.of_le fun q hq=>by
   rcases hk24 q hq with h|h
   ·cases h
   ·omega
  rw[Nat.zero_add,List.nil_append] at hG4
  refine Ow.permL (M:=(b3,Obj.cells (a8 x.l) 24 (0,0))::D4) (by classical exact List.perm_iff_count.2 fun a=>by simp only[List.count_append,List.count_cons,List.count_nil]<;>omega) ?_
  refine ko @qv_ ?_
  first|with_reducible refine ks [] @qv_ ?_|refine kp @qv_ ?_
  refine Ow.buildSlice (e:=24) (z4_ x).toArray rfl rfl (xq_ x) fun b6 hb6 hw6=> ?_
  refine Ow.permL (M:=D4++ [(b3,Obj.cells (a8 x.l) 24 (0,0)),(b6,Obj.cells (z4_ x).toArray 24 (0,0))]) (by classical exact List.perm_iff_count.2 fun a=>by simp only[List.count_append,List.count_cons,List.count_nil]<;>omega) ?_
  refine ko @qv_ ?_
  refine Ow.appendXG (e:=24) (k:=1) (new:=z4_ x) (X:=D4) v4 rfl rfl rfl rfl Tryz.underlying30 Tryz.ag24 (by kernel_rfl) JL_ (by simp[ze_,a8]) Tryz.underlying30 (by intro k h;cases h) hG4 (fun w' hw'=>AppX.one1 (hw'.has b6 (.cells (z4_ x).toArray 24 (0,0)) (by simp)) (z0_ x) (vf_ x)) (by omega) (fun B5 v5 D5 hA5 hB5 hG5 hk15 hk25 hlk5=> ?_)
  have hN5:New w.heap.size D5:=New.of_le fun q hq=>by
   rcases hk25 q hq with h|h
   ·exact hN4.le q h
   ·omega
  have hN5':New w.heap.size (D5++ [(b3,Obj.cells (a8 x.l) 24 (0,0)),(b6,Obj.cells (z4_ x).toArray 24 (0,0))]):=hN5.app ⟨hw3,hw6,trivial⟩
  refine ko @qv_ ?_
  first|with_reducible refine ks [] (And.intro @qv_ @hvd) ?_|refine kp (And.intro @qv_ @hvd) ?_
  refine Ow.appendXG (e:=24) (k:=(l.drop g).length) (new:=((l.drop g).map z4_).flatten) (X:=D5) v5 rfl rfl rfl rfl Tryz.underlying30 Tryz.ag24 (by kernel_rfl) JL_ (by simp[ze_,a8]) Tryz.underlying30 (by intro k h;cases h) hG5 (fun w' hw'=>(hld'.oldN hw' hN5').appX z0_ vf_) (by omega) (fun B6 v6 D6 hA6 hB6 hG6 hk16 hk26 hlk6=> ?_)
  have hN6:New w.heap.size D6:=New.of_le fun q hq=>by
   rcases hk26 q hq with h|h
   ·exact hN5.le q h
   ·omega
  refine ko @qv_ ?_
  first|with_reducible refine ks [] @qv_ ?_|refine kp @qv_ ?_
  refine⟨_,(ke @qv_), ?_⟩
  refine⟨Ext.of_new (hN6.app ⟨hw3,hw6,trivial⟩), .inr (Gr.i (X:=D6) ?_ fun q hq=>List.mem_append_left _ hq)⟩
  rw[hpe]
  have e1: (l.take g).length+1+ (l.drop g).length=(l.take g++x::l.drop g).length:=by simp only[List.length_append,List.length_cons];omega
  rw[e1] at hG6
  show Gr D6 24 32 v6 _ _
  simpa only[List.map_append,List.map_cons,List.flatten_append,List.flatten_cons,List.append_assoc] using hG6
end Go.Proofs
end
section
open Go Go.Proofs Go.Sx Go.StP Go.RooP
namespace Go.Proofs
set_option maxRecDepth 10000
set_option maxHeartbeats 400000
set_option linter.unusedSimpArgs false
structure ObK where
 k:Int
 t:List UInt8
instance:DecidableEq ObK:=fun a b=>if h:a.k=b.k∧a.t=b.t then .isTrue (by cases a;cases b;simp only at h;obtain⟨rfl,rfl⟩:=h;rfl) else .isFalse (fun e=>h (by rw[e];exact⟨rfl,rfl⟩))
def jU_:ObK:=⟨0,[]⟩
def obKV (o:ObK):Value:=obV o.k o.t
abbrev jg_:=IdL→ObK×Bool
structure WkS where
 q:List ChildL
 vis:List ChildL
 ms:List IdL
 lk:List ChildL
def jX_ (s:jg_) (i:IdL):List ChildL:=jj_ (s i).1.k (s i).1.t
def zS_ (s:jg_) (c:ChildL):Bool:=(s c.id).2&& (c.kind==0||c.kind==(s c.id).1.k)
def jk_ (s:jg_) (W:WkS) (c:ChildL):WkS:=
 if zS_ s c=true then(if c.id∈W.ms then{W with vis:=W.vis++ [c]} else{W with vis:=W.vis++ [c],ms:=W.ms++ [c.id],q:=W.q++jX_ s c.id})
 else{W with vis:=W.vis++ [c],lk:=W.lk++ [c]}
def stepQ (s:jg_) (W:WkS):List ChildL→Bool×WkS
 | []=>(true,{W with q:= []})
 |c::q=>if c∈W.vis then stepQ s W q else(false,jk_ s {W with q:=q} c)
def xy_ (s:jg_) (W:WkS):Bool×WkS:=stepQ s W W.q
def wr_ (W:WkS) (r:List IdL):WkS:={W with q:=W.q++r.map fun i=>⟨i,0⟩}
def Zy_:WkS:=⟨[],[],[],[]⟩
def newK (r:List IdL):WkS:=wr_ Zy_ r
def runK (s:jg_):Nat→WkS→WkS
 |0,W=>W
 |n+1,W=>if(xy_ s W).1=true then(xy_ s W).2 else runK s n (xy_ s W).2
inductive ReachK (s:jg_) (r:List IdL):ChildL→Prop
 |root {i:IdL} (h:i∈r):ReachK s r ⟨i,0⟩
 |kid {c d:ChildL} (h:ReachK s r c) (hf:zS_ s c=true) (hd:d∈jX_ s c.id):ReachK s r d
structure WkI (s:jg_) (r:List IdL) (W:WkS):Prop where
 q: ∀c,c∈W.q→ReachK s r c
 vis: ∀c,c∈W.vis→ReachK s r c
 root: ∀i,i∈r→(⟨i,0⟩:ChildL)∈W.vis∨(⟨i,0⟩:ChildL)∈W.q
 fine: ∀c,c∈W.vis→zS_ s c=true→c.id∈W.ms
 lack: ∀c,c∈W.vis→zS_ s c=false→c∈W.lk
 ms: ∀i,i∈W.ms→ ∃c,c∈W.vis∧zS_ s c=true∧c.id=i
 lk: ∀c,c∈W.lk→c∈W.vis∧zS_ s c=false
 kids: ∀i,i∈W.ms→ ∀d,d∈jX_ s i→d∈W.vis∨d∈W.q
 nv:W.vis.Nodup
 nm:W.ms.Nodup
theorem ReachK.mono {s:jg_} {r r':List IdL} (h: ∀i,i∈r→i∈r') {c:ChildL} (hc:ReachK s r c):ReachK s r' c:=by
 induction hc with
 |root hi=>exact .root (h _ hi)
 |kid _ hf hd ih=>exact .kid ih hf hd
theorem WkI.new (s:jg_) (r:List IdL):WkI s r (newK r) where
 q c hc:=by
  simp only[newK,wr_,Zy_,List.nil_append,List.mem_map] at hc
  obtain⟨i,hi,rfl⟩:=hc
  exact .root hi
 vis c hc:=by cases hc
 root i hi:= .inr (by simp only[newK,wr_,Zy_,List.nil_append,List.mem_map];exact⟨i,hi,rfl⟩)
 fine c hc:=by cases hc
 lack c hc:=by cases hc
 ms i hi:=by cases hi
 lk c hc:=by cases hc
 kids i hi:=by cases hi
 nv:=List.nodup_nil
 nm:=List.nodup_nil
theorem WkI.add {s:jg_} {r:List IdL} {W:WkS} (h:WkI s r W) (r':List IdL):WkI s (r++r') (wr_ W r') where
 q c hc:=by
  simp only[wr_,List.mem_append,List.mem_map] at hc
  rcases hc with hc| ⟨i,hi,rfl⟩
  ·exact(h.q c hc).mono fun i hi=>List.mem_append_left _ hi
  ·exact .root (List.mem_append_right _ hi)
 vis c hc:=(h.vis c hc).mono fun i hi=>List.mem_append_left _ hi
 root i hi:=by
  simp only[wr_,List.mem_append,List.mem_map]
  rcases List.mem_append.1 hi with hi|hi
  ·rcases h.root i hi with h1|h1
   ·exact .inl h1
   ·exact .inr (.inl h1)
  ·exact .inr (.inr ⟨i,hi,rfl⟩)
 fine:=h.fine
 lack:=h.lack
 ms:=h.ms
 lk:=h.lk
 kids i hi d hd:=(h.kids i hi d hd).imp id fun h1=>List.mem_append_left _ h1
 nv:=h.nv
 nm:=h.nm
theorem WkI.visit {s:jg_} {r:List IdL} {W:WkS} {c:ChildL} {q:List ChildL} (h:WkI s r W) (hq: ∀d,d∈W.q→d=c∨d∈q∨d∈W.vis) (hq': ∀d,d∈q→d∈W.q) (hc:c∈W.q) (hn:c∉W.vis):WkI s r (jk_ s {W with q:=q} c):=by
 have hR:=h.q c hc
 have nv: (W.vis++ [c]).Nodup:=by
  rw[List.nodup_append]
  exact⟨h.nv,by simp,fun a ha b hb=>by simp only[List.mem_singleton] at hb;subst hb;intro e;subst e;exact hn ha⟩
 have root: ∀i,i∈r→(⟨i,0⟩:ChildL)∈W.vis++ [c]∨(⟨i,0⟩:ChildL)∈q:=fun i hi=>by
  rw[List.mem_append,List.mem_singleton]
  rcases h.root i hi with h1|h1
  ·exact .inl (.inl h1)
  ·rcases hq _ h1 with h2|h2|h2
   ·exact .inl (.inr h2)
   ·exact .inr h2
   ·exact .inl (.inl h2)
 have kids: ∀i,i∈W.ms→ ∀d,d∈jX_ s i→d∈W.vis++ [c]∨d∈q:=fun i hi d hd=>by
  rw[List.mem_append,List.mem_singleton]
  rcases h.kids i hi d hd with h1|h1
  ·exact .inl (.inl h1)
  ·rcases hq _ h1 with h2|h2|h2
   ·exact .inl (.inr h2)
   ·exact .inr h2
   ·exact .inl (.inl h2)
 have vis: ∀d,d∈W.vis++ [c]→ReachK s r d:=fun d hd=>by
  rw[List.mem_append,List.mem_singleton] at hd
  rcases hd with hd|rfl
  ·exact h.vis d hd
  ·exact hR
 unfold jk_
 by_cases hf:zS_ s c=true
 ·rw[if_pos hf]
  by_cases hm:c.id∈W.ms
  ·rw[if_pos hm]
   exact{
    q:=fun d hd=>h.q d (hq' d hd)
    vis:=vis
    root:=root
    fine:=fun d hd hfd=>by
     rcases List.mem_append.1 hd with hd|hd
     ·exact h.fine d hd hfd
     ·rw[List.mem_singleton] at hd;subst hd;exact hm
    lack:=fun d hd hfd=>by
     rcases List.mem_append.1 hd with hd|hd
     ·exact h.lack d hd hfd
     ·rw[List.mem_singleton] at hd;subst hd;rw[hf] at hfd;cases hfd
    ms:=fun i hi=>by
     obtain⟨d,h1,h2⟩:=h.ms i hi
     exact⟨d,List.mem_append_left _ h1,h2⟩
    lk:=fun d hd=>⟨List.mem_append_left _ (h.lk d hd).1,(h.lk d hd).2⟩
    kids:=kids
    nv:=nv
    nm:=h.nm}
  ·rw[if_neg hm]
   exact{
    q:=fun d hd=>by
     rcases List.mem_append.1 hd with hd|hd
     ·exact h.q d (hq' d hd)
     ·exact .kid hR hf hd
    vis:=vis
    root:=fun i hi=>(root i hi).imp id fun h1=>List.mem_append_left _ h1
    fine:=fun d hd hfd=>by
     rcases List.mem_append.1 hd with hd|hd
     ·exact List.mem_append_left _ (h.fine d hd hfd)
     ·rw[List.mem_singleton] at hd;subst hd;exact List.mem_append_right _ (List.mem_singleton.2 rfl)
    lack:=fun d hd hfd=>by
     rcases List.mem_append.1 hd with hd|hd
     ·exact h.lack d hd hfd
     ·rw[List.mem_singleton] at hd;subst hd;rw[hf] at hfd;cases hfd
    ms:=fun i hi=>by
     rcases List.mem_append.1 hi with hi|hi
     ·obtain⟨d,h1,h2⟩:=h.ms i hi
      exact⟨d,List.mem_append_left _ h1,h2⟩
     ·rw[List.mem_singleton] at hi;subst hi
      exact⟨c,List.mem_append_right _ (List.mem_singleton.2 rfl),hf,rfl⟩
    lk:=fun d hd=>⟨List.mem_append_left _ (h.lk d hd).1,(h.lk d hd).2⟩
    kids:=fun i hi d hd=>by
     rcases List.mem_append.1 hi with hi|hi
     ·exact(kids i hi d hd).imp id fun h1=>List.mem_append_left _ h1
     ·rw[List.mem_singleton] at hi;subst hi
      exact .inr (List.mem_append_right _ hd)
    nv:=nv
    nm:=by
     rw[List.nodup_append]
     exact⟨h.nm,by simp,fun a ha b hb=>by simp only[List.mem_singleton] at hb;subst hb;intro e;subst e;exact hm ha⟩}
 ·have hf':zS_ s c=false:=by simpa using hf
  rw[if_neg hf]
  exact{
   q:=fun d hd=>h.q d (hq' d hd)
   vis:=vis
   root:=root
   fine:=fun d hd hfd=>by
    rcases List.mem_append.1 hd with hd|hd
    ·exact h.fine d hd hfd
    ·rw[List.mem_singleton] at hd;subst hd;exact absurd hfd hf
   lack:=fun d hd hfd=>by
    rcases List.mem_append.1 hd with hd|hd
    ·exact List.mem_append_left _ (h.lack d hd hfd)
    ·exact List.mem_append_right _ hd
   ms:=fun i hi=>by
    obtain⟨d,h1,h2⟩:=h.ms i hi
    exact⟨d,List.mem_append_left _ h1,h2⟩
   lk:=fun d hd=>by
    rcases List.mem_append.1 hd with hd|hd
    ·exact⟨List.mem_append_left _ (h.lk d hd).1,(h.lk d hd).2⟩
    ·rw[List.mem_singleton] at hd;subst hd
     exact⟨List.mem_append_right _ (List.mem_singleton.2 rfl),hf'⟩
   kids:=kids
   nv:=nv
   nm:=h.nm}
theorem WkI.stepQ {s:jg_} {r:List IdL} {W:WkS} (h:WkI s r W): ∀ (q:List ChildL),(∀d,d∈W.q→d∈q∨d∈W.vis)→(∀d,d∈q→d∈W.q)→WkI s r (stepQ s W q).2
 | [],h1,_=>by
  unfold Go.Proofs.stepQ
  exact{h with
   q:=fun c hc=>by cases hc
   root:=fun i hi=>by
    rcases h.root i hi with h2|h2
    ·exact .inl h2
    ·rcases h1 _ h2 with h3|h3
     ·cases h3
     ·exact .inl h3
   kids:=fun i hi d hd=>by
    rcases h.kids i hi d hd with h2|h2
    ·exact .inl h2
    ·rcases h1 _ h2 with h3|h3
     ·cases h3
     ·exact .inl h3}
 |c::q,h1,h2=>by
  unfold Go.Proofs.stepQ
  by_cases hc:c∈W.vis
  ·rw[if_pos hc]
   refine h.stepQ q (fun d hd=> ?_) (fun d hd=>h2 d (List.mem_cons_of_mem _ hd))
   rcases h1 d hd with h3|h3
   ·rcases List.mem_cons.1 h3 with rfl|h3
    ·exact .inr hc
    ·exact .inl h3
   ·exact .inr h3
  ·rw[if_neg hc]
   refine h.visit (fun d hd=> ?_) (fun d hd=>h2 d (List.mem_cons_of_mem _ hd)) (h2 c List.mem_cons_self) hc
   rcases h1 d hd with h3|h3
   ·rcases List.mem_cons.1 h3 with rfl|h3
    ·exact .inl rfl
    ·exact .inr (.inl h3)
   ·exact .inr (.inr h3)
theorem WkI.step {s:jg_} {r:List IdL} {W:WkS} (h:WkI s r W):WkI s r (xy_ s W).2:=h.stepQ W.q (fun _ hd=> .inl hd) (fun _ hd=>hd)
theorem WkI.run {s:jg_} {r:List IdL}: ∀ (n:Nat) {W:WkS},WkI s r W→WkI s r (runK s n W)
 |0,_,h=>h
 |n+1,W,h=>by
  unfold runK
  split
  ·exact h.step
  ·exact WkI.run n h.step
theorem WkI.all {s:jg_} {r:List IdL} {W:WkS} (h:WkI s r W) (hq:W.q= []) (c:ChildL):ReachK s r c↔c∈W.vis:=by
 refine⟨fun hc=> ?_,h.vis c⟩
 induction hc with
 |root hi=>
  rcases h.root _ hi with h1|h1
  ·exact h1
  ·rw[hq] at h1;cases h1
 |kid _ hf hd ih=>
  rcases h.kids _ (h.fine _ ih hf) _ hd with h1|h1
  ·exact h1
  ·rw[hq] at h1;cases h1
theorem WkI.marked {s:jg_} {r:List IdL} {W:WkS} (h:WkI s r W) (hq:W.q= []) (i:IdL):i∈W.ms↔ ∃c,ReachK s r c∧zS_ s c=true∧c.id=i:=by
 refine⟨fun hi=> ?_,fun⟨c,h1,h2,h3⟩=> ?_⟩
 ·obtain⟨c,h1,h2,h3⟩:=h.ms i hi
  exact⟨c,h.vis c h1,h2,h3⟩
 ·rw[←h3];exact h.fine c ((h.all hq c).1 h1) h2
theorem WkI.missing {s:jg_} {r:List IdL} {W:WkS} (h:WkI s r W) (hq:W.q= []) (c:ChildL):c∈W.lk↔ReachK s r c∧zS_ s c=false:=
 ⟨fun hc=>⟨h.vis c (h.lk c hc).1,(h.lk c hc).2⟩,fun⟨h1,h2⟩=>h.lack c ((h.all hq c).1 h1) h2⟩
theorem aea_ (s:jg_) (W:WkS) (c:ChildL): (jk_ s W c).vis=W.vis++ [c]:=by
 unfold jk_;split
 ·split<;>rfl
 ·rfl
theorem Ki_ (s:jg_) (W:WkS): ∀ (q:List ChildL),(stepQ s W q).1=true→(stepQ s W q).2={W with q:= []}
 | [],_=>rfl
 |c::q,h=>by
  unfold stepQ at h ⊢
  split
  ·rename_i hc;rw[if_pos hc] at h;exact Ki_ s W q h
  ·rename_i hc;rw[if_neg hc] at h;cases h
theorem ad2_ (s:jg_) (W:WkS): ∀ (q:List ChildL),(stepQ s W q).1=false→ ∃c,(stepQ s W q).2.vis=W.vis++ [c]
 | [],h=>by cases h
 |c::q,h=>by
  unfold stepQ at h ⊢
  split
  ·rename_i hc;rw[if_pos hc] at h;exact ad2_ s W q h
  ·exact⟨c,aea_ _ _ _⟩
theorem Vi_ {s:jg_} {W:WkS} (h: (xy_ s W).1=false): (xy_ s W).2.vis.length=W.vis.length+1:=by
 obtain⟨c,hc⟩:=ad2_ s W W.q h
 unfold xy_
 rw[hc,List.length_append];rfl
theorem KO_ {α:Type} [DecidableEq α] {a b:List α} (hn:a.Nodup) (h: ∀x,x∈a→x∈b):a.length≤b.length:=by
 induction a generalizing b with
 |nil=>exact Nat.zero_le _
 |cons x a ih=>
  rw[List.nodup_cons] at hn
  have hx:=h x List.mem_cons_self
  have:=ih (b:=b.erase x) hn.2 (fun y hy=>(List.mem_erase_of_ne (fun e=>hn.1 (by rw[←e];exact hy))).2 (h y (List.mem_cons_of_mem _ hy)))
  rw[List.length_erase_of_mem hx] at this
  have hp:=List.length_pos_of_mem hx
  rw[List.length_cons];omega
def adY_ (s:jg_) (ids r:List IdL):List ChildL:=r.map (fun i=>⟨i,0⟩)++ (ids.map (jX_ s)).flatten
theorem ReachK.name {s:jg_} {ids r:List IdL} (hi: ∀i,(s i).2=true→i∈ids) {c:ChildL} (h:ReachK s r c):c∈adY_ s ids r:=by
 cases h with
 |root h=>exact List.mem_append_left _ (List.mem_map.2 ⟨_,h,rfl⟩)
 | @kid c d h hf hd=>
  refine List.mem_append_right _ (List.mem_flatten.2 ⟨_,List.mem_map.2 ⟨c.id,hi _ ?_,rfl⟩,hd⟩)
  unfold zS_ at hf
  simp only[Bool.and_eq_true] at hf
  exact hf.1
theorem WkI.le {s:jg_} {ids r:List IdL} {W:WkS} (h:WkI s r W) (hi: ∀i,(s i).2=true→i∈ids):W.vis.length≤ (adY_ s ids r).length:=
 KO_ h.nv fun c hc=>(h.vis c hc).name hi
def xr_ (l:List IdL):List IdL:=l.foldl (fun a x=>Qp_ x a) []
theorem adL_ (l:List IdL): (xr_ l).map IdL.l=(l.map IdL.l).foldl (fun a x=>putI x a) []:=by
 have h: ∀ (l a:List IdL),(l.foldl (fun a x=>Qp_ x a) a).map IdL.l=(l.map IdL.l).foldl (fun a x=>putI x a) (a.map IdL.l):=by
  intro l
  induction l with
  |nil=>intro a;rfl
  |cons x l ih=>intro a;rw[List.foldl_cons,ih,adB_];rfl
 exact h l []
theorem VT_: ∀ {a b:List IdL},a.map IdL.l=b.map IdL.l→a=b
 | [],[],_=>rfl
 | [],_::_,h=>by cases h
 |_::_,[],h=>by cases h
 |x::a,y::b,h=>by
  simp only[List.map_cons,List.cons.injEq] at h
  rw[IdL.ext2 h.1,VT_ h.2]
theorem mem_srtI {x:IdL} {l:List IdL}:x∈xr_ l↔x∈l:=by
 have key: ∀ (l a:List (List UInt8)) (y:List UInt8),y∈l.foldl (fun a x=>putI x a) a↔y∈l∨y∈a:=by
  intro l
  induction l with
  |nil=>intro a y;simp
  |cons z l ih=>
   intro a y
   rw[List.foldl_cons,ih,mem_putI,List.mem_cons]
   constructor
   ·rintro(h|h|h)
    ·exact .inl (.inr h)
    ·exact .inl (.inl h)
    ·exact .inr h
   ·rintro((h|h) |h)
    ·exact .inr (.inl h)
    ·exact .inl h
    ·exact .inr (.inr h)
 have h1: ∀ (l:List IdL) (x:IdL),x∈l↔x.l∈l.map IdL.l:=fun l x=>by
  rw[List.mem_map]
  exact⟨fun h=>⟨x,h,rfl⟩,fun⟨y,h,e⟩=>by rw[←IdL.ext2 e];exact h⟩
 rw[h1 (xr_ l),h1 l,adL_,key]
 simp
theorem Vf_ (l:List IdL):Ris ((xr_ l).map IdL.l):=by
 rw[adL_]
 have: ∀ (l a:List (List UInt8)),Ris a→Ris (l.foldl (fun a x=>putI x a) a):=by
  intro l
  induction l with
  |nil=>intro a h;exact h
  |cons z l ih=>intro a h;rw[List.foldl_cons];exact ih _ (ad4_ h)
 exact this _ _ List.Pairwise.nil
theorem wn_ {a b:List IdL} (h: ∀i,i∈a↔i∈b):xr_ a=xr_ b:=by
 refine VT_ (Ris.ext (Vf_ a) (Vf_ b) fun x=> ?_)
 rw[List.mem_map,List.mem_map]
 constructor
 ·rintro⟨y,h1,h2⟩;exact⟨y,mem_srtI.2 ((h y).1 (mem_srtI.1 h1)),h2⟩
 ·rintro⟨y,h1,h2⟩;exact⟨y,mem_srtI.2 ((h y).2 (mem_srtI.1 h1)),h2⟩
theorem WP_ (l:List IdL) (x:IdL):xr_ (l++ [x])=Qp_ x (xr_ l):=by
 unfold xr_
 rw[List.foldl_append];rfl
theorem aeL_ {l s:List IdL} (hp:s.Perm l) (hn:l.Nodup) (hs:s.Pairwise fun x y=>ltB y.l x.l=false):s=xr_ l:=by
 have hsn:s.Nodup:=hp.nodup_iff.2 hn
 have hr:Ris (s.map IdL.l):=by
  refine List.pairwise_map.2 ?_
  refine List.Pairwise.imp₂ ?_ hs hsn
  intro x y h1 h2
  exact x9_ h1 fun e=>h2 (IdL.ext2 e.symm)
 refine VT_ (Ris.ext hr (Vf_ l) fun x=> ?_)
 rw[List.mem_map,List.mem_map]
 constructor
 ·rintro⟨y,h1,h2⟩;exact⟨y,mem_srtI.2 (hp.mem_iff.1 h1),h2⟩
 ·rintro⟨y,h1,h2⟩;exact⟨y,hp.mem_iff.2 (mem_srtI.1 h1),h2⟩
end Go.Proofs
end
section
open Go Go.Proofs Go.Sx Go.StP
namespace Go.Proofs
set_option maxRecDepth 10000
set_option maxHeartbeats 400000
set_option linter.unusedSimpArgs false
def Z2_ (i:IdL):Value:= .agg (a8 i.l)
def chKV (c:ChildL):Value:= .agg (zm_ c).toArray
def blV (b:Bool):Value:= .bool b
theorem aaB_:KeyOk Tryz.prog 24 Z2_:=KeyOk.arr Tryz.underlying24 Tryz.underlying5 (id (by kernel_rfl):zU_ Tryz.prog 5=some (false,1)) IdL.l (fun a=>a.h) (fun a b=>by
 rw[Bool.eq_iff_iff,beq_iff_eq,beq_iff_eq]
 exact⟨fun h=>IdL.ext2 h,fun h=>by rw[h]⟩)
theorem QH_ {P:Program} {t e:TypeId} {n d:Nat} (hu:P.underlying t=some (.array n e)) (he:P.underlying e=some (.int .u8)) (hm:zU_ P e=some (false,1)) (l:List UInt8) (hl:l.length=n) (em:Bool) (w:World):
  (Instr.checkKey em (d+2) t (.agg (a8 l))).run P w= .ok () w:=by
 show(Instr.checkKey em ((d+1)+1) t (.agg (a8 l))).run P w= .ok () w
 rw[Instr.checkKey]
 simp only[Sem.run_bind,run_underlying hu,Result.andThen_ok]
 simp only[Std.Legacy.Range.forIn_eq_forIn_range',Std.Legacy.Range.size,Nat.sub_zero,Nat.add_one_sub_one,Nat.div_one]
 have each: ∀j,j∈List.range' 0 n→j<l.length:=by
  intro j hj
  rw[List.mem_range'] at hj
  obtain⟨i,hi,rfl⟩:=hj
  omega
 generalize List.range' 0 n=is at each
 induction is with
 |nil=>simp
 |cons j is ih=>
  have hj:=each j (by simp)
  have p1: (part e (a8 l) (j*1)).run P w= .ok (v8 (l.getD j 0)) w:=by
   refine jl_ hm ?_ w
   simp[partV,a8,v8,hj]
  have p2: (Instr.checkKey em (d+1) e (v8 (l.getD j 0))).run P w= .ok () w:=by
   rw[Instr.checkKey]
   simp only[Sem.run_bind,run_underlying he,Result.andThen_ok,v8]
   rfl
  simp only[List.forIn_cons,Sem.run_bind,Sx.run_sizeOf hm w,Result.andThen_ok,p1,p2,Sem.run_pure]
  exact ih (fun y hy=>each y (by simp[hy]))
theorem ajj_ (w:World) (e:Bool) (k:ChildL): (Instr.checkKey e 10000 59 (chKV k)).run Tryz.prog w= .ok () w:=by
 show(Instr.checkKey e (9999+1) _ _).run Tryz.prog w=_
 rw[Instr.checkKey]
 have p1: (part 24 (zm_ k).toArray 0).run Tryz.prog w= .ok (.agg (a8 k.id.l)) w:=jl_ Kt_ (akD_ k) w
 have p2: (part 3 (zm_ k).toArray 32).run Tryz.prog w= .ok (vi k.kind) w:=jl_ (id (by kernel_rfl):zU_ Tryz.prog 3=some (false,1)) (akx_ k) w
 have c1: (Instr.checkKey e 9999 24 (.agg (a8 k.id.l))).run Tryz.prog w= .ok () w:=QH_ (d:=9997) Tryz.underlying24 Tryz.underlying5 (id (by kernel_rfl):zU_ Tryz.prog 5=some (false,1)) _ k.id.h e w
 have c2: (Instr.checkKey e 9999 3 (vi k.kind)).run Tryz.prog w= .ok () w:=by
  show(Instr.checkKey e (9998+1) _ _).run Tryz.prog w=_
  rw[Instr.checkKey]
  simp only[Sem.run_bind,run_underlying Tryz.underlying3,Result.andThen_ok,vi]
  rfl
 simp only[Sem.run_bind,run_underlying Tryz.underlying59 w,Result.andThen_ok,chKV]
 simp[p1,p2,c1,c2]
theorem ahj_:KeyOk Tryz.prog 59 chKV:=KeyOk.struct Tryz.underlying59 chKV (fun a b=>by
  show eqD Tryz.prog 8 59 (.agg (zm_ a).toArray) (.agg (zm_ b).toArray)=_
  rw[afV_]
  congr 1
  rw[Bool.eq_iff_iff,beq_iff_eq]
  exact⟨fun h=>ChildL.ext' h,fun h=>by rw[h];simp⟩) ajj_ (fun k=>VU_ _ fun x hx=>by
  unfold zm_ at hx
  rcases List.mem_append.1 hx with hx|hx
  ·obtain⟨y,-,rfl⟩:=List.mem_map.1 hx
   simp[v8,Instr.sameBits]
  ·rw[List.mem_singleton] at hx
   subst hx
   simp[vi,Instr.sameBits])
def zN_ (m:List (IdL×ObK)):jg_:=fun i=>(Jk_ i jU_ m,hasG i m)
structure SrcAt (w:World) (sv:Value) (m:List (IdL×ObK)) (bx bm:Nat) (om:Obj):Prop where
 sv:sv= .iface 118 (vp bx 0)
 bx:w.heap[bx]? =some (.cells #[vm bm] 121 (0,0))
 bm:w.heap[bm]? =some om
 m:QP_ Z2_ obKV om m
theorem SrcAt.old {w w':World} {L:zi_} {sv:Value} {m:List (IdL×ObK)} {bx bm:Nat} {om:Obj} (h:SrcAt w sv m bx bm om) (hw:Hp w L w') (h1:bx∉keys L) (h2:bm∉keys L):SrcAt w' sv m bx bm om:=
 ⟨h.sv,(hw.old _ (Array.getElem?_eq_some_iff.1 h.bx).1 h1).trans h.bx,(hw.old _ (Array.getElem?_eq_some_iff.1 h.bm).1 h2).trans h.bm,h.m⟩
def SrcW (w:World) (sv:Value) (m:List (IdL×ObK)) (X:zi_):Prop:= ∃bx bm om,SrcAt w sv m bx bm om∧bx∉keys X∧bm∉keys X
theorem SrcW.old {w w':World} {L X:zi_} {sv:Value} {m:List (IdL×ObK)} (h:SrcW w sv m L) (hw:Hp w L w') (hX: ∀c,c∈keys X→c∈keys L):SrcW w' sv m X:=by
 obtain⟨bx,bm,om,h1,h2,h3⟩:=h
 exact⟨bx,bm,om,h1.old hw h2 h3,fun hm=>h2 (hX _ hm),fun hm=>h3 (hX _ hm)⟩
theorem SrcW.ext {w:World} {L X:zi_} {sv:Value} {m:List (IdL×ObK)} (h:SrcW w sv m X) (hL: ∀c,c∈keys L→c∈keys X∨w.heap.size≤c):SrcW w sv m L:=by
 obtain⟨bx,bm,om,h1,h2,h3⟩:=h
 have k1:=(Array.getElem?_eq_some_iff.1 h1.bx).1
 have k2:=(Array.getElem?_eq_some_iff.1 h1.bm).1
 refine⟨bx,bm,om,h1,fun hm=> ?_,fun hm=> ?_⟩
 ·rcases hL _ hm with h|h
  ·exact h2 h
  ·omega
 ·rcases hL _ hm with h|h
  ·exact h3 h
  ·omega
theorem alp_ {n:Nat} {E:zi_} {o:Obj} {Q:Nat→Prop} (h:E= []∨ ∃b,E= [(b,o)]∧n≤b∧Q b):New n E:=by
 rcases h with rfl| ⟨b,rfl,h,-⟩
 ·trivial
 ·exact⟨h,trivial⟩
theorem agZ_ (b:Nat) (n:Nat) (E:TypeId) (fz:Nat×Nat):zA_ (some (false,n)) (some (.cells #[vm b] E fz)) 0=some (vm b):=(rfl)
set_option linter.defProp false
def QF_:=And.intro (And.intro (And.intro (@qw_) (@qg_)) (And.intro (@qf_) (And.intro (@qd_) (@Sx.tup2_0)))) (And.intro (And.intro (@Sx.tup2_1) (@zJ_)) (And.intro (@zI_) (And.intro (@q4_) (@agZ_))))
theorem ahk_ (bx bm:Nat) (om:Obj) (m:List (IdL×ObK)) (i:IdL) (sv:Value) (w:World) (h:SrcAt w sv m bx bm om):
  Rets Tryz.prog 342 #[vp bx 0, .agg (a8 i.l)] w (fun v D=>v= .tuple #[obKV (zN_ m i).1, .bool (zN_ m i).2]∧D= []):=by
 have hbx:=h.bx
 have hbm:=h.bm
 have hlx:=(Array.getElem?_eq_some_iff.1 hbx).1
 have hlm:=(Array.getElem?_eq_some_iff.1 hbm).1
 refine Rets.enterV Tryz.func342 rfl (rs:= [.cell 4 35, .tmp 5]) Tryz.results342 Tryz.ntmps342 ?_
 refine kf ?_
 first|with_reducible refine ks [] @QF_ ?_|refine kp @QF_ ?_
 refine Ow.box rfl rfl fun b3 hb3 hw3=> ?_
 simp only[zW_,zT_,z1_,ze_,List.nil_append,List.cons_append]
 refine Ow.go rfl ?_
 simp(disch:=(first|assumption|omega| (simp only[qF_,qC_,UInt64.reduceToNat];try omega))) only[↓Sx.S0,Sx.S1,Tryz.fx,QF_,Nat.reduceAdd,Nat.reducePow,Int.reducePow,Nat.reduceBEq, ↓reduceIte,UInt8.reduceToNat,UInt16.reduceToNat,UInt32.reduceToNat,UInt64.reduceToNat,Int.reduceToNat]
 refine Ow.alloc rfl rfl Xl_ fun b4 hb4 hw4=> ?_
 simp only[ze_,List.nil_append,List.cons_append]
 have h34:b3<b4:=zf_ hb4 (by simp[keys])
 have hNY:New w.heap.size [(b3,Obj.cells (a8 i.l) 24 (0,0)),(b4, .cells #[vi 0,vs []] 35 (0,0))]:=⟨hw3,hw4,trivial⟩
 have rbx:zv_ w [(b3,Obj.cells (a8 i.l) 24 (0,0)),(b4, .cells #[vi 0,vs []] 35 (0,0))] bx=some (.cells #[vm bm] 121 (0,0)):=by rw[qD_ (hNY.not hlx)];exact hbx
 refine ko @QF_ ?_
 first|with_reducible refine ks [] @QF_ ?_|refine kp @QF_ ?_
 refine Cw.regionD [bx,b3] [10] 9 6 35 11 _ rfl (by kernel_rfl) (by kernel_rfl) rfl (by kernel_rfl) Xl_ (fun hD=> ?_)
 simp only[List.replicate_succ,List.replicate_zero]
 refine OwD.run [0,1,2,3,4] [true,true,true,true,true,false,false,false,false,false,false,false] 6 rfl hD (by kernel_rfl) fun k hk=> ?_
 simp only[zh_, ↓zc_, ↓za_, ↓zk_, ↓zj_,zb_]
 simp(disch:=(first|assumption|omega| (simp only[qF_,qC_,UInt64.reduceToNat];try omega))) only[↓Sx.S0,Sx.S1,Tryz.fx,QF_,Nat.reduceAdd,Nat.reducePow,Int.reducePow,Nat.reduceBEq, ↓reduceIte,UInt8.reduceToNat,UInt16.reduceToNat,UInt32.reduceToNat,UInt64.reduceToNat,Int.reduceToNat,Md.next_sofnil,rbx]
 (with_reducible refine hk _ _ _ ?_);clear hk k
 refine OwD.soft 5 _ hD rfl (by kernel_rfl) (fun E hE=> ?_)
 have hNE:=hNY.app (alp_ hE)
 refine Ow.mapGet2G (encK:=Z2_) (encV:=obKV) (k:=i) (z:=jU_) rfl rfl Tryz.underlying119 aaB_ Xl_ rfl rfl (by rw[qD_ (hNE.not hlm)];exact hbm) h.m ?_
 with_reducible refine Ow.nil ?_
 refine⟨_,List.Perm.refl _,fun _ _=>rfl, ?_⟩
 simp only[List.set_cons_zero,List.set_cons_succ,zl_,zy_,zz_]
 refine OwD.run [6,7,8] [true,true,true,true,true,true,true,true,true,false,false,false] 2 rfl hD (by kernel_rfl) fun k hk=> ?_
 simp only[zh_, ↓zc_, ↓za_, ↓zk_, ↓zj_,zb_]
 simp(disch:=(first|assumption|omega| (simp only[qF_,qC_,UInt64.reduceToNat];try omega))) only[↓Sx.S0,Sx.S1,Tryz.fx,QF_,Nat.reduceAdd,Nat.reducePow,Int.reducePow,Nat.reduceBEq, ↓reduceIte,UInt8.reduceToNat,UInt16.reduceToNat,UInt32.reduceToNat,UInt64.reduceToNat,Int.reduceToNat,Md.next_sofnil,Sx.tup2_0,Sx.tup2_1]
 (with_reducible refine hk _ _ _ ?_);clear hk k
 refine OwD.real [10,11] rfl hD (by kernel_rfl) (by kernel_rfl) (by kernel_rfl) (by kernel_rfl) (fun r hr=>by simp only[List.mem_cons,List.not_mem_nil,or_false] at hr;rcases hr with rfl|rfl;exact .inr hlx;exact .inl (by simp[keys])) ?_
 simp only[zh_, ↓zc_, ↓za_, ↓zk_, ↓zj_,zb_]
 intro b6 hw6 hbL
 simp only[zy_,zz_]
 refine Ow.store rfl rfl rfl (L':= [(b3, .cells (a8 i.l) 24 (0,0)),(b4, .cells #[vi 0,vs []] 35 (0,0))]++ [(b6, .cells #[vi (zN_ m i).1.k,vs (zN_ m i).1.t] 35 (0,0))]) ?_ ?_
 ·simp only[zW_,zT_,z1_]
  have hst:zs_ (some (true,2)) (some (Obj.cells (Value.cells (obV 0 [])) 35 (0,0))) 0 (obKV (Jk_ i jU_ m))=some (.cells #[vi (zN_ m i).1.k,vs (zN_ m i).1.t] 35 (0,0)):=rfl
  rw[Tryz.ag35,xv_,vk_ hbL,hst,kv_,x2_ hbL]
  exact []
 have h63:b3≠b6∧b4≠b6:=by simp[keys] at hbL;omega
 obtain⟨h63,h64⟩:=h63
 simp only[List.cons_append,List.nil_append]
 refine ko @QF_ ?_
 first|with_reducible refine ks [] @QF_ ?_|refine kp @QF_ ?_
 refine⟨_,(ke @QF_),⟨hw3,hw4,hw6,trivial⟩, ?_⟩
 rfl
end Go.Proofs
end
namespace Go.Sx
open Go
section
variable {P:Program} {w0:World} {l:List Oper} {R ts:List Nat} {n:Nat} {listed:List Bool} {f:Fr} {L:zi_} {N:Fr→zi_→Prop}
def OwG (P:Program) (w0:World) (l:List Oper) (R ts:List Nat) (n:Nat) (listed:List Bool) (f:Fr) (L:zi_) (N:Fr→zi_→Prop):Prop:=
 ∀w,Hp w0 L w→xH_ P l.toArray (jM_ w0 N) ts (SR w0 R L) n listed.toArray (act f) w
theorem Cw.regionG {id:Nat} {K:xQ_} (R ts:List Nat) (m:Nat) (hl:l.length=m) (hm:P.follows .mixedOrders=true) (h:OwG P w0 l R ts m (List.replicate m false) f L (K .normal)):Cw P w0 (.region id l.toArray true) f L K:=by
 intro w hw
 subst hl
 refine wp_mono (wp_region_any hm ?_) fun _ _ _ h=>j1_ h
 have:=kX_ _ _ _ _ (h _ hw.drew)
 simpa using this
def chkG (P:Program) (l:List Oper) (ts:List Nat):List Nat→List Bool→Option (List Bool)
 | [],listed=>some listed
 |k::is,listed=>
  match kY_ l k with
  |some o=>if !ts.contains k&& (ts.all fun t=> !listed.toArray.getD t true)&& (Region.ready .any l.toArray listed.toArray).contains k&&Region.free .any l.toArray listed.toArray k&&
    (xE_ P o.op|| (XQ_ o.op&&Jb_ l.toArray ts listed.toArray k)) then chkG P l ts is (listed.set k true) else none
  |none=>none
theorem OwG.step {k:Nat} {o:Oper} {v:Value} (hns:Region.noSelect l.toArray=true) (hk:kY_ l k=some o) {rest:List Bool} (hc:chkG P l ts [k] listed=some rest)
  (hY:YieldsC P l.toArray (SR w0 R L) (xE_ P o.op=true) o v (act f)) (h:OwG P w0 l R ts n rest (qz_ f o.dst v) L N):OwG P w0 l R ts (n+1) listed f L N:=by
 have hoi:l.toArray[k]? =some o:=by rw[xl_] at hk;simpa using hk
 unfold chkG at hc
 rw[hk] at hc
 simp only at hc
 split at hc
 ·rename_i hcc
  simp only[chkG,Option.some.injEq] at hc
  subst hc
  simp only[Bool.and_eq_true,Bool.or_eq_true,Bool.not_eq_true',List.all_eq_true,List.contains_eq_mem,decide_eq_true_eq,decide_eq_false_iff_not] at hcc
  obtain⟨⟨⟨⟨c2,c3⟩,c4⟩,c5⟩,c9⟩:=hcc
  have hsel:=Region.noSelect_spec hns
  intro w hw
  refine vs_ hoi c2 hsel (fun c a w h=>z5_ h) _ _ _ _ (xO_ (P:=P) hoi c4 c5 (c9.imp id fun h=>⟨h.1,h.2,fun t ht=>c3 t ht⟩)) (.inr fun t ht=>c3 t ht) hY ?_
  rw[qa_,qs_]
  exact h w hw
 ·cases hc
theorem ah9_ {k:Nat} {is:List Nat} {listed listed':List Bool} (h:chkG P l ts (k::is) listed=some listed'):chkG P l ts [k] listed=some (listed.set k true)∧chkG P l ts is (listed.set k true)=some listed':=by
 rw[chkG] at h
 cases ho:kY_ l k with
 |none=>rw[ho] at h;cases h
 |some o=>
  rw[ho] at h
  simp only at h
  split at h
  ·rename_i hcc
   refine⟨?_,h⟩
   rw[chkG,ho]
   simp only
   rw[if_pos hcc];rfl
  ·cases h
theorem OwG.runs {k:Md→List Oper→Fr→zi_→Prop} (hns:Region.noSelect l.toArray=true): ∀ (is:List Nat) {listed listed':List Bool} {f:Fr} {L:zi_},chkG P l ts is listed=some listed'→
  (∀md r f' L',k md r f' L'→r= []∧OwG P w0 l R ts n listed' f' L' N)→vcL P w0 l.toArray false (.sof R [] []) (xC_ l is) f L k→OwG P w0 l R ts (is.length+n) listed f L N
 | [],listed,listed',f,L,hc,hk,h=>by
  cases hc
  rw[List.length_nil,Nat.zero_add]
  exact(hk _ _ _ _ h).2
 |i::is,listed,listed',f,L,hc,hk,h=>by
  obtain⟨hc1,hc2⟩:=ah9_ hc
  rw[za_] at h
  cases ho:kY_ l i with
  |none=>unfold chkG at hc1;rw[ho] at hc1;cases hc1
  |some o=>
   rw[ho,zb_] at h
   unfold vcL at h
   rw[List.length_cons,show is.length+1+n=(is.length+n)+1 by omega]
   cases hs:zt_ l.toArray f o with
   |true=>
    rw[hs] at h
    have hw0:Region.wanted o (yielded l.toArray (act f).tmps)=false:=by rw[qo_,hs];rfl
    exact OwG.step hns ho hc1 (v:=undef) (.inr ⟨hw0,rfl⟩) (OwG.runs hns is hc2 hk h)
   |false=>
    rw[hs] at h
    have hw0:Region.wanted o (yielded l.toArray (act f).tmps)=true:=by rw[qo_,hs];rfl
    simp only[ib,vcB] at h
    split at h
    ·cases hrd:Vu_ (.sof R [] []) f o.op with
     |false=>rw[hrd] at h;exact absurd (hk _ _ _ _ h).1 (by simp)
     |true=>
      rw[hrd] at h
      simp only at h
      cases hv:x7_ P w0 L f o.op with
      |none=>rw[hv] at h;exact absurd (hk _ _ _ _ h).1 (by simp)
      |some v=>
       rw[hv] at h
       refine OwG.step hns ho hc1 (v:=v) (.inl ⟨hw0,fun w hw=> ?_⟩) (OwG.runs hns is hc2 hk h)
       rw[jx_]
       rcases hw with hp|hw
       ·exact jc_ (Hp.refl w) (x1_ hp hv w)
       ·exact jc_ (Hp.refl w) (wO_ hrd hv hw)
    ·exact absurd (hk _ _ _ _ h).1 (by simp)
    ·exact absurd (hk _ _ _ _ h).1 (by simp)
theorem OwG.run (is:List Nat) (listed':List Bool) (n:Nat) {m:Nat} (hm:m=is.length+n) (hns:Region.noSelect l.toArray=true) (hc:chkG P l ts is listed=some listed')
  (h: ∀k:Md→List Oper→Fr→zi_→Prop,(∀md f L,OwG P w0 l R ts n listed' f L N→k md [] f L)→nl (xC_ l is) fun l'=>vcL P w0 l.toArray false (.sof R [] []) l' f L k):OwG P w0 l R ts m listed f L N:=by
 subst hm
 refine OwG.runs (k:=fun _ r f' L'=>r= []∧OwG P w0 l R ts n listed' f' L' N) hns is hc (fun _ _ _ _ h=>h) ?_
 exact h _ fun _ _ _ h=>⟨rfl,h⟩
def ady_ (l:List Oper) (ts:List Nat) (ks:List Nat) (listed:List Bool):Bool:=
 ((Region.ready .any l.toArray listed.toArray).all fun i=>ks.contains i)&& (Region.ready .any l.toArray listed.toArray != [])&&ks.all fun k=> !ts.contains k
theorem OwG.softs (ks:List Nat) (hs:ady_ l ts ks listed=true)
  (h: ∀k,k∈ks→ ∀o,kY_ l k=some o→Ow P w0 l.toArray .seq [o] f L (fun f' L'=>(∀r,r∈R→zv_ w0 L' r=zv_ w0 L r)∧OwG P w0 l R ts n (listed.set k true) f' L' N)):
  OwG P w0 l R ts (n+1) listed f L N:=by
 unfold ady_ at hs
 simp only[Bool.and_eq_true,List.all_eq_true,bne_iff_ne,ne_eq,List.contains_eq_mem,decide_eq_true_eq,Bool.not_eq_true',decide_eq_false_iff_not] at hs
 obtain⟨⟨c3,c4⟩,c6⟩:=hs
 intro w hw
 refine⟨fun _=>SR.of hw,fun hr=>absurd hr c4,fun i hi=> ?_⟩
 have hik:=c3 i hi
 obtain⟨-,oi,hoi,-⟩:=mem_ready.1 hi
 have hni:kY_ l i=some oi:=by rw[xl_];simpa using hoi
 refine wS_ hoi (X:=xH_ P l.toArray (jM_ w0 N) ts (SR w0 R L) n (listed.toArray.setIfInBounds i true)) ?_ hw
 intro w' hw'
 have h1:=h i hik oi hni w' hw'
 refine ks_ ?_ h1
 rintro f' L' ⟨hS,hO⟩ w'' hw''
 rw[wm_ hS,qs_]
 exact hO w'' hw''
theorem OwG.one (i:Nat) (oi:Oper) (hs:ady_ l ts [i] listed=true) (hi:kY_ l i=some oi)
  (h:Ow P w0 l.toArray .seq [oi] f L (fun f' L'=>(∀r,r∈R→zv_ w0 L' r=zv_ w0 L r)∧OwG P w0 l R ts n (listed.set i true) f' L' N)):OwG P w0 l R ts (n+1) listed f L N:=
 OwG.softs [i] hs fun k hk o ho=>by
  rw[List.mem_singleton] at hk
  subst hk
  rw[hi] at ho
  cases ho
  exact h
theorem OwG.two (i j:Nat) (oi oj:Oper) (hs:ady_ l ts [i,j] listed=true) (hi:kY_ l i=some oi) (hj:kY_ l j=some oj)
  (h1:Ow P w0 l.toArray .seq [oi] f L (fun f' L'=>(∀r,r∈R→zv_ w0 L' r=zv_ w0 L r)∧OwG P w0 l R ts n (listed.set i true) f' L' N))
  (h2:Ow P w0 l.toArray .seq [oj] f L (fun f' L'=>(∀r,r∈R→zv_ w0 L' r=zv_ w0 L r)∧OwG P w0 l R ts n (listed.set j true) f' L' N)):OwG P w0 l R ts (n+1) listed f L N:=
 OwG.softs [i,j] hs fun k hk o ho=>by
  simp only[List.mem_cons,List.not_mem_nil,or_false] at hk
  rcases hk with rfl|rfl
  ·rw[hi] at ho;cases ho;exact h1
  ·rw[hj] at ho;cases ho;exact h2
theorem OwG.permL {M:zi_} (hp:M.Perm L) (hR: ∀r,r∈R→zv_ w0 M r=zv_ w0 L r) (h:OwG P w0 l R ts n listed f M N):OwG P w0 l R ts n listed f L N:=by
 intro w hw
 rw[wm_ hR]
 exact h w (hw.perm hp)
def am6_ (P:Program) (l:List Oper) (is ts:List Nat) (listed:List Bool):Bool:=
 Region.noSelect l.toArray&&Qr_ P l.toArray ts is listed.toArray&&ts.all fun t=> !listed.toArray.getD t true
theorem OwG.rest (is:List Nat) {m:Nat} (hm:m=is.length) (hB:am6_ P l is ts listed=true) (hl:is.map (fun i:Nat=>l[i]?)=(xC_ l is).map some)
  (h:nl (xC_ l is) fun l'=>Ow P w0 l.toArray (.sof R is ts) l' f L N):OwG P w0 l R ts m listed f L N:=by
 subst hm
 revert hl h
 generalize xC_ l is=l'
 intro hl h w hw
 simp only[am6_,Bool.and_eq_true,List.all_eq_true,Bool.not_eq_true'] at hB
 obtain⟨⟨h1,h4⟩,h5⟩:=hB
 have hlen:is.length=l'.length:=by have:=congrArg List.length hl;simpa using this
 have hF:Fits P l.toArray ts is l' listed.toArray:=⟨hlen,fun j=>by
  have:=congrArg (·[j]?) hl
  simp only[List.getElem?_map] at this
  cases hj:is[j]? with
  |none=>
   rw[hj] at this
   simp only[Option.map_none] at this
   cases hj':l'[j]? with
   |none=>rfl
   |some x=>rw[hj'] at this;cases this
  |some i=>
   rw[hj] at this
   simp only[Option.map_some] at this
   cases hj':l'[j]? with
   |none=>rw[hj'] at this;cases this
   |some x=>
    rw[hj'] at this
    simp only[Option.map_some,Option.some.injEq] at this
    simp[this],h1,h4⟩
 rw[hlen]
 exact(h:Ow P w0 l.toArray (.sof R is ts) l' f L N) listed.toArray hF (fun t ht=>h5 t ht) w hw
end
def CutO {G:Type} (M:List Nat) (S:G→List (Nat×Value)) (H:G→zi_) (J:G→Prop) (f f':Fr) (L':zi_):Prop:=
 ∃g,J g∧L'=H g∧f'=pin (qL_ (vC_ f') M 0 f) (S g)
theorem CutO.mk {G:Type} {M:List Nat} {S:G→List (Nat×Value)} {H:G→zi_} {J:G→Prop} {f f':Fr} {L':zi_} (g:G) (hJ:J g) (hL:L'=H g) (hf:f'=pin (qL_ (vC_ f') M 0 f) (S g)):CutO M S H J f f' L':=⟨g,hJ,hL,hf⟩
theorem Cw.cutO {P:Program} {w0:World} {x y:Code} {f:Fr} {L:zi_} {K:xQ_} {G:Type} (M:List Nat) (S:G→List (Nat×Value)) (H:G→zi_) (J:G→Prop) (h1:Cw P w0 x f L (vK_ (CutO M S H J f) K))
  (h2: ∀ (g:G) (j:Nat→Value),J g→Cw P w0 y (pin (qL_ j M 0 f) (S g)) (H g) K):Cw P w0 (.seq x y) f L K:=by
 refine Cw.seq (h1.mono fun e f' L' k=> ?_)
 cases e with
 |normal=>
  obtain⟨g,hJ,rfl,hf⟩:=k
  have:=h2 g (vC_ f') hJ
  rw[←hf] at this
  exact this
 |_=>exact k
end Go.Sx
section
open Go Go.Proofs Go.Sx Go.StP
namespace Go.Proofs
set_option maxRecDepth 10000
set_option maxHeartbeats 400000
set_option linter.unusedSimpArgs false
def w0_ {α:Type} (l:List α):List (α×Bool):=l.map fun x=>(x,true)
theorem getT {α:Type} [DecidableEq α] (k:α): ∀ (l:List α),Jk_ k false (w0_ l)=decide (k∈l)
 | []=>rfl
 |x::l=>by
  have ih:=getT k l
  unfold Jk_ w0_ at ih ⊢
  rw[List.map_cons,List.find?_cons]
  by_cases h:k=x
  ·subst h;simp
  ·have h1: (k==x)=false:=by simpa using h
   simp only[h1]
   rw[ih]
   simp[h]
theorem agR_ {α:Type} [DecidableEq α] {k:α}: ∀ {l:List α},k∈l→XB_ k true (w0_ l)=w0_ l
 |x::l,h=>by
  unfold w0_
  rw[List.map_cons,XB_]
  by_cases h1:k=x
  ·subst h1;simp
  ·have h2: (k==x)=false:=by simpa using h1
   simp only[h2]
   have:=agR_ ((List.mem_cons.1 h).resolve_left h1)
   unfold w0_ at this
   simp[this]
theorem QK_ {α:Type} [DecidableEq α] {k:α}: ∀ {l:List α},k∉l→XB_ k true (w0_ l)=w0_ (l++ [k])
 | [],_=>rfl
 |x::l,h=>by
  unfold w0_
  rw[List.map_cons,XB_,List.cons_append,List.map_cons]
  have h1:k≠x:=fun e=>h (by rw[e];exact List.mem_cons_self)
  have h2: (k==x)=false:=by simpa using h1
  simp only[h2]
  have:=QK_ (k:=k) (l:=l) (fun hm=>h (List.mem_cons_of_mem _ hm))
  unfold w0_ at this
  simp[this]
structure WkA (bw:Nat) (sv:Value) (W:WkS) (vq:Value) (bv:Nat) (ov:Obj) (bm:Nat) (om:Obj) (vl:Value) (Q M X:zi_):Prop where
 perm:X.Perm ((bw, .cells #[sv,vq,vm bv,vm bm,vl] 133 (0,0)):: (bv,ov):: (bm,om):: (Q++M))
 q:Qu Q 59 33 vq W.q.length (W.q.map zm_).flatten
 l:Gr M 59 33 vl W.lk.length (W.lk.map zm_).flatten
 v:QP_ chKV blV ov (w0_ W.vis)
 m:QP_ Z2_ blV om (w0_ W.ms)
def WkP (bw:Nat) (sv:Value) (W:WkS) (X:zi_):Prop:= ∃vq bv ov bm om vl Q M,WkA bw sv W vq bv ov bm om vl Q M X
theorem WkA.ne {bw:Nat} {sv:Value} {W:WkS} {vq:Value} {bv:Nat} {ov:Obj} {bm:Nat} {om:Obj} {vl:Value} {Q M X:zi_} (h:WkA bw sv W vq bv ov bm om vl Q M X) (hn: (keys X).Nodup):
  bw≠bv∧bw≠bm∧bv≠bm∧(∀c,c∈keys Q∨c∈keys M→c≠bw∧c≠bv∧c≠bm):=by
 have:=(h.perm.map Prod.fst).nodup_iff.1 hn
 simp only[List.map_cons,List.map_append,List.nodup_cons,List.mem_cons,List.mem_append,not_or] at this
 obtain⟨⟨h1,h2,h3,h4⟩,⟨h5,h6,h7⟩,⟨h8,h9⟩,-⟩:=this
 refine⟨h1,h2,h5,fun c hc=> ?_⟩
 rcases hc with hc|hc
 ·exact⟨fun e=>h3 (e▸hc),fun e=>h6 (e▸hc),fun e=>h8 (e▸hc)⟩
 ·exact⟨fun e=>h4 (e▸hc),fun e=>h7 (e▸hc),fun e=>h9 (e▸hc)⟩
theorem WkA.ext {bw:Nat} {sv:Value} {W:WkS} {vq:Value} {bv:Nat} {ov:Obj} {bm:Nat} {om:Obj} {vl:Value} {Q M X D:zi_} {w:World} (h:WkA bw sv W vq bv ov bm om vl Q M X)
  (h1: ∀c,c∈keys D↔c=bw∨c=bv∨c=bm∨c∈keys Q∨c∈keys M∨(c∈keys D∧w.heap.size≤c)):Ext w X D:=by
 have hk: ∀c,c∈keys X↔c=bw∨c=bv∨c=bm∨c∈keys Q∨c∈keys M:=fun c=>by
  have:=(h.perm.map Prod.fst).mem_iff (a:=c)
  simp only[List.map_cons,List.map_append,List.mem_cons,List.mem_append] at this
  exact this
 refine⟨fun c hc=> ?_,fun c hc=>(h1 c).2 ?_⟩
 ·rcases(h1 c).1 hc with h|h|h|h|h|h
  ·exact .inl ((hk c).2 (.inl h))
  ·exact .inl ((hk c).2 (.inr (.inl h)))
  ·exact .inl ((hk c).2 (.inr (.inr (.inl h))))
  ·exact .inl ((hk c).2 (.inr (.inr (.inr (.inl h)))))
  ·exact .inl ((hk c).2 (.inr (.inr (.inr (.inr h)))))
  ·exact .inr h.2
 ·rcases(hk c).1 hc with h|h|h|h|h
  ·exact .inl h
  ·exact .inr (.inl h)
  ·exact .inr (.inr (.inl h))
  ·exact .inr (.inr (.inr (.inl h)))
  ·exact .inr (.inr (.inr (.inr (.inl h))))
theorem l5_0 (a b c d e:Value) (n:Nat) (E:TypeId) (fz:Nat×Nat):zA_ (some (false,n)) (some (.cells #[a,b,c,d,e] E fz)) 0=some a:=(rfl)
theorem l5_1 (a b c d e:Value) (n:Nat) (E:TypeId) (fz:Nat×Nat):zA_ (some (false,n)) (some (.cells #[a,b,c,d,e] E fz)) 1=some b:=(rfl)
theorem l5_2 (a b c d e:Value) (n:Nat) (E:TypeId) (fz:Nat×Nat):zA_ (some (false,n)) (some (.cells #[a,b,c,d,e] E fz)) 2=some c:=(rfl)
theorem l5_3 (a b c d e:Value) (n:Nat) (E:TypeId) (fz:Nat×Nat):zA_ (some (false,n)) (some (.cells #[a,b,c,d,e] E fz)) 3=some d:=(rfl)
theorem l5_4 (a b c d e:Value) (n:Nat) (E:TypeId) (fz:Nat×Nat):zA_ (some (false,n)) (some (.cells #[a,b,c,d,e] E fz)) 4=some e:=(rfl)
theorem s5_1 (a b c d e v:Value) (E:TypeId) (h:Value.oneCell' v=true∧v.cells= #[v]):zs_ (some (false,1)) (some (.cells #[a,b,c,d,e] E (0,0))) 1 v=some (.cells #[a,v,c,d,e] E (0,0)):=by
 simp[zs_,h,xA_]
theorem s5_4 (a b c d e v:Value) (E:TypeId) (h:Value.oneCell' v=true∧v.cells= #[v]):zs_ (some (false,1)) (some (.cells #[a,b,c,d,e] E (0,0))) 4 v=some (.cells #[a,b,c,d,v] E (0,0)):=by
 simp[zs_,h,xA_]
theorem amj_ (b:Nat) (w:World): (method (Tryz.prog.types.size+Made.depth) 118 (vp b 0) "Get").run Tryz.prog w= .ok (342,vp b 0) w:=by kernel_rfl
set_option linter.defProp false
def xd_:=And.intro (And.intro (And.intro (And.intro (@qw_) (@qg_)) (And.intro (@qf_) (@qd_))) (And.intro (And.intro (@Sx.tup2_0) (@Sx.tup2_1)) (And.intro (@zJ_) (And.intro (@zI_) (@q4_))))) (And.intro (And.intro (And.intro (@xM_) (@xe_)) (And.intro (@j7_) (And.intro (@zG_) (@jG_)))) (And.intro (And.intro (@l5_0) (@l5_1)) (And.intro (@l5_2) (And.intro (@l5_3) (@l5_4)))))
theorem aaa_ (bw:Nat) (sv vq vv vk vl:Value) (m:List (IdL×ObK)) (c:ChildL) (w:World) (hb:w.heap[bw]? =some (.cells #[sv,vq,vv,vk,vl] 133 (0,0))) (hS:SrcW w sv m []):
  Rets Tryz.prog 79 #[vp bw 0, .agg (zm_ c).toArray] w (fun v D=>v= .tuple #[obKV (zN_ m c.id).1, .bool (zS_ (zN_ m) c)]∧D= []):=by
 obtain⟨bx,bm,om,hA,-,-⟩:=hS
 have hsv:=hA.sv
 subst hsv
 have hlw:=(Array.getElem?_eq_some_iff.1 hb).1
 have hlx:=(Array.getElem?_eq_some_iff.1 hA.bx).1
 have hlm:=(Array.getElem?_eq_some_iff.1 hA.bm).1
 refine Rets.enterV Tryz.func79 rfl (rs:= [.cell 4 35, .tmp 5]) Tryz.results79 Tryz.ntmps79 ?_
 refine kf ?_
 first|with_reducible refine ks [] @xd_ ?_|refine kp @xd_ ?_
 refine Ow.box rfl rfl fun b3 hb3 hw3=> ?_
 simp only[zW_,zT_,z1_,ze_,List.nil_append,List.cons_append]
 refine Ow.go rfl ?_
 simp(disch:=(first|assumption|omega| (simp only[qF_,qC_,UInt64.reduceToNat];try omega))) only[↓Sx.S0,Sx.S1,Tryz.fx,xd_,Nat.reduceAdd,Nat.reducePow,Int.reducePow,Nat.reduceBEq, ↓reduceIte,UInt8.reduceToNat,UInt16.reduceToNat,UInt32.reduceToNat,UInt64.reduceToNat,Int.reduceToNat]
 refine Ow.alloc rfl rfl Xl_ fun b4 hb4 hw4=> ?_
 simp only[ze_,List.nil_append,List.cons_append]
 have h34:b3<b4:=zf_ hb4 (by simp[keys])
 have hNY:New w.heap.size [(b3,Obj.cells (zm_ c).toArray 59 (0,0)),(b4, .cells #[vi 0,vs []] 35 (0,0))]:=⟨hw3,hw4,trivial⟩
 have rbw:zv_ w [(b3,Obj.cells (zm_ c).toArray 59 (0,0)),(b4, .cells #[vi 0,vs []] 35 (0,0))] bw=some (.cells #[.iface 118 (vp bx 0),vq,vv,vk,vl] 133 (0,0)):=by rw[qD_ (hNY.not hlw)];exact hb
 refine ko @xd_ ?_
 first|with_reducible refine ks [] @xd_ ?_|refine kp @xd_ ?_
 refine Cw.regionD [bw,b3] [11] 10 6 35 12 _ rfl (by kernel_rfl) (by kernel_rfl) rfl (by kernel_rfl) Xl_ (fun hD=> ?_)
 simp only[List.replicate_succ,List.replicate_zero]
 refine OwD.run [0,1,2,3,4,5] [true,true,true,true,true,true,false,false,false,false,false,false,false] 6 rfl hD (by kernel_rfl) fun k hk=> ?_
 simp only[zh_, ↓zc_, ↓za_, ↓zk_, ↓zj_,zb_]
 simp(disch:=(first|assumption|omega| (simp only[qF_,qC_,UInt64.reduceToNat];try omega))) only[↓Sx.S0,Sx.S1,Tryz.fx,xd_,Nat.reduceAdd,Nat.reducePow,Int.reducePow,Nat.reduceBEq, ↓reduceIte,UInt8.reduceToNat,UInt16.reduceToNat,UInt32.reduceToNat,UInt64.reduceToNat,Int.reduceToNat,Md.next_sofnil,rbw]
 (with_reducible refine hk _ _ _ ?_);clear hk k
 refine OwD.soft 6 _ hD rfl (by kernel_rfl) (fun E hE=> ?_)
 have hNE:=hNY.app (alp_ hE)
 refine Ow.callIV rfl rfl rfl (amj_ bx) Tryz.call342 (fun w' hw'=>ahk_ bx bm om m c.id _ w' (hA.old hw' (hNE.not hlx) (hNE.not hlm))) ?_
 with_reducible refine Ow.nil ?_
 refine⟨_,List.Perm.refl _,fun _ _=>rfl, ?_⟩
 simp only[List.set_cons_zero,List.set_cons_succ,zl_,zy_,zz_]
 refine OwD.run [7,8,9] [true,true,true,true,true,true,true,true,true,true,false,false,false] 2 rfl hD (by kernel_rfl) fun k hk=> ?_
 simp only[zh_, ↓zc_, ↓za_, ↓zk_, ↓zj_,zb_]
 simp(disch:=(first|assumption|omega| (simp only[qF_,qC_,UInt64.reduceToNat];try omega))) only[↓Sx.S0,Sx.S1,Tryz.fx,xd_,Nat.reduceAdd,Nat.reducePow,Int.reducePow,Nat.reduceBEq, ↓reduceIte,UInt8.reduceToNat,UInt16.reduceToNat,UInt32.reduceToNat,UInt64.reduceToNat,Int.reduceToNat,Md.next_sofnil,Sx.tup2_0,Sx.tup2_1]
 (with_reducible refine hk _ _ _ ?_);clear hk k
 refine OwD.real [11,12] rfl hD (by kernel_rfl) (by kernel_rfl) (by kernel_rfl) (by kernel_rfl) (fun r hr=>by simp only[List.mem_cons,List.not_mem_nil,or_false] at hr;rcases hr with rfl|rfl;exact .inr hlw;exact .inl (by simp[keys])) ?_
 simp only[zh_, ↓zc_, ↓za_, ↓zk_, ↓zj_,zb_]
 intro b6 hw6 hbL
 simp only[zy_,zz_]
 have e1:zS_ (zN_ m) c=((zN_ m c.id).2&& (c.kind==0||c.kind==(zN_ m c.id).1.k)):=rfl
 rw[e1]
 generalize (zN_ m c.id).2=ok at*
 generalize (zN_ m c.id).1=o at*
 refine Ow.store rfl rfl rfl (L':= [(b3, .cells (zm_ c).toArray 59 (0,0)),(b4, .cells #[vi 0,vs []] 35 (0,0))]++ [(b6, .cells #[vi o.k,vs o.t] 35 (0,0))]) ?_ ?_
 ·simp only[zW_,zT_,z1_]
  have hst:zs_ (some (true,2)) (some (Obj.cells (Value.cells (obV 0 [])) 35 (0,0))) 0 (obKV o)=some (.cells #[vi o.k,vs o.t] 35 (0,0)):=rfl
  rw[Tryz.ag35,xv_,vk_ hbL,hst,kv_,x2_ hbL]
  exact []
 have h63:b3≠b6∧b4≠b6:=by simp[keys] at hbL;omega
 obtain⟨h63,h64⟩:=h63
 simp only[List.cons_append,List.nil_append]
 refine ko @xd_ ?_
 first|with_reducible refine ks [] @xd_ ?_|refine kp @xd_ ?_
 have hst2: ∀ (x y:Int) (s t:List UInt8),zs_ (some (true,2)) (some (Obj.cells #[vi x,vs s] 35 (0,0))) 0 (obV y t)=some (.cells #[vi y,vs t] 35 (0,0)):=fun _ _ _ _=>rfl
 cases ok
 ·refine Cw.regionG [b3,b6] [] 16 (by kernel_rfl) rfl ?_
  simp only[List.replicate_succ,List.replicate_zero]
  refine OwG.run [0,1,2,3,4,5,6,7,8,9,10,11,12,13] [true,true,true,true,true,true,true,true,true,true,true,true,true,true,false,false] 2 rfl (by kernel_rfl) (by kernel_rfl) fun k hk=> ?_
  simp only[zh_, ↓zc_, ↓za_, ↓zk_, ↓zj_,zb_]
  simp(disch:=(first|assumption|omega| (simp only[qF_,qC_,UInt64.reduceToNat];try omega))) only[↓Sx.S0,Sx.S1,Tryz.fx,xd_,Nat.reduceAdd,Nat.reducePow,Int.reducePow,Nat.reduceBEq, ↓reduceIte,UInt8.reduceToNat,UInt16.reduceToNat,UInt32.reduceToNat,UInt64.reduceToNat,Int.reduceToNat,Md.next_sofnil,Md.next_sofnil]
  (with_reducible refine hk _ _ _ ?_);clear hk k
  refine OwG.one 14 _ (by kernel_rfl) rfl ?_
  refine ko (And.intro @xd_ @hst2) ?_
  refine⟨fun r hr=>by simp only[List.mem_cons,List.not_mem_nil,or_false] at hr;rcases hr with rfl|rfl;exact(zV_ _ _ _ _).trans (zV_ _ _ _ _).symm;rw[zx_ _ _ _ _ _ h63,zx_ _ _ _ _ _ h64,zx_ _ _ _ _ _ h63,zx_ _ _ _ _ _ h64], ?_⟩
  simp only[List.set_cons_zero,List.set_cons_succ,zl_,zy_,zz_]
  refine OwG.rest [15] rfl (by kernel_rfl) (by kernel_rfl) ?_
  simp only[zh_, ↓zc_, ↓za_, ↓zk_, ↓zj_,zb_]
  refine kq @xd_ ?_
  try with_reducible refine Ow.nil ?_
  first|with_reducible refine ks [] @xd_ ?_|refine kp @xd_ ?_
  refine⟨_,(ke @xd_),⟨hw3,hw4,hw6,trivial⟩, ?_⟩
  rfl
 ·cases hq: (c.kind==0)
  ·refine Cw.regionG [b3,b6] [] 16 (by kernel_rfl) rfl ?_
   simp only[List.replicate_succ,List.replicate_zero]
   refine OwG.run [0,1,2,3,4,5,6,7,8,9,10,11,12,13] [true,true,true,true,true,true,true,true,true,true,true,true,true,true,false,false] 2 rfl (by kernel_rfl) (by kernel_rfl) fun k hk=> ?_
   simp only[zh_, ↓zc_, ↓za_, ↓zk_, ↓zj_,zb_]
   simp(disch:=(first|assumption|omega| (simp only[qF_,qC_,UInt64.reduceToNat];try omega))) only[↓Sx.S0,Sx.S1,Tryz.fx,xd_,Nat.reduceAdd,Nat.reducePow,Int.reducePow,Nat.reduceBEq, ↓reduceIte,UInt8.reduceToNat,UInt16.reduceToNat,UInt32.reduceToNat,UInt64.reduceToNat,Int.reduceToNat,Md.next_sofnil,hq]
   (with_reducible refine hk _ _ _ ?_);clear hk k
   refine OwG.one 14 _ (by kernel_rfl) rfl ?_
   refine ko (And.intro @xd_ @hst2) ?_
   refine⟨fun r hr=>by simp only[List.mem_cons,List.not_mem_nil,or_false] at hr;rcases hr with rfl|rfl;exact(zV_ _ _ _ _).trans (zV_ _ _ _ _).symm;rw[zx_ _ _ _ _ _ h63,zx_ _ _ _ _ _ h64,zx_ _ _ _ _ _ h63,zx_ _ _ _ _ _ h64], ?_⟩
   simp only[List.set_cons_zero,List.set_cons_succ,zl_,zy_,zz_]
   refine OwG.rest [15] rfl (by kernel_rfl) (by kernel_rfl) ?_
   simp only[zh_, ↓zc_, ↓za_, ↓zk_, ↓zj_,zb_]
   refine kq @xd_ ?_
   try with_reducible refine Ow.nil ?_
   first|with_reducible refine ks [] @xd_ ?_|refine kp @xd_ ?_
   refine⟨_,(ke @xd_),⟨hw3,hw4,hw6,trivial⟩, ?_⟩
   rfl
  ·refine Cw.regionG [b3,b6] [] 16 (by kernel_rfl) rfl ?_
   simp only[List.replicate_succ,List.replicate_zero]
   refine OwG.run [0,1,2,3,4,5,6,7,8,9,10,11,12,13] [true,true,true,true,true,true,true,true,true,true,true,true,true,true,false,false] 2 rfl (by kernel_rfl) (by kernel_rfl) fun k hk=> ?_
   simp only[zh_, ↓zc_, ↓za_, ↓zk_, ↓zj_,zb_]
   simp(disch:=(first|assumption|omega| (simp only[qF_,qC_,UInt64.reduceToNat];try omega))) only[↓Sx.S0,Sx.S1,Tryz.fx,xd_,Nat.reduceAdd,Nat.reducePow,Int.reducePow,Nat.reduceBEq, ↓reduceIte,UInt8.reduceToNat,UInt16.reduceToNat,UInt32.reduceToNat,UInt64.reduceToNat,Int.reduceToNat,Md.next_sofnil,hq]
   (with_reducible refine hk _ _ _ ?_);clear hk k
   refine OwG.one 14 _ (by kernel_rfl) rfl ?_
   refine ko (And.intro @xd_ @hst2) ?_
   refine⟨fun r hr=>by simp only[List.mem_cons,List.not_mem_nil,or_false] at hr;rcases hr with rfl|rfl;exact(zV_ _ _ _ _).trans (zV_ _ _ _ _).symm;rw[zx_ _ _ _ _ _ h63,zx_ _ _ _ _ _ h64,zx_ _ _ _ _ _ h63,zx_ _ _ _ _ _ h64], ?_⟩
   simp only[List.set_cons_zero,List.set_cons_succ,zl_,zy_,zz_]
   refine OwG.rest [15] rfl (by kernel_rfl) (by kernel_rfl) ?_
   simp only[zh_, ↓zc_, ↓za_, ↓zk_, ↓zj_,zb_]
   refine kq @xd_ ?_
   try with_reducible refine Ow.nil ?_
   first|with_reducible refine ks [] @xd_ ?_|refine kp @xd_ ?_
   refine⟨_,(ke @xd_),⟨hw3,hw4,hw6,trivial⟩, ?_⟩
   rfl
end Go.Proofs
end
section
open Go Go.Proofs Go.Sx Go.StP
namespace Go.Proofs
set_option maxRecDepth 10000
set_option maxHeartbeats 1000000
set_option linter.unusedSimpArgs false
theorem KI_ {k:Int} {t:List UInt8}: (jj_ k t).length≤40:=by
 unfold jj_
 cases hr:xS_ k t
 ·simp
 ·rw[if_pos rfl]
  split
  ·rename_i h
   subst h
   rw[List.length_map]
   have:=(ku_ (agy_ hr)).1
   omega
  ·split
   ·have:=VP_ t
    simp only[List.length_cons,List.length_map];omega
   ·simp
set_option linter.defProp false
end Go.Proofs
end
namespace Go.Sx
open Go
theorem Ext.perm {w:World} {X D D':zi_} (h:Ext w X D) (hp:D'.Perm D):Ext w X D':=
 ⟨fun c hc=>h.new c ((hp.map Prod.fst).mem_iff.1 hc),fun c hc=>(hp.map Prod.fst).mem_iff.2 (h.all c hc)⟩
section
variable {P:Program} {w0:World} {f:Fr} {L:zi_} {N:Fr→zi_→Prop} {ops:Array Oper} {rest:List Oper} {md:Md} {d:Option Tmp} {ty:TypeId} {ps:String} {af:Array Edge} {g:Option (Nat×Bool)}
end
end Go.Sx
section
open Go Go.Proofs Go.Sx Go.StP
namespace Go.Proofs
set_option maxRecDepth 10000
set_option maxHeartbeats 400000
set_option linter.unusedSimpArgs false
theorem jw_ (c:ChildL):kU_ Tryz.prog 44 1 [(0, .agg (zm_ c).toArray)]=some (59,(zm_ c).toArray):=
 qu_ Tryz.underlying44 q1_ jF_ (by decide) (zo_ c)
theorem akN_ {bw bv bm:Nat} {a b c:Obj} {Q M D:zi_} (h:D=(bw,a):: (bv,b):: (bm,c):: (Q++M)) (x:Nat):x∈keys D↔x=bw∨x=bv∨x=bm∨x∈keys Q∨x∈keys M:=by
 subst h
 simp only[keys,List.map_cons,List.map_append,List.mem_cons,List.mem_append]
theorem WkA.ext2 {bw:Nat} {sv:Value} {W:WkS} {vq:Value} {bv:Nat} {ov:Obj} {bm:Nat} {om:Obj} {vl:Value} {Q M X Q' M':zi_} {a b c:Obj} {w:World} (h:WkA bw sv W vq bv ov bm om vl Q M X)
  (h1: ∀x,x∈keys Q→x∈keys Q') (h2: ∀x,x∈keys Q'→x∈keys Q∨w.heap.size≤x) (h3: ∀x,x∈keys M→x∈keys M') (h4: ∀x,x∈keys M'→x∈keys M∨w.heap.size≤x):
  Ext w X ((bw,a):: (bv,b):: (bm,c):: (Q'++M')):=by
 refine h.ext fun x=> ?_
 rw[akN_ rfl]
 constructor
 ·rintro(h|h|h|h|h)
  ·exact .inl h
  ·exact .inr (.inl h)
  ·exact .inr (.inr (.inl h))
  ·rcases h2 x h with h5|h5
   ·exact .inr (.inr (.inr (.inl h5)))
   ·exact .inr (.inr (.inr (.inr (.inr ⟨.inr (.inr (.inr (.inl h))),h5⟩))))
  ·rcases h4 x h with h5|h5
   ·exact .inr (.inr (.inr (.inr (.inl h5))))
   ·exact .inr (.inr (.inr (.inr (.inr ⟨.inr (.inr (.inr (.inr h))),h5⟩))))
 ·rintro(h|h|h|h|h|h)
  ·exact .inl h
  ·exact .inr (.inl h)
  ·exact .inr (.inr (.inl h))
  ·exact .inr (.inr (.inr (.inl (h1 x h))))
  ·exact .inr (.inr (.inr (.inr (h3 x h))))
  ·exact h.1
theorem qq_ {L D X:zi_} {B c:Nat} (hA:ju_ L B) (hc:c∈keys L) (hcX:c∉keys X) (hD: ∀q,q∈keys D→q∈keys X∨B≤q):c∉keys D:=fun h=>(hD c h).elim hcX fun hb=>by have:=zf_ hA hc;omega
theorem Ji_ {b:Nat} {x:Obj}: ∀ {L M:zi_},b∉keys L→setB (L++M) b x=L++setB M b x
 | [],_,_=>rfl
 | (c,y)::r,M,h=>by
  simp only[keys,List.map_cons,List.mem_cons,not_or] at h
  rw[List.cons_append,z6_ _ _ _ _ _ (Ne.symm h.1),Ji_ (L:=r) h.2,List.cons_append]
theorem q6_ {D Y:zi_} {b:Nat} {o x:Obj} (h:b∉keys D):setB (D++ ((b,o)::Y)) b x=D++ ((b,x)::Y):=by rw[Ji_ h,qt_]
theorem zu_ {D Y:zi_} {b:Nat} {o:Obj} (h:b∉keys D):Sx.look (D++ ((b,o)::Y)) b=some o:=by rw[z3_ h];exact zH_ _ _ _
theorem zD_ {D Y:zi_} {b c:Nat} {o x:Obj} (h:c∉keys D) (hn:b≠c):Sx.look (D++ ((b,o):: (c,x)::Y)) c=some x:=by rw[z3_ h,zY_ _ _ _ _ hn];exact zH_ _ _ _
theorem WkA.keysX {bw:Nat} {sv:Value} {W:WkS} {vq:Value} {bv:Nat} {ov:Obj} {bm:Nat} {om:Obj} {vl:Value} {Q M X:zi_} (h:WkA bw sv W vq bv ov bm om vl Q M X) (x:Nat):x∈keys X↔x=bw∨x=bv∨x=bm∨x∈keys Q∨x∈keys M:=by
 rw[←akN_ rfl x];exact(h.perm.map Prod.fst).mem_iff
theorem zrBl:z8_ Tryz.prog 4=some (blV false):=id (by kernel_rfl)
set_option linter.defProp false
def ja_:=And.intro (And.intro (And.intro (And.intro (@qw_) (@qg_)) (And.intro (@qf_) (@qd_))) (And.intro (And.intro (@Sx.tup2_0) (@Sx.tup2_1)) (And.intro (@zJ_) (And.intro (@zI_) (@q4_))))) (And.intro (And.intro (And.intro (@xM_) (@xe_)) (And.intro (@j7_) (And.intro (@zG_) (@jG_)))) (And.intro (And.intro (@l5_0) (@l5_1)) (And.intro (@l5_2) (And.intro (@l5_3) (@l5_4)))))
theorem aey_ (bw:Nat) (sv:Value) (W:WkS) (m:List (IdL×ObK)) (c:ChildL) (X:zi_) (w:World) (hX: ∀p,p∈X→w.heap[p.1]? =some p.2) (hn: (keys X).Nodup) (hP:WkP bw sv W X) (hS:SrcW w sv m X) (hc:c∉W.vis)
  (hb1:W.q.length<10000000) (hb2:W.lk.length<10000000):
  Rets Tryz.prog 72 #[vp bw 0, .agg (zm_ c).toArray] w (XS w X (fun v D=>v= .tuple #[]∧WkP bw sv (jk_ (zN_ m) W c) D)):=by
 obtain⟨vq,bv,ov,bm,om,vl,Q,M,hA⟩:=hP
 obtain⟨hn1,hn2,hn3,hn4⟩:=hA.ne hn
 have hkX:=hA.keysX
 have hlt: ∀x,x∈keys X→x<w.heap.size:=fun x hx=>by
  obtain⟨p,hp,rfl⟩:=List.mem_map.1 hx
  exact(Array.getElem?_eq_some_iff.1 (hX p hp)).1
 have hwb:=hlt bw ((hkX bw).2 (.inl rfl))
 have hwv:=hlt bv ((hkX bv).2 (.inr (.inl rfl)))
 have hwm:=hlt bm ((hkX bm).2 (.inr (.inr (.inl rfl))))
 have hwQ: ∀x,x∈keys Q→x<w.heap.size:=fun x hx=>hlt x ((hkX x).2 (.inr (.inr (.inr (.inl hx)))))
 have hwM: ∀x,x∈keys M→x<w.heap.size:=fun x hx=>hlt x ((hkX x).2 (.inr (.inr (.inr (.inr hx)))))
 have hid:=c.id.h
 refine Rets.enterX Tryz.func72 rfl (rs:= []) Tryz.results72 Tryz.ntmps72 hX hn ?_
 refine kf ?_
 refine Cw.permL hA.perm.symm ?_
 first|with_reducible refine ks [] @ja_ ?_|refine kp @ja_ ?_
 refine Ow.box rfl rfl fun b3 hb3 hw3=> ?_
 simp only[zW_,zT_,z1_,ze_,List.nil_append,List.cons_append]
 refine Ow.go rfl ?_
 simp(disch:=(first|assumption|omega| (simp only[qF_,qC_,UInt64.reduceToNat];try omega))) only[↓Sx.S0,Sx.S1,Tryz.fx,ja_,Nat.reduceAdd,Nat.reducePow,Int.reducePow,Nat.reduceBEq, ↓reduceIte,UInt8.reduceToNat,UInt16.reduceToNat,UInt32.reduceToNat,UInt64.reduceToNat,Int.reduceToNat]
 refine Cw.permL (M:=(b3, .cells (zm_ c).toArray 59 (0,0)):: (bw, .cells #[sv,vq,vm bv,vm bm,vl] 133 (0,0)):: (bv,ov):: (bm,om):: (Q++M)) (by classical exact List.perm_iff_count.2 fun a=>by simp only[List.count_append,List.count_cons,List.count_nil]<;>omega) ?_
 first|with_reducible refine ks [] @ja_ ?_|refine kp @ja_ ?_
 refine Cw.regionS [bw,b3] [0,1,2,3,4,5] [5] (by kernel_rfl) (by kernel_rfl) (by kernel_rfl) ?_
 simp only[zh_, ↓zc_, ↓za_, ↓zk_, ↓zj_,zb_]
 refine kq @ja_ ?_
 refine Ow.mapUpdateG (encK:=chKV) (encV:=blV) (k:=c) (v:=true) rfl rfl Tryz.underlying130 ahj_ rfl rfl rfl (by rw[zY_ _ _ _ _ (by omega),zY_ _ _ _ _ (by omega)];exact zH_ _ _ _) hA.v (fun o1 ho1=> ?_)
 rw[QK_ hc] at ho1
 rw[z6_ _ _ _ _ _ (by omega),z6_ _ _ _ _ _ (by omega),qt_]
 refine ko @ja_ ?_
 first|with_reducible refine ks [] @ja_ ?_|refine kp @ja_ ?_
 have hLk: ∀x,x∈keys ((b3,Obj.cells (zm_ c).toArray 59 (0,0)):: (bw, .cells #[sv,vq,vm bv,vm bm,vl] 133 (0,0)):: (bv,o1):: (bm,om):: (Q++M))→x∈keys X∨w.heap.size≤x:=fun x hx=>by
  simp only[keys,List.map_cons,List.map_append,List.mem_cons,List.mem_append] at hx
  rcases hx with h|h
  ·exact .inr (by omega)
  ·exact .inl ((hkX x).2 h)
 refine Ow.callFV rfl Tryz.call79 (fun w' hw'=>aaa_ bw sv vq _ _ vl m c w' (hw'.has bw (.cells #[sv,vq,vm bv,vm bm,vl] 133 (0,0)) (by simp)) ((hS.ext hLk).old hw' (fun _ h=>by cases h))) ?_
 obtain⟨o,ho⟩: ∃o,o=(zN_ m c.id).1:=⟨_,rfl⟩
 rw[←ho]
 obtain⟨ok,ot⟩:=o
 have e0:obKV ⟨ok,ot⟩=obV ok ot:=rfl
 rw[e0]
 refine ko @ja_ ?_
 refine Ow.alloc rfl rfl Xl_ fun b4 hb4 hw4=> ?_
 simp only[ze_,List.nil_append,List.cons_append]
 refine Ow.permL (M:=(bm,om):: (bw, .cells #[sv,vq,vm bv,vm bm,vl] 133 (0,0)):: (b3, .cells (zm_ c).toArray 59 (0,0)):: (b4, .cells #[vi 0,vs []] 35 (0,0)):: (bv,o1):: (Q++M)) (by classical exact List.perm_iff_count.2 fun a=>by simp only[List.count_append,List.count_cons,List.count_nil]<;>omega) ?_
 have h34:b3<b4:=zf_ hb4 (by simp[keys])
 refine ko @ja_ ?_
 have hbM:bw∉keys M:=fun h=>(hn4 _ (.inr h)).1 rfl
 have hbQ:bw∉keys Q:=fun h=>(hn4 _ (.inl h)).1 rfl
 have h3M:b3∉keys M:=fun h=>by have:=hwM _ h;omega
 have h3Q:b3∉keys Q:=fun h=>by have:=hwQ _ h;omega
 have h4Q:b4∉keys Q:=fun h=>by have:=hwQ _ h;omega
 have hNg: ∀x,x∈keys [(b3,Obj.cells (zm_ c).toArray 59 (0,0)),(b4, .cells #[vi ok,vs ot] 35 (0,0))]→w.heap.size≤x:=fun x hx=>by
  simp only[keys,List.map_cons,List.map_nil,List.mem_cons,List.not_mem_nil,or_false] at hx
  omega
 cases hf:zS_ (zN_ m) c
 ·have hv:jk_ (zN_ m) W c={W with vis:=W.vis++ [c],lk:=W.lk++ [c]}:=by unfold jk_;rw[hf];rfl
  rw[hv]
  refine Cw.permL (M:=M++ ((bw, .cells #[sv,vq,vm bv,vm bm,vl] 133 (0,0)):: (b3, .cells (zm_ c).toArray 59 (0,0)):: (b4, .cells #[vi ok,vs ot] 35 (0,0)):: (bv,o1):: (bm,om)::Q)) (by classical exact List.perm_iff_count.2 fun a=>by simp only[List.count_append,List.count_cons,List.count_nil]<;>omega) ?_
  have rbw:=fun Y=>zg_ (w0:=w) (zu_ (D:=M) (Y:=Y) (o:= .cells #[sv,vq,vm bv,vm bm,vl] 133 (0,0)) hbM)
  have rb3:=fun Y=>zg_ (w0:=w) (zD_ (D:=M) (Y:=Y) (o:= .cells #[sv,vq,vm bv,vm bm,vl] 133 (0,0)) (x:= .cells (zm_ c).toArray 59 (0,0)) h3M (show bw≠b3 by omega))
  first|with_reducible refine ks [] @ja_ ?_|refine kp @ja_ ?_
  refine Cw.regionG [bw,b3] [10] 11 (by kernel_rfl) rfl ?_
  simp only[List.replicate_succ,List.replicate_zero]
  refine OwG.run [0,1,2,3,4,5] [true,true,true,true,true,true,false,false,false,false,false] 5 rfl (by kernel_rfl) (by kernel_rfl) fun k hk=> ?_
  simp only[zh_, ↓zc_, ↓za_, ↓zk_, ↓zj_,zb_]
  simp(disch:=(first|assumption|omega| (simp only[qF_,qC_,UInt64.reduceToNat];try omega))) only[↓Sx.S0,Sx.S1,Tryz.fx,ja_,Nat.reduceAdd,Nat.reducePow,Int.reducePow,Nat.reduceBEq, ↓reduceIte,UInt8.reduceToNat,UInt16.reduceToNat,UInt32.reduceToNat,UInt64.reduceToNat,Int.reduceToNat,Md.next_sofnil,rbw,rb3]
  (with_reducible refine hk _ _ _ ?_);clear hk k
  refine OwG.one 6 _ (by kernel_rfl) rfl ?_
  refine Ow.buildSlice (e:=59) (zm_ c).toArray rfl rfl (jw_ c) fun ba hba hwa=> ?_
  with_reducible refine Ow.nil ?_
  refine⟨(zq_ (fun r hr=>by simp only[List.mem_cons,List.not_mem_nil,or_false] at hr;rcases hr with rfl|rfl<;>simp[keys])), ?_⟩
  simp only[List.set_cons_zero,List.set_cons_succ,zl_,zy_,zz_]
  refine OwG.one 7 _ (by kernel_rfl) rfl ?_
  refine Ow.appendXG (e:=59) (k:=1) (new:=zm_ c) (X:=M) vl (List.append_assoc _ _ _) rfl rfl rfl Tryz.underlying44 q1_ (by kernel_rfl) jF_ (by rw[zG_,List.size_toArray,zo_]) Tryz.underlying44 (by intro k h;cases h) hA.l (fun w' hw'=>AppX.one1 (hw'.has ba (.cells (zm_ c).toArray 59 (0,0)) (by simp)) (zo_ _) (qe_ _)) (by omega) (fun B5 v5 D5 hA5 hB5 hG5 hk15 hk25 hlk5=> ?_)
  have hbD:bw∉keys D5:=qq_ hA5 (by simp[keys]) hbM hk25
  have h3D:b3∉keys D5:=qq_ hA5 (by simp[keys]) h3M hk25
  have c5:=hG5.cell
  have lD5:=fun Y=>zu_ (D:=D5) (Y:=Y) (o:= .cells #[sv,vq,vm bv,vm bm,vl] 133 (0,0)) hbD
  have st5:=s5_4 sv vq (vm bv) (vm bm) vl v5 133 c5
  with_reducible refine Ow.nil ?_
  refine⟨(fun r hr=>by simp only[List.mem_cons,List.not_mem_nil,or_false] at hr;rcases hr with rfl|rfl;exact(zg_ (zu_ hbD)).trans (zg_ (zp_ (zu_ hbM))).symm;exact(zg_ (zD_ h3D (by omega))).trans (zg_ (zp_ (zD_ h3M (by omega)))).symm), ?_⟩
  simp only[List.set_cons_zero,List.set_cons_succ,zl_,zy_,zz_]
  refine OwG.rest [8,9,10] rfl (by kernel_rfl) (by kernel_rfl) ?_
  simp only[zh_, ↓zc_, ↓za_, ↓zk_, ↓zj_,zb_]
  refine kq @ja_ ?_
  refine Ow.store rfl rfl rfl (ke (And.intro @ja_ (And.intro @lD5 (@st5)))) ?_
  have es:=fun Y x=>q6_ (D:=D5) (Y:=Y) (o:= .cells #[sv,vq,vm bv,vm bm,vl] 133 (0,0)) (x:=x) hbD
  simp only[List.cons_append] at*
  rw[es]
  refine ko @ja_ ?_
  first|with_reducible refine ks [] @ja_ ?_|refine kp @ja_ ?_
  refine⟨_,(ke @ja_), ?_⟩
  have hN5: ∀x,x∈keys (D5++ [(b3,Obj.cells (zm_ c).toArray 59 (0,0)),(b4, .cells #[vi ok,vs ot] 35 (0,0)),(ba, .cells (zm_ c).toArray 59 (0,0))])→x∈keys M∨w.heap.size≤x:=fun x hx=>by
   rw[zd_,List.mem_append] at hx
   rcases hx with h|h
   ·exact(hk25 x h).imp id fun h=>by omega
   ·simp only[keys,List.map_cons,List.map_nil,List.mem_cons,List.not_mem_nil,or_false] at h
    exact .inr (by omega)
  refine⟨(hA.ext2 (fun x h=>h) (fun x h=> .inl h) (fun x h=>by rw[zd_];exact List.mem_append_left _ (hk15 x h)) hN5).perm (D:=(bw, .cells #[sv,vq,vm bv,vm bm,v5] 133 (0,0)):: (bv,o1):: (bm,om):: (Q++ (D5++ [(b3,Obj.cells (zm_ c).toArray 59 (0,0)),(b4, .cells #[vi ok,vs ot] 35 (0,0)),(ba, .cells (zm_ c).toArray 59 (0,0))]))) (by classical exact List.perm_iff_count.2 fun a=>by simp only[List.count_append,List.count_cons,List.count_nil]<;>omega),rfl,vq,bv,o1,bm,om,v5,Q,D5++ [(b3,Obj.cells (zm_ c).toArray 59 (0,0)),(b4, .cells #[vi ok,vs ot] 35 (0,0)),(ba, .cells (zm_ c).toArray 59 (0,0))],⟨(by classical exact List.perm_iff_count.2 fun a=>by simp only[List.count_append,List.count_cons,List.count_nil]<;>omega),hA.q, ?_,ho1,hA.m⟩⟩
  have:=hG5.app (M:= [(b3,Obj.cells (zm_ c).toArray 59 (0,0)),(b4, .cells #[vi ok,vs ot] 35 (0,0)),(ba, .cells (zm_ c).toArray 59 (0,0))])
  simpa [List.map_append] using this
 ·((try with_reducible refine Cw.go [] ?_);(try simp(disch:=(first|assumption|omega| (simp only[qF_,qC_,UInt64.reduceToNat];try omega))) only[↓Sx.S0,Sx.S1,Tryz.fx,ja_,Nat.reduceAdd,Nat.reducePow,Int.reducePow,Nat.reduceBEq, ↓reduceIte,UInt8.reduceToNat,UInt16.reduceToNat,UInt32.reduceToNat,UInt64.reduceToNat,Int.reduceToNat,Bool.not_true]))
  refine Cw.regionS [bw,b3] [0,1,2,4,3,5,6,7,8] [] (by kernel_rfl) (by kernel_rfl) (by kernel_rfl) ?_
  simp only[zh_, ↓zc_, ↓za_, ↓zk_, ↓zj_,zb_]
  refine kq @ja_ ?_
  refine Ow.soft rfl rfl rfl ?_
  refine Ow.mapGetG (encK:=Z2_) (encV:=blV) (k:=c.id) (z:=false) rfl rfl Tryz.underlying131 aaB_ zrBl rfl rfl (zV_ _ _ _ _) hA.m ?_
  with_reducible refine Ow.nil ?_
  refine⟨by intro b hb;simp only[List.mem_cons,List.not_mem_nil,or_false] at hb;(try subst hb);rfl, ?_⟩
  rw[getT]
  by_cases hm:c.id∈W.ms
  ·have hv:jk_ (zN_ m) W c={W with vis:=W.vis++ [c]}:=by unfold jk_;rw[if_pos hf,if_pos hm]
   rw[hv]
   have ec:blV (decide (c.id∈W.ms))= .bool true:=by rw[decide_eq_true hm];rfl
   refine Ow.goQ ?_
   simp(disch:=(first|assumption|omega| (simp only[qF_,qC_,UInt64.reduceToNat];try omega))) only[↓Sx.S0,Sx.S1,Tryz.fx,ja_,Nat.reduceAdd,Nat.reducePow,Int.reducePow,Nat.reduceBEq, ↓reduceIte,UInt8.reduceToNat,UInt16.reduceToNat,UInt32.reduceToNat,UInt64.reduceToNat,Int.reduceToNat,ec,Bool.not_true]
   try with_reducible refine Ow.nil ?_
   first|with_reducible refine ks [] @ja_ ?_|refine kp @ja_ ?_
   refine⟨_,(ke @ja_), ?_⟩
   have hNM: ∀x,x∈keys (M++ [(b3,Obj.cells (zm_ c).toArray 59 (0,0)),(b4, .cells #[vi ok,vs ot] 35 (0,0))])→x∈keys M∨w.heap.size≤x:=fun x hx=>by
    rw[zd_,List.mem_append] at hx
    exact hx.imp id (hNg x)
   exact⟨(hA.ext2 (fun x h=>h) (fun x h=> .inl h) (fun x h=>by rw[zd_];exact List.mem_append_left _ h) hNM).perm (D:=(bw, .cells #[sv,vq,vm bv,vm bm,vl] 133 (0,0)):: (bv,o1):: (bm,om):: (Q++ (M++ [(b3,Obj.cells (zm_ c).toArray 59 (0,0)),(b4, .cells #[vi ok,vs ot] 35 (0,0))]))) (by classical exact List.perm_iff_count.2 fun a=>by simp only[List.count_append,List.count_cons,List.count_nil]<;>omega),rfl,vq,bv,o1,bm,om,vl,Q,M++ [(b3,Obj.cells (zm_ c).toArray 59 (0,0)),(b4, .cells #[vi ok,vs ot] 35 (0,0))],⟨(by classical exact List.perm_iff_count.2 fun a=>by simp only[List.count_append,List.count_cons,List.count_nil]<;>omega),hA.q,hA.l.app,ho1,hA.m⟩⟩
  ·have hv:jk_ (zN_ m) W c={W with vis:=W.vis++ [c],ms:=W.ms++ [c.id],q:=W.q++jX_ (zN_ m) c.id}:=by unfold jk_;rw[if_pos hf,if_neg hm]
   rw[hv]
   have ec:blV (decide (c.id∈W.ms))= .bool false:=by rw[decide_eq_false hm];rfl
   refine Ow.goQ ?_
   simp(disch:=(first|assumption|omega| (simp only[qF_,qC_,UInt64.reduceToNat];try omega))) only[↓Sx.S0,Sx.S1,Tryz.fx,ja_,Nat.reduceAdd,Nat.reducePow,Int.reducePow,Nat.reduceBEq, ↓reduceIte,UInt8.reduceToNat,UInt16.reduceToNat,UInt32.reduceToNat,UInt64.reduceToNat,Int.reduceToNat,ec,Bool.not_false]
   try with_reducible refine Ow.nil ?_
   first|with_reducible refine ks [] @ja_ ?_|refine kp @ja_ ?_
   refine Cw.regionS [bw,b3] [0,1,2,4,3,5,6] [6] (by kernel_rfl) (by kernel_rfl) (by kernel_rfl) ?_
   simp only[zh_, ↓zc_, ↓za_, ↓zk_, ↓zj_,zb_]
   refine kq @ja_ ?_
   refine Ow.mapUpdateG (encK:=Z2_) (encV:=blV) (k:=c.id) (v:=true) rfl rfl Tryz.underlying131 aaB_ rfl rfl rfl (zH_ _ _ _) hA.m (fun o2 ho2=> ?_)
   rw[QK_ hm] at ho2
   rw[qt_]
   refine ko @ja_ ?_
   refine Cw.permL (M:=Q++ ((bw, .cells #[sv,vq,vm bv,vm bm,vl] 133 (0,0)):: (b4, .cells #[vi ok,vs ot] 35 (0,0)):: (b3, .cells (zm_ c).toArray 59 (0,0)):: (bv,o1):: (bm,o2)::M)) (by classical exact List.perm_iff_count.2 fun a=>by simp only[List.count_append,List.count_cons,List.count_nil]<;>omega) ?_
   have rbw:=fun Y=>zg_ (w0:=w) (zu_ (D:=Q) (Y:=Y) (o:= .cells #[sv,vq,vm bv,vm bm,vl] 133 (0,0)) hbQ)
   have rb4:=fun Y=>zg_ (w0:=w) (zD_ (D:=Q) (Y:=Y) (o:= .cells #[sv,vq,vm bv,vm bm,vl] 133 (0,0)) (x:= .cells #[vi ok,vs ot] 35 (0,0)) h4Q (show bw≠b4 by omega))
   refine Cw.regionG [bw,b4] [10] 11 (by kernel_rfl) rfl ?_
   simp only[List.replicate_succ,List.replicate_zero]
   refine OwG.run [0,1,2,3,4,5] [true,true,true,true,true,true,false,false,false,false,false] 5 rfl (by kernel_rfl) (by kernel_rfl) fun k hk=> ?_
   simp only[zh_, ↓zc_, ↓za_, ↓zk_, ↓zj_,zb_]
   simp(disch:=(first|assumption|omega| (simp only[qF_,qC_,UInt64.reduceToNat];try omega))) only[↓Sx.S0,Sx.S1,Tryz.fx,ja_,Nat.reduceAdd,Nat.reducePow,Int.reducePow,Nat.reduceBEq, ↓reduceIte,UInt8.reduceToNat,UInt16.reduceToNat,UInt32.reduceToNat,UInt64.reduceToNat,Int.reduceToNat,Md.next_sofnil,rbw,rb4]
   (with_reducible refine hk _ _ _ ?_);clear hk k
   refine OwG.one 6 _ (by kernel_rfl) rfl ?_
   refine Ow.callC rfl rfl Tryz.call32 (fun w' hw'=>Xp_ ok ot w') (fun B6 v6 D6 hA6 hB6 hN6 hS6=> ?_)
   have hN6':=hN6.mono hB6
   have hkk:jj_ ok ot=jX_ (zN_ m) c.id:=by unfold jX_;rw[←ho]
   rw[hkk] at hS6
   have hkl: (jX_ (zN_ m) c.id).length≤40:=by rw[←hkk];exact KI_
   with_reducible refine Ow.nil ?_
   refine⟨(zq_ (fun r hr=>by simp only[List.mem_cons,List.not_mem_nil,or_false] at hr;rcases hr with rfl|rfl<;>simp[keys])), ?_⟩
   simp only[List.set_cons_zero,List.set_cons_succ,zl_,zy_,zz_]
   refine OwG.one 7 _ (by kernel_rfl) rfl ?_
   refine Ow.appendQ (e:=59) (k:=(jX_ (zN_ m) c.id).length) (new:=((jX_ (zN_ m) c.id).map zm_).flatten) (X:=Q) vq (List.append_assoc _ _ _) rfl rfl rfl Tryz.underlying44 q1_ (by kernel_rfl) jF_ (by rw[zG_,List.size_toArray,zo_]) Tryz.underlying44 (by intro k h;cases h) hA.q (fun w' hw'=>(hS6.slM (z:=chd0) (fun b o hm=>hw'.has b o (List.mem_append_right _ hm)) rfl rfl zo_).appX zo_ qe_) (by omega) (fun B7 v7 D7 hA7 hB7 hG7 hk17 hk27 hlk7=> ?_)
   have hbD:bw∉keys D7:=qq_ hA7 (by simp[keys]) hbQ hk27
   have h4D:b4∉keys D7:=qq_ hA7 (by simp[keys]) h4Q hk27
   have c7:=hG7.cell
   have lD7:=fun Y=>zu_ (D:=D7) (Y:=Y) (o:= .cells #[sv,vq,vm bv,vm bm,vl] 133 (0,0)) hbD
   have st7:=s5_1 sv vq (vm bv) (vm bm) vl v7 133 c7
   with_reducible refine Ow.nil ?_
   refine⟨(fun r hr=>by simp only[List.mem_cons,List.not_mem_nil,or_false] at hr;rcases hr with rfl|rfl;exact(zg_ (zu_ hbD)).trans (zg_ (zp_ (zu_ hbQ))).symm;exact(zg_ (zD_ h4D (by omega))).trans (zg_ (zp_ (zD_ h4Q (by omega)))).symm), ?_⟩
   simp only[List.set_cons_zero,List.set_cons_succ,zl_,zy_,zz_]
   refine OwG.rest [8,9,10] rfl (by kernel_rfl) (by kernel_rfl) ?_
   simp only[zh_, ↓zc_, ↓za_, ↓zk_, ↓zj_,zb_]
   refine kq @ja_ ?_
   refine Ow.store rfl rfl rfl (ke (And.intro @ja_ (And.intro @lD7 (@st7)))) ?_
   have es:=fun Y x=>q6_ (D:=D7) (Y:=Y) (o:= .cells #[sv,vq,vm bv,vm bm,vl] 133 (0,0)) (x:=x) hbD
   simp only[List.cons_append] at*
   rw[es]
   refine ko @ja_ ?_
   first|with_reducible refine ks [] @ja_ ?_|refine kp @ja_ ?_
   refine⟨_,(ke @ja_), ?_⟩
   have hNM: ∀x,x∈keys (M++ ([(b3,Obj.cells (zm_ c).toArray 59 (0,0)),(b4, .cells #[vi ok,vs ot] 35 (0,0))]++D6))→x∈keys M∨w.heap.size≤x:=fun x hx=>by
    rw[zd_,zd_,List.mem_append,List.mem_append] at hx
    exact hx.imp id fun h=>h.elim (hNg x) (hN6'.le x)
   refine⟨(hA.ext2 (fun x h=>hk17 x h) (fun x h=>(hk27 x h).imp id fun h=>by omega) (fun x h=>by rw[zd_];exact List.mem_append_left _ h) hNM).perm (D:=(bw, .cells #[sv,v7,vm bv,vm bm,vl] 133 (0,0)):: (bv,o1):: (bm,o2):: (D7++ (M++ ([(b3,Obj.cells (zm_ c).toArray 59 (0,0)),(b4, .cells #[vi ok,vs ot] 35 (0,0))]++D6)))) (by classical exact List.perm_iff_count.2 fun a=>by simp only[List.count_append,List.count_cons,List.count_nil]<;>omega),rfl,v7,bv,o1,bm,o2,vl,D7,M++ ([(b3,Obj.cells (zm_ c).toArray 59 (0,0)),(b4, .cells #[vi ok,vs ot] 35 (0,0))]++D6),⟨(by classical exact List.perm_iff_count.2 fun a=>by simp only[List.count_append,List.count_cons,List.count_nil]<;>omega), ?_,hA.l.app,ho1,ho2⟩⟩
   simpa [List.map_append] using hG7
end Go.Proofs
end
section
open Go Go.Proofs Go.Sx Go.StP Go.RooP
namespace Go.Proofs
set_option maxRecDepth 10000
set_option maxHeartbeats 400000
set_option linter.unusedSimpArgs false
section
variable {α β:Type} [BEq α] [LawfulBEq α]
omit [LawfulBEq α] in
theorem vR_ (k:α) (z:β) (p:α×β) (m:List (α×β)):Jk_ k z (p::m)=if k==p.1 then p.2 else Jk_ k z m:=by
 unfold Jk_
 rw[List.find?_cons]
 cases k==p.1<;>rfl
omit [LawfulBEq α] in
theorem Zm_ (k:α) (p:α×β) (m:List (α×β)):hasG k (p::m)=(k==p.1||hasG k m):=rfl
theorem adK_ (k k':α) (v z:β): ∀ (m:List (α×β)),Jk_ k z (XB_ k' v m)=if k==k' then v else Jk_ k z m
 | []=>by unfold XB_;rw[vR_]
 |p::m=>by
  have ih:=adK_ k k' v z m
  unfold XB_
  split
  ·rename_i h
   have e:=eq_of_beq h
   rw[vR_,vR_,←e]
   split<;>rfl
  ·rename_i h
   rw[vR_,vR_,ih]
   by_cases h1: (k==p.1)=true
   ·rw[if_pos h1,if_pos h1,if_neg (fun h2=>h (by rw[←eq_of_beq h2];exact h1))]
   ·rw[if_neg h1,if_neg h1]
theorem adX_ (k k':α) (v:β): ∀ (m:List (α×β)),hasG k (XB_ k' v m)=(k==k'||hasG k m)
 | []=>rfl
 |p::m=>by
  have ih:=adX_ k k' v m
  unfold XB_
  split
  ·rename_i h
   have e:=eq_of_beq h
   rw[Zm_,Zm_,←e]
   cases k==k'<;>simp
  ·rw[Zm_,Zm_,ih]
   cases k==p.1<;>cases k==k'<;>simp
omit [LawfulBEq α] in
theorem af9_ (k:α) (v:β): ∀ (m:List (α×β)),(XB_ k v m).length≤m.length+1
 | []=>Nat.le_refl _
 |p::m=>by
  have:=af9_ k v m
  unfold XB_
  split
  ·simp
  ·simp only[List.length_cons];omega
end
def rdK (o:ObK):Bool:=xS_ o.k o.t
def idK (o:ObK):IdL:=idV o.k o.t
def addO (m:List (IdL×ObK)) (o:ObK):List (IdL×ObK):=if rdK o=true then XB_ (idK o) o m else m
def qK_ (l:List ObK):List (IdL×ObK):=l.foldl addO []
theorem Z1_ (l:List ObK) (o:ObK):qK_ (l++ [o])=addO (qK_ l) o:=by
 unfold qK_;rw[List.foldl_append];rfl
def ZL_ (l:List ObK):jg_:=fun i=>match(l.filter rdK).find? (fun o=>decide (idK o=i)) with|some o=>(o,true) |none=>(jU_,false)
def NoCl (l:List ObK):Prop:= ∀a,a∈l→ ∀b,b∈l→rdK a=true→rdK b=true→idK a=idK b→a=b
theorem NoCl.sub {l l':List ObK} (h:NoCl l) (hs: ∀a,a∈l'→a∈l):NoCl l':=fun a ha b hb=>h a (hs a ha) b (hs b hb)
theorem ak5_ (m:List (IdL×ObK)) (o:ObK): (addO m o).length≤m.length+1:=by
 unfold addO
 split
 ·exact af9_ _ _ _
 ·omega
theorem jv_ (l:List ObK): (qK_ l).length≤l.length:=by
 have h: ∀ (l:List ObK) (m:List (IdL×ObK)),(l.foldl addO m).length≤m.length+l.length:=by
  intro l
  induction l with
  |nil=>intro m;exact Nat.le_refl _
  |cons o l ih=>
   intro m
   have h1:=ih (addO m o)
   have h2:=ak5_ m o
   rw[List.foldl_cons,List.length_cons];omega
 have:=h l []
 simpa [qK_] using this
theorem JY_ {l:List ObK} {i:IdL} {o:ObK} (h: (l.filter rdK).find? (fun o=>decide (idK o=i))=some o):o∈l∧rdK o=true∧idK o=i:=by
 have h1:=List.find?_some h
 have h2:=List.mem_filter.1 (List.mem_of_find?_eq_some h)
 exact⟨h2.1,h2.2,by simpa using h1⟩
theorem ak0_ {l:List ObK} {i:IdL} (h: (ZL_ l i).2=true): ∃o,o∈l∧rdK o=true∧idK o=i∧(ZL_ l i).1=o:=by
 unfold ZL_ at h ⊢
 cases hf: (l.filter rdK).find? (fun o=>decide (idK o=i)) with
 |none=>rw[hf] at h;cases h
 |some o=>
  obtain⟨h1,h2,h3⟩:=JY_ hf
  exact⟨o,h1,h2,h3,rfl⟩
theorem acZ_ {l:List ObK} (hc:NoCl l) {o:ObK} (ho:o∈l) (hr:rdK o=true):ZL_ l (idK o)=(o,true):=by
 unfold ZL_
 cases hf: (l.filter rdK).find? (fun p=>decide (idK p=idK o)) with
 |none=>
  have:=List.find?_eq_none.1 hf o (List.mem_filter.2 ⟨ho,hr⟩)
  simp at this
 |some p=>
  obtain⟨h1,h2,h3⟩:=JY_ hf
  rw[hc p h1 o ho h2 hr h3]
theorem adE_ {l:List ObK} (hc:NoCl l): ∀n,n≤l.length→zN_ (qK_ (l.take n))=ZL_ (l.take n)
 |0,_=>rfl
 |n+1,hn=>by
  have ih:=adE_ hc n (by omega)
  have hs:=StP.take_snoc (z:=jU_) (show n<l.length by omega)
  have hol:l.getD n jU_∈l:=by
   rw[List.getD_eq_getElem?_getD,List.getElem?_eq_getElem (show n<l.length by omega)]
   exact List.getElem_mem _
  rw[hs]
  have hct:=hc.sub (l':=l.take n) fun a ha=>List.mem_of_mem_take ha
  generalize l.getD n jU_=o at*
  have htl: ∀a,a∈l.take n→a∈l:=fun a ha=>List.mem_of_mem_take ha
  generalize l.take n=t at*
  rw[Z1_]
  funext i
  have ihi:=congrFun ih i
  unfold addO ZL_
  rw[List.filter_append,List.find?_append]
  by_cases hr:rdK o=true
  ·rw[if_pos hr,List.filter_cons,if_pos hr,List.filter_nil]
   have hl:zN_ (XB_ (idK o) o (qK_ t)) i=if i=idK o then(o,true) else zN_ (qK_ t) i:=by
    unfold zN_
    simp only[adK_,adX_]
    by_cases h:i=idK o
    ·rw[if_pos h];subst h;simp
    ·have: (i==idK o)=false:=by simpa using h
     rw[if_neg h,this];rfl
   rw[hl]
   by_cases h:i=idK o
   ·rw[if_pos h]
    cases hf: (t.filter rdK).find? (fun p=>decide (idK p=i)) with
    |none=>simp[h]
    |some p=>
     obtain⟨h1,h2,h3⟩:=JY_ hf
     have:p=o:=hc p (htl p h1) o hol h2 hr (h3.trans h)
     simp[this]
   ·rw[if_neg h,ihi]
    have h': ¬idK o=i:=fun e=>h e.symm
    have: [o].find? (fun p=>decide (idK p=i))=none:=by simp[h']
    rw[this,Option.or_none]
    rfl
  ·rw[if_neg hr,List.filter_cons,if_neg hr,List.filter_nil,ihi,List.find?_nil,Option.or_none]
   rfl
theorem ZF_ {l:List ObK} (hc:NoCl l):zN_ (qK_ l)=ZL_ l:=by
 have:=adE_ hc l.length (Nat.le_refl _)
 rwa [List.take_length] at this
theorem Vc_ {m:List (IdL×ObK)} {i:IdL} (h: (zN_ m i).2=true):i∈m.map Prod.fst:=by
 unfold zN_ hasG at h
 simp only[List.any_eq_true,beq_iff_eq] at h
 obtain⟨p,hp,rfl⟩:=h
 exact List.mem_map_of_mem hp
theorem VD_ (s:jg_) (i:IdL): (jX_ s i).length≤40:=KI_
theorem afK_ (s:jg_) (ids r:List IdL): (adY_ s ids r).length≤r.length+40*ids.length:=by
 unfold adY_
 rw[List.length_append,List.length_map]
 have: (ids.map (jX_ s)).flatten.length≤40*ids.length:=by
  induction ids with
  |nil=>simp
  |cons x l ih=>
   have:=VD_ s x
   rw[List.map_cons,List.flatten_cons,List.length_append,List.length_cons];omega
 omega
structure WkB (n:Nat) (W:WkS):Prop where
 q:W.q.length≤n+40*W.ms.length
 lk:W.lk.length≤W.vis.length
theorem WkB.visit {n:Nat} {W:WkS} {s:jg_} {q:List ChildL} {c:ChildL} (h1:q.length≤n+40*W.ms.length) (h2:W.lk.length≤W.vis.length):WkB n (jk_ s {W with q:=q} c):=by
 have hk:=VD_ s c.id
 unfold jk_
 split
 ·split
  ·exact⟨h1,by simp only[List.length_append,List.length_singleton];omega⟩
  ·refine⟨?_,by simp only[List.length_append,List.length_singleton];omega⟩
   simp only[List.length_append,List.length_singleton];omega
 ·exact⟨h1,by simp only[List.length_append,List.length_singleton];omega⟩
theorem WkB.stepQ {n:Nat} {W:WkS} {s:jg_} (h2:W.lk.length≤W.vis.length): ∀ (q:List ChildL),q.length≤n+40*W.ms.length→WkB n (stepQ s W q).2
 | [],_=>⟨by show 0≤_;omega,h2⟩
 |c::q,h=>by
  rw[List.length_cons] at h
  unfold Go.Proofs.stepQ
  split
  ·exact WkB.stepQ h2 q (by omega)
  ·exact WkB.visit (by omega) h2
theorem WkB.step {n:Nat} {W:WkS} (s:jg_) (h:WkB n W):WkB n (xy_ s W).2:=WkB.stepQ h.lk W.q h.q
theorem WkB.run {n:Nat} (s:jg_): ∀ (k:Nat) {W:WkS},WkB n W→WkB n (runK s k W)
 |0,_,h=>h
 |k+1,W,h=>by
  unfold runK
  split
  ·exact h.step s
  ·exact WkB.run s k (h.step s)
theorem WkB.new (r:List IdL):WkB r.length (newK r):=⟨by simp[newK,wr_,Zy_],Nat.le_refl _⟩
theorem WkB.add {n:Nat} {W:WkS} (h:WkB n W) (r:List IdL):WkB (n+r.length) (wr_ W r):=by
 have h1:=h.q
 refine⟨?_,h.lk⟩
 unfold wr_
 simp only[List.length_append,List.length_map];omega
theorem WkI.msLe {s:jg_} {ids r:List IdL} {W:WkS} (h:WkI s r W) (hi: ∀i,(s i).2=true→i∈ids):W.ms.length≤ids.length:=
 KO_ h.nm fun i hm=>by
  obtain⟨c,-,h2,rfl⟩:=h.ms i hm
  unfold zS_ at h2
  simp only[Bool.and_eq_true] at h2
  exact hi _ h2.1
theorem am8_ {s:jg_} {r r':List IdL} {W W':WkS} (h:WkI s r W) (hq:W.q= []) (h':WkI s r' W') (hq':W'.q= []) (hr: ∀i,i∈r↔i∈r'):xr_ W.ms=xr_ W'.ms:=by
 refine wn_ fun i=> ?_
 rw[h.marked hq,h'.marked hq']
 exact⟨fun⟨c,h1,h2⟩=>⟨c,h1.mono fun i hi=>(hr i).1 hi,h2⟩,fun⟨c,h1,h2⟩=>⟨c,h1.mono fun i hi=>(hr i).2 hi,h2⟩⟩
theorem anl_ {s:jg_} {r r':List IdL} {W W':WkS} (h:WkI s r W) (hq:W.q= []) (h':WkI s r' W') (hq':W'.q= []) (hr: ∀i,i∈r↔i∈r'):xr_ (W.lk.map ChildL.id)=xr_ (W'.lk.map ChildL.id):=by
 refine wn_ fun i=> ?_
 rw[List.mem_map,List.mem_map]
 constructor
 ·rintro⟨c,h1,h2⟩
  obtain⟨h3,h4⟩:=(h.missing hq c).1 h1
  exact⟨c,(h'.missing hq' c).2 ⟨h3.mono fun i hi=>(hr i).1 hi,h4⟩,h2⟩
 ·rintro⟨c,h1,h2⟩
  obtain⟨h3,h4⟩:=(h'.missing hq' c).1 h1
  exact⟨c,(h.missing hq c).2 ⟨h3.mono fun i hi=>(hr i).2 hi,h4⟩,h2⟩
def jR_ (a:List IdL) (c:ChildL):List IdL:=if c.id∈a then a else a++ [c.id]
def QA_ (l:List ChildL):List IdL:=l.foldl jR_ []
def jL_ (l:List ChildL):List IdL:=xr_ (l.map ChildL.id)
theorem afn_ (l:List ChildL) (c:ChildL):QA_ (l++ [c])=jR_ (QA_ l) c:=by
 unfold QA_;rw[List.foldl_append];rfl
theorem wa_ (l:List ChildL) (c:ChildL):jL_ (l++ [c])=Qp_ c.id (jL_ l):=by
 unfold jL_;rw[List.map_append];exact WP_ _ _
theorem ajy_ (l:List IdL) (c:ChildL):XB_ c.id true (w0_ l)=w0_ (jR_ l c):=by
 unfold jR_
 split
 ·rename_i h;exact agR_ h
 ·rename_i h;exact QK_ h
theorem ahw_ (l:List ChildL) (i:IdL):i∈QA_ l↔i∈l.map ChildL.id:=by
 have h: ∀ (l:List ChildL) (a:List IdL),i∈l.foldl jR_ a↔i∈a∨i∈l.map ChildL.id:=by
  intro l
  induction l with
  |nil=>intro a;simp
  |cons c l ih=>
   intro a
   rw[List.foldl_cons,ih,List.map_cons,List.mem_cons]
   unfold jR_
   split
   ·rename_i hc
    constructor
    ·rintro(h|h)
     ·exact .inl h
     ·exact .inr (.inr h)
    ·rintro(h|h|h)
     ·exact .inl h
     ·subst h;exact .inl hc
     ·exact .inr h
   ·rw[List.mem_append,List.mem_singleton]
    constructor
    ·rintro((h|h) |h)
     ·exact .inl h
     ·exact .inr (.inl h)
     ·exact .inr (.inr h)
    ·rintro(h|h|h)
     ·exact .inl (.inl h)
     ·exact .inl (.inr h)
     ·exact .inr h
 have:=h l []
 simpa [QA_] using this
theorem acA_ (l:List ChildL): (QA_ l).Nodup:=by
 have h: ∀ (l:List ChildL) (a:List IdL),a.Nodup→(l.foldl jR_ a).Nodup:=by
  intro l
  induction l with
  |nil=>intro a h;exact h
  |cons c l ih=>
   intro a h
   rw[List.foldl_cons]
   refine ih _ ?_
   unfold jR_
   split
   ·exact h
   ·rename_i hc
    rw[List.nodup_append]
    exact⟨h,by simp,fun x hx y hy=>by rw[List.mem_singleton] at hy;subst hy;intro e;subst e;exact hc hx⟩
 exact h l [] List.nodup_nil
theorem afA_ (l:List ChildL): (QA_ l).length≤l.length:=by
 have h: ∀ (l:List ChildL) (a:List IdL),(l.foldl jR_ a).length≤a.length+l.length:=by
  intro l
  induction l with
  |nil=>intro a;exact Nat.le_refl _
  |cons c l ih=>
   intro a
   have h1:=ih (jR_ a c)
   have h2: (jR_ a c).length≤a.length+1:=by unfold jR_;split<;>simp
   rw[List.foldl_cons,List.length_cons];omega
 have:=h l []
 simpa [QA_] using this
theorem ag5_ (l:List ChildL):xr_ (QA_ l)=jL_ l:=wn_ (ahw_ l)
theorem Q1_ {α:Type} (l:List α): (w0_ l).map Prod.fst=l:=by unfold w0_;rw[List.map_map];exact List.map_id _
theorem ad0_ {α:Type} (l:List α): (w0_ l).length=l.length:=by unfold w0_;rw[List.length_map]
theorem xf_ (l:List IdL): (xr_ l).length≤l.length:=by
 have h: ∀ (l a:List IdL),(l.foldl (fun a x=>Qp_ x a) a).length≤a.length+l.length:=by
  intro l
  induction l with
  |nil=>intro a;exact Nat.le_refl _
  |cons x l ih=>
   intro a
   have h1:=ih (Qp_ x a)
   have h2:=adi_ x a
   rw[List.foldl_cons,List.length_cons];omega
 have:=h l []
 simpa [xr_] using this
end Go.Proofs
end
namespace Go.Sx
open Go Go.Proofs Go.Shelf Go.Sort
section
variable {α:Type} [Inhabited α] {enc:α→List Value} {k:Nat}
theorem VF_ (hk: ∀x,(enc x).length=k): ∀ (l:List α) (t:Nat),t<l.length*k→(l.map enc).flatten[t]? =some ((enc l[t / k]!)[t%k]!)
 | [],t,h=>by simp at h
 |x::r,t,h=>by
  have k0:0<k:=by
   rcases Nat.eq_zero_or_pos k with h0|h0
   ·subst h0;simp at h
   ·exact h0
  rw[List.map_cons,List.flatten_cons]
  by_cases ht:t<k
  ·rw[List.getElem?_append_left (by rw[hk];exact ht),Nat.div_eq_of_lt ht,Nat.mod_eq_of_lt ht]
   simp only[List.getElem!_cons_zero]
   rw[getElem!_pos (enc x) t (by rw[hk];exact ht),List.getElem?_eq_getElem]
  ·obtain⟨u,rfl⟩: ∃u,t=k+u:=⟨t - k,by omega⟩
   have hl: (x::r).length*k=r.length*k+k:=by rw[List.length_cons,Nat.add_mul,Nat.one_mul]
   rw[List.getElem?_append_right (by rw[hk];omega),hk,Nat.add_sub_cancel_left,VF_ hk r u (by omega)]
   rw[Nat.add_div_left u k0,Nat.add_mod_left]
   simp
theorem adg_ (hk: ∀x,(enc x).length=k) (l:List α):flatK enc k l.toArray=(l.map enc).flatten.toArray:=by
 have hl: (l.map enc).flatten.length=l.length*k:=by
  induction l with
  |nil=>simp
  |cons x r ih=>rw[List.map_cons,List.flatten_cons,List.length_append,ih,hk,List.length_cons,Nat.add_mul,Nat.one_mul];omega
 apply Array.ext
 ·rw[size_flatK,List.size_toArray,List.size_toArray,hl]
 ·intro t h1 h2
  rw[size_flatK,List.size_toArray] at h1
  have h:=VF_ hk l t h1
  have h3:=get_flatK enc k l.toArray t (by rw[List.size_toArray];exact h1)
  rw[getElem!_pos _ t (by rw[size_flatK,List.size_toArray];exact h1)] at h3
  rw[h3]
  have h4: (l.map enc).flatten.toArray[t]? =some ((enc l[t / k]!)[t%k]!):=by rw[List.getElem?_toArray];exact h
  rw[Array.getElem?_eq_getElem h2] at h4
  have:=Option.some.inj h4
  rw[this]
  simp
theorem aaK_ {F F' rest:List Value} (h:F.length=F'.length):putCells id 0 F'.toArray (F++rest).toArray=(F'++rest).toArray:=by
 unfold putCells
 apply Array.ext
 ·simp[h]
 ·intro t h1 h2
  simp only[Array.getElem_mapIdx,List.getElem_toArray,List.size_toArray,Nat.zero_le,true_and,Nat.zero_add,Nat.sub_zero,id]
  split
  ·rename_i ht
   rw[getElem!_pos _ t (by simpa using ht),List.getElem_toArray,List.getElem_append_left ht]
  ·rename_i ht
   rw[List.getElem_append_right (by omega),List.getElem_append_right (by omega)]
   simp only[h]
theorem agE_ {P:Program} {ρ:Ren} (L:SlLaysF0.n6 P ρ) (aE: ∀w,(isAgg (ρ.t 24)).run P w= .ok true w) (zE: ∀w,(Go.sizeOf (ρ.t 24)).run P w= .ok k w) (hk: ∀x,(enc x).length=k) (h1: ∀x,∀v∈enc x,v.oneCell'=true) (cf:α→α→Int) (hO:SWO (ltOf cf)) (g:FuncId)
  (eg: ∀args w,(callFunc g args).run P w= .ok (.enter g args) w) (hcmp: ∀x y W,Calls P g #[.agg (enc x).toArray, .agg (enc y).toArray] W fun e w'=>e= .returned (.int .i64 (cf x y))∧ ∃q os',w'=grow (W.drewN q) os')
  {w:World} {b c:Nat} {E:TypeId} {l:List α} {rest:List Value} (hb:w.heap[b]? =some (.cells ((l.map enc).flatten++rest).toArray E (0,0))) (hsz:l.length<4611686018427387904):
  Rets P (ρ.f 6) #[vsl b 0 l.length c, .func (.func g) #[] #[]] w (fun v D=> ∃o,D= [(b,o)]∧v= .tuple #[]∧ ∃l':List α,l'.Perm l∧l'.Pairwise (fun x y=>ltOf cf y x=false)∧o= .cells ((l'.map enc).flatten++rest).toArray E (0,0)):=by
 have hbl:=(Array.getElem?_eq_some_iff.1 hb).1
 have hH:HoldsK enc k w b 0 l.toArray:=by
  unfold HoldsK Holds
  intro t ht
  rw[size_flatK,List.size_toArray] at ht
  rw[get_flatK _ _ _ _ (by rw[List.size_toArray];exact ht)]
  have h:=VF_ hk l t ht
  have hlt:=(List.getElem?_eq_some_iff.1 h).1
  refine⟨?_, ?_⟩
  ·simp only[World.cell?,hb,Option.isSome_none,Bool.false_eq_true, ↓reduceIte,Nat.zero_add,List.getElem?_toArray,id]
   rw[List.getElem?_append_left hlt,h];simp
  ·simp only[World.frozen?,hb];simp
 have hcon:=AnyQ.slices_SortFunc L k aE zE enc hk h1 cf hO g #[] b 0 c l.toArray w eg (fun m os dk _ x y=>hcmp x y _) hH hbl (by rw[List.size_toArray];exact hsz)
 refine Calls.mono hcon ?_
 rintro e w' ⟨rfl,d',n,os,hp,hs,rfl⟩
 obtain⟨l',rfl⟩: ∃l':List α,d'=l'.toArray:=⟨d'.toList,by simp⟩
 obtain⟨hz,-,hp⟩:=hp
 rw[List.size_toArray,List.size_toArray] at hz
 have hfl: ∀m:List α,(m.map enc).flatten.length=m.length*k:=fun m=>by
  have:=congrArg Array.size (adg_ (enc:=enc) hk m)
  rw[size_flatK,List.size_toArray,List.size_toArray] at this
  exact this.symm
 have hob: (sortWorldK enc k w b 0 n l'.toArray os).heap[b]? =some (.cells ((l'.map enc).flatten++rest).toArray E (0,0)):=by
  show((w.heap.modify b (onCells (putCells id 0 (flatK enc k l'.toArray))))++os)[b]? =_
  rw[Array.getElem?_append_left (by rw[Array.size_modify];exact hbl),Array.getElem?_modify,if_pos rfl,hb,adg_ hk,Option.map_some]
  simp only[onCells]
  rw[aaK_ (by rw[hfl,hfl,hz])]
 refine⟨.tuple #[],[(b,_)],rfl,⟨?_,by simp[keys], ?_, ?_,rfl,rfl,rfl⟩,_,rfl,rfl,l', ?_, ?_,rfl⟩
 ·intro b' o' hm
  simp only[List.mem_singleton,Prod.mk.injEq] at hm
  rw[hm.1,hm.2];exact hob
 ·intro b' hb' hn
  have hne:b≠b':=fun h=>hn (by simp[keys,h])
  show((w.heap.modify b (onCells (putCells id 0 (flatK enc k l'.toArray))))++os)[b']? =_
  rw[Array.getElem?_append_left (by rw[Array.size_modify];exact hb'),Array.getElem?_modify,if_neg hne]
 ·show w.heap.size≤ ((w.heap.modify b (onCells (putCells id 0 (flatK enc k l'.toArray))))++os).size
  rw[Array.size_append,Array.size_modify];omega
 ·have h2:List.take l.length l'=l':=List.take_of_length_le (by omega)
  rw[←h2]
  simpa using hp
 ·rw[List.pairwise_iff_getElem]
  intro i j hi hj hij
  have:=hs i j (Nat.zero_le _) hij (by rw[List.size_toArray];omega)
  simpa [hi,hj] using this
theorem ahQ_ {P:Program} {ρ:Ren} (L:SlLaysF0.n6 P ρ) (p:Option Addr) (c:Nat) (fv:Value) (w:World):Rets P (ρ.f 6) #[.slice p 0 c,fv] w (fun v D=>v= .tuple #[]∧D= []):=
 Calls.mono (AnyF.slices_SortFunc_none L p c fv w) fun _ _ ⟨he,hw⟩=>⟨_,[],he,by rw[hw];exact Hp.refl w,rfl,rfl⟩
end
end Go.Sx
section
namespace Go.Proofs
open Go Go.Shelf
set_option maxRecDepth 100000
def Tryz.sortId_ren:Go.Shelf.Ren:=⟨fun|6=>199|15=>212|14=>233|28=>249|29=>250|20=>263|21=>264|22=>265|23=>266|24=>267|25=>268|26=>269|27=>270|46=>302|47=>282|48=>283|49=>303|50=>304|57=>318|n=>n,fun|22=>30|24=>24|25=>260|3=>3|39=>253|0=>0|53=>250|55=>296|4=>4|46=>352|45=>351|50=>356|5=>5|9=>9|66=>382|70=>386|76=>403|77=>404|n=>n,fun|n=>n⟩
theorem Tryz.sortId:Go.Proofs.SlLaysF0.n6 Tryz.prog Tryz.sortId_ren:={
 mixed:=by kernel_rfl
 f6:=⟨Tryz.f199.name,by decide,Tryz.func199.trans (congrArg some (by kernel_rfl))⟩
 f14:=⟨Tryz.f233.name,by decide,Tryz.func233.trans (congrArg some (by kernel_rfl))⟩
 f15:=Tryz.func212.trans (congrArg some (by kernel_rfl))
 f20:=⟨Tryz.f263.name,by decide,Tryz.func263.trans (congrArg some (by kernel_rfl))⟩
 f21:=⟨Tryz.f264.name,by decide,Tryz.func264.trans (congrArg some (by kernel_rfl))⟩
 f22:=⟨Tryz.f265.name,by decide,Tryz.func265.trans (congrArg some (by kernel_rfl))⟩
 f23:=⟨Tryz.f266.name,by decide,Tryz.func266.trans (congrArg some (by kernel_rfl))⟩
 f24:=⟨Tryz.f267.name,by decide,Tryz.func267.trans (congrArg some (by kernel_rfl))⟩
 f25:=⟨Tryz.f268.name,by decide,Tryz.func268.trans (congrArg some (by kernel_rfl))⟩
 f26:=⟨Tryz.f269.name,by decide,Tryz.func269.trans (congrArg some (by kernel_rfl))⟩
 f27:=⟨Tryz.f270.name,by decide,Tryz.func270.trans (congrArg some (by kernel_rfl))⟩
 f28:=Tryz.func249.trans (congrArg some (by kernel_rfl))
 f29:=Tryz.func250.trans (congrArg some (by kernel_rfl))
 f46:=⟨Tryz.f302.name,by decide,Tryz.func302.trans (congrArg some (by kernel_rfl))⟩
 f47:=Tryz.func282.trans (congrArg some (by kernel_rfl))
 f48:=Tryz.func283.trans (congrArg some (by kernel_rfl))
 f49:=⟨Tryz.f303.name,by decide,Tryz.func303.trans (congrArg some (by kernel_rfl))⟩
 f50:=⟨Tryz.f304.name,by decide,Tryz.func304.trans (congrArg some (by kernel_rfl))⟩
 f57:=⟨Tryz.f318.name,by decide,Tryz.func318.trans (congrArg some (by kernel_rfl))⟩
 t0:=Tryz.underlying0
 a0:=Tryz.isAgg0
 z0:=Tryz.sizeOf0
 v0:=Tryz.zeroValue0
 t3:=Tryz.underlying3
 a3:=Tryz.isAgg3
 z3:=Tryz.sizeOf3
 v3:=Tryz.zeroValue3
 t4:=Tryz.underlying4
 a4:=Tryz.isAgg4
 z4:=Tryz.sizeOf4
 v4:=Tryz.zeroValue4
 t5:=Tryz.underlying5
 a5:=Tryz.isAgg5
 z5:=Tryz.sizeOf5
 v5:=Tryz.zeroValue5
 t9:=Tryz.underlying9
 a9:=Tryz.isAgg9
 z9:=Tryz.sizeOf9
 v9:=Tryz.zeroValue9
 t22:=Tryz.underlying30
 a22:=Tryz.isAgg30
 z22:=Tryz.sizeOf30
 v22:=Tryz.zeroValue30
 t25:=Tryz.underlying260
 a25:=Tryz.isAgg260
 z25:=Tryz.sizeOf260
 v25:=Tryz.zeroValue260
 t39:=Tryz.underlying253
 a39:=Tryz.isAgg253
 z39:=Tryz.sizeOf253
 v39:=Tryz.zeroValue253
 t45:=Tryz.underlying351
 a45:=Tryz.isAgg351
 z45:=Tryz.sizeOf351
 v45:=Tryz.zeroValue351
 t46:=Tryz.underlying352
 a46:=Tryz.isAgg352
 z46:=Tryz.sizeOf352
 v46:=Tryz.zeroValue352
 t50:=Tryz.underlying356
 a50:=Tryz.isAgg356
 z50:=Tryz.sizeOf356
 v50:=Tryz.zeroValue356
 t53:=Tryz.underlying250
 a53:=Tryz.isAgg250
 z53:=Tryz.sizeOf250
 v53:=Tryz.zeroValue250
 t55:=Tryz.underlying296
 a55:=Tryz.isAgg296
 z55:=Tryz.sizeOf296
 v55:=Tryz.zeroValue296
 t66:=Tryz.underlying382
 a66:=Tryz.isAgg382
 z66:=Tryz.sizeOf382
 v66:=Tryz.zeroValue382
 t70:=Tryz.underlying386
 a70:=Tryz.isAgg386
 z70:=Tryz.sizeOf386
 v70:=Tryz.zeroValue386
 t76:=Tryz.underlying403
 a76:=Tryz.isAgg403
 z76:=Tryz.sizeOf403
 v76:=Tryz.zeroValue403
 t77:=Tryz.underlying404
 a77:=Tryz.isAgg404
 z77:=Tryz.sizeOf404
 v77:=Tryz.zeroValue404}
end Go.Proofs
end
section
open Go Go.Proofs Go.Sx Go.StP Go.RefP Go.RooP Go.Shelf Go.Sort
namespace Go.Proofs
set_option maxRecDepth 100000
set_option maxHeartbeats 400000
set_option linter.unusedSimpArgs false
theorem aec_ (b:Nat) (w:World):
  Rets Tryz.prog 141 #[vm b] w (XS w [] (fun v' D=> ∃b1,v'= .func (.func 200) #[] #[vp b1 0]∧D= [(b1, .cells #[vm b] 131 (0,0))])):=by
 refine Rets.enter Tryz.func141 rfl (rs:= [.tmp 2]) Tryz.results141 Tryz.ntmps141 ?_
 refine kf ?_
 first|with_reducible refine ks [] @Nat.add_zero ?_|refine kp @Nat.add_zero ?_
 refine Ow.box rfl rfl fun b1 hb1 hw1=> ?_
 simp only[zW_,zT_,vm,List.nil_append]
 refine ko @Nat.add_zero ?_
 refine⟨_,(ke @Nat.add_zero), ?_⟩
 exact⟨⟨fun c hc=>(by simp only[keys,List.map_cons,List.map_nil,List.mem_singleton] at hc;exact .inr (hc▸hw1)),fun c hc=>(by cases hc)⟩,b1,by simp[kC_,ev,vC_],rfl⟩
theorem adm_ {α β:Type} {encK:α→Value} {encV:β→Value} {o:Obj} {bm:Nat} {om:Obj} {m dn lf:List (α×β)} (h:ItG encK encV o bm om m dn lf): (dn++lf).Perm m:=by
 obtain⟨es,clock,ds,-,-,-,-,-,-,hp⟩:=h;exact hp
structure KeyG where
 dn:List (IdL×Bool)
 lf:List (IdL×Bool)
 it:Obj
 X:zi_
set_option linter.defProp false
def vE_:=And.intro (And.intro (And.intro (@q4_) (@agZ_)) (And.intro (@Sx.tup2_0) (@Sx.tup2_1))) (And.intro (And.intro (@Sx.tup3_0) (@Sx.tup3_1)) (And.intro (@Sx.tup3_2) (@akw_)))
theorem ahH_ (b1 bm:Nat) (om:Obj) (m:List (IdL×Bool)) (w:World) (hb:w.heap[b1]? =some (.cells #[vm bm] 131 (0,0))) (hbm:w.heap[bm]? =some om) (hM:QP_ Z2_ blV om m):
  adU_ Tryz.prog 200 #[vp b1 0] Z2_ (m.map Prod.fst) w:=by
 intro l J w1 X hold hX hsz hp hJ0 hJm hY
 have hb1:=(Array.getElem?_eq_some_iff.1 hb).1
 have hbm1:=(Array.getElem?_eq_some_iff.1 hbm).1
 have rd: ∀X',Ext w1 X X'→ ∀c,c<w.heap.size→zv_ w1 X' c=w.heap[c]? :=fun X' hE c hc=>by
  rw[qD_ (hE.not (Nat.lt_of_lt_of_le hc hsz) (fun hm=>by have:=hX c hm;omega)),hold c hc]
 have r1:zv_ w1 X b1=some (.cells #[vm bm] 131 (0,0)):=by rw[rd X (Ext.refl _ _) b1 hb1,hb]
 have r2:zv_ w1 X bm=some om:=by rw[rd X (Ext.refl _ _) bm hbm1,hbm]
 show Rets Tryz.prog _ #[.func (.yield l) #[] #[],vp b1 0] w1 (XS w1 X (fun _ D=> ∃xs,xs.Perm (m.map Prod.fst)∧J xs D))
 refine Rets.enterX Tryz.func200 rfl (rs:= []) Tryz.results200 Tryz.ntmps200 (fun p hp'=>hp.has _ _ hp') hp.nodup ?_
 refine kf ?_
 first|with_reducible refine ks [] (And.intro @vE_ @r1) ?_|refine kp (And.intro @vE_ @r1) ?_
 refine Ow.rangeMapG (encK:=Z2_) (encV:=blV) rfl rfl Tryz.underlying131 rfl r2 hM fun bi oi hbi hwi hI=> ?_
 refine ko @vE_ ?_
 first|with_reducible refine ks [] @vE_ ?_|refine kp @vE_ ?_
 refine Cw.loopG (G:=KeyG) [6,7,8,9,3,10,11,12,13] (fun g=> []) (fun g=>g.X++ [(bi,g.it)]) (fun g=>J (g.dn.map Prod.fst) g.X∧Ext w1 X g.X∧bi∉keys g.X∧ItG Z2_ blV g.it bm om m g.dn g.lf) (fun g=>g.lf.length) ⟨[],m,oi,X⟩ rfl rfl ?_ ?_
 ·exact⟨hJ0,Ext.refl _ _,fun h=>Nat.lt_irrefl _ (zf_ hbi h),hI⟩
 intro g j hg
 refine kv ?_
 obtain⟨dn,lf,it,X'⟩:=g
 dsimp only at hg ⊢
 obtain⟨h2,h3,h4,hI⟩:=hg
 have rdm: ∀ (Y:zi_),(∀c,c∈keys Y→w.heap.size≤c)→zv_ w1 (X'++Y) bm=some om:=fun Y hY=>by
  rw[qD_ (fun hm=> ?_),hold bm hbm1,hbm]
  rw[zd_,List.mem_append] at hm
  rcases hm with hm|hm
  ·rcases h3.new _ hm with h|h
   ·have:=hX _ h;omega
   ·omega
  ·have:=hY _ hm;omega
 have rd1: ∀x,zv_ w1 (X'++ [(bi,x)]) bm=some om:=fun x=>rdm _ fun c hc=>by
  simp only[keys,List.map_cons,List.map_nil,List.mem_singleton] at hc
  omega
 first|with_reducible refine ks [3] @vE_ ?_|refine kp @vE_ ?_
 refine Ow.nextMapG rfl rfl rfl (by rw[z3_ h4];exact zH_ _ _ _) (rd1 it) hI (fun hlf=> ?_) (fun p it' lf' hl' hI'=> ?_)
 ·subst hlf
  have hp':=adm_ hI
  rw[List.append_nil] at hp'
  refine ko @vE_ ?_
  first|with_reducible refine ks [] @vE_ ?_|refine kp @vE_ ?_
  refine⟨_,(ke @vE_), ?_⟩
  exact⟨h3.app hwi,dn.map Prod.fst,hp'.map _,hJm _ _ _ h2⟩
 ·rw[x2_ h4]
  refine ko @vE_ ?_
  first|with_reducible refine ks [] @vE_ ?_|refine kp @vE_ ?_
  refine Ow.entryMapG (encK:=Z2_) (encV:=blV) rfl rfl rfl (zg_ (by rw[z3_ h4];exact zH_ _ _ _)) (rd1 it') hI' ?_
  obtain⟨x,bx⟩:=p
  have hx:=x.h
  unfold Z2_
  refine ko @vE_ ?_
  refine Ow.alloc rfl rfl JL_ fun b4 hb4 hw4=> ?_
  simp only[ze_,List.nil_append,List.cons_append]
  have k4:=fun o=>j6_ (o:=o) hb4
  have s4:=fun o x=>wh_ (o:=o) (x:=x) hb4
  have rd4:=fun o=>k9_ w1 (o:=o) hb4
  refine ko (And.intro @vE_ (And.intro @k4 (And.intro @s4 (@wD_)))) ?_
  refine Cw.regionI ?_
  show OwI _ _ _ _ ([_,_]++ [_,_]) _ _ _
  refine OwI.pre rfl ?_
  refine ko (And.intro @vE_ @rd4) ?_
  refine OwI.yieldX (S:=fun D=>J (dn.map Prod.fst++ [x]) D) (X:=X') (Y:= [(bi,it')]++ [(b4, .cells (a8 x.l) 24 (0,0))]) (List.append_assoc _ _ _) rfl rfl (fun w2 hw2=> ?_) (fun D hC hJ=> ?_)
  ·have hpm:=(adm_ hI').map Prod.fst
   refine hY (dn.map Prod.fst) x (lf'.map Prod.fst) X' w2 (by simpa using hpm) hw2 (fun c hc=>by
    rcases h3.new c hc with h|h
    ·exact hX c h
    ·omega) h2
  ·refine OwI.all rfl ?_
   refine Ow.permL (M:=(D++ [(b4, .cells (a8 x.l) 24 (0,0))])++ [(bi,it')]) (by classical exact List.perm_iff_count.2 fun a=>by simp only[List.count_append,List.count_cons,List.count_nil]<;>omega) ?_
   refine ko @vE_ ?_
   refine Again.mk ⟨dn++ [(x,bx)],lf',it',D++ [(b4, .cells (a8 x.l) 24 (0,0))]⟩ (by show lf'.length<lf.length;omega) ⟨?_, ?_, ?_,hI'⟩ rfl rfl
   ·show J ((dn++ [(x,bx)]).map Prod.fst) _
    rw[List.map_append]
    exact hJm _ _ _ hJ
   ·show Ext w1 X (D++_)
    exact(Ext.came0 h3 hC).app hw4
   ·show bi∉keys (D++_)
    intro hm
    rw[zd_,List.mem_append] at hm
    rcases hm with hm|hm
    ·rcases hC.new _ hm with h|h
     ·exact h4 h
     ·exact Nat.lt_irrefl _ (zf_ h.1 (by simp[keys]))
    ·simp only[keys,List.map_cons,List.map_nil,List.mem_singleton] at hm
     exact Nat.lt_irrefl _ (zf_ hb4 (by simp[keys,hm]))
end Go.Proofs
end
section
open Go Go.Proofs Go.Sx Go.StP Go.RefP Go.RooP Go.Shelf Go.Sort
namespace Go.Proofs
set_option maxRecDepth 100000
set_option maxHeartbeats 4000000
set_option linter.unusedSimpArgs false
set_option linter.defProp false
def qW_:= @kp_
theorem aaQ_ (gf:Nat) (lb:Array Value) (xs:List IdL) (w:World) (eg: ∀args w,(callFunc gf args).run Tryz.prog w= .ok (.enter gf args) w) (hxs:xs.length<1000000)
  (hseq:adU_ Tryz.prog gf lb (Z2_) xs w):
  Rets Tryz.prog 232 #[.slice none 0 0, .func (.func gf) #[] lb] w (XS w [] (fun v D=> ∃xs2:List IdL,xs2.Perm xs∧Gr D 24 32 v xs2.length (xs2.map z4_).flatten)):=by
 refine Rets.enterR Tryz.func232 rfl (rs:= [.tmp 4]) Tryz.results232 Tryz.ntmps232 ?_
 simp only[List.size_toArray,List.length_cons,List.length_nil,Nat.reduceAdd,Nat.reduceSub,List.replicate_succ,List.replicate_zero,List.cons_append,List.nil_append]
 refine KS_ (Hp.refl w) ?_
 first|with_reducible refine ks [] @qW_ ?_|refine kp @qW_ ?_
 refine Ow.box rfl rfl fun bs hbs hws=> ?_
 simp only[zW_,zT_,List.nil_append]
 refine ko @qW_ ?_
 refine⟨rfl,fun w1 hp1=> ?_⟩
 refine wp_seq ?_
 refine KS_ hp1 ?_
 first|with_reducible refine ks [] @qW_ ?_|refine kp @qW_ ?_
 refine⟨rfl,fun w2 hp2=> ?_⟩
 refine wp_block ?_
 refine aan_ (S:=fun dk D=>Sx.look D dk=some (.deferred (some []))∧ ∃v,Sx.look D bs=some (.cells #[v] 30 (0,0))∧ ∃xs2:List IdL,xs2.Perm xs∧Gr D 24 32 v xs2.length (xs2.map z4_).flatten) hp2 rfl eg (fun fn dk w3 rc hrc hab hdk hp3=> ?_) (fun dk fn D w3 rc hrc hab hdk hS hE hp3=> ?_)
 ·have hne:bs≠dk:=by
   have:=zf_ hab (show bs∈keys [(bs,_)] by simp[keys]);omega
  have hne1:bs≠dk+1:=by
   have:=zf_ hab (show bs∈keys [(bs,_)] by simp[keys]);omega
  refine Rets.mono (hseq (dk+1) (fun pre X=>Sx.look X (dk+1)=some (.loop rc)∧Sx.look X dk=some (.deferred (some []))∧ ∃v,Sx.look X bs=some (.cells #[v] 30 (0,0))∧Gr X 24 32 v pre.length (pre.map z4_).flatten) w3 _ (fun b hb=> ?_) (fun b hb=> ?_) ?_ (by have:=Hp.part (Y:= []) (by simpa using hp3);simpa using this) ?_ ?_ ?_) ?_
  ·refine hp3.old b hb (fun hm=> ?_)
   simp[keys] at hm;omega
  ·simp[keys] at hb;omega
  ·exact hp3.size
  ·refine⟨?_, ?_,_, ?_,Gr.nl⟩
   ·simp[Sx.look,hne1]
   ·simp[Sx.look,hne]
   ·simp[Sx.look];rfl
  ·rintro pre X Y ⟨q1,q2,v,q3,q4⟩
   exact⟨zp_ q1,zp_ q2,v,zp_ q3,q4.app⟩
  ·rintro pre x post X2 w4 hx hp4 hX2 ⟨q1,q2,v,q3,q4⟩
   refine YieldAt.of (S:=fun D=>Ext w4 X2 D∧_) hp4 q1 (by rw[hrc];rfl) (by rw[hrc];rfl) (by rw[hrc];rfl) ?_
   have hlen:=hx.length_eq
   rw[List.length_append,List.length_cons] at hlen
   have n1:slB v≠some bs:=q4.ne q3 (fun a e=>by cases e)
   have n2:slB v≠some dk:=q4.ne q2 (fun a e=>by cases e)
   have n3:slB v≠some (dk+1):=q4.ne q1 (fun a e=>by cases e)
   have hrc':=hrc
   unfold recR at hrc'
   rw[hrc'] at q1 ⊢
   dsimp only
   rw[am2_]
   show CwR _ _ _ (Code.region _ (List.toArray _) false) [.slice none 0 0, .func (.func gf) #[] lb,vp bs 0,undef, .slice none 0 0,undef, .func (.func gf) #[] lb, .agg (a8 x.l),undef,undef,undef,undef,undef] X2 _
   refine CwR.region rfl ?_
   refine Ow.alloc rfl rfl JL_ fun b5 hb5 hw5=> ?_
   simp only[ze_,List.nil_append,List.cons_append]
   have hxh:=x.h
   have k5:=fun o=>j6_ (o:=o) hb5
   have s5:=fun o x=>wh_ (o:=o) (x:=x) hb5
   refine ko (And.intro @qW_ (And.intro @k5 (@s5))) ?_
   refine⟨trivial,zp_ q1, ?_⟩
   refine CwR.block (CwR.region rfl ?_)
   generalize hBZ:Loop.mk .busy _ _ _ _ _ _ _=BZ
   have hk5:dk+1<b5:=zf_ hb5 (zn_ q1)
   have hk5':dk<b5:=zf_ hb5 (zn_ q2)
   have hs5:bs<b5:=zf_ hb5 (zn_ q3)
   have l1:Sx.look (setB (X2++ [(b5,Obj.cells (a8 x.l) 24 (0,0))]) (dk+1) (.loop BZ)) (dk+1)=some (.loop BZ):=qy_ (zp_ q1)
   have l2:Sx.look (setB (X2++ [(b5,Obj.cells (a8 x.l) 24 (0,0))]) (dk+1) (.loop BZ)) dk=some (.deferred (some [])):=by rw[zB_ (by omega)];exact zp_ q2
   have l3:Sx.look (setB (X2++ [(b5,Obj.cells (a8 x.l) 24 (0,0))]) (dk+1) (.loop BZ)) bs=some (.cells #[v] 30 (0,0)):=by rw[zB_ (by omega)];exact zp_ q3
   have l4:Sx.look (setB (X2++ [(b5,Obj.cells (a8 x.l) 24 (0,0))]) (dk+1) (.loop BZ)) b5=some (.cells (a8 x.l) 24 (0,0)):=by rw[zB_ (by omega)];exact j6_ hb5
   have lg:Gr (setB (X2++ [(b5,Obj.cells (a8 x.l) 24 (0,0))]) (dk+1) (.loop BZ)) 24 32 v pre.length (pre.map z4_).flatten:=(q4.app (M:= [(b5,Obj.cells (a8 x.l) 24 (0,0))])).setB n3 _
   have le:Ext w4 X2 (setB (X2++ [(b5,Obj.cells (a8 x.l) 24 (0,0))]) (dk+1) (.loop BZ)):=((Ext.refl w4 X2).app hw5).setB
   generalize setB (X2++ [(b5,Obj.cells (a8 x.l) 24 (0,0))]) (dk+1) (.loop BZ)=L1 at*
   have rbs:=zg_ (w0:=w4) l3
   have rb5:=zg_ (w0:=w4) l4
   have ld1:zA_ (some (false,1)) (some (.cells #[v] 30 (0,0))) 0=some v:=rfl
   refine ko (And.intro @qW_ (And.intro @rbs (And.intro @rb5 (@ld1)))) ?_
   refine Ow.buildSlice (e:=24) (z4_ x).toArray rfl rfl (xq_ x) fun b6 hb6 hw6=> ?_
   refine ko @qW_ ?_
   refine Ow.appendG (e:=24) (k:=1) (new:=z4_ x) v rfl rfl rfl Tryz.underlying30 Tryz.ag24 (by kernel_rfl) JL_ (by simp[ze_,a8]) Tryz.underlying30 (by intro k h;cases h) lg.app (fun w' hw'=>AppX.one1 (hw'.has _ _ (List.mem_append_right _ List.mem_cons_self)) (z0_ x) (vf_ x)) (by show(z4_ x).length=1*32;rw[z0_]) (by omega) (fun v2 L2 hB hB2 hG hS=> ?_)
   have g1:=hG.look _ _ n3 (zp_ l1)
   have g2:=hG.look _ _ n2 (zp_ l2)
   have g3:=hG.look _ _ n1 (zp_ l3)
   have c2:=hB.cell
   have st:zs_ (some (false,1)) (some (.cells #[v] 30 (0,0))) 0 v2=some (.cells #[v2] 30 (0,0)):=by simp[zs_,c2,xA_]
   have m2:slB v2≠some bs:=hB.ne g3 (fun a e=>by cases e)
   refine ko (And.intro @qW_ (And.intro @g3 (And.intro @st (@wD_)))) ?_
   refine⟨rfl, ?_, ?_, ?_, ?_,v2, ?_, ?_⟩
   ·rw[zB_ (by omega)];exact g1
   ·exact((le.app (o:= .cells (a8 x.l) 24 (0,0)) hw6).grew hG).setB.setB
   ·exact qy_ (by rw[zB_ (by omega)];exact g1)
   ·rw[zB_ (by omega),zB_ (by omega)];exact g2
   ·rw[zB_ (by omega)];exact qy_ g3
   ·rw[List.length_append,List.map_append,List.flatten_append]
    have e1: ([x].map z4_).flatten=z4_ x:=by simp
    rw[e1]
    exact(hB.setB m2 _).setB (hB.ne g1 (fun a e=>by cases e)) _
  ·rintro v D ⟨hE,xs2,hp,q1,q2,v2,q3,q4⟩
   exact⟨hE,q1,q2,v2,q3,xs2,hp,q4⟩
 ·obtain⟨hS1,v,hS2,xs2,hpm,hS3⟩:=hS
  show Code.wp _ (Code.seq _ _) _ _ _
  have hne:dk+1≠bs:=by
   have:=zf_ hab (show bs∈keys [(bs,_)] by simp[keys]);omega
  have r1:=fun o=>(jY_ (w0:=w) (L:=D) (x:=o) hne).trans (zg_ hS2)
  have ld1:zA_ (some (false,1)) (some (.cells #[v] 30 (0,0))) 0=some v:=rfl
  refine wp_mono (CwE.seq (ds:= [{target:= .collected dk,args:= #[]}]) (K:=fun e f' L'=>e= .ret∧L'=setB D (dk+1) _∧vC_ f' 4=v) (CwE.region (f':= [.slice none 0 0, .func (.func gf) #[] lb,vp bs 0,undef,v,undef, .func (.func gf) #[] lb,undef,undef,undef,undef,undef,v]) ?_ (CwE.ret ⟨rfl,rfl,rfl⟩)) w3 hp3) ?_
  ·simp(disch:=(first|assumption|omega| (simp only[qF_,qC_,UInt64.reduceToNat];try omega))) only[↓Sx.S0,Sx.S1,Tryz.fx,qW_,Nat.reduceAdd,Nat.reducePow,Int.reducePow,Nat.reduceBEq, ↓reduceIte,UInt8.reduceToNat,UInt16.reduceToNat,UInt32.reduceToNat,UInt64.reduceToNat,Int.reduceToNat,evVs,x7_,r1,ld1]
  ·rintro e a w5 ⟨hd,L,hp5,rfl,rfl,hv⟩
   refine⟨.inr rfl,dk,hd,_,hp5, ?_,[v], ?_, ?_, ?_⟩
   ·rw[zB_ (by omega)];exact hS1
   ·rw[wc_,w5_,QW_,hv];rfl
   ·refine⟨fun c hc=> ?_,fun c hc=>by cases hc⟩
    rw[qP_,qP_] at hc
    rcases hE.new c hc with h|h
    ·simp[keys] at h;exact .inr (by omega)
    ·exact .inr h
   ·exact⟨xs2,hpm,(hS3.setB (hS3.ne hrc (fun a e=>by cases e)) _).setB (hS3.ne hS1 (fun a e=>by cases e)) _⟩
theorem VA_ (gf:Nat) (lb:Array Value) (xs:List IdL) (w:World) (eg: ∀args w,(callFunc gf args).run Tryz.prog w= .ok (.enter gf args) w) (hxs:xs.length<1000000)
  (hseq: ∀w',Hp w [] w'→adU_ Tryz.prog gf lb Z2_ xs w'):
  Rets Tryz.prog 198 #[.func (.func gf) #[] lb] w (XS w [] (fun v D=> ∃xs2:List IdL,xs2.Perm xs∧Gr D 24 32 v xs2.length (xs2.map z4_).flatten)):=by
 refine Rets.enterX Tryz.func198 rfl (rs:= [.tmp 2]) Tryz.results198 Tryz.ntmps198 (fun p hp=>by cases hp) (by simp[keys]) ?_
 refine kf ?_
 first|with_reducible refine ks [] @qW_ ?_|refine kp @qW_ ?_
 refine Ow.callC rfl rfl Tryz.call232 (fun w' hw'=>aaQ_ gf lb xs w' eg hxs (hseq w' hw')) (fun B v D hA hB hN hS=> ?_)
 refine ko @qW_ ?_
 refine⟨_,(ke @qW_), ?_⟩
 exact⟨Ext.of_new (New.mono hB hN),hS⟩
theorem ltId (x y:IdL):ltOf (fun x y:IdL=>Lib.compareBytes x.l y.l) x y=ltB x.l y.l:=by
 unfold ltOf
 simp only[af6_]
 cases h:ltB x.l y.l
 ·cases h2:ltB y.l x.l<;>simp
 ·simp
theorem aob_:SWO (ltOf fun x y:IdL=>Lib.compareBytes x.l y.l) where
 irrefl x:=by rw[ltId];exact xo_ x.l
 trans x y z h1 h2:=by rw[ltId] at*;exact kR_ h1 h2
 ntrans x y z h1 h2:=by
  rw[ltId] at*
  cases h:ltB x.l z.l
  ·rfl
  ·by_cases hxy:x.l=y.l
   ·rw[hxy,h2] at h;cases h
   ·rw[kR_ (x9_ h1 fun e=>hxy e) h] at h2
    cases h2
theorem afd_ (x:IdL): ∀v∈z4_ x,v.oneCell'=true:=fun v hv=>List.all_eq_true.1 (vf_ x) v hv
def amL_ (l Z:List IdL):Prop:=Z.Perm l∧Z.Pairwise (fun x y=>ltB y.l x.l=false)
theorem acs_ {b c:Nat} {l:List IdL} {rest:List Value} {E:TypeId} (w:World) (hb:w.heap[b]? =some (Qe_ z4_ E rest l)) (hsz:l.length<4611686018427387904):
  Rets Tryz.prog 199 #[vsl b 0 l.length c, .func (.func 142) #[] #[]] w
   (fun v D=> ∃o,D= [(b,o)]∧v= .tuple #[]∧ ∃Z:List IdL,amL_ l Z∧o=Qe_ z4_ E rest Z):=by
 have h:= @agE_ IdL ⟨Go.Proofs.id0⟩ z4_ 32 Tryz.prog Tryz.sortId_ren Tryz.sortId Tryz.isAgg24 Tryz.sizeOf24 z0_ afd_ (fun x y=>Lib.compareBytes x.l y.l) aob_ 142 Tryz.call142 (fun x y W=>by
  have:=aew_ x y W
  rw[←ZM_,←ZM_] at this
  exact this) w b c E l rest hb hsz
 refine Rets.mono h ?_
 rintro v D ⟨o,rfl,rfl,l',hp,hs,rfl⟩
 exact⟨_,rfl,rfl,l',⟨hp,hs.imp fun{x y} h=>(ltId y x).symm.trans h⟩,rfl⟩
theorem JJ_ (p:Option Addr) (c:Nat) (fv:Value) (w:World):Rets Tryz.prog 199 #[.slice p 0 c,fv] w (fun v D=>v= .tuple #[]∧D= []):=
 @ahQ_ Tryz.prog Tryz.sortId_ren Tryz.sortId p c fv w
theorem ak9_ (v:Value) (X:zi_) (l:List IdL) (w:World) (hG:Gr X 24 32 v l.length (l.map z4_).flatten) (hX: ∀p,p∈X→w.heap[p.1]? =some p.2) (hn: (keys X).Nodup) (hl:l.length<1000000):
  Rets Tryz.prog 199 #[v, .func (.func 142) #[] #[]] w (XS w X (fun v' D=>v'= .tuple #[]∧ ∃Z,amL_ l Z∧Gr D 24 32 v l.length (Z.map z4_).flatten)):=by
 rcases hG with hS| ⟨h0,h1,rb,rfl,hlk⟩
 ·rcases hS.inv with⟨rfl,h0,h1⟩ | ⟨rb,c,rest,rfl,hlk,-,hc,hc0,hr⟩
  ·obtain rfl:l= []:=List.eq_nil_of_length_eq_zero h0
   refine(Rets.chunkV hX hn (JJ_ none 0 _ w)).mono ?_
   rintro v' D ⟨hE,rfl,hv⟩
   exact⟨hE,hv,[],⟨List.Perm.nil,List.Pairwise.nil⟩,Gr.nl⟩
  ·refine(Rets.chunk hX hn (zn_ hlk) (acs_ (c:=c) w (hX _ (zF_ hlk)) (by omega))).mono ?_
   rintro v' D ⟨hE,o,rfl,hv,Z,hZ,rfl⟩
   refine⟨hE,hv,Z,hZ, .inl ?_⟩
   have z1:=hZ.1.length_eq
   rw[←z1]
   exact Buf.at_ (qy_ hlk) (by rw[k8_ z0_]) (by rw[z1];exact hr) (by omega) hc0
 ·obtain rfl:l= []:=List.eq_nil_of_length_eq_zero h0
  refine(Rets.chunkV hX hn (JJ_ (some ⟨rb,0,none⟩) 0 _ w)).mono ?_
  rintro v' D ⟨hE,rfl,hv⟩
  exact⟨hE,hv,[],⟨List.Perm.nil,List.Pairwise.nil⟩, .inr ⟨rfl,rfl,rb,rfl,hlk⟩⟩
theorem aaR_ (gf:Nat) (lb:Array Value) (xs:List IdL) (w:World) (eg: ∀args w,(callFunc gf args).run Tryz.prog w= .ok (.enter gf args) w) (hxs:xs.length<1000000) (hn:xs.Nodup)
  (hseq: ∀w',Hp w [] w'→adU_ Tryz.prog gf lb Z2_ xs w'):
  Rets Tryz.prog 140 #[.func (.func gf) #[] lb, .func (.func 142) #[] #[]] w (XS w [] (fun v D=>Gr D 24 32 v (xr_ xs).length ((xr_ xs).map z4_).flatten)):=by
 refine Rets.enterX Tryz.func140 rfl (rs:= [.tmp 4]) Tryz.results140 Tryz.ntmps140 (fun p hp=>by cases hp) (by simp[keys]) ?_
 refine kf ?_
 first|with_reducible refine ks [] @qW_ ?_|refine kp @qW_ ?_
 refine Ow.callC rfl rfl Tryz.call198 (fun w' hw'=>VA_ gf lb xs w' eg hxs (fun w2 h2=>hseq w2 (hw'.trans_nil h2))) (fun B v D hA hB hN hS=> ?_)
 obtain⟨l,hpl,hG⟩:=hS
 rw[List.nil_append]
 refine ko @qW_ ?_
 have hll:=hpl.length_eq
 refine Ow.callX (X:=D) (Y:= []) (List.append_nil _).symm rfl rfl Tryz.call199 (fun w' hw' hX' hn'=>ak9_ v D l w' hG hX' hn' (by omega)) (fun v1 D1 hC1 hS1=> ?_)
 obtain⟨rfl,Z,hZ,hG1⟩:=hS1
 rw[List.append_nil]
 have hE:Ext w [] D1:=(Ext.of_new (New.mono hB hN)).came0 hC1
 have hZe:Z=xr_ xs:=aeL_ (hZ.1.trans hpl) hn hZ.2
 have hZl:=hZ.1.length_eq
 subst hZe
 rw[←hZl] at hG1
 refine ko @qW_ ?_
 first|with_reducible refine ks [] @qW_ ?_|refine kp @qW_ ?_
 refine⟨_,(ke @qW_), ?_⟩
 exact⟨hE,hG1⟩
theorem Xj_ (b:Nat) (o:Obj) (m:List (IdL×Bool)) (w:World) (hb:w.heap[b]? =some o) (hM:QP_ Z2_ blV o m) (hn: (m.map Prod.fst).Nodup) (hl:m.length<1000000):
  Rets Tryz.prog 75 #[vm b] w (XS w [] (fun v D=>GrI D 24 32 v (xr_ (m.map Prod.fst)).length ((xr_ (m.map Prod.fst)).map z4_).flatten)):=by
 have hbl:=(Array.getElem?_eq_some_iff.1 hb).1
 refine Rets.enterX Tryz.func75 rfl (rs:= [.tmp 2]) Tryz.results75 Tryz.ntmps75 (fun p hp=>by cases hp) (by simp[keys]) ?_
 refine kf ?_
 first|with_reducible refine ks [] @qW_ ?_|refine kp @qW_ ?_
 refine Ow.callC rfl rfl Tryz.call141 (fun w' hw'=>aec_ b w') (fun B2 v2 D2 hA2 hB2 hN2 hS2=> ?_)
 obtain⟨b1,rfl,rfl⟩:=hS2
 rw[List.nil_append]
 have hN2':=hN2.mono hB2
 refine ko @qW_ ?_
 refine Ow.callC rfl rfl Tryz.call140 (fun w' hw'=>aaR_ 200 #[vp b1 0] (m.map Prod.fst) w' Tryz.call200 (by rw[List.length_map];exact hl) hn (fun w2 h2=>ahH_ b1 b o m w2 ((h2.old _ (Array.getElem?_eq_some_iff.1 (hw'.has _ _ List.mem_cons_self)).1 (by simp[keys])).trans (hw'.has _ _ List.mem_cons_self)) ((h2.old _ (Nat.lt_of_lt_of_le hbl hw'.size) (by simp[keys])).trans ((hw'.old b hbl (hN2'.not hbl)).trans hb)) hM)) (fun B4 v4 D4 hA4 hB4 hN4 hS4=> ?_)
 refine ko @qW_ ?_
 refine⟨_,(ke @qW_), ?_⟩
 exact⟨Ext.of_new (hN2'.app (hN4.mono hB4)),hS4.i fun p hp=>List.mem_cons_of_mem _ hp⟩
end Go.Proofs
end
