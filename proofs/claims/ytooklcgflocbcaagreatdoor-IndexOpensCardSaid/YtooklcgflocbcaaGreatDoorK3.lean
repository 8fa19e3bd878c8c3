/-
  Part 3 of the walk: contracts of the functions that the law reaches, and the calculus they stand on.
  No conditions.
-/
import Derived.Test.YtooklcgflocbcaaGreatDoorK2
section
open Go Go.Proofs Go.Sx Go.StP Go.Flo
namespace Go.Proofs
set_option maxRecDepth 10000
set_option maxHeartbeats 400000
set_option linter.unusedSimpArgs false
def VD_:Nat→List (List UInt8)→List (Int×List UInt8)
 |_,[]=> []
 |i,t::ts=>((i:Int),t)::VD_ (i+1) ts
def tabT (ts:List (List UInt8)):List (Int×List UInt8):=VD_ 0 ts
theorem aah_ (s:List UInt8): ∀ (ts:List (List UInt8)) (i:Nat),updG (((i+ts.length:Nat)):Int) s (VD_ i ts)=VD_ i (ts++ [s])
 | [],i=>rfl
 |t::ts,i=>by
  show updG _ s (((i:Int),t)::VD_ (i+1) ts)=((i:Int),t)::VD_ (i+1) (ts++ [s])
  unfold updG
  rw[if_neg (by rw[beq_iff_eq];simp only[List.length_cons];omega),←aah_ s ts (i+1),List.length_cons,show i+1+ts.length=i+ (ts.length+1) by omega]
theorem adX_ (s:List UInt8) (ts:List (List UInt8)) {k:Nat} (hk:ts.length=k):updG (k:Int) s (tabT ts)=tabT (ts++ [s]):=by
 have:=aah_ s ts 0
 rw[Nat.zero_add,hk] at this
 exact this
theorem aas_ (z:List UInt8): ∀ (ts:List (List UInt8)) (i b:Nat),b<ts.length→getG ((i+b:Nat):Int) z (VD_ i ts)=ts.getD b []
 | [],_,_,h=>by simp at h
 |t::ts,i,0,_=>by
  unfold VD_ getG
  rw[List.find?_cons]
  simp
 |t::ts,i,b+1,h=>by
  have:=aas_ z ts (i+1) b (by simpa using h)
  rw[show i+1+b=i+ (b+1) by omega] at this
  rw[List.getD_cons_succ,←this]
  have e: (((i+ (b+1):Nat):Int)==(i:Int))=false:=by rw[beq_eq_false_iff_ne];omega
  show getG _ z (((i:Int),t)::VD_ (i+1) ts)=_
  unfold getG
  rw[List.find?_cons]
  simp only[e]
theorem akN_ (z:List UInt8) {ts:List (List UInt8)} {b:Nat} (h:b<ts.length):getG (b:Int) z (tabT ts)=ts.getD b []:=by
 have:=aas_ z ts 0 b h
 rwa [Nat.zero_add] at this
theorem afJ_ {b d:List UInt8} (h: (xJ_ b d).2≠0): (xJ_ b d).1= []:=by
 unfold xJ_ at h ⊢
 split
 ·rfl
 ·rename_i p hp
  rw[hp] at h
  simp only at h ⊢
  split
  ·rfl
  ·rename_i hb;rw[if_neg hb] at h;exact absurd rfl h
theorem Wc_ {p:PartL} {b:List UInt8} (h: (jK_ p b).2≠0): (jK_ p b).1= []:=by
 unfold jK_ at h ⊢
 split
 ·rename_i hd;rw[if_pos hd] at h;exact afJ_ h
 ·rename_i hd
  rw[if_neg hd] at h
  split
  ·rfl
  ·rename_i hl;rw[if_neg hl] at h;exact absurd rfl h
theorem agM_ {w:World} {X D:zd_} (h:New w.heap.size D):Ext w X (X++D):=⟨fun c hc=>by
 rw[zj_] at hc
 exact(List.mem_append.1 hc).imp id (h.le c),fun c hc=>by rw[zj_];exact List.mem_append_left _ hc⟩
theorem al9_ {l:List PartL} {k:Nat} {p:List Nat} (hk:k<l.length) (hp:xh_ l (k:Nat)= .ok p) (h:1<p.length):p.getD 1 0<k:=by
 rcases xd_ hk hp with⟨rfl,-⟩ | ⟨b,q,rfl,-,-,hlt,hq⟩
 ·simp at h
 ·rcases xd_ (by omega) hq with⟨rfl,-⟩ | ⟨b2,q2,rfl,-⟩<;>exact hlt
abbrev MapT (o:Obj) (ts:List (List UInt8)):Prop:=MapG vi vs o (tabT ts)
def clX (b1 bk bm:Nat) (v0:Value) (o:Obj):zd_:= [(b1, .cells #[v0] 22 (0,0)),(bk, .cells #[vm bm] 228 (0,0)),(bm,o)]
def ClS (l:List PartL) (k:Nat) (ts:List (List UInt8)) (b1 bk bm:Nat) (v0:Value) (v:Value) (D:zd_):Prop:=
 v=al5_ (partV l (k:Nat))∧ ∃o D',D=clX b1 bk bm v0 o++D'∧ ∀s,partV l (k:Nat)= .ok s→MapT o (ts++ [s])
theorem aim_ (v:Value) (E:TypeId) (n:Nat):zr_ (some (false,n)) (some (.cells #[v] E (0,0))) 0=some v:=(rfl)
set_option linter.defProp false
def j6_:=And.intro (And.intro (And.intro (@zg_) (@zf_)) (And.intro (@aim_) (@jt_))) (And.intro (And.intro (@ju_) (@jo_)) (And.intro (@qk_) (And.intro (@Sx.tup2_0) (@Sx.tup2_1))))
theorem agg_ (b1 bk bm:Nat) (o:Obj) (v0:Value) (l:List PartL) (k:Nat) (ts:List (List UInt8)) (w:World) (h1k:b1<bk) (hne1:b1≠bm) (hne2:bk≠bm)
  (hv:ZF_ w v0 l) (hb:BndL l) (hl:l.length<1000000) (hk:k<l.length) (hts:kS_ l k= .ok ts) (ho:MapT o ts) (hv1: ∀b,slB v0=some b→b∉keys (clX b1 bk bm v0 o))
  (hX: ∀p,p∈clX b1 bk bm v0 o→w.heap[p.1]? =some p.2) (hnd: (keys (clX b1 bk bm v0 o)).Nodup):
  Rets Tryz.prog 158 #[vi k,vp b1 0,vp bk 0] w (XS w (clX b1 bk bm v0 o) (ClS l k ts b1 bk bm v0)):=by
 obtain⟨bb,off,cc,arr,E,fz,hr,-,hvv⟩:=id hv
 have hbX:bb∉keys (clX b1 bk bm v0 o):=by
  rcases hvv with⟨e1,e2,e3⟩ | ⟨e1,-,-⟩
  ·exfalso;subst_vars;simp at hk
  ·exact hv1 bb (by rw[e1];rfl)
 have htl:=wb_ k ts hts
 have hva: ∀w',Hp w (clX b1 bk bm v0 o) w'→ZF_ w' v0 l:=fun w' hw'=>hv.old hw' fun b hb _=>hv1 b hb
 unfold clX at hX hnd hva hbX ⊢
 refine Rets.enterX Tryz.func158 rfl (rs:= [.tmp 4, .tmp 5]) Tryz.results158 Tryz.ntmps158 hX hnd ?_
 refine kf ?_
 first|with_reducible refine ks [] @j6_ ?_|refine kp @j6_ ?_
 refine Ow.callC rfl rfl Tryz.call153 (fun w' hw'=>aja_ v0 l (k:Int) w' (hva w' hw') hl) (fun B1 v1 D1 hA1 hB1 hN1 hS1=> ?_)
 have hN1':=hN1.mono hB1
 unfold ajW_ at hS1
 cases hp:xh_ l (k:Nat) with
 |error e=>
  rw[hp] at hS1
  have hS1':v1= .tuple #[.slice none 0 0,vi e]:=hS1
  subst hS1'
  have e0: (e !=0)=true:=by rw[bne_iff_ne];exact W9_ hp
  refine ko (And.intro @j6_ @e0) ?_
  first|with_reducible refine ks [] @j6_ ?_|refine kp @j6_ ?_
  refine⟨_,(ke @j6_), ?_⟩
  refine⟨agM_ (X:= [_,_,_]) hN1', ?_⟩
  refine⟨by unfold partV;rw[hp];rfl,o,D1,rfl,fun s hs=> ?_⟩
  unfold partV at hs
  rw[hp] at hs
  cases hs
 |ok p=>
  rw[hp] at hS1
  obtain⟨x,rfl,hp5,hg⟩:=hS1
  have hpk:=ab9_ hk hts hp
  have hlen: ∀m,Xr_ (.sl m) x=some (vi p.length):=fun m=>by
   obtain⟨X,-,h⟩:=hg;exact h.len m
  have hb0:0<l.length:=by omega
  have hbl:=hr.lt hb0
  have i2:=hr.idx true k hk
  have ld:=hr.load xu_ (by omega) hk
  have hpx:=hb k hk
  have rd:zy_ w ((b1,Obj.cells #[v0] 22 (0,0)):: (bk,Obj.cells #[vm bm] 228 (0,0)):: (bm,o)::D1) bb=some (.cells arr E fz):=by
   have hno:bb∉keys ([(b1,Obj.cells #[v0] 22 (0,0)),(bk,Obj.cells #[vm bm] 228 (0,0)),(bm,o)]++D1):=by rw[zj_,List.mem_append,not_or];exact⟨hbX,hN1'.not hbl⟩
   exact(qK_ hno).trans (hr.has hb0)
  generalize l.getD k qt_=pt at*
  have hlk:Sx.look ((b1,Obj.cells #[v0] 22 (0,0)):: (bk,Obj.cells #[vm bm] 228 (0,0)):: (bm,o)::D1) bm=some o:=by rw[q9_ _ _ _ _ hne1,q9_ _ _ _ _ hne2];exact zS_ _ _ _
  have hset: ∀o1,setB ((b1,Obj.cells #[v0] 22 (0,0)):: (bk,Obj.cells #[vm bm] 228 (0,0)):: (bm,o)::D1) bm o1=((b1,Obj.cells #[v0] 22 (0,0)):: (bk,Obj.cells #[vm bm] 228 (0,0)):: (bm,o1)::D1):=fun o1=>by
   rw[jm_ _ _ _ _ _ hne1,jm_ _ _ _ _ _ hne2,jW_]
  have ext_new': ∀ {o1:Obj},New w.heap.size D1→Ext w [(b1,Obj.cells #[v0] 22 (0,0)),(bk,Obj.cells #[vm bm] 228 (0,0)),(bm,o)] ((b1,Obj.cells #[v0] 22 (0,0)):: (bk,Obj.cells #[vm bm] 228 (0,0)):: (bm,o1)::D1):=fun h=>(agM_ (X:= [_,_,_]) h).keys rfl
  by_cases h1:1<p.length
  ·have d1:decide ((1:Int)< (p.length:Int))=true:=decide_eq_true (by omega)
   rw[if_pos h1] at hpk
   refine ko (And.intro @j6_ (And.intro @hlen (@d1))) ?_
   first|with_reducible refine ks [] @j6_ ?_|refine kp @j6_ ?_
   refine Cw.world fun wz hwz=> ?_
   rcases amg_ hg (fun q hq=>by simp[hq]) hwz with h0| ⟨bp,cp,rp,rfl,hkp,rdp⟩
   ·omega
   have lp:=ajw_ (E:=3) (rest:=rp) 1 1 h1
   have hz:zK_ Tryz.prog 9=some (vs []):=Tryz.zr9
   have hbase:p.getD 1 0<ts.length:=by have:=al9_ hk hp h1;omega
   have hge:=akN_ [] hbase
   refine Cw.regionS [bk,bp] [1,2,0,3,4,5] [] (by kernel_rfl) (by kernel_rfl) (by kernel_rfl) ?_
   simp only[zh_, ↓zc_, ↓zb_, ↓zn_, ↓zo_,za_]
   refine kq (And.intro @j6_ (And.intro @rdp (@lp))) ?_
   refine Ow.soft rfl rfl rfl ?_
   refine Ow.mapGetG (k:=((p.getD 1 0:Nat):Int)) (z:= []) rfl rfl Tryz.underlying228 (KeyOk.int Tryz.underlying3) hz rfl rfl (qd_ hlk) ho ?_
   rw[hge]
   with_reducible refine Ow.nil ?_
   refine⟨by intro b hb;simp only[List.mem_cons,List.not_mem_nil,or_false] at hb;(try subst hb);rfl, ?_⟩
   refine kq (And.intro @j6_ (And.intro @i2 (And.intro @rd (@ld)))) ?_
   refine Ow.callFV rfl Tryz.call154 (fun w' hw'=>aaA_ pt (ts.getD (p.getD 1 0) []) w' hpx) ?_
   refine ko @j6_ ?_
   first|with_reducible refine ks [] @j6_ ?_|refine kp @j6_ ?_
   refine Ow.mapUpdateG (k:=(k:Int)) (v:=(jK_ pt (ts.getD (p.getD 1 0) [])).1) rfl rfl Tryz.underlying228 (KeyOk.int Tryz.underlying3) rfl rfl rfl hlk ho (fun o1 ho1=> ?_)
   rw[adX_ _ _ htl] at ho1
   rw[hset o1]
   refine ko @j6_ ?_
   first|with_reducible refine ks [] @j6_ ?_|refine kp @j6_ ?_
   refine⟨_,(ke @j6_), ?_⟩
   refine⟨ext_new' hN1', ?_⟩
   refine⟨?_,o1,D1,rfl,fun s hs=> ?_⟩
   ·rw[hpk]
    by_cases he: (jK_ pt (ts.getD (p.getD 1 0) [])).2=0
    ·rw[if_pos he,he];rfl
    ·rw[if_neg he,Wc_ he];rfl
   ·rw[hpk] at hs
    split at hs
    ·cases hs;exact ho1
    ·cases hs
  ·have d1:decide ((1:Int)< (p.length:Int))=false:=decide_eq_false (by omega)
   rw[if_neg h1] at hpk
   refine ko (And.intro @j6_ (And.intro @hlen (@d1))) ?_
   first|with_reducible refine ks [] (And.intro @j6_ (And.intro @i2 (And.intro @rd (@ld)))) ?_|refine kp (And.intro @j6_ (And.intro @i2 (And.intro @rd (@ld)))) ?_
   refine Ow.callFV rfl Tryz.call154 (fun w' hw'=>aaA_ pt [] w' hpx) ?_
   refine ko @j6_ ?_
   first|with_reducible refine ks [] @j6_ ?_|refine kp @j6_ ?_
   refine Ow.mapUpdateG (k:=(k:Int)) (v:=(jK_ pt []).1) rfl rfl Tryz.underlying228 (KeyOk.int Tryz.underlying3) rfl rfl rfl hlk ho (fun o1 ho1=> ?_)
   rw[adX_ _ _ htl] at ho1
   rw[hset o1]
   refine ko @j6_ ?_
   first|with_reducible refine ks [] @j6_ ?_|refine kp @j6_ ?_
   refine⟨_,(ke @j6_), ?_⟩
   refine⟨ext_new' hN1', ?_⟩
   refine⟨?_,o1,D1,rfl,fun s hs=> ?_⟩
   ·rw[hpk]
    by_cases he: (jK_ pt []).2=0
    ·rw[if_pos he,he];rfl
    ·rw[if_neg he,Wc_ he];rfl
   ·rw[hpk] at hs
    split at hs
    ·cases hs;exact ho1
    ·cases hs
end Go.Proofs
end
section
open Go Go.Proofs Go.Sx Go.StP Go.Flo
namespace Go.Proofs
set_option maxRecDepth 10000
set_option maxHeartbeats 400000
set_option linter.unusedSimpArgs false
theorem WZ_ {l:List PartL} {e:Int}: ∀ (p:List Nat),ZL_ l p= .error e→e≠0
 | [],h=>by cases h
 |a::p,h=>by
  unfold ZL_ at h
  cases hp:ZL_ l p with
  |error x=>rw[hp] at h;cases h;exact WZ_ p hp
  |ok s=>
   rw[hp] at h
   change(if(jK_ (l.getD a qt_) s).2=0 then _ else _)=_ at h
   split at h
   ·cases h
   ·rename_i hne;cases h;exact hne
theorem WH_ {l:List PartL} {a e:Int} (h:partV l a= .error e):e≠0:=by
 unfold partV at h
 cases hp:xh_ l a with
 |error x=>rw[hp] at h;cases h;exact W9_ hp
 |ok p=>rw[hp] at h;exact WZ_ p h
theorem ajY_ {l:List PartL} {k:Nat} {ts:List (List UInt8)} {s:List UInt8} (h:kS_ l k= .ok ts) (hs:partV l (k:Nat)= .ok s):kS_ l (k+1)= .ok (ts++ [s]):=by
 unfold kS_;rw[h];show(partV l (k:Nat)).map _=_;rw[hs];rfl
theorem aer_ {l:List PartL} {k:Nat} {ts:List (List UInt8)} {e:Int} (h:kS_ l k= .ok ts) (hs:partV l (k:Nat)= .error e): ∀j,k<j→kS_ l j= .error e
 |0,hj=>by omega
 |j+1,hj=>by
  unfold kS_
  by_cases hjk:j=k
  ·subst hjk;rw[h];show(partV l (j:Nat)).map _=_;rw[hs];rfl
  ·rw[aer_ h hs j (by omega)];rfl
def strC (s:List UInt8):List Value:= [vs s]
theorem ajP_ (s:List UInt8): (strC s).length=1:=rfl
structure AlG where
 ts:List (List UInt8)
 v:Value
 o:Obj
 D:zd_
def AllS (l:List PartL) (v:Value) (D:zd_):Prop:=match QK_ l with
 | .ok ts=> ∃x,v= .tuple #[x,vi 0]∧GrI D 9 1 x ts.length (ts.map strC).flatten
 | .error e=>v= .tuple #[.slice none 0 0,vi e]
theorem apZ_:zK_ Tryz.prog 228=some (.map none):=id (by kernel_rfl)
theorem aeY_ (b:Nat) (E:TypeId) (x:Value):zp_ (some (false,1)) (some (.cells #[x] E (0,0))) 0 (vm b)=some (.cells #[vm b] E (0,0)):=(rfl)
set_option linter.defProp false
def jR_:=And.intro (And.intro (@zg_) (And.intro (@zf_) (@aim_))) (And.intro (@aeY_) (And.intro (@Sx.tup2_0) (@Sx.tup2_1)))
theorem age_ (v0:Value) (l:List PartL) (w:World) (hv:ZF_ w v0 l) (hb:BndL l) (hl:l.length<1000000):
  Rets Tryz.prog 125 #[v0] w (XS w [] (AllS l)):=by
 have ln:=hv.len
 have hcl:v0.cells= #[v0]:=by
  obtain⟨bb,off,cc,arr,E,fz,hr,-,hvv⟩:=id hv
  rcases hvv with⟨e1,-,-⟩ | ⟨e1,-,-⟩<;>rw[e1]<;>rfl
 have hvb: ∀b,slB v0=some b→b<w.heap.size:=by
  intro b hb
  obtain⟨bb,off,cc,arr,E,fz,hr,-,hvv⟩:=id hv
  rcases hvv with⟨e1,-,-⟩ | ⟨e1,hh,-⟩
  ·rw[e1] at hb;cases hb
  ·rw[e1] at hb;cases hb;exact(Array.getElem?_eq_some_iff.1 hh).1
 refine Rets.enterX Tryz.func125 rfl (rs:= [.tmp 2, .tmp 3]) Tryz.results125 Tryz.ntmps125 (fun p hp=>by cases hp) (by simp[keys]) ?_
 refine kf ?_
 first|with_reducible refine ks [] @jR_ ?_|refine kp @jR_ ?_
 refine Ow.box rfl rfl fun b1 hb1 hw1=> ?_
 simp only[qi_,qe_,qc_,ze_,List.nil_append,List.cons_append]
 refine Ow.go rfl ?_
 simp(disch:=(first|assumption|omega| (simp only[jF_,jE_,UInt64.reduceToNat];try omega))) only[↓Sx.S0,Sx.S1,Tryz.fx,jR_,Nat.reduceAdd,Nat.reducePow,Int.reducePow,Nat.reduceBEq, ↓reduceIte,UInt8.reduceToNat,UInt16.reduceToNat,UInt32.reduceToNat,UInt64.reduceToNat,Int.reduceToNat]
 rw[hcl]
 by_cases h2:200<l.length
 ·have d1:decide ((200:Int)< (l.length:Int))=true:=decide_eq_true (by omega)
  first|with_reducible refine ks [] (And.intro @jR_ (And.intro @ln (@d1))) ?_|refine kp (And.intro @jR_ (And.intro @ln (@d1))) ?_
  refine⟨_,(ke @jR_), ?_⟩
  refine⟨Ext.of_new ⟨hw1,trivial⟩, ?_⟩
  unfold AllS QK_;rw[if_pos h2];rfl
 ·have d1:decide ((200:Int)< (l.length:Int))=false:=decide_eq_false (by omega)
  first|with_reducible refine ks [] (And.intro @jR_ (And.intro @ln (@d1))) ?_|refine kp (And.intro @jR_ (And.intro @ln (@d1))) ?_
  refine Ow.makeMapG (encK:=vi) (encV:=vs) rfl rfl fun bm o hbm hwm hm0=> ?_
  rw[List.cons_append,List.nil_append]
  refine ko @jR_ ?_
  first|with_reducible refine ks [] @jR_ ?_|refine kp @jR_ ?_
  refine Ow.alloc rfl rfl apZ_ fun bk hbk hwk=> ?_
  simp only[ze_,List.nil_append,List.cons_append]
  rw[show Value.cells (.map none)= #[.map none] from rfl]
  have hbmk:bm<bk:=zk_ hbk (by simp[keys])
  have hb1m:b1<bm:=zk_ hbm (by simp[keys])
  have hb1k:b1<bk:=by omega
  have hv1: ∀o b,slB v0=some b→b∉keys (clX b1 bk bm v0 o):=by
   intro o b hbb
   have:=hvb b hbb
   simp only[clX,keys,List.map_cons,List.map_nil,List.mem_cons,List.not_mem_nil,or_false,not_or]
   omega
  have hXn: ∀o,New w.heap.size (clX b1 bk bm v0 o):=fun o=>⟨hw1,hwk,hwm,trivial⟩
  refine Ow.permL (M:= [(b1,Obj.cells #[v0] 22 (0,0)),(bk, .cells #[.map none] 228 (0,0)),(bm,o)]) (by classical exact List.perm_iff_count.2 fun a=>by simp only[List.count_append,List.count_cons,List.count_nil]<;>omega) ?_
  refine ko @jR_ ?_
  first|with_reducible refine ks [] (And.intro @jR_ @ln) ?_|refine kp (And.intro @jR_ @ln) ?_
  simp only[List.map_toArray,List.map_cons,List.map_nil,qi_,qc_,qe_]
  refine Cw.loopG (G:=AlG) [18,19,7,21,22,23,20,24,25,8,9,26,27,28,2,3,29,30,31,32,6,33,17] (fun g=> [(6,g.v),(17,vi g.ts.length)]) (fun g=>(b1,Obj.cells #[v0] 22 (0,0)):: (bk, .cells #[vm bm] 228 (0,0)):: (bm,g.o)::g.D) (fun g=>g.ts.length≤l.length∧kS_ l g.ts.length= .ok g.ts∧MapT g.o g.ts∧New w.heap.size g.D∧Gr g.D 9 1 g.v g.ts.length (g.ts.map strC).flatten) (fun g=>l.length - g.ts.length) ⟨[], .slice none 0 0,o,[]⟩ rfl rfl ?_ ?_
  ·exact⟨Nat.zero_le _,rfl,hm0,trivial,Gr.nl⟩
  intro g j hg
  refine kv ?_
  obtain⟨ts,v,o,D⟩:=g
  simp only at hg ⊢
  obtain⟨hgl,hgo,hM,hN,hG⟩:=hg
  by_cases hlt:ts.length<l.length
  ·have d2:decide ((ts.length:Int)< (l.length:Int))=true:=decide_eq_true (by omega)
   first|with_reducible refine ks [] (And.intro @jR_ @d2) ?_|refine kp (And.intro @jR_ @d2) ?_
   refine Ow.callFnXC (b:=vi ts.length) (ars:= #[vi ts.length,vp b1 0,vp bk 0]) rfl (X:=clX b1 bk bm v0 o) (Y:=D) (S:=ClS l ts.length ts b1 bk bm v0) rfl rfl rfl rfl rfl Tryz.call158 (fun w' hw' hX hn=>agg_ b1 bk bm o v0 l ts.length ts w' hb1k (by omega) (by omega) (hv.oldN hw' ((hXn o).app hN)) hb hl hlt hgo hM (hv1 o) hX hn) (fun v2 D2 hC hS=> ?_)
   obtain⟨rfl,o2,D3,rfl,hok⟩:=hS
   have hN3:New w.heap.size D3:=New.of_le fun c hc=>by
    rcases hC.new c (by rw[zj_];exact List.mem_append_right _ hc) with h|h
    ·exact(hXn o).le c h
    ·exact h.2
   have hpm: (clX b1 bk bm v0 o2++D3)++D=(b1,Obj.cells #[v0] 22 (0,0)):: (bk, .cells #[vm bm] 228 (0,0)):: (bm,o2):: (D3++D):=rfl
   rw[hpm]
   cases hp:partV l (ts.length:Nat) with
   |error e=>
    have hal:QK_ l= .error e:=by unfold QK_;rw[if_neg h2];exact aer_ hgo hp _ hlt
    have e0: (e !=0)=true:=by rw[bne_iff_ne];exact WH_ hp
    unfold al5_
    refine ko @jR_ ?_
    first|with_reducible refine ks [] (And.intro @jR_ @e0) ?_|refine kp (And.intro @jR_ @e0) ?_
    refine⟨_,(ke @jR_), ?_⟩
    refine⟨Ext.of_new ⟨hw1,hwk,hwm,hN3.app hN⟩, ?_⟩
    unfold AllS;rw[hal];rfl
   |ok s=>
    have e0: ((0:Int) !=0)=false:=rfl
    unfold al5_
    refine ko @jR_ ?_
    first|with_reducible refine ks [] (And.intro @jR_ @e0) ?_|refine kp (And.intro @jR_ @e0) ?_
    refine Ow.buildSlice (e:=9) #[vs s] rfl rfl (by kernel_rfl) fun b9 hb9 hw9=> ?_
    have hM2:=hok s hp
    refine Ow.permL (M:=D++ ((b1,Obj.cells #[v0] 22 (0,0)):: (bk, .cells #[vm bm] 228 (0,0)):: (bm,o2):: (D3++ [(b9, .cells #[vs s] 9 (0,0))]))) (by classical exact List.perm_iff_count.2 fun a=>by simp only[List.count_append,List.count_cons,List.count_nil]<;>omega) ?_
    refine ko @jR_ ?_
    refine Ow.appendXG (e:=9) (k:=1) (new:=strC s) (X:=D) v rfl rfl rfl rfl Tryz.underlying57 (id (by kernel_rfl):z0_ Tryz.prog 9=some (false,1)) (by kernel_rfl) (id (by kernel_rfl):zK_ Tryz.prog 9=some (vs [])) rfl Tryz.underlying57 (by intro k h;cases h) hG (fun w' hw'=>AppX.one1 (hw'.has b9 (.cells #[vs s] 9 (0,0)) (by simp)) (ajP_ s) rfl) (by omega) (fun B4 v4 D4 hA4 hB4 hG4 hk14 hk24 hlk4=> ?_)
    have hN4:New w.heap.size D4:=New.of_le fun c hc=>by
     rcases hk24 c hc with h|h
     ·exact hN.le c h
     ·omega
    have hG5:Gr (D4++ (D3++ [(b9,Obj.cells #[vs s] 9 (0,0))])) 9 1 v4 (ts++ [s]).length ((ts++ [s]).map strC).flatten:=by
     have:=hG4.app (M:=D3++ [(b9,Obj.cells #[vs s] 9 (0,0))])
     simpa using this
    have hN5:New w.heap.size (D4++ (D3++ [(b9,Obj.cells #[vs s] 9 (0,0))])):=hN4.app (hN3.app ⟨hw9,trivial⟩)
    refine Ow.permL (M:=(b1,Obj.cells #[v0] 22 (0,0)):: (bk, .cells #[vm bm] 228 (0,0)):: (bm,o2):: (D4++ (D3++ [(b9, .cells #[vs s] 9 (0,0))]))) (by classical exact List.perm_iff_count.2 fun a=>by simp only[List.count_append,List.count_cons,List.count_nil]<;>omega) ?_
    generalize D4++ (D3++ [(b9,Obj.cells #[vs s] 9 (0,0))])=D6 at*
    refine ko @jR_ ?_
    first|with_reducible refine ks [] @jR_ ?_|refine kp @jR_ ?_
    have hlt2: (ts++ [s]).length=ts.length+1:=by simp
    refine Again.mk ⟨ts++ [s],v4,o2,D6⟩ (by show l.length - (ts++ [s]).length<l.length - ts.length;omega) ⟨by show(ts++ [s]).length≤l.length;omega,by show kS_ l (ts++ [s]).length= .ok (ts++ [s]);rw[hlt2];exact ajY_ hgo hp,hM2,hN5,hG5⟩ rfl (by simp only[hlt2];rfl)
  ·have e:ts.length=l.length:=by omega
   have d2:decide ((ts.length:Int)< (l.length:Int))=false:=decide_eq_false (by omega)
   first|with_reducible refine ks [] (And.intro @jR_ @d2) ?_|refine kp (And.intro @jR_ @d2) ?_
   refine⟨_,(ke @jR_), ?_⟩
   refine⟨Ext.of_new ⟨hw1,hwk,hwm,hN⟩, ?_⟩
   have hal:QK_ l= .ok ts:=by unfold QK_;rw[if_neg h2,←e];exact hgo
   unfold AllS
   rw[hal]
   exact⟨v,rfl,Gr.i hG fun q hq=>by simp[hq]⟩
end Go.Proofs
end
namespace Go.Dig
open Go.Sx
def hexL:List UInt8:= [48,49,50,51,52,53,54,55,56,57,97,98,99,100,101,102]
def Kz_ (b:UInt8):Int:=if 48≤b.toNat∧b.toNat≤57 then(b.toNat:Int) - 48 else if 97≤b.toNat∧b.toNat≤102 then(b.toNat:Int) - 97+10 else -1
def hexD (n:Nat):UInt8:=hexL.getD n 0
def hexB (b:UInt8):List UInt8:= [hexD (b.toNat / 16),hexD (b.toNat%16)]
def JD_ (id:List UInt8):List UInt8:=id.flatMap hexB
def Qy_ (id:List UInt8) (g:Nat):List UInt8:=JD_ (id.take g)++List.replicate (64 - 2*g) 0
theorem x8_ (id:List UInt8): (JD_ id).length=2*id.length:=by
 induction id with
 |nil=>rfl
 |cons b r ih=>simp only[JD_,List.flatMap_cons,List.length_append] at ih ⊢;rw[ih];simp[hexB];omega
theorem Zw_ (id:List UInt8) (g:Nat) (h:id.length=32) (hg:g≤32): (Qy_ id g).length=64:=by
 simp[Qy_,x8_,h];omega
theorem acz_ (id:List UInt8) (g:Nat) (h:id.length=32) (hg:g<32) (x y:UInt8) (hx:x=hexD ((id.getD g 0).toNat / 16)) (hy:y=hexD ((id.getD g 0).toNat%16)):
  ((Qy_ id g).set (2*g) x).set (2*g+1) y=Qy_ id (g+1):=by
 have hl: (JD_ (id.take g)).length=2*g:=by rw[x8_];simp;omega
 have hr:List.replicate (64 - 2*g) (0:UInt8)=0::0::List.replicate (64 - 2* (g+1)) 0:=by
  have:64 - 2*g=(64 - 2* (g+1))+1+1:=by omega
  rw[this];rfl
 have ht:id.take (g+1)=id.take g++ [id.getD g 0]:=by
  rw[List.take_add_one]
  simp[List.getD_eq_getElem?_getD,h,hg]
 have key: ∀ (p q:List UInt8) (a b:UInt8),((p++a::b::q).set p.length x).set (p.length+1) y=p++x::y::q:=by
  intro p q a b
  induction p with
  |nil=>rfl
  |cons c r ih=>simp only[List.cons_append,List.length_cons,List.set_cons_succ,ih]
 unfold Qy_
 rw[ht,hr,←hl,key]
 simp[JD_,hexB,hx,hy]
theorem aeP_ (id:List UInt8) (h:id.length=32):Qy_ id 32=JD_ id:=by
 simp[Qy_,List.take_of_length_le (show id.length≤32 by omega)]
theorem amr_ (b:UInt8): (kb_ b 4).toNat<16:=by
 have:=b.toNat_lt
 rw[kb_,UInt8.toNat_ofNat'];omega
theorem akY_ (b:UInt8): (b&&&15).toNat<16:=by
 rw[UInt8.toNat_and]
 exact Nat.lt_of_le_of_lt Nat.and_le_right (by decide)
theorem ami_ (b:UInt8):hexL.getD (kb_ b 4).toNat 0=hexD (b.toNat / 16):=by
 have:=b.toNat_lt
 rw[kb_,UInt8.toNat_ofNat',Nat.mod_eq_of_lt (by omega)];rfl
theorem akB_ (b:UInt8):hexL.getD (b&&&15).toNat 0=hexD (b.toNat%16):=by
 rw[UInt8.toNat_and]
 have:b.toNat&&& (15:UInt8).toNat=b.toNat%16:=Nat.and_two_pow_sub_one_eq_mod b.toNat 4
 rw[this];rfl
theorem ahK_ (id:List UInt8) (g:Nat) (h:id.length=32) (hg:g<32):JD_ (id.take (g+1))=JD_ (id.take g)++ [hexD ((id.getD g 0).toNat / 16)]++ [hexD ((id.getD g 0).toNat%16)]:=by
 have ht:id.take (g+1)=id.take g++ [id.getD g 0]:=by
  rw[List.take_add_one]
  simp[List.getD_eq_getElem?_getD,h,hg]
 rw[ht];simp[JD_,hexB]
theorem ah8_ (n:Nat) (h:n<16): (hexL.take (n+1)).drop n= [hexD n]:=by
 have: ∀i:Fin 16,(hexL.take (i.val+1)).drop i.val= [hexD i.val]:=by decide+kernel
 exact this ⟨n,h⟩
def alR_ (l:List UInt8) (n:Nat):List UInt8:=(List.range n).map fun i=>UInt8.ofInt (Kz_ (l.getD (2*i) 0)*16+Kz_ (l.getD (2*i+1) 0))
def aqd_ (l:List UInt8):Bool:=l.length==64&&l.all fun c=>decide (0≤Kz_ c)
def aqN_ (l:List UInt8):List UInt8:=if aqd_ l then alR_ l 32 else List.replicate 32 0
def apk_ (l:List UInt8) (g:Nat):List UInt8:=alR_ l g++List.replicate (32 - g) 0
def refB (l:List UInt8) (i k:Nat):UInt8:=
 if 2*k+1<i then UInt8.ofInt (Kz_ (l.getD (2*k) 0)*16+Kz_ (l.getD (2*k+1) 0)) else if 2*k<i then UInt8.ofInt (Kz_ (l.getD (2*k) 0)) else 0
def aqE_ (l:List UInt8) (i:Nat):List UInt8:=(List.range 32).map (refB l i)
def rgt (x:UInt32) (n:UInt64):UInt32:=zP_ x n.toNat|||jY_ x (32 - n).toNat
def rol (x:UInt32) (k:Int):UInt32:=jY_ x (UInt64.ofInt k&&&31).toNat|||zP_ x (32 - (UInt64.ofInt k&&&31)).toNat
def aie_ (x:UInt32) (a b c:Int):UInt32:=rol x (-a)^^^rol x (-b)^^^zP_ x c.toNat
def aha_ (x:UInt32) (a b c:Int):UInt32:=rol x (-a)^^^rol x (-b)^^^rol x (-c)
def S1 (e:UInt32):UInt32:=rgt e 6^^^rgt e 11^^^rgt e 25
def S0 (a:UInt32):UInt32:=rgt a 2^^^rgt a 13^^^rgt a 22
def s1 (y:UInt32):UInt32:=rgt y 17^^^rgt y 19^^^zP_ y 10
def s0 (x:UInt32):UInt32:=rgt x 7^^^rgt x 18^^^zP_ x 3
theorem rol6 (x:UInt32):rol x (-6)=rgt x 6:=by unfold rol rgt;rw[UInt32.or_comm];rfl
theorem apy_ (x:UInt32):rol x (-11)=rgt x 11:=by unfold rol rgt;rw[UInt32.or_comm];rfl
theorem aqk_ (x:UInt32):rol x (-25)=rgt x 25:=by unfold rol rgt;rw[UInt32.or_comm];rfl
theorem rol2 (x:UInt32):rol x (-2)=rgt x 2:=by unfold rol rgt;rw[UInt32.or_comm];rfl
theorem aqm_ (x:UInt32):rol x (-13)=rgt x 13:=by unfold rol rgt;rw[UInt32.or_comm];rfl
theorem aqi_ (x:UInt32):rol x (-22)=rgt x 22:=by unfold rol rgt;rw[UInt32.or_comm];rfl
theorem apT_ (x:UInt32):rol x (-17)=rgt x 17:=by unfold rol rgt;rw[UInt32.or_comm];rfl
theorem apN_ (x:UInt32):rol x (-19)=rgt x 19:=by unfold rol rgt;rw[UInt32.or_comm];rfl
theorem rol7 (x:UInt32):rol x (-7)=rgt x 7:=by unfold rol rgt;rw[UInt32.or_comm];rfl
theorem apw_ (x:UInt32):rol x (-18)=rgt x 18:=by unfold rol rgt;rw[UInt32.or_comm];rfl
theorem apE_ (x:UInt32):aha_ x 6 11 25=S1 x:=by unfold aha_ S1;rw[rol6,apy_,aqk_]
theorem ap7_ (x:UInt32):aha_ x 2 13 22=S0 x:=by unfold aha_ S0;rw[rol2,aqm_,aqi_]
theorem ap2_ (x:UInt32):aie_ x 17 19 10=s1 x:=by unfold aie_ s1;rw[apT_,apN_];rfl
theorem aqa_ (x:UInt32):aie_ x 7 18 3=s0 x:=by unfold aie_ s0;rw[rol7,apw_];rfl
def kL:List UInt32:= [1116352408,1899447441,3049323471,3921009573,961987163,1508970993,2453635748,2870763221,3624381080,310598401,607225278,1426881987,1925078388,2162078206,2614888103,3248222580,3835390401,4022224774,264347078,604807628,770255983,1249150122,1555081692,1996064986,2554220882,2821834349,2952996808,3210313671,3336571891,3584528711,113926993,338241895,666307205,773529912,1294757372,1396182291,1695183700,1986661051,2177026350,2456956037,2730485921,2820302411,3259730800,3345764771,3516065817,3600352804,4094571909,275423344,430227734,506948616,659060556,883997877,958139571,1322822218,1537002063,1747873779,1955562222,2024104815,2227730452,2361852424,2428436474,2756734187,3204031479,3329325298]
def initL:List UInt32:= [1779033703,3144134277,1013904242,2773480762,1359893119,2600822924,528734635,1541459225]
def akd_ (b:List UInt8) (i:Nat):UInt32:=
 UInt32.ofNat (b.getD (4*i) 0).toNat*16777216+UInt32.ofNat (b.getD (4*i+1) 0).toNat*65536+UInt32.ofNat (b.getD (4*i+2) 0).toNat*256+UInt32.ofNat (b.getD (4*i+3) 0).toNat
def VT_ (b:List UInt8) (i:Nat):List UInt32:=(List.range 64).map fun j=>if j<i then akd_ b j else 0
theorem wU_ (b:List UInt8) (i:Nat): (VT_ b i).length=64:=by simp[VT_]
theorem aiK_ (b:List UInt8) (i:Nat): (VT_ b i).set i (akd_ b i)=VT_ b (i+1):=by
 apply List.ext_getElem
 ·simp[VT_]
 intro k hk1 hk2
 have hk:k<64:=by simpa [VT_] using hk2
 rw[List.getElem_set]
 by_cases h:i=k
 ·subst h;simp[VT_]
 ·rw[if_neg h]
  simp only[VT_,List.getElem_map,List.getElem_range]
  by_cases h1:k<i
  ·rw[if_pos h1,if_pos (by omega)]
  ·rw[if_neg h1,if_neg (by omega)]
theorem ah7_ (b:List UInt8):VT_ b 0=List.replicate 64 0:=by
 apply List.ext_getElem
 ·simp[VT_]
 intro k hk1 hk2
 simp only[VT_,List.getElem_map,List.getElem_range,List.getElem_replicate]
 rw[if_neg (by omega)]
def akF_ (w:List UInt32) (g:Nat):List UInt32:=w.set g (s1 (w.getD (g - 2) 0)+w.getD (g - 7) 0+s0 (w.getD (g - 15) 0)+w.getD (g - 16) 0)
def wGo (w:List UInt32):Nat→List UInt32
 |0=>w
 |n+1=>akF_ (wGo w n) (16+n)
theorem KJ_ (w:List UInt32) (n:Nat): (wGo w n).length=w.length:=by
 induction n with
 |zero=>rfl
 |succ n ih=>simp[wGo,akF_,ih]
def wAll (b:List UInt8):List UInt32:=wGo (VT_ b 16) 48
theorem abo_ (b:List UInt8): (wAll b).length=64:=by rw[wAll,KJ_,wU_]
def ame_ (s:List UInt32) (k w:UInt32):List UInt32:=
 let t:=s.getD 7 0+S1 (s.getD 4 0)+ (s.getD 4 0&&&s.getD 5 0||| ~~~ s.getD 4 0&&&s.getD 6 0)+k+w
 let u:=S0 (s.getD 0 0)+ (s.getD 0 0&&&s.getD 1 0|||s.getD 0 0&&&s.getD 2 0|||s.getD 1 0&&&s.getD 2 0)
 [t+u,s.getD 0 0,s.getD 1 0,s.getD 2 0,s.getD 3 0+t,s.getD 4 0,s.getD 5 0,s.getD 6 0]
def rGo (st w:List UInt32):Nat→List UInt32
 |0=>st
 |n+1=>ame_ (rGo st w n) (kL.getD n 0) (w.getD n 0)
theorem afp_ (st w:List UInt32) (n:Nat) (h:st.length=8): (rGo st w n).length=8:=by
 cases n with
 |zero=>exact h
 |succ n=>rfl
def kC_ (st s:List UInt32) (i:Nat):List UInt32:=(List.range 8).map fun j=>if j<i then st.getD j 0+s.getD j 0 else st.getD j 0
theorem Zj_ (st s:List UInt32) (i:Nat): (kC_ st s i).length=8:=by simp[kC_]
theorem afG_ (st s:List UInt32) (i j:Nat) (hj:j<8): (kC_ st s i).getD j 0=if j<i then st.getD j 0+s.getD j 0 else st.getD j 0:=by
 simp[kC_,List.getD_eq_getElem?_getD,hj]
theorem abp_ (st s:List UInt32) (i:Nat): (kC_ st s i).set i (st.getD i 0+s.getD i 0)=kC_ st s (i+1):=by
 apply List.ext_getElem
 ·simp[kC_]
 intro k hk1 hk2
 rw[List.getElem_set]
 by_cases h:i=k
 ·subst h;simp[kC_]
 ·rw[if_neg h]
  simp only[kC_,List.getElem_map,List.getElem_range]
  by_cases h1:k<i
  ·rw[if_pos h1,if_pos (by omega)]
  ·rw[if_neg h1,if_neg (by omega)]
theorem abR_ (st s:List UInt32) (h:st.length=8):kC_ st s 0=st:=by
 apply List.ext_getElem
 ·simp[kC_,h]
 intro k hk1 hk2
 simp[kC_,List.getD_eq_getElem?_getD,hk2]
def comp (st:List UInt32) (b:List UInt8):List UInt32:=kC_ st (rGo st (wAll b) 64) 8
theorem abb_ (st:List UInt32) (b:List UInt8): (comp st b).length=8:=Zj_ _ _ _
def XC_ (st:List UInt32) (m:List UInt8):Nat→List UInt32
 |0=>st
 |n+1=>comp (XC_ st m n) ((m.drop (64*n)).take 64)
theorem aay_ (st:List UInt32) (m x:List UInt8) (n:Nat) (h:64*n≤m.length):XC_ st (m++x) n=XC_ st m n:=by
 induction n with
 |zero=>rfl
 |succ n ih=>
  simp only[XC_]
  rw[ih (by omega),List.drop_append_of_le_length (by omega),List.take_append_of_le_length (by simp;omega)]
def vG_ (bg:Bool) (st:List UInt32) (rest:List UInt8) (many:Int) (taken:UInt64):List Value:=
 .bool bg:: (st.map (fun x=>Value.int .u32 (x.toNat:Int))++ (rest.map (fun x=>Value.int .u8 (x.toNat:Int))++ [vi many,v64 taken]))
def zM_ (bg:Bool) (st:List UInt32) (rest:List UInt8) (many:Int) (taken:UInt64):Array Value:=(vG_ bg st rest many taken).toArray
section
variable {bg:Bool} {st:List UInt32} {rest:List UInt8} {many:Int} {taken:UInt64} {E:TypeId}
theorem jB_ (h:st.length=8∧rest.length=64): (zM_ bg st rest many taken).size=75:=by simp[zM_,vG_,h]
theorem agN_: (zM_ bg st rest many taken)[0]? =some (.bool bg):=rfl
theorem ai7_ (k:Nat) (hk:k<8) (h:st.length=8): (zM_ bg st rest many taken)[1+k]? =some (v32 (st.getD k 0)):=by
 have:1+k=k+1:=by omega
 rw[this,zM_,List.getElem?_toArray,vG_,List.getElem?_cons_succ,List.getElem?_append_left (by simp;omega)]
 simp[v32,List.getD_eq_getElem?_getD,h,hk]
theorem WI_ (k:Nat) (hk:k<64) (h:st.length=8∧rest.length=64): (zM_ bg st rest many taken)[9+k]? =some (v8 (rest.getD k 0)):=by
 have:9+k=(8+k)+1:=by omega
 rw[this,zM_,List.getElem?_toArray,vG_,List.getElem?_cons_succ,List.getElem?_append_right (by simp;omega),List.getElem?_append_left (by simp;omega)]
 have e:8+k - (List.map (fun x:UInt32=>Value.int .u32 (x.toNat:Int)) st).length=k:=by simp;omega
 rw[e]
 simp[v8,List.getD_eq_getElem?_getD,h,hk]
theorem ahr_ (h:st.length=8∧rest.length=64): (zM_ bg st rest many taken)[73]? =some (vi many):=by
 rw[zM_,List.getElem?_toArray,vG_,List.getElem?_cons_succ,List.getElem?_append_right (by simp;omega),List.getElem?_append_right (by simp;omega)]
 simp[h]
theorem ag8_ (h:st.length=8∧rest.length=64): (zM_ bg st rest many taken)[74]? =some (v64 taken):=by
 rw[zM_,List.getElem?_toArray,vG_,List.getElem?_cons_succ,List.getElem?_append_right (by simp;omega),List.getElem?_append_right (by simp;omega)]
 simp[h]
theorem wh_ (n:Nat):zr_ (some (false,n)) (some (.cells (zM_ bg st rest many taken) E (0,0))) 0=some (.bool bg):=agN_
theorem ws_ (n k:Nat) (h:k<8∧st.length=8):zr_ (some (false,n)) (some (.cells (zM_ bg st rest many taken) E (0,0))) (1+k)=some (v32 (st.getD k 0)):=ai7_ k h.1 h.2
theorem wu_ (n k:Nat) (h:k<64∧st.length=8∧rest.length=64):zr_ (some (false,n)) (some (.cells (zM_ bg st rest many taken) E (0,0))) (9+k)=some (v8 (rest.getD k 0)):=WI_ k h.1 h.2
theorem vu_ (n j k:Nat) (h:j+k<64∧st.length=8∧rest.length=64):zr_ (some (false,n)) (some (.cells (zM_ bg st rest many taken) E (0,0))) (9+j+k)=some (v8 (rest.getD (j+k) 0)):=by
 rw[Nat.add_assoc];exact WI_ (j+k) h.1 h.2
theorem wm_ (n:Nat) (h:st.length=8∧rest.length=64):zr_ (some (false,n)) (some (.cells (zM_ bg st rest many taken) E (0,0))) 73=some (vi many):=ahr_ h
theorem wi_ (n:Nat) (h:st.length=8∧rest.length=64):zr_ (some (false,n)) (some (.cells (zM_ bg st rest many taken) E (0,0))) 74=some (v64 taken):=ag8_ h
theorem vb_ (h:st.length=8∧rest.length=64):zr_ (some (true,8)) (some (.cells (zM_ bg st rest many taken) E (0,0))) 1=some (.agg (a32 st)):=by
 have hs:1+8≤ (zM_ bg st rest many taken).size:=by rw[jB_ h];omega
 simp only[zr_,hs, ↓reduceIte]
 congr 2
 rw[zM_,a32,vG_]
 simp only[List.extract_toArray,List.extract_eq_take_drop]
 congr 1
 simp[h]
theorem kE_ (h:st.length=8∧rest.length=64):zr_ (some (true,75)) (some (.cells (zM_ bg st rest many taken) E (0,0))) 0=some (.agg (zM_ bg st rest many taken)):=vl_ _ _ _ _ (jB_ h)
theorem ak3_: (zM_ bg st rest many taken).toList.all Value.oneCell'=true:=by
 simp[zM_,vG_,Value.oneCell',vi,v64]
theorem j5_ (old:Array Value) (h:st.length=8∧rest.length=64∧old.size=75):zp_ (some (true,75)) (some (.cells old E (0,0))) 0 (.agg (zM_ bg st rest many taken))=some (.cells (zM_ bg st rest many taken) E (0,0)):=
 ZU_ _ _ _ _ _ ⟨jB_ ⟨h.1,h.2.1⟩,h.2.2⟩ ak3_
theorem we_ (i:Nat) (v:Value): (zM_ bg st rest many taken).setIfInBounds i v=((vG_ bg st rest many taken).set i v).toArray:=by simp[zM_]
theorem vt_ (b:Bool) (h:st.length=8∧rest.length=64):zp_ (some (false,1)) (some (.cells (zM_ bg st rest many taken) E (0,0))) 0 (.bool b)=some (.cells (zM_ b st rest many taken) E (0,0)):=by
 rw[kq_ _ _ _ _ _ (by rw[jB_ h];omega) rfl rfl,we_];rfl
theorem ve_ (k:Nat) (x:UInt32) (h:k<8∧st.length=8∧rest.length=64):zp_ (some (false,1)) (some (.cells (zM_ bg st rest many taken) E (0,0))) (1+k) (v32 x)=some (.cells (zM_ bg (st.set k x) rest many taken) E (0,0)):=by
 have e:1+k=k+1:=by omega
 rw[kq_ _ _ _ _ _ (by rw[jB_ h.2];omega) rfl rfl,we_,e,vG_,List.set_cons_succ,List.set_append_left _ _ (by simp;omega)]
 simp only[zM_,vG_,List.map_set];rfl
theorem vs_ (k:Nat) (x:UInt8) (h:k<64∧st.length=8∧rest.length=64):zp_ (some (false,1)) (some (.cells (zM_ bg st rest many taken) E (0,0))) (9+k) (v8 x)=some (.cells (zM_ bg st (rest.set k x) many taken) E (0,0)):=by
 have e:9+k=(8+k)+1:=by omega
 rw[kq_ _ _ _ _ _ (by rw[jB_ h.2];omega) rfl rfl,we_,e,vG_,List.set_cons_succ,List.set_append_right _ _ (by simp;omega),List.set_append_left _ _ (by simp;omega)]
 have e2:8+k - (List.map (fun x:UInt32=>Value.int .u32 (x.toNat:Int)) st).length=k:=by simp;omega
 rw[e2]
 simp only[zM_,vG_,List.map_set];rfl
theorem vw_ (m:Int) (h:st.length=8∧rest.length=64):zp_ (some (false,1)) (some (.cells (zM_ bg st rest many taken) E (0,0))) 73 (vi m)=some (.cells (zM_ bg st rest m taken) E (0,0)):=by
 rw[kq_ _ _ _ _ _ (by rw[jB_ h];omega) rfl rfl,we_,vG_,List.set_cons_succ,List.set_append_right _ _ (by simp;omega),List.set_append_right _ _ (by simp;omega)]
 simp[zM_,vG_,h]
theorem vo_ (t:UInt64) (h:st.length=8∧rest.length=64):zp_ (some (false,1)) (some (.cells (zM_ bg st rest many taken) E (0,0))) 74 (v64 t)=some (.cells (zM_ bg st rest many t) E (0,0)):=by
 rw[kq_ _ _ _ _ _ (by rw[jB_ h];omega) rfl rfl,we_,vG_,List.set_cons_succ,List.set_append_right _ _ (by simp;omega),List.set_append_right _ _ (by simp;omega)]
 simp[zM_,vG_,h]
theorem kx_ (st':List UInt32) (h:st.length=8∧rest.length=64∧st'.length=8):zp_ (some (true,8)) (some (.cells (zM_ bg st rest many taken) E (0,0))) 1 (.agg (a32 st'))=some (.cells (zM_ bg st' rest many taken) E (0,0)):=by
 have hs:1+8≤ (zM_ bg st rest many taken).size:=by rw[jB_ ⟨h.1,h.2.1⟩];omega
 have hp:vH_ (zM_ bg st rest many taken) 1 (a32 st').toList=zM_ bg st' rest many taken:=by
  have:=Vp_ (a32 st').toList [.bool bg] (st.map fun x=>Value.int .u32 (x.toNat:Int)) (rest.map (fun x=>Value.int .u8 (x.toNat:Int))++ [vi many,v64 taken]) (by simp[a32,h])
  simpa [zM_,vG_,a32] using this
 have h1: (a32 st').size=8:=by rw[Zm_];exact h.2.2
 simp only[zp_,ze_,h1,hs,Nat.le_refl,true_or,agi_,and_self, ↓reduceIte,hp]
end
def acc (b:List UInt8) (i:Nat):Nat→UInt32
 |0=>0
 |k+1=>jY_ (acc b i k) 8|||UInt32.ofNat (b.getD (4*i+k) 0).toNat
theorem QR_ (x:UInt32) (c:UInt8) (h:x.toNat<16777216): (jY_ x 8|||UInt32.ofNat c.toNat).toNat=x.toNat*256+c.toNat:=by
 have hc:=c.toNat_lt
 rw[UInt32.toNat_or,jY_,UInt32.toNat_ofNat',UInt32.toNat_ofNat',Nat.mod_eq_of_lt (by omega),Nat.mod_eq_of_lt (by omega),←Nat.shiftLeft_eq,←Nat.shiftLeft_add_eq_or_of_lt (by omega:c.toNat<2^8),Nat.shiftLeft_eq]
theorem aky_ (b:List UInt8) (i:Nat):acc b i 4=akd_ b i:=by
 have h0:=(b.getD (4*i) 0).toNat_lt
 have h1:=(b.getD (4*i+1) 0).toNat_lt
 have h2:=(b.getD (4*i+2) 0).toNat_lt
 have h3:=(b.getD (4*i+3) 0).toNat_lt
 have e1: (acc b i 1).toNat=(b.getD (4*i) 0).toNat:=by
  have:=QR_ 0 (b.getD (4*i+0) 0) (by decide)
  simpa [acc] using this
 have l1: (acc b i 1).toNat<16777216:=by omega
 have e2: (acc b i 2).toNat=(acc b i 1).toNat*256+ (b.getD (4*i+1) 0).toNat:=QR_ _ _ l1
 have l2: (acc b i 2).toNat<16777216:=by omega
 have e3: (acc b i 3).toNat=(acc b i 2).toNat*256+ (b.getD (4*i+2) 0).toNat:=QR_ _ _ l2
 have l3: (acc b i 3).toNat<16777216:=by omega
 have e4: (acc b i 4).toNat=(acc b i 3).toNat*256+ (b.getD (4*i+3) 0).toNat:=QR_ _ _ l3
 apply UInt32.toNat.inj
 rw[e4,e3,e2,e1]
 unfold akd_
 simp only[UInt32.toNat_add,UInt32.toNat_mul,UInt32.toNat_ofNat']
 have k1: (16777216:UInt32).toNat=16777216:=rfl
 have k2: (65536:UInt32).toNat=65536:=rfl
 have k3: (256:UInt32).toNat=256:=rfl
 rw[k1,k2,k3]
 omega
theorem agQ_ (b:List UInt8) (g:Nat):VT_ b g=(VT_ b g).set g (acc b g 0):=by
 apply List.ext_getElem
 ·simp
 intro k hk1 hk2
 rw[List.getElem_set]
 by_cases h:g=k
 ·subst h;simp[VT_,acc]
 ·rw[if_neg h]
theorem jn_ {α:Type} (l:List α) (i:Nat) (x d:α) (h:i<l.length): (l.set i x).getD i d=x:=by
 simp[List.getD_eq_getElem?_getD,h]
def wG (b:List UInt8) (g:Nat):List UInt32:=wGo (VT_ b 16) (g - 16)
theorem ahT_ (b:List UInt8) (g:Nat): (wG b g).length=64:=by rw[wG,KJ_,wU_]
theorem anw_ (b:List UInt8) (g:Nat) (h:16≤g):wG b (g+1)=akF_ (wG b g) g:=by
 unfold wG
 have:g+1 - 16=(g - 16)+1:=by omega
 rw[this]
 show akF_ _ (16+ (g - 16))=_
 rw[show 16+ (g - 16)=g from by omega]
theorem anW_ (b:List UInt8):wG b 64=wAll b:=rfl
theorem ajo_ (b:List UInt8):VT_ b 16=wG b 16:=rfl
theorem aoG_ (a b c:UInt32): (a&&&b^^^ ~~~a&&&c)=(a&&&b||| ~~~a&&&c):=by
 apply UInt32.toBitVec_inj.1
 simp only[UInt32.toBitVec_xor,UInt32.toBitVec_or,UInt32.toBitVec_and,UInt32.toBitVec_not]
 ext i hi
 simp only[BitVec.getElem_xor,BitVec.getElem_or,BitVec.getElem_and,BitVec.getElem_not]
 cases a.toBitVec[i]<;>simp
theorem amR_ (a b c:UInt32): (a&&&b^^^a&&&c^^^b&&&c)=(a&&&b|||a&&&c|||b&&&c):=by
 apply UInt32.toBitVec_inj.1
 simp only[UInt32.toBitVec_xor,UInt32.toBitVec_or,UInt32.toBitVec_and]
 ext i hi
 simp only[BitVec.getElem_xor,BitVec.getElem_or,BitVec.getElem_and]
 cases a.toBitVec[i]<;>cases b.toBitVec[i]<;>simp
def Glob (w:World):Prop:= ∃e0 e1 f0 f1,w.heap[0]? =some (.cells (a32 initL) e0 f0)∧w.heap[1]? =some (.cells (a32 kL) e1 f1)
theorem Glob.of {w0 w:World} {L:zd_} (hg:Glob w0) (h:Hp w0 L w) (hk: ∀b,b∈keys L→1<b):Glob w:=by
 obtain⟨e0,e1,f0,f1,h0,h1⟩:=hg
 refine⟨e0,e1,f0,f1, ?_, ?_⟩
 ·rw[h.old 0 (Array.getElem?_eq_some_iff.1 h0).1 (fun hm=>by have:=hk 0 hm;omega)];exact h0
 ·rw[h.old 1 (Array.getElem?_eq_some_iff.1 h1).1 (fun hm=>by have:=hk 1 hm;omega)];exact h1
structure Hs where
 st:List UInt32
 rest:List UInt8
 many:Nat
structure Hs.Ok (s:Hs):Prop where
 st:s.st.length=8
 rest:s.rest.length=64
 many:s.many<64
def Xs_ (s:Hs) (x:UInt8):Hs:=
 if s.many+1=64 then⟨comp s.st (s.rest.set s.many x),s.rest.set s.many x,0⟩ else⟨s.st,s.rest.set s.many x,s.many+1⟩
theorem VJ_ {s:Hs} (x:UInt8) (h:s.Ok): (Xs_ s x).Ok:=by
 unfold Xs_
 split
 ·exact⟨abb_ _ _,by simp[h.rest],by show(0:Nat)<64;omega⟩
 ·exact⟨h.st,by simp[h.rest],by show s.many+1<64;have:=h.many;omega⟩
def q4_ (s:Hs) (l:List UInt8):Hs:=l.foldl Xs_ s
theorem vx_ {s:Hs} (l:List UInt8) (h:s.Ok): (q4_ s l).Ok:=by
 induction l generalizing s with
 |nil=>exact h
 |cons x r ih=>exact ih (VJ_ x h)
theorem jQ_ (s:Hs) (a b:List UInt8):q4_ s (a++b)=q4_ (q4_ s a) b:=List.foldl_append
theorem kR_ {α:Type} (l:List α) (g:Nat) (d:α) (h:g<l.length):l.take (g+1)=l.take g++ [l.getD g d]:=by
 rw[List.take_add_one]
 simp[List.getD_eq_getElem?_getD,h]
theorem KE_ (s:Hs) (l:List UInt8) (g:Nat) (h:g<l.length):q4_ s (l.take (g+1))=Xs_ (q4_ s (l.take g)) (l.getD g 0):=by
 rw[kR_ l g 0 h,jQ_];rfl
def wE_ (bg:Bool) (s:Hs):Hs:=if bg then s else{s with st:=initL}
theorem WD_ {s:Hs} (bg:Bool) (h:s.Ok): (wE_ bg s).Ok:=by
 unfold wE_;split
 ·exact h
 ·exact⟨rfl,h.rest,h.many⟩
def kJ_ (s:Hs) (taken:UInt64):Array Value:=zM_ true s.st s.rest s.many taken
def k9_ (t:UInt64) (l:List (List UInt8)):UInt64:=l.foldl (fun t a=>t+UInt64.ofNat a.length) t
theorem aca_ (t:UInt64) (l:List (List UInt8)) (g:Nat) (h:g<l.length):k9_ t (l.take (g+1))=k9_ t (l.take g)+UInt64.ofNat (l.getD g []).length:=by
 rw[kR_ l g [] h,k9_,List.foldl_append];rfl
theorem aaO_ (l:List (List UInt8)) (g:Nat) (h:g<l.length): (l.take (g+1)).flatten=(l.take g).flatten++l.getD g []:=by
 rw[kR_ l g [] h,List.flatten_append];simp
theorem loadV_one (cs:Array Value) (E:TypeId) (fz:Nat×Nat) (n i:Nat):zr_ (some (false,n)) (some (.cells cs E fz)) i=cs[i]? :=(rfl)
structure Strs (w:World) (v:Value) (l:List (List UInt8)):Prop where
 nil_or: (l= []∧v= .slice none 0 0)∨ ∃b off c arr E fz,v=vsl b off l.length c∧w.heap[b]? =some (.cells arr E fz)∧ ∀i,i<l.length→arr[off+i]? =some (vs (l.getD i []))
end Go.Dig
section
open Go Go.Proofs Go.Sx Go.Dig
namespace Go.Proofs
set_option maxRecDepth 10000
set_option maxHeartbeats 4000000
set_option linter.unusedSimpArgs false
def GlobE (w:World):Prop:= ∃e0 e1 f0 f1,w.heap[2]? =some (.cells (a32 initL) e0 f0)∧w.heap[3]? =some (.cells (a32 kL) e1 f1)
theorem GlobE.of {w0 w:World} {L:zd_} (hg:GlobE w0) (h:Hp w0 L w) (hk: ∀b,b∈keys L→3<b):GlobE w:=by
 obtain⟨e0,e1,f0,f1,h0,h1⟩:=hg
 refine⟨e0,e1,f0,f1, ?_, ?_⟩
 ·rw[h.old _ (Array.getElem?_eq_some_iff.1 h0).1 (fun hm=>by have:=hk _ hm;omega)];exact h0
 ·rw[h.old _ (Array.getElem?_eq_some_iff.1 h1).1 (fun hm=>by have:=hk _ hm;omega)];exact h1
theorem vO_ (x:UInt32) (k:Int) (w:World):Rets Tryz.prog 243 #[v32 x,vi k] w (fun v D=>v=v32 (rol x k)∧D= []):=by
 refine Rets.enterV Tryz.func243 rfl (rs:= [.tmp 4]) Tryz.results243 Tryz.ntmps243 ?_
 refine kf ?_
 first|with_reducible refine ks [] @Nat.add_zero ?_|refine kp @Nat.add_zero ?_
 refine⟨_,(ke @Nat.add_zero),trivial, ?_⟩
 rfl
theorem Wh_ (x:UInt32) (a b c:Int) (ha:0≤a∧a≤64) (hb:0≤b∧b≤64) (hc:0≤c∧c≤64) (w:World):Rets Tryz.prog 239 #[v32 x,vi a,vi b,vi c] w (fun v D=>v=v32 (aie_ x a b c)∧D= []):=by
 refine Rets.enterV Tryz.func239 rfl (rs:= [.tmp 8]) Tryz.results239 Tryz.ntmps239 ?_
 refine kf ?_
 first|with_reducible refine ks [] @Nat.add_zero ?_|refine kp @Nat.add_zero ?_
 refine Cw.regionO [0,1,2,4,5,6,9,10,11,3,7,8,12,13] [] rfl (by kernel_rfl) (by kernel_rfl) ?_
 simp only[zh_, ↓zc_, ↓zb_, ↓zn_, ↓zo_,za_]
 refine kq @Nat.add_zero ?_
 refine Ow.callFV rfl Tryz.call243 (fun w' hw'=>vO_ _ _ w') ?_
 refine kq @Nat.add_zero ?_
 refine Ow.callFV rfl Tryz.call243 (fun w' hw'=>vO_ _ _ w') ?_
 refine kq @Nat.add_zero ?_
 first|with_reducible refine ks [] @Nat.add_zero ?_|refine kp @Nat.add_zero ?_
 refine⟨_,(ke @Nat.add_zero),trivial, ?_⟩
 rfl
theorem aaL_ (x:UInt32) (a b c:Int) (ha:0≤a∧a≤64) (hb:0≤b∧b≤64) (hc:0≤c∧c≤64) (w:World):Rets Tryz.prog 240 #[v32 x,vi a,vi b,vi c] w (fun v D=>v=v32 (aha_ x a b c)∧D= []):=by
 refine Rets.enterV Tryz.func240 rfl (rs:= [.tmp 8]) Tryz.results240 Tryz.ntmps240 ?_
 refine kf ?_
 first|with_reducible refine ks [] @Nat.add_zero ?_|refine kp @Nat.add_zero ?_
 refine Ow.callFV rfl Tryz.call243 (fun w' hw'=>vO_ _ _ w') ?_
 refine ko @Nat.add_zero ?_
 refine Ow.callFV rfl Tryz.call243 (fun w' hw'=>vO_ _ _ w') ?_
 refine ko @Nat.add_zero ?_
 refine Ow.callFV rfl Tryz.call243 (fun w' hw'=>vO_ _ _ w') ?_
 refine ko @Nat.add_zero ?_
 first|with_reducible refine ks [] @Nat.add_zero ?_|refine kp @Nat.add_zero ?_
 refine⟨_,(ke @Nat.add_zero),trivial, ?_⟩
 rfl
end Go.Proofs
end
section
open Go Go.Proofs Go.Sx Go.Dig
namespace Go.Proofs
set_option maxRecDepth 10000
set_option maxHeartbeats 4000000
set_option linter.unusedSimpArgs false
set_option linter.defProp false
def qh_:=And.intro (And.intro (And.intro (And.intro (@wh_) (@ws_)) (And.intro (@wu_) (@vu_))) (And.intro (And.intro (@wm_) (@wi_)) (And.intro (@vb_) (@kE_)))) (And.intro (And.intro (And.intro (@j5_) (@vt_)) (And.intro (@ve_) (@vs_))) (And.intro (And.intro (@vw_) (@vo_)) (And.intro (@kx_) (@jn_))))
theorem ai9_ (b:Nat) (bg:Bool) (st:List UInt32) (rest:List UInt8) (many:Int) (taken:UInt64) (w:World) (hG:GlobE w) (hb:3<b) (hs:st.length=8) (hr:rest.length=64)
  (ho:w.heap[b]? =some (.cells (zM_ bg st rest many taken) 260 (0,0))):
  Rets Tryz.prog 232 #[vp b 0] w (fun v D=> ∃o,D= [(b,o)]∧v= .tuple #[]∧o= .cells (zM_ bg (comp st rest) rest 0 taken) 260 (0,0)):=by
 obtain⟨e0,e1,f0,f1,h0,h1⟩:=hG
 have hbl:=(Array.getElem?_eq_some_iff.1 ho).1
 have hkl:kL.length=64:=rfl
 refine Rets.enterM Tryz.func232 rfl (rs:= []) Tryz.results232 Tryz.ntmps232 ho ?_
 refine kf ?_
 first|with_reducible refine ks [] @qh_ ?_|refine kp @qh_ ?_
 refine Ow.alloc rfl rfl Tryz.zr274 fun b1 hb1 hw1=> ?_
 obtain⟨h01,-⟩:=hb1
 refine ko @qh_ ?_
 first|with_reducible refine ks [] @qh_ ?_|refine kp @qh_ ?_
 rw[←ah7_ rest]
 refine Cw.loopG (G:=Nat) [14,15,3,16,17,18,19,20,21,22,23,24,25,26,27,28,29,5,30,31,32,33,34,35,36,37,38,39,40,13] (fun g=> [(13,vi g)]) (fun g=> [(b, .cells (zM_ bg st rest many taken) 260),(b1, .cells (a32 (VT_ rest g)) 274)]) (fun g=>g≤16) (fun g=>16 - g) 0 rfl rfl ?_ ?_
 ·omega
 intro g j hg
 refine kv ?_
 have hlen:=wU_ rest g
 by_cases hlt:g<16
 ·first|with_reducible refine ks [] @qh_ ?_|refine kp @qh_ ?_
  rw[agQ_ rest g]
  refine Cw.loopG (G:=Nat) [27,28,29,5,30,31,32,33,34,35,36,37,38,39,26] (fun k=> [(26,vi k)]) (fun k=> [(b, .cells (zM_ bg st rest many taken) 260 (0,0)),(b1, .cells (a32 ((VT_ rest g).set g (acc rest g k))) 274 (0,0))]) (fun k=>k≤4) (fun k=>4 - k) 0 rfl rfl ?_ ?_
  ·omega
  intro k jk hk
  refine kv ?_
  by_cases hk4:k<4
  ·first|with_reducible refine ks [] @qh_ ?_|refine kp @qh_ ?_
   exact Again.mk (k+1) (by omega) (by omega) rfl rfl
  ·have hk:k=4:=by omega
   subst hk
   first|with_reducible refine ks [] @qh_ ?_|refine kp @qh_ ?_
   refine Again.mk (g+1) (by omega) (by omega) ?_ rfl
   rw[aky_,aiK_]
 ·have hg16:g=16:=by omega
  subst hg16
  first|with_reducible refine ks [] @qh_ ?_|refine kp @qh_ ?_
  rw[ajo_]
  refine Cw.loopG (G:=Nat) [41,42,45,46,47,48,49,50,51,52,53,54,55,56,57,58,59,60,61,62,63,64,65,66,67,43,44,6] (fun g=> [(6,vi g)]) (fun g=> [(b, .cells (zM_ bg st rest many taken) 260 (0,0)),(b1, .cells (a32 (wG rest g)) 274)]) (fun g=>16≤g∧g≤64) (fun g=>64 - g) 16 rfl rfl ?_ ?_
  ·omega
  intro g j hg
  refine kv ?_
  obtain⟨hg1,hg2⟩:=hg
  have hlen:=ahT_ rest g
  by_cases hlt:g<64
  ·first|with_reducible refine ks [] @qh_ ?_|refine kp @qh_ ?_
   refine Cw.regionO [0,1,2,3,6,7,8,11,12,13,17,18,19,4,9,14,20,5,10,15,16,21,22,23] [23] rfl (by kernel_rfl) (by kernel_rfl) ?_
   simp only[zh_, ↓zc_, ↓zb_, ↓zn_, ↓zo_,za_]
   refine kq @qh_ ?_
   refine Ow.callFV rfl Tryz.call239 (fun w' hw'=>Wh_ _ _ _ _ (by omega) (by omega) (by omega) w') ?_
   refine kq @qh_ ?_
   refine Ow.callFV rfl Tryz.call239 (fun w' hw'=>Wh_ _ _ _ _ (by omega) (by omega) (by omega) w') ?_
   refine kq @qh_ ?_
   refine Ow.store rfl rfl rfl (ke @qh_) ?_
   refine ko @qh_ ?_
   first|with_reducible refine ks [] @qh_ ?_|refine kp @qh_ ?_
   refine Again.mk (g+1) (by omega) (by omega) ?_ rfl
   rw[anw_ rest g hg1,ap2_,aqa_];rfl
  ·have hg64:g=64:=by omega
   subst hg64
   rw[anW_]
   have hwl:=abo_ rest
   first|with_reducible refine ks [] (And.intro @qh_ @h1) ?_|refine kp (And.intro @qh_ @h1) ?_
   refine Ow.alloc rfl rfl Tryz.zr244 fun b2 hb2 hw2=> ?_
   obtain⟨h02,h12,-⟩:=hb2
   refine ko (And.intro @qh_ @h1) ?_
   first|with_reducible refine ks [] (And.intro @qh_ @h1) ?_|refine kp (And.intro @qh_ @h1) ?_
   refine Cw.loopG (G:=Nat) [74,75,76,8,9,77,78,79,80,81,82,83,84,85,86,87,88,89,90,91,92,93,94,95,96,97,98,99,100,101,10,102,103,104,105,106,107,108,109,110,111,112,113,114,115,116,117,118,119,120,121,122,11,123,124,125,126,127,128,129,130,131,132,133,134,135,136,137,138,139,140,141,142,143,73] (fun g=> [(73,vi g)]) (fun g=> [(b, .cells (zM_ bg st rest many taken) 260 (0,0)),(b1, .cells (a32 (wAll rest)) 274),(b2, .cells (a32 (rGo st (wAll rest) g)) 244)]) (fun g=>g≤64) (fun g=>64 - g) 0 rfl rfl ?_ ?_
   ·omega
   ·intro g j hg
    refine kv ?_
    have hrl:=afp_ st (wAll rest) g hs
    by_cases hlt:g<64
    ·first|with_reducible refine ks [] @qh_ ?_|refine kp @qh_ ?_
     refine Cw.regionO [0,2,6,8,11,14,19,21,22,1,3,7,9,10,12,13,15,16,17,23,4,5,18,20,24,25] [] rfl (by kernel_rfl) (by kernel_rfl) ?_
     simp only[zh_, ↓zc_, ↓zb_, ↓zn_, ↓zo_,za_]
     refine kq @qh_ ?_
     refine Ow.callFV rfl Tryz.call240 (fun w' hw'=>aaL_ _ _ _ _ (by omega) (by omega) (by omega) w') ?_
     refine kq @qh_ ?_
     first|with_reducible refine ks [] @qh_ ?_|refine kp @qh_ ?_
     refine Cw.regionO [0,3,5,8,10,14,16,1,4,6,7,9,11,12,13,15,17,18,19,2,20,21] [] rfl (by kernel_rfl) (by kernel_rfl) ?_
     simp only[zh_, ↓zc_, ↓zb_, ↓zn_, ↓zo_,za_]
     refine kq @qh_ ?_
     refine Ow.callFV rfl Tryz.call240 (fun w' hw'=>aaL_ _ _ _ _ (by omega) (by omega) (by omega) w') ?_
     refine kq @qh_ ?_
     first|with_reducible refine ks [] @qh_ ?_|refine kp @qh_ ?_
     rw[apE_,ap7_,aoG_,amR_]
     refine Ow.build (.agg (a32 (ame_ (rGo st (wAll rest) g) (kL.getD g 0) ((wAll rest).getD g 0)))) rfl (by kernel_rfl) ?_
     have hrl2: (ame_ (rGo st (wAll rest) g) (kL.getD g 0) ((wAll rest).getD g 0)).length=8:=rfl
     refine ko @qh_ ?_
     first|with_reducible refine ks [] @qh_ ?_|refine kp @qh_ ?_
     exact Again.mk (g+1) (by omega) (by omega) rfl rfl
    ·have hg64:g=64:=by omega
     subst hg64
     first|with_reducible refine ks [] @qh_ ?_|refine kp @qh_ ?_
     rw[←abR_ st (rGo st (wAll rest) 64) hs]
     refine Cw.loopG (G:=Nat) [145,146,12,147,148,149,150,151,152,153,154,155,156,157,158,159,160,144] (fun k=> [(144,vi k)]) (fun k=> [(b, .cells (zM_ bg (kC_ st (rGo st (wAll rest) 64) k) rest many taken) 260 (0,0)),(b1, .cells (a32 (wAll rest)) 274),(b2, .cells (a32 (rGo st (wAll rest) 64)) 244)]) (fun k=>k≤8) (fun k=>8 - k) 0 rfl rfl ?_ ?_
     ·omega
     intro k jk hk
     refine kv ?_
     have hal:=Zj_ st (rGo st (wAll rest) 64) k
     by_cases hk8:k<8
     ·first|with_reducible refine ks [] @qh_ ?_|refine kp @qh_ ?_
      refine Cw.regionO [0,1,2,3,4,6,7,10,11,5,8,9,12,13] [13] rfl (by kernel_rfl) (by kernel_rfl) ?_
      simp only[zh_, ↓zc_, ↓zb_, ↓zn_, ↓zo_,za_]
      refine kq @qh_ ?_
      refine Ow.store rfl rfl rfl (ke @qh_) ?_
      refine ko @qh_ ?_
      first|with_reducible refine ks [] @qh_ ?_|refine kp @qh_ ?_
      refine Again.mk (k+1) (by omega) (by omega) ?_ rfl
      rw[←abp_,afG_ _ _ _ _ (by omega),if_neg (by omega)]
     ·have hk8':k=8:=by omega
      subst hk8'
      first|with_reducible refine ks [] @qh_ ?_|refine kp @qh_ ?_
      refine⟨_,_,_,(ke @qh_),rfl,⟨hw1,hw2,trivial⟩, ?_⟩
      exact⟨rfl,rfl⟩
end Go.Proofs
end
section
open Go Go.Proofs Go.Sx Go.Dig
namespace Go.Proofs
set_option maxRecDepth 10000
set_option maxHeartbeats 1000000
set_option linter.unusedSimpArgs false
theorem ahZ_ (n:Nat):UInt64.ofInt (n:Int)=UInt64.ofNat n:=by
 apply UInt64.toNat.inj
 rw[show UInt64.ofInt (n:Int)=UInt64.ofNat ((n:Int)%2^64).toNat from rfl,UInt64.toNat_ofNat',UInt64.toNat_ofNat']
 omega
theorem amD_ (b o:Nat):qJ_ Tryz.prog .eql 295 (vp b o) (.pointer none)=some (.bool false):=by
 simp[qJ_,eqX,qw_,qE_,Tryz.underlying295,vp]
theorem agh_:qJ_ Tryz.prog .eql 295 (.pointer none) (.pointer none)=some (.bool true):=by
 simp[qJ_,eqX,qw_,qE_,Tryz.underlying295]
theorem aiG_ (b o:Nat):qJ_ Tryz.prog .neq 295 (vp b o) (.pointer none)=some (.bool true):=by
 simp[qJ_,eqX,qw_,qE_,Tryz.underlying295,vp]
theorem abi_:qJ_ Tryz.prog .neq 295 (.pointer none) (.pointer none)=some (.bool false):=by
 simp[qJ_,eqX,qw_,qE_,Tryz.underlying295]
set_option linter.defProp false
def jb_:=And.intro (And.intro (And.intro (And.intro (@wh_) (@ws_)) (And.intro (@wu_) (And.intro (@vu_) (@wm_)))) (And.intro (And.intro (@wi_) (@vb_)) (And.intro (@kE_) (And.intro (@j5_) (@vt_))))) (And.intro (And.intro (And.intro (@ve_) (@vs_)) (And.intro (@vw_) (And.intro (@vo_) (@kx_)))) (And.intro (And.intro (@jn_) (@amD_)) (And.intro (@agh_) (And.intro (@aiG_) (@abi_)))))
theorem KM_ (b:Nat) (bg:Bool) (st:List UInt32) (rest:List UInt8) (many:Int) (taken:UInt64) (w:World) (hG:GlobE w) (hb:3<b) (hs:st.length=8) (hr:rest.length=64)
  (ho:w.heap[b]? =some (.cells (zM_ bg st rest many taken) 260 (0,0))):
  Rets Tryz.prog 214 #[vp b 0] w (fun v D=> ∃o,D= [(b,o)]∧v= .tuple #[]∧o= .cells (zM_ true (if bg then st else initL) rest many taken) 260 (0,0)):=by
 obtain⟨e0,e1,f0,f1,h0,h1⟩:=hG
 have hil:initL.length=8:=rfl
 refine Rets.enterM Tryz.func214 rfl (rs:= []) Tryz.results214 Tryz.ntmps214 ho ?_
 refine kf ?_
 cases bg
 ·first|with_reducible refine ks [] (And.intro @jb_ @h0) ?_|refine kp (And.intro @jb_ @h0) ?_
  refine⟨_,_,_,(ke @jb_),rfl,trivial, ?_⟩
  exact⟨rfl,rfl⟩
 ·first|with_reducible refine ks [] (And.intro @jb_ @h0) ?_|refine kp (And.intro @jb_ @h0) ?_
  refine⟨_,_,_,(ke @jb_),rfl,trivial, ?_⟩
  exact⟨rfl,rfl⟩
theorem QY_ (b:Nat) (s:Hs) (taken:UInt64) (x:UInt8) (w:World) (hG:GlobE w) (hb:3<b) (hs:s.Ok)
  (ho:w.heap[b]? =some (.cells (kJ_ s taken) 260 (0,0))):
  Rets Tryz.prog 215 #[vp b 0,v8 x] w (fun v D=> ∃o,D= [(b,o)]∧v= .tuple #[]∧o= .cells (kJ_ (Xs_ s x) taken) 260 (0,0)):=by
 obtain⟨st,rest,many⟩:=s
 obtain⟨hst,hrt,hmn⟩:=hs
 simp only[kJ_] at ho hst hrt hmn ⊢
 refine Rets.enterM Tryz.func215 rfl (rs:= []) Tryz.results215 Tryz.ntmps215 ho ?_
 refine kf ?_
 first|with_reducible refine ks [] @jb_ ?_|refine kp @jb_ ?_
 refine Cw.regionO [0,1,2,3,5,6,7,4,8,9] [9] rfl (by kernel_rfl) (by kernel_rfl) ?_
 simp only[zh_, ↓zc_, ↓zb_, ↓zn_, ↓zo_,za_]
 refine kq @jb_ ?_
 refine Ow.store rfl rfl rfl (ke @jb_) ?_
 refine ko @jb_ ?_
 first|with_reducible refine ks [] @jb_ ?_|refine kp @jb_ ?_
 unfold Xs_
 by_cases h64:many+1=64
 ·simp only[h64, ↓reduceIte]
  have h64': (many:Int)+1=64:=by omega
  have h63:many=63:=by omega
  subst h63
  rw[aod_ _ _ _ _ _ _ (by omega)]
  first|with_reducible refine ks [] @jb_ ?_|refine kp @jb_ ?_
  refine Ow.callM rfl rfl Tryz.call232 (by simp[keys]) (fun w' hw'=>ai9_ _ _ _ _ _ _ w' (GlobE.of hG hw' (by simp[keys];omega)) hb hst (by simp[hrt]) (hw'.has _ _ List.mem_cons_self)) ?_
  refine ko @jb_ ?_
  first|with_reducible refine ks [] @jb_ ?_|refine kp @jb_ ?_
  refine⟨_,_,_,(ke @jb_),rfl,trivial, ?_⟩
  exact⟨rfl,rfl⟩
 ·rw[aok_ _ _ _ _ _ _ (by omega)]
  simp only[h64, ↓reduceIte]
  first|with_reducible refine ks [] @jb_ ?_|refine kp @jb_ ?_
  refine⟨_,_,_,(ke @jb_),rfl,trivial, ?_⟩
  exact⟨rfl,by rw[if_neg h64];simp⟩
theorem acW_ (b:Nat) (bg:Bool) (s:Hs) (taken:UInt64) (x:Value) (b2 off:Nat) (l:List (List UInt8)) (arr:Array Value) (E:TypeId) (fz:Nat×Nat) (w:World) (hG:GlobE w) (hb:3<b) (hs:s.Ok) (hne:0<l.length→b≠b2)
  (hS:StrS w x l b2 off arr E fz) (hn:l.length<1099511627776) (hz: ∀i,i<l.length→(l.getD i []).length<1099511627776)
  (ho:w.heap[b]? =some (.cells (zM_ bg s.st s.rest s.many taken) 260 (0,0))):
  Rets Tryz.prog 180 #[vp b 0,x] w (fun v D=> ∃o,D= [(b,o)]∧v= .tuple #[]∧o= .cells (kJ_ (q4_ (wE_ bg s) l.flatten) (k9_ taken l)) 260 (0,0)):=by
 obtain⟨e0,e1,f0,f1,h0,h1⟩:=id hG
 obtain⟨st,rest,many⟩:=s
 obtain⟨hst,hrt,hmn⟩:=id hs
 simp only[kJ_] at ho hst hrt hmn ⊢
 refine Rets.enterM Tryz.func180 rfl (rs:= []) Tryz.results180 Tryz.ntmps180 ho ?_
 refine kf ?_
 first|with_reducible refine ks [] @jb_ ?_|refine kp @jb_ ?_
 refine Ow.callM rfl rfl Tryz.call214 (by simp[keys]) (fun w' hw'=>KM_ _ _ _ _ _ _ w' (GlobE.of hG hw' (by simp[keys];omega)) hb hst hrt (hw'.has _ _ List.mem_cons_self)) ?_
 refine ko @jb_ ?_
 ((try with_reducible refine Cw.go [] ?_);(try simp(disch:=(first|assumption|omega| (simp only[jF_,jE_,UInt64.reduceToNat];try omega))) only[↓Sx.S0,Sx.S1,Tryz.fx,jb_,Nat.reduceAdd,Nat.reducePow,Int.reducePow,Nat.reduceBEq, ↓reduceIte,UInt8.reduceToNat,UInt16.reduceToNat,UInt32.reduceToNat,UInt64.reduceToNat,Int.reduceToNat,hS.len]))
 have e:zM_ true (if bg=true then st else initL) rest many taken=kJ_ (q4_ (wE_ bg ⟨st,rest,many⟩) (l.take 0).flatten) (k9_ taken (l.take 0)):=by cases bg<;>rfl
 rw[e]
 have hok0:=WD_ bg hs
 generalize wE_ bg ⟨st,rest,many⟩=S0 at*
 refine Cw.loopG (G:=Nat) [14,15,16,5,17,18,19,20,21,6,22,23,24,25,26,27,28,29,30,31,32,33,34,35,36,37,38,13] (fun g=> [(13,vi g)]) (fun g=> [(b, .cells (kJ_ (q4_ S0 (l.take g).flatten) (k9_ taken (l.take g))) 260 (0,0))]) (fun g=>g≤l.length) (fun g=>l.length - g) 0 rfl rfl ?_ ?_
 ·omega
 intro g j hg
 refine kv ?_
 by_cases hlt:g<l.length
 ·have hlg:=hS.get g hlt
  have hb2:=hS.has (by omega)
  have hne2:=hne (by omega)
  have hzg:=hz g hlt
  ((try with_reducible refine Cw.go [] ?_);(try simp(disch:=(first|assumption|omega| (simp only[jF_,jE_,UInt64.reduceToNat];try omega))) only[↓Sx.S0,Sx.S1,Tryz.fx,jb_,Nat.reduceAdd,Nat.reducePow,Int.reducePow,Nat.reduceBEq, ↓reduceIte,UInt8.reduceToNat,UInt16.reduceToNat,UInt32.reduceToNat,UInt64.reduceToNat,Int.reduceToNat,Sx.loadV_one,hb2,hlg,hS.idx]))
  have hok:=vx_ (l.take g).flatten hok0
  rw[show kJ_ (q4_ S0 (l.take g).flatten) (k9_ taken (l.take g))=kJ_ (q4_ (q4_ S0 (l.take g).flatten) ((l.getD g []).take 0)) (k9_ taken (l.take g)) from rfl]
  refine Cw.loopG (G:=Nat) [20,21,6,22,23,24,25,26,27,19] (fun k=> [(19,vi k)]) (fun k=> [(b, .cells (kJ_ (q4_ (q4_ S0 (l.take g).flatten) ((l.getD g []).take k)) (k9_ taken (l.take g))) 260 (0,0))]) (fun k=>k≤ (l.getD g []).length) (fun k=>(l.getD g []).length - k) 0 rfl rfl ?_ ?_
  ·omega
  intro k jk hk
  refine kv ?_
  by_cases hlk:k< (l.getD g []).length
  ·first|with_reducible refine ks [] @jb_ ?_|refine kp @jb_ ?_
   refine Ow.callM rfl rfl Tryz.call215 (by simp[keys]) (fun w' hw'=>QY_ _ _ _ _ w' (GlobE.of hG hw' (by simp[keys];omega)) hb (vx_ _ hok) (hw'.has _ _ List.mem_cons_self)) ?_
   refine ko @jb_ ?_
   first|with_reducible refine ks [] @jb_ ?_|refine kp @jb_ ?_
   refine Again.mk (k+1) (by omega) (by omega) ?_ rfl
   rw[KE_ _ _ _ hlk]
  ·have hke:k=(l.getD g []).length:=by omega
   subst hke
   have hok2:=vx_ (l.getD g []) hok
   have hok3:=hok2.st
   have hok4:=hok2.rest
   rw[List.take_length]
   unfold kJ_
   first|with_reducible refine ks [] @jb_ ?_|refine kp @jb_ ?_
   refine Again.mk (g+1) (by omega) (by omega) ?_ rfl
   rw[aaO_ _ _ hlt,jQ_,aca_ _ _ _ hlt,show UInt64.ofInt ((l.getD g []).length:Int)=UInt64.ofNat (l.getD g []).length from ahZ_ _]
 ·have hge:g=l.length:=by omega
  subst hge
  first|with_reducible refine ks [] @jb_ ?_|refine kp @jb_ ?_
  rw[List.take_length]
  refine⟨_,_,_,(ke @jb_),rfl,trivial, ?_⟩
  exact⟨rfl,rfl⟩
end Go.Proofs
end
namespace Go.Dig
open Go.Sx
def QL_ (m:Nat):Nat:=(120 - m)%64
def lenB (t:UInt64) (g:Nat):UInt8:=UInt8.ofNat (jT_ (8*t) (56 - 8*g)).toNat
def len8 (t:UInt64):List UInt8:=(List.range 8).map (lenB t)
def outB (st:List UInt32) (j:Nat):UInt8:=UInt8.ofNat (zP_ (st.getD (j / 4) 0) (24 - 8* (j%4))).toNat
def xx_ (st:List UInt32) (k:Nat):List UInt8:=(List.range 32).map fun j=>if j<k then outB st j else 0
def ael_ (s:Hs) (taken:UInt64):Hs:=q4_ (q4_ (Xs_ s 128) (List.replicate (QL_ (Xs_ s 128).many) 0)) (len8 taken)
def hsum (s:Hs) (taken:UInt64):List UInt8:=xx_ (ael_ s taken).st 32
def H0:Hs:=⟨initL,List.replicate 64 0,0⟩
theorem aoc_:H0.Ok:=⟨rfl,by simp[H0],by show(0:Nat)<64;omega⟩
def sumV (l:List (List UInt8)):List UInt8:=hsum (q4_ H0 l.flatten) (k9_ 0 l)
theorem ahu_ {s:Hs} (x:UInt8) (h:s.Ok): (Xs_ s x).many=(s.many+1)%64:=by
 have:=h.many
 unfold Xs_
 split
 ·show 0=_;omega
 ·show s.many+1=_;omega
theorem ae1_ {s:Hs} (l:List UInt8) (h:s.Ok): (q4_ s l).many=(s.many+l.length)%64:=by
 induction l generalizing s with
 |nil=>have:=h.many;show s.many=_;simp;omega
 |cons x r ih=>
  show(q4_ (Xs_ s x) r).many=_
  rw[ih (VJ_ x h),ahu_ x h,List.length_cons];omega
theorem ah9_ (s:Hs) (x:UInt8) (j:Nat):q4_ s (List.replicate (j+1) x)=Xs_ (q4_ s (List.replicate j x)) x:=by
 rw[List.replicate_succ',jQ_];rfl
theorem outPre_length (st:List UInt32) (k:Nat): (xx_ st k).length=32:=by simp[xx_]
theorem adb_ (st:List UInt32):xx_ st 0=List.replicate 32 0:=by
 apply List.ext_getElem
 ·simp[xx_]
 intro k hk1 hk2
 simp only[xx_,List.getElem_map,List.getElem_range,List.getElem_replicate]
 rw[if_neg (by omega)]
theorem vA_ (st:List UInt32) (k:Nat): (xx_ st k).set k (outB st k)=xx_ st (k+1):=by
 apply List.ext_getElem
 ·simp[xx_]
 intro j hk1 hk2
 rw[List.getElem_set]
 by_cases h:k=j
 ·subst h;simp[xx_]
 ·rw[if_neg h]
  simp only[xx_,List.getElem_map,List.getElem_range]
  by_cases h1:j<k
  ·rw[if_pos h1,if_pos (by omega)]
  ·rw[if_neg h1,if_neg (by omega)]
theorem Vi_ (st:List UInt32) (i r:Nat) (h:r<4):outB st (4*i+r)=UInt8.ofNat (zP_ (st.getD i 0) (24 - 8*r)).toNat:=by
 unfold outB
 rw[show(4*i+r) / 4=i by omega,show(4*i+r)%4=r by omega]
theorem V5_ (x:UInt32):zP_ x 0=x:=by
 apply UInt32.toNat.inj
 have:=x.toNat_lt
 rw[zP_,UInt32.toNat_ofNat']
 simp
theorem abv_ (st:List UInt32) (i:Nat):
  ((((xx_ st (4*i)).set (4*i) (UInt8.ofNat (zP_ (st.getD i 0) 24).toNat)).set (4*i+1) (UInt8.ofNat (zP_ (st.getD i 0) 16).toNat)).set (4*i+2) (UInt8.ofNat (zP_ (st.getD i 0) 8).toNat)).set (4*i+3) (UInt8.ofNat (st.getD i 0).toNat)=xx_ st (4* (i+1)):=by
 have h0:=Vi_ st i 0 (by omega)
 have h1:=Vi_ st i 1 (by omega)
 have h2:=Vi_ st i 2 (by omega)
 have h3:=Vi_ st i 3 (by omega)
 rw[Nat.add_zero] at h0
 rw[show 24 - 8*3=0 from rfl,V5_] at h3
 rw[←h3,←h2,←h1,←h0,vA_,vA_,vA_,vA_]
 rw[show 4* (i+1)=4*i+1+1+1+1 by omega]
theorem adl_ (t:UInt64): (len8 t).length=8:=by simp[len8]
theorem aiU_ (t:UInt64) (g:Nat) (h:g<8): (len8 t).getD g 0=lenB t g:=by simp[len8,List.getD_eq_getElem?_getD,h]
end Go.Dig
section
open Go Go.Proofs Go.Sx Go.Dig
namespace Go.Proofs
set_option maxRecDepth 10000
set_option maxHeartbeats 1000000
set_option linter.unusedSimpArgs false
set_option linter.defProp false
def jh_:=And.intro (And.intro (And.intro (And.intro (@wh_) (@ws_)) (And.intro (@wu_) (And.intro (@vu_) (@wm_)))) (And.intro (And.intro (@wi_) (@vb_)) (And.intro (@kE_) (And.intro (@j5_) (@vt_))))) (And.intro (And.intro (And.intro (@ve_) (@vs_)) (And.intro (@vw_) (And.intro (@vo_) (@kx_)))) (And.intro (And.intro (@jn_) (@amD_)) (And.intro (@agh_) (And.intro (@aiG_) (@abi_)))))
theorem alP_:zK_ Tryz.prog 260=some (.agg (zM_ false (List.replicate 8 0) (List.replicate 64 0) 0 0)):=id (by kernel_rfl)
theorem Kj_ (bg:Bool) (st:List UInt32) (rest:List UInt8) (many:Int) (taken:UInt64):Value.cells (.agg (zM_ bg st rest many taken))=zM_ bg st rest many taken:=ze_ _
theorem wH_ {bg bg':Bool} {st st':List UInt32} {rest rest':List UInt8} {many many':Int} {taken taken':UInt64} {E:TypeId} (h:st.length=8∧rest.length=64∧st'.length=8∧rest'.length=64):
  zp_ (some (true,75)) (some (.cells (zM_ bg' st' rest' many' taken') E (0,0))) 0 (.agg (zM_ bg st rest many taken))=some (.cells (zM_ bg st rest many taken) E (0,0)):=
 j5_ _ ⟨h.1,h.2.1,jB_ h.2.2⟩
theorem aiJ_ (b:Nat) (bg:Bool) (s:Hs) (taken:UInt64) (w:World) (hG:GlobE w) (hb:3<b) (hs:s.Ok)
  (ho:w.heap[b]? =some (.cells (zM_ bg s.st s.rest s.many taken) 260 (0,0))):
  Rets Tryz.prog 181 #[vp b 0] w (fun v D=>v= .agg (a8 (hsum (wE_ bg s) taken))∧D= []):=by
 obtain⟨e0,e1,f0,f1,h0,h1⟩:=id hG
 obtain⟨st,rest,many⟩:=s
 obtain⟨hst,hrt,hmn⟩:=id hs
 simp only at ho hst hrt hmn ⊢
 refine Rets.enterV Tryz.func181 rfl (rs:= [.cell 2 37]) Tryz.results181 Tryz.ntmps181 ?_
 refine kf ?_
 first|with_reducible refine ks [] @jh_ ?_|refine kp @jh_ ?_
 refine Ow.alloc rfl rfl Tryz.zr37 fun b1 hb1 hw1=> ?_
 refine ko @jh_ ?_
 first|with_reducible refine ks [] @jh_ ?_|refine kp @jh_ ?_
 refine Ow.alloc rfl rfl alP_ fun b2 hb2 hw2=> ?_
 obtain⟨h12,-⟩:=hb2
 have hbl:=(Array.getElem?_eq_some_iff.1 ho).1
 rw[Kj_]
 refine ko @jh_ ?_
 first|with_reducible refine ks [] (And.intro @jh_ (And.intro @ho (@wH_))) ?_|refine kp (And.intro @jh_ (And.intro @ho (@wH_))) ?_
 refine Ow.callM rfl rfl Tryz.call214 (by simp[keys]) (fun w' hw'=>KM_ _ _ _ _ _ _ w' (GlobE.of hG hw' (by simp[keys];omega)) (by omega) hst hrt (hw'.has _ _ (List.mem_cons_of_mem _ List.mem_cons_self))) ?_
 refine ko @jh_ ?_
 first|with_reducible refine ks [] @jh_ ?_|refine kp @jh_ ?_
 have e:zM_ true (if bg=true then st else initL) rest many taken=kJ_ (wE_ bg ⟨st,rest,many⟩) taken:=by cases bg<;>rfl
 rw[e]
 have hok0:=WD_ bg hs
 generalize wE_ bg ⟨st,rest,many⟩=S0 at*
 refine Ow.callM rfl rfl Tryz.call215 (by simp[keys]) (fun w' hw'=>QY_ _ _ _ 128 w' (GlobE.of hG hw' (by simp[keys];omega)) (by omega) hok0 (hw'.has _ _ (List.mem_cons_of_mem _ List.mem_cons_self))) ?_
 refine ko @jh_ ?_
 have hok1:=VJ_ 128 hok0
 have ep:ael_ S0 taken=q4_ (q4_ (Xs_ S0 128) (List.replicate (QL_ (Xs_ S0 128).many) 0)) (len8 taken):=rfl
 unfold hsum
 rw[ep]
 generalize Xs_ S0 128=S1 at*
 first|with_reducible refine ks [] @jh_ ?_|refine kp @jh_ ?_
 rw[show kJ_ S1 taken=kJ_ (q4_ S1 (List.replicate 0 0)) taken from rfl]
 have hz: (S1.many+QL_ S1.many)%64=56∧QL_ S1.many<64:=by have:=hok1.many;unfold QL_;omega
 refine Cw.loopG (G:=Nat) [15,16,17,18] (fun g=> []) (fun g=> [(b1, .cells (a8 (List.replicate 32 0)) 37 (0,0)),(b2, .cells (kJ_ (q4_ S1 (List.replicate g 0)) taken) 260 (0,0))]) (fun g=>g≤QL_ S1.many) (fun g=>QL_ S1.many - g) 0 rfl rfl ?_ ?_
 ·omega
 intro g j hg
 refine kv ?_
 have hokg:=vx_ (List.replicate g 0) hok1
 have hm:=ae1_ (List.replicate g 0) hok1
 rw[List.length_replicate] at hm
 have hg1:=hokg.st
 have hg2:=hokg.rest
 by_cases hlt:g<QL_ S1.many
 ·have hzz: (S1.many+g)%64≠56:=by have:=hok1.many;unfold QL_ at hlt;omega
  unfold kJ_
  first|with_reducible refine ks [] @jh_ ?_|refine kp @jh_ ?_
  refine Ow.callM rfl rfl Tryz.call215 (by simp[keys]) (fun w' hw'=>QY_ _ _ _ 0 w' (GlobE.of hG hw' (by simp[keys];omega)) (by omega) hokg (hw'.has _ _ (List.mem_cons_of_mem _ List.mem_cons_self))) ?_
  refine ko @jh_ ?_
  first|with_reducible refine ks [] @jh_ ?_|refine kp @jh_ ?_
  refine Again.mk (g+1) (by omega) (by omega) ?_ rfl
  rw[ah9_];rfl
 ·have hge:g=QL_ S1.many:=by omega
  subst hge
  unfold kJ_
  first|with_reducible refine ks [] @jh_ ?_|refine kp @jh_ ?_
  generalize q4_ S1 (List.replicate (QL_ S1.many) 0)=S2 at*
  rw[show zM_ true S2.st S2.rest S2.many taken=kJ_ (q4_ S2 ((len8 taken).take 0)) taken from rfl]
  have h8:=adl_ taken
  refine Cw.loopG (G:=Nat) [19,20,23,24,25,26,27,28,29,21,22,4] (fun k=> [(4,vi (56 - 8*k))]) (fun k=> [(b1, .cells (a8 (List.replicate 32 0)) 37 (0,0)),(b2, .cells (kJ_ (q4_ S2 ((len8 taken).take k)) taken) 260 (0,0))]) (fun k=>k≤8) (fun k=>8 - k) 0 rfl rfl ?_ ?_
  ·omega
  intro k jk hk
  refine kv ?_
  have hokk:=vx_ ((len8 taken).take k) hokg
  have hk1:=hokk.st
  have hk2:=hokk.rest
  by_cases hk8:k<8
  ·unfold kJ_
   first|with_reducible refine ks [] @jh_ ?_|refine kp @jh_ ?_
   rw[show(56 - 8* (k:Int)).toNat=56 - 8*k from by omega]
   refine Ow.callM rfl rfl Tryz.call215 (by simp[keys]) (fun w' hw'=>QY_ _ _ _ (lenB taken k) w' (GlobE.of hG hw' (by simp[keys];omega)) (by omega) hokk (hw'.has _ _ (List.mem_cons_of_mem _ List.mem_cons_self))) ?_
   refine ko @jh_ ?_
   first|with_reducible refine ks [] @jh_ ?_|refine kp @jh_ ?_
   refine Again.mk (k+1) (by omega) (by omega) ?_ ?_
   ·rw[KE_ _ _ _ (by omega),aiU_ _ _ hk8];rfl
   ·rw[show(56 - 8* ((k+1:Nat):Int))=56 - 8* (k:Int) - 8 from by omega];rfl
  ·have hke:k=8:=by omega
   subst hke
   first|with_reducible refine ks [] @jh_ ?_|refine kp @jh_ ?_
   rw[List.take_of_length_le (show(len8 taken).length≤8 by omega)] at*
   generalize q4_ S2 (len8 taken)=S3 at*
   refine Ow.alloc rfl rfl Tryz.zr37 fun b3 hb3 hw3=> ?_
   obtain⟨h13,h23,-⟩:=hb3
   unfold kJ_
   refine ko @jh_ ?_
   first|with_reducible refine ks [] @jh_ ?_|refine kp @jh_ ?_
   rw[show a8 (List.replicate 32 0)=a8 (xx_ S3.st (4*0)) from by rw[adb_]]
   have h3s:=(vx_ (len8 taken) hokg).st
   have hS3:S3.st.length=8:=hk1
   refine Cw.loopG (G:=Nat) [33,34,35,6,7,36,37,38,39,40,41,42,43,44,45,46,47,48,49,50,51,52,53,54,55,56,57,58,59,60,61,62,32] (fun i=> [(32,vi i)]) (fun i=> [(b1, .cells (a8 (xx_ S3.st (4*0))) 37 (0,0)),(b2, .cells (zM_ true S3.st S3.rest S3.many taken) 260 (0,0)),(b3, .cells (a8 (xx_ S3.st (4*i))) 37 (0,0))]) (fun i=>i≤8) (fun i=>8 - i) 0 rfl rfl ?_ ?_
   ·omega
   intro i ji hi
   refine kv ?_
   have hol:=outPre_length S3.st (4*i)
   have hol0:=outPre_length S3.st (4*0)
   by_cases hi8:i<8
   ·first|with_reducible refine ks [] @jh_ ?_|refine kp @jh_ ?_
    refine Again.mk (i+1) (by omega) (by omega) ?_ rfl
    rw[abv_]
   ·have hie:i=8:=by omega
    subst hie
    first|with_reducible refine ks [] @jh_ ?_|refine kp @jh_ ?_
    rw[show 4*8=32 from rfl]
    refine⟨_,(ke @jh_),⟨hw1,hw2,hw3,trivial⟩, ?_⟩
    rfl
end Go.Proofs
end
section
open Go Go.Proofs Go.Sx Go.Dig
namespace Go.Proofs
set_option maxRecDepth 10000
set_option maxHeartbeats 1000000
set_option linter.unusedSimpArgs false
set_option linter.defProp false
def w4_:=And.intro (And.intro (And.intro (And.intro (@wh_) (@ws_)) (And.intro (@wu_) (And.intro (@vu_) (@wm_)))) (And.intro (And.intro (@wi_) (@vb_)) (And.intro (@kE_) (And.intro (@j5_) (@vt_))))) (And.intro (And.intro (And.intro (@ve_) (@vs_)) (And.intro (@vw_) (And.intro (@vo_) (@kx_)))) (And.intro (And.intro (@jn_) (@amD_)) (And.intro (@agh_) (And.intro (@aiG_) (@abi_)))))
theorem ag5_ (x:Value) (b2 off:Nat) (l:List (List UInt8)) (arr:Array Value) (E:TypeId) (fz:Nat×Nat) (w:World) (hG:GlobE w)
  (hS:StrS w x l b2 off arr E fz) (hn:l.length<1099511627776) (hz: ∀i,i<l.length→(l.getD i []).length<1099511627776):
  Rets Tryz.prog 160 #[x] w (fun v D=>v= .agg (a8 (sumV l))∧D= []):=by
 obtain⟨e0,e1,f0,f1,h0,h1⟩:=id hG
 have hg1:3<w.heap.size:=(Array.getElem?_eq_some_iff.1 h1).1
 have hbl:0<l.length→b2<w.heap.size:=fun h=>(Array.getElem?_eq_some_iff.1 (hS.has h)).1
 refine Rets.enterV Tryz.func160 rfl (rs:= [.cell 2 37]) Tryz.results160 Tryz.ntmps160 ?_
 refine kf ?_
 first|with_reducible refine ks [] @w4_ ?_|refine kp @w4_ ?_
 refine Ow.alloc rfl rfl Tryz.zr37 fun b1 hb1 hw1=> ?_
 refine ko @w4_ ?_
 first|with_reducible refine ks [] @w4_ ?_|refine kp @w4_ ?_
 refine Ow.alloc rfl rfl alP_ fun b3 hb3 hw3=> ?_
 obtain⟨h13,-⟩:=hb3
 rw[Kj_]
 refine ko @w4_ ?_
 first|with_reducible refine ks [] @w4_ ?_|refine kp @w4_ ?_
 refine Ow.callM rfl rfl Tryz.call180 (by simp[keys]) (fun w' hw'=>acW_ _ _ ⟨List.replicate 8 0,List.replicate 64 0,0⟩ _ _ _ _ _ _ _ _ w' (GlobE.of hG hw' (by simp[keys];omega)) (by omega) ⟨by simp,by simp,by simp⟩ (fun h=>by have:=hbl h;omega) (hS.old hw' (fun h=>by have:=hbl h;simp[keys];omega)) hn hz (hw'.has _ _ (List.mem_cons_of_mem _ List.mem_cons_self))) ?_
 refine ko @w4_ ?_
 first|with_reducible refine ks [] @w4_ ?_|refine kp @w4_ ?_
 have hok:=vx_ l.flatten aoc_
 have e:wE_ false ⟨List.replicate 8 0,List.replicate 64 0,0⟩=H0:=rfl
 rw[e]
 refine Ow.callFV rfl Tryz.call181 (fun w' hw'=>aiJ_ _ true _ _ w' (GlobE.of hG hw' (by simp[keys];omega)) (by omega) hok (hw'.has _ _ (List.mem_cons_of_mem _ List.mem_cons_self))) ?_
 have hsl: (hsum (wE_ true (q4_ H0 l.flatten)) (k9_ 0 l)).length=32:=outPre_length _ _
 refine ko @w4_ ?_
 first|with_reducible refine ks [] @w4_ ?_|refine kp @w4_ ?_
 refine⟨_,(ke @w4_),⟨hw1,hw3,trivial⟩, ?_⟩
 rfl
end Go.Proofs
end
namespace Go.Dig
open Go.Sx
def quoN (t:UInt64):Nat→UInt64
 |0=>t
 |n+1=>quoN t n / 256
def apO_ (t:UInt64) (j:Nat):UInt8:=UInt8.ofNat (jT_ t (56 - 8*j)).toNat
def aqh_ (t:UInt64) (i:Nat):List UInt8:=(List.range 8).map fun j=>if 8≤j+i then apO_ t j else 0
def padR (m:List UInt8):List UInt8:=m++ [128]++List.replicate (QL_ ((m.length+1)%64)) 0++len8 (UInt64.ofNat m.length)
def shaR (m:List UInt8):List UInt8:=xx_ (XC_ initL (padR m) ((padR m).length / 64)) 32
end Go.Dig
section
open Go Go.Proofs Go.Sx Go.Dig
namespace Go.Proofs
set_option maxRecDepth 10000
set_option maxHeartbeats 1000000
set_option linter.unusedSimpArgs false
set_option linter.defProp false
def arx_:= @jn_
end Go.Proofs
end
section
open Go Go.Proofs Go.Sx Go.Dig
namespace Go.Proofs
set_option maxRecDepth 10000
set_option maxHeartbeats 1000000
set_option linter.unusedSimpArgs false
set_option linter.defProp false
def ari_:= @jn_
end Go.Proofs
end
namespace Go.Dig
open Go.Sx
structure Inv (s:Hs) (p:List UInt8):Prop where
 ok:s.Ok
 st:s.st=XC_ initL p (p.length / 64)
 many:s.many=p.length%64
 rest:s.rest.take s.many=p.drop (64* (p.length / 64))
theorem Inv.put {s:Hs} {p:List UInt8} (h:Inv s p) (x:UInt8):Inv (Xs_ s x) (p++ [x]):=by
 obtain⟨hok,hst,hmany,hrest⟩:=h
 have hk:=VJ_ x hok
 have hm64:=hok.many
 have hrl:=hok.rest
 have hle:64* (p.length / 64)≤p.length:=by omega
 have htake: (s.rest.set s.many x).take (s.many+1)=p.drop (64* (p.length / 64))++ [x]:=by
  rw[List.take_add_one,List.take_set,←hrest]
  congr 1
  ·rw[List.set_eq_of_length_le (by simp only[List.length_take];exact Nat.min_le_left _ _)]
  ·simp[hrl,hm64]
 have hlen: (p++ [x]).length=p.length+1:=by simp
 have hc:XC_ initL (p++ [x]) (p.length / 64)=XC_ initL p (p.length / 64):=aay_ _ _ _ _ hle
 by_cases h64:s.many+1=64
 ·have e:Xs_ s x=⟨comp s.st (s.rest.set s.many x),s.rest.set s.many x,0⟩:=by unfold Xs_;rw[if_pos h64]
  have hd: (p.length+1) / 64=p.length / 64+1:=by omega
  have hr: (s.rest.set s.many x)=p.drop (64* (p.length / 64))++ [x]:=by
   rw[←htake,h64,List.take_of_length_le (by simp[hrl])]
  refine⟨hk, ?_, ?_, ?_⟩
  ·rw[e,hlen,hd]
   show comp s.st _=comp (XC_ initL (p++ [x]) (p.length / 64)) _
   rw[hc,←hst,hr,List.drop_append_of_le_length hle,List.take_of_length_le (by simp;omega)]
  ·rw[e,hlen];show 0=_;omega
  ·rw[e,hlen]
   show List.take 0 _=_
   rw[List.take_zero,List.drop_of_length_le (by rw[hlen];omega)]
 ·have e:Xs_ s x=⟨s.st,s.rest.set s.many x,s.many+1⟩:=by unfold Xs_;rw[if_neg h64]
  have hd: (p.length+1) / 64=p.length / 64:=by omega
  refine⟨hk, ?_, ?_, ?_⟩
  ·rw[e,hlen,hd,hc];exact hst
  ·rw[e,hlen];show s.many+1=_;omega
  ·rw[e,hlen,hd]
   show List.take (s.many+1) (s.rest.set s.many x)=_
   rw[htake,List.drop_append_of_le_length hle]
theorem Inv.puts {s:Hs} {p:List UInt8} (h:Inv s p) (l:List UInt8):Inv (q4_ s l) (p++l):=by
 induction l generalizing s p with
 |nil=>rw[List.append_nil];exact h
 |cons x r ih=>
  have:=ih (h.put x)
  rw[List.append_assoc] at this
  exact this
theorem Inv.zero:Inv H0 []:=⟨aoc_,rfl,rfl,rfl⟩
theorem alA_ (p:List UInt8): (q4_ H0 p).st=XC_ initL p (p.length / 64):=(Inv.zero.puts p).st
theorem ahM_ (l:List (List UInt8)) (n:Nat):k9_ (UInt64.ofNat n) l=UInt64.ofNat (n+l.flatten.length):=by
 induction l generalizing n with
 |nil=>rfl
 |cons a r ih=>
  show k9_ (UInt64.ofNat n+UInt64.ofNat a.length) r=_
  rw[←UInt64.ofNat_add,ih,List.flatten_cons,List.length_append,Nat.add_assoc]
theorem amw_ (m:List UInt8):hsum (q4_ H0 m) (UInt64.ofNat m.length)=shaR m:=by
 unfold hsum shaR
 rw[←alA_]
 suffices h:ael_ (q4_ H0 m) (UInt64.ofNat m.length)=q4_ H0 (padR m) by rw[h]
 have hmany: (Xs_ (q4_ H0 m) 128).many=(m.length+1)%64:=by
  have:=((Inv.zero.puts m).put 128).many
  rw[this];simp
 unfold ael_ padR
 rw[hmany,jQ_,jQ_,jQ_,show q4_ (q4_ H0 m) [128]=Xs_ (q4_ H0 m) 128 from rfl]
theorem sumV_eq (l:List (List UInt8)):sumV l=shaR l.flatten:=by
 unfold sumV
 have:=ahM_ l 0
 rw[Nat.zero_add] at this
 rw[show(0:UInt64)=UInt64.ofNat 0 from rfl,this,amw_]
end Go.Dig
section
open Go Go.Proofs Go.Sx Go.StP
namespace Go.Proofs
set_option maxRecDepth 10000
set_option maxHeartbeats 400000
set_option linter.unusedSimpArgs false
theorem GlobE.new {w0 w:World} {L:zd_} (hg:GlobE w0) (h:Hp w0 L w) (hn:New w0.heap.size L):GlobE w:=by
 obtain⟨e0,e1,f0,f1,h0,h1⟩:=id hg
 have:3<w0.heap.size:=(Array.getElem?_eq_some_iff.1 h1).1
 exact hg.of h fun b hb=>by have:=hn.le b hb;omega
theorem aa7_ {k:Int} {t:List UInt8} (h:w8_ k t=true): (kG_ k t).length<100000:=by
 obtain⟨h1,h2,h3⟩:=ai0_ h
 have hh: (ZM_ k).length≤4:=by unfold ZM_;simp only[List.length_drop,List.length_take,List.length_cons,List.length_nil];omega
 have:=zs_ (t.length:Int)
 unfold kG_ xD_
 rw[List.length_append,List.length_append]
 omega
theorem ad9_ (m:List UInt8): (Dig.shaR m).length=32:=Dig.outPre_length _ _
set_option linter.defProp false
def z1_:=And.intro (And.intro (And.intro (@q2_) (@qp_)) (And.intro (@qo_) (@qA_))) (And.intro (And.intro (@Sx.tup2_0) (@Sx.tup2_1)) (And.intro (@zg_) (@zf_)))
def idV (k:Int) (t:List UInt8):IdL:=if w8_ k t then⟨Dig.shaR (kG_ k t),ad9_ _⟩ else id0
theorem aaB_:qg_ (kt_ Tryz.prog 37) (zK_ Tryz.prog 37) []=some (.agg (a8 id0.l)):=id (by kernel_rfl)
theorem aj0_ (k:Int) (t:List UInt8) (w:World) (hG:GlobE w):Rets Tryz.prog 126 #[obV k t] w (fun v D=>v= .tuple #[.agg (a8 (idV k t).l), .bool (w8_ k t)]∧D= []):=by
 refine Rets.enterV Tryz.func126 rfl (rs:= [.cell 2 37, .tmp 3]) Tryz.results126 Tryz.ntmps126 ?_
 refine kf ?_
 first|with_reducible refine ks [] @z1_ ?_|refine kp @z1_ ?_
 refine Ow.box rfl rfl fun b1 hb1 hw1=> ?_
 simp only[qi_,qe_,qc_,ze_,List.nil_append]
 refine ko @z1_ ?_
 refine Ow.alloc rfl rfl JH_ fun b2 hb2 hw2=> ?_
 simp only[ze_,List.nil_append,List.cons_append]
 have h12:b1<b2:=zk_ hb2 (by simp[keys])
 have hi0:=id0.h
 refine ko @z1_ ?_
 refine Ow.callC rfl rfl Tryz.call159 (fun w' hw'=>acQ_ k t w') (fun B v D hA hB hN hS=> ?_)
 have hD:New w.heap.size D:=New.mono hB hN
 unfold idV
 cases hr:w8_ k t
 ·rw[hr,if_neg (by decide)] at hS
  subst hS
  have e: ((1:Int) !=0)=true:=rfl
  refine ko @z1_ ?_
  first|with_reducible refine ks [] (And.intro @z1_ @e) ?_|refine kp (And.intro @z1_ @e) ?_
  refine Ow.build (.agg (a8 id0.l)) rfl aaB_ ?_
  refine ko @z1_ ?_
  first|with_reducible refine ks [] @z1_ ?_|refine kp @z1_ ?_
  refine⟨_,(ke @z1_),⟨hw1,hw2,hD⟩, ?_⟩
  rfl
 ·rw[hr,if_pos rfl] at hS
  subst hS
  have e: ((0:Int) !=0)=false:=rfl
  have hfl:=aa7_ hr
  have hzl: ∀i,i< [kG_ k t].length→([kG_ k t].getD i []).length<1099511627776:=fun i hi=>by
   obtain rfl:i=0:=by simpa using hi
   show(kG_ k t).length<_;omega
  refine ko @z1_ ?_
  first|with_reducible refine ks [] (And.intro @z1_ @e) ?_|refine kp (And.intro @z1_ @e) ?_
  refine Ow.buildSlice (e:=9) #[vs (kG_ k t)] rfl rfl (by kernel_rfl) fun b15 hb15 hw15=> ?_
  refine ko @z1_ ?_
  refine Ow.callFV rfl Tryz.call160 (fun w' hw'=>ag5_ _ b15 0 [kG_ k t] _ _ _ w' (hG.new hw' (by exact⟨hw1,hw2,New.app hD ⟨hw15,trivial⟩⟩)) (StrS.lit [kG_ k t] rfl rfl (hw'.has _ (.cells #[vs (kG_ k t)] 9 (0,0)) (by simp))) (by show(1:Nat)<1099511627776;omega) hzl) ?_
  rw[Dig.sumV_eq,show([kG_ k t]:List (List UInt8)).flatten=kG_ k t by simp]
  have hsl:=ad9_ (kG_ k t)
  refine ko @z1_ ?_
  first|with_reducible refine ks [] @z1_ ?_|refine kp @z1_ ?_
  refine⟨_,(ke @z1_),⟨hw1,hw2,hD.app ⟨hw15,trivial⟩⟩, ?_⟩
  rfl
def aqC_ (k:Int) (t:List UInt8):List UInt8:=(if k=3 then [99] else if k=2 then [116] else [98])++xD_ t
end Go.Proofs
end
section
open Go Go.Proofs Go.Sx Go.StP Go.Flo
namespace Go.Proofs
set_option maxRecDepth 10000
set_option maxHeartbeats 400000
set_option linter.unusedSimpArgs false
structure ObL where
 k:Int
 t:List UInt8
def ob0:ObL:=⟨0,[]⟩
def obC (o:ObL):List Value:= [vi o.k,vs o.t]
theorem Vd_ (o:ObL): (obC o).length=2:=rfl
theorem ace_ (o:ObL): (obC o).all Value.oneCell'=true:=rfl
def zG_ (s:List UInt8):ObL:=⟨if frOk s then frK s else 0,if frOk s then(frT s).1 else []⟩
def j8_ (s:List UInt8):IdL:=idV (zG_ s).k (zG_ s).t
def q8_:List (List UInt8)→List IdL→List ObL→Option (List IdL×List ObL)
 | [],ids,os=>some (ids,os)
 |s::r,ids,os=>if frOk s=true∧(ids.any fun y=>(j8_ s).l==y.l)=false then q8_ r (ids++ [j8_ s]) (os++ [zG_ s]) else none
def fillV (l:List PartL):Option (List IdL×List ObL):=match QK_ l with
 | .ok ts=>q8_ ts [] []
 | .error _=>none
theorem Qa_: ∀ (a b:List (List UInt8)) (ids:List IdL) (os:List ObL),q8_ (a++b) ids os=(q8_ a ids os).bind fun p=>q8_ b p.1 p.2
 | [],_,_,_=>rfl
 |s::a,b,ids,os=>by
  rw[List.cons_append,q8_,q8_]
  split
  ·exact Qa_ a b _ _
  ·rfl
theorem KB_: ∀ (a:List (List UInt8)) (ids:List IdL) (os:List ObL) (p:List IdL×List ObL),q8_ a ids os=some p→p.1.length=ids.length+a.length∧p.2.length=os.length+a.length
 | [],ids,os,p,h=>by cases h;simp
 |s::a,ids,os,p,h=>by
  rw[q8_] at h
  split at h
  ·have:=KB_ a _ _ p h
   simp only[List.length_append,List.length_cons,List.length_nil] at this ⊢
   omega
  ·cases h
theorem Xh_ {a:List (List UInt8)} {s:List UInt8} {p:List IdL×List ObL} (h:q8_ a [] []=some p):
  q8_ (a++ [s]) [] []=if frOk s=true∧(p.1.any fun y=>(j8_ s).l==y.l)=false then some (p.1++ [j8_ s],p.2++ [zG_ s]) else none:=by
 rw[Qa_,h]
 show q8_ [s] p.1 p.2=_
 rw[q8_]
 rfl
theorem acY_ {a b:List (List UInt8)} (h:q8_ a [] []=none):q8_ (a++b) [] []=none:=by
 rw[Qa_,h];rfl
end Go.Proofs
end
section
open Go Go.Proofs Go.Sx
namespace Go.Proofs
set_option maxRecDepth 10000
set_option maxHeartbeats 4000000
set_option linter.unusedSimpArgs false
def hvL:List UInt32:= [0x00000000,0x1db71064,0x3b6e20c8,0x26d930ac,0x76dc4190,0x6b6b51f4,0x4db26158,0x5005713c,0xedb88320,0xf00f9344,0xd6d6a3e8,0xcb61b38c,0x9b64c2b0,0x86d3d2d4,0xa00ae278,0xbdbdf21c]
def WM_ (n:UInt32):UInt32:=zP_ n 4^^^hvL.getD (n&&&15).toNat 0
def aeW_ (n:UInt32):Nat→UInt32
 |0=>n
 |k+1=>WM_ (aeW_ n k)
def af5_ (n:UInt32) (b:UInt8):UInt32:=aeW_ (n^^^UInt32.ofNat b.toNat) 2
theorem agH_ (n:UInt32): (n&&&15).toNat<16:=by
 rw[UInt32.toNat_and]
 exact Nat.lt_of_le_of_lt Nat.and_le_right (by decide)
def GlobC (w:World):Prop:= ∃e f,w.heap[(1:Nat)]? =some (.cells (a32 hvL) e f)
theorem GlobC.of {w w':World} {L:zd_} (h:GlobC w) (hw:Hp w L w') (hn: (1:Nat)∉keys L):GlobC w':=by
 obtain⟨e,f,h⟩:=h
 exact⟨e,f,by rw[hw.old _ (Array.getElem?_eq_some_iff.1 h).1 hn];exact h⟩
theorem al4_:hvL.length=16:=rfl
set_option linter.defProp false
def qb_:=And.intro (And.intro (@zg_) (@wo_)) (And.intro (@wk_) (And.intro (@ww_) (@zf_)))
theorem ahL_ (n:UInt32) (b:UInt8) (w:World) (hG:GlobC w):
  Rets Tryz.prog 183 #[v32 n,v8 b] w (fun v D=>v=v32 (af5_ n b)∧D= []):=by
 obtain⟨e,f,htab⟩:=hG
 refine Rets.enterV Tryz.func183 rfl (rs:= [.tmp 4]) Tryz.results183 Tryz.ntmps183 ?_
 refine kf ?_
 first|with_reducible refine ks [] @qb_ ?_|refine kp @qb_ ?_
 unfold af5_
 generalize n^^^UInt32.ofNat b.toNat=m
 rw[show v32 m=v32 (aeW_ m 0) from rfl]
 refine Cw.loopG (G:=Nat) [10,11,12,13,14,15,16,17,0,18,9] (fun g=> [(0,v32 (aeW_ m g)),(9,vi g)]) (fun g=> []) (fun g=>g≤2) (fun g=>2 - g) 0 rfl rfl ?_ ?_
 ·omega
 intro g j hg
 refine kv ?_
 by_cases hlt:g<2
 ·have h15:=agH_ (aeW_ m g)
  have hl:=al4_
  first|with_reducible refine ks [] (And.intro @qb_ @htab) ?_|refine kp (And.intro @qb_ @htab) ?_
  refine Again.mk (g+1) (by omega) (by omega) rfl rfl
 ·obtain rfl:g=2:=by omega
  first|with_reducible refine ks [] @qb_ ?_|refine kp @qb_ ?_
  refine⟨_,(ke @qb_),trivial, ?_⟩
  rfl
def VZ_ (n:UInt32) (s:List UInt8):UInt32:=s.foldl af5_ n
theorem Kv_ (n:UInt32) (s:List UInt8) (g:Nat) (h:g<s.length):VZ_ n (s.take (g+1))=af5_ (VZ_ n (s.take g)) (s.getD g 0):=by
 unfold VZ_
 rw[List.take_succ_eq_append_getElem h,List.foldl_append,List.getD_eq_getElem?_getD,List.getElem?_eq_getElem h]
 rfl
theorem aho_ (n:UInt32) (s:List UInt8) (w:World) (hG:GlobC w) (hs:s.length<1099511627776):
  Rets Tryz.prog 162 #[v32 n,vs s] w (fun v D=>v=v32 (~~~ (VZ_ (~~~ n) s))∧D= []):=by
 refine Rets.enterV Tryz.func162 rfl (rs:= [.tmp 4]) Tryz.results162 Tryz.ntmps162 ?_
 refine kf ?_
 first|with_reducible refine ks [] @qb_ ?_|refine kp @qb_ ?_
 rw[show v32 (~~~ n)=v32 (VZ_ (~~~ n) (s.take 0)) from rfl]
 refine Cw.loopG (G:=Nat) [12,13,6,14,15,16,17,18,5,19,11] (fun g=> [(5,v32 (VZ_ (~~~ n) (s.take g))),(11,vi g)]) (fun g=> []) (fun g=>g≤s.length) (fun g=>s.length - g) 0 rfl rfl ?_ ?_
 ·omega
 intro g j hg
 refine kv ?_
 by_cases hlt:g<s.length
 ·first|with_reducible refine ks [] @qb_ ?_|refine kp @qb_ ?_
  refine Ow.callFV rfl Tryz.call183 (fun w' hw'=>ahL_ _ _ w' (GlobC.of hG hw' (by simp[keys]))) ?_
  refine ko @qb_ ?_
  first|with_reducible refine ks [] @qb_ ?_|refine kp @qb_ ?_
  refine Again.mk (g+1) (by omega) (by omega) rfl ?_
  rw[Kv_ _ _ _ hlt]
  rfl
 ·obtain rfl:g=s.length:=by omega
  first|with_reducible refine ks [] @qb_ ?_|refine kp @qb_ ?_
  rw[List.take_length]
  refine⟨_,(ke @qb_),trivial, ?_⟩
  rfl
def crcV (s:List UInt8):UInt32:= ~~~ (VZ_ (~~~ (0:UInt32)) s)
theorem ait_ (b:Nat) (s:List UInt8) (E:TypeId) (w:World) (hG:GlobC w) (hs:s.length<1099511627776) (ho:w.heap[b]? =some (.cells #[vs s] E (0,0))):
  Rets Tryz.prog 130 #[vsl b 0 1 1] w (fun v D=>v=v32 (crcV s)∧D= []):=by
 have hS:StrS w (vsl b 0 1 1) [s] b 0 #[vs s] E (0,0):=StrS.lit [s] rfl rfl ho
 refine Rets.enterV Tryz.func130 rfl (rs:= [.tmp 2]) Tryz.results130 Tryz.ntmps130 ?_
 refine kf ?_
 first|with_reducible refine ks [] @qb_ ?_|refine kp @qb_ ?_
 refine Cw.loopG (G:=Nat) [9,10,11,5,12,13,14,3,15,8] (fun g=> [(3,v32 (if g=0 then 0 else crcV s)),(8,vi g)]) (fun g=> []) (fun g=>g≤1) (fun g=>1 - g) 0 rfl rfl ?_ ?_
 ·omega
 intro g j hg
 refine kv ?_
 by_cases hlt:g<1
 ·obtain rfl:g=0:=by omega
  have hlg:=hS.get 0 (by simp)
  have hrd:=hS.has (by simp)
  have hix:=fun m=>hS.idx m 0 (by simp)
  ((try with_reducible refine Cw.go [] ?_);(try simp(disch:=(first|assumption|omega| (simp only[jF_,jE_,UInt64.reduceToNat];try omega))) only[↓Sx.S0,Sx.S1,Tryz.fx,qb_,Nat.reduceAdd,Nat.reducePow,Int.reducePow,Nat.reduceBEq, ↓reduceIte,UInt8.reduceToNat,UInt16.reduceToNat,UInt32.reduceToNat,UInt64.reduceToNat,Int.reduceToNat,Sx.loadV_one,hrd,hlg,hix]))
  refine Ow.callFV rfl Tryz.call162 (fun w' hw'=>aho_ 0 s w' (GlobC.of hG hw' (by simp[keys])) hs) ?_
  refine ko @qb_ ?_
  first|with_reducible refine ks [] @qb_ ?_|refine kp @qb_ ?_
  refine Again.mk 1 (by omega) (by omega) rfl rfl
 ·obtain rfl:g=1:=by omega
  first|with_reducible refine ks [] @qb_ ?_|refine kp @qb_ ?_
  refine⟨_,(ke @qb_),trivial, ?_⟩
  rfl
def JR_ (n:UInt32) (g:Nat):List UInt8:=(List.range 4).map fun j=>if j<g then UInt8.ofNat (zP_ n (8*j)).toNat else 0
def sum4 (n:UInt32):List UInt8:=JR_ n 4
theorem KH_ (n:UInt32) (g:Nat): (JR_ n g).length=4:=by simp[JR_]
theorem ab2_ (n:UInt32) (g:Nat) (h:g<4): (JR_ n g).set g (UInt8.ofNat (zP_ n (8*g)).toNat)=JR_ n (g+1):=by
 have:g=0∨g=1∨g=2∨g=3:=by omega
 rcases this with rfl|rfl|rfl|rfl<;>rfl
def qP_ (s:List UInt8):List UInt8:=s++sum4 (crcV s)
theorem Z7_ (s:List UInt8) (w:World) (hG:GlobC w) (hs:s.length<1099511627776):
  Rets Tryz.prog 63 #[vs s] w (fun v D=>v=vs (qP_ s)∧D= []):=by
 have hgl: (1:Nat)<w.heap.size:=by obtain⟨e,f,h⟩:=hG;exact(Array.getElem?_eq_some_iff.1 h).1
 refine Rets.enterV Tryz.func63 rfl (rs:= [.tmp 2]) Tryz.results63 Tryz.ntmps63 ?_
 refine kf ?_
 first|with_reducible refine ks [] @qb_ ?_|refine kp @qb_ ?_
 refine Ow.buildSlice (e:=9) #[vs s] rfl rfl (by kernel_rfl) fun b1 hb1 hw1=> ?_
 refine ko @qb_ ?_
 refine Ow.callFV rfl Tryz.call130 (fun w' hw'=>ait_ b1 s _ w' (GlobC.of hG hw' (by simp[keys];omega)) hs (hw'.has _ _ List.mem_cons_self)) ?_
 refine ko @qb_ ?_
 first|with_reducible refine ks [] @qb_ ?_|refine kp @qb_ ?_
 unfold qP_
 generalize crcV s=n
 refine Ow.alloc rfl rfl Tryz.zr204 fun b2 hb2 hw2=> ?_
 obtain⟨h12,-⟩:=hb2
 refine ko @qb_ ?_
 first|with_reducible refine ks [] @qb_ ?_|refine kp @qb_ ?_
 rw[show a8 (List.replicate 4 0)=a8 (JR_ n 0) from rfl]
 refine Cw.loopG (G:=Nat) [10,11,5,12,13,14,15,16,17,18,19,9] (fun g=> [(9,vi g)]) (fun g=> [(b1, .cells #[vs s] 9 (0,0)),(b2, .cells (a8 (JR_ n g)) 204 (0,0))]) (fun g=>g≤4) (fun g=>4 - g) 0 rfl rfl ?_ ?_
 ·omega
 intro g j hg
 refine kv ?_
 have hpl:=KH_ n g
 by_cases hlt:g<4
 ·first|with_reducible refine ks [] @qb_ ?_|refine kp @qb_ ?_
  refine Again.mk (g+1) (by omega) (by omega) ?_ rfl
  rw[ab2_ n g hlt]
 ·obtain rfl:g=4:=by omega
  first|with_reducible refine ks [] @qb_ ?_|refine kp @qb_ ?_
  refine⟨_,(ke @qb_),⟨hw1,hw2,trivial⟩, ?_⟩
  rw[List.drop_zero,List.take_of_length_le (by omega)];rfl
def zq_ (s:List UInt8):List UInt8×Bool:=
 if s.length<4 then([],false) else if qP_ (s.take (s.length - 4))=s then(s.take (s.length - 4),true) else([],false)
theorem Zd_ (s:List UInt8): (qP_ s).length=s.length+4:=by unfold qP_ sum4;rw[List.length_append,KH_]
theorem QD_ (s:List UInt8) (w:World) (hG:GlobC w) (hs:s.length<1099511627776):
  Rets Tryz.prog 70 #[vs s] w (fun v D=>v= .tuple #[vs (zq_ s).1, .bool (zq_ s).2]∧D= []):=by
 refine Rets.enterV Tryz.func70 rfl (rs:= [.tmp 2, .tmp 3]) Tryz.results70 Tryz.ntmps70 ?_
 refine kf ?_
 first|with_reducible refine ks [] @qb_ ?_|refine kp @qb_ ?_
 unfold zq_
 by_cases h4:s.length<4
 ·have e1:decide ((s.length:Int)<4)=true:=decide_eq_true (by omega)
  rw[if_pos h4]
  first|with_reducible refine ks [] (And.intro @qb_ @e1) ?_|refine kp (And.intro @qb_ @e1) ?_
  refine⟨_,(ke @qb_),trivial, ?_⟩
  rfl
 ·have e1:decide ((s.length:Int)<4)=false:=decide_eq_false (by omega)
  have e2: ((s.length:Int) - 4).toNat=s.length - 4:=by omega
  rw[if_neg h4]
  first|with_reducible refine ks [] (And.intro @qb_ (And.intro @e1 (@e2))) ?_|refine kp (And.intro @qb_ (And.intro @e1 (@e2))) ?_
  refine Ow.callFV rfl Tryz.call63 (fun w' hw'=>Z7_ (s.take (s.length - 4)) w' (GlobC.of hG hw' (by simp[keys])) (by rw[List.length_take];omega)) ?_
  refine ko @qb_ ?_
  cases hq: (qP_ (s.take (s.length - 4)) !=s)
  ·rw[if_pos (by simpa using hq)]
   first|with_reducible refine ks [] (And.intro @qb_ (And.intro @hq (@e2))) ?_|refine kp (And.intro @qb_ (And.intro @hq (@e2))) ?_
   refine⟨_,(ke @qb_),trivial, ?_⟩
   rfl
  ·rw[if_neg (by simpa using hq)]
   first|with_reducible refine ks [] (And.intro @qb_ @hq) ?_|refine kp (And.intro @qb_ @hq) ?_
   refine⟨_,(ke @qb_),trivial, ?_⟩
   rfl
end Go.Proofs
end
section
open Go Go.Proofs Go.Sx Go.StP Go.Flo
namespace Go.Proofs
set_option maxRecDepth 10000
set_option maxHeartbeats 400000
set_option linter.unusedSimpArgs false
def QM_ (i:Nat) (p:PartL):Int:=if p.d=true then(i:Int) - p.b else 0
def k7_ (i:Nat) (p:PartL):List UInt8:=qS_ (zz_ (QM_ i p))++xD_ p.x
def q7_:Nat→List PartL→List UInt8
 |_,[]=> []
 |i,p::r=>k7_ i p++q7_ (i+1) r
def magB:List UInt8:= [83,80,75,49]
def vZ_ (l:List PartL):List UInt8:=magB++ (qS_ (zz_ (l.length:Int))++q7_ 0 l)
def wD_ (s:List UInt8) (i a:Nat) (e:Int):PartL×Nat×Int:=
 (⟨decide (0< (zu_ s a e 200).1),if 0< (zu_ s a e 200).1 then(i:Int) - (zu_ s a e 200).1 else 0,(qN_ s (zu_ s a e 200).2.1 (zu_ s a e 200).2.2 65536).1⟩,(qN_ s (zu_ s a e 200).2.1 (zu_ s a e 200).2.2 65536).2)
def z8_ (s:List UInt8):Nat→Nat→Nat→Int→List PartL×List Nat×Nat×Int
 |0,_,a,e=>([],[],a,e)
 |k+1,i,a,e=>if(wD_ s i a e).2.2=0 then((wD_ s i a e).1:: (z8_ s k (i+1) (wD_ s i a e).2.1 0).1,a:: (z8_ s k (i+1) (wD_ s i a e).2.1 0).2.1,(z8_ s k (i+1) (wD_ s i a e).2.1 0).2.2) else([],[],(wD_ s i a e).2)
def xk_ (s:List UInt8):Int×Bool×Nat×Int:=
 if(jc_ s 0 0 4).1=magB then((zu_ s (jc_ s 0 0 4).2.1 (jc_ s 0 0 4).2.2 200).1,(zu_ s (jc_ s 0 0 4).2.1 (jc_ s 0 0 4).2.2 200).2.2==0,(zu_ s (jc_ s 0 0 4).2.1 (jc_ s 0 0 4).2.2 200).2) else(0,false,(jc_ s 0 0 4).2)
def xc_ (s:List UInt8):List PartL×List Nat×Nat×Int:=z8_ s (xk_ s).1.toNat 0 (xk_ s).2.2.1 (xk_ s).2.2.2
def ZY_ (b:List UInt8):Option (List PartL×List Nat×List IdL×List ObL):=
 if(zq_ b).2=true∧(xk_ (zq_ b).1).2.1=true∧xY_ (zq_ b).1 (xc_ (zq_ b).1).2.2.1 (xc_ (zq_ b).1).2.2.2=0 then(fillV (xc_ (zq_ b).1).1).map fun q=>((xc_ (zq_ b).1).1,(xc_ (zq_ b).1).2.1,q) else none
def aat_ (l:List PartL):List UInt8×Int:=match fillV l with
 |some _=>(qP_ (vZ_ l),0)
 |none=>([],1)
instance:DecidableEq ObL:=fun a b=>if h:a.k=b.k∧a.t=b.t then .isTrue (by cases a;cases b;simp only at h;obtain⟨rfl,rfl⟩:=h;rfl) else .isFalse (fun e=>h (by rw[e];exact⟨rfl,rfl⟩))
def Jn_ (l:List PartL):Nat→List ObL
 |0=> []
 |k+1=>match partV l (k:Nat) with
  | .ok s=>if frOk s=true∧zG_ s∉Jn_ l k then Jn_ l k++ [zG_ s] else Jn_ l k
  | .error _=>Jn_ l k
def aq4_ (b:List UInt8):List ObL:=if(xk_ b).2.1=true then Jn_ (xc_ b).1 (xc_ b).1.length else []
def Qz_ (i:Nat) (p:PartL):Prop:=(if p.d=true then 0≤p.b∧p.b<i∧(i:Int)≤200 else p.b=0)∧p.x.length≤65536
def Ql_:Nat→List PartL→Prop
 |_,[]=>True
 |i,p::r=>Qz_ i p∧Ql_ (i+1) r
theorem alW_ {i:Nat} {p:PartL} (h:Qz_ i p): ∃n:Nat,QM_ i p=n∧n≤200∧(0<n↔p.d=true):=by
 unfold Qz_ at h
 unfold QM_
 by_cases hd:p.d=true
 ·rw[if_pos hd] at h ⊢
  exact⟨((i:Int) - p.b).toNat,by omega,by omega,⟨fun _=>hd,fun _=>by omega⟩⟩
 ·rw[if_neg hd]
  exact⟨0,rfl,by omega,⟨fun h=>by omega,fun h=>absurd h hd⟩⟩
theorem ani_ {i n:Nat} {p:PartL} (h:Qz_ i p) (hf:QM_ i p=n) (hn:0<n↔p.d=true): (⟨decide (0< (n:Int)),if 0< (n:Int) then(i:Int) - (n:Int) else 0,p.x⟩:PartL)=p:=by
 obtain⟨d,b,x⟩:=p
 unfold Qz_ at h
 unfold QM_ at hf
 simp only at h hf hn ⊢
 cases d
 ·rw[if_neg (by simp)] at h hf
  have: ¬0< (n:Int):=by omega
  rw[if_neg this,decide_eq_false this,h.1]
 ·rw[if_pos rfl] at h hf
  have:0< (n:Int):=by have:=hn.2 rfl;omega
  rw[if_pos this,decide_eq_true this]
  congr 1
  omega
theorem afM_ (A r:List UInt8) {i:Nat} {p:PartL} (h:Qz_ i p):wD_ (A++ (k7_ i p++r)) i A.length 0=(p,A.length+ (k7_ i p).length,0):=by
 obtain⟨n,hf,hn,hd⟩:=alW_ h
 have hx:=h.2
 have h1:=kk_ A (xD_ p.x++r) n 200 (by omega) (by omega)
 have h2:=afo_ (A++qS_ n) p.x r 65536 (by omega) (by omega)
 rw[List.append_assoc,List.length_append] at h2
 unfold wD_ k7_
 rw[hf,xe_ (by omega),List.append_assoc,h1]
 simp only
 rw[h2,ani_ h hf hd,List.length_append,Nat.add_assoc]
def JI_:Nat→Nat→List PartL→List Nat
 |_,_,[]=> []
 |i,a,p::r=>a::JI_ (i+1) (a+ (k7_ i p).length) r
theorem JA_ (r:List UInt8): ∀ (l:List PartL) (A:List UInt8) (i:Nat),Ql_ i l→z8_ (A++ (q7_ i l++r)) l.length i A.length 0=(l,JI_ i A.length l,A.length+ (q7_ i l).length,0)
 | [],A,i,_=>by simp[z8_,q7_,JI_]
 |p::l,A,i,h=>by
  have h1:=afM_ A (q7_ (i+1) l++r) h.1
  have h2:=JA_ r l (A++k7_ i p) (i+1) h.2
  rw[List.append_assoc,List.length_append] at h2
  unfold q7_
  rw[List.length_cons,List.append_assoc]
  unfold z8_
  rw[h1]
  simp only[↓reduceIte]
  rw[h2]
  simp only[JI_,List.length_append,Nat.add_assoc]
theorem ad6_ {n:Nat} (h:n≤200):zz_ (n:Int)=n:=xe_ (by omega)
theorem ag6_ (x:List UInt8) {n:Nat} (h:n≤200):xk_ (magB++ (qS_ n++x))=((n:Int),true,4+ (qS_ n).length,0):=by
 have h0:=Zo_ [] magB (qS_ n++x)
 have h1:=kk_ magB x n 200 (by omega) (by omega)
 simp only[List.nil_append,List.length_nil,Nat.zero_add] at h0
 have e4:magB.length=4:=rfl
 rw[e4] at h0 h1
 unfold xk_
 rw[show((4:Nat):Int)=4 from rfl] at h0
 rw[h0]
 simp only[↓reduceIte]
 rw[h1]
 rfl
theorem agp_ {l:List PartL} (h:Ql_ 0 l) (hl:l.length≤200) (r:List UInt8):xk_ (vZ_ l++r)=((l.length:Int),true,4+ (qS_ l.length).length,0)∧
  xc_ (vZ_ l++r)=(l,JI_ 0 (4+ (qS_ l.length).length) l,(vZ_ l).length,0):=by
 have e:vZ_ l++r=magB++ (qS_ l.length++ (q7_ 0 l++r)):=by unfold vZ_;rw[ad6_ hl,List.append_assoc,List.append_assoc]
 have hh:=ag6_ (q7_ 0 l++r) hl
 have hp:=JA_ r l (magB++qS_ l.length) 0 h
 rw[List.append_assoc,List.length_append,show magB.length=4 from rfl] at hp
 refine⟨by rw[e];exact hh, ?_⟩
 unfold xc_
 rw[e,hh]
 simp only[Int.toNat_natCast]
 rw[hp]
 unfold vZ_
 rw[ad6_ hl]
 simp only[List.length_append,show magB.length=4 from rfl,Nat.add_assoc]
theorem wf_ (s:List UInt8):zq_ (qP_ s)=(s,true):=by
 have hl:=Zd_ s
 have ht: (qP_ s).take ((qP_ s).length - 4)=s:=by rw[hl,Nat.add_sub_cancel];unfold qP_;rw[List.take_left]
 unfold zq_
 rw[if_neg (by omega),ht,if_pos rfl]
theorem adi_ (s:List UInt8):xY_ s s.length 0=0:=by unfold xY_;rw[if_neg (by simp),if_neg (by omega)]
theorem afu_ {l:List PartL} {ts:List (List UInt8)} (h:QK_ l= .ok ts) (hx: ∀p,p∈l→p.x.length≤65536):Ql_ 0 l∧l.length≤200:=by
 unfold QK_ at h
 split at h
 ·cases h
 ·rename_i h2
  refine⟨?_,by omega⟩
  have hkk: ∀k,k<l.length→Qz_ k (l.getD k qt_):=by
   intro k hk
   have hp:=vp_ _ _ h k hk
   unfold partV at hp
   refine⟨?_,hx _ (VO_ hk)⟩
   cases hq:xh_ l (k:Nat) with
   |error e=>rw[hq] at hp;cases hp
   |ok p=>
    rcases xd_ hk hq with⟨-,hd,hb⟩ | ⟨b,q,-,hd,hb,hlt,-⟩
    ·rw[if_neg (by rw[hd];decide),hb]
    ·rw[if_pos hd,hb];omega
  have go: ∀ (m:List PartL) (i:Nat),(∀k,k<m.length→Qz_ (i+k) (m.getD k qt_))→Ql_ i m:=by
   intro m
   induction m with
   |nil=>intro i _;trivial
   |cons p r ih=>
    intro i hm
    refine⟨by simpa using hm 0 (by simp),ih (i+1) fun k hk=> ?_⟩
    have:=hm (k+1) (by simp;omega)
    rw[List.getD_cons_succ,show i+ (k+1)=i+1+k by omega] at this
    exact this
  exact go l 0 fun k hk=>by rw[Nat.zero_add];exact hkk k hk
end Go.Proofs
end
section
open Go Go.Proofs Go.Sx Go.StP Go.Flo
namespace Go.Proofs
set_option maxRecDepth 10000
set_option maxHeartbeats 400000
set_option linter.unusedSimpArgs false
theorem Jz_ {s:List UInt8}: ∀ (k i a:Nat) (e:Int),(z8_ s k i a e).1.length≤k∧(z8_ s k i a e).2.1.length=(z8_ s k i a e).1.length
 |0,i,a,e=>⟨Nat.le_refl _,rfl⟩
 |k+1,i,a,e=>by
  have:=Jz_ (s:=s) k (i+1) (wD_ s i a e).2.1 0
  unfold z8_
  split
  ·simp only[List.length_cons];omega
  ·simp
theorem afz_ {s:List UInt8} {a:Nat} {e:Int} (h:xY_ s a e=0):e=0∧s.length≤a:=by
 unfold xY_ at h
 split at h
 ·rename_i h0;exact absurd h h0
 ·rename_i h0
  split at h
  ·cases h
  ·exact⟨by omega,by omega⟩
theorem Vo_ {b:List UInt8} (h: (zq_ b).2=true):qP_ (zq_ b).1=b:=by
 unfold zq_ at h ⊢
 split at h
 ·cases h
 ·rename_i h0
  rw[if_neg h0]
  split at h
  ·rename_i h1;rw[if_pos h1];exact h1
  ·cases h
theorem aba_ {l:List PartL} {q:List IdL×List ObL} (h:fillV l=some q) (hx: ∀p,p∈l→p.x.length≤65536):Ql_ 0 l∧l.length≤200:=by
 unfold fillV at h
 cases ha:QK_ l with
 |error e=>rw[ha] at h;cases h
 |ok ts=>exact afu_ ha hx
theorem ae4_ {l:List PartL} {q:List IdL×List ObL} (h:fillV l=some q) (hx: ∀p,p∈l→p.x.length≤65536):ZY_ (qP_ (vZ_ l))=some (l,JI_ 0 (4+ (qS_ l.length).length) l,q):=by
 obtain⟨h1,h2⟩:=aba_ h hx
 obtain⟨hh,hr⟩:=agp_ h1 h2 []
 rw[List.append_nil] at hh hr
 unfold ZY_
 rw[wf_]
 simp only[hh,hr,adi_,and_self, ↓reduceIte,h,Option.map_some]
end Go.Proofs
end
section
open Go Go.Proofs Go.Sx Go.StP Go.Flo
namespace Go.Proofs
set_option maxRecDepth 10000
set_option maxHeartbeats 400000
set_option linter.unusedSimpArgs false
def magI:List UInt8:= [83,73,88,49]
def rowB (r:RwL):List UInt8:=r.id.l++ (qS_ (zz_ r.place)++qS_ (zz_ r.spot))
def xy_ (l:List RwL):List UInt8:=(l.map rowB).flatten
def Qh_ (F:List Nat):List Int:=F.map fun(n:Nat)=>(n:Int)
def xG_ (F:List Nat):List UInt8:=xw_ (Qh_ F)
def vB_ (s:List UInt8) (l:List RwL):List UInt8:=magI++ (s++ (qS_ (zz_ (l.length:Int))++ (xG_ (x0_ l)++xy_ l)))
def qx_ (s:List UInt8) (l:List RwL):Bool:=wJ_ l l.length&& (decide (s.length=4)&&decide (l.length≤200))
def km_ (s:List UInt8) (l:List RwL):List UInt8×Int:=if qx_ s l=true then(qP_ (vB_ s l),0) else([],1)
theorem K3_ {l:List RwL}: ∀ {n j:Nat},wJ_ l n=true→j<n→qs_ (l.getD j rw0)=true∧(j=0∨cmpI (l.getD (j - 1) rw0).id (l.getD j rw0).id<0)
 |0,j,_,h=>absurd h (Nat.not_lt_zero _)
 |n+1,j,h,hj=>by
  unfold wJ_ at h
  simp only[Bool.and_eq_true,Bool.or_eq_true,decide_eq_true_eq] at h
  by_cases e:j=n
  ·subst e;exact⟨h.2,h.1.2⟩
  ·exact K3_ h.1.1 (by omega)
theorem cmpI_lt {x y:IdL}:cmpI x y<0↔ltB x.l y.l=true:=by
 unfold cmpI cmpS
 cases h1:ltB x.l y.l<;>cases h2:ltB y.l x.l<;>simp
theorem cmpI_ge {x y:IdL}:0≤cmpI x y↔ltB x.l y.l=false:=by
 have:=cmpI_lt (x:=x) (y:=y)
 cases h:ltB x.l y.l
 ·rw[h] at this;constructor
  ·intro _;rfl
  ·intro _;exact Int.not_lt.1 fun h'=>by have:=this.1 h';cases this
 ·rw[h] at this;constructor
  ·intro h';have:=this.2 rfl;omega
  ·intro h';cases h'
theorem Jl_ {l:List RwL} {n:Nat} (h:wJ_ l n=true) {i:Nat}: ∀ {j:Nat},i<j→j<n→ltB (l.getD i rw0).id.l (l.getD j rw0).id.l=true
 |0,hij,_=>absurd hij (Nat.not_lt_zero _)
 |j+1,hij,hj=>by
  have h2:ltB (l.getD j rw0).id.l (l.getD (j+1) rw0).id.l=true:=by
   rcases(K3_ h hj).2 with h1|h1
   ·omega
   ·exact cmpI_lt.1 h1
  by_cases e:i=j
  ·subst e;exact h2
  ·exact Zk_ (Jl_ h (by omega) (by omega)) h2
theorem wW_ {l:List RwL} {i:Nat} (h:i<l.length):l.getD i rw0=l[i]:=by rw[List.getD_eq_getElem?_getD,List.getElem?_eq_getElem h];rfl
theorem aaC_ {l:List RwL} (h:wJ_ l l.length=true):rws_SortOf l l:=by
 refine⟨rfl, ?_,St.refl _ _⟩
 refine List.pairwise_iff_getElem.2 fun i j hi hj hij=> ?_
 have:=Jl_ h hij hj
 rw[wW_ hi,wW_ hj] at this
 exact Wz_ this
theorem ke_ {s:List UInt8} {l:List RwL} (h:qx_ s l=true):wJ_ l l.length=true∧s.length=4∧l.length≤200:=by
 unfold qx_ at h
 simpa only[Bool.and_eq_true,decide_eq_true_eq] using h
def numP (s:List UInt8) (q:Nat×Int):Int×Nat×Int:=zu_ s q.1 q.2 1099511627775
def wM_ (s:List UInt8) (a:Nat) (e:Int):RwL×Nat×Int:=
 (⟨vV_ (idR s a e).1,(numP s (idR s a e).2).1,(numP s (numP s (idR s a e).2).2).1⟩,(numP s (numP s (idR s a e).2).2).2)
def xt_ (s:List UInt8):Nat→Nat×Int→List RwL×Nat×Int
 |0,q=>([],q)
 |k+1,q=>((wM_ s q.1 q.2).1:: (xt_ s k (wM_ s q.1 q.2).2).1,(xt_ s k (wM_ s q.1 q.2).2).2)
def vi_ (s:List UInt8) (m:Int):Nat→Nat×Int→Nat×Int
 |0,q=>q
 |k+1,q=>vi_ s m k (zu_ s q.1 q.2 m).2
def xU_ (s:List UInt8) (f:Int→Int):List UInt8×List RwL×Nat×Int:=
 ((jc_ s 0 0 8).1.drop 4,xt_ s (zu_ s (jc_ s 0 0 8).2.1 (jc_ s 0 0 8).2.2 200).1.toNat (vi_ s (f (zu_ s (jc_ s 0 0 8).2.1 (jc_ s 0 0 8).2.2 200).1) 16 (zu_ s (jc_ s 0 0 8).2.1 (jc_ s 0 0 8).2.2 200).2))
theorem aiH_ {r:RwL} (h:qs_ r=true): ∃p q:Nat,r.place=p∧r.spot=q∧p≤1099511627775∧q≤1099511627775:=by
 unfold qs_ at h
 simp only[Bool.and_eq_true,Bool.not_eq_true',decide_eq_false_iff_not] at h
 exact⟨r.place.toNat,r.spot.toNat,by omega,by omega,by omega,by omega⟩
theorem akc_ (A x:List UInt8) {r:RwL} (h:qs_ r=true):wM_ (A++ (rowB r++x)) A.length 0=(r,A.length+ (rowB r).length,0):=by
 obtain⟨p,q,hp,hq,p1,q1⟩:=aiH_ h
 obtain⟨i,pl,sp⟩:=r
 simp only at hp hq
 subst hp hq
 have e:rowB ⟨i,(p:Int),(q:Int)⟩=i.l++ (qS_ p++qS_ q):=by unfold rowB;rw[xe_ p1,xe_ q1]
 have e2:A++ (rowB ⟨i,(p:Int),(q:Int)⟩++x)=A++ (i.l++ (qS_ p++ (qS_ q++x))):=by rw[e];simp only[List.append_assoc]
 have h1:=akq_ A (qS_ p++ (qS_ q++x)) i
 have h2:=kk_ (A++i.l) (qS_ q++x) p 1099511627775 p1 (by omega)
 have h3:=kk_ (A++ (i.l++qS_ p)) x q 1099511627775 q1 (by omega)
 simp only[List.append_assoc,List.length_append,i.h] at h2 h3
 unfold wM_ numP
 rw[e2,h1]
 simp only
 rw[h2]
 simp only
 rw[Nat.add_assoc,h3,ano_,e]
 simp only[List.length_append,i.h,Nat.add_assoc]
theorem WU_ (x:List UInt8): ∀ (l:List RwL) (A:List UInt8),(∀r,r∈l→qs_ r=true)→xt_ (A++ (xy_ l++x)) l.length (A.length,0)=(l,A.length+ (xy_ l).length,0)
 | [],A,_=>by simp[xt_,xy_]
 |r::l,A,h=>by
  have h1:=akc_ A (xy_ l++x) (h r List.mem_cons_self)
  have h2:=WU_ x l (A++rowB r) fun y hy=>h y (List.mem_cons_of_mem _ hy)
  have e:xy_ (r::l)=rowB r++xy_ l:=by simp[xy_]
  simp only[List.append_assoc,List.length_append] at h2
  rw[List.length_cons,e,List.append_assoc]
  unfold xt_
  simp only
  rw[h1]
  simp only
  rw[h2,List.length_append,Nat.add_assoc]
theorem aaT_ (x:List UInt8) (m:Int): ∀ (F:List Nat) (A:List UInt8),(∀n,n∈F→(n:Int)≤m∧n≤1099511627775)→vi_ (A++ (xG_ F++x)) m F.length (A.length,0)=(A.length+ (xG_ F).length,0)
 | [],A,_=>by simp[vi_,xG_,Qh_,xw_]
 |n::F,A,h=>by
  obtain⟨h0,h0'⟩:=h n List.mem_cons_self
  have h1:=kk_ A (xG_ F++x) n m h0' h0
  have h2:=aaT_ x m F (A++qS_ n) fun y hy=>h y (List.mem_cons_of_mem _ hy)
  have e:xG_ (n::F)=qS_ n++xG_ F:=by
   have:xG_ (n::F)=qS_ (zz_ (n:Int))++xG_ F:=by simp[xG_,Qh_,xw_]
   rw[this,xe_ h0']
  simp only[List.append_assoc,List.length_append] at h2
  rw[List.length_cons,e,List.append_assoc]
  unfold vi_
  simp only
  rw[h1]
  simp only
  rw[h2,List.length_append,Nat.add_assoc]
theorem anP_ {l:List RwL} {n:Nat} (h:n∈x0_ l):n≤l.length:=by
 unfold x0_ at h
 obtain⟨d,-,rfl⟩:=List.mem_map.1 h
 exact List.countP_le_length
theorem V8_ {s:List UInt8} {l:List RwL} (f:Int→Int) (h:qx_ s l=true) (hf: (l.length:Int)≤f l.length):xU_ (vB_ s l) f=(s,l,(vB_ s l).length,0):=by
 obtain⟨h1,h2,h3⟩:=ke_ h
 have hr: ∀r,r∈l→qs_ r=true:=fun r hr=>by
  obtain⟨j,hj,rfl⟩:=List.getElem_of_mem hr
  rw[←wW_ hj]
  exact(K3_ h1 hj).1
 have hn:zz_ (l.length:Int)=l.length:=xe_ (by omega)
 have e:vB_ s l=(magI++s)++ (qS_ l.length++ (xG_ (x0_ l)++xy_ l)):=by unfold vB_;rw[hn];simp only[List.append_assoc]
 have h8: (magI++s).length=8:=by rw[List.length_append,h2];rfl
 have a1:=Zo_ [] (magI++s) (qS_ l.length++ (xG_ (x0_ l)++xy_ l))
 have a2:=kk_ (magI++s) (xG_ (x0_ l)++xy_ l) l.length 200 (by omega) (by omega)
 have a3:=aaT_ (xy_ l) (f l.length) (x0_ l) ((magI++s)++qS_ l.length) fun n hn'=>by have:=anP_ hn';omega
 have a4:=WU_ [] l ((magI++s)++ (qS_ l.length++xG_ (x0_ l))) hr
 rw[List.nil_append,List.length_nil,Nat.zero_add,h8] at a1
 rw[h8] at a2
 rw[vd_] at a3
 simp only[List.append_assoc,List.length_append,List.append_nil] at a1 a2 a3 a4 h8 e
 unfold xU_
 rw[e]
 rw[show((8:Nat):Int)=8 from rfl] at a1
 rw[a1]
 show(List.drop 4 (magI++s),xt_ _ (zu_ _ 8 0 200).1.toNat (vi_ _ (f (zu_ _ 8 0 200).1) 16 (zu_ _ 8 0 200).2))=_
 rw[a2]
 simp only[Int.toNat_natCast]
 rw[←Nat.add_assoc,h8] at a3 a4
 rw[a3,Nat.add_assoc,a4]
 refine Prod.ext ?_ (Prod.ext rfl (Prod.ext ?_ rfl))
 ·show(magI++s).drop 4=s
  rw[show(4:Nat)=magI.length from rfl,List.drop_left]
 ·simp only[List.length_append];omega
def QP_ (b:List UInt8):Option (List UInt8×List RwL):=
 if xY_ (zq_ b).1 (xU_ (zq_ b).1 id).2.2.1 (xU_ (zq_ b).1 id).2.2.2=0∧qx_ (xU_ (zq_ b).1 id).1 (xU_ (zq_ b).1 id).2.1=true∧qP_ (vB_ (xU_ (zq_ b).1 id).1 (xU_ (zq_ b).1 id).2.1)=b then some ((xU_ (zq_ b).1 id).1,(xU_ (zq_ b).1 id).2.1) else none
theorem openI_iff {b s:List UInt8} {l:List RwL}:QP_ b=some (s,l)↔qx_ s l=true∧b=qP_ (vB_ s l):=by
 unfold QP_
 constructor
 ·intro h
  split at h
  ·rename_i hc
   simp only[Option.some.injEq,Prod.mk.injEq] at h
   obtain⟨rfl,rfl⟩:=h
   exact⟨hc.2.1,hc.2.2.symm⟩
  ·cases h
 ·rintro⟨h1,rfl⟩
  rw[wf_,V8_ id h1 (Int.le_refl _)]
  simp only
  rw[if_pos ⟨adi_ _,h1,by trivial⟩]
theorem acE_ {s:List UInt8} {l:List RwL} (h:qx_ s l=true):QP_ (qP_ (vB_ s l))=some (s,l):=openI_iff.2 ⟨h,rfl⟩
def aeO_ (b:List UInt8):Prop:=(zq_ b).2=true∧8≤ (zq_ b).1.length∧xY_ (zq_ b).1 (xU_ (zq_ b).1 fun _=>200).2.2.1 (xU_ (zq_ b).1 fun _=>200).2.2.2=0∧qx_ (xU_ (zq_ b).1 fun _=>200).1 (xU_ (zq_ b).1 fun _=>200).2.1=true∧qP_ (vB_ (xU_ (zq_ b).1 fun _=>200).1 (xU_ (zq_ b).1 fun _=>200).2.1)=b
theorem ag9_ {b:List UInt8} (h:aeO_ b):QP_ b=some ((xU_ (zq_ b).1 fun _=>200).1,(xU_ (zq_ b).1 fun _=>200).2.1):=openI_iff.2 ⟨h.2.2.2.1,h.2.2.2.2.symm⟩
theorem ak9_ {b:List UInt8} (h: ¬aeO_ b):QP_ b=none:=by
 cases e:QP_ b with
 |none=>rfl
 |some q=>
  obtain⟨s,l⟩:=q
  obtain⟨h1,rfl⟩:=openI_iff.1 e
  obtain⟨-,h2,h3⟩:=ke_ h1
  refine absurd ?_ h
  unfold aeO_
  rw[wf_,V8_ (fun _=>200) h1 (by show(l.length:Int)≤200;omega)]
  refine⟨rfl, ?_,adi_ _,h1,rfl⟩
  show 8≤ (vB_ s l).length
  unfold vB_
  rw[List.length_append,List.length_append,h2,show magI.length=4 from rfl]
  omega
def QO_ (l:List RwL) (x:IdL):RwL×Bool:=match l.find? (fun r=>r.id.l==x.l) with
 |some r=>(r,true)
 |none=>(rw0,false)
theorem an2_ {x y:IdL} (h:x.l=y.l):x=y:=by cases x;cases y;simp only at h;subst h;rfl
theorem alk_ {x y:IdL} (h:ltB x.l y.l=true):zT_ x≤zT_ y:=by
 rw[wK_,decide_eq_true_eq] at h
 have hx:=x.h
 have hy:=y.h
 unfold zT_
 cases hl:x.l with
 |nil=>rw[hl] at hx;cases hx
 |cons a r=>
  cases hm:y.l with
  |nil=>rw[hm] at hy;cases hy
  |cons b t=>
   rw[hl,hm] at h
   simp only[List.getD_cons_zero]
   rcases List.cons_lt_cons_iff.1 h with h| ⟨rfl,-⟩
   ·exact Nat.div_le_div_right (Nat.le_of_lt (UInt8.lt_iff_toNat_lt.1 h))
   ·exact Nat.le_refl _
theorem Wa_ {p:RwL→Bool}: ∀ (l:List RwL),(∀i j,i<j→j<l.length→p (l.getD j rw0)=true→p (l.getD i rw0)=true)→ ∀j,j<l.length→(j<l.countP p↔p (l.getD j rw0)=true)
 | [],_,j,h=>absurd h (Nat.not_lt_zero _)
 |r::l,hm,j,hj=>by
  have ih:=Wa_ l fun i j hij hj hp=>by
   have:=hm (i+1) (j+1) (by omega) (by simpa using hj)
   simp only[List.getD_cons_succ] at this
   exact this hp
  rw[List.countP_cons]
  cases hr:p r with
  |true=>
   rw[if_pos rfl]
   cases j with
   |zero=>simp only[List.getD_cons_zero];exact⟨fun _=>hr,fun _=>by omega⟩
   |succ j=>
    rw[List.getD_cons_succ,←ih j (by simpa using hj)]
    omega
  |false=>
   rw[if_neg (by simp)]
   have hall: ∀j,j< (r::l).length→p ((r::l).getD j rw0)=false:=fun j hj=>by
    cases j with
    |zero=>exact hr
    |succ j=>
     cases hp:p ((r::l).getD (j+1) rw0) with
     |false=>rfl
     |true=>have:=hm 0 (j+1) (by omega) hj hp;rw[List.getD_cons_zero,hr] at this;cases this
   have h0:l.countP p=0:=by
    rw[List.countP_eq_zero]
    intro a ha
    obtain⟨i,hi,rfl⟩:=List.getElem_of_mem ha
    have:=hall (i+1) (by simpa using hi)
    rw[List.getD_cons_succ,wW_ hi] at this
    rw[this];simp
   rw[h0,hall j hj]
   simp
theorem alB_ {l:List RwL} (h:wJ_ l l.length=true) (d:Nat) {j:Nat} (hj:j<l.length):j<xP_ l d↔zT_ (l.getD j rw0).id≤d:=by
 unfold xP_
 rw[Wa_ l (fun i k hik hk hp=> ?_) j hj]
 ·simp
 ·simp only[decide_eq_true_eq] at hp ⊢
  exact Nat.le_trans (alk_ (Jl_ h hik hk)) hp
def js_ (l:List RwL) (d:Nat):Nat:=if d=0 then 0 else xP_ l (d - 1)
theorem anG_ {l:List RwL} (d:Nat):js_ l d≤xP_ l d:=by
 unfold js_
 split
 ·exact Nat.zero_le _
 ·unfold xP_
  refine List.countP_mono_left fun r _ h=> ?_
  simp only[decide_eq_true_eq] at h ⊢
  omega
theorem KZ_ (l:List RwL) (d:Nat):xP_ l d≤l.length:=List.countP_le_length
theorem amW_ {l:List RwL} (h:wJ_ l l.length=true) (x:IdL) {at_:Nat} (h1:js_ l (zT_ x)≤at_) (h2:at_≤xP_ l (zT_ x)) (h3:at_=js_ l (zT_ x)∨ltB (l.getD (at_ - 1) rw0).id.l x.l=true) (h4:at_=xP_ l (zT_ x)∨ltB (l.getD at_ rw0).id.l x.l=false):
  QO_ l x=if at_≠xP_ l (zT_ x)∧(l.getD at_ rw0).id.l=x.l then(l.getD at_ rw0,true) else(rw0,false):=by
 have hln:=KZ_ l (zT_ x)
 have key: ∀j,j<l.length→(l.getD j rw0).id.l=x.l→j=at_∧at_≠xP_ l (zT_ x):=by
  intro j hj e
  have e': (l.getD j rw0).id=x:=an2_ e
  have b1:j<xP_ l (zT_ x):=(alB_ h _ hj).2 (by rw[e'];exact Nat.le_refl _)
  have b2:js_ l (zT_ x)≤j:=by
   unfold js_
   split
   ·exact Nat.zero_le _
   ·rename_i hd
    refine Nat.le_of_not_lt fun hlt=> ?_
    have:=(alB_ h (zT_ x - 1) hj).1 hlt
    rw[e'] at this
    omega
  rcases Nat.lt_trichotomy j at_ with hlt|rfl|hlt
  ·rcases h3 with h3|h3
   ·omega
   ·by_cases e2:j=at_ - 1
    ·subst e2;rw[e,x2_] at h3;cases h3
    ·have:=Jl_ h (show j<at_ - 1 by omega) (by omega)
     rw[e] at this
     have:=Zk_ this h3
     rw[x2_] at this;cases this
  ·exact⟨rfl,by omega⟩
  ·rcases h4 with h4|h4
   ·omega
   ·have:=Jl_ h hlt hj
    rw[e,h4] at this;cases this
 unfold QO_
 by_cases hc:at_≠xP_ l (zT_ x)∧(l.getD at_ rw0).id.l=x.l
 ·rw[if_pos hc]
  have hat:at_<l.length:=by omega
  have hm:l.getD at_ rw0∈l:=by rw[wW_ hat];exact List.getElem_mem hat
  cases hf:l.find? (fun r=>r.id.l==x.l) with
  |none=>
   have:=List.find?_eq_none.1 hf _ hm
   rw[hc.2] at this
   exact absurd (beq_self_eq_true x.l) this
  |some r=>
   have h5:=List.find?_some hf
   obtain⟨j,hj,rfl⟩:=List.getElem_of_mem (List.mem_of_find?_eq_some hf)
   rw[←wW_ hj] at h5 ⊢
   have:=(key j hj (by simpa using h5)).1
   subst this;rfl
 ·rw[if_neg hc]
  cases hf:l.find? (fun r=>r.id.l==x.l) with
  |none=>rfl
  |some r=>
   have h5:=List.find?_some hf
   obtain⟨j,hj,rfl⟩:=List.getElem_of_mem (List.mem_of_find?_eq_some hf)
   rw[←wW_ hj] at h5
   have h6:=key j hj (by simpa using h5)
   refine absurd ⟨h6.2, ?_⟩ hc
   rw[←h6.1];simpa using h5
end Go.Proofs
end
section
open Go Go.Proofs Go.Sx Go.StP Go.Flo
namespace Go.Proofs
set_option maxRecDepth 10000
set_option maxHeartbeats 400000
set_option linter.unusedSimpArgs false
def pkO (v0 v1 v2 v3:Value):Obj:= .cells #[v0,v1,v2,v3] 117 (0,0)
theorem VW_ (v0 v1 v2 v3:Value) (n:Nat):zr_ (some (false,n)) (some (pkO v0 v1 v2 v3)) 0=some v0:=(rfl)
theorem aec_ (v0 v1 v2 v3:Value) (n:Nat):zr_ (some (false,n)) (some (pkO v0 v1 v2 v3)) 1=some v1:=(rfl)
theorem adN_ (v0 v1 v2 v3:Value) (n:Nat):zr_ (some (false,n)) (some (pkO v0 v1 v2 v3)) 2=some v2:=(rfl)
theorem aea_ (v0 v1 v2 v3:Value) (n:Nat):zr_ (some (false,n)) (some (pkO v0 v1 v2 v3)) 3=some v3:=(rfl)
theorem Jj_ (v0 v1 v2 v3 q:Value) (a:Bool) (hq:Value.oneCell' q=true∧q.cells= #[q]):zp_ (some (a,1)) (some (pkO v0 v1 v2 v3)) 2 q=some (pkO v0 v1 q v3):=
 z6_ [v0,v1] [v2] [q] [v3] a _ 117 rfl rfl hq.2 rfl (by simp[hq.1])
theorem Xb_ (v0 v1 v2 v3 q:Value) (a:Bool) (hq:Value.oneCell' q=true∧q.cells= #[q]):zp_ (some (a,1)) (some (pkO v0 v1 v2 v3)) 3 q=some (pkO v0 v1 v2 q):=
 z6_ [v0,v1,v2] [v3] [q] [] a _ 117 rfl rfl hq.2 rfl (by simp[hq.1])
theorem ZG_ {s:List UInt8} {a:Nat} {most:Int} (ha:a≤s.length) (h: (zu_ s a 0 most).2.2=0): (zu_ s a 0 most).2.1≤a+6:=by
 have hl:=z4_ (e:=0) (most:=most) ha
 obtain⟨n,-,hb,-,hd⟩:=afa_ h
 have h6:=xg_ 6 n (by omega) (by omega)
 have:=congrArg List.length hd
 simp only[List.length_drop,List.length_append] at this
 omega
theorem all_ {d:List UInt8} {a:Nat} (ha:a≤d.length) (h: (pcR d a).2.2=0): (pcR d a).2.1≤a+4111:=by
 have hl:=z4_ (s:=d) (a:=a) (e:=0) (most:=8199) ha
 have hm:=qW_ (s:=d) (a:=a) (e:=0) (most:=8199) (by omega)
 have hz: (zu_ d a 0 8199).2.2=0:=by
  by_cases he: (zu_ d a 0 8199).2.2=0
  ·exact he
  ·unfold pcR at h
   split at h
   ·have:=ZI_ (s:=d) (a:=(zu_ d a 0 8199).2.1) (most:=4099) he
    simp only[this] at h
    exact absurd h he
   ·have:=W6_ (s:=d) (a:=(zu_ d a 0 8199).2.1) (n:=(zu_ d a 0 8199).1 / 2) he
    simp only[this] at h
    exact absurd h he
 have h1:=ZG_ ha hz
 unfold pcR at h ⊢
 split
 ·rename_i hc
  rw[if_pos hc] at h
  simp only at h ⊢
  rw[hz] at h ⊢
  have:=ZG_ hl.2 h
  omega
 ·rename_i hc
  rw[if_neg hc] at h
  simp only at h ⊢
  rw[hz] at h ⊢
  unfold jc_ at h ⊢
  rw[if_neg (by simp)] at h ⊢
  split at h
  ·cases h
  ·rename_i h2
   rw[if_neg h2]
   split at h
   ·cases h
   ·rename_i h3
    rw[if_neg h3]
    simp only
    omega
theorem aeh_ {d:List UInt8}: ∀ (k a:Nat),d.length - a≤k→a≤d.length→(pcs d a).2.2=0→(pcs d a).2.1≤a+ (pcs d a).1.length*4111
 |k,a,hk,ha,h=>by
  by_cases hlt:a<d.length
  ·by_cases he: (pcR d a).2.2=0
   ·have hu:=KK_ ha he
    have hl:=adK_ ha
    have hs:=all_ ha he
    rw[adL_ hlt he] at h ⊢
    cases k with
    |zero=>omega
    |succ k=>
     have:=aeh_ k _ (by omega) hl.2 h
     simp only[List.length_cons]
     omega
   ·rw[VS_ hlt he] at h
    exact absurd h he
  ·rw[acH_ hlt];simp
theorem afq_ {d:List UInt8} {p:Nat×List PcL} (h:kB_ d=some p):d.length≤17000000:=by
 unfold kB_ at h
 split at h
 ·cases h
 ·rename_i h1
  split at h
  ·cases h
  ·rename_i h2
   split at h
   ·rename_i h3
    have l1:=z4_ (s:=d) (a:=0) (e:=0) (most:=4099) (Nat.zero_le _)
    have l2:=z4_ (s:=d) (a:=(zu_ d 0 0 4099).2.1) (e:=(zu_ d 0 0 4099).2.2) (most:=4099) l1.2
    have e1: (zu_ d 0 0 4099).2.2=0:=Decidable.byContradiction fun hn=>by rw[ZI_ hn] at h1;exact h1 hn
    have s1:=ZG_ (Nat.zero_le _) e1
    have s2: (zu_ d (zu_ d 0 0 4099).2.1 (zu_ d 0 0 4099).2.2 4099).2.1≤ (zu_ d 0 0 4099).2.1+6:=by
     rw[e1] at h1 ⊢
     exact ZG_ l1.2 (by omega)
    obtain⟨-,-,-,-,-,hc⟩:=Vb_ h3
    have s3:=aeh_ _ _ (Nat.le_refl _) l2.2 (by omega)
    have s4:=alV_ _ _ (Nat.le_refl _) l2.2 (by omega)
    have: (pcs d (zu_ d (zu_ d 0 0 4099).2.1 (zu_ d 0 0 4099).2.2 4099).2.1).1.length*4111≤4099*4111:=Nat.mul_le_mul_right _ hc
    omega
   ·cases h
theorem afS_ {b d:List UInt8} (_h: (xJ_ b d).2=0): (xJ_ b d).1.length≤4099:=by
 unfold xJ_
 split
 ·simp
 ·rename_i p hp
  split
  ·simp
  ·rename_i hb
   obtain⟨m,hm⟩:=KI_ hp
   rw[show p.1=b.length by omega] at hm
   have hk:Za_ (b.length:Nat) p.2=(((w3_ (b.length:Nat) p.2:Nat):Int),(0:Int)):=by
    unfold Za_ at hm ⊢
    split at hm
    ·cases hm
    ·rename_i h1
     rw[if_neg h1]
     split at hm
     ·cases hm
     ·rename_i h2
      rw[if_neg h2]
      split at hm
      ·cases hm
      ·rename_i h3;rw[if_neg h3]
   obtain⟨-,-,h1,h2,-⟩:=Vb_ hk
   show(txtP b p.2).length≤4099
   rw[QX_ h1]
   exact h2
theorem ahY_ {l:List PartL} {a:Int} {s:List UInt8} (h:partV l a= .ok s):s.length≤4099:=by
 unfold partV at h
 cases hp:xh_ l a with
 |error e=>rw[hp] at h;cases h
 |ok p=>
  rw[hp] at h
  change ZL_ l p= .ok s at h
  cases p with
  |nil=>cases h;simp
  |cons x p=>
   unfold ZL_ at h
   cases hf:ZL_ l p with
   |error e=>rw[hf] at h;cases h
   |ok t=>
    rw[hf] at h
    change(if(jK_ (l.getD x qt_) t).2=0 then _ else _)=_ at h
    split at h
    ·rename_i h0
     cases h
     unfold jK_ at h0 ⊢
     split
     ·rename_i hd;rw[if_pos hd] at h0;exact afS_ h0
     ·rename_i hd
      split
      ·simp
      ·show(l.getD x qt_).x.length≤4099;omega
    ·cases h
theorem adv_ {l:List PartL} {ts:List (List UInt8)} (h:QK_ l= .ok ts):ts.length=l.length∧l.length≤200∧ ∀k,k<ts.length→(ts.getD k []).length≤4099:=by
 unfold QK_ at h
 split at h
 ·cases h
 ·have:=wb_ _ _ h
  exact⟨this,by omega,fun k hk=>ahY_ (vp_ _ _ h k (by omega))⟩
theorem amZ_ {D:zd_} {E:TypeId} {v:Value} {l:List (List UInt8)} (h:GrI D E 1 v l.length (l.map strC).flatten) (hn: (keys D).Nodup):l.length=0∨ ∃b c rest,v=vsl b 0 l.length c∧b∈keys D∧Sx.look D b=some (rowO strC E rest l):=by
 obtain⟨X,hX,h| ⟨h0,-⟩⟩:=h
 ·rcases h.inv with⟨-,h0,-⟩ | ⟨b,c,rest,rfl,hl,h1,h2,h3,h4⟩
  ·exact .inl h0
  ·exact .inr ⟨b,c,rest,rfl,List.mem_map_of_mem (f:=Prod.fst) (hX _ (zJ_ hl)),x6_ hn (hX _ (zJ_ hl))⟩
 ·exact .inl h0
theorem aj9_ {E:TypeId} {rest:List Value} {l:List (List UInt8)} (n i:Nat) (hi:i<l.length):zr_ (some (false,n)) (some (rowO strC E rest l)) i=some (vs (l.getD i [])):=by
 unfold rowO zr_
 have e: (l.map strC).flatten=l.map vs:=by
  clear hi
  induction l with
  |nil=>rfl
  |cons a l ih=>rw[List.map_cons,List.flatten_cons,List.map_cons,ih];rfl
 simp only[e]
 rw[List.getElem?_toArray,List.getElem?_append_left (by simpa using hi),List.getElem?_map,List.getElem?_eq_getElem hi,List.getD_eq_getElem?_getD,List.getElem?_eq_getElem hi]
 rfl
theorem VQ_ {D:zd_} {E:TypeId} {m n:Nat} {v:Value} {cs:List Value} (h:GrI D E m v n cs) (x:Bool×Nat):Xr_ (.sl x) v=some (vi n):=by
 obtain⟨X,-,h⟩:=h;exact h.len x
def abZ_ (l:List PartL) (bp:Nat) (v0 v1:Value) (v:Value) (D:zd_):Prop:=match fillV l with
 |some p=>v= .bool true∧ ∃x2 x3 D',D=(bp,pkO v0 v1 x2 x3)::D'∧GrI D' 37 32 x2 p.1.length (p.1.map wR_).flatten∧GrI D' 43 2 x3 p.2.length (p.2.map obC).flatten
 |none=>v= .bool false
theorem anp_ {w:World} {a:Nat} {x:Obj} (h:w.heap[a]? =some x): ∀p:Nat×Obj,p∈ [(a,x)]→w.heap[p.1]? =some p.2:=by
 intro p hp
 rw[List.mem_singleton] at hp
 subst hp
 exact h
theorem amh_ {w:World} {b:Nat} {o o':Obj} {D:zd_} (h:New w.heap.size D):Ext w [(b,o)] (D++ [(b,o')]):=⟨fun c hc=>by
 rw[zj_] at hc
 rcases List.mem_append.1 hc with hc|hc
 ·exact .inr (h.le c hc)
 ·exact .inl hc,fun c hc=>by rw[zj_];exact List.mem_append_right _ hc⟩
theorem ajD_ {w:World} {b:Nat} {o o':Obj} {D:zd_} (h:New w.heap.size D):Ext w [(b,o)] ((b,o')::D):=⟨fun c hc=>by
 rcases List.mem_cons.1 hc with hc|hc
 ·exact .inl (by rw[hc];exact List.mem_cons_self)
 ·exact .inr (h.le c hc),fun c hc=>by
 rcases List.mem_cons.1 hc with hc|hc
 ·exact List.mem_cons.2 (.inl hc)
 ·cases hc⟩
theorem aaR_ {l:List PartL} {e:Int}: ∀k,kS_ l k= .error e→e≠0
 |0,h=>by cases h
 |k+1,h=>by
  unfold kS_ at h
  cases hg:kS_ l k with
  |error x=>rw[hg] at h;cases h;exact aaR_ k hg
  |ok us=>
   rw[hg] at h
   change(partV l (k:Nat)).map (fun s=>us++ [s])=_ at h
   cases hp:partV l (k:Nat) with
   |error x=>rw[hp] at h;cases h;exact WH_ hp
   |ok s=>rw[hp] at h;cases h
theorem alm_ {l:List PartL} {e:Int} (h:QK_ l= .error e):e≠0:=by
 unfold QK_ at h
 split at h
 ·cases h;decide
 ·exact aaR_ _ h
theorem acf_ (s:List UInt8) (w:World) (hs:s.length<100000):Rets Tryz.prog 123 #[vs s] w (fun v D=>v= .tuple #[obV (zG_ s).k (zG_ s).t,vi (if frOk s then 0 else 2)]∧D= []):=afv_ s w hs
structure FiG where
 k:Nat
 ids:List IdL
 os:List ObL
 x2:Value
 x3:Value
 D2:zd_
 D3:zd_
 DG:zd_
theorem ag0_ {l:List PartL} {e:Int} (h:QK_ l= .error e):fillV l=none:=by unfold fillV;rw[h]
theorem adM_ {l:List PartL} {ts:List (List UInt8)} {k:Nat} {p:List IdL×List ObL} (h:QK_ l= .ok ts) (hk:k<ts.length) (hp:q8_ (ts.take k) [] []=some p) (hn: ¬ (frOk (ts.getD k [])=true∧(p.1.any fun y=>(j8_ (ts.getD k [])).l==y.l)=false)):fillV l=none:=by
 unfold fillV
 rw[h]
 show q8_ ts [] []=none
 have e:ts=ts.take (k+1)++ts.drop (k+1):=(List.take_append_drop _ _).symm
 rw[e]
 refine acY_ ?_
 rw[take_snoc (z:= []) hk,Xh_ hp,if_neg hn]
set_option linter.defProp false
def qB_:=And.intro (And.intro (And.intro (@zg_) (And.intro (@zf_) (@VW_))) (And.intro (@aec_) (And.intro (@adN_) (@aea_)))) (And.intro (And.intro (@Sx.tup2_0) (And.intro (@Sx.tup2_1) (@q2_))) (And.intro (And.intro (@qp_) (@qo_)) (And.intro (@qA_) (@jd_))))
theorem aam_ (bp:Nat) (v0 v1:Value) (l:List PartL) (w:World) (hv:ZF_ w v0 l) (hG:GlobE w) (hb:BndL l) (hl:l.length<1000000) (ho:w.heap[bp]? =some (pkO v0 v1 (.slice none 0 0) (.slice none 0 0)))
  (hv0:slB v0≠some bp) (hgb:3<bp):
  Rets Tryz.prog 59 #[vp bp 0] w (XS w [(bp,pkO v0 v1 (.slice none 0 0) (.slice none 0 0))] (abZ_ l bp v0 v1)):=by
 have hbp:bp<w.heap.size:=(Array.getElem?_eq_some_iff.1 ho).1
 refine Rets.enterX Tryz.func59 rfl (rs:= [.tmp 2]) Tryz.results59 Tryz.ntmps59 (anp_ ho) (by simp[keys]) ?_
 refine kf ?_
 first|with_reducible refine ks [] @qB_ ?_|refine kp @qB_ ?_
 refine Ow.callX (Y:= [(bp,pkO v0 v1 (.slice none 0 0) (.slice none 0 0))]) (by simp) rfl rfl Tryz.call125 (fun w' hw' hX hn=>age_ v0 l w' (hv.old hw' fun b hbb _=>by simp only[keys,List.map_cons,List.map_nil,List.mem_singleton];rintro rfl;exact hv0 hbb) hb hl) (fun v1' D1 hC1 hS1=> ?_)
 have hN1:New w.heap.size D1:=New.of_le fun c hc=>by
  rcases hC1.new c hc with h|h
  ·cases h
  ·exact h.2
 unfold AllS at hS1
 cases ha:QK_ l with
 |error e=>
  rw[ha] at hS1
  have hS1':v1'= .tuple #[.slice none 0 0,vi e]:=hS1
  subst hS1'
  have e0: (e !=0)=true:=bne_iff_ne.2 (alm_ ha)
  refine ko @qB_ ?_
  first|with_reducible refine ks [] (And.intro @qB_ @e0) ?_|refine kp (And.intro @qB_ @e0) ?_
  refine⟨_,(ke @qB_), ?_⟩
  refine⟨amh_ hN1, ?_⟩
  unfold abZ_
  rw[ag0_ ha]
  rfl
 |ok ts=>
  rw[ha] at hS1
  obtain⟨x,rfl,hGT⟩:=hS1
  obtain⟨hlen,hl2,htl⟩:=adv_ ha
  have lnT:=VQ_ hGT
  have e0: ((0:Int) !=0)=false:=rfl
  refine ko @qB_ ?_
  first|with_reducible refine ks [] (And.intro @qB_ (And.intro @e0 (@lnT))) ?_|refine kp (And.intro @qB_ (And.intro @e0 (@lnT))) ?_
  refine Cw.world fun ww hww=> ?_
  have hnd:=hww.nodup
  clear hww ww
  rw[zj_,List.nodup_append] at hnd
  refine Cw.permL (M:=(bp,pkO v0 v1 (.slice none 0 0) (.slice none 0 0)):: (D1++ ([]++ ([]++ [])))) (by classical exact List.perm_iff_count.2 fun a=>by simp only[List.count_append,List.count_cons,List.count_nil]<;>omega) ?_
  refine Cw.loopG (G:=FiG) [24,25,26,6,28,29,27,30,31,7,8,33,34,32,35,36,9,10,37,38,39,40,41,42,43,44,45,46,2,47,48,49,50,51,52,53,54,55,56,57,58,59,60,61,62,63,64,65,66,67,23] (fun g=> [(23,vi g.k)]) (fun g=>(bp,pkO v0 v1 g.x2 g.x3):: (D1++ (g.D2++ (g.D3++g.DG)))) (fun g=>g.k≤ts.length∧q8_ (ts.take g.k) [] []=some (g.ids,g.os)∧New w.heap.size g.D2∧New w.heap.size g.D3∧New w.heap.size g.DG∧Gr g.D2 37 32 g.x2 g.ids.length (g.ids.map wR_).flatten∧Gr g.D3 43 2 g.x3 g.os.length (g.os.map obC).flatten) (fun g=>ts.length - g.k) ⟨0,[],[], .slice none 0 0, .slice none 0 0,[],[],[]⟩ rfl rfl ?_ ?_
  ·exact⟨Nat.zero_le _,rfl,trivial,trivial,trivial,Gr.nl,Gr.nl⟩
  intro g j hg
  refine kv ?_
  obtain⟨k,ids,os,x2,x3,D2,D3,DG⟩:=g
  simp only at hg ⊢
  obtain⟨hk,hfg,hN2,hN3,hNG,hG2,hG3⟩:=hg
  have hNr:New w.heap.size (D1++ (D2++ (D3++DG))):=hN1.app (hN2.app (hN3.app hNG))
  have hfl:=KB_ _ _ _ _ hfg
  rw[List.length_take,Nat.min_eq_left hk,List.length_nil,List.length_nil,Nat.zero_add] at hfl
  simp only at hfl
  by_cases hlt:k<ts.length
  ·obtain h0| ⟨bt,ct,rest,rfl,hbt,hlk⟩:=amZ_ hGT hnd.1
   ·omega
   have hd:decide ((k:Int)< (ts.length:Int))=true:=decide_eq_true (by omega)
   have hbtn:bp≠bt:=by have:=hN1.le bt hbt;omega
   have rdt:zy_ w ((bp,pkO v0 v1 x2 x3):: (D1++ (D2++ (D3++DG)))) bt=some (rowO strC 9 rest ts):=qd_ (by rw[q9_ _ _ _ _ hbtn];exact je_ hlk)
   have ldt:=aj9_ (E:=9) (rest:=rest) 1 k hlt
   have hsl:=htl k hlt
   first|with_reducible refine ks [8,12] (And.intro @qB_ (And.intro @hd (And.intro @rdt (@ldt)))) ?_|refine kp (And.intro @qB_ (And.intro @hd (And.intro @rdt (@ldt)))) ?_
   generalize hs:ts.getD k []=s at*
   refine Ow.callFV rfl Tryz.call123 (fun w' hw'=>acf_ s w' (by omega)) ?_
   refine ko @qB_ ?_
   refine Ow.alloc rfl rfl zrOb fun b7 hb7 hw7=> ?_
   simp only[ze_,List.nil_append,List.cons_append]
   have hbp7:bp<b7:=zk_ hb7 (by simp[keys])
   refine Ow.permL (M:=(b7, .cells #[vi 0,vs []] 43 (0,0)):: (bp,pkO v0 v1 x2 x3):: (D1++ (D2++ (D3++DG)))) (by classical exact List.perm_iff_count.2 fun a=>by simp only[List.count_append,List.count_cons,List.count_nil]<;>omega) ?_
   refine ko @qB_ ?_
   first|with_reducible refine ks [] @qB_ ?_|refine kp @qB_ ?_
   refine Ow.callFV rfl Tryz.call126 (fun w' hw'=>aj0_ (zG_ s).k (zG_ s).t w' (hG.of hw' (by intro b hb;simp only[keys,List.map_cons,List.mem_cons] at hb;rcases hb with rfl|rfl|hb<;>first|omega| (have:=hNr.le b hb;omega)))) ?_
   rw[show idV (zG_ s).k (zG_ s).t=j8_ s from rfl]
   have hil:=(j8_ s).h
   have hi0:=id0.h
   refine ko @qB_ ?_
   refine Ow.alloc rfl rfl JH_ fun b9 hb9 hw9=> ?_
   simp only[ze_,List.nil_append,List.cons_append]
   have hb79:b7<b9:=zk_ hb9 (by simp[keys])
   refine Ow.permL (M:=(b9, .cells (a8 id0.l) 37 (0,0)):: (b7, .cells #[vi (zG_ s).k,vs (zG_ s).t] 43 (0,0)):: (bp,pkO v0 v1 x2 x3):: (D1++ (D2++ (D3++DG)))) (by classical exact List.perm_iff_count.2 fun a=>by simp only[List.count_append,List.count_cons,List.count_nil]<;>omega) ?_
   refine ko @qB_ ?_
   obtain⟨O7,hO7⟩: ∃O,O=Obj.cells #[vi (zG_ s).k,vs (zG_ s).t] 43 (0,0):=⟨_,rfl⟩
   obtain⟨O9,hO9⟩: ∃O,O=Obj.cells (a8 (j8_ s).l) 37 (0,0):=⟨_,rfl⟩
   have hEx: ∀M,New w.heap.size M→Ext w [(bp,pkO v0 v1 (.slice none 0 0) (.slice none 0 0))] ((b9,O9):: (b7,O7):: (bp,pkO v0 v1 x2 x3)::M):=fun M hM=>⟨fun c hc=>by
    simp only[keys,List.map_cons,List.mem_cons,List.map_nil,List.not_mem_nil,or_false] at hc ⊢
    rcases hc with h|h|h|h
    ·exact .inr (by omega)
    ·exact .inr (by omega)
    ·exact .inl h
    ·exact .inr (hM.le c h),fun c hc=>by
    simp only[keys,List.map_cons,List.mem_cons,List.map_nil,List.not_mem_nil,or_false] at hc ⊢
    exact .inr (.inr (.inl hc))⟩
   cases hfr:frOk s with
   |false=>
    rw[show(if(false:Bool)=true then(0:Int) else 2)=2 from rfl]
    have e1: ((2:Int) !=0)=true:=rfl
    have hno:fillV l=none:=adM_ ha hlt hfg (by rw[hs,hfr];rintro⟨h,-⟩;cases h)
    refine Cw.regionS [bp,b9] [0,1,2,3,4,5,6,7,8,9] [] (by kernel_rfl) (by kernel_rfl) (by kernel_rfl) ?_
    simp only[zh_, ↓zc_, ↓zb_, ↓zn_, ↓zo_,za_]
    refine kq (And.intro @qB_ @e1) ?_
    rw[←hO7,←hO9]
    first|with_reducible refine ks [] @qB_ ?_|refine kp @qB_ ?_
    refine⟨_,(ke @qB_), ?_⟩
    refine⟨hEx _ hNr, ?_⟩
    unfold abZ_
    rw[hno]
    rfl
   |true=>
    rw[show(if(true:Bool)=true then(0:Int) else 2)=0 from rfl]
    have e1: ((0:Int) !=0)=false:=rfl
    refine Cw.regionS [bp,b9] [0,1,2,3,4,5,6,7,8,9] [] (by kernel_rfl) (by kernel_rfl) (by kernel_rfl) ?_
    simp only[zh_, ↓zc_, ↓zb_, ↓zn_, ↓zo_,za_]
    refine kq (And.intro @qB_ @e1) ?_
    refine Ow.callFV rfl Tryz.call127 (fun w' hw'=>v7_ x2 ids (j8_ s) w' (hG2.slM (fun b o hm=>hw'.has b o (by simp only[List.mem_cons,List.mem_append];exact .inr (.inr (.inr (.inr (.inl hm)))))) rfl rfl jV_) (by omega)) ?_
    cases hct: (ids.any fun y=>(j8_ s).l==y.l) with
    |true=>
     have hno:fillV l=none:=adM_ ha hlt hfg (by rw[hs];rintro⟨-,h⟩;rw[hct] at h;cases h)
     refine kq @qB_ ?_
     rw[←hO7,←hO9]
     first|with_reducible refine ks [] @qB_ ?_|refine kp @qB_ ?_
     refine⟨_,(ke @qB_), ?_⟩
     refine⟨hEx _ hNr, ?_⟩
     unfold abZ_
     rw[hno]
     rfl
    |false=>
     refine kq @qB_ ?_
     have hfg':q8_ (ts.take (k+1)) [] []=some (ids++ [j8_ s],os++ [zG_ s]):=by rw[take_snoc (z:= []) hlt,hs,Xh_ hfg,if_pos ⟨hfr,hct⟩]
     refine Cw.regionG [bp,b7,b9] [18,21] 22 (by kernel_rfl) rfl ?_
     simp only[List.replicate_succ,List.replicate_zero]
     refine OwG.run [0,1,2,3,4,5,6,9,10,11,12,13] [true,true,true,true,true,true,true,false,false,true,true,true,true,true,false,false,false,false,false,false,false,false] 10 rfl (by kernel_rfl) (by kernel_rfl) fun k hk=> ?_
     simp only[zh_, ↓zc_, ↓zb_, ↓zn_, ↓zo_,za_]
     simp(disch:=(first|assumption|omega| (simp only[jF_,jE_,UInt64.reduceToNat];try omega))) only[↓Sx.S0,Sx.S1,Tryz.fx,qB_,Nat.reduceAdd,Nat.reducePow,Int.reducePow,Nat.reduceBEq, ↓reduceIte,UInt8.reduceToNat,UInt16.reduceToNat,UInt32.reduceToNat,UInt64.reduceToNat,Int.reduceToNat,Md.next_sofnil,Md.next_sofnil]
     (with_reducible refine hk _ _ _ ?_);clear hk k
     rw[←hO7,←hO9]
     refine OwG.two 7 14 _ _ (by kernel_rfl) rfl rfl ?_ ?_
     ·refine Ow.buildSlice (e:=37) (a8 (j8_ s).l) rfl rfl (zX_ (cs:=(j8_ s).l.map v8) Tryz.underlying30 Qv_ JH_ (by decide) (by simp[(j8_ s).h])) fun ba hba hwa=> ?_
      with_reducible refine Ow.nil ?_
      refine⟨qH_ (by simp[keys]), ?_⟩
      simp only[List.set_cons_zero,List.set_cons_succ,zO_,qO_,qM_]
      refine OwG.two 8 14 _ _ (by kernel_rfl) rfl rfl ?_ ?_
      ·refine Ow.permL (M:=D2++ ((b9,O9):: (b7,O7):: (bp,pkO v0 v1 x2 x3):: (D1++ (D3++ (DG++ [(ba, .cells (a8 (j8_ s).l) 37 (0,0))]))))) (by classical exact List.perm_iff_count.2 fun a=>by simp only[List.count_append,List.count_cons,List.count_nil]<;>omega) ?_
       refine Ow.appendXG (e:=37) (k:=1) (new:=wR_ (j8_ s)) (X:=D2) x2 rfl rfl rfl rfl Tryz.underlying30 Qv_ (by kernel_rfl) JH_ (by rw[ze_,vh_,id0.h]) Tryz.underlying30 (by intro k h;cases h) hG2 (fun w' hw'=>AppX.one1 (by rw[J9_];exact hw'.has ba (.cells (a8 (j8_ s).l) 37 (0,0)) (by simp)) (jV_ _) (Zb_ _)) (by omega) (fun B4 v4 D4 hA4 hB4 hG4 hk41 hk42 hlk4=> ?_)
       have hN4:New w.heap.size D4:=New.of_le fun q hq=>by
        rcases hk42 q hq with h|h
        ·exact hN2.le q h
        ·omega
       refine Ow.permL (M:=(b9,O9):: (b7,O7):: (bp,pkO v0 v1 x2 x3):: (D1++ (D4++ (D3++ (DG++ [(ba, .cells (a8 (j8_ s).l) 37 (0,0))]))))) (by classical exact List.perm_iff_count.2 fun a=>by simp only[List.count_append,List.count_cons,List.count_nil]<;>omega) ?_
       with_reducible refine Ow.nil ?_
       refine⟨(fun r hr=>by simp only[List.mem_cons,List.not_mem_nil,or_false] at hr;rcases hr with rfl|rfl|rfl<;>simp(disch:=omega) only[List.cons_append,List.nil_append,zF_,zE_]), ?_⟩
       simp only[List.set_cons_zero,List.set_cons_succ,zO_,qO_,qM_]
       refine OwG.one 14 _ (by kernel_rfl) rfl ?_
       refine Ow.buildSlice (e:=43) #[vi (zG_ s).k,vs (zG_ s).t] rfl rfl (zX_ (cs:=obC (zG_ s)) Tryz.underlying29 Tryz.ag43 zrOb (by decide) rfl) fun bc hbc hwc=> ?_
       with_reducible refine Ow.nil ?_
       refine⟨qH_ (by simp[keys]), ?_⟩
       simp only[List.set_cons_zero,List.set_cons_succ,zO_,qO_,qM_]
       refine OwG.permL (M:=(b9,O9):: (b7,O7):: (bp,pkO v0 v1 x2 x3):: (D1++ (D4++ (D3++ (DG++ [(ba, .cells (a8 (j8_ s).l) 37 (0,0)),(bc, .cells #[vi (zG_ s).k,vs (zG_ s).t] 43 (0,0))]))))) (by classical exact List.perm_iff_count.2 fun a=>by simp only[List.count_append,List.count_cons,List.count_nil]<;>omega) (fun r hr=>by simp only[List.mem_cons,List.not_mem_nil,or_false] at hr;rcases hr with rfl|rfl|rfl<;>simp(disch:=omega) only[List.cons_append,List.nil_append,zF_,zE_]) ?_
       refine OwG.rest [15,16,17,18,19,20,21] rfl (by kernel_rfl) (by kernel_rfl) ?_
       simp only[zh_, ↓zc_, ↓zb_, ↓zn_, ↓zo_,za_]
       refine Ow.soft rfl rfl rfl ?_
       refine Ow.permL (M:=D3++ ((b9,O9):: (b7,O7):: (bp,pkO v0 v1 x2 x3):: (D1++ (D4++ (DG++ [(ba, .cells (a8 (j8_ s).l) 37 (0,0)),(bc, .cells #[vi (zG_ s).k,vs (zG_ s).t] 43 (0,0))]))))) (by classical exact List.perm_iff_count.2 fun a=>by simp only[List.count_append,List.count_cons,List.count_nil]<;>omega) ?_
       refine Ow.appendXG (e:=43) (k:=1) (new:=obC (zG_ s)) (X:=D3) x3 rfl rfl rfl rfl Tryz.underlying29 Tryz.ag43 (by kernel_rfl) zrOb (by rw[obV,ze_];rfl) Tryz.underlying29 (by intro k h;cases h) hG3 (fun w' hw'=>AppX.one1 (hw'.has bc (.cells (obC (zG_ s)).toArray 43 (0,0)) (by simp[obC])) (Vd_ _) (ace_ _)) (by omega) (fun B5 v5 D5 hA5 hB5 hG5 hk51 hk52 hlk5=> ?_)
       have hN5:New w.heap.size D5:=New.of_le fun q hq=>by
        rcases hk52 q hq with h|h
        ·exact hN3.le q h
        ·omega
       refine Ow.permL (M:=(b9,O9):: (b7,O7):: (bp,pkO v0 v1 x2 x3):: (D1++ (D4++ (D5++ (DG++ [(ba, .cells (a8 (j8_ s).l) 37 (0,0)),(bc, .cells #[vi (zG_ s).k,vs (zG_ s).t] 43 (0,0))]))))) (by classical exact List.perm_iff_count.2 fun a=>by simp only[List.count_append,List.count_cons,List.count_nil]<;>omega) ?_
       with_reducible refine Ow.nil ?_
       refine⟨(fun r hr=>by simp only[List.mem_cons,List.not_mem_nil,or_false] at hr;rcases hr with rfl|rfl|rfl<;>simp(disch:=omega) only[zF_,zE_]), ?_⟩
       have st4: ∀a,zp_ (some (a,1)) (some (pkO v0 v1 x2 x3)) 2 v4=some (pkO v0 v1 v4 x3):=fun a=>Jj_ v0 v1 x2 x3 v4 a hG4.cell
       have st5: ∀a,zp_ (some (a,1)) (some (pkO v0 v1 v4 x3)) 3 v5=some (pkO v0 v1 v4 v5):=fun a=>Xb_ v0 v1 v4 x3 v5 a hG5.cell
       refine kq @qB_ ?_
       refine Ow.store rfl rfl rfl (ke (And.intro @qB_ @st4)) ?_
       refine ko (And.intro @qB_ @st5) ?_
       refine Cw.permL (M:=(bp,pkO v0 v1 v4 v5):: (D1++ (D4++ (D5++ ((b9,O9):: (b7,O7):: (DG++ [(ba, .cells (a8 (j8_ s).l) 37 (0,0)),(bc, .cells #[vi (zG_ s).k,vs (zG_ s).t] 43 (0,0))])))))) (by classical exact List.perm_iff_count.2 fun a=>by simp only[List.count_append,List.count_cons,List.count_nil]<;>omega) ?_
       first|with_reducible refine ks [] @qB_ ?_|refine kp @qB_ ?_
       refine Again.mk ⟨k+1,ids++ [j8_ s],os++ [zG_ s],v4,v5,D4,D5,(b9,O9):: (b7,O7):: (DG++ [(ba, .cells (a8 (j8_ s).l) 37 (0,0)),(bc, .cells #[vi (zG_ s).k,vs (zG_ s).t] 43 (0,0))])⟩ (by show ts.length - (k+1)<ts.length - k;omega) ⟨hlt,hfg',hN4,hN5,⟨by omega,by omega,hNG.app ⟨hwa,hwc,trivial⟩⟩,by simpa using hG4,by simpa using hG5⟩ rfl rfl
      ·refine Ow.buildSlice (e:=43) #[vi (zG_ s).k,vs (zG_ s).t] rfl rfl (zX_ (cs:=obC (zG_ s)) Tryz.underlying29 Tryz.ag43 zrOb (by decide) rfl) fun bc hbc hwc=> ?_
       with_reducible refine Ow.nil ?_
       refine⟨qH_ (by simp[keys]), ?_⟩
       simp only[List.set_cons_zero,List.set_cons_succ,zO_,qO_,qM_]
       refine OwG.one 8 _ (by kernel_rfl) rfl ?_
       refine Ow.permL (M:=D2++ ((b9,O9):: (b7,O7):: (bp,pkO v0 v1 x2 x3):: (D1++ (D3++ (DG++ [(ba, .cells (a8 (j8_ s).l) 37 (0,0)),(bc, .cells #[vi (zG_ s).k,vs (zG_ s).t] 43 (0,0))]))))) (by classical exact List.perm_iff_count.2 fun a=>by simp only[List.count_append,List.count_cons,List.count_nil]<;>omega) ?_
       refine Ow.appendXG (e:=37) (k:=1) (new:=wR_ (j8_ s)) (X:=D2) x2 rfl rfl rfl rfl Tryz.underlying30 Qv_ (by kernel_rfl) JH_ (by rw[ze_,vh_,id0.h]) Tryz.underlying30 (by intro k h;cases h) hG2 (fun w' hw'=>AppX.one1 (by rw[J9_];exact hw'.has ba (.cells (a8 (j8_ s).l) 37 (0,0)) (by simp)) (jV_ _) (Zb_ _)) (by omega) (fun B4 v4 D4 hA4 hB4 hG4 hk41 hk42 hlk4=> ?_)
       have hN4:New w.heap.size D4:=New.of_le fun q hq=>by
        rcases hk42 q hq with h|h
        ·exact hN2.le q h
        ·omega
       refine Ow.permL (M:=(b9,O9):: (b7,O7):: (bp,pkO v0 v1 x2 x3):: (D1++ (D4++ (D3++ (DG++ [(ba, .cells (a8 (j8_ s).l) 37 (0,0)),(bc, .cells #[vi (zG_ s).k,vs (zG_ s).t] 43 (0,0))]))))) (by classical exact List.perm_iff_count.2 fun a=>by simp only[List.count_append,List.count_cons,List.count_nil]<;>omega) ?_
       with_reducible refine Ow.nil ?_
       refine⟨(fun r hr=>by simp only[List.mem_cons,List.not_mem_nil,or_false] at hr;rcases hr with rfl|rfl|rfl<;>simp(disch:=omega) only[List.cons_append,List.nil_append,zF_,zE_]), ?_⟩
       simp only[List.set_cons_zero,List.set_cons_succ,zO_,qO_,qM_]
       refine OwG.permL (M:=(b9,O9):: (b7,O7):: (bp,pkO v0 v1 x2 x3):: (D1++ (D4++ (D3++ (DG++ [(ba, .cells (a8 (j8_ s).l) 37 (0,0)),(bc, .cells #[vi (zG_ s).k,vs (zG_ s).t] 43 (0,0))]))))) (by classical exact List.perm_iff_count.2 fun a=>by simp only[List.count_append,List.count_cons,List.count_nil]<;>omega) (fun r hr=>by simp only[List.mem_cons,List.not_mem_nil,or_false] at hr;rcases hr with rfl|rfl|rfl<;>simp(disch:=omega) only[List.cons_append,List.nil_append,zF_,zE_]) ?_
       refine OwG.rest [15,16,17,18,19,20,21] rfl (by kernel_rfl) (by kernel_rfl) ?_
       simp only[zh_, ↓zc_, ↓zb_, ↓zn_, ↓zo_,za_]
       refine Ow.soft rfl rfl rfl ?_
       refine Ow.permL (M:=D3++ ((b9,O9):: (b7,O7):: (bp,pkO v0 v1 x2 x3):: (D1++ (D4++ (DG++ [(ba, .cells (a8 (j8_ s).l) 37 (0,0)),(bc, .cells #[vi (zG_ s).k,vs (zG_ s).t] 43 (0,0))]))))) (by classical exact List.perm_iff_count.2 fun a=>by simp only[List.count_append,List.count_cons,List.count_nil]<;>omega) ?_
       refine Ow.appendXG (e:=43) (k:=1) (new:=obC (zG_ s)) (X:=D3) x3 rfl rfl rfl rfl Tryz.underlying29 Tryz.ag43 (by kernel_rfl) zrOb (by rw[obV,ze_];rfl) Tryz.underlying29 (by intro k h;cases h) hG3 (fun w' hw'=>AppX.one1 (hw'.has bc (.cells (obC (zG_ s)).toArray 43 (0,0)) (by simp[obC])) (Vd_ _) (ace_ _)) (by omega) (fun B5 v5 D5 hA5 hB5 hG5 hk51 hk52 hlk5=> ?_)
       have hN5:New w.heap.size D5:=New.of_le fun q hq=>by
        rcases hk52 q hq with h|h
        ·exact hN3.le q h
        ·omega
       refine Ow.permL (M:=(b9,O9):: (b7,O7):: (bp,pkO v0 v1 x2 x3):: (D1++ (D4++ (D5++ (DG++ [(ba, .cells (a8 (j8_ s).l) 37 (0,0)),(bc, .cells #[vi (zG_ s).k,vs (zG_ s).t] 43 (0,0))]))))) (by classical exact List.perm_iff_count.2 fun a=>by simp only[List.count_append,List.count_cons,List.count_nil]<;>omega) ?_
       with_reducible refine Ow.nil ?_
       refine⟨(fun r hr=>by simp only[List.mem_cons,List.not_mem_nil,or_false] at hr;rcases hr with rfl|rfl|rfl<;>simp(disch:=omega) only[zF_,zE_]), ?_⟩
       have st4: ∀a,zp_ (some (a,1)) (some (pkO v0 v1 x2 x3)) 2 v4=some (pkO v0 v1 v4 x3):=fun a=>Jj_ v0 v1 x2 x3 v4 a hG4.cell
       have st5: ∀a,zp_ (some (a,1)) (some (pkO v0 v1 v4 x3)) 3 v5=some (pkO v0 v1 v4 v5):=fun a=>Xb_ v0 v1 v4 x3 v5 a hG5.cell
       refine kq @qB_ ?_
       refine Ow.store rfl rfl rfl (ke (And.intro @qB_ @st4)) ?_
       refine ko (And.intro @qB_ @st5) ?_
       refine Cw.permL (M:=(bp,pkO v0 v1 v4 v5):: (D1++ (D4++ (D5++ ((b9,O9):: (b7,O7):: (DG++ [(ba, .cells (a8 (j8_ s).l) 37 (0,0)),(bc, .cells #[vi (zG_ s).k,vs (zG_ s).t] 43 (0,0))])))))) (by classical exact List.perm_iff_count.2 fun a=>by simp only[List.count_append,List.count_cons,List.count_nil]<;>omega) ?_
       first|with_reducible refine ks [] @qB_ ?_|refine kp @qB_ ?_
       refine Again.mk ⟨k+1,ids++ [j8_ s],os++ [zG_ s],v4,v5,D4,D5,(b9,O9):: (b7,O7):: (DG++ [(ba, .cells (a8 (j8_ s).l) 37 (0,0)),(bc, .cells #[vi (zG_ s).k,vs (zG_ s).t] 43 (0,0))])⟩ (by show ts.length - (k+1)<ts.length - k;omega) ⟨hlt,hfg',hN4,hN5,⟨by omega,by omega,hNG.app ⟨hwa,hwc,trivial⟩⟩,by simpa using hG4,by simpa using hG5⟩ rfl rfl
     ·refine Ow.buildSlice (e:=43) #[vi (zG_ s).k,vs (zG_ s).t] rfl rfl (zX_ (cs:=obC (zG_ s)) Tryz.underlying29 Tryz.ag43 zrOb (by decide) rfl) fun bc hbc hwc=> ?_
      with_reducible refine Ow.nil ?_
      refine⟨qH_ (by simp[keys]), ?_⟩
      simp only[List.set_cons_zero,List.set_cons_succ,zO_,qO_,qM_]
      refine OwG.one 7 _ (by kernel_rfl) rfl ?_
      refine Ow.buildSlice (e:=37) (a8 (j8_ s).l) rfl rfl (zX_ (cs:=(j8_ s).l.map v8) Tryz.underlying30 Qv_ JH_ (by decide) (by simp[(j8_ s).h])) fun ba hba hwa=> ?_
      with_reducible refine Ow.nil ?_
      refine⟨qH_ (by simp[keys]), ?_⟩
      simp only[List.set_cons_zero,List.set_cons_succ,zO_,qO_,qM_]
      refine OwG.one 8 _ (by kernel_rfl) rfl ?_
      refine Ow.permL (M:=D2++ ((b9,O9):: (b7,O7):: (bp,pkO v0 v1 x2 x3):: (D1++ (D3++ (DG++ [(ba, .cells (a8 (j8_ s).l) 37 (0,0)),(bc, .cells #[vi (zG_ s).k,vs (zG_ s).t] 43 (0,0))]))))) (by classical exact List.perm_iff_count.2 fun a=>by simp only[List.count_append,List.count_cons,List.count_nil]<;>omega) ?_
      refine Ow.appendXG (e:=37) (k:=1) (new:=wR_ (j8_ s)) (X:=D2) x2 rfl rfl rfl rfl Tryz.underlying30 Qv_ (by kernel_rfl) JH_ (by rw[ze_,vh_,id0.h]) Tryz.underlying30 (by intro k h;cases h) hG2 (fun w' hw'=>AppX.one1 (by rw[J9_];exact hw'.has ba (.cells (a8 (j8_ s).l) 37 (0,0)) (by simp)) (jV_ _) (Zb_ _)) (by omega) (fun B4 v4 D4 hA4 hB4 hG4 hk41 hk42 hlk4=> ?_)
      have hN4:New w.heap.size D4:=New.of_le fun q hq=>by
       rcases hk42 q hq with h|h
       ·exact hN2.le q h
       ·omega
      refine Ow.permL (M:=(b9,O9):: (b7,O7):: (bp,pkO v0 v1 x2 x3):: (D1++ (D4++ (D3++ (DG++ [(ba, .cells (a8 (j8_ s).l) 37 (0,0)),(bc, .cells #[vi (zG_ s).k,vs (zG_ s).t] 43 (0,0))]))))) (by classical exact List.perm_iff_count.2 fun a=>by simp only[List.count_append,List.count_cons,List.count_nil]<;>omega) ?_
      with_reducible refine Ow.nil ?_
      refine⟨(fun r hr=>by simp only[List.mem_cons,List.not_mem_nil,or_false] at hr;rcases hr with rfl|rfl|rfl<;>simp(disch:=omega) only[List.cons_append,List.nil_append,zF_,zE_]), ?_⟩
      simp only[List.set_cons_zero,List.set_cons_succ,zO_,qO_,qM_]
      refine OwG.permL (M:=(b9,O9):: (b7,O7):: (bp,pkO v0 v1 x2 x3):: (D1++ (D4++ (D3++ (DG++ [(ba, .cells (a8 (j8_ s).l) 37 (0,0)),(bc, .cells #[vi (zG_ s).k,vs (zG_ s).t] 43 (0,0))]))))) (by classical exact List.perm_iff_count.2 fun a=>by simp only[List.count_append,List.count_cons,List.count_nil]<;>omega) (fun r hr=>by simp only[List.mem_cons,List.not_mem_nil,or_false] at hr;rcases hr with rfl|rfl|rfl<;>simp(disch:=omega) only[List.cons_append,List.nil_append,zF_,zE_]) ?_
      refine OwG.rest [15,16,17,18,19,20,21] rfl (by kernel_rfl) (by kernel_rfl) ?_
      simp only[zh_, ↓zc_, ↓zb_, ↓zn_, ↓zo_,za_]
      refine Ow.soft rfl rfl rfl ?_
      refine Ow.permL (M:=D3++ ((b9,O9):: (b7,O7):: (bp,pkO v0 v1 x2 x3):: (D1++ (D4++ (DG++ [(ba, .cells (a8 (j8_ s).l) 37 (0,0)),(bc, .cells #[vi (zG_ s).k,vs (zG_ s).t] 43 (0,0))]))))) (by classical exact List.perm_iff_count.2 fun a=>by simp only[List.count_append,List.count_cons,List.count_nil]<;>omega) ?_
      refine Ow.appendXG (e:=43) (k:=1) (new:=obC (zG_ s)) (X:=D3) x3 rfl rfl rfl rfl Tryz.underlying29 Tryz.ag43 (by kernel_rfl) zrOb (by rw[obV,ze_];rfl) Tryz.underlying29 (by intro k h;cases h) hG3 (fun w' hw'=>AppX.one1 (hw'.has bc (.cells (obC (zG_ s)).toArray 43 (0,0)) (by simp[obC])) (Vd_ _) (ace_ _)) (by omega) (fun B5 v5 D5 hA5 hB5 hG5 hk51 hk52 hlk5=> ?_)
      have hN5:New w.heap.size D5:=New.of_le fun q hq=>by
       rcases hk52 q hq with h|h
       ·exact hN3.le q h
       ·omega
      refine Ow.permL (M:=(b9,O9):: (b7,O7):: (bp,pkO v0 v1 x2 x3):: (D1++ (D4++ (D5++ (DG++ [(ba, .cells (a8 (j8_ s).l) 37 (0,0)),(bc, .cells #[vi (zG_ s).k,vs (zG_ s).t] 43 (0,0))]))))) (by classical exact List.perm_iff_count.2 fun a=>by simp only[List.count_append,List.count_cons,List.count_nil]<;>omega) ?_
      with_reducible refine Ow.nil ?_
      refine⟨(fun r hr=>by simp only[List.mem_cons,List.not_mem_nil,or_false] at hr;rcases hr with rfl|rfl|rfl<;>simp(disch:=omega) only[zF_,zE_]), ?_⟩
      have st4: ∀a,zp_ (some (a,1)) (some (pkO v0 v1 x2 x3)) 2 v4=some (pkO v0 v1 v4 x3):=fun a=>Jj_ v0 v1 x2 x3 v4 a hG4.cell
      have st5: ∀a,zp_ (some (a,1)) (some (pkO v0 v1 v4 x3)) 3 v5=some (pkO v0 v1 v4 v5):=fun a=>Xb_ v0 v1 v4 x3 v5 a hG5.cell
      refine kq @qB_ ?_
      refine Ow.store rfl rfl rfl (ke (And.intro @qB_ @st4)) ?_
      refine ko (And.intro @qB_ @st5) ?_
      refine Cw.permL (M:=(bp,pkO v0 v1 v4 v5):: (D1++ (D4++ (D5++ ((b9,O9):: (b7,O7):: (DG++ [(ba, .cells (a8 (j8_ s).l) 37 (0,0)),(bc, .cells #[vi (zG_ s).k,vs (zG_ s).t] 43 (0,0))])))))) (by classical exact List.perm_iff_count.2 fun a=>by simp only[List.count_append,List.count_cons,List.count_nil]<;>omega) ?_
      first|with_reducible refine ks [] @qB_ ?_|refine kp @qB_ ?_
      refine Again.mk ⟨k+1,ids++ [j8_ s],os++ [zG_ s],v4,v5,D4,D5,(b9,O9):: (b7,O7):: (DG++ [(ba, .cells (a8 (j8_ s).l) 37 (0,0)),(bc, .cells #[vi (zG_ s).k,vs (zG_ s).t] 43 (0,0))])⟩ (by show ts.length - (k+1)<ts.length - k;omega) ⟨hlt,hfg',hN4,hN5,⟨by omega,by omega,hNG.app ⟨hwa,hwc,trivial⟩⟩,by simpa using hG4,by simpa using hG5⟩ rfl rfl
  ·obtain rfl:k=ts.length:=by omega
   have hd:decide ((ts.length:Int)< (ts.length:Int))=false:=decide_eq_false (by omega)
   first|with_reducible refine ks [] (And.intro @qB_ @hd) ?_|refine kp (And.intro @qB_ @hd) ?_
   refine⟨_,(ke @qB_), ?_⟩
   refine⟨ajD_ hNr, ?_⟩
   have hf:fillV l=some (ids,os):=by
    unfold fillV
    rw[ha]
    rw[List.take_length] at hfg
    exact hfg
   unfold abZ_
   rw[hf]
   exact⟨rfl,x2,x3,_,rfl,Gr.i hG2 fun q hq=>by simp[hq],Gr.i hG3 fun q hq=>by simp[hq]⟩
end Go.Proofs
end
section
open Go Go.Proofs Go.Sx Go.StP Go.Flo
namespace Go.Proofs
set_option maxRecDepth 10000
set_option maxHeartbeats 400000
set_option linter.unusedSimpArgs false
def prO (v0 v1 v2:Value):Obj:= .cells #[v0,v1,v2] 137 (0,0)
def wrO (s:List UInt8) (a:Nat) (e:Int):Obj:= .cells #[vs s,vi a,vi e] 212 (0,0)
theorem K0_ (v0 v1 v2:Value) (n:Nat):zr_ (some (false,n)) (some (prO v0 v1 v2)) 0=some v0:=(rfl)
theorem VH_ (v0 v1 v2:Value) (n:Nat):zr_ (some (false,n)) (some (prO v0 v1 v2)) 1=some v1:=(rfl)
theorem K7_ (v0 v1 v2:Value) (n:Nat):zr_ (some (false,n)) (some (prO v0 v1 v2)) 2=some v2:=(rfl)
theorem J6_ (v0 v1 v2 q:Value) (a:Bool) (hq:Value.oneCell' q=true∧q.cells= #[q]):zp_ (some (a,1)) (some (prO v0 v1 v2)) 1 q=some (prO v0 q v2):=
 z6_ [v0] [v1] [q] [v2] a _ 137 rfl rfl hq.2 rfl (by simp[hq.1])
theorem J7_ (v0 v1 v2 q:Value) (a:Bool) (hq:Value.oneCell' q=true∧q.cells= #[q]):zp_ (some (a,1)) (some (prO v0 v1 v2)) 2 q=some (prO v0 v1 q):=
 z6_ [v0,v1] [v2] [q] [] a _ 137 rfl rfl hq.2 rfl (by simp[hq.1])
theorem aa8_ (p:PartL) (E:TypeId) (a:Bool) (x:Bool):zp_ (some (a,1)) (some (.cells (zx_ p).toArray E (0,0))) 0 (.bool x)=some (.cells (zx_ ⟨x,p.b,p.x⟩).toArray E (0,0)):=(rfl)
theorem aa6_ (p:PartL) (E:TypeId) (a:Bool) (x:Int):zp_ (some (a,1)) (some (.cells (zx_ p).toArray E (0,0))) 1 (vi x)=some (.cells (zx_ ⟨p.d,x,p.x⟩).toArray E (0,0)):=(rfl)
theorem wj_ (p:PartL) (E:TypeId):zr_ (some (true,3)) (some (.cells (zx_ p).toArray E (0,0))) 0=some (.agg (zx_ p).toArray):=wx_ (n:=3) [] (zx_ p) [] E (0,0) rfl rfl
theorem JC_ (t:List UInt8):qg_ (kt_ Tryz.prog 114) (zK_ Tryz.prog 114) [(2,vs t)]=some (.agg (zx_ ⟨false,0,t⟩).toArray):=by
 rw[show kt_ Tryz.prog 114=some [(0,1),(1,1),(2,1)] from id (by kernel_rfl),Zh_];rfl
theorem aiA_ {w:World} {a b:Nat} {x y:Obj} (h:w.heap[a]? =some x) (h':w.heap[b]? =some y): ∀p:Nat×Obj,p∈ [(a,x),(b,y)]→w.heap[p.1]? =some p.2:=by
 intro p hp
 simp only[List.mem_cons,List.not_mem_nil,or_false] at hp
 rcases hp with rfl|rfl<;>assumption
theorem Ki_ (b:Nat) (s:List UInt8) (a:Nat) (e n:Int) (w:World) (ha:a≤s.length) (hs:s.length<9223372036854775808) (ho:w.heap[b]? =some (wrO s a e)):
  Rets Tryz.prog 94 #[vp b 0,vi n] w (fun v D=> ∃o,D= [(b,o)]∧v=vs (jc_ s a e n).1∧o=wrO s (jc_ s a e n).2.1 (jc_ s a e n).2.2):=v9_ b s a e n w ha hs ho
theorem jq_ (b:Nat) (s:List UInt8) (a:Nat) (e most:Int) (w:World) (ha:a≤s.length) (hs:s.length<9223372036854775808) (ho:w.heap[b]? =some (wrO s a e)):
  Rets Tryz.prog 95 #[vp b 0,vi most] w (fun v D=> ∃o,D= [(b,o)]∧v=vi (zu_ s a e most).1∧o=wrO s (zu_ s a e most).2.1 (zu_ s a e most).2.2):=qY_ b s a e most w ha hs ho
theorem abz_ (b:Nat) (s:List UInt8) (a:Nat) (e most:Int) (w:World) (ha:a≤s.length) (hs:s.length<9223372036854775808) (ho:w.heap[b]? =some (wrO s a e)):
  Rets Tryz.prog 96 #[vp b 0,vi most] w (fun v D=> ∃o,D= [(b,o)]∧v=vs (qN_ s a e most).1∧o=wrO s (qN_ s a e most).2.1 (qN_ s a e most).2.2):=wq_ b s a e most w ha hs ho
theorem acJ_ {w:World} {a b:Nat} {x x' y y':Obj} {D:zd_} (h:New w.heap.size D):Ext w [(a,x),(b,y)] ((a,x'):: (b,y')::D):=⟨fun c hc=>by
 simp only[keys,List.map_cons,List.mem_cons,List.map_nil,List.not_mem_nil,or_false] at hc ⊢
 rcases hc with h'|h'|h'
 ·exact .inl (.inl h')
 ·exact .inl (.inr h')
 ·exact .inr (h.le c h'),fun c hc=>by
 simp only[keys,List.map_cons,List.mem_cons,List.map_nil,List.not_mem_nil,or_false] at hc ⊢
 rcases hc with h'|h'
 ·exact .inl h'
 ·exact .inr (.inl h')⟩
set_option linter.defProp false
def zU_:=And.intro (And.intro (And.intro (@zg_) (And.intro (@zf_) (@K0_))) (And.intro (And.intro (@VH_) (@K7_)) (And.intro (@Sx.tup2_0) (@Sx.tup2_1)))) (And.intro (And.intro (And.intro (@jt_) (@ju_)) (And.intro (@jo_) (@wj_))) (And.intro (And.intro (@qk_) (@k8_)) (And.intro (@aa8_) (@aa6_))))
theorem ah6_ (br bw:Nat) (s:List UInt8) (v1 v2:Value) (w:World) (hs:s.length<9223372036854775808) (hne:br≠bw) (ho:w.heap[br]? =some (prO (vp bw 0) v1 v2)) (hr:w.heap[bw]? =some (wrO s 0 0)):
  Rets Tryz.prog 72 #[vp br 0] w (XS w [(br,prO (vp bw 0) v1 v2),(bw,wrO s 0 0)] (fun v D=>v= .tuple #[vi (xk_ s).1, .bool (xk_ s).2.1]∧D= [(br,prO (vp bw 0) v1 v2),(bw,wrO s (xk_ s).2.2.1 (xk_ s).2.2.2)])):=by
 refine Rets.enterX Tryz.func72 rfl (rs:= [.tmp 2, .tmp 3]) Tryz.results72 Tryz.ntmps72 (aiA_ ho hr) (by simp[keys,hne]) ?_
 refine kf ?_
 first|with_reducible refine ks [] @zU_ ?_|refine kp @zU_ ?_
 refine Ow.callM rfl rfl Tryz.call94 (by simp[keys]) (fun w' hw'=>Ki_ bw s 0 0 4 w' (Nat.zero_le _) hs (hw'.has _ _ (List.mem_cons_of_mem _ List.mem_cons_self))) ?_
 have r1:=ko_ (s:=s) (a:=0) (e:=0) (n:=4) (Nat.zero_le _)
 unfold xk_
 generalize jc_ s 0 0 4=p at*
 obtain⟨x,a1,e1⟩:=p
 simp only at r1 ⊢
 refine kn ?_
 by_cases hm:x=magB
 ·have d1: (x !=magB)=false:=by rw[hm];exact bne_self_eq_false _
  unfold magB at d1
  rw[if_pos hm]
  refine ko (And.intro @zU_ @d1) ?_
  first|with_reducible refine ks [] (And.intro @zU_ @d1) ?_|refine kp (And.intro @zU_ @d1) ?_
  refine Ow.callM rfl rfl Tryz.call95 (by simp[keys]) (fun w' hw'=>jq_ bw s a1 e1 200 w' r1.2 hs (hw'.has _ _ (List.mem_cons_of_mem _ List.mem_cons_self))) ?_
  generalize zu_ s a1 e1 200=q at*
  obtain⟨n,a2,e2⟩:=q
  simp only
  refine kn ?_
  refine ko @zU_ ?_
  first|with_reducible refine ks [] @zU_ ?_|refine kp @zU_ ?_
  refine Ow.callFV rfl Tryz.call137 (fun w' hw'=>xz_ bw s a2 e2 w' (hw'.has _ _ (List.mem_cons_of_mem _ List.mem_cons_self))) ?_
  refine ko @zU_ ?_
  first|with_reducible refine ks [] @zU_ ?_|refine kp @zU_ ?_
  refine⟨_,(ke @zU_), ?_⟩
  exact⟨acJ_ trivial,rfl,rfl⟩
 ·have d1: (x !=magB)=true:=bne_iff_ne.2 hm
  unfold magB at d1
  rw[if_neg hm]
  refine ko (And.intro @zU_ @d1) ?_
  first|with_reducible refine ks [] (And.intro @zU_ @d1) ?_|refine kp (And.intro @zU_ @d1) ?_
  refine⟨_,(ke @zU_), ?_⟩
  exact⟨acJ_ trivial,rfl,rfl⟩
structure RdG where
 lab:Nat
 l:List PartL
 sp:List Nat
 a:Nat
 e:Int
 v1:Value
 v2:Value
 b4:Nat
 q:PartL
 D1:zd_
 D2:zd_
 DG:zd_
def RdJ (s:List UInt8) (n a0:Nat) (e0:Int) (sz:Nat) (g:RdG):Prop:=
 sz≤g.b4∧New sz g.D1∧New sz g.D2∧New sz g.DG∧Gr g.D1 114 3 g.v1 g.l.length (g.l.map zx_).flatten∧Gr g.D2 3 1 g.v2 g.sp.length (g.sp.map VI_).flatten∧g.sp.length=g.l.length∧g.a≤s.length∧g.l.length≤n∧
  ((g.lab=1∧z8_ s n 0 a0 e0=(g.l++ (z8_ s (n - g.l.length) g.l.length g.a g.e).1,g.sp++ (z8_ s (n - g.l.length) g.l.length g.a g.e).2.1,(z8_ s (n - g.l.length) g.l.length g.a g.e).2.2))∨
  (g.lab=0∧z8_ s n 0 a0 e0=(g.l,g.sp,g.a,g.e)))
def RdL (g:RdG):Nat:=match g.lab with
 |1=>1
 |_=>0
def RdH (br bw:Nat) (s:List UInt8) (g:RdG):zd_:=(br,prO (vp bw 0) g.v1 g.v2):: (bw,wrO s g.a g.e):: (g.b4, .cells (zx_ g.q).toArray 114 (0,0)):: (g.D1++ (g.D2++g.DG))
def apC_ (s:List UInt8) (n a0:Nat) (e0:Int) (br bw:Nat) (v:Value) (D:zd_):Prop:=
 v= .tuple #[]∧ ∃v1 v2 D',D=(br,prO (vp bw 0) v1 v2):: (bw,wrO s (z8_ s n 0 a0 e0).2.2.1 (z8_ s n 0 a0 e0).2.2.2)::D'∧
  GrI D' 114 3 v1 (z8_ s n 0 a0 e0).1.length ((z8_ s n 0 a0 e0).1.map zx_).flatten∧GrI D' 3 1 v2 (z8_ s n 0 a0 e0).2.1.length ((z8_ s n 0 a0 e0).2.1.map VI_).flatten
theorem agq_ (br bw:Nat) (s:List UInt8) (n a0:Nat) (e0:Int) (w:World) (hs:s.length<9223372036854775808) (hn:n≤1000000) (ha:a0≤s.length) (hne:br≠bw) (ho:w.heap[br]? =some (prO (vp bw 0) (.slice none 0 0) (.slice none 0 0))) (hr:w.heap[bw]? =some (wrO s a0 e0)):
  Rets Tryz.prog 73 #[vp br 0,vi n] w (XS w [(br,prO (vp bw 0) (.slice none 0 0) (.slice none 0 0)),(bw,wrO s a0 e0)] (apC_ s n a0 e0 br bw)):=by
 have hbr:br<w.heap.size:=(Array.getElem?_eq_some_iff.1 ho).1
 have hbw:bw<w.heap.size:=(Array.getElem?_eq_some_iff.1 hr).1
 refine Rets.enterX Tryz.func73 rfl (rs:= []) Tryz.results73 Tryz.ntmps73 (aiA_ ho hr) (by simp[keys,hne]) ?_
 refine kf ?_
 first|with_reducible refine ks [] @zU_ ?_|refine kp @zU_ ?_
 refine Cw.scopeL (G:=RdG) (fun g=>RdL g) [4,5,6,7,8,9,10,11,12,13,14,15,16,17,18,19,20,21,22,23,24,25,26,27,28,29,30,31,32,33,34,35,36,37,38,39,40,41,42,43,44,45,46,47,48,49,50,51,52,53,54,55,56,57,58,59,60,61,62,63,64,65,66] (fun g=> [(4,vp g.b4 0)]) (fun g=>RdH br bw s g) (fun g=>RdJ s n a0 e0 w.heap.size g) (fun g=>(if g.lab=1 then n - g.l.length+1 else 0)) ?_ ?_ ?_
 ·intro g
  unfold RdL
  split<;>rfl
 ·intro g j hg
  obtain⟨lab,l,sp,a,e,v1,v2,b4,q,D1,D2,DG⟩:=g
  obtain⟨hw4,hN1,hN2,hNG,hG1,hG2,hsl,hal,hln,hg⟩:=hg
  simp only at hw4 hN1 hN2 hNG hG1 hG2 hsl hal hln
  have hNr:New w.heap.size (D1++ (D2++DG)):=hN1.app (hN2.app hNG)
  have l1:=hG1.len
  rcases hg with hg|hg
  ·obtain⟨hlab,hpr⟩:=hg
   simp only at hlab
   subst hlab
   simp only[RdL,RdH] at hpr ⊢
   by_cases hlen:l.length=n
   ·have d1: ((l.length:Int)==(n:Int))=true:=by rw[hlen];exact beq_self_eq_true _
    simp only[ki_,Qp_,Bool.or_false,Bool.false_or,Bool.or_true,Bool.true_or,Nat.reduceBEq,beq_self_eq_true, ↓reduceIte,Bool.false_eq_true]
    refine kv ?_
    try with_reducible refine qr_ ?_
    first|with_reducible refine ks [] (And.intro @zU_ (And.intro @l1 (@d1))) ?_|refine kp (And.intro @zU_ (And.intro @l1 (@d1))) ?_
    refine Jump.mk ⟨0,l,sp,a,e,v1,v2,b4,q,D1,D2,DG⟩ rfl (by show 0<n - l.length+1;omega) ⟨hw4,hN1,hN2,hNG,hG1,hG2,hsl,hal,hln, .inr ⟨rfl, ?_⟩⟩ rfl rfl
    rw[hpr,hlen,Nat.sub_self]
    simp[z8_]
   ·have d1: ((l.length:Int)==(n:Int))=false:=beq_eq_false_iff_ne.2 (by omega)
    simp only[ki_,Qp_,Bool.or_false,Bool.false_or,Bool.or_true,Bool.true_or,Nat.reduceBEq,beq_self_eq_true, ↓reduceIte,Bool.false_eq_true]
    refine kv ?_
    try with_reducible refine qr_ ?_
    first|with_reducible refine ks [1000007,9] (And.intro @zU_ (And.intro @l1 (@d1))) ?_|refine kp (And.intro @zU_ (And.intro @l1 (@d1))) ?_
    refine Ow.callFV rfl Tryz.call138 (fun w' hw'=>ad0_ bw s a e w' (hw'.has _ _ (List.mem_cons_of_mem _ List.mem_cons_self))) ?_
    refine ko @zU_ ?_
    first|with_reducible refine ks [] @zU_ ?_|refine kp @zU_ ?_
    have hle1:=z4_ (s:=s) (a:=a) (e:=e) (most:=200) hal
    have hm1:=qW_ (s:=s) (a:=a) (e:=e) (most:=200) (by omega)
    refine Ow.callM rfl rfl Tryz.call95 (by simp[keys]) (fun w' hw'=>jq_ bw s a e 200 w' hal hs (hw'.has _ _ (List.mem_cons_of_mem _ List.mem_cons_self))) ?_
    have hk:n - l.length=(n - (l.length+1))+1:=by omega
    rw[hk] at hpr
    have hpc:wD_ s l.length a e=(⟨decide (0< (zu_ s a e 200).1),if 0< (zu_ s a e 200).1 then((l.length:Nat):Int) - (zu_ s a e 200).1 else 0,(qN_ s (zu_ s a e 200).2.1 (zu_ s a e 200).2.2 65536).1⟩,(qN_ s (zu_ s a e 200).2.1 (zu_ s a e 200).2.2 65536).2):=rfl
    generalize zu_ s a e 200=x at*
    obtain⟨F,a1,e1⟩:=x
    simp only at hle1 hm1 hpc ⊢
    have hle2:=ZB_ (s:=s) (a:=a1) (e:=e1) (most:=65536) hle1.2
    refine kn ?_
    refine ko @zU_ ?_
    first|with_reducible refine ks [] @zU_ ?_|refine kp @zU_ ?_
    refine Ow.callM rfl rfl Tryz.call96 (by simp[keys]) (fun w' hw'=>abz_ bw s a1 e1 65536 w' hle1.2 hs (hw'.has _ _ (List.mem_cons_of_mem _ List.mem_cons_self))) ?_
    generalize qN_ s a1 e1 65536=x at*
    obtain⟨t,a2,e2⟩:=x
    simp only at hle2 hpc ⊢
    refine kn ?_
    refine ko @zU_ ?_
    refine Ow.build (.agg (zx_ ⟨false,0,t⟩).toArray) rfl (JC_ t) ?_
    have hst:=k8_ ⟨false,0,t⟩ q 114
    have hb4r:b4≠br:=by omega
    have hb4w:b4≠bw:=by omega
    refine ko (And.intro @zU_ @hst) ?_
    first|with_reducible refine ks [] @zU_ ?_|refine kp @zU_ ?_
    refine Ow.callFV rfl Tryz.call137 (fun w' hw'=>xz_ bw s a2 e2 w' (hw'.has _ _ (List.mem_cons_of_mem _ List.mem_cons_self))) ?_
    rw[z8_,hpc] at hpr
    simp only at hpr
    by_cases he:e2=0
    ·subst he
     rw[if_pos rfl] at hpr
     have d2: ((0:Int) !=0)=false:=rfl
     refine ko (And.intro @zU_ @d2) ?_
     obtain⟨p,hp⟩: ∃p,p=(⟨decide (0<F),if 0<F then((l.length:Nat):Int) - F else 0,t⟩:PartL):=⟨_,rfl⟩
     rw[←hp] at hpr
     refine Cw.cut (G:=PartL) 67 (fun g=> [(0,vp br 0),(1,vi n),(2,undef),(3,undef),(4,vp b4 0),(6,vi a)]) (fun g=>(b4, .cells (zx_ g).toArray 114 (0,0)):: (br,prO (vp bw 0) v1 v2):: (bw,wrO s a2 0):: (D1++ (D2++DG))) (fun g=>g=p) ?_ ?_
     ·refine Cw.permL (M:=(b4, .cells (zx_ ⟨false,0,t⟩).toArray 114 (0,0)):: (br,prO (vp bw 0) v1 v2):: (bw,wrO s a2 0):: (D1++ (D2++DG))) (by classical exact List.perm_iff_count.2 fun a=>by simp only[List.count_append,List.count_cons,List.count_nil]<;>omega) ?_
      by_cases hF:0<F
      ·have d3:decide ((0:Int)<F)=true:=decide_eq_true hF
       first|with_reducible refine ks [] (And.intro @zU_ @d3) ?_|refine kp (And.intro @zU_ @d3) ?_
       refine Cw.regionG [br] [10] 11 (by kernel_rfl) rfl ?_
       simp only[List.replicate_succ,List.replicate_zero]
       refine OwG.run [0,1,2,3,4,5,6,7] [true,true,true,true,true,true,true,true,false,false,false] 3 rfl (by kernel_rfl) (by kernel_rfl) fun k hk=> ?_
       simp only[zh_, ↓zc_, ↓zb_, ↓zn_, ↓zo_,za_]
       simp(disch:=(first|assumption|omega| (simp only[jF_,jE_,UInt64.reduceToNat];try omega))) only[↓Sx.S0,Sx.S1,Tryz.fx,zU_,Nat.reduceAdd,Nat.reducePow,Int.reducePow,Nat.reduceBEq, ↓reduceIte,UInt8.reduceToNat,UInt16.reduceToNat,UInt32.reduceToNat,UInt64.reduceToNat,Int.reduceToNat,Md.next_sofnil,l1]
       (with_reducible refine hk _ _ _ ?_);clear hk k
       refine OwG.one 8 _ (by kernel_rfl) rfl ?_
       refine ko @zU_ ?_
       refine⟨(fun r hr=>by rw[List.mem_singleton] at hr;subst hr;simp(disch:=omega) only[zF_,zE_]), ?_⟩
       refine OwG.rest [9,10] rfl (by kernel_rfl) (by kernel_rfl) ?_
       simp only[zh_, ↓zc_, ↓zb_, ↓zn_, ↓zo_,za_]
       refine kq @zU_ ?_
       refine Ow.store rfl rfl rfl (ke @zU_) ?_
       refine ko @zU_ ?_
       refine CutM.mk _ ?_ rfl rfl
       rw[hp,decide_eq_true hF,if_pos hF]
      ·have d3:decide ((0:Int)<F)=false:=decide_eq_false hF
       first|with_reducible refine ks [] (And.intro @zU_ @d3) ?_|refine kp (And.intro @zU_ @d3) ?_
       refine CutM.mk _ ?_ rfl rfl
       rw[hp,decide_eq_false hF,if_neg hF]
     ·intro g j hg
      simp only[ads_,ad5_,pin,qO_,qM_,Nat.reduceAdd]
      subst hg
      clear hp
      generalize hpp:g=p at*
      obtain⟨O4,hO4⟩: ∃O,O=Obj.cells (zx_ p).toArray 114 (0,0):=⟨_,rfl⟩
      first|with_reducible refine ks [] @zU_ ?_|refine kp @zU_ ?_
      refine Cw.regionG [br,b4] [18,21] 22 (by kernel_rfl) rfl ?_
      simp only[List.replicate_succ,List.replicate_zero]
      refine OwG.run [0,1,2,3,4,5,6,9,10,11,12,13] [true,true,true,true,true,true,true,false,false,true,true,true,true,true,false,false,false,false,false,false,false,false] 10 rfl (by kernel_rfl) (by kernel_rfl) fun k hk=> ?_
      simp only[zh_, ↓zc_, ↓zb_, ↓zn_, ↓zo_,za_]
      simp(disch:=(first|assumption|omega| (simp only[jF_,jE_,UInt64.reduceToNat];try omega))) only[↓Sx.S0,Sx.S1,Tryz.fx,zU_,Nat.reduceAdd,Nat.reducePow,Int.reducePow,Nat.reduceBEq, ↓reduceIte,UInt8.reduceToNat,UInt16.reduceToNat,UInt32.reduceToNat,UInt64.reduceToNat,Int.reduceToNat,Md.next_sofnil,Md.next_sofnil]
      (with_reducible refine hk _ _ _ ?_);clear hk k
      rw[←hO4]
      refine OwG.two 7 14 _ _ (by kernel_rfl) rfl rfl ?_ ?_
      ·refine Ow.buildSlice (e:=114) (zx_ p).toArray rfl rfl (zX_ (cs:=zx_ p) Tryz.underlying22 Tryz.ag114 Zh_ (by decide) rfl) fun ba hba hwa=> ?_
       with_reducible refine Ow.nil ?_
       refine⟨qH_ (by simp[keys]), ?_⟩
       simp only[List.set_cons_zero,List.set_cons_succ,zO_,qO_,qM_]
       refine OwG.two 8 14 _ _ (by kernel_rfl) rfl rfl ?_ ?_
       ·refine Ow.permL (M:=D1++ ((b4,O4):: (br,prO (vp bw 0) v1 v2):: (bw,wrO s a2 0):: (D2++ (DG++ [(ba, .cells (zx_ p).toArray 114 (0,0))])))) (by classical exact List.perm_iff_count.2 fun a=>by simp only[List.count_append,List.count_cons,List.count_nil]<;>omega) ?_
        refine Ow.appendXG (e:=114) (k:=1) (new:=zx_ p) (X:=D1) v1 rfl rfl rfl rfl Tryz.underlying22 Tryz.ag114 (by kernel_rfl) Zh_ (by rw[qk_];rfl) Tryz.underlying22 (by intro k h;cases h) hG1 (fun w' hw'=>AppX.one1 (hw'.has ba (.cells (zx_ p).toArray 114 (0,0)) (by simp)) (xu_ _) (ZA_ _)) (by omega) (fun B4 v4 D4 hA4 hB4 hG4 hk41 hk42 hlk4=> ?_)
        have hN4:New w.heap.size D4:=New.of_le fun q hq=>by
         rcases hk42 q hq with h|h
         ·exact hN1.le q h
         ·omega
        refine Ow.permL (M:=(b4,O4):: (br,prO (vp bw 0) v1 v2):: (bw,wrO s a2 0):: (D4++ (D2++ (DG++ [(ba, .cells (zx_ p).toArray 114 (0,0))])))) (by classical exact List.perm_iff_count.2 fun a=>by simp only[List.count_append,List.count_cons,List.count_nil]<;>omega) ?_
        with_reducible refine Ow.nil ?_
        refine⟨(fun r hr=>by simp only[List.mem_cons,List.not_mem_nil,or_false] at hr;rcases hr with rfl|rfl<;>simp(disch:=omega) only[List.cons_append,List.nil_append,zF_,zE_]), ?_⟩
        simp only[List.set_cons_zero,List.set_cons_succ,zO_,qO_,qM_]
        refine OwG.one 14 _ (by kernel_rfl) rfl ?_
        refine Ow.buildSlice (e:=3) #[vi a] rfl rfl (by kernel_rfl) fun bc hbc hwc=> ?_
        with_reducible refine Ow.nil ?_
        refine⟨qH_ (by simp[keys]), ?_⟩
        simp only[List.set_cons_zero,List.set_cons_succ,zO_,qO_,qM_]
        refine OwG.permL (M:=(b4,O4):: (br,prO (vp bw 0) v1 v2):: (bw,wrO s a2 0):: (D4++ (D2++ (DG++ [(ba, .cells (zx_ p).toArray 114 (0,0)),(bc, .cells #[vi a] 3 (0,0))])))) (by classical exact List.perm_iff_count.2 fun a=>by simp only[List.count_append,List.count_cons,List.count_nil]<;>omega) (fun r hr=>by simp only[List.mem_cons,List.not_mem_nil,or_false] at hr;rcases hr with rfl|rfl<;>simp(disch:=omega) only[List.cons_append,List.nil_append,zF_,zE_]) ?_
        refine OwG.rest [15,16,17,18,19,20,21] rfl (by kernel_rfl) (by kernel_rfl) ?_
        simp only[zh_, ↓zc_, ↓zb_, ↓zn_, ↓zo_,za_]
        refine Ow.soft rfl rfl rfl ?_
        refine Ow.permL (M:=D2++ ((b4,O4):: (br,prO (vp bw 0) v1 v2):: (bw,wrO s a2 0):: (D4++ (DG++ [(ba, .cells (zx_ p).toArray 114 (0,0)),(bc, .cells #[vi a] 3 (0,0))])))) (by classical exact List.perm_iff_count.2 fun a=>by simp only[List.count_append,List.count_cons,List.count_nil]<;>omega) ?_
        refine Ow.appendXG (e:=3) (k:=1) (new:=VI_ a) (X:=D2) v2 rfl rfl rfl rfl Tryz.underlying28 (id (by kernel_rfl):z0_ Tryz.prog 3=some (false,1)) (by kernel_rfl) (id (by kernel_rfl):zK_ Tryz.prog 3=some (vi 0)) rfl Tryz.underlying28 (by intro k h;cases h) hG2 (fun w' hw'=>AppX.one1 (hw'.has bc (.cells #[vi a] 3 (0,0)) (by simp)) (Zq_ a) rfl) (by omega) (fun B5 v5 D5 hA5 hB5 hG5 hk51 hk52 hlk5=> ?_)
        have hN5:New w.heap.size D5:=New.of_le fun q hq=>by
         rcases hk52 q hq with h|h
         ·exact hN2.le q h
         ·omega
        refine Ow.permL (M:=(br,prO (vp bw 0) v1 v2):: (bw,wrO s a2 0):: (b4,O4):: (D4++ (D5++ (DG++ [(ba, .cells (zx_ p).toArray 114 (0,0)),(bc, .cells #[vi a] 3 (0,0))])))) (by classical exact List.perm_iff_count.2 fun a=>by simp only[List.count_append,List.count_cons,List.count_nil]<;>omega) ?_
        with_reducible refine Ow.nil ?_
        refine⟨(fun r hr=>by simp only[List.mem_cons,List.not_mem_nil,or_false] at hr;rcases hr with rfl|rfl<;>simp(disch:=omega) only[zF_,zE_]), ?_⟩
        have st4: ∀a,zp_ (some (a,1)) (some (prO (vp bw 0) v1 v2)) 1 v4=some (prO (vp bw 0) v4 v2):=fun a=>J6_ _ v1 v2 v4 a hG4.cell
        have st5: ∀a,zp_ (some (a,1)) (some (prO (vp bw 0) v4 v2)) 2 v5=some (prO (vp bw 0) v4 v5):=fun a=>J7_ _ v4 v2 v5 a hG5.cell
        refine kq @zU_ ?_
        refine Ow.store rfl rfl rfl (ke (And.intro @zU_ @st4)) ?_
        refine ko (And.intro @zU_ @st5) ?_
        subst hO4
        refine Jump.mk ⟨1,l++ [p],sp++ [a],a2,0,v4,v5,b4,p,D4,D5,DG++ [(ba, .cells (zx_ p).toArray 114 (0,0)),(bc, .cells #[vi a] 3 (0,0))]⟩ rfl (by show n - (l++ [p]).length+1<n - l.length+1;simp;omega) ⟨hw4,hN4,hN5,hNG.app ⟨hwa,hwc,trivial⟩,by simpa using hG4,by simpa using hG5,by simp[hsl],hle2.2,by simp;omega, .inl ⟨rfl, ?_⟩⟩ rfl rfl
        rw[hpr]
        simp
       ·refine Ow.buildSlice (e:=3) #[vi a] rfl rfl (by kernel_rfl) fun bc hbc hwc=> ?_
        with_reducible refine Ow.nil ?_
        refine⟨qH_ (by simp[keys]), ?_⟩
        simp only[List.set_cons_zero,List.set_cons_succ,zO_,qO_,qM_]
        refine OwG.one 8 _ (by kernel_rfl) rfl ?_
        refine Ow.permL (M:=D1++ ((b4,O4):: (br,prO (vp bw 0) v1 v2):: (bw,wrO s a2 0):: (D2++ (DG++ [(ba, .cells (zx_ p).toArray 114 (0,0)),(bc, .cells #[vi a] 3 (0,0))])))) (by classical exact List.perm_iff_count.2 fun a=>by simp only[List.count_append,List.count_cons,List.count_nil]<;>omega) ?_
        refine Ow.appendXG (e:=114) (k:=1) (new:=zx_ p) (X:=D1) v1 rfl rfl rfl rfl Tryz.underlying22 Tryz.ag114 (by kernel_rfl) Zh_ (by rw[qk_];rfl) Tryz.underlying22 (by intro k h;cases h) hG1 (fun w' hw'=>AppX.one1 (hw'.has ba (.cells (zx_ p).toArray 114 (0,0)) (by simp)) (xu_ _) (ZA_ _)) (by omega) (fun B4 v4 D4 hA4 hB4 hG4 hk41 hk42 hlk4=> ?_)
        have hN4:New w.heap.size D4:=New.of_le fun q hq=>by
         rcases hk42 q hq with h|h
         ·exact hN1.le q h
         ·omega
        refine Ow.permL (M:=(b4,O4):: (br,prO (vp bw 0) v1 v2):: (bw,wrO s a2 0):: (D4++ (D2++ (DG++ [(ba, .cells (zx_ p).toArray 114 (0,0)),(bc, .cells #[vi a] 3 (0,0))])))) (by classical exact List.perm_iff_count.2 fun a=>by simp only[List.count_append,List.count_cons,List.count_nil]<;>omega) ?_
        with_reducible refine Ow.nil ?_
        refine⟨(fun r hr=>by simp only[List.mem_cons,List.not_mem_nil,or_false] at hr;rcases hr with rfl|rfl<;>simp(disch:=omega) only[List.cons_append,List.nil_append,zF_,zE_]), ?_⟩
        simp only[List.set_cons_zero,List.set_cons_succ,zO_,qO_,qM_]
        refine OwG.permL (M:=(b4,O4):: (br,prO (vp bw 0) v1 v2):: (bw,wrO s a2 0):: (D4++ (D2++ (DG++ [(ba, .cells (zx_ p).toArray 114 (0,0)),(bc, .cells #[vi a] 3 (0,0))])))) (by classical exact List.perm_iff_count.2 fun a=>by simp only[List.count_append,List.count_cons,List.count_nil]<;>omega) (fun r hr=>by simp only[List.mem_cons,List.not_mem_nil,or_false] at hr;rcases hr with rfl|rfl<;>simp(disch:=omega) only[List.cons_append,List.nil_append,zF_,zE_]) ?_
        refine OwG.rest [15,16,17,18,19,20,21] rfl (by kernel_rfl) (by kernel_rfl) ?_
        simp only[zh_, ↓zc_, ↓zb_, ↓zn_, ↓zo_,za_]
        refine Ow.soft rfl rfl rfl ?_
        refine Ow.permL (M:=D2++ ((b4,O4):: (br,prO (vp bw 0) v1 v2):: (bw,wrO s a2 0):: (D4++ (DG++ [(ba, .cells (zx_ p).toArray 114 (0,0)),(bc, .cells #[vi a] 3 (0,0))])))) (by classical exact List.perm_iff_count.2 fun a=>by simp only[List.count_append,List.count_cons,List.count_nil]<;>omega) ?_
        refine Ow.appendXG (e:=3) (k:=1) (new:=VI_ a) (X:=D2) v2 rfl rfl rfl rfl Tryz.underlying28 (id (by kernel_rfl):z0_ Tryz.prog 3=some (false,1)) (by kernel_rfl) (id (by kernel_rfl):zK_ Tryz.prog 3=some (vi 0)) rfl Tryz.underlying28 (by intro k h;cases h) hG2 (fun w' hw'=>AppX.one1 (hw'.has bc (.cells #[vi a] 3 (0,0)) (by simp)) (Zq_ a) rfl) (by omega) (fun B5 v5 D5 hA5 hB5 hG5 hk51 hk52 hlk5=> ?_)
        have hN5:New w.heap.size D5:=New.of_le fun q hq=>by
         rcases hk52 q hq with h|h
         ·exact hN2.le q h
         ·omega
        refine Ow.permL (M:=(br,prO (vp bw 0) v1 v2):: (bw,wrO s a2 0):: (b4,O4):: (D4++ (D5++ (DG++ [(ba, .cells (zx_ p).toArray 114 (0,0)),(bc, .cells #[vi a] 3 (0,0))])))) (by classical exact List.perm_iff_count.2 fun a=>by simp only[List.count_append,List.count_cons,List.count_nil]<;>omega) ?_
        with_reducible refine Ow.nil ?_
        refine⟨(fun r hr=>by simp only[List.mem_cons,List.not_mem_nil,or_false] at hr;rcases hr with rfl|rfl<;>simp(disch:=omega) only[zF_,zE_]), ?_⟩
        have st4: ∀a,zp_ (some (a,1)) (some (prO (vp bw 0) v1 v2)) 1 v4=some (prO (vp bw 0) v4 v2):=fun a=>J6_ _ v1 v2 v4 a hG4.cell
        have st5: ∀a,zp_ (some (a,1)) (some (prO (vp bw 0) v4 v2)) 2 v5=some (prO (vp bw 0) v4 v5):=fun a=>J7_ _ v4 v2 v5 a hG5.cell
        refine kq @zU_ ?_
        refine Ow.store rfl rfl rfl (ke (And.intro @zU_ @st4)) ?_
        refine ko (And.intro @zU_ @st5) ?_
        subst hO4
        refine Jump.mk ⟨1,l++ [p],sp++ [a],a2,0,v4,v5,b4,p,D4,D5,DG++ [(ba, .cells (zx_ p).toArray 114 (0,0)),(bc, .cells #[vi a] 3 (0,0))]⟩ rfl (by show n - (l++ [p]).length+1<n - l.length+1;simp;omega) ⟨hw4,hN4,hN5,hNG.app ⟨hwa,hwc,trivial⟩,by simpa using hG4,by simpa using hG5,by simp[hsl],hle2.2,by simp;omega, .inl ⟨rfl, ?_⟩⟩ rfl rfl
        rw[hpr]
        simp
      ·refine Ow.buildSlice (e:=3) #[vi a] rfl rfl (by kernel_rfl) fun bc hbc hwc=> ?_
       with_reducible refine Ow.nil ?_
       refine⟨qH_ (by simp[keys]), ?_⟩
       simp only[List.set_cons_zero,List.set_cons_succ,zO_,qO_,qM_]
       refine OwG.one 7 _ (by kernel_rfl) rfl ?_
       refine Ow.buildSlice (e:=114) (zx_ p).toArray rfl rfl (zX_ (cs:=zx_ p) Tryz.underlying22 Tryz.ag114 Zh_ (by decide) rfl) fun ba hba hwa=> ?_
       with_reducible refine Ow.nil ?_
       refine⟨qH_ (by simp[keys]), ?_⟩
       simp only[List.set_cons_zero,List.set_cons_succ,zO_,qO_,qM_]
       refine OwG.one 8 _ (by kernel_rfl) rfl ?_
       refine Ow.permL (M:=D1++ ((b4,O4):: (br,prO (vp bw 0) v1 v2):: (bw,wrO s a2 0):: (D2++ (DG++ [(ba, .cells (zx_ p).toArray 114 (0,0)),(bc, .cells #[vi a] 3 (0,0))])))) (by classical exact List.perm_iff_count.2 fun a=>by simp only[List.count_append,List.count_cons,List.count_nil]<;>omega) ?_
       refine Ow.appendXG (e:=114) (k:=1) (new:=zx_ p) (X:=D1) v1 rfl rfl rfl rfl Tryz.underlying22 Tryz.ag114 (by kernel_rfl) Zh_ (by rw[qk_];rfl) Tryz.underlying22 (by intro k h;cases h) hG1 (fun w' hw'=>AppX.one1 (hw'.has ba (.cells (zx_ p).toArray 114 (0,0)) (by simp)) (xu_ _) (ZA_ _)) (by omega) (fun B4 v4 D4 hA4 hB4 hG4 hk41 hk42 hlk4=> ?_)
       have hN4:New w.heap.size D4:=New.of_le fun q hq=>by
        rcases hk42 q hq with h|h
        ·exact hN1.le q h
        ·omega
       refine Ow.permL (M:=(b4,O4):: (br,prO (vp bw 0) v1 v2):: (bw,wrO s a2 0):: (D4++ (D2++ (DG++ [(ba, .cells (zx_ p).toArray 114 (0,0)),(bc, .cells #[vi a] 3 (0,0))])))) (by classical exact List.perm_iff_count.2 fun a=>by simp only[List.count_append,List.count_cons,List.count_nil]<;>omega) ?_
       with_reducible refine Ow.nil ?_
       refine⟨(fun r hr=>by simp only[List.mem_cons,List.not_mem_nil,or_false] at hr;rcases hr with rfl|rfl<;>simp(disch:=omega) only[List.cons_append,List.nil_append,zF_,zE_]), ?_⟩
       simp only[List.set_cons_zero,List.set_cons_succ,zO_,qO_,qM_]
       refine OwG.permL (M:=(b4,O4):: (br,prO (vp bw 0) v1 v2):: (bw,wrO s a2 0):: (D4++ (D2++ (DG++ [(ba, .cells (zx_ p).toArray 114 (0,0)),(bc, .cells #[vi a] 3 (0,0))])))) (by classical exact List.perm_iff_count.2 fun a=>by simp only[List.count_append,List.count_cons,List.count_nil]<;>omega) (fun r hr=>by simp only[List.mem_cons,List.not_mem_nil,or_false] at hr;rcases hr with rfl|rfl<;>simp(disch:=omega) only[List.cons_append,List.nil_append,zF_,zE_]) ?_
       refine OwG.rest [15,16,17,18,19,20,21] rfl (by kernel_rfl) (by kernel_rfl) ?_
       simp only[zh_, ↓zc_, ↓zb_, ↓zn_, ↓zo_,za_]
       refine Ow.soft rfl rfl rfl ?_
       refine Ow.permL (M:=D2++ ((b4,O4):: (br,prO (vp bw 0) v1 v2):: (bw,wrO s a2 0):: (D4++ (DG++ [(ba, .cells (zx_ p).toArray 114 (0,0)),(bc, .cells #[vi a] 3 (0,0))])))) (by classical exact List.perm_iff_count.2 fun a=>by simp only[List.count_append,List.count_cons,List.count_nil]<;>omega) ?_
       refine Ow.appendXG (e:=3) (k:=1) (new:=VI_ a) (X:=D2) v2 rfl rfl rfl rfl Tryz.underlying28 (id (by kernel_rfl):z0_ Tryz.prog 3=some (false,1)) (by kernel_rfl) (id (by kernel_rfl):zK_ Tryz.prog 3=some (vi 0)) rfl Tryz.underlying28 (by intro k h;cases h) hG2 (fun w' hw'=>AppX.one1 (hw'.has bc (.cells #[vi a] 3 (0,0)) (by simp)) (Zq_ a) rfl) (by omega) (fun B5 v5 D5 hA5 hB5 hG5 hk51 hk52 hlk5=> ?_)
       have hN5:New w.heap.size D5:=New.of_le fun q hq=>by
        rcases hk52 q hq with h|h
        ·exact hN2.le q h
        ·omega
       refine Ow.permL (M:=(br,prO (vp bw 0) v1 v2):: (bw,wrO s a2 0):: (b4,O4):: (D4++ (D5++ (DG++ [(ba, .cells (zx_ p).toArray 114 (0,0)),(bc, .cells #[vi a] 3 (0,0))])))) (by classical exact List.perm_iff_count.2 fun a=>by simp only[List.count_append,List.count_cons,List.count_nil]<;>omega) ?_
       with_reducible refine Ow.nil ?_
       refine⟨(fun r hr=>by simp only[List.mem_cons,List.not_mem_nil,or_false] at hr;rcases hr with rfl|rfl<;>simp(disch:=omega) only[zF_,zE_]), ?_⟩
       have st4: ∀a,zp_ (some (a,1)) (some (prO (vp bw 0) v1 v2)) 1 v4=some (prO (vp bw 0) v4 v2):=fun a=>J6_ _ v1 v2 v4 a hG4.cell
       have st5: ∀a,zp_ (some (a,1)) (some (prO (vp bw 0) v4 v2)) 2 v5=some (prO (vp bw 0) v4 v5):=fun a=>J7_ _ v4 v2 v5 a hG5.cell
       refine kq @zU_ ?_
       refine Ow.store rfl rfl rfl (ke (And.intro @zU_ @st4)) ?_
       refine ko (And.intro @zU_ @st5) ?_
       subst hO4
       refine Jump.mk ⟨1,l++ [p],sp++ [a],a2,0,v4,v5,b4,p,D4,D5,DG++ [(ba, .cells (zx_ p).toArray 114 (0,0)),(bc, .cells #[vi a] 3 (0,0))]⟩ rfl (by show n - (l++ [p]).length+1<n - l.length+1;simp;omega) ⟨hw4,hN4,hN5,hNG.app ⟨hwa,hwc,trivial⟩,by simpa using hG4,by simpa using hG5,by simp[hsl],hle2.2,by simp;omega, .inl ⟨rfl, ?_⟩⟩ rfl rfl
       rw[hpr]
       simp
    ·have d2: (e2 !=0)=true:=bne_iff_ne.2 he
     rw[if_neg he] at hpr
     refine ko (And.intro @zU_ @d2) ?_
     first|with_reducible refine ks [] (And.intro @zU_ @d2) ?_|refine kp (And.intro @zU_ @d2) ?_
     refine Jump.mk ⟨0,l,sp,a2,e2,v1,v2,b4,_,D1,D2,DG⟩ rfl (by show 0<n - l.length+1;omega) ⟨hw4,hN1,hN2,hNG,hG1,hG2,hsl,hle2.2,hln, .inr ⟨rfl, ?_⟩⟩ rfl rfl
     rw[hpr]
     simp
  ·obtain⟨hlab,hpr⟩:=hg
   simp only at hlab
   subst hlab
   simp only[RdL,RdH] at hpr ⊢
   simp only[ki_,Qp_,Bool.or_false,Bool.false_or,Bool.or_true,Bool.true_or,Nat.reduceBEq,beq_self_eq_true, ↓reduceIte,Bool.false_eq_true]
   refine kv ?_
   try with_reducible refine qr_ ?_
   first|with_reducible refine ks [] @zU_ ?_|refine kp @zU_ ?_
   refine⟨_,(ke @zU_), ?_⟩
   refine⟨acJ_ ⟨hw4,hNr⟩,rfl,v1,v2,_,by rw[hpr], ?_, ?_⟩
   ·rw[hpr];exact Gr.i hG1 fun c hc=>by simp[hc]
   ·rw[hpr];exact Gr.i hG2 fun c hc=>by simp[hc]
 ·intro key
  repeat ((try with_reducible refine Cw.go [999999] ?_);(simp(disch:=(first|assumption|omega| (simp only[jF_,jE_,UInt64.reduceToNat];try omega))) only[↓Sx.S0,Sx.S1,Tryz.fx,zU_,Nat.reduceAdd,Nat.reducePow,Int.reducePow,Nat.reduceBEq, ↓reduceIte,UInt8.reduceToNat,UInt16.reduceToNat,UInt32.reduceToNat,UInt64.reduceToNat,Int.reduceToNat]))
  refine Ow.alloc rfl rfl Zh_ fun b4 hb4 hw4=> ?_
  simp only[ze_,List.nil_append,List.cons_append]
  refine ko @zU_ ?_
  repeat ((try with_reducible refine Cw.go [999999] ?_);(simp(disch:=(first|assumption|omega| (simp only[jF_,jE_,UInt64.reduceToNat];try omega))) only[↓Sx.S0,Sx.S1,Tryz.fx,zU_,Nat.reduceAdd,Nat.reducePow,Int.reducePow,Nat.reduceBEq, ↓reduceIte,UInt8.reduceToNat,UInt16.reduceToNat,UInt32.reduceToNat,UInt64.reduceToNat,Int.reduceToNat]))
  have key0:=fun f'=>key (⟨1,[],[],a0,e0, .slice none 0 0, .slice none 0 0,b4,qt_,[],[],[]⟩) f'
  simp only[ki_,Qp_,Bool.or_false,Bool.false_or,Bool.or_true,Bool.true_or,Nat.reduceBEq,beq_self_eq_true, ↓reduceIte,Bool.false_eq_true] at key0
  clear key
  refine Cw.label ?_
  refine key0 _ ⟨hw4,trivial,trivial,trivial,Gr.nl,Gr.nl,rfl,ha,Nat.zero_le _, .inl ⟨rfl, ?_⟩⟩ ?_
  ·rfl
  ·rfl
end Go.Proofs
end
section
open Go Go.Proofs Go.Sx Go.StP Go.Flo
namespace Go.Proofs
set_option maxRecDepth 10000
set_option maxHeartbeats 400000
set_option linter.unusedSimpArgs false
abbrev aqc_ (w:World) (v:Value) (l:List Nat):Prop:=SlV 1 VI_ 0 w v l
abbrev ObSl (w:World) (v:Value) (l:List ObL):Prop:=SlV 2 obC ob0 w v l
def PackIn (w:World) (bp:Nat) (l:List PartL) (sp:List Nat) (ids:List IdL) (os:List ObL):Prop:=
 ∃v0 v1 v2 v3,w.heap[bp]? =some (pkO v0 v1 v2 v3)∧ZF_ w v0 l∧aqc_ w v1 sp∧IdS w v2 ids∧ObSl w v3 os
def PackD (D:zd_) (bp:Nat) (l:List PartL) (sp:List Nat) (ids:List IdL) (os:List ObL):Prop:=
 ∃v0 v1 v2 v3,(bp,pkO v0 v1 v2 v3)∈D∧GrI D 114 3 v0 l.length (l.map zx_).flatten∧GrI D 3 1 v1 sp.length (sp.map VI_).flatten∧GrI D 37 32 v2 ids.length (ids.map wR_).flatten∧GrI D 43 2 v3 os.length (os.map obC).flatten
theorem PackD.mono {D D':zd_} {bp:Nat} {l:List PartL} {sp:List Nat} {ids:List IdL} {os:List ObL} (h:PackD D bp l sp ids os) (hD: ∀p,p∈D→p∈D'):PackD D' bp l sp ids os:=by
 obtain⟨v0,v1,v2,v3,h1,h2,h3,h4,h5⟩:=h
 exact⟨v0,v1,v2,v3,hD _ h1,h2.mono hD,h3.mono hD,h4.mono hD,h5.mono hD⟩
theorem PackD.inW {w0 w:World} {D L:zd_} {bp:Nat} {l:List PartL} {sp:List Nat} {ids:List IdL} {os:List ObL} (h:PackD D bp l sp ids os) (hD: ∀p,p∈D→p∈L) (hw:Hp w0 L w):PackIn w bp l sp ids os:=by
 obtain⟨v0,v1,v2,v3,h1,h2,h3,h4,h5⟩:=h.mono hD
 exact⟨v0,v1,v2,v3,hw.has _ _ h1,h2.slV hw rfl rfl xu_,h3.slV hw rfl rfl Zq_,h4.slV hw rfl rfl jV_,h5.slV hw rfl rfl Vd_⟩
theorem PackIn.old {w w':World} {L:zd_} {bp:Nat} {l:List PartL} {sp:List Nat} {ids:List IdL} {os:List ObL} (h:PackIn w bp l sp ids os) (hw:Hp w L w') (hn:New w.heap.size L):PackIn w' bp l sp ids os:=by
 obtain⟨v0,v1,v2,v3,h1,h2,h3,h4,h5⟩:=h
 exact⟨v0,v1,v2,v3,by rw[hw.old bp (Array.getElem?_eq_some_iff.1 h1).1 (hn.not (Array.getElem?_eq_some_iff.1 h1).1)];exact h1,h2.oldN hw hn,h3.oldN hw hn,h4.oldN hw hn,h5.oldN hw hn⟩
theorem apS_ (b o:Nat):qJ_ Tryz.prog .eql 38 (vp b o) (.pointer none)=some (.bool false):=by
 simp[qJ_,eqX,qw_,qE_,Tryz.underlying38,vp]
theorem alo_ {w:World} {v:Value} {l:List Nat} {b off:Nat} {arr:Array Value} {E:TypeId} {fz:Nat×Nat} (h:RowS 1 VI_ 0 w v l b off arr E fz) {k:Nat} (hk:k<l.length) (n:Nat):
  zr_ (some (false,n)) (some (.cells arr E fz)) (off+k)=some (vi (l.getD k 0)):=by
 have:=h.cell (j:=0) (n:=n) hk (by omega)
 rwa [Nat.mul_one,Nat.add_zero] at this
set_option linter.defProp false
def q5_:=And.intro (And.intro (And.intro (@zg_) (And.intro (@zf_) (@VW_))) (And.intro (@aec_) (And.intro (@adN_) (@aea_)))) (And.intro (And.intro (@apS_) (And.intro (@q2_) (@qp_))) (And.intro (@qo_) (And.intro (@qA_) (@jd_))))
theorem Ws_ (bp:Nat) (l:List PartL) (sp:List Nat) (ids:List IdL) (os:List ObL) (w:World) (h:PackIn w bp l sp ids os):
  Rets Tryz.prog 20 #[vp bp 0] w (fun v D=>v=vi l.length∧D= []):=by
 obtain⟨v0,v1,v2,v3,h1,h2,h3,h4,h5⟩:=h
 have ln:=h2.len
 refine Rets.enterV Tryz.func20 rfl (rs:= [.tmp 2]) Tryz.results20 Tryz.ntmps20 ?_
 refine kf ?_
 first|with_reducible refine ks [] (And.intro @q5_ (And.intro @h1 (@ln))) ?_|refine kp (And.intro @q5_ (And.intro @h1 (@ln))) ?_
 refine⟨_,(ke @q5_),trivial, ?_⟩
 rfl
def hasV (l:List PartL) (i:Int):Bool:=decide (0≤i)&&decide (i< (l.length:Int))
theorem aaw_ (bp:Nat) (i:Int) (l:List PartL) (sp:List Nat) (ids:List IdL) (os:List ObL) (w:World) (h:PackIn w bp l sp ids os):
  Rets Tryz.prog 77 #[vp bp 0,vi i] w (fun v D=>v= .bool (hasV l i)∧D= []):=by
 refine Rets.enterV Tryz.func77 rfl (rs:= [.tmp 4]) Tryz.results77 Tryz.ntmps77 ?_
 refine kf ?_
 unfold hasV
 by_cases hi:0≤i
 ·have d1:decide (0≤i)=true:=decide_eq_true hi
  rw[d1,Bool.true_and]
  first|with_reducible refine ks [] (And.intro @q5_ @d1) ?_|refine kp (And.intro @q5_ @d1) ?_
  refine Ow.callFV rfl Tryz.call20 (fun w' hw'=>Ws_ bp l sp ids os w' (h.old hw' trivial)) ?_
  refine ko (And.intro @q5_ @d1) ?_
  first|with_reducible refine ks [] @q5_ ?_|refine kp @q5_ ?_
  refine⟨_,(ke @q5_),trivial, ?_⟩
  rfl
 ·have d1:decide (0≤i)=false:=decide_eq_false hi
  rw[d1,Bool.false_and]
  first|with_reducible refine ks [] (And.intro @q5_ @d1) ?_|refine kp (And.intro @q5_ @d1) ?_
  refine⟨_,(ke @q5_),trivial, ?_⟩
  rfl
theorem afW_ (bp:Nat) (i:Int) (l:List PartL) (sp:List Nat) (ids:List IdL) (os:List ObL) (w:World) (h:PackIn w bp l sp ids os) (hsp:sp.length=l.length):
  Rets Tryz.prog 23 #[vp bp 0,vi i] w (fun v D=>v=vi (if hasV l i then((sp.getD i.toNat 0:Nat):Int) else 0)∧D= []):=by
 obtain⟨v0,v1,v2,v3,h1,h2,h3,h4,h5⟩:=id h
 obtain⟨b,off,arr,E,fz,hr⟩:=h3.row
 refine Rets.enterV Tryz.func23 rfl (rs:= [.tmp 4]) Tryz.results23 Tryz.ntmps23 ?_
 refine kf ?_
 first|with_reducible refine ks [] @q5_ ?_|refine kp @q5_ ?_
 refine Ow.callFV rfl Tryz.call77 (fun w' hw'=>aaw_ bp i l sp ids os w' (h.old hw' trivial)) ?_
 cases hc:hasV l i with
 |false=>
  refine ko @q5_ ?_
  first|with_reducible refine ks [] @q5_ ?_|refine kp @q5_ ?_
  refine⟨_,(ke @q5_),trivial, ?_⟩
  rfl
 |true=>
  unfold hasV at hc
  simp only[Bool.and_eq_true,decide_eq_true_eq] at hc
  obtain⟨k,rfl⟩: ∃k:Nat,i=(k:Int):=⟨i.toNat,by omega⟩
  have hk:k<sp.length:=by omega
  have hx:=hr.has (by omega)
  have ix:=hr.idx false k hk
  rw[Nat.mul_one] at ix
  have ld:=alo_ hr hk
  refine ko @q5_ ?_
  first|with_reducible refine ks [] (And.intro @q5_ (And.intro @h1 (And.intro @hx (And.intro @ix (@ld))))) ?_|refine kp (And.intro @q5_ (And.intro @h1 (And.intro @hx (And.intro @ix (@ld))))) ?_
  refine⟨_,(ke @q5_),trivial, ?_⟩
  rfl
theorem akh_ (bp:Nat) (i:Int) (l:List PartL) (sp:List Nat) (ids:List IdL) (os:List ObL) (w:World) (h:PackIn w bp l sp ids os) (hsp:ids.length=l.length):
  Rets Tryz.prog 22 #[vp bp 0,vi i] w (fun v D=>v= .agg (a8 (if hasV l i then ids.getD i.toNat id0 else id0).l)∧D= []):=by
 obtain⟨v0,v1,v2,v3,h1,h2,h3,h4,h5⟩:=id h
 obtain⟨b,off,arr,E,fz,hr⟩:=h4.row
 have hi0:=id0.h
 refine Rets.enterV Tryz.func22 rfl (rs:= [.cell 4 37]) Tryz.results22 Tryz.ntmps22 ?_
 refine kf ?_
 first|with_reducible refine ks [] @q5_ ?_|refine kp @q5_ ?_
 refine Ow.alloc rfl rfl JH_ fun b4 hb4 hw4=> ?_
 simp only[ze_,List.nil_append,List.cons_append]
 refine ko @q5_ ?_
 first|with_reducible refine ks [] @q5_ ?_|refine kp @q5_ ?_
 refine Ow.callFV rfl Tryz.call77 (fun w' hw'=>aaw_ bp i l sp ids os w' (h.old hw' ⟨hw4,trivial⟩)) ?_
 cases hc:hasV l i with
 |false=>
  refine ko @q5_ ?_
  first|with_reducible refine ks [] @q5_ ?_|refine kp @q5_ ?_
  refine Ow.build (.agg (a8 id0.l)) rfl aaB_ ?_
  refine ko @q5_ ?_
  first|with_reducible refine ks [] @q5_ ?_|refine kp @q5_ ?_
  refine⟨_,(ke @q5_),⟨hw4,trivial⟩, ?_⟩
  rfl
 |true=>
  unfold hasV at hc
  simp only[Bool.and_eq_true,decide_eq_true_eq] at hc
  obtain⟨k,rfl⟩: ∃k:Nat,i=(k:Int):=⟨i.toNat,by omega⟩
  have hk:k<ids.length:=by omega
  have hx:=hr.has (by omega)
  have hbl:=hr.lt (by omega)
  have hbp:=(Array.getElem?_eq_some_iff.1 h1).1
  have hn4:b4≠b:=by omega
  have hn4p:b4≠bp:=by omega
  have ix:=hr.idx true k hk
  have ld:=adJ_ hr hk
  have hil:=(ids.getD k id0).h
  refine ko @q5_ ?_
  first|with_reducible refine ks [] (And.intro @q5_ (And.intro @h1 (And.intro @hx (And.intro @ix (@ld))))) ?_|refine kp (And.intro @q5_ (And.intro @h1 (And.intro @hx (And.intro @ix (@ld))))) ?_
  refine⟨_,(ke @q5_),⟨hw4,trivial⟩, ?_⟩
  rfl
end Go.Proofs
end
section
open Go Go.Proofs Go.Sx Go.StP Go.Flo
namespace Go.Proofs
set_option maxRecDepth 10000
set_option maxHeartbeats 400000
set_option linter.unusedSimpArgs false
theorem qy_ {w0:World} {L X D:zd_} (hC:Came w0 L X D) (hX:New w0.heap.size X):New w0.heap.size D:=New.of_le fun c hc=>by
 rcases hC.new c hc with h| ⟨-,h⟩
 ·exact hX.le c h
 ·exact h
theorem GlobC.newP {w0 w:World} {L:zd_} (hg:GlobC w0) (h:Hp w0 L w) (hn:New w0.heap.size L):GlobC w:=
 hg.of h (hn.not (by obtain⟨e,f,h⟩:=hg;exact(Array.getElem?_eq_some_iff.1 h).1))
theorem zrPk:zK_ Tryz.prog 117=some (.agg #[.slice none 0 0, .slice none 0 0, .slice none 0 0, .slice none 0 0]):=id (by kernel_rfl)
theorem agX_ {w:World} {v0:Value} {l:List PartL} (hv:ZF_ w v0 l):qg_ (kt_ Tryz.prog 117) (zK_ Tryz.prog 117) [(0,v0)]=some (.agg #[v0, .slice none 0 0, .slice none 0 0, .slice none 0 0]):=by
 rw[show kt_ Tryz.prog 117=some [(0,1),(1,1),(2,1),(3,1)] from id (by kernel_rfl),zrPk]
 obtain⟨b,off,c,arr,E,fz,hr,hc,⟨rfl,rfl,rfl⟩ | ⟨rfl,hb,hsz⟩⟩:=hv<;>rfl
theorem ao6_ {α:Type} {m:Nat} {enc:α→List Value} {z:α} {w:World} {v:Value} {l:List α} (hv:SlV m enc z w v l) {b:Nat} (hb:slB v=some b):b<w.heap.size:=by
 obtain⟨bb,off,c,arr,E,fz,hr,hc,⟨rfl,-,-⟩ | ⟨rfl,h,-⟩⟩:=hv
 ·cases hb
 ·cases hb;exact(Array.getElem?_eq_some_iff.1 h).1
theorem w2_: ∀ (l:List PartL) (i g:Nat),g<l.length→q7_ i (l.take (g+1))=q7_ i (l.take g)++k7_ (i+g) (l.getD g qt_)
 | [],_,_,h=>absurd h (Nat.not_lt_zero _)
 |p::r,i,0,_=>by simp[q7_]
 |p::r,i,g+1,h=>by
  have:=w2_ r (i+1) g (by simpa using h)
  rw[List.take_succ_cons,q7_,this,List.take_succ_cons,q7_,List.getD_cons_succ,List.append_assoc,show i+1+g=i+ (g+1) by omega]
def SmallP (l:List PartL):Prop:= ∀g,g<l.length→(l.getD g qt_).x.length≤17000000
theorem afj_ {l:List PartL} {q:List IdL×List ObL} (h:fillV l=some q):SmallP l:=by
 unfold fillV at h
 cases ha:QK_ l with
 |error e=>rw[ha] at h;cases h
 |ok ts=>
  unfold QK_ at ha
  split at ha
  ·cases ha
  ·intro k hk
   have hp:=vp_ _ _ ha k hk
   unfold partV at hp
   cases hq:xh_ l (k:Nat) with
   |error e=>rw[hq] at hp;cases hp
   |ok p=>
    rw[hq] at hp
    change ZL_ l p= .ok _ at hp
    have hpk: ∃r,p=k::r:=by
     rcases xd_ hk hq with⟨rfl,-⟩ | ⟨b,q,rfl,-⟩
     ·exact⟨[],rfl⟩
     ·exact⟨q,rfl⟩
    obtain⟨r,rfl⟩:=hpk
    unfold ZL_ at hp
    cases hf:ZL_ l r with
    |error e=>rw[hf] at hp;cases hp
    |ok t=>
     rw[hf] at hp
     change(if(jK_ (l.getD k qt_) t).2=0 then _ else _)=_ at hp
     split at hp
     ·rename_i h0
      unfold jK_ at h0
      split at h0
      ·unfold xJ_ at h0
       split at h0
       ·exact absurd (show(2:Int)=0 from h0) (by decide)
       ·rename_i p' hd;exact afq_ hd
      ·split at h0
       ·exact absurd (show(19:Int)=0 from h0) (by decide)
       ·omega
     ·cases hp
theorem SmallP.bnd {l:List PartL} (h:SmallP l):BndL l:=fun g hg=>Nat.lt_of_le_of_lt (h g hg) (by omega)
theorem af4_ {i:Nat} {p:PartL} (h:p.x.length≤17000000): (k7_ i p).length≤17000012:=by
 have h1:=zs_ (QM_ i p)
 have h2:=zs_ (p.x.length:Int)
 unfold k7_ xD_
 rw[List.length_append,List.length_append]
 omega
theorem Qk_ {l:List PartL} (h:SmallP l): ∀g,g≤l.length→(q7_ 0 (l.take g)).length≤g*17000012
 |0,_=>by simp[q7_]
 |g+1,hg=>by
  rw[w2_ l 0 g hg,List.length_append]
  have:=Qk_ h g (by omega)
  have:=af4_ (i:=0+g) (h g hg)
  omega
theorem aiR_ {l:List PartL} {q:List IdL×List ObL} (h:fillV l=some q) {k:Nat} (hk:k<l.length) (hd: (l.getD k qt_).d=true):0≤ (l.getD k qt_).b∧(l.getD k qt_).b<k:=by
 unfold fillV at h
 cases ha:QK_ l with
 |error e=>rw[ha] at h;cases h
 |ok ts=>
  unfold QK_ at ha
  split at ha
  ·cases ha
  ·have hp:=vp_ _ _ ha k hk
   unfold partV at hp
   cases hq:xh_ l (k:Nat) with
   |error e=>rw[hq] at hp;cases hp
   |ok p=>
    rcases xd_ hk hq with⟨-,hd',-⟩ | ⟨b,q,-,-,hb,hlt,-⟩
    ·rw[hd] at hd';cases hd'
    ·rw[hb];omega
structure PwG where
 k:Nat
 D:zd_
set_option linter.defProp false
def qC_:=And.intro (And.intro (And.intro (@zg_) (@zf_)) (And.intro (@VW_) (And.intro (@jt_) (@ju_)))) (And.intro (And.intro (@jo_) (And.intro (@wj_) (@qk_))) (And.intro (@k8_) (And.intro (@Sx.tup2_0) (@Sx.tup2_1))))
theorem act_ (v0:Value) (l:List PartL) (w:World) (hv:ZF_ w v0 l) (hG:GlobE w) (hC:GlobC w) (hb:BndL l) (hl:l.length<1000000):
  Rets Tryz.prog 14 #[v0] w (fun v D=>v= .tuple #[vs (aat_ l).1,vi (aat_ l).2]∧D= []):=by
 have hgr:3<w.heap.size:=by obtain⟨e0,e1,f0,f1,h0,h1⟩:=hG;exact(Array.getElem?_eq_some_iff.1 h1).1
 obtain⟨b1,off,arr,E,fz,hr⟩:=hv.row
 have ln:=hv.len
 refine Rets.enterV Tryz.func14 rfl (rs:= [.tmp 2, .tmp 3]) Tryz.results14 Tryz.ntmps14 ?_
 refine kf ?_
 first|with_reducible refine ks [4,1000011] @qC_ ?_|refine kp @qC_ ?_
 refine Ow.build (.agg #[v0, .slice none 0 0, .slice none 0 0, .slice none 0 0]) rfl (agX_ hv) ?_
 refine ko @qC_ ?_
 refine Ow.box rfl rfl fun b4 hb4 hw4=> ?_
 simp only[qi_,qe_,qc_,ze_,List.nil_append]
 refine Ow.permL (M:= [(b4,pkO v0 (.slice none 0 0) (.slice none 0 0) (.slice none 0 0))]) (List.Perm.refl _) ?_
 refine ko @qC_ ?_
 first|with_reducible refine ks [] @qC_ ?_|refine kp @qC_ ?_
 refine Ow.callX (Y:= []) (by simp) rfl rfl Tryz.call59 (fun w' hw' hX hn=>aam_ b4 v0 (.slice none 0 0) l w' (hv.oldN hw' ⟨hw4,trivial⟩) (hG.new hw' ⟨hw4,trivial⟩) hb hl (hX _ List.mem_cons_self) (fun h=>by have:=ao6_ hv h;omega) (by omega)) (fun v13 D13 hC13 hS13=> ?_)
 have hN13:New w.heap.size D13:=qy_ hC13 ⟨hw4,trivial⟩
 rw[List.append_nil]
 unfold abZ_ at hS13
 unfold aat_
 cases hf:fillV l with
 |none=>
  rw[hf] at hS13
  have hS13':v13= .bool false:=hS13
  subst hS13'
  refine ko @qC_ ?_
  first|with_reducible refine ks [] @qC_ ?_|refine kp @qC_ ?_
  refine⟨_,(ke @qC_),hN13, ?_⟩
  rfl
 |some q=>
  rw[hf] at hS13
  obtain⟨rfl,-⟩:=hS13
  have hx:=afj_ hf
  have hll:l.length≤200:=by
   unfold fillV at hf
   cases ha:QK_ l with
   |error e=>rw[ha] at hf;cases hf
   |ok ts=>exact(adv_ ha).2.1
  refine ko @qC_ ?_
  refine Cw.forgetN [] (by exact hN13) (by intro p hp;simp only[List.mem_cons,List.not_mem_nil,or_false] at hp ⊢;all_goals (first| (rcases hp with rfl|hp<;>simp_all) | (subst hp;simp) |simp_all)) (by simp[keys]<;>omega) ?_
  first|with_reducible refine ks [] @qC_ ?_|refine kp @qC_ ?_
  refine Ow.alloc rfl rfl Tryz.zr123 fun b5 hb5 hw5=> ?_
  refine ko @qC_ ?_
  have hZ:BldAt b5 [] [(b5, .cells #[.pointer none, .slice none 0 0] 123 (0,0))]:=BldAt.zeroK b5 (zS_ _ _ _)
  refine Ow.buildSlice (e:=9) #[vs [83,80,75,49]] rfl rfl (by kernel_rfl) fun b15 hb15 hw15=> ?_
  have h515:b5<b15:=zk_ hb15 (by simp[keys])
  refine ko @qC_ ?_
  refine Ow.callX (Y:= [(b15, .cells #[vs [83,80,75,49]] 9 (0,0))]) (by simp) rfl rfl Tryz.call60 (fun w' hw' hX hn=>kW_ b5 [(b5, .cells #[.pointer none, .slice none 0 0] 123 (0,0))] [] _ b15 0 [[83,80,75,49]] _ _ _ w' hZ hX hn (StrS.lit [[83,80,75,49]] rfl rfl (hw'.has _ _ (List.mem_cons_of_mem _ List.mem_cons_self))) (fun _ hm=>by simp[keys] at hm;omega) (by simp) (by simp)) (fun v16 D16 hC16 hS16=> ?_)
  obtain⟨rfl,hB16⟩:=hS16
  have hN16:New w.heap.size D16:=qy_ hC16 ⟨hw5,trivial⟩
  refine ko @qC_ ?_
  first|with_reducible refine ks [] (And.intro @qC_ @ln) ?_|refine kp (And.intro @qC_ @ln) ?_
  refine Ow.buildSlice (e:=3) #[vi l.length] rfl rfl (by kernel_rfl) fun b19 hb19 hw19=> ?_
  refine ko @qC_ ?_
  rw[List.append_assoc]
  refine Ow.callX (Y:= [(b15, .cells #[vs [83,80,75,49]] 9 (0,0)),(b19, .cells #[vi l.length] 3 (0,0))]) (by simp) rfl rfl Tryz.call61 (fun w' hw' hX hn=>jN_ b5 D16 _ _ b19 0 [(l.length:Int)] _ _ _ w' hB16 hX hn (OneS.lit [(l.length:Int)] rfl rfl (hw'.has b19 (.cells #[vi l.length] 3 (0,0)) (by simp))) (fun _ hm=>Nat.lt_irrefl _ (zk_ hb19 (by rw[zj_];exact List.mem_append_left _ hm))) (by simp)) (fun v20 D20 hC20 hS20=> ?_)
  obtain⟨rfl,hB20⟩:=hS20
  rw[ZD_] at hB20
  have hN20:New w.heap.size D20:=qy_ hC20 hN16
  have hB0:BldAt b5 (magB++ (qS_ (zz_ (l.length:Int))++q7_ 0 (l.take 0))) (D20++ [(b15, .cells #[vs [83,80,75,49]] 9 (0,0)),(b19, .cells #[vi l.length] 3 (0,0))]):=by
   have:=hB20.app (Y:= [(b15,Obj.cells #[vs [83,80,75,49]] 9 (0,0)),(b19, .cells #[vi l.length] 3 (0,0))])
   simpa [magB,q7_] using this
  refine ko @qC_ ?_
  first|with_reducible refine ks [] (And.intro @qC_ @ln) ?_|refine kp (And.intro @qC_ @ln) ?_
  have hnl:=zs_ (l.length:Int)
  refine Cw.loopG (G:=PwG) [24,25,26,27,7,6,8,28,29,30,31,32,33,34,35,36,37,38,39,40,41,23] (fun g=> [(23,vi g.k)]) (fun g=>g.D) (fun g=>g.k≤l.length∧New w.heap.size g.D∧BldAt b5 (magB++ (qS_ (zz_ (l.length:Int))++q7_ 0 (l.take g.k))) g.D) (fun g=>l.length - g.k) ⟨0,D20++ [(b15, .cells #[vs [83,80,75,49]] 9 (0,0)),(b19, .cells #[vi l.length] 3 (0,0))]⟩ rfl rfl ?_ ?_
  ·exact⟨Nat.zero_le _,hN20.app ⟨hw15,hw19,trivial⟩,hB0⟩
  intro g j hg
  refine kv ?_
  obtain⟨k,D⟩:=g
  simp only at hg ⊢
  obtain⟨hk,hN,hB⟩:=hg
  by_cases hlt:k<l.length
  ·have d1:decide ((k:Int)< (l.length:Int))=true:=decide_eq_true (by omega)
   have hb1:=hr.has (by omega)
   have hb1l:=hr.lt (by omega)
   have ix:=hr.idx true k hlt
   have ld:=hr.load xu_ (by omega) hlt
   have rd:zy_ w D b1=some (.cells arr E fz):=by rw[qK_ (hN.not hb1l)];exact hb1
   have hpl:=hx k hlt
   have hpt:=Qk_ hx k hk
   have hsn:=w2_ l 0 k hlt
   have hpb:=aiR_ hf hlt
   generalize hp:l.getD k qt_=p at*
   have hst:=k8_ p qt_ 114
   first|with_reducible refine ks [1000011] (And.intro @qC_ (And.intro @d1 (And.intro @ix (And.intro @rd (@ld))))) ?_|refine kp (And.intro @qC_ (And.intro @d1 (And.intro @ix (And.intro @rd (@ld))))) ?_
   refine Ow.alloc rfl rfl Zh_ fun b7 hb7 hw7=> ?_
   simp only[ze_,List.nil_append,List.cons_append]
   refine Ow.permL (M:=(b7, .cells (zx_ qt_).toArray 114 (0,0))::D) (by classical exact List.perm_iff_count.2 fun a=>by simp only[List.count_append,List.count_cons,List.count_nil]<;>omega) ?_
   refine ko (And.intro @qC_ @hst) ?_
   have hN7:New w.heap.size ((b7,Obj.cells (zx_ p).toArray 114 (0,0))::D):=⟨hw7,hN⟩
   refine Cw.cutO (G:=Unit) [8,28,29,30,31,32,33] (fun g=> [(8,vi (QM_ k p))]) (fun g=>(b7, .cells (zx_ p).toArray 114 (0,0))::D) (fun g=>True) ?_ ?_
   ·cases hd:p.d with
    |true=>
     have hf:QM_ k p=(k:Int) - p.b:=by unfold QM_;rw[if_pos hd]
     have hb2:=hpb hd
     first|with_reducible refine ks [] (And.intro @qC_ @hd) ?_|refine kp (And.intro @qC_ @hd) ?_
     refine CutO.mk () trivial rfl ?_
     rw[hf];rfl
    |false=>
     have hf:QM_ k p=0:=by unfold QM_;rw[if_neg (by rw[hd];decide)]
     first|with_reducible refine ks [] (And.intro @qC_ @hd) ?_|refine kp (And.intro @qC_ @hd) ?_
     refine CutO.mk () trivial rfl ?_
     rw[hf];rfl
   ·intro u ju hu
    refine kv ?_
    first|with_reducible refine ks [] @qC_ ?_|refine kp @qC_ ?_
    have hfl:=zs_ (QM_ k p)
    have hxl:=zs_ (p.x.length:Int)
    have htx:x9_ [p.x]=xD_ p.x:=by simp[x9_]
    have htl: (xD_ p.x).length=(qS_ (zz_ p.x.length)).length+p.x.length:=by unfold xD_;rw[List.length_append]
    have hml: (magB++ (qS_ (zz_ (l.length:Int))++q7_ 0 (l.take k))).length=4+ ((qS_ (zz_ (l.length:Int))).length+ (q7_ 0 (l.take k)).length):=by rw[List.length_append,List.length_append];rfl
    refine Ow.buildSlice (e:=3) #[vi (QM_ k p)] rfl rfl (by kernel_rfl) fun b35 hb35 hw35=> ?_
    refine ko @qC_ ?_
    refine Ow.permL (M:=D++ [(b7,Obj.cells (zx_ p).toArray 114 (0,0)),(b35, .cells #[vi (QM_ k p)] 3 (0,0))]) (by classical exact List.perm_iff_count.2 fun a=>by simp only[List.count_append,List.count_cons,List.count_nil]<;>omega) ?_
    refine Ow.callX (Y:= [(b7,Obj.cells (zx_ p).toArray 114 (0,0)),(b35, .cells #[vi (QM_ k p)] 3 (0,0))]) (by simp) rfl rfl Tryz.call61 (fun w' hw' hX hn=>jN_ b5 D _ _ b35 0 [QM_ k p] _ _ _ w' hB hX hn (OneS.lit [QM_ k p] rfl rfl (hw'.has b35 (.cells #[vi (QM_ k p)] 3 (0,0)) (by simp))) (fun _ hm=>Nat.lt_irrefl _ (zk_ hb35 (by simp[keys] at hm ⊢;exact .inr hm))) (by rw[hml];simp;omega)) (fun v36 D36 hC36 hS36=> ?_)
    obtain⟨rfl,hB36⟩:=hS36
    rw[ZD_] at hB36
    have hN36:New w.heap.size D36:=qy_ hC36 hN
    refine Ow.permL (M:=(b7,Obj.cells (zx_ p).toArray 114 (0,0)):: (D36++ [(b35, .cells #[vi (QM_ k p)] 3 (0,0))])) (by classical exact List.perm_iff_count.2 fun a=>by simp only[List.count_append,List.count_cons,List.count_nil]<;>omega) ?_
    refine ko @qC_ ?_
    first|with_reducible refine ks [] @qC_ ?_|refine kp @qC_ ?_
    refine Ow.buildSlice (e:=9) #[vs p.x] rfl rfl (by kernel_rfl) fun b39 hb39 hw39=> ?_
    refine ko @qC_ ?_
    refine Ow.permL (M:=D36++ [(b7,Obj.cells (zx_ p).toArray 114 (0,0)),(b35, .cells #[vi (QM_ k p)] 3 (0,0)),(b39, .cells #[vs p.x] 9 (0,0))]) (by classical exact List.perm_iff_count.2 fun a=>by simp only[List.count_append,List.count_cons,List.count_nil]<;>omega) ?_
    refine Ow.callX (Y:= [(b7,Obj.cells (zx_ p).toArray 114 (0,0)),(b35, .cells #[vi (QM_ k p)] 3 (0,0)),(b39, .cells #[vs p.x] 9 (0,0))]) (by simp) rfl rfl Tryz.call62 (fun w' hw' hX hn=>KF_ b5 D36 _ _ b39 0 [p.x] _ _ _ w' hB36 hX hn (StrS.lit [p.x] rfl rfl (hw'.has b39 (.cells #[vs p.x] 9 (0,0)) (by simp))) (fun _ hm=>Nat.lt_irrefl _ (zk_ hb39 (by simp[keys] at hm ⊢;exact .inr (.inl hm)))) (by rw[htx,List.length_append,hml,htl];omega) (by simp)) (fun v40 D40 hC40 hS40=> ?_)
    obtain⟨rfl,hB40⟩:=hS40
    rw[htx] at hB40
    have hN40:New w.heap.size D40:=qy_ hC40 hN36
    refine ko @qC_ ?_
    first|with_reducible refine ks [] @qC_ ?_|refine kp @qC_ ?_
    refine Again.mk ⟨k+1,D40++ [(b7,Obj.cells (zx_ p).toArray 114 (0,0)),(b35, .cells #[vi (QM_ k p)] 3 (0,0)),(b39, .cells #[vs p.x] 9 (0,0))]⟩ (by show l.length - (k+1)<l.length - k;omega) ⟨hlt,hN40.app ⟨hw7,hw35,hw39,trivial⟩, ?_⟩ rfl rfl
    show BldAt b5 (magB++ (qS_ (zz_ (l.length:Int))++q7_ 0 (l.take (k+1)))) _
    rw[hsn]
    have:=hB40.app (Y:= [(b7,Obj.cells (zx_ p).toArray 114 (0,0)),(b35, .cells #[vi (QM_ k p)] 3 (0,0)),(b39, .cells #[vs p.x] 9 (0,0))])
    rw[Nat.zero_add]
    simpa [k7_] using this
  ·obtain rfl:k=l.length:=by omega
   have d1:decide ((l.length:Int)< (l.length:Int))=false:=decide_eq_false (by omega)
   have hpt:=Qk_ hx l.length (Nat.le_refl _)
   rw[List.take_length] at hpt hB
   have hpl: (vZ_ l).length<34359738368:=by
    unfold vZ_
    rw[List.length_append,List.length_append,show magB.length=4 from rfl]
    omega
   first|with_reducible refine ks [] (And.intro @qC_ @d1) ?_|refine kp (And.intro @qC_ @d1) ?_
   refine Ow.callX (Y:= []) (by simp) rfl rfl Tryz.call64 (fun w' hw' hX hn=>kI_ b5 D (vZ_ l) w' hB hX hn hpl) (fun v42 D42 hC42 hS42=> ?_)
   subst hS42
   have hN42:New w.heap.size D42:=qy_ hC42 hN
   rw[List.append_nil]
   refine ko @qC_ ?_
   refine Ow.callFV rfl Tryz.call63 (fun w' hw'=>Z7_ (vZ_ l) w' (hC.newP hw' hN42) (by omega)) ?_
   refine ko @qC_ ?_
   first|with_reducible refine ks [] @qC_ ?_|refine kp @qC_ ?_
   refine⟨_,(ke @qC_),hN42, ?_⟩
   rfl
end Go.Proofs
end
namespace Go.Sx
open Go
def tmpR:ResultVar→Bool
 | .tmp _=>true
 | .cell _ _=>false
theorem Jv_ {P:Program} {w0 w1:World} {L M:zd_} {f:Fr}: ∀ {rs:List ResultVar},rs.all tmpR=true→kX_ P w0 L f rs=kX_ P w1 M f rs
 | [],_=>rfl
 | .tmp t::r,h=>by
  simp only[List.all_cons,Bool.and_eq_true] at h
  rw[wz_,wz_,Jv_ (w1:=w1) (M:=M) h.2];rfl
 | .cell a t::r,h=>by simp[tmpR] at h
theorem Hp.later {w0 w1 w2:World} {L D:zd_} (h:Hp w0 L w1) (k:Hp w1 D w2) (hD:New w1.heap.size D):Hp w0 (L++D) w2:=
 Mrg.fresh hD.le w1 w2 rfl h k
theorem Cw.rebase {P:Program} {w0:World} {c:Code} {f:Fr} {L:zd_} {K:xF_} {K1:World→xF_} (h: ∀w1,Hp w0 L w1→Cw P w1 c f [] (K1 w1)) (hK: ∀w1 e f D,Hp w0 L w1→K1 w1 e f D→New w1.heap.size D∧K e f (L++D)):Cw P w0 c f L K:=by
 intro w hw
 refine wp_mono (h w hw w (Hp.refl w)) ?_
 rintro e a w' ⟨hd,D,hp,hk⟩
 obtain⟨h1,h2⟩:=hK w e _ D hw hk
 exact⟨hd,L++D,hw.later hp h1,h2⟩
theorem Cw.rebaseV {P:Program} {w0:World} {c:Code} {f:Fr} {L:zd_} {rs:List ResultVar} {S:Value→Prop} (hN:New w0.heap.size L) (ht:rs.all tmpR=true)
  (h: ∀w1,Hp w0 L w1→Cw P w1 c f [] (retV P w1 rs S)):Cw P w0 c f L (retV P w0 rs S):=by
 refine Cw.rebase (K1:=fun w1=>retV P w1 rs S) h ?_
 intro w1 e f D hw hk
 have key: (∃vs,kX_ P w1 D f rs=some vs∧New w1.heap.size D∧S (vE_ vs))→New w1.heap.size D∧ ∃vs,kX_ P w0 (L++D) f rs=some vs∧New w0.heap.size (L++D)∧S (vE_ vs):=by
  rintro⟨vs,h1,h2,h3⟩
  exact⟨h2,vs,by rw[Jv_ (w1:=w1) (M:=D) ht];exact h1,hN.app (h2.mono hw.size),h3⟩
 cases e<;>first
  |exact key hk
  |exact hk.elim
theorem Cw.rebaseX {P:Program} {w0:World} {c:Code} {f:Fr} {L X:zd_} {rs:List ResultVar} {S S1:Value→zd_→Prop} (ht:rs.all tmpR=true)
  (h: ∀w1,Hp w0 L w1→Cw P w1 c f [] (retK P w1 rs (XS w1 [] S1))) (hS: ∀v D,New w0.heap.size D→S1 v D→XS w0 X S v (L++D)):Cw P w0 c f L (retK P w0 rs (XS w0 X S)):=by
 refine Cw.rebase (K1:=fun w1=>retK P w1 rs (XS w1 [] S1)) h ?_
 intro w1 e f D hw hk
 have key: (∃vs,kX_ P w1 D f rs=some vs∧XS w1 [] S1 (vE_ vs) D)→New w1.heap.size D∧ ∃vs,kX_ P w0 (L++D) f rs=some vs∧XS w0 X S (vE_ vs) (L++D):=by
  rintro⟨vs,h1,h2,h3⟩
  exact⟨h2.new0,vs,by rw[Jv_ (w1:=w1) (M:=D) ht];exact h1,hS _ D (h2.new0.mono hw.size) h3⟩
 cases e<;>first
  |exact key hk
  |exact hk.elim
theorem Ow.world {P:Program} {w0:World} {ops:Array Oper} {l:List Oper} {f:Fr} {L:zd_} {N:Fr→zd_→Prop} (h: ∀w,Hp w0 L w→Ow P w0 ops .seq l f L N):Ow P w0 ops .seq l f L N:=fun w hw=>h w hw w hw
theorem Rets.chunk {P:Program} {k:FuncId} {args:Array Value} {w:World} {S:Value→Obj→Prop} {X:zd_} {b:Nat} (hX: ∀p,p∈X→w.heap[p.1]? =some p.2) (hn: (keys X).Nodup) (hb:b∈keys X)
  (h:Rets P k args w (fun v D=> ∃o,D= [(b,o)]∧S v o)):Rets P k args w (XS w X (fun v D=> ∃o,D=setB X b o∧S v o)):=
 Calls.mono h fun e w' ⟨v,D,he,hp,o,hD,hS⟩=>⟨v,setB X b o,he,by subst hD;exact Mrg.set hb w w' rfl ((Hp.refl w).ownX hX hn) hp,(Ext.refl w X).setB,o,rfl,hS⟩
theorem Rets.chunkV {P:Program} {k:FuncId} {args:Array Value} {w:World} {S:Value→Prop} {X:zd_} (hX: ∀p,p∈X→w.heap[p.1]? =some p.2) (hn: (keys X).Nodup)
  (h:Rets P k args w (fun v D=>S v∧D= [])):Rets P k args w (XS w X (fun v D=>D=X∧S v)):=
 Calls.mono h fun e w' ⟨v,D,he,hp,hS,hD⟩=>⟨v,X,he,by subst hD;exact((Hp.refl w).ownX hX hn).trans_nil hp,Ext.refl w X,rfl,hS⟩
theorem Rets.toX {P:Program} {k:FuncId} {a:Array Value} {w:World} {S:Value→Prop} (h:Rets P k a w (fun v D=>S v∧D= [])):Rets P k a w (XS w [] (fun v D=>D= []∧S v)):=
 h.mono fun v D ⟨h1,h2⟩=>⟨by subst h2;exact Ext.refl w [],h2,h1⟩
theorem Gr.rowL {α:Type} {m:Nat} {enc:α→List Value} {z:α} {w0 w:World} {v:Value} {l:List α} {L:zd_} {E:TypeId} {n:Nat} (h:Gr L E m v n (l.map enc).flatten) (hn:l.length=n) (hw:Hp w0 L w) (hm: ∀x,(enc x).length=m):
  ∃b off arr F fz,RowS m enc z w v l b off arr F fz∧(0<l.length→look L b=some (.cells arr F fz)):=by
 obtain⟨b,off,c,arr,F,fz,hr,hc,⟨rfl,rfl,rfl⟩ | ⟨rfl,hb,hsz⟩⟩:=h.slV (z:=z) hw hn rfl hm
 ·exact⟨b,off,arr,F,fz,hr,fun h0=>absurd h0 (by simp)⟩
 ·refine⟨b,off,arr,F,fz,hr,fun _=> ?_⟩
  obtain⟨o,ho⟩:=Vv_ (h.key (b:=b) rfl)
  have:=hw.has _ _ (zJ_ ho)
  rw[hb] at this
  rw[ho,this]
theorem GrI.rowL {α:Type} {m:Nat} {enc:α→List Value} {z:α} {w0 w:World} {v:Value} {l:List α} {D:zd_} {E:TypeId} {n:Nat} (h:GrI D E m v n (l.map enc).flatten) (hn:l.length=n) (hw:Hp w0 D w) (hm: ∀x,(enc x).length=m):
  ∃b off arr F fz,RowS m enc z w v l b off arr F fz∧(0<l.length→look D b=some (.cells arr F fz)):=by
 obtain⟨X,hX,h⟩:=h
 obtain⟨b,off,c,arr,F,fz,hr,hc,⟨rfl,rfl,rfl⟩ | ⟨rfl,hb,hsz⟩⟩:=h.slM (z:=z) (fun b o hm=>hw.has b o (hX _ hm)) hn rfl hm
 ·exact⟨b,off,arr,F,fz,hr,fun h0=>absurd h0 (by simp)⟩
 ·refine⟨b,off,arr,F,fz,hr,fun _=> ?_⟩
  obtain⟨o,ho⟩:=Vv_ (h.key (b:=b) rfl)
  have hm:=hX _ (zJ_ ho)
  have:=hw.has _ _ hm
  rw[hb] at this
  rw[x6_ hw.nodup hm,this]
end Go.Sx
section
open Go Go.Proofs Go.Sx Go.StP Go.Flo
namespace Go.Proofs
set_option maxRecDepth 10000
set_option maxHeartbeats 400000
set_option linter.unusedSimpArgs false
set_option linter.defProp false
def Kd_:=And.intro (@zg_) (@zf_)
theorem aeb_ (b o n c:Nat):qJ_ Tryz.prog .eql 81 (vsl b o n c) (.slice none 0 0)=some (.bool false):=by
 simp[qJ_,eqX,qw_,qE_,Tryz.underlying81,vsl]
theorem VL_:qJ_ Tryz.prog .eql 81 (.slice none 0 0) (.slice none 0 0)=some (.bool true):=by
 simp[qJ_,eqX,qw_,qE_,Tryz.underlying81]
theorem Qt_ (v:Value) (ls:List RwL) (w:World) (hv:Xt_ w v ls) (hl:ls.length<1000000):
  Rets Tryz.prog 107 #[v] w (XS w [] (fun v D=>Gr D 104 34 v ls.length (ls.map rwC).flatten)):=by
 obtain⟨b,off,c,arr,E,fz,hr,hc,⟨rfl,rfl,rfl⟩ | ⟨rfl,hb,hsz⟩⟩:=hv
 ·refine Rets.enterX Tryz.func107 rfl (rs:= [.tmp 2]) Tryz.results107 Tryz.ntmps107 (fun p hp=>by cases hp) (by simp[keys]) ?_
  refine kf ?_
  first|with_reducible refine ks [] (And.intro @Kd_ (And.intro @aeb_ (@VL_))) ?_|refine kp (And.intro @Kd_ (And.intro @aeb_ (@VL_))) ?_
  refine⟨_,(ke @Kd_), ?_⟩
  exact⟨Ext.refl _ _,Gr.nl⟩
 ·have hbl:=(Array.getElem?_eq_some_iff.1 hb).1
  have hv:Xt_ w (vsl b off ls.length c) ls:=⟨b,off,c,arr,E,fz,hr,hc, .inr ⟨rfl,hb,hsz⟩⟩
  refine Rets.enterX Tryz.func107 rfl (rs:= [.tmp 2]) Tryz.results107 Tryz.ntmps107 (fun p hp=>by cases hp) (by simp[keys]) ?_
  refine kf ?_
  first|with_reducible refine ks [] (And.intro @Kd_ (And.intro @aeb_ (@VL_))) ?_|refine kp (And.intro @Kd_ (And.intro @aeb_ (@VL_))) ?_
  refine Ow.buildSlice (e:=104) #[] rfl rfl (by kernel_rfl) fun b1 hb1 hw1=> ?_
  refine ko @Kd_ ?_
  refine Ow.appendG (e:=104) (k:=ls.length) (new:=(ls.map rwC).flatten) (vsl b1 0 0 0) rfl rfl rfl Tryz.underlying81 Tryz.ag104 (by kernel_rfl) Q9_ (by rw[zI_,List.size_toArray,zi_]) Tryz.underlying81 (by intro k h;cases h) (.inr ⟨rfl,rfl,b1,rfl,QW_ hb1⟩) (fun w' hw'=>(hv.oldN hw' ⟨hw1,trivial⟩).appX zi_ jU_) (VG_ zi_ ls) (by omega) (fun v2 L2 hB hB2 hG hS=> ?_)
  rw[Nat.zero_add,List.nil_append] at hB
  refine ko @Kd_ ?_
  first|with_reducible refine ks [] @Kd_ ?_|refine kp @Kd_ ?_
  refine⟨_,(ke @Kd_), ?_⟩
  exact⟨((Ext.refl w []).app (o:=Obj.cells #[] 104 (0,0)) hw1).grew hG,hB⟩
theorem agr_ (v:Value) (X:zd_) (l:List RwL) (w:World) (hG:Gr X 104 34 v l.length (l.map rwC).flatten) (hX: ∀p,p∈X→w.heap[p.1]? =some p.2) (hn: (keys X).Nodup) (hl:l.length<1000000):
  Rets Tryz.prog 108 #[v,qT_] w (XS w X (fun v' D=>v'= .tuple #[]∧ ∃Z,rws_SortOf l Z∧Gr D 104 34 v l.length (Z.map rwC).flatten)):=by
 rcases hG with hS| ⟨h0,h1,rb,rfl,hlk⟩
 ·rcases hS.inv with⟨rfl,h0,h1⟩ | ⟨rb,c,rest,rfl,hlk,-,hc,hc0,hr⟩
  ·obtain rfl:l= []:=List.eq_nil_of_length_eq_zero h0
   refine(Rets.chunkV hX hn (Zp_ w)).mono ?_
   rintro v' D ⟨hE,rfl,hv⟩
   exact⟨hE,hv,[],⟨rfl,List.Pairwise.nil,StP.St.refl _ _⟩,Gr.nl⟩
  ·refine(Rets.chunk hX hn (zw_ hlk) (kd_ rb l.length c l rest w rfl hl (hX _ (zJ_ hlk)))).mono ?_
   rintro v' D ⟨hE,o,rfl,hv,Z,rfl,z1,z2,z3⟩
   refine⟨hE,hv,Z,⟨z1,z2,z3⟩, .inl ?_⟩
   rw[←z1]
   exact Buf.at_ (kp_ hlk) (by rw[VG_ zi_]) (by rw[z1];exact hr) (by omega) hc0
 ·obtain rfl:l= []:=List.eq_nil_of_length_eq_zero h0
  refine(Rets.chunk hX hn (zw_ hlk) (kd_ rb 0 0 [] [] w rfl (by omega) (hX _ (zJ_ hlk)))).mono ?_
  rintro v' D ⟨hE,o,rfl,hv,Z,rfl,z1,z2,z3⟩
  obtain rfl:Z= []:=List.eq_nil_of_length_eq_zero z1
  exact⟨hE,hv,[],⟨rfl,List.Pairwise.nil,StP.St.refl _ _⟩, .inr ⟨rfl,rfl,rb,rfl,kp_ hlk⟩⟩
theorem Z1_ (l:List RwL) {g:Nat} (h:g<l.length):xy_ (l.take (g+1))=xy_ (l.take g)++rowB (l.getD g rw0):=by
 rw[StP.take_snoc (z:=rw0) h];simp[xy_]
theorem aed_ (r:RwL): (rowB r).length≤44:=by
 have h1:=zs_ r.place
 have h2:=zs_ r.spot
 have h3:=r.id.h
 unfold rowB
 rw[List.length_append,List.length_append];omega
theorem Zr_ (l:List RwL): ∀g,g≤l.length→(xy_ (l.take g)).length≤g*44
 |0,_=>by simp[xy_]
 |g+1,h=>by
  rw[Z1_ l h,List.length_append]
  have:=Zr_ l g (by omega)
  have:=aed_ (l.getD g rw0)
  omega
theorem ZC_: ∀ (l:List Int),(xw_ l).length≤l.length*6
 | []=>by simp[xw_]
 |n::l=>by
  have h1:=ZC_ l
  have h2:=zs_ n
  have e:xw_ (n::l)=qS_ (zz_ n)++xw_ l:=by simp[xw_]
  rw[e,List.length_append,List.length_cons];omega
theorem k1_ (F:List Nat): (Qh_ F).length=F.length:=by simp[Qh_]
theorem ann_ {w:World} {b:Nat} {s:List UInt8} {v1:Value} {F:List Nat} (h:w.heap[b]? =some (ixO s v1 F)) (c:Nat):OneS vi 0 w (vsl b 2 F.length c) (Qh_ F) b 2 ([vs s,v1]++ (F.map fun(n:Nat)=>vi (n:Int))).toArray 178 (0,0):=by
 refine OneS.sl (by rw[k1_]) h fun k hk=> ?_
 rw[k1_] at hk
 rw[List.getElem?_toArray,List.getElem?_append_right (by simp),show 2+k - [vs s,v1].length=k from by simp,List.getElem?_map,List.getElem?_eq_getElem hk]
 unfold Qh_
 rw[List.getD_eq_getElem?_getD,List.getElem?_map,List.getElem?_eq_getElem hk];rfl
structure IwG where
 k:Nat
 D:zd_
set_option linter.defProp false
def qf_:=And.intro (And.intro (And.intro (@zg_) (@zf_)) (And.intro (@zI_) (And.intro (@jZ_) (@xm_)))) (And.intro (And.intro (@xM_) (@xT_)) (And.intro (@qL_) (And.intro (@Sx.tup2_0) (@Sx.tup2_1))))
theorem w7_ (s:List UInt8) (v:Value) (l:List RwL) (w:World) (hC:GlobC w) (hv:Xt_ w v l) (hl:l.length<1000000) (hs:s.length<1099511627776):
  Rets Tryz.prog 42 #[vs s,v] w (fun v' D=>(∃Z,rws_SortOf l Z∧v'= .tuple #[vs (km_ s Z).1,vi (km_ s Z).2])∧D= []):=by
 refine Rets.enterV Tryz.func42 rfl (rs:= [.tmp 4, .tmp 5]) Tryz.results42 Tryz.ntmps42 ?_
 refine kf ?_
 first|with_reducible refine ks [1000006] @qf_ ?_|refine kp @qf_ ?_
 refine Ow.callX (Y:= []) (by simp) rfl rfl Tryz.call107 (fun w' hw' hX hn=>Qt_ v l w' (hv.oldN hw' trivial) hl) (fun v12 D12 hC12 hS12=> ?_)
 have hN12:New w.heap.size D12:=qy_ hC12 trivial
 rw[List.append_nil]
 refine ko @qf_ ?_
 first|with_reducible refine ks [] @qf_ ?_|refine kp @qf_ ?_
 refine Ow.callX (Y:= []) (by simp) rfl rfl Tryz.call108 (fun w' hw' hX hn=>agr_ v12 D12 l w' hS12 hX hn hl) (fun v14 D14 hC14 hS14=> ?_)
 obtain⟨rfl,Z,hZ,hG⟩:=hS14
 have hN14:New w.heap.size D14:=qy_ hC14 hN12
 have hZl:=hZ.1
 rw[List.append_nil]
 refine ko @qf_ ?_
 first|with_reducible refine ks [] @qf_ ?_|refine kp @qf_ ?_
 refine Ow.callC rfl rfl Tryz.call110 (fun w' hw'=>ad8_ s v12 Z w' (hG.slV hw' hZl rfl zi_) (by omega)) (fun B1 v18 D18 hA18 hB18 hN18 hS18=> ?_)
 have hN:New w.heap.size (D14++D18):=hN14.app (hN18.mono hB18)
 unfold OfIS at hS18
 by_cases hok:wJ_ Z Z.length=true
 ·rw[if_pos hok] at hS18
  obtain⟨bi,rfl,hbi⟩:=hS18
  have hri: (decide (s.length=4)&&decide (Z.length≤200))=qx_ s Z:=by unfold qx_;rw[hok,Bool.true_and]
  rw[hri]
  cases hr:qx_ s Z with
  |false=>
   refine ko @qf_ ?_
   first|with_reducible refine ks [] @qf_ ?_|refine kp @qf_ ?_
   refine⟨_,(ke @qf_),hN, ?_⟩
   exact⟨Z,hZ,by unfold km_;rw[hr];rfl⟩
  |true=>
   obtain⟨-,hs4,hl2⟩:=ke_ hr
   refine ko @qf_ ?_
   refine Cw.rebaseV hN (by rfl) fun w1 hw1=> ?_
   have hC1:=hC.newP hw1 hN
   have hb1:w1.heap[bi]? =some (ixO s v12 (x0_ Z)):=hw1.has _ _ (List.mem_append_right _ hbi)
   have hv1:Xt_ w1 v12 Z:=(hG.app (M:=D18)).slV hw1 hZl rfl zi_
   clear hw1 hG hbi hN hN18 hA18 hS12 hC14 hC12
   obtain⟨rb,off,arr,E,fz,hro⟩:=hv1.row
   have ln:=hv1.len
   first|with_reducible refine ks [] @qf_ ?_|refine kp @qf_ ?_
   refine Ow.alloc rfl rfl Tryz.zr123 fun b5 hb5 hw5=> ?_
   refine ko @qf_ ?_
   first|with_reducible refine ks [] @qf_ ?_|refine kp @qf_ ?_
   have hZ5:BldAt b5 [] [(b5, .cells #[.pointer none, .slice none 0 0] 123 (0,0))]:=BldAt.zeroK b5 (zS_ _ _ _)
   refine Ow.buildSlice (e:=9) #[vs [83,73,88,49],vs s] rfl rfl (by kernel_rfl) fun b15 hb15 hw15=> ?_
   have h515:b5<b15:=zk_ hb15 (by simp[keys])
   refine ko @qf_ ?_
   refine Ow.callX (Y:= [(b15, .cells #[vs [83,73,88,49],vs s] 9 (0,0))]) (by simp) rfl rfl Tryz.call60 (fun w' hw' hX hn=>kW_ b5 [(b5, .cells #[.pointer none, .slice none 0 0] 123 (0,0))] [] _ b15 0 [[83,73,88,49],s] _ _ _ w' hZ5 hX hn (StrS.lit [[83,73,88,49],s] rfl rfl (hw'.has _ _ (List.mem_cons_of_mem _ List.mem_cons_self))) (fun _ hm=>by simp[keys] at hm;omega) (by simp;omega) (by simp)) (fun v16 D16 hC16 hS16=> ?_)
   obtain⟨rfl,hB16⟩:=hS16
   have hN16:New w1.heap.size D16:=qy_ hC16 ⟨hw5,trivial⟩
   refine ko @qf_ ?_
   first|with_reducible refine ks [] (And.intro @qf_ @ln) ?_|refine kp (And.intro @qf_ @ln) ?_
   refine Ow.buildSlice (e:=3) #[vi Z.length] rfl rfl (by kernel_rfl) fun b19 hb19 hw19=> ?_
   refine ko @qf_ ?_
   rw[List.append_assoc]
   refine Ow.callX (Y:= [(b15, .cells #[vs [83,73,88,49],vs s] 9 (0,0)),(b19, .cells #[vi Z.length] 3 (0,0))]) (by simp) rfl rfl Tryz.call61 (fun w' hw' hX hn=>jN_ b5 D16 _ _ b19 0 [(Z.length:Int)] _ _ _ w' hB16 hX hn (OneS.lit [(Z.length:Int)] rfl rfl (hw'.has b19 (.cells #[vi Z.length] 3 (0,0)) (by simp))) (fun _ hm=>Nat.lt_irrefl _ (zk_ hb19 (by rw[zj_];exact List.mem_append_left _ hm))) (by simp;omega)) (fun v20 D20 hC20 hS20=> ?_)
   obtain⟨rfl,hB20⟩:=hS20
   rw[ZD_] at hB20
   have hN20:New w1.heap.size D20:=qy_ hC20 hN16
   have hbil:=(Array.getElem?_eq_some_iff.1 hb1).1
   refine ko @qf_ ?_
   first|with_reducible refine ks [] @qf_ ?_|refine kp @qf_ ?_
   have hN20':New w1.heap.size (D20++ [(b15,Obj.cells #[vs [83,73,88,49],vs s] 9 (0,0)),(b19,Obj.cells #[vi Z.length] 3 (0,0))]):=hN20.app ⟨hw15,hw19,trivial⟩
   have hnl:=zs_ (Z.length:Int)
   have hfl: (x0_ Z).length=16:=vd_ Z
   have hfb:=ZC_ (Qh_ (x0_ Z))
   rw[k1_,hfl] at hfb
   refine Ow.callX (Y:= [(b15, .cells #[vs [83,73,88,49],vs s] 9 (0,0)),(b19, .cells #[vi Z.length] 3 (0,0))]) (by simp) rfl rfl Tryz.call61 (fun w' hw' hX hn=>jN_ b5 D20 _ (vsl bi 2 16 16) bi 2 (Qh_ (x0_ Z)) _ _ _ w' hB20 hX hn (hfl▸ann_ (by rw[hw'.old bi hbil (hN20'.not hbil)];exact hb1) 16) (fun _ hm=>by have:=hN20.le _ hm;omega) (by rw[k1_,hfl];simp;omega)) (fun v34 D34 hC34 hS34=> ?_)
   obtain⟨rfl,hB34⟩:=hS34
   have hN34:New w1.heap.size D34:=qy_ hC34 hN20
   obtain⟨Pre,hPre⟩: ∃Pre,Pre=magI++ (s++ (qS_ (zz_ (Z.length:Int))++xG_ (x0_ Z))):=⟨_,rfl⟩
   have hidx:vB_ s Z=Pre++xy_ Z:=by rw[hPre];unfold vB_;simp only[List.append_assoc]
   have hPl:Pre.length≤200:=by rw[hPre];simp only[List.length_append];unfold xG_;rw[show magI.length=4 from rfl];omega
   have hB0:BldAt b5 (Pre++xy_ (Z.take 0)) (D34++ [(b15,Obj.cells #[vs [83,73,88,49],vs s] 9 (0,0)),(b19, .cells #[vi Z.length] 3 (0,0))]):=by
    have:=hB34.app (Y:= [(b15,Obj.cells #[vs [83,73,88,49],vs s] 9 (0,0)),(b19, .cells #[vi Z.length] 3 (0,0))])
    rw[hPre]
    simpa [magI,xy_,xG_] using this
   clear hPre
   refine ko @qf_ ?_
   first|with_reducible refine ks [] (And.intro @qf_ @ln) ?_|refine kp (And.intro @qf_ @ln) ?_
   refine Cw.loopG (G:=IwG) [38,39,40,10,41,42,43,44,45,46,47,48,49,50,51,37] (fun g=> [(37,vi g.k)]) (fun g=>g.D) (fun g=>g.k≤Z.length∧New w1.heap.size g.D∧BldAt b5 (Pre++xy_ (Z.take g.k)) g.D) (fun g=>Z.length - g.k) ⟨0,D34++ [(b15,Obj.cells #[vs [83,73,88,49],vs s] 9 (0,0)),(b19, .cells #[vi Z.length] 3 (0,0))]⟩ rfl rfl ?_ ?_
   ·exact⟨Nat.zero_le _,hN34.app ⟨hw15,hw19,trivial⟩,hB0⟩
   intro g j hg
   refine kv ?_
   obtain⟨k,D⟩:=g
   simp only at hg ⊢
   obtain⟨hk,hN,hB⟩:=hg
   have hrl:=Zr_ Z k hk
   by_cases hlt:k<Z.length
   ·have d1:decide ((k:Int)< (Z.length:Int))=true:=decide_eq_true (by omega)
    have hb1:=hro.has (by omega)
    have hb1l:=hro.lt (by omega)
    have ix:=hro.idx true k hlt
    have ld:=hro.load zi_ (by omega) hlt
    have rd:zy_ w1 D rb=some (.cells arr E fz):=by rw[qK_ (hN.not hb1l)];exact hb1
    have hsn:=Z1_ Z hlt
    generalize hp:Z.getD k rw0=r at*
    first|with_reducible refine ks [1000013] (And.intro @qf_ (And.intro @d1 (And.intro @ix (And.intro @rd (@ld))))) ?_|refine kp (And.intro @qf_ (And.intro @d1 (And.intro @ix (And.intro @rd (@ld))))) ?_
    refine Ow.alloc rfl rfl Q9_ fun b7 hb7 hw7=> ?_
    simp only[ze_,List.nil_append,List.cons_append]
    refine Ow.permL (M:=(b7, .cells (rwC rw0).toArray 104 (0,0))::D) (by classical exact List.perm_iff_count.2 fun a=>by simp only[List.count_append,List.count_cons,List.count_nil]<;>omega) ?_
    refine ko @qf_ ?_
    first|with_reducible refine ks [] @qf_ ?_|refine kp @qf_ ?_
    have hrb:=aed_ r
    have hru:rowB r=r.id.l++ (qS_ (zz_ r.place)++qS_ (zz_ r.spot)):=rfl
    have hru2: (rowB r).length=32+ ((qS_ (zz_ r.place)).length+ (qS_ (zz_ r.spot)).length):=by rw[hru];simp only[List.length_append,r.id.h]
    refine Ow.buildSlice (e:=37) (a8 r.id.l) rfl rfl (aht_ r.id) fun b35 hb35 hw35=> ?_
    refine ko @qf_ ?_
    refine Ow.permL (M:=D++ [(b7,Obj.cells (rwC r).toArray 104 (0,0)),(b35, .cells (a8 r.id.l) 37 (0,0))]) (by classical exact List.perm_iff_count.2 fun a=>by simp only[List.count_append,List.count_cons,List.count_nil]<;>omega) ?_
    refine Ow.callX (Y:= [(b7,Obj.cells (rwC r).toArray 104 (0,0)),(b35, .cells (a8 r.id.l) 37 (0,0))]) (by simp) rfl rfl Tryz.call111 (fun w' hw' hX hn=>ala_ b5 D _ _ b35 0 [r.id] _ _ _ w' hB hX hn (ahE_ r.id (hw'.has b35 (.cells (a8 r.id.l) 37 (0,0)) (by simp))) (fun _ hm=>Nat.lt_irrefl _ (zk_ hb35 (by simp[keys] at hm ⊢;exact .inr hm))) (by rw[List.length_append];simp;omega)) (fun v36 D36 hC36 hS36=> ?_)
    obtain⟨rfl,hB36⟩:=hS36
    have hN36:New w1.heap.size D36:=qy_ hC36 hN
    refine Ow.permL (M:=(b7,Obj.cells (rwC r).toArray 104 (0,0)):: (D36++ [(b35, .cells (a8 r.id.l) 37 (0,0))])) (by classical exact List.perm_iff_count.2 fun a=>by simp only[List.count_append,List.count_cons,List.count_nil]<;>omega) ?_
    refine ko @qf_ ?_
    first|with_reducible refine ks [] @qf_ ?_|refine kp @qf_ ?_
    refine Ow.buildSlice (e:=3) #[vi r.place,vi r.spot] rfl rfl (by kernel_rfl) fun b39 hb39 hw39=> ?_
    refine ko @qf_ ?_
    refine Ow.permL (M:=D36++ [(b7,Obj.cells (rwC r).toArray 104 (0,0)),(b35, .cells (a8 r.id.l) 37 (0,0)),(b39, .cells #[vi r.place,vi r.spot] 3 (0,0))]) (by classical exact List.perm_iff_count.2 fun a=>by simp only[List.count_append,List.count_cons,List.count_nil]<;>omega) ?_
    refine Ow.callX (Y:= [(b7,Obj.cells (rwC r).toArray 104 (0,0)),(b35, .cells (a8 r.id.l) 37 (0,0)),(b39, .cells #[vi r.place,vi r.spot] 3 (0,0))]) (by simp) rfl rfl Tryz.call61 (fun w' hw' hX hn=>jN_ b5 D36 _ _ b39 0 [r.place,r.spot] _ _ _ w' hB36 hX hn (OneS.lit [r.place,r.spot] rfl rfl (hw'.has b39 (.cells #[vi r.place,vi r.spot] 3 (0,0)) (by simp))) (fun _ hm=>Nat.lt_irrefl _ (zk_ hb39 (by simp[keys] at hm ⊢;exact .inr (.inl hm)))) (by simp[idsL,r.id.h];omega)) (fun v40 D40 hC40 hS40=> ?_)
    obtain⟨rfl,hB40⟩:=hS40
    have hN40:New w1.heap.size D40:=qy_ hC40 hN36
    refine ko @qf_ ?_
    first|with_reducible refine ks [] @qf_ ?_|refine kp @qf_ ?_
    refine Again.mk ⟨k+1,D40++ [(b7,Obj.cells (rwC r).toArray 104 (0,0)),(b35, .cells (a8 r.id.l) 37 (0,0)),(b39, .cells #[vi r.place,vi r.spot] 3 (0,0))]⟩ (by show Z.length - (k+1)<Z.length - k;omega) ⟨hlt,hN40.app ⟨hw7,hw35,hw39,trivial⟩, ?_⟩ rfl rfl
    show BldAt b5 (Pre++xy_ (Z.take (k+1))) _
    rw[hsn]
    have:=hB40.app (Y:= [(b7,Obj.cells (rwC r).toArray 104 (0,0)),(b35, .cells (a8 r.id.l) 37 (0,0)),(b39, .cells #[vi r.place,vi r.spot] 3 (0,0))])
    simpa [rowB,idsL,xw_] using this
   ·obtain rfl:k=Z.length:=by omega
    have d1:decide ((Z.length:Int)< (Z.length:Int))=false:=decide_eq_false (by omega)
    rw[List.take_length] at hrl hB
    rw[←hidx] at hB
    have hpl: (vB_ s Z).length<34359738368:=by rw[hidx,List.length_append];omega
    first|with_reducible refine ks [] (And.intro @qf_ @d1) ?_|refine kp (And.intro @qf_ @d1) ?_
    refine Ow.callX (Y:= []) (by simp) rfl rfl Tryz.call64 (fun w' hw' hX hn=>kI_ b5 D (vB_ s Z) w' hB hX hn hpl) (fun v42 D42 hC42 hS42=> ?_)
    subst hS42
    have hN42:New w1.heap.size D42:=qy_ hC42 hN
    rw[List.append_nil]
    refine ko @qf_ ?_
    refine Ow.callFV rfl Tryz.call63 (fun w' hw'=>Z7_ (vB_ s Z) w' (hC1.newP hw' hN42) (by omega)) ?_
    refine ko @qf_ ?_
    first|with_reducible refine ks [] @qf_ ?_|refine kp @qf_ ?_
    refine⟨_,(ke @qf_),hN42, ?_⟩
    exact⟨Z,hZ,by unfold km_;rw[hr];rfl⟩
 ·rw[if_neg hok] at hS18
  subst hS18
  refine ko @qf_ ?_
  first|with_reducible refine ks [] @qf_ ?_|refine kp @qf_ ?_
  refine⟨_,(ke @qf_),hN, ?_⟩
  exact⟨Z,hZ,by unfold km_ qx_;rw[Bool.eq_false_iff.2 hok];rfl⟩
end Go.Proofs
end
section
open Go Go.Proofs Go.Sx Go.StP Go.Flo
namespace Go.Proofs
set_option maxRecDepth 10000
set_option maxHeartbeats 400000
set_option linter.unusedSimpArgs false
theorem eqDi (a b:Int):eqD Tryz.prog 7 3 (vi a) (vi b)=some (a==b):=by unfold eqD;rw[Tryz.underlying3];rfl
theorem eqDs (a b:List UInt8):eqD Tryz.prog 7 9 (vs a) (vs b)=some (a==b):=by unfold eqD;rw[Tryz.underlying9];simp only[vs,adF_]
theorem eqDb (a b:Bool):eqD Tryz.prog 7 4 (.bool a) (.bool b)=some (a==b):=by unfold eqD;rw[Tryz.underlying4];rfl
theorem agI:z0_ Tryz.prog 3=some (false,1):=id (by kernel_rfl)
theorem agS:z0_ Tryz.prog 9=some (false,1):=id (by kernel_rfl)
theorem agB:z0_ Tryz.prog 4=some (false,1):=id (by kernel_rfl)
theorem aoy_ (a b:ObL):eqD Tryz.prog 8 43 (obV a.k a.t) (obV b.k b.t)=some (decide (a=b)):=by
 have p0: ∀o:ObL,Sx.partV (false,1) #[vi o.k,vs o.t] 0=some (vi o.k):=fun _=>rfl
 have p1: ∀o:ObL,Sx.partV (false,1) #[vi o.k,vs o.t] 1=some (vs o.t):=fun _=>rfl
 unfold eqD obV
 rw[Tryz.underlying43]
 simp only
 rw[show Tryz.prog.stoodInHeld 43=false by kernel_rfl]
 simp only[Bool.false_eq_true, ↓reduceIte,xv_,kl_,agI,agS,p0,p1,eqDi,eqDs]
 obtain⟨k,t⟩:=a
 obtain⟨k',t'⟩:=b
 have e:decide ((⟨k,t⟩:ObL)=⟨k',t'⟩)=((k==k')&& (t==t')):=by rw[Bool.eq_iff_iff];simp
 rw[e]
 cases(k==k')<;>cases(t==t')<;>rfl
theorem aoX_ (a b:ObL):qJ_ Tryz.prog .eql 43 (obV a.k a.t) (obV b.k b.t)=some (.bool (decide (a=b))):=by
 have h:=aoy_ a b
 unfold qJ_ eqX obV at*;rw[show Tryz.prog.eqGuardType Tryz.prog.depth 43=false by kernel_rfl];simp[qw_,h]
theorem aqr_ (a b:ObL):qJ_ Tryz.prog .neq 43 (obV a.k a.t) (obV b.k b.t)=some (.bool (!decide (a=b))):=by
 have h:=aoy_ a b
 unfold qJ_ eqX obV at*;rw[show Tryz.prog.eqGuardType Tryz.prog.depth 43=false by kernel_rfl];simp[qw_,h]
instance:DecidableEq PartL:=fun a b=>if h:a.d=b.d∧a.b=b.b∧a.x=b.x then .isTrue (by cases a;cases b;simp only at h;obtain⟨rfl,rfl,rfl⟩:=h;rfl) else .isFalse (fun e=>h (by rw[e];exact⟨rfl,rfl,rfl⟩))
theorem anE_ (a b:PartL):eqD Tryz.prog 8 114 (.agg (zx_ a).toArray) (.agg (zx_ b).toArray)=some (decide (a=b)):=by
 have p0: ∀o:PartL,Sx.partV (false,1) (zx_ o).toArray 0=some (.bool o.d):=fun _=>rfl
 have p1: ∀o:PartL,Sx.partV (false,1) (zx_ o).toArray 1=some (vi o.b):=fun _=>rfl
 have p2: ∀o:PartL,Sx.partV (false,1) (zx_ o).toArray 2=some (vs o.x):=fun _=>rfl
 unfold eqD
 rw[Tryz.underlying114]
 simp only
 rw[show Tryz.prog.stoodInHeld 114=false by kernel_rfl]
 simp only[Bool.false_eq_true, ↓reduceIte,xv_,kl_,agI,agS,agB,p0,p1,p2,eqDi,eqDs,eqDb]
 obtain⟨d,k,t⟩:=a
 obtain⟨d',k',t'⟩:=b
 have e:decide ((⟨d,k,t⟩:PartL)=⟨d',k',t'⟩)=((d==d')&& ((k==k')&& (t==t'))):=by rw[Bool.eq_iff_iff];simp
 rw[e]
 simp only[ne_eq,String.reduceEq,not_false_eq_true, ↓reduceIte]
 cases(d==d')<;>cases(k==k')<;>cases(t==t')<;>rfl
theorem ans_ (a b:PartL):qJ_ Tryz.prog .neq 114 (.agg (zx_ a).toArray) (.agg (zx_ b).toArray)=some (.bool (!decide (a=b))):=by
 have h:=anE_ a b
 unfold qJ_ eqX;rw[show Tryz.prog.eqGuardType Tryz.prog.depth 114=false by kernel_rfl];simp[qw_,h]
def idxO (x:ObL):List ObL→Nat→Int
 | [],_=> -1
 |y::r,i=>if x=y then(i:Int) else idxO x r (i+1)
set_option linter.defProp false
def arL_:=And.intro (And.intro (@aoX_) (And.intro (@q2_) (@qp_))) (And.intro (@qo_) (And.intro (@zg_) (@zf_)))
end Go.Proofs
end
section
open Go Go.Proofs Go.Sx Go.StP Go.Flo
namespace Go.Proofs
set_option maxRecDepth 10000
set_option maxHeartbeats 400000
set_option linter.unusedSimpArgs false
theorem agn_ (s:List UInt8): ∃n:Nat,(xk_ s).1=n∧n≤200:=by
 unfold xk_
 split
 ·have:=qW_ (s:=s) (a:=(jc_ s 0 0 4).2.1) (e:=(jc_ s 0 0 4).2.2) (most:=200) (by omega)
  exact⟨(zu_ s (jc_ s 0 0 4).2.1 (jc_ s 0 0 4).2.2 200).1.toNat,by simp only;omega,by omega⟩
 ·exact⟨0,rfl,by omega⟩
theorem akC_ (s:List UInt8): (xk_ s).2.2.1≤s.length:=by
 have h1:=ko_ (s:=s) (a:=0) (e:=0) (n:=4) (Nat.zero_le _)
 unfold xk_
 split
 ·exact(z4_ (e:=(jc_ s 0 0 4).2.2) (most:=200) h1.2).2
 ·exact h1.2
theorem afV_ (s:List UInt8) (a:Nat) (e most:Int) (hm:0≤most): ((qN_ s a e most).1.length:Int)≤most:=by
 have h1:=qW_ (s:=s) (a:=a) (e:=e) (most:=most) hm
 have h2: ∀ (b:Nat) (e n:Int),0≤n→((jc_ s b e n).1.length:Int)≤n:=by
  intro b e n hn
  unfold jc_
  split
  ·simpa using hn
  ·split
   ·simpa using hn
   ·split
    ·simpa using hn
    ·simp only[List.length_take,List.length_drop];omega
 unfold qN_
 simp only
 split
 ·simpa using hm
 ·have:=h2 (zu_ s a e most).2.1 (zu_ s a e most).2.2 (zu_ s a e most).1 h1.1
  omega
theorem Wd_ {s:List UInt8}: ∀ (k i a:Nat) (e:Int) (p:PartL),p∈ (z8_ s k i a e).1→p.x.length≤65536
 |0,i,a,e,p,h=>by cases h
 |k+1,i,a,e,p,h=>by
  unfold z8_ at h
  split at h
  ·rcases List.mem_cons.1 h with rfl|h
   ·have:=afV_ s (zu_ s a e 200).2.1 (zu_ s a e 200).2.2 65536 (by omega)
    show(qN_ s (zu_ s a e 200).2.1 (zu_ s a e 200).2.2 65536).1.length≤65536
    omega
   ·exact Wd_ k _ _ _ p h
  ·cases h
theorem Jr_ (s:List UInt8):SmallP (xc_ s).1:=fun g hg=>Nat.le_trans (Wd_ _ _ _ _ _ (VO_ hg)) (by omega)
theorem Wy_ (s:List UInt8): (xc_ s).1.length≤200∧(xc_ s).2.1.length=(xc_ s).1.length:=by
 obtain⟨n,hn,hle⟩:=agn_ s
 have:=Jz_ (s:=s) (xk_ s).1.toNat 0 (xk_ s).2.2.1 (xk_ s).2.2.2
 unfold xc_
 rw[hn,Int.toNat_natCast] at this ⊢
 omega
theorem amJ_ {D:zd_} {E:TypeId} {m n:Nat} {v:Value} {cs:List Value} (h:GrI D E m v n cs) {b:Nat} (hb:slB v=some b):b∈keys D:=by
 obtain⟨X,hX,h⟩:=h
 obtain⟨p,hp,rfl⟩:=List.mem_map.1 (h.key hb)
 exact List.mem_map.2 ⟨p,hX p hp,rfl⟩
theorem adO_ {D:zd_} {E:TypeId} {m n:Nat} {v:Value} {cs:List Value} (h:GrI D E m v n cs):Value.oneCell' v=true∧v.cells= #[v]:=by
 obtain⟨X,hX,h⟩:=h;exact h.cell
theorem agU_ {v0 v1:Value} (h0:Value.oneCell' v0=true∧v0.cells= #[v0]) (h1:Value.oneCell' v1=true∧v1.cells= #[v1]):qg_ (kt_ Tryz.prog 117) (zK_ Tryz.prog 117) [(0,v0),(1,v1)]=some (.agg #[v0,v1, .slice none 0 0, .slice none 0 0]):=by
 rw[show kt_ Tryz.prog 117=some [(0,1),(1,1),(2,1),(3,1)] from id (by kernel_rfl),zrPk]
 simp[qg_,Sx.fillV,h0.2,h1.2,vH_]
theorem zrPr:zK_ Tryz.prog 137=some (.agg #[.pointer none, .slice none 0 0, .slice none 0 0]):=id (by kernel_rfl)
theorem akf_ (b:Nat):qg_ (kt_ Tryz.prog 137) (zK_ Tryz.prog 137) [(0,vp b 0)]=some (.agg #[vp b 0, .slice none 0 0, .slice none 0 0]):=by
 rw[show kt_ Tryz.prog 137=some [(0,1),(1,1),(2,1)] from id (by kernel_rfl),zrPr];rfl
def am0_ (b:List UInt8) (v:Value) (D:zd_):Prop:=match ZY_ b with
 |some q=> ∃bp,v= .tuple #[vp bp 0,vi 0]∧PackD D bp q.1 q.2.1 q.2.2.1 q.2.2.2
 |none=>v= .tuple #[.pointer none,vi 2]
set_option linter.defProp false
def qV_:=And.intro (And.intro (@zg_) (And.intro (@zf_) (@K0_))) (And.intro (And.intro (@VH_) (@K7_)) (And.intro (@Sx.tup2_0) (@Sx.tup2_1)))
theorem aeH_ (b:List UInt8) (w:World) (hG:GlobE w) (hC:GlobC w) (hb:b.length<1099511627776):
  Rets Tryz.prog 17 #[vs b] w (XS w [] (am0_ b)):=by
 have hgr:3<w.heap.size:=by obtain⟨e0,e1,f0,f1,h0,h1⟩:=hG;exact(Array.getElem?_eq_some_iff.1 h1).1
 refine Rets.enterX Tryz.func17 rfl (rs:= [.tmp 2, .tmp 3]) Tryz.results17 Tryz.ntmps17 (fun p hp=>by cases hp) (by simp[keys]) ?_
 refine kf ?_
 first|with_reducible refine ks [8] @qV_ ?_|refine kp @qV_ ?_
 refine Ow.callFV rfl Tryz.call70 (fun w' hw'=>QD_ b w' (hC.newP hw' trivial) (by omega)) ?_
 have hun: (zq_ b).1.length≤b.length:=by
  unfold zq_
  split
  ·simp
  ·split
   ·simp only[List.length_take];omega
   ·simp
 unfold am0_ ZY_
 generalize zq_ b=u at*
 obtain⟨s,ok⟩:=u
 simp only at hun ⊢
 cases ok with
 |false=>
  rw[if_neg (by simp)]
  refine ko @qV_ ?_
  first|with_reducible refine ks [] @qV_ ?_|refine kp @qV_ ?_
  refine⟨_,(ke @qV_), ?_⟩
  exact⟨Ext.refl _ _,rfl⟩
 |true=>
  refine ko @qV_ ?_
  first|with_reducible refine ks [] @qV_ ?_|refine kp @qV_ ?_
  refine Ow.callF rfl rfl Tryz.call71 (S:=fun B v D=> ∃b',B≤b'∧v=vp b' 0∧D= [(b',wrO s 0 0)]) (fun w' hw'=>v3_ s w') ?_
  rintro B v D hab hB ⟨bw,hbw,rfl,rfl⟩
  have hww:w.heap.size≤bw:=by omega
  refine⟨_,Mrg.fresh (by intro q hq;simp only[keys,List.map_cons,List.map_nil,List.mem_singleton] at hq;omega), ?_⟩
  rw[List.nil_append]
  refine ko @qV_ ?_
  refine Ow.build (.agg #[vp bw 0, .slice none 0 0, .slice none 0 0]) rfl (akf_ bw) ?_
  refine ko @qV_ ?_
  refine Ow.box rfl rfl fun br hbr hwr=> ?_
  simp only[qi_,qe_,qc_,ze_]
  have hwbr:bw<br:=zk_ hbr (by simp[keys])
  refine Ow.permL (M:= [(br,prO (vp bw 0) (.slice none 0 0) (.slice none 0 0)),(bw,wrO s 0 0)]) (List.Perm.swap _ _ _) ?_
  refine ko @qV_ ?_
  first|with_reducible refine ks [] @qV_ ?_|refine kp @qV_ ?_
  refine Ow.callX (Y:= []) (by simp) rfl rfl Tryz.call72 (fun w' hw' hX hn=>ah6_ br bw s (.slice none 0 0) (.slice none 0 0) w' (by omega) (by omega) (hX _ List.mem_cons_self) (hX _ (List.mem_cons_of_mem _ List.mem_cons_self))) (fun v22 D22 hC22 hS22=> ?_)
  obtain⟨rfl,rfl⟩:=hS22
  clear hC22
  obtain⟨n,hn,hn2⟩:=agn_ s
  have hle:=akC_ s
  have hrp:xc_ s=z8_ s n 0 (xk_ s).2.2.1 (xk_ s).2.2.2:=by unfold xc_;rw[hn,Int.toNat_natCast]
  have hrl:=Wy_ s
  have hrs:=Jr_ s
  rw[hn,List.append_nil]
  refine ko @qV_ ?_
  first|with_reducible refine ks [] @qV_ ?_|refine kp @qV_ ?_
  refine Ow.callX (Y:= []) (by simp) rfl rfl Tryz.call73 (fun w' hw' hX hn=>agq_ br bw s n (xk_ s).2.2.1 (xk_ s).2.2.2 w' (by omega) (by omega) hle (by omega) (hX _ List.mem_cons_self) (hX _ (List.mem_cons_of_mem _ List.mem_cons_self))) (fun v27 D27 hC27 hS27=> ?_)
  obtain⟨rfl,v1,v2,D',rfl,hg1,hg2⟩:=hS27
  rw[←hrp] at hg1 hg2
  rw[←hrp]
  generalize (xk_ s).2.1=okh
  generalize xc_ s=r at*
  obtain⟨l,sp,a,e⟩:=r
  simp only at hg1 hg2 hrl hrs ⊢
  have hN:New w.heap.size D':=New.of_le fun c hc=>by
   rcases hC27.new c (by simp only[keys,List.map_cons,List.mem_cons];exact .inr (.inr hc)) with h|h
   ·simp[keys] at h;omega
   ·exact h.2
  rw[List.append_nil]
  refine ko @qV_ ?_
  first|with_reducible refine ks [] @qV_ ?_|refine kp @qV_ ?_
  refine Cw.regionS [br] [0,1,2,4,5,6,3,7,8,9,10] [] (by kernel_rfl) (by kernel_rfl) (by kernel_rfl) ?_
  simp only[zh_, ↓zc_, ↓zb_, ↓zn_, ↓zo_,za_]
  refine kq @qV_ ?_
  refine Ow.build (.agg #[v1,v2, .slice none 0 0, .slice none 0 0]) rfl (agU_ (adO_ hg1) (adO_ hg2)) ?_
  refine kq @qV_ ?_
  refine Ow.soft rfl rfl rfl ?_
  refine Ow.box rfl rfl fun bk hbk hwk=> ?_
  simp only[qi_,qe_,qc_,ze_]
  have hbrk:br<bk:=zk_ hbk (by simp[keys])
  have hDk: ∀c,c∈keys D'→c<bk:=fun c hc=>zk_ hbk (by simp only[keys,List.map_cons,List.mem_cons];exact .inr (.inr hc))
  refine Ow.permL (M:=(bk, .cells #[v1,v2, .slice none 0 0, .slice none 0 0] 117 (0,0)):: ((br,prO (vp bw 0) v1 v2):: (bw,wrO s a e)::D')) (by classical exact List.perm_iff_count.2 fun a=>by simp only[List.count_append,List.count_cons,List.count_nil]<;>omega) ?_
  refine Ow.permL (M:=(bk,pkO v1 v2 (.slice none 0 0) (.slice none 0 0)):: ((br,prO (vp bw 0) v1 v2):: (bw,wrO s a e)::D')) (List.Perm.refl _) ?_
  with_reducible refine Ow.nil ?_
  refine⟨(fun r hr=>by rw[List.mem_singleton] at hr;subst hr;simp(disch:=omega) only[zF_,zE_]), ?_⟩
  refine kq @qV_ ?_
  have hN2:New w.heap.size ((br,prO (vp bw 0) v1 v2):: (bw,wrO s a e)::D'):=⟨hwr,hww,hN⟩
  have hN3:New w.heap.size ((bk,pkO v1 v2 (.slice none 0 0) (.slice none 0 0)):: (br,prO (vp bw 0) v1 v2):: (bw,wrO s a e)::D'):=⟨hwk,hN2⟩
  obtain hok|hok:okh=false∨okh=true:=by cases okh<;>simp
  ·subst hok
   rw[if_neg (by simp)]
   first|with_reducible refine ks [] @qV_ ?_|refine kp @qV_ ?_
   refine⟨_,(ke @qV_), ?_⟩
   exact⟨Ext.of_new hN3,rfl⟩
  ·subst hok
   first|with_reducible refine ks [] @qV_ ?_|refine kp @qV_ ?_
   refine Ow.callFV rfl Tryz.call74 (fun w' hw'=>x4_ bw s a e w' (hw'.has _ _ (List.mem_cons_of_mem _ (List.mem_cons_of_mem _ List.mem_cons_self)))) ?_
   by_cases he:xY_ s a e=0
   ·have e1: (xY_ s a e !=0)=false:=by simp[he]
    rw[if_pos ⟨rfl,rfl,he⟩]
    refine ko (And.intro @qV_ @e1) ?_
    refine Ow.callX (Y:=(br,prO (vp bw 0) v1 v2):: (bw,wrO s a e)::D') (by simp) rfl rfl Tryz.call59 (fun w' hw' hX hn=>aam_ bk v1 v2 l w' ((hg1.mono (fun q hq=>by simp[hq])).slV hw' rfl rfl xu_) (hG.new hw' hN3) hrs.bnd (by omega) (hX _ List.mem_cons_self) (fun h=>by have:=hDk _ (amJ_ hg1 h);omega) (by omega)) (fun v50 D50 hC50 hS50=> ?_)
    have hN50:New w.heap.size D50:=qy_ hC50 ⟨hwk,trivial⟩
    unfold abZ_ at hS50
    cases hf:fillV l with
    |none=>
     rw[hf] at hS50
     have hS50':v50= .bool false:=hS50
     subst hS50'
     refine ko @qV_ ?_
     first|with_reducible refine ks [] @qV_ ?_|refine kp @qV_ ?_
     refine⟨_,(ke @qV_), ?_⟩
     exact⟨Ext.of_new (hN50.app hN2),rfl⟩
    |some q=>
     rw[hf] at hS50
     obtain⟨rfl,x2,x3,D'',rfl,hg3,hg4⟩:=hS50
     refine ko @qV_ ?_
     first|with_reducible refine ks [] @qV_ ?_|refine kp @qV_ ?_
     refine⟨_,(ke @qV_), ?_⟩
     refine⟨Ext.of_new (hN50.app hN2),bk,rfl,v1,v2,x2,x3, ?_, ?_, ?_, ?_, ?_⟩
     ·simp
     ·exact hg1.mono fun p hp=>by simp[hp]
     ·exact hg2.mono fun p hp=>by simp[hp]
     ·exact hg3.mono fun p hp=>by simp[hp]
     ·exact hg4.mono fun p hp=>by simp[hp]
   ·have e1: (xY_ s a e !=0)=true:=bne_iff_ne.2 he
    rw[if_neg (fun h=>he h.2.2)]
    refine ko (And.intro @qV_ @e1) ?_
    first|with_reducible refine ks [] @qV_ ?_|refine kp @qV_ ?_
    refine⟨_,(ke @qV_), ?_⟩
    exact⟨Ext.of_new hN3,rfl⟩
end Go.Proofs
end
section
open Go Go.Proofs Go.Sx Go.StP Go.Flo
namespace Go.Proofs
set_option maxRecDepth 10000
set_option maxHeartbeats 400000
set_option linter.unusedSimpArgs false
theorem aa5_ (r:RwL):qg_ (kt_ Tryz.prog 104) (zK_ Tryz.prog 104) [(0,Value.agg (a8 r.id.l))]=some (.agg (rwC ⟨r.id,0,0⟩).toArray):=by
 have hp:kt_ Tryz.prog 104=some [(0,32),(32,1),(33,1)]:=id (by kernel_rfl)
 rw[hp,Q9_]
 have e0: (rwC rw0).toArray=(([]:List Value)++ ((rw0.id.l.map v8)++ ([vi rw0.place]++ ([vi rw0.spot])))).toArray:=by congr 1<;>simp only[rwC,List.append_assoc,List.nil_append,List.append_nil]
 have q0:vH_ (([]:List Value)++ ((rw0.id.l.map v8)++ ([vi rw0.place]++ ([vi rw0.spot])))).toArray 0 (r.id.l.map v8)=(([]:List Value)++ ((r.id.l.map v8)++ ([vi rw0.place]++ ([vi rw0.spot])))).toArray:=w0_ _ _ _ _ (by simp) (by simp[rw0.id.h,r.id.h])
 have s0: (([]:List Value)++ ((rw0.id.l.map v8)++ ([vi rw0.place]++ ([vi rw0.spot])))).toArray.size=34:=by simp[r.id.h,rw0.id.h]
 have z0: (Value.cells (Value.agg (a8 r.id.l))).toList=r.id.l.map v8:=by rw[ze_];rfl
 have y0: (Value.cells (Value.agg (a8 r.id.l))).size=32:=by rw[←Array.length_toList,z0];simp[r.id.h]
 have eZ: (([]:List Value)++ ((r.id.l.map v8)++ ([vi rw0.place]++ ([vi rw0.spot])))).toArray=(rwC ⟨r.id,0,0⟩).toArray:=by congr 1
 simp only[qg_]
 rw[e0]
 unfold Sx.fillV
 simp only[List.getElem?_cons_zero,List.getElem?_cons_succ,z0,y0]
 rw[if_pos ⟨trivial,by rw[s0];decide⟩,q0]
 rw[eZ];rfl
def IxD (D:zd_) (bi:Nat) (s:List UInt8) (l:List RwL):Prop:= ∃x,(bi,ixO s x (x0_ l))∈D∧GrI D 104 34 x l.length (l.map rwC).flatten
def IxIn (w:World) (bi:Nat) (s:List UInt8) (l:List RwL):Prop:= ∃x,w.heap[bi]? =some (ixO s x (x0_ l))∧Xt_ w x l
theorem IxD.mono {D D':zd_} {bi:Nat} {s:List UInt8} {l:List RwL} (h:IxD D bi s l) (hD: ∀p,p∈D→p∈D'):IxD D' bi s l:=by
 obtain⟨x,h1,h2⟩:=h;exact⟨x,hD _ h1,h2.mono hD⟩
theorem IxD.inW {w0 w:World} {D:zd_} {bi:Nat} {s:List UInt8} {l:List RwL} (h:IxD D bi s l) (hw:Hp w0 D w):IxIn w bi s l:=by
 obtain⟨x,h1,h2⟩:=h;exact⟨x,hw.has _ _ h1,h2.slV hw rfl rfl zi_⟩
theorem IxIn.old {w w':World} {L:zd_} {bi:Nat} {s:List UInt8} {l:List RwL} (h:IxIn w bi s l) (hw:Hp w L w') (hn:New w.heap.size L):IxIn w' bi s l:=by
 obtain⟨x,h1,h2⟩:=h
 exact⟨x,by rw[hw.old bi (Array.getElem?_eq_some_iff.1 h1).1 (hn.not (Array.getElem?_eq_some_iff.1 h1).1)];exact h1,h2.oldN hw hn⟩
theorem adz_ (s:List UInt8) (v1:Value) (F:List Nat) (n:Nat):zr_ (some (false,n)) (some (ixO s v1 F)) 0=some (vs s):=by
 rfl
theorem alt_ (s:List UInt8) (v1:Value) (F:List Nat) (n:Nat):zr_ (some (false,n)) (some (ixO s v1 F)) 1=some v1:=by
 rfl
theorem aiT_ (b:Nat) (s:List UInt8) (a:Nat) (e:Int) (w:World) (ha:a≤s.length) (hs:s.length<9223372036854775808) (ho:w.heap[b]? =some (wrO s a e)):
  Rets Tryz.prog 97 #[vp b 0] w (fun v D=> ∃o,D= [(b,o)]∧v= .agg (a8 (idR s a e).1)∧o=wrO s (idR s a e).2.1 (idR s a e).2.2):=QZ_ b s a e w ha hs ho
def adQ_ (b:List UInt8) (v:Value) (D:zd_):Prop:=match QP_ b with
 |some q=> ∃bi,v= .tuple #[vp bi 0,vi 0]∧IxD D bi q.1 q.2
 |none=>v= .tuple #[.pointer none,vi 2]
theorem Xj_ (b:List UInt8): (zq_ b).1.length≤b.length:=by
 unfold zq_
 split
 ·simp
 ·split
  ·simp only[List.length_take];omega
  ·simp
theorem aix_ {s:List UInt8} {a:Nat} {e:Int} (ha:a≤s.length): (idR s a e).2.1≤s.length:=(ko_ ha).2
theorem ako_ {s:List UInt8} {l Z:List RwL} (h:qx_ s l=true) (hZ:rws_SortOf l Z):km_ s Z=(qP_ (vB_ s l),0):=by
 have e:Z=l:=hZ.eq (aaC_ (ke_ h).1)
 subst e
 unfold km_;rw[if_pos h]
theorem aly_ {b s:List UInt8} {l:List RwL} {a:Nat} {e:Int} (h:xU_ (zq_ b).1 id=(s,l,a,e)):QP_ b=if xY_ (zq_ b).1 a e=0∧qx_ s l=true∧qP_ (vB_ s l)=b then some (s,l) else none:=by
 unfold QP_;rw[h]
theorem aau_ {s:List UInt8} {m:Int}: ∀ (k:Nat) (q:Nat×Int),q.2≠0→vi_ s m k q=q
 |0,_,_=>rfl
 |k+1,q,h=>by
  unfold vi_
  rw[ZI_ h]
  exact aau_ k (q.1,q.2) h
theorem akW_ {s:List UInt8} {a:Nat} {e:Int} (h:e≠0): (wM_ s a e).2=(a,e):=by
 unfold wM_ numP
 simp only[anU_ h,ZI_ h]
structure OiG where
 k:Nat
 q:Nat×Int
structure OrG where
 l:List RwL
 q:Nat×Int
 v:Value
 D1:zd_
 DG:zd_
set_option linter.defProp false
def zW_:=And.intro (And.intro (And.intro (@zg_) (And.intro (@zf_) (@zI_))) (And.intro (@jZ_) (And.intro (@xm_) (@xM_)))) (And.intro (And.intro (@xT_) (And.intro (@qL_) (@WE_))) (And.intro (And.intro (@WB_) (@Sx.tup2_0)) (And.intro (@Sx.tup2_1) (@adz_))))
theorem Km_ (b:List UInt8) (w:World) (hC:GlobC w) (hb:b.length<1099511627776):
  Rets Tryz.prog 49 #[vs b] w (XS w [] (adQ_ b)):=by
 refine Rets.enterX Tryz.func49 rfl (rs:= [.tmp 2, .tmp 3]) Tryz.results49 Tryz.ntmps49 (fun p hp=>by cases hp) (by simp[keys]) ?_
 refine kf ?_
 first|with_reducible refine ks [1000021] @zW_ ?_|refine kp @zW_ ?_
 refine Ow.callFV rfl Tryz.call70 (fun w' hw'=>QD_ b w' (hC.newP hw' trivial) (by omega)) ?_
 have hun: (zq_ b).1.length≤b.length:=Xj_ b
 unfold adQ_
 obtain⟨r,hr⟩: ∃r,r=xU_ (zq_ b).1 id:=⟨_,rfl⟩
 obtain⟨rs,rl,ra,re⟩:=r
 rw[aly_ hr.symm]
 generalize zq_ b=u at*
 obtain⟨s,ok⟩:=u
 simp only at hun hr ⊢
 refine ko @zW_ ?_
 first|with_reducible refine ks [] @zW_ ?_|refine kp @zW_ ?_
 refine Ow.callF rfl rfl Tryz.call71 (S:=fun B v D=> ∃b',B≤b'∧v=vp b' 0∧D= [(b',wrO s 0 0)]) (fun w' hw'=>v3_ s w') ?_
 rintro B v D hab hB ⟨bw,hbw,rfl,rfl⟩
 have hww:w.heap.size≤bw:=by omega
 refine⟨_,Mrg.fresh (by intro q hq;simp only[keys,List.map_cons,List.map_nil,List.mem_singleton] at hq;omega), ?_⟩
 rw[List.nil_append]
 refine ko @zW_ ?_
 first|with_reducible refine ks [] @zW_ ?_|refine kp @zW_ ?_
 refine Ow.callM rfl rfl Tryz.call94 (by simp[keys]) (fun w' hw'=>Ki_ bw s 0 0 8 w' (Nat.zero_le _) (by omega) (hw'.has _ _ List.mem_cons_self)) ?_
 have r1:=ko_ (s:=s) (a:=0) (e:=0) (n:=8) (Nat.zero_le _)
 unfold xU_ at hr
 have hr8: (jc_ s 0 0 8).2.2=0→(jc_ s 0 0 8).1.length=8:=fun h=>(afw_ (Nat.zero_le _) h).2.1
 generalize jc_ s 0 0 8=p at*
 obtain⟨hd,a1,e1⟩:=p
 simp only at r1 hr hr8 ⊢
 refine kn ?_
 refine ko @zW_ ?_
 first|with_reducible refine ks [] @zW_ ?_|refine kp @zW_ ?_
 refine Ow.callM rfl rfl Tryz.call95 (by simp[keys]) (fun w' hw'=>jq_ bw s a1 e1 200 w' r1.2 (by omega) (hw'.has _ _ List.mem_cons_self)) ?_
 have r2:=z4_ (s:=s) (a:=a1) (e:=e1) (most:=200) r1.2
 have m2:=qW_ (s:=s) (a:=a1) (e:=e1) (most:=200) (by omega)
 have f2:e1≠0→(zu_ s a1 e1 200).2.2≠0:=fun h=>by rw[ZI_ h];exact h
 generalize zu_ s a1 e1 200=p at*
 obtain⟨n0,a2,e2⟩:=p
 simp only at r2 m2 hr f2 ⊢
 obtain⟨n,rfl⟩: ∃n:Nat,n0=(n:Int):=⟨n0.toNat,by omega⟩
 rw[Int.toNat_natCast] at hr
 refine kn ?_
 refine ko @zW_ ?_
 first|with_reducible refine ks [] @zW_ ?_|refine kp @zW_ ?_
 have hrq: (rs,rl,ra,re)=(hd.drop 4,xt_ s n (vi_ s (n:Int) 16 (a2,e2))):=hr
 clear hr
 refine Cw.loopG (G:=OiG) [27,28,29,30,31,26] (fun g=> [(26,vi g.k)]) (fun g=> [(bw,wrO s g.q.1 g.q.2)]) (fun g=>g.k≤16∧g.q.1≤s.length∧vi_ s (n:Int) 16 (a2,e2)=vi_ s (n:Int) (16 - g.k) g.q) (fun g=>16 - g.k) ⟨0,(a2,e2)⟩ rfl rfl ?_ ?_
 ·exact⟨Nat.zero_le _,r2.2,rfl⟩
 intro g j hg
 refine kv ?_
 obtain⟨k,q⟩:=g
 simp only at hg ⊢
 obtain⟨hk,hq,hf⟩:=hg
 by_cases hlt:k<16
 ·have d1:decide ((k:Int)<16)=true:=decide_eq_true (by omega)
  have hf2:vi_ s (n:Int) (16 - k) q=vi_ s (n:Int) (16 - (k+1)) (zu_ s q.1 q.2 n).2:=by
   rw[show 16 - k=(16 - (k+1))+1 by omega];rfl
  first|with_reducible refine ks [] (And.intro @zW_ @d1) ?_|refine kp (And.intro @zW_ @d1) ?_
  refine Ow.callM rfl rfl Tryz.call95 (by simp[keys]) (fun w' hw'=>jq_ bw s q.1 q.2 n w' hq (by omega) (hw'.has _ _ List.mem_cons_self)) ?_
  refine kn ?_
  refine ko @zW_ ?_
  first|with_reducible refine ks [] @zW_ ?_|refine kp @zW_ ?_
  exact Again.mk ⟨k+1,(zu_ s q.1 q.2 n).2⟩ (by show 16 - (k+1)<16 - k;omega) ⟨hlt,(z4_ hq).2,hf.trans hf2⟩ rfl rfl
 obtain rfl:k=16:=by omega
 have d1:decide (((16:Nat):Int)<16)=false:=rfl
 have hf3:vi_ s (n:Int) 16 (a2,e2)=q:=hf
 have g2:q.2=0→e1=0:=fun h=>Decidable.byContradiction fun hh=>by
  have:=aau_ (s:=s) (m:=n) 16 (a2,e2) (f2 hh)
  rw[hf3] at this
  rw[this] at h
  exact f2 hh h
 rw[hf3] at hrq
 clear hf hf3 r2 f2
 obtain⟨q0,hq0⟩: ∃q0,q0=q:=⟨q,rfl⟩
 rw[←hq0] at hrq
 first|with_reducible refine ks [] (And.intro @zW_ @d1) ?_|refine kp (And.intro @zW_ @d1) ?_
 refine Cw.permL (M:=(bw,wrO s q.1 q.2):: ([]++ [])) (List.Perm.refl _) ?_
 refine Cw.loopG (G:=OrG) [34,35,36,37,10,38,39,40,41,42,43,44,45,46,47,9,48,33] (fun g=> [(9,g.v),(33,vi g.l.length)]) (fun g=>(bw,wrO s g.q.1 g.q.2):: (g.D1++g.DG)) (fun g=>g.l.length≤n∧g.q.1≤s.length∧New w.heap.size g.D1∧New w.heap.size g.DG∧Gr g.D1 104 34 g.v g.l.length (g.l.map rwC).flatten∧(g.q.2=0→q.2=0)∧xt_ s n q0=(g.l++ (xt_ s (n - g.l.length) g.q).1,(xt_ s (n - g.l.length) g.q).2)) (fun g=>n - g.l.length) ⟨[],q, .slice none 0 0,[],[]⟩ rfl rfl ?_ ?_
 ·exact⟨Nat.zero_le _,hq,trivial,trivial,Gr.nl,id,by rw[hq0];rfl⟩
 intro g j hg
 refine kv ?_
 obtain⟨l,qq,v,D1,DG⟩:=g
 simp only at hg ⊢
 obtain⟨hln,hqq,hN1,hNG,hG1,hez,hrr⟩:=hg
 by_cases hlt:l.length<n
 ·have d1:decide ((l.length:Int)< (n:Int))=true:=decide_eq_true (by omega)
  obtain⟨a,e⟩:=qq
  have hpr:xt_ s n q0=(l++ [(wM_ s a e).1]++ (xt_ s (n - (l++ [(wM_ s a e).1]).length) (wM_ s a e).2).1,(xt_ s (n - (l++ [(wM_ s a e).1]).length) (wM_ s a e).2).2):=by
   rw[hrr,show n - l.length=(n - (l++ [(wM_ s a e).1]).length)+1 by simp;omega]
   generalize n - (l++ [(wM_ s a e).1]).length=m
   show(l++ ((wM_ s a e).1:: (xt_ s m (wM_ s a e).2).1),(xt_ s m (wM_ s a e).2).2)=_
   rw[List.append_assoc];rfl
  have herr: (wM_ s a e).2.2=0→e=0:=fun h=>Decidable.byContradiction fun hh=>by
   rw[akW_ hh] at h;exact hh h
  have hrow:wM_ s a e=(⟨vV_ (idR s a e).1,(zu_ s (idR s a e).2.1 (idR s a e).2.2 1099511627775).1,(numP s (zu_ s (idR s a e).2.1 (idR s a e).2.2 1099511627775).2).1⟩,(numP s (zu_ s (idR s a e).2.1 (idR s a e).2.2 1099511627775).2).2):=rfl
  have hNr:New w.heap.size ((bw,wrO s a e):: (D1++DG)):=⟨hww,hN1.app hNG⟩
  first|with_reducible refine ks [] (And.intro @zW_ @d1) ?_|refine kp (And.intro @zW_ @d1) ?_
  refine Ow.callM rfl rfl Tryz.call97 (by simp[keys]) (fun w' hw'=>aiT_ bw s a e w' hqq (by omega) (hw'.has _ _ List.mem_cons_self)) ?_
  obtain⟨i,hi⟩: ∃i,i=vV_ (idR s a e).1:=⟨_,rfl⟩
  have hil: (idR s a e).1=i.l:=by rw[hi];exact(ZS_ (J8_ s a e)).symm
  have hle1:=aix_ (e:=e) hqq
  rw[←hi] at hrow
  generalize idR s a e=p at*
  obtain⟨p1,a3,e3⟩:=p
  simp only at hil hrow hle1 ⊢
  subst hil
  clear hi
  refine kn ?_
  refine ko @zW_ ?_
  refine Ow.build (.agg (rwC ⟨i,0,0⟩).toArray) rfl (aa5_ ⟨i,0,0⟩) ?_
  refine ko @zW_ ?_
  refine Ow.alloc rfl rfl Q9_ fun b10 hb10 hw10=> ?_
  simp only[ze_,List.nil_append,List.cons_append]
  have h10:bw<b10:=zk_ hb10 (by simp[keys])
  refine Ow.permL (M:=(b10, .cells (rwC rw0).toArray 104 (0,0)):: (bw,wrO s a3 e3):: (D1++DG)) (by classical exact List.perm_iff_count.2 fun a=>by simp only[List.count_append,List.count_cons,List.count_nil]<;>omega) ?_
  refine ko @zW_ ?_
  first|with_reducible refine ks [] @zW_ ?_|refine kp @zW_ ?_
  refine Ow.callM rfl rfl Tryz.call95 (by simp[keys]) (fun w' hw'=>jq_ bw s a3 e3 1099511627775 w' hle1 (by omega) (hw'.has _ _ (List.mem_cons_of_mem _ List.mem_cons_self))) ?_
  have hle2:=(z4_ (e:=e3) (most:=1099511627775) hle1).2
  generalize zu_ s a3 e3 1099511627775=p at*
  obtain⟨x1,a4,e4⟩:=p
  simp only at hrow hle2 ⊢
  refine kn ?_
  refine ko @zW_ ?_
  refine Ow.callM rfl rfl Tryz.call95 (by simp[keys]) (fun w' hw'=>jq_ bw s a4 e4 1099511627775 w' hle2 (by omega) (hw'.has _ _ (List.mem_cons_of_mem _ List.mem_cons_self))) ?_
  have hle3:=(z4_ (e:=e4) (most:=1099511627775) hle2).2
  have hrow2:wM_ s a e=(⟨i,x1,(zu_ s a4 e4 1099511627775).1⟩,(zu_ s a4 e4 1099511627775).2):=hrow
  clear hrow
  generalize zu_ s a4 e4 1099511627775=p at*
  obtain⟨x2,a5,e5⟩:=p
  simp only at hrow2 hle3 ⊢
  rw[hrow2] at hpr herr
  simp only at hpr herr
  refine kn ?_
  refine ko @zW_ ?_
  first|with_reducible refine ks [] @zW_ ?_|refine kp @zW_ ?_
  generalize (RwL.mk i x1 x2)=r at*
  refine Ow.buildSlice (e:=104) (rwC r).toArray rfl rfl (zX_ Tryz.underlying81 aai_ Q9_ (by decide) (zi_ _)) fun ba hba hwa=> ?_
  refine ko @zW_ ?_
  refine Ow.permL (M:=D1++ ((b10, .cells (rwC r).toArray 104 (0,0)):: (bw,wrO s a5 e5):: (DG++ [(ba, .cells (rwC r).toArray 104 (0,0))]))) (by classical exact List.perm_iff_count.2 fun a=>by simp only[List.count_append,List.count_cons,List.count_nil]<;>omega) ?_
  refine Ow.appendXG (e:=104) (k:=1) (new:=rwC r) (X:=D1) v rfl rfl rfl rfl Tryz.underlying81 aai_ (by kernel_rfl) Q9_ (by rw[zI_,List.size_toArray,zi_]) Tryz.underlying81 (by intro k h;cases h) hG1 (fun w' hw'=>AppX.one1 (hw'.has ba (.cells (rwC r).toArray 104 (0,0)) (by simp)) (zi_ _) (jU_ _)) (by omega) (fun B4 v4 D4 hA4 hB4 hG4 hk41 hk42 hlk4=> ?_)
  have hN4:New w.heap.size D4:=New.of_le fun q hq=>by
   rcases hk42 q hq with h|h
   ·exact hN1.le q h
   ·omega
  refine Ow.permL (M:=(bw,wrO s a5 e5):: (D4++ ((b10, .cells (rwC r).toArray 104 (0,0)):: (DG++ [(ba, .cells (rwC r).toArray 104 (0,0))])))) (by classical exact List.perm_iff_count.2 fun a=>by simp only[List.count_append,List.count_cons,List.count_nil]<;>omega) ?_
  refine ko @zW_ ?_
  first|with_reducible refine ks [] @zW_ ?_|refine kp @zW_ ?_
  have hl1: (l++ [r]).length=l.length+1:=by simp
  refine Again.mk ⟨l++ [r],(a5,e5),v4,D4,(b10, .cells (rwC r).toArray 104 (0,0)):: (DG++ [(ba, .cells (rwC r).toArray 104 (0,0))])⟩ (by show n - (l++ [r]).length<n - l.length;omega) ⟨by show(l++ [r]).length≤n;omega,hle3,hN4,⟨hw10,hNG.app ⟨hwa,trivial⟩⟩,by simpa using hG4,fun h=>hez (herr h),hpr⟩ rfl (by simp only[hl1];rfl)
 ·obtain rfl:n=l.length:=by omega
  have d1:decide ((l.length:Int)< (l.length:Int))=false:=decide_eq_false (by omega)
  rw[Nat.sub_self] at hrr
  rw[hrr] at hrq
  simp only[xt_,List.append_nil,Prod.mk.injEq] at hrq
  obtain⟨hrs,hrl,hq5⟩:=hrq
  have hqa:ra=qq.1:=congrArg Prod.fst hq5
  have hqe:re=qq.2:=congrArg Prod.snd hq5
  rw[hrs,hrl,hqa,hqe]
  clear hrs hrl hqa hqe hq5 hrr
  have hNr:New w.heap.size ((bw,wrO s qq.1 qq.2):: (D1++DG)):=⟨hww,hN1.app hNG⟩
  first|with_reducible refine ks [] (And.intro @zW_ @d1) ?_|refine kp (And.intro @zW_ @d1) ?_
  refine Ow.callFV rfl Tryz.call74 (fun w' hw'=>x4_ bw s qq.1 qq.2 w' (hw'.has _ _ List.mem_cons_self)) ?_
  by_cases he:xY_ s qq.1 qq.2=0
  ·have e1': (xY_ s qq.1 qq.2 !=0)=false:=by rw[he];rfl
   have h8:hd.length=8:=hr8 (g2 (hez (afz_ he).1))
   have h8':decide ((0:Int)≤4∧(4:Int)≤ (hd.length:Int))=true:=decide_eq_true (by omega)
   refine ko (And.intro @zW_ @e1') ?_
   first|with_reducible refine ks [] @zW_ ?_|refine kp @zW_ ?_
   refine Ow.callC rfl rfl Tryz.call110 (fun w' hw'=>ad8_ (hd.drop 4) v l w' ((Gr.i hG1 (fun c hc=>by simp[hc])).slV hw' rfl rfl zi_) (by omega)) (fun B1 v18 D18 hA18 hB18 hN18 hS18=> ?_)
   have hN:New w.heap.size ((bw,wrO s qq.1 qq.2):: (D1++DG)++D18):=New.app (L:=(bw,wrO s qq.1 qq.2):: (D1++DG)) hNr (hN18.mono hB18)
   unfold OfIS at hS18
   by_cases hok:wJ_ l l.length=true
   ·rw[if_pos hok] at hS18
    obtain⟨bi,rfl,hbi⟩:=hS18
    have hri: (decide ((hd.drop 4).length=4)&&decide (l.length≤200))=qx_ (hd.drop 4) l:=by unfold qx_;rw[hok,Bool.true_and]
    rw[hri]
    cases hr:qx_ (hd.drop 4) l with
    |false=>
     rw[if_neg (by simp)]
     refine ko @zW_ ?_
     first|with_reducible refine ks [] @zW_ ?_|refine kp @zW_ ?_
     refine⟨_,(ke @zW_), ?_⟩
     exact⟨Ext.of_new hN,rfl⟩
    |true=>
     refine ko @zW_ ?_
     refine Cw.rebaseX (S1:=fun v D=>v=if qP_ (vB_ (hd.drop 4) l)=b then .tuple #[vp bi 0,vi 0] else .tuple #[.pointer none,vi 2]) (by rfl) (fun w1 hw1=> ?_) (fun v' D' hD' hv'=> ?_)
     ·have hC1:=hC.newP hw1 hN
      have hb1:w1.heap[bi]? =some (ixO (hd.drop 4) v (x0_ l)):=hw1.has _ _ (by simp[hbi])
      have hv1:Xt_ w1 v l:=(Gr.i hG1 (fun c hc=>by simp[hc])).slV hw1 rfl rfl zi_
      obtain⟨-,h4,-⟩:=ke_ hr
      clear hw1
      first|with_reducible refine ks [] (And.intro @zW_ @hb1) ?_|refine kp (And.intro @zW_ @hb1) ?_
      refine Ow.callC rfl rfl Tryz.call42 (fun w' hw'=>Rets.toX (w7_ (hd.drop 4) v l w' (hC1.newP hw' trivial) (hv1.oldN hw' trivial) (by omega) (by omega))) (fun B2 v2 D2 hA2 hB2 hN2 hS2=> ?_)
      obtain⟨rfl,Z,hZ,rfl⟩:=hS2
      rw[ako_ hr hZ,List.append_nil]
      refine ko @zW_ ?_
      by_cases hbb:qP_ (vB_ (hd.drop 4) l)=b
      ·have d5: (qP_ (vB_ (hd.drop 4) l) !=b)=false:=bne_eq_false_iff_eq.2 hbb
       rw[if_pos hbb]
       first|with_reducible refine ks [] (And.intro @zW_ @d5) ?_|refine kp (And.intro @zW_ @d5) ?_
       refine⟨_,(ke @zW_), ?_⟩
       exact⟨Ext.refl w1 [],rfl⟩
      ·have d5: (qP_ (vB_ (hd.drop 4) l) !=b)=true:=bne_iff_ne.2 hbb
       rw[if_neg hbb]
       first|with_reducible refine ks [] (And.intro @zW_ @d5) ?_|refine kp (And.intro @zW_ @d5) ?_
       refine⟨_,(ke @zW_), ?_⟩
       exact⟨Ext.refl w1 [],rfl⟩
     ·refine⟨Ext.of_new (hN.app hD'), ?_⟩
      by_cases hbb:qP_ (vB_ (hd.drop 4) l)=b
      ·rw[if_pos hbb] at hv'
       rw[if_pos ⟨he,rfl,hbb⟩]
       exact⟨bi,hv',v,(by simp[hbi]),Gr.i hG1 (fun c hc=>by simp[hc])⟩
      ·rw[if_neg hbb] at hv'
       rw[if_neg (fun h=>hbb h.2.2)]
       exact hv'
   ·rw[if_neg hok] at hS18
    subst hS18
    rw[if_neg (fun h=>hok (ke_ h.2.1).1)]
    refine ko @zW_ ?_
    first|with_reducible refine ks [] @zW_ ?_|refine kp @zW_ ?_
    refine⟨_,(ke @zW_), ?_⟩
    exact⟨Ext.of_new hN,rfl⟩
  ·have e1': (xY_ s qq.1 qq.2 !=0)=true:=bne_iff_ne.2 he
   rw[if_neg (fun h=>he h.1)]
   refine ko (And.intro @zW_ @e1') ?_
   first|with_reducible refine ks [] @zW_ ?_|refine kp @zW_ ?_
   refine⟨_,(ke @zW_), ?_⟩
   exact⟨Ext.of_new hNr,rfl⟩
end Go.Proofs
end
section
open Go Go.Proofs Go.Sx Go.Dig
namespace Go.Proofs
set_option maxRecDepth 10000
set_option maxHeartbeats 1000000
set_option linter.unusedSimpArgs false
set_option linter.defProp false
def qQ_:=And.intro (@zg_) (@zf_)
theorem akl_ (id:List UInt8) (hid:id.length=32) (w:World):Rets Tryz.prog 114 #[.agg (a8 id)] w (fun v D=>v=vs (JD_ id)∧D= []):=by
 refine Rets.enterV Tryz.func114 rfl (rs:= [.tmp 2]) Tryz.results114 Tryz.ntmps114 ?_
 refine kf ?_
 first|with_reducible refine ks [] @qQ_ ?_|refine kp @qQ_ ?_
 refine Ow.box rfl rfl fun b1 hb1 hw1=> ?_
 refine ko @qQ_ ?_
 first|with_reducible refine ks [] @qQ_ ?_|refine kp @qQ_ ?_
 refine Ow.alloc rfl rfl Tryz.zr223 fun b2 hb2 hw2=> ?_
 refine ko @qQ_ ?_
 first|with_reducible refine ks [] @qQ_ ?_|refine kp @qQ_ ?_
 obtain⟨h12,-⟩:=hb2
 refine Cw.loopG (G:=Nat) [8,9,10,4,5,11,12,13,14,15,16,17,18,19,20,21,22,23,24,7] (fun g=> [(7,vi g)]) (fun g=> [(b1, .cells (a8 id) 37),(b2, .cells (a8 (Qy_ id g)) 223)]) (fun g=>g≤32) (fun g=>32 - g) 0 rfl rfl ?_ ?_
 ·omega
 intro g j hg
 refine kv ?_
 by_cases hlt:g<32
 ·have hl:=Zw_ id g hid hg
  first|with_reducible refine ks [] @qQ_ ?_|refine kp @qQ_ ?_
  have h4:=amr_ (id.getD g 0)
  have h15:=akY_ (id.getD g 0)
  refine Cw.regionO [0,1,2,3,4,5,6,7,8,9,10,11,12,13,14] [12,14] rfl (by kernel_rfl) (by kernel_rfl) ?_
  simp only[zh_, ↓zc_, ↓zb_, ↓zn_, ↓zo_,za_]
  refine kq @qQ_ ?_
  refine Ow.store rfl rfl rfl (ke @qQ_) ?_
  refine ko @qQ_ ?_
  first|with_reducible refine ks [] @qQ_ ?_|refine kp @qQ_ ?_
  refine Again.mk (g+1) (by omega) (by omega) ?_ rfl
  exact congrArg (fun l=> [(b1,Obj.cells (a8 id) 37),(b2,Obj.cells (a8 l) 223)]) (acz_ id g hid hlt _ _ (ami_ _) (akB_ _))
 ·have hg32:g=32:=by omega
  subst hg32
  have hl:=Zw_ id 32 hid (by omega)
  first|with_reducible refine ks [] @qQ_ ?_|refine kp @qQ_ ?_
  exact⟨_,rfl,⟨hw1,hw2,trivial⟩,by show vs _=_;rw[List.drop_zero,List.take_of_length_le (by omega),aeP_ id hid]⟩
theorem acg_ (id:List UInt8) (hid:id.length=32) (w:World):Rets Tryz.prog 116 #[.agg (a8 id)] w (fun v D=>v=vs (JD_ id)∧D= []):=by
 refine Rets.enterV Tryz.func116 rfl (rs:= [.tmp 2]) Tryz.results116 Tryz.ntmps116 ?_
 refine kf ?_
 first|with_reducible refine ks [] @qQ_ ?_|refine kp @qQ_ ?_
 refine Ow.box rfl rfl fun b1 _ hw1=> ?_
 refine ko @qQ_ ?_
 first|with_reducible refine ks [] @qQ_ ?_|refine kp @qQ_ ?_
 refine Cw.loopG (G:=Nat) [7,8,11,12,13,14,15,16,17,18,19,20,5,6,21,22,23,24,25,26,27,28,29,30,31,3,9,10,4] (fun g=> [(4,vi g),(3,vs (JD_ (id.take g)))]) (fun g=> [(b1, .cells (a8 id) 37)]) (fun g=>g≤32) (fun g=>32 - g) 0 rfl rfl ?_ ?_
 ·omega
 intro g j hg
 refine kv ?_
 by_cases hlt:g<32
 ·have hl: (JD_ (id.take g)).length≤64:=by rw[x8_,List.length_take];omega
  have hx:=(id.getD g 0).toNat_lt
  have e1: ((hexL.take ((id.getD g 0).toNat / 16+1)).drop ((id.getD g 0).toNat / 16))=_:=ah8_ _ (by omega)
  have e2: ((hexL.take ((id.getD g 0).toNat%16+1)).drop ((id.getD g 0).toNat%16))=_:=ah8_ _ (by omega)
  simp only[hexL] at e1 e2
  first|with_reducible refine ks [] @qQ_ ?_|refine kp @qQ_ ?_
  refine Cw.regionO [0,1,5,6,2,3,4,10,7,8,9,11] [] rfl (by kernel_rfl) (by kernel_rfl) ?_
  simp only[zh_, ↓zc_, ↓zb_, ↓zn_, ↓zo_,za_]
  refine kq @qQ_ ?_
  first|with_reducible refine ks [] @qQ_ ?_|refine kp @qQ_ ?_
  refine Cw.regionO [0,1,2,3,4,5,6,7,8,9,10,11] [] rfl (by kernel_rfl) (by kernel_rfl) ?_
  simp only[zh_, ↓zc_, ↓zb_, ↓zn_, ↓zo_,za_]
  refine kq (And.intro @qQ_ (And.intro @e1 (@e2))) ?_
  first|with_reducible refine ks [] @qQ_ ?_|refine kp @qQ_ ?_
  refine Again.mk (g+1) (by omega) (by omega) rfl ?_
  rw[ahK_ id g hid hlt]
  rfl
 ·have hg32:g=32:=by omega
  subst hg32
  first|with_reducible refine ks [] @qQ_ ?_|refine kp @qQ_ ?_
  exact⟨_,rfl,⟨hw1,trivial⟩,by show vs _=_;rw[List.take_of_length_le (by omega)]⟩
theorem Vt_ (s p:List UInt8) (w:World) (hs:s.length<1099511627776):Rets Tryz.prog 151 #[vs s,vs p] w (fun v D=>v= .bool (decide (p.length≤s.length)&& (s.take p.length==p))∧D= []):=by
 refine Rets.enterV Tryz.func151 rfl (rs:= [.tmp 4]) Tryz.results151 Tryz.ntmps151 ?_
 refine kf ?_
 by_cases h:p.length≤s.length
 ·have e1:decide ((p.length:Int)≤ (s.length:Int))=true:=decide_eq_true (by omega)
  first|with_reducible refine ks [] (And.intro @qQ_ @e1) ?_|refine kp (And.intro @qQ_ @e1) ?_
  refine⟨_,(ke @qQ_),trivial, ?_⟩
  simp[vE_,h]
 ·have e1:decide ((p.length:Int)≤ (s.length:Int))=false:=decide_eq_false (by omega)
  first|with_reducible refine ks [] (And.intro @qQ_ @e1) ?_|refine kp (And.intro @qQ_ @e1) ?_
  refine⟨_,(ke @qQ_),trivial, ?_⟩
  simp[vE_,h]
theorem Wp_ (s p:List UInt8) (w:World) (hs:s.length<1099511627776):Rets Tryz.prog 113 #[vs s,vs p] w (fun v D=>v= .bool (decide (p.length≤s.length)&& (s.take p.length==p))∧D= []):=by
 refine Rets.enterV Tryz.func113 rfl (rs:= [.tmp 4]) Tryz.results113 Tryz.ntmps113 ?_
 refine kf ?_
 first|with_reducible refine ks [] @qQ_ ?_|refine kp @qQ_ ?_
 refine Ow.callFV rfl Tryz.call151 (fun w' hw'=>Vt_ s p w' hs) ?_
 refine ko @qQ_ ?_
 refine⟨_,(ke @qQ_),trivial, ?_⟩
 rfl
end Go.Proofs
end
