/-
  Part 4 of the walk: contracts of the functions that the law reaches, and the calculus they stand on.
  No conditions.
-/
import Derived.Test.YtdhmidpgfohkeaaGreatDoorJ3
import Derived.Lib.Small
import Derived.Lib.Walk
import Derived.Lib.Bytealg
import Derived.Sort.Grow
import Derived.Deep.Draws
import Derived.Deep.QuietTactic
import Derived.Shelf.SlLaysF0
import Derived.Ground.SlsfProg
import Derived.ProofKit
import Derived.OpenShut
import Derived.WideKeyArgs
import Derived.ChangeSame
import Derived.ChangeMaps5
import Derived.Lib.LaidTab
import Derived.SliceStrings
import Derived.DataReads
set_option linter.unusedVariables false
section
open Go Go.Proofs Go.Sx Go.StP Go.Flo
namespace Go.Proofs
set_option maxRecDepth 10000
set_option maxHeartbeats 400000
set_option linter.unusedSimpArgs false
def Ja_ (l:List PartL) (a:Int):Int×Int:=match jZ_ l a with
 | .ok p=>((p.length:Int) - 1,0)
 | .error e=>(0,e)
set_option linter.defProp false
theorem afG_ (v0:Value) (l:List PartL) (a:Int) (w:World) (hv:v8_ w v0 l) (hl:l.length<1000000):
  Rets Tryz.prog 101 #[v0,vi a] w (fun v D=>v= .tuple #[vi (Ja_ l a).1,vi (Ja_ l a).2]∧D= []):=by
 refine Rets.enterV Tryz.func101 rfl (rs:= [.tmp 4, .tmp 5]) Tryz.results101 Tryz.ntmps101 ?_
 refine kf ?_
 first|with_reducible refine ks [] @zc_ ?_|refine kp @zc_ ?_
 refine Ow.callC rfl rfl Tryz.call90 (fun w' hw'=>WM_ v0 l a w' (hv.oldN hw' trivial) hl) (fun B1 v1 D1 hA1 hB1 hN1 hS1=> ?_)
 have hN1':=hN1.mono hB1
 unfold aiC_ at hS1
 unfold Ja_
 cases hp:jZ_ l a with
 |ok p=>
  rw[hp] at hS1
  obtain⟨x,rfl,hx5,hG⟩:=hS1
  have lnx:=wp_ hG
  have e0: ((0:Int) !=0)=false:=rfl
  refine ko @zc_ ?_
  first|with_reducible refine ks [] (And.intro @zc_ (And.intro @e0 (@lnx))) ?_|refine kp (And.intro @zc_ (And.intro @e0 (@lnx))) ?_
  refine⟨_,(ke @zc_),hN1', ?_⟩
  rfl
 |error e=>
  rw[hp] at hS1
  have hS1':v1= .tuple #[.slice none 0 0,vi e]:=hS1
  subst hS1'
  have e0: (e !=0)=true:=by simpa using QA_ hp
  refine ko @zc_ ?_
  first|with_reducible refine ks [] (And.intro @zc_ @e0) ?_|refine kp (And.intro @zc_ @e0) ?_
  refine⟨_,(ke @zc_),hN1', ?_⟩
  rfl
def dpB (T:List CD) (ts:List (List UInt8)) (at_:Nat) (b:Int):List UInt8×Int:=dwr (ts.getD b.toNat []).length (Zy_ T (ts.getD b.toNat []) (ts.getD at_ []))
def chPt (T:List CD) (l:List PartL) (ts:List (List UInt8)) (at_:Nat) (b:Int):PartL:=
 if b<0∨(at_:Int)≤b then⟨false,0,ts.getD at_ []⟩
 else if 4≤ (Ja_ l b).1∨(dpB T ts at_ b).2≠0∨(ts.getD at_ []).length≤ (dpB T ts at_ b).1.length then⟨false,0,ts.getD at_ []⟩
 else⟨true,b,(dpB T ts at_ b).1⟩
theorem VY_ {w:World} {v:Value} {l:List (List UInt8)} {b off:Nat} {arr:Array Value} {E:TypeId} {fz:Nat×Nat} (h:RowS 1 V0_ [] w v l b off arr E fz) {k:Nat} (hk:k<l.length) (n:Nat):
  zl_ (some (false,n)) (some (.cells arr E fz)) (off+k)=some (vs (l.getD k [])):=by
 have:=h.cell (j:=0) (n:=n) hk (by omega)
 rwa [Nat.add_zero,Nat.mul_one] at this
theorem agC_ (p:PartL) (E:TypeId):zl_ (some (true,3)) (some (.cells (zq_ p).toArray E (0,0))) 0=some (.agg (zq_ p).toArray):=xn_ _ E (0,0) 3 rfl
theorem ajE_ (s:List UInt8):qR_ (x7_ Tryz.prog 93) (zI_ Tryz.prog 93) [(2,vs s)]=some (.agg (zq_ ⟨false,0,s⟩).toArray):=by
 rw[show x7_ Tryz.prog 93=some [(0,1),(1,1),(2,1)] from id (by kernel_rfl),xE_];rfl
theorem ajy_ (b:Int) (s:List UInt8):qR_ (x7_ Tryz.prog 93) (zI_ Tryz.prog 93) [(0, .bool true),(1,vi b),(2,vs s)]=some (.agg (zq_ ⟨true,b,s⟩).toArray):=by
 rw[show x7_ Tryz.prog 93=some [(0,1),(1,1),(2,1)] from id (by kernel_rfl),xE_];rfl
theorem ahK_ {T:List CD} {base s:List UInt8} (hb:base.length≤4099) (hs:s.length≤4099):BndP (Zy_ T base s)∧(Zy_ T base s).length≤4099:=by
 have h2:=(aio_ T hb hs).2
 obtain⟨-,-,hz,hs4,-,hl4⟩:=Zq_ h2
 refine⟨fun g hg=> ?_,hl4⟩
 have hne:jv_ ((Zy_ T base s).getD g pc0) base.length≠0:=fun h=>by rw[Z8_ hg h] at hz;cases hz
 generalize (Zy_ T base s).getD g pc0=p at*
 unfold jv_ at hne
 split at hne
 ·rename_i h
  exact⟨⟨by omega,by omega⟩,by omega⟩
 ·unfold cpV at hne
  split at hne
  ·rename_i h q hq
   split at hq
   ·rename_i h2
    refine⟨⟨by omega,by omega⟩, ?_⟩
    rw[h2.2.2.1];simp
   ·cases hq
  ·exact absurd rfl hne
set_option linter.defProp false
def qf_:=And.intro (And.intro (@zA_) (And.intro (@zz_) (@jG_))) (And.intro (And.intro (@agC_) (@xu_)) (And.intro (@Sx.tup2_0) (@Sx.tup2_1)))
theorem ai1_ (T:List CD) (v0 vt:Value) (l:List PartL) (ts:List (List UInt8)) (at_:Nat) (b:Int) (w:World) (hG:GlobT T w) (hv:SlV 1 V0_ [] w vt ts) (hp:v8_ w v0 l) (hl:l.length<1000000) (hat:at_<ts.length) (htn:ts.length<1000000)
  (ht: ∀k,k<ts.length→(ts.getD k []).length≤4099):
  Rets Tryz.prog 68 #[v0,vt,vi at_,vi b] w (fun r D=>r= .agg (zq_ (chPt T l ts at_ b)).toArray∧D= []):=by
 obtain⟨rb,off,arr,E,fz,hr⟩:=hv.row
 have ix:=hr.idx false at_ hat
 have ld:=VY_ hr hat
 rw[Nat.mul_one] at ix
 have hrl:=hr.lt (by omega)
 unfold chPt dpB
 generalize hs:ts.getD at_ []=s at*
 have hsl:s.length≤4099:=by rw[←hs];exact ht _ hat
 refine Rets.enterV Tryz.func68 rfl (rs:= [.cell 8 93]) Tryz.results68 Tryz.ntmps68 ?_
 refine kf ?_
 first|with_reducible refine ks [2] @qf_ ?_|refine kp @qf_ ?_
 refine Ow.alloc rfl rfl xE_ fun b8 hb8 hw8=> ?_
 simp only[za_,List.nil_append,List.cons_append]
 have rd:zk_ w [(b8,Obj.cells (zq_ z6_).toArray 93 (0,0))] rb=some (.cells arr E fz):=by
  rw[zm_ _ _ _ _ _ (by omega),zY_];exact hr.has (by omega)
 refine ko @qf_ ?_
 first|with_reducible refine ks [2] (And.intro @qf_ (And.intro @ix (And.intro @ld (@rd)))) ?_|refine kp (And.intro @qf_ (And.intro @ix (And.intro @ld (@rd)))) ?_
 refine Ow.build (.agg (zq_ ⟨false,0,s⟩).toArray) rfl (ajE_ s) ?_
 refine ko @qf_ ?_
 refine Ow.alloc rfl rfl xE_ fun b9 hb9 hw9=> ?_
 simp only[za_,List.nil_append,List.cons_append]
 have h89:b8<b9:=zh_ hb9 (by simp[keys])
 refine Ow.permL (M:= [(b9, .cells (zq_ z6_).toArray 93 (0,0)),(b8, .cells (zq_ z6_).toArray 93 (0,0))]) (by classical exact List.perm_iff_count.2 fun a=>by simp only[List.count_append,List.count_cons,List.count_nil]<;>omega) ?_
 refine ko @qf_ ?_
 refine Cw.permL (M:= [(b8, .cells (zq_ z6_).toArray 93 (0,0)),(b9, .cells (zq_ ⟨false,0,s⟩).toArray 93 (0,0))]) (by classical exact List.perm_iff_count.2 fun a=>by simp only[List.count_append,List.count_cons,List.count_nil]<;>omega) ?_
 have r9:zk_ w [(b8,Obj.cells (zq_ z6_).toArray 93 (0,0)),(b9, .cells (zq_ ⟨false,0,s⟩).toArray 93 (0,0))] b9=some (.cells (zq_ ⟨false,0,s⟩).toArray 93 (0,0)):=by rw[zm_ _ _ _ _ _ (by omega)];exact zr_ _ _ _ _
 by_cases h0:b<0
 ·have dm:decide (b<0)=true:=decide_eq_true h0
  first|with_reducible refine ks [] (And.intro @qf_ (And.intro @dm (@r9))) ?_|refine kp (And.intro @qf_ (And.intro @dm (@r9))) ?_
  refine⟨_,(ke @qf_),⟨hw8,hw9,trivial⟩, ?_⟩
  rw[if_pos (.inl h0)];rfl
 have dm:decide (b<0)=false:=decide_eq_false h0
 by_cases h1: (at_:Int)≤b
 ·have dn:decide ((at_:Int)≤b)=true:=decide_eq_true h1
  first|with_reducible refine ks [] (And.intro @qf_ (And.intro @dm (And.intro @dn (@r9)))) ?_|refine kp (And.intro @qf_ (And.intro @dm (And.intro @dn (@r9)))) ?_
  refine⟨_,(ke @qf_),⟨hw8,hw9,trivial⟩, ?_⟩
  rw[if_pos (.inr h1)];rfl
 have dn:decide ((at_:Int)≤b)=false:=decide_eq_false h1
 rw[if_neg (by omega)]
 obtain⟨c,rfl⟩: ∃c:Nat,b=c:=⟨b.toNat,by omega⟩
 have hct:c<ts.length:=by omega
 have ixb:=hr.idx false c hct
 have ldb:=VY_ hr hct
 rw[Nat.mul_one] at ixb
 rw[Int.toNat_natCast]
 have hbl:=ht c hct
 generalize hbb:ts.getD c []=base at*
 have rd2:zk_ w [(b8,Obj.cells (zq_ z6_).toArray 93 (0,0)),(b9, .cells (zq_ ⟨false,0,s⟩).toArray 93 (0,0))] rb=some (.cells arr E fz):=by
  rw[zm_ _ _ _ _ _ (by omega),zm_ _ _ _ _ _ (by omega),zY_];exact hr.has (by omega)
 have hN2:New w.heap.size [(b8,Obj.cells (zq_ z6_).toArray 93 (0,0)),(b9, .cells (zq_ ⟨false,0,s⟩).toArray 93 (0,0))]:=⟨hw8,hw9,trivial⟩
 obtain⟨hmb,hml⟩:=ahK_ (T:=T) hbl hsl
 first|with_reducible refine ks [5] (And.intro @qf_ (And.intro @dm (@dn))) ?_|refine kp (And.intro @qf_ (And.intro @dm (@dn))) ?_
 refine Ow.callFV rfl Tryz.call101 (fun w' hw'=>afG_ v0 l (c:Int) w' (hp.oldN hw' hN2) hl) ?_
 refine ko @qf_ ?_
 first|with_reducible refine ks [5] @qf_ ?_|refine kp @qf_ ?_
 refine Cw.regionG [rb] [] 20 (by kernel_rfl) rfl ?_
 refine kyc ?_
 refine OwG.run [0,1,2,3,4,5,6,7,8,9,10,11,12] [true,true,true,true,true,true,true,true,true,true,true,true,true,false,false,false,false,false,false,false] 7 rfl (by kernel_rfl) (by kernel_rfl) fun k hk=> ?_
 refine kya ?_
 refine kp (And.intro @qf_ (And.intro @Md.next_sofnil (And.intro @rd2 (And.intro @ix (And.intro @ld (And.intro @ixb (@ldb))))))) ?_
 (with_reducible refine hk _ _ _ ?_);clear hk k
 refine OwG.one 13 _ (by kernel_rfl) rfl ?_
 refine Ow.callC rfl rfl Tryz.call103 (fun w' hw'=>ajs_ T base s w' (hG.new hw' hN2) hbl hsl) (fun B4 v4 DM hA4 hB4 hN4 hS4=> ?_)
 have hN4':=hN4.mono hB4
 have hNM:=hN2.app hN4'
 with_reducible refine Ow.nil ?_
 refine⟨(fun r hr2=>by rw[List.mem_singleton.1 hr2,rd2,zX_ (hNM.not hrl)];exact hr.has (by omega)), ?_⟩
 refine kyb ?_
 refine OwG.one 14 _ (by kernel_rfl) rfl ?_
 refine Ow.callC rfl rfl Tryz.call102 (fun w' hw'=>Rets.toX (ab4_ base.length v4 (Zy_ T base s) w' (hS4.slM (fun b o hm=>hw'.has b o (by simp[hm])) rfl rfl qV_) hmb (by omega))) (fun B5 v5 D5 hA5 hB5 hN5 hS5=> ?_)
 obtain⟨rfl,rfl⟩:=hS5
 rw[List.append_nil]
 with_reducible refine Ow.nil ?_
 refine⟨(fun r hr2=>rfl), ?_⟩
 refine kyb ?_
 refine OwG.rest [15,16,17,18,19] rfl (by kernel_rfl) (by kernel_rfl) ?_
 refine kya ?_
 refine kq @qf_ ?_
 generalize hdw:dwr base.length (Zy_ T base s)=dw at*
 obtain⟨d,e⟩:=dw
 simp only
 have rd3:zk_ w DM rb=some (.cells arr E fz):=by
  rw[zX_ (hN4'.not hrl)];exact hr.has (by omega)
 have r93:zk_ w ((b8,Obj.cells (zq_ z6_).toArray 93 (0,0)):: (b9, .cells (zq_ ⟨false,0,s⟩).toArray 93 (0,0))::DM) b9=some (.cells (zq_ ⟨false,0,s⟩).toArray 93 (0,0)):=by rw[zm_ _ _ _ _ _ (by omega)];exact zr_ _ _ _ _
 by_cases h4:4≤ (Ja_ l c).1
 ·have q1:decide ((4:Int)≤ (Ja_ l c).1)=true:=decide_eq_true h4
  first|with_reducible refine ks [] (And.intro @qf_ (And.intro @q1 (@r93))) ?_|refine kp (And.intro @qf_ (And.intro @q1 (@r93))) ?_
  refine⟨_,(ke @qf_),hNM, ?_⟩
  rw[if_pos (.inl h4)];rfl
 have q1:decide ((4:Int)≤ (Ja_ l c).1)=false:=decide_eq_false h4
 by_cases he:e=0
 ·have q2: (e !=0)=false:=by simpa using he
  by_cases hd:s.length≤d.length
  ·have q3:decide ((s.length:Int)≤ (d.length:Int))=true:=decide_eq_true (by omega)
   first|with_reducible refine ks [] (And.intro @qf_ (And.intro @q1 (And.intro @q2 (And.intro @q3 (And.intro @ix (And.intro @ld (And.intro @rd3 (@r93)))))))) ?_|refine kp (And.intro @qf_ (And.intro @q1 (And.intro @q2 (And.intro @q3 (And.intro @ix (And.intro @ld (And.intro @rd3 (@r93)))))))) ?_
   refine⟨_,(ke @qf_),hNM, ?_⟩
   rw[if_pos (.inr (.inr hd))];rfl
  ·have q3:decide ((s.length:Int)≤ (d.length:Int))=false:=decide_eq_false (by omega)
   first|with_reducible refine ks [] (And.intro @qf_ (And.intro @q1 (And.intro @q2 (And.intro @q3 (And.intro @ix (And.intro @ld (And.intro @rd3 (@r93)))))))) ?_|refine kp (And.intro @qf_ (And.intro @q1 (And.intro @q2 (And.intro @q3 (And.intro @ix (And.intro @ld (And.intro @rd3 (@r93)))))))) ?_
   refine Ow.build (.agg (zq_ ⟨true,(c:Int),d⟩).toArray) rfl (ajy_ (c:Int) d) ?_
   refine ko @qf_ ?_
   first|with_reducible refine ks [] @qf_ ?_|refine kp @qf_ ?_
   refine⟨_,(ke @qf_),hNM, ?_⟩
   rw[if_neg (by rintro(h|h|h)<;>first|exact h4 h|exact h he|exact hd h)];rfl
 ·have q2: (e !=0)=true:=by simpa using he
  first|with_reducible refine ks [] (And.intro @qf_ (And.intro @q1 (And.intro @q2 (@r93)))) ?_|refine kp (And.intro @qf_ (And.intro @q1 (And.intro @q2 (@r93)))) ?_
  refine⟨_,(ke @qf_),hNM, ?_⟩
  rw[if_pos (.inr (.inl he))];rfl
end Go.Proofs
end
section
open Go Go.Proofs Go.Sx Go.StP Go.Flo
namespace Go.Proofs
set_option maxRecDepth 10000
set_option maxHeartbeats 400000
set_option linter.unusedSimpArgs false
def intC (n:Int):List Value:= [vi n]
def ku_ (T:List CD) (ts:List (List UInt8)) (bs:List Int):Nat→List PartL
 |0=> []
 |i+1=>ku_ T ts bs i++ [chPt T (ku_ T ts bs i) ts i (bs.getD i 0)]
theorem kW_ (T:List CD) (ts:List (List UInt8)) (bs:List Int): ∀i,(ku_ T ts bs i).length=i
 |0=>rfl
 |i+1=>by rw[ku_,List.length_append,kW_ T ts bs i];rfl
theorem all_ (p:PartL):xh_ Tryz.prog 43 1 [(0, .agg (zq_ p).toArray)]=some (93,(zq_ p).toArray):=qn_ Tryz.underlying43 Tryz.ag93 xE_ (by decide) rfl
def BigT (ts:List (List UInt8)):Prop:= ∃k,k<ts.length∧4099< (ts.getD k []).length
structure PtG where
 i:Nat
 v:Value
 X:zb_
 Y:zb_
structure PkG where
 i:Nat
set_option linter.defProp false
def jY_:=And.intro (@zA_) (@zz_)
theorem ac1_ (T:List CD) (vt vb:Value) (ts:List (List UInt8)) (bs:List Int) (w:World) (hG:GlobT T w) (hv:SlV 1 V0_ [] w vt ts) (hb:SlV 1 intC 0 w vb bs) (hbl:bs.length=ts.length) (hl:ts.length≤200):
  Rets Tryz.prog 35 #[vt,vb] w (XS w [] (fun r D=>(BigT ts∧r= .tuple #[.slice none 0 0,vi 19])∨(¬BigT ts∧ ∃v,r= .tuple #[v,vi 0]∧GrI D 93 3 v ts.length ((ku_ T ts bs ts.length).map zq_).flatten))):=by
 obtain⟨rb,off,arr,E,fz,hr⟩:=hv.row
 obtain⟨rb2,off2,arr2,E2,fz2,hr2⟩:=hb.row
 have ln1:=fun x=>hr.len x
 have ln2:=fun x=>hr2.len x
 rw[hbl] at ln2
 have d1:decide ((200:Int)< (ts.length:Int))=false:=decide_eq_false (by omega)
 have e1: ((ts.length:Int) !=(ts.length:Int))=false:=by simp
 refine Rets.enterX Tryz.func35 rfl (rs:= [.tmp 4, .tmp 5]) Tryz.results35 Tryz.ntmps35 (fun p hp=>by cases hp) (by simp[keys]) ?_
 refine kf ?_
 first|with_reducible refine ks [] (And.intro @jY_ (And.intro @ln1 (And.intro @ln2 (And.intro @d1 (@e1))))) ?_|refine kp (And.intro @jY_ (And.intro @ln1 (And.intro @ln2 (And.intro @d1 (@e1))))) ?_
 refine Cw.loopG (G:=PkG) [24,25,26,7,27,28,29,4,5,30,23] (fun g=> [(23,vi g.i)]) (fun g=> []) (fun g=>g.i≤ts.length∧ ∀k,k<g.i→(ts.getD k []).length≤4099) (fun g=>ts.length - g.i) ⟨0⟩ rfl rfl ?_ ?_
 ·exact⟨Nat.zero_le _,fun k hk=>absurd hk (Nat.not_lt_zero _)⟩
 intro g j hg
 refine kv ?_
 obtain⟨i⟩:=g
 simp only at hg ⊢
 obtain⟨hi,hsm⟩:=hg
 by_cases hlt:i<ts.length
 ·have d2:decide ((i:Int)< (ts.length:Int))=true:=decide_eq_true (by omega)
  have ix:=hr.idx false i hlt
  have ld:=VY_ hr hlt
  rw[Nat.mul_one] at ix
  have r1:zk_ w [] rb=some (.cells arr E fz):=by rw[zY_];exact hr.has (by omega)
  by_cases h4:4099< (ts.getD i []).length
  ·have d3:decide ((4099:Int)< ((ts.getD i []).length:Int))=true:=decide_eq_true (by omega)
   first|with_reducible refine ks [] (And.intro @jY_ (And.intro @d2 (And.intro @ix (And.intro @ld (And.intro @r1 (@d3)))))) ?_|refine kp (And.intro @jY_ (And.intro @d2 (And.intro @ix (And.intro @ld (And.intro @r1 (@d3)))))) ?_
   refine⟨_,(ke @jY_), ?_⟩
   exact⟨Ext.refl _ _, .inl ⟨⟨i,hlt,h4⟩,rfl⟩⟩
  ·have d3:decide ((4099:Int)< ((ts.getD i []).length:Int))=false:=decide_eq_false (by omega)
   first|with_reducible refine ks [] (And.intro @jY_ (And.intro @d2 (And.intro @ix (And.intro @ld (And.intro @r1 (@d3)))))) ?_|refine kp (And.intro @jY_ (And.intro @d2 (And.intro @ix (And.intro @ld (And.intro @r1 (@d3)))))) ?_
   refine Again.mk ⟨i+1⟩ (by show ts.length - (i+1)<ts.length - i;omega) ⟨hlt,fun k (hk:k<i+1)=> ?_⟩ rfl rfl
   by_cases hki:k=i
   ·rw[hki];omega
   ·exact hsm k (by omega)
 obtain rfl:i=ts.length:=by omega
 have d2:decide ((ts.length:Int)< (ts.length:Int))=false:=by simp
 have hnb: ¬BigT ts:=by
  rintro⟨k,h1,h2⟩
  have:=hsm k h1
  omega
 generalize hN:ts.length=N at*
 first|with_reducible refine ks [] (And.intro @jY_ (And.intro @d2 (@ln2))) ?_|refine kp (And.intro @jY_ (And.intro @d2 (@ln2))) ?_
 refine Cw.loopG (G:=PtG) [34,35,36,37,9,10,38,39,40,41,42,43,44,45,8,46,33] (fun g=> [(33,vi g.i),(8,g.v)]) (fun g=>g.X++g.Y) (fun g=>g.i≤N∧New w.heap.size g.X∧New w.heap.size g.Y∧Gr g.X 93 3 g.v g.i ((ku_ T ts bs g.i).map zq_).flatten) (fun g=>N - g.i) ⟨0, .slice none 0 0,[],[]⟩ rfl rfl ?_ ?_
 ·exact⟨Nat.zero_le _,trivial,trivial,Gr.nl⟩
 intro g j hg
 refine kv ?_
 obtain⟨i,vp0,X,Y⟩:=g
 simp only at hg ⊢
 obtain⟨hi,hNX,hNY,hGr⟩:=hg
 have hNN:=hNX.app hNY
 by_cases hlt:i<N
 ·have d3:decide ((i:Int)< (N:Int))=true:=decide_eq_true (by omega)
  have ix2:=hr2.idx false i (by omega)
  have ld2: ∀q,zl_ (some (false,q)) (some (.cells arr2 E2 fz2)) (off2+i)=some (vi (bs.getD i 0)):=fun q=>by
   have:=hr2.cell (k:=i) (j:=0) (n:=q) (by omega) (by decide)
   rw[Nat.mul_one,Nat.add_zero] at this
   exact this
  rw[Nat.mul_one] at ix2
  have hrl2:=hr2.lt (by omega)
  have rd2:zk_ w (X++Y) rb2=some (.cells arr2 E2 fz2):=by rw[zX_ (hNN.not hrl2)];exact hr2.has (by omega)
  have hpl:=kW_ T ts bs i
  first|with_reducible refine ks [] (And.intro @jY_ (And.intro @d3 (And.intro @ix2 (And.intro @ld2 (@rd2))))) ?_|refine kp (And.intro @jY_ (And.intro @d3 (And.intro @ix2 (And.intro @ld2 (@rd2))))) ?_
  refine Ow.callFV rfl Tryz.call68 (fun w' hw'=>ai1_ T vp0 vt (ku_ T ts bs i) ts i (bs.getD i 0) w' (hG.new hw' hNN) (hv.oldN hw' hNN) (hGr.slM (fun b o hm=>hw'.has b o (by simp[hm])) (by rw[hpl]) rfl jx_) (by omega) (by omega) (by omega) (fun k hk=>hsm k (by omega))) ?_
  have hp1:ku_ T ts bs (i+1)=ku_ T ts bs i++ [chPt T (ku_ T ts bs i) ts i (bs.getD i 0)]:=rfl
  generalize chPt T (ku_ T ts bs i) ts i (bs.getD i 0)=p at*
  refine ko @jY_ ?_
  refine Ow.buildSlice (e:=93) (zq_ p).toArray rfl rfl (all_ _) fun b9 hb9 hw9=> ?_
  refine ko @jY_ ?_
  refine Ow.appendXG (e:=93) (k:=1) (new:=zq_ p) (X:=X) vp0 (List.append_assoc _ _ _) rfl rfl rfl Tryz.underlying43 Tryz.ag93 (by kernel_rfl) xE_ rfl Tryz.underlying43 (by intro k h;cases h) hGr (fun w' hw'=>AppX.one1 (hw'.has b9 (.cells (zq_ p).toArray 93 (0,0)) (by simp)) rfl (k6_ _)) (by omega) (fun B3 v3 D3 hA3 hB3 hG3 hk13 hk23 hlk3=> ?_)
  have hN3:New w.heap.size D3:=New.of_le fun c hc=>by
   rcases hk23 c hc with h|h
   ·exact hNX.le c h
   ·omega
  refine ko @jY_ ?_
  first|with_reducible refine ks [] @jY_ ?_|refine kp @jY_ ?_
  refine Again.mk ⟨i+1,v3,D3,Y++ [(b9, .cells (zq_ p).toArray 93 (0,0))]⟩ (by show N - (i+1)<N - i;omega) ⟨hlt,hN3,hNY.app ⟨hw9,trivial⟩, ?_⟩ rfl rfl
  show Gr D3 93 3 v3 (i+1) ((ku_ T ts bs (i+1)).map zq_).flatten
  rw[hp1]
  simpa using hG3
 ·obtain rfl:i=N:=by omega
  have d3:decide ((i:Int)< (i:Int))=false:=by simp
  first|with_reducible refine ks [] (And.intro @jY_ @d3) ?_|refine kp (And.intro @jY_ @d3) ?_
  refine⟨_,(ke @jY_), ?_⟩
  exact⟨Ext.of_new (hNX.app hNY), .inr ⟨hnb,vp0,rfl,hGr.i fun p hp=>by simp[hp]⟩⟩
end Go.Proofs
end
namespace Go.Flo
open Go Ieee
theorem logQ {a:Nat} (h:a<1125899906842624):a.log2<50∨a=0:=by
 by_cases h0:a=0
 ·exact .inr h0
 ·exact .inl ((Nat.log2_lt h0).2 h)
def aig_ (a:Nat):Nat:=(a.log2+1022)*2^52+a*2^ (52 - a.log2)
theorem aqi_ {n:Int} (h0:n≠0) (h:n.natAbs<1125899906842624):F n=Ieee.double.word (decide (n<0)) (aig_ n.natAbs):=by
 have hn0:=h0
 unfold aig_
 have ha:n.natAbs≠0:=by omega
 generalize hm:n.natAbs=a at*
 have hl:a.log2<50:=(Nat.log2_lt ha).2 h
 have hlo:2^a.log2≤a:=Nat.log2_self_le ha
 have hhi:a<2^ (a.log2+1):=Nat.lt_log2_self
 generalize hk:a.log2=k at*
 have hp:2^ (52 - k)*2^k=2^52:=by rw[←Nat.pow_add];congr 1;omega
 have hp1:2^ (k+1)=2*2^k:=by rw[Nat.pow_succ];omega
 have e1:2^52≤a*2^ (52 - k):=by
  rw[←hp,Nat.mul_comm];exact Nat.mul_le_mul_right _ hlo
 have e2:a*2^ (52 - k)<2*2^52:=by
  have h1:=Nat.mul_lt_mul_of_pos_right hhi (show 0<2^ (52 - k) from Nat.pow_pos (by omega))
  rw[hp1,Nat.mul_assoc,Nat.mul_comm (2^k),hp] at h1
  exact h1
 show Ieee.double.nearest (decide (n<0)) n.natAbs 0=_
 rw[hm]
 unfold Format.nearest
 rw[if_neg ha,hk]
 have hlast:max ((0:Int)+ (k:Int) - (Ieee.double.fractionBits:Int)) Ieee.double.leastPlace=(k:Int) - 52:=by
  have e3:Ieee.double.leastPlace= -1074:=by decide
  have e4: (Ieee.double.fractionBits:Int)=52:=rfl
  rw[e3,e4];omega
 rw[hlast]
 have e5: ((k:Int) - 52 - 0).toNat=0:=by omega
 have e6: ((0:Int) - ((k:Int) - 52)).toNat=52 - k:=by omega
 simp only[e5,e6,wP_,Nat.shiftLeft_eq]
 have e7: ((k:Int) - 52 - Ieee.double.leastPlace).toNat=k+1022:=by
  have e3:Ieee.double.leastPlace= -1074:=by decide
  rw[e3];omega
 have e8:Ieee.double.binade=2^52:=rfl
 have e9:Ieee.double.infRung=2047*2^52:=rfl
 rw[e7,e8,e9,Nat.min_eq_left (by omega)]
theorem amB_ {a:Nat} (h0:a≠0) (h:a<1125899906842624):aig_ a<2^63:=by
 have hl:a.log2<50:=(Nat.log2_lt h0).2 h
 have hhi:a<2^ (a.log2+1):=Nat.lt_log2_self
 unfold aig_
 generalize a.log2=k at*
 have hp:2^ (52 - k)*2^k=2^52:=by rw[←Nat.pow_add];congr 1;omega
 have hp1:2^ (k+1)=2*2^k:=by rw[Nat.pow_succ];omega
 have e2:a*2^ (52 - k)<2*2^52:=by
  have h1:=Nat.mul_lt_mul_of_pos_right hhi (show 0<2^ (52 - k) from Nat.pow_pos (by omega))
  rw[hp1,Nat.mul_assoc,Nat.mul_comm (2^k),hp] at h1
  exact h1
 have: (k+1022)*2^52≤1072*2^52:=Nat.mul_le_mul_right _ (by omega)
 omega
theorem decQ {n:Int} (h0:n≠0) (h:n.natAbs<1125899906842624):FloatKind.f64.decode (F n)=dat n:=by
 have ha:n.natAbs≠0:=by omega
 generalize hm:n.natAbs=a at*
 have hl:a.log2<50:=(Nat.log2_lt ha).2 h
 have hlo:2^a.log2≤a:=Nat.log2_self_le ha
 have hhi:a<2^ (a.log2+1):=Nat.lt_log2_self
 generalize hk:a.log2=k at*
 have hp:2^ (52 - k)*2^k=2^52:=by rw[←Nat.pow_add];congr 1;omega
 have hp1:2^ (k+1)=2*2^k:=by rw[Nat.pow_succ];omega
 have e1:2^52≤a*2^ (52 - k):=by
  rw[←hp,Nat.mul_comm];exact Nat.mul_le_mul_right _ hlo
 have e2:a*2^ (52 - k)<2*2^52:=by
  have h1:=Nat.mul_lt_mul_of_pos_right hhi (show 0<2^ (52 - k) from Nat.pow_pos (by omega))
  rw[hp1,Nat.mul_assoc,Nat.mul_comm (2^k),hp] at h1
  exact h1
 have hw:F n=Ieee.double.word (decide (n<0)) ((k+1022)*2^52+a*2^ (52 - k)):=by
  show Ieee.double.nearest (decide (n<0)) n.natAbs 0=_
  rw[hm]
  unfold Format.nearest
  rw[if_neg ha,hk]
  have hlast:max ((0:Int)+ (k:Int) - (Ieee.double.fractionBits:Int)) Ieee.double.leastPlace=(k:Int) - 52:=by
   have e3:Ieee.double.leastPlace= -1074:=by decide
   have e4: (Ieee.double.fractionBits:Int)=52:=rfl
   rw[e3,e4];omega
  rw[hlast]
  have e5: ((k:Int) - 52 - 0).toNat=0:=by omega
  have e6: ((0:Int) - ((k:Int) - 52)).toNat=52 - k:=by omega
  simp only[e5,e6,wP_,Nat.shiftLeft_eq]
  have e7: ((k:Int) - 52 - Ieee.double.leastPlace).toNat=k+1022:=by
   have e3:Ieee.double.leastPlace= -1074:=by decide
   rw[e3];omega
  have e8:Ieee.double.binade=2^52:=rfl
  have e9:Ieee.double.infRung=2047*2^52:=rfl
  rw[e7,e8,e9,Nat.min_eq_left (by omega)]
 show Ieee.double.read (F n)=_
 rw[hw]
 generalize hX:a*2^ (52 - k)=X at*
 have e8:Ieee.double.binade=2^52:=rfl
 have e9:Ieee.double.infRung=2047*2^52:=rfl
 have e10:Ieee.double.signWeight=2^63:=rfl
 have e3:Ieee.double.leastPlace= -1074:=by decide
 have hneg: (Ieee.double.word (decide (n<0)) ((k+1022)*2^52+X) / 2^63%2==1)=decide (n<0)∧Ieee.double.word (decide (n<0)) ((k+1022)*2^52+X)%2^63=(k+1022)*2^52+X:=by
  unfold Format.word
  rw[e10]
  by_cases hn:n<0
  ·rw[decide_eq_true hn,if_pos rfl]
   refine⟨?_,by omega⟩
   rw[beq_iff_eq];omega
  ·rw[decide_eq_false hn,if_neg (by simp)]
   refine⟨?_,by omega⟩
   rw[beq_eq_false_iff_ne];omega
 unfold Format.read
 simp only[e10,hneg.1,hneg.2,e8,e9,e3]
 rw[if_neg (by omega),if_pos (by omega)]
 unfold dat
 rw[hm,hk,hX]
 congr 1
 ·omega
 ·omega
theorem decB {n:Int} (h:n.natAbs<1125899906842624):FloatKind.f64.decode (F n)= .number (decide (n<0)) (mag n) (plc n):=by
 by_cases h0:n=0
 ·subst h0;rw[dec0];rfl
 ·rw[decQ h0 h];unfold dat mag plc;rw[if_neg h0,if_neg h0]
theorem ajC_ {n:Int} (h:n.natAbs<1125899906842624):plc n≤ -2:=by
 unfold plc
 split
 ·omega
 ·rcases logQ h with h1|h1
  ·omega
  ·omega
theorem sgnB {n base:Int} (h:n.natAbs<1125899906842624) (hb:base≤plc n):signed (decide (n<0)) (mag n) (plc n - base).toNat=n*2^ (-base).toNat:=by
 by_cases h0:n=0
 ·subst h0;simp[signed,mag]
 ·have hl:n.natAbs.log2<50:=by rcases logQ h with h1|h1;exact h1;omega
  have hu:52 - n.natAbs.log2+ (plc n - base).toNat=(-base).toNat:=by
   unfold plc at hb ⊢
   rw[if_neg h0] at hb ⊢
   omega
  have e:signed (decide (n<0)) (mag n) (plc n - base).toNat=signed (decide (n<0)) (n.natAbs*2^ (-base).toNat) 0:=by
   unfold signed mag
   rw[if_neg h0,←hu,Nat.pow_add]
   simp only[Nat.shiftLeft_eq,Nat.pow_zero,Nat.mul_one,Nat.mul_assoc]
  rw[e,sgn]
theorem ordB {a b:Int} (ha:a.natAbs<1125899906842624) (hb:b.natAbs<1125899906842624):FloatKind.f64.format.order (F a) (F b)=some (compare a b):=by
 have h1:FloatKind.f64.format.read (F a)=_:=decB ha
 have h2:FloatKind.f64.format.read (F b)=_:=decB hb
 unfold Format.order
 rw[h1,h2]
 unfold Datum.order
 simp only
 have p1:min (plc a) (plc b)≤plc a:=Int.min_le_left ..
 have p2:min (plc a) (plc b)≤plc b:=Int.min_le_right ..
 rw[sgnB ha p1,sgnB hb p2,agX_]
 exact Int.pow_pos (by omega)
theorem intB {a:Int} (h:a.natAbs<1125899906842624): (FloatKind.f64.decode (F a)).toInt .zero=some a:=by
 rw[decB h]
 by_cases h0:a=0
 ·subst h0;rfl
 ·have hl:a.natAbs.log2<50:=by rcases logQ h with h1|h1;exact h1;omega
  unfold Datum.toInt Datum.integral
  simp only
  have hp:plc a=(a.natAbs.log2:Int) - 52:=by unfold plc;rw[if_neg h0]
  have hm:mag a=a.natAbs*2^ (52 - a.natAbs.log2):=by unfold mag;rw[if_neg h0]
  rw[hp,hm]
  have e1: ((a.natAbs.log2:Int) - 52).toNat=0:=by omega
  have e2: (-((a.natAbs.log2:Int) - 52)).toNat=52 - a.natAbs.log2:=by omega
  rw[e1,e2,Nat.shiftLeft_zero]
  have hlog: (a.natAbs*2^ (52 - a.natAbs.log2)).log2+2≥52 - a.natAbs.log2:=by
   have:2^ (52 - a.natAbs.log2)≤a.natAbs*2^ (52 - a.natAbs.log2):=Nat.le_mul_of_pos_left _ (by omega)
   have h3:=(Nat.le_log2 (n:=a.natAbs*2^ (52 - a.natAbs.log2)) (k:=52 - a.natAbs.log2) (by have:=Nat.pow_pos (a:=2) (n:=52 - a.natAbs.log2) (by omega);omega)).2 this
   omega
  unfold Toward.cut
  simp only
  rw[Nat.min_eq_left hlog,Nat.shiftLeft_eq,Nat.one_mul,Nat.mul_div_cancel _ (Nat.pow_pos (by omega))]
  have:=sgn a 0
  rw[Nat.pow_zero,Nat.mul_one] at this
  simp only[Bool.toNat_false,Nat.add_zero]
  rw[this];simp
theorem apm_ {n:Int} (h:n.natAbs<1125899906842624) (k:Nat) (neg:Bool) (hn:n≠0→neg=decide (n<0)) (hz:n=0→neg=false):Ieee.double.nearest neg (n*2^k).natAbs (-(k:Int))=F n:=by
 by_cases h0:n=0
 ·subst h0
  rw[hz rfl]
  have e: ((0:Int)*2^k).natAbs=0:=by rw[Int.zero_mul];rfl
  rw[e]
  show _=Ieee.double.nearest (decide ((0:Int)<0)) (0:Int).natAbs 0
  unfold Format.nearest
  rw[if_pos rfl,if_pos (show(0:Int).natAbs=0 from rfl)];rfl
 rw[hn h0]
 have ha:n.natAbs≠0:=by omega
 have e0: (n*2^k).natAbs=n.natAbs*2^k:=by
  rw[Int.natAbs_mul,Int.natAbs_pow];rfl
 rw[e0]
 show _=Ieee.double.nearest (decide (n<0)) n.natAbs 0
 generalize n.natAbs=a at*
 have hp:0<2^k:=Nat.pow_pos (by omega)
 have hak:a*2^k≠0:=Nat.mul_ne_zero ha (by omega)
 have hlog: (a*2^k).log2=a.log2+k:=by
  rw[Nat.log2_eq_iff hak]
  have h1:2^a.log2≤a:=Nat.log2_self_le ha
  have h2:a<2^ (a.log2+1):=Nat.lt_log2_self
  refine⟨?_, ?_⟩
  ·rw[Nat.pow_add];exact Nat.mul_le_mul_right _ h1
  ·rw[show a.log2+k+1=(a.log2+1)+k by omega,Nat.pow_add];exact Nat.mul_lt_mul_of_pos_right h2 hp
 unfold Format.nearest
 rw[if_neg ha,if_neg hak,hlog]
 have e3:Ieee.double.leastPlace= -1074:=by decide
 have e4: (Ieee.double.fractionBits:Int)=52:=rfl
 have hl:a.log2<50:=(Nat.log2_lt ha).2 h
 have hl1:max (-(k:Int)+ ((a.log2+k:Nat):Int) - (Ieee.double.fractionBits:Int)) Ieee.double.leastPlace=(a.log2:Int) - 52:=by
  rw[e3,e4];omega
 have hl2:max ((0:Int)+ (a.log2:Int) - (Ieee.double.fractionBits:Int)) Ieee.double.leastPlace=(a.log2:Int) - 52:=by
  rw[e3,e4];omega
 rw[hl1,hl2]
 simp only
 have e5: ((a.log2:Int) - 52 - 0).toNat=0:=by omega
 have e6: ((0:Int) - ((a.log2:Int) - 52)).toNat=52 - a.log2:=by omega
 rw[e5,e6]
 congr 3
 simp only[wP_,Nat.shiftLeft_eq]
 by_cases hk:k≤52 - a.log2
 ·have e7: (-(k:Int) - ((a.log2:Int) - 52)).toNat=52 - a.log2 - k:=by omega
  have e8: ((a.log2:Int) - 52 - -(k:Int)).toNat=0:=by omega
  rw[e7,e8,wP_,Nat.mul_assoc,←Nat.pow_add]
  congr 2;omega
 ·have e7: (-(k:Int) - ((a.log2:Int) - 52)).toNat=0:=by omega
  have e8: ((a.log2:Int) - 52 - -(k:Int)).toNat=k - (52 - a.log2):=by omega
  rw[e7,e8,Nat.pow_zero,Nat.mul_one]
  have e9:a*2^k=a*2^ (52 - a.log2)*2^ (k - (52 - a.log2)):=by
   rw[Nat.mul_assoc,←Nat.pow_add];congr 2;omega
  have hmin:min (k - (52 - a.log2)) ((a*2^k).log2+2)=k - (52 - a.log2):=Nat.min_eq_left (by rw[hlog];omega)
  unfold Toward.cut
  simp only
  rw[hmin,Nat.shiftLeft_eq,Nat.one_mul,e9,Nat.mul_div_cancel _ (Nat.pow_pos (by omega)),Nat.mul_mod_left]
  simp
theorem aiI_ {x p:Int} (hp:0<p):x*p<0↔x<0:=by
 have h1:x*p<0*p↔x<0:=Int.mul_lt_mul_right hp
 rwa [Int.zero_mul] at h1
theorem afp_ (s:Bool) (m u:Nat):signed (!s) m u= - signed s m u:=by
 unfold signed;cases s<;>simp
theorem addB {a b:Int} (ha:a.natAbs<562949953421312) (hb:b.natAbs<562949953421312):FloatKind.f64.format.add (F a) (F b)=some (F (a+b)):=by
 have h1:FloatKind.f64.format.read (F a)=_:=decB (show a.natAbs<1125899906842624 by omega)
 have h2:FloatKind.f64.format.read (F b)=_:=decB (show b.natAbs<1125899906842624 by omega)
 unfold Format.add
 rw[h1,h2]
 unfold Datum.sum
 simp only
 have p1:min (plc a) (plc b)≤plc a:=Int.min_le_left ..
 have p2:min (plc a) (plc b)≤plc b:=Int.min_le_right ..
 have p3:min (plc a) (plc b)≤0:=Int.le_trans p1 (Int.le_trans (ajC_ (show a.natAbs<1125899906842624 by omega)) (by omega))
 rw[sgnB (by omega) p1,sgnB (by omega) p2,←Int.add_mul]
 obtain⟨k,hk⟩: ∃k:Nat,min (plc a) (plc b)= -(k:Int):=⟨(-(min (plc a) (plc b))).toNat,by omega⟩
 rw[hk,Int.neg_neg,Int.toNat_natCast]
 show some (Ieee.double.nearest _ _ _)=_
 congr 1
 have hp: (0:Int)<2^k:=Int.pow_pos (by omega)
 refine apm_ (by omega) k _ (fun h0=> ?_) (fun h0=> ?_)
 ·have hne: (a+b)*2^k≠0:=Int.mul_ne_zero h0 (by omega)
  rw[if_neg hne]
  exact decide_eq_decide.2 (aiI_ hp)
 ·have hz: (0:Int)*2^k=0:=Int.zero_mul _
  rw[h0,if_pos hz]
  by_cases ha0:a<0
  ·rw[decide_eq_false (show¬b<0 by omega),Bool.and_false]
  ·rw[decide_eq_false ha0,Bool.false_and]
theorem subB {a b:Int} (ha:a.natAbs<562949953421312) (hb:b.natAbs<562949953421312):FloatKind.f64.format.sub (F a) (F b)=some (F (a - b)):=by
 have h1:FloatKind.f64.format.read (F a)=_:=decB (show a.natAbs<1125899906842624 by omega)
 have h2:FloatKind.f64.format.read (F b)=_:=decB (show b.natAbs<1125899906842624 by omega)
 unfold Format.sub
 rw[h1,h2]
 unfold Datum.opposite Datum.sum
 simp only
 have p1:min (plc a) (plc b)≤plc a:=Int.min_le_left ..
 have p2:min (plc a) (plc b)≤plc b:=Int.min_le_right ..
 have p3:min (plc a) (plc b)≤0:=Int.le_trans p1 (Int.le_trans (ajC_ (show a.natAbs<1125899906842624 by omega)) (by omega))
 rw[afp_,sgnB (by omega) p1,sgnB (by omega) p2,←Int.neg_mul,←Int.add_mul,←Int.sub_eq_add_neg]
 obtain⟨k,hk⟩: ∃k:Nat,min (plc a) (plc b)= -(k:Int):=⟨(-(min (plc a) (plc b))).toNat,by omega⟩
 rw[hk,Int.neg_neg,Int.toNat_natCast]
 show some (Ieee.double.nearest _ _ _)=_
 congr 1
 have hp: (0:Int)<2^k:=Int.pow_pos (by omega)
 refine apm_ (by omega) k _ (fun h0=> ?_) (fun h0=> ?_)
 ·have hne: (a - b)*2^k≠0:=Int.mul_ne_zero h0 (by omega)
  rw[if_neg hne]
  exact decide_eq_decide.2 (aiI_ hp)
 ·have hz: (0:Int)*2^k=0:=Int.zero_mul _
  rw[h0,if_pos hz]
  by_cases ha0:a<0
  ·rw[decide_eq_true ha0,decide_eq_true (show b<0 by omega)];rfl
  ·rw[decide_eq_false ha0,Bool.false_and]
theorem negB {a:Int} (h0:a<0) (ha:a.natAbs<1125899906842624):Op.negFloat .f64 (F a)=F (-a):=by
 have hw:=aqi_ (show a≠0 by omega) ha
 have hw2:=aqi_ (show -a≠0 by omega) (show(-a).natAbs<1125899906842624 by omega)
 rw[decide_eq_true h0] at hw
 rw[decide_eq_false (show¬ -a<0 by omega),Int.natAbs_neg] at hw2
 have hr:=amB_ (show a.natAbs≠0 by omega) ha
 rw[hw,hw2]
 generalize aig_ a.natAbs=r at*
 show(2^63+r)^^^2^63=r
 have e:2^63+r=2^63^^^r:=by
  apply Nat.eq_of_testBit_eq
  intro i
  rw[Nat.testBit_xor,Nat.testBit_two_pow]
  by_cases hi:63=i
  ·subst hi
   rw[Nat.testBit_two_pow_add_eq,Nat.testBit_lt_two_pow hr];rfl
  ·have h1: (2^63+r).testBit i=r.testBit i:=by
    rcases Nat.lt_or_gt_of_ne hi with h|h
    ·rw[Nat.testBit_lt_two_pow (x:=2^63+r) (by calc 2^63+r<2^64:=by omega
       _≤2^i:=Nat.pow_le_pow_right (by omega) h),Nat.testBit_lt_two_pow (x:=r) (by calc r<2^63:=hr
       _≤2^i:=Nat.pow_le_pow_right (by omega) (by omega))]
    ·exact Nat.testBit_two_pow_add_gt h r
   rw[h1]
   simp[hi]
 rw[e,Nat.xor_comm (2^63) r,Nat.xor_assoc,Nat.xor_self,Nat.xor_zero]
end Go.Flo
section
set_option maxRecDepth 10000
set_option linter.unusedSimpArgs false
namespace Go.Sx
open Go Go.Flo
section
variable {P:Program} {w0:World} {f:Fr} {L:zb_} {N:Fr→zb_→Prop} {ops:Array Oper} {rest:List Oper} {md:Md}
 {d:Option Tmp} {ty:TypeId} {ps:String} {af:Array Edge} {g:Option (Nat×Bool)}
def MidB (a:Int):Prop:=a.natAbs<562949953421312
theorem akF_ {a b c e:Int} (ha:MidB a) (hb:MidB b) (hc:MidB c) (he:MidB e) (t:TypeId) (w:World): (binOp .add t (cx a b) (cx c e)).run P w= .ok (cx (a+c) (b+e)) w:=by
 have h: ∀x y r,FloatKind.f64.format.add x y=some r→(Op.Complex.arith .add .f64 x y).run P w= .ok r w:=by
  intro x y r h
  unfold Op.Complex.arith
  rw[Sem.run_bind,show Op.floatArith .add .f64 x y=nanF .f64 x y (FloatKind.f64.format.add x y) from rfl,h]
  rfl
 show((do pure (.complex .f64 (←Op.Complex.arith .add .f64 (F a) (F c)) (←Op.Complex.arith .add .f64 (F b) (F e))):Sem Value).run P w)=_
 simp only[Sem.run_bind,h _ _ _ (addB ha hc),Result.andThen_ok,h _ _ _ (addB hb he)]
 rfl
theorem alQ_ {a b c e:Int} (ha:MidB a) (hb:MidB b) (hc:MidB c) (he:MidB e) (t:TypeId) (w:World): (binOp .sub t (cx a b) (cx c e)).run P w= .ok (cx (a - c) (b - e)) w:=by
 have h: ∀x y r,FloatKind.f64.format.sub x y=some r→(Op.Complex.arith .sub .f64 x y).run P w= .ok r w:=by
  intro x y r h
  unfold Op.Complex.arith
  rw[Sem.run_bind,show Op.floatArith .sub .f64 x y=nanF .f64 x y (FloatKind.f64.format.sub x y) from rfl,h]
  rfl
 show((do pure (.complex .f64 (←Op.Complex.arith .sub .f64 (F a) (F c)) (←Op.Complex.arith .sub .f64 (F b) (F e))):Sem Value).run P w)=_
 simp only[Sem.run_bind,h _ _ _ (subB ha hc),Result.andThen_ok,h _ _ _ (subB hb he)]
 rfl
theorem Ow.flssB {t t':TypeId} {x y:Operand} {a b:Int} (hs:zg_ ops f ⟨d, .binOp .lss t x y t',ty,ps,af,g⟩=false) (hx:ev f x=fl a) (hy:ev f y=fl b) (ha:a.natAbs<1125899906842624) (hb:b.natAbs<1125899906842624)
  (hn:Ow P w0 ops md.next rest (qd_ f d (.bool (decide (a<b)))) L N):Ow P w0 ops md (⟨d, .binOp .lss t x y t',ty,ps,af,g⟩::rest) f L N:=by
 refine Ow.binR hs hx hy (fun w=> ?_) (fun w=>rfl) hn
 show Result.ok (Value.bool (FloatKind.f64.format.order (F a) (F b)==some .lt)) w=_
 rw[ordB ha hb,anb_]
theorem Ow.negB {t:TypeId} {x:Operand} {a:Int} (hs:zg_ ops f ⟨d, .unOp .neg t x,ty,ps,af,g⟩=false) (hx:ev f x=fl a) (h0:a<0) (ha:a.natAbs<1125899906842624)
  (hn:Ow P w0 ops md.next rest (qd_ f d (fl (-a))) L N):Ow P w0 ops md (⟨d, .unOp .neg t x,ty,ps,af,g⟩::rest) f L N:=by
 refine Ow.unR hs hx (fun w=> ?_) hn
 show Result.ok (Value.float .f64 (Op.negFloat .f64 (F a))) w=_
 rw[Flo.negB h0 ha];rfl
theorem Ow.convFIB {s dt:TypeId} {x:Operand} {n:Int} {md':Md} (he:md.turn=some md') (hsk:zg_ ops f ⟨d, .convert s dt x,ty,ps,af,g⟩=false)
  (hcv:cvT P s dt= .no) (hs:P.underlying s=some (.float .f64)) (hd:P.underlying dt=some (.int .i64)) (hx:ev f x=fl n) (hn8:n.natAbs<1125899906842624)
  (hn:Ow P w0 ops md' rest (qd_ f d (vi n)) L N):Ow P w0 ops md (⟨d, .convert s dt x,ty,ps,af,g⟩::rest) f L N:=by
 refine Ow.step he (by simp[jO_,hcv]) hsk fun w hw=> .inl ⟨vi n,w,L, ?_,hw,hn⟩
 have hc: (convert s dt (fl n)).run P w= .ok (vi n) w:=by
  unfold convert
  simp only[fl,Sem.run_bind,run_underlying hs w,run_underlying hd w,Result.andThen_ok]
  show(Conv.floatToInt .f64 (F n) .i64).run P w=_
  unfold Conv.floatToInt
  simp only[intB hn8]
  have e1:IntKind.i64.min= -9223372036854775808:=rfl
  have e2:IntKind.i64.max=9223372036854775807:=rfl
  rw[if_pos (by rw[e1,e2];omega)]
  rfl
 simp only[execOp,Sem.run_bind,hx,hc]
 rfl
theorem anB_ {t e:TypeId} (hu:P.underlying t=some (.array 4 e)) (hc:P.cellsOf e=1) (hk:P.underlying e=some (.complex .f64)) (hp:qc_ P e=some (false,1)) (a b c d a' b' c' d':Nat×Nat) (w:World):
  (binOp .eql t (.agg #[cxw a.1 a.2,cxw b.1 b.2,cxw c.1 c.2,cxw d.1 d.2]) (.agg #[cxw a'.1 a'.2,cxw b'.1 b'.2,cxw c'.1 c'.2,cxw d'.1 d'.2])).run P w= .ok (.bool (ZW_ a a'&& (ZW_ b b'&& (ZW_ c c'&&ZW_ d d')))) w:=by
 obtain⟨_,i,-,hi,-,-⟩:=Jo_ hp
 have pt: ∀ (p q r s:Value),(part e #[p,q,r,s] 0).run P w= .ok p w∧(part e #[p,q,r,s] 1).run P w= .ok q w∧(part e #[p,q,r,s] 2).run P w= .ok r w∧(part e #[p,q,r,s] 3).run P w= .ok s w:=
  fun p q r s=>⟨qU_ hp rfl w,qU_ hp rfl w,qU_ hp rfl w,qU_ hp rfl w⟩
 have eq0: ∀ (n:Nat) (x y:Nat×Nat),(Op.equalIn (n+1) e (cxw x.1 x.2) (cxw y.1 y.2)).run P w= .ok (ZW_ x y) w:=by
  intro n x y
  simp only[Op.equalIn,Sem.run_bind,run_underlying hk w,Result.andThen_ok,cxw]
  rfl
 have eq: ∀ (x y:Nat×Nat),(Op.equalIn 9999 e (cxw x.1 x.2) (cxw y.1 y.2)).run P w= .ok (ZW_ x y) w:=fun x y=>eq0 9998 x y
 clear eq0
 show((do pure (.bool (←Op.equal t _ _)):Sem Value).run P w)=_
 rw[Sem.run_bind]
 have h:=run_equalIn_array (P:=P) (w:=w) 9999 #[cxw a.1 a.2,cxw b.1 b.2,cxw c.1 c.2,cxw d.1 d.2] #[cxw a'.1 a'.2,cxw b'.1 b'.2,cxw c'.1 c'.2,cxw d'.1 d'.2] hu hi
 have h': (Op.equal t (.agg #[cxw a.1 a.2,cxw b.1 b.2,cxw c.1 c.2,cxw d.1 d.2]) (.agg #[cxw a'.1 a'.2,cxw b'.1 b'.2,cxw c'.1 c'.2,cxw d'.1 d'.2])).run P w= .ok (ZW_ a a'&& (ZW_ b b'&& (ZW_ c c'&&ZW_ d d'))) w:=by
  refine h.trans ?_
  rw[hc,show List.range 4= [0,1,2,3] from rfl]
  simp only[Op.eqItems,Sem.run_bind,(pt _ _ _ _).1,(pt _ _ _ _).2.1,(pt _ _ _ _).2.2.1,(pt _ _ _ _).2.2.2,Result.andThen_ok,Nat.zero_mul,Nat.mul_one,eq]
  cases ZW_ a a'
  ·rfl
  simp only[Bool.not_true,Bool.false_eq_true, ↓reduceIte,Sem.run_bind,(pt _ _ _ _).1,(pt _ _ _ _).2.1,(pt _ _ _ _).2.2.1,(pt _ _ _ _).2.2.2,Result.andThen_ok,eq]
  cases ZW_ b b'
  ·rfl
  simp only[Bool.not_true,Bool.false_eq_true, ↓reduceIte,Sem.run_bind,(pt _ _ _ _).1,(pt _ _ _ _).2.1,(pt _ _ _ _).2.2.1,(pt _ _ _ _).2.2.2,Result.andThen_ok,eq]
  cases ZW_ c c'
  ·rfl
  simp only[Bool.not_true,Bool.false_eq_true, ↓reduceIte,Sem.run_bind,(pt _ _ _ _).1,(pt _ _ _ _).2.1,(pt _ _ _ _).2.2.1,(pt _ _ _ _).2.2.2,Result.andThen_ok,eq]
  cases ZW_ d d'<;>rfl
 rw[h'];rfl
theorem ac3_ {t:TypeId} {b n c k:Nat} {m:Bool×Nat} (hx:ixT P t= .sl m) (hk:k≤c) (w:World): (Instr.sliceAt t (vsl b 0 n c) none (some (vi k)) (some (vi k))).run P w= .ok (vsl b 0 k k) w:=by
 obtain⟨e,hu,hm⟩:=ae3_ hx
 have hb: (Instr.sliceBounds true n c none (some (vi k)) (some (vi k))).run P w= .ok (0,k,k) w:=by
  unfold Instr.sliceBounds
  simp only[Sem.run_bind,ka_ (P:=P) (x:=vi k) (i:=(k:Int)) (y:=c) rfl ⟨by omega,by omega⟩,Result.andThen_ok,Int.toNat_natCast,ka_ (P:=P) (x:=vi k) (i:=(k:Int)) (y:=k) rfl ⟨by omega,by omega⟩,Sem.run_pure]
 simp only[Instr.sliceAt,Instr.slice,vsl,Sem.run_bind,run_underlying hu w,Result.andThen_ok,Sem.run_pure]
 simp only[hb,Result.andThen_ok,zv_ hm w]
 by_cases h0:k=0
 ·subst h0;rfl
 ·simp
  intro _;rfl
theorem Ow.sliceKK {t:TypeId} {x h m:Operand} {b n c k:Nat} {q:Bool×Nat} (hs:zg_ ops f ⟨d, .slice t x none (some h) (some m),ty,ps,af,g⟩=false) (hix:ixT P t= .sl q) (hx:ev f x=vsl b 0 n c) (hh:ev f h=vi k) (hm:ev f m=vi k) (hk:k≤c)
  (hn:Ow P w0 ops md.next rest (qd_ f d (vsl b 0 k k)) L N):Ow P w0 ops md (⟨d, .slice t x none (some h) (some m),ty,ps,af,g⟩::rest) f L N:=by
 refine Ow.pureV rfl hs (fun w=> ?_) hn
 simp only[execOp,Sem.run_bind,hx,Option.map_some,Option.map_none,hh,hm]
 rw[ac3_ hix hk]
 rfl
theorem XN_ {w:World} {ts tx ty e:TypeId} {m:Bool×Nat} {z x:Value} {b off n k:Nat} {cs new:List Value} (hw:Hp w0 L w)
  (hu:P.underlying ts=some (.slice e)) (hm:qc_ P e=some m) (hi:xe_ P e=true) (hz:zI_ P e=some z) (hzs:z.cells.size=m.2) {d:TypeDesc} (hux:P.underlying tx=some d) (hnx: ∀k,d≠ .int k)
  (hSa: ∀w,Hp w0 L w→AppX P w m.2 (vsl b off n n) n cs) (hXa: ∀w,Hp w0 L w→AppX P w m.2 x k new) (hbig:2* (n+k)+768≤2^38):
  (k=0∧(Builtin.append_ #[ts,tx] ty #[vsl b off n n,x]).run P w= .ok (vsl b off n n) w)∨
  (0<k∧ ∃v' w' L',(Builtin.append_ #[ts,tx] ty #[vsl b off n n,x]).run P w= .ok v' w'∧Hp w0 L' w'∧Buf L' e m.2 v' (n+k) (cs++new)∧Grew w0 (.slice none 0 0) L L'∧ ∃c,slB v'=some c∧jM_ L c):=by
 obtain⟨i,hi,hb0,hbig⟩:=xU_ hi hbig
 have hti: ∀w,(typeInfo e).run P w= .ok i w:=by
  intro w
  simp only[typeInfo,program,Sem.run_bind]
  show Result.andThen (Result.ok P w) _=_
  simp only[Result.andThen_ok,hi]
  rfl
 have hmd: (match d with| .int _=>true|_=>false)=false:=by
  cases d<;>first|rfl|exact absurd rfl (hnx _)
 have e1: ∀ {α β:Type} (a:α) (f:α→World→Result β),(Sem.run P (pure a) w).andThen f=f a w:=fun _ _=>rfl
 have hX:=hXa w hw
 have hxl:=hX.len
 have hxc:=hX.cells
 have hS:=hSa w hw
 have hzv:=jf_ (P:=P) hz
 have room: ∀ (b:Nat) (w:World),(askRoom b).run P w= .ok () w:=by
  intro b w
  unfold askRoom
  split<;>rfl
 have zc: ∀j,(Builtin.zeroCells z.cells j).toList.length=j*m.2:=by
  intro j;simp[Builtin.zeroCells,hzs]
 have hbg: ∀c,c<n+k→ ¬ (Builtin.nextslicecap (n+k) c*i.bytes>2^48):=by
  intro c hc
  have:=xB_ hc
  have h2:=Nat.mul_le_mul_right i.bytes this
  omega
 by_cases hk:k=0
 ·subst hk
  have hnew:new= []:=List.eq_nil_of_length_eq_zero (by have:=hX.size;omega)
  subst hnew
  refine .inl ⟨rfl, ?_⟩
  simp only[Builtin.append_,vsl,List.getElem?_toArray,List.getElem?_cons_zero,List.getElem?_cons_succ,Sem.run_bind,run_underlying hu w,Result.andThen_ok,zv_ hm w,run_underlying hux w,hmd,e1,Bool.false_eq_true, ↓reduceIte,hxl,Bool.not_false,Nat.add_zero,Nat.le_refl,hxc]
  rfl
 ·have hpos: ¬n+k≤n:=by omega
  have hbg':=hbg n (by omega)
  simp only[Builtin.append_,List.getElem?_toArray,List.getElem?_cons_zero,List.getElem?_cons_succ,Sem.run_bind,run_underlying hu w,Result.andThen_ok,zv_ hm w,run_underlying hux w,hmd,e1,Bool.false_eq_true, ↓reduceIte,hxl,Bool.not_false,hpos,vsl,hti,hb0,or_false,and_false,hbg']
  have hch: (choose (Question.appendCap (n+k) n e)).run P w= .ok ((n+k)+w.tape w.drawn (.appendCap (n+k) n e)% (2^63 - (n+k))) w.drew:=rfl
  rw[hch]
  generalize hcc: (n+k)+w.tape w.drawn (.appendCap (n+k) n e)% (2^63 - (n+k))=c
  have hw1:=hw.drew
  have hX1:=hXa _ hw1
  have hold:=(hSa _ hw1).cells
  have hcs:=hS.size
  simp only[vsl] at hold
  simp only[Result.andThen_ok,room,hold,hX1.cells,hzv]
  refine .inr ⟨by omega,_,_,L++ [(w.drew.heap.size, .cells (cs++new++ (Builtin.zeroCells z.cells (c - (n+k))).toList).toArray e (0,0))],rfl, ?_, .at_ (b:=w.drew.heap.size) (rest:=(Builtin.zeroCells z.cells (c - (n+k))).toList) ?_ ?_ ?_ (by omega) (by omega), ?_,⟨_,rfl,z2_ fun b hb=>hw1.lt hb⟩⟩
  ·have ea: (cs++new++ (Builtin.zeroCells z.cells (c - (n+k))).toList).toArray=cs.toArray++new.toArray++Builtin.zeroCells z.cells (c - (n+k)):=by apply Array.ext';simp
   rw[ea]
   exact hw1.alloc _
  ·rw[z9_ (fun hm=>Nat.lt_irrefl _ (hw1.lt hm))]
   simp[look]
  ·rw[List.length_append,hcs,hX.size,Nat.add_mul]
  ·exact zc _
  ·refine⟨fun c hc=>by rw[ze_];exact List.mem_append_left _ hc,fun c hc=> ?_,fun c o hne ho=>qD_ ho⟩
   rw[ze_] at hc
   rcases List.mem_append.1 hc with hc|hc
   ·exact .inl hc
   ·right
    simp only[keys,List.map_cons,List.map_nil,List.mem_singleton] at hc
    subst hc
    exact⟨z2_ fun b hb=>hw1.lt hb,hw1.size⟩
theorem Ow.appendFull {ts tx e:TypeId} {m:Bool×Nat} {z:Value} {s x:Operand} {b off n k:Nat} {cs new:List Value} {dx:TypeDesc} {md':Md} (hsv:ev f s=vsl b off n n) (he:md.turn=some md')
  (hs:zg_ ops f ⟨d, .call ⟨.builtin .append, #[s,x], #[ts,tx]⟩,ty,ps,af,g⟩=false)
  (hu:P.underlying ts=some (.slice e)) (hm:qc_ P e=some m) (hi:xe_ P e=true) (hz:zI_ P e=some z) (hzs:z.cells.size=m.2) (hux:P.underlying tx=some dx) (hnx: ∀k,dx≠ .int k)
  (hS: ∀w,Hp w0 L w→AppX P w m.2 (vsl b off n n) n cs) (hX: ∀w,Hp w0 L w→AppX P w m.2 (ev f x) k new) (hbig:2* (n+k)+768≤2^38)
  (hn0:k=0→Ow P w0 ops md' rest (qd_ f d (vsl b off n n)) L N)
  (hn: ∀B v' D,jM_ L B→w0.heap.size≤B→0<k→Buf D e m.2 v' (n+k) (cs++new)→(∀c,c∈keys D→B≤c)→Ow P w0 ops md' rest (qd_ f d v') (D++L) N):
  Ow P w0 ops md (⟨d, .call ⟨.builtin .append, #[s,x], #[ts,tx]⟩,ty,ps,af,g⟩::rest) f L N:=by
 refine Ow.step he rfl hs fun w hw=> ?_
 have hA:jM_ L w.heap.size:=z2_ fun b hb=>hw.lt hb
 have hw':Hp w0 ([]++L) w:=hw
 rcases XN_ (w0:=w) (L:= []) (ty:=ty) (b:=b) (off:=off) (x:=ev f x) (Hp.refl w) hu hm hi hz hzs hux hnx (fun w2 hw2=>hS w2 (by
   have:=hw'.join hw2 (fun c hc=>hc) (fun c hc=> .inl hc)
   exact this)) (fun w2 hw2=>hX w2 (by
   have:=hw'.join hw2 (fun c hc=>hc) (fun c hc=> .inl hc)
   exact this)) hbig with⟨hk,hr⟩ | ⟨hk,v',w',D,hr,hD,hb,hg,-⟩
 ·refine .inl ⟨_,w,L, ?_,hw,hn0 hk⟩
  simp only[execOp,resolve,Sem.run_bind,Sem.run_pure,Result.andThen_ok,invoke,builtin,List.map_toArray,List.map_cons,List.map_nil,hsv]
  rw[hr]
  rfl
 ·have h2: ∀c,c∈keys D→w.heap.size≤c:=fun c hc=>(hg.new c hc).elim (fun h=>by cases h) And.right
  refine .inl ⟨v',w',D++L, ?_,hw'.join hD (fun c hc=>by cases hc) (fun c hc=> .inr (h2 c hc)),hn w.heap.size v' D hA hw.size hk hb h2⟩
  simp only[execOp,resolve,Sem.run_bind,Sem.run_pure,Result.andThen_ok,invoke,builtin,List.map_toArray,List.map_cons,List.map_nil,hsv]
  rw[hr]
  rfl
end
end Go.Sx
end
section
open Go Go.Proofs Go.Sx Go.StP Go.Flo
namespace Go.Proofs
set_option maxRecDepth 10000
set_option maxHeartbeats 400000
set_option linter.unusedSimpArgs false
def skR (x:List UInt8) (k:Nat):Int:=(x.map fun c=>if c.toNat%4=k then bR c else 0).sum
def skI (x:List UInt8) (k:Nat):Int:=(x.map fun c=>if c.toNat%4=k then bI c else 0).sum
theorem amC_ (x:List UInt8) (c:UInt8) (k:Nat):skR (x++ [c]) k=skR x k+ (if c.toNat%4=k then bR c else 0):=by
 unfold skR;rw[List.map_append,List.sum_append];simp
theorem alv_ (x:List UInt8) (c:UInt8) (k:Nat):skI (x++ [c]) k=skI x k+ (if c.toNat%4=k then bI c else 0):=by
 unfold skI;rw[List.map_append,List.sum_append];simp
theorem apK_ (c:UInt8):0≤bR c∧bR c≤255:=by
 unfold bR;have:=UInt8.toNat_lt (c&&&15);omega
theorem ap9_ (c:UInt8):0≤bI c∧bI c≤255:=by
 unfold bI;have:=UInt8.toNat_lt (kP_ c 4);omega
theorem aiy_ (f:UInt8→Int) (hf: ∀c,0≤f c∧f c≤255): ∀x:List UInt8,0≤ (x.map f).sum∧(x.map f).sum≤255*x.length
 | []=>by simp
 |c::x=>by
  have h1:=hf c
  have h2:=aiy_ f hf x
  rw[List.map_cons,List.sum_cons,List.length_cons]
  omega
theorem ahH_ (x:List UInt8) (k:Nat):0≤skR x k∧skR x k≤255*x.length:=aiy_ _ (fun c=>by have:=apK_ c;split<;>omega) x
theorem ajz_ (x:List UInt8) (k:Nat):0≤skI x k∧skI x k≤255*x.length:=aiy_ _ (fun c=>by have:=ap9_ c;split<;>omega) x
def skL (x:List UInt8):List Value:= [cx (skR x 0) (skI x 0),cx (skR x 1) (skI x 1),cx (skR x 2) (skI x 2),cx (skR x 3) (skI x 3)]
theorem Zl_ (x:List UInt8): (skL x).length=4:=rfl
theorem abn_ (x:List UInt8): (skL x).all Value.oneCell'=true:=rfl
def skEq (x y:List UInt8):Bool:=ZW_ (F (skR x 0),F (skI x 0)) (F (skR y 0),F (skI y 0))&& (ZW_ (F (skR x 1),F (skI x 1)) (F (skR y 1),F (skI y 1))&& (ZW_ (F (skR x 2),F (skI x 2)) (F (skR y 2),F (skI y 2))&&ZW_ (F (skR x 3),F (skI x 3)) (F (skR y 3),F (skI y 3))))
theorem eqSk (x y:List UInt8) (w:World): (binOp .eql 104 (.agg (skL x).toArray) (.agg (skL y).toArray)).run Tryz.prog w= .ok (.bool (skEq x y)) w:=
 anB_ (e:=102) Tryz.underlying104 (id (by kernel_rfl)) Tryz.underlying102 (id (by kernel_rfl)) (F (skR x 0),F (skI x 0)) (F (skR x 1),F (skI x 1)) (F (skR x 2),F (skI x 2)) (F (skR x 3),F (skI x 3)) (F (skR y 0),F (skI y 0)) (F (skR y 1),F (skI y 1)) (F (skR y 2),F (skI y 2)) (F (skR y 3),F (skI y 3)) w
theorem eqGk (a b:Operand) (x y:List UInt8) (w:World): (eqGuard .eql 104 a b (.agg (skL x).toArray) (.agg (skL y).toArray)).run Tryz.prog w= .ok () w:=by
 kernel_rfl
theorem am8_ (x y:List UInt8):qL_ Tryz.prog .eql 104 (.agg (skL x).toArray) (.agg (skL y).toArray)=none:=by
 kernel_rfl
theorem ab3_ (x:List UInt8) (E:TypeId):zl_ (some (true,4)) (some (.cells (skL x).toArray E (0,0))) 0=some (.agg (skL x).toArray):=xn_ _ E (0,0) 4 rfl
theorem KU_ (x:List UInt8):Value.cells (.agg (skL x).toArray)=(skL x).toArray:=za_ _
def dR (x y:List UInt8) (k:Nat):Int:=skR x k - skR y k
def dI (x y:List UInt8) (k:Nat):Int:=skI x k - skI y k
def farK (x y:List UInt8):Nat→Int
 |0=>0
 |k+1=>farK x y k+ (((dR x y k).natAbs:Int)+ ((dI x y k).natAbs:Int))
theorem VO_ (x:List UInt8) (E:TypeId) (k:Nat) (hk:k<4):zl_ (some (false,1)) (some (.cells (skL x).toArray E (0,0))) k=some (cx (skR x k) (skI x k)):=by
 match k,hk with
 |0,_=>rfl
 |1,_=>rfl
 |2,_=>rfl
 |3,_=>rfl
def SmT (x:List UInt8):Prop:=x.length≤1000000
theorem amW_ {x y:List UInt8} (hx:SmT x) (hy:SmT y) (k:Nat): (dR x y k).natAbs≤255000000∧(dI x y k).natAbs≤255000000:=by
 have h1:=ahH_ x k
 have h2:=ahH_ y k
 have h3:=ajz_ x k
 have h4:=ajz_ y k
 unfold SmT at hx hy
 unfold dR dI
 omega
theorem midR {x:List UInt8} (hx:SmT x) (k:Nat):MidB (skR x k):=by have:=ahH_ x k;unfold SmT at hx;unfold MidB;omega
theorem midI {x:List UInt8} (hx:SmT x) (k:Nat):MidB (skI x k):=by have:=ajz_ x k;unfold SmT at hx;unfold MidB;omega
theorem aqS_ (c:UInt8):MidB (bR c):=by have:=apK_ c;unfold MidB;omega
theorem aqD_ (c:UInt8):MidB (bI c):=by have:=ap9_ c;unfold MidB;omega
theorem acH_ {x y:List UInt8} (hx:SmT x) (hy:SmT y): ∀k,0≤farK x y k∧farK x y k≤510000000*k
 |0=>⟨Int.le_refl _,Int.le_refl _⟩
 |k+1=>by
  obtain⟨h1,h2⟩:=acH_ hx hy k
  obtain⟨h3,h4⟩:=amW_ hx hy k
  show 0≤farK x y k+_∧farK x y k+_≤_
  omega
def farS (x y:List UInt8):Int:=if skEq x y=true then 0 else farK x y 4
theorem anm_ {x y:List UInt8} (hx:SmT x) (hy:SmT y):0≤farS x y∧farS x y≤2040000000:=by
 have:=acH_ hx hy 4
 unfold farS
 split<;>omega
theorem F_0:F 0=0:=by decide+kernel
theorem fl_0:Value.float .f64 0=fl 0:=by rw[fl,F_0]
set_option linter.defProp false
def jU_:=And.intro (And.intro (@zA_) (@zz_)) (And.intro (@ah9_) (@aqa_))
theorem aaC_ (n:Int) (w:World) (hn:n.natAbs≤1000000000):Rets Tryz.prog 127 #[fl n] w (fun v D=>v=vi (n.natAbs:Int)∧D= []):=by
 refine Rets.enterV Tryz.func127 rfl (rs:= [.tmp 2]) Tryz.results127 Tryz.ntmps127 ?_
 refine kf ?_
 first|with_reducible refine ks [] @jU_ ?_|refine kp @jU_ ?_
 refine Ow.flssB (a:=n) (b:=0) rfl rfl fl_0 (by omega) (by omega) ?_
 by_cases h:n<0
 ·rw[decide_eq_true h]
  refine ko @jU_ ?_
  first|with_reducible refine ks [] @jU_ ?_|refine kp @jU_ ?_
  refine Ow.negB rfl rfl h (by omega) ?_
  refine ko @jU_ ?_
  first|with_reducible refine ks [] @jU_ ?_|refine kp @jU_ ?_
  refine Ow.convFIB rfl rfl cvFI Tryz.underlying185 Tryz.underlying3 rfl (by omega) ?_
  refine ko @jU_ ?_
  first|with_reducible refine ks [] @jU_ ?_|refine kp @jU_ ?_
  refine⟨_,(ke @jU_),trivial, ?_⟩
  show vi (-n)=_;congr 1;omega
 ·rw[decide_eq_false h]
  refine ko @jU_ ?_
  first|with_reducible refine ks [] @jU_ ?_|refine kp @jU_ ?_
  refine Ow.convFIB rfl rfl cvFI Tryz.underlying185 Tryz.underlying3 rfl (by omega) ?_
  refine ko @jU_ ?_
  first|with_reducible refine ks [] @jU_ ?_|refine kp @jU_ ?_
  refine⟨_,(ke @jU_),trivial, ?_⟩
  show vi n=_;congr 1;omega
structure SkFG where
 k:Nat
set_option linter.defProp false
def qQ_:=And.intro (And.intro (And.intro (@ab3_) (@KU_)) (And.intro (@am8_) (@zA_))) (And.intro (And.intro (@zz_) (@aeV_)) (And.intro (@aeo_) (@afd_)))
theorem ak3_ (x y:List UInt8) (w:World) (hx:SmT x) (hy:SmT y):Rets Tryz.prog 113 #[.agg (skL x).toArray, .agg (skL y).toArray] w (fun v D=>v=vi (farS x y)∧D= []):=by
 refine Rets.enterV Tryz.func113 rfl (rs:= [.tmp 4]) Tryz.results113 Tryz.ntmps113 ?_
 refine kf ?_
 first|with_reducible refine ks [] @qQ_ ?_|refine kp @qQ_ ?_
 refine Ow.box rfl rfl fun b2 hb2 hw2=> ?_
 simp only[zD_,zH_,zG_,za_,List.nil_append,List.cons_append]
 refine Ow.go rfl ?_
 simp(disch:=(first|assumption|omega| (simp only[wr_,we_,UInt64.reduceToNat];try omega))) only[↓Sx.S0,Sx.S1,Tryz.fx,qQ_,Nat.reduceAdd,Nat.reducePow,Int.reducePow,Nat.reduceBEq, ↓reduceIte,UInt8.reduceToNat,UInt16.reduceToNat,UInt32.reduceToNat,UInt64.reduceToNat,Int.reduceToNat]
 refine Ow.box rfl rfl fun b3 hb3 hw3=> ?_
 simp only[zD_,zH_,zG_,za_,List.nil_append,List.cons_append]
 refine Ow.go rfl ?_
 simp(disch:=(first|assumption|omega| (simp only[wr_,we_,UInt64.reduceToNat];try omega))) only[↓Sx.S0,Sx.S1,Tryz.fx,qQ_,Nat.reduceAdd,Nat.reducePow,Int.reducePow,Nat.reduceBEq, ↓reduceIte,UInt8.reduceToNat,UInt16.reduceToNat,UInt32.reduceToNat,UInt64.reduceToNat,Int.reduceToNat]
 obtain⟨h23,-⟩:=hb3
 have r2:zk_ w [(b2,Obj.cells (skL x).toArray 104 (0,0)),(b3, .cells (skL y).toArray 104 (0,0))] b2=some (.cells (skL x).toArray 104 (0,0)):=zr_ _ _ _ _
 have r3:zk_ w [(b2,Obj.cells (skL x).toArray 104 (0,0)),(b3, .cells (skL y).toArray 104 (0,0))] b3=some (.cells (skL y).toArray 104 (0,0)):=by rw[zm_ _ _ _ _ _ (by omega)];exact zr_ _ _ _ _
 first|with_reducible refine ks [] (And.intro @qQ_ (And.intro @r2 (@r3))) ?_|refine kp (And.intro @qQ_ (And.intro @r2 (@r3))) ?_
 refine Ow.binR (u:= .agg (skL x).toArray) (v:= .agg (skL y).toArray) rfl rfl rfl (eqSk x y) (eqGk _ _ x y) ?_
 cases hxy:skEq x y with
 |true=>
  refine ko @qQ_ ?_
  first|with_reducible refine ks [] @qQ_ ?_|refine kp @qQ_ ?_
  refine⟨_,(ke @qQ_),⟨hw2,hw3,trivial⟩, ?_⟩
  rw[farS,if_pos hxy];rfl
 |false=>
  refine ko @qQ_ ?_
  first|with_reducible refine ks [] (And.intro @qQ_ (And.intro @r2 (@r3))) ?_|refine kp (And.intro @qQ_ (And.intro @r2 (@r3))) ?_
  refine Cw.loopG (G:=SkFG) [12,13,6,14,15,16,17,18,19,20,7,21,22,23,24,25,26,27,28,29,5,30,11] (fun g=> [(11,vi g.k),(5,vi (farK x y g.k))]) (fun g=> [(b2, .cells (skL x).toArray 104 (0,0)),(b3, .cells (skL y).toArray 104 (0,0))]) (fun g=>g.k≤4) (fun g=>4 - g.k) ⟨0⟩ rfl rfl ?_ ?_
  ·exact Nat.zero_le _
  intro g j hg
  refine kv ?_
  obtain⟨k⟩:=g
  simp only at hg ⊢
  by_cases hlt:k<4
  ·have hd0:decide ((k:Int)<4)=true:=decide_eq_true (by omega)
   have l2:=VO_ x 104 k hlt
   have l3:=VO_ y 104 k hlt
   first|with_reducible refine ks [] (And.intro @qQ_ @hd0) ?_|refine kp (And.intro @qQ_ @hd0) ?_
   refine Cw.regionS [b2,b3] [0,1,3,4,2,5,6,7] [] (by kernel_rfl) (by kernel_rfl) (by kernel_rfl) ?_
   refine kya ?_
   refine kq (And.intro @qQ_ (And.intro @l2 (And.intro @l3 (And.intro @r2 (@r3))))) ?_
   refine Ow.binR (r:=cx (dR x y k) (dI x y k)) rfl rfl rfl (alQ_ (midR hx k) (midI hx k) (midR hy k) (midI hy k) _) (fun w=>rfl) ?_
   refine kq @qQ_ ?_
   try with_reducible refine Ow.nil ?_
   obtain⟨hs1,hs2⟩:=amW_ hx hy k
   have hf:=acH_ hx hy k
   first|with_reducible refine ks [] @qQ_ ?_|refine kp @qQ_ ?_
   refine Ow.real rfl rfl ?_
   refine Ow.callFV rfl Tryz.call127 (fun w' hw'=>aaC_ (dR x y k) w' (by omega)) ?_
   refine ko @qQ_ ?_
   refine Ow.imag rfl rfl ?_
   refine Ow.callFV rfl Tryz.call127 (fun w' hw'=>aaC_ (dI x y k) w' (by omega)) ?_
   refine ko @qQ_ ?_
   first|with_reducible refine ks [] @qQ_ ?_|refine kp @qQ_ ?_
   exact Again.mk ⟨k+1⟩ (by show 4 - (k+1)<4 - k;omega) hlt rfl rfl
  ·obtain rfl:k=4:=by omega
   have hd0:decide ((4:Int)<4)=false:=rfl
   first|with_reducible refine ks [] (And.intro @qQ_ @hd0) ?_|refine kp (And.intro @qQ_ @hd0) ?_
   refine⟨_,(ke @qQ_),⟨hw2,hw3,trivial⟩, ?_⟩
   rw[farS,if_neg (by rw[hxy];decide)];rfl
theorem zrSk:zI_ Tryz.prog 104=some (.agg (skL []).toArray):=id (by kernel_rfl)
theorem ae5_ (x y:List UInt8) (E:TypeId):zn_ (some (true,4)) (some (.cells (skL x).toArray E (0,0))) 0 (.agg (skL y).toArray)=some (.cells (skL y).toArray E (0,0)):=by
 have:=j2_ (skL y) (n:=4) true (skL x).toArray E rfl (abn_ y) rfl
 exact this
theorem ajh_ (y:List UInt8) (c:UInt8) (E:TypeId) {k:Nat} (hk:k<4) (hc:c.toNat%4=k):zn_ (some (false,1)) (some (.cells (skL y).toArray E (0,0))) k (cx (skR y k+bR c) (skI y k+bI c))=some (.cells (skL (y++ [c])).toArray E (0,0)):=by
 unfold skL
 simp only[amC_,alv_,hc]
 obtain rfl|rfl|rfl|rfl:k=0∨k=1∨k=2∨k=3:=by omega
 all_goals
  simp
  rfl
structure SkOG where
 i:Nat
set_option linter.defProp false
def q8_:=And.intro (And.intro (@ab3_) (@KU_)) (And.intro (@af5_) (And.intro (@zA_) (@zz_)))
theorem aox_ (x:List UInt8) (v:Value) (w:World) (hx:SmT x) (hv:SlV 1 V0_ [] w v [x]):
  Rets Tryz.prog 46 #[v] w (fun v D=>v= .agg (skL x).toArray∧D= []):=by
 obtain⟨rb,off,arr,E,fz,hr⟩:=hv.row
 have ln: ∀x,wt_ (.sl x) v=some (vi 1):=fun x=>hr.len x
 have ix:=hr.idx false 0 (by simp)
 have ld:=VY_ hr (k:=0) (by simp)
 simp only[Nat.zero_mul,Nat.add_zero,List.getD_cons_zero] at ix ld
 have hrl:=hr.lt (by simp)
 have hxl:x.length≤1000000:=hx
 refine Rets.enterV Tryz.func46 rfl (rs:= [.cell 2 104]) Tryz.results46 Tryz.ntmps46 ?_
 refine kf ?_
 first|with_reducible refine ks [] @q8_ ?_|refine kp @q8_ ?_
 refine Ow.alloc rfl rfl zrSk fun b2 hb2 hw2=> ?_
 simp only[za_,List.nil_append,List.cons_append]
 refine ko @q8_ ?_
 first|with_reducible refine ks [] @q8_ ?_|refine kp @q8_ ?_
 refine Ow.alloc rfl rfl zrSk fun b3 hb3 hw3=> ?_
 simp only[za_,List.nil_append,List.cons_append]
 have h23:b2<b3:=zh_ hb3 (by simp[keys])
 refine ko (And.intro @q8_ @ln) ?_
 first|with_reducible refine ks [] (And.intro @q8_ @ln) ?_|refine kp (And.intro @q8_ @ln) ?_
 refine Cw.loopG (G:=SkOG) [10,11,12,5,13,14,15,16,17,6,18,19,20,21,22,23,24,25,26,27,28,29,30,31,32,9] (fun g=> [(9,vi g.i)]) (fun g=> [(b2, .cells (skL []).toArray 104 (0,0)),(b3, .cells (skL (if g.i=0 then [] else x)).toArray 104 (0,0))]) (fun g=>g.i≤1) (fun g=>1 - g.i) ⟨0⟩ rfl rfl ?_ ?_
 ·exact Nat.zero_le _
 intro g j hg
 refine kv ?_
 obtain⟨i⟩:=g
 simp only at hg ⊢
 have rd: ∀o3,zk_ w [(b2,Obj.cells (skL []).toArray 104 (0,0)),(b3,o3)] rb=some (.cells arr E fz):=fun o3=>by
  rw[zm_ _ _ _ _ _ (by omega),zm_ _ _ _ _ _ (by omega),zY_];exact hr.has (by simp)
 obtain rfl|rfl:i=0∨i=1:=by omega
 ·rw[if_pos rfl]
  first|with_reducible refine ks [] (And.intro @q8_ (And.intro @ix (And.intro @ld (@rd)))) ?_|refine kp (And.intro @q8_ (And.intro @ix (And.intro @ld (@rd)))) ?_
  refine Cw.loopG (G:=SkOG) [16,17,6,18,19,20,21,22,23,24,25,26,27,28,29,30,31,15] (fun g=> [(15,vi g.i)]) (fun g=> [(b2, .cells (skL []).toArray 104 (0,0)),(b3, .cells (skL (x.take g.i)).toArray 104 (0,0))]) (fun g=>g.i≤x.length) (fun g=>x.length - g.i) ⟨0⟩ rfl rfl ?_ ?_
  ·exact Nat.zero_le _
  intro g j hg
  refine kv ?_
  obtain⟨i⟩:=g
  simp only at hg ⊢
  by_cases hlt:i<x.length
  ·have hd1:decide ((i:Int)< (x.length:Int))=true:=decide_eq_true (by omega)
   have hts:x.take (i+1)=x.take i++ [x.getD i 0]:=StP.take_snoc (z:=0) hlt
   have hy:SmT (x.take i):=by unfold SmT at*;rw[List.length_take];omega
   generalize x.take i=y at*
   have r3:zk_ w [(b2,Obj.cells (skL []).toArray 104 (0,0)),(b3, .cells (skL y).toArray 104 (0,0))] b3=some (.cells (skL y).toArray 104 (0,0)):=by rw[zm_ _ _ _ _ _ (by omega)];exact zr_ _ _ _ _
   obtain⟨k,hk⟩: ∃k,(x.getD i 0).toNat%4=k:=⟨_,rfl⟩
   have hk4:k<4:=by omega
   have em: (((x.getD i 0).toNat:Int)%4)=(k:Int):=by omega
   have l3:=VO_ y 104 k hk4
   have st:=ajh_ y (x.getD i 0) 104 hk4 hk
   first|with_reducible refine ks [] (And.intro @q8_ @hd1) ?_|refine kp (And.intro @q8_ @hd1) ?_
   refine Cw.regionG [b3] [13] 14 (by kernel_rfl) rfl ?_
   refine kyc ?_
   refine OwG.run [0,1,2,3,4,5,6,7,8,9] [true,true,true,true,true,true,true,true,true,true,false,false,false,false] 4 rfl (by kernel_rfl) (by kernel_rfl) fun k hk=> ?_
   refine kya ?_
   refine kp (And.intro @q8_ (And.intro @Md.next_sofnil (And.intro @r3 (And.intro @em (@l3))))) ?_
   (with_reducible refine hk _ _ _ ?_);clear hk k
   refine OwG.one 10 _ (by kernel_rfl) rfl ?_
   refine Ow.callFV rfl Tryz.call86 (fun w' hw'=>jT_ (x.getD i 0) w') ?_
   with_reducible refine Ow.nilD ?_
   refine kyb ?_
   refine OwG.rest [11,12,13] rfl (by kernel_rfl) (by kernel_rfl) ?_
   refine kya ?_
   refine kq @q8_ ?_
   refine Ow.binR (r:=cx (skR y k+bR (x.getD i 0)) (skI y k+bI (x.getD i 0))) rfl rfl rfl (akF_ (midR hy k) (midI hy k) (aqS_ _) (aqD_ _) _) (fun w=>rfl) ?_
   refine kq (And.intro @q8_ @em) ?_
   refine Ow.store rfl rfl rfl (ke (And.intro @q8_ (And.intro @em (@st)))) ?_
   refine ko @q8_ ?_
   first|with_reducible refine ks [] @q8_ ?_|refine kp @q8_ ?_
   rw[←hts]
   exact Again.mk ⟨i+1⟩ (by show x.length - (i+1)<x.length - i;omega) hlt rfl rfl
  ·obtain rfl:i=x.length:=by omega
   have hd:decide ((x.length:Int)< (x.length:Int))=false:=by simp
   rw[List.take_length]
   first|with_reducible refine ks [] (And.intro @q8_ @hd) ?_|refine kp (And.intro @q8_ @hd) ?_
   exact Again.mk ⟨1⟩ (by decide) (Nat.le_refl _) rfl rfl
 ·have hd:decide ((1:Int)<1)=false:=rfl
  have st:=ae5_ [] x 104
  rw[if_neg (by decide)]
  first|with_reducible refine ks [] (And.intro @q8_ (And.intro @hd (@st))) ?_|refine kp (And.intro @q8_ (And.intro @hd (@st))) ?_
  refine⟨_,(ke @q8_),⟨hw2,hw3,trivial⟩, ?_⟩
  rfl
end Go.Proofs
end
section
open Go Go.Proofs Go.Sx Go.StP Go.Flo
namespace Go.Proofs
set_option maxRecDepth 10000
set_option maxHeartbeats 400000
set_option linter.unusedSimpArgs false
def ZB_ (s:List UInt8) (l:List (List UInt8)):Nat→Int×Int
 |0=>(-1,0)
 |k+1=>if(ZB_ s l k).1<0∨farS s (l.getD k [])< (ZB_ s l k).2 then((k:Int),farS s (l.getD k [])) else ZB_ s l k
theorem VG_ (s:List UInt8) (l:List (List UInt8)): ∀k,0<k→0≤ (ZB_ s l k).1∧(ZB_ s l k).1<k
 |0,h=>absurd h (Nat.lt_irrefl _)
 |k+1,_=>by
  unfold ZB_
  split
  ·simp only;omega
  ·rename_i h
   rcases Nat.eq_zero_or_pos k with rfl|hk
   ·exact absurd (.inl (show(-1:Int)<0 by decide)) h
   ·have:=VG_ s l k hk
    omega
theorem akj_ {w:World} {v:Value} {l:List (List UInt8)} {b off:Nat} {arr:Array Value} {E:TypeId} {fz:Nat×Nat} (h:RowS 4 skL [] w v l b off arr E fz) {k:Nat} (hk:k<l.length):
  zl_ (some (true,4)) (some (.cells arr E fz)) (off+k*4)=some (.agg (skL (l.getD k [])).toArray):=h.load Zl_ (by decide) hk
structure SkNG where
 i:Nat
 best:Int
 far:Int
 DG:zb_
def SmL (l:List (List UInt8)):Prop:= ∀k,k<l.length→SmT (l.getD k [])
set_option linter.defProp false
def q9_:=And.intro (And.intro (@ab3_) (@KU_)) (And.intro (@zA_) (And.intro (@zz_) (@ae5_)))
theorem ahv_ (s:List UInt8) (v:Value) (l:List (List UInt8)) (w:World) (hv:SlV 4 skL [] w v l) (hl:l.length<1000000) (hs:SmT s) (hL:SmL l):
  Rets Tryz.prog 87 #[.agg (skL s).toArray,v] w (fun r D=>r=vi (ZB_ s l l.length).1∧D= []):=by
 obtain⟨rb,off,arr,E,fz,hr⟩:=hv.row
 have ln:=fun x=>hr.len x
 refine Rets.enterV Tryz.func87 rfl (rs:= [.tmp 4]) Tryz.results87 Tryz.ntmps87 ?_
 refine kf ?_
 first|with_reducible refine ks [] @q9_ ?_|refine kp @q9_ ?_
 refine Ow.box rfl rfl fun b2 hb2 hw2=> ?_
 simp only[zD_,zH_,zG_,za_,List.nil_append,List.cons_append]
 refine Ow.go rfl ?_
 simp(disch:=(first|assumption|omega| (simp only[wr_,we_,UInt64.reduceToNat];try omega))) only[↓Sx.S0,Sx.S1,Tryz.fx,q9_,Nat.reduceAdd,Nat.reducePow,Int.reducePow,Nat.reduceBEq, ↓reduceIte,UInt8.reduceToNat,UInt16.reduceToNat,UInt32.reduceToNat,UInt64.reduceToNat,Int.reduceToNat]
 first|with_reducible refine ks [] (And.intro @q9_ @ln) ?_|refine kp (And.intro @q9_ @ln) ?_
 refine Cw.loopG (G:=SkNG) [13,14,15,16,8,7,17,18,19,9,20,21,22,23,24,25,26,27,28,5,6,29,12] (fun g=> [(12,vi g.i),(5,vi g.best),(6,vi g.far)]) (fun g=>(b2, .cells (skL s).toArray 104 (0,0))::g.DG) (fun g=>g.i≤l.length∧New w.heap.size g.DG∧0≤g.far∧g.far≤2040000000∧(g.i=0∧g.best= -1∨0<g.i∧0≤g.best∧g.best<g.i)∧ZB_ s l g.i=(g.best,g.far)) (fun g=>l.length - g.i) ⟨0,-1,0,[]⟩ rfl rfl ?_ ?_
 ·exact⟨Nat.zero_le _,trivial,by decide,by decide, .inl ⟨rfl,rfl⟩,rfl⟩
 intro g j hg
 refine kv ?_
 obtain⟨i,best,far,DG⟩:=g
 simp only at hg ⊢
 obtain⟨hi,hN,hf0,hf1,hb,hne⟩:=hg
 by_cases hlt:i<l.length
 ·have hrl:=hr.lt (by omega)
  have ix:=hr.idx true i hlt
  have ld:=akj_ hr hlt
  have hNN:New w.heap.size ((b2,Obj.cells (skL s).toArray 104 (0,0))::DG):=⟨hw2,hN⟩
  have rd:zk_ w ((b2,Obj.cells (skL s).toArray 104 (0,0))::DG) rb=some (.cells arr E fz):=by rw[zX_ (hNN.not hrl)];exact hr.has (by omega)
  have hd0:decide ((i:Int)< (l.length:Int))=true:=decide_eq_true (by omega)
  have hn1:ZB_ s l (i+1)=if best<0∨farS s (l.getD i [])<far then((i:Int),farS s (l.getD i [])) else(best,far):=by
   conv=>lhs;unfold ZB_
   rw[hne]
  have hcs:=hL i hlt
  generalize l.getD i []=c at*
  first|with_reducible refine ks [8] (And.intro @q9_ (And.intro @hd0 (And.intro @ix (And.intro @rd (@ld))))) ?_|refine kp (And.intro @q9_ (And.intro @hd0 (And.intro @ix (And.intro @rd (@ld))))) ?_
  refine Ow.alloc rfl rfl zrSk fun b8 hb8 hw8=> ?_
  simp only[za_,List.nil_append,List.cons_append]
  have h28:b2<b8:=zh_ hb8 (by simp[keys])
  refine Ow.permL (M:=(b8, .cells (skL []).toArray 104 (0,0)):: (b2, .cells (skL s).toArray 104 (0,0))::DG) (by classical exact List.perm_iff_count.2 fun a=>by simp only[List.count_append,List.count_cons,List.count_nil]<;>omega) ?_
  refine ko @q9_ ?_
  refine Ow.callFV rfl Tryz.call113 (fun w' hw'=>ak3_ s c w' hs hcs) ?_
  obtain⟨hq0,hq1⟩:=anm_ hs hcs
  generalize farS s c=q at*
  have hpm: ((b8,Obj.cells (skL c).toArray 104 (0,0)):: (b2, .cells (skL s).toArray 104 (0,0))::DG).Perm ((b2, .cells (skL s).toArray 104 (0,0)):: (b8, .cells (skL c).toArray 104 (0,0))::DG):=List.Perm.swap ..
  have hN8:New w.heap.size ((b8,Obj.cells (skL c).toArray 104 (0,0))::DG):=⟨hw8,hN⟩
  refine ko @q9_ ?_
  rcases hb with⟨hi0,hbm⟩ | ⟨hb0,hb1,hb2'⟩
  ·have d1:decide (best<0)=true:=decide_eq_true (by omega)
   rw[if_pos (.inl (by omega))] at hn1
   first|with_reducible refine ks [8] (And.intro @q9_ @d1) ?_|refine kp (And.intro @q9_ @d1) ?_
   refine Cw.permL hpm.symm ?_
   first|with_reducible refine ks [] @q9_ ?_|refine kp @q9_ ?_
   exact Again.mk ⟨i+1,i,q,_⟩ (by show l.length - (i+1)<l.length - i;omega) ⟨hlt,hN8,hq0,hq1, .inr ⟨by show 0<i+1;omega,by show(0:Int)≤i;omega,by show(i:Int)< ((i+1:Nat):Int);omega⟩,hn1⟩ rfl rfl
  ·have d1:decide (best<0)=false:=decide_eq_false (by omega)
   by_cases hqf:q<far
   ·have d2:decide (q<far)=true:=decide_eq_true hqf
    rw[if_pos (.inr hqf)] at hn1
    first|with_reducible refine ks [8] (And.intro @q9_ (And.intro @d1 (@d2))) ?_|refine kp (And.intro @q9_ (And.intro @d1 (@d2))) ?_
    refine Cw.permL hpm.symm ?_
    first|with_reducible refine ks [] @q9_ ?_|refine kp @q9_ ?_
    exact Again.mk ⟨i+1,i,q,_⟩ (by show l.length - (i+1)<l.length - i;omega) ⟨hlt,hN8,hq0,hq1, .inr ⟨by show 0<i+1;omega,by show(0:Int)≤i;omega,by show(i:Int)< ((i+1:Nat):Int);omega⟩,hn1⟩ rfl rfl
   ·have d2:decide (q<far)=false:=decide_eq_false hqf
    rw[if_neg (by omega)] at hn1
    first|with_reducible refine ks [8] (And.intro @q9_ (And.intro @d1 (@d2))) ?_|refine kp (And.intro @q9_ (And.intro @d1 (@d2))) ?_
    refine Cw.permL hpm.symm ?_
    first|with_reducible refine ks [] @q9_ ?_|refine kp @q9_ ?_
    exact Again.mk ⟨i+1,best,far,_⟩ (by show l.length - (i+1)<l.length - i;omega) ⟨hlt,hN8,hf0,hf1, .inr ⟨by show 0<i+1;omega,hb1,by show best< ((i+1:Nat):Int);omega⟩,hn1⟩ rfl rfl
 ·obtain rfl:i=l.length:=by omega
  have hd0:decide ((l.length:Int)< (l.length:Int))=false:=by simp
  first|with_reducible refine ks [] (And.intro @q9_ @hd0) ?_|refine kp (And.intro @q9_ @hd0) ?_
  refine⟨_,(ke @q9_),⟨hw2,hN⟩, ?_⟩
  rw[hne];rfl
structure OrdT where
 a:Nat
 left:List Nat
 out:List Nat
def XX_ (l:List (List UInt8)) (s:OrdT):Nat:=if s.out.length=0 then 0 else(ZB_ (l.getD s.a []) (s.left.map fun i=>l.getD i []) s.left.length).1.toNat
def jE_ (l:List (List UInt8)):Nat→OrdT
 |0=>⟨0,List.range l.length,[]⟩
 |k+1=>⟨(jE_ l k).left.getD (XX_ l (jE_ l k)) 0,(jE_ l k).left.take (XX_ l (jE_ l k))++ (jE_ l k).left.drop (XX_ l (jE_ l k)+1),(jE_ l k).out++ [(jE_ l k).left.getD (XX_ l (jE_ l k)) 0]⟩
def ordV (l:List (List UInt8)):List Nat:=(jE_ l l.length).out
theorem ajt_ (l:List (List UInt8)) (s:OrdT) (h:0<s.left.length):XX_ l s<s.left.length:=by
 unfold XX_
 split
 ·exact h
 ·have:=VG_ (l.getD s.a []) (s.left.map fun i=>l.getD i []) s.left.length h
  omega
theorem Qm_ (l:List (List UInt8)): ∀k,k≤l.length→(jE_ l k).left.length=l.length - k∧(jE_ l k).out.length=k∧((jE_ l k).out++ (jE_ l k).left).Perm (List.range l.length)∧(0<l.length→(jE_ l k).a<l.length)
 |0,_=>⟨by show(List.range l.length).length=_;rw[List.length_range];omega,rfl,List.Perm.refl _,fun h=>h⟩
 |k+1,hk=>by
  obtain⟨h1,h2,h3,h4⟩:=Qm_ l k (by omega)
  have hq:=ajt_ l (jE_ l k) (by omega)
  have hg: (jE_ l k).left.getD (XX_ l (jE_ l k)) 0=(jE_ l k).left[XX_ l (jE_ l k)]:=by rw[List.getD_eq_getElem?_getD,List.getElem?_eq_getElem hq];rfl
  have hsp: (jE_ l k).left=(jE_ l k).left.take (XX_ l (jE_ l k))++ (jE_ l k).left[XX_ l (jE_ l k)]:: (jE_ l k).left.drop (XX_ l (jE_ l k)+1):=by
   rw[←List.drop_eq_getElem_cons hq,List.take_append_drop]
  have hm: (jE_ l k).left[XX_ l (jE_ l k)]∈List.range l.length:=h3.mem_iff.1 (List.mem_append_right _ (List.getElem_mem _))
  refine⟨?_, ?_, ?_,fun _=> ?_⟩
  ·show((jE_ l k).left.take _++ (jE_ l k).left.drop _).length=_
   rw[List.length_append,List.length_take,List.length_drop];omega
  ·show((jE_ l k).out++ [_]).length=_
   rw[List.length_append,h2];rfl
  ·show((jE_ l k).out++ [(jE_ l k).left.getD (XX_ l (jE_ l k)) 0]++ ((jE_ l k).left.take _++ (jE_ l k).left.drop _)).Perm _
   refine List.Perm.trans ?_ h3
   rw[hg]
   conv=>rhs;rw[hsp]
   rw[List.append_assoc]
   refine List.Perm.append_left _ ?_
   rw[List.singleton_append]
   exact List.perm_middle.symm
  ·show(jE_ l k).left.getD _ 0<_
   rw[hg]
   exact List.mem_range.1 hm
theorem Qx_ (l:List (List UInt8)): (ordV l).Perm (List.range l.length):=by
 obtain⟨h1,-,h3,-⟩:=Qm_ l l.length (Nat.le_refl _)
 have: (jE_ l l.length).left= []:=List.eq_nil_of_length_eq_zero (by omega)
 rw[this,List.append_nil] at h3
 exact h3
theorem Wa_ {l:List (List UInt8)} {k:Nat} (hk:k≤l.length): ∀i,i∈ (jE_ l k).left→i<l.length:=fun i hi=>by
 obtain⟨-,-,h3,-⟩:=Qm_ l k hk
 exact List.mem_range.1 (h3.mem_iff.1 (List.mem_append_right _ hi))
end Go.Proofs
end
section
open Go Go.Proofs Go.Sx Go.StP Go.Flo
namespace Go.Proofs
set_option maxRecDepth 10000
set_option maxHeartbeats 400000
set_option linter.unusedSimpArgs false
theorem wz_:zI_ Tryz.prog 3=some (vi 0):=id (by kernel_rfl)
theorem aeq_ (x:List UInt8):xh_ Tryz.prog 101 1 [(0, .agg (skL x).toArray)]=some (104,(skL x).toArray):=qn_ Tryz.underlying101 Tryz.ag104 zrSk (by decide) (Zl_ x)
theorem kF_ (l:List Nat): (l.map jt_).flatten=l.map fun(i:Nat)=>vi (i:Int):=by
 induction l with
 |nil=>rfl
 |cons x r ih=>rw[List.map_cons,List.flatten_cons,ih];rfl
theorem akc_ (l:List Nat): (l.map jt_).flatten.all Value.oneCell'=true:=by
 induction l with
 |nil=>rfl
 |cons x r ih=>rw[List.map_cons,List.flatten_cons,List.all_append,ih];rfl
theorem alC_ {D:zb_} {v:Value} {i:Nat} (h:Gr D 3 1 v (i+1) (((List.range i).map jt_).flatten++jt_ i)):Gr D 3 1 v (i+1) ((List.range (i+1)).map jt_).flatten:=by
 rw[List.range_succ];simpa using h
theorem Qw_ {l:List Nat} {rest:List Value} {E:TypeId} {fz:Nat×Nat} {k:Nat} (hk:k<l.length) (n:Nat):zl_ (some (false,n)) (some (.cells ((l.map jt_).flatten++rest).toArray E fz)) k=some (vi ((l.getD k 0:Nat):Int)):=by
 unfold zl_
 simp only[kF_]
 rw[List.getElem?_toArray,List.getElem?_append_left (by simp[hk]),List.getElem?_map,List.getElem?_eq_getElem hk,List.getD_eq_getElem?_getD,List.getElem?_eq_getElem hk]
 rfl
def LfP (X:zb_) (v:Value) (l:List Nat):Prop:=(l= []∧ ∀x,wt_ (.sl x) v=some (vi 0))∨(0<l.length∧ ∃b c rest,v=vsl b 0 l.length c∧l.length≤c∧(b,Obj.cells ((l.map jt_).flatten++rest).toArray 3 (0,0))∈X)
theorem LfP.of {X:zb_} {v:Value} {l:List Nat} (h:Gr X 3 1 v l.length (l.map jt_).flatten):LfP X v l:=by
 rcases Nat.eq_zero_or_pos l.length with h0|h0
 ·have:l= []:=List.eq_nil_of_length_eq_zero h0
  subst this
  exact .inl ⟨rfl,fun x=>h.len x⟩
 ·rcases h with h| ⟨h1,-⟩
  ·rcases h.inv with⟨-,h1,-⟩ | ⟨b,c,rest,h1,h2,-,h4,-⟩
   ·omega
   ·exact .inr ⟨h0,b,c,rest,h1,h4,zw_ h2⟩
  ·omega
theorem LfP.mono {X Y:zb_} {v:Value} {l:List Nat} (h:LfP X v l) (hs: ∀p,p∈X→p∈Y):LfP Y v l:=by
 rcases h with h| ⟨h0,b,c,rest,h1,h2,h3⟩
 ·exact .inl h
 ·exact .inr ⟨h0,b,c,rest,h1,h2,hs _ h3⟩
theorem LfP.len {X:zb_} {v:Value} {l:List Nat} (h:LfP X v l) (x:Bool×Nat):wt_ (.sl x) v=some (vi l.length):=by
 rcases h with⟨rfl,h⟩ | ⟨-,b,c,rest,rfl,-,-⟩
 ·exact h x
 ·rfl
theorem LfP.cut {X:zb_} {b q:Nat} {l:List Nat} {rest:List Value} (h: (b,Obj.cells ((l.map jt_).flatten++rest).toArray 3 (0,0))∈X) (hq:l.length=q+1):LfP X (vsl b 0 q q) (l.take q++l.drop (q+1)):=by
 rw[List.drop_eq_nil_of_le (by omega),List.append_nil]
 rcases Nat.eq_zero_or_pos q with rfl|h0
 ·exact .inl ⟨rfl,fun x=>rfl⟩
 ·have e: (l.take q).length=q:=by rw[List.length_take];omega
  refine .inr ⟨by omega,b,q,((l.drop q).map jt_).flatten++rest,by rw[e],by omega, ?_⟩
  rw[←List.append_assoc,←List.flatten_append,←List.map_append,List.take_append_drop]
  exact h
theorem JF_ {P:Program} {w0 w:World} {L:zb_} {b q c:Nat} {l:List Nat} {rest:List Value} {E:TypeId} (h:zk_ w0 L b=some (.cells ((l.map jt_).flatten++rest).toArray E (0,0))) (hq:q≤l.length) (hw:Hp w0 L w):AppX P w 1 (vsl b 0 q c) q ((l.take q).map jt_).flatten:=by
 refine AppX.block h ?_ ?_ (akc_ _) hw
 ·rw[List.size_toArray,List.length_append,kF_,List.length_map];omega
 ·rw[List.extract_toArray,List.extract_eq_take_drop,kF_,kF_]
  simp only[List.drop_zero,Nat.zero_add,Nat.mul_one,Nat.sub_zero]
  rw[List.take_append_of_le_length (by rw[List.length_map];exact hq),List.map_take]
theorem Wt_ {P:Program} {w0 w:World} {L:zb_} {b j c k:Nat} {l:List Nat} {rest:List Value} {E:TypeId} (h:zk_ w0 L b=some (.cells ((l.map jt_).flatten++rest).toArray E (0,0))) (hj:j≤l.length) (hc:l.length≤c) (hw:Hp w0 L w):AppX P w 1 (vsl b (if c=j then 0 else j) (l.length - j) k) (l.length - j) ((l.drop j).map jt_).flatten:=by
 by_cases hcj:c=j
 ·have e0:l.length - j=0:=by omega
  rw[if_pos hcj,e0,List.drop_eq_nil_of_le (by omega)]
  exact JF_ (l:=l) (q:=0) h (Nat.zero_le _) hw
 ·rw[if_neg hcj]
  refine AppX.block h ?_ ?_ (akc_ _) hw
  ·rw[List.size_toArray,List.length_append,kF_,List.length_map];omega
  ·rw[List.extract_toArray,List.extract_eq_take_drop,kF_,kF_]
   rw[List.drop_append_of_le_length (by rw[List.length_map];exact hj),Nat.mul_one,Nat.add_sub_cancel_left,List.take_append_of_le_length (by rw[List.length_drop,List.length_map];omega),←List.map_drop,List.take_of_length_le (by rw[List.length_map,List.length_drop];omega)]
theorem XT_ (a:Bool) (b n c j:Nat) (h:j≤n):qs_ (.sl (a,1)) (vsl b 0 n c) (some (some (j:Int))) none=some (vsl b (if c=j then 0 else j) (n - j) (c - j)):=by
 unfold qs_ vsl
 simp only[aeR_ n c (j:Int) ⟨by omega,by omega⟩,Int.toNat_natCast]
 by_cases hc:c=j
 ·simp[hc]
 ·simp[hc,qB_]
structure SkAG where
 i:Nat
 v:Value
 X:zb_
 Y:zb_
structure SkBG where
 k:Nat
 vl:Value
 vo:Value
 XO:zb_
 XL:zb_
 Y:zb_
set_option linter.defProp false
def zN_:=And.intro (@zA_) (@zz_)
theorem Wk_ (v:Value) (l:List (List UInt8)) (w:World) (hv:SlV 4 skL [] w v l) (hl:l.length<1000000) (hL:SmL l):
  Rets Tryz.prog 47 #[v] w (XS w [] (fun r D=>GrI D 3 1 r l.length ((ordV l).map jt_).flatten)):=by
 obtain⟨rb,off,arr,E,fz,hr⟩:=hv.row
 have ln:=fun x=>hr.len x
 refine Rets.enterX Tryz.func47 rfl (rs:= [.tmp 2]) Tryz.results47 Tryz.ntmps47 (fun p hp=>by cases hp) (by simp[keys]) ?_
 refine kf ?_
 first|with_reducible refine ks [] (And.intro @zN_ @ln) ?_|refine kp (And.intro @zN_ @ln) ?_
 refine Cw.loopG (G:=SkAG) [14,15,5,16,17,18,19,4,20,13] (fun g=> [(13,vi g.i),(4,g.v)]) (fun g=>g.X++g.Y) (fun g=>g.i≤l.length∧New w.heap.size g.X∧New w.heap.size g.Y∧Gr g.X 3 1 g.v g.i ((List.range g.i).map jt_).flatten) (fun g=>l.length - g.i) ⟨0, .slice none 0 0,[],[]⟩ rfl rfl ?_ ?_
 ·exact⟨Nat.zero_le _,trivial,trivial,Gr.nl⟩
 intro g j hg
 refine kv ?_
 obtain⟨i,vl,X,Y⟩:=g
 simp only at hg ⊢
 obtain⟨hi,hNX,hNY,hGr⟩:=hg
 by_cases hlt:i<l.length
 ·have hd0:decide ((i:Int)< (l.length:Int))=true:=decide_eq_true (by omega)
  first|with_reducible refine ks [] (And.intro @zN_ @hd0) ?_|refine kp (And.intro @zN_ @hd0) ?_
  refine Ow.buildSlice (e:=3) #[vi i] rfl rfl (by kernel_rfl) fun b9 hb9 hw9=> ?_
  refine Ow.appendXG (e:=3) (k:=1) (new:=jt_ i) (X:=X) vl (List.append_assoc _ _ _) rfl rfl rfl Tryz.underlying31 Tryz.ag3 (by kernel_rfl) wz_ rfl Tryz.underlying31 (by intro k h;cases h) hGr (fun w' hw'=>AppX.one1 (hw'.has b9 (.cells #[vi i] 3 (0,0)) (by simp)) (jm_ _) rfl) (by omega) (fun B3 v3 D3 hA3 hB3 hG3 hk13 hk23 hlk3=> ?_)
  have hN3:New w.heap.size D3:=New.of_le fun c hc=>by
   rcases hk23 c hc with h|h
   ·exact hNX.le c h
   ·omega
  refine ko @zN_ ?_
  first|with_reducible refine ks [] @zN_ ?_|refine kp @zN_ ?_
  exact Again.mk ⟨i+1,v3,D3,Y++ [(b9, .cells #[vi i] 3 (0,0))]⟩ (by show l.length - (i+1)<l.length - i;omega) ⟨hlt,hN3,hNY.app ⟨hw9,trivial⟩,alC_ hG3⟩ rfl rfl
 ·obtain rfl:i=l.length:=by omega
  have hd0:decide ((l.length:Int)< (l.length:Int))=false:=by simp
  first|with_reducible refine ks [] (And.intro @zN_ @hd0) ?_|refine kp (And.intro @zN_ @hd0) ?_
  have hL0:LfP X vl (List.range l.length):=LfP.of (by rw[List.length_range];exact hGr)
  clear hGr hd0 hlt hi
  refine Cw.loopG (G:=SkBG) [21,22,23,7,24,25,26,27,28,29,9,30,31,32,33,34,35,36,37,38,39,40,41,42,43,10,44,45,46,47,48,49,50,6,51,52,53,54,3,55,56,57,58,59,60,61,62,63,4] (fun g=> [(4,g.vl),(3,g.vo),(6,vi ((jE_ l g.k).a:Nat))]) (fun g=>g.XL++ (g.XO++g.Y)) (fun g=>g.k≤l.length∧New w.heap.size g.XO∧New w.heap.size g.XL∧New w.heap.size g.Y∧LfP (g.XL++g.Y) g.vl (jE_ l g.k).left∧Gr g.XO 3 1 g.vo g.k ((jE_ l g.k).out.map jt_).flatten) (fun g=>l.length - g.k) ⟨0,vl, .slice none 0 0,[],X,Y⟩ rfl rfl ?_ ?_
  ·exact⟨Nat.zero_le _,trivial,hNX,hNY,hL0.mono fun p hp=>List.mem_append_left _ hp,Gr.nl⟩
  intro g j hg
  refine kv ?_
  clear hNX hNY hL0
  obtain⟨u,vl,vo,XO,XL,Y⟩:=g
  simp only at hg ⊢
  obtain⟨hj,hNO,hNX,hNY,hL0,hGO⟩:=hg
  obtain⟨hi1,hi2,hi3,hi4⟩:=Qm_ l u hj
  have lnL:=hL0.len
  by_cases hlt:u<l.length
  ·obtain⟨hl0,bl,cl,rl,rfl,hlc,hll⟩:=hL0.resolve_left (fun h=>by rw[h.1] at hi1;simp at hi1;omega)
   have lnO:=fun x=>hGO.len x
   have hq:=ajt_ l (jE_ l u) hl0
   have hlft:=Wa_ hj
   have hat:=hi4 (by omega)
   have hord:jE_ l (u+1)=⟨(jE_ l u).left.getD (XX_ l (jE_ l u)) 0,(jE_ l u).left.take (XX_ l (jE_ l u))++ (jE_ l u).left.drop (XX_ l (jE_ l u)+1),(jE_ l u).out++ [(jE_ l u).left.getD (XX_ l (jE_ l u)) 0]⟩:=rfl
   have hqd:XX_ l (jE_ l u)=if u=0 then 0 else(ZB_ (l.getD (jE_ l u).a []) ((jE_ l u).left.map fun i=>l.getD i []) (jE_ l u).left.length).1.toNat:=by
    unfold XX_;rw[hi2]
   generalize XX_ l (jE_ l u)=q at*
   generalize (jE_ l u).left=left at*
   generalize (jE_ l u).out=out at*
   generalize (jE_ l u).a=at0 at*
   have d1:decide ((0:Int)< (left.length:Int))=true:=decide_eq_true (by omega)
   first|with_reducible refine ks [] (And.intro @zN_ (And.intro @lnL (@d1))) ?_|refine kp (And.intro @zN_ (And.intro @lnL (@d1))) ?_
   refine Cw.loopG (G:=SkAG) [27,28,29,9,30,31,32,33,34,35,36,7,37,26] (fun g=> [(26,vi g.i),(7,g.v)]) (fun g=>g.X++ (XL++ (XO++g.Y))) (fun g=>g.i≤left.length∧New w.heap.size g.X∧New w.heap.size g.Y∧Gr g.X 104 4 g.v g.i (((left.take g.i).map fun i=>l.getD i []).map skL).flatten∧(bl,Obj.cells ((left.map jt_).flatten++rl).toArray 3 (0,0))∈XL++g.Y) (fun g=>left.length - g.i) ⟨0, .slice none 0 0,[],Y⟩ rfl rfl ?_ ?_
   ·exact⟨Nat.zero_le _,trivial,hNY,Gr.nl,hll⟩
   intro g j hg
   refine kv ?_
   clear hNY hll
   obtain⟨i,vr,XR,Y⟩:=g
   simp only at hg ⊢
   obtain⟨hi,hNR,hNY,hGR,hll⟩:=hg
   have hll1: (bl,Obj.cells ((left.map jt_).flatten++rl).toArray 3 (0,0))∈XL∨(bl,Obj.cells ((left.map jt_).flatten++rl).toArray 3 (0,0))∈Y:=List.mem_append.1 hll
   refine Cw.world fun wz hwz=> ?_
   have hnd:=hwz.nodup
   clear hwz wz
   have rdl:zk_ w (XR++ (XL++ (XO++Y))) bl=some (.cells ((left.map jt_).flatten++rl).toArray 3 (0,0)):=zt_ (zF_ hnd (by rcases hll1 with h|h<;>simp[h]))
   by_cases hli:i<left.length
   ·have d2:decide ((i:Int)< (left.length:Int))=true:=decide_eq_true (by omega)
    have ixl:=qz_ (false,1) bl 0 left.length cl i ⟨by omega,by omega⟩
    have ldl:=Qw_ (rest:=rl) (E:=3) (fz:=(0,0)) hli 1
    have hts: (left.take (i+1)).map (fun i=>l.getD i [])=(left.take i).map (fun i=>l.getD i [])++ [l.getD (left.getD i 0) []]:=by
     rw[StP.take_snoc (z:=0) hli,List.map_append];rfl
    have hja:left.getD i 0<l.length:=hlft _ (by rw[List.getD_eq_getElem?_getD,List.getElem?_eq_getElem hli];exact List.getElem_mem _)
    generalize left.getD i 0=j at*
    have ixa:=hr.idx true j hja
    have lda:=akj_ hr hja
    have hrl:=hr.lt (by omega)
    have hNN:New w.heap.size (XR++ (XL++ (XO++Y))):=hNR.app (hNX.app (hNO.app hNY))
    have rda:zk_ w (XR++ (XL++ (XO++Y))) rb=some (.cells arr E fz):=by rw[zX_ (hNN.not hrl)];exact hr.has (by omega)
    simp only[Nat.mul_one,Nat.zero_add,Int.toNat_natCast] at ixl
    generalize l.getD j []=c at*
    first|with_reducible refine ks [] (And.intro @zN_ (And.intro @d2 (And.intro @ixl (And.intro @ldl (And.intro @rdl (And.intro @ixa (And.intro @lda (@rda)))))))) ?_|refine kp (And.intro @zN_ (And.intro @d2 (And.intro @ixl (And.intro @ldl (And.intro @rdl (And.intro @ixa (And.intro @lda (@rda)))))))) ?_
    refine Ow.buildSlice (e:=104) (skL c).toArray rfl rfl (aeq_ _) fun b9 hb9 hw9=> ?_
    refine ko @zN_ ?_
    refine Ow.appendXG (e:=104) (k:=1) (new:=skL c) (X:=XR) vr (List.append_assoc _ _ _) rfl rfl rfl Tryz.underlying101 Tryz.ag104 (by kernel_rfl) zrSk rfl Tryz.underlying101 (by intro k h;cases h) hGR (fun w' hw'=>AppX.one1 (hw'.has b9 (.cells (skL c).toArray 104 (0,0)) (by simp)) (Zl_ _) (abn_ _)) (by omega) (fun B3 v3 D3 hA3 hB3 hG3 hk13 hk23 hlk3=> ?_)
    have hN3:New w.heap.size D3:=New.of_le fun c hc=>by
     rcases hk23 c hc with h|h
     ·exact hNR.le c h
     ·omega
    refine ko @zN_ ?_
    first|with_reducible refine ks [] @zN_ ?_|refine kp @zN_ ?_
    refine Again.mk ⟨i+1,v3,D3,Y++ [(b9, .cells (skL c).toArray 104 (0,0))]⟩ (by show left.length - (i+1)<left.length - i;omega) ⟨hli,hN3,hNY.app ⟨hw9,trivial⟩, ?_,by rw[←List.append_assoc];exact List.mem_append_left _ hll⟩ (by simp[List.append_assoc]) rfl
    show Gr D3 104 4 v3 (i+1) (((left.take (i+1)).map fun i=>l.getD i []).map skL).flatten
    rw[hts]
    simpa using hG3
   ·obtain rfl:i=left.length:=by omega
    have d2:decide ((left.length:Int)< (left.length:Int))=false:=by simp
    have ixa:=hr.idx true at0 hat
    have lda:=akj_ hr hat
    have hrl:=hr.lt (by omega)
    have hNN:New w.heap.size (XR++ (XL++ (XO++Y))):=hNR.app (hNX.app (hNO.app hNY))
    have rda:zk_ w (XR++ (XL++ (XO++Y))) rb=some (.cells arr E fz):=by rw[zX_ (hNN.not hrl)];exact hr.has (by omega)
    rw[List.take_length] at hGR
    have hsa:=hL at0 hat
    have hlm: (left.map fun i=>l.getD i []).length=left.length:=List.length_map _
    have hsm:SmL (left.map fun i=>l.getD i []):=fun k hk=>by
     rw[hlm] at hk
     rw[List.getD_eq_getElem?_getD,List.getElem?_map,List.getElem?_eq_getElem hk]
     exact hL _ (hlft _ (List.getElem_mem _))
    first|with_reducible refine ks [] (And.intro @zN_ (And.intro @d2 (And.intro @ixa (And.intro @lda (@rda))))) ?_|refine kp (And.intro @zN_ (And.intro @d2 (And.intro @ixa (And.intro @lda (@rda))))) ?_
    refine Ow.callC rfl rfl Tryz.call87 (fun w' hw'=>Rets.toX (ahv_ (l.getD at0 []) vr (left.map fun i=>l.getD i []) w' (hGR.slM (fun b o hm=>hw'.has b o (by simp[hm])) hlm rfl Zl_) (by omega) hsa hsm)) (fun B4 v4 D4 hA4 hB4 hN4 hS4=> ?_)
    obtain⟨rfl,rfl⟩:=hS4
    rw[List.append_nil,hlm]
    refine Ow.permL (M:=XO++ (XL++ (XR++Y))) (by classical exact List.perm_iff_count.2 fun a=>by simp only[List.count_append,List.count_cons,List.count_nil]<;>omega) ?_
    refine Ow.world fun wz hwz=> ?_
    have hnd:=hwz.nodup
    clear hwz wz
    have hll': (bl,Obj.cells ((left.map jt_).flatten++rl).toArray 3 (0,0))∈XL++ (XR++Y):=by rcases hll1 with h|h<;>simp[h]
    have hNY':New w.heap.size (XR++Y):=hNR.app hNY
    clear hll1 hll hGR hNR hNY
    generalize XR++Y=Y' at*
    have rdl:zk_ w (XO++ (XL++Y')) bl=some (.cells ((left.map jt_).flatten++rl).toArray 3 (0,0)):=zt_ (zF_ hnd (by rcases List.mem_append.1 hll' with h|h<;>simp[h]))
    clear hnd
    have hix:ixT Tryz.prog 31= .sl (false,1):=id (by kernel_rfl)
    have ixq:=qz_ (false,1) bl 0 left.length cl q ⟨by omega,by omega⟩
    have ldq:=Qw_ (rest:=rl) (E:=3) (fz:=(0,0)) hq 1
    simp only[Nat.mul_one,Nat.zero_add,Int.toNat_natCast] at ixq
    rcases Nat.eq_zero_or_pos u with hu0|hu0
    ·have e1: ((u:Int)==0)=true:=by rw[hu0];rfl
     rw[if_pos hu0] at hqd
     subst hqd
     generalize left.getD 0 0=j at*
     refine ko (And.intro @zN_ (And.intro @lnO (@e1))) ?_
     first|with_reducible refine ks [] (And.intro @zN_ (And.intro @lnO (And.intro @e1 (And.intro @ixq (And.intro @rdl (@ldq)))))) ?_|refine kp (And.intro @zN_ (And.intro @lnO (And.intro @e1 (And.intro @ixq (And.intro @rdl (@ldq)))))) ?_
     refine Ow.buildSlice (e:=3) #[vi j] rfl rfl (by kernel_rfl) fun b9 hb9 hw9=> ?_
     refine Ow.appendXG (e:=3) (k:=1) (new:=jt_ j) (X:=XO) vo (List.append_assoc _ _ _) rfl rfl rfl Tryz.underlying31 Tryz.ag3 (by kernel_rfl) wz_ rfl Tryz.underlying31 (by intro k h;cases h) hGO (fun w' hw'=>AppX.one1 (hw'.has b9 (.cells #[vi j] 3 (0,0)) (by simp)) (jm_ _) rfl) (by omega) (fun B3 v3 D3 hA3 hB3 hG3 hk13 hk23 hlk3=> ?_)
     have hN3:New w.heap.size D3:=New.of_le fun c hc=>by
      rcases hk23 c hc with h|h
      ·exact hNO.le c h
      ·omega
     have hG3':Gr D3 3 1 v3 (u+1) ((out++ [j]).map jt_).flatten:=by simpa using hG3
     refine ko @zN_ ?_
     first|with_reducible refine ks [] @zN_ ?_|refine kp @zN_ ?_
     refine Cw.world fun wz hwz=> ?_
     have hnd:=hwz.nodup
     clear hwz wz
     have hvt':qs_ (.sl (false,1)) (vsl bl 0 left.length cl) (some (some ((0)+1))) none=some (vsl bl (if cl=0+1 then 0 else 0+1) (left.length - (0+1)) (cl - (0+1))):=by
      have:=XT_ false bl left.length cl (0+1) (by omega)
      rw[show((0+1:Nat):Int)=(0)+1 by omega] at this
      exact this
     have rdn:zk_ w (D3++ (XL++Y'++ [(b9,Obj.cells #[vi j] 3 (0,0))])) bl=some (.cells ((left.map jt_).flatten++rl).toArray 3 (0,0)):=zt_ (zF_ hnd (by rcases List.mem_append.1 hll' with h|h<;>simp[h]))
     refine Cw.regionG [] [] 10 (by kernel_rfl) rfl ?_
     refine kyc ?_
     refine OwG.run [0,1,2,4,5,6,7] [true,true,true,false,true,true,true,true,false,false] 3 rfl (by kernel_rfl) (by kernel_rfl) fun k hk=> ?_
     refine kya ?_
     refine kp (And.intro @zN_ (And.intro @Md.next_sofnil (@hvt'))) ?_
     (with_reducible refine hk _ _ _ ?_);clear hk k
     refine OwG.one 3 _ (by kernel_rfl) rfl ?_
     refine Ow.sliceKK (k:=0) rfl hix rfl rfl rfl (by omega) ?_
     with_reducible refine Ow.nilD ?_
     refine kyb ?_
     refine OwG.one 8 _ (by kernel_rfl) rfl ?_
     refine Ow.appendFull (e:=3) (b:=bl) (off:=0) (n:=0) (k:=left.length - (0+1)) (cs:=((left.take (0)).map jt_).flatten) (new:=((left.drop (0+1)).map jt_).flatten) rfl rfl rfl Tryz.underlying31 Tryz.ag3 (by kernel_rfl) wz_ rfl Tryz.underlying31 (by intro k h;cases h) (fun w' hw'=>JF_ (q:=0) rdn (by omega) hw') (fun w' hw'=>Wt_ (j:=0+1) rdn (by omega) hlc hw') (by omega) (fun hk=> ?_) (fun B5 v5 D5 hA5 hB5 hk hb5 hn5=> ?_)
     ·skip
      with_reducible refine Ow.nilD ?_
      refine kyb ?_
      refine OwG.rest [9] rfl (by kernel_rfl) (by kernel_rfl) ?_
      refine kya ?_
      refine kq @zN_ ?_
      try with_reducible refine Ow.nil ?_
      first|with_reducible refine ks [] @zN_ ?_|refine kp @zN_ ?_
      refine Again.mk ⟨u+1,vsl bl 0 (0) (0),v3,D3,[],XL++Y'++ [(b9, .cells #[vi j] 3 (0,0))]⟩ (by show l.length - (u+1)<l.length - u;omega) ⟨hlt,hN3,trivial,(hNX.app hNY').app ⟨hw9,trivial⟩, ?_, ?_⟩ (by simp[List.append_assoc]) (by simp only[hord];rfl)
      ·rw[hord]
       refine(LfP.cut hll' (by omega)).mono fun p hp=> ?_
       show p∈ []++ (XL++Y'++ [(b9,Obj.cells #[vi j] 3 (0,0))])
       rw[List.nil_append]
       exact List.mem_append_left _ hp
      ·rw[hord];exact hG3'
     ·skip
      with_reducible refine Ow.nil ?_
      refine⟨(fun r hr=>by cases hr), ?_⟩
      refine kyb ?_
      refine OwG.rest [9] rfl (by kernel_rfl) (by kernel_rfl) ?_
      refine kya ?_
      refine kq @zN_ ?_
      try with_reducible refine Ow.nil ?_
      first|with_reducible refine ks [] @zN_ ?_|refine kp @zN_ ?_
      refine Again.mk ⟨u+1,v5,v3,D3,D5,XL++Y'++ [(b9, .cells #[vi j] 3 (0,0))]⟩ (by show l.length - (u+1)<l.length - u;omega) ⟨hlt,hN3,New.of_le fun c hc=>by have:=hn5 c hc;omega,(hNX.app hNY').app ⟨hw9,trivial⟩, ?_, ?_⟩ (by simp[List.append_assoc]) (by simp only[hord];rfl)
      ·rw[hord]
       refine(LfP.of (X:=D5) (.inl ?_)).mono fun p hp=>List.mem_append_left _ hp
       have:=hb5
       rw[←List.flatten_append,←List.map_append] at this
       rw[show(left.take (0)++left.drop (0+1)).length=0+ (left.length - (0+1)) by rw[List.length_append,List.length_take,List.length_drop];omega]
       exact this
      ·rw[hord];exact hG3'
    ·have e1: ((u:Int)==0)=false:=by rw[beq_eq_false_iff_ne];omega
     rw[if_neg (by omega)] at hqd
     have hnq:=(VG_ (l.getD at0 []) (left.map fun i=>l.getD i []) left.length hl0).1
     rw[show(ZB_ (l.getD at0 []) (left.map fun i=>l.getD i []) left.length).1=(q:Int) by omega]
     clear hqd hnq
     generalize left.getD q 0=j at*
     refine ko (And.intro @zN_ (And.intro @lnO (@e1))) ?_
     first|with_reducible refine ks [] (And.intro @zN_ (And.intro @lnO (And.intro @e1 (And.intro @ixq (And.intro @rdl (@ldq)))))) ?_|refine kp (And.intro @zN_ (And.intro @lnO (And.intro @e1 (And.intro @ixq (And.intro @rdl (@ldq)))))) ?_
     refine Ow.buildSlice (e:=3) #[vi j] rfl rfl (by kernel_rfl) fun b9 hb9 hw9=> ?_
     refine Ow.appendXG (e:=3) (k:=1) (new:=jt_ j) (X:=XO) vo (List.append_assoc _ _ _) rfl rfl rfl Tryz.underlying31 Tryz.ag3 (by kernel_rfl) wz_ rfl Tryz.underlying31 (by intro k h;cases h) hGO (fun w' hw'=>AppX.one1 (hw'.has b9 (.cells #[vi j] 3 (0,0)) (by simp)) (jm_ _) rfl) (by omega) (fun B3 v3 D3 hA3 hB3 hG3 hk13 hk23 hlk3=> ?_)
     have hN3:New w.heap.size D3:=New.of_le fun c hc=>by
      rcases hk23 c hc with h|h
      ·exact hNO.le c h
      ·omega
     have hG3':Gr D3 3 1 v3 (u+1) ((out++ [j]).map jt_).flatten:=by simpa using hG3
     refine ko @zN_ ?_
     first|with_reducible refine ks [] @zN_ ?_|refine kp @zN_ ?_
     refine Cw.world fun wz hwz=> ?_
     have hnd:=hwz.nodup
     clear hwz wz
     have hvt':qs_ (.sl (false,1)) (vsl bl 0 left.length cl) (some (some (((q:Int))+1))) none=some (vsl bl (if cl=q+1 then 0 else q+1) (left.length - (q+1)) (cl - (q+1))):=by
      have:=XT_ false bl left.length cl (q+1) (by omega)
      rw[show((q+1:Nat):Int)=((q:Int))+1 by omega] at this
      exact this
     have rdn:zk_ w (D3++ (XL++Y'++ [(b9,Obj.cells #[vi j] 3 (0,0))])) bl=some (.cells ((left.map jt_).flatten++rl).toArray 3 (0,0)):=zt_ (zF_ hnd (by rcases List.mem_append.1 hll' with h|h<;>simp[h]))
     refine Cw.regionG [] [] 10 (by kernel_rfl) rfl ?_
     refine kyc ?_
     refine OwG.run [0,1,2,4,5,6,7] [true,true,true,false,true,true,true,true,false,false] 3 rfl (by kernel_rfl) (by kernel_rfl) fun k hk=> ?_
     refine kya ?_
     refine kp (And.intro @zN_ (And.intro @Md.next_sofnil (@hvt'))) ?_
     (with_reducible refine hk _ _ _ ?_);clear hk k
     refine OwG.one 3 _ (by kernel_rfl) rfl ?_
     refine Ow.sliceKK (k:=q) rfl hix rfl rfl rfl (by omega) ?_
     with_reducible refine Ow.nilD ?_
     refine kyb ?_
     refine OwG.one 8 _ (by kernel_rfl) rfl ?_
     refine Ow.appendFull (e:=3) (b:=bl) (off:=0) (n:=q) (k:=left.length - (q+1)) (cs:=((left.take (q)).map jt_).flatten) (new:=((left.drop (q+1)).map jt_).flatten) rfl rfl rfl Tryz.underlying31 Tryz.ag3 (by kernel_rfl) wz_ rfl Tryz.underlying31 (by intro k h;cases h) (fun w' hw'=>JF_ (q:=q) rdn (by omega) hw') (fun w' hw'=>Wt_ (j:=q+1) rdn (by omega) hlc hw') (by omega) (fun hk=> ?_) (fun B5 v5 D5 hA5 hB5 hk hb5 hn5=> ?_)
     ·skip
      with_reducible refine Ow.nilD ?_
      refine kyb ?_
      refine OwG.rest [9] rfl (by kernel_rfl) (by kernel_rfl) ?_
      refine kya ?_
      refine kq @zN_ ?_
      try with_reducible refine Ow.nil ?_
      first|with_reducible refine ks [] @zN_ ?_|refine kp @zN_ ?_
      refine Again.mk ⟨u+1,vsl bl 0 (q) (q),v3,D3,[],XL++Y'++ [(b9, .cells #[vi j] 3 (0,0))]⟩ (by show l.length - (u+1)<l.length - u;omega) ⟨hlt,hN3,trivial,(hNX.app hNY').app ⟨hw9,trivial⟩, ?_, ?_⟩ (by simp[List.append_assoc]) (by simp only[hord];rfl)
      ·rw[hord]
       refine(LfP.cut hll' (by omega)).mono fun p hp=> ?_
       show p∈ []++ (XL++Y'++ [(b9,Obj.cells #[vi j] 3 (0,0))])
       rw[List.nil_append]
       exact List.mem_append_left _ hp
      ·rw[hord];exact hG3'
     ·skip
      with_reducible refine Ow.nil ?_
      refine⟨(fun r hr=>by cases hr), ?_⟩
      refine kyb ?_
      refine OwG.rest [9] rfl (by kernel_rfl) (by kernel_rfl) ?_
      refine kya ?_
      refine kq @zN_ ?_
      try with_reducible refine Ow.nil ?_
      first|with_reducible refine ks [] @zN_ ?_|refine kp @zN_ ?_
      refine Again.mk ⟨u+1,v5,v3,D3,D5,XL++Y'++ [(b9, .cells #[vi j] 3 (0,0))]⟩ (by show l.length - (u+1)<l.length - u;omega) ⟨hlt,hN3,New.of_le fun c hc=>by have:=hn5 c hc;omega,(hNX.app hNY').app ⟨hw9,trivial⟩, ?_, ?_⟩ (by simp[List.append_assoc]) (by simp only[hord];rfl)
      ·rw[hord]
       refine(LfP.of (X:=D5) (.inl ?_)).mono fun p hp=>List.mem_append_left _ hp
       have:=hb5
       rw[←List.flatten_append,←List.map_append] at this
       rw[show(left.take (q)++left.drop (q+1)).length=q+ (left.length - (q+1)) by rw[List.length_append,List.length_take,List.length_drop];omega]
       exact this
      ·rw[hord];exact hG3'
  ·obtain rfl:u=l.length:=by omega
   have e0: (jE_ l l.length).left.length=0:=by omega
   rw[e0] at lnL
   first|with_reducible refine ks [] (And.intro @zN_ @lnL) ?_|refine kp (And.intro @zN_ @lnL) ?_
   refine⟨_,(ke @zN_), ?_⟩
   exact⟨Ext.of_new (hNX.app (hNO.app hNY)),hGO.i fun p hp=>by simp[hp]⟩
end Go.Proofs
end
section
open Go Go.Proofs Go.Sx Go.StP
namespace Go.Proofs
set_option maxRecDepth 10000
set_option maxHeartbeats 1000000
set_option linter.unusedSimpArgs false
set_option linter.defProp false
end Go.Proofs
end
namespace Go.RooP
open Go Go.Sx
abbrev Il:=List (List UInt8)
def Ris (l:Il):Prop:=l.Pairwise fun a b=>ltB a b=true
theorem Ris.ext: ∀ {a b:Il},Ris a→Ris b→(∀x,x∈a↔x∈b)→a=b
 | [],[],_,_,_=>rfl
 | [],y::b,_,_,h=>by have:=(h y).2 List.mem_cons_self;cases this
 |x::a,[],_,_,h=>by have:=(h x).1 List.mem_cons_self;cases this
 |x::a,y::b,ha,hb,h=>by
  have pa:=List.pairwise_cons.1 ha
  have pb:=List.pairwise_cons.1 hb
  have hxy:x=y:=by
   rcases List.mem_cons.1 ((h x).1 List.mem_cons_self) with e|e
   ·exact e
   ·rcases List.mem_cons.1 ((h y).2 List.mem_cons_self) with e2|e2
    ·exact e2.symm
    ·have h1:=pa.1 y e2
     have h2:=pb.1 x e
     rw[WY_ h1] at h2;cases h2
  subst hxy
  congr 1
  refine Ris.ext pa.2 pb.2 fun z=> ?_
  have hz:=h z
  rw[List.mem_cons,List.mem_cons] at hz
  constructor
  ·intro hm
   rcases hz.1 (.inr hm) with rfl|h3
   ·have:=pa.1 z hm;rw[xz_] at this;cases this
   ·exact h3
  ·intro hm
   rcases hz.2 (.inr hm) with rfl|h3
   ·have:=pb.1 z hm;rw[xz_] at this;cases this
   ·exact h3
end Go.RooP
namespace Go.RefP
open Go Go.Sx
abbrev Pr:=List UInt8×List UInt8
def zp:Pr:=([],[])
def setM (z:List UInt8) (r:Pr) (m:j1_):j1_:=if r.2==z then delV r.1 (updV r.1 r.2 m) else updV r.1 r.2 m
def Jb_ (x:Pr):j1_→Bool→j1_
 | [],dn=>if dn then [] else [x]
 |p::r,dn=>if p.1==x.1 then Jb_ x r dn else if !dn&& !(ltB p.1 x.1||p.1==x.1) then x::p::Jb_ x r true else p::Jb_ x r dn
def setL (z:List UInt8) (l:j1_) (x:Pr):j1_:=Jb_ x l (x.2==z)
def Rising (l:j1_):Prop:=l.Pairwise fun a b=>ltB a.1 b.1=true
def kY_ (m:j1_):Prop:=(m.map Prod.fst).Nodup
theorem Rising.nd {l:j1_} (h:Rising l):kY_ l:=by
 unfold kY_ List.Nodup
 rw[List.pairwise_map]
 exact List.Pairwise.imp (fun hab=>apd_ hab) h
def but (k:List UInt8) (m:j1_):j1_:=m.filter fun p=> !(p.1==k)
theorem KJ_ {k:List UInt8} {m:j1_} (h:k∉m.map Prod.fst):but k m=m:=by
 unfold but
 refine List.filter_eq_self.2 fun p hp=> ?_
 have:p.1≠k:=fun e=>h (List.mem_map.2 ⟨p,hp,e⟩)
 simp[this]
theorem Wi_ (k:List UInt8) (m:j1_):k∉ (but k m).map Prod.fst:=by
 intro h
 obtain⟨p,hp,rfl⟩:=List.mem_map.1 h
 simp[but] at hp
theorem wE_ {k v:List UInt8}: ∀ {m:j1_},kY_ m→(updV k v m).Perm ((k,v)::but k m)
 | [],_=>List.Perm.refl _
 |p::r,h=>by
  simp only[kY_,List.map_cons,List.nodup_cons] at h
  unfold updV
  cases hk: (k==p.1)
  ·simp only[Bool.false_eq_true, ↓reduceIte]
   have hk': (p.1==k)=false:=by
    rw[beq_eq_false_iff_ne] at hk ⊢;exact fun e=>hk e.symm
   have ih:=wE_ (k:=k) (v:=v) (m:=r) h.2
   have:but k (p::r)=p::but k r:=by unfold but;rw[List.filter_cons];simp[hk']
   rw[this]
   exact(List.Perm.cons p ih).trans (List.Perm.swap _ _ _)
  ·simp only[↓reduceIte]
   have e:k=p.1:=by simpa using hk
   subst e
   have:but p.1 (p::r)=r:=by
    have h2:=KJ_ h.1
    unfold but at h2 ⊢;rw[List.filter_cons];simp[h2]
   rw[this]
theorem an9_ {k v:List UInt8} {m:j1_} (h:kY_ m):kY_ (updV k v m):=by
 have hp:=(wE_ (k:=k) (v:=v) h).map Prod.fst
 refine(List.Perm.nodup_iff hp).2 ?_
 simp only[List.map_cons,List.nodup_cons]
 refine⟨Wi_ k m, ?_⟩
 exact List.Nodup.sublist (List.Sublist.map _ List.filter_sublist) h
theorem ajx_ {k:List UInt8}: ∀ {m:j1_},kY_ m→delV k m=but k m
 | [],_=>rfl
 |p::r,h=>by
  simp only[kY_,List.map_cons,List.nodup_cons] at h
  unfold delV
  cases hk: (k==p.1)
  ·have hk': (p.1==k)=false:=by
    rw[beq_eq_false_iff_ne] at hk ⊢;exact fun e=>hk e.symm
   simp only[Bool.false_eq_true, ↓reduceIte,ajx_ h.2]
   unfold but;rw[List.filter_cons];simp[hk']
  ·have e:k=p.1:=by simpa using hk
   subst e
   simp only[↓reduceIte]
   have h2:=KJ_ h.1
   unfold but at h2 ⊢;rw[List.filter_cons];simp[h2]
theorem anh_ {k v:List UInt8} {m:j1_} (h:kY_ m): (but k (updV k v m)).Perm (but k m):=by
 have hp:=(wE_ (k:=k) (v:=v) h).filter fun p=> !(p.1==k)
 have e1:List.filter (fun p=> !(p.1==k)) ((k,v)::but k m)=but k m:=by
  rw[List.filter_cons]
  simp only[beq_self_eq_true,Bool.not_true,Bool.false_eq_true, ↓reduceIte]
  exact KJ_ (Wi_ k m)
 rw[e1] at hp
 exact hp
theorem ajA_ {z:List UInt8} {r:Pr} {m:j1_} (h:kY_ m): (setM z r m).Perm (if r.2==z then but r.1 m else r::but r.1 m):=by
 unfold setM
 split
 ·rw[ajx_ (an9_ h)];exact anh_ h
 ·exact wE_ h
theorem xt_ (x:Pr): ∀ (l:j1_),Jb_ x l true=but x.1 l
 | []=>rfl
 |p::r=>by
  unfold Jb_
  cases h: (p.1==x.1)
  ·simp only[Bool.false_eq_true, ↓reduceIte,Bool.not_true,Bool.false_and,xt_ x r]
   unfold but;rw[List.filter_cons];simp[h]
  ·simp only[↓reduceIte,xt_ x r]
   unfold but;rw[List.filter_cons];simp[h]
theorem vx_ (x:Pr): ∀ (l:j1_),(Jb_ x l false).Perm (x::but x.1 l)
 | []=>List.Perm.refl _
 |p::r=>by
  unfold Jb_
  cases h: (p.1==x.1)
  ·have e:but x.1 (p::r)=p::but x.1 r:=by unfold but;rw[List.filter_cons];simp[h]
   simp only[Bool.false_eq_true, ↓reduceIte,Bool.not_false,Bool.true_and,Bool.or_false]
   rw[e]
   split
   ·rw[xt_]
   ·exact(List.Perm.cons p (vx_ x r)).trans (List.Perm.swap _ _ _)
  ·have e:but x.1 (p::r)=but x.1 r:=by unfold but;rw[List.filter_cons];simp[h]
   simp only[↓reduceIte]
   rw[e]
   exact vx_ x r
theorem ajl_ (z:List UInt8) (l:j1_) (x:Pr): (setL z l x).Perm (if x.2==z then but x.1 l else x::but x.1 l):=by
 unfold setL
 cases x.2==z
 ·exact vx_ x l
 ·rw[xt_];exact List.Perm.refl _
theorem XV_ {k:List UInt8} {l:j1_} (h:Rising l):Rising (but k l):=List.Pairwise.sublist List.filter_sublist h
theorem ag0_ {x p:Pr} {l:j1_} (h:p∈Jb_ x l false):p=x∨p∈l:=by
 have:=(vx_ x l).mem_iff.1 h
 rcases List.mem_cons.1 this with rfl|h2
 ·exact .inl rfl
 ·exact .inr (List.mem_filter.1 h2).1
theorem k5_ (x:Pr): ∀ {l:j1_},Rising l→Rising (Jb_ x l false)
 | [],_=>List.pairwise_singleton _ _
 |p::r,h=>by
  have h':=List.pairwise_cons.1 h
  unfold Jb_
  cases hk: (p.1==x.1)
  ·simp only[Bool.false_eq_true, ↓reduceIte,Bool.not_false,Bool.true_and,Bool.or_false]
   have hne:p.1≠x.1:=by simpa using hk
   cases hl:ltB p.1 x.1
   ·have hx:=vc_ hl hne
    simp only[Bool.not_false, ↓reduceIte]
    rw[xt_]
    refine List.pairwise_cons.2 ⟨?_,List.pairwise_cons.2 ⟨?_,XV_ h'.2⟩⟩
    ·intro q hq
     rcases List.mem_cons.1 hq with rfl|hq
     ·exact hx
     ·exact k3_ hx (h'.1 q (List.mem_filter.1 hq).1)
    ·intro q hq
     exact h'.1 q (List.mem_filter.1 hq).1
   ·simp only[Bool.not_true,Bool.false_eq_true, ↓reduceIte]
    refine List.pairwise_cons.2 ⟨?_,k5_ x h'.2⟩
    intro q hq
    rcases ag0_ hq with rfl|hq
    ·exact hl
    ·exact h'.1 q hq
  ·simp only[↓reduceIte]
   exact k5_ x h'.2
theorem adC_ {z:List UInt8} {l:j1_} {x:Pr} (h:Rising l):Rising (setL z l x):=by
 unfold setL
 cases x.2==z
 ·exact k5_ x h
 ·rw[xt_];exact XV_ h
def Rel (m l:j1_):Prop:=m.Perm l∧Rising l
theorem Rel.nd {m l:j1_} (h:Rel m l):kY_ m:=(List.Perm.nodup_iff (h.1.map Prod.fst)).2 h.2.nd
theorem Rel.set {z:List UInt8} {m l:j1_} {x:Pr} (h:Rel m l):Rel (setM z x m) (setL z l x):=by
 refine⟨?_,adC_ h.2⟩
 have hb: (but x.1 m).Perm (but x.1 l):=h.1.filter _
 refine(ajA_ h.nd).trans (List.Perm.trans ?_ (ajl_ z l x).symm)
 split
 ·exact hb
 ·exact List.Perm.cons _ hb
def aqG_ (nm:List UInt8→Bool) (z:List UInt8) (t:j1_) (g:Nat):Bool:=
 nm (t.getD g zp).1&& !((t.getD g zp).2==z)&& (g==0||ltB (t.getD (g - 1) zp).1 (t.getD g zp).1)
def logL (nm:List UInt8→Bool) (z:List UInt8) (l:j1_) (m0:j1_):Nat→Option j1_
 |0=>some m0
 |g+1=>(logL nm z l m0 g).bind fun m=>if(nm (l.getD g zp).1&&decide ((setL z m (l.getD g zp)).length≤16))=true then some (setL z m (l.getD g zp)) else none
def apQ_ (nm:List UInt8→Bool) (z:List UInt8) (t:j1_):Bool:=(List.range t.length).all (aqG_ nm z t)
def ofL (nm:List UInt8→Bool) (z:List UInt8) (t l:j1_) (k:Nat):Option j1_:=
 if t.length≤16∧l.length≤100∧apQ_ nm z t=true then logL nm z l t k else none
def aad_ (nm:List UInt8→Bool) (z:List UInt8) (t l:j1_):Bool:=(ofL nm z t l l.length).isSome
theorem K8_ {k v:List UInt8}: ∀ {m:j1_} {p:Pr},p∈updV k v m→p.2=v∨p∈m
 | [],p,h=>by simp only[updV,List.mem_singleton] at h;exact .inl (by rw[h])
 |q::r,p,h=>by
  unfold updV at h
  split at h
  ·rcases List.mem_cons.1 h with rfl|h
   ·exact .inl rfl
   ·exact .inr (List.mem_cons_of_mem _ h)
  ·rcases List.mem_cons.1 h with rfl|h
   ·exact .inr List.mem_cons_self
   ·rcases K8_ h with h|h
    ·exact .inl h
    ·exact .inr (List.mem_cons_of_mem _ h)
theorem aeg_ {k:List UInt8}: ∀ {m:j1_} {p:Pr},p∈delV k m→p∈m
 | [],_,h=>h
 |q::r,p,h=>by
  unfold delV at h
  split at h
  ·exact List.mem_cons_of_mem _ h
  ·rcases List.mem_cons.1 h with rfl|h
   ·exact List.mem_cons_self
   ·exact List.mem_cons_of_mem _ (aeg_ h)
theorem alp_ {z:List UInt8} {r p:Pr} {m:j1_} (h:p∈setM z r m):p.2=r.2∨p∈m:=by
 unfold setM at h
 split at h
 ·exact K8_ (aeg_ h)
 ·exact K8_ h
def AllLen (m:j1_):Prop:= ∀p,p∈m→p.2.length=32
theorem AllLen.set {z:List UInt8} {r:Pr} {m:j1_} (h:AllLen m) (hr:r.2.length=32):AllLen (setM z r m):=by
 intro p hp
 rcases alp_ hp with e|h2
 ·rw[e];exact hr
 ·exact h p h2
end Go.RefP
section
open Go Go.Proofs Go.Sx Go.RefP Go.RooP
namespace Go.Proofs
set_option maxRecDepth 100000
set_option maxHeartbeats 400000
set_option linter.unusedSimpArgs false
theorem aht_: ∀ (a b:List UInt8),Lib.compareBytes a b=if ltB a b=true then -1 else if ltB b a=true then 1 else 0
 | [],[]=>by simp[Lib.compareBytes,ltB,Op.bytesLess]
 |_::_,[]=>by simp[Lib.compareBytes,ltB,Op.bytesLess]
 | [],_::_=>by simp[Lib.compareBytes,ltB,Op.bytesLess]
 |a::x,b::y=>by
  have ih:=aht_ x y
  unfold Lib.compareBytes
  rw[QS_,QS_] at*
  rw[ih]
  simp only[List.cons_lt_cons_iff,decide_eq_true_eq]
  by_cases h1:a<b
  ·simp[h1]
  ·by_cases h2:b<a
   ·have: ¬a=b:=fun e=>by subst e;exact h1 h2
    simp[h1,h2,this]
   ·have:a=b:=UInt8.le_antisymm (UInt8.not_lt.1 h2) (UInt8.not_lt.1 h1)
    subst this
    simp[h1]
theorem v4_ {b:Nat} {E:TypeId} {fz:Nat×Nat} {arr:Array Value} {w:World} (hb:w.heap[b]? =some (.cells arr E fz)): ∀ (l:List UInt8) (off:Nat) (acc:ByteArray),(∀j,j<l.length→arr[off+j]? =some (v8 (l.getD j 0)))→
  (Extern.Bytes.loadBytes ⟨b,off,none⟩ l.length acc).run Tryz.prog w= .ok (acc++ ⟨l.toArray⟩) w
 | [],off,acc,_=>by
  show Result.ok acc w=_
  congr 1
  apply ByteArray.ext
  simp
 |x::l,off,acc,h=>by
  have h0:=h 0 (by simp)
  simp only[Nat.add_zero,List.getD_cons_zero] at h0
  have hc:w.cell? ⟨b,off,none⟩=some (v8 x):=by rw[cell_of_row w b _ arr E fz hb];exact h0
  have hld: (load ⟨b,off,none⟩).run Tryz.prog w= .ok (v8 x) w:=by
   simp only[load,Sem.run,hc]
  rw[List.length_cons,Extern.Bytes.loadBytes,Sem.run_bind,hld,Result.andThen_ok]
  simp only[v8,qB_]
  have e: ((x.toNat:Int).toNat.toUInt8)=x:=by
   rw[Int.toNat_natCast]
   exact UInt8.ofNat_toNat
  rw[e,v4_ hb l (off+1) _ (fun j hj=>by
   have:=h (j+1) (by simpa using hj)
   rw[List.getD_cons_succ] at this
   rw[←this];congr 1;omega)]
  congr 1
  apply ByteArray.ext
  simp
set_option linter.defProp false
theorem akW_ (x:IdL) (E:TypeId):zl_ (some (true,32)) (some (.cells (a8 x.l) E (0,0))) 0=some (.agg (a8 x.l)):=w8_ _ E (0,0) 32 x.h
set_option linter.defProp false
end Go.Proofs
end
section
open Go Go.Proofs Go.Sx Go.StP Go.RooP
namespace Go.Proofs
set_option maxRecDepth 10000
set_option maxHeartbeats 400000
set_option linter.unusedSimpArgs false
structure ObK where
 k:Int
 t:List UInt8
instance:DecidableEq ObK:=fun a b=>if h:a.k=b.k∧a.t=b.t then .isTrue (by cases a;cases b;simp only at h;obtain⟨rfl,rfl⟩:=h;rfl) else .isFalse (fun e=>h (by rw[e];exact⟨rfl,rfl⟩))
def xM_:ObK:=⟨0,[]⟩
end Go.Proofs
end
section
open Go Go.Proofs Go.Sx Go.StP
namespace Go.Proofs
set_option maxRecDepth 10000
set_option maxHeartbeats 400000
set_option linter.unusedSimpArgs false
set_option linter.defProp false
end Go.Proofs
end
section
open Go Go.Proofs Go.Sx Go.StP
namespace Go.Proofs
set_option maxRecDepth 10000
set_option maxHeartbeats 400000
set_option linter.unusedSimpArgs false
def SepK (b:Nat) (D E:zb_):Prop:= ∀c,c∈keys E→b<c∧ ∀d,d∈keys D→d<c
theorem SepK.nil {b:Nat} {D:zb_}:SepK b D []:=fun c hc=>by cases hc
theorem SepK.cons {b c:Nat} {o:Obj} {D E:zb_} (h:SepK b D E) (h1:b<c) (h2: ∀d,d∈keys D→d<c):SepK b D ((c,o)::E):=fun x hx=>by
 simp only[keys,List.map_cons,List.mem_cons] at hx
 rcases hx with rfl|hx
 ·exact⟨h1,h2⟩
 ·exact h x hx
theorem SepK.app {b:Nat} {D E F:zb_} (h:SepK b D E) (h2:SepK b D F):SepK b D (E++F):=fun x hx=>by
 rw[ze_,List.mem_append] at hx
 rcases hx with hx|hx
 ·exact h x hx
 ·exact h2 x hx
theorem SepK.grow {b B:Nat} {D E F:zb_} (h:SepK b D E) (hk: ∀c,c∈keys F→c∈keys E∨B≤c) (h1:b<B) (h2: ∀d,d∈keys D→d<B):SepK b D F:=fun x hx=>by
 rcases hk x hx with h'|h'
 ·exact h x h'
 ·exact⟨by omega,fun d hd=>by have:=h2 d hd;omega⟩
theorem SepK.look {b:Nat} {D E:zb_} {c:Nat} {o x:Obj} (h:SepK b D E) (hl:Sx.look E c=some o):Sx.look ((b,x):: (D++E)) c=some o:=by
 have:=h c (zo_ hl)
 rw[qx_ _ _ _ _ (by omega),z9_ (fun hm=>by have:=this.2 c hm;omega)]
 exact hl
theorem Gr.snoc {α:Type} {L:zb_} {E:TypeId} {m n:Nat} {v:Value} {enc:α→List Value} {l:List α} {x:α} (hn:n=l.length) (h:Buf L E m v (n+1) ((l.map enc).flatten++enc x)):Gr L E m v (l++ [x]).length ((l++ [x]).map enc).flatten:=by
 subst hn
 rw[List.length_append,List.map_append,List.flatten_append,show([x].map enc).flatten=enc x by simp]
 exact .inl h
set_option linter.defProp false
end Go.Proofs
end
section
open Go Go.Proofs Go.Sx Go.StP
namespace Go.Proofs
set_option maxRecDepth 10000
set_option maxHeartbeats 400000
set_option linter.unusedSimpArgs false
set_option linter.defProp false
set_option linter.defProp false
end Go.Proofs
end
section
open Go Go.Proofs Go.Sx Go.StP
namespace Go.Proofs
set_option maxRecDepth 10000
set_option maxHeartbeats 400000
set_option linter.unusedSimpArgs false
set_option linter.defProp false
end Go.Proofs
end
section
open Go Go.Proofs Go.Sx Go.StP
namespace Go.Proofs
set_option maxRecDepth 10000
set_option maxHeartbeats 1000000
set_option linter.unusedSimpArgs false
set_option linter.defProp false
end Go.Proofs
end
namespace Go.Sx
open Go
theorem Ext.perm {w:World} {X D D':zb_} (h:Ext w X D) (hp:D'.Perm D):Ext w X D':=
 ⟨fun c hc=>h.new c ((hp.map Prod.fst).mem_iff.1 hc),fun c hc=>(hp.map Prod.fst).mem_iff.2 (h.all c hc)⟩
section
variable {P:Program} {w0:World} {f:Fr} {L:zb_} {N:Fr→zb_→Prop} {ops:Array Oper} {rest:List Oper} {md:Md} {d:Option Tmp} {ty:TypeId} {ps:String} {af:Array Edge} {g:Option (Nat×Bool)}
end
end Go.Sx
section
open Go Go.Proofs Go.Sx Go.StP
namespace Go.Proofs
set_option maxRecDepth 10000
set_option maxHeartbeats 400000
set_option linter.unusedSimpArgs false
set_option linter.defProp false
end Go.Proofs
end
section
open Go Go.Proofs Go.Sx Go.StP Go.RooP
namespace Go.Proofs
set_option maxRecDepth 10000
set_option maxHeartbeats 400000
set_option linter.unusedSimpArgs false
section
variable {α β:Type} [BEq α] [LawfulBEq α]
omit [LawfulBEq α] in
omit [LawfulBEq α] in
omit [LawfulBEq α] in
end
def rdK (o:ObK):Bool:=vi_ o.k o.t
def idK (o:ObK):IdL:=idV o.k o.t
def NoCl (l:List ObK):Prop:= ∀a,a∈l→ ∀b,b∈l→rdK a=true→rdK b=true→idK a=idK b→a=b
theorem NoCl.sub {l l':List ObK} (h:NoCl l) (hs: ∀a,a∈l'→a∈l):NoCl l':=fun a ha b hb=>h a (hs a ha) b (hs b hb)
end Go.Proofs
end
namespace Go.Proofs
end Go.Proofs
section
open Go Go.Proofs Go.Sx Go.StP Go.RefP Go.RooP Go.Shelf Go.Sort
namespace Go.Proofs
set_option maxRecDepth 100000
set_option maxHeartbeats 400000
set_option linter.unusedSimpArgs false
set_option linter.defProp false
end Go.Proofs
end
section
open Go Go.Proofs Go.Sx Go.StP Go.RefP Go.RooP Go.Shelf Go.Sort
namespace Go.Proofs
set_option maxRecDepth 100000
set_option maxHeartbeats 4000000
set_option linter.unusedSimpArgs false
set_option linter.defProp false
theorem ltId (x y:IdL):ltOf (fun x y:IdL=>Lib.compareBytes x.l y.l) x y=ltB x.l y.l:=by
 unfold ltOf
 simp only[aht_]
 cases h:ltB x.l y.l
 ·cases h2:ltB y.l x.l<;>simp
 ·simp
end Go.Proofs
end
section
open Go Go.Proofs Go.Sx Go.StP Go.RooP
namespace Go.Proofs
set_option maxRecDepth 10000
set_option maxHeartbeats 400000
set_option linter.unusedSimpArgs false
def RowX {α:Type} (m:Nat) (enc:α→List Value) (z:α) (w:World) (v:Value) (l:List α) (X:zb_):Prop:= ∃b off arr E fz,RowS m enc z w v l b off arr E fz∧(0<l.length→b∉keys X)
theorem RowX.old {α:Type} {m:Nat} {enc:α→List Value} {z:α} {w w':World} {v:Value} {l:List α} {L X:zb_} (h:RowX m enc z w v l L) (hw:Hp w L w') (hX: ∀c,c∈keys X→c∈keys L):RowX m enc z w' v l X:=by
 obtain⟨b,off,arr,E,fz,hr,hb⟩:=h
 exact⟨b,off,arr,E,fz,hr.old hw hb,fun h0 hm=>hb h0 (hX _ hm)⟩
theorem RowX.ext {α:Type} {m:Nat} {enc:α→List Value} {z:α} {w:World} {v:Value} {l:List α} {L X:zb_} (h:RowX m enc z w v l X) (hL: ∀c,c∈keys L→c∈keys X∨w.heap.size≤c):RowX m enc z w v l L:=by
 obtain⟨b,off,arr,E,fz,hr,hb⟩:=h
 refine⟨b,off,arr,E,fz,hr,fun h0 hm=> ?_⟩
 rcases hL _ hm with h1|h1
 ·exact hb h0 h1
 ·have:=hr.lt h0;omega
theorem SlV.rowX {α:Type} {m:Nat} {enc:α→List Value} {z:α} {w:World} {v:Value} {l:List α} (h:SlV m enc z w v l):RowX m enc z w v l []:=by
 obtain⟨b,off,arr,E,fz,hr⟩:=h.row
 exact⟨b,off,arr,E,fz,hr,fun _ hm=>by cases hm⟩
set_option linter.defProp false
set_option linter.defProp false
end Go.Proofs
end
section
open Go Go.Proofs Go.Sx Go.StP Go.RooP
namespace Go.Proofs
set_option maxRecDepth 10000
set_option maxHeartbeats 400000
set_option linter.unusedSimpArgs false
set_option linter.defProp false
def j7_ (o:ObK):List Value:= [vi o.k,vs o.t]
theorem xa_ (o:ObK): (j7_ o).length=2:=rfl
theorem Qb_ (o:ObK): (j7_ o).all Value.oneCell'=true:=rfl
theorem Zr_ {w:World} {v:Value} {l:List ObK} {b off:Nat} {arr:Array Value} {E:TypeId} {fz:Nat×Nat} (h:RowS 2 j7_ xM_ w v l b off arr E fz) {k:Nat} (hk:k<l.length):
  zl_ (some (true,2)) (some (.cells arr E fz)) (off+k*2)=some (obV (l.getD k xM_).k (l.getD k xM_).t):=RowS.load h xa_ (by omega) hk
theorem aan_ (x y:Int) (s t:List UInt8) (E:TypeId):zn_ (some (true,2)) (some (Obj.cells #[vi x,vs s] E (0,0))) 0 (obV y t)=some (.cells #[vi y,vs t] E (0,0)):=(rfl)
set_option linter.defProp false
theorem apT_ {o:ObK} (h:rdK o=true):Dig.shaR (wR_ o.k o.t)=(idK o).l:=by
 have h':vi_ o.k o.t=true:=h
 have e:idK o=⟨Dig.shaR (jK_ o.k o.t),Qc_ _⟩:=if_pos h'
 rw[e]
 exact congrArg Dig.shaR (aiD_ h')
theorem vm_ (o:ObK):xh_ Tryz.prog 22 1 [(0,obV o.k o.t)]=some (26,(j7_ o).toArray):=
 qn_ Tryz.underlying22 Tryz.ag26 J6_ (by decide) (xa_ o)
set_option linter.defProp false
end Go.Proofs
end
section
open Go Go.Proofs Go.Sx Go.StP Go.RooP
namespace Go.Proofs
set_option maxRecDepth 10000
set_option maxHeartbeats 400000
set_option linter.unusedSimpArgs false
section
variable {P:Program} {w0:World} {f:Fr} {L:zb_} {N:Fr→zb_→Prop} {ops:Array Oper} {rest:List Oper} {md:Md}
 {d:Option Tmp} {ty:TypeId} {ps:String} {af:Array Edge} {g:Option (Nat×Bool)}
end
set_option linter.defProp false
end Go.Proofs
end
section
open Go Go.Proofs Go.Sx Go.StP Go.RooP
namespace Go.Proofs
set_option maxRecDepth 10000
set_option maxHeartbeats 400000
set_option linter.unusedSimpArgs false
set_option linter.defProp false
end Go.Proofs
end
section
open Go Go.Proofs Go.Sx Go.StP Go.RooP
namespace Go.Proofs
set_option maxRecDepth 10000
set_option maxHeartbeats 400000
set_option linter.unusedSimpArgs false
set_option linter.defProp false
end Go.Proofs
end
section
open Go Go.Proofs Go.Sx Go.StP Go.RooP
namespace Go.Proofs
set_option maxRecDepth 10000
set_option maxHeartbeats 400000
set_option linter.unusedSimpArgs false
theorem amI_ (a b:ObK):eqD Tryz.prog 8 26 (obV a.k a.t) (obV b.k b.t)=some (decide (a=b)):=by
 have p0: ∀o:ObK,Sx.partV (false,1) #[vi o.k,vs o.t] 0=some (vi o.k):=fun _=>rfl
 have p1: ∀o:ObK,Sx.partV (false,1) #[vi o.k,vs o.t] 1=some (vs o.t):=fun _=>rfl
 have e1: ∀a b:Int,eqD Tryz.prog 7 3 (vi a) (vi b)=some (a==b):=fun a b=>by unfold eqD;rw[Tryz.underlying3];rfl
 have e2: ∀a b:List UInt8,eqD Tryz.prog 7 9 (vs a) (vs b)=some (a==b):=fun a b=>by
  unfold eqD;rw[Tryz.underlying9];simp only[vs,aaD_]
 have a1:qc_ Tryz.prog 3=some (false,1):=id (by kernel_rfl)
 have a2:qc_ Tryz.prog 9=some (false,1):=id (by kernel_rfl)
 unfold eqD obV
 rw[Tryz.underlying26]
 simp only
 rw[show Tryz.prog.stoodInHeld 26=false by kernel_rfl]
 simp only[Bool.false_eq_true, ↓reduceIte,vb_,k8_,a1,a2,p0,p1,e1,e2]
 obtain⟨k,t⟩:=a
 obtain⟨k',t'⟩:=b
 have e:decide ((⟨k,t⟩:ObK)=⟨k',t'⟩)=((k==k')&& (t==t')):=by rw[Bool.eq_iff_iff];simp
 rw[e]
 cases(k==k')<;>cases(t==t')<;>rfl
theorem aqH_ (a b:ObK):qL_ Tryz.prog .neq 26 (obV a.k a.t) (obV b.k b.t)=some (.bool (!decide (a=b))):=by
 have h:=amI_ a b
 unfold qL_ eqX obV at*;rw[show Tryz.prog.eqGuardType Tryz.prog.depth 26=false by kernel_rfl];simp[qZ_,h]
def V4_ (l:List ObK):Bool:=decide (40<l.length) ||l.any fun o=>decide (2500<o.t.length)
theorem aiY_ {l:List ObK} (h:V4_ l=false):l.length≤40∧ ∀o,o∈l→o.t.length≤2500:=by
 unfold V4_ at h
 rw[Bool.or_eq_false_iff,decide_eq_false_iff_not,List.any_eq_false] at h
 exact⟨by omega,fun o ho=>by have:=h.2 o ho;simpa using this⟩
theorem al1_ {w:World} {v:Value} {l:List ObK} {b off:Nat} {arr:Array Value} {E:TypeId} {fz:Nat×Nat} (h:RowS 2 j7_ xM_ w v l b off arr E fz) {k n:Nat} (hk:k<l.length):
  zl_ (some (false,n)) (some (.cells arr E fz)) (off+k*2+1)=some (vs (l.getD k xM_).t):=h.cell hk (by omega)
set_option linter.defProp false
def qJ_:=And.intro (@zA_) (@zz_)
theorem aa7_ (v:Value) (l:List ObK) (w:World) (hv:RowX 2 j7_ xM_ w v l []):
  Rets Tryz.prog 5 #[v] w (fun v' D=>v'= .bool (V4_ l)∧D= []):=by
 obtain⟨rb,off,arr,E,fz,hr,-⟩:=hv
 have ln:=fun x=>hr.len x
 refine Rets.enterV Tryz.func5 rfl (rs:= [.tmp 2]) Tryz.results5 Tryz.ntmps5 ?_
 refine kf ?_
 unfold V4_
 by_cases h40:40<l.length
 ·have d1:decide ((40:Int)< (l.length:Int))=true:=decide_eq_true (by omega)
  rw[decide_eq_true h40]
  first|with_reducible refine ks [] (And.intro @qJ_ (And.intro @ln (@d1))) ?_|refine kp (And.intro @qJ_ (And.intro @ln (@d1))) ?_
  refine⟨_,(ke @qJ_),trivial, ?_⟩
  rfl
 ·have d1:decide ((40:Int)< (l.length:Int))=false:=decide_eq_false (by omega)
  rw[decide_eq_false h40,Bool.false_or]
  first|with_reducible refine ks [] (And.intro @qJ_ (And.intro @ln (@d1))) ?_|refine kp (And.intro @qJ_ (And.intro @ln (@d1))) ?_
  refine Cw.loopG (G:=Nat) [7,8,9,10,13,14,15,16,17,18,19,2,11,12,3] (fun g=> [(3,vi g)]) (fun g=> []) (fun g=>g≤l.length∧(l.take g).any (fun o=>decide (2500<o.t.length))=false) (fun g=>l.length - g) 0 rfl rfl ?_ ?_
  ·exact⟨Nat.zero_le _,rfl⟩
  intro k jk hk
  refine kv ?_
  obtain⟨h1,h2⟩:=hk
  by_cases hk:k<l.length
  ·have hd0:decide ((k:Int)< (l.length:Int))=true:=decide_eq_true (by omega)
   have ix:=hr.idx true k hk
   have ld:=fun n=>al1_ (n:=n) hr hk
   have rd:=hr.has (by omega)
   have hts:=StP.take_snoc (z:=xM_) hk
   have hm:l.getD k xM_∈l:=by rw[List.getD_eq_getElem?_getD,List.getElem?_eq_getElem hk];exact List.getElem_mem _
   generalize l.getD k xM_=o at*
   by_cases h25:2500<o.t.length
   ·have d2:decide ((2500:Int)< (o.t.length:Int))=true:=decide_eq_true (by omega)
    have e:l.any (fun o=>decide (2500<o.t.length))=true:=List.any_eq_true.2 ⟨o,hm,decide_eq_true h25⟩
    rw[e]
    first|with_reducible refine ks [] (And.intro @qJ_ (And.intro @ln (And.intro @hd0 (And.intro @ix (And.intro @rd (And.intro @ld (@d2))))))) ?_|refine kp (And.intro @qJ_ (And.intro @ln (And.intro @hd0 (And.intro @ix (And.intro @rd (And.intro @ld (@d2))))))) ?_
    refine⟨_,(ke @qJ_),trivial, ?_⟩
    rfl
   ·have d2:decide ((2500:Int)< (o.t.length:Int))=false:=decide_eq_false (by omega)
    first|with_reducible refine ks [] (And.intro @qJ_ (And.intro @ln (And.intro @hd0 (And.intro @ix (And.intro @rd (And.intro @ld (@d2))))))) ?_|refine kp (And.intro @qJ_ (And.intro @ln (And.intro @hd0 (And.intro @ix (And.intro @rd (And.intro @ld (@d2))))))) ?_
    refine Again.mk (k+1) (by omega) ⟨hk, ?_⟩ rfl rfl
    rw[hts,List.any_append,h2]
    simp[h25]
  ·obtain rfl:k=l.length:=by omega
   rw[List.take_length] at h2
   have hd0:decide ((l.length:Int)< (l.length:Int))=false:=by simp
   rw[h2]
   first|with_reducible refine ks [] (And.intro @qJ_ (And.intro @ln (@hd0))) ?_|refine kp (And.intro @qJ_ (And.intro @ln (@hd0))) ?_
   refine⟨_,(ke @qJ_),trivial, ?_⟩
   rfl
def ClK (a b:ObK):Prop:=a≠b∧rdK a=true∧rdK b=true∧idK a=idK b
theorem aoN_ {l:List ObK} (h: ∀p,p<l.length→ ∀q,q<p→ ¬ClK (l.getD p xM_) (l.getD q xM_)):NoCl l:=by
 intro a ha b hb hra hrb he
 obtain⟨i,hi,rfl⟩:=List.getElem_of_mem ha
 obtain⟨j,hj,rfl⟩:=List.getElem_of_mem hb
 have gd: ∀k (hk:k<l.length),l.getD k xM_=l[k]:=fun k hk=>by rw[List.getD_eq_getElem?_getD,List.getElem?_eq_getElem hk];rfl
 refine Classical.byContradiction fun hne=> ?_
 rcases Nat.lt_trichotomy i j with hij|hij|hij
 ·exact h j hj i hij ⟨by rw[gd _ hj,gd _ hi];exact Ne.symm hne,by rw[gd _ hj];exact hrb,by rw[gd _ hi];exact hra,by rw[gd _ hj,gd _ hi];exact he.symm⟩
 ·subst hij;exact hne rfl
 ·exact h i hi j hij ⟨by rw[gd _ hj,gd _ hi];exact hne,by rw[gd _ hi];exact hra,by rw[gd _ hj];exact hrb,by rw[gd _ hj,gd _ hi];exact he⟩
set_option linter.defProp false
def zE_:=And.intro (And.intro (@zA_) (@zz_)) (And.intro (@aqH_) (@aoR_))
theorem Wp_ (v:Value) (l:List ObK) (w:World) (hv:RowX 2 j7_ xM_ w v l []) (hl:l.length<1000000) (ht: ∀o,o∈l→o.t.length<100000):
  Rets Tryz.prog 6 #[v] w (fun v' D=>(∃b,v'= .bool b∧(b=false→NoCl l))∧D= []):=by
 obtain⟨rb,off,arr,E,fz,hr,-⟩:=hv
 have ln:=fun x=>hr.len x
 have gm: ∀k,k<l.length→l.getD k xM_∈l:=fun k hk=>by rw[List.getD_eq_getElem?_getD,List.getElem?_eq_getElem hk];exact List.getElem_mem _
 refine Rets.enterV Tryz.func6 rfl (rs:= [.tmp 2]) Tryz.results6 Tryz.ntmps6 ?_
 refine kf ?_
 first|with_reducible refine ks [] @zE_ ?_|refine kp @zE_ ?_
 refine Cw.loopG (G:=Nat) [5,6,7,8,4,11,12,13,16,17,18,19,20,21,22,23,24,25,26,27,28,29,30,31,32,33,34,35,36,37,38,39,40,41,42,43,44,45,46,47,48,49,50,51,2,14,15,9,10,3] (fun g=> [(3,vi g)]) (fun g=> []) (fun g=>g≤l.length∧(∀p,p<g→ ∀q,q<p→ ¬ClK (l.getD p xM_) (l.getD q xM_))) (fun g=>l.length - g) 0 rfl rfl ?_ ?_
 ·exact⟨Nat.zero_le _,fun p hp=>absurd hp (Nat.not_lt_zero _)⟩
 intro i ji hi
 refine kv ?_
 obtain⟨hi,hpi⟩:=hi
 by_cases hlt:i<l.length
 ·have hd0:decide ((i:Int)< (l.length:Int))=true:=decide_eq_true (by omega)
  have ixi:=hr.idx true i hlt
  have ldi:=Zr_ hr hlt
  have rd:=hr.has (by omega)
  have hti:=ht _ (gm i hlt)
  first|with_reducible refine ks [] (And.intro @zE_ (And.intro @ln (@hd0))) ?_|refine kp (And.intro @zE_ (And.intro @ln (@hd0))) ?_
  refine Cw.loopG (G:=Nat) [11,12,13,16,17,18,19,20,21,22,23,24,25,26,27,28,29,30,31,32,33,34,35,36,37,38,39,40,41,42,43,44,45,46,47,48,49,50,51,2,14,15,4] (fun g=> [(4,vi g)]) (fun g=> []) (fun g=>g≤i∧(∀q,q<g→ ¬ClK (l.getD i xM_) (l.getD q xM_))) (fun g=>i - g) 0 rfl rfl ?_ ?_
  ·exact⟨Nat.zero_le _,fun p hp=>absurd hp (Nat.not_lt_zero _)⟩
  intro k jk hk
  refine kv ?_
  obtain⟨hk,hpk⟩:=hk
  by_cases hkt:k<i
  ·have hd1:decide ((k:Int)< (i:Int))=true:=decide_eq_true (by omega)
   have ixk:=hr.idx true k (show k<l.length by omega)
   have ldk:=Zr_ hr (show k<l.length by omega)
   have htk:=ht _ (gm k (by omega))
   have next: ¬ClK (l.getD i xM_) (l.getD k xM_)→ ∀q,q<k+1→ ¬ClK (l.getD i xM_) (l.getD q xM_):=fun h q hq=>by
    by_cases e:q=k
    ·subst e;exact h
    ·exact hpk q (by omega)
   generalize l.getD i xM_=a at*
   generalize hb:l.getD k xM_=b at*
   first|with_reducible refine ks [] (And.intro @zE_ @hd1) ?_|refine kp (And.intro @zE_ @hd1) ?_
   by_cases hab:a=b
   ·have eab:decide (a=b)=true:=decide_eq_true hab
    refine Cw.regionS [rb] [0,1,2,4,5,6,3,7,8,9,10,11,12,13,14,15,16,17,18,19,20,21,22,23,24,25,26,29,30,31,27,32,28,33,34,35] [] (by kernel_rfl) (by kernel_rfl) (by kernel_rfl) ?_
    refine kya ?_
    refine kq (And.intro @zE_ (And.intro @ixi (And.intro @rd (And.intro @ldi (And.intro @ixk (And.intro @ldk (And.intro @eab (@Bool.not_true)))))))) ?_
    exact Again.mk (k+1) (by omega) ⟨hkt,next fun h=>h.1 hab⟩ rfl rfl
   ·have eab:decide (a=b)=false:=decide_eq_false hab
    refine Cw.regionS [rb] [0,1,2,4,5,6,3,7,8,9,10,11,12,13,14,15,16,17,18,19,20,21,22,23,24,25,26,29,30,31,27,32,28,33,34,35] [] (by kernel_rfl) (by kernel_rfl) (by kernel_rfl) ?_
    refine kya ?_
    refine kq (And.intro @zE_ (And.intro @ixi (And.intro @rd (And.intro @ldi (And.intro @ixk (And.intro @ldk (And.intro @eab (@Bool.not_false)))))))) ?_
    refine Ow.softA ?_
    refine Ow.callFV rfl Tryz.call12 (fun w' hw'=>QE_ a.k a.t w') ?_
    rw[←X8_,show vi_ a.k a.t=rdK a from rfl]
    with_reducible refine Ow.nilD ?_
    cases hra:rdK a with
    |false=>
     refine kq @zE_ ?_
     try with_reducible refine Ow.nil ?_
     first|with_reducible refine ks [] @zE_ ?_|refine kp @zE_ ?_
     exact Again.mk (k+1) (by omega) ⟨hkt,next fun h=>by have:=h.2.1;rw[hra] at this;cases this⟩ rfl rfl
    |true=>
     refine kq (And.intro @zE_ (And.intro @ixi (And.intro @rd (And.intro @ldi (And.intro @ixk (@ldk)))))) ?_
     refine Ow.softA ?_
     refine Ow.callFV rfl Tryz.call12 (fun w' hw'=>QE_ b.k b.t w') ?_
     rw[←X8_,show vi_ b.k b.t=rdK b from rfl]
     with_reducible refine Ow.nilD ?_
     cases hrb:rdK b with
     |false=>
      refine kq @zE_ ?_
      try with_reducible refine Ow.nil ?_
      first|with_reducible refine ks [] @zE_ ?_|refine kp @zE_ ?_
      exact Again.mk (k+1) (by omega) ⟨hkt,next fun h=>by have:=h.2.2.1;rw[hrb] at this;cases this⟩ rfl rfl
     |true=>
      refine kq (And.intro @zE_ (And.intro @ixi (And.intro @rd (And.intro @ldi (And.intro @ixk (@ldk)))))) ?_
      refine Ow.softA ?_
      refine Ow.callFV rfl Tryz.call13 (fun w' hw'=>aeS_ a.k a.t w' (by omega)) ?_
      rw[apT_ hra]
      with_reducible refine Ow.nilD ?_
      refine kq (And.intro @zE_ (And.intro @ixi (And.intro @rd (And.intro @ldi (And.intro @ixk (@ldk)))))) ?_
      refine Ow.softA ?_
      refine Ow.callFV rfl Tryz.call13 (fun w' hw'=>aeS_ b.k b.t w' (by omega)) ?_
      rw[apT_ hrb]
      with_reducible refine Ow.nilD ?_
      refine kq @zE_ ?_
      cases hq: ((idK a).l==(idK b).l) with
      |false=>
       try with_reducible refine Ow.nil ?_
       first|with_reducible refine ks [] @zE_ ?_|refine kp @zE_ ?_
       exact Again.mk (k+1) (by omega) ⟨hkt,next fun h=>by rw[h.2.2.2] at hq;simp at hq⟩ rfl rfl
      |true=>
       try with_reducible refine Ow.nil ?_
       first|with_reducible refine ks [] @zE_ ?_|refine kp @zE_ ?_
       refine⟨_,(ke @zE_),trivial, ?_⟩
       exact⟨true,rfl,fun h=>by cases h⟩
  ·obtain rfl:k=i:=by omega
   have hd1:decide ((k:Int)< (k:Int))=false:=by simp
   first|with_reducible refine ks [] (And.intro @zE_ @hd1) ?_|refine kp (And.intro @zE_ @hd1) ?_
   refine Again.mk (k+1) (by omega) ⟨hlt,fun p hp q hq=> ?_⟩ rfl rfl
   by_cases e:p=k
   ·subst e;exact hpk q hq
   ·exact hpi p (by omega) q hq
 ·obtain rfl:i=l.length:=by omega
  have hd0:decide ((l.length:Int)< (l.length:Int))=false:=by simp
  first|with_reducible refine ks [] (And.intro @zE_ (And.intro @ln (@hd0))) ?_|refine kp (And.intro @zE_ (And.intro @ln (@hd0))) ?_
  refine⟨_,(ke @zE_),trivial, ?_⟩
  exact⟨false,rfl,fun _=>aoN_ hpi⟩
end Go.Proofs
end
section
namespace Go.Proofs
open Go Go.Shelf
set_option maxRecDepth 100000
def Tryz.sortOn_ren:Go.Shelf.Ren:=⟨fun|6=>17|15=>43|14=>42|28=>83|29=>84|20=>75|21=>76|22=>77|23=>78|24=>79|25=>80|26=>81|27=>82|46=>108|47=>109|48=>110|49=>111|50=>112|57=>126|n=>n,fun|22=>47|24=>51|25=>53|3=>3|39=>99|0=>0|53=>126|55=>139|4=>4|46=>144|45=>143|50=>65|5=>5|9=>9|66=>179|70=>183|76=>204|77=>199|n=>n,fun|n=>n⟩
theorem Tryz.sortOn:Go.Proofs.SlLaysF0.n6 Tryz.prog Tryz.sortOn_ren:={
 mixed:=by kernel_rfl
 f6:=⟨Tryz.f17.name,by decide,Tryz.func17.trans (congrArg some (by kernel_rfl))⟩
 f14:=⟨Tryz.f42.name,by decide,Tryz.func42.trans (congrArg some (by kernel_rfl))⟩
 f15:=Tryz.func43.trans (congrArg some (by kernel_rfl))
 f20:=⟨Tryz.f75.name,by decide,Tryz.func75.trans (congrArg some (by kernel_rfl))⟩
 f21:=⟨Tryz.f76.name,by decide,Tryz.func76.trans (congrArg some (by kernel_rfl))⟩
 f22:=⟨Tryz.f77.name,by decide,Tryz.func77.trans (congrArg some (by kernel_rfl))⟩
 f23:=⟨Tryz.f78.name,by decide,Tryz.func78.trans (congrArg some (by kernel_rfl))⟩
 f24:=⟨Tryz.f79.name,by decide,Tryz.func79.trans (congrArg some (by kernel_rfl))⟩
 f25:=⟨Tryz.f80.name,by decide,Tryz.func80.trans (congrArg some (by kernel_rfl))⟩
 f26:=⟨Tryz.f81.name,by decide,Tryz.func81.trans (congrArg some (by kernel_rfl))⟩
 f27:=⟨Tryz.f82.name,by decide,Tryz.func82.trans (congrArg some (by kernel_rfl))⟩
 f28:=Tryz.func83.trans (congrArg some (by kernel_rfl))
 f29:=Tryz.func84.trans (congrArg some (by kernel_rfl))
 f46:=⟨Tryz.f108.name,by decide,Tryz.func108.trans (congrArg some (by kernel_rfl))⟩
 f47:=Tryz.func109.trans (congrArg some (by kernel_rfl))
 f48:=Tryz.func110.trans (congrArg some (by kernel_rfl))
 f49:=⟨Tryz.f111.name,by decide,Tryz.func111.trans (congrArg some (by kernel_rfl))⟩
 f50:=⟨Tryz.f112.name,by decide,Tryz.func112.trans (congrArg some (by kernel_rfl))⟩
 f57:=⟨Tryz.f126.name,by decide,Tryz.func126.trans (congrArg some (by kernel_rfl))⟩
 t0:=Tryz.underlying0
 a0:=Tryz.isAgg0
 z0:=Tryz.sizeOf0
 v0:=Tryz.zeroValue0
 t3:=Tryz.underlying3
 a3:=Tryz.isAgg3
 z3:=Tryz.sizeOf3
 v3:=Tryz.zeroValue3
 t4:=Tryz.underlying4
 a4:=Tryz.isAgg4
 z4:=Tryz.sizeOf4
 v4:=Tryz.zeroValue4
 t5:=Tryz.underlying5
 a5:=Tryz.isAgg5
 z5:=Tryz.sizeOf5
 v5:=Tryz.zeroValue5
 t9:=Tryz.underlying9
 a9:=Tryz.isAgg9
 z9:=Tryz.sizeOf9
 v9:=Tryz.zeroValue9
 t22:=Tryz.underlying47
 a22:=Tryz.isAgg47
 z22:=Tryz.sizeOf47
 v22:=Tryz.zeroValue47
 t25:=Tryz.underlying53
 a25:=Tryz.isAgg53
 z25:=Tryz.sizeOf53
 v25:=Tryz.zeroValue53
 t39:=Tryz.underlying99
 a39:=Tryz.isAgg99
 z39:=Tryz.sizeOf99
 v39:=Tryz.zeroValue99
 t45:=Tryz.underlying143
 a45:=Tryz.isAgg143
 z45:=Tryz.sizeOf143
 v45:=Tryz.zeroValue143
 t46:=Tryz.underlying144
 a46:=Tryz.isAgg144
 z46:=Tryz.sizeOf144
 v46:=Tryz.zeroValue144
 t50:=Tryz.underlying65
 a50:=Tryz.isAgg65
 z50:=Tryz.sizeOf65
 v50:=Tryz.zeroValue65
 t53:=Tryz.underlying126
 a53:=Tryz.isAgg126
 z53:=Tryz.sizeOf126
 v53:=Tryz.zeroValue126
 t55:=Tryz.underlying139
 a55:=Tryz.isAgg139
 z55:=Tryz.sizeOf139
 v55:=Tryz.zeroValue139
 t66:=Tryz.underlying179
 a66:=Tryz.isAgg179
 z66:=Tryz.sizeOf179
 v66:=Tryz.zeroValue179
 t70:=Tryz.underlying183
 a70:=Tryz.isAgg183
 z70:=Tryz.sizeOf183
 v70:=Tryz.zeroValue183
 t76:=Tryz.underlying204
 a76:=Tryz.isAgg204
 z76:=Tryz.sizeOf204
 v76:=Tryz.zeroValue204
 t77:=Tryz.underlying199
 a77:=Tryz.isAgg199
 z77:=Tryz.sizeOf199
 v77:=Tryz.zeroValue199}
end Go.Proofs
end
namespace Go.Sx
open Go Go.Proofs Go.Shelf Go.Sort
section
variable {α:Type} [Inhabited α] {enc:α→List Value} {k:Nat}
theorem afm_ {P:Program} {ρ:Ren} (L:SlLaysF0.n6 P ρ) (aE: ∀w,(isAgg (ρ.t 24)).run P w= .ok true w) (zE: ∀w,(Go.sizeOf (ρ.t 24)).run P w= .ok k w) (hk: ∀x,(enc x).length=k) (h1: ∀x,∀v∈enc x,v.oneCell'=true) (cf:α→α→Int) (hO:SWO (ltOf cf)) (g:FuncId) (cb:Array Value)
  (eg: ∀args w,(callFunc g args).run P w= .ok (.enter g args) w)
  {w:World} {b c:Nat} {E:TypeId} {l:List α} {rest:List Value} (hcmp:CmpLays P g cb enc k cf b 0 l.length w) (hb:w.heap[b]? =some (.cells ((l.map enc).flatten++rest).toArray E (0,0))) (hsz:l.length<4611686018427387904):
  Rets P (ρ.f 6) #[vsl b 0 l.length c, .func (.func g) #[] cb] w (fun v D=> ∃o,D= [(b,o)]∧v= .tuple #[]∧ ∃l':List α,l'.Perm l∧l'.Pairwise (fun x y=>ltOf cf y x=false)∧o= .cells ((l'.map enc).flatten++rest).toArray E (0,0)):=by
 have hbl:=(Array.getElem?_eq_some_iff.1 hb).1
 have hH:HoldsK enc k w b 0 l.toArray:=by
  unfold HoldsK Holds
  intro t ht
  rw[size_flatK,List.size_toArray] at ht
  rw[get_flatK _ _ _ _ (by rw[List.size_toArray];exact ht)]
  have h:=VJ_ hk l t ht
  have hlt:=(List.getElem?_eq_some_iff.1 h).1
  refine⟨?_, ?_⟩
  ·simp only[World.cell?,hb,Option.isSome_none,Bool.false_eq_true, ↓reduceIte,Nat.zero_add,List.getElem?_toArray,id]
   rw[List.getElem?_append_left hlt,h];simp
  ·simp only[World.frozen?,hb];simp
 have hcon:=AnyQ.slices_SortFunc L k aE zE enc hk h1 cf hO g cb b 0 c l.toArray w eg (by rw[List.size_toArray];exact hcmp) hH hbl (by rw[List.size_toArray];exact hsz)
 refine Calls.mono hcon ?_
 rintro e w' ⟨rfl,d',n,os,hp,hs,rfl⟩
 obtain⟨l',rfl⟩: ∃l':List α,d'=l'.toArray:=⟨d'.toList,by simp⟩
 obtain⟨hz,-,hp⟩:=hp
 rw[List.size_toArray,List.size_toArray] at hz
 have hfl: ∀m:List α,(m.map enc).flatten.length=m.length*k:=fun m=>by
  have:=congrArg Array.size (adT_ (enc:=enc) hk m)
  rw[size_flatK,List.size_toArray,List.size_toArray] at this
  exact this.symm
 have hob: (sortWorldK enc k w b 0 n l'.toArray os).heap[b]? =some (.cells ((l'.map enc).flatten++rest).toArray E (0,0)):=by
  show((w.heap.modify b (onCells (putCells id 0 (flatK enc k l'.toArray))))++os)[b]? =_
  rw[Array.getElem?_append_left (by rw[Array.size_modify];exact hbl),Array.getElem?_modify,if_pos rfl,hb,adT_ hk,Option.map_some]
  simp only[onCells]
  rw[aa5_ (by rw[hfl,hfl,hz])]
 refine⟨.tuple #[],[(b,_)],rfl,⟨?_,by simp[keys], ?_, ?_,rfl,rfl,rfl⟩,_,rfl,rfl,l', ?_, ?_,rfl⟩
 ·intro b' o' hm
  simp only[List.mem_singleton,Prod.mk.injEq] at hm
  rw[hm.1,hm.2];exact hob
 ·intro b' hb' hn
  have hne:b≠b':=fun h=>hn (by simp[keys,h])
  show((w.heap.modify b (onCells (putCells id 0 (flatK enc k l'.toArray))))++os)[b']? =_
  rw[Array.getElem?_append_left (by rw[Array.size_modify];exact hb'),Array.getElem?_modify,if_neg hne]
 ·show w.heap.size≤ ((w.heap.modify b (onCells (putCells id 0 (flatK enc k l'.toArray))))++os).size
  rw[Array.size_append,Array.size_modify];omega
 ·have h2:List.take l.length l'=l':=List.take_of_length_le (by omega)
  rw[←h2]
  simpa using hp
 ·rw[List.pairwise_iff_getElem]
  intro i j hi hj hij
  have:=hs i j (Nat.zero_le _) hij (by rw[List.size_toArray];omega)
  simpa [hi,hj] using this
end
section
variable {α:Type} {m:Nat} {enc:α→List Value} {z:α} {w:World} {v:Value} {l:List α}
theorem SlV.mid (h:SlV m enc z w v l) {k q:Nat} (hkq:k≤q) (hk:q≤l.length) (a:Bool): ∃v',qs_ (.sl (a,m)) v (some (some (k:Int))) (some (some (q:Int)))=some v'∧SlV m enc z w v' ((l.drop k).take (q - k)):=by
 obtain⟨b,off,c,arr,E,fz,hr,hc,hv⟩:=h
 have hl: ((l.drop k).take (q - k)).length=q - k:=by simp;omega
 rcases hv with⟨rfl,rfl,rfl⟩ | ⟨rfl,hhas,hsz⟩
 ·obtain rfl:q=0:=by simpa using hk
  obtain rfl:k=0:=by omega
  exact⟨.slice none 0 0,rfl,SlV.nil w⟩
 ·have hsl:qs_ (.sl (a,m)) (vsl b off l.length c) (some (some (k:Int))) (some (some (q:Int)))=some (vsl b (if c=k then off else off+k*m) (q - k) (c - k)):=by
   unfold qs_ vsl
   simp only[KV_ _ _ _ _ (⟨by omega,by omega,by omega⟩: (0:Int)≤ (k:Int)∧(k:Int)≤ (q:Int)∧(q:Int)≤ (c:Int)),Int.toNat_natCast]
   by_cases hck:c=k
   ·simp[hck]
   ·simp only[hck, ↓reduceIte,Option.map_some,qB_]
  refine⟨_,hsl, ?_⟩
  have hkm:k*m+ (q - k)*m=q*m:=by rw[←Nat.add_mul];congr 1;omega
  have hqm:q*m≤l.length*m:=Nat.mul_le_mul_right _ hk
  by_cases hck:c=k
  ·have h0:q - k=0:=by omega
   rw[if_pos hck]
   refine⟨b,off,c - k,arr,E,fz,RowS.sl' hl.symm (fun h=>by omega) (fun i hi=>by omega),by omega, .inr ⟨by rw[hl],hhas,by rw[hl,h0];omega⟩⟩
  ·rw[if_neg hck]
   refine⟨b,off+k*m,c - k,arr,E,fz,RowS.sl' hl.symm (fun h=>hhas) ?_,by omega, .inr ⟨by rw[hl],hhas,by rw[hl];omega⟩⟩
   intro i hi j hj
   rw[hl] at hi
   rw[List.getD_eq_getElem?_getD,List.getElem?_take_of_lt hi,List.getElem?_drop,←List.getD_eq_getElem?_getD,←hr.get (k+i) (by omega) j hj]
   congr 1
   rw[Nat.add_mul];omega
end
end Go.Sx
section
open Go Go.Proofs Go.Sx Go.StP Go.Flo Go.Shelf Go.Sort
namespace Go.Proofs
set_option maxRecDepth 10000
set_option maxHeartbeats 1000000
set_option linter.unusedSimpArgs false
structure OnL where
 k:Fin 4
 x:List UInt8
 id:IdL
def onC (a:OnL):List Value:=vi ((a.k.val:Nat):Int)::vs (a.x)::kq_ a.id
theorem z8_ (a:OnL): (onC a).length=34:=by unfold onC;simp[qT_]
theorem Jy_ (a:OnL): (onC a).all Value.oneCell'=true:=by
 unfold onC
 rw[List.all_cons,List.all_cons,kb_];rfl
def Zn_ (arr:Array Value) (off:Nat) (l:List UInt8):Prop:= ∀j,j<l.length→arr[off+j]? =some (v8 (l.getD j 0))
theorem ZT_ {b off c:Nat} {l:List UInt8} {arr:Array Value} {E:TypeId} {fz:Nat×Nat} {w:World} (hb:w.heap[b]? =some (.cells arr E fz)) (h:Zn_ arr off l): (Extern.Bytes.bytesOf (vsl b off l.length c)).run Tryz.prog w= .ok ⟨l.toArray⟩ w:=by
 have h:=v4_ hb l off .empty h
 show(Extern.Bytes.loadBytes ⟨b,off,none⟩ l.length .empty).run Tryz.prog w=_
 rw[h]
 congr 1
theorem ahR_ {b o1 k1 c o2 k2:Nat} {l m:List UInt8} {a1 a2:Array Value} {E E2:TypeId} {f1 f2:Nat×Nat} {w:World} (hb:w.heap[b]? =some (.cells a1 E f1)) (h1:Zn_ a1 o1 l) (hc:w.heap[c]? =some (.cells a2 E2 f2)) (h2:Zn_ a2 o2 m):
  (callFunc 85 #[vsl b o1 l.length k1,vsl c o2 m.length k2]).run Tryz.prog w= .ok (.value (vi (Lib.compareBytes l m))) w:=by
 rw[run_callFunc_extern Tryz.func85 (by kernel_rfl) (by kernel_rfl) (by kernel_rfl) (e:=Extern.BytealgCompare.compare) (by kernel_rfl)]
 show((Extern.BytealgCompare.compare #[vsl b o1 l.length k1,vsl c o2 m.length k2]).run Tryz.prog w).andThen _=_
 have: (Extern.BytealgCompare.compare #[vsl b o1 l.length k1,vsl c o2 m.length k2]).run Tryz.prog w= .ok (vi (Lib.compareBytes l m)) w:=by
  change Sem.run Tryz.prog (do pure (goInt (Extern.BytealgCompare.cmp (←Extern.Bytes.bytesOf _) (←Extern.Bytes.bytesOf _)))) w=_
  have h1:=ZT_ (c:=k1) hb h1
  have h2:=ZT_ (c:=k2) hc h2
  rw[Sem.run_bind]
  erw[h1]
  rw[Result.andThen_ok,Sem.run_bind]
  erw[h2]
  rw[Result.andThen_ok,Lib.cmp_eq]
  rfl
 rw[this];rfl
theorem apE_ {b o1 k1 c o2 k2:Nat} {x y:IdL} {a1 a2:Array Value} {E E2:TypeId} {f1 f2:Nat×Nat} {w:World} (hb:w.heap[b]? =some (.cells a1 E f1)) (h1:Zn_ a1 o1 x.l) (hc:w.heap[c]? =some (.cells a2 E2 f2)) (h2:Zn_ a2 o2 y.l):
  Calls Tryz.prog 45 #[vsl b o1 32 k1,vsl c o2 32 k2] w fun e w'=>e= .returned (vi (Lib.compareBytes x.l y.l))∧w'=w:=by
 have hr:=ahR_ (k1:=k1) (k2:=k2) hb h1 hc h2
 rw[x.h,y.h] at hr
 generalize Lib.compareBytes x.l y.l=r at hr ⊢
 generalize vsl b o1 32 k1=u at hr ⊢
 generalize vsl c o2 32 k2=v at hr ⊢
 go_enter Tryz.func45,Tryz.ntmps45
 go_wp2
 go_ret
 exact⟨rfl,rfl⟩
theorem aeb_ (a:OnL):Zn_ (onC a).toArray 2 a.id.l:=by
 intro j hj
 have h2: (onC a).toArray[2+j]? =(kq_ a.id)[j]? :=by
  rw[List.getElem?_toArray,Nat.add_comm];rfl
 rw[h2]
 show(a.id.l.map v8)[j]? =_
 rw[List.getElem?_map,List.getElem?_eq_getElem hj,List.getD_eq_getElem?_getD,List.getElem?_eq_getElem hj]
 rfl
theorem arm_ (a b:Fin 4):IntKind.i64.wrap (((b.val:Nat):Int) - ((a.val:Nat):Int))=((b.val:Nat):Int) - ((a.val:Nat):Int):=by
 have h1:=a.isLt
 have h2:=b.isLt
 simp[IntKind.wrap,IntKind.bits,IntKind.signed];omega
theorem ajV_ (a b:OnL) (W:World):Calls Tryz.prog 19 #[.agg (onC a).toArray, .agg (onC b).toArray] W fun e w'=>e= .returned (vi (((b.k.val:Nat):Int) - ((a.k.val:Nat):Int)))∧ ∃q os',w'=Go.Sort.grow (W.drewN q) os':=by
 have hw:=arm_ a.k b.k
 obtain⟨cx,hcx⟩: ∃cx,onC a=vi ((a.k.val:Nat):Int)::cx:=⟨_,rfl⟩
 obtain⟨cy,hcy⟩: ∃cy,onC b=vi ((b.k.val:Nat):Int)::cy:=⟨_,rfl⟩
 rw[hcx,hcy]
 generalize ((a.k.val:Nat):Int)=x at*
 generalize ((b.k.val:Nat):Int)=y at*
 have hsub:zj_ .sub (vi y) (vi x)=some (vi (y - x)):=by
  show some (Value.int .i64 (IntKind.i64.wrap (y - x)))=_
  rw[hw];rfl
 go_enter Tryz.func19,Tryz.ntmps19
 go_wp2
 rw[adU_ _ hsub]
 go_wp2
 go_ret
 exact⟨rfl,0,_,by rw[Go.Sort.alloc_eq_grow,Go.Sort.alloc_eq_grow,Go.Sort.grow_grow];rfl⟩
theorem am9_ (x y:OnL) (W:World):Calls Tryz.prog 20 #[.agg (onC x).toArray, .agg (onC y).toArray] W fun e w'=>e= .returned (.int .i64 (Lib.compareBytes x.id.l y.id.l))∧ ∃q os',w'=Go.Sort.grow (W.drewN q) os':=by
 have hx: (Value.agg (onC x).toArray).cells=(onC x).toArray:=rfl
 have hy: (Value.agg (onC y).toArray).cells=(onC y).toArray:=rfl
 go_enter Tryz.func20,Tryz.ntmps20
 go_wp2
 have h0: ((W.alloc (Obj.cells (onC x).toArray 51)).alloc (Obj.cells (onC y).toArray 51)).heap[W.heap.size]? =some (.cells (onC x).toArray 51 (0,0)):=by
  show((W.heap.push _).push _)[W.heap.size]? =_
  rw[Array.getElem?_push,if_neg (by simp),Array.getElem?_push,if_pos rfl]
 have h1: ((W.alloc (Obj.cells (onC x).toArray 51)).alloc (Obj.cells (onC y).toArray 51)).heap[W.heap.size+1]? =some (.cells (onC y).toArray 51 (0,0)):=by
  show((W.heap.push _).push _)[W.heap.size+1]? =_
  rw[Array.getElem?_push,if_pos (by simp)]
 refine wp_region_quiet_lit (by kernel_rfl) (by kernel_rfl) ?_
 quiet_step (skip)
 quiet_step (skip)
 quiet_step (skip)
 quiet_step (skip)
 refine wpQuiet_step (fun K hK=> ?_)
 go_simp
 refine⟨.int .i64 (Lib.compareBytes x.id.l y.id.l),fun n=>Calls.quiet_of_same (apE_ h0 (aeb_ x) h1 (aeb_ y)),hK _ ?_⟩
 clear hK K
 quiet_step (skip)
 refine wpQuiet_nil ?_
 intro _ hw'
 obtain⟨nq,rfl⟩:=hw'
 go_wp2
 go_ret
 exact⟨rfl,nq,_,by rw[Go.Sort.alloc_eq_grow,Go.Sort.alloc_eq_grow,Go.Sort.grow_grow];rfl⟩
def Qa_ (a b:OnL):Int:=if((b.k.val:Nat):Int) - ((a.k.val:Nat):Int)≠0 then((b.k.val:Nat):Int) - ((a.k.val:Nat):Int) else Lib.compareBytes a.id.l b.id.l
section
variable {P:Program} {f:Fr} {w:World} {K:Act→World→Prop} {Q:Exit→Act→World→Prop} {d:Option Tmp} {ty:TypeId} {ps:String} {af:Array Edge} {g:Option (Nat×Bool)}
theorem Zx_ {o:Oper} {v:Value} (h:jg_ P w [] f o.op=some v) (hK:K (act (qd_ f o.dst v)) w):Oper.wp P o (act f) w K Q:=by
 unfold Oper.wp
 rw[q0_,qI_ (Hp.refl w) h,Oper.upon_value,z1_]
 exact hK
theorem am2_ {x y y2:Operand} {ts:Array TypeId} {k:FuncId} {b b2 v:Value} {R:World→Prop} (hx:ev f x= .func (.func k) #[] #[]) (hy:ev f y=b) (hy2:ev f y2=b2) (hk: ∀a w,(callFunc k a).run P w= .ok (.enter k a) w)
  (hc:Calls P k #[b,b2] w (fun e w'=>e= .returned v∧R w')) (hK: ∀w',R w'→K (act (qd_ f d v)) w'):Oper.wp P ⟨d, .call ⟨.value x, #[y,y2],ts⟩,ty,ps,af,g⟩ (act f) w K Q:=by
 unfold Oper.wp
 rw[q0_,Vw_ hx hk w,Oper.upon_enter]
 rw[show(#[]++ #[y,y2].map (ev f)++ #[]:Array Value)= #[b,b2] by simp[hy,hy2]]
 refine hc.mono ?_
 rintro e w' ⟨rfl,hR⟩
 show K ((act f).put d v) w'
 rw[z1_]
 exact hK w' hR
end
theorem Vr_ {w:World} {os:Array Obj} {q b:Nat} {o:Obj} (h:w.heap[b]? =some o): (Go.Sort.grow (w.drewN q) os).heap[b]? =some o:=by
 have hl:=(Array.getElem?_eq_some_iff.1 h).1
 show(w.heap++os)[b]? =_
 rw[Array.getElem?_append_left hl];exact h
theorem ami_ (W:World) (o o2:Obj) (q:Nat) (os:Array Obj):Go.Sort.grow (((W.alloc o).alloc o2).drewN q) os=Go.Sort.grow (W.drewN q) (#[o]++ #[o2]++os):=by
 rw[Go.Sort.alloc_eq_grow,Go.Sort.alloc_eq_grow,Go.Sort.grow_grow]
 show Go.Sort.grow (Go.Sort.grow (W.drewN q) _) os=_
 rw[Go.Sort.grow_grow]
theorem agp_ (W:World) (q q2:Nat) (os os2:Array Obj):Go.Sort.grow ((Go.Sort.grow (W.drewN q) os).drewN q2) os2=Go.Sort.grow (W.drewN (q+q2)) (os++os2):=by
 show Go.Sort.grow (Go.Sort.grow ((W.drewN q).drewN q2) os) os2=_
 rw[Go.Sort.grow_grow]
 show Go.Sort.grow {W with drawn:=W.drawn+q+q2} _=Go.Sort.grow {W with drawn:=W.drawn+ (q+q2)} _
 rw[Nat.add_assoc]
theorem jF_ (a:OnL) (E:TypeId):zl_ (some (true,34)) (some (.cells (onC a).toArray E (0,0))) 0=some (.agg (onC a).toArray):=xn_ _ E (0,0) 34 (z8_ a)
theorem ajR_ (a b:OnL) (c0 c1:Nat) (W:World) (h0:W.heap[c0]? =some (.cells #[.func (.func 19) #[] #[]] 53 (0,0))) (h1:W.heap[c1]? =some (.cells #[.func (.func 20) #[] #[]] 53 (0,0))):
  Calls Tryz.prog 44 #[.agg (onC a).toArray, .agg (onC b).toArray,vp c0 0,vp c1 0] W fun e w'=>e= .returned (vi (Qa_ a b))∧ ∃q os',w'=Go.Sort.grow (W.drewN q) os':=by
 have hc0:=(Array.getElem?_eq_some_iff.1 h0).1
 have hc1:=(Array.getElem?_eq_some_iff.1 h1).1
 have gx: ∀ (c:Nat) (o:Obj),W.heap[c]? =some o→((W.alloc (Obj.cells (onC a).toArray 51)).alloc (Obj.cells (onC b).toArray 51)).heap[c]? =some o:=fun c o hc=>by
  have hl:=(Array.getElem?_eq_some_iff.1 hc).1
  show((W.heap.push _).push _)[c]? =_
  rw[Array.getElem?_push,if_neg (by rw[Array.size_push];omega),Array.getElem?_push,if_neg (by omega)];exact hc
 have g0:=gx c0 _ h0
 have g1:=gx c1 _ h1
 have gA: ((W.alloc (Obj.cells (onC a).toArray 51)).alloc (Obj.cells (onC b).toArray 51)).heap[W.heap.size]? =some (.cells (onC a).toArray 51 (0,0)):=by
  show((W.heap.push _).push _)[W.heap.size]? =_
  rw[Array.getElem?_push,if_neg (by simp),Array.getElem?_push,if_pos rfl]
 have gB: ((W.alloc (Obj.cells (onC a).toArray 51)).alloc (Obj.cells (onC b).toArray 51)).heap[W.heap.size+1]? =some (.cells (onC b).toArray 51 (0,0)):=by
  show((W.heap.push _).push _)[W.heap.size+1]? =_
  rw[Array.getElem?_push,if_pos (by simp)]
 have hgr:=ami_ W (Obj.cells (onC a).toArray 51) (Obj.cells (onC b).toArray 51)
 have hkr:=ajV_ a b
 have hir:=am9_ a b
 have hcf:Qa_ a b=if((b.k.val:Nat):Int) - ((a.k.val:Nat):Int)≠0 then((b.k.val:Nat):Int) - ((a.k.val:Nat):Int) else Lib.compareBytes a.id.l b.id.l:=rfl
 generalize Qa_ a b=r at*
 generalize ((b.k.val:Nat):Int) - ((a.k.val:Nat):Int)=x at*
 generalize Lib.compareBytes a.id.l b.id.l=y at*
 go_enter Tryz.func44,Tryz.ntmps44
 iterate 16 go_step
 generalize (W.alloc (Obj.cells (onC a).toArray 51)).alloc (Obj.cells (onC b).toArray 51)=W2 at*
 change Code.wp _ _ _ (act [.agg (onC a).toArray, .agg (onC b).toArray,vp c0 0,vp c1 0,vp W.heap.size 0,vp (W.heap.size+1) 0,vi 0,undef,undef,undef,undef,undef,undef,undef,undef,undef,undef,undef,undef]) W2
 generalize W.heap.size=n at*
 iterate 3 go_step
 refine Zx_ (v:= .func (.func 19) #[] #[]) (by simp only[jg_,zD_,zH_,zG_,ja_,zY_,Tryz.ag53,Tryz.ag51,g0];first|done|rfl|exact jF_ _ _) ?_
 simp only[zW_,ji_,jk_]
 iterate 2 go_step
 refine Zx_ (v:= .agg (onC a).toArray) (by simp only[jg_,zD_,zH_,zG_,ja_,zY_,Tryz.ag53,Tryz.ag51,gA];first|done|rfl|exact jF_ _ _) ?_
 simp only[zW_,ji_,jk_]
 iterate 2 go_step
 refine Zx_ (v:= .agg (onC b).toArray) (by simp only[jg_,zD_,zH_,zG_,ja_,zY_,Tryz.ag53,Tryz.ag51,gB];first|done|rfl|exact jF_ _ _) ?_
 simp only[zW_,ji_,jk_]
 iterate 2 go_step
 refine am2_ rfl rfl rfl Tryz.call19 (hkr W2) (fun w' hR=> ?_)
 obtain⟨q,os,rfl⟩:=hR
 simp only[zW_,ji_,jk_]
 iterate 2 go_step
 refine Zx_ (v:=vi x) (by simp only[jg_,zD_,zH_,zG_,ja_,zY_,Tryz.ag53,Tryz.ag51,zD_];first|done|rfl|exact jF_ _ _) ?_
 simp only[zW_,ji_,jk_]
 iterate 2 go_step
 iterate 5 go_step
 refine Zx_ (v:=vi x) (by simp only[jg_,zD_,zH_,zG_,ja_,zY_,Tryz.ag53,Tryz.ag51,zD_];first|done|rfl|exact jF_ _ _) ?_
 simp only[zW_,ji_,jk_]
 iterate 2 go_step
 have nx:qL_ Tryz.prog .neq 3 (vi x) (Value.int .i64 0)=some (.bool (x !=0)):=rfl
 by_cases hx:x=0
 ·have hb: (x !=0)=false:=by rw[hx];rfl
  have hr:r=y:=by rw[hcf,if_neg (by simp[hx])]
  rw[hb] at nx
  refine Zx_ (v:= .bool false) (by simp only[jg_,zD_,zH_,zG_,ja_,zY_,Tryz.ag53,Tryz.ag51,Vj_,nx];first|done|rfl|exact jF_ _ _) ?_
  simp only[zW_,ji_,jk_]
  iterate 2 go_step
  iterate 2 go_step
  refine wp_cond_false rfl ?_
  iterate 6 go_step
  refine Zx_ (v:= .func (.func 20) #[] #[]) (by simp only[jg_,zD_,zH_,zG_,ja_,zY_,Tryz.ag53,Tryz.ag51,Vr_ g1];first|done|rfl|exact jF_ _ _) ?_
  simp only[zW_,ji_,jk_]
  iterate 2 go_step
  refine Zx_ (v:= .agg (onC a).toArray) (by simp only[jg_,zD_,zH_,zG_,ja_,zY_,Tryz.ag53,Tryz.ag51,Vr_ gA];first|done|rfl|exact jF_ _ _) ?_
  simp only[zW_,ji_,jk_]
  iterate 2 go_step
  refine Zx_ (v:= .agg (onC b).toArray) (by simp only[jg_,zD_,zH_,zG_,ja_,zY_,Tryz.ag53,Tryz.ag51,Vr_ gB];first|done|rfl|exact jF_ _ _) ?_
  simp only[zW_,ji_,jk_]
  iterate 2 go_step
  refine am2_ rfl rfl rfl Tryz.call20 (hir _) (fun w' hR=> ?_)
  obtain⟨q2,os2,rfl⟩:=hR
  simp only[zW_,ji_,jk_]
  iterate 2 go_step
  refine Zx_ (v:=vi y) (by simp only[jg_,zD_,zH_,zG_,ja_,zY_,Tryz.ag53,Tryz.ag51,zD_];first|done|rfl|exact jF_ _ _) ?_
  simp only[zW_,ji_,jk_]
  iterate 2 go_step
  iterate 3 go_step
  go_ret
  rw[hr]
  exact⟨rfl,_,_,by rw[hgr,agp_]⟩
 ·have hb: (x !=0)=true:=by simpa using hx
  have hr:r=x:=by rw[hcf,if_pos hx]
  rw[hb] at nx
  refine Zx_ (v:= .bool true) (by simp only[jg_,zD_,zH_,zG_,ja_,zY_,Tryz.ag53,Tryz.ag51,Vj_,nx];first|done|rfl|exact jF_ _ _) ?_
  simp only[zW_,ji_,jk_]
  iterate 2 go_step
  iterate 2 go_step
  refine wp_cond_true rfl ?_
  iterate 3 go_step
  refine Zx_ (v:=vi x) (by simp only[jg_,zD_,zH_,zG_,ja_,zY_,Tryz.ag53,Tryz.ag51,zD_];first|done|rfl|exact jF_ _ _) ?_
  simp only[zW_,ji_,jk_]
  iterate 2 go_step
  refine Zx_ (v:=vi x) (by simp only[jg_,zD_,zH_,zG_,ja_,zY_,Tryz.ag53,Tryz.ag51,zD_];first|done|rfl|exact jF_ _ _) ?_
  simp only[zW_,ji_,jk_]
  iterate 2 go_step
  iterate 3 go_step
  go_ret
  rw[hr]
  exact⟨rfl,_,_,hgr _ _⟩
end Go.Proofs
end
section
open Go Go.Proofs Go.Sx Go.StP Go.Flo Go.Shelf Go.Sort
namespace Go.Proofs
set_option maxRecDepth 10000
set_option maxHeartbeats 1000000
set_option linter.unusedSimpArgs false
theorem Zd_ (x y:OnL):ltOf Qa_ x y=true↔(y.k.val<x.k.val∨y.k.val=x.k.val∧ltB x.id.l y.id.l=true):=by
 have h:=ltId x.id y.id
 unfold ltOf at h ⊢
 simp only at h
 rw[decide_eq_true_eq]
 unfold Qa_
 by_cases hk: ((y.k.val:Nat):Int) - ((x.k.val:Nat):Int)=0
 ·rw[if_neg (by simp[hk]),←h,decide_eq_true_eq]
  constructor
  ·intro h1;exact .inr ⟨by omega,h1⟩
  ·rintro(h1| ⟨-,h1⟩)
   ·omega
   ·exact h1
 ·rw[if_pos hk]
  constructor
  ·intro h1;exact .inl (by omega)
  ·rintro(h1| ⟨h1,-⟩)<;>omega
theorem swoOn:SWO (ltOf Qa_) where
 irrefl x:=by
  rw[Bool.eq_false_iff]
  intro h
  rcases(Zd_ x x).1 h with h| ⟨-,h⟩
  ·omega
  ·rw[xz_] at h;cases h
 trans x y z h1 h2:=by
  rw[Zd_] at*
  rcases h1 with h1| ⟨h1,h3⟩<;>rcases h2 with h2| ⟨h2,h4⟩
  ·exact .inl (by omega)
  ·exact .inl (by omega)
  ·exact .inl (by omega)
  ·exact .inr ⟨by omega,k3_ h3 h4⟩
 ntrans x y z h1 h2:=by
  rw[Bool.eq_false_iff] at*
  intro h
  rw[Ne,Zd_] at h1 h2
  rcases(Zd_ x z).1 h with h| ⟨h,h3⟩
  ·omega
  ·have e1:y.k.val=x.k.val:=by omega
   have h4:ltB x.id.l y.id.l=false:=Bool.eq_false_iff.2 fun h5=>h1 (.inr ⟨e1,h5⟩)
   have h6:ltB y.id.l z.id.l=false:=Bool.eq_false_iff.2 fun h5=>h2 (.inr ⟨by omega,h5⟩)
   by_cases hxy:x.id.l=y.id.l
   ·rw[hxy,h6] at h3;cases h3
   ·rw[k3_ (vc_ h4 fun e=>hxy e) h3] at h6;cases h6
theorem WJ_ (x:OnL): ∀v∈onC x,v.oneCell'=true:=fun v hv=>List.all_eq_true.1 (Jy_ x) v hv
def on0:OnL:=⟨0,[],id0⟩
def QF_ (l Z:List OnL):Prop:=Z.Perm l∧Z.Pairwise (fun x y=>ltOf Qa_ y x=false)
theorem acu_ {b c c0 c1:Nat} {l:List OnL} {rest:List Value} {E:TypeId} (w:World) (hb:w.heap[b]? =some (J7_ onC E rest l)) (hsz:l.length<4611686018427387904)
  (h0:w.heap[c0]? =some (.cells #[.func (.func 19) #[] #[]] 53 (0,0))) (h1:w.heap[c1]? =some (.cells #[.func (.func 20) #[] #[]] 53 (0,0))) (hn0:b≠c0) (hn1:b≠c1):
  Rets Tryz.prog 17 #[vsl b 0 l.length c, .func (.func 44) #[] #[vp c0 0,vp c1 0]] w
   (fun v D=> ∃o,D= [(b,o)]∧v= .tuple #[]∧ ∃Z:List OnL,QF_ l Z∧o=J7_ onC E rest Z):=by
 have hl0:=(Array.getElem?_eq_some_iff.1 h0).1
 have hl1:=(Array.getElem?_eq_some_iff.1 h1).1
 have hcm: @CmpLays OnL ⟨on0⟩ Tryz.prog 44 #[vp c0 0,vp c1 0] onC 34 Qa_ b 0 l.length w:=fun m os dk _ x y=>by
  refine ajR_ x y c0 c1 _ ?_ ?_
  ·show((w.heap.modify b _)++os)[c0]? =_
   rw[Array.getElem?_append_left (by rw[Array.size_modify];exact hl0),Array.getElem?_modify,if_neg hn0];exact h0
  ·show((w.heap.modify b _)++os)[c1]? =_
   rw[Array.getElem?_append_left (by rw[Array.size_modify];exact hl1),Array.getElem?_modify,if_neg hn1];exact h1
 have h:= @afm_ OnL ⟨Go.Proofs.on0⟩ onC 34 Tryz.prog Tryz.sortOn_ren Tryz.sortOn Tryz.isAgg51 Tryz.sizeOf51 z8_ WJ_ Qa_ swoOn 44 #[vp c0 0,vp c1 0] Tryz.call44 w b c E l rest hcm hb hsz
 refine Rets.mono h ?_
 rintro v D ⟨o,rfl,rfl,l',hp,hs,rfl⟩
 exact⟨_,rfl,rfl,l',⟨hp,hs⟩,rfl⟩
theorem ank_ (v:Value) (X:zb_) (l:List OnL) (c0 c1:Nat) (w:World) (hG:Gr X 51 34 v l.length (l.map onC).flatten) (hX: ∀p,p∈X→w.heap[p.1]? =some p.2) (hn: (keys X).Nodup) (hl:l.length<1000000)
  (h0:w.heap[c0]? =some (.cells #[.func (.func 19) #[] #[]] 53 (0,0))) (h1:w.heap[c1]? =some (.cells #[.func (.func 20) #[] #[]] 53 (0,0))) (hn0:c0∉keys X) (hn1:c1∉keys X):
  Rets Tryz.prog 17 #[v, .func (.func 44) #[] #[vp c0 0,vp c1 0]] w (XS w X (fun v' D=>v'= .tuple #[]∧ ∃Z,QF_ l Z∧Gr D 51 34 v l.length (Z.map onC).flatten)):=by
 rcases hG with hS| ⟨e0,e1,rb,rfl,hlk⟩
 ·rcases hS.inv with⟨rfl,e0,e1⟩ | ⟨rb,c,rest,rfl,hlk,-,hc,hc0,hr⟩
  ·obtain rfl:l= []:=List.eq_nil_of_length_eq_zero e0
   refine(Rets.chunkV hX hn (@aaK_ Tryz.prog Tryz.sortOn_ren Tryz.sortOn none 0 _ w)).mono ?_
   rintro v' D ⟨hE,rfl,hv⟩
   exact⟨hE,hv,[],⟨List.Perm.nil,List.Pairwise.nil⟩,Gr.nl⟩
  ·have hk:=zo_ hlk
   refine(Rets.chunk hX hn hk (acu_ (c:=c) w (hX _ (zw_ hlk)) (by omega) h0 h1 (fun e=>hn0 (e▸hk)) (fun e=>hn1 (e▸hk)))).mono ?_
   rintro v' D ⟨hE,o,rfl,hv,Z,hZ,rfl⟩
   refine⟨hE,hv,Z,hZ, .inl ?_⟩
   have z1:=hZ.1.length_eq
   rw[←z1]
   exact Buf.at_ (xG_ hlk) (by rw[kv_ z8_]) (by rw[z1];exact hr) (by omega) hc0
 ·obtain rfl:l= []:=List.eq_nil_of_length_eq_zero e0
  refine(Rets.chunkV hX hn (@aaK_ Tryz.prog Tryz.sortOn_ren Tryz.sortOn (some ⟨rb,0,none⟩) 0 _ w)).mono ?_
  rintro v' D ⟨hE,rfl,hv⟩
  exact⟨hE,hv,[],⟨List.Perm.nil,List.Pairwise.nil⟩, .inr ⟨rfl,rfl,rb,rfl,hlk⟩⟩
theorem K4_ (k:Nat):Value.cells (.func (.func k) #[] #[])= #[.func (.func k) #[] #[]]:=rfl
set_option linter.defProp false
def Jd_:= @K4_
theorem ahI_ (w:World):
  Rets Tryz.prog 18 #[.func (.func 19) #[] #[], .func (.func 20) #[] #[]] w (XS w [] (fun v D=> ∃c0 c1,v= .func (.func 44) #[] #[vp c0 0,vp c1 0]∧(c0,Obj.cells #[.func (.func 19) #[] #[]] 53 (0,0))∈D∧(c1,Obj.cells #[.func (.func 20) #[] #[]] 53 (0,0))∈D)):=by
 refine Rets.enterX Tryz.func18 rfl (rs:= [.tmp 4]) Tryz.results18 Tryz.ntmps18 (fun p hp=>by cases hp) (by simp[keys]) ?_
 refine kf ?_
 first|with_reducible refine ks [] @Jd_ ?_|refine kp @Jd_ ?_
 refine Ow.box rfl rfl fun b2 hb2 hw2=> ?_
 simp only[zD_,zH_,zG_,za_,List.nil_append,List.cons_append]
 refine Ow.go rfl ?_
 simp(disch:=(first|assumption|omega| (simp only[wr_,we_,UInt64.reduceToNat];try omega))) only[↓Sx.S0,Sx.S1,Tryz.fx,Jd_,Nat.reduceAdd,Nat.reducePow,Int.reducePow,Nat.reduceBEq, ↓reduceIte,UInt8.reduceToNat,UInt16.reduceToNat,UInt32.reduceToNat,UInt64.reduceToNat,Int.reduceToNat]
 refine Ow.box rfl rfl fun b3 hb3 hw3=> ?_
 simp only[zD_,zH_,zG_,za_,List.nil_append,List.cons_append]
 refine Ow.go rfl ?_
 simp(disch:=(first|assumption|omega| (simp only[wr_,we_,UInt64.reduceToNat];try omega))) only[↓Sx.S0,Sx.S1,Tryz.fx,Jd_,Nat.reduceAdd,Nat.reducePow,Int.reducePow,Nat.reduceBEq, ↓reduceIte,UInt8.reduceToNat,UInt16.reduceToNat,UInt32.reduceToNat,UInt64.reduceToNat,Int.reduceToNat]
 first|with_reducible refine ks [] @Jd_ ?_|refine kp @Jd_ ?_
 refine⟨_,(ke @Jd_), ?_⟩
 simp only[List.map_toArray,List.map_cons,List.map_nil,zD_,zH_,zG_]
 exact⟨Ext.of_new ⟨hw2,hw3,trivial⟩,b2,b3,rfl,by simp[K4_],by simp[K4_]⟩
theorem aaJ_ (a:OnL) (E:TypeId):zl_ (some (true,2)) (some (.cells (onC a).toArray E (0,0))) 0=some (obV ((a.k.val:Nat):Int) a.x):=by
 exact kL_ [] [vi ((a.k.val:Nat):Int),vs a.x] (kq_ a.id) E (0,0) rfl rfl
def onO (a:OnL):ObK:=⟨((a.k.val:Nat):Int),a.x⟩
theorem aqK_ (a b:ObK):qL_ Tryz.prog .eql 26 (obV a.k a.t) (obV b.k b.t)=some (.bool (decide (a=b))):=by
 have h:=amI_ a b
 unfold qL_ eqX obV at*;rw[show Tryz.prog.eqGuardType Tryz.prog.depth 26=false by kernel_rfl];simp[qZ_,h]
set_option linter.defProp false
def JX_:= @aaJ_
theorem aek_ (a b:OnL) (w:World):Rets Tryz.prog 22 #[.agg (onC a).toArray, .agg (onC b).toArray] w (fun v D=>v= .bool (decide (onO a=onO b))∧D= []):=by
 have e:qL_ Tryz.prog .eql 26 (obV ((a.k.val:Nat):Int) a.x) (obV ((b.k.val:Nat):Int) b.x)=some (.bool (decide (onO a=onO b))):=aqK_ (onO a) (onO b)
 refine Rets.enterV Tryz.func22 rfl (rs:= [.tmp 4]) Tryz.results22 Tryz.ntmps22 ?_
 refine kf ?_
 first|with_reducible refine ks [] @JX_ ?_|refine kp @JX_ ?_
 refine Ow.box rfl rfl fun b2 hb2 hw2=> ?_
 simp only[zD_,zH_,zG_,za_,List.nil_append,List.cons_append]
 refine Ow.go rfl ?_
 simp(disch:=(first|assumption|omega| (simp only[wr_,we_,UInt64.reduceToNat];try omega))) only[↓Sx.S0,Sx.S1,Tryz.fx,JX_,Nat.reduceAdd,Nat.reducePow,Int.reducePow,Nat.reduceBEq, ↓reduceIte,UInt8.reduceToNat,UInt16.reduceToNat,UInt32.reduceToNat,UInt64.reduceToNat,Int.reduceToNat]
 refine Ow.box rfl rfl fun b3 hb3 hw3=> ?_
 simp only[zD_,zH_,zG_,za_,List.nil_append,List.cons_append]
 refine Ow.go rfl ?_
 simp(disch:=(first|assumption|omega| (simp only[wr_,we_,UInt64.reduceToNat];try omega))) only[↓Sx.S0,Sx.S1,Tryz.fx,JX_,Nat.reduceAdd,Nat.reducePow,Int.reducePow,Nat.reduceBEq, ↓reduceIte,UInt8.reduceToNat,UInt16.reduceToNat,UInt32.reduceToNat,UInt64.reduceToNat,Int.reduceToNat]
 obtain⟨h23,-⟩:=hb3
 have r2:zk_ w [(b2,Obj.cells (onC a).toArray 51 (0,0)),(b3, .cells (onC b).toArray 51 (0,0))] b2=some (.cells (onC a).toArray 51 (0,0)):=zr_ _ _ _ _
 have r3:zk_ w [(b2,Obj.cells (onC a).toArray 51 (0,0)),(b3, .cells (onC b).toArray 51 (0,0))] b3=some (.cells (onC b).toArray 51 (0,0)):=by rw[zm_ _ _ _ _ _ (by omega)];exact zr_ _ _ _ _
 first|with_reducible refine ks [] (And.intro @JX_ (And.intro @e (And.intro @r2 (@r3)))) ?_|refine kp (And.intro @JX_ (And.intro @e (And.intro @r2 (@r3)))) ?_
 refine⟨_,(ke @JX_),⟨hw2,hw3,trivial⟩, ?_⟩
 rfl
end Go.Proofs
end
namespace Go.Sx
open Go
section
variable {P:Program} {w0:World} {f:Fr} {L:zb_} {N:Fr→zb_→Prop} {ops:Array Oper} {rest:List Oper} {md:Md} {d:Option Tmp} {ty:TypeId} {ps:String} {af:Array Edge} {g:Option (Nat×Bool)}
theorem Ow.clearRow {ts e:TypeId} {z:Value} {x:Operand} {b off n c:Nat} {cs:Array Value} {E:TypeId} {md':Md} (he:md.turn=some md')
  (hs:zg_ ops f ⟨d, .call ⟨.builtin .clear, #[x], #[ts]⟩,ty,ps,af,g⟩=false) (hu:P.underlying ts=some (.slice e)) (hz:zI_ P e=some z) (hz1: ∀v,v∈ (Builtin.zeroCells z.cells n).toList→v.oneCell'=true)
  (hx:ev f x=vsl b off n c) (h0:0<n) (hl:look L b=some (.cells cs E (0,0))) (hn:off+n*z.cells.size≤cs.size)
  (hO:Ow P w0 ops md' rest (qd_ f d (.tuple #[])) (setB L b (.cells (vV_ cs off (Builtin.zeroCells z.cells n).toList) E (0,0))) N):
  Ow P w0 ops md (⟨d, .call ⟨.builtin .clear, #[x], #[ts]⟩,ty,ps,af,g⟩::rest) f L N:=by
 refine Ow.step he rfl hs fun w hw=> ?_
 have hhb:=hw.has _ _ (zw_ hl)
 have hzv:=jf_ (P:=P) hz
 have hst:=jw_ (P:=P) (b:=b) (off:=off) (E:=E) (fz:=(0,0)) (Builtin.zeroCells z.cells n).toList 0 cs w hhb (by simp[Builtin.zeroCells];omega) (.inl (Nat.le_refl 0)) (List.all_eq_true.2 hz1)
 refine .inl ⟨.tuple #[],{w with heap:=w.heap.setIfInBounds b (.cells (vV_ cs off (Builtin.zeroCells z.cells n).toList) E (0,0))},_, ?_,hw.set (zo_ hl) rfl rfl rfl rfl,hO⟩
 simp only[execOp,resolve,Sem.run_bind,Sem.run_pure,Result.andThen_ok,invoke,builtin,List.map_toArray,List.map_cons,List.map_nil,hx]
 obtain⟨n,rfl⟩: ∃n',n=n'+1:=⟨n - 1,by omega⟩
 simp only[Builtin.clear_,vsl,List.getElem?_toArray,List.getElem?_cons_zero,Sem.run_bind,run_underlying hu w,Result.andThen_ok,hzv]
 rw[Nat.add_zero] at hst
 rw[hst]
 rfl
end
end Go.Sx
section
open Go Go.Proofs Go.Sx Go.StP Go.Flo Go.Shelf Go.Sort
namespace Go.Proofs
set_option maxRecDepth 10000
set_option maxHeartbeats 1000000
set_option linter.unusedSimpArgs false
def xd_ (p:OnL):List OnL→List OnL
 | []=> []
 |b::l=>if onO b=onO p then xd_ b l else b::xd_ b l
def z7_:List OnL→List OnL
 | []=> []
 |a::l=>a::xd_ a l
theorem X0_ (x:OnL): ∀ (p:OnL) (l:List OnL),xd_ p (l++ [x])=if onO x=onO ((p::l).getD l.length on0) then xd_ p l else xd_ p l++ [x]
 |p,[]=>by
  simp only[List.nil_append,xd_,List.length_nil,List.getD_cons_zero]
 |p,b::l=>by
  rw[List.cons_append,xd_,xd_,X0_ x b l,List.length_cons,List.getD_cons_succ]
  split<;>split<;>rfl
theorem XR_ {l:List OnL} {j:Nat} (h1:1≤j) (h2:j<l.length):z7_ (l.take (j+1))=if onO (l.getD j on0)=onO (l.getD (j - 1) on0) then z7_ (l.take j) else z7_ (l.take j)++ [l.getD j on0]:=by
 rw[StP.take_snoc (z:=on0) h2]
 obtain⟨a,m,hm⟩: ∃a m,l.take j=a::m:=by
  cases h:l.take j with
  |nil=>
   have:=congrArg List.length h
   rw[List.length_take,Nat.min_eq_left (by omega)] at this
   simp at this;omega
  |cons a m=>exact⟨a,m,rfl⟩
 have hml:m.length+1=j:=by
  have:=congrArg List.length hm
  rw[List.length_take,Nat.min_eq_left (by omega)] at this
  simp at this;omega
 have hg: (a::m).getD m.length on0=l.getD (j - 1) on0:=by
  rw[←hm,List.getD_eq_getElem?_getD,List.getElem?_take_of_lt (by omega),←List.getD_eq_getElem?_getD]
  congr 1;omega
 rw[hm,List.cons_append]
 show a::xd_ a (m++ [l.getD j on0])=if onO (l.getD j on0)=onO (l.getD (j - 1) on0) then a::xd_ a m else(a::xd_ a m)++ [l.getD j on0]
 rw[X0_,hg]
 split<;>rfl
theorem aev_: ∀ (p:OnL) (l:List OnL),(xd_ p l).length≤l.length
 |_,[]=>Nat.le_refl _
 |p,b::l=>by
  unfold xd_
  have:=aev_ b l
  split
  ·simp only[List.length_cons] at*;omega
  ·simp only[List.length_cons] at*;omega
theorem Qe_: ∀ (l:List OnL),(z7_ l).length≤l.length
 | []=>Nat.le_refl _
 |a::l=>by have:=aev_ a l;simp only[z7_,List.length_cons];omega
theorem Q7_ (a:Bool) (m b n c k:Nat) (hk:k≤n) (hc:k<c):qs_ (.sl (a,m)) (vsl b 0 n c) (some (some (k:Int))) none=some (vsl b (k*m) (n - k) (c - k)):=by
 unfold qs_ vsl
 simp only[aeR_ _ _ _ (⟨by omega,by omega⟩: (0:Int)≤ (k:Int)∧(k:Int)≤ (n:Int)),Int.toNat_natCast]
 rw[if_neg (by omega)]
 simp[qB_]
theorem aiK_ (a:Bool) (m b n c k:Nat) (hk:k≤c):qs_ (.sl (a,m)) (vsl b 0 n c) none (some (some (k:Int)))=some (vsl b 0 k c):=by
 unfold qs_ vsl
 simp only[ahY_ _ _ _ (⟨by omega,by omega⟩: (0:Int)≤ (k:Int)∧(k:Int)≤ (c:Int)),Int.toNat_natCast]
 simp
 intro h;rfl
def aqM_ (b c:Nat) (l:List OnL) (rn:Nat) (E:TypeId) (v:Value) (o:Obj):Prop:=
 ∃rest',v=vsl b 0 (z7_ l).length c∧o= .cells (((z7_ l).map onC).flatten++rest').toArray E (0,0)∧rest'.length+ (z7_ l).length*34=l.length*34+rn
theorem zrOn:zI_ Tryz.prog 51=some (.agg (onC on0).toArray):=id (by kernel_rfl)
theorem aoM_ (n:Nat): ∀v,v∈ (Builtin.zeroCells (Value.agg (onC on0).toArray).cells n).toList→v.oneCell'=true:=by
 intro v hv
 simp only[Builtin.zeroCells,Array.toList_map,List.mem_map] at hv
 obtain⟨i,-,rfl⟩:=hv
 rw[za_]
 have h: (onC on0).toArray.size=34:=by rw[List.size_toArray,z8_]
 have h2:i% (onC on0).toArray.size< (onC on0).toArray.size:=by rw[h];omega
 rw[getElem!_pos (onC on0).toArray _ h2]
 exact WJ_ on0 _ (by rw[List.getElem_toArray];exact List.getElem_mem _)
theorem VZ_ (a:Array Value) (w:World): (callFunc 22 a).run Tryz.prog w= .ok (.enter 22 a) w:=Tryz.call22 a w
structure CoG where
 g:Nat
 k:Nat
 m:List OnL
set_option linter.defProp false
def qi_:=And.intro (@zA_) (@zz_)
theorem aa0_ (b c:Nat) (l:List OnL) (rest:List Value) (E:TypeId) (w:World) (hb:w.heap[b]? =some (J7_ onC E rest l)) (hc:l.length≤c) (hl:l.length<1000000):
  Rets Tryz.prog 21 #[vsl b 0 l.length c, .func (.func 22) #[] #[]] w (fun v D=> ∃o,D= [(b,o)]∧aqM_ b c l rest.length E v o):=by
 refine Rets.enterM Tryz.func21 rfl (rs:= [.tmp 4]) Tryz.results21 Tryz.ntmps21 hb ?_
 refine kf ?_
 have hlen:wt_ (.sl (true,34)) (vsl b 0 l.length c)=some (vi l.length):=rfl
 by_cases h2:l.length<2
 ·have d1:decide ((l.length:Int)<2)=true:=decide_eq_true (by omega)
  first|with_reducible refine ks [] (And.intro @qi_ (And.intro @hlen (@d1))) ?_|refine kp (And.intro @qi_ (And.intro @hlen (@d1))) ?_
  have hu:z7_ l=l:=by
   match l,h2 with
   | [],_=>rfl
   | [a],_=>rfl
  refine⟨_,_,_,(ke @qi_),rfl,trivial, ?_⟩
  exact⟨rest,by rw[hu];rfl,by rw[hu];rfl,by rw[hu];omega⟩
 have d1:decide ((l.length:Int)<2)=false:=decide_eq_false (by omega)
 first|with_reducible refine ks [] (And.intro @qi_ (And.intro @hlen (@d1))) ?_|refine kp (And.intro @qi_ (And.intro @hlen (@d1))) ?_
 refine Cw.loopG (G:=Nat) [12,13,14,15,18,19,20,21,22,23,24,25,26,27,28,29,30,31,6,7,32,33,34,35,38,39,40,41,42,43,44,45,46,47,48,49,50,51,52,53,54,55,56,57,58,5,36,37,59,60,61,62,63,64,4,16,17] (fun g=> [(5,vi g)]) (fun g=> [(b,J7_ onC E rest l)]) (fun g=>1≤g∧g≤l.length∧z7_ (l.take g)=l.take g) (fun g=>l.length - g) 1 rfl rfl ?_ ?_
 ·refine⟨Nat.le_refl _,by omega, ?_⟩
  cases l with
  |nil=>rfl
  |cons a l=>rfl
 intro g j hg
 refine kv ?_
 obtain⟨h1,hgl,hu⟩:=hg
 by_cases hlt:g<l.length
 ·have hld:zl_ (some (true,34)) (some (J7_ onC E rest l)) (g*34)=some (.agg (onC (l.getD g on0)).toArray):=Qj_ z8_ g hlt
  have hld1:zl_ (some (true,34)) (some (J7_ onC E rest l)) ((g - 1)*34)=some (.agg (onC (l.getD (g - 1) on0)).toArray):=Qj_ z8_ (g - 1) (by omega)
  have d2:decide ((g:Int)< (l.length:Int))=true:=decide_eq_true (by omega)
  have hst:=XR_ h1 hlt
  generalize hx:l.getD g on0=x at*
  generalize hy:l.getD (g - 1) on0=y at*
  first|with_reducible refine ks [] (And.intro @qi_ (And.intro @hlen (@d2))) ?_|refine kp (And.intro @qi_ (And.intro @hlen (@d2))) ?_
  refine Cw.regionS [b] [0,1,2,3,5,6,7,8,4,9,10] [] (by kernel_rfl) (by kernel_rfl) (by kernel_rfl) ?_
  refine kya ?_
  refine kq (And.intro @qi_ (And.intro @hlen (And.intro @hld (@hld1)))) ?_
  have hq:=fun w'=>aek_ x y w'
  by_cases hxy:onO x=onO y
  ·rw[decide_eq_true hxy] at hq
   rw[if_pos hxy,hu] at hst
   refine Ow.callV (v:= .bool true) rfl rfl VZ_ (fun w' hw'=>by
    simp only[List.map_toArray,List.map_cons,List.map_nil,zD_,zH_,zG_,Array.empty_append,Array.append_empty]
    exact hq w') ?_
   refine kq @qi_ ?_
   try with_reducible refine Ow.nil ?_
   have hs2:=Q7_ true 34 b l.length c g (by omega) (by omega)
   first|with_reducible refine ks [] (And.intro @qi_ @hs2) ?_|refine kp (And.intro @qi_ @hs2) ?_
   have hlen2:wt_ (.sl (true,34)) (vsl b (g*34) (l.length - g) (c - g))=some (vi (l.length - g:Nat)):=rfl
   have hul: (l.take g).length=g:=by rw[List.length_take,Nat.min_eq_left (by omega)]
   refine Cw.loopG (G:=CoG) [32,33,34,35,38,39,40,41,42,43,44,45,46,47,48,49,50,51,52,53,54,55,56,57,58,5,36,37,7] (fun q=> [(5,vi q.k),(7,vi q.g)]) (fun q=> [(b,J7_ onC E rest q.m)]) (fun q=>1≤q.g∧g+q.g≤l.length∧q.m.length=l.length∧q.m.take q.k=z7_ (l.take (g+q.g))∧(z7_ (l.take (g+q.g))).length=q.k∧q.k+1≤g+q.g∧q.m.drop (g+q.g - 1)=l.drop (g+q.g - 1)) (fun q=>l.length - q.g) ⟨1,g,l⟩ rfl rfl ?_ ?_
   ·refine⟨Nat.le_refl _,by show g+1≤l.length;omega,rfl, ?_, ?_,Nat.le_refl _,rfl⟩
    ·rw[hst]
    ·rw[hst];exact hul
   intro q jq hq
   refine kv ?_
   obtain⟨q,k,m⟩:=q
   simp only at hq ⊢
   obtain⟨hq1,hqn,hml,htk,hkl,hk1,hdr⟩:=hq
   by_cases hql:g+q<l.length
   ·have d3:decide ((q:Int)< ((l.length - g:Nat):Int))=true:=decide_eq_true (by omega)
    have e1:g*34+q*34=(g+q)*34:=by omega
    have e2:g*34+ (q - 1)*34=(g+q - 1)*34:=by omega
    have hm0:m.getD (g+q) on0=l.getD (g+q) on0:=by
     have h:=congrArg (fun z=>List.getD z 1 on0) hdr
     simp only[wT_] at h
     rw[show g+q - 1+1=g+q by omega] at h
     exact h
    have hm1:m.getD (g+q - 1) on0=l.getD (g+q - 1) on0:=by
     have h:=congrArg (fun z=>List.getD z 0 on0) hdr
     simp only[wT_] at h
     exact h
    have hl2:zl_ (some (true,34)) (some (J7_ onC E rest m)) ((g+q)*34)=some (.agg (onC (m.getD (g+q) on0)).toArray):=Qj_ z8_ (g+q) (by omega)
    have hl3:zl_ (some (true,34)) (some (J7_ onC E rest m)) ((g+q - 1)*34)=some (.agg (onC (m.getD (g+q - 1) on0)).toArray):=Qj_ z8_ (g+q - 1) (by omega)
    rw[←e1] at hl2
    rw[←e2] at hl3
    rw[hm0] at hl2
    rw[hm1] at hl3
    have hst2:=XR_ (l:=l) (j:=g+q) (by omega) hql
    generalize hx2:l.getD (g+q) on0=x2 at*
    generalize hy2:l.getD (g+q - 1) on0=y2 at*
    first|with_reducible refine ks [] (And.intro @qi_ (And.intro @hlen2 (@d3))) ?_|refine kp (And.intro @qi_ (And.intro @hlen2 (@d3))) ?_
    refine Cw.regionS [b] [0,1,2,3,5,6,7,8,4,9,10,11] [] (by kernel_rfl) (by kernel_rfl) (by kernel_rfl) ?_
    refine kya ?_
    refine kq (And.intro @qi_ (And.intro @hlen2 (And.intro @hl2 (@hl3)))) ?_
    have hq2:=fun w'=>aek_ x2 y2 w'
    by_cases hxy2:onO x2=onO y2
    ·rw[decide_eq_true hxy2] at hq2
     rw[if_pos hxy2] at hst2
     have d4: (!true)=false:=rfl
     refine Ow.callV (v:= .bool true) rfl rfl VZ_ (fun w' hw'=>by
      simp only[List.map_toArray,List.map_cons,List.map_nil,zD_,zH_,zG_,Array.empty_append,Array.append_empty]
      exact hq2 w') ?_
     refine kq (And.intro @qi_ @d4) ?_
     try with_reducible refine Ow.nil ?_
     first|with_reducible refine ks [] (And.intro @qi_ @d4) ?_|refine kp (And.intro @qi_ @d4) ?_
     refine Again.mk (G:=CoG) ⟨q+1,k,m⟩ (by show l.length - (q+1)<l.length - q;omega) ⟨by show 1≤q+1;omega,by show g+ (q+1)≤l.length;omega,hml, ?_, ?_,by show k+1≤g+ (q+1);omega, ?_⟩ rfl rfl
     ·show m.take k=z7_ (l.take (g+ (q+1)))
      rw[←Nat.add_assoc,hst2];exact htk
     ·show(z7_ (l.take (g+ (q+1)))).length=k
      rw[←Nat.add_assoc,hst2];exact hkl
     ·show m.drop (g+ (q+1) - 1)=l.drop (g+ (q+1) - 1)
      have h:=congrArg (List.drop 1) hdr
      rw[List.drop_drop,List.drop_drop] at h
      rw[show g+ (q+1) - 1=g+q - 1+1 by omega];exact h
    ·rw[decide_eq_false hxy2] at hq2
     rw[if_neg hxy2] at hst2
     have hsr:=ahu_ (enc:=onC) (E:=E) (rest:=rest) (d:=m) z8_ Jy_ k x2 true (by omega)
     have d4: (!false)=true:=rfl
     refine Ow.callV (v:= .bool false) rfl rfl VZ_ (fun w' hw'=>by
      simp only[List.map_toArray,List.map_cons,List.map_nil,zD_,zH_,zG_,Array.empty_append,Array.append_empty]
      exact hq2 w') ?_
     refine kq (And.intro @qi_ @d4) ?_
     try with_reducible refine Ow.nil ?_
     first|with_reducible refine ks [] (And.intro @qi_ (And.intro @d4 (And.intro @hl2 (@hsr)))) ?_|refine kp (And.intro @qi_ (And.intro @d4 (And.intro @hl2 (@hsr)))) ?_
     have hkn:k<g+q:=by omega
     refine Again.mk (G:=CoG) ⟨q+1,k+1,m.set k x2⟩ (by show l.length - (q+1)<l.length - q;omega) ⟨by show 1≤q+1;omega,by show g+ (q+1)≤l.length;omega,by show(m.set k x2).length=l.length;rw[List.length_set];exact hml, ?_, ?_,by show k+1+1≤g+ (q+1);omega, ?_⟩ rfl rfl
     ·show(m.set k x2).take (k+1)=z7_ (l.take (g+ (q+1)))
      rw[←Nat.add_assoc,hst2,StP.take_snoc (z:=on0) (by rw[List.length_set];omega),List.take_set_of_le (Nat.le_refl _),htk]
      congr 1
      rw[List.getD_eq_getElem?_getD,List.getElem?_set_self (by omega)];rfl
     ·show(z7_ (l.take (g+ (q+1)))).length=k+1
      rw[←Nat.add_assoc,hst2,List.length_append,hkl];rfl
     ·show(m.set k x2).drop (g+ (q+1) - 1)=l.drop (g+ (q+1) - 1)
      rw[List.drop_set_of_lt (by omega)]
      have h:=congrArg (List.drop 1) hdr
      rw[List.drop_drop,List.drop_drop] at h
      rw[show g+ (q+1) - 1=g+q - 1+1 by omega];exact h
   ·obtain rfl:q=l.length - g:=by omega
    have d3:decide (((l.length - g:Nat):Int)< ((l.length - g:Nat):Int))=false:=by simp
    have hgq:g+ (l.length - g)=l.length:=by omega
    rw[hgq] at hk1 htk hkl
    rw[List.take_length] at htk hkl
    have hcl:=Q7_ true 34 b l.length c k (by omega) (by omega)
    have hct:=aiK_ true 34 b l.length c k (by omega)
    first|with_reducible refine ks [] (And.intro @qi_ (And.intro @hlen2 (And.intro @d3 (@hcl)))) ?_|refine kp (And.intro @qi_ (And.intro @hlen2 (And.intro @d3 (@hcl)))) ?_
    have hsp: (m.map onC).flatten++rest=((z7_ l).map onC).flatten++ (((m.drop k).map onC).flatten++rest):=by
     rw[←htk,←List.append_assoc,←List.flatten_append,←List.map_append,List.take_append_drop]
    have hAl: (((z7_ l).map onC).flatten).length=k*34:=by rw[kv_ z8_,hkl]
    have hBl: (((m.drop k).map onC).flatten++rest).length=(l.length - k)*34+rest.length:=by
     rw[List.length_append,kv_ z8_,List.length_drop,hml]
    have hzl: (Builtin.zeroCells (Value.agg (onC on0).toArray).cells (l.length - k)).toList.length=(l.length - k)*34:=by
     simp[Builtin.zeroCells,za_,z8_]
    refine Ow.clearRow (e:=51) (cs:=((m.map onC).flatten++rest).toArray) (E:=E) rfl rfl Tryz.underlying47 zrOn ?_ rfl (by omega) (zP_ _ _ _) ?_ ?_
    ·exact aoM_ _
    ·have h1: ((m.map onC).flatten++rest).length=k*34+ ((l.length - k)*34+rest.length):=by rw[hsp,List.length_append,hAl,hBl]
     have e34: (Value.agg (onC on0).toArray).cells.size=34:=by rw[za_];simp[z8_]
     rw[e34,List.size_toArray,h1]
     omega
    rw[hsp,←hAl,VU_ _ _ _ (by rw[hzl,hBl];omega)]
    generalize hzz: (Builtin.zeroCells (Value.agg (onC on0).toArray).cells (l.length - k)).toList=zz at*
    refine ko @qi_ ?_
    first|with_reducible refine ks [] (And.intro @qi_ @hct) ?_|refine kp (And.intro @qi_ @hct) ?_
    rw[List.append_assoc]
    refine⟨_,_,_,(ke @qi_),rfl,trivial, ?_⟩
    exact⟨_,by rw[hkl];rfl,rfl,by rw[List.length_append,List.length_drop,hzl,hBl,hkl];omega⟩
  ·rw[decide_eq_false hxy] at hq
   rw[if_neg hxy] at hst
   refine Ow.callV (v:= .bool false) rfl rfl VZ_ (fun w' hw'=>by
    simp only[List.map_toArray,List.map_cons,List.map_nil,zD_,zH_,zG_,Array.empty_append,Array.append_empty]
    exact hq w') ?_
   refine kq @qi_ ?_
   try with_reducible refine Ow.nil ?_
   first|with_reducible refine ks [] @qi_ ?_|refine kp @qi_ ?_
   refine Again.mk (G:=Nat) (g+1) (by show l.length - (g+1)<l.length - g;omega) ⟨by show 1≤g+1;omega,hlt, ?_⟩ rfl rfl
   rw[hst,hu,←hx,←StP.take_snoc hlt]
 ·obtain rfl:g=l.length:=by omega
  have d2:decide ((l.length:Int)< (l.length:Int))=false:=by simp
  rw[List.take_length] at hu
  first|with_reducible refine ks [] (And.intro @qi_ (And.intro @hlen (@d2))) ?_|refine kp (And.intro @qi_ (And.intro @hlen (@d2))) ?_
  refine⟨_,_,_,(ke @qi_),rfl,trivial, ?_⟩
  exact⟨rest,by rw[hu];rfl,by rw[hu];rfl,by rw[hu];omega⟩
theorem Jg_ (v:Value) (w:World) (hlen: ∀x,wt_ (.sl x) v=some (vi 0)):
  Rets Tryz.prog 21 #[v, .func (.func 22) #[] #[]] w (fun r D=>r=v∧D= []):=by
 refine Rets.enterV Tryz.func21 rfl (rs:= [.tmp 4]) Tryz.results21 Tryz.ntmps21 ?_
 refine kf ?_
 have d1:decide ((0:Int)<2)=true:=rfl
 first|with_reducible refine ks [] (And.intro @qi_ (And.intro @hlen (@d1))) ?_|refine kp (And.intro @qi_ (And.intro @hlen (@d1))) ?_
 refine⟨_,(ke @qi_),trivial, ?_⟩
 rfl
theorem akR_ (v:Value) (X:zb_) (l:List OnL) (w:World) (hG:Gr X 51 34 v l.length (l.map onC).flatten) (hX: ∀p,p∈X→w.heap[p.1]? =some p.2) (hn: (keys X).Nodup) (hl:l.length<1000000):
  Rets Tryz.prog 21 #[v, .func (.func 22) #[] #[]] w (XS w X (fun r D=>Gr D 51 34 r (z7_ l).length ((z7_ l).map onC).flatten)):=by
 rcases hG with hS| ⟨e0,e1,rb,rfl,hlk⟩
 ·rcases hS.inv with⟨rfl,e0,e1⟩ | ⟨rb,c,rest,rfl,hlk,-,hc,hc0,hr⟩
  ·obtain rfl:l= []:=List.eq_nil_of_length_eq_zero e0
   refine(Rets.chunkV hX hn (Jg_ _ w fun x=>rfl)).mono ?_
   rintro v' D ⟨hE,rfl,rfl⟩
   exact⟨hE,Gr.nl⟩
  ·have hk:=zo_ hlk
   refine(Rets.chunk hX hn hk (aa0_ rb c l rest 51 w (hX _ (zw_ hlk)) (by omega) hl)).mono ?_
   rintro v' D ⟨hE,o,rfl,rest',rfl,rfl,hr'⟩
   have hul:=Qe_ l
   refine⟨hE, .inl ?_⟩
   exact Buf.at_ (xG_ hlk) (by rw[kv_ z8_]) (by rw[Nat.sub_mul];have:=Nat.mul_le_mul_right 34 hc;rw[Nat.sub_mul] at hr;omega) (by omega) hc0
 ·obtain rfl:l= []:=List.eq_nil_of_length_eq_zero e0
  refine(Rets.chunkV hX hn (Jg_ _ w fun x=>rfl)).mono ?_
  rintro v' D ⟨hE,rfl,rfl⟩
  exact⟨hE, .inr ⟨rfl,rfl,rb,rfl,hlk⟩⟩
end Go.Proofs
end
section
open Go Go.Proofs Go.Sx Go.StP Go.Flo Go.Shelf Go.Sort
namespace Go.Proofs
set_option maxRecDepth 10000
set_option maxHeartbeats 1000000
set_option linter.unusedSimpArgs false
theorem aez_ {w:World} {v:Value} {l:List OnL} {b off:Nat} {arr:Array Value} {E:TypeId} {fz:Nat×Nat} (h:RowS 34 onC on0 w v l b off arr E fz) {k:Nat} (hk:k<l.length):
  zl_ (some (true,34)) (some (.cells arr E fz)) (off+k*34)=some (.agg (onC (l.getD k on0)).toArray):=h.load z8_ (by decide) hk
theorem aee_ (a b:OnL) (E:TypeId):zn_ (some (true,34)) (some (.cells (onC a).toArray E (0,0))) 0 (.agg (onC b).toArray)=some (.cells (onC b).toArray E (0,0)):=by
 have:=j2_ (onC b) (n:=34) true (onC a).toArray E (by rw[z8_]) (Jy_ b) (by rw[List.size_toArray,z8_])
 exact this
theorem amf_ (a:OnL) (E:TypeId) (n:Nat):zl_ (some (false,n)) (some (.cells (onC a).toArray E (0,0))) 1=some (vs a.x):=rfl
theorem Qf_ (a:OnL):Value.cells (.agg (onC a).toArray)=(onC a).toArray:=za_ _
theorem ad9_ (x:OnL):xh_ Tryz.prog 47 1 [(0, .agg (onC x).toArray)]=some (51,(onC x).toArray):=qn_ Tryz.underlying47 Tryz.ag51 zrOn (by decide) (z8_ x)
theorem alG_ {w:World} {b:Nat} {s:List UInt8} (h:w.heap[b]? =some (.cells #[vs s] 9 (0,0))):SlV 1 V0_ [] w (vsl b 0 1 1) [s]:=
 SlV.sl (l:=([s]:List (List UInt8))) h (fun i hi j hj=>by
  obtain rfl:i=0:=by simp at hi;omega
  obtain rfl:j=0:=by omega
  rfl) (by simp) (by simp)
def ZV_ (l:List OnL):List OnL:=(ordV (l.map OnL.x)).map fun i=>l.getD i on0
theorem Zt_ (l:List OnL): (ZV_ l).Perm l:=by
 have h:=(Qx_ (l.map OnL.x)).map fun i=>l.getD i on0
 rw[List.length_map] at h
 have e: (List.range l.length).map (fun i=>l.getD i on0)=l:=by
  apply List.ext_getElem (by simp)
  intro i h1 h2
  simp[List.getD_eq_getElem?_getD,List.getElem?_eq_getElem h2]
 rw[e] at h
 exact h
theorem V9_ (l:List OnL): (ZV_ l).length=l.length:=(Zt_ l).length_eq
structure NrG where
 i:Nat
 v:Value
 X:zb_
 Y:zb_
theorem alA_ {D:zb_} {v:Value} {n:Nat} {l:List Nat} (h:GrI D 3 1 v n (l.map jt_).flatten):n=0∨ ∃b c rest,v=vsl b 0 n c∧n≤c∧(b,Obj.cells ((l.map jt_).flatten++rest).toArray 3 (0,0))∈D:=by
 obtain⟨X,hX,h| ⟨h0,-⟩⟩:=h
 ·rcases h.inv with⟨-,h0,-⟩ | ⟨b,c,rest,rfl,hl,-,hc,-⟩
  ·exact .inl h0
  ·exact .inr ⟨b,c,rest,rfl,hc,hX _ (zw_ hl)⟩
 ·exact .inl h0
def SmO (l:List OnL):Prop:= ∀a,a∈l→SmT a.x
theorem SmO.L {l:List OnL} (h:SmO l):SmL (l.map OnL.x):=fun k hk=>by
 rw[List.length_map] at hk
 rw[List.getD_eq_getElem?_getD,List.getElem?_map,List.getElem?_eq_getElem hk]
 exact h _ (List.getElem_mem _)
set_option linter.defProp false
def qG_:=And.intro (And.intro (@zA_) (And.intro (@zz_) (@jF_))) (And.intro (@amf_) (And.intro (@Qf_) (@aee_)))
theorem W0_ (v:Value) (l:List OnL) (w:World) (hv:SlV 34 onC on0 w v l) (hl:l.length<1000000) (hS:SmO l):
  Rets Tryz.prog 23 #[v] w (XS w [] (fun r D=>GrI D 51 34 r l.length ((ZV_ l).map onC).flatten)):=by
 obtain⟨rb,off,arr,E,fz,hr⟩:=hv.row
 have ln:=fun x=>hr.len x
 refine Rets.enterX Tryz.func23 rfl (rs:= [.tmp 2]) Tryz.results23 Tryz.ntmps23 (fun p hp=>by cases hp) (by simp[keys]) ?_
 refine kf ?_
 first|with_reducible refine ks [] (And.intro @qG_ @ln) ?_|refine kp (And.intro @qG_ @ln) ?_
 refine Cw.loopG (G:=NrG) [12,13,14,5,15,16,17,18,19,20,21,22,3,23,11] (fun g=> [(11,vi g.i),(3,g.v)]) (fun g=>g.X++g.Y) (fun g=>g.i≤l.length∧New w.heap.size g.X∧New w.heap.size g.Y∧Gr g.X 104 4 g.v g.i (((l.take g.i).map OnL.x).map skL).flatten) (fun g=>l.length - g.i) ⟨0, .slice none 0 0,[],[]⟩ rfl rfl ?_ ?_
 ·exact⟨Nat.zero_le _,trivial,trivial,Gr.nl⟩
 intro g j hg
 refine kv ?_
 obtain⟨i,vl,X,Y⟩:=g
 simp only at hg ⊢
 obtain⟨hi,hNX,hNY,hGr⟩:=hg
 by_cases hlt:i<l.length
 ·have hd0:decide ((i:Int)< (l.length:Int))=true:=decide_eq_true (by omega)
  have hrl:=hr.lt (by omega)
  have ix:=hr.idx true i hlt
  have ld:=aez_ hr hlt
  have hNN:New w.heap.size (X++Y):=hNX.app hNY
  have rd:zk_ w (X++Y) rb=some (.cells arr E fz):=by rw[zX_ (hNN.not hrl)];exact hr.has (by omega)
  have hts: (l.take (i+1)).map OnL.x=(l.take i).map OnL.x++ [(l.getD i on0).x]:=by
   rw[StP.take_snoc (z:=on0) hlt,List.map_append];rfl
  have hsx:SmT (l.getD i on0).x:=hS _ (by rw[List.getD_eq_getElem?_getD,List.getElem?_eq_getElem hlt];exact List.getElem_mem _)
  generalize l.getD i on0=a at*
  first|with_reducible refine ks [] (And.intro @qG_ (And.intro @hd0 (And.intro @ix (And.intro @ld (@rd))))) ?_|refine kp (And.intro @qG_ (And.intro @hd0 (And.intro @ix (And.intro @ld (@rd))))) ?_
  refine Ow.alloc rfl rfl zrOn fun b5 hb5 hw5=> ?_
  simp only[za_,List.nil_append,List.cons_append]
  refine Ow.permL (M:=(b5, .cells (onC on0).toArray 51 (0,0)):: (X++Y)) (by classical exact List.perm_iff_count.2 fun a=>by simp only[List.count_append,List.count_cons,List.count_nil]<;>omega) ?_
  refine ko @qG_ ?_
  first|with_reducible refine ks [] @qG_ ?_|refine kp @qG_ ?_
  refine Ow.buildSlice (e:=9) #[vs a.x] rfl rfl (by kernel_rfl) fun b6 hb6 hw6=> ?_
  refine ko @qG_ ?_
  refine Ow.callFV rfl Tryz.call46 (fun w' hw'=>aox_ a.x _ w' hsx (alG_ (hw'.has b6 (.cells #[vs a.x] 9 (0,0)) (by simp)))) ?_
  refine ko @qG_ ?_
  refine Ow.buildSlice (e:=104) (skL a.x).toArray rfl rfl (aeq_ _) fun b9 hb9 hw9=> ?_
  refine Ow.permL (M:=X++ (Y++ [(b5, .cells (onC a).toArray 51 (0,0)),(b6, .cells #[vs a.x] 9 (0,0)),(b9, .cells (skL a.x).toArray 104 (0,0))])) (by classical exact List.perm_iff_count.2 fun a=>by simp only[List.count_append,List.count_cons,List.count_nil]<;>omega) ?_
  refine ko @qG_ ?_
  refine Ow.appendXG (e:=104) (k:=1) (new:=skL a.x) (X:=X) vl rfl rfl rfl rfl Tryz.underlying101 Tryz.ag104 (by kernel_rfl) zrSk rfl Tryz.underlying101 (by intro k h;cases h) hGr (fun w' hw'=>AppX.one1 (hw'.has b9 (.cells (skL a.x).toArray 104 (0,0)) (by simp)) (Zl_ _) (abn_ _)) (by omega) (fun B3 v3 D3 hA3 hB3 hG3 hk13 hk23 hlk3=> ?_)
  have hN3:New w.heap.size D3:=New.of_le fun c hc=>by
   rcases hk23 c hc with h|h
   ·exact hNX.le c h
   ·omega
  refine ko @qG_ ?_
  first|with_reducible refine ks [] @qG_ ?_|refine kp @qG_ ?_
  refine Again.mk ⟨i+1,v3,D3,Y++ [(b5, .cells (onC a).toArray 51 (0,0)),(b6, .cells #[vs a.x] 9 (0,0)),(b9, .cells (skL a.x).toArray 104 (0,0))]⟩ (by show l.length - (i+1)<l.length - i;omega) ⟨hlt,hN3,hNY.app ⟨hw5,hw6,hw9,trivial⟩, ?_⟩ rfl rfl
  show Gr D3 104 4 v3 (i+1) (((l.take (i+1)).map OnL.x).map skL).flatten
  rw[hts]
  simpa using hG3
 ·obtain rfl:i=l.length:=by omega
  have hd0:decide ((l.length:Int)< (l.length:Int))=false:=by simp
  rw[List.take_length] at hGr
  first|with_reducible refine ks [] (And.intro @qG_ @hd0) ?_|refine kp (And.intro @qG_ @hd0) ?_
  refine Ow.callC rfl rfl Tryz.call47 (fun w' hw'=>Wk_ vl (l.map OnL.x) w' (hGr.slM (fun b o hm=>hw'.has b o (by simp[hm])) (by simp) rfl Zl_) (by simpa using hl) hS.L) (fun B4 v4 D4 hA4 hB4 hN4 hS4=> ?_)
  have hN4':=hN4.mono hB4
  have hpl: (ordV (l.map OnL.x)).length=l.length:=by have:=(Qx_ (l.map OnL.x)).length_eq;simpa using this
  have hpm: ∀i,i∈ordV (l.map OnL.x)→i<l.length:=fun i hi=>by have:=List.mem_range.1 ((Qx_ (l.map OnL.x)).mem_iff.1 hi);simpa using this
  have hnv:ZV_ l=(ordV (l.map OnL.x)).map fun i=>l.getD i on0:=rfl
  rw[List.length_map] at hS4
  generalize ordV (l.map OnL.x)=p at*
  have ln4:=wp_ hS4
  have hNY4:New w.heap.size (X++Y++D4):=(hNX.app hNY).app hN4'
  have hor:l.length=0∨ ∃b c rest,v4=vsl b 0 l.length c∧l.length≤c∧(b,Obj.cells ((p.map jt_).flatten++rest).toArray 3 (0,0))∈X++Y++D4:=by
   rcases alA_ hS4 with h| ⟨b,c,rest,h1,h2,h3⟩
   ·exact .inl h
   ·exact .inr ⟨b,c,rest,h1,h2,List.mem_append_right _ h3⟩
  clear hN4 hA4 hB4 hS4
  generalize X++Y++D4=Y4 at*
  refine ko (And.intro @qG_ @ln4) ?_
  first|with_reducible refine ks [] (And.intro @qG_ @ln4) ?_|refine kp (And.intro @qG_ @ln4) ?_
  refine Cw.loopG (G:=NrG) [28,29,30,8,31,32,33,34,35,36,37,6,38,27] (fun g=> [(27,vi g.i),(6,g.v)]) (fun g=>g.X++g.Y) (fun g=>g.i≤l.length∧New w.heap.size g.X∧New w.heap.size g.Y∧Gr g.X 51 34 g.v g.i (((p.take g.i).map fun i=>l.getD i on0).map onC).flatten∧(∀q,q∈Y4→q∈g.Y)) (fun g=>l.length - g.i) ⟨0, .slice none 0 0,[],Y4⟩ rfl rfl ?_ ?_
  ·exact⟨Nat.zero_le _,trivial,hNY4,Gr.nl,fun q hq=>hq⟩
  intro g j hg
  refine kv ?_
  clear hNY4 hGr
  obtain⟨i,vo,XO,Y⟩:=g
  simp only at hg ⊢
  obtain⟨hi,hNX,hNY,hGr,hmY⟩:=hg
  by_cases hlt:i<l.length
  ·obtain⟨bn,cn,rn,rfl,hcn,hmn⟩:=hor.resolve_left (by omega)
   refine Cw.world fun wz hwz=> ?_
   have hnd:=hwz.nodup
   clear hwz wz
   have d2:decide ((i:Int)< (l.length:Int))=true:=decide_eq_true (by omega)
   have hNN:New w.heap.size (XO++Y):=hNX.app hNY
   have rdn:zk_ w (XO++Y) bn=some (.cells ((p.map jt_).flatten++rn).toArray 3 (0,0)):=zt_ (zF_ hnd (List.mem_append_right _ (hmY _ hmn)))
   have ixn:=qz_ (false,1) bn 0 l.length cn i ⟨by omega,by omega⟩
   have ldn:=Qw_ (rest:=rn) (E:=3) (fz:=(0,0)) (show i<p.length by omega) 1
   simp only[Nat.mul_one,Nat.zero_add,Int.toNat_natCast] at ixn
   have hts: (p.take (i+1)).map (fun i=>l.getD i on0)=(p.take i).map (fun i=>l.getD i on0)++ [l.getD (p.getD i 0) on0]:=by
    rw[StP.take_snoc (z:=0) (show i<p.length by omega),List.map_append];rfl
   have hjl:p.getD i 0<l.length:=hpm _ (by rw[List.getD_eq_getElem?_getD,List.getElem?_eq_getElem (show i<p.length by omega)];exact List.getElem_mem _)
   generalize p.getD i 0=j at*
   have hrl:=hr.lt (by omega)
   have ix:=hr.idx true j hjl
   have ld:=aez_ hr hjl
   have rd:zk_ w (XO++Y) rb=some (.cells arr E fz):=by rw[zX_ (hNN.not hrl)];exact hr.has (by omega)
   generalize l.getD j on0=a at*
   first|with_reducible refine ks [] (And.intro @qG_ (And.intro @d2 (And.intro @ixn (And.intro @ldn (And.intro @rdn (And.intro @ix (And.intro @ld (@rd)))))))) ?_|refine kp (And.intro @qG_ (And.intro @d2 (And.intro @ixn (And.intro @ldn (And.intro @rdn (And.intro @ix (And.intro @ld (@rd)))))))) ?_
   refine Ow.buildSlice (e:=51) (onC a).toArray rfl rfl (ad9_ _) fun b9 hb9 hw9=> ?_
   refine ko @qG_ ?_
   refine Ow.appendXG (e:=51) (k:=1) (new:=onC a) (X:=XO) vo (List.append_assoc _ _ _) rfl rfl rfl Tryz.underlying47 Tryz.ag51 (by kernel_rfl) zrOn (by rw[Qf_,List.size_toArray,z8_]) Tryz.underlying47 (by intro k h;cases h) hGr (fun w' hw'=>AppX.one1 (hw'.has b9 (.cells (onC a).toArray 51 (0,0)) (by simp)) (z8_ _) (Jy_ _)) (by omega) (fun B3 v3 D3 hA3 hB3 hG3 hk13 hk23 hlk3=> ?_)
   have hN3:New w.heap.size D3:=New.of_le fun c hc=>by
    rcases hk23 c hc with h|h
    ·exact hNX.le c h
    ·omega
   refine ko @qG_ ?_
   first|with_reducible refine ks [] @qG_ ?_|refine kp @qG_ ?_
   refine Again.mk ⟨i+1,v3,D3,Y++ [(b9, .cells (onC a).toArray 51 (0,0))]⟩ (by show l.length - (i+1)<l.length - i;omega) ⟨hlt,hN3,hNY.app ⟨hw9,trivial⟩, ?_,fun q hq=>List.mem_append_left _ (hmY q hq)⟩ rfl rfl
   show Gr D3 51 34 v3 (i+1) (((p.take (i+1)).map fun i=>l.getD i on0).map onC).flatten
   rw[hts]
   simpa using hG3
  ·obtain rfl:i=l.length:=by omega
   have d2:decide ((l.length:Int)< (l.length:Int))=false:=by simp
   rw[List.take_of_length_le (by omega),←hnv] at hGr
   first|with_reducible refine ks [] (And.intro @qG_ @d2) ?_|refine kp (And.intro @qG_ @d2) ?_
   refine⟨_,(ke @qG_), ?_⟩
   exact⟨Ext.of_new (hNX.app hNY),hGr.i fun p hp=>by simp[hp]⟩
end Go.Proofs
end
section
open Go Go.Proofs Go.Sx Go.StP Go.Flo Go.Shelf Go.Sort
namespace Go.Proofs
set_option maxRecDepth 10000
set_option maxHeartbeats 1000000
set_option linter.unusedSimpArgs false
def vQ_ (o:ObK):OnL:=⟨⟨o.k.toNat%4,Nat.mod_lt _ (by decide)⟩,o.t,idK o⟩
theorem Vm_ {o:ObK} (h:rdK o=true):onO (vQ_ o)=o:=by
 obtain⟨h1,h2,-⟩:=J1_ (k:=o.k) (t:=o.t) h
 cases o with
 |mk k t=>
  simp only at h1 h2
  show(⟨((k.toNat%4:Nat):Int),t⟩:ObK)=⟨k,t⟩
  congr 1
  omega
def grpE (C:List OnL) (n:Nat):Nat:=n+ ((C.drop n).takeWhile fun a=>a.k==(C.getD n on0).k).length
theorem wO_ {α:Type} (p:α→Bool) (z:α): ∀ (l:List α) (m:Nat),m≤l.length→(∀i,i<m→p (l.getD i z)=true)→(m=l.length∨p (l.getD m z)=false)→(l.takeWhile p).length=m
 | [],m,h,_,_=>by simp at h;simp[h]
 |a::l,0,_,_,h=>by
  rcases h with h|h
  ·simp at h
  ·rw[List.getD_cons_zero] at h
   rw[List.takeWhile_cons,h];rfl
 |a::l,m+1,h1,h2,h3=>by
  have h0:=h2 0 (by omega)
  rw[List.getD_cons_zero] at h0
  rw[List.takeWhile_cons,h0]
  simp only[↓reduceIte,List.length_cons]
  rw[wO_ p z l m (by simpa using h1) (fun i hi=>by have:=h2 (i+1) (by omega);rwa [List.getD_cons_succ] at this) (by
   rcases h3 with h|h
   ·left;simpa using h
   ·right;rwa [List.getD_cons_succ] at h)]
theorem ahp_ {C:List OnL} {n m:Nat} (h1:n≤m) (h2:m≤C.length) (h3: ∀i,n≤i→i<m→(C.getD i on0).k=(C.getD n on0).k) (h4:m=C.length∨(C.getD m on0).k≠ (C.getD n on0).k):grpE C n=m:=by
 have e:=wO_ (fun a:OnL=>a.k==(C.getD n on0).k) on0 (C.drop n) (m - n) (by rw[List.length_drop];omega) (fun i hi=>by rw[wT_,h3 (n+i) (by omega) (by omega)];simp) (by
  rcases h4 with h|h
  ·left;rw[List.length_drop];omega
  ·right
   rw[wT_,show n+ (m - n)=m by omega]
   simpa using h)
 unfold grpE
 rw[e];omega
def ordO (C:List OnL):Nat→Nat→List OnL
 |0,_=> []
 |f+1,n=>if n<C.length then ZV_ ((C.drop n).take (grpE C n - n))++ordO C f (grpE C n) else []
def JR_ (C:List OnL):List OnL:=ordO C (C.length+1) 0
theorem anl_ {C:List OnL} {n:Nat} (h:n<C.length):n<grpE C n∧grpE C n≤C.length:=by
 unfold grpE
 have h1: ((C.drop n).takeWhile fun a=>a.k==(C.getD n on0).k).length≤ (C.drop n).length:=(List.takeWhile_sublist _).length_le
 rw[List.length_drop] at h1
 have h2:C.drop n=C[n]::C.drop (n+1):=List.drop_eq_getElem_cons h
 have h3:C.getD n on0=C[n]:=by rw[List.getD_eq_getElem?_getD,List.getElem?_eq_getElem h];rfl
 rw[h2,h3,List.takeWhile_cons] at h1 ⊢
 simp only[beq_self_eq_true, ↓reduceIte,List.length_cons] at h1 ⊢
 omega
theorem aaU_ (C:List OnL): ∀f n,n≤C.length→C.length - n<f→(ordO C f n).Perm (C.drop n)
 |0,_,_,h=>absurd h (Nat.not_lt_zero _)
 |f+1,n,h1,h2=>by
  unfold ordO
  split
  ·rename_i h
   obtain⟨g1,g2⟩:=anl_ h
   have ih:=aaU_ C f (grpE C n) g2 (by omega)
   have e:C.drop n=(C.drop n).take (grpE C n - n)++C.drop (grpE C n):=by
    conv=>lhs;rw[←List.take_append_drop (grpE C n - n) (C.drop n)]
    rw[List.drop_drop]
    congr 2;omega
   conv=>rhs;rw[e]
   exact(Zt_ _).append ih
  ·rw[List.drop_eq_nil_of_le (by omega)]
theorem JK_ (C:List OnL): (JR_ C).Perm C:=aaU_ C _ 0 (Nat.zero_le _) (by omega)
def WZ_ (Z:List OnL) (i:Nat):Int:=if i=0∨(Z.getD i on0).k≠ (Z.getD (i - 1) on0).k then -1 else(i:Int) - 1
def Qk_ (Z:List OnL) (n:Nat):List Int:=(List.range n).map (WZ_ Z)
theorem akY_ (a:OnL):qR_ (x7_ Tryz.prog 51) (zI_ Tryz.prog 51) [(0,obV ((a.k.val:Nat):Int) a.x),(1, .agg (a8 a.id.l))]=some (.agg (onC a).toArray):=by
 have hp:x7_ Tryz.prog 51=some [(0,2),(2,32)]:=id (by kernel_rfl)
 rw[hp,zrOn,←KI_]
 have e1:vV_ (onC on0).toArray 0 [vi ((a.k.val:Nat):Int),vs a.x]=([vi ((a.k.val:Nat):Int),vs a.x]++kq_ id0).toArray:=QC_ [vi ((a.k.val:Nat):Int),vs a.x] [] [vi 0,vs []] (kq_ id0) rfl
 have e2:vV_ ([vi ((a.k.val:Nat):Int),vs a.x]++kq_ id0).toArray 2 (kq_ a.id)=(onC a).toArray:=by
  have:=QC_ (kq_ a.id) [vi ((a.k.val:Nat):Int),vs a.x] (kq_ id0) [] (by rw[qT_,qT_])
  rw[List.append_nil,List.append_nil] at this
  exact this
 have s1: (onC on0).toArray.size=34:=by rw[List.size_toArray,z8_]
 have s2: ([vi ((a.k.val:Nat):Int),vs a.x]++kq_ id0).toArray.size=34:=by rw[List.size_toArray,List.length_append,qT_];rfl
 have c1:Value.cells (obV ((a.k.val:Nat):Int) a.x)= [vi ((a.k.val:Nat):Int),vs a.x].toArray:=rfl
 have c2:Value.cells (.agg (kq_ a.id).toArray)=(kq_ a.id).toArray:=rfl
 have l2:=qT_ a.id
 show(Sx.fillV [(0,2),(2,32)] (onC on0).toArray [(0,obV ((a.k.val:Nat):Int) a.x),(1, .agg (kq_ a.id).toArray)]).map Value.agg=_
 unfold Sx.fillV
 simp only[List.getElem?_cons_zero,c1,s1,List.size_toArray,List.length_cons,List.length_nil,Nat.reduceAdd,Nat.reduceLeDiff,and_self, ↓reduceIte,e1]
 unfold Sx.fillV
 simp only[List.getElem?_cons_succ,List.getElem?_cons_zero,c2,s2,l2,List.size_toArray,Nat.reduceAdd,Nat.reduceLeDiff,and_self, ↓reduceIte,e2]
 unfold Sx.fillV
 rfl
end Go.Proofs
end
section
open Go Go.Proofs Go.Sx Go.StP Go.Flo Go.Shelf Go.Sort
namespace Go.Proofs
set_option maxRecDepth 10000
set_option maxHeartbeats 1000000
set_option linter.unusedSimpArgs false
theorem QK_: ∀ (p:OnL) (l:List OnL) (a:OnL),a∈xd_ p l→a∈l
 |_,[],a,h=>h
 |p,b::l,a,h=>by
  unfold xd_ at h
  split at h
  ·exact List.mem_cons_of_mem _ (QK_ b l a h)
  ·rcases List.mem_cons.1 h with h|h
   ·rw[h];exact List.mem_cons_self
   ·exact List.mem_cons_of_mem _ (QK_ b l a h)
theorem wI_: ∀ (l:List OnL) (a:OnL),a∈z7_ l→a∈l
 | [],_,h=>h
 |p::l,a,h=>by
  rcases List.mem_cons.1 (show a∈p::xd_ p l from h) with h|h
  ·rw[h];exact List.mem_cons_self
  ·exact List.mem_cons_of_mem _ (QK_ p l a h)
structure OrG where
 i:Nat
 v:Value
 X:zb_
 Y:zb_
structure OrI where
 n:Nat
 vo:Value
 vb:Value
 XO:zb_
 XB:zb_
 Y:zb_
structure OrH where
 n:Nat
 vo:Value
 vb:Value
 XO:zb_
 XB:zb_
 Y:zb_
 f:Nat
 R:List OnL
set_option linter.defProp false
def zf_:=And.intro (And.intro (And.intro (@zA_) (And.intro (@zz_) (@ve_))) (And.intro (And.intro (@xW_) (@xQ_)) (And.intro (@kr_) (@aan_)))) (And.intro (And.intro (And.intro (@wL_) (@Sx.tup2_0)) (And.intro (@Sx.tup2_1) (@akW_))) (And.intro (And.intro (@aee_) (@jF_)) (And.intro (@aaJ_) (@Qf_))))
theorem Ki_ (v:Value) (l:List ObK) (w:World) (hG:GlobE w) (hv:SlV 2 j7_ xM_ w v l) (hl:l.length≤200):
  Rets Tryz.prog 8 #[v] w (XS w [] (fun r D=>((∃o,o∈l∧rdK o=false)∧r= .tuple #[.slice none 0 0, .slice none 0 0,vi 1])∨((∀o,o∈l→rdK o=true)∧ ∃Z vo vb,QF_ (l.map vQ_) Z∧r= .tuple #[vo,vb,vi 0]∧GrI D 26 2 vo (z7_ Z).length (((JR_ (z7_ Z)).map onO).map j7_).flatten∧GrI D 3 1 vb (z7_ Z).length ((Qk_ (z7_ Z) (z7_ Z).length).map intC).flatten))):=by
 obtain⟨rb,off,arr,E,fz,hr⟩:=hv.row
 have ln:=fun x=>hr.len x
 refine Rets.enterX Tryz.func8 rfl (rs:= [.tmp 2, .tmp 3, .tmp 4]) Tryz.results8 Tryz.ntmps8 (fun p hp=>by cases hp) (by simp[keys]) ?_
 refine kf ?_
 first|with_reducible refine ks [] (And.intro @zf_ @ln) ?_|refine kp (And.intro @zf_ @ln) ?_
 refine Cw.loopG (G:=OrG) [20,21,22,7,24,25,23,26,27,8,9,28,29,2,3,4,30,31,32,33,34,35,5,36,19] (fun g=> [(19,vi g.i),(5,g.v)]) (fun g=>g.X++g.Y) (fun g=>g.i≤l.length∧New w.heap.size g.X∧New w.heap.size g.Y∧Gr g.X 51 34 g.v g.i (((l.take g.i).map vQ_).map onC).flatten∧(∀o,o∈l.take g.i→rdK o=true)) (fun g=>l.length - g.i) ⟨0, .slice none 0 0,[],[]⟩ rfl rfl ?_ ?_
 ·exact⟨Nat.zero_le _,trivial,trivial,Gr.nl,fun o ho=>by cases ho⟩
 intro g j hg
 refine kv ?_
 obtain⟨i,va,X,Y⟩:=g
 simp only at hg ⊢
 obtain⟨hi,hNX,hNY,hGr,hok⟩:=hg
 by_cases hlt:i<l.length
 ·have hd0:decide ((i:Int)< (l.length:Int))=true:=decide_eq_true (by omega)
  have hrl:=hr.lt (by omega)
  have ix:=hr.idx true i hlt
  have ld:=Zr_ hr hlt
  have hNN:New w.heap.size (X++Y):=hNX.app hNY
  have rd:zk_ w (X++Y) rb=some (.cells arr E fz):=by rw[zX_ (hNN.not hrl)];exact hr.has (by omega)
  have hts:l.take (i+1)=l.take i++ [l.getD i xM_]:=StP.take_snoc (z:=xM_) hlt
  have hmm:l.getD i xM_∈l:=by rw[List.getD_eq_getElem?_getD,List.getElem?_eq_getElem hlt];exact List.getElem_mem _
  generalize l.getD i xM_=o at*
  have ld1:zl_ (some (true,2)) (some (.cells arr E fz)) (off+i*2)=some (obV o.k o.t):=ld
  cases hrd:rdK o with
  |false=>
   have hrd1:vi_ o.k o.t=false:=hrd
   first|with_reducible refine ks [] (And.intro @zf_ (And.intro @hd0 (And.intro @ix (And.intro @ld1 (@rd))))) ?_|refine kp (And.intro @zf_ (And.intro @hd0 (And.intro @ix (And.intro @ld1 (@rd))))) ?_
   refine Ow.alloc rfl rfl J6_ fun b7 hb7 hw7=> ?_
   simp only[za_,List.nil_append,List.cons_append]
   refine Ow.permL (M:=(b7, .cells #[vi 0,vs []] 26 (0,0)):: (X++Y)) (by classical exact List.perm_iff_count.2 fun a=>by simp only[List.count_append,List.count_cons,List.count_nil]<;>omega) ?_
   refine ko @zf_ ?_
   first|with_reducible refine ks [] @zf_ ?_|refine kp @zf_ ?_
   refine Ow.callFV rfl Tryz.call16 (fun w' hw'=>VD_ o.k o.t w' (hG.new hw' ⟨hw7,hNN⟩)) ?_
   rw[hrd1]
   have hxh:=(idV o.k o.t).h
   have hi0:=id0.h
   refine ko @zf_ ?_
   refine Ow.alloc rfl rfl wC_ fun b8 hb8 hw8=> ?_
   simp only[za_,List.nil_append,List.cons_append]
   refine Ow.permL (M:=(b8, .cells (a8 id0.l) 41 (0,0)):: (b7, .cells #[vi o.k,vs o.t] 26 (0,0)):: (X++Y)) (by classical exact List.perm_iff_count.2 fun a=>by simp only[List.count_append,List.count_cons,List.count_nil]<;>omega) ?_
   refine ko @zf_ ?_
   have nt: (!false)=true:=rfl
   first|with_reducible refine ks [] (And.intro @zf_ @nt) ?_|refine kp (And.intro @zf_ @nt) ?_
   refine⟨_,(ke @zf_), ?_⟩
   exact⟨Ext.of_new ⟨hw8,hw7,hNN⟩, .inl ⟨⟨o,hmm,hrd⟩,rfl⟩⟩
  |true=>
  have hoa:=Vm_ hrd
  have hai: (vQ_ o).id=idK o:=rfl
  have hts2: (l.take (i+1)).map vQ_=(l.take i).map vQ_++ [vQ_ o]:=by rw[hts,List.map_append];rfl
  have hok2: ∀q,q∈l.take (i+1)→rdK q=true:=fun q hq=>by
   rw[hts] at hq
   rcases List.mem_append.1 hq with h|h
   ·exact hok q h
   ·rw[List.mem_singleton.1 h];exact hrd
  generalize vQ_ o=a at*
  subst hoa
  have ld1:zl_ (some (true,2)) (some (.cells arr E fz)) (off+i*2)=some (obV ((a.k.val:Nat):Int) a.x):=ld
  have hid1:idV ((a.k.val:Nat):Int) a.x=a.id:=hai.symm
  have hrd1:vi_ ((a.k.val:Nat):Int) a.x=true:=hrd
  have hxh:=a.id.h
  have hi0:=id0.h
  first|with_reducible refine ks [] (And.intro @zf_ (And.intro @hd0 (And.intro @ix (And.intro @ld1 (@rd))))) ?_|refine kp (And.intro @zf_ (And.intro @hd0 (And.intro @ix (And.intro @ld1 (@rd))))) ?_
  refine Ow.alloc rfl rfl J6_ fun b7 hb7 hw7=> ?_
  simp only[za_,List.nil_append,List.cons_append]
  refine Ow.permL (M:=(b7, .cells #[vi 0,vs []] 26 (0,0)):: (X++Y)) (by classical exact List.perm_iff_count.2 fun a=>by simp only[List.count_append,List.count_cons,List.count_nil]<;>omega) ?_
  refine ko @zf_ ?_
  first|with_reducible refine ks [] @zf_ ?_|refine kp @zf_ ?_
  refine Ow.callFV rfl Tryz.call16 (fun w' hw'=>VD_ ((a.k.val:Nat):Int) a.x w' (hG.new hw' ⟨hw7,hNN⟩)) ?_
  rw[hid1,hrd1]
  refine ko @zf_ ?_
  refine Ow.alloc rfl rfl wC_ fun b8 hb8 hw8=> ?_
  simp only[za_,List.nil_append,List.cons_append]
  have h78:b7<b8:=zh_ hb8 (by simp[keys])
  refine Ow.permL (M:=(b8, .cells (a8 id0.l) 41 (0,0)):: (b7, .cells #[vi ((a.k.val:Nat):Int),vs a.x] 26 (0,0)):: (X++Y)) (by classical exact List.perm_iff_count.2 fun a=>by simp only[List.count_append,List.count_cons,List.count_nil]<;>omega) ?_
  refine ko @zf_ ?_
  have nt: (!true)=false:=rfl
  first|with_reducible refine ks [] (And.intro @zf_ @nt) ?_|refine kp (And.intro @zf_ @nt) ?_
  have r7:zk_ w ((b8,Obj.cells (a8 a.id.l) 41 (0,0)):: (b7, .cells #[vi ((a.k.val:Nat):Int),vs a.x] 26 (0,0)):: (X++Y)) b7=some (.cells #[vi ((a.k.val:Nat):Int),vs a.x] 26 (0,0)):=by rw[zm_ _ _ _ _ _ (by omega)];exact zr_ _ _ _ _
  first|with_reducible refine ks [] (And.intro @zf_ @r7) ?_|refine kp (And.intro @zf_ @r7) ?_
  refine Ow.build (.agg (onC a).toArray) rfl (akY_ a) ?_
  refine ko @zf_ ?_
  refine Ow.buildSlice (e:=51) (onC a).toArray rfl rfl (ad9_ _) fun b9 hb9 hw9=> ?_
  refine Ow.permL (M:=X++ (Y++ [(b8, .cells (a8 a.id.l) 41 (0,0)),(b7, .cells #[vi ((a.k.val:Nat):Int),vs a.x] 26 (0,0)),(b9, .cells (onC a).toArray 51 (0,0))])) (by classical exact List.perm_iff_count.2 fun a=>by simp only[List.count_append,List.count_cons,List.count_nil]<;>omega) ?_
  refine ko @zf_ ?_
  refine Ow.appendXG (e:=51) (k:=1) (new:=onC a) (X:=X) va rfl rfl rfl rfl Tryz.underlying47 Tryz.ag51 (by kernel_rfl) zrOn (by rw[Qf_,List.size_toArray,z8_]) Tryz.underlying47 (by intro k h;cases h) hGr (fun w' hw'=>AppX.one1 (hw'.has b9 (.cells (onC a).toArray 51 (0,0)) (by simp)) (z8_ _) (Jy_ _)) (by omega) (fun B3 v3 D3 hA3 hB3 hG3 hk13 hk23 hlk3=> ?_)
  have hN3:New w.heap.size D3:=New.of_le fun c hc=>by
   rcases hk23 c hc with h|h
   ·exact hNX.le c h
   ·omega
  refine ko @zf_ ?_
  first|with_reducible refine ks [] @zf_ ?_|refine kp @zf_ ?_
  refine Again.mk ⟨i+1,v3,D3,Y++ [(b8, .cells (a8 a.id.l) 41 (0,0)),(b7, .cells #[vi ((a.k.val:Nat):Int),vs a.x] 26 (0,0)),(b9, .cells (onC a).toArray 51 (0,0))]⟩ (by show l.length - (i+1)<l.length - i;omega) ⟨hlt,hN3,hNY.app ⟨hw8,hw7,hw9,trivial⟩, ?_,hok2⟩ rfl rfl
  show Gr D3 51 34 v3 (i+1) (((l.take (i+1)).map vQ_).map onC).flatten
  rw[hts2]
  simpa using hG3
 ·obtain rfl:i=l.length:=by omega
  have hd0:decide ((l.length:Int)< (l.length:Int))=false:=by simp
  rw[List.take_length] at hGr hok
  have hGr':Gr X 51 34 va (l.map vQ_).length ((l.map vQ_).map onC).flatten:=by rw[List.length_map];exact hGr
  first|with_reducible refine ks [] (And.intro @zf_ @hd0) ?_|refine kp (And.intro @zf_ @hd0) ?_
  refine Ow.callC rfl rfl Tryz.call18 (fun w' hw'=>ahI_ w') (fun B4 v4 D4 hA4 hB4 hN4 hS4=> ?_)
  obtain⟨c0,c1,rfl,hm0,hm1⟩:=hS4
  have hN4':=hN4.mono hB4
  have hcX: ∀c,c∈keys D4→c∉keys X:=fun c hc hx=>by
   have h1:=hN4.le c hc
   have h2:=zh_ hA4 (show c∈keys (X++Y) by rw[ze_];exact List.mem_append_left _ hx)
   omega
  have hk0:c0∈keys D4:=List.mem_map_of_mem (f:=Prod.fst) hm0
  have hk1:c1∈keys D4:=List.mem_map_of_mem (f:=Prod.fst) hm1
  refine ko @zf_ ?_
  refine Ow.callX (X:=X) (Y:=Y++D4) (List.append_assoc _ _ _) rfl rfl Tryz.call17 (fun w' hw' hX' hn'=>ank_ va X (l.map vQ_) c0 c1 w' hGr' hX' hn' (by rw[List.length_map];omega) (hw'.has c0 _ (by simp[hm0])) (hw'.has c1 _ (by simp[hm1])) (hcX c0 hk0) (hcX c1 hk1)) (fun v5 D5 hC5 hS5=> ?_)
  obtain⟨rfl,Z,hZ,hG5⟩:=hS5
  have hN5:New w.heap.size D5:=((Ext.of_new hNX).came0 hC5).new0
  have hNY5:New w.heap.size (Y++D4):=hNY.app hN4'
  clear hC5 hcX hk0 hk1 hm0 hm1 hN4 hN4' hA4 hB4 hGr hGr' hNX hNY
  generalize Y++D4=Y5 at*
  have hZl:Z.length=l.length:=by have:=hZ.1.length_eq;rwa [List.length_map] at this
  rw[List.length_map,←hZl] at hG5
  have hSm:SmO (z7_ Z):=fun a ha=>by
   have h1:=wI_ Z a ha
   have h2:=hZ.1.mem_iff.1 h1
   obtain⟨o,ho,rfl⟩:=List.mem_map.1 h2
   have h3:=(J1_ (k:=o.k) (t:=o.t) (hok o ho)).2.2
   show o.t.length≤1000000
   omega
  refine ko @zf_ ?_
  first|with_reducible refine ks [] @zf_ ?_|refine kp @zf_ ?_
  refine Ow.callX (X:=D5) (Y:=Y5) rfl rfl rfl Tryz.call21 (fun w' hw' hX' hn'=>akR_ va D5 Z w' hG5 hX' hn' (by omega)) (fun v6 D6 hC6 hG6=> ?_)
  have hN6:New w.heap.size D6:=((Ext.of_new hN5).came0 hC6).new0
  have hNY6:New w.heap.size (D6++Y5):=hN6.app hNY5
  have hul:=Qe_ Z
  clear hC6 hG5 hN5 hNY5 hN6
  generalize hCC:z7_ Z=C at*
  have hg5Y: ∀w',(∀p,p∈D6++Y5→w'.heap[p.1]? =some p.2)→SlV 34 onC on0 w' v6 C:=fun w' hw'=>hG6.slM (fun b o hm=>hw' (b,o) (by simp[hm])) rfl rfl z8_
  have lnZ: ∀x,wt_ (.sl x) v6=some (vi C.length):=fun x=>hG6.len x
  have d200:decide ((200:Int)< (C.length:Int))=false:=decide_eq_false (by omega)
  refine ko @zf_ ?_
  first|with_reducible refine ks [] (And.intro @zf_ (And.intro @lnZ (@d200))) ?_|refine kp (And.intro @zf_ (And.intro @lnZ (@d200))) ?_
  refine Cw.world fun wz hwz=> ?_
  obtain⟨bz,oz,az,Ez,fy,hrz,hlz⟩:=GrI.rowL (z:=on0) (l:=C) (hG6.i (D:=D6++Y5) (fun p hp=>by simp[hp])) rfl hwz z8_
  have hmz:0<C.length→(bz,Obj.cells az Ez fy)∈D6++Y5:=fun h=>zw_ (hlz h)
  clear hwz hlz hG6
  generalize D6++Y5=Y6 at*
  generalize hCl:C.length=N at*
  have cellk: ∀m,m<N→ ∀q,zl_ (some (false,q)) (some (.cells az Ez fy)) (oz+m*34)=some (vi (((C.getD m on0).k.val:Nat):Int)):=fun m hm q=>by
   have:=hrz.cell (j:=0) (n:=q) (show m<C.length by omega) (by decide)
   rw[Nat.add_zero] at this
   exact this
  refine Cw.loopG (G:=OrH) [45,46,47,48,49,13,50,51,52,53,54,55,56,57,58,59,60,61,62,63,64,65,66,67,68,69,70,71,72,73,74,75,76,77,78,79,80,81,15,14,82,83,84,16,85,86,87,88,89,90,91,92,93,94,95,10,11,96,97,12] (fun g=> [(12,vi g.n),(10,g.vo),(11,g.vb)]) (fun g=>g.XO++ (g.XB++g.Y)) (fun g=>g.n≤N∧New w.heap.size g.XO∧New w.heap.size g.XB∧New w.heap.size g.Y∧Gr g.XO 26 2 g.vo g.n ((g.R.map onO).map j7_).flatten∧Gr g.XB 3 1 g.vb g.n ((Qk_ C g.n).map intC).flatten∧(∀p,p∈Y6→p∈g.Y)∧g.R++ordO C g.f g.n=ordO C (N+1) 0∧N - g.n<g.f∧g.R.length=g.n∧(g.n=0∨g.n=N∨(C.getD g.n on0).k≠ (C.getD (g.n - 1) on0).k)) (fun g=>N - g.n) ⟨0, .slice none 0 0, .slice none 0 0,[],[],Y6,N+1,[]⟩ rfl rfl ?_ ?_
  ·exact⟨Nat.zero_le _,trivial,trivial,hNY6,Gr.nl,Gr.nl,fun p hp=>hp,rfl,by show N - 0<N+1;omega,rfl, .inl rfl⟩
  intro g j hg
  refine kv ?_
  clear hNY6
  obtain⟨n,vo,vb,XO,XB,Y,f,R⟩:=g
  simp only at hg ⊢
  obtain⟨hn,hNO,hNB,hNY,hGO,hGB,hYs,hT,hf,hRl,hbd⟩:=hg
  obtain⟨f,rfl⟩: ∃f',f=f'+1:=⟨f - 1,by omega⟩
  have lnO:=fun x=>hGO.len x
  by_cases hltn:n<N
  ·have d1:decide ((n:Int)< (N:Int))=true:=decide_eq_true (by omega)
   first|with_reducible refine ks [] (And.intro @zf_ (And.intro @lnZ (@d1))) ?_|refine kp (And.intro @zf_ (And.intro @lnZ (@d1))) ?_
   refine Cw.loopG (G:=SkOG) [50,51,52,53,54,55,56,57,58,59,60,61,62,63,64,65,66,67,68,69,70,13] (fun g=> [(13,vi g.i)]) (fun g=>XO++ (XB++Y)) (fun g=>n≤g.i∧g.i≤N∧ ∀i,n≤i→i<g.i→(C.getD i on0).k=(C.getD n on0).k) (fun g=>N - g.i) ⟨n⟩ rfl rfl ?_ ?_
   ·exact⟨Nat.le_refl _,hn,fun i (h1:n≤i) (h2:i<n)=>absurd h2 (by omega)⟩
   intro g j hg
   refine kv ?_
   obtain⟨m⟩:=g
   simp only at hg ⊢
   obtain⟨hnm,hmN,hsame⟩:=hg
   refine Cw.world fun wz hwz=> ?_
   have hnd1:=hwz.nodup
   obtain⟨vt,hsl,-⟩:=SlV.mid (hg5Y wz (fun p hp=>hwz.has p.1 p.2 (by simp[hYs _ hp]))) (k:=n) (q:=m) hnm (by omega) true
   clear hwz wz
   have rdz:zk_ w (XO++ (XB++Y)) bz=some (.cells az Ez fy):=zt_ (zF_ hnd1 (by simp[hYs _ (hmz (by omega))]))
   have ixn:=hrz.idx true n (show n<C.length by omega)
   have ckn:=cellk n hltn
   by_cases hmlt:m<N
   ·have d2:decide ((m:Int)< (N:Int))=true:=decide_eq_true (by omega)
    have ixm:=hrz.idx true m (show m<C.length by omega)
    have ckm:=cellk m hmlt
    by_cases hk: (C.getD m on0).k=(C.getD n on0).k
    ·have e1: ((((C.getD m on0).k.val:Nat):Int)==(((C.getD n on0).k.val:Nat):Int))=true:=by rw[hk];simp
     first|with_reducible refine ks [] (And.intro @zf_ (And.intro @lnZ (@d2))) ?_|refine kp (And.intro @zf_ (And.intro @lnZ (@d2))) ?_
     refine Cw.regionS [bz] [0,1,2,3,4,5,6,7,8,9,11,12,13,14,15,10,16,17,18] [] (by kernel_rfl) (by kernel_rfl) (by kernel_rfl) ?_
     refine kya ?_
     refine kq (And.intro @zf_ (And.intro @lnZ (And.intro @d2 (And.intro @ixm (And.intro @ixn (And.intro @ckm (And.intro @ckn (And.intro @rdz (@e1))))))))) ?_
     try with_reducible refine Ow.nil ?_
     first|with_reducible refine ks [] @zf_ ?_|refine kp @zf_ ?_
     exact Again.mk ⟨m+1⟩ (by show N - (m+1)<N - m;omega) ⟨by show n≤m+1;omega,hmlt,fun i h1 (h2:i<m+1)=>by
      by_cases him:i=m
      ·rw[him];exact hk
      ·exact hsame i h1 (by omega)⟩ rfl rfl
    ·have e1: ((((C.getD m on0).k.val:Nat):Int)==(((C.getD n on0).k.val:Nat):Int))=false:=by
      rw[beq_eq_false_iff_ne]
      intro h
      exact hk (Fin.ext (by omega))
     have hnm1:n<m:=by
      rcases Nat.lt_or_ge n m with h|h
      ·exact h
      ·exact absurd (by rw[show m=n by omega]) hk
     have hend:m=N∨(C.getD m on0).k≠ (C.getD n on0).k:= .inr hk
     first|with_reducible refine ks [] (And.intro @zf_ (And.intro @lnZ (@d2))) ?_|refine kp (And.intro @zf_ (And.intro @lnZ (@d2))) ?_
     refine Cw.regionS [bz] [0,1,2,3,4,5,6,7,8,9,11,12,13,14,15,10,16,17,18] [] (by kernel_rfl) (by kernel_rfl) (by kernel_rfl) ?_
     refine kya ?_
     refine kq (And.intro @zf_ (And.intro @lnZ (And.intro @d2 (And.intro @ixm (And.intro @ixn (And.intro @ckm (And.intro @ckn (And.intro @rdz (@e1))))))))) ?_
     try with_reducible refine Ow.nil ?_
     have hgl: ((C.drop n).take (m - n)).length=m - n:=by rw[List.length_take,List.length_drop];omega
     first|with_reducible refine ks [] (And.intro @zf_ @hsl) ?_|refine kp (And.intro @zf_ @hsl) ?_
     refine Ow.callC rfl rfl Tryz.call23 (fun w' hw'=>W0_ vt ((C.drop n).take (m - n)) w' (by obtain⟨v2,h1,h2⟩:=SlV.mid (hg5Y w' (fun p hp=>hw'.has p.1 p.2 (by simp[hYs _ hp]))) hnm (by omega) true;rw[hsl] at h1;cases h1;exact h2) (by omega) (fun a ha=>hSm a (List.mem_of_mem_drop (List.mem_of_mem_take ha)))) (fun B6 v6 D6 hA6 hB6 hN6 hS6=> ?_)
     rw[hgl] at hS6
     have hgE:grpE C n=m:=ahp_ hnm (by omega) hsame (by rw[hCl];exact hend)
     have hord:ordO C (f+1) n=ZV_ ((C.drop n).take (m - n))++ordO C f m:=by
      rw[ordO,if_pos (by omega),hgE]
     have hnvl:=V9_ ((C.drop n).take (m - n))
     rw[hgl] at hnvl
     generalize ZV_ ((C.drop n).take (m - n))=nv at*
     have hN6':=hN6.mono hB6
     have ln6:=wp_ hS6
     refine Ow.permL (M:=XO++ (XB++ (Y++D6))) (by classical exact List.perm_iff_count.2 fun a=>by simp only[List.count_append,List.count_cons,List.count_nil]<;>omega) ?_
     refine ko (And.intro @zf_ @ln6) ?_
     first|with_reducible refine ks [] (And.intro @zf_ @ln6) ?_|refine kp (And.intro @zf_ @ln6) ?_
     refine Cw.loopG (G:=OrI) [78,79,80,81,15,14,82,83,84,16,85,86,87,88,89,90,91,92,93,94,95,10,11,96,77] (fun g=> [(77,vi g.n),(10,g.vo),(11,g.vb)]) (fun g=>g.XO++ (g.XB++g.Y)) (fun g=>g.n≤m - n∧New w.heap.size g.XO∧New w.heap.size g.XB∧New w.heap.size g.Y∧Gr g.XO 26 2 g.vo (n+g.n) (((R++nv.take g.n).map onO).map j7_).flatten∧Gr g.XB 3 1 g.vb (n+g.n) ((Qk_ C (n+g.n)).map intC).flatten∧(∀p,p∈Y6→p∈g.Y)∧(∀p,p∈D6→p∈g.Y)) (fun g=>m - n - g.n) ⟨0,vo,vb,XO,XB,Y++D6⟩ rfl rfl ?_ ?_
     ·exact⟨Nat.zero_le _,hNO,hNB,hNY.app hN6',by simpa using hGO,hGB,fun p hp=>List.mem_append_left _ (hYs p hp),fun p hp=>List.mem_append_right _ hp⟩
     intro g j hg
     refine kv ?_
     clear hNO hNB hNY hGO hGB hYs lnO hN6' hN6 hA6 hB6 hnd1 rdz
     obtain⟨i,vo,vb,XO,XB,Y⟩:=g
     simp only at hg ⊢
     obtain⟨hi,hNO,hNB,hNY,hGO,hGB,hYs,hYd⟩:=hg
     have lnO:=fun x=>hGO.len x
     by_cases hli:i<m - n
     ·refine Cw.world fun wz hwz=> ?_
      obtain⟨bg,og,ag,Eg,fg,hrg,hlg⟩:=GrI.rowL (z:=on0) (l:=nv) (hS6.mono (D':=XO++ (XB++Y)) (fun p hp=>by simp[hYd _ hp])) hnvl hwz z8_
      have rdg:zk_ w (XO++ (XB++Y)) bg=some (.cells ag Eg fg):=zt_ (hlg (by omega))
      clear hwz hlg
      have d3:decide ((i:Int)< ((m - n:Nat):Int))=true:=decide_eq_true (by omega)
      have ixg:=hrg.idx true i (by omega)
      have ldg:=aez_ hrg (show i<_ by omega)
      have hts:nv.take (i+1)=nv.take i++ [nv.getD i on0]:=StP.take_snoc (z:=on0) (by omega)
      have htb:Qk_ C (n+ (i+1))=Qk_ C (n+i)++ [WZ_ C (n+i)]:=by
       unfold Qk_;rw[←Nat.add_assoc,List.range_succ,List.map_append];rfl
      have hbk:WZ_ C (n+i)=if i=0 then -1 else((n+i:Nat):Int) - 1:=by
       unfold WZ_
       by_cases h0:i=0
       ·subst h0
        rw[if_pos rfl,if_pos ?_]
        rcases hbd with h|h|h
        ·exact .inl (by omega)
        ·omega
        ·exact .inr h
       ·rw[if_neg h0,if_neg ?_]
        rintro(h|h)
        ·omega
        ·exact h (by rw[hsame (n+i) (by omega) (by omega),hsame (n+i - 1) (by omega) (by omega)])
      generalize nv.getD i on0=a at*
      generalize WZ_ C (n+i)=bk at*
      first|with_reducible refine ks [] (And.intro @zf_ (And.intro @d3 (And.intro @ixg (And.intro @ldg (@rdg))))) ?_|refine kp (And.intro @zf_ (And.intro @d3 (And.intro @ixg (And.intro @ldg (@rdg))))) ?_
      refine Ow.alloc rfl rfl zrOn fun b5 hb5 hw5=> ?_
      simp only[za_,List.nil_append,List.cons_append]
      refine Ow.permL (M:=(b5, .cells (onC on0).toArray 51 (0,0)):: (XO++ (XB++Y))) (by classical exact List.perm_iff_count.2 fun a=>by simp only[List.count_append,List.count_cons,List.count_nil]<;>omega) ?_
      refine ko @zf_ ?_
      by_cases h0:i=0
      ·rw[if_pos h0] at hbk
       have e3: ((i:Int)==0)=true:=by rw[h0];rfl
       first|with_reducible refine ks [] (And.intro @zf_ (And.intro @lnO (@e3))) ?_|refine kp (And.intro @zf_ (And.intro @lnO (@e3))) ?_
       refine Ow.buildSlice (e:=26) (j7_ (onO a)).toArray rfl rfl (vm_ (onO a)) fun b9 hb9 hw9=> ?_
       refine Ow.permL (M:=XO++ (XB++ (Y++ [(b5, .cells (onC a).toArray 51 (0,0)),(b9, .cells (j7_ (onO a)).toArray 26 (0,0))]))) (by classical exact List.perm_iff_count.2 fun a=>by simp only[List.count_append,List.count_cons,List.count_nil]<;>omega) ?_
       refine ko @zf_ ?_
       refine Ow.appendXG (e:=26) (k:=1) (new:=j7_ (onO a)) (X:=XO) vo rfl rfl rfl rfl Tryz.underlying22 Tryz.ag26 (by kernel_rfl) J6_ (by simp[za_]) Tryz.underlying22 (by intro k h;cases h) hGO (fun w' hw'=>AppX.one1 (hw'.has b9 (.cells (j7_ (onO a)).toArray 26 (0,0)) (by simp)) (xa_ _) (Qb_ _)) (by omega) (fun B7 v7 D7 hA7 hB7 hG7 hk17 hk27 hlk7=> ?_)
       have hN7:New w.heap.size D7:=New.of_le fun c hc=>by
        rcases hk27 c hc with h|h
        ·exact hNO.le c h
        ·omega
       refine ko @zf_ ?_
       refine Ow.buildSlice (e:=3) #[vi ((-1))] rfl rfl (by kernel_rfl) fun b8 hb8 hw8=> ?_
       refine Ow.permL (M:=XB++ (D7++ (Y++ [(b5, .cells (onC a).toArray 51 (0,0)),(b9, .cells (j7_ (onO a)).toArray 26 (0,0)),(b8, .cells #[vi ((-1))] 3 (0,0))]))) (by classical exact List.perm_iff_count.2 fun a=>by simp only[List.count_append,List.count_cons,List.count_nil]<;>omega) ?_
       refine ko @zf_ ?_
       refine Ow.appendXG (e:=3) (k:=1) (new:=intC ((-1))) (X:=XB) vb rfl rfl rfl rfl Tryz.underlying31 Tryz.ag3 (by kernel_rfl) wz_ rfl Tryz.underlying31 (by intro k h;cases h) hGB (fun w' hw'=>AppX.one1 (hw'.has b8 (.cells #[vi ((-1))] 3 (0,0)) (by simp)) rfl rfl) (by omega) (fun B8 v8 D8 hA8 hB8 hG8 hk18 hk28 hlk8=> ?_)
       have hN8:New w.heap.size D8:=New.of_le fun c hc=>by
        rcases hk28 c hc with h|h
        ·exact hNB.le c h
        ·omega
       refine Ow.permL (M:=D7++ (D8++ (Y++ [(b5, .cells (onC a).toArray 51 (0,0)),(b9, .cells (j7_ (onO a)).toArray 26 (0,0)),(b8, .cells #[vi ((-1))] 3 (0,0))]))) (by classical exact List.perm_iff_count.2 fun a=>by simp only[List.count_append,List.count_cons,List.count_nil]<;>omega) ?_
       refine ko @zf_ ?_
       first|with_reducible refine ks [] @zf_ ?_|refine kp @zf_ ?_
       refine Again.mk ⟨i+1,v7,v8,D7,D8,Y++ [(b5, .cells (onC a).toArray 51 (0,0)),(b9, .cells (j7_ (onO a)).toArray 26 (0,0)),(b8, .cells #[vi ((-1))] 3 (0,0))]⟩ (by show m - n - (i+1)<m - n - i;omega) ⟨hli,hN7,hN8,hNY.app ⟨hw5,hw9,hw8,trivial⟩, ?_, ?_,fun p hp=>List.mem_append_left _ (hYs p hp),fun p hp=>List.mem_append_left _ (hYd p hp)⟩ rfl rfl
       ·show Gr D7 26 2 v7 (n+ (i+1)) (((R++nv.take (i+1)).map onO).map j7_).flatten
        rw[hts]
        simpa [Nat.add_assoc] using hG7
       ·show Gr D8 3 1 v8 (n+ (i+1)) ((Qk_ C (n+ (i+1))).map intC).flatten
        rw[htb,hbk]
        simpa [Nat.add_assoc] using hG8
      ·rw[if_neg h0] at hbk
       have e3: ((i:Int)==0)=false:=by rw[beq_eq_false_iff_ne];omega
       first|with_reducible refine ks [] (And.intro @zf_ (And.intro @lnO (@e3))) ?_|refine kp (And.intro @zf_ (And.intro @lnO (@e3))) ?_
       refine Ow.buildSlice (e:=26) (j7_ (onO a)).toArray rfl rfl (vm_ (onO a)) fun b9 hb9 hw9=> ?_
       refine Ow.permL (M:=XO++ (XB++ (Y++ [(b5, .cells (onC a).toArray 51 (0,0)),(b9, .cells (j7_ (onO a)).toArray 26 (0,0))]))) (by classical exact List.perm_iff_count.2 fun a=>by simp only[List.count_append,List.count_cons,List.count_nil]<;>omega) ?_
       refine ko @zf_ ?_
       refine Ow.appendXG (e:=26) (k:=1) (new:=j7_ (onO a)) (X:=XO) vo rfl rfl rfl rfl Tryz.underlying22 Tryz.ag26 (by kernel_rfl) J6_ (by simp[za_]) Tryz.underlying22 (by intro k h;cases h) hGO (fun w' hw'=>AppX.one1 (hw'.has b9 (.cells (j7_ (onO a)).toArray 26 (0,0)) (by simp)) (xa_ _) (Qb_ _)) (by omega) (fun B7 v7 D7 hA7 hB7 hG7 hk17 hk27 hlk7=> ?_)
       have hN7:New w.heap.size D7:=New.of_le fun c hc=>by
        rcases hk27 c hc with h|h
        ·exact hNO.le c h
        ·omega
       refine ko @zf_ ?_
       refine Ow.buildSlice (e:=3) #[vi ((((n+i:Nat):Int) - 1))] rfl rfl (by kernel_rfl) fun b8 hb8 hw8=> ?_
       refine Ow.permL (M:=XB++ (D7++ (Y++ [(b5, .cells (onC a).toArray 51 (0,0)),(b9, .cells (j7_ (onO a)).toArray 26 (0,0)),(b8, .cells #[vi ((((n+i:Nat):Int) - 1))] 3 (0,0))]))) (by classical exact List.perm_iff_count.2 fun a=>by simp only[List.count_append,List.count_cons,List.count_nil]<;>omega) ?_
       refine ko @zf_ ?_
       refine Ow.appendXG (e:=3) (k:=1) (new:=intC ((((n+i:Nat):Int) - 1))) (X:=XB) vb rfl rfl rfl rfl Tryz.underlying31 Tryz.ag3 (by kernel_rfl) wz_ rfl Tryz.underlying31 (by intro k h;cases h) hGB (fun w' hw'=>AppX.one1 (hw'.has b8 (.cells #[vi ((((n+i:Nat):Int) - 1))] 3 (0,0)) (by simp)) rfl rfl) (by omega) (fun B8 v8 D8 hA8 hB8 hG8 hk18 hk28 hlk8=> ?_)
       have hN8:New w.heap.size D8:=New.of_le fun c hc=>by
        rcases hk28 c hc with h|h
        ·exact hNB.le c h
        ·omega
       refine Ow.permL (M:=D7++ (D8++ (Y++ [(b5, .cells (onC a).toArray 51 (0,0)),(b9, .cells (j7_ (onO a)).toArray 26 (0,0)),(b8, .cells #[vi ((((n+i:Nat):Int) - 1))] 3 (0,0))]))) (by classical exact List.perm_iff_count.2 fun a=>by simp only[List.count_append,List.count_cons,List.count_nil]<;>omega) ?_
       refine ko @zf_ ?_
       first|with_reducible refine ks [] @zf_ ?_|refine kp @zf_ ?_
       refine Again.mk ⟨i+1,v7,v8,D7,D8,Y++ [(b5, .cells (onC a).toArray 51 (0,0)),(b9, .cells (j7_ (onO a)).toArray 26 (0,0)),(b8, .cells #[vi ((((n+i:Nat):Int) - 1))] 3 (0,0))]⟩ (by show m - n - (i+1)<m - n - i;omega) ⟨hli,hN7,hN8,hNY.app ⟨hw5,hw9,hw8,trivial⟩, ?_, ?_,fun p hp=>List.mem_append_left _ (hYs p hp),fun p hp=>List.mem_append_left _ (hYd p hp)⟩ rfl rfl
       ·show Gr D7 26 2 v7 (n+ (i+1)) (((R++nv.take (i+1)).map onO).map j7_).flatten
        rw[hts]
        simpa [Nat.add_assoc] using hG7
       ·show Gr D8 3 1 v8 (n+ (i+1)) ((Qk_ C (n+ (i+1))).map intC).flatten
        rw[htb,hbk]
        simpa [Nat.add_assoc] using hG8
     ·obtain rfl:i=m - n:=by omega
      have d3:decide (((m - n:Nat):Int)< ((m - n:Nat):Int))=false:=by simp
      have enm:n+ (m - n)=m:=by omega
      rw[enm] at hGO hGB
      rw[List.take_of_length_le (by omega)] at hGO
      rw[hord,←List.append_assoc] at hT
      first|with_reducible refine ks [] (And.intro @zf_ @d3) ?_|refine kp (And.intro @zf_ @d3) ?_
      refine Again.mk ⟨m,vo,vb,XO,XB,Y,f,R++nv⟩ (by show N - m<N - n;omega) ⟨hmN,hNO,hNB,hNY,hGO,hGB,hYs,hT,by show N - m<f;omega,by show(R++nv).length=m;rw[List.length_append];omega, .inr (hend.imp id fun h e=>h (by rw[e];exact hsame (m - 1) (by omega) (by omega)))⟩ rfl rfl
   ·have d2:decide ((m:Int)< (N:Int))=false:=decide_eq_false (by omega)
    have hnm1:n<m:=by omega
    have hend:m=N∨(C.getD m on0).k≠ (C.getD n on0).k:= .inl (by omega)
    first|with_reducible refine ks [] (And.intro @zf_ (And.intro @lnZ (@d2))) ?_|refine kp (And.intro @zf_ (And.intro @lnZ (@d2))) ?_
    refine Cw.regionS [bz] [0,1,2,3,4,5,6,7,8,9,11,12,13,14,15,10,16,17,18] [] (by kernel_rfl) (by kernel_rfl) (by kernel_rfl) ?_
    refine kya ?_
    refine kq (And.intro @zf_ (And.intro @lnZ (@d2))) ?_
    try with_reducible refine Ow.nil ?_
    have hgl: ((C.drop n).take (m - n)).length=m - n:=by rw[List.length_take,List.length_drop];omega
    first|with_reducible refine ks [] (And.intro @zf_ @hsl) ?_|refine kp (And.intro @zf_ @hsl) ?_
    refine Ow.callC rfl rfl Tryz.call23 (fun w' hw'=>W0_ vt ((C.drop n).take (m - n)) w' (by obtain⟨v2,h1,h2⟩:=SlV.mid (hg5Y w' (fun p hp=>hw'.has p.1 p.2 (by simp[hYs _ hp]))) hnm (by omega) true;rw[hsl] at h1;cases h1;exact h2) (by omega) (fun a ha=>hSm a (List.mem_of_mem_drop (List.mem_of_mem_take ha)))) (fun B6 v6 D6 hA6 hB6 hN6 hS6=> ?_)
    rw[hgl] at hS6
    have hgE:grpE C n=m:=ahp_ hnm (by omega) hsame (by rw[hCl];exact hend)
    have hord:ordO C (f+1) n=ZV_ ((C.drop n).take (m - n))++ordO C f m:=by
     rw[ordO,if_pos (by omega),hgE]
    have hnvl:=V9_ ((C.drop n).take (m - n))
    rw[hgl] at hnvl
    generalize ZV_ ((C.drop n).take (m - n))=nv at*
    have hN6':=hN6.mono hB6
    have ln6:=wp_ hS6
    refine Ow.permL (M:=XO++ (XB++ (Y++D6))) (by classical exact List.perm_iff_count.2 fun a=>by simp only[List.count_append,List.count_cons,List.count_nil]<;>omega) ?_
    refine ko (And.intro @zf_ @ln6) ?_
    first|with_reducible refine ks [] (And.intro @zf_ @ln6) ?_|refine kp (And.intro @zf_ @ln6) ?_
    refine Cw.loopG (G:=OrI) [78,79,80,81,15,14,82,83,84,16,85,86,87,88,89,90,91,92,93,94,95,10,11,96,77] (fun g=> [(77,vi g.n),(10,g.vo),(11,g.vb)]) (fun g=>g.XO++ (g.XB++g.Y)) (fun g=>g.n≤m - n∧New w.heap.size g.XO∧New w.heap.size g.XB∧New w.heap.size g.Y∧Gr g.XO 26 2 g.vo (n+g.n) (((R++nv.take g.n).map onO).map j7_).flatten∧Gr g.XB 3 1 g.vb (n+g.n) ((Qk_ C (n+g.n)).map intC).flatten∧(∀p,p∈Y6→p∈g.Y)∧(∀p,p∈D6→p∈g.Y)) (fun g=>m - n - g.n) ⟨0,vo,vb,XO,XB,Y++D6⟩ rfl rfl ?_ ?_
    ·exact⟨Nat.zero_le _,hNO,hNB,hNY.app hN6',by simpa using hGO,hGB,fun p hp=>List.mem_append_left _ (hYs p hp),fun p hp=>List.mem_append_right _ hp⟩
    intro g j hg
    refine kv ?_
    clear hNO hNB hNY hGO hGB hYs lnO hN6' hN6 hA6 hB6 hnd1 rdz
    obtain⟨i,vo,vb,XO,XB,Y⟩:=g
    simp only at hg ⊢
    obtain⟨hi,hNO,hNB,hNY,hGO,hGB,hYs,hYd⟩:=hg
    have lnO:=fun x=>hGO.len x
    by_cases hli:i<m - n
    ·refine Cw.world fun wz hwz=> ?_
     obtain⟨bg,og,ag,Eg,fg,hrg,hlg⟩:=GrI.rowL (z:=on0) (l:=nv) (hS6.mono (D':=XO++ (XB++Y)) (fun p hp=>by simp[hYd _ hp])) hnvl hwz z8_
     have rdg:zk_ w (XO++ (XB++Y)) bg=some (.cells ag Eg fg):=zt_ (hlg (by omega))
     clear hwz hlg
     have d3:decide ((i:Int)< ((m - n:Nat):Int))=true:=decide_eq_true (by omega)
     have ixg:=hrg.idx true i (by omega)
     have ldg:=aez_ hrg (show i<_ by omega)
     have hts:nv.take (i+1)=nv.take i++ [nv.getD i on0]:=StP.take_snoc (z:=on0) (by omega)
     have htb:Qk_ C (n+ (i+1))=Qk_ C (n+i)++ [WZ_ C (n+i)]:=by
      unfold Qk_;rw[←Nat.add_assoc,List.range_succ,List.map_append];rfl
     have hbk:WZ_ C (n+i)=if i=0 then -1 else((n+i:Nat):Int) - 1:=by
      unfold WZ_
      by_cases h0:i=0
      ·subst h0
       rw[if_pos rfl,if_pos ?_]
       rcases hbd with h|h|h
       ·exact .inl (by omega)
       ·omega
       ·exact .inr h
      ·rw[if_neg h0,if_neg ?_]
       rintro(h|h)
       ·omega
       ·exact h (by rw[hsame (n+i) (by omega) (by omega),hsame (n+i - 1) (by omega) (by omega)])
     generalize nv.getD i on0=a at*
     generalize WZ_ C (n+i)=bk at*
     first|with_reducible refine ks [] (And.intro @zf_ (And.intro @d3 (And.intro @ixg (And.intro @ldg (@rdg))))) ?_|refine kp (And.intro @zf_ (And.intro @d3 (And.intro @ixg (And.intro @ldg (@rdg))))) ?_
     refine Ow.alloc rfl rfl zrOn fun b5 hb5 hw5=> ?_
     simp only[za_,List.nil_append,List.cons_append]
     refine Ow.permL (M:=(b5, .cells (onC on0).toArray 51 (0,0)):: (XO++ (XB++Y))) (by classical exact List.perm_iff_count.2 fun a=>by simp only[List.count_append,List.count_cons,List.count_nil]<;>omega) ?_
     refine ko @zf_ ?_
     by_cases h0:i=0
     ·rw[if_pos h0] at hbk
      have e3: ((i:Int)==0)=true:=by rw[h0];rfl
      first|with_reducible refine ks [] (And.intro @zf_ (And.intro @lnO (@e3))) ?_|refine kp (And.intro @zf_ (And.intro @lnO (@e3))) ?_
      refine Ow.buildSlice (e:=26) (j7_ (onO a)).toArray rfl rfl (vm_ (onO a)) fun b9 hb9 hw9=> ?_
      refine Ow.permL (M:=XO++ (XB++ (Y++ [(b5, .cells (onC a).toArray 51 (0,0)),(b9, .cells (j7_ (onO a)).toArray 26 (0,0))]))) (by classical exact List.perm_iff_count.2 fun a=>by simp only[List.count_append,List.count_cons,List.count_nil]<;>omega) ?_
      refine ko @zf_ ?_
      refine Ow.appendXG (e:=26) (k:=1) (new:=j7_ (onO a)) (X:=XO) vo rfl rfl rfl rfl Tryz.underlying22 Tryz.ag26 (by kernel_rfl) J6_ (by simp[za_]) Tryz.underlying22 (by intro k h;cases h) hGO (fun w' hw'=>AppX.one1 (hw'.has b9 (.cells (j7_ (onO a)).toArray 26 (0,0)) (by simp)) (xa_ _) (Qb_ _)) (by omega) (fun B7 v7 D7 hA7 hB7 hG7 hk17 hk27 hlk7=> ?_)
      have hN7:New w.heap.size D7:=New.of_le fun c hc=>by
       rcases hk27 c hc with h|h
       ·exact hNO.le c h
       ·omega
      refine ko @zf_ ?_
      refine Ow.buildSlice (e:=3) #[vi ((-1))] rfl rfl (by kernel_rfl) fun b8 hb8 hw8=> ?_
      refine Ow.permL (M:=XB++ (D7++ (Y++ [(b5, .cells (onC a).toArray 51 (0,0)),(b9, .cells (j7_ (onO a)).toArray 26 (0,0)),(b8, .cells #[vi ((-1))] 3 (0,0))]))) (by classical exact List.perm_iff_count.2 fun a=>by simp only[List.count_append,List.count_cons,List.count_nil]<;>omega) ?_
      refine ko @zf_ ?_
      refine Ow.appendXG (e:=3) (k:=1) (new:=intC ((-1))) (X:=XB) vb rfl rfl rfl rfl Tryz.underlying31 Tryz.ag3 (by kernel_rfl) wz_ rfl Tryz.underlying31 (by intro k h;cases h) hGB (fun w' hw'=>AppX.one1 (hw'.has b8 (.cells #[vi ((-1))] 3 (0,0)) (by simp)) rfl rfl) (by omega) (fun B8 v8 D8 hA8 hB8 hG8 hk18 hk28 hlk8=> ?_)
      have hN8:New w.heap.size D8:=New.of_le fun c hc=>by
       rcases hk28 c hc with h|h
       ·exact hNB.le c h
       ·omega
      refine Ow.permL (M:=D7++ (D8++ (Y++ [(b5, .cells (onC a).toArray 51 (0,0)),(b9, .cells (j7_ (onO a)).toArray 26 (0,0)),(b8, .cells #[vi ((-1))] 3 (0,0))]))) (by classical exact List.perm_iff_count.2 fun a=>by simp only[List.count_append,List.count_cons,List.count_nil]<;>omega) ?_
      refine ko @zf_ ?_
      first|with_reducible refine ks [] @zf_ ?_|refine kp @zf_ ?_
      refine Again.mk ⟨i+1,v7,v8,D7,D8,Y++ [(b5, .cells (onC a).toArray 51 (0,0)),(b9, .cells (j7_ (onO a)).toArray 26 (0,0)),(b8, .cells #[vi ((-1))] 3 (0,0))]⟩ (by show m - n - (i+1)<m - n - i;omega) ⟨hli,hN7,hN8,hNY.app ⟨hw5,hw9,hw8,trivial⟩, ?_, ?_,fun p hp=>List.mem_append_left _ (hYs p hp),fun p hp=>List.mem_append_left _ (hYd p hp)⟩ rfl rfl
      ·show Gr D7 26 2 v7 (n+ (i+1)) (((R++nv.take (i+1)).map onO).map j7_).flatten
       rw[hts]
       simpa [Nat.add_assoc] using hG7
      ·show Gr D8 3 1 v8 (n+ (i+1)) ((Qk_ C (n+ (i+1))).map intC).flatten
       rw[htb,hbk]
       simpa [Nat.add_assoc] using hG8
     ·rw[if_neg h0] at hbk
      have e3: ((i:Int)==0)=false:=by rw[beq_eq_false_iff_ne];omega
      first|with_reducible refine ks [] (And.intro @zf_ (And.intro @lnO (@e3))) ?_|refine kp (And.intro @zf_ (And.intro @lnO (@e3))) ?_
      refine Ow.buildSlice (e:=26) (j7_ (onO a)).toArray rfl rfl (vm_ (onO a)) fun b9 hb9 hw9=> ?_
      refine Ow.permL (M:=XO++ (XB++ (Y++ [(b5, .cells (onC a).toArray 51 (0,0)),(b9, .cells (j7_ (onO a)).toArray 26 (0,0))]))) (by classical exact List.perm_iff_count.2 fun a=>by simp only[List.count_append,List.count_cons,List.count_nil]<;>omega) ?_
      refine ko @zf_ ?_
      refine Ow.appendXG (e:=26) (k:=1) (new:=j7_ (onO a)) (X:=XO) vo rfl rfl rfl rfl Tryz.underlying22 Tryz.ag26 (by kernel_rfl) J6_ (by simp[za_]) Tryz.underlying22 (by intro k h;cases h) hGO (fun w' hw'=>AppX.one1 (hw'.has b9 (.cells (j7_ (onO a)).toArray 26 (0,0)) (by simp)) (xa_ _) (Qb_ _)) (by omega) (fun B7 v7 D7 hA7 hB7 hG7 hk17 hk27 hlk7=> ?_)
      have hN7:New w.heap.size D7:=New.of_le fun c hc=>by
       rcases hk27 c hc with h|h
       ·exact hNO.le c h
       ·omega
      refine ko @zf_ ?_
      refine Ow.buildSlice (e:=3) #[vi ((((n+i:Nat):Int) - 1))] rfl rfl (by kernel_rfl) fun b8 hb8 hw8=> ?_
      refine Ow.permL (M:=XB++ (D7++ (Y++ [(b5, .cells (onC a).toArray 51 (0,0)),(b9, .cells (j7_ (onO a)).toArray 26 (0,0)),(b8, .cells #[vi ((((n+i:Nat):Int) - 1))] 3 (0,0))]))) (by classical exact List.perm_iff_count.2 fun a=>by simp only[List.count_append,List.count_cons,List.count_nil]<;>omega) ?_
      refine ko @zf_ ?_
      refine Ow.appendXG (e:=3) (k:=1) (new:=intC ((((n+i:Nat):Int) - 1))) (X:=XB) vb rfl rfl rfl rfl Tryz.underlying31 Tryz.ag3 (by kernel_rfl) wz_ rfl Tryz.underlying31 (by intro k h;cases h) hGB (fun w' hw'=>AppX.one1 (hw'.has b8 (.cells #[vi ((((n+i:Nat):Int) - 1))] 3 (0,0)) (by simp)) rfl rfl) (by omega) (fun B8 v8 D8 hA8 hB8 hG8 hk18 hk28 hlk8=> ?_)
      have hN8:New w.heap.size D8:=New.of_le fun c hc=>by
       rcases hk28 c hc with h|h
       ·exact hNB.le c h
       ·omega
      refine Ow.permL (M:=D7++ (D8++ (Y++ [(b5, .cells (onC a).toArray 51 (0,0)),(b9, .cells (j7_ (onO a)).toArray 26 (0,0)),(b8, .cells #[vi ((((n+i:Nat):Int) - 1))] 3 (0,0))]))) (by classical exact List.perm_iff_count.2 fun a=>by simp only[List.count_append,List.count_cons,List.count_nil]<;>omega) ?_
      refine ko @zf_ ?_
      first|with_reducible refine ks [] @zf_ ?_|refine kp @zf_ ?_
      refine Again.mk ⟨i+1,v7,v8,D7,D8,Y++ [(b5, .cells (onC a).toArray 51 (0,0)),(b9, .cells (j7_ (onO a)).toArray 26 (0,0)),(b8, .cells #[vi ((((n+i:Nat):Int) - 1))] 3 (0,0))]⟩ (by show m - n - (i+1)<m - n - i;omega) ⟨hli,hN7,hN8,hNY.app ⟨hw5,hw9,hw8,trivial⟩, ?_, ?_,fun p hp=>List.mem_append_left _ (hYs p hp),fun p hp=>List.mem_append_left _ (hYd p hp)⟩ rfl rfl
      ·show Gr D7 26 2 v7 (n+ (i+1)) (((R++nv.take (i+1)).map onO).map j7_).flatten
       rw[hts]
       simpa [Nat.add_assoc] using hG7
      ·show Gr D8 3 1 v8 (n+ (i+1)) ((Qk_ C (n+ (i+1))).map intC).flatten
       rw[htb,hbk]
       simpa [Nat.add_assoc] using hG8
    ·obtain rfl:i=m - n:=by omega
     have d3:decide (((m - n:Nat):Int)< ((m - n:Nat):Int))=false:=by simp
     have enm:n+ (m - n)=m:=by omega
     rw[enm] at hGO hGB
     rw[List.take_of_length_le (by omega)] at hGO
     rw[hord,←List.append_assoc] at hT
     first|with_reducible refine ks [] (And.intro @zf_ @d3) ?_|refine kp (And.intro @zf_ @d3) ?_
     refine Again.mk ⟨m,vo,vb,XO,XB,Y,f,R++nv⟩ (by show N - m<N - n;omega) ⟨hmN,hNO,hNB,hNY,hGO,hGB,hYs,hT,by show N - m<f;omega,by show(R++nv).length=m;rw[List.length_append];omega, .inr (hend.imp id fun h e=>h (by rw[e];exact hsame (m - 1) (by omega) (by omega)))⟩ rfl rfl
  ·obtain rfl:n=N:=by omega
   have d1:decide ((n:Int)< (n:Int))=false:=by simp
   first|with_reducible refine ks [] (And.intro @zf_ (And.intro @lnZ (@d1))) ?_|refine kp (And.intro @zf_ (And.intro @lnZ (@d1))) ?_
   refine⟨_,(ke @zf_), ?_⟩
   have hT0:ordO C (f+1) n= []:=by rw[ordO,if_neg (by omega)]
   have hRR:R=JR_ C:=by rw[hT0,List.append_nil] at hT;rw[hT,JR_,hCl]
   refine⟨Ext.of_new (hNO.app (hNB.app hNY)), .inr ⟨hok,Z,vo,vb,hZ,rfl, ?_, ?_⟩⟩
   ·rw[hCC,←hRR,hCl]
    exact hGO.i fun p hp=>by simp[hp]
   ·rw[hCC,hCl]
    exact hGB.i fun p hp=>by simp[hp]
end Go.Proofs
end
section
open Go Go.Proofs Go.Sx Go.StP Go.Flo Go.Shelf Go.Sort
namespace Go.Proofs
set_option maxRecDepth 10000
set_option maxHeartbeats 1000000
set_option linter.unusedSimpArgs false
def frO (a:OnL):List UInt8:=jK_ ((a.k.val:Nat):Int) a.x
def ordT (C:List OnL):List (List UInt8):=(JR_ C).map frO
theorem Z4_ (C:List OnL): (JR_ C).length=C.length:=(JK_ C).length_eq
theorem aeZ_ (C:List OnL): (ordT C).length=C.length:=by unfold ordT;rw[List.length_map,Z4_]
def ordP (T:List CD) (C:List OnL):List PartL:=ku_ T (ordT C) (Qk_ C C.length) C.length
def bigB (ts:List (List UInt8)):Bool:=ts.any fun s=>decide (4099<s.length)
theorem bigB_T {ts:List (List UInt8)}:bigB ts=true↔BigT ts:=by
 unfold bigB BigT
 rw[List.any_eq_true]
 constructor
 ·rintro⟨s,hs,h⟩
  obtain⟨k,hk,rfl⟩:=List.getElem_of_mem hs
  exact⟨k,hk,by rw[List.getD_eq_getElem?_getD,List.getElem?_eq_getElem hk];simpa using h⟩
 ·rintro⟨k,hk,h⟩
  rw[List.getD_eq_getElem?_getD,List.getElem?_eq_getElem hk] at h
  exact⟨_,List.getElem_mem hk,by simpa using h⟩
def KR_ (T:List CD) (C:List OnL):List UInt8×Int:=if bigB (ordT C)=true then([],19) else wJ_ (ordP T C)
theorem amx_ {T:List CD} {l:List PartL} {ts:List (List UInt8)} {at_:Nat} {b:Int}: (chPt T l ts at_ b).x.length≤ (ts.getD at_ []).length:=by
 unfold chPt
 split
 ·exact Nat.le_refl _
 ·split
  ·exact Nat.le_refl _
  ·rename_i h
   show(dpB T ts at_ b).1.length≤_
   omega
theorem aeC_ (T:List CD) (ts:List (List UInt8)) (bs:List Int): ∀n j,j<n→(ku_ T ts bs n).getD j z6_=chPt T (ku_ T ts bs j) ts j (bs.getD j 0)
 |0,_,h=>absurd h (Nat.not_lt_zero _)
 |n+1,j,h=>by
  show(ku_ T ts bs n++ [chPt T (ku_ T ts bs n) ts n (bs.getD n 0)]).getD j z6_=_
  have hl:=kW_ T ts bs n
  by_cases hj:j<n
  ·rw[kl_ (by omega)]
   exact aeC_ T ts bs n j hj
  ·obtain rfl:j=n:=by omega
   rw[kg_ (by omega),hl,Nat.sub_self];rfl
theorem amp_ {T:List CD} {C:List OnL} (h: ¬BigT (ordT C)):BndL (ordP T C):=fun g hg=>by
 unfold ordP at hg ⊢
 rw[kW_] at hg
 rw[aeC_ _ _ _ _ _ hg]
 have h1:=amx_ (T:=T) (l:=ku_ T (ordT C) (Qk_ C C.length) g) (ts:=ordT C) (at_:=g) (b:=(Qk_ C C.length).getD g 0)
 have h2: ((ordT C).getD g []).length≤4099:=by
  rcases Nat.lt_or_ge 4099 ((ordT C).getD g []).length with h3|h3
  ·exact absurd ⟨g,by rw[aeZ_];exact hg,h3⟩ h
  ·exact h3
 omega
structure PsG where
 i:Nat
 v:Value
 X:zb_
 Y:zb_
def am3_ (T:List CD) (l:List ObK) (r:Value) (D:zb_):Prop:=
 ((∃o,o∈l∧rdK o=false)∧r= .tuple #[.slice none 0 0,vi 1])∨
 ((∀o,o∈l→rdK o=true)∧ ∃Z,QF_ (l.map vQ_) Z∧((BigT (ordT (z7_ Z))∧r= .tuple #[.slice none 0 0,vi 19])∨
  (¬BigT (ordT (z7_ Z))∧ ∃vp,r= .tuple #[vp,vi 0]∧GrI D 93 3 vp (z7_ Z).length ((ordP T (z7_ Z)).map zq_).flatten)))
set_option linter.defProp false
def zO_:=And.intro (And.intro (And.intro (@zA_) (And.intro (@zz_) (@ve_))) (And.intro (@xW_) (And.intro (@xQ_) (@kr_)))) (And.intro (And.intro (@aan_) (And.intro (@Sx.tup2_0) (@Sx.tup2_1))) (And.intro (@Sx.tup3_0) (And.intro (@Sx.tup3_1) (@Sx.tup3_2))))
theorem agB_ (T:List CD) (v:Value) (l:List ObK) (w:World) (hG:GlobE w) (hT:GlobT T w) (hv:SlV 2 j7_ xM_ w v l) (hl:l.length≤200):
  Rets Tryz.prog 14 #[v] w (XS w [] (am3_ T l)):=by
 refine Rets.enterX Tryz.func14 rfl (rs:= [.tmp 2, .tmp 3]) Tryz.results14 Tryz.ntmps14 (fun p hp=>by cases hp) (by simp[keys]) ?_
 refine kf ?_
 first|with_reducible refine ks [] @zO_ ?_|refine kp @zO_ ?_
 refine Ow.callC rfl rfl Tryz.call8 (fun w' hw'=>Ki_ v l w' (hG.new hw' trivial) (hv.oldN hw' trivial) hl) (fun B1 v1 D1 hA1 hB1 hN1 hS1=> ?_)
 have hN1':=hN1.mono hB1
 rw[List.nil_append]
 unfold am3_
 rcases hS1 with⟨hbad,rfl⟩ | ⟨hok,Z,vo,vb,hZ,rfl,hGO,hGB⟩
 ·have e0: ((1:Int) !=0)=true:=rfl
  refine ko @zO_ ?_
  first|with_reducible refine ks [] (And.intro @zO_ @e0) ?_|refine kp (And.intro @zO_ @e0) ?_
  refine⟨_,(ke @zO_), ?_⟩
  exact⟨Ext.of_new hN1', .inl ⟨hbad,rfl⟩⟩
 have lnO:=wp_ hGO
 have e0: ((0:Int) !=0)=false:=rfl
 have hfr: ∀i,i< (z7_ Z).length→vi_ ((((JR_ (z7_ Z)).getD i on0).k.val:Nat):Int) ((JR_ (z7_ Z)).getD i on0).x=true:=fun i hi=>by
  have h1: (JR_ (z7_ Z)).getD i on0∈JR_ (z7_ Z):=by
   rw[List.getD_eq_getElem?_getD,List.getElem?_eq_getElem (by rw[Z4_];exact hi)];exact List.getElem_mem _
  have h2:=wI_ Z _ ((JK_ _).mem_iff.1 h1)
  obtain⟨o,ho,he⟩:=List.mem_map.1 (hZ.1.mem_iff.1 h2)
  have h3:=hok o ho
  have h4:=Vm_ h3
  rw[he] at h4
  rw[←h4] at h3
  exact h3
 have hul:=Qe_ Z
 have hzl:=hZ.1.length_eq
 rw[List.length_map] at hzl
 generalize hC:z7_ Z=C at*
 have hol:=Z4_ C
 generalize hN:C.length=N at*
 refine ko @zO_ ?_
 first|with_reducible refine ks [] (And.intro @zO_ (And.intro @lnO (@e0))) ?_|refine kp (And.intro @zO_ (And.intro @lnO (@e0))) ?_
 refine Cw.loopG (G:=PsG) [24,25,26,9,28,29,27,30,31,10,11,32,33,34,35,7,36,23] (fun g=> [(23,vi g.i),(7,g.v)]) (fun g=>g.X++g.Y) (fun g=>g.i≤N∧New w.heap.size g.X∧New w.heap.size g.Y∧Gr g.X 9 1 g.v g.i ((((JR_ C).take g.i).map frO).map V0_).flatten∧(∀p,p∈D1→p∈g.Y)) (fun g=>N - g.i) ⟨0, .slice none 0 0,[],D1⟩ rfl rfl ?_ ?_
 ·exact⟨Nat.zero_le _,trivial,hN1',Gr.nl,fun p hp=>hp⟩
 intro g j hg
 refine kv ?_
 clear hN1' hN1
 obtain⟨i,vx,X,Y⟩:=g
 simp only at hg ⊢
 obtain⟨hi,hNX,hNY,hGr,hD1⟩:=hg
 have hNN:=hNX.app hNY
 by_cases hlt:i<N
 ·have d1:decide ((i:Int)< (N:Int))=true:=decide_eq_true (by omega)
  refine Cw.world fun wz hwz=> ?_
  obtain⟨bg,og,ag,Eg,fg,hrg,hlg⟩:=GrI.rowL (z:=xM_) (l:=(JR_ C).map onO) (hGO.mono (D':=X++Y) (fun p hp=>by simp[hD1 _ hp])) (by rw[List.length_map,hol]) hwz xa_
  have rdg:zk_ w (X++Y) bg=some (.cells ag Eg fg):=zt_ (hlg (by rw[List.length_map,hol];omega))
  clear hwz hlg
  have hil:i< ((JR_ C).map onO).length:=by rw[List.length_map,hol];exact hlt
  have ixg:=hrg.idx true i hil
  have hge: ((JR_ C).map onO).getD i xM_=onO ((JR_ C).getD i on0):=by
   rw[List.getD_eq_getElem?_getD,List.getElem?_map,List.getElem?_eq_getElem (by rw[hol];exact hlt),List.getD_eq_getElem?_getD,List.getElem?_eq_getElem (by rw[hol];exact hlt)];rfl
  have hts: (JR_ C).take (i+1)=(JR_ C).take i++ [(JR_ C).getD i on0]:=StP.take_snoc (z:=on0) (by rw[hol];exact hlt)
  have hrd:=hfr i hlt
  have ldg0:=Zr_ hrg hil
  rw[hge] at ldg0
  generalize (JR_ C).getD i on0=a at*
  have ldg:zl_ (some (true,2)) (some (.cells ag Eg fg)) (og+i*2)=some (obV ((a.k.val:Nat):Int) a.x):=ldg0
  have hfe:jK_ ((a.k.val:Nat):Int) a.x=frO a:=rfl
  first|with_reducible refine ks [] (And.intro @zO_ (And.intro @d1 (And.intro @ixg (And.intro @ldg (@rdg))))) ?_|refine kp (And.intro @zO_ (And.intro @d1 (And.intro @ixg (And.intro @ldg (@rdg))))) ?_
  refine Ow.alloc rfl rfl J6_ fun b9 hb9 hw9=> ?_
  simp only[za_,List.nil_append,List.cons_append]
  refine Ow.permL (M:=(b9, .cells #[vi 0,vs []] 26 (0,0)):: (X++Y)) (by classical exact List.perm_iff_count.2 fun a=>by simp only[List.count_append,List.count_cons,List.count_nil]<;>omega) ?_
  refine ko @zO_ ?_
  first|with_reducible refine ks [] @zO_ ?_|refine kp @zO_ ?_
  refine Ow.callC rfl rfl Tryz.call34 (fun w' hw'=>QI_ ((a.k.val:Nat):Int) a.x w') (fun B4 v4 D4 hA4 hB4 hN4 hS4=> ?_)
  rw[hrd,if_pos rfl,hfe] at hS4
  subst hS4
  have hN4':=hN4.mono hB4
  generalize hfg:frO a=fr at*
  refine ko @zO_ ?_
  first|with_reducible refine ks [] @zO_ ?_|refine kp @zO_ ?_
  refine Ow.buildSlice (e:=9) #[vs fr] rfl rfl (by kernel_rfl) fun b8 hb8 hw8=> ?_
  refine Ow.permL (M:=X++ (Y++ ((b9, .cells #[vi ((a.k.val:Nat):Int),vs a.x] 26 (0,0)):: (b8, .cells #[vs fr] 9 (0,0))::D4))) (by classical exact List.perm_iff_count.2 fun a=>by simp only[List.count_append,List.count_cons,List.count_nil]<;>omega) ?_
  refine ko @zO_ ?_
  refine Ow.appendXG (e:=9) (k:=1) (new:=V0_ fr) (X:=X) vx rfl rfl rfl rfl Tryz.underlying81 Tryz.ag9 (by kernel_rfl) Tryz.zr9 rfl Tryz.underlying81 (by intro k h;cases h) hGr (fun w' hw'=>AppX.one1 (hw'.has b8 (.cells #[vs fr] 9 (0,0)) (by simp)) rfl rfl) (by omega) (fun B3 v3 D3 hA3 hB3 hG3 hk13 hk23 hlk3=> ?_)
  have hN3:New w.heap.size D3:=New.of_le fun c hc=>by
   rcases hk23 c hc with h|h
   ·exact hNX.le c h
   ·omega
  refine ko @zO_ ?_
  first|with_reducible refine ks [] @zO_ ?_|refine kp @zO_ ?_
  refine Again.mk ⟨i+1,v3,D3,Y++ ((b9, .cells #[vi ((a.k.val:Nat):Int),vs a.x] 26 (0,0)):: (b8, .cells #[vs fr] 9 (0,0))::D4)⟩ (by show N - (i+1)<N - i;omega) ⟨hlt,hN3,hNY.app ⟨hw9,hw8,hN4'⟩, ?_,fun p hp=>List.mem_append_left _ (hD1 p hp)⟩ rfl rfl
  show Gr D3 9 1 v3 (i+1) ((((JR_ C).take (i+1)).map frO).map V0_).flatten
  rw[hts,List.map_append,List.map_cons,List.map_nil,hfg]
  simpa using hG3
 ·obtain rfl:i=N:=by omega
  have d1:decide ((i:Int)< (i:Int))=false:=by simp
  rw[List.take_of_length_le (by omega)] at hGr
  have hot: (JR_ C).map frO=ordT C:=rfl
  have htl: (ordT C).length=i:=by rw[aeZ_,hN]
  have hbl: (Qk_ C i).length=i:=by unfold Qk_;simp
  rw[hot] at hGr
  first|with_reducible refine ks [] (And.intro @zO_ @d1) ?_|refine kp (And.intro @zO_ @d1) ?_
  refine Ow.callC rfl rfl Tryz.call35 (fun w' hw'=>ac1_ T vx vb (ordT C) (Qk_ C i) w' (hT.new hw' hNN) (hGr.slM (l:=ordT C) (fun b o hm=>hw'.has b o (by simp[hm])) htl rfl aeF_) ((hGB.mono (D':=X++Y) (fun p hp=>by simp[hD1 _ hp])).slV (l:=Qk_ C i) hw' hbl rfl (fun _=>rfl)) (by rw[hbl,htl]) (by omega)) (fun B5 v5 D5 hA5 hB5 hN5 hS5=> ?_)
  rw[htl] at hS5
  rcases hS5 with⟨hbig,rfl⟩ | ⟨hbig,vq,rfl,hGP⟩
  ·refine ko @zO_ ?_
   first|with_reducible refine ks [] @zO_ ?_|refine kp @zO_ ?_
   refine⟨_,(ke @zO_), ?_⟩
   refine⟨Ext.of_new (hNN.app (hN5.mono hB5)), .inr ⟨hok,Z,hZ, ?_⟩⟩
   rw[hC]
   exact .inl ⟨hbig,rfl⟩
  ·refine ko @zO_ ?_
   first|with_reducible refine ks [] @zO_ ?_|refine kp @zO_ ?_
   refine⟨_,(ke @zO_), ?_⟩
   refine⟨Ext.of_new (hNN.app (hN5.mono hB5)), .inr ⟨hok,Z,hZ, ?_⟩⟩
   rw[hC,ordP,hN]
   exact .inr ⟨hbig,vq,rfl,hGP.mono fun p hp=>List.mem_append_right _ hp⟩
theorem kK_ (T:List CD) (v:Value) (l:List ObK) (w:World) (hG:GlobE w) (hC:GlobC w) (hT:GlobT T w) (hv:SlV 2 j7_ xM_ w v l) (hl:l.length≤200):
  Rets Tryz.prog 7 #[v] w (fun r D=>(((∃o,o∈l∧rdK o=false)∧r= .tuple #[vs [],vi 1])∨((∀o,o∈l→rdK o=true)∧ ∃Z,QF_ (l.map vQ_) Z∧r= .tuple #[vs (KR_ T (z7_ Z)).1,vi (KR_ T (z7_ Z)).2]))∧D= []):=by
 refine Rets.enterV Tryz.func7 rfl (rs:= [.tmp 2, .tmp 3]) Tryz.results7 Tryz.ntmps7 ?_
 refine kf ?_
 first|with_reducible refine ks [] @zO_ ?_|refine kp @zO_ ?_
 refine Ow.callC rfl rfl Tryz.call14 (fun w' hw'=>agB_ T v l w' (hG.new hw' trivial) (hT.new hw' trivial) (hv.oldN hw' trivial) hl) (fun B1 v1 D1 hA1 hB1 hN1 hS1=> ?_)
 have hN1':=hN1.mono hB1
 rcases hS1 with⟨hbad,rfl⟩ | ⟨hok,Z,hZ,⟨hbig,rfl⟩ | ⟨hbig,vq,rfl,hGP⟩⟩
 ·have e0: ((1:Int) !=0)=true:=rfl
  refine ko @zO_ ?_
  first|with_reducible refine ks [] (And.intro @zO_ @e0) ?_|refine kp (And.intro @zO_ @e0) ?_
  refine⟨_,(ke @zO_),hN1', ?_⟩
  exact .inl ⟨hbad,rfl⟩
 ·have e0: ((19:Int) !=0)=true:=rfl
  have hpl:KR_ T (z7_ Z)=([],19):=by unfold KR_;rw[if_pos (bigB_T.2 hbig)]
  refine ko @zO_ ?_
  first|with_reducible refine ks [] (And.intro @zO_ @e0) ?_|refine kp (And.intro @zO_ @e0) ?_
  refine⟨_,(ke @zO_),hN1', ?_⟩
  exact .inr ⟨hok,Z,hZ,by rw[hpl];rfl⟩
 ·have e0: ((0:Int) !=0)=false:=rfl
  have hpl:KR_ T (z7_ Z)=wJ_ (ordP T (z7_ Z)):=by unfold KR_;rw[if_neg (fun h=>hbig (bigB_T.1 h))]
  have hul:=Qe_ Z
  have hzl:=hZ.1.length_eq
  rw[List.length_map] at hzl
  have hpn: (ordP T (z7_ Z)).length=(z7_ Z).length:=kW_ _ _ _ _
  refine ko @zO_ ?_
  first|with_reducible refine ks [] (And.intro @zO_ @e0) ?_|refine kp (And.intro @zO_ @e0) ?_
  refine Ow.callFV rfl Tryz.call15 (fun w' hw'=>aco_ vq (ordP T (z7_ Z)) w' (hGP.slV (l:=ordP T (z7_ Z)) hw' hpn rfl jx_) (hG.new hw' hN1') (hC.newP hw' hN1') (amp_ hbig) (by omega)) ?_
  refine ko @zO_ ?_
  first|with_reducible refine ks [] @zO_ ?_|refine kp @zO_ ?_
  refine⟨_,(ke @zO_),hN1', ?_⟩
  exact .inr ⟨hok,Z,hZ,by rw[hpl];rfl⟩
end Go.Proofs
end
section
open Go Go.Proofs Go.Sx Go.StP Go.Flo Go.Shelf Go.Sort
namespace Go.Proofs
set_option maxRecDepth 10000
set_option maxHeartbeats 1000000
set_option linter.unusedSimpArgs false
def pbS:List UInt8:= [98,1,98]
def pbP:PartL:=⟨false,0,pbS⟩
theorem pb_read:frOk pbS=true∧zM_ pbS=⟨1,[98]⟩:=by
 have h:frOk pbS=true:=by decide
 refine⟨h, ?_⟩
 unfold zM_
 rw[if_pos h,if_pos h]
 decide
theorem aiU_:fillV [pbP]=some ([xq_ pbS],[⟨1,[98]⟩]):=by
 unfold fillV
 rw[show JB_ [pbP]= .ok [pbS] from rfl]
 show jo_ [pbS] [] []=_
 rw[jo_,if_pos ⟨pb_read.1,rfl⟩,jo_,pb_read.2]
 rfl
theorem akS_: ∀p,p∈ [pbP]→p.x.length≤65536:=by
 intro p hp;rw[List.mem_singleton] at hp;subst hp;decide
theorem apx_: (vT_ (vl_ [pbP])).length=14:=by
 have h1:jb_ (zx_ (([pbP].length:Nat):Int))= [1]:=by rw[show zx_ (([pbP].length:Nat):Int)=1 from rfl,qw_ (by decide)];rfl
 have h2:jb_ (zx_ (ZX_ 0 pbP))= [0]:=by rw[show zx_ (ZX_ 0 pbP)=0 from rfl,qw_ (by decide)];rfl
 have h3:jb_ (zx_ ((pbS.length:Nat):Int))= [3]:=by rw[show zx_ ((pbS.length:Nat):Int)=3 from rfl,qw_ (by decide)];rfl
 have h4:jN_ pbP.x= [3]++pbS:=by show jb_ (zx_ ((pbS.length:Nat):Int))++pbS=_;rw[h3]
 rw[aaA_]
 unfold vl_ q7_ q7_ kV_
 rw[h1,h2,h4]
 rfl
theorem amn_:jK_ 1 [98]=pbS:=by
 have h3:jb_ (zx_ (([98]:List UInt8).length:Int))= [1]:=by rw[show zx_ ((([98]:List UInt8).length:Nat):Int)=1 from rfl,qw_ (by decide)];rfl
 show wj_ 1++ (jb_ (zx_ ((([98]:List UInt8).length:Nat):Int))++ [98])=_
 rw[h3];rfl
def oB:OnL:=⟨1,[98],idK ⟨1,[98]⟩⟩
def oT:OnL:=⟨2,[],idK ⟨2,[]⟩⟩
def oA:OnL:=⟨1,[97],idK ⟨1,[97]⟩⟩
theorem ahA_: ∀a b c:Fin 4,[a,b,c].Perm [1,2,1]→b.val≤a.val→c.val≤b.val→a=2∧b=1∧c=1:=by decide
theorem WO_ {Z:List OnL} (h:QF_ [oB,oT,oA] Z): ∃p q,Z= [oT,p,q]∧p.k=1∧q.k=1:=by
 obtain⟨hp,hs⟩:=h
 have hl:=hp.length_eq
 match Z,hl with
 | [x,y,z],_=>
  have hkp: [x.k,y.k,z.k].Perm [1,2,1]:=hp.map OnL.k
  have hk: ∀a b:OnL,ltOf Qa_ b a=false→b.k.val≤a.k.val:=fun a b hab=>by
   rcases Nat.lt_or_ge a.k.val b.k.val with h|h
   ·rw[(Zd_ b a).2 (.inl h)] at hab;cases hab
   ·exact h
  simp only[List.pairwise_cons,List.mem_cons,List.not_mem_nil,or_false,forall_eq_or_imp,forall_eq] at hs
  obtain⟨⟨h1,h2⟩,h3,-⟩:=hs
  have e1:=hk _ _ h1
  have e2:=hk _ _ h3
  obtain⟨f1,f2,f3⟩:=ahA_ x.k y.k z.k hkp e1 e2
  have hx:x∈ [oB,oT,oA]:=hp.mem_iff.1 (by simp)
  simp only[List.mem_cons,List.not_mem_nil,or_false] at hx
  rcases hx with rfl|rfl|rfl
  ·cases f1
  ·exact⟨y,z,rfl,f2,f3⟩
  ·cases f1
theorem akh_ {p q:OnL} (hp:p.k=1) (hq:q.k=1):Qk_ [oT,p,q] 3= [-1,-1,1]:=by
 have h0:WZ_ [oT,p,q] 0= -1:=rfl
 have h1:WZ_ [oT,p,q] 1= -1:=by
  unfold WZ_
  rw[if_pos (.inr (by show p.k≠ (2:Fin 4);rw[hp];decide))]
 have h2:WZ_ [oT,p,q] 2=1:=by
  unfold WZ_
  rw[if_neg (by rintro(h|h);exact absurd h (by decide);exact h (by show q.k=p.k;rw[hp,hq]))]
  rfl
 show [WZ_ [oT,p,q] 0,WZ_ [oT,p,q] 1,WZ_ [oT,p,q] 2]=_
 rw[h0,h1,h2]
def threeL:List ObK:= [⟨1,[98]⟩,⟨2,[]⟩,⟨1,[97]⟩]
theorem ak0_:threeL.map vQ_= [oB,oT,oA]:=rfl
theorem ak7_: ∀o,o∈threeL→rdK o=true:=by
 intro o ho
 simp only[threeL,List.mem_cons,List.not_mem_nil,or_false] at ho
 rcases ho with rfl|rfl|rfl<;>decide
theorem afA_ {Z:List OnL} (h:QF_ [oB,oT,oA] Z):z7_ Z=Z:=by
 obtain⟨p,q,rfl,hp,hq⟩:=WO_ h
 have hnd: (([oT,p,q]:List OnL).map onO).Nodup:=((h.1.map onO).nodup_iff).2 (by decide)
 simp only[List.map_cons,List.map_nil,List.nodup_cons,List.mem_cons,List.not_mem_nil,or_false,not_or,not_false_eq_true,List.nodup_nil,and_true] at hnd
 obtain⟨⟨h1,h2⟩,h3⟩:=hnd
 show oT::xd_ oT [p,q]=_
 rw[xd_,if_neg (fun e=>h1 e.symm),xd_,if_neg (fun e=>h3 e.symm),xd_]
theorem akg_ {p q:OnL} (hp:p.k=1) (_hq:q.k=1): ∃r,JR_ [oT,p,q]=oT::r:=by
 have hg:grpE [oT,p,q] 0=1:=by
  unfold grpE
  show 0+ (([oT,p,q]:List OnL).takeWhile fun a=>a.k==oT.k).length=1
  rw[List.takeWhile_cons,List.takeWhile_cons]
  have h1: (oT.k==oT.k)=true:=by simp
  have h2: (p.k==oT.k)=false:=by rw[hp];decide
  rw[h1,h2];rfl
 have hn:ZV_ [oT]= [oT]:=List.perm_singleton.1 (Zt_ [oT])
 refine⟨ordO [oT,p,q] 3 1, ?_⟩
 show(if 0< ([oT,p,q]:List OnL).length then ZV_ ((([oT,p,q]:List OnL).drop 0).take (grpE [oT,p,q] 0 - 0))++ordO [oT,p,q] 3 (grpE [oT,p,q] 0) else [])=_
 rw[if_pos (by simp),hg]
 show ZV_ [oT]++_=_
 rw[hn];rfl
theorem alV_ (T:List CD) {Z:List OnL} (h:QF_ [oB] Z):KR_ T (z7_ Z)=wJ_ [pbP]:=by
 obtain rfl:Z= [oB]:=List.perm_singleton.1 h.1
 have hu:z7_ [oB]= [oB]:=rfl
 have ho:JR_ [oB]= [oB]:=List.perm_singleton.1 (JK_ [oB])
 have hf:frO oB=pbS:=amn_
 have ht:ordT [oB]= [pbS]:=by unfold ordT;rw[ho,List.map_cons,hf];rfl
 have hb:Qk_ [oB] 1= [-1]:=rfl
 rw[hu]
 unfold KR_ ordP
 rw[ht,if_neg (by decide)]
 show wJ_ (ku_ T [pbS] (Qk_ [oB] 1) 1)=_
 rw[hb]
 rfl
theorem aj0_ {w:World} {v:Value} {l:List Int} {b off:Nat} {arr:Array Value} {E:TypeId} {fz:Nat×Nat} (h:RowS 1 intC 0 w v l b off arr E fz) {k:Nat} (hk:k<l.length) (n:Nat):
  zl_ (some (false,n)) (some (.cells arr E fz)) (off+k)=some (vi (l.getD k 0)):=by
 have:=h.cell (j:=0) (n:=n) hk (by decide)
 rw[Nat.mul_one,Nat.add_zero] at this
 exact this
set_option linter.defProp false
def vY_:=And.intro (@zA_) (@zz_)
theorem K7_ (v1 v2:Value) (l:List Int) (w:World) (h1:SlV 1 intC 0 w v1 l) (h2:SlV 1 intC 0 w v2 l) (hl:l.length<1000000):
  Rets Tryz.prog 11 #[v1,v2] w (fun r D=>r= .bool true∧D= []):=by
 obtain⟨b1,off1,arr1,E1,fz1,hr1⟩:=h1.row
 obtain⟨b2,off2,arr2,E2,fz2,hr2⟩:=h2.row
 have ln1:=fun x=>hr1.len x
 have ln2:=fun x=>hr2.len x
 have e1: ((l.length:Int) !=(l.length:Int))=false:=by simp
 refine Rets.enterV Tryz.func11 rfl (rs:= [.tmp 4]) Tryz.results11 Tryz.ntmps11 ?_
 refine kf ?_
 first|with_reducible refine ks [] (And.intro @vY_ (And.intro @ln1 (And.intro @ln2 (@e1)))) ?_|refine kp (And.intro @vY_ (And.intro @ln1 (And.intro @ln2 (@e1)))) ?_
 refine Cw.loopG (G:=PkG) [11,12,13,14,17,18,19,20,21,22,23,24,25,4,15,16,5] (fun g=> [(5,vi g.i)]) (fun g=> []) (fun g=>g.i≤l.length) (fun g=>l.length - g.i) ⟨0⟩ rfl rfl ?_ ?_
 ·exact Nat.zero_le _
 intro g j hg
 refine kv ?_
 obtain⟨i⟩:=g
 simp only at hg ⊢
 by_cases hlt:i<l.length
 ·have d1:decide ((i:Int)< (l.length:Int))=true:=decide_eq_true (by omega)
  have ix1:=hr1.idx false i hlt
  have ix2:=hr2.idx false i hlt
  have ld1:=aj0_ hr1 hlt
  have ld2:=aj0_ hr2 hlt
  simp only[Nat.mul_one] at ix1 ix2
  have r1:zk_ w [] b1=some (.cells arr1 E1 fz1):=by rw[zY_];exact hr1.has (by omega)
  have r2:zk_ w [] b2=some (.cells arr2 E2 fz2):=by rw[zY_];exact hr2.has (by omega)
  have e2: (l.getD i 0 !=l.getD i 0)=false:=by simp
  first|with_reducible refine ks [] (And.intro @vY_ (And.intro @ln1 (@d1))) ?_|refine kp (And.intro @vY_ (And.intro @ln1 (@d1))) ?_
  refine Cw.regionS [b1,b2] [0,1,2,4,5,6,3,7,8] [] (by kernel_rfl) (by kernel_rfl) (by kernel_rfl) ?_
  refine kya ?_
  refine kq (And.intro @vY_ (And.intro @ix1 (And.intro @ix2 (And.intro @ld1 (And.intro @ld2 (And.intro @r1 (And.intro @r2 (@e2)))))))) ?_
  try with_reducible refine Ow.nil ?_
  first|with_reducible refine ks [] @vY_ ?_|refine kp @vY_ ?_
  exact Again.mk ⟨i+1⟩ (by show l.length - (i+1)<l.length - i;omega) hlt rfl rfl
 ·obtain rfl:i=l.length:=by omega
  have d1:decide ((l.length:Int)< (l.length:Int))=false:=by simp
  first|with_reducible refine ks [] (And.intro @vY_ (And.intro @ln1 (@d1))) ?_|refine kp (And.intro @vY_ (And.intro @ln1 (@d1))) ?_
  refine⟨_,(ke @vY_),trivial, ?_⟩
  rfl
theorem JL_ (k:Int) (t:List UInt8):qR_ (x7_ Tryz.prog 26) (zI_ Tryz.prog 26) [(0,vi k),(1,vs t)]=some (obV k t):=by
 rw[show x7_ Tryz.prog 26=some [(0,1),(1,1)] from id (by kernel_rfl),J6_];rfl
theorem ag2_ (k:Int):qR_ (x7_ Tryz.prog 26) (zI_ Tryz.prog 26) [(0,vi k)]=some (obV k []):=by
 rw[show x7_ Tryz.prog 26=some [(0,1),(1,1)] from id (by kernel_rfl),J6_];rfl
theorem agF_:xh_ Tryz.prog 22 3 [(0,obV 1 [98]),(1,obV 2 []),(2,obV 1 [97])]=some (26, #[vi 1,vs [98],vi 2,vs [],vi 1,vs [97]]):=id (by kernel_rfl)
theorem ahh_ {w:World} {b:Nat} (h:w.heap[b]? =some (.cells #[vi 1,vs [98],vi 2,vs [],vi 1,vs [97]] 26 (0,0))):SlV 2 j7_ xM_ w (vsl b 0 3 3) threeL:=
 SlV.sl (l:=([oB,oT,oA].map onO:List ObK)) h (fun i hi j hj=>by
  have h2:i=0∨i=1∨i=2:=by simp[threeL] at hi;omega
  have h3:j=0∨j=1:=by omega
  rcases h2 with rfl|rfl|rfl<;>rcases h3 with rfl|rfl<;>rfl) (by simp) (by simp)
theorem anV_ {w:World} {b:Nat} (h:w.heap[b]? =some (.cells #[vi 1,vs [98]] 26 (0,0))):SlV 2 j7_ xM_ w (vsl b 0 1 1) [⟨1,[98]⟩]:=
 SlV.sl (l:=([⟨1,[98]⟩]:List ObK)) h (fun i hi j hj=>by
  obtain rfl:i=0:=by simp at hi;omega
  have h3:j=0∨j=1:=by omega
  rcases h3 with rfl|rfl<;>rfl) (by simp) (by simp)
theorem akU_ {w:World} {b:Nat} (h:w.heap[b]? =some (.cells #[vi (-1),vi (-1),vi 1] 3 (0,0))):SlV 1 intC 0 w (vsl b 0 3 3) [-1,-1,1]:=
 SlV.sl (l:=([-1,-1,1]:List Int)) h (fun i hi j hj=>by
  have h2:i=0∨i=1∨i=2:=by simp at hi;omega
  obtain rfl:j=0:=by omega
  rcases h2 with rfl|rfl|rfl<;>rfl) (by simp) (by simp)
set_option linter.defProp false
def jd_:=And.intro (And.intro (And.intro (@zA_) (@zz_)) (And.intro (@Sx.tup2_0) (And.intro (@Sx.tup2_1) (@Sx.tup3_0)))) (And.intro (And.intro (@Sx.tup3_1) (@Sx.tup3_2)) (And.intro (@ve_) (And.intro (@xW_) (@xQ_))))
theorem jJ_ (T:List CD) (w:World) (hG:GlobE w) (hC:GlobC w) (hT:GlobT T w):Rets Tryz.prog 4 #[] w (fun v D=>v= .bool true∧D= []):=by
 have hop:ajU_ (vT_ (vl_ [pbP]))=some ([pbP],_,_):=agn_ aiU_ akS_
 have hal:=apx_
 have hwv:wJ_ [pbP]=(vT_ (vl_ [pbP]),0):=by unfold wJ_;rw[aiU_]
 generalize vT_ (vl_ [pbP])=b at*
 refine Rets.enterV Tryz.func4 rfl (rs:= [.tmp 0]) Tryz.results4 Tryz.ntmps4 ?_
 refine kf ?_
 first|with_reducible refine ks [] @jd_ ?_|refine kp @jd_ ?_
 refine Ow.build (obV 1 [98]) rfl (JL_ 1 [98]) ?_
 refine ko @jd_ ?_
 refine Ow.build (obV 2 []) rfl (ag2_ 2) ?_
 refine ko @jd_ ?_
 refine Ow.build (obV 1 [97]) rfl (JL_ 1 [97]) ?_
 refine ko @jd_ ?_
 refine Ow.buildSlice (e:=26) #[vi 1,vs [98],vi 2,vs [],vi 1,vs [97]] rfl rfl agF_ fun b1 hb1 hw1=> ?_
 refine ko @jd_ ?_
 refine Ow.callC rfl rfl Tryz.call8 (fun w' hw'=>Ki_ _ threeL w' (hG.new hw' ⟨hw1,trivial⟩) (ahh_ (hw'.has b1 (.cells #[vi 1,vs [98],vi 2,vs [],vi 1,vs [97]] 26 (0,0)) (by simp))) (by decide)) (fun B1 v1 D1 hA1 hB1 hN1 hS1=> ?_)
 obtain⟨Z,vo,vb,hZ,rfl,hGO,hGB⟩:=(hS1.resolve_left fun h=>by obtain⟨⟨o,ho,hr⟩,-⟩:=h;rw[ak7_ o ho] at hr;cases hr).2
 rw[ak0_] at hZ
 rw[afA_ hZ] at hGO hGB
 obtain⟨p,q,rfl,hpk,hqk⟩:=WO_ hZ
 obtain⟨r,hor⟩:=akg_ hpk hqk
 have hrl:=Z4_ [oT,p,q]
 rw[hor] at hGO hrl
 rw[show [oT,p,q].length=3 from rfl] at hGO hGB hrl
 rw[akh_ hpk hqk] at hGB
 have lnO: ∀x,wt_ (.sl x) vo=some (vi 3):=wp_ hGO
 have hN1':New w.heap.size ([(b1,Obj.cells #[vi 1,vs [98],vi 2,vs [],vi 1,vs [97]] 26 (0,0))]++D1):=New.app ⟨hw1,trivial⟩ (hN1.mono hB1)
 refine ko @jd_ ?_
 first|with_reducible refine ks [] @jd_ ?_|refine kp @jd_ ?_
 refine Ow.build (obV 1 [98]) rfl (JL_ 1 [98]) ?_
 refine ko @jd_ ?_
 refine Ow.buildSlice (e:=26) #[vi 1,vs [98]] rfl rfl (vm_ ⟨1,[98]⟩) fun b2 hb2 hw2=> ?_
 refine ko @jd_ ?_
 have hps: ∀w',GlobE w'→GlobC w'→GlobT T w'→SlV 2 j7_ xM_ w' (vsl b2 0 1 1) [⟨1,[98]⟩]→Rets Tryz.prog 7 #[vsl b2 0 1 1] w' (fun r D=>r= .tuple #[vs b,vi 0]∧D= []):=fun w' h1 h2 h3 h4=>(kK_ T (vsl b2 0 1 1) [⟨1,[98]⟩] w' h1 h2 h3 h4 (by decide)).mono fun r D h=>by
  obtain⟨h,rfl⟩:=h
  rcases h with⟨⟨o,ho,hr⟩,-⟩ | ⟨-,Z,hZ,rfl⟩
  ·rw[List.mem_singleton.1 ho] at hr;exact absurd hr (by decide)
  ·rw[alV_ T hZ,hwv];exact⟨rfl,rfl⟩
 have hN2':=hN1'.app (show New w.heap.size [(b2,Obj.cells #[vi 1,vs [98]] 26 (0,0))] from⟨hw2,trivial⟩)
 refine Ow.callFV rfl Tryz.call7 (fun w' hw'=>hps w' (hG.new hw' hN2') (hC.newP hw' hN2') (hT.new hw' hN2') (anV_ (hw'.has b2 (.cells #[vi 1,vs [98]] 26 (0,0)) (by simp)))) ?_
 refine ko @jd_ ?_
 first|with_reducible refine ks [] @jd_ ?_|refine kp @jd_ ?_
 refine Ow.callC rfl rfl Tryz.call9 (fun w' hw'=>af6_ b w' (hG.new hw' hN2') (hC.newP hw' hN2') (by omega)) (fun B3 v3 D3 hA3 hB3 hN3 hS3=> ?_)
 unfold anX_ at hS3
 rw[hop] at hS3
 obtain⟨bp,rfl,hP⟩:=hS3
 simp only at hP
 have hN3':=hN2'.app (hN3.mono hB3)
 have e00: ((0:Int)==0)=true:=rfl
 refine ko @jd_ ?_
 first|with_reducible refine ks [] (And.intro @jd_ @e00) ?_|refine kp (And.intro @jd_ @e00) ?_
 refine Ow.callFV rfl Tryz.call10 (fun w' hw'=>ajO_ bp [pbP] (JU_ 0 (4+ (jb_ [pbP].length).length) [pbP]) [xq_ pbS] [⟨1,[98]⟩] w' (hP.inW (fun q hq=>by simp[hq]) hw')) ?_
 refine Ow.world fun wz hwz=> ?_
 obtain⟨bo,oo,ao,Eo,fo,hro,hlo⟩:=GrI.rowL (z:=xM_) (l:=(oT::r).map onO) (hGO.mono (fun p hp=>by simp[hp])) (by rw[List.length_map];exact hrl) hwz xa_
 have rdo:=zt_ (w0:=w) (hlo (by simp))
 clear hwz hlo
 have ixo:z3_ (.sl (true,2)) vo (some (0:Int))=some (vp bo oo):=by
  have:=hro.idx true 0 (by simp)
  rw[Nat.zero_mul,Nat.add_zero] at this
  exact this
 have ldo: ∀n,zl_ (some (false,n)) (some (.cells ao Eo fo)) oo=some (vi 2):=fun n=>by
  have:=hro.cell (k:=0) (j:=0) (n:=n) (by simp) (by decide)
  rw[Nat.zero_mul,Nat.add_zero] at this
  exact this
 have e11: (((([pbP]:List PartL).length:Nat):Int)==1)=true:=rfl
 have e33: ((3:Int)==3)=true:=rfl
 have e22: ((2:Int)==2)=true:=rfl
 refine ko (And.intro @jd_ (And.intro @e00 (And.intro @e11 (And.intro @e33 (And.intro @e22 (And.intro @lnO (And.intro @ixo (And.intro @ldo (@rdo))))))))) ?_
 refine Ow.buildSlice (e:=3) #[vi (-1),vi (-1),vi 1] rfl rfl (id (by kernel_rfl)) fun b4 hb4 hw4=> ?_
 refine ko @jd_ ?_
 refine Ow.callFV rfl Tryz.call11 (fun w' hw'=>K7_ vb (vsl b4 0 3 3) [-1,-1,1] w' ((hGB.mono (fun p hp=>by simp[hp])).slV (l:=([-1,-1,1]:List Int)) hw' rfl rfl (fun _=>rfl)) (akU_ (hw'.has b4 (.cells #[vi (-1),vi (-1),vi 1] 3 (0,0)) (by simp))) (by decide)) ?_
 refine ko @jd_ ?_
 first|with_reducible refine ks [] @jd_ ?_|refine kp @jd_ ?_
 have hN4:=hN3'.app (show New w.heap.size [(b4,Obj.cells #[vi (-1),vi (-1),vi 1] 3 (0,0))] from⟨hw4,trivial⟩)
 refine⟨_,(ke @jd_),(by simpa [List.append_assoc] using hN4), ?_⟩
 rfl
end Go.Proofs
end
section
open Go Go.Proofs Go.Sx Go.StP Go.Flo Go.Shelf Go.Sort
namespace Go.Proofs
set_option maxRecDepth 10000
set_option maxHeartbeats 1000000
set_option linter.unusedSimpArgs false
theorem KE_: ∀ (p:OnL) (l:List OnL) (a:OnL),a∈l→onO a=onO p∨ ∃b,b∈xd_ p l∧onO b=onO a
 |_,[],_,h=>by cases h
 |p,b::l,a,h=>by
  unfold xd_
  rcases List.mem_cons.1 h with rfl|h
  ·split
   ·rename_i h2;exact .inl h2
   ·exact .inr ⟨a,List.mem_cons_self,rfl⟩
  ·rcases KE_ b l a h with h2| ⟨c,h2,h3⟩
   ·split
    ·rename_i h4;exact .inl (h2.trans h4)
    ·exact .inr ⟨b,List.mem_cons_self,h2.symm⟩
   ·split
    ·exact .inr ⟨c,h2,h3⟩
    ·exact .inr ⟨c,List.mem_cons_of_mem _ h2,h3⟩
theorem af2_ {l:List OnL} {a:OnL} (h:a∈l): ∃b,b∈z7_ l∧onO b=onO a:=by
 cases l with
 |nil=>cases h
 |cons p l=>
  rcases List.mem_cons.1 h with rfl|h
  ·exact⟨a,List.mem_cons_self,rfl⟩
  ·rcases KE_ p l a h with h2| ⟨c,h2,h3⟩
   ·exact⟨p,List.mem_cons_self,h2.symm⟩
   ·exact⟨c,List.mem_cons_of_mem _ h2,h3⟩
def OneO (l:List OnL):Prop:= ∀a,a∈l→ ∀b,b∈l→((ltOf Qa_ a b=false∧ltOf Qa_ b a=false)∨onO a=onO b)→a=b
theorem OneO.tail {a:OnL} {l:List OnL} (h:OneO (a::l)):OneO l:=fun x hx y hy=>h x (List.mem_cons_of_mem _ hx) y (List.mem_cons_of_mem _ hy)
theorem aaj_: ∀ (p:OnL) (l:List OnL),OneO (p::l)→(p::l).Pairwise (fun x y=>ltOf Qa_ y x=false)→(∀c,c∈xd_ p l→ltOf Qa_ p c=true)∧(xd_ p l).Pairwise (fun x y=>ltOf Qa_ x y=true)
 |_,[],_,_=>⟨fun c hc=>(by cases hc),List.Pairwise.nil⟩
 |p,b::l,h1,h2=>by
  rw[List.pairwise_cons] at h2
  obtain⟨h3,h4⟩:=h2
  obtain⟨i1,i2⟩:=aaj_ b l h1.tail h4
  unfold xd_
  split
  ·rename_i he
   have hpb:b=p:=h1 b (List.mem_cons_of_mem _ List.mem_cons_self) p List.mem_cons_self (.inr he)
   subst hpb
   exact⟨i1,i2⟩
  ·rename_i he
   have hbp:=h3 b List.mem_cons_self
   have hpb:ltOf Qa_ p b=true:=by
    cases hc:ltOf Qa_ p b with
    |true=>rfl
    |false=>exact absurd (congrArg onO (h1 b (List.mem_cons_of_mem _ List.mem_cons_self) p List.mem_cons_self (.inl ⟨hbp,hc⟩))) he
   refine⟨fun c hc=> ?_,List.pairwise_cons.2 ⟨i1,i2⟩⟩
   rcases List.mem_cons.1 hc with rfl|hc
   ·exact hpb
   ·exact swoOn.trans _ _ _ hpb (i1 c hc)
theorem aa4_ {l:List OnL} (h1:OneO l) (h2:l.Pairwise (fun x y=>ltOf Qa_ y x=false)): (z7_ l).Pairwise (fun x y=>ltOf Qa_ x y=true):=by
 cases l with
 |nil=>exact List.Pairwise.nil
 |cons p l=>
  obtain⟨i1,i2⟩:=aaj_ p l h1 h2
  exact List.pairwise_cons.2 ⟨i1,i2⟩
theorem amP_: ∀ (l m:List OnL),l.Pairwise (fun x y=>ltOf Qa_ x y=true)→m.Pairwise (fun x y=>ltOf Qa_ x y=true)→(∀a,a∈l↔a∈m)→l=m
 | [],[],_,_,_=>rfl
 | [],b::m,_,_,h=>by have:=(h b).2 List.mem_cons_self;cases this
 |a::l,[],_,_,h=>by have:=(h a).1 List.mem_cons_self;cases this
 |a::l,b::m,h1,h2,h=>by
  rw[List.pairwise_cons] at h1 h2
  have irr: ∀x,ltOf Qa_ x x=true→False:=fun x hx=>by rw[swoOn.irrefl x] at hx;cases hx
  have hab:a=b:=by
   rcases List.mem_cons.1 ((h a).1 List.mem_cons_self) with e|e
   ·exact e
   ·rcases List.mem_cons.1 ((h b).2 List.mem_cons_self) with e2|e2
    ·exact e2.symm
    ·exact(irr a (swoOn.trans _ _ _ (h1.1 b e2) (h2.1 a e))).elim
  subst hab
  congr 1
  refine amP_ l m h1.2 h2.2 fun x=>⟨fun hx=> ?_,fun hx=> ?_⟩
  ·rcases List.mem_cons.1 ((h x).1 (List.mem_cons_of_mem _ hx)) with e|e
   ·subst e;exact(irr x (h1.1 x hx)).elim
   ·exact e
  ·rcases List.mem_cons.1 ((h x).2 (List.mem_cons_of_mem _ hx)) with e|e
   ·subst e;exact(irr x (h2.1 x hx)).elim
   ·exact e
theorem Vp_ {l:List ObK} (hc:NoCl l) (hr: ∀o,o∈l→rdK o=true):OneO (l.map vQ_):=by
 intro a ha b hb h
 obtain⟨o,ho,rfl⟩:=List.mem_map.1 ha
 obtain⟨q,hq,rfl⟩:=List.mem_map.1 hb
 have e:o=q:=by
  rcases h with⟨h1,h2⟩ |h
  ·have n1: ¬ (ltOf Qa_ (vQ_ o) (vQ_ q)=true):=by rw[h1];decide
   have n2: ¬ (ltOf Qa_ (vQ_ q) (vQ_ o)=true):=by rw[h2];decide
   rw[Zd_] at n1 n2
   have hk: (vQ_ o).k.val=(vQ_ q).k.val:=by omega
   have b1:ltB (vQ_ o).id.l (vQ_ q).id.l=false:=Bool.eq_false_iff.2 fun h5=>n1 (.inr ⟨by omega,h5⟩)
   have b2:ltB (vQ_ q).id.l (vQ_ o).id.l=false:=Bool.eq_false_iff.2 fun h5=>n2 (.inr ⟨by omega,h5⟩)
   have hi: (vQ_ o).id.l=(vQ_ q).id.l:=by
    by_cases hi: (vQ_ o).id.l=(vQ_ q).id.l
    ·exact hi
    ·rw[vc_ b1 fun e=>hi e] at b2;cases b2
   exact hc o ho q hq (hr o ho) (hr q hq) (IdL.ext' hi)
  ·rw[Vm_ (hr o ho),Vm_ (hr q hq)] at h
   exact h
 rw[e]
theorem WL_ {l:List ObK} {Z:List OnL} (hc:NoCl l) (hr: ∀o,o∈l→rdK o=true) (hZ:QF_ (l.map vQ_) Z) (a:OnL):a∈z7_ Z↔a∈l.map vQ_:=by
 have h1:=Vp_ hc hr
 constructor
 ·exact fun h=>hZ.1.mem_iff.1 (wI_ Z a h)
 ·intro h
  obtain⟨b,hb,he⟩:=af2_ (hZ.1.mem_iff.2 h)
  have:=h1 b (hZ.1.mem_iff.1 (wI_ Z b hb)) a h (.inr he)
  rwa [this] at hb
theorem akN_ {l m:List ObK} {Z Y:List OnL} (hc:NoCl l) (hr: ∀o,o∈l→rdK o=true) (he: ∀o,o∈l↔o∈m) (hZ:QF_ (l.map vQ_) Z) (hY:QF_ (m.map vQ_) Y):z7_ Z=z7_ Y:=by
 have hcm:NoCl m:=hc.sub fun o ho=>(he o).2 ho
 have hrm: ∀o,o∈m→rdK o=true:=fun o ho=>hr o ((he o).2 ho)
 have oneZ:OneO Z:=fun a ha b hb=>Vp_ hc hr a (hZ.1.mem_iff.1 ha) b (hZ.1.mem_iff.1 hb)
 have oneY:OneO Y:=fun a ha b hb=>Vp_ hcm hrm a (hY.1.mem_iff.1 ha) b (hY.1.mem_iff.1 hb)
 refine amP_ _ _ (aa4_ oneZ hZ.2) (aa4_ oneY hY.2) fun a=> ?_
 rw[WL_ hc hr hZ,WL_ hcm hrm hY,List.mem_map,List.mem_map]
 exact⟨fun⟨o,h1,h2⟩=>⟨o,(he o).1 h1,h2⟩,fun⟨o,h1,h2⟩=>⟨o,(he o).2 h1,h2⟩⟩
def bkL (l:List ObK) (m:ObK):Nat→List ObK
 |0=> []
 |j+1=>bkL l m j++ [l.getD (l.length - 1 - j) xM_,m]
theorem aim_ (l:List ObK) (m:ObK): ∀j,(bkL l m j).length=2*j
 |0=>rfl
 |j+1=>by rw[bkL,List.length_append,aim_ l m j];simp;omega
theorem amN_ {l:List ObK} {m:ObK} (hm:m∈l): ∀j,j≤l.length→ ∀o,o∈bkL l m j→o∈l
 |0,_,_,h=>by cases h
 |j+1,hj,o,h=>by
  rcases List.mem_append.1 h with h|h
  ·exact amN_ hm j (by omega) o h
  ·simp only[List.mem_cons,List.not_mem_nil,or_false] at h
   rcases h with rfl|rfl
   ·rw[List.getD_eq_getElem?_getD,List.getElem?_eq_getElem (show l.length - 1 - j<l.length by omega)]
    exact List.getElem_mem _
   ·exact hm
theorem ahW_ {l:List ObK} {m:ObK}: ∀j,j≤l.length→ ∀i,l.length - j≤i→i<l.length→l.getD i xM_∈bkL l m j
 |0,_,i,h1,h2=>by omega
 |j+1,hj,i,h1,h2=>by
  rw[bkL]
  by_cases hi:i=l.length - 1 - j
  ·subst hi
   exact List.mem_append_right _ List.mem_cons_self
  ·exact List.mem_append_left _ (ahW_ j (by omega) i (by omega) h2)
theorem aoi_ {l:List ObK} {m:ObK} (hm:m∈l) (o:ObK):o∈l↔o∈bkL l m l.length:=by
 constructor
 ·intro h
  obtain⟨i,hi,rfl⟩:=List.getElem_of_mem h
  have:=ahW_ (m:=m) l.length (Nat.le_refl _) i (by omega) hi
  rwa [List.getD_eq_getElem?_getD,List.getElem?_eq_getElem hi] at this
 ·exact amN_ hm l.length (Nat.le_refl _) o
end Go.Proofs
end
section
open Go Go.Proofs Go.Sx Go.StP Go.Flo Go.Shelf Go.Sort
namespace Go.Proofs
set_option maxRecDepth 10000
set_option maxHeartbeats 1000000
set_option linter.unusedSimpArgs false
theorem AppX.all {P:Program} {w:World} {b n size cap:Nat} {new:List Value} {E:TypeId} {fz:Nat×Nat} (h:w.heap[b]? =some (.cells new.toArray E fz)) (hl:new.length=n*size) (h1:new.all Value.oneCell'=true):AppX P w size (vsl b 0 n cap) n new:=by
 refine AppX.block (w0:=w) (L:= []) (arr:=new.toArray) (E:=E) (fz:=fz) (by rw[zY_];exact h) (by rw[List.size_toArray];omega) ?_ h1 (Hp.refl w)
 rw[List.extract_toArray,List.extract_eq_take_drop,Nat.zero_add,←hl]
 simp
theorem aij_ (k1 k2:Int) (t1 t2:List UInt8):xh_ Tryz.prog 22 2 [(0,obV k1 t1),(1,obV k2 t2)]=some (26, #[vi k1,vs t1,vi k2,vs t2]):=id (by kernel_rfl)
structure BkG where
 j:Nat
 z:Int
 v:Value
 X:zb_
 Y:zb_
set_option linter.defProp false
theorem aaI_ (T:List CD) (v:Value) (l:List ObK) (c:UInt8) (w:World) (hG:GlobE w) (hC:GlobC w) (hT:GlobT T w) (hv:SlV 2 j7_ xM_ w v l):
  Rets Tryz.prog 3 #[v,v8 c] w (fun v' D=>v'= .bool true∧D= []):=by
 obtain⟨rb,off,arr,E,fz,hr⟩:=hv.row
 have ln:=fun x=>hr.len x
 refine Rets.enterV Tryz.func3 rfl (rs:= [.tmp 4]) Tryz.results3 Tryz.ntmps3 ?_
 refine kf ?_
 first|with_reducible refine ks [] @zc_ ?_|refine kp @zc_ ?_
 refine Ow.callFV rfl Tryz.call4 (fun w' hw'=>jJ_ T w' (hG.new hw' trivial) (hC.newP hw' trivial) (hT.new hw' trivial)) ?_
 refine ko @zc_ ?_
 first|with_reducible refine ks [] @zc_ ?_|refine kp @zc_ ?_
 refine Ow.callFV rfl Tryz.call5 (fun w' hw'=>aa7_ v l w' (SlV.rowX (hv.oldN hw' trivial))) ?_
 cases hgr:V4_ l with
 |true=>
  refine ko @zc_ ?_
  first|with_reducible refine ks [] @zc_ ?_|refine kp @zc_ ?_
  refine Ow.callFV rfl Tryz.call4 (fun w' hw'=>jJ_ T w' (hG.new hw' trivial) (hC.newP hw' trivial) (hT.new hw' trivial)) ?_
  refine ko @zc_ ?_
  first|with_reducible refine ks [] @zc_ ?_|refine kp @zc_ ?_
  refine⟨_,(ke @zc_),trivial, ?_⟩
  rfl
 |false=>
 obtain⟨h40,h25⟩:=aiY_ hgr
 refine ko @zc_ ?_
 refine Ow.callC rfl rfl Tryz.call6 (fun w' hw'=>Rets.toX (Wp_ v l w' (SlV.rowX (hv.oldN hw' trivial)) (by omega) (fun o ho=>by have:=h25 o ho;omega))) (fun BC vC DC hAC hBC hNC hSC=> ?_)
 obtain⟨rfl,bc,rfl,hcl⟩:=hSC
 clear hAC hNC
 rw[List.append_nil]
 cases bc with
 |true=>
  refine ko @zc_ ?_
  first|with_reducible refine ks [] @zc_ ?_|refine kp @zc_ ?_
  refine Ow.callFV rfl Tryz.call4 (fun w' hw'=>jJ_ T w' (hG.new hw' trivial) (hC.newP hw' trivial) (hT.new hw' trivial)) ?_
  refine ko @zc_ ?_
  first|with_reducible refine ks [] @zc_ ?_|refine kp @zc_ ?_
  refine⟨_,(ke @zc_),trivial, ?_⟩
  rfl
 |false=>
 replace hcl:=hcl rfl
 by_cases h0:l.length=0
 ·have d1: ((l.length:Int)==0)=true:=by rw[h0];rfl
  refine ko (And.intro @zc_ (And.intro @ln (@d1))) ?_
  first|with_reducible refine ks [] @zc_ ?_|refine kp @zc_ ?_
  refine Ow.callFV rfl Tryz.call4 (fun w' hw'=>jJ_ T w' (hG.new hw' trivial) (hC.newP hw' trivial) (hT.new hw' trivial)) ?_
  refine ko @zc_ ?_
  first|with_reducible refine ks [] @zc_ ?_|refine kp @zc_ ?_
  refine⟨_,(ke @zc_),trivial, ?_⟩
  rfl
 have d1: ((l.length:Int)==0)=false:=by rw[beq_eq_false_iff_ne];omega
 have hml:c.toNat%l.length<l.length:=Nat.mod_lt _ (by omega)
 have hmm:l.getD (c.toNat%l.length) xM_∈l:=by
  rw[List.getD_eq_getElem?_getD,List.getElem?_eq_getElem hml];exact List.getElem_mem _
 have em: ((c.toNat:Int)% (l.length:Int))=((c.toNat%l.length:Nat):Int):=rfl
 have ix2:=hr.idx true _ hml
 have ld2:=Zr_ hr hml
 have hrl:=hr.lt (by omega)
 generalize c.toNat%l.length=m at*
 generalize hq:l.getD m xM_=q at*
 refine ko (And.intro @zc_ (And.intro @ln (@d1))) ?_
 first|with_reducible refine ks [] (And.intro @zc_ @ln) ?_|refine kp (And.intro @zc_ @ln) ?_
 refine Cw.loopG (G:=BkG) [28,29,32,33,34,35,36,37,38,39,40,41,42,43,44,45,46,5,30,31,6] (fun g=> [(6,vi g.z),(5,g.v)]) (fun g=>g.X++g.Y) (fun g=>g.z=(l.length:Int) - 1 - g.j∧g.j≤l.length∧New w.heap.size g.X∧New w.heap.size g.Y∧Gr g.X 26 2 g.v (bkL l q g.j).length ((bkL l q g.j).map j7_).flatten) (fun g=>l.length - g.j) ⟨0,(l.length:Int) - 1, .slice none 0 0,[],[]⟩ rfl rfl ?_ ?_
 ·exact⟨by show(l.length:Int) - 1=(l.length:Int) - 1 - ((0:Nat):Int);omega,Nat.zero_le _,trivial,trivial,Gr.nl⟩
 intro g j hg
 refine kv ?_
 obtain⟨j,z,vb,X,Y⟩:=g
 simp only at hg ⊢
 obtain⟨hz,hj,hNX,hNY,hGr⟩:=hg
 have hNN:=hNX.app hNY
 have hbl:=aim_ l q j
 by_cases hlt:j<l.length
 ·obtain rfl:z=((l.length - 1 - j:Nat):Int):=by omega
  have hil:l.length - 1 - j<l.length:=by omega
  have d2:decide ((0:Int)≤ ((l.length - 1 - j:Nat):Int))=true:=decide_eq_true (by omega)
  have ix:=hr.idx true _ hil
  have ld:=Zr_ hr hil
  have hbs:bkL l q (j+1)=bkL l q j++ [l.getD (l.length - 1 - j) xM_,q]:=rfl
  have hzn: ((l.length - 1 - j:Nat):Int) - 1=(l.length:Int) - 1 - ((j+1:Nat):Int):=by omega
  generalize l.length - 1 - j=i at*
  generalize l.getD i xM_=o at*
  have rd:zk_ w (X++Y) rb=some (.cells arr E fz):=by rw[zX_ (hNN.not hrl)];exact hr.has (by omega)
  have ld1:zl_ (some (true,2)) (some (.cells arr E fz)) (off+i*2)=some (obV o.k o.t):=ld
  have ldm:zl_ (some (true,2)) (some (.cells arr E fz)) (off+m*2)=some (obV q.k q.t):=ld2
  first|with_reducible refine ks [] (And.intro @zc_ @d2) ?_|refine kp (And.intro @zc_ @d2) ?_
  refine Cw.regionG [rb] [] 16 (by kernel_rfl) rfl ?_
  refine kyc ?_
  refine OwG.run [0,1,2,3,4,5,6,7,8,9,10,11,12] [true,true,true,true,true,true,true,true,true,true,true,true,true,false,false,false] 3 rfl (by kernel_rfl) (by kernel_rfl) fun k hk=> ?_
  refine kya ?_
  refine kp (And.intro @zc_ (And.intro @Md.next_sofnil (And.intro @rd (And.intro @ix (And.intro @ld1 (And.intro @em (And.intro @ix2 (And.intro @ldm (@ln))))))))) ?_
  (with_reducible refine hk _ _ _ ?_);clear hk k
  refine OwG.one 13 _ (by kernel_rfl) rfl ?_
  refine Ow.buildSlice (e:=26) #[vi o.k,vs o.t,vi q.k,vs q.t] rfl rfl (aij_ _ _ _ _) fun b9 hb9 hw9=> ?_
  have rd9:zk_ w (X++Y++ [(b9,Obj.cells #[vi o.k,vs o.t,vi q.k,vs q.t] 26 (0,0))]) rb=some (.cells arr E fz):=by
   rw[zX_ ((hNN.app (show New w.heap.size [(b9,Obj.cells #[vi o.k,vs o.t,vi q.k,vs q.t] 26 (0,0))] from⟨hw9,trivial⟩)).not hrl)];exact hr.has (by omega)
  with_reducible refine Ow.nil ?_
  refine⟨(fun r hr2=>by rw[List.mem_singleton.1 hr2,rd9,rd]), ?_⟩
  refine kyb ?_
  refine OwG.one 14 _ (by kernel_rfl) rfl ?_
  refine Ow.appendXG (e:=26) (k:=2) (new:= [vi o.k,vs o.t,vi q.k,vs q.t]) (X:=X) vb (List.append_assoc _ _ _) rfl rfl rfl Tryz.underlying22 Tryz.ag26 (by kernel_rfl) J6_ (by simp[za_]) Tryz.underlying22 (by intro k h;cases h) hGr (fun w' hw'=>AppX.all (new:= [vi o.k,vs o.t,vi q.k,vs q.t]) (hw'.has b9 (.cells #[vi o.k,vs o.t,vi q.k,vs q.t] 26 (0,0)) (by simp)) rfl rfl) (by omega) (fun B3 v3 D3 hA3 hB3 hG3 hk13 hk23 hlk3=> ?_)
  have hN3:New w.heap.size D3:=New.of_le fun c hc=>by
   rcases hk23 c hc with h|h
   ·exact hNX.le c h
   ·omega
  have hN9:=hN3.app (hNY.app (show New w.heap.size [(b9,Obj.cells #[vi o.k,vs o.t,vi q.k,vs q.t] 26 (0,0))] from⟨hw9,trivial⟩))
  have rd3:zk_ w (D3++ (Y++ [(b9,Obj.cells #[vi o.k,vs o.t,vi q.k,vs q.t] 26 (0,0))])) rb=some (.cells arr E fz):=by
   rw[zX_ (hN9.not hrl)];exact hr.has (by omega)
  with_reducible refine Ow.nil ?_
  refine⟨(fun r hr2=>by rw[List.mem_singleton.1 hr2,rd3,rd9]), ?_⟩
  refine kyb ?_
  refine OwG.rest [15] rfl (by kernel_rfl) (by kernel_rfl) ?_
  refine kya ?_
  refine kq @zc_ ?_
  first|with_reducible refine ks [] @zc_ ?_|refine kp @zc_ ?_
  refine Again.mk ⟨j+1,(i:Int) - 1,v3,D3,Y++ [(b9, .cells #[vi o.k,vs o.t,vi q.k,vs q.t] 26 (0,0))]⟩ (by show l.length - (j+1)<l.length - j;omega) ⟨hzn,hlt,hN3,hNY.app ⟨hw9,trivial⟩, ?_⟩ rfl rfl
  show Gr D3 26 2 v3 (bkL l q (j+1)).length ((bkL l q (j+1)).map j7_).flatten
  rw[hbs,List.length_append]
  simpa [j7_] using hG3
 ·obtain rfl:j=l.length:=by omega
  have d2:decide ((0:Int)≤z)=false:=decide_eq_false (by omega)
  have hiff:=fun o=>aoi_ hmm o
  generalize hbk:bkL l q l.length=k at*
  first|with_reducible refine ks [] (And.intro @zc_ @d2) ?_|refine kp (And.intro @zc_ @d2) ?_
  refine Ow.callC rfl rfl Tryz.call7 (fun w' hw'=>Rets.toX (kK_ T v l w' (hG.new hw' hNN) (hC.newP hw' hNN) (hT.new hw' hNN) (hv.oldN hw' hNN) (by omega))) (fun B1 v1 D1 hA1 hB1 hN1 hS1=> ?_)
  obtain⟨rfl,hS1⟩:=hS1
  clear hA1 hN1
  rw[List.append_nil]
  have h2:=fun w' (hw':Hp w (X++Y) w')=>kK_ T vb k w' (hG.new hw' hNN) (hC.newP hw' hNN) (hT.new hw' hNN) (hGr.slM (l:=k) (fun b o hm=>hw'.has b o (by simp[hm])) rfl rfl xa_) (by omega)
  rcases hS1 with⟨hbad,rfl⟩ | ⟨hok,Z,hZ,rfl⟩
  ·refine ko @zc_ ?_
   first|with_reducible refine ks [] @zc_ ?_|refine kp @zc_ ?_
   refine Ow.callC rfl rfl Tryz.call7 (fun w' hw'=>Rets.toX (h2 w' hw')) (fun B2 v2 D2 hA2 hB2 hN2 hS2=> ?_)
   obtain⟨rfl,hS2⟩:=hS2
   clear hA2 hN2
   rw[List.append_nil]
   obtain⟨o,ho,hro⟩:=hbad
   obtain⟨-,rfl⟩:=hS2.resolve_right fun h=>by have:=h.1 o ((hiff o).1 ho);rw[hro] at this;cases this
   have e1: (([]:List UInt8)== [])=true:=rfl
   have e2: ((1:Int)==1)=true:=rfl
   refine ko @zc_ ?_
   first|with_reducible refine ks [] @zc_ ?_|refine kp @zc_ ?_
   refine Ow.callFV rfl Tryz.call4 (fun w' hw'=>jJ_ T w' (hG.new hw' hNN) (hC.newP hw' hNN) (hT.new hw' hNN)) ?_
   refine ko (And.intro @zc_ (And.intro @e1 (@e2))) ?_
   first|with_reducible refine ks [] @zc_ ?_|refine kp @zc_ ?_
   refine⟨_,(ke @zc_),hNN, ?_⟩
   rfl
  ·refine ko @zc_ ?_
   first|with_reducible refine ks [] @zc_ ?_|refine kp @zc_ ?_
   refine Ow.callC rfl rfl Tryz.call7 (fun w' hw'=>Rets.toX (h2 w' hw')) (fun B2 v2 D2 hA2 hB2 hN2 hS2=> ?_)
   obtain⟨rfl,hS2⟩:=hS2
   clear hA2 hN2
   rw[List.append_nil]
   obtain⟨-,Y2,hY2,rfl⟩:=hS2.resolve_left fun h=>by obtain⟨⟨o,ho,hro⟩,-⟩:=h;rw[hok o ((hiff o).2 ho)] at hro;cases hro
   rw[←akN_ hcl hok hiff hZ hY2]
   generalize KR_ T (z7_ Z)=r at*
   obtain⟨s,e⟩:=r
   simp only
   have e1: (s==s)=true:=beq_self_eq_true s
   have e2: (e==e)=true:=beq_self_eq_true e
   refine ko @zc_ ?_
   first|with_reducible refine ks [] @zc_ ?_|refine kp @zc_ ?_
   refine Ow.callFV rfl Tryz.call4 (fun w' hw'=>jJ_ T w' (hG.new hw' hNN) (hC.newP hw' hNN) (hT.new hw' hNN)) ?_
   refine ko (And.intro @zc_ (And.intro @e1 (@e2))) ?_
   first|with_reducible refine ks [] @zc_ ?_|refine kp @zc_ ?_
   refine⟨_,(ke @zc_),hNN, ?_⟩
   rfl
end Go.Proofs
end
namespace Go.Sx
open Go Go.ChangeShapes Go.WideShapes Go.RowKit
theorem Hp.same0 {W W':World} (h:Hp W [] W') {b:Nat} (hb:b<W.heap.size):W'.heap[b]? =W.heap[b]? :=h.old b hb (fun hm=>by cases hm)
theorem Hp.kept {W W':World} (h:Hp W [] W') (may:MemPlace→Prop):W.keptBut W' may:=by
 refine⟨h.os,h.output,fun i hi=> ?_⟩
 rw[h.same0 hi]
 cases ho:W.heap[i]? with
 |none=>rfl
 |some o=>
  cases o<;>first
   |exact⟨rfl,rfl,rfl,fun _ _=>rfl⟩
   |exact .inr ⟨rfl,rfl⟩
   |rfl
theorem Hp.sameAt {W W':World} (h:Hp W [] W') {p:MemPlace} (hp:p.block<W.heap.size):W.sameAt W' p:=by
 cases p with
 |cell b off=>
  have:=h.same0 (b:=b) hp
  simp only[World.sameAt,World.cell?,this]
 |map b=>exact h.same0 hp
theorem Hp.frozen {W W':World} (h:Hp W [] W') {a:Addr} (ha:a.block<W.heap.size):W'.frozen? a=W.frozen? a:=by
 simp only[World.frozen?,h.same0 ha]
section
variable {H:Type} {enc:TypeId×Value→H} {P:Program}
theorem w2_ (hl:laidOutB P=true) {W W':World} {sp:Nat→Bool} (hp:Hp W [] W'): ∀ {ts:List TypeId} {vs:List Value} {ds:List (DataW H)} {ps:List MemPlace},
  (∀t∈ts,P.readableRec t=true∧t<P.types.size)→(∀p∈ps,p.block<W.heap.size)→(∀p∈ps,sp p.block=true)→
  DataW.TrodAll enc P W 0 (fun _=>true) true ts vs ds ps→DataW.TrodAll enc P W' 0 sp true ts vs ds ps
 | [],_,_,_,_,_,_,h=>by
  obtain⟨rfl,rfl,rfl⟩:=trodAll_nil h
  exact trodAll_mk0
 |t::ts,_,_,_,ht,hlt,hs,h=>by
  obtain⟨v,vs,d,ds,p,q,rfl,rfl,rfl,h1,h2⟩:=trodAll_cons h
  have hlt1: ∀x∈p,x.block<W.heap.size:=fun x hx=>hlt x (List.mem_append_left _ hx)
  exact trodAll_cons_mk (WideElems.Trod_stays hl (ht t List.mem_cons_self).1 (ht t List.mem_cons_self).2 h1 (fun x hx=>hp.sameAt (hlt1 x hx)) (fun x hx=>hs x (List.mem_append_left _ hx)))
   (w2_ hl hp (fun u hu=>ht u (List.mem_cons_of_mem _ hu)) (fun x hx=>hlt x (List.mem_append_right _ hx)) (fun x hx=>hs x (List.mem_append_right _ hx)) h2)
theorem ai0_ {f:Func} {s:ChangeSpec} {W W':World} {args:Array Value} {ds gs:List (DataW H)} {before:List MemPlace} {tb:TypeId} (hl:laidOutB P=true)
  (hW:DataW.Whole enc P f.params.toList s.vars false W args.toList ds gs before) (hv:s.vars= []) (hpar: ∀t∈f.params.toList,P.readableRec t=true∧t<P.types.size)
  (hr:f.resultTypes= #[tb]) (htb:P.underlying tb=some .bool) (hfn:s.fn H ds={results:= [.lit (.bool true)],args:=ds}) (hp:Hp W [] W'):
  s.post enc P f false true false false W args (.bool true) W':=by
 have hlt:=hW.lt
 have hW0:=hW
 obtain⟨p,q,hA,hV,rfl,hz,hn⟩:=hW
 rw[hv] at hV
 obtain⟨rfl,rfl⟩:=trodVars_none hV
 rw[List.append_nil] at hW0 hlt hz
 have hargs: ∀sp:Nat→Bool,(∀x∈p,sp x.block=true)→DataW.TrodAll enc P W' 0 sp true f.params.toList args.toList (s.fn H (ds++ [])).args p:=fun sp hs=>by
  rw[List.append_nil,hfn]
  exact w2_ hl hp hpar hlt hs hA
 have hvars: ∀sp:Nat→Bool,DataW.TrodVars enc P W' sp s.vars (s.fn H (ds++ [])).vars []:=fun sp=>by
  rw[List.append_nil,hfn,hv];rfl
 have hres: ∀ (b:Nat) (sp:Nat→Bool) (hd:Bool),DataW.TrodAll enc P W' b sp hd f.resultTypes.toList ((Value.bool true).resultList f.resultTypes.size) (s.fn H (ds++ [])).results []:=fun b sp hd=>by
  rw[List.append_nil,hfn,hr]
  exact trodAll_cons_mk (shut_bool htb true) trodAll_mk0
 have hold: ∀x∈p,(fun b=>decide (b<W.heap.size)) x.block=true:=fun x hx=>by simpa using hlt x hx
 refine⟨ds,[],p,[],p,[],hW0,hres _ _ _,hargs _ hold,hvars _,hp.kept _,fun _=> ?_⟩
 refine⟨ok_one hr rfl (okWide_bool_mk htb true),_,_,([]++p)++ [],⟨[]++p,[],trodAll_append (hargs _ (fun _ _=>rfl)) (hres _ _ _),hvars _,rfl, ?_,fun h=>by cases h⟩, ?_⟩
 ·intro b off hx
  have hx':MemPlace.cell b off∈p:=by simpa using hx
  rw[hp.frozen (hlt _ hx')]
  exact hz b off hx'
 ·intro x hx _
  simpa using hx
end
section
variable {P:Program} {W:World} {name:String} {k:IntKind} {zs:List Int}
theorem kH_ {t e:TypeId} {g n:Nat} (hg:P.globalNamed name=some g) (hty: (P.globals[g]?).map (·.type)=some t) (ht:P.underlying t=some (.array n e)) (he:P.underlying e=some (.int k)) (hce:P.cellsOf e=1) (hct:P.cellsOf t=n):
  ∀ {laid:List (String×DataW Unit)} {ps:List MemPlace},DataW.LaidVars P W laid ps→(name,Lib.tabData k zs)∈laid→Lib.TabIs P W name k zs
 | [],_,_,hm=>by cases hm
 | (n',d')::rest,ps,h,hm=>by
  obtain⟨g',t',cs,fuel,p,q,hg',ht',hvar,hd,hr,-⟩:=h
  rcases List.mem_cons.1 hm with hm|hm
  ·cases hm
   obtain rfl:=Option.some.inj (hg.symm.trans hg')
   obtain rfl:=Option.some.inj (hty.symm.trans ht')
   unfold Lib.TabIs
   rw[hvar,←Lib.cells_of_tab ht he hce hct hd]
  ·exact kH_ hg hty ht he hce hct hr hm
theorem wb_ {g:Nat} (hg:P.globalNamed name=some g) (h:Lib.TabIs P W name k zs): ∃e f,W.heap[g]? =some (.cells (zs.map fun z=>Value.int k z).toArray e f):=by
 unfold Lib.TabIs at h
 simp only[World.var?,hg,Option.bind_some] at h
 split at h
 ·rename_i cs e f hb
  cases h
  exact⟨e,f,hb⟩
 ·cases h
end
section
variable {H:Type} {enc:TypeId×Value→H} {P:Program}
end
end Go.Sx
namespace Go.Sx
open Go
section
variable {P:Program}
theorem akM_ {fits:TypeId→Bool} {d:Nat} {e:TypeId} {count off n:Nat} (h:rowAt P fits d e count off n=true):off≤count*P.cellsOf e:=by
 cases d with
 |zero=>simp[rowAt] at h
 |succ d=>
  unfold rowAt at h
  simp only at h
  split at h
  ·cases h
  ·rename_i hs
   have hs':0<P.cellsOf e:=Nat.pos_of_ne_zero hs
   have hd:=Nat.div_add_mod off (P.cellsOf e)
   have hm:=Nat.mod_lt off hs'
   rw[Bool.or_eq_true] at h
   rcases h with h|h
   ·simp only[Bool.and_eq_true,beq_iff_eq,decide_eq_true_eq] at h
    have:off / P.cellsOf e*P.cellsOf e≤count*P.cellsOf e:=Nat.mul_le_mul_right _ (by omega)
    rw[Nat.mul_comm (P.cellsOf e)] at hd
    omega
   ·simp only[Bool.and_eq_true,decide_eq_true_eq] at h
    have: (off / P.cellsOf e+1)*P.cellsOf e≤count*P.cellsOf e:=Nat.mul_le_mul_right _ (by omega)
    rw[Nat.add_mul,Nat.one_mul] at this
    rw[Nat.mul_comm (P.cellsOf e)] at hd
    omega
theorem aaz_ {e:TypeId} {count off:Nat}: ∀ {d:Nat} {u:TypeId} {n:Nat},liesAt P d e count off u n=true→off≤count*P.cellsOf e
 |0,u,n,h=>by simp[liesAt] at h
 |d+1,u,n,h=>by
  unfold liesAt at h
  rw[Bool.or_eq_true] at h
  rcases h with h|h
  ·exact akM_ h
  ·split at h
   ·exact aaz_ h
   ·cases h
theorem apy_ {W:World} {r:Reach} {base:Nat} {a:Addr} {e:TypeId} {n:Nat} (h:W.has P r base a e n):a.spot=none∧ ∃arr E fz,W.heap[a.block]? =some (.cells arr E fz)∧a.off≤arr.size:=by
 obtain⟨-,hs,row,cells,hsh,hl⟩:=h
 refine⟨hs, ?_⟩
 unfold World.shape? at hsh
 split at hsh
 ·rename_i c el fz hh
  cases hsh
  refine⟨c,_,fz,hh,Nat.le_trans (aaz_ hl) ?_⟩
  exact Nat.div_mul_le_self _ _
 ·cases hsh
theorem aiz_ {W:World} {r:Reach} {base:Nat} {t e:TypeId} {v:Value} (ht:P.underlying t=some (.slice e)) (h:Value.okWide P W r base t v):
  v= .slice none 0 0∨ ∃b off len cap arr E fz,v=vsl b off len cap∧len≤cap∧W.heap[b]? =some (.cells arr E fz)∧off≤arr.size:=by
 obtain⟨a,len,cap,rfl⟩:=Go.WideShapes.okWide_slice ht h
 unfold Value.okWide at h
 rw[ht] at h
 unfold Cell.okWide at h
 rw[ht] at h
 simp only at h
 unfold Cell.ok at h
 rw[ht] at h
 cases a with
 |none=>
  left
  simp only at h
  split at h
  all_goals first| (cases h;done) |simp_all
 |some a=>
  right
  simp only at h
  obtain⟨hle,-,hh⟩:=h
  obtain⟨hs,arr,E,fz,hb,ho⟩:=apy_ hh
  obtain⟨b,off,sp⟩:=a
  simp only at hs
  subst hs
  exact⟨b,off,len,cap,arr,E,fz,rfl,hle,hb,ho⟩
theorem aqg_ {α:Type} {enc:α→List Value} {z:α} {m:Nat} {W:World} {base b off c:Nat} {l:List α} {arr:Array Value} {E:TypeId} {fz:Nat×Nat} (hm0:0<m) (hm: ∀x,(enc x).length=m)
  (hcells: ∀i,i<l.length→W.cells? base ((Addr.mk b off none).add (i*m)) m=some (enc (l.getD i z))) (hheap:W.heap[b]? =some (.cells arr E fz)) (hoff:off≤arr.size) (hc:l.length≤c):SlV m enc z W (vsl b off l.length c) l:=by
 have get: ∀k,k<l.length→ ∀j,j<m→arr[off+k*m+j]? =(enc (l.getD k z))[j]? :=by
  intro k hk j hj
  obtain⟨-,hl,hg⟩:=World.cells?_some (hcells k hk)
  have:=hg j (by omega)
  rw[qB_,qB_] at this
  simp only[World.cell?,hheap,Option.isSome_none,Bool.false_eq_true,if_false] at this
  exact this
 refine SlV.sl hheap get hc ?_
 by_cases h0:l.length=0
 ·rw[h0];omega
 ·have h1:=get (l.length - 1) (by omega) (m - 1) (by omega)
  rw[List.getElem?_eq_getElem (by rw[hm];omega)] at h1
  have h2:=(Array.getElem?_eq_some_iff.1 h1).1
  have h3: (l.length - 1)*m+m=l.length*m:=by
   rw[←Nat.succ_mul];congr 1;omega
  omega
theorem amt_ {H:Type} {tell:TypeId×Value→H} {α:Type} {enc:α→List Value} {z:α} {m:Nat} {W:World} {r:Reach} {base b0:Nat} {sp:Nat→Bool} {held:Bool} {fuel:Nat} {t e:TypeId} {v:Value} {x:DataW H×List MemPlace}
  (ht:P.underlying t=some (.slice e)) (he:P.cellsOf e=m) (hm0:0<m) (hm: ∀x,(enc x).length=m) (hval:Value.okWide P W r b0 t v)
  (hdec: ∀n cs y,DataW.trod tell P W base sp held n e cs=some y→ ∃a,cs=enc a) (hd:DataW.trod tell P W base sp held fuel t [v]=some x): ∃l,SlV m enc z W v l:=by
 rcases DataW.trod_slice ht hd with⟨hcs,-⟩ | ⟨a,len,cap,elems,rest,n,-,hcs,-,-,hl,-,hlen,hel,-,-⟩
 ·simp only[List.cons.injEq,and_true] at hcs
  subst hcs
  exact⟨[],SlV.nil W⟩
 ·simp only[List.cons.injEq,and_true] at hcs
  subst hcs
  rcases aiz_ ht hval with h0| ⟨b,off,len',cap',arr,E,fz,h1,-,hb,ho⟩
  ·cases h0
  ·unfold vsl at h1
   cases h1
   rw[he] at hel
   have hex: ∀i,i<len→ ∃q,W.cells? base ((Addr.mk b off none).add (i*m)) m=some (enc q):=by
    intro i hi
    have h2:=hel i hi
    rw[List.getElem?_eq_getElem (by omega)] at h2
    cases hc:W.cells? base ((Addr.mk b off none).add (i*m)) m with
    |none=>rw[hc] at h2;cases h2
    |some cs=>
     rw[hc] at h2
     obtain⟨q,rfl⟩:=hdec _ _ _ h2
     exact⟨q,rfl⟩
   obtain⟨f,hf⟩: ∃f:Nat→α,∀i,i<len→W.cells? base ((Addr.mk b off none).add (i*m)) m=some (enc (f i)):=by
    classical
    refine⟨fun i=>if h:i<len then Classical.choose (hex i h) else z,fun i hi=> ?_⟩
    simp only[dif_pos hi]
    exact Classical.choose_spec (hex i hi)
   have hll: ((List.range len).map f).length=len:=by simp
   refine⟨(List.range len).map f, ?_⟩
   have:=aqg_ (W:=W) (base:=base) (b:=b) (off:=off) (c:=cap) (l:=(List.range len).map f) (z:=z) hm0 hm (fun i hi=>by
    rw[hll] at hi
    rw[hf i hi]
    congr 2
    rw[List.getD_eq_getElem?_getD,List.getElem?_map,List.getElem?_range hi];rfl) hb ho (by rw[hll];exact hl)
   rw[hll] at this
   exact this
end
end Go.Sx
