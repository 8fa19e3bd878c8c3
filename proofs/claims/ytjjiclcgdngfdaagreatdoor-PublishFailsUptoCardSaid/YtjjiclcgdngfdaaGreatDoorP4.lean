/-
  Part 4 of the walk: contracts of the functions that the law reaches, and the calculus they stand on.
  No conditions.
-/
import Derived.Test.YtjjiclcgdngfdaaGreatDoorP3
import Derived.ProofKit
import Derived.OpenShut
import Derived.WideKeyArgs
import Derived.ChangeSame
import Derived.ChangeMaps5
import Derived.Lib.LaidTab
import Derived.SliceStrings
import Derived.DataReads
import Derived.Deep.Strs
section
open Go Go.Proofs Go.Sx Go.StP Go.Flo
namespace Go.Proofs
set_option maxRecDepth 10000
set_option maxHeartbeats 400000
set_option linter.unusedSimpArgs false
def BndD (l:List PartL):Prop:= ∀g,g<l.length→(l.getD g j9_).x.length<100000000
theorem Qu_ {α:Type} {enc:α→List Value} {m:Nat} {D:za_} {E:TypeId} {v:Value} {l:List α} (h:GrI D E m v l.length (l.map enc).flatten) (hn: (keys D).Nodup):l.length=0∨ ∃b c rest,v=vsl b 0 l.length c∧b∈keys D∧Sx.look D b=some (Wt_ enc E rest l):=by
 obtain⟨X,hX,h| ⟨h0,-⟩⟩:=h
 ·rcases h.inv with⟨-,h0,-⟩ | ⟨b,c,rest,rfl,hl,h1,h2,h3,h4⟩
  ·exact .inl h0
  ·exact .inr ⟨b,c,rest,rfl,List.mem_map_of_mem (f:=Prod.fst) (hX _ (zx_ hl)),v4_ hn (hX _ (zx_ hl))⟩
 ·exact .inl h0
structure TrG where
 n:Nat
 s:List UInt8
 DG:za_
set_option linter.defProp false
def j2_:=And.intro (And.intro (And.intro (@zd_) (@zc_)) (And.intro (@jD_) (@jy_))) (And.intro (And.intro (@jz_) (@qW_)) (And.intro (@Sx.tup2_0) (@Sx.tup2_1)))
theorem afm_ (v0:Value) (l:List PartL) (a0:Int) (w:World) (hv:aop_ w v0 l) (hb:BndD l):
  Rets Tryz.prog 190 #[v0,vi a0] w (fun v D=>v=ait_ (partV l a0)∧D= []):=by
 obtain⟨bb,off,arr,E,fz,hr⟩:=hv.row
 refine Rets.enterV Tryz.func190 rfl (rs:= [.tmp 4, .tmp 5]) Tryz.results190 Tryz.ntmps190 ?_
 refine kf ?_
 first|with_reducible refine ks [] @j2_ ?_|refine kp @j2_ ?_
 refine Ow.callC rfl rfl Tryz.call214 (fun w' hw'=>ah4_ v0 l a0 w' (hv.oldN hw' trivial)) (fun B1 v1 D1 hA1 hB1 hN1 hS1=> ?_)
 have hN1':=hN1.mono hB1
 unfold abT_ at hS1
 unfold partV
 cases hp:ve_ l a0 with
 |error e=>
  rw[hp] at hS1
  have hS1':v1= .tuple #[.slice none 0 0,vi e]:=hS1
  subst hS1'
  have e0: (e !=0)=true:=by rw[bne_iff_ne];exact abb_ hp
  refine ko @j2_ ?_
  first|with_reducible refine ks [] (And.intro @j2_ @e0) ?_|refine kp (And.intro @j2_ @e0) ?_
  refine⟨_,(ke @j2_),hN1', ?_⟩
  rfl
 |ok p=>
  rw[hp] at hS1
  obtain⟨x,rfl,hp5,hgp⟩:=hS1
  have hlt:=amV_ hp
  have e0: ((0:Int) !=0)=false:=rfl
  have hlen: ∀m,Kg_ (.sl m) x=some (vi p.length):=fun m=>vd_ hgp m
  rw[List.nil_append]
  refine ko (And.intro @j2_ (And.intro @e0 (@hlen))) ?_
  first|with_reducible refine ks [] @j2_ ?_|refine kp @j2_ ?_
  refine Cw.world fun wz hwz=> ?_
  have hnd:=hwz.nodup
  clear hwz wz
  refine Cw.permL (M:=D1++ []) (by rw[List.append_nil]) ?_
  refine Cw.loopG (G:=TrG) [25,26,29,30,31,32,33,34,35,10,36,37,38,39,40,41,42,4,5,43,44,8,46,47,48,49,45,50,51,11,12,52,53,54,55,27,28,9] (fun g=> [(8,vs g.s),(9,vi ((g.n:Int) - 1))]) (fun g=>D1++g.DG) (fun g=>g.n≤p.length∧v6_ l (p.drop g.n)= .ok g.s∧New w.heap.size g.DG) (fun g=>g.n) ⟨p.length,[],[]⟩ rfl rfl ?_ ?_
  ·exact⟨Nat.le_refl _,by rw[List.drop_length];rfl,trivial⟩
  intro g j hg
  refine kv ?_
  obtain⟨n,s,DG⟩:=g
  simp only at hg ⊢
  obtain⟨hn1,hfn,hNG⟩:=hg
  have hNr:New w.heap.size (D1++DG):=hN1'.app hNG
  cases n with
  |zero=>
   have d1:decide ((0:Int)≤ ((0:Nat):Int) - 1)=false:=rfl
   first|with_reducible refine ks [] (And.intro @j2_ @d1) ?_|refine kp (And.intro @j2_ @d1) ?_
   refine⟨_,(ke @j2_),hNr, ?_⟩
   rw[List.drop_zero] at hfn;show _=ait_ ((Except.ok p).bind (v6_ l));rw[show(Except.ok p).bind (v6_ l)=v6_ l p from rfl,hfn];rfl
  |succ n=>
   have en: ((n+1:Nat):Int) - 1=(n:Int):=by omega
   rw[en]
   have d1:decide ((0:Int)≤ (n:Int))=true:=decide_eq_true (by omega)
   obtain h0| ⟨bp,cp,rp,rfl,hkp,hlk⟩:=Qu_ hgp hnd
   ·omega
   have hnl:n<p.length:=by omega
   have rdp:zz_ w (D1++DG) bp=some (Wt_ natC 3 rp p):=zb_ (zj_ hlk)
   have lp:=anj_ (E:=3) (rest:=rp) 1 n hnl
   have hmem:p.getD n 0<l.length:=hlt _ (v5_ hnl)
   have hdr:p.drop n=p.getD n 0::p.drop (n+1):=ajH_ (z:=0) hnl
   have hfo:v6_ l (p.drop n)=if(kD_ (l.getD (p.getD n 0) j9_) s).2=0 then .ok (kD_ (l.getD (p.getD n 0) j9_) s).1 else .error (kD_ (l.getD (p.getD n 0) j9_) s).2:=by
    rw[hdr,v6_,hfn];rfl
   generalize p.getD n 0=a at*
   have hb0:0<l.length:=by omega
   have hbl:=hr.lt hb0
   have rd:zz_ w (D1++DG) bb=some (.cells arr E fz):=by rw[qw_ (hNr.not hbl)];exact hr.has hb0
   have i2:=hr.idx true a hmem
   have ld:=hr.load Kh_ (by omega) hmem
   have hpx:=hb a hmem
   generalize l.getD a j9_=pt at*
   have hst:=Zb_ pt j9_ 279
   first|with_reducible refine ks [7] (And.intro @j2_ (And.intro @d1 (And.intro @lp (And.intro @rdp (And.intro @rd (And.intro @i2 (@ld))))))) ?_|refine kp (And.intro @j2_ (And.intro @d1 (And.intro @lp (And.intro @rdp (And.intro @rd (And.intro @i2 (@ld))))))) ?_
   refine Ow.alloc rfl rfl abz_ fun b10 hb10 hw10=> ?_
   simp only[zg_,List.nil_append,List.cons_append]
   refine Ow.permL (M:=(b10, .cells (qb_ j9_).toArray 279 (0,0)):: (D1++DG)) (by classical exact List.perm_iff_count.2 fun a=>by simp only[List.count_append,List.count_cons,List.count_nil]<;>omega) ?_
   cases hd:pt.d with
   |false=>
    by_cases hl4:4099<pt.x.length
    ·have d2:decide ((4099:Int)< (pt.x.length:Int))=true:=decide_eq_true (by omega)
     have ht:kD_ pt s=([],19):=by unfold kD_;rw[if_neg (by rw[hd];decide),if_pos hl4]
     rw[ht,if_neg (by decide)] at hfo
     refine ko (And.intro @j2_ (And.intro @hst (And.intro @hd (@d2)))) ?_
     first|with_reducible refine ks [] (And.intro @j2_ (And.intro @hd (@d2))) ?_|refine kp (And.intro @j2_ (And.intro @hd (@d2))) ?_
     refine⟨_,(ke @j2_),(show New w.heap.size ((b10,_):: (D1++DG)) from⟨hw10,hNr⟩), ?_⟩
     show _=ait_ (v6_ l p);rw[QV_ p n hfo];rfl
    ·have d2:decide ((4099:Int)< (pt.x.length:Int))=false:=decide_eq_false (by omega)
     have ht:kD_ pt s=(pt.x,0):=by unfold kD_;rw[if_neg (by rw[hd];decide),if_neg hl4]
     rw[ht,if_pos rfl] at hfo
     refine ko (And.intro @j2_ (And.intro @hst (And.intro @hd (@d2)))) ?_
     refine Cw.permL (M:=D1++ ((b10, .cells (qb_ pt).toArray 279 (0,0))::DG)) (by classical exact List.perm_iff_count.2 fun a=>by simp only[List.count_append,List.count_cons,List.count_nil]<;>omega) ?_
     first|with_reducible refine ks [] @j2_ ?_|refine kp @j2_ ?_
     exact Again.mk ⟨n,pt.x,(b10, .cells (qb_ pt).toArray 279 (0,0))::DG⟩ (by show n<n+1;omega) ⟨by show n≤p.length;omega,hfo,⟨hw10,hNG⟩⟩ rfl rfl
   |true=>
    have ht:kD_ pt s=xP_ s pt.x:=by unfold kD_;rw[if_pos hd]
    rw[ht] at hfo
    refine ko (And.intro @j2_ (And.intro @hst (@hd))) ?_
    first|with_reducible refine ks [] (And.intro @j2_ @hd) ?_|refine kp (And.intro @j2_ @hd) ?_
    refine Ow.callFV rfl Tryz.call215 (fun w' hw'=>aff_ s pt.x w' hpx) ?_
    by_cases he: (xP_ s pt.x).2=0
    ·have e1: ((xP_ s pt.x).2 !=0)=false:=by rw[he];rfl
     rw[if_pos he] at hfo
     refine ko (And.intro @j2_ @e1) ?_
     refine Cw.permL (M:=D1++ ((b10, .cells (qb_ pt).toArray 279 (0,0))::DG)) (by classical exact List.perm_iff_count.2 fun a=>by simp only[List.count_append,List.count_cons,List.count_nil]<;>omega) ?_
     first|with_reducible refine ks [] @j2_ ?_|refine kp @j2_ ?_
     exact Again.mk ⟨n,(xP_ s pt.x).1,(b10, .cells (qb_ pt).toArray 279 (0,0))::DG⟩ (by show n<n+1;omega) ⟨by show n≤p.length;omega,hfo,⟨hw10,hNG⟩⟩ rfl rfl
    ·have e1: ((xP_ s pt.x).2 !=0)=true:=by rw[bne_iff_ne];exact he
     rw[if_neg he] at hfo
     refine ko @j2_ ?_
     first|with_reducible refine ks [] (And.intro @j2_ @e1) ?_|refine kp (And.intro @j2_ @e1) ?_
     refine⟨_,(ke @j2_),(show New w.heap.size ((b10,_):: (D1++DG)) from⟨hw10,hNr⟩), ?_⟩
     show _=ait_ (v6_ l p);rw[QV_ p n hfo];rfl
end Go.Proofs
end
section
open Go Go.Proofs Go.Sx Go.StP Go.Flo
namespace Go.Proofs
set_option maxRecDepth 10000
set_option maxHeartbeats 400000
set_option linter.unusedSimpArgs false
structure A9G where
 ts:List (List UInt8)
 v:Value
 D:za_
 DG:za_
set_option linter.defProp false
def auR_:=And.intro (And.intro (@zd_) (@zc_)) (And.intro (@Sx.tup2_0) (@Sx.tup2_1))
end Go.Proofs
end
section
open Go Go.Proofs Go.Sx Go.StP Go.Flo
namespace Go.Proofs
set_option maxRecDepth 10000
set_option maxHeartbeats 400000
set_option linter.unusedSimpArgs false
theorem aeq_ (s:List UInt8) (a:Nat) (e most:Int):zB_ s (a+1) e most=((zB_ (s.drop 1) a e most).1,(zB_ (s.drop 1) a e most).2.1+1,(zB_ (s.drop 1) a e most).2.2):=by
 unfold zB_
 rw[List.drop_drop,Nat.add_comm 1 a]
 by_cases he:e≠0
 ·rw[if_pos he,if_pos he]
 ·rw[if_neg he,if_neg he]
  cases ji_ most (List.drop (a+1) s) 0 0 with
  |error x=>rfl
  |ok p=>simp only[Prod.mk.injEq,true_and];exact⟨by omega,trivial⟩
theorem afd_ (s:List UInt8) (a:Nat) (e n:Int) (hs:1≤s.length):js_ s (a+1) e n=((js_ (s.drop 1) a e n).1,(js_ (s.drop 1) a e n).2.1+1,(js_ (s.drop 1) a e n).2.2):=by
 unfold js_
 rw[List.length_drop,List.drop_drop,Nat.add_comm 1 a]
 have hq: ((s.length:Int) - ((a+1:Nat):Int)<n)=(((s.length - 1:Nat):Int) - (a:Int)<n):=by rw[eq_iff_iff];omega
 simp only[hq]
 by_cases he:e≠0
 ·simp only[if_pos he]
 ·simp only[if_neg he]
  by_cases hn:n<0
  ·simp only[if_pos hn]
  ·simp only[if_neg hn]
   by_cases hl: ((s.length - 1:Nat):Int) - (a:Int)<n
   ·simp only[if_pos hl]
   ·simp only[if_neg hl,Prod.mk.injEq,true_and]
    exact⟨by omega,trivial⟩
theorem abP_ (s:List UInt8) (a:Nat) (e most:Int) (hs:1≤s.length):z3_ s (a+1) e most=((z3_ (s.drop 1) a e most).1,(z3_ (s.drop 1) a e most).2.1+1,(z3_ (s.drop 1) a e most).2.2):=by
 unfold z3_
 simp only[aeq_]
 rw[afd_ _ _ _ _ hs]
 simp only
 split<;>rfl
theorem afZ_ (c:UInt8) (r:List UInt8):frR (c::r)=([c],1,0):=by
 unfold frR js_
 rw[if_neg (by simp),if_neg (by decide),if_neg (by simp only[List.length_cons];omega)]
 rfl
theorem afJ_ (c:UInt8) (r:List UInt8):frT (c::r)=((lfT r).1,(lfT r).2.1+1,(lfT r).2.2):=by
 unfold frT
 rw[afZ_]
 exact abP_ (c::r) 0 0 4096 (by simp)
theorem akZ_ (c:UInt8) (r:List UInt8) (a:Nat) (e:Int):vO_ (c::r) (a+1) e=vO_ r a e:=by
 unfold vO_
 rw[List.length_cons]
 have: ((((a+1:Nat):Int)< ((r.length+1:Nat):Int))=((a:Int)< (r.length:Int))):=by rw[eq_iff_iff];omega
 simp only[this]
theorem al4_ (c:UInt8) (r:List UInt8): (fkC c=0∧ ¬ (1≤frK (c::r)∧frK (c::r)≤3))∨(fkC c≠0∧frK (c::r)=fkC c∧arA_ (fkC c)= [c]):=by
 have e:frK (c::r)=Lib.indexByte letL c:=by unfold frK;rw[afZ_];rfl
 rw[e]
 by_cases h1:c=98
 ·subst h1;exact .inr ⟨by decide,rfl,rfl⟩
 by_cases h2:c=116
 ·subst h2;exact .inr ⟨by decide,rfl,rfl⟩
 by_cases h3:c=99
 ·subst h3;exact .inr ⟨by decide,rfl,rfl⟩
 refine .inl ⟨by unfold fkC;rw[if_neg h1,if_neg h2,if_neg h3], ?_⟩
 have b1: ((98:UInt8)==c)=false:=beq_eq_false_iff_ne.2 (Ne.symm h1)
 have b2: ((116:UInt8)==c)=false:=beq_eq_false_iff_ne.2 (Ne.symm h2)
 have b3: ((99:UInt8)==c)=false:=beq_eq_false_iff_ne.2 (Ne.symm h3)
 simp only[Lib.indexByte,b1,b2,b3,Bool.false_eq_true, ↓reduceIte]
 split<;>simp
theorem ajN_ {k:Int} {t:List UInt8} (h: ¬ (1≤k∧k≤3)):RdOk k t=false:=by
 unfold RdOk;rw[if_neg (fun h'=>h ⟨h'.1,h'.2.1⟩)]
theorem aox_ (s:List UInt8):WD_ s=lfOk s∧(WD_ s=true→frK s=lfK s∧(frT s).1=(lfT (s.drop 1)).1):=by
 cases s with
 |nil=>
  have h:WD_ []=false:=by
   unfold WD_
   rw[ajN_ (k:=frK []) (by decide),Bool.and_false]
  exact⟨by rw[h];rfl,fun h'=>by rw[h] at h';cases h'⟩
 |cons c r=>
  have e1:WD_ (c::r)=(vO_ r (lfT r).2.1 (lfT r).2.2==0&&RdOk (frK (c::r)) (lfT r).1):=by
   unfold WD_;rw[afJ_,akZ_]
  have e2:lfOk (c::r)=(fkC c !=0&&vO_ r (lfT r).2.1 (lfT r).2.2==0&&kB_ (fkC c) (lfT r).1):=rfl
  rcases al4_ c r with⟨h1,h2⟩ | ⟨h1,h2,-⟩
  ·rw[e1,e2,ajN_ h2,h1,Bool.and_false]
   exact⟨rfl,fun h=>by cases h⟩
  ·have h3: (fkC c !=0)=true:=by simpa using h1
   rw[e1,e2,h2,h3,V0_,Bool.true_and]
   refine⟨rfl,fun _=>⟨rfl, ?_⟩⟩
   rw[afJ_];rfl
set_option linter.defProp false
def avG_:=And.intro (And.intro (@zd_) (@zc_)) (And.intro (@xE_) (@aip_))
end Go.Proofs
end
section
open Go Go.Proofs Go.Sx Go.StP Go.Flo
namespace Go.Proofs
set_option maxRecDepth 10000
set_option maxHeartbeats 1000000
set_option linter.unusedSimpArgs false
def mkV (v0 v1 v2 v3:Value):Value:= .agg #[v0,v1,v2,v3]
abbrev OneC (q:Value):Prop:=Value.oneCell' q=true∧q.cells= #[q]
def OfS (l:List PartL) (v0:Value) (v:Value) (D:za_):Prop:=match fillV l with
 |some p=> ∃x2 x3,v= .tuple #[mkV v0 (.slice none 0 0) x3 x2, .bool true]∧GrI D 84 32 x2 p.1.length (p.1.map J5_).flatten∧GrI D 82 2 x3 p.2.length (p.2.map obC).flatten
 |none=> ∃x2 x3,v= .tuple #[mkV v0 (.slice none 0 0) x3 x2, .bool false]∧OneC x2∧OneC x3
theorem J4_ (s:List UInt8):wp_ s=⟨if lfOk s then lfK s else 0,if lfOk s then(lfT (s.drop 1)).1 else []⟩:=by
 unfold wp_
 have h:=aox_ s
 rw[←h.1]
 cases hf:WD_ s
 ·rfl
 ·rw[(h.2 hf).1,(h.2 hf).2]
theorem amk_ {k:Int} {t:List UInt8} (h:RdOk k t=true):t.length≤4096:=by
 unfold RdOk at h
 split at h
 ·rename_i h1;exact h1.2.2
 ·cases h
set_option linter.defProp false
def avc_:=And.intro (And.intro (And.intro (@zd_) (@zc_)) (And.intro (@Sx.tup2_0) (@Sx.tup2_1))) (And.intro (And.intro (@jf_) (@qz_)) (And.intro (@qx_) (And.intro (@qK_) (@xE_))))
end Go.Proofs
end
section
open Go Go.Proofs Go.Sx Go.StP Go.Flo
namespace Go.Proofs
set_option maxRecDepth 10000
set_option maxHeartbeats 400000
set_option linter.unusedSimpArgs false
structure SvG where
 k:Nat
 out:List ObL
 v6:Value
 D6:za_
 DG:za_
theorem QP_ (l:List PartL): ∀k,(vi_ l k).length≤k
 |0=>Nat.le_refl _
 |k+1=>by
  have:=QP_ l k
  unfold vi_
  split
  ·split
   ·simp;omega
   ·omega
  ·omega
set_option linter.defProp false
def avk_:=And.intro (And.intro (And.intro (@zd_) (@zc_)) (And.intro (@Sx.tup2_0) (@Sx.tup2_1))) (And.intro (And.intro (@jf_) (@qz_)) (And.intro (@qx_) (@qK_)))
end Go.Proofs
end
section
open Go Go.Proofs Go.Sx Go.StP Go.Flo
namespace Go.Proofs
set_option maxRecDepth 10000
set_option maxHeartbeats 400000
set_option linter.unusedSimpArgs false
def aqP_:Nat→List PartL→Nat→Nat
 |_,[],_=>0
 |i,p::r,j=>if(afF_ i p).length≤j then aqP_ (i+1) r (j - (afF_ i p).length)+1 else 0
def endG (a i:Nat) (l:List PartL) (k:Nat):Nat:=a+ (ajj_ i (l.take (k+1))).length
end Go.Proofs
end
section
open Go Go.Proofs Go.Sx Go.StP Go.Flo
namespace Go.Proofs
set_option maxRecDepth 10000
set_option maxHeartbeats 400000
set_option linter.unusedSimpArgs false
def sumX (l:List PartL):Nat:=(l.map fun p=>p.x.length).sum
def sumW (l:List PartL):Nat→Int
 |0=>0
 |k+1=>IntKind.i64.wrap (sumW l k+ (l.getD k j9_).x.length)
def atq_ (l:List PartL):Bool:=decide (210<l.length) || (List.range l.length).any fun k=>decide (30000<sumW l (k+1))
set_option linter.defProp false
def avN_:=And.intro (And.intro (@zd_) (And.intro (@zc_) (@jD_))) (And.intro (And.intro (@jy_) (@jz_)) (And.intro (@Zi_) (@apF_)))
end Go.Proofs
end
section
open Go Go.Proofs Go.Sx Go.StP Go.Flo
namespace Go.Proofs
set_option maxRecDepth 10000
set_option maxHeartbeats 400000
set_option linter.unusedSimpArgs false
def abS:List UInt8:= [98,2,97,98]
def abP:PartL:=⟨false,0,abS⟩
theorem aql_ (k k':Int) (t t':List UInt8):qD_ Tryz.prog .eql 82 (obV k t) (obV k' t')=some (.bool (decide ((⟨k,t⟩:ObL)=⟨k',t'⟩))):=arl_ ⟨k,t⟩ ⟨k',t'⟩
set_option linter.defProp false
def auq_:=And.intro (And.intro (And.intro (@zd_) (@zc_)) (And.intro (@Sx.tup2_0) (And.intro (@Sx.tup2_1) (@jf_)))) (And.intro (And.intro (@qz_) (@qx_)) (And.intro (@qK_) (And.intro (@aql_) (@qW_))))
end Go.Proofs
end
section
open Go Go.Proofs Go.Sx Go.StP Go.Flo
namespace Go.Proofs
set_option maxRecDepth 10000
set_option maxHeartbeats 400000
set_option linter.unusedSimpArgs false
set_option linter.defProp false
def at8_:=And.intro (And.intro (@zd_) (@zc_)) (And.intro (@Sx.tup2_0) (@Sx.tup2_1))
end Go.Proofs
end
namespace Go.Sx
def kB (c:Bool):BitVec 32:=bif c then 3988292384#32 else 0#32
def stB (x:BitVec 32):BitVec 32:=(x>>>1)^^^kB (x.getLsbD 0)
theorem aqI_ (c:Bool) (j:Nat) (h:j<5): (kB c).getLsbD j=false:=by
 have:j=0∨j=1∨j=2∨j=3∨j=4:=by omega
 rcases this with rfl|rfl|rfl|rfl|rfl<;>cases c<;>decide
theorem Jd_ (x:BitVec 32) (j:Nat) (h:j<5): (stB x).getLsbD j=x.getLsbD (j+1):=by
 unfold stB
 rw[BitVec.getLsbD_xor,aqI_ _ _ h,BitVec.getLsbD_ushiftRight,Bool.xor_false,Nat.add_comm]
theorem stB4 (x:BitVec 32):stB (stB (stB (stB x)))=(x>>>4)^^^ (kB (x.getLsbD 0)>>>3^^^kB (x.getLsbD 1)>>>2^^^kB (x.getLsbD 2)>>>1^^^kB (x.getLsbD 3)):=by
 have h1: (stB x).getLsbD 0=x.getLsbD 1:=Jd_ x 0 (by omega)
 have h2: (stB (stB x)).getLsbD 0=x.getLsbD 2:=by rw[Jd_ _ 0 (by omega),Jd_ _ 1 (by omega)]
 have h3: (stB (stB (stB x))).getLsbD 0=x.getLsbD 3:=by rw[Jd_ _ 0 (by omega),Jd_ _ 1 (by omega),Jd_ _ 2 (by omega)]
 have e4:stB (stB (stB (stB x)))=(stB (stB (stB x))>>>1)^^^kB (x.getLsbD 3):=by rw[←h3];rfl
 have e3:stB (stB (stB x))=(stB (stB x)>>>1)^^^kB (x.getLsbD 2):=by rw[←h2];rfl
 have e2:stB (stB x)=(stB x>>>1)^^^kB (x.getLsbD 1):=by rw[←h1];rfl
 have e1:stB x=(x>>>1)^^^kB (x.getLsbD 0):=rfl
 rw[e4,e3,e2,e1]
 simp only[BitVec.ushiftRight_xor_distrib,←BitVec.shiftRight_add,BitVec.xor_assoc]
def hvB:List (BitVec 32):= [0x00000000,0x1db71064,0x3b6e20c8,0x26d930ac,0x76dc4190,0x6b6b51f4,0x4db26158,0x5005713c,0xedb88320,0xf00f9344,0xd6d6a3e8,0xcb61b38c,0x9b64c2b0,0x86d3d2d4,0xa00ae278,0xbdbdf21c]
theorem tabB: ∀a b c d:Bool,(kB a>>>3^^^kB b>>>2^^^kB c>>>1^^^kB d)=hvB.getD (a.toNat+2*b.toNat+4*c.toNat+8*d.toNat) 0:=by decide
theorem lowB (x:BitVec 32):x.toNat%16=(x.getLsbD 0).toNat+2* (x.getLsbD 1).toNat+4* (x.getLsbD 2).toNat+8* (x.getLsbD 3).toNat:=by
 have e: ∀i,(x.getLsbD i).toNat=x.toNat / 2^i%2:=by
  intro i
  rw[BitVec.getLsbD,Nat.testBit_eq_decide_div_mod_eq]
  have:=Nat.mod_lt (x.toNat / 2^i) (show 0<2 by omega)
  by_cases h:x.toNat / 2^i%2=1
  ·simp[h]
  ·have h0:x.toNat / 2^i%2=0:=by omega
   simp[h0]
 rw[e 0,e 1,e 2,e 3]
 omega
theorem asC_ (x:BitVec 32):stB (stB (stB (stB x)))=(x>>>4)^^^hvB.getD (x.toNat%16) 0:=by
 rw[stB4,tabB,lowB]
end Go.Sx
section
open Go Go.Proofs Go.Sx
namespace Go.Proofs
set_option maxRecDepth 10000
set_option maxHeartbeats 4000000
set_option linter.unusedSimpArgs false
def wI_ (n:UInt32):UInt32:=if n%2==1 then n / 2^^^3988292384 else n / 2
theorem WQ_ (n:UInt32): (wI_ n).toBitVec=stB n.toBitVec:=by
 have hd: (n / 2).toBitVec=n.toBitVec>>>1:=by
  apply BitVec.eq_of_toNat_eq
  rw[UInt32.toBitVec_div,BitVec.toNat_udiv,BitVec.toNat_ushiftRight]
  rfl
 have hm: (n%2==1)=n.toBitVec.getLsbD 0:=by
  rw[BitVec.getLsbD,Nat.testBit_eq_decide_div_mod_eq,Nat.pow_zero,Nat.div_one,Bool.eq_iff_iff,beq_iff_eq,decide_eq_true_eq,←UInt32.toNat_inj,UInt32.toNat_mod]
  rfl
 unfold wI_ stB
 rw[hm]
 cases n.toBitVec.getLsbD 0
 ·rw[if_neg (by decide),hd];simp[kB]
 ·rw[if_pos rfl,UInt32.toBitVec_xor,hd];rfl
theorem abm_ (n:UInt32):aa4_ n=wI_ (wI_ (wI_ (wI_ n))):=by
 apply UInt32.toBitVec_inj.1
 rw[WQ_,WQ_,WQ_,WQ_,asC_]
 unfold aa4_
 rw[UInt32.toBitVec_xor]
 congr 1
 ·apply BitVec.eq_of_toNat_eq
  unfold qe_
  rw[BitVec.toNat_ushiftRight,Nat.shiftRight_eq_div_pow]
  have:=n.toNat_lt
  simp only[UInt32.toNat_toBitVec,UInt32.toNat_ofNat']
  omega
 ·have e: (n&&&15).toNat=n.toBitVec.toNat%16:=by
   rw[UInt32.toNat_and,show(15:UInt32).toNat=2^4 - 1 from rfl,Nat.and_two_pow_sub_one_eq_mod]
   rfl
  rw[e]
  have hlt:n.toBitVec.toNat%16<16:=Nat.mod_lt _ (by omega)
  generalize n.toBitVec.toNat%16=m at hlt
  have: ∀m,m<16→(hvL.getD m 0).toBitVec=hvB.getD m 0:=by decide
  exact this m hlt
def anb_ (n:UInt32):Nat→UInt32
 |0=>n
 |k+1=>wI_ (anb_ n k)
theorem ahB_ (n:UInt32):anb_ n 8=ao8_ n 2:=by
 show wI_ (wI_ (wI_ (wI_ (wI_ (wI_ (wI_ (wI_ n)))))))=aa4_ (aa4_ n)
 rw[abm_,abm_]
set_option linter.defProp false
def qp_:=And.intro (And.intro (@zd_) (@v7_)) (And.intro (@v0_) (And.intro (@vN_) (@zc_)))
theorem akn_ (n:UInt32) (w:World):Rets Tryz.prog 213 #[v32 n] w (fun v D=>v=v32 (wI_ n)∧D= []):=by
 have hrem:zn_ .rem (v32 n) (v32 2)=some (v32 (n%2)):=kv_ _ _ (by decide)
 have hquo:zn_ .quo (v32 n) (v32 2)=some (v32 (n / 2)):=kJ_ _ _ (by decide)
 refine Rets.enterV Tryz.func213 rfl (rs:= [.tmp 2]) Tryz.results213 Tryz.ntmps213 ?_
 refine kf ?_
 unfold wI_
 first|with_reducible refine ks [] (And.intro @qp_ (And.intro @hrem (@hquo))) ?_|refine kp (And.intro @qp_ (And.intro @hrem (@hquo))) ?_
 cases h: (n%2==1)
 ·first|with_reducible refine ks [] (And.intro @qp_ @hquo) ?_|refine kp (And.intro @qp_ @hquo) ?_
  refine⟨_,(ke @qp_),trivial, ?_⟩
  rfl
 ·first|with_reducible refine ks [] (And.intro @qp_ @hquo) ?_|refine kp (And.intro @qp_ @hquo) ?_
  refine⟨_,(ke @qp_),trivial, ?_⟩
  rfl
theorem akP_ (n:UInt32) (b:UInt8) (w:World):Rets Tryz.prog 188 #[v32 n,v8 b] w (fun v D=>v=v32 (al0_ n b)∧D= []):=by
 refine Rets.enterV Tryz.func188 rfl (rs:= [.tmp 4]) Tryz.results188 Tryz.ntmps188 ?_
 refine kf ?_
 first|with_reducible refine ks [] @qp_ ?_|refine kp @qp_ ?_
 unfold al0_
 generalize n^^^UInt32.ofNat b.toNat=m
 rw[←ahB_,show v32 m=v32 (anb_ m 0) from rfl]
 refine Cw.loopG (G:=Nat) [10,11,14,15,0,12,13,5] (fun g=> [(0,v32 (anb_ m g)),(5,vi g)]) (fun g=> []) (fun g=>g≤8) (fun g=>8 - g) 0 rfl rfl ?_ ?_
 ·omega
 intro g j hg
 refine kv ?_
 by_cases hlt:g<8
 ·first|with_reducible refine ks [] @qp_ ?_|refine kp @qp_ ?_
  refine Ow.callFV rfl Tryz.call213 (fun w' hw'=>akn_ _ w') ?_
  refine ko @qp_ ?_
  first|with_reducible refine ks [] @qp_ ?_|refine kp @qp_ ?_
  refine Again.mk (g+1) (by omega) (by omega) rfl rfl
 ·obtain rfl:g=8:=by omega
  first|with_reducible refine ks [] @qp_ ?_|refine kp @qp_ ?_
  refine⟨_,(ke @qp_),trivial, ?_⟩
  rfl
theorem apv_ (n:UInt32):4294967295 - n= ~~~ n:=by
 apply UInt32.toBitVec_inj.1
 rw[UInt32.toBitVec_sub,UInt32.toBitVec_not,←BitVec.allOnes_sub_eq_not]
 rfl
theorem aed_ (s:List UInt8) (w:World) (hs:s.length<1099511627776):Rets Tryz.prog 155 #[vs s] w (fun v D=>v=v32 (crcV s)∧D= []):=by
 refine Rets.enterV Tryz.func155 rfl (rs:= [.tmp 2]) Tryz.results155 Tryz.ntmps155 ?_
 refine kf ?_
 first|with_reducible refine ks [] @qp_ ?_|refine kp @qp_ ?_
 rw[show v32 4294967295=v32 (aij_ (~~~ (0:UInt32)) (s.take 0)) from rfl]
 refine Cw.loopG (G:=Nat) [5,6,7,8,11,12,13,14,15,3,9,10,4] (fun g=> [(3,v32 (aij_ (~~~ (0:UInt32)) (s.take g))),(4,vi g)]) (fun g=> []) (fun g=>g≤s.length) (fun g=>s.length - g) 0 rfl rfl ?_ ?_
 ·omega
 intro g j hg
 refine kv ?_
 by_cases hlt:g<s.length
 ·first|with_reducible refine ks [] @qp_ ?_|refine kp @qp_ ?_
  refine Ow.callFV rfl Tryz.call188 (fun w' hw'=>akP_ _ _ w') ?_
  refine ko @qp_ ?_
  first|with_reducible refine ks [] @qp_ ?_|refine kp @qp_ ?_
  refine Again.mk (g+1) (by omega) (by omega) rfl ?_
  rw[ah0_ _ _ _ hlt]
  rfl
 ·obtain rfl:g=s.length:=by omega
  first|with_reducible refine ks [] @qp_ ?_|refine kp @qp_ ?_
  rw[List.take_length]
  rw[apv_]
  refine⟨_,(ke @qp_),trivial, ?_⟩
  rfl
theorem aoX_ (n:UInt32):sum4 n= [UInt8.ofNat (n%256).toNat,UInt8.ofNat (n / 256%256).toNat,UInt8.ofNat (n / 65536%256).toNat,UInt8.ofNat (n / 16777216).toNat]:=by
 show [UInt8.ofNat (qe_ n 0).toNat,UInt8.ofNat (qe_ n 8).toNat,UInt8.ofNat (qe_ n 16).toNat,UInt8.ofNat (qe_ n 24).toNat]=_
 have hn:=n.toNat_lt
 congr 1
 ·apply UInt8.toNat_inj.1
  simp[qe_]
 ·congr 1
  ·apply UInt8.toNat_inj.1
   simp[qe_]
  ·congr 1
   ·apply UInt8.toNat_inj.1
    simp[qe_]
   ·congr 1
    apply UInt8.toNat_inj.1
    simp[qe_]
theorem aa0_ (s:List UInt8) (w:World) (hs:s.length<1099511627776):
  Rets Tryz.prog 112 #[vs s] w (fun v D=>v=vs (abd_ s)∧D= []):=by
 refine Rets.enterV Tryz.func112 rfl (rs:= [.tmp 2]) Tryz.results112 Tryz.ntmps112 ?_
 refine kf ?_
 first|with_reducible refine ks [] @qp_ ?_|refine kp @qp_ ?_
 refine Ow.callFV rfl Tryz.call155 (fun w' hw'=>aed_ s w' hs) ?_
 refine ko @qp_ ?_
 unfold abd_
 rw[aoX_]
 generalize crcV s=n
 have h1:zn_ .rem (v32 n) (v32 256)=some (v32 (n%256)):=kv_ _ _ (by decide)
 have h2:zn_ .quo (v32 n) (v32 256)=some (v32 (n / 256)):=kJ_ _ _ (by decide)
 have h3:zn_ .rem (v32 (n / 256)) (v32 256)=some (v32 (n / 256%256)):=kv_ _ _ (by decide)
 have h4:zn_ .quo (v32 n) (v32 65536)=some (v32 (n / 65536)):=kJ_ _ _ (by decide)
 have h5:zn_ .rem (v32 (n / 65536)) (v32 256)=some (v32 (n / 65536%256)):=kv_ _ _ (by decide)
 have h6:zn_ .quo (v32 n) (v32 16777216)=some (v32 (n / 16777216)):=kJ_ _ _ (by decide)
 first|with_reducible refine ks [] (And.intro @qp_ (And.intro @h1 (And.intro @h2 (And.intro @h3 (And.intro @h4 (And.intro @h5 (@h6))))))) ?_|refine kp (And.intro @qp_ (And.intro @h1 (And.intro @h2 (And.intro @h3 (And.intro @h4 (And.intro @h5 (@h6))))))) ?_
 generalize UInt8.ofNat (n%256).toNat=q0
 generalize UInt8.ofNat (n / 256%256).toNat=q1
 generalize UInt8.ofNat (n / 65536%256).toNat=q2
 generalize UInt8.ofNat (n / 16777216).toNat=q3
 refine Ow.buildSlice (e:=5) #[v8 q0,v8 q1,v8 q2,v8 q3] rfl rfl (by kernel_rfl) fun b1 hb1 hw1=> ?_
 rw[show(#[v8 q0,v8 q1,v8 q2,v8 q3]:Array Value)=a8 [q0,q1,q2,q3] from rfl]
 have hl4: [q0,q1,q2,q3].length=4:=rfl
 have e4:List.take 4 (List.drop 0 [q0,q1,q2,q3])= [q0,q1,q2,q3]:=rfl
 generalize [q0,q1,q2,q3]=q at*
 refine ko (And.intro @qp_ @e4) ?_
 first|with_reducible refine ks [] @qp_ ?_|refine kp @qp_ ?_
 refine⟨_,(ke @qp_),⟨hw1,trivial⟩, ?_⟩
 rfl
theorem KU_ (s:List UInt8) (w:World) (hs:s.length<1099511627776):
  Rets Tryz.prog 105 #[vs s] w (fun v D=>v= .tuple #[vs (zD_ s).1, .bool (zD_ s).2]∧D= []):=by
 refine Rets.enterV Tryz.func105 rfl (rs:= [.tmp 2, .tmp 3]) Tryz.results105 Tryz.ntmps105 ?_
 refine kf ?_
 first|with_reducible refine ks [] @qp_ ?_|refine kp @qp_ ?_
 unfold zD_
 by_cases h4:s.length<4
 ·have e1:decide ((s.length:Int)<4)=true:=decide_eq_true (by omega)
  rw[if_pos h4]
  first|with_reducible refine ks [] (And.intro @qp_ @e1) ?_|refine kp (And.intro @qp_ @e1) ?_
  refine⟨_,(ke @qp_),trivial, ?_⟩
  rfl
 ·have e1:decide ((s.length:Int)<4)=false:=decide_eq_false (by omega)
  have e2: ((s.length:Int) - 4).toNat=s.length - 4:=by omega
  rw[if_neg h4]
  first|with_reducible refine ks [] (And.intro @qp_ (And.intro @e1 (@e2))) ?_|refine kp (And.intro @qp_ (And.intro @e1 (@e2))) ?_
  refine Ow.callFV rfl Tryz.call112 (fun w' hw'=>aa0_ (s.take (s.length - 4)) w' (by rw[List.length_take];omega)) ?_
  refine ko @qp_ ?_
  cases hq: (abd_ (s.take (s.length - 4)) !=s)
  ·rw[if_pos (by simpa using hq)]
   first|with_reducible refine ks [] (And.intro @qp_ (And.intro @hq (@e2))) ?_|refine kp (And.intro @qp_ (And.intro @hq (@e2))) ?_
   refine⟨_,(ke @qp_),trivial, ?_⟩
   rfl
  ·rw[if_neg (by simpa using hq)]
   first|with_reducible refine ks [] (And.intro @qp_ @hq) ?_|refine kp (And.intro @qp_ @hq) ?_
   refine⟨_,(ke @qp_),trivial, ?_⟩
   rfl
end Go.Proofs
end
section
open Go Go.Proofs Go.Sx Go.StP Go.Flo
namespace Go.Proofs
set_option maxRecDepth 10000
set_option maxHeartbeats 1000000
set_option linter.unusedSimpArgs false
set_option linter.defProp false
def avv_:=And.intro (And.intro (@zd_) (And.intro (@zc_) (@jD_))) (And.intro (@jy_) (And.intro (@jz_) (@qW_)))
end Go.Proofs
end
section
open Go Go.Proofs Go.Sx Go.StP Go.Flo
namespace Go.Proofs
set_option maxRecDepth 10000
set_option maxHeartbeats 1000000
set_option linter.unusedSimpArgs false
theorem KN_ {s:List UInt8} (h:s.length<4∨s.take 4≠magB):kL_ s=(0,false,(js_ s 0 0 4).2):=by
 unfold kL_
 rw[if_neg]
 unfold js_
 rw[if_neg (by decide),if_neg (by decide)]
 split
 ·decide
 ·rename_i h1
  rcases h with h|h
  ·omega
  ·exact h
theorem ala_ {s:List UInt8} (h4:4≤s.length) (h:s.take 4=magB):kL_ s=((zB_ s 4 0 200).1,(zB_ s 4 0 200).2.2==0,(zB_ s 4 0 200).2):=by
 have e:js_ s 0 0 4=(s.take 4,4,0):=by
  unfold js_
  rw[if_neg (by decide),if_neg (by decide),if_neg (by omega)]
  rfl
 unfold kL_
 rw[e]
 simp only
 rw[if_pos h]
def Kt_ (s:List UInt8) (v:Value) (D:za_):Prop:=
 if(kL_ s).2.1=true then∃x y n A,v= .tuple #[x,y,vi n,vi A, .bool true]∧n=(kL_ s).1∧0≤n∧n≤200∧GrI D 279 3 x (x1_ s).1.length ((x1_ s).1.map qb_).flatten∧GrI D 3 1 y (x1_ s).2.1.length ((x1_ s).2.1.map natC).flatten∧
  (((x1_ s).2.2.2=0∧A=(x1_ s).2.2.1∧((x1_ s).1.length:Int)=n)∨((x1_ s).2.2.2≠0∧((x1_ s).1.length:Int)<n))
 else v= .tuple #[.slice none 0 0, .slice none 0 0,vi 0,vi 0, .bool false]
structure RdDG where
 l:List PartL
 sp:List Nat
 a:Nat
 v1:Value
 v2:Value
 D1:za_
 D2:za_
 DG:za_
theorem ajb_ (s:List UInt8):j6_ (Zk_ Tryz.prog 217) (zX_ Tryz.prog 217) [(0,vs s),(1,vi 4)]=some (.agg #[vs s,vi 4,vi 0]):=by
 rw[show Zk_ Tryz.prog 217=some [(0,1),(1,1),(2,1)] from id (by kernel_rfl),zrRR];rfl
theorem aaq_ (b:Nat) (s:List UInt8) (a:Nat) (e most:Int) (w:World) (ha:a≤s.length) (hs:s.length<1099511627776) (ho:w.heap[b]? =some (rrO s a e)):
  Rets Tryz.prog 144 #[vp b 0,vi most] w (fun v D=> ∃o,D= [(b,o)]∧v=vs (z3_ s a e most).1∧o=rrO s (z3_ s a e most).2.1 (z3_ s a e most).2.2):=k1_ b s a e most w ha hs ho
set_option linter.defProp false
def qq_:=And.intro (And.intro (@zd_) (And.intro (@zc_) (@afX_))) (And.intro (And.intro (@agB_) (@afG_)) (And.intro (@qW_) (@Zi_)))
theorem aaX_ (s:List UInt8) (w:World) (hs:s.length<1099511627776):Rets Tryz.prog 189 #[vs s] w (XS w [] (Kt_ s)):=by
 refine Rets.enterX Tryz.func189 rfl (rs:= [.tmp 2, .tmp 3, .tmp 4, .tmp 5, .tmp 6]) Tryz.results189 Tryz.ntmps189 (fun p hp=>by cases hp) (by simp[keys]) ?_
 refine kf ?_
 by_cases h4:s.length<4
 ·have d1:decide ((s.length:Int)<4)=true:=decide_eq_true (by omega)
  first|with_reducible refine ks [] (And.intro @qq_ @d1) ?_|refine kp (And.intro @qq_ @d1) ?_
  refine⟨_,(ke @qq_), ?_⟩
  refine⟨Ext.of_new trivial, ?_⟩
  unfold Kt_
  rw[KN_ (.inl h4)]
  rfl
 have d1:decide ((s.length:Int)<4)=false:=decide_eq_false (by omega)
 have d1':decide ((0:Int)≤4∧(4:Int)≤ (s.length:Int))=true:=decide_eq_true (by omega)
 by_cases hm:s.take 4=magB
 ·have d2: (s.take 4 != [83,80,75,49])=false:=bne_eq_false_iff_eq.2 hm
  have hhd:=ala_ (by omega) hm
  first|with_reducible refine ks [] (And.intro @qq_ (And.intro @d1 (@d2))) ?_|refine kp (And.intro @qq_ (And.intro @d1 (@d2))) ?_
  refine Ow.build (.agg #[vs s,vi 4,vi 0]) rfl (ajb_ s) ?_
  refine ko @qq_ ?_
  refine Ow.box rfl rfl fun br hbr hwr=> ?_
  simp only[qB_,qA_,qJ_,zg_,List.nil_append]
  refine Ow.permL (M:= [(br,rrO s 4 0)]) (List.Perm.refl _) ?_
  refine ko @qq_ ?_
  first|with_reducible refine ks [] @qq_ ?_|refine kp @qq_ ?_
  have l1:=jo_ (s:=s) (a:=4) (e:=0) (most:=200) (by omega)
  have m1:=jJ_ (s:=s) (a:=4) (e:=0) (most:=200) (by omega)
  refine Ow.callM rfl rfl Tryz.call146 (by simp[keys]) (fun w' hw'=>q5_ br s 4 0 200 w' (by omega) (by omega) (hw'.has _ _ List.mem_cons_self)) ?_
  have hrp:x1_ s=qQ_ s (kL_ s).1.toNat 0 (kL_ s).2.2.1 (kL_ s).2.2.2:=rfl
  rw[hhd] at hrp
  generalize zB_ s 4 0 200=q at*
  obtain⟨n0,a0,e0⟩:=q
  simp only at l1 m1 hhd hrp ⊢
  obtain⟨n,rfl⟩: ∃n:Nat,n0=(n:Int):=⟨n0.toNat,by omega⟩
  rw[Int.toNat_natCast] at hrp
  refine kn ?_
  refine ko @qq_ ?_
  by_cases he:e0=0
  ·subst he
   have hd0: ((0:Int) !=0)=false:=rfl
   have hE: (kL_ s).2.1=true:=by rw[hhd];rfl
   have hn1: (kL_ s).1=(n:Int):=by rw[hhd]
   clear hhd
   first|with_reducible refine ks [11] (And.intro @qq_ @hd0) ?_|refine kp (And.intro @qq_ @hd0) ?_
   refine Cw.permL (M:=(br,rrO s a0 0):: ([]++ ([]++ []))) (List.Perm.refl _) ?_
   refine Cw.loopG (G:=RdDG) [34,35,36,39,40,41,42,12,43,44,13,45,46,14,47,48,49,50,51,52,53,54,55,2,3,4,5,6,56,57,15,58,59,60,61,62,63,64,65,66,67,68,9,69,70,71,72,10,37,38,11] (fun g=> [(9,g.v1),(10,g.v2),(11,vi g.l.length)]) (fun g=>(br,rrO s g.a 0):: (g.D1++ (g.D2++g.DG))) (fun g=>g.l.length≤n∧g.sp.length=g.l.length∧g.a≤s.length∧New w.heap.size g.D1∧New w.heap.size g.D2∧New w.heap.size g.DG∧Gr g.D1 279 3 g.v1 g.l.length (g.l.map qb_).flatten∧Gr g.D2 3 1 g.v2 g.sp.length (g.sp.map natC).flatten∧x1_ s=(g.l++ (qQ_ s (n - g.l.length) g.l.length g.a 0).1,g.sp++ (qQ_ s (n - g.l.length) g.l.length g.a 0).2.1,(qQ_ s (n - g.l.length) g.l.length g.a 0).2.2)) (fun g=>n - g.l.length) ⟨[],[],a0, .slice none 0 0, .slice none 0 0,[],[],[]⟩ rfl rfl ?_ ?_
   ·exact⟨Nat.zero_le _,rfl,l1.2,trivial,trivial,trivial,Gr.nl,Gr.nl,by rw[hrp];rfl⟩
   intro g j hg
   refine kv ?_
   obtain⟨l,sp,a,v1,v2,D1,D2,DG⟩:=g
   simp only at hg ⊢
   obtain⟨hln,hsl,hal,hN1,hN2,hNG,hG1,hG2,hpr⟩:=hg
   have hNr:New w.heap.size (D1++ (D2++DG)):=hN1.app (hN2.app hNG)
   by_cases hlt:l.length<n
   ·have d3:decide ((l.length:Int)< (n:Int))=true:=decide_eq_true (by omega)
    have hk:n - l.length=(n - (l.length+1))+1:=by omega
    rw[hk] at hpr
    have hle1:=jo_ (s:=s) (a:=a) (e:=0) (most:=200) hal
    have hm1:=jJ_ (s:=s) (a:=a) (e:=0) (most:=200) (by omega)
    have hpc:JC_ s l.length a 0=(⟨decide (0< (zB_ s a 0 200).1),if 0< (zB_ s a 0 200).1 then((l.length:Nat):Int) - (zB_ s a 0 200).1 else 0,(z3_ s (zB_ s a 0 200).2.1 (zB_ s a 0 200).2.2 65536).1⟩,(z3_ s (zB_ s a 0 200).2.1 (zB_ s a 0 200).2.2 65536).2):=rfl
    first|with_reducible refine ks [1000018] (And.intro @qq_ @d3) ?_|refine kp (And.intro @qq_ @d3) ?_
    refine Ow.callM rfl rfl Tryz.call146 (by simp[keys]) (fun w' hw'=>q5_ br s a 0 200 w' hal (by omega) (hw'.has _ _ List.mem_cons_self)) ?_
    generalize zB_ s a 0 200=x at*
    obtain⟨F,a1,e1⟩:=x
    simp only at hle1 hm1 hpc ⊢
    have hle2:=vW_ (s:=s) (a:=a1) (e:=e1) (most:=65536) hle1.2
    refine kn ?_
    refine ko @qq_ ?_
    first|with_reducible refine ks [] @qq_ ?_|refine kp @qq_ ?_
    refine Ow.callM rfl rfl Tryz.call144 (by simp[keys]) (fun w' hw'=>aaq_ br s a1 e1 65536 w' hle1.2 hs (hw'.has _ _ List.mem_cons_self)) ?_
    generalize z3_ s a1 e1 65536=x at*
    obtain⟨t,a2,e2⟩:=x
    simp only at hle2 hpc ⊢
    refine kn ?_
    refine ko @qq_ ?_
    rw[qQ_,hpc] at hpr
    simp only at hpr
    by_cases he2:e2=0
    ·subst he2
     rw[if_pos rfl] at hpr
     have d4: ((0:Int) !=0)=false:=rfl
     first|with_reducible refine ks [] (And.intro @qq_ @d4) ?_|refine kp (And.intro @qq_ @d4) ?_
     refine Ow.build (.agg (qb_ ⟨false,0,t⟩).toArray) rfl (aet_ t) ?_
     refine ko @qq_ ?_
     refine Ow.alloc rfl rfl abz_ fun b15 hb15 hw15=> ?_
     simp only[zg_,List.nil_append,List.cons_append]
     have hb15r:br<b15:=zv_ hb15 (by simp[keys])
     have hst:=Zb_ ⟨false,0,t⟩ j9_ 279
     refine Ow.permL (M:=(b15, .cells (qb_ j9_).toArray 279 (0,0)):: (br,rrO s a2 0):: (D1++ (D2++DG))) (by classical exact List.perm_iff_count.2 fun a=>by simp only[List.count_append,List.count_cons,List.count_nil]<;>omega) ?_
     refine ko (And.intro @qq_ @hst) ?_
     obtain⟨p,hp⟩: ∃p,p=(⟨decide (0<F),if 0<F then((l.length:Nat):Int) - F else 0,t⟩:PartL):=⟨_,rfl⟩
     rw[←hp] at hpr
     refine Cw.cutO (G:=PartL) [58,59,60,61,62,63,64] (fun g=> []) (fun g=>(b15, .cells (qb_ g).toArray 279 (0,0)):: (br,rrO s a2 0):: (D1++ (D2++DG))) (fun g=>g=p) ?_ ?_
     ·by_cases hF:0<F
      ·have d5:decide ((0:Int)<F)=true:=decide_eq_true hF
       have hs1:=KB_ ⟨false,0,t⟩ 279
       have hs2:=Xs_ ⟨true,0,t⟩ 279
       first|with_reducible refine ks [] (And.intro @qq_ (And.intro @d5 (And.intro @hs1 (@hs2)))) ?_|refine kp (And.intro @qq_ (And.intro @d5 (And.intro @hs1 (@hs2)))) ?_
       refine CutO.mk _ ?_ rfl rfl
       rw[hp,decide_eq_true hF,if_pos hF]
      ·have d5:decide ((0:Int)<F)=false:=decide_eq_false hF
       first|with_reducible refine ks [] (And.intro @qq_ @d5) ?_|refine kp (And.intro @qq_ @d5) ?_
       refine CutO.mk _ ?_ rfl rfl
       rw[hp,decide_eq_false hF,if_neg hF]
     ·intro g j hg
      refine kv ?_
      obtain rfl:=hg
      clear hp
      first|with_reducible refine ks [] @qq_ ?_|refine kp @qq_ ?_
      refine Ow.buildSlice (e:=279) (qb_ g).toArray rfl rfl (q0_ (cs:=qb_ g) Tryz.underlying260 Tryz.ag279 abz_ (by decide) rfl) fun ba hba hwa=> ?_
      refine ko @qq_ ?_
      refine Ow.permL (M:=D1++ ((b15, .cells (qb_ g).toArray 279 (0,0)):: (br,rrO s a2 0):: (D2++ (DG++ [(ba, .cells (qb_ g).toArray 279 (0,0))])))) (by classical exact List.perm_iff_count.2 fun a=>by simp only[List.count_append,List.count_cons,List.count_nil]<;>omega) ?_
      refine Ow.appendXG (e:=279) (k:=1) (new:=qb_ g) (X:=D1) v1 rfl rfl rfl rfl Tryz.underlying260 Tryz.ag279 (by kernel_rfl) abz_ (by rw[qW_];rfl) Tryz.underlying260 (by intro k h;cases h) hG1 (fun w' hw'=>AppX.one1 (hw'.has ba (.cells (qb_ g).toArray 279 (0,0)) (by simp)) (Kh_ _) (abJ_ _)) (by omega) (fun B4 v4 D4 hA4 hB4 hG4 hk41 hk42 hlk4=> ?_)
      have hN4:New w.heap.size D4:=New.of_le fun q hq=>by
       rcases hk42 q hq with h|h
       ·exact hN1.le q h
       ·omega
      refine Ow.permL (M:=(br,rrO s a2 0):: (D4++ (D2++ ((b15, .cells (qb_ g).toArray 279 (0,0)):: (DG++ [(ba, .cells (qb_ g).toArray 279 (0,0))]))))) (by classical exact List.perm_iff_count.2 fun a=>by simp only[List.count_append,List.count_cons,List.count_nil]<;>omega) ?_
      refine ko @qq_ ?_
      first|with_reducible refine ks [] @qq_ ?_|refine kp @qq_ ?_
      refine Ow.buildSlice (e:=3) #[vi a] rfl rfl (by kernel_rfl) fun bc hbc hwc=> ?_
      refine ko @qq_ ?_
      refine Ow.permL (M:=D2++ ((br,rrO s a2 0):: (D4++ ((b15, .cells (qb_ g).toArray 279 (0,0)):: (DG++ [(ba, .cells (qb_ g).toArray 279 (0,0)),(bc, .cells #[vi a] 3 (0,0))]))))) (by classical exact List.perm_iff_count.2 fun a=>by simp only[List.count_append,List.count_cons,List.count_nil]<;>omega) ?_
      refine Ow.appendXG (e:=3) (k:=1) (new:=natC a) (X:=D2) v2 rfl rfl rfl rfl Tryz.underlying196 (id (by kernel_rfl):zZ_ Tryz.prog 3=some (false,1)) (by kernel_rfl) (id (by kernel_rfl):zX_ Tryz.prog 3=some (vi 0)) rfl Tryz.underlying196 (by intro k h;cases h) hG2 (fun w' hw'=>AppX.one1 (hw'.has bc (.cells #[vi a] 3 (0,0)) (by simp)) (agA_ a) rfl) (by omega) (fun B5 v5 D5 hA5 hB5 hG5 hk51 hk52 hlk5=> ?_)
      have hN5:New w.heap.size D5:=New.of_le fun q hq=>by
       rcases hk52 q hq with h|h
       ·exact hN2.le q h
       ·omega
      refine Ow.permL (M:=(br,rrO s a2 0):: (D4++ (D5++ ((b15, .cells (qb_ g).toArray 279 (0,0)):: (DG++ [(ba, .cells (qb_ g).toArray 279 (0,0)),(bc, .cells #[vi a] 3 (0,0))]))))) (by classical exact List.perm_iff_count.2 fun a=>by simp only[List.count_append,List.count_cons,List.count_nil]<;>omega) ?_
      refine ko @qq_ ?_
      first|with_reducible refine ks [] @qq_ ?_|refine kp @qq_ ?_
      have hl1: (l++ [g]).length=l.length+1:=by simp
      have hl2: (sp++ [a]).length=sp.length+1:=by simp
      refine Again.mk ⟨l++ [g],sp++ [a],a2,v4,v5,D4,D5,(b15, .cells (qb_ g).toArray 279 (0,0)):: (DG++ [(ba, .cells (qb_ g).toArray 279 (0,0)),(bc, .cells #[vi a] 3 (0,0))])⟩ (by show n - (l++ [g]).length<n - l.length;omega) ⟨by show(l++ [g]).length≤n;omega,by show(sp++ [a]).length=(l++ [g]).length;omega,hle2.2,hN4,hN5,⟨hw15,hNG.app ⟨hwa,hwc,trivial⟩⟩,by simpa using hG4,by simpa using hG5, ?_⟩ rfl (by simp only[hl1];rfl)
      show x1_ s=_
      rw[hpr,hl1]
      simp
    ·have d4: (e2 !=0)=true:=bne_iff_ne.2 he2
     rw[if_neg he2] at hpr
     first|with_reducible refine ks [] (And.intro @qq_ @d4) ?_|refine kp (And.intro @qq_ @d4) ?_
     refine⟨_,(ke @qq_), ?_⟩
     refine⟨Ext.of_new ⟨hwr,hNr⟩, ?_⟩
     unfold Kt_
     rw[if_pos hE,hpr,hn1]
     simp only[List.append_nil]
     exact⟨v1,v2,_,_,rfl,rfl,by omega,by omega,Gr.i hG1 fun c hc=>by simp[hc],Gr.i hG2 fun c hc=>by simp[hc], .inr ⟨he2,by omega⟩⟩
   ·obtain hln':l.length=n:=by omega
    have d3:decide ((l.length:Int)< (n:Int))=false:=decide_eq_false (by omega)
    rw[hln',Nat.sub_self] at hpr
    first|with_reducible refine ks [] (And.intro @qq_ @d3) ?_|refine kp (And.intro @qq_ @d3) ?_
    refine Cw.regionS [br] [0,1,2,3,4,5,7,8,9,6,10,11] [] (by kernel_rfl) (by kernel_rfl) (by kernel_rfl) ?_
    simp only[zu_, ↓zi_, ↓ze_, ↓zG_, ↓zF_,zf_]
    refine kq @qq_ ?_
    first|with_reducible refine ks [] @qq_ ?_|refine kp @qq_ ?_
    refine⟨_,(ke @qq_), ?_⟩
    refine⟨Ext.of_new ⟨hwr,hNr⟩, ?_⟩
    unfold Kt_
    rw[if_pos hE,hpr,hn1]
    simp only[qQ_,List.append_nil]
    exact⟨v1,v2,_,_,rfl,rfl,by omega,by omega,Gr.i hG1 fun c hc=>by simp[hc],Gr.i hG2 fun c hc=>by simp[hc], .inl ⟨trivial,rfl,by omega⟩⟩
  ·have hd0: (e0 !=0)=true:=bne_iff_ne.2 he
   have hE: (kL_ s).2.1=false:=by rw[hhd];exact beq_eq_false_iff_ne.2 he
   first|with_reducible refine ks [] (And.intro @qq_ @hd0) ?_|refine kp (And.intro @qq_ @hd0) ?_
   refine⟨_,(ke @qq_), ?_⟩
   refine⟨Ext.of_new ⟨hwr,trivial⟩, ?_⟩
   unfold Kt_
   rw[hE]
   rfl
 ·have d2: (s.take 4 != [83,80,75,49])=true:=bne_iff_ne.2 hm
  first|with_reducible refine ks [] (And.intro @qq_ (And.intro @d1 (@d2))) ?_|refine kp (And.intro @qq_ (And.intro @d1 (@d2))) ?_
  refine⟨_,(ke @qq_), ?_⟩
  refine⟨Ext.of_new trivial, ?_⟩
  unfold Kt_
  rw[KN_ (.inr hm)]
  rfl
end Go.Proofs
end
section
open Go Go.Proofs Go.Sx Go.StP Go.Flo
namespace Go.Proofs
set_option maxRecDepth 10000
set_option maxHeartbeats 1000000
set_option linter.unusedSimpArgs false
def MkD (D:za_) (v:Value) (l:List PartL) (sp:List Nat) (ids:List IdL) (os:List ObL):Prop:=
 ∃v0 v1 v2 v3,v=mkV v0 v1 v3 v2∧GrI D 279 3 v0 l.length (l.map qb_).flatten∧GrI D 3 1 v1 sp.length (sp.map natC).flatten∧GrI D 84 32 v2 ids.length (ids.map J5_).flatten∧GrI D 82 2 v3 os.length (os.map obC).flatten
def atf_ (b:List UInt8) (v:Value) (D:za_):Prop:=match as5_ b with
 |some q=> ∃x,v= .tuple #[x, .bool true]∧MkD D x q.1 q.2.1 q.2.2.1 q.2.2.2
 |none=> ∃c0 c1 c2 c3,v= .tuple #[mkV c0 c1 c2 c3, .bool false]∧OneC c0∧OneC c1∧OneC c2∧OneC c3
theorem BndD.ofSmall {l:List PartL} (h:aoa_ l):BndD l:=fun g hg=>by have:=h g hg;omega
def atv_ (l:List PartL) (_x c2 c3:Value) (ok:Bool) (D:za_):Prop:=match fillV l with
 |some p=>ok=true∧GrI D 84 32 c2 p.1.length (p.1.map J5_).flatten∧GrI D 82 2 c3 p.2.length (p.2.map obC).flatten
 |none=>ok=false
theorem aom_ (a b c d e:Value): #[a,b,c,d,e][0]? =some a:=rfl
theorem an7_ (a b c d e:Value): #[a,b,c,d,e][1]? =some b:=rfl
theorem aod_ (a b c d e:Value): #[a,b,c,d,e][2]? =some c:=rfl
theorem aoi_ (a b c d e:Value): #[a,b,c,d,e][3]? =some d:=rfl
theorem an8_ (a b c d e:Value): #[a,b,c,d,e][4]? =some e:=rfl
set_option linter.defProp false
def avp_:=And.intro (And.intro (And.intro (@zd_) (@zc_)) (And.intro (@Sx.tup2_0) (@Sx.tup2_1))) (And.intro (And.intro (@aom_) (@an7_)) (And.intro (@aod_) (And.intro (@aoi_) (@an8_))))
end Go.Proofs
end
section
open Go Go.Proofs Go.Sx Go.StP Go.Flo
namespace Go.Proofs
set_option maxRecDepth 10000
set_option maxHeartbeats 400000
set_option linter.unusedSimpArgs false
structure SaG where
 k:Nat
 out:List ObL
 v:Value
 D:za_
 DG:za_
theorem Qb_ {o:ObL} {l:List ObL} {j:Nat} (h:j<l.length):decide (o∈l.take (j+1))=(decide (o∈l.take j) ||decide (l.getD j ob0=o)):=by
 rw[StP.take_snoc (z:=ob0) h]
 by_cases h1:o∈l.take j
 ·rw[decide_eq_true h1,decide_eq_true (List.mem_append_left _ h1)];rfl
 ·by_cases h2:l.getD j ob0=o
  ·rw[decide_eq_true h2,Bool.or_true]
   exact decide_eq_true (List.mem_append_right _ (by rw[h2];exact List.mem_singleton.2 rfl))
  ·rw[decide_eq_false h1,decide_eq_false h2]
   exact decide_eq_false fun h=>by
    rcases List.mem_append.1 h with h|h
    ·exact h1 h
    ·exact h2 (List.mem_singleton.1 h).symm
set_option linter.defProp false
def qt_:=And.intro (And.intro (And.intro (@zd_) (And.intro (@zc_) (@Sx.tup2_0))) (And.intro (And.intro (@Sx.tup2_1) (@aom_)) (And.intro (@an7_) (@aod_)))) (And.intro (And.intro (@aoi_) (And.intro (@an8_) (@jf_))) (And.intro (And.intro (@qz_) (@qx_)) (And.intro (@qK_) (@aql_))))
theorem agZ_ (b:List UInt8) (w:World) (hb:b.length<1099511627776):
  Rets Tryz.prog 156 #[vs b] w (XS w [] (fun v D=>GrI D 82 2 v (W3_ b).length ((W3_ b).map obC).flatten)):=by
 have hrl:=(acg_ b).1
 have hrs:=aec_ b
 refine Rets.enterX Tryz.func156 rfl (rs:= [.tmp 2]) Tryz.results156 Tryz.ntmps156 (fun p hp=>by cases hp) (by simp[keys]) ?_
 refine kf ?_
 first|with_reducible refine ks [] @qt_ ?_|refine kp @qt_ ?_
 refine Ow.callC rfl rfl Tryz.call189 (fun w' hw'=>aaX_ b w' hb) (fun B1 v1 D1 hA1 hB1 hN1 hS1=> ?_)
 have hN1':New w.heap.size D1:=hN1.mono hB1
 unfold Kt_ at hS1
 unfold W3_
 rw[List.nil_append]
 cases hok: (kL_ b).2.1 with
 |false=>
  rw[hok,if_neg (by simp)] at hS1
  rw[if_neg (by simp)]
  subst hS1
  refine ko @qt_ ?_
  first|with_reducible refine ks [] @qt_ ?_|refine kp @qt_ ?_
  refine⟨_,(ke @qt_), ?_⟩
  exact⟨Ext.of_new hN1',Gr.i (X:= []) Gr.nl fun p hp=>by cases hp⟩
 |true=>
  rw[hok,if_pos rfl] at hS1
  rw[if_pos rfl]
  obtain⟨x,y,n,A,rfl,-,-,-,hg1,hg2,-⟩:=hS1
  generalize (x1_ b).1=l at*
  have ln:=vd_ hg1
  refine ko @qt_ ?_
  first|with_reducible refine ks [] (And.intro @qt_ @ln) ?_|refine kp (And.intro @qt_ @ln) ?_
  refine Cw.permL (M:=D1++ ([]++ [])) (by simp) ?_
  refine Cw.loopG (G:=SaG) [26,27,28,29,33,34,35,32,36,37,10,11,38,39,41,42,40,43,44,12,13,14,15,45,46,47,48,51,52,53,54,55,56,57,58,59,49,50,60,61,62,63,64,65,66,67,68,8,30,31,9] (fun g=> [(8,g.v),(9,vi g.k)]) (fun g=>D1++ (g.D++g.DG)) (fun g=>g.k≤l.length∧g.out=vi_ l g.k∧New w.heap.size g.D∧New w.heap.size g.DG∧Gr g.D 82 2 g.v g.out.length (g.out.map obC).flatten) (fun g=>l.length - g.k) ⟨0,[], .slice none 0 0,[],[]⟩ rfl rfl ?_ ?_
  ·exact⟨Nat.zero_le _,rfl,trivial,trivial,Gr.nl⟩
  intro g j hg
  refine kv ?_
  obtain⟨k,out,v6,D6,DG⟩:=g
  simp only at hg ⊢
  obtain⟨hk,hout,hN6,hNG,hG6⟩:=hg
  have hol:=QP_ l k
  rw[←hout] at hol
  have hNr:New w.heap.size (D1++ (D6++DG)):=hN1'.app (hN6.app hNG)
  by_cases hlt:k<l.length
  ·have d1:decide ((k:Int)< (l.length:Int))=true:=decide_eq_true (by omega)
   have hsv:vi_ l (k+1)=match partV l (k:Nat) with
    | .ok s=>if WD_ s=true∧wp_ s∉vi_ l k then vi_ l k++ [wp_ s] else vi_ l k
    | .error _=>vi_ l k:=rfl
   first|with_reducible refine ks [7] (And.intro @qt_ (And.intro @d1 (@ln))) ?_|refine kp (And.intro @qt_ (And.intro @d1 (@ln))) ?_
   refine Ow.callFV rfl Tryz.call190 (fun w' hw'=>afm_ x l (k:Int) w' ((hg1.mono (fun q hq=>by simp[hq])).slV hw' rfl rfl Kh_) (BndD.ofSmall hrs)) ?_
   rw[←hout] at hsv
   cases hp:partV l (k:Nat) with
   |error e2=>
    rw[hp] at hsv
    simp only at hsv
    have e0: (e2 !=0)=true:=bne_iff_ne.2 (alJ_ hp)
    unfold ait_
    refine ko @qt_ ?_
    first|with_reducible refine ks [] (And.intro @qt_ @e0) ?_|refine kp (And.intro @qt_ @e0) ?_
    first|with_reducible refine ks [] @qt_ ?_|refine kp @qt_ ?_
    exact Again.mk ⟨k+1,out,v6,D6,DG⟩ (by show l.length - (k+1)<l.length - k;omega) ⟨hlt,by exact hsv.symm,hN6,hNG,hG6⟩ rfl rfl
   |ok s=>
    rw[hp] at hsv
    simp only at hsv
    have hsl:=aiC_ hp
    have e0: ((0:Int) !=0)=false:=rfl
    have hrd1: (if lfOk s then lfK s else 0)=(wp_ s).k:=by rw[J4_]
    have hrd2: (if lfOk s then(lfT (s.drop 1)).1 else [])=(wp_ s).t:=by rw[J4_]
    have hfl2:=(aox_ s).1
    unfold ait_
    refine ko @qt_ ?_
    first|with_reducible refine ks [] (And.intro @qt_ @e0) ?_|refine kp (And.intro @qt_ @e0) ?_
    refine Ow.callFV rfl Tryz.call106 (fun w' hw'=>Wf_ s w' (by omega)) ?_
    rw[hrd1,hrd2,←hfl2]
    refine ko @qt_ ?_
    refine Ow.alloc rfl rfl zrOb fun b12 hb12 hw12=> ?_
    simp only[zg_,List.nil_append,List.cons_append]
    refine Ow.permL (M:=(b12, .cells #[vi 0,vs []] 82 (0,0)):: (D1++ (D6++DG))) (by classical exact List.perm_iff_count.2 fun a=>by simp only[List.count_append,List.count_cons,List.count_nil]<;>omega) ?_
    refine ko @qt_ ?_
    generalize hro:wp_ s=o at*
    obtain⟨ok,ot⟩:=o
    have hNr2:New w.heap.size ((b12,Obj.cells #[vi ok,vs ot] 82 (0,0)):: (D1++ (D6++DG))):=⟨hw12,hNr⟩
    refine Cw.world fun wz hwz=> ?_
    have hnd:=hwz.nodup
    clear hwz wz
    have lno: ∀m,Kg_ (.sl m) v6=some (vi out.length):=fun m=>vd_ (Gr.i hG6 (fun p hp=>hp)) m
    first|with_reducible refine ks [] (And.intro @qt_ @lno) ?_|refine kp (And.intro @qt_ @lno) ?_
    refine Cw.loopG (G:=Nat) [45,46,47,48,51,52,53,54,55,56,57,58,59,14,49,50,15] (fun g=> [(14, .bool (decide ((⟨ok,ot⟩:ObL)∈out.take g))),(15,vi g)]) (fun g=>(b12, .cells #[vi ok,vs ot] 82 (0,0)):: (D1++ (D6++DG))) (fun g=>g≤out.length) (fun g=>out.length - g) 0 rfl rfl ?_ ?_
    ·exact Nat.zero_le _
    ·intro j jj hj
     refine kv ?_
     by_cases hjt:j<out.length
     ·have d2:decide ((j:Int)< (out.length:Int))=true:=decide_eq_true (by omega)
      have hnx:=Qb_ (o:=⟨ok,ot⟩) hjt
      have hnd6: (keys D6).Nodup:=by
       simp only[keys,List.map_cons,List.map_append,List.nodup_cons,List.nodup_append] at hnd
       exact hnd.2.2.1.1
      obtain h0| ⟨rb,rc,rest,rfl,hbs,hlk⟩:=Qu_ (Gr.i hG6 (fun p hp=>hp)) hnd6
      ·omega
      have hb12':rb≠b12:=by
       rintro rfl
       simp only[keys,List.map_cons,List.map_append,List.nodup_cons,List.mem_append,not_or] at hnd
       exact hnd.1.2.1 hbs
      have rdb:zz_ w ((b12, .cells #[vi ok,vs ot] 82 (0,0)):: (D1++ (D6++DG))) rb=some (Wt_ obC 82 rest out):=by
       have hn1:rb∉keys D1:=by
        simp only[keys,List.map_cons,List.map_append,List.nodup_cons,List.nodup_append,List.mem_append] at hnd
        intro hm
        exact hnd.2.2.2 rb hm rb (.inl hbs) rfl
       exact zb_ (by rw[vq_ _ _ _ _ (Ne.symm hb12'),zW_ hn1];exact zj_ hlk)
      have ld:zl_ (some (true,2)) (some (Wt_ obC 82 rest out)) (j*2)=some (obV (out.getD j ob0).k (out.getD j ob0).t):=Qo_ (E:=82) (rest:=rest) (z:=ob0) vX_ j hjt
      generalize out.getD j ob0=p at*
      first|with_reducible refine ks [] (And.intro @qt_ (And.intro @d2 (@lno))) ?_|refine kp (And.intro @qt_ (And.intro @d2 (@lno))) ?_
      cases hin:decide ((⟨ok,ot⟩:ObL)∈out.take j) with
      |true=>
       rw[hin,Bool.true_or] at hnx
       refine Cw.regionS [rb,b12] [0,1,2,3,4,5,6,7,8,9] [] (by kernel_rfl) (by kernel_rfl) (by kernel_rfl) ?_
       simp only[zu_, ↓zi_, ↓ze_, ↓zG_, ↓zF_,zf_]
       refine kq (And.intro @qt_ (And.intro @rdb (@ld))) ?_
       first|with_reducible refine ks [] @qt_ ?_|refine kp @qt_ ?_
       exact Again.mk (j+1) (by omega) (by omega) rfl (by rw[hnx];rfl)
      |false=>
       rw[hin,Bool.false_or] at hnx
       refine Cw.regionS [rb,b12] [0,1,2,3,4,5,6,7,8,9] [] (by kernel_rfl) (by kernel_rfl) (by kernel_rfl) ?_
       simp only[zu_, ↓zi_, ↓ze_, ↓zG_, ↓zF_,zf_]
       refine kq (And.intro @qt_ (And.intro @rdb (@ld))) ?_
       first|with_reducible refine ks [] @qt_ ?_|refine kp @qt_ ?_
       exact Again.mk (j+1) (by omega) (by omega) rfl (by rw[hnx];rfl)
     ·obtain rfl:j=out.length:=by omega
      have d2:decide ((out.length:Int)< (out.length:Int))=false:=decide_eq_false (by omega)
      rw[List.take_length]
      first|with_reducible refine ks [] (And.intro @qt_ (And.intro @d2 (@lno))) ?_|refine kp (And.intro @qt_ (And.intro @d2 (@lno))) ?_
      cases hfr:WD_ s with
      |false=>
       rw[if_neg (fun h=>by rw[hfr] at h;cases h.1)] at hsv
       first|with_reducible refine ks [] (And.intro @qt_ @hfr) ?_|refine kp (And.intro @qt_ @hfr) ?_
       refine Cw.permL (M:=D1++ (D6++ ((b12, .cells #[vi ok,vs ot] 82 (0,0))::DG))) (by classical exact List.perm_iff_count.2 fun a=>by simp only[List.count_append,List.count_cons,List.count_nil]<;>omega) ?_
       first|with_reducible refine ks [] @qt_ ?_|refine kp @qt_ ?_
       exact Again.mk ⟨k+1,out,v6,D6,(b12, .cells #[vi ok,vs ot] 82 (0,0))::DG⟩ (by show l.length - (k+1)<l.length - k;omega) ⟨hlt,by exact hsv.symm,hN6,⟨hw12,hNG⟩,hG6⟩ rfl rfl
      |true=>
       cases hin:decide ((⟨ok,ot⟩:ObL)∈out) with
       |true=>
        rw[if_neg (fun h=>h.2 (of_decide_eq_true hin))] at hsv
        first|with_reducible refine ks [] (And.intro @qt_ (And.intro @hfr (@hin))) ?_|refine kp (And.intro @qt_ (And.intro @hfr (@hin))) ?_
        refine Cw.permL (M:=D1++ (D6++ ((b12, .cells #[vi ok,vs ot] 82 (0,0))::DG))) (by classical exact List.perm_iff_count.2 fun a=>by simp only[List.count_append,List.count_cons,List.count_nil]<;>omega) ?_
        first|with_reducible refine ks [] @qt_ ?_|refine kp @qt_ ?_
        exact Again.mk ⟨k+1,out,v6,D6,(b12, .cells #[vi ok,vs ot] 82 (0,0))::DG⟩ (by show l.length - (k+1)<l.length - k;omega) ⟨hlt,by exact hsv.symm,hN6,⟨hw12,hNG⟩,hG6⟩ rfl rfl
       |false=>
        rw[if_pos ⟨hfr,of_decide_eq_false hin⟩] at hsv
        first|with_reducible refine ks [] (And.intro @qt_ (And.intro @hfr (@hin))) ?_|refine kp (And.intro @qt_ (And.intro @hfr (@hin))) ?_
        refine Ow.buildSlice (e:=82) #[vi ok,vs ot] rfl rfl (q0_ (cs:=obC ⟨ok,ot⟩) Tryz.underlying94 Tryz.ag82 zrOb (by decide) rfl) fun bc hbc hwc=> ?_
        refine ko @qt_ ?_
        refine Ow.permL (M:=D6++ ((b12, .cells #[vi ok,vs ot] 82 (0,0)):: (D1++ (DG++ [(bc, .cells #[vi ok,vs ot] 82 (0,0))])))) (by classical exact List.perm_iff_count.2 fun a=>by simp only[List.count_append,List.count_cons,List.count_nil]<;>omega) ?_
        refine Ow.appendXG (e:=82) (k:=1) (new:=obC ⟨ok,ot⟩) (X:=D6) v6 rfl rfl rfl rfl Tryz.underlying94 Tryz.ag82 (by kernel_rfl) zrOb (by rw[obV,zg_];rfl) Tryz.underlying94 (by intro k h;cases h) hG6 (fun w' hw'=>AppX.one1 (hw'.has bc (.cells (obC ⟨ok,ot⟩).toArray 82 (0,0)) (by simp[obC])) (vX_ _) (Ky_ _)) (by omega) (fun B5 v5 D5 hA5 hB5 hG5 hk51 hk52 hlk5=> ?_)
        have hN5:New w.heap.size D5:=New.of_le fun q hq=>by
         rcases hk52 q hq with h|h
         ·exact hN6.le q h
         ·omega
        refine ko @qt_ ?_
        refine Cw.permL (M:=D1++ (D5++ ((b12, .cells #[vi ok,vs ot] 82 (0,0)):: (DG++ [(bc, .cells #[vi ok,vs ot] 82 (0,0))])))) (by classical exact List.perm_iff_count.2 fun a=>by simp only[List.count_append,List.count_cons,List.count_nil]<;>omega) ?_
        first|with_reducible refine ks [] @qt_ ?_|refine kp @qt_ ?_
        exact Again.mk ⟨k+1,out++ [⟨ok,ot⟩],v5,D5,(b12, .cells #[vi ok,vs ot] 82 (0,0)):: (DG++ [(bc, .cells #[vi ok,vs ot] 82 (0,0))])⟩ (by show l.length - (k+1)<l.length - k;omega) ⟨hlt,by exact hsv.symm,hN5,⟨hw12,hNG.app ⟨hwc,trivial⟩⟩,by simpa using hG5⟩ rfl rfl
  ·obtain rfl:k=l.length:=by omega
   have d1:decide ((l.length:Int)< (l.length:Int))=false:=decide_eq_false (by omega)
   first|with_reducible refine ks [] (And.intro @qt_ (And.intro @d1 (@ln))) ?_|refine kp (And.intro @qt_ (And.intro @d1 (@ln))) ?_
   refine⟨_,(ke @qt_), ?_⟩
   refine⟨Ext.of_new hNr, ?_⟩
   rw[←hout]
   exact Gr.i hG6 fun p hp=>by simp[hp]
end Go.Proofs
end
section
open Go Go.Proofs Go.Sx Go.StP Go.Flo
namespace Go.Proofs
set_option maxRecDepth 10000
set_option maxHeartbeats 400000
set_option linter.unusedSimpArgs false
def magO:List UInt8:= [83,76,79,49]
def abl_ (b:List UInt8):List ObL:=if(zD_ b).2=true∧4≤ (zD_ b).1.length∧(zD_ b).1.take 4=magO∧WD_ ((zD_ b).1.drop 4)=true then [wp_ ((zD_ b).1.drop 4)] else []
def ajc_ (b:List UInt8):List ObL:=abl_ b++W3_ b
def ZL_ (l:List FiL):List ObL:=(l.map fun f=>ajc_ f.data).flatten
theorem aaR_ (b:List UInt8): (W3_ b).length≤200:=by
 unfold W3_
 split
 ·exact Nat.le_trans (QP_ _ _) (acg_ b).1
 ·exact Nat.zero_le _
theorem X9_ (b:List UInt8): (ajc_ b).length≤201:=by
 have:=aaR_ b
 unfold ajc_ abl_
 split
 ·simp;omega
 ·simp;omega
theorem Wb_ (l:List FiL) {k:Nat} (h:k<l.length):ZL_ (l.take (k+1))=ZL_ (l.take k)++ajc_ (l.getD k fi0).data:=by
 unfold ZL_
 rw[StP.take_snoc (z:=fi0) h,List.map_append,List.flatten_append]
 simp
theorem Kn_ (l:List FiL): ∀k,k≤l.length→(ZL_ (l.take k)).length≤k*201
 |0,_=>by simp[ZL_]
 |k+1,h=>by
  have h1:=Kn_ l k (by omega)
  have h2:=X9_ (l.getD k fi0).data
  rw[Wb_ l (by omega),List.length_append]
  omega
theorem amn_ (s:List UInt8): (zD_ s).1.length≤s.length:=by
 unfold zD_
 split
 ·simp
 ·split
  ·simp only[List.length_take];omega
  ·simp
structure ObjC where
 os:List ObL
 v:Value
 D:za_
 DG:za_
structure ObjG where
 k:Nat
 v:Value
 D:za_
 DG:za_
set_option linter.defProp false
def jW_:=And.intro (And.intro (And.intro (@zd_) (@zc_)) (And.intro (@Sx.tup2_0) (@Sx.tup2_1))) (And.intro (And.intro (@jf_) (@qz_)) (And.intro (@qx_) (@qK_)))
theorem acD_ (v:Value) (l:List FiL) (w:World) (hv:FiSl w v l) (hl:l.length≤1000) (hb:FiB l):
  Rets Tryz.prog 113 #[v] w (XS w [] (fun v D=> ∃D1 D2,D=D1++D2∧Gr D1 82 2 v (ZL_ l).length ((ZL_ l).map obC).flatten)):=by
 have ln:=hv.len
 obtain⟨rb,off,arr,E,fz,hr⟩:=hv.row
 refine Rets.enterX Tryz.func113 rfl (rs:= [.tmp 2]) Tryz.results113 Tryz.ntmps113 (fun p hp=>by cases hp) (by simp[keys]) ?_
 refine kf ?_
 first|with_reducible refine ks [] (And.intro @jW_ @ln) ?_|refine kp (And.intro @jW_ @ln) ?_
 refine Cw.permL (M:= []++ []) (List.Perm.refl _) ?_
 refine Cw.loopG (G:=ObjG) [9,10,11,12,16,17,18,19,20,21,15,22,23,5,6,24,25,26,27,28,29,30,31,32,33,34,36,37,38,35,39,40,7,8,41,42,43,44,45,3,46,47,48,49,50,51,52,53,13,14,4] (fun g=> [(3,g.v),(4,vi g.k)]) (fun g=>g.D++g.DG) (fun g=>g.k≤l.length∧New w.heap.size g.D∧New w.heap.size g.DG∧Gr g.D 82 2 g.v (ZL_ (l.take g.k)).length ((ZL_ (l.take g.k)).map obC).flatten) (fun g=>l.length - g.k) ⟨0, .slice none 0 0,[],[]⟩ rfl rfl ?_ ?_
 ·exact⟨Nat.zero_le _,trivial,trivial,Gr.nl⟩
 intro g j hg
 refine kv ?_
 obtain⟨k,v3,D,DG⟩:=g
 simp only at hg ⊢
 obtain⟨hk,hN,hNG,hG⟩:=hg
 have hol:=Kn_ l k hk
 by_cases hlt:k<l.length
 ·have d1:decide ((k:Int)< (l.length:Int))=true:=decide_eq_true (by omega)
  have hrl:=hr.lt (by omega)
  have ixl:=hr.idx true k hlt
  have ld2: ∀n,zl_ (some (false,n)) (some (.cells arr E fz)) (off+k*3+2)=some (vs (l.getD k fi0).data):=fun n=>ai2_ hr hlt n
  have hhas:=hr.has (show 0<l.length by omega)
  have rdl: ∀L,New w.heap.size L→zz_ w L rb=some (.cells arr E fz):=fun L hL=>by rw[qw_ (hL.not hrl)];exact hhas
  have hfb:=(hb (l.getD k fi0) (by rw[List.getD_eq_getElem?_getD,List.getElem?_eq_getElem hlt];exact List.getElem_mem _)).2
  have hnx:=Wb_ l hlt
  have hfl:=X9_ (l.getD k fi0).data
  generalize (l.getD k fi0).data=b at*
  generalize hosE:ZL_ (l.take k)=os at*
  have rd1:=rdl _ (hN.app hNG)
  have hun:=amn_ b
  have hfo:ajc_ b=abl_ b++W3_ b:=rfl
  have hlo:abl_ b=if(zD_ b).2=true∧4≤ (zD_ b).1.length∧(zD_ b).1.take 4=magO∧WD_ ((zD_ b).1.drop 4)=true then [wp_ ((zD_ b).1.drop 4)] else []:=rfl
  have hsl:=aaR_ b
  first|with_reducible refine ks [8,1000006] (And.intro @jW_ (And.intro @d1 (And.intro @ln (And.intro @ixl (And.intro @rd1 (@ld2)))))) ?_|refine kp (And.intro @jW_ (And.intro @d1 (And.intro @ln (And.intro @ixl (And.intro @rd1 (@ld2)))))) ?_
  refine Ow.callFV rfl Tryz.call105 (fun w' hw'=>KU_ b w' hfb) ?_
  generalize zD_ b=u at*
  obtain⟨s,ok⟩:=u
  simp only at hun hlo ⊢
  refine ko @jW_ ?_
  refine Cw.cutO (G:=ObjC) [3,7,8,24,25,26,27,28,29,30,31,32,33,34,35,36,37,38,39,40,41,42,43,44,45] (fun g=> [(3,g.v)]) (fun g=>g.D++g.DG) (fun g=>New w.heap.size g.D∧New w.heap.size g.DG∧Gr g.D 82 2 g.v g.os.length (g.os.map obC).flatten∧g.os=os++abl_ b) ?_ ?_
  ·cases ok with
   |false=>
    rw[if_neg (by simp)] at hlo
    first|with_reducible refine ks [] @jW_ ?_|refine kp @jW_ ?_
    exact CutO.mk ⟨os,v3,D,DG⟩ ⟨hN,hNG,hG,by rw[hlo,List.append_nil]⟩ rfl rfl
   |true=>
    by_cases h4:4≤s.length
    ·have d4:decide ((4:Int)≤ (s.length:Int))=true:=decide_eq_true (by omega)
     have d4':decide ((0:Int)≤4∧(4:Int)≤ (s.length:Int))=true:=decide_eq_true (by omega)
     have d4'':decide ((4:Int)≤ (s.length:Int)∧(s.length:Int)≤ (s.length:Int))=true:=decide_eq_true (by omega)
     by_cases hm:s.take 4=magO
     ·have d5: (s.take 4== [83,76,79,49])=true:=beq_iff_eq.2 hm
      first|with_reducible refine ks [8] (And.intro @jW_ (And.intro @d4 (And.intro @d4' (@d5)))) ?_|refine kp (And.intro @jW_ (And.intro @d4 (And.intro @d4' (@d5)))) ?_
      refine Ow.callFV rfl Tryz.call106 (fun w' hw'=>Wf_ (s.drop 4) w' (by rw[List.length_drop];omega)) ?_
      have hrd1: (if lfOk (s.drop 4) then lfK (s.drop 4) else 0)=(wp_ (s.drop 4)).k:=by rw[J4_]
      have hrd2: (if lfOk (s.drop 4) then(lfT ((s.drop 4).drop 1)).1 else [])=(wp_ (s.drop 4)).t:=by rw[J4_]
      have hfl2:=(aox_ (s.drop 4)).1
      rw[hrd1,hrd2,←hfl2]
      refine ko @jW_ ?_
      refine Ow.alloc rfl rfl zrOb fun b7 hb7 hw7=> ?_
      simp only[zg_,List.nil_append,List.cons_append]
      refine Ow.permL (M:=(b7, .cells #[vi 0,vs []] 82 (0,0)):: (D++DG)) (by classical exact List.perm_iff_count.2 fun a=>by simp only[List.count_append,List.count_cons,List.count_nil]<;>omega) ?_
      refine ko @jW_ ?_
      generalize wp_ (s.drop 4)=o at*
      obtain⟨ok,ot⟩:=o
      cases hfr:WD_ (s.drop 4) with
      |false=>
       rw[if_neg (fun h=>by rw[hfr] at h;cases h.2.2.2)] at hlo
       refine Cw.permL (M:=D++ ((b7, .cells #[vi ok,vs ot] 82 (0,0))::DG)) (by classical exact List.perm_iff_count.2 fun a=>by simp only[List.count_append,List.count_cons,List.count_nil]<;>omega) ?_
       first|with_reducible refine ks [] (And.intro @jW_ @hfr) ?_|refine kp (And.intro @jW_ @hfr) ?_
       exact CutO.mk ⟨os,v3,D,(b7, .cells #[vi ok,vs ot] 82 (0,0))::DG⟩ ⟨hN,⟨hw7,hNG⟩,hG,by rw[hlo,List.append_nil]⟩ rfl rfl
      |true=>
       rw[if_pos ⟨rfl,h4,hm,hfr⟩] at hlo
       first|with_reducible refine ks [] (And.intro @jW_ @hfr) ?_|refine kp (And.intro @jW_ @hfr) ?_
       refine Ow.buildSlice (e:=82) #[vi ok,vs ot] rfl rfl (q0_ (cs:=obC ⟨ok,ot⟩) Tryz.underlying94 Tryz.ag82 zrOb (by decide) rfl) fun bc hbc hwc=> ?_
       refine ko @jW_ ?_
       refine Ow.permL (M:=D++ ((b7, .cells #[vi ok,vs ot] 82 (0,0)):: (DG++ [(bc, .cells #[vi ok,vs ot] 82 (0,0))]))) (by classical exact List.perm_iff_count.2 fun a=>by simp only[List.count_append,List.count_cons,List.count_nil]<;>omega) ?_
       refine Ow.appendXG (e:=82) (k:=1) (new:=obC ⟨ok,ot⟩) (X:=D) v3 rfl rfl rfl rfl Tryz.underlying94 Tryz.ag82 (by kernel_rfl) zrOb (by rw[obV,zg_];rfl) Tryz.underlying94 (by intro k h;cases h) hG (fun w' hw'=>AppX.one1 (hw'.has bc (.cells (obC ⟨ok,ot⟩).toArray 82 (0,0)) (by simp[obC])) (vX_ _) (Ky_ _)) (by omega) (fun B5 v5 D5 hA5 hB5 hG5 hk51 hk52 hlk5=> ?_)
       have hN5:New w.heap.size D5:=New.of_le fun q hq=>by
        rcases hk52 q hq with h|h
        ·exact hN.le q h
        ·omega
       refine ko @jW_ ?_
       first|with_reducible refine ks [] @jW_ ?_|refine kp @jW_ ?_
       exact CutO.mk ⟨os++ [⟨ok,ot⟩],v5,D5,(b7, .cells #[vi ok,vs ot] 82 (0,0)):: (DG++ [(bc, .cells #[vi ok,vs ot] 82 (0,0))])⟩ ⟨hN5,⟨hw7,hNG.app ⟨hwc,trivial⟩⟩,by simpa using hG5,by rw[hlo]⟩ rfl rfl
     ·have d5: (s.take 4== [83,76,79,49])=false:=beq_eq_false_iff_ne.2 hm
      rw[if_neg (fun h=>hm h.2.2.1)] at hlo
      first|with_reducible refine ks [] (And.intro @jW_ (And.intro @d4 (And.intro @d4' (@d5)))) ?_|refine kp (And.intro @jW_ (And.intro @d4 (And.intro @d4' (@d5)))) ?_
      exact CutO.mk ⟨os,v3,D,DG⟩ ⟨hN,hNG,hG,by rw[hlo,List.append_nil]⟩ rfl rfl
    ·have d4:decide ((4:Int)≤ (s.length:Int))=false:=decide_eq_false (by omega)
     rw[if_neg (fun h=>h4 h.2.1)] at hlo
     first|with_reducible refine ks [] (And.intro @jW_ @d4) ?_|refine kp (And.intro @jW_ @d4) ?_
     exact CutO.mk ⟨os,v3,D,DG⟩ ⟨hN,hNG,hG,by rw[hlo,List.append_nil]⟩ rfl rfl
  ·intro g j hg
   refine kv ?_
   obtain⟨os2,v4,D4,DG4⟩:=g
   simp only at hg ⊢
   obtain⟨hN4,hNG4,hG4,hos4⟩:=hg
   have hol2:os2.length≤k*201+201:=by
    have:=X9_ b
    rw[hfo,List.length_append] at this
    rw[hos4,List.length_append]
    omega
   have rd2:=rdl _ (hN4.app hNG4)
   first|with_reducible refine ks [] (And.intro @jW_ (And.intro @ln (And.intro @ixl (And.intro @rd2 (@ld2))))) ?_|refine kp (And.intro @jW_ (And.intro @ln (And.intro @ixl (And.intro @rd2 (@ld2))))) ?_
   refine Ow.callC rfl rfl Tryz.call156 (fun w' hw'=>agZ_ b w' hfb) (fun B9 v9 D9 hA9 hB9 hN9 hS9=> ?_)
   have hN9':New w.heap.size D9:=hN9.mono hB9
   refine ko @jW_ ?_
   refine Ow.permL (M:=D4++ (DG4++D9)) (by classical exact List.perm_iff_count.2 fun a=>by simp only[List.count_append,List.count_cons,List.count_nil]<;>omega) ?_
   refine Ow.appendXG (e:=82) (k:=(W3_ b).length) (new:=((W3_ b).map obC).flatten) (X:=D4) v4 rfl rfl rfl rfl Tryz.underlying94 Tryz.ag82 (by kernel_rfl) zrOb (by rw[obV,zg_];rfl) Tryz.underlying94 (by intro k h;cases h) hG4 (fun w' hw'=>((hS9.mono (fun q hq=>by simp[hq])).slV (z:=ob0) hw' rfl rfl vX_).appX vX_ Ky_) (by omega) (fun B5 v5 D5 hA5 hB5 hG5 hk51 hk52 hlk5=> ?_)
   have hN5:New w.heap.size D5:=New.of_le fun q hq=>by
    rcases hk52 q hq with h|h
    ·exact hN4.le q h
    ·omega
   refine ko @jW_ ?_
   first|with_reducible refine ks [] @jW_ ?_|refine kp @jW_ ?_
   exact Again.mk ⟨k+1,v5,D5,DG4++D9⟩ (by show l.length - (k+1)<l.length - k;omega) ⟨hlt,hN5,hNG4.app hN9',by rw[hnx,hfo,←List.append_assoc,←hos4,List.length_append,List.map_append,List.flatten_append];exact hG5⟩ rfl rfl
 ·obtain rfl:k=l.length:=by omega
  have d1:decide ((l.length:Int)< (l.length:Int))=false:=decide_eq_false (by omega)
  rw[List.take_length] at hG
  first|with_reducible refine ks [] (And.intro @jW_ (And.intro @d1 (@ln))) ?_|refine kp (And.intro @jW_ (And.intro @d1 (@ln))) ?_
  refine⟨_,(ke @jW_), ?_⟩
  exact⟨Ext.of_new (hN.app hNG),D,DG,rfl,hG⟩
end Go.Proofs
end
section
open Go Go.Proofs Go.Sx Go.StP Go.Flo
namespace Go.Proofs
set_option maxRecDepth 10000
set_option maxHeartbeats 400000
set_option linter.unusedSimpArgs false
def idQ (o:ObL):IdL:=⟨Dig.shaR (Jy_ o.k o.t),WT_ _⟩
def wB_ (all:List ObL):Nat→Option (List ObL)
 |0=>some []
 |i+1=>match wB_ all i with
  |none=>none
  |some had=>if kB_ (all.getD i ob0).k (all.getD i ob0).t=true∧all.getD i ob0∉had then(if had.any (fun h=>(idQ h).l==(idQ (all.getD i ob0)).l)=true then none else some (had++ [all.getD i ob0])) else some had
def abu_ (all:List ObL):Bool:=(wB_ all all.length).isNone
theorem Km_ {all:List ObL}: ∀ {j i:Nat},wB_ all i=none→i≤j→wB_ all j=none
 |0,i,h,hij=>by
  obtain rfl:i=0:=by omega
  exact h
 |j+1,i,h,hij=>by
  by_cases e:i=j+1
  ·subst e;exact h
  ·have:=Km_ (j:=j) h (by omega)
   unfold wB_
   rw[this]
theorem VO_ {all:List ObL}: ∀ {i:Nat} {had:List ObL},wB_ all i=some had→had.length≤i
 |0,had,h=>by cases h;exact Nat.le_refl _
 |i+1,had,h=>by
  unfold wB_ at h
  cases hc:wB_ all i with
  |none=>rw[hc] at h;cases h
  |some had'=>
   have h1:=VO_ hc
   rw[hc] at h
   simp only at h
   split at h
   ·split at h
    ·cases h
    ·cases h;rw[List.length_append];simp;omega
   ·cases h;omega
structure ThG where
 j:Nat
 c:Bool
structure ClG where
 i:Nat
 had:List ObL
 v6:Value
 v7:Value
 D6:za_
 D7:za_
 DG:za_
set_option linter.defProp false
def qo_:=And.intro (And.intro (And.intro (@zd_) (@zc_)) (And.intro (@Sx.tup2_0) (And.intro (@Sx.tup2_1) (@jf_)))) (And.intro (And.intro (@qz_) (And.intro (@qx_) (@qK_))) (And.intro (@aql_) (And.intro (@aip_) (@xE_))))
theorem ahG_ (v1 v2:Value) (l:List FiL) (more:List ObL) (w:World) (hv:FiSl w v1 l) (hl:l.length≤1000) (hb:FiB l) (hm:ObSl w v2 more) (hml:more.length≤1000000):
  Rets Tryz.prog 57 #[v1,v2] w (fun v D=>v= .bool (abu_ (ZL_ l++more))∧D= []):=by
 have ln2:=hm.len
 have hol:=Kn_ l l.length (Nat.le_refl _)
 rw[List.take_length] at hol
 refine Rets.enterV Tryz.func57 rfl (rs:= [.tmp 4]) Tryz.results57 Tryz.ntmps57 ?_
 refine kf ?_
 first|with_reducible refine ks [] @qo_ ?_|refine kp @qo_ ?_
 refine Ow.callC rfl rfl Tryz.call113 (fun w' hw'=>acD_ v1 l w' (hv.oldN hw' trivial) hl hb) (fun B1 v4 D0 hA1 hB1 hN1 hS1=> ?_)
 obtain⟨D1,DG1,rfl,hG1⟩:=hS1
 have hN1':=hN1.mono hB1
 rw[List.nil_append]
 refine ko @qo_ ?_
 refine Ow.appendXG (e:=82) (k:=more.length) (new:=(more.map obC).flatten) (X:=D1) v4 rfl rfl rfl rfl Tryz.underlying94 Tryz.ag82 (by kernel_rfl) zrOb (by rw[obV,zg_];rfl) Tryz.underlying94 (by intro k h;cases h) hG1 (fun w' hw'=>(hm.oldN hw' hN1').appX vX_ Ky_) (by omega) (fun B5 v5 D5 hA5 hB5 hG5 hk51 hk52 hlk5=> ?_)
 have hN5:New w.heap.size D5:=New.of_le fun q hq=>by
  rcases hk52 q hq with h|h
  ·exact hN1'.le q (by rw[zs_];exact List.mem_append_left _ h)
  ·omega
 rw[←List.flatten_append,←List.map_append,←List.length_append] at hG5
 have hal: (ZL_ l++more).length≤1300000:=by rw[List.length_append];omega
 have hNG1:New w.heap.size DG1:=New.of_le fun q hq=>hN1'.le q (by rw[zs_];exact List.mem_append_right _ hq)
 generalize ZL_ l++more=all at*
 have hGi:=Gr.i hG5 (fun p hp=>hp)
 have lna: ∀m,Kg_ (.sl m) v5=some (vi all.length):=fun m=>vd_ hGi m
 refine ko @qo_ ?_
 first|with_reducible refine ks [] (And.intro @qo_ @lna) ?_|refine kp (And.intro @qo_ @lna) ?_
 refine Cw.permL (M:=D5++ ([]++ ([]++DG1))) (by classical exact List.perm_iff_count.2 fun a=>by simp only[List.count_append,List.count_cons,List.count_nil]<;>omega) ?_
 refine Cw.loopG (G:=ClG) [18,19,20,21,24,25,26,27,28,29,9,10,30,31,32,33,34,35,36,37,40,41,42,43,44,45,46,47,48,38,39,49,50,51,52,53,54,11,12,55,56,57,58,61,62,63,64,65,66,4,59,60,67,68,69,70,71,72,73,6,74,75,76,77,7,22,23,8] (fun g=> [(6,g.v6),(7,g.v7),(8,vi g.i)]) (fun g=>D5++ (g.D6++ (g.D7++g.DG))) (fun g=>g.i≤all.length∧wB_ all g.i=some g.had∧New w.heap.size g.D6∧New w.heap.size g.D7∧New w.heap.size g.DG∧Gr g.D6 82 2 g.v6 g.had.length (g.had.map obC).flatten∧Gr g.D7 84 32 g.v7 g.had.length ((g.had.map idQ).map J5_).flatten) (fun g=>all.length - g.i) ⟨0,[], .slice none 0 0, .slice none 0 0,[],[],DG1⟩ rfl rfl ?_ ?_
 ·exact⟨Nat.zero_le _,rfl,trivial,trivial,hNG1,Gr.nl,Gr.nl⟩
 intro g j hg
 refine kv ?_
 obtain⟨i,had,v6,v7,D6,D7,DG⟩:=g
 simp only at hg ⊢
 obtain⟨hi,hcl,hN6,hN7,hNG,hG6,hG7⟩:=hg
 have hhl:=VO_ hcl
 have hNr:New w.heap.size (D5++ (D6++ (D7++DG))):=hN5.app (hN6.app (hN7.app hNG))
 by_cases hlt:i<all.length
 ·have d1:decide ((i:Int)< (all.length:Int))=true:=decide_eq_true (by omega)
  have hcs:wB_ all (i+1)=if kB_ (all.getD i ob0).k (all.getD i ob0).t=true∧all.getD i ob0∉had then(if had.any (fun h=>(idQ h).l==(idQ (all.getD i ob0)).l)=true then none else some (had++ [all.getD i ob0])) else some had:=by
   show(match wB_ all i with|none=>none|some had=>_)=_
   rw[hcl]
  refine Cw.world fun wz hwz=> ?_
  have hnd:=hwz.nodup
  clear hwz wz
  simp only[zs_,List.nodup_append,List.mem_append] at hnd
  obtain h0| ⟨ra,ca,resta,rfl,hka,hlka⟩:=Qu_ hGi hnd.1
  ·omega
  have rda: ∀Y,zz_ w (D5++Y) ra=some (Wt_ obC 82 resta all):=fun Y=>zb_ (zj_ hlka)
  have lda:zl_ (some (true,2)) (some (Wt_ obC 82 resta all)) (i*2)=some (obV (all.getD i ob0).k (all.getD i ob0).t):=Qo_ (E:=82) (rest:=resta) (z:=ob0) vX_ i hlt
  have lnh: ∀m,Kg_ (.sl m) v6=some (vi had.length):=fun m=>vd_ (Gr.i hG6 (fun p hp=>hp)) m
  have lni: ∀m,Kg_ (.sl m) v7=some (vi had.length):=fun m=>vd_ (Gr.i hG7 (fun p hp=>hp)) m
  generalize all.getD i ob0=o at*
  obtain⟨ok,ot⟩:=o
  simp only at lda hcs
  first|with_reducible refine ks [7] (And.intro @qo_ (And.intro @d1 (And.intro @lna (And.intro @lda (@rda))))) ?_|refine kp (And.intro @qo_ (And.intro @d1 (And.intro @lna (And.intro @lda (@rda))))) ?_
  refine Ow.callFV rfl Tryz.call54 (fun w' hw'=>XC_ ok ot w') ?_
  refine ko @qo_ ?_
  first|with_reducible refine ks [] (And.intro @qo_ @lnh) ?_|refine kp (And.intro @qo_ @lnh) ?_
  refine Cw.loopG (G:=ThG) [30,31,32,33,34,35,36,37,40,41,42,43,44,45,46,47,48,9,38,39,10] (fun g=> [(9, .bool g.c),(10,vi g.j)]) (fun g=>D5++ (D6++ (D7++DG))) (fun g=>g.j≤had.length∧g.c=(!kB_ ok ot||decide ((⟨ok,ot⟩:ObL)∈had.take g.j))) (fun g=>had.length - g.j) ⟨0, !kB_ ok ot⟩ rfl rfl ?_ ?_
  ·exact⟨Nat.zero_le _,by simp⟩
  intro g j hg
  refine kv ?_
  obtain⟨j,c⟩:=g
  simp only at hg ⊢
  obtain⟨hj,hc⟩:=hg
  by_cases hjt:j<had.length
  ·have d2:decide ((j:Int)< (had.length:Int))=true:=decide_eq_true (by omega)
   cases c with
   |true=>
    have hno: ¬ (kB_ ok ot=true∧(⟨ok,ot⟩:ObL)∉had):=by
     rintro⟨h1,h2⟩
     rw[h1,decide_eq_false (fun h=>h2 (List.mem_of_mem_take h))] at hc
     cases hc
    first|with_reducible refine ks [] (And.intro @qo_ (And.intro @d2 (@lnh))) ?_|refine kp (And.intro @qo_ (And.intro @d2 (@lnh))) ?_
    rw[if_neg hno] at hcs
    first|with_reducible refine ks [] @qo_ ?_|refine kp @qo_ ?_
    exact Again.mk ⟨i+1,had,v6,v7,D6,D7,DG⟩ (by show all.length - (i+1)<all.length - i;omega) ⟨hlt,hcs,hN6,hN7,hNG,hG6,hG7⟩ rfl rfl
   |false=>
    have hc':=hc.symm
    rw[Bool.or_eq_false_iff] at hc'
    have hnx:=Qb_ (o:=⟨ok,ot⟩) hjt
    rw[hc'.2,Bool.false_or] at hnx
    obtain h0| ⟨rh,ch,resth,rfl,hkh,hlkh⟩:=Qu_ (Gr.i hG6 (fun p hp=>hp)) hnd.2.1.1
    ·omega
    have hn1:rh∉keys D5:=fun hm=>hnd.2.2 rh hm rh (.inl hkh) rfl
    have rdh:zz_ w (D5++ (D6++ (D7++DG))) rh=some (Wt_ obC 82 resth had):=zb_ (by rw[zW_ hn1];exact zj_ hlkh)
    have ldh:zl_ (some (true,2)) (some (Wt_ obC 82 resth had)) (j*2)=some (obV (had.getD j ob0).k (had.getD j ob0).t):=Qo_ (E:=82) (rest:=resth) (z:=ob0) vX_ j hjt
    generalize had.getD j ob0=p at*
    first|with_reducible refine ks [] (And.intro @qo_ (And.intro @d2 (@lnh))) ?_|refine kp (And.intro @qo_ (And.intro @d2 (@lnh))) ?_
    refine Cw.regionS [rh,ra] [0,1,2,4,5,6,3,7,8,9] [] (by kernel_rfl) (by kernel_rfl) (by kernel_rfl) ?_
    simp only[zu_, ↓zi_, ↓ze_, ↓zG_, ↓zF_,zf_]
    refine kq (And.intro @qo_ (And.intro @rdh (And.intro @ldh (And.intro @rda (@lda))))) ?_
    first|with_reducible refine ks [] @qo_ ?_|refine kp @qo_ ?_
    exact Again.mk ⟨j+1,_⟩ (by show had.length - (j+1)<had.length - j;omega) ⟨hjt,by rw[hc'.1,Bool.false_or];exact hnx.symm⟩ rfl rfl
  ·obtain rfl:j=had.length:=by omega
   have d2:decide ((had.length:Int)< (had.length:Int))=false:=decide_eq_false (by omega)
   rw[List.take_length] at hc
   cases c with
   |true=>
    have hno: ¬ (kB_ ok ot=true∧(⟨ok,ot⟩:ObL)∉had):=by
     rintro⟨h1,h2⟩
     rw[h1,decide_eq_false h2] at hc
     cases hc
    first|with_reducible refine ks [] (And.intro @qo_ (And.intro @d2 (@lnh))) ?_|refine kp (And.intro @qo_ (And.intro @d2 (@lnh))) ?_
    rw[if_neg hno] at hcs
    first|with_reducible refine ks [] @qo_ ?_|refine kp @qo_ ?_
    exact Again.mk ⟨i+1,had,v6,v7,D6,D7,DG⟩ (by show all.length - (i+1)<all.length - i;omega) ⟨hlt,hcs,hN6,hN7,hNG,hG6,hG7⟩ rfl rfl
   |false=>
    have hc':=hc.symm
    rw[Bool.or_eq_false_iff] at hc'
    have hrt:kB_ ok ot=true:=by simpa using hc'.1
    have htl:ot.length<100000:=by have:=amk_ (k:=ok) (t:=ot) (by rw[V0_];exact hrt);omega
    rw[if_pos ⟨hrt,of_decide_eq_false hc'.2⟩] at hcs
    first|with_reducible refine ks [] (And.intro @qo_ (And.intro @d2 (And.intro @lnh (And.intro @rda (@lda))))) ?_|refine kp (And.intro @qo_ (And.intro @d2 (And.intro @lnh (And.intro @rda (@lda))))) ?_
    refine Ow.callFV rfl Tryz.call55 (fun w' hw'=>anx_ ok ot w' htl) ?_
    have hid:Dig.shaR (Jy_ ok ot)=(idQ ⟨ok,ot⟩).l:=rfl
    rw[hid] at*
    have hil:=(idQ ⟨ok,ot⟩).h
    have hi0:=id0.h
    generalize hx:idQ ⟨ok,ot⟩=x at*
    refine ko @qo_ ?_
    refine Ow.alloc rfl rfl ag7_ fun b11 hb11 hw11=> ?_
    simp only[zg_,List.nil_append,List.cons_append]
    refine Ow.permL (M:=(b11, .cells (a8 id0.l) 84 (0,0)):: (D5++ (D6++ (D7++DG)))) (by classical exact List.perm_iff_count.2 fun a=>by simp only[List.count_append,List.count_cons,List.count_nil]<;>omega) ?_
    refine ko @qo_ ?_
    first|with_reducible refine ks [] (And.intro @qo_ @lni) ?_|refine kp (And.intro @qo_ @lni) ?_
    refine Cw.loopG (G:=Nat) [55,56,57,58,61,62,63,64,65,66,4,59,60,12] (fun g=> [(12,vi g)]) (fun g=>(b11, .cells (a8 x.l) 84 (0,0)):: (D5++ (D6++ (D7++DG)))) (fun g=>g≤had.length∧(had.take g).any (fun h=>(idQ h).l==x.l)=false) (fun g=>had.length - g) 0 rfl rfl ?_ ?_
    ·exact⟨Nat.zero_le _,rfl⟩
    intro m jm hm
    refine kv ?_
    obtain⟨hm1,hm2⟩:=hm
    by_cases hmt:m<had.length
    ·have d3:decide ((m:Int)< (had.length:Int))=true:=decide_eq_true (by omega)
     obtain h0| ⟨rq,cq,restq,rfl,hkq,hlkq⟩:=Qu_ (l:=had.map idQ) (enc:=J5_) (by rw[List.length_map];exact Gr.i hG7 (fun p hp=>hp)) hnd.2.1.2.1.1
     ·rw[List.length_map] at h0;omega
     rw[List.length_map] at*
     have hn1:rq∉keys D5:=fun hm=>hnd.2.2 rq hm rq (.inr (.inl hkq)) rfl
     have hn2:rq∉keys D6:=fun hm=>hnd.2.1.2.2 rq hm rq (.inl hkq) rfl
     have hq11:rq<b11:=zv_ hb11 (by simp only[zs_,List.mem_append];exact .inr (.inr (.inl hkq)))
     have rdq:zz_ w ((b11, .cells (a8 x.l) 84 (0,0)):: (D5++ (D6++ (D7++DG)))) rq=some (Wt_ J5_ 84 restq (had.map idQ)):=zb_ (by rw[vq_ _ _ _ _ (by omega),zW_ hn1,zW_ hn2];exact zj_ hlkq)
     have ldq:zl_ (some (true,32)) (some (Wt_ J5_ 84 restq (had.map idQ))) (m*32)=some (.agg (a8 (idQ (had.getD m ob0)).l)):=by
      have:=Qo_ (E:=84) (rest:=restq) (z:=id0) w5_ m (show m< (had.map idQ).length by rw[List.length_map];exact hmt)
      rw[aiH_,show(had.map idQ).getD m id0=idQ (had.getD m ob0) from by rw[List.getD_eq_getElem?_getD,List.getD_eq_getElem?_getD,List.getElem?_map,List.getElem?_eq_getElem hmt];rfl] at this
      exact this
     have hpm:had.getD m ob0∈had:=v5_ hmt
     have hnx: (had.take (m+1)).any (fun h=>(idQ h).l==x.l)=((idQ (had.getD m ob0)).l==x.l):=by
      rw[StP.take_snoc (z:=ob0) hmt,List.any_append,hm2];simp
     generalize had.getD m ob0=p at*
     first|with_reducible refine ks [] (And.intro @qo_ (And.intro @d3 (@lni))) ?_|refine kp (And.intro @qo_ (And.intro @d3 (@lni))) ?_
     refine Cw.regionS [rq,b11] [0,1,2,3,4,5] [] (by kernel_rfl) (by kernel_rfl) (by kernel_rfl) ?_
     simp only[zu_, ↓zi_, ↓ze_, ↓zG_, ↓zF_,zf_]
     refine kq (And.intro @qo_ (And.intro @rdq (@ldq))) ?_
     cases hq: ((idQ p).l==x.l) with
     |true=>
      have hany:had.any (fun h=>(idQ h).l==x.l)=true:=List.any_eq_true.2 ⟨p,hpm,hq⟩
      rw[if_pos hany] at hcs
      have hnn:=Km_ hcs (show i+1≤all.length by omega)
      first|with_reducible refine ks [] (And.intro @qo_ @hq) ?_|refine kp (And.intro @qo_ @hq) ?_
      refine⟨_,(ke @qo_),(show New w.heap.size ((b11,_):: (D5++ (D6++ (D7++DG)))) from⟨hw11,hNr⟩), ?_⟩
      (unfold abu_;rw[hnn];rfl)
     |false=>
      rw[hq] at hnx
      first|with_reducible refine ks [] (And.intro @qo_ @hq) ?_|refine kp (And.intro @qo_ @hq) ?_
      exact Again.mk (m+1) (by omega) ⟨hmt,hnx⟩ rfl rfl
    ·obtain rfl:m=had.length:=by omega
     have d3:decide ((had.length:Int)< (had.length:Int))=false:=decide_eq_false (by omega)
     rw[List.take_length] at hm2
     rw[if_neg (by rw[hm2];simp)] at hcs
     have ha11:ra<b11:=zv_ hb11 (by simp only[zs_,List.mem_append];exact .inl hka)
     have rda2: ∀O Y,zz_ w ((b11,O):: (D5++Y)) ra=some (Wt_ obC 82 resta all):=fun O Y=>zb_ (by rw[vq_ _ _ _ _ (by omega)];exact zj_ hlka)
     first|with_reducible refine ks [] (And.intro @qo_ (And.intro @d3 (And.intro @lni (And.intro @rda2 (@lda))))) ?_|refine kp (And.intro @qo_ (And.intro @d3 (And.intro @lni (And.intro @rda2 (@lda))))) ?_
     refine Ow.buildSlice (e:=82) #[vi ok,vs ot] rfl rfl (q0_ (cs:=obC ⟨ok,ot⟩) Tryz.underlying94 Tryz.ag82 zrOb (by decide) rfl) fun bc hbc hwc=> ?_
     refine ko @qo_ ?_
     refine Ow.permL (M:=D6++ ((b11, .cells (a8 x.l) 84 (0,0)):: (D5++ (D7++ (DG++ [(bc, .cells #[vi ok,vs ot] 82 (0,0))]))))) (by classical exact List.perm_iff_count.2 fun a=>by simp only[List.count_append,List.count_cons,List.count_nil]<;>omega) ?_
     refine Ow.appendXG (e:=82) (k:=1) (new:=obC ⟨ok,ot⟩) (X:=D6) v6 rfl rfl rfl rfl Tryz.underlying94 Tryz.ag82 (by kernel_rfl) zrOb (by rw[obV,zg_];rfl) Tryz.underlying94 (by intro k h;cases h) hG6 (fun w' hw'=>AppX.one1 (hw'.has bc (.cells (obC ⟨ok,ot⟩).toArray 82 (0,0)) (by simp[obC])) (vX_ _) (Ky_ _)) (by omega) (fun B8 va8 D8 hA8 hB8 hG8 hk81 hk82 hlk8=> ?_)
     have hN8:New w.heap.size D8:=New.of_le fun q hq=>by
      rcases hk82 q hq with h|h
      ·exact hN6.le q h
      ·omega
     refine Ow.permL (M:=(b11, .cells (a8 x.l) 84 (0,0)):: (D5++ (D8++ (D7++ (DG++ [(bc, .cells #[vi ok,vs ot] 82 (0,0))]))))) (by classical exact List.perm_iff_count.2 fun a=>by simp only[List.count_append,List.count_cons,List.count_nil]<;>omega) ?_
     refine ko @qo_ ?_
     first|with_reducible refine ks [] @qo_ ?_|refine kp @qo_ ?_
     refine Ow.buildSlice (e:=84) (a8 x.l) rfl rfl (q0_ (cs:=x.l.map v8) Tryz.underlying106 afV_ ag7_ (by decide) (by simp[x.h])) fun ba hba hwa=> ?_
     refine ko @qo_ ?_
     refine Ow.permL (M:=D7++ ((b11, .cells (a8 x.l) 84 (0,0)):: (D5++ (D8++ (DG++ [(bc, .cells #[vi ok,vs ot] 82 (0,0)),(ba, .cells (a8 x.l) 84 (0,0))]))))) (by classical exact List.perm_iff_count.2 fun a=>by simp only[List.count_append,List.count_cons,List.count_nil]<;>omega) ?_
     refine Ow.appendXG (e:=84) (k:=1) (new:=J5_ x) (X:=D7) v7 rfl rfl rfl rfl Tryz.underlying106 afV_ (by kernel_rfl) ag7_ (by rw[zg_,Q5_,id0.h]) Tryz.underlying106 (by intro k h;cases h) hG7 (fun w' hw'=>AppX.one1 (by rw[aiH_];exact hw'.has ba (.cells (a8 x.l) 84 (0,0)) (by simp)) (w5_ _) (aaZ_ _)) (by omega) (fun B9 va9 D9 hA9 hB9 hG9 hk91 hk92 hlk9=> ?_)
     have hN9:New w.heap.size D9:=New.of_le fun q hq=>by
      rcases hk92 q hq with h|h
      ·exact hN7.le q h
      ·omega
     refine ko @qo_ ?_
     refine Cw.permL (M:=D5++ (D8++ (D9++ ((b11, .cells (a8 x.l) 84 (0,0)):: (DG++ [(bc, .cells #[vi ok,vs ot] 82 (0,0)),(ba, .cells (a8 x.l) 84 (0,0))]))))) (by classical exact List.perm_iff_count.2 fun a=>by simp only[List.count_append,List.count_cons,List.count_nil]<;>omega) ?_
     first|with_reducible refine ks [] @qo_ ?_|refine kp @qo_ ?_
     have hl1: (had++ [(⟨ok,ot⟩:ObL)]).length=had.length+1:=by simp
     exact Again.mk ⟨i+1,had++ [⟨ok,ot⟩],va8,va9,D8,D9,(b11, .cells (a8 x.l) 84 (0,0)):: (DG++ [(bc, .cells #[vi ok,vs ot] 82 (0,0)),(ba, .cells (a8 x.l) 84 (0,0))])⟩ (by show all.length - (i+1)<all.length - i;omega) ⟨hlt,hcs,hN8,hN9,⟨hw11,hNG.app ⟨hwc,hwa,trivial⟩⟩,by simpa using hG8,by rw[←hx] at hG9;simpa using hG9⟩ rfl rfl
 ·obtain rfl:i=all.length:=by omega
  have d1:decide ((all.length:Int)< (all.length:Int))=false:=decide_eq_false (by omega)
  first|with_reducible refine ks [] (And.intro @qo_ (And.intro @d1 (@lna))) ?_|refine kp (And.intro @qo_ (And.intro @d1 (@lna))) ?_
  refine⟨_,(ke @qo_),hNr, ?_⟩
  (unfold abu_;rw[hcl];rfl)
end Go.Proofs
end
section
open Go Go.Proofs Go.Sx Go.StP Go.Flo
namespace Go.Proofs
set_option maxRecDepth 10000
set_option maxHeartbeats 400000
set_option linter.unusedSimpArgs false
def sumF (l:List FiL):Nat:=(l.map fun f=>f.data.length / 100+f.name.length).sum
def Jt_ (l:List FiL) (more:List ObL):Bool:=decide (60<l.length) ||decide (1000<sumF l) ||abu_ (ZL_ l++more)
theorem ajm_ (l:List FiL) {k:Nat} (h:k<l.length):sumF (l.take (k+1))=sumF (l.take k)+ (l.getD k fi0).data.length / 100+ (l.getD k fi0).name.length:=by
 unfold sumF
 rw[StP.take_snoc (z:=fi0) h,List.map_append,List.sum_append,List.map_singleton,List.sum_singleton,Nat.add_assoc]
theorem aoO_ (l:List FiL) (k:Nat):sumF (l.take k)≤sumF l:=by
 have:sumF l=sumF (l.take k)+sumF (l.drop k):=by
  unfold sumF
  rw[←List.sum_append,←List.map_append,List.take_append_drop]
 omega
theorem amm_ {l:List FiL} {f:FiL} (h:f∈l):f.data.length / 100+f.name.length≤sumF l:=by
 unfold sumF
 induction l with
 |nil=>cases h
 |cons g l ih=>
  rw[List.map_cons,List.sum_cons]
  rcases List.mem_cons.1 h with rfl|h
  ·omega
  ·have:=ih h;omega
theorem acJ_ {l:List FiL} {more:List ObL} (h:Jt_ l more=false):l.length≤60∧abu_ (ZL_ l++more)=false∧ ∀f,f∈l→f.name.length≤1000∧f.data.length<100100:=by
 unfold Jt_ at h
 simp only[Bool.or_eq_false_iff,decide_eq_false_iff_not] at h
 refine⟨by omega,h.2,fun f hf=> ?_⟩
 have:=amm_ hf
 omega
structure GfG where
 n:Nat
 k:Nat
set_option linter.defProp false
def wd_:=And.intro (@zd_) (@zc_)
theorem Jw_ (v1 v2:Value) (l:List FiL) (more:List ObL) (w:World) (hv:FiSl w v1 l) (hb:FiB l) (hm:ObSl w v2 more) (hml:more.length≤1000000):
  Rets Tryz.prog 15 #[v1,v2] w (fun v D=>v= .bool (Jt_ l more)∧D= []):=by
 have ln:=hv.len
 obtain⟨rb,off,arr,E,fz,hr⟩:=hv.row
 refine Rets.enterV Tryz.func15 rfl (rs:= [.tmp 4]) Tryz.results15 Tryz.ntmps15 ?_
 refine kf ?_
 by_cases h60:60<l.length
 ·have d1:decide ((60:Int)< (l.length:Int))=true:=decide_eq_true (by omega)
  first|with_reducible refine ks [] (And.intro @wd_ (And.intro @ln (@d1))) ?_|refine kp (And.intro @wd_ (And.intro @ln (@d1))) ?_
  refine⟨_,(ke @wd_),trivial, ?_⟩
  (unfold Jt_;rw[decide_eq_true h60];rfl)
 ·have d1:decide ((60:Int)< (l.length:Int))=false:=decide_eq_false (by omega)
  first|with_reducible refine ks [] (And.intro @wd_ (And.intro @ln (@d1))) ?_|refine kp (And.intro @wd_ (And.intro @ln (@d1))) ?_
  refine Cw.loopG (G:=GfG) [10,11,12,13,16,17,18,19,20,21,22,23,24,25,26,27,28,29,30,31,5,32,33,4,14,15,6] (fun g=> [(5,vi g.n),(6,vi g.k)]) (fun g=> []) (fun g=>g.k≤l.length∧g.n≤1000∧g.n=sumF (l.take g.k)) (fun g=>l.length - g.k) ⟨0,0⟩ rfl rfl ?_ ?_
  ·exact⟨Nat.zero_le _,Nat.zero_le _,rfl⟩
  intro g j hg
  refine kv ?_
  obtain⟨n,k⟩:=g
  simp only at hg ⊢
  obtain⟨hk,hn,hs⟩:=hg
  by_cases hlt:k<l.length
  ·have d2:decide ((k:Int)< (l.length:Int))=true:=decide_eq_true (by omega)
   have ix:=hr.idx true k hlt
   have hh:=hr.has (by omega)
   have ld1: ∀n,zl_ (some (false,n)) (some (.cells arr E fz)) (off+k*3+1)=some (vs (l.getD k fi0).name):=fun n=>adV_ hr hlt n
   have ld2: ∀n,zl_ (some (false,n)) (some (.cells arr E fz)) (off+k*3+2)=some (vs (l.getD k fi0).data):=fun n=>ai2_ hr hlt n
   have hbs:=hb (l.getD k fi0) (by rw[List.getD_eq_getElem?_getD,List.getElem?_eq_getElem hlt];exact List.getElem_mem _)
   have hsn:=ajm_ l hlt
   have hsl:=aoO_ l (k+1)
   generalize l.getD k fi0=r at*
   have es: ((n:Int)+ (r.data.length:Int).tdiv 100)+ (r.name.length:Int)=((n+r.data.length / 100+r.name.length:Nat):Int):=by
    rw[Int.tdiv_eq_ediv_of_nonneg (by omega)];omega
   have es2: ((n:Int)+ (r.data.length:Int) / 100)+ (r.name.length:Int)=((n+r.data.length / 100+r.name.length:Nat):Int):=by omega
   first|with_reducible refine ks [] (And.intro @wd_ (And.intro @ln (@d2))) ?_|refine kp (And.intro @wd_ (And.intro @ln (@d2))) ?_
   refine Cw.regionS [rb] [0,1,2,3,4,9,10,11,12,5,6,7,8,13,14,15,16] [] (by kernel_rfl) (by kernel_rfl) (by kernel_rfl) ?_
   simp only[zu_, ↓zi_, ↓ze_, ↓zG_, ↓zF_,zf_]
   refine kq (And.intro @wd_ (And.intro @ln (And.intro @ix (And.intro @hh (And.intro @ld1 (And.intro @ld2 (And.intro @es (@es2)))))))) ?_
   by_cases hgt:1000<n+r.data.length / 100+r.name.length
   ·have d3:decide ((1000:Int)< ((n+r.data.length / 100+r.name.length:Nat):Int))=true:=decide_eq_true (by omega)
    first|with_reducible refine ks [] (And.intro @wd_ @d3) ?_|refine kp (And.intro @wd_ @d3) ?_
    refine⟨_,(ke @wd_),trivial, ?_⟩
    (unfold Jt_;rw[decide_eq_true (show 1000<sumF l by omega),Bool.or_true];rfl)
   ·have d3:decide ((1000:Int)< ((n+r.data.length / 100+r.name.length:Nat):Int))=false:=decide_eq_false (by omega)
    first|with_reducible refine ks [] (And.intro @wd_ @d3) ?_|refine kp (And.intro @wd_ @d3) ?_
    exact Again.mk ⟨n+r.data.length / 100+r.name.length,k+1⟩ (by show l.length - (k+1)<l.length - k;omega) ⟨hlt,by show n+r.data.length / 100+r.name.length≤1000;omega,by show n+r.data.length / 100+r.name.length=sumF (l.take (k+1));omega⟩ rfl rfl
  ·have d2:decide ((k:Int)< (l.length:Int))=false:=decide_eq_false (by omega)
   rw[show l.take k=l from List.take_of_length_le (by omega)] at hs
   first|with_reducible refine ks [] (And.intro @wd_ (And.intro @ln (@d2))) ?_|refine kp (And.intro @wd_ (And.intro @ln (@d2))) ?_
   refine Ow.callFV rfl Tryz.call57 (fun w' hw'=>ahG_ v1 v2 l more w' (hv.oldN hw' trivial) (by omega) hb (hm.oldN hw' trivial) hml) ?_
   refine ko @wd_ ?_
   first|with_reducible refine ks [] @wd_ ?_|refine kp @wd_ ?_
   refine⟨_,(ke @wd_),trivial, ?_⟩
   (unfold Jt_;rw[decide_eq_false h60,decide_eq_false (show¬1000<sumF l by omega)];rfl)
instance:DecidableEq FiL:=fun a b=>if h:a.dir=b.dir∧a.name=b.name∧a.data=b.data then .isTrue (by cases a;cases b;simp only at h;obtain⟨rfl,rfl,rfl⟩:=h;rfl) else .isFalse (fun e=>h (by rw[e];exact⟨rfl,rfl,rfl⟩))
set_option linter.defProp false
def Zw_:=And.intro (And.intro (@zd_) (@zc_)) (And.intro (@WA_) (@neFi))
theorem KW_ (v1 v2:Value) (a b:List FiL) (w:World) (ha:FiSl w v1 a) (hb:FiSl w v2 b) (hal:a.length<1000000000):
  Rets Tryz.prog 25 #[v1,v2] w (fun v D=>v= .bool (decide (a=b))∧D= []):=by
 have ln1:=ha.len
 have ln2:=hb.len
 obtain⟨ra,offa,arra,Ea,fza,hra⟩:=ha.row
 obtain⟨rb,offb,arrb,Eb,fzb,hrb⟩:=hb.row
 refine Rets.enterV Tryz.func25 rfl (rs:= [.tmp 4]) Tryz.results25 Tryz.ntmps25 ?_
 refine kf ?_
 by_cases hll:a.length=b.length
 ·have d1: ((a.length:Int) !=(b.length:Int))=false:=by rw[hll];exact bne_self_eq_false _
  first|with_reducible refine ks [] (And.intro @Zw_ (And.intro @ln1 (And.intro @ln2 (@d1)))) ?_|refine kp (And.intro @Zw_ (And.intro @ln1 (And.intro @ln2 (@d1)))) ?_
  refine Cw.loopG (G:=Nat) [11,12,13,14,17,18,19,20,21,22,23,24,25,4,15,16,5] (fun g=> [(5,vi g)]) (fun g=> []) (fun g=>g≤a.length∧a.take g=b.take g) (fun g=>a.length - g) 0 rfl rfl ?_ ?_
  ·exact⟨Nat.zero_le _,rfl⟩
  intro k jk hk
  refine kv ?_
  obtain⟨hk1,hk2⟩:=hk
  by_cases hlt:k<a.length
  ·have hltb:k<b.length:=by omega
   have d2:decide ((k:Int)< (a.length:Int))=true:=decide_eq_true (by omega)
   have ixa:=hra.idx true k hlt
   have ixb:=hrb.idx true k hltb
   have rda:=hra.has (show 0<a.length by omega)
   have rdb:=hrb.has (show 0<b.length by omega)
   have lda:=af9_ hra hlt
   have ldb:=af9_ hrb hltb
   have hnx:a.take (k+1)=b.take (k+1)↔a.getD k fi0=b.getD k fi0:=by
    rw[StP.take_snoc (z:=fi0) hlt,StP.take_snoc (z:=fi0) hltb,hk2]
    constructor
    ·intro h;simpa using h
    ·intro h;rw[h]
   have hgo:a=b→a.getD k fi0=b.getD k fi0:=fun h=>by rw[h]
   generalize a.getD k fi0=x at*
   generalize b.getD k fi0=y at*
   first|with_reducible refine ks [] (And.intro @Zw_ (And.intro @ln1 (@d2))) ?_|refine kp (And.intro @Zw_ (And.intro @ln1 (@d2))) ?_
   refine Cw.regionS [ra,rb] [0,1,2,4,5,6,3,7,8] [] (by kernel_rfl) (by kernel_rfl) (by kernel_rfl) ?_
   simp only[zu_, ↓zi_, ↓ze_, ↓zG_, ↓zF_,zf_]
   refine kq (And.intro @Zw_ (And.intro @ixa (And.intro @ixb (And.intro @rda (And.intro @rdb (And.intro @lda (@ldb))))))) ?_
   cases hq: (x.dir==y.dir&&x.name==y.name&&x.data==y.data) with
   |true=>
    have e:x=y:=by
     simp only[Bool.and_eq_true,beq_iff_eq] at hq
     cases x;cases y;simp only at hq;obtain⟨⟨rfl,rfl⟩,rfl⟩:=hq;rfl
    first|with_reducible refine ks [] (And.intro @Zw_ @hq) ?_|refine kp (And.intro @Zw_ @hq) ?_
    exact Again.mk (k+1) (by omega) ⟨hlt,hnx.2 e⟩ rfl rfl
   |false=>
    first|with_reducible refine ks [] (And.intro @Zw_ @hq) ?_|refine kp (And.intro @Zw_ @hq) ?_
    refine⟨_,(ke @Zw_),trivial, ?_⟩
    (rw[decide_eq_false (fun h=>by have e:=hgo h;rw[e] at hq;simp at hq)];rfl)
  ·obtain rfl:k=a.length:=by omega
   have d2:decide ((a.length:Int)< (a.length:Int))=false:=decide_eq_false (by omega)
   first|with_reducible refine ks [] (And.intro @Zw_ (And.intro @ln1 (@d2))) ?_|refine kp (And.intro @Zw_ (And.intro @ln1 (@d2))) ?_
   refine⟨_,(ke @Zw_),trivial, ?_⟩
   (rw[List.take_length,hll,List.take_length] at hk2;rw[decide_eq_true hk2];rfl)
 ·have d1: ((a.length:Int) !=(b.length:Int))=true:=bne_iff_ne.2 (by omega)
  first|with_reducible refine ks [] (And.intro @Zw_ (And.intro @ln1 (And.intro @ln2 (@d1)))) ?_|refine kp (And.intro @Zw_ (And.intro @ln1 (And.intro @ln2 (@d1)))) ?_
  refine⟨_,(ke @Zw_),trivial, ?_⟩
  (rw[decide_eq_false (fun h=>hll (by rw[h]))];rfl)
end Go.Proofs
end
section
open Go Go.Proofs Go.Sx Go.StP Go.Flo
namespace Go.Proofs
set_option maxRecDepth 10000
set_option maxHeartbeats 400000
set_option linter.unusedSimpArgs false
def bl0:DiskL:=QD_ 100
def bl1:DiskL:=(kP_ bl0 ql_ [97] [120] false).2
def bl2:DiskL:=(kP_ bl1 ql_ [98] [121] true).2
def bl3:DiskL:=z0_ bl2 []
def bl4:DiskL:=(ace_ bl3).2.2
theorem as2_: (((kP_ bl0 ql_ [97] [120] false).1:Nat):Int)=0:=by rfl
theorem asN_: (((kP_ bl1 ql_ [98] [121] true).1:Nat):Int)=0:=by rfl
theorem asx_: (jP_ bl3 ql_ [97]).1= [120]:=by rfl
theorem asD_: (((jP_ bl3 ql_ [97]).2:Nat):Int)=0:=by rfl
theorem as0_: (((ace_ bl3).1:Nat):Int)=0:=by rfl
theorem asz_: (((ace_ bl3).2.1:Nat):Int)=0:=by rfl
theorem bl_l: (((ka_ bl4 ql_).length:Nat):Int)=1:=by rfl
set_option linter.defProp false
def kw_:=And.intro (And.intro (@zd_) (@zc_)) (And.intro (@Sx.tup2_0) (@Sx.tup2_1))
theorem z5_ (w:World) (hG:Qk_ w):Rets Tryz.prog 35 #[] w (fun v D=>v= .bool true∧D= []):=by
 refine Rets.enterV Tryz.func35 rfl (rs:= [.tmp 0]) Tryz.results35 Tryz.ntmps35 ?_
 refine kf ?_
 first|with_reducible refine ks [] @kw_ ?_|refine kp @kw_ ?_
 refine Ow.callC rfl rfl Tryz.call28 (fun w' hw'=>aa9_ 100 w' (by decide) (zI_ hG hw' trivial)) (fun B0 v0 D0 hA0 hB0 hN0 hS0=> ?_)
 obtain⟨G0,rfl,hP0⟩:=hS0
 rw[List.nil_append]
 have hE0:Ext w [] D0:=Ext.of_new (hN0.mono hB0)
 have hA0:DkA D0 G0 bl0 0:=⟨hP0,amN_ 100,ajw_ 100⟩
 refine ko @kw_ ?_
 first|with_reducible refine ks [] @kw_ ?_|refine kp @kw_ ?_
 refine Ow.callX (X:=D0) (Y:= []) (List.append_nil _).symm rfl rfl Tryz.call38 (fun w' hw' hX' hn'=>QQ_ D0 G0 bl0 0 ql_ [97] [120] w' hX' hn' hA0 (by omega) (by decide) (by decide)) (fun v1 D1 hC1 hS1=> ?_)
 rw[List.append_nil]
 obtain⟨rfl,G1,hb1,hA1⟩:=hS1
 have hE1:=hE0.came0 hC1
 have hA1':DkA D1 G1 bl1 (0+42):=hA1
 rw[as2_,←hb1]
 refine ko @kw_ ?_
 first|with_reducible refine ks [] @kw_ ?_|refine kp @kw_ ?_
 refine Ow.callX (X:=D1) (Y:= []) (List.append_nil _).symm rfl rfl Tryz.call39 (fun w' hw' hX' hn'=>VM_ D1 G1 bl1 (0+42) ql_ [98] [121] w' hX' hn' hA1' (by omega) (by decide) (by decide)) (fun v2 D2 hC2 hS2=> ?_)
 rw[List.append_nil]
 obtain⟨rfl,G2,hb2,hA2⟩:=hS2
 have hE2:=hE1.came0 hC2
 have hA2':DkA D2 G2 bl2 84:=hA2
 rw[asN_,←hb2]
 refine ko @kw_ ?_
 first|with_reducible refine ks [] @kw_ ?_|refine kp @kw_ ?_
 refine Ow.callX (X:=D2) (Y:= []) (List.append_nil _).symm rfl rfl Tryz.call22 (fun w' hw' hX' hn'=>ZB_ D2 G2 bl2 (.slice none 0 0) [] w' hX' hn' hA2'.P (zI_ hG hw' hE2.new0) (Xf_ hG hE2.new0) ((vk_ (q:=(bl2,[])) hA2'.B 3).b (by omega)) (.inl (SlV.nil w')) (fun h=>absurd rfl h) (by decide) (fun k hk=>⟨(hA2'.H k).2,hA2'.pend (by omega) k hk⟩)) (fun v3 D3 hC3 hS3=> ?_)
 rw[List.append_nil]
 obtain⟨G3,hb3,hP3⟩:=hS3
 have hE3:=hE2.came0 hC3
 have hA3:DkA D3 G3 bl3 84:=⟨hP3,QO_ hA2'.H _,Xt_ hA2'.B _⟩
 rw[←hb3]
 refine ko @kw_ ?_
 first|with_reducible refine ks [] @kw_ ?_|refine kp @kw_ ?_
 refine Ow.callFV rfl Tryz.call23 (fun w' hw'=>xw_ w' G3 bl3 ql_ [97] (hA3.P.world hw') (by decide)) ?_
 rw[asx_,asD_]
 refine ko @kw_ ?_
 first|with_reducible refine ks [] @kw_ ?_|refine kp @kw_ ?_
 refine Ow.callX (X:=D3) (Y:= []) (List.append_nil _).symm rfl rfl Tryz.call46 (fun w' hw' hX' hn'=>ahX_ D3 G3 bl3 84 w' hX' hn' hA3 (by omega)) (fun v4 D4 hC4 hS4=> ?_)
 rw[List.append_nil]
 obtain⟨rfl,G4,hb4,hA4⟩:=hS4
 have hE4:=hE3.came0 hC4
 have hA4':DkA D4 G4 bl4 672:=hA4
 rw[as0_,asz_,←hb4]
 refine ko @kw_ ?_
 have z0: ((0:Int)==0)=true:=rfl
 have z1: ((1:Int)==1)=true:=rfl
 have z2: (([120]:List UInt8)== [120])=true:=rfl
 first|with_reducible refine ks [] (And.intro @kw_ (And.intro @z0 (@z2))) ?_|refine kp (And.intro @kw_ (And.intro @z0 (@z2))) ?_
 refine Ow.callC rfl rfl Tryz.call79 (fun w' hw'=>Zm_ w' G4 bl4 ql_ (hA4'.P.world hw') (hA4'.b (by omega))) (fun B5 v5 D5 hA5 hB5 hN5 hS5=> ?_)
 have hN5':New w.heap.size (D4++D5):=hE4.new0.app (hN5.mono hB5)
 have ln5:=vd_ hS5
 rw[bl_l] at ln5
 refine ko (And.intro @kw_ (And.intro @ln5 (And.intro @z0 (And.intro @z1 (@z2))))) ?_
 refine Ow.callFV rfl Tryz.call44 (fun w' hw'=>X7_ [97,46,116,109,112] w' (by decide)) ?_
 refine ko @kw_ ?_
 refine⟨_,(ke @kw_),hN5', ?_⟩
 rfl
structure JbL where
 dir:List UInt8
 name:List UInt8
 data:List UInt8
 light:Bool
def jbC (r:JbL):List Value:= [vs r.dir]++ ([vs r.name]++ ([vs r.data]++ ([Value.bool r.light])))
def jb0:JbL:=⟨[],[],[],false⟩
theorem ap8_ (r:JbL): (jbC r).length=4:=by simp[jbC]
theorem Wu_ (r:JbL):Value.cells (.agg (jbC r).toArray)=(jbC r).toArray:=zg_ _
theorem arE_ (r:JbL):jbC r=([]:List Value)++ (([vs r.dir])++ ([vs r.name]++ ([vs r.data]++ ([Value.bool r.light])))):=by
 unfold jbC;simp only[List.append_assoc,List.nil_append,List.append_nil]
theorem WU_ (r:JbL) (n:Nat) (E:TypeId) (fz:Nat×Nat):zl_ (some (false,n)) (some (.cells (jbC r).toArray E fz)) 0=some (vs r.dir):=by
 rw[arE_];exact z1_ _ _ _ n E fz (by simp)
theorem arq_ (r:JbL):jbC r=(([vs r.dir]))++ (([vs r.name])++ ([vs r.data]++ ([Value.bool r.light]))):=by
 unfold jbC;simp only[List.append_assoc,List.nil_append,List.append_nil]
theorem W8_ (r:JbL) (n:Nat) (E:TypeId) (fz:Nat×Nat):zl_ (some (false,n)) (some (.cells (jbC r).toArray E fz)) 1=some (vs r.name):=by
 rw[arq_];exact z1_ _ _ _ n E fz (by simp)
theorem aqL_ (r:JbL):jbC r=(([vs r.dir])++ ([vs r.name]))++ (([vs r.data])++ ([Value.bool r.light])):=by
 unfold jbC;simp only[List.append_assoc,List.nil_append,List.append_nil]
theorem WY_ (r:JbL) (n:Nat) (E:TypeId) (fz:Nat×Nat):zl_ (some (false,n)) (some (.cells (jbC r).toArray E fz)) 2=some (vs r.data):=by
 rw[aqL_];exact z1_ _ _ _ n E fz (by simp)
theorem aqK_ (r:JbL):jbC r=(([vs r.dir])++ ([vs r.name])++ ([vs r.data]))++ (([Value.bool r.light])++ (([]:List Value))):=by
 unfold jbC;simp only[List.append_assoc,List.nil_append,List.append_nil]
theorem WO_ (r:JbL) (n:Nat) (E:TypeId) (fz:Nat×Nat):zl_ (some (false,n)) (some (.cells (jbC r).toArray E fz)) 3=some (Value.bool r.light):=by
 rw[aqK_];exact z1_ _ _ _ n E fz (by simp)
theorem adN_ (r:JbL) (E:TypeId) (fz:Nat×Nat):zl_ (some (true,4)) (some (.cells (jbC r).toArray E fz)) 0=some (.agg (jbC r).toArray):=xk_ _ E fz 4 (by rw[List.size_toArray,ap8_])
def VK_ (a:JbL):Bool:=decide (200<a.name.length) ||decide (2000<a.data.length) ||decide (50<a.dir.length)
theorem acw_ {a:JbL} (h:VK_ a=false):a.name.length≤200∧a.data.length≤2000∧a.dir.length≤50:=by
 unfold VK_ at h
 simp only[Bool.or_eq_false_iff,decide_eq_false_iff_not] at h
 omega
set_option linter.defProp false
def JI_:=And.intro (And.intro (And.intro (@zd_) (@zc_)) (And.intro (@adN_) (@WU_))) (And.intro (And.intro (@W8_) (@WY_)) (And.intro (@WO_) (@Wu_)))
theorem Kj_ (a:JbL) (w:World):Rets Tryz.prog 36 #[.agg (jbC a).toArray] w (fun v D=>v= .bool (VK_ a)∧D= []):=by
 refine Rets.enterV Tryz.func36 rfl (rs:= [.tmp 2]) Tryz.results36 Tryz.ntmps36 ?_
 refine kf ?_
 first|with_reducible refine ks [1] @JI_ ?_|refine kp @JI_ ?_
 refine Ow.box rfl rfl fun b1 hb1 hw1=> ?_
 simp only[qB_,qA_,qJ_,zg_,List.nil_append,List.cons_append]
 refine Ow.go rfl ?_
 simp(disch:=(first|assumption|omega| (simp only[VI_,Vi_,UInt64.reduceToNat];try omega))) only[↓Sx.S0,Sx.S1,Tryz.fx,JI_,Nat.reduceAdd,Nat.reducePow,Int.reducePow,Nat.reduceBEq, ↓reduceIte,UInt8.reduceToNat,UInt16.reduceToNat,UInt32.reduceToNat,UInt64.reduceToNat,Int.reduceToNat]
 unfold VK_
 cases h1:decide ((200:Int)< (a.name.length:Int)) with
 |true=>
  first|with_reducible refine ks [] (And.intro @JI_ @h1) ?_|refine kp (And.intro @JI_ @h1) ?_
  refine⟨_,(ke @JI_),⟨hw1,trivial⟩, ?_⟩
  (rw[decide_eq_true (show 200<a.name.length by have:=of_decide_eq_true h1;omega)];rfl)
 |false=>
  have g1:decide (200<a.name.length)=false:=decide_eq_false (by have:=of_decide_eq_false h1;omega)
  cases h2:decide ((2000:Int)< (a.data.length:Int)) with
  |true=>
   first|with_reducible refine ks [] (And.intro @JI_ (And.intro @h1 (@h2))) ?_|refine kp (And.intro @JI_ (And.intro @h1 (@h2))) ?_
   refine⟨_,(ke @JI_),⟨hw1,trivial⟩, ?_⟩
   (rw[decide_eq_true (show 2000<a.data.length by have:=of_decide_eq_true h2;omega),g1];rfl)
  |false=>
   have g2:decide (2000<a.data.length)=false:=decide_eq_false (by have:=of_decide_eq_false h2;omega)
   have g4:decide (50<a.dir.length)=decide ((50:Int)< (a.dir.length:Int)):=by
    congr 1
    rw[eq_iff_iff];omega
   first|with_reducible refine ks [] (And.intro @JI_ (And.intro @h1 (@h2))) ?_|refine kp (And.intro @JI_ (And.intro @h1 (@h2))) ?_
   refine⟨_,(ke @JI_),⟨hw1,trivial⟩, ?_⟩
   (rw[g1,g2,g4];rfl)
theorem ach_ (dir nm:List UInt8) (l:List FiL) {k:Nat} (h:k<l.length):JN_ dir nm (l.take (k+1))=JN_ dir nm (l.take k)++ (if Qw_ dir nm (l.getD k fi0)=true then [l.getD k fi0] else []):=by
 unfold JN_
 rw[StP.take_snoc (z:=fi0) h,List.filter_append,List.filter_cons,List.filter_nil]
theorem ago_ (dir nm:List UInt8) (l:List FiL) (k:Nat): (JN_ dir nm (l.take k)).length≤l.length:=by
 unfold JN_
 exact Nat.le_trans (List.length_filter_le _ _) (by rw[List.length_take];omega)
structure OtG where
 k:Nat
 v:Value
 D:za_
 DG:za_
set_option linter.defProp false
def q7_:=And.intro (And.intro (@zd_) (@zc_)) (And.intro (@WA_) (@xH_))
theorem kG_ (v1 v2:Value) (a b:List FiL) (dir nm:List UInt8) (w:World) (ha:FiSl w v1 a) (hb:FiSl w v2 b) (hal:a.length<1000000000) (hbl:b.length<1000000000) (hnm:nm.length≤900000):
  Rets Tryz.prog 40 #[v1,v2,vs dir,vs nm] w (fun v D=>v= .bool (decide (JN_ dir nm a=JN_ dir nm b))∧D= []):=by
 have ln1:=ha.len
 have ln2:=hb.len
 obtain⟨ra,offa,arra,Ea,fza,hra⟩:=ha.row
 obtain⟨rb,offb,arrb,Eb,fzb,hrb⟩:=hb.row
 refine Rets.enterV Tryz.func40 rfl (rs:= [.tmp 8]) Tryz.results40 Tryz.ntmps40 ?_
 refine kf ?_
 first|with_reducible refine ks [] @q7_ ?_|refine kp @q7_ ?_
 refine Cw.permL (M:= []++ []) (List.Perm.refl _) ?_
 refine Cw.loopG (G:=OtG) [13,14,15,16,19,20,21,22,23,24,25,26,27,28,29,30,31,32,33,34,35,36,37,38,39,40,41,42,43,44,45,46,47,48,49,50,51,9,17,18,11] (fun g=> [(9,g.v),(11,vi g.k)]) (fun g=>g.D++g.DG) (fun g=>g.k≤a.length∧New w.heap.size g.D∧New w.heap.size g.DG∧Gr g.D 36 3 g.v (JN_ dir nm (a.take g.k)).length ((JN_ dir nm (a.take g.k)).map fiC).flatten) (fun g=>a.length - g.k) ⟨0, .slice none 0 0,[],[]⟩ rfl rfl ?_ ?_
 ·exact⟨Nat.zero_le _,trivial,trivial,Gr.nl⟩
 intro g j hg
 refine kv ?_
 obtain⟨k,v,D,DG⟩:=g
 simp only at hg ⊢
 obtain⟨hk,hN,hNG,hGr⟩:=hg
 have hol:=ago_ dir nm a k
 have hNr:New w.heap.size (D++DG):=hN.app hNG
 by_cases hlt:k<a.length
 ·have d1:decide ((k:Int)< (a.length:Int))=true:=decide_eq_true (by omega)
  have ix:=hra.idx true k hlt
  have rda:zz_ w (D++DG) ra=some (.cells arra Ea fza):=by rw[qw_ (hNr.not (hra.lt (by omega)))];exact hra.has (by omega)
  have l0: ∀n,zl_ (some (false,n)) (some (.cells arra Ea fza)) (offa+k*3)=some (vs (a.getD k fi0).dir):=fun n=>by have:=aj9_ hra hlt n;rwa [Nat.add_zero] at this
  have l1:=fun n=>adV_ hra hlt n
  have lda:=af9_ hra hlt
  have hnx:=ach_ dir nm a hlt
  have hkf:Qw_ dir nm (a.getD k fi0)=(!((a.getD k fi0).dir==dir) || (!((a.getD k fi0).name==nm)&& !((a.getD k fi0).name==zJ_ nm))):=rfl
  generalize a.getD k fi0=f at*
  generalize JN_ dir nm (a.take k)=x at*
  cases e1: (f.dir==dir) with
  |false=>
   have n1: (f.dir !=dir)=true:=by unfold bne;rw[e1];rfl
   rw[e1] at hkf
   rw[if_pos (by rw[hkf];rfl)] at hnx
   first|with_reducible refine ks [] (And.intro @q7_ (And.intro @ln1 (And.intro @d1 (And.intro @ix (And.intro @rda (And.intro @l0 (And.intro @l1 (And.intro @lda (@n1))))))))) ?_|refine kp (And.intro @q7_ (And.intro @ln1 (And.intro @d1 (And.intro @ix (And.intro @rda (And.intro @l0 (And.intro @l1 (And.intro @lda (@n1))))))))) ?_
   refine Ow.buildSlice (e:=36) (fiC f).toArray rfl rfl (q0_ Tryz.underlying22 VF_ zrFi (by decide) (zT_ _)) fun bc hbc hwc=> ?_
   refine ko @q7_ ?_
   refine Ow.permL (M:=D++ (DG++ [(bc, .cells (fiC f).toArray 36 (0,0))])) (by classical exact List.perm_iff_count.2 fun a=>by simp only[List.count_append,List.count_cons,List.count_nil]<;>omega) ?_
   refine Ow.appendXG (e:=36) (k:=1) (new:=fiC f) (X:=D) v rfl rfl rfl rfl Tryz.underlying22 VF_ (by kernel_rfl) zrFi (by rw[xH_,List.size_toArray,zT_]) Tryz.underlying22 (by intro k h;cases h) hGr (fun w' hw'=>AppX.one1 (hw'.has bc (.cells (fiC f).toArray 36 (0,0)) (by simp)) (zT_ _) (QZ_ _)) (by omega) (fun B5 v5 D5 hA5 hB5 hG5 hk51 hk52 hlk5=> ?_)
   have hN5:New w.heap.size D5:=New.of_le fun q hq=>by
    rcases hk52 q hq with h|h
    ·exact hN.le q h
    ·omega
   refine ko @q7_ ?_
   first|with_reducible refine ks [] @q7_ ?_|refine kp @q7_ ?_
   exact Again.mk ⟨k+1,v5,D5,DG++ [(bc, .cells (fiC f).toArray 36 (0,0))]⟩ (by show a.length - (k+1)<a.length - k;omega) ⟨hlt,hN5,hNG.app ⟨hwc,trivial⟩,by rw[hnx,List.length_append,List.map_append,List.flatten_append];simpa using hG5⟩ rfl rfl
  |true=>
   have n1: (f.dir !=dir)=false:=by unfold bne;rw[e1];rfl
   cases e2: (f.name==nm) with
   |true=>
    have n2: (f.name !=nm)=false:=by unfold bne;rw[e2];rfl
    rw[e1,e2] at hkf
    rw[if_neg (by rw[hkf];simp)] at hnx
    first|with_reducible refine ks [] (And.intro @q7_ (And.intro @ln1 (And.intro @d1 (And.intro @ix (And.intro @rda (And.intro @l0 (And.intro @l1 (And.intro @lda (And.intro @n1 (@n2)))))))))) ?_|refine kp (And.intro @q7_ (And.intro @ln1 (And.intro @d1 (And.intro @ix (And.intro @rda (And.intro @l0 (And.intro @l1 (And.intro @lda (And.intro @n1 (@n2)))))))))) ?_
    exact Again.mk ⟨k+1,v,D,DG⟩ (by show a.length - (k+1)<a.length - k;omega) ⟨hlt,hN,hNG,by rw[hnx,List.append_nil];exact hGr⟩ rfl rfl
   |false=>
    have n2: (f.name !=nm)=true:=by unfold bne;rw[e2];rfl
    cases e3: (f.name==zJ_ nm) with
    |true=>
     have n3: (f.name !=nm++ [46,116,109,112])=false:=by unfold bne;unfold zJ_ at e3;rw[e3];rfl
     rw[e1,e2,e3] at hkf
     rw[if_neg (by rw[hkf];simp)] at hnx
     first|with_reducible refine ks [] (And.intro @q7_ (And.intro @ln1 (And.intro @d1 (And.intro @ix (And.intro @rda (And.intro @l0 (And.intro @l1 (And.intro @lda (And.intro @n1 (And.intro @n2 (@n3))))))))))) ?_|refine kp (And.intro @q7_ (And.intro @ln1 (And.intro @d1 (And.intro @ix (And.intro @rda (And.intro @l0 (And.intro @l1 (And.intro @lda (And.intro @n1 (And.intro @n2 (@n3))))))))))) ?_
     exact Again.mk ⟨k+1,v,D,DG⟩ (by show a.length - (k+1)<a.length - k;omega) ⟨hlt,hN,hNG,by rw[hnx,List.append_nil];exact hGr⟩ rfl rfl
    |false=>
     have n3: (f.name !=nm++ [46,116,109,112])=true:=by unfold bne;unfold zJ_ at e3;rw[e3];rfl
     rw[e1,e2,e3] at hkf
     rw[if_pos (by rw[hkf];rfl)] at hnx
     first|with_reducible refine ks [] (And.intro @q7_ (And.intro @ln1 (And.intro @d1 (And.intro @ix (And.intro @rda (And.intro @l0 (And.intro @l1 (And.intro @lda (And.intro @n1 (And.intro @n2 (@n3))))))))))) ?_|refine kp (And.intro @q7_ (And.intro @ln1 (And.intro @d1 (And.intro @ix (And.intro @rda (And.intro @l0 (And.intro @l1 (And.intro @lda (And.intro @n1 (And.intro @n2 (@n3))))))))))) ?_
     refine Ow.buildSlice (e:=36) (fiC f).toArray rfl rfl (q0_ Tryz.underlying22 VF_ zrFi (by decide) (zT_ _)) fun bc hbc hwc=> ?_
     refine ko @q7_ ?_
     refine Ow.permL (M:=D++ (DG++ [(bc, .cells (fiC f).toArray 36 (0,0))])) (by classical exact List.perm_iff_count.2 fun a=>by simp only[List.count_append,List.count_cons,List.count_nil]<;>omega) ?_
     refine Ow.appendXG (e:=36) (k:=1) (new:=fiC f) (X:=D) v rfl rfl rfl rfl Tryz.underlying22 VF_ (by kernel_rfl) zrFi (by rw[xH_,List.size_toArray,zT_]) Tryz.underlying22 (by intro k h;cases h) hGr (fun w' hw'=>AppX.one1 (hw'.has bc (.cells (fiC f).toArray 36 (0,0)) (by simp)) (zT_ _) (QZ_ _)) (by omega) (fun B5 v5 D5 hA5 hB5 hG5 hk51 hk52 hlk5=> ?_)
     have hN5:New w.heap.size D5:=New.of_le fun q hq=>by
      rcases hk52 q hq with h|h
      ·exact hN.le q h
      ·omega
     refine ko @q7_ ?_
     first|with_reducible refine ks [] @q7_ ?_|refine kp @q7_ ?_
     exact Again.mk ⟨k+1,v5,D5,DG++ [(bc, .cells (fiC f).toArray 36 (0,0))]⟩ (by show a.length - (k+1)<a.length - k;omega) ⟨hlt,hN5,hNG.app ⟨hwc,trivial⟩,by rw[hnx,List.length_append,List.map_append,List.flatten_append];simpa using hG5⟩ rfl rfl
 ·obtain rfl:k=a.length:=by omega
  have d1:decide ((a.length:Int)< (a.length:Int))=false:=decide_eq_false (by omega)
  rw[List.take_length] at hGr hol
  first|with_reducible refine ks [] (And.intro @q7_ (And.intro @ln1 (@d1))) ?_|refine kp (And.intro @q7_ (And.intro @ln1 (@d1))) ?_
  have hN1:=hN
  have hNG1:=hNG
  have hGr1:=hGr
  have hol1:=hol
  generalize JN_ dir nm a=x1 at*
  refine Cw.permL (M:= []++ (D++DG)) (List.Perm.refl _) ?_
  clear hNr hN hNG hGr hol
  generalize v=v_1 at*
  generalize D=D1 at*
  generalize DG=DG1 at*
  refine Cw.loopG (G:=OtG) [52,53,54,55,58,59,60,61,62,63,64,65,66,67,68,69,70,71,72,73,74,75,76,77,78,79,80,81,82,83,84,85,86,87,88,89,90,10,56,57,12] (fun g=> [(10,g.v),(12,vi g.k)]) (fun g=>g.D++ (D1++g.DG)) (fun g=>g.k≤b.length∧New w.heap.size g.D∧New w.heap.size g.DG∧Gr g.D 36 3 g.v (JN_ dir nm (b.take g.k)).length ((JN_ dir nm (b.take g.k)).map fiC).flatten) (fun g=>b.length - g.k) ⟨0, .slice none 0 0,[],DG1⟩ rfl rfl ?_ ?_
  ·exact⟨Nat.zero_le _,trivial,hNG1,Gr.nl⟩
  intro g j hg
  refine kv ?_
  obtain⟨k,v,D,DG⟩:=g
  simp only at hg ⊢
  obtain⟨hk,hN,hNG,hGr⟩:=hg
  have hol:=ago_ dir nm b k
  have hNr:New w.heap.size (D++ (D1++DG)):=hN.app (hN1.app hNG)
  by_cases hlt:k<b.length
  ·have d1:decide ((k:Int)< (b.length:Int))=true:=decide_eq_true (by omega)
   have ix:=hrb.idx true k hlt
   have rda:zz_ w (D++ (D1++DG)) rb=some (.cells arrb Eb fzb):=by rw[qw_ (hNr.not (hrb.lt (by omega)))];exact hrb.has (by omega)
   have l0: ∀n,zl_ (some (false,n)) (some (.cells arrb Eb fzb)) (offb+k*3)=some (vs (b.getD k fi0).dir):=fun n=>by have:=aj9_ hrb hlt n;rwa [Nat.add_zero] at this
   have l1:=fun n=>adV_ hrb hlt n
   have lda:=af9_ hrb hlt
   have hnx:=ach_ dir nm b hlt
   have hkf:Qw_ dir nm (b.getD k fi0)=(!((b.getD k fi0).dir==dir) || (!((b.getD k fi0).name==nm)&& !((b.getD k fi0).name==zJ_ nm))):=rfl
   generalize b.getD k fi0=f at*
   generalize JN_ dir nm (b.take k)=x at*
   cases e1: (f.dir==dir) with
   |false=>
    have n1: (f.dir !=dir)=true:=by unfold bne;rw[e1];rfl
    rw[e1] at hkf
    rw[if_pos (by rw[hkf];rfl)] at hnx
    first|with_reducible refine ks [] (And.intro @q7_ (And.intro @ln2 (And.intro @d1 (And.intro @ix (And.intro @rda (And.intro @l0 (And.intro @l1 (And.intro @lda (@n1))))))))) ?_|refine kp (And.intro @q7_ (And.intro @ln2 (And.intro @d1 (And.intro @ix (And.intro @rda (And.intro @l0 (And.intro @l1 (And.intro @lda (@n1))))))))) ?_
    refine Ow.buildSlice (e:=36) (fiC f).toArray rfl rfl (q0_ Tryz.underlying22 VF_ zrFi (by decide) (zT_ _)) fun bc hbc hwc=> ?_
    refine ko @q7_ ?_
    refine Ow.permL (M:=D++ (D1++ (DG++ [(bc, .cells (fiC f).toArray 36 (0,0))]))) (by classical exact List.perm_iff_count.2 fun a=>by simp only[List.count_append,List.count_cons,List.count_nil]<;>omega) ?_
    refine Ow.appendXG (e:=36) (k:=1) (new:=fiC f) (X:=D) v rfl rfl rfl rfl Tryz.underlying22 VF_ (by kernel_rfl) zrFi (by rw[xH_,List.size_toArray,zT_]) Tryz.underlying22 (by intro k h;cases h) hGr (fun w' hw'=>AppX.one1 (hw'.has bc (.cells (fiC f).toArray 36 (0,0)) (by simp)) (zT_ _) (QZ_ _)) (by omega) (fun B5 v5 D5 hA5 hB5 hG5 hk51 hk52 hlk5=> ?_)
    have hN5:New w.heap.size D5:=New.of_le fun q hq=>by
     rcases hk52 q hq with h|h
     ·exact hN.le q h
     ·omega
    refine ko @q7_ ?_
    first|with_reducible refine ks [] @q7_ ?_|refine kp @q7_ ?_
    exact Again.mk ⟨k+1,v5,D5,DG++ [(bc, .cells (fiC f).toArray 36 (0,0))]⟩ (by show b.length - (k+1)<b.length - k;omega) ⟨hlt,hN5,hNG.app ⟨hwc,trivial⟩,by rw[hnx,List.length_append,List.map_append,List.flatten_append];simpa using hG5⟩ rfl rfl
   |true=>
    have n1: (f.dir !=dir)=false:=by unfold bne;rw[e1];rfl
    cases e2: (f.name==nm) with
    |true=>
     have n2: (f.name !=nm)=false:=by unfold bne;rw[e2];rfl
     rw[e1,e2] at hkf
     rw[if_neg (by rw[hkf];simp)] at hnx
     first|with_reducible refine ks [] (And.intro @q7_ (And.intro @ln2 (And.intro @d1 (And.intro @ix (And.intro @rda (And.intro @l0 (And.intro @l1 (And.intro @lda (And.intro @n1 (@n2)))))))))) ?_|refine kp (And.intro @q7_ (And.intro @ln2 (And.intro @d1 (And.intro @ix (And.intro @rda (And.intro @l0 (And.intro @l1 (And.intro @lda (And.intro @n1 (@n2)))))))))) ?_
     exact Again.mk ⟨k+1,v,D,DG⟩ (by show b.length - (k+1)<b.length - k;omega) ⟨hlt,hN,hNG,by rw[hnx,List.append_nil];exact hGr⟩ rfl rfl
    |false=>
     have n2: (f.name !=nm)=true:=by unfold bne;rw[e2];rfl
     cases e3: (f.name==zJ_ nm) with
     |true=>
      have n3: (f.name !=nm++ [46,116,109,112])=false:=by unfold bne;unfold zJ_ at e3;rw[e3];rfl
      rw[e1,e2,e3] at hkf
      rw[if_neg (by rw[hkf];simp)] at hnx
      first|with_reducible refine ks [] (And.intro @q7_ (And.intro @ln2 (And.intro @d1 (And.intro @ix (And.intro @rda (And.intro @l0 (And.intro @l1 (And.intro @lda (And.intro @n1 (And.intro @n2 (@n3))))))))))) ?_|refine kp (And.intro @q7_ (And.intro @ln2 (And.intro @d1 (And.intro @ix (And.intro @rda (And.intro @l0 (And.intro @l1 (And.intro @lda (And.intro @n1 (And.intro @n2 (@n3))))))))))) ?_
      exact Again.mk ⟨k+1,v,D,DG⟩ (by show b.length - (k+1)<b.length - k;omega) ⟨hlt,hN,hNG,by rw[hnx,List.append_nil];exact hGr⟩ rfl rfl
     |false=>
      have n3: (f.name !=nm++ [46,116,109,112])=true:=by unfold bne;unfold zJ_ at e3;rw[e3];rfl
      rw[e1,e2,e3] at hkf
      rw[if_pos (by rw[hkf];rfl)] at hnx
      first|with_reducible refine ks [] (And.intro @q7_ (And.intro @ln2 (And.intro @d1 (And.intro @ix (And.intro @rda (And.intro @l0 (And.intro @l1 (And.intro @lda (And.intro @n1 (And.intro @n2 (@n3))))))))))) ?_|refine kp (And.intro @q7_ (And.intro @ln2 (And.intro @d1 (And.intro @ix (And.intro @rda (And.intro @l0 (And.intro @l1 (And.intro @lda (And.intro @n1 (And.intro @n2 (@n3))))))))))) ?_
      refine Ow.buildSlice (e:=36) (fiC f).toArray rfl rfl (q0_ Tryz.underlying22 VF_ zrFi (by decide) (zT_ _)) fun bc hbc hwc=> ?_
      refine ko @q7_ ?_
      refine Ow.permL (M:=D++ (D1++ (DG++ [(bc, .cells (fiC f).toArray 36 (0,0))]))) (by classical exact List.perm_iff_count.2 fun a=>by simp only[List.count_append,List.count_cons,List.count_nil]<;>omega) ?_
      refine Ow.appendXG (e:=36) (k:=1) (new:=fiC f) (X:=D) v rfl rfl rfl rfl Tryz.underlying22 VF_ (by kernel_rfl) zrFi (by rw[xH_,List.size_toArray,zT_]) Tryz.underlying22 (by intro k h;cases h) hGr (fun w' hw'=>AppX.one1 (hw'.has bc (.cells (fiC f).toArray 36 (0,0)) (by simp)) (zT_ _) (QZ_ _)) (by omega) (fun B5 v5 D5 hA5 hB5 hG5 hk51 hk52 hlk5=> ?_)
      have hN5:New w.heap.size D5:=New.of_le fun q hq=>by
       rcases hk52 q hq with h|h
       ·exact hN.le q h
       ·omega
      refine ko @q7_ ?_
      first|with_reducible refine ks [] @q7_ ?_|refine kp @q7_ ?_
      exact Again.mk ⟨k+1,v5,D5,DG++ [(bc, .cells (fiC f).toArray 36 (0,0))]⟩ (by show b.length - (k+1)<b.length - k;omega) ⟨hlt,hN5,hNG.app ⟨hwc,trivial⟩,by rw[hnx,List.length_append,List.map_append,List.flatten_append];simpa using hG5⟩ rfl rfl
  ·obtain rfl:k=b.length:=by omega
   have d1:decide ((b.length:Int)< (b.length:Int))=false:=decide_eq_false (by omega)
   rw[List.take_length] at hGr hol
   first|with_reducible refine ks [] (And.intro @q7_ (And.intro @ln2 (@d1))) ?_|refine kp (And.intro @q7_ (And.intro @ln2 (@d1))) ?_
   have hGi:=(Gr.i hGr (D:=D++ (D1++DG)) (fun q hq=>by simp[hq]))
   have hGi1:=(Gr.i hGr1 (D:=D++ (D1++DG)) (fun q hq=>by simp[hq]))
   refine Ow.callFV rfl Tryz.call25 (fun w' hw'=>KW_ v_1 v x1 (JN_ dir nm b) w' (hGi1.slV (z:=fi0) hw' rfl rfl zT_) (hGi.slV (z:=fi0) hw' rfl rfl zT_) (by omega)) ?_
   refine ko @q7_ ?_
   refine⟨_,(ke @q7_),hNr, ?_⟩
   rfl
end Go.Proofs
end
section
open Go Go.Proofs Go.Sx Go.StP Go.Flo
namespace Go.Proofs
set_option maxRecDepth 10000
set_option maxHeartbeats 1000000
set_option linter.unusedSimpArgs false
structure RfG where
 i:Nat
 S:DiskL
 G:DkG
 X:za_
 DG:za_
theorem ActOk.old {w w':World} {L:za_} {a:ActL} (h:ActOk w a) (hw:Hp w L w') (hn:New w.heap.size L):ActOk w' a:=
 ⟨h.pk.old hw fun hl _b hb=>hn.not (h.pk.blk hl hb),h.n⟩
theorem ActOk.pkb {w w':World} {X:za_} {a:ActL} (h:ActOk w a) (hs:w.heap.size≤w'.heap.size) (hn:New w.heap.size X):PkB w' X a.picks.l a.picks.v:=fun hl _b hb=>
 ⟨Nat.lt_of_lt_of_le (h.pk.blk hl hb) hs,hn.not (h.pk.blk hl hb)⟩
set_option linter.defProp false
def auF_:=And.intro (And.intro (@zd_) (And.intro (@zc_) (@QG_))) (And.intro (@Zc_) (And.intro (@XG_) (@Zp_)))
end Go.Proofs
end
section
open Go Go.Proofs Go.Sx Go.StP Go.Flo
namespace Go.Proofs
set_option maxRecDepth 10000
set_option maxHeartbeats 1000000
set_option linter.unusedSimpArgs false
theorem anF_ {S:DiskL} {a:ActL} (h6: ¬6≤a.kind.tmod 9):doA S a=doV S (a.kind.tmod 9) a.dir a.name a.s:=by
 unfold doA
 rw[if_neg (by omega),if_neg (by omega),if_neg (by omega)]
def HadL (n i:Nat):Prop:=n≤3000000* (i+1)
structure BgG where
 i:Nat
 S:DiskL
 G:DkG
 X:za_
 had:List FiL
 v:Value
 D:za_
 DG:za_
def inF (had:List FiL) (f:FiL):Bool:=had.any fun h=>h.dir==f.dir&& (decide (f.data.length≤h.data.length)&&h.data.take f.data.length==f.data)
structure InG where
 k:Nat
 c:Bool
set_option linter.defProp false
def aun_:=And.intro (And.intro (@zd_) (And.intro (@zc_) (@QG_))) (And.intro (@Zc_) (And.intro (@Zp_) (@xH_)))
end Go.Proofs
end
section
open Go Go.Proofs Go.Sx Go.StP
namespace Go.Proofs
set_option maxRecDepth 10000
set_option maxHeartbeats 400000
set_option linter.unusedSimpArgs false
theorem aba_ {l:NmL} {s:List UInt8} (h: ∀p,p∈l→p.1≠s):zo_ l s=none:=by
 cases hf:zo_ l s with
 |none=>rfl
 |some n=>exact absurd rfl (h _ (qa_ hf))
theorem Zz_ (l:NmL) (s:List UInt8):zo_ (jY_ l s) s=none:=aba_ fun _ hp=>(mem_wipe.1 hp).2
theorem kc_ {l:NmL} (h:SrtN l) (x:List UInt8×Nat):zo_ (JY_ l x) x.1=some x.2:=QB_ (Z3_ x h).nodup (mem_put.2 (.inl rfl))
theorem j5_ {S:DiskL} (hc:xd_ S) {dir:List UInt8} {k:Nat} (hk:zy_ dir=some k) (names:List (List UInt8)):qY_ S dir names=if names.all qS_=false then 1 else 0:=by
 unfold qY_
 rw[hk,hc.1]
 cases names.all qS_<;>simp
theorem Qz_ {S:DiskL} {k:Nat} {x d:List UInt8} (h:zK_ S k x=some d): ∃n,zo_ (S.dir k).seen x=some n∧(zm_ S n).data=d:=by
 unfold zK_ at h
 cases hf:zo_ (S.dir k).seen x with
 |none=>rw[hf] at h;cases h
 |some n=>rw[hf] at h;exact⟨n,rfl,Option.some.inj h⟩
theorem akQ_ {S:DiskL} {k:Nat} {x:List UInt8} (h:zK_ S k x=none):zo_ (S.dir k).seen x=none:=by
 unfold zK_ at h
 cases hf:zo_ (S.dir k).seen x with
 |none=>rfl
 |some n=>rw[hf] at h;cases h
theorem K7_ {S:DiskL} {dir:List UInt8} {k:Nat} (hk:zy_ dir=some k) (x:List UInt8):atD S dir x=zo_ (S.dir k).seen x:=by
 unfold atD
 rw[hk];rfl
theorem xA_ {S:DiskL} (hc:xd_ S) {dir:List UInt8} {k:Nat} (hk:zy_ dir=some k) {x:List UInt8} (hf:qS_ x=true):jP_ S dir x=match zK_ S k x with|none=>([],6) |some d=>(d,0):=by
 have h0:qY_ S dir [x]=0:=by rw[j5_ hc hk,if_neg (by simp[hf])]
 unfold jP_
 rw[if_neg (by rw[h0];simp)]
 have h1: ((zy_ dir).bind fun k=>zo_ (S.dir k).seen x)=zo_ (S.dir k).seen x:=by rw[hk];rfl
 rw[h1]
 unfold zK_
 cases zo_ (S.dir k).seen x<;>rfl
theorem kK_ {S:DiskL} {dir x:List UInt8} (h:zy_ dir=none∨qS_ x=false):jP_ S dir x=([],1):=by
 have h0:qY_ S dir [x]=1:=by
  unfold qY_
  rw[if_pos]
  rcases h with h|h
  ·exact .inl h
  ·right;simp[h]
 unfold jP_
 rw[if_pos (by rw[h0];simp),h0]
section
variable {S:DiskL} {dir x:List UInt8} {k:Nat}
theorem aeQ_ (hg:GoodS S) (hc:xd_ S) (hk:zy_ dir=some k) (hf:qS_ x=true) (hv:zK_ S k x=none): (zR_ S dir x).2=0∧zK_ (zR_ S dir x).1 k x=some []:=by
 have h0:qY_ S dir [x]=0:=by rw[j5_ hc hk,if_neg (by simp[hf])]
 have hk3:=(zE_ hk).1
 unfold zR_
 rw[if_neg (by rw[h0];simp),K7_ hk,akQ_ hv]
 simp only
 rw[ks_ hc,if_neg (by simp),hk]
 refine⟨rfl, ?_⟩
 show(zo_ ((xb_ (xU_ S qO_) k ⟨0,x,[],S.files.length⟩).dir k).seen x).map _=_
 rw[kN_,if_pos rfl]
 show(zo_ (JY_ (S.dir k).seen (x,S.files.length)) x).map _=_
 rw[kc_ (hg.srt k hk3) (x,S.files.length)]
 show some (zm_ (xU_ S qO_) S.files.length).data=_
 rw[abU_];rfl
theorem adB_ (hc:xd_ S) (hk:zy_ dir=some k) (hf:qS_ x=true) {d:List UInt8} (hv:zK_ S k x=some d): (zO_ S dir x).2=0∧zK_ (zO_ S dir x).1 k x=none:=by
 have h0:qY_ S dir [x]=0:=by rw[j5_ hc hk,if_neg (by simp[hf])]
 obtain⟨n,hn,-⟩:=Qz_ hv
 unfold zO_
 rw[if_neg (by rw[h0];simp),K7_ hk,hn]
 simp only
 rw[ks_ hc,if_neg (by simp),hk]
 refine⟨rfl, ?_⟩
 show(zo_ ((xb_ S k ⟨2,x,[],0⟩).dir k).seen x).map _=_
 rw[kN_,if_pos rfl]
 show(zo_ (jY_ (S.dir k).seen x) x).map _=_
 rw[Zz_];rfl
theorem adT_ (hg:GoodS S) (hc:xd_ S) (hk:zy_ dir=some k) (hf:qS_ x=true) {d:List UInt8} (hv:zK_ S k x=some d) (s:List UInt8): ((zS_ S dir x s).2=8∧(zS_ S dir x s).1=S)∨((zS_ S dir x s).2=0∧zK_ (zS_ S dir x s).1 k x=some (d++s)):=by
 have h0:qY_ S dir [x]=0:=by rw[j5_ hc hk,if_neg (by simp[hf])]
 obtain⟨n,hn,hd⟩:=Qz_ hv
 have hnl:=hg.lt k (zE_ hk).1 _ (qa_ hn)
 unfold zS_
 rw[if_neg (by rw[h0];simp),K7_ hk,hn]
 simp only
 by_cases hfl:XU_ S n s=true
 ·rw[if_pos hfl];exact .inl ⟨rfl,rfl⟩
 ·rw[if_neg hfl,ks_ hc,if_neg (by simp)]
  refine .inr ⟨rfl, ?_⟩
  show(zo_ (S.dir k).seen x).map (fun m=>(zm_ (wg_ S n _) m).data)=_
  rw[hn]
  show some (zm_ (wg_ S n _) n).data=_
  rw[xQ_ _ _ hnl,if_pos rfl,←hd]
theorem ajq_ (hg:GoodS S) (hc:xd_ S) (hk:zy_ dir=some k) (hf:qS_ x=true) {d:List UInt8} (hv:zK_ S k x=some d): (xY_ S dir x).2=0∧zK_ (xY_ S dir x).1 k x=some d:=by
 have h0:qY_ S dir [x]=0:=by rw[j5_ hc hk,if_neg (by simp[hf])]
 obtain⟨n,hn,hd⟩:=Qz_ hv
 have hnl:=hg.lt k (zE_ hk).1 _ (qa_ hn)
 unfold xY_
 rw[if_neg (by rw[h0];simp),K7_ hk,hn]
 simp only
 rw[ks_ hc,if_neg (by simp)]
 refine⟨rfl, ?_⟩
 show(zo_ (S.dir k).seen x).map (fun m=>(zm_ (wg_ S n _) m).data)=_
 rw[hn]
 show some (zm_ (wg_ S n _) n).data=_
 rw[xQ_ _ _ hnl,if_pos rfl,←hd]
theorem acV_ (hc:xd_ S) (hk:zy_ dir=some k): (zw_ S dir).2=0∧ ∀j y,zK_ (zw_ S dir).1 j y=zK_ S j y:=by
 have h0:qY_ S dir []=0:=by rw[j5_ hc hk,if_neg (by simp)]
 unfold zw_
 rw[if_neg (by rw[h0];simp),ks_ hc,if_neg (by simp),hk]
 refine⟨rfl,fun j y=> ?_⟩
 unfold zK_
 show(zo_ ((xy_ S k).dir j).seen y).map _=_
 rw[xz_];rfl
theorem adC_ (hg:GoodS S) (hc:xd_ S) (hk:zy_ dir=some k) (hf:qS_ x=true) {y:List UInt8} (hy:qS_ y=true) (hne:x≠y) {d:List UInt8} (hv:zK_ S k x=some d): (zQ_ S dir x y).2=0∧zK_ (zQ_ S dir x y).1 k y=some d∧zK_ (zQ_ S dir x y).1 k x=none:=by
 have h0:qY_ S dir [x,y]=0:=by rw[j5_ hc hk,if_neg (by simp[hf,hy])]
 obtain⟨n,hn,hd⟩:=Qz_ hv
 have hk3:=(zE_ hk).1
 unfold zQ_
 rw[if_neg (by rw[h0];simp),K7_ hk,hn]
 simp only
 rw[if_neg hne,ks_ hc,if_neg (by simp),hk]
 have hs: ((xb_ S k ⟨1,x,y,0⟩).dir k).seen=JY_ (jY_ (S.dir k).seen x) (y,n):=by
  rw[kN_,if_pos rfl]
  show JY_ (jY_ (S.dir k).seen x) (y,(zo_ (S.dir k).seen x).getD 0)=_
  rw[hn];rfl
 refine⟨rfl, ?_, ?_⟩
 ·show(zo_ ((xb_ S k ⟨1,x,y,0⟩).dir k).seen y).map _=_
  rw[hs,kc_ (w1_ _ (hg.srt k hk3)) (y,n)]
  exact congrArg some hd
 ·show(zo_ ((xb_ S k ⟨1,x,y,0⟩).dir k).seen x).map _=_
  rw[hs,aaA_ (x:=(y,n)) (Ne.symm hne),Zz_];rfl
theorem ahg_ (hc:xd_ S) (hk:zy_ dir=some k) {y:List UInt8} (hy:qS_ y=false):zQ_ S dir x y=(S,1):=by
 have h0:qY_ S dir [x,y]=1:=by rw[j5_ hc hk,if_pos (by simp[hy])]
 unfold zQ_
 rw[if_pos (by rw[h0];simp),h0]
theorem ag6_ (h:zy_ dir=none∨qS_ x=false):zR_ S dir x=(S,1):=by
 have h0:qY_ S dir [x]=1:=by
  unfold qY_
  rw[if_pos]
  rcases h with h|h
  ·exact .inl h
  ·right;simp[h]
 unfold zR_
 rw[if_pos (by rw[h0];simp),h0]
end
theorem apa_ (k:Nat) (t:TkL) (S:DiskL): ∃kind s e,StepD S kind t.dir (zJ_ t.name) s (phT k t S).S e∧(kind=4→s=t.name):=by
 unfold phT
 split
 ·unfold wU_
  split
  ·exact⟨0,[],1, .same 1 (.inl (by decide)),fun h=>by cases h⟩
  ·exact⟨5,[],_,ju_ S _ _ _,fun h=>by cases h⟩
 ·exact⟨0,[],_,kz_ S _ _ _,fun h=>by cases h⟩
 ·exact⟨1,t.data,_,kr_ S _ _ _,fun h=>by cases h⟩
 ·unfold akN_
  split
  ·exact⟨0,[],1, .same 1 (.inl (by decide)),fun h=>by cases h⟩
  ·exact⟨2,[],_,wO_ S _ _ _,fun h=>by cases h⟩
 ·exact⟨4,t.name,_,ko_ S _ _ _,fun _=>rfl⟩
 ·unfold Ku_
  split
  ·exact⟨0,[],1, .same 1 (.inl (by decide)),fun h=>by cases h⟩
  ·exact⟨3,[],_,wu_ S _ (zJ_ t.name) [],fun h=>by cases h⟩
theorem ah9_ (r:PhR): ∃e,StepD r.S 5 r.t.dir (zJ_ r.t.name) [] (qi_ r).S e:=by
 unfold qi_
 split
 ·exact⟨_,ju_ r.S _ _ _⟩
 ·exact⟨1, .same 1 (.inl (by decide))⟩
theorem afD_ (Q:DiskL→Prop) (dir nm:List UInt8) (hQ: ∀ (S S':DiskL) (kind:Int) (s:List UInt8) (e:Nat),Q S→StepD S kind dir (zJ_ nm) s S' e→(kind=4→s=nm)→Q S'):
  ∀ (f:Nat) (t:TkL) (S:DiskL),t.dir=dir→t.name=nm→Q S→Q (phG f t S).2
 |0,_,_,_,_,h=>h
 |f+1,t,S,hd,hn,h=>by
  obtain⟨kind,s,e,h1,h2⟩:=apa_ t.next t S
  rw[hd,hn] at h1
  rw[hn] at h2
  have h3:=hQ _ _ _ _ _ h h1 h2
  obtain⟨d1,d2,-⟩:=ajT_ t.next t S
  unfold phG
  split
  ·obtain⟨e',h4⟩:=ah9_ (phT t.next t S)
   rw[d1,d2,hd,hn] at h4
   exact hQ _ _ _ _ _ h3 h4 fun h=>by cases h
  ·split
   ·exact h3
   ·obtain⟨f1,f2,-⟩:=adt_ t.next t S
    exact afD_ Q dir nm hQ f _ _ (f1.trans hd) (f2.trans hn) h3
structure OthS (S S':DiskL) (dir nm:List UInt8):Prop where
 good:GoodS S'
 view: ∀j,j<3→ ∀x,OthN dir nm j x→zK_ S' j x=zK_ S j x
theorem apM_ {S:DiskL} (hg:GoodS S) (dir nm data:List UInt8) (light:Bool):OthS S (kP_ S dir nm data light).2 dir nm:=
 afD_ (fun S'=>OthS S S' dir nm) dir nm (fun A B kind s e hA hst h4=>⟨xr_ hA.good hst,fun j hj x hx=>(acx_ hA.good hst hj fun hd=>⟨(hx hd).2,fun h=>by rw[h4 h];exact(hx hd).1⟩).trans (hA.view j hj x hx)⟩) 6 (tk0 dir nm data light) S rfl rfl ⟨hg,fun _ _ _ _=>rfl⟩
theorem af6_ {S:DiskL} (hc:xd_ S) (dir nm data:List UInt8) (light:Bool):xd_ (kP_ S dir nm data light).2:=
 afD_ xd_ dir nm (fun _ _ _ _ _ hA hst _=>kn_ hA hst) 6 (tk0 dir nm data light) S rfl rfl hc
end Go.Proofs
end
section
open Go Go.Proofs Go.Sx Go.StP
namespace Go.Proofs
set_option maxRecDepth 10000
set_option maxHeartbeats 400000
set_option linter.unusedSimpArgs false
theorem jG_ {f:Nat} {t t':TkL} {S:DiskL} {r:PhR} (hr:phT t.next t S=r) (he:r.e=0) (hn:Wl_ (nxT r)=false) (ht:kd_ r=t'):phG (f+1) t S=phG f t' r.S:=by
 conv=>lhs;unfold phG
 rw[hr,if_neg (by rw[he];simp),if_neg (by rw[hn];simp),ht]
theorem xp_ {f:Nat} {t:TkL} {S:DiskL} {r:PhR} (hr:phT t.next t S=r) (he:r.e≠0):phG (f+1) t S=((qi_ r).e,(qi_ r).S):=by
 unfold phG
 rw[hr,if_pos he]
theorem aeM_ {f:Nat} {t:TkL} {S:DiskL} {r:PhR} (hr:phT t.next t S=r) (he:r.e=0) (hn:Wl_ (nxT r)=true):phG (f+1) t S=(0,r.S):=by
 unfold phG
 rw[hr,if_neg (by rw[he];simp),if_pos hn]
def tkN (dir nm data:List UInt8) (light:Bool) (n:Nat) (made:Bool):TkL:=⟨dir,nm,data,light,n,made,false⟩
theorem all_ {S:DiskL} {dir nm:List UInt8} (data:List UInt8) (light:Bool) (h:zy_ dir=none∨qS_ (zJ_ nm)=false):kP_ S dir nm data light=(1,S):=by
 have h0:phT 0 (tk0 dir nm data light) S=⟨false,0,tk0 dir nm data light,S⟩:=by
  show wU_ _ S=_
  unfold wU_
  have hr:=kK_ (S:=S) (dir:=dir) (x:=zJ_ nm) h
  rw[if_pos (by show(jP_ S dir (zJ_ nm)).2≠0;rw[hr];simp)]
 have h1:phT 1 (tkN dir nm data light 1 false) S=⟨true,1,tkN dir nm data light 1 false,S⟩:=by
  show XX_ _ S=_
  have hr:=ag6_ (S:=S) (dir:=dir) (x:=zJ_ nm) h
  unfold XX_
  show PhR.mk true (zR_ S dir (zJ_ nm)).2 {tkN dir nm data light 1 false with made:=(zR_ S dir (zJ_ nm)).2==0} (zR_ S dir (zJ_ nm)).1=_
  rw[hr];rfl
 unfold kP_
 rw[jG_ (t':=tkN dir nm data light 1 false) h0 rfl (by cases light<;>rfl) (by cases light<;>rfl),xp_ h1 (by simp)]
 rfl
theorem ann_ {S:DiskL} (hg:GoodS S) (hc:xd_ S) {dir nm:List UInt8} {k:Nat} (hk:zy_ dir=some k) (hf:qS_ (zJ_ nm)=true) (data:List UInt8) (light:Bool):
  (∃S',kP_ S dir nm data light=(8,S')∧ ∀x,x≠zJ_ nm→zK_ S' k x=zK_ S k x)∨
  (∃S',kP_ S dir nm data light=phG 2 (tkN dir nm data light 4 true) S'∧GoodS S'∧xd_ S'∧zK_ S' k (zJ_ nm)=some data∧ ∀x,x≠zJ_ nm→zK_ S' k x=zK_ S k x):=by
 have hd:qP_ k=dir:=(zE_ hk).2.symm
 have hk3:=(zE_ hk).1
 have other: ∀ {A B:DiskL} {kind:Int} {s:List UInt8} {e:Nat},GoodS A→StepD A kind dir (zJ_ nm) s B e→kind≠4→ ∀x,x≠zJ_ nm→zK_ B k x=zK_ A k x:=fun hA hst h4 x hx=>acx_ hA hst hk3 fun _=>⟨hx,fun h=>absurd h h4⟩
 obtain⟨S1,h0,g1,c1,v1,o1⟩: ∃S1,(∃b,phT 0 (tk0 dir nm data light) S=⟨b,0,tk0 dir nm data light,S1⟩)∧GoodS S1∧xd_ S1∧zK_ S1 k (zJ_ nm)=none∧ ∀x,x≠zJ_ nm→zK_ S1 k x=zK_ S k x:=by
  have hr:=xA_ hc hk hf
  show∃S1,(∃b,wU_ (tk0 dir nm data light) S=_)∧_
  unfold wU_
  cases hv:zK_ S k (zJ_ nm) with
  |none=>
   rw[hv] at hr
   exact⟨S,⟨false,by rw[if_pos (by show(jP_ S dir (zJ_ nm)).2≠0;rw[hr];simp)]⟩,hg,hc,hv,fun _ _=>rfl⟩
  |some d=>
   rw[hv] at hr
   obtain⟨r1,r2⟩:=adB_ hc hk hf hv
   have st:=ju_ S dir (zJ_ nm) []
   refine⟨(zO_ S dir (zJ_ nm)).1,⟨true, ?_⟩,xr_ hg st,kn_ hc st,r2,other hg st (by decide)⟩
   rw[if_neg (by show¬ (jP_ S dir (zJ_ nm)).2≠0;rw[hr];simp)]
   show PhR.mk true (zO_ S dir (zJ_ nm)).2 _ _=_
   rw[r1];rfl
 obtain⟨b0,h0⟩:=h0
 obtain⟨r1,r2⟩:=aeQ_ g1 c1 hk hf v1
 have st2:=kz_ S1 dir (zJ_ nm) []
 have g2:=xr_ g1 st2
 have c2:=kn_ c1 st2
 have o2:=other g1 st2 (by decide)
 have h1:phT 1 (tkN dir nm data light 1 false) S1=⟨true,0,tkN dir nm data light 1 true,(zR_ S1 dir (zJ_ nm)).1⟩:=by
  show PhR.mk true (zR_ S1 dir (zJ_ nm)).2 {tkN dir nm data light 1 false with made:=(zR_ S1 dir (zJ_ nm)).2==0} _=_
  rw[r1];rfl
 generalize (zR_ S1 dir (zJ_ nm)).1=S2 at*
 have st3:=kr_ S2 dir (zJ_ nm) data
 have g3:=xr_ g2 st3
 have c3:=kn_ c2 st3
 have o3:=other g2 st3 (by decide)
 have h2:phT 2 (tkN dir nm data light 2 true) S2=⟨true,(zS_ S2 dir (zJ_ nm) data).2,tkN dir nm data light 2 true,(zS_ S2 dir (zJ_ nm) data).1⟩:=rfl
 have hp:kP_ S dir nm data light=phG 4 (tkN dir nm data light 2 true) S2:=by
  unfold kP_
  rw[jG_ (t':=tkN dir nm data light 1 false) h0 rfl (by cases light<;>rfl) (by cases light<;>rfl),jG_ (t':=tkN dir nm data light 2 true) h1 rfl (by cases light<;>rfl) (by cases light<;>rfl)]
 rcases adT_ g2 c2 hk hf r2 data with⟨a1,a2⟩ | ⟨a1,a2⟩
 ·left
  have st4:=ju_ S2 dir (zJ_ nm) []
  refine⟨(zO_ S2 dir (zJ_ nm)).1, ?_,fun x hx=>(other g2 st4 (by decide) x hx).trans ((o2 x hx).trans (o1 x hx))⟩
  rw[hp,xp_ h2 (by show(zS_ S2 dir (zJ_ nm) data).2≠0;rw[a1];simp)]
  unfold qi_
  rw[if_pos ⟨rfl,by show(zS_ S2 dir (zJ_ nm) data).2≠9;rw[a1];simp⟩]
  show((zS_ S2 dir (zJ_ nm) data).2,(zO_ (zS_ S2 dir (zJ_ nm) data).1 dir (zJ_ nm)).1)=_
  rw[a1,a2]
 ·right
  rw[List.nil_append] at a2
  rw[hp,jG_ (t':=tkN dir nm data light 3 true) h2 a1 (by cases light<;>rfl) (by cases light<;>rfl)]
  show∃S',phG 3 _ (zS_ S2 dir (zJ_ nm) data).1=_∧_
  generalize (zS_ S2 dir (zJ_ nm) data).1=S3 at*
  have o3': ∀x,x≠zJ_ nm→zK_ S3 k x=zK_ S k x:=fun x hx=>(o3 x hx).trans ((o2 x hx).trans (o1 x hx))
  cases light with
  |true=>
   have h3:phT 3 (tkN dir nm data true 3 true) S3=⟨false,0,tkN dir nm data true 3 true,S3⟩:=rfl
   exact⟨S3,by rw[jG_ (t':=tkN dir nm data true 4 true) h3 rfl rfl rfl],g3,c3,a2,o3'⟩
  |false=>
   obtain⟨s1,s2⟩:=ajq_ g3 c3 hk hf a2
   have st5:=wO_ S3 dir (zJ_ nm) []
   have h3:phT 3 (tkN dir nm data false 3 true) S3=⟨true,0,tkN dir nm data false 3 true,(xY_ S3 dir (zJ_ nm)).1⟩:=by
    show PhR.mk true (xY_ S3 dir (zJ_ nm)).2 _ _=_
    rw[s1];rfl
   exact⟨_,by rw[jG_ (t':=tkN dir nm data false 4 true) h3 rfl rfl rfl],xr_ g3 st5,kn_ c3 st5,s2,fun x hx=>(other g3 st5 (by decide) x hx).trans (o3' x hx)⟩
theorem akS_ {S:DiskL} (hg:GoodS S) (hc:xd_ S) (dir nm data:List UInt8):
  ((kP_ S dir nm data false).1≠0→jP_ (kP_ S dir nm data false).2 dir nm=jP_ S dir nm)∧
  ((kP_ S dir nm data false).1=0→jP_ (kP_ S dir nm data false).2 dir nm=(data,0)∧(jP_ (kP_ S dir nm data false).2 dir (zJ_ nm)).2≠0):=by
 have hcp:=af6_ hc dir nm data false
 by_cases h:zy_ dir=none∨qS_ (zJ_ nm)=false
 ·rw[all_ data false h]
  exact⟨fun _=>rfl,fun h=>by cases h⟩
 ·obtain⟨k,hk⟩: ∃k,zy_ dir=some k:=by
   cases hk:zy_ dir with
   |none=>exact absurd (.inl hk) h
   |some k=>exact⟨k,rfl⟩
  have hf:qS_ (zJ_ nm)=true:=by
   cases hf:qS_ (zJ_ nm) with
   |true=>rfl
   |false=>exact absurd (.inr hf) h
  have same: ∀S':DiskL,xd_ S'→zK_ S' k nm=zK_ S k nm→jP_ S' dir nm=jP_ S dir nm:=fun S' hc' hv=>by
   cases hfn:qS_ nm with
   |true=>rw[xA_ hc' hk hfn,xA_ hc hk hfn,hv]
   |false=>rw[kK_ (.inr hfn),kK_ (.inr hfn)]
  rcases ann_ hg hc hk hf data false with⟨S',h1,h2⟩ | ⟨S',h1,g4,c4,v4,o4⟩
  ·rw[h1] at hcp ⊢
   exact⟨fun _=>same S' hcp (h2 nm (Ne.symm (Wi_ nm))),fun h=>by cases h⟩
  ·have hne:=Wi_ nm
   cases hfn:qS_ nm with
   |false=>
    have rb:=ahg_ (x:=zJ_ nm) c4 hk hfn
    have h4:phT 4 (tkN dir nm data false 4 true) S'=⟨true,1,tkN dir nm data false 4 true,S'⟩:=by
     show PhR.mk true (zQ_ S' dir (zJ_ nm) nm).2 {tkN dir nm data false 4 true with made:=true&& (zQ_ S' dir (zJ_ nm) nm).2 !=0} (zQ_ S' dir (zJ_ nm) nm).1=_
     rw[rb];rfl
    have hr:kP_ S dir nm data false=(1,(zO_ S' dir (zJ_ nm)).1):=by
     rw[h1,xp_ h4 (by simp)];rfl
    rw[hr] at hcp ⊢
    exact⟨fun _=>by rw[kK_ (.inr hfn),kK_ (.inr hfn)],fun h=>by cases h⟩
   |true=>
    obtain⟨n1,n2,n3⟩:=adC_ g4 c4 hk hf hfn hne v4
    have st:=ko_ S' dir (zJ_ nm) nm
    have c5:=kn_ c4 st
    have h4:phT 4 (tkN dir nm data false 4 true) S'=⟨true,0,tkN dir nm data false 4 false,(zQ_ S' dir (zJ_ nm) nm).1⟩:=by
     show PhR.mk true (zQ_ S' dir (zJ_ nm) nm).2 {tkN dir nm data false 4 true with made:=true&& (zQ_ S' dir (zJ_ nm) nm).2 !=0} _=_
     rw[n1];rfl
    generalize (zQ_ S' dir (zJ_ nm) nm).1=S5 at*
    obtain⟨d1,d2⟩:=acV_ c5 hk
    have h5:phT 5 (tkN dir nm data false 5 false) S5=⟨true,0,tkN dir nm data false 5 false,(zw_ S5 dir).1⟩:=by
     show PhR.mk true (zw_ S5 dir).2 _ _=_
     rw[d1];rfl
    have hr:kP_ S dir nm data false=(0,(zw_ S5 dir).1):=by
     rw[h1,jG_ (t':=tkN dir nm data false 5 false) h4 rfl rfl rfl,aeM_ h5 rfl rfl]
    rw[hr] at hcp ⊢
    refine⟨fun h=>absurd rfl h,fun _=>⟨?_, ?_⟩⟩
    ·rw[xA_ hcp hk hfn]
     show(match zK_ (zw_ S5 dir).1 k nm with|none=>([],6) |some d=>(d,0))=_
     rw[d2,n2]
    ·rw[xA_ hcp hk hf]
     show(match zK_ (zw_ S5 dir).1 k (zJ_ nm) with|none=>(([],6):List UInt8×Nat) |some d=>(d,0)).2≠0
     rw[d2,n3];simp
end Go.Proofs
end
section
open Go Go.Proofs Go.Sx Go.StP Go.Flo
namespace Go.Proofs
set_option maxRecDepth 10000
set_option maxHeartbeats 1000000
set_option linter.unusedSimpArgs false
theorem arv_ {S:DiskL} (hg:GoodS S) (hc:xd_ S) (dir nm data:List UInt8):JN_ dir nm (jc_ S)=JN_ dir nm (jc_ (kP_ S dir nm data false).2):=
 have ho:=apM_ hg dir nm data false
 (aa8_ (by rw[(af6_ hc dir nm data false).1,hc.1]) hg.srt ho.good.srt dir nm fun j hj x hx=>ho.view j hj x hx).symm
theorem vD_ {w0:World} {L X D:za_} {b:Nat} (hC:Came w0 L X D) (hX:b∉keys X) (hL:b∈keys L):b∉keys D:=fun hm=>by
 rcases hC.new b hm with h| ⟨h,-⟩
 ·exact hX h
 ·have:=zv_ h hL;omega
def jbO (jb:JbL):Obj:= .cells (jbC jb).toArray 66 (0,0)
theorem Jl_ (w:World) {X:za_} {b:Nat} (o:Obj) (Y:za_) (h:b∉keys X):zz_ w (X++ ((b,o)::Y)) b=some o:=zb_ (by rw[zW_ h];simp[Sx.look])
structure PfG where
 i:Nat
 S:DiskL
 G:DkG
 X:za_
 DG:za_
set_option linter.defProp false
def zC_:=And.intro (And.intro (And.intro (And.intro (@zd_) (@zc_)) (And.intro (@Sx.tup2_0) (@Sx.tup2_1))) (And.intro (And.intro (@QG_) (@Zc_)) (And.intro (@Xh_) (@J8_)))) (And.intro (And.intro (And.intro (@J0_) (@XG_)) (And.intro (@Zp_) (@adN_))) (And.intro (And.intro (@WU_) (@W8_)) (And.intro (@WY_) (And.intro (@WO_) (@Wu_)))))
theorem QE_ (quota:Int) (v1 v2:Value) (l:List FiL) (acts:List ActL) (jb:JbL) (w:World) (hG:Qk_ w) (hq: -9223372036854775808≤quota∧quota<9223372036854775808) (hv:FiSl w v1 l) (hb:FiB l) (hva:AcSl w v2 acts) (hao: ∀a,a∈acts→ActOk w a):
  Rets Tryz.prog 9 #[vi quota,v1,v2, .agg (jbC jb).toArray] w (fun v D=>v= .bool true∧D= []):=by
 have ln:=hva.len
 obtain⟨rb,off,arr,E,fz,hr⟩:=hva.row
 refine Rets.enterV Tryz.func9 rfl (rs:= [.tmp 8]) Tryz.results9 Tryz.ntmps9 ?_
 refine kf ?_
 first|with_reducible refine ks [1000006] @zC_ ?_|refine kp @zC_ ?_
 refine Ow.box rfl rfl fun b7 hb7 hw7=> ?_
 simp only[qB_,qA_,qJ_,zg_,List.nil_append,List.cons_append]
 have hNj:New w.heap.size [(b7,Obj.cells (jbC jb).toArray 66 (0,0))]:=⟨hw7,trivial⟩
 refine ko @zC_ ?_
 first|with_reducible refine ks [] @zC_ ?_|refine kp @zC_ ?_
 refine Ow.callFV rfl Tryz.call35 (fun w' hw'=>z5_ w' (zI_ hG hw' hNj)) ?_
 refine ko @zC_ ?_
 first|with_reducible refine ks [] @zC_ ?_|refine kp @zC_ ?_
 refine Ow.callFV rfl Tryz.call15 (fun w' hw'=>Jw_ v1 (.slice none 0 0) l [] w' (hv.oldN hw' hNj) hb (SlV.nil w') (by simp)) ?_
 cases hgt:Jt_ l [] with
 |true=>
  refine ko @zC_ ?_
  first|with_reducible refine ks [] @zC_ ?_|refine kp @zC_ ?_
  refine Ow.callFV rfl Tryz.call35 (fun w' hw'=>z5_ w' (zI_ hG hw' hNj)) ?_
  refine ko @zC_ ?_
  first|with_reducible refine ks [] @zC_ ?_|refine kp @zC_ ?_
  refine⟨_,(ke @zC_),hNj, ?_⟩
  rfl
 |false=>
  obtain⟨hll,-,hlb⟩:=acJ_ hgt
  refine ko @zC_ ?_
  refine Ow.callFV rfl Tryz.call36 (fun w' hw'=>Kj_ jb w') ?_
  cases hgj:VK_ jb with
  |true=>
   refine ko @zC_ ?_
   first|with_reducible refine ks [] @zC_ ?_|refine kp @zC_ ?_
   refine Ow.callFV rfl Tryz.call35 (fun w' hw'=>z5_ w' (zI_ hG hw' hNj)) ?_
   refine ko @zC_ ?_
   first|with_reducible refine ks [] @zC_ ?_|refine kp @zC_ ?_
   refine⟨_,(ke @zC_),hNj, ?_⟩
   rfl
  |false=>
   obtain⟨j1,j2,j3⟩:=acw_ hgj
   refine ko @zC_ ?_
   first|with_reducible refine ks [] @zC_ ?_|refine kp @zC_ ?_
   refine Ow.callC rfl rfl Tryz.call16 (fun w' hw'=>WL_ quota v1 l w' hq (zI_ hG hw' hNj) (hv.oldN hw' hNj) (by omega) hb) (fun B0 v0 D0 hA0 hB0 hN0 hS0=> ?_)
   obtain⟨G0,rfl,hP0⟩:=hS0
   have hN0':New w.heap.size D0:=hN0.mono hB0
   have hb0:b7∉keys D0:=hN0.not (zv_ hA0 (by simp[keys]))
   have hD0:DkA D0 G0 (ofD quota l) l.length:=⟨hP0,ac7_ quota l,aok_ quota l fun f hf=>by have:=(hlb f hf).1;omega⟩
   refine ko @zC_ ?_
   first|with_reducible refine ks [1000006] (And.intro @zC_ @ln) ?_|refine kp (And.intro @zC_ @ln) ?_
   refine Cw.permL (M:=D0++ ((b7, .cells (jbC jb).toArray 66 (0,0)):: [])) (by classical exact List.perm_iff_count.2 fun a=>by simp only[List.count_append,List.count_cons,List.count_nil]<;>omega) ?_
   refine Cw.cutO (G:=PfG) [10,11,32,33,34,35,36,37,38,39,40,41,42,43,44,45,46,47,48,49,50,51,52,53,54,55,56,57,58,59,60,61,62,63,64,65,66,67,68,69,70] (fun g=> []) (fun g=>g.X++ ((b7, .cells (jbC jb).toArray 66 (0,0))::g.DG)) (fun g=>g.i≤20∧DkA g.X g.G g.S (l.length+g.i)∧wl_ g.S∧xd_ g.S∧g.G.bd=G0.bd∧New w.heap.size g.X∧New w.heap.size g.DG∧b7∉keys g.X) ?_ ?_
   ·first|with_reducible refine ks [] (And.intro @zC_ @ln) ?_|refine kp (And.intro @zC_ @ln) ?_
    refine Cw.loopG (G:=PfG) [32,33,34,35,36,37,38,39,42,43,44,45,11,46,47,48,49,50,51,52,53,54,55,56,57,58,59,60,61,62,63,64,65,66,67,68,69,70,40,41,10] (fun g=> [(10,vi g.i)]) (fun g=>g.X++ ((b7, .cells (jbC jb).toArray 66 (0,0))::g.DG)) (fun g=>g.i≤acts.length∧g.i≤20∧DkA g.X g.G g.S (l.length+g.i)∧wl_ g.S∧xd_ g.S∧g.G.bd=G0.bd∧New w.heap.size g.X∧New w.heap.size g.DG∧b7∉keys g.X) (fun g=>acts.length - g.i) ⟨0,ofD quota l,G0,D0,[]⟩ rfl rfl ?_ ?_
    ·exact⟨Nat.zero_le _,Nat.zero_le _,hD0,ajZ_ quota l,(aj8_ quota l).1,rfl,hN0',trivial,hb0⟩
    intro g j hg
    refine kv ?_
    clear hD0 hN0' hP0 hb0
    obtain⟨i,S,G,X,DG⟩:=g
    simp only at hg ⊢
    obtain⟨hi,hi2,hA,hU,hC,hbd,hN,hNG,hbX⟩:=hg
    rw[←hbd]
    have hNr:New w.heap.size (X++ ((b7,Obj.cells (jbC jb).toArray 66 (0,0))::DG)):=hN.app (show New w.heap.size ((b7,_)::DG) from⟨hw7,hNG⟩)
    by_cases hlt:i<acts.length∧i<20
    ·have d1:decide ((i:Int)< (acts.length:Int))=true:=decide_eq_true (by omega)
     have d2:decide ((i:Int)<20)=true:=decide_eq_true (by omega)
     have ix:=hr.idx true i hlt.1
     have rda:zz_ w (X++ ((b7, .cells (jbC jb).toArray 66 (0,0))::DG)) rb=some (.cells arr E fz):=by rw[qw_ (hNr.not (hr.lt (by omega)))];exact hr.has (by omega)
     have lda:=ars_ hr hlt.1
     have hok:=hao (acts.getD i ac0) (v5_ hlt.1)
     generalize acts.getD i ac0=a at*
     have hup:DkA X G S (l.length+ (i+1)):=⟨hA.P,hA.H,hA.B.mono (by omega)⟩
     have hrem:=rem9 a.kind
     first|with_reducible refine ks [8] (And.intro @zC_ (And.intro @ln (And.intro @d1 (And.intro @d2 (And.intro @ix (And.intro @rda (@lda))))))) ?_|refine kp (And.intro @zC_ (And.intro @ln (And.intro @d1 (And.intro @d2 (And.intro @ix (And.intro @rda (@lda))))))) ?_
     refine Ow.alloc rfl rfl zrAc fun b9 hb9 hw9=> ?_
     simp only[zg_,List.nil_append,List.cons_append]
     refine Ow.permL (M:=(b9, .cells (acC ac0).toArray 31 (0,0)):: (X++ ((b7, .cells (jbC jb).toArray 66 (0,0))::DG))) (by classical exact List.perm_iff_count.2 fun a=>by simp only[List.count_append,List.count_cons,List.count_nil]<;>omega) ?_
     have hN9:New w.heap.size ((b9,Obj.cells (acC a).toArray 31 (0,0)):: (X++ ((b7,Obj.cells (jbC jb).toArray 66 (0,0))::DG))):=⟨hw9,hNr⟩
     refine ko @zC_ ?_
     by_cases g1:a.name.length<200
     ·have c1:decide ((a.name.length:Int)<200)=true:=decide_eq_true (by omega)
      by_cases g2:a.s.length<2000
      ·have c2:decide ((a.s.length:Int)<2000)=true:=decide_eq_true (by omega)
       by_cases g3:a.dir.length<50
       ·have c3:decide ((a.dir.length:Int)<50)=true:=decide_eq_true (by omega)
        by_cases g4:a.kind.tmod 9<6
        ·have c4:decide (a.kind.tmod 9<6)=true:=decide_eq_true g4
         have hda:=anF_ (S:=S) (a:=a) (by omega)
         have hst:=aeL_ S (a.kind.tmod 9) a.dir a.name a.s
         have hU':=akH_ hA.P.ok hU hst
         have hC':=kn_ hC hst
         first|with_reducible refine ks [] (And.intro @zC_ (And.intro @c1 (And.intro @c2 (And.intro @c3 (And.intro @c4 (@hrem)))))) ?_|refine kp (And.intro @zC_ (And.intro @c1 (And.intro @c2 (And.intro @c3 (And.intro @c4 (@hrem)))))) ?_
         refine Ow.permL (M:=X++ ((b7, .cells (jbC jb).toArray 66 (0,0)):: (b9, .cells (acC a).toArray 31 (0,0))::DG)) (by classical exact List.perm_iff_count.2 fun a=>by simp only[List.count_append,List.count_cons,List.count_nil]<;>omega) ?_
         have hN9':New w.heap.size (X++ ((b7,Obj.cells (jbC jb).toArray 66 (0,0)):: (b9,Obj.cells (acC a).toArray 31 (0,0))::DG)):=hN.app (show New w.heap.size ((b7,_):: (b9,_)::DG) from⟨hw7,hw9,hNG⟩)
         refine Ow.callX (X:=X) (Y:=(b7, .cells (jbC jb).toArray 66 (0,0)):: (b9, .cells (acC a).toArray 31 (0,0))::DG) rfl rfl rfl Tryz.call18 (fun w' hw' hX' hn'=>ahW_ X G S (l.length+i) a w' hX' hn' hA (by omega) (zI_ hG hw' hN9') (Xf_ hG hN) (hok.old hw' hN9') (by omega) (by omega) (fun h7=>by omega) (hok.pkb hw'.size hN)) (fun v2' D2 hC2 hS2=> ?_)
         obtain⟨rfl,G2,hbd2,hA2⟩:=hS2
         have hN2:New w.heap.size D2:=xR_ hC2 hN
         have hbX2:=vD_ hC2 hbX (by simp[keys])
         have hA2':DkA D2 G2 (doA S a).1 (l.length+ (i+1)):=hA2
         clear hA2
         rw[hda] at*
         rw[←hbd2] at*
         generalize doV S (a.kind.tmod 9) a.dir a.name a.s=q' at*
         obtain⟨S',e⟩:=q'
         simp only at hU' hC' hA2' ⊢
         refine ko @zC_ ?_
         first|with_reducible refine ks [] @zC_ ?_|refine kp @zC_ ?_
         exact Again.mk ⟨i+1,S',G2,D2,(b9, .cells (acC a).toArray 31 (0,0))::DG⟩ (by show acts.length - (i+1)<acts.length - i;omega) ⟨hlt.1,hlt.2,hA2',hU',hC',rfl,hN2,⟨hw9,hNG⟩,hbX2⟩ rfl rfl
        ·have c4:decide (a.kind.tmod 9<6)=false:=decide_eq_false g4
         first|with_reducible refine ks [8] (And.intro @zC_ (And.intro @c1 (And.intro @c2 (And.intro @c3 (And.intro @c4 (@hrem)))))) ?_|refine kp (And.intro @zC_ (And.intro @c1 (And.intro @c2 (And.intro @c3 (And.intro @c4 (@hrem)))))) ?_
         refine Cw.permL (M:=X++ ((b7, .cells (jbC jb).toArray 66 (0,0)):: (b9, .cells (acC a).toArray 31 (0,0))::DG)) (by classical exact List.perm_iff_count.2 fun a=>by simp only[List.count_append,List.count_cons,List.count_nil]<;>omega) ?_
         first|with_reducible refine ks [] @zC_ ?_|refine kp @zC_ ?_
         exact Again.mk ⟨i+1,S,G,X,(b9, .cells (acC a).toArray 31 (0,0))::DG⟩ (by show acts.length - (i+1)<acts.length - i;omega) ⟨hlt.1,hlt.2,hup,hU,hC,rfl,hN,⟨hw9,hNG⟩,hbX⟩ rfl rfl
       ·have c3:decide ((a.dir.length:Int)<50)=false:=decide_eq_false (by omega)
        first|with_reducible refine ks [8] (And.intro @zC_ (And.intro @c1 (And.intro @c2 (@c3)))) ?_|refine kp (And.intro @zC_ (And.intro @c1 (And.intro @c2 (@c3)))) ?_
        refine Cw.permL (M:=X++ ((b7, .cells (jbC jb).toArray 66 (0,0)):: (b9, .cells (acC a).toArray 31 (0,0))::DG)) (by classical exact List.perm_iff_count.2 fun a=>by simp only[List.count_append,List.count_cons,List.count_nil]<;>omega) ?_
        first|with_reducible refine ks [] @zC_ ?_|refine kp @zC_ ?_
        exact Again.mk ⟨i+1,S,G,X,(b9, .cells (acC a).toArray 31 (0,0))::DG⟩ (by show acts.length - (i+1)<acts.length - i;omega) ⟨hlt.1,hlt.2,hup,hU,hC,rfl,hN,⟨hw9,hNG⟩,hbX⟩ rfl rfl
      ·have c2:decide ((a.s.length:Int)<2000)=false:=decide_eq_false (by omega)
       first|with_reducible refine ks [8] (And.intro @zC_ (And.intro @c1 (@c2))) ?_|refine kp (And.intro @zC_ (And.intro @c1 (@c2))) ?_
       refine Cw.permL (M:=X++ ((b7, .cells (jbC jb).toArray 66 (0,0)):: (b9, .cells (acC a).toArray 31 (0,0))::DG)) (by classical exact List.perm_iff_count.2 fun a=>by simp only[List.count_append,List.count_cons,List.count_nil]<;>omega) ?_
       first|with_reducible refine ks [] @zC_ ?_|refine kp @zC_ ?_
       exact Again.mk ⟨i+1,S,G,X,(b9, .cells (acC a).toArray 31 (0,0))::DG⟩ (by show acts.length - (i+1)<acts.length - i;omega) ⟨hlt.1,hlt.2,hup,hU,hC,rfl,hN,⟨hw9,hNG⟩,hbX⟩ rfl rfl
     ·have c1:decide ((a.name.length:Int)<200)=false:=decide_eq_false (by omega)
      first|with_reducible refine ks [8] (And.intro @zC_ @c1) ?_|refine kp (And.intro @zC_ @c1) ?_
      refine Cw.permL (M:=X++ ((b7, .cells (jbC jb).toArray 66 (0,0)):: (b9, .cells (acC a).toArray 31 (0,0))::DG)) (by classical exact List.perm_iff_count.2 fun a=>by simp only[List.count_append,List.count_cons,List.count_nil]<;>omega) ?_
      first|with_reducible refine ks [] @zC_ ?_|refine kp @zC_ ?_
      exact Again.mk ⟨i+1,S,G,X,(b9, .cells (acC a).toArray 31 (0,0))::DG⟩ (by show acts.length - (i+1)<acts.length - i;omega) ⟨hlt.1,hlt.2,hup,hU,hC,rfl,hN,⟨hw9,hNG⟩,hbX⟩ rfl rfl
    ·have d1: (decide ((i:Int)< (acts.length:Int))=true∧decide ((i:Int)<20)=false)∨decide ((i:Int)< (acts.length:Int))=false:=by
      by_cases h1:i<acts.length
      ·exact .inl ⟨decide_eq_true (by omega),decide_eq_false (by omega)⟩
      ·exact .inr (decide_eq_false (by omega))
     rcases d1 with⟨d1,d2⟩ |d1
     ·first|with_reducible refine ks [] (And.intro @zC_ (And.intro @ln (And.intro @d1 (@d2)))) ?_|refine kp (And.intro @zC_ (And.intro @ln (And.intro @d1 (@d2)))) ?_
      exact CutO.mk ⟨i,S,G,X,DG⟩ ⟨hi2,hA,hU,hC,rfl,hN,hNG,hbX⟩ rfl rfl
     ·first|with_reducible refine ks [] (And.intro @zC_ (And.intro @ln (@d1))) ?_|refine kp (And.intro @zC_ (And.intro @ln (@d1))) ?_
      exact CutO.mk ⟨i,S,G,X,DG⟩ ⟨hi2,hA,hU,hC,rfl,hN,hNG,hbX⟩ rfl rfl
   ·intro g j hg
    refine kv ?_
    clear hD0 hN0' hP0 hb0
    obtain⟨i0,S,G,X,DG⟩:=g
    simp only at hg ⊢
    obtain⟨hi2,hA,hU,hC,hbd,hN,hNG,hbX⟩:=hg
    rw[←hbd]
    have hgd:=hA.P.ok.good hU
    have hNr:New w.heap.size (X++ ((b7,Obj.cells (jbC jb).toArray 66 (0,0))::DG)):=hN.app (show New w.heap.size ((b7,_)::DG) from⟨hw7,hNG⟩)
    have hfl: (jc_ S).length≤3000000:=kl_ (hA.b (by omega)) 3 (Nat.le_refl _)
    first|with_reducible refine ks [18,19] @zC_ ?_|refine kp @zC_ ?_
    refine Ow.callC rfl rfl Tryz.call19 (fun w' hw'=>j1_ w' G S ((hA.P.mono fun b o h=>zj_ h).world hw') (zI_ hG hw' hNr) (hA.b (by omega))) (fun B3 v12 D3 hA3 hB3 hN3 hS3=> ?_)
    have hN3':New w.heap.size D3:=hN3.mono hB3
    refine Ow.permL (M:=X++ ((b7, .cells (jbC jb).toArray 66 (0,0)):: (DG++D3))) (by classical exact List.perm_iff_count.2 fun a=>by simp only[List.count_append,List.count_cons,List.count_nil]<;>omega) ?_
    have rj:=Jl_ w (.cells (jbC jb).toArray 66 (0,0)) (DG++D3) hbX
    refine ko @zC_ ?_
    first|with_reducible refine ks [] (And.intro @zC_ @rj) ?_|refine kp (And.intro @zC_ @rj) ?_
    refine Ow.callFV rfl Tryz.call23 (fun w' hw'=>xw_ w' G S jb.dir jb.name ((hA.P.mono fun b o h=>zj_ h).world hw') (by omega)) ?_
    refine ko @zC_ ?_
    first|with_reducible refine ks [] (And.intro @zC_ @rj) ?_|refine kp (And.intro @zC_ @rj) ?_
    refine Ow.callX (X:=X) (Y:=(b7, .cells (jbC jb).toArray 66 (0,0)):: (DG++D3)) rfl rfl rfl Tryz.call38 (fun w' hw' hX' hn'=>QQ_ X G S (l.length+i0) jb.dir jb.name jb.data w' hX' hn' hA (by omega) (by omega) (by omega)) (fun v15 X2 hC2 hS2=> ?_)
    obtain⟨rfl,G2,hbd2,hA2⟩:=hS2
    have hN2:New w.heap.size X2:=xR_ hC2 hN
    have hbX2:=vD_ hC2 hbX (by simp[keys])
    have hpf:=akS_ hgd hC jb.dir jb.name jb.data
    have hot:=arv_ hgd hC jb.dir jb.name jb.data
    rw[←hbd2] at*
    generalize kP_ S jb.dir jb.name jb.data false=q at*
    obtain⟨e,S2⟩:=q
    simp only at hpf hot hA2 ⊢
    have hfl2: (jc_ S2).length≤3000000:=kl_ (hA2.b (by omega)) 3 (Nat.le_refl _)
    have hP2:DkP (X2++ ((b7,Obj.cells (jbC jb).toArray 66 (0,0)):: (DG++D3))) G2 S2:=hA2.P.mono fun b o h=>zj_ h
    have hN2r:New w.heap.size (X2++ ((b7,Obj.cells (jbC jb).toArray 66 (0,0)):: (DG++D3))):=hN2.app (show New w.heap.size ((b7,_):: (DG++D3)) from⟨hw7,hNG.app hN3'⟩)
    have rj2:=Jl_ w (.cells (jbC jb).toArray 66 (0,0)) (DG++D3) hbX2
    have hdc:decide (JN_ jb.dir jb.name (jc_ S)=JN_ jb.dir jb.name (jc_ S2))=true:=decide_eq_true hot
    have z0: (((0:Nat):Int)==0)=true:=rfl
    have zf: (jb.data==jb.data)=true:=beq_self_eq_true _
    have zo: ((jP_ S jb.dir jb.name).1==(jP_ S jb.dir jb.name).1)=true:=beq_self_eq_true _
    have ze: (((jP_ S jb.dir jb.name).2:Int)==((jP_ S jb.dir jb.name).2:Int))=true:=beq_self_eq_true _
    refine ko @zC_ ?_
    first|with_reducible refine ks [18,19] (And.intro @zC_ @rj2) ?_|refine kp (And.intro @zC_ @rj2) ?_
    refine Ow.callFV rfl Tryz.call23 (fun w' hw'=>xw_ w' G2 S2 jb.dir jb.name (hP2.world hw') (by omega)) ?_
    by_cases h0:e=0
    ·have e1: ((e:Int)==0)=true:=by rw[h0];rfl
     obtain⟨hrd,hlf⟩:=hpf.2 h0
     have e2:=jN_ hlf
     rw[hrd]
     refine ko @zC_ ?_
     first|with_reducible refine ks [18,19] (And.intro @zC_ (And.intro @e1 (@rj2))) ?_|refine kp (And.intro @zC_ (And.intro @e1 (@rj2))) ?_
     refine Ow.callFV rfl Tryz.call23 (fun w' hw'=>xw_ w' G2 S2 jb.dir (zJ_ jb.name) (hP2.world hw') (by unfold zJ_;rw[List.length_append];simp;omega)) ?_
     refine ko @zC_ ?_
     refine Cw.regionS [b7] [0,1,2,3,4,5,6,7,8,9,10,11,12,13,14,15,16,17,19,21,20,22,18,23,24,25] [] (by kernel_rfl) (by kernel_rfl) (by kernel_rfl) ?_
     simp only[zu_, ↓zi_, ↓ze_, ↓zG_, ↓zF_,zf_]
     refine kq @zC_ ?_
     refine Ow.soft rfl rfl rfl ?_
     refine Ow.callFV rfl Tryz.call35 (fun w' hw'=>z5_ w' (zI_ hG hw' hN2r)) ?_
     with_reducible refine Ow.nil ?_
     refine⟨by intro b hb;simp only[List.mem_cons,List.not_mem_nil,or_false] at hb;(try subst hb);rfl, ?_⟩
     refine kq (And.intro @zC_ (And.intro @z0 (And.intro @zf (And.intro @e2 (@rj2))))) ?_
     refine Ow.soft rfl rfl rfl ?_
     refine Ow.callC rfl rfl Tryz.call19 (fun w' hw'=>j1_ w' G2 S2 (hP2.world hw') (zI_ hG hw' hN2r) (hA2.b (by omega))) (fun B7 v14 D7 hA7 hB7 hN7 hS7=> ?_)
     have hNf:=hN2r.app (hN7.mono hB7)
     with_reducible refine Ow.nil ?_
     refine⟨kj_ (by simp[keys]), ?_⟩
     refine kq @zC_ ?_
     refine Ow.soft rfl rfl rfl ?_
     refine Ow.callFV rfl Tryz.call40 (fun w' hw'=>kG_ v12 v14 (jc_ S) (jc_ S2) jb.dir jb.name w' ((hS3.mono (fun q hq=>by simp[hq])).slV (z:=fi0) hw' rfl rfl zT_) ((hS7.mono (fun q hq=>by simp[hq])).slV (z:=fi0) hw' rfl rfl zT_) (by omega) (by omega) (by omega)) ?_
     with_reducible refine Ow.nil ?_
     refine⟨by intro b hb;simp only[List.mem_cons,List.not_mem_nil,or_false] at hb;(try subst hb);rfl, ?_⟩
     refine kq (And.intro @zC_ @hdc) ?_
     refine⟨_,(ke @zC_),hNf, ?_⟩
     rfl
    ·have e1: ((e:Int)==0)=false:=beq_eq_false_iff_ne.2 (by omega)
     have hrd:=hpf.1 h0
     rw[hrd]
     refine ko @zC_ ?_
     first|with_reducible refine ks [18,19] (And.intro @zC_ @e1) ?_|refine kp (And.intro @zC_ @e1) ?_
     refine Cw.regionS [b7] [0,1,2,3,4,5,6,7,8,9,10,11,12,13,15,17,16,18,14,19,20,21] [] (by kernel_rfl) (by kernel_rfl) (by kernel_rfl) ?_
     simp only[zu_, ↓zi_, ↓ze_, ↓zG_, ↓zF_,zf_]
     refine kq @zC_ ?_
     refine Ow.soft rfl rfl rfl ?_
     refine Ow.callFV rfl Tryz.call35 (fun w' hw'=>z5_ w' (zI_ hG hw' hN2r)) ?_
     with_reducible refine Ow.nil ?_
     refine⟨by intro b hb;simp only[List.mem_cons,List.not_mem_nil,or_false] at hb;(try subst hb);rfl, ?_⟩
     refine kq (And.intro @zC_ (And.intro @zo (And.intro @ze (@rj2)))) ?_
     refine Ow.soft rfl rfl rfl ?_
     refine Ow.callC rfl rfl Tryz.call19 (fun w' hw'=>j1_ w' G2 S2 (hP2.world hw') (zI_ hG hw' hN2r) (hA2.b (by omega))) (fun B7 v14 D7 hA7 hB7 hN7 hS7=> ?_)
     have hNf:=hN2r.app (hN7.mono hB7)
     with_reducible refine Ow.nil ?_
     refine⟨kj_ (by simp[keys]), ?_⟩
     refine kq @zC_ ?_
     refine Ow.soft rfl rfl rfl ?_
     refine Ow.callFV rfl Tryz.call40 (fun w' hw'=>kG_ v12 v14 (jc_ S) (jc_ S2) jb.dir jb.name w' ((hS3.mono (fun q hq=>by simp[hq])).slV (z:=fi0) hw' rfl rfl zT_) ((hS7.mono (fun q hq=>by simp[hq])).slV (z:=fi0) hw' rfl rfl zT_) (by omega) (by omega) (by omega)) ?_
     with_reducible refine Ow.nil ?_
     refine⟨by intro b hb;simp only[List.mem_cons,List.not_mem_nil,or_false] at hb;(try subst hb);rfl, ?_⟩
     refine kq (And.intro @zC_ @hdc) ?_
     refine⟨_,(ke @zC_),hNf, ?_⟩
     rfl
end Go.Proofs
end
section
open Go Go.Proofs Go.Sx Go.StP
namespace Go.Proofs
set_option maxRecDepth 10000
set_option maxHeartbeats 400000
set_option linter.unusedSimpArgs false
structure SetS (S:DiskL):Prop where
 dir: ∀j,j<3→(S.dir j).stl=(S.dir j).seen∧(S.dir j).pend= []
 file: ∀n,(zm_ S n).stl=(zm_ S n).data.length
theorem apk_ (q:Int) (l:List FiL): ∀n,(zm_ (ofD q l) n).stl=(zm_ (ofD q l) n).data.length:=by
 have h: ∀ (l:List FiL) (S:DiskL),(∀f,f∈S.files→f.stl=f.data.length)→ ∀f,f∈ (l.foldl z2_ S).files→f.stl=f.data.length:=fun l=>by
  induction l with
  |nil=>exact fun _ h=>h
  |cons g l ih=>
   refine fun S hS=>ih _ ?_
   unfold z2_
   split
   ·split
    ·intro f hf
     rcases List.mem_append.1 hf with hf|hf
     ·exact hS f hf
     ·rw[List.mem_singleton.1 hf]
    ·exact hS
   ·exact hS
 intro n
 have h1:=h l (QD_ q) (fun f hf=>by cases hf)
 show((ofD q l).files.getD n qO_).stl=((ofD q l).files.getD n qO_).data.length
 rw[List.getD_eq_getElem?_getD]
 by_cases hn:n< (ofD q l).files.length
 ·rw[List.getElem?_eq_getElem hn]
  exact h1 _ (List.getElem_mem hn)
 ·rw[List.getElem?_eq_none (by omega)];rfl
theorem ar2_ (q:Int) (l:List FiL):SetS (ofD q l):=⟨fun _ hj=>aqV_ q l hj,apk_ q l⟩
structure PreI (S0 S:DiskL) (k:Nat) (nm:List UInt8):Prop where
 fs: ∀n,n<S0.files.length→zm_ S n=zm_ S0 n
 len:S0.files.length≤S.files.length
 stl: ∀j,j<3→(S.dir j).stl=(S0.dir j).stl
 pend: ∀j,j<3→ ∀c,c∈ (S.dir j).pend→j=k∧c.a=zJ_ nm∧c.kind≠1
def WZ_ (S0 S:DiskL) (k:Nat) (nm data:List UInt8) (m:Nat):Prop:=zo_ (S.dir k).seen (zJ_ nm)=some m∧S0.files.length≤m∧m<S.files.length∧(zm_ S m).data=data
structure PostI (S0 S:DiskL) (k:Nat) (nm data:List UInt8) (light:Bool) (m:Nat):Prop where
 fs: ∀n,n<S0.files.length→zm_ S n=zm_ S0 n
 stl: ∀j,j<3→(S.dir j).stl=(S0.dir j).stl
 pendO: ∀j,j<3→j≠k→(S.dir j).pend= []
 pend: ∃q,(S.dir k).pend=q++ [⟨1,zJ_ nm,nm,0⟩]∧ ∀c,c∈q→c.a=zJ_ nm∧c.kind≠1
 at_:zo_ (S.dir k).seen nm=some m
 data: (zm_ S m).data=data
 set:light=false→(zm_ S m).stl=(zm_ S m).data.length
structure DoneI (S0 S:DiskL) (k:Nat) (nm data:List UInt8) (m:Nat):Prop where
 fs: ∀n,n<S0.files.length→zm_ S n=zm_ S0 n
 oth: ∀j,j<3→ ∀x,(j=k→x≠nm∧x≠zJ_ nm)→zo_ (S.dir j).stl x=zo_ (S0.dir j).stl x
 pend: ∀j,j<3→(S.dir j).pend= []
 at_:zo_ (S.dir k).stl nm=some m
 data: (zm_ S m).data=data
 set: (zm_ S m).stl=(zm_ S m).data.length
theorem w3_ {S0 S:DiskL} (h0:SetS S0) (hg:GoodS S0) (fs: ∀n,n<S0.files.length→zm_ S n=zm_ S0 n) (pl:List UInt16) {j:Nat} (hj:j<3) {x:List UInt8} (h:zo_ ((z0_ S pl).dir j).seen x=zo_ (S0.dir j).seen x):zK_ (z0_ S pl) j x=zK_ S0 j x:=
 wv_ h fun n hn=>by
  have hb:=Kb_ S pl n
  rw[fs n (hg.lt j hj _ (qa_ hn))] at hb
  exact(hb.2 (h0.file n)).1
theorem abk_ {S0 S:DiskL} (h0:SetS S0) (hg:GoodS S0) {k:Nat} {nm:List UInt8} (h:PreI S0 S k nm) (pl:List UInt16) {j:Nat} (hj:j<3) {x:List UInt8} (hx:j=k→x≠zJ_ nm):zK_ (z0_ S pl) j x=zK_ S0 j x:=by
 refine w3_ h0 hg h.fs pl hj ?_
 obtain⟨i,-,h2⟩:=wx_ S pl hj
 rw[h2]
 show zo_ (jF_ S j i) x=_
 unfold jF_
 rw[vl_ _ _ fun c hc=> ?_,h.stl j hj,(h0.dir j hj).1]
 obtain⟨e,h3,h4⟩:=h.pend j hj c (List.mem_of_mem_take hc)
 exact⟨by rw[h3];exact Ne.symm (hx e),fun h5=>absurd h5 h4⟩
theorem aio_ {S0 S:DiskL} (h0:SetS S0) (hg:GoodS S0) (hh:jA_ S) {k:Nat} (hk:k<3) {nm data:List UInt8} {light:Bool} {m:Nat} (h:PostI S0 S k nm data light m) (pl:List UInt16):
  (∀j,j<3→ ∀x,(j=k→x≠nm∧x≠zJ_ nm)→zK_ (z0_ S pl) j x=zK_ S0 j x)∧
  (zK_ (z0_ S pl) k nm=zK_ S0 k nm∨((∃t,zK_ (z0_ S pl) k nm=some (data.take t))∧(light=false→zK_ (z0_ S pl) k nm=some data))):=by
 obtain⟨q,hq,hqc⟩:=h.pend
 constructor
 ·intro j hj x hx
  refine w3_ h0 hg h.fs pl hj ?_
  obtain⟨i,-,h2⟩:=wx_ S pl hj
  rw[h2]
  show zo_ (jF_ S j i) x=_
  unfold jF_
  rw[vl_ _ _ fun c hc=> ?_,h.stl j hj,(h0.dir j hj).1]
  have hc':=List.mem_of_mem_take hc
  by_cases e:j=k
  ·subst e
   rw[hq] at hc'
   rcases List.mem_append.1 hc' with hc'|hc'
   ·exact⟨by rw[(hqc c hc').1];exact Ne.symm (hx rfl).2,fun h5=>absurd h5 (hqc c hc').2⟩
   ·rw[List.mem_singleton.1 hc']
    exact⟨Ne.symm (hx rfl).2,fun _=>Ne.symm (hx rfl).1⟩
  ·rw[h.pendO j hj e] at hc';cases hc'
 ·obtain⟨i,hi,h2⟩:=wx_ S pl hk
  by_cases hle:i≤q.length
  ·left
   refine w3_ h0 hg h.fs pl hk ?_
   rw[h2]
   show zo_ (jF_ S k i) nm=_
   unfold jF_
   rw[hq,List.take_append_of_le_length hle,vl_ _ _ fun c hc=> ?_,h.stl k hk,(h0.dir k hk).1]
   have:=hqc c (List.mem_of_mem_take hc)
   exact⟨by rw[this.1];exact Wi_ nm,fun h5=>absurd h5 this.2⟩
  ·right
   rw[hq,List.length_append,List.length_singleton] at hi
   have hfe:jF_ S k i=(S.dir k).seen:=by
    unfold jF_
    rw[List.take_of_length_le (by rw[hq,List.length_append,List.length_singleton];omega)]
    exact(hh k).1
   have hv:zK_ (z0_ S pl) k nm=some (zm_ (z0_ S pl) m).data:=by
    unfold zK_
    rw[h2]
    show(zo_ (jF_ S k i) nm).map _=_
    rw[hfe,h.at_];rfl
   obtain⟨⟨t,ht⟩,hs⟩:=Kb_ S pl m
   rw[h.data] at ht
   exact⟨⟨t,by rw[hv,ht]⟩,fun hl=>by rw[hv,(hs (h.set hl)).1,h.data]⟩
theorem agI_ {S0 S:DiskL} (h0:SetS S0) (hg:GoodS S0) {k:Nat} (hk:k<3) {nm data:List UInt8} {m:Nat} (h:DoneI S0 S k nm data m) (pl:List UInt16):
  (∀j,j<3→ ∀x,(j=k→x≠nm∧x≠zJ_ nm)→zK_ (z0_ S pl) j x=zK_ S0 j x)∧zK_ (z0_ S pl) k nm=some data:=by
 have hf: ∀j,j<3→((z0_ S pl).dir j).seen=(S.dir j).stl:=fun j hj=>by
  obtain⟨i,-,h2⟩:=wx_ S pl hj
  rw[h2]
  show jF_ S j i=_
  unfold jF_
  rw[h.pend j hj,List.take_nil];rfl
 constructor
 ·intro j hj x hx
  refine w3_ h0 hg h.fs pl hj ?_
  rw[hf j hj,h.oth j hj x hx,(h0.dir j hj).1]
 ·unfold zK_
  rw[hf k hk,h.at_]
  show some (zm_ (z0_ S pl) m).data=_
  rw[((Kb_ S pl m).2 h.set).1,h.data]
end Go.Proofs
end
section
open Go Go.Proofs Go.Sx Go.StP
namespace Go.Proofs
set_option maxRecDepth 10000
set_option maxHeartbeats 400000
set_option linter.unusedSimpArgs false
section
variable {S0 S:DiskL} {k:Nat} {nm dir data:List UInt8} {m:Nat}
theorem arP_ {S':DiskL} (h:PreI S0 S k nm) (h1:S'.dir=S.dir) (h2:S'.files=S.files):PreI S0 S' k nm:=by
 have e: ∀n,zm_ S' n=zm_ S n:=fun n=>by unfold zm_;rw[h2]
 exact⟨fun n hn=>(e n).trans (h.fs n hn),by rw[h2];exact h.len,fun j hj=>by rw[h1];exact h.stl j hj,fun j hj=>by rw[h1];exact h.pend j hj⟩
theorem x8_ (h:PreI S0 S k nm):PreI S0 (zp_ S).1 k nm:=arP_ h (zU_ S).1 (zU_ S).2.1
theorem ags_ (h:PreI S0 S k nm) {c:CallL} (h1:c.a=zJ_ nm) (h2:c.kind≠1):PreI S0 (xb_ S k c) k nm:=by
 refine⟨h.fs,h.len,fun j hj=> ?_,fun j hj c' hc=> ?_⟩
 ·unfold xb_
  by_cases e:j=k
  ·subst e;rw[qm_];exact h.stl j hj
  ·rw[q6_ _ _ e];exact h.stl j hj
 ·unfold xb_ at hc
  by_cases e:j=k
  ·subst e
   rw[qm_] at hc
   rcases List.mem_append.1 hc with hc|hc
   ·exact h.pend j hj c' hc
   ·rw[List.mem_singleton.1 hc];exact⟨rfl,h1,h2⟩
  ·rw[q6_ _ _ e] at hc
   exact h.pend j hj c' hc
theorem aoD_ (h:PreI S0 S k nm):PreI S0 (xU_ S qO_) k nm:=by
 refine⟨fun n hn=> ?_, ?_,h.stl,h.pend⟩
 ·rw[act_ _ _ (Nat.lt_of_lt_of_le hn h.len)];exact h.fs n hn
 ·show _≤ (S.files++ [qO_]).length
  rw[List.length_append]
  have:=h.len
  omega
theorem alK_ (h:PreI S0 S k nm) (hm:S0.files.length≤m) (hl:m<S.files.length) (f:FileL):PreI S0 (wg_ S m f) k nm:=by
 refine⟨fun n hn=> ?_, ?_,h.stl,h.pend⟩
 ·rw[xQ_ _ _ hl,if_neg (by omega)];exact h.fs n hn
 ·show _≤ (S.files.set m f).length
  rw[List.length_set];exact h.len
theorem Wn_ (hk:zy_ dir=some k) (h:PreI S0 S k nm):PreI S0 (zO_ S dir (zJ_ nm)).1 k nm:=by
 unfold zO_
 split
 ·exact h
 ·split
  ·exact h
  ·split
   ·exact x8_ h
   ·rw[hk]
    exact ags_ (x8_ h) rfl fun e=>by cases e
theorem ag3_ (hk:zy_ dir=some k) (h:PreI S0 S k nm):PreI S0 (zR_ S dir (zJ_ nm)).1 k nm:=by
 unfold zR_
 split
 ·exact h
 ·split
  ·exact h
  ·split
   ·exact x8_ h
   ·rw[hk]
    exact ags_ (aoD_ (x8_ h)) rfl fun e=>by cases e
theorem aeI_ (hk:zy_ dir=some k) (hg:GoodS S) (h:PreI S0 S k nm) (he: (zR_ S dir (zJ_ nm)).2=0):WZ_ S0 (zR_ S dir (zJ_ nm)).1 k nm [] S.files.length:=by
 have hk3:=(zE_ hk).1
 unfold zR_ at he ⊢
 split at he
 ·rename_i hf;exact absurd he hf
 ·rename_i hf
  rw[if_neg hf]
  split at he
  ·cases he
  ·split at he
   ·rename_i hb;exact absurd he hb
   ·rename_i hb
    rw[if_neg hb,hk]
    obtain⟨hb1,hb2,-⟩:=zU_ S
    refine⟨?_,h.len, ?_, ?_⟩
    ·show zo_ ((xb_ (xU_ (zp_ S).1 qO_) k ⟨0,zJ_ nm,[],S.files.length⟩).dir k).seen (zJ_ nm)=_
     rw[kN_,if_pos rfl]
     show zo_ (JY_ ((zp_ S).1.dir k).seen (zJ_ nm,S.files.length)) (zJ_ nm)=_
     rw[hb1]
     exact kc_ (hg.srt k hk3) (zJ_ nm,S.files.length)
    ·show S.files.length< ((zp_ S).1.files++ [qO_]).length
     rw[hb2,List.length_append];simp
    ·show(zm_ (xU_ (zp_ S).1 qO_) S.files.length).data= []
     rw[←hb2,abU_];rfl
theorem ahC_ (hk:zy_ dir=some k) {d:List UInt8} (h:PreI S0 S k nm) (hm:WZ_ S0 S k nm d m) (s:List UInt8):PreI S0 (zS_ S dir (zJ_ nm) s).1 k nm:=by
 obtain⟨h1,h2,h3,-⟩:=hm
 unfold zS_
 split
 ·exact h
 ·rw[K7_ hk,h1]
  simp only
  split
  ·exact h
  ·split
   ·exact x8_ h
   ·exact alK_ (x8_ h) h2 (by rw[(zU_ S).2.1];exact h3) _
theorem afv_ (hk:zy_ dir=some k) {d:List UInt8} (hm:WZ_ S0 S k nm d m) {s:List UInt8} (he: (zS_ S dir (zJ_ nm) s).2=0):WZ_ S0 (zS_ S dir (zJ_ nm) s).1 k nm (d++s) m:=by
 obtain⟨h1,h2,h3,h4⟩:=hm
 obtain⟨hb1,hb2,-⟩:=zU_ S
 unfold zS_ at he ⊢
 split at he
 ·rename_i hf;exact absurd he hf
 ·rename_i hf
  rw[if_neg hf]
  rw[K7_ hk,h1] at he ⊢
  simp only at he ⊢
  split at he
  ·cases he
  ·rename_i hfl
   rw[if_neg hfl]
   split at he
   ·rename_i hb;exact absurd he hb
   ·rename_i hb
    rw[if_neg hb]
    have hl:m< (zp_ S).1.files.length:=by rw[hb2];exact h3
    refine⟨by show zo_ ((zp_ S).1.dir k).seen _=_;rw[hb1];exact h1,h2,by show m< ((zp_ S).1.files.set m _).length;rw[List.length_set];exact hl, ?_⟩
    rw[xQ_ _ _ hl,if_pos rfl,←h4]
theorem anJ_ (hk:zy_ dir=some k) {d:List UInt8} (h:PreI S0 S k nm) (hm:WZ_ S0 S k nm d m):PreI S0 (xY_ S dir (zJ_ nm)).1 k nm:=by
 obtain⟨h1,h2,h3,-⟩:=hm
 unfold xY_
 split
 ·exact h
 ·rw[K7_ hk,h1]
  simp only
  split
  ·exact x8_ h
  ·exact alK_ (x8_ h) h2 (by rw[(zU_ S).2.1];exact h3) _
theorem akz_ (hk:zy_ dir=some k) {d:List UInt8} (hm:WZ_ S0 S k nm d m) (he: (xY_ S dir (zJ_ nm)).2=0):WZ_ S0 (xY_ S dir (zJ_ nm)).1 k nm d m∧(zm_ (xY_ S dir (zJ_ nm)).1 m).stl=d.length:=by
 obtain⟨h1,h2,h3,h4⟩:=hm
 obtain⟨hb1,hb2,-⟩:=zU_ S
 unfold xY_ at he ⊢
 split at he
 ·rename_i hf;exact absurd he hf
 ·rename_i hf
  rw[if_neg hf]
  rw[K7_ hk,h1] at he ⊢
  simp only at he ⊢
  split at he
  ·rename_i hb;exact absurd he hb
  ·rename_i hb
   rw[if_neg hb]
   have hl:m< (zp_ S).1.files.length:=by rw[hb2];exact h3
   have hf2:=xQ_ (zp_ S).1 (m:=m) ⟨(zm_ S m).data,(zm_ S m).data.length⟩ hl m
   rw[if_pos rfl] at hf2
   simp only
   refine⟨⟨by show zo_ ((zp_ S).1.dir k).seen _=_;rw[hb1];exact h1,h2,by show m< ((zp_ S).1.files.set m _).length;rw[List.length_set];exact hl, ?_⟩, ?_⟩
   ·rw[hf2];exact h4
   ·rw[hf2,←h4]
theorem agM_ (h:PreI S0 S k nm) (he: (zQ_ S dir (zJ_ nm) nm).2≠0):PreI S0 (zQ_ S dir (zJ_ nm) nm).1 k nm:=by
 unfold zQ_ at he ⊢
 split at he
 ·rename_i hf;rw[if_pos hf];exact h
 ·rename_i hf
  rw[if_neg hf]
  split at he
  ·exact h
  ·rw[if_neg (Wi_ nm)] at he ⊢
   split at he
   ·rename_i hb;rw[if_pos hb];exact x8_ h
   ·exact absurd rfl he
theorem adz_ (hk:zy_ dir=some k) (hg:GoodS S) (h:PreI S0 S k nm) (hm:WZ_ S0 S k nm data m) {light:Bool} (hs:light=false→(zm_ S m).stl=data.length) (he: (zQ_ S dir (zJ_ nm) nm).2=0):PostI S0 (zQ_ S dir (zJ_ nm) nm).1 k nm data light m:=by
 obtain⟨h1,h2,h3,h4⟩:=hm
 have hk3:=(zE_ hk).1
 obtain⟨hb1,hb2,-⟩:=zU_ S
 unfold zQ_ at he ⊢
 split at he
 ·rename_i hf;exact absurd he hf
 ·rename_i hf
  rw[if_neg hf]
  rw[K7_ hk,h1] at he ⊢
  simp only at he ⊢
  rw[if_neg (Wi_ nm)] at he ⊢
  split at he
  ·rename_i hb;exact absurd he hb
  ·rename_i hb
   rw[if_neg hb,hk]
   have hT: ∀j,((xb_ (zp_ S).1 k ⟨1,zJ_ nm,nm,0⟩).dir j)=if j=k then⟨q9_ (S.dir k).seen ⟨1,zJ_ nm,nm,0⟩,(S.dir k).stl,(S.dir k).pend++ [⟨1,zJ_ nm,nm,0⟩]⟩ else S.dir j:=fun j=>by
    unfold xb_
    by_cases e:j=k
    ·subst e;rw[qm_,if_pos rfl,hb1]
    ·rw[q6_ _ _ e,if_neg e,hb1]
   refine⟨fun n hn=>(qc_ S n).trans (h.fs n hn),fun j hj=> ?_,fun j hj e=> ?_,⟨(S.dir k).pend, ?_,fun c hc=>⟨(h.pend k hk3 c hc).2.1,(h.pend k hk3 c hc).2.2⟩⟩, ?_, ?_,fun hl=> ?_⟩
   ·show((xb_ (zp_ S).1 k _).dir j).stl=_
    rw[hT]
    by_cases e:j=k
    ·subst e;rw[if_pos rfl];exact h.stl j hj
    ·rw[if_neg e];exact h.stl j hj
   ·show((xb_ (zp_ S).1 k _).dir j).pend=_
    rw[hT,if_neg e]
    cases hp: (S.dir j).pend with
    |nil=>rfl
    |cons c r=>exact absurd (h.pend j hj c (by rw[hp];exact List.mem_cons_self)).1 e
   ·show((xb_ (zp_ S).1 k _).dir k).pend=_
    rw[hT,if_pos rfl]
   ·show zo_ ((xb_ (zp_ S).1 k _).dir k).seen nm=_
    rw[hT,if_pos rfl]
    show zo_ (JY_ (jY_ (S.dir k).seen (zJ_ nm)) (nm,(zo_ (S.dir k).seen (zJ_ nm)).getD 0)) nm=_
    rw[h1]
    exact kc_ (w1_ _ (hg.srt k hk3)) (nm,m)
   ·exact(congrArg FileL.data (qc_ S m)).trans h4
   ·show(zm_ (zp_ S).1 m).stl=(zm_ (zp_ S).1 m).data.length
    rw[qc_,hs hl,h4]
theorem alA_ {light:Bool} (h:PostI S0 S k nm data light m):PostI S0 (zp_ S).1 k nm data light m:=by
 obtain⟨hb1,hb2,-⟩:=zU_ S
 exact⟨fun n hn=>(qc_ S n).trans (h.fs n hn),fun j hj=>by rw[hb1];exact h.stl j hj,fun j hj e=>by rw[hb1];exact h.pendO j hj e,by rw[hb1];exact h.pend,by rw[hb1];exact h.at_,by rw[qc_];exact h.data,fun hl=>by rw[qc_];exact h.set hl⟩
theorem abD_ {light:Bool} (h:PostI S0 S k nm data light m) (he: (zw_ S dir).2≠0):PostI S0 (zw_ S dir).1 k nm data light m:=by
 unfold zw_ at he ⊢
 split at he
 ·rename_i hf;rw[if_pos hf];exact h
 ·rename_i hf
  rw[if_neg hf]
  split at he
  ·rename_i hb;rw[if_pos hb];exact alA_ h
  ·exact absurd rfl he
theorem aa5_ (hk:zy_ dir=some k) (hh:jA_ S) (h:PostI S0 S k nm data false m) (he: (zw_ S dir).2=0):DoneI S0 (zw_ S dir).1 k nm data m:=by
 have hk3:=(zE_ hk).1
 obtain⟨hb1,hb2,-⟩:=zU_ S
 unfold zw_ at he ⊢
 split at he
 ·rename_i hf;exact absurd he hf
 ·rename_i hf
  rw[if_neg hf]
  split at he
  ·rename_i hb;exact absurd he hb
  ·rename_i hb
   rw[if_neg hb,hk]
   have hT: ∀j,((xy_ (zp_ S).1 k).dir j)=if j=k then⟨(S.dir k).seen,(S.dir k).seen,[]⟩ else S.dir j:=fun j=>by
    unfold xy_
    by_cases e:j=k
    ·subst e;rw[qm_,if_pos rfl,hb1]
    ·rw[q6_ _ _ e,if_neg e,hb1]
   obtain⟨q,hq,hqc⟩:=h.pend
   refine⟨fun n hn=>(qc_ S n).trans (h.fs n hn),fun j hj x hx=> ?_,fun j hj=> ?_, ?_,(congrArg FileL.data (qc_ S m)).trans h.data, ?_⟩
   ·show zo_ ((xy_ (zp_ S).1 k).dir j).stl x=_
    rw[hT]
    by_cases e:j=k
    ·subst e
     rw[if_pos rfl]
     show zo_ (S.dir j).seen x=_
     rw[← (hh j).1,vl_ _ _ fun c hc=> ?_,h.stl j hj]
     rw[hq] at hc
     rcases List.mem_append.1 hc with hc|hc
     ·exact⟨by rw[(hqc c hc).1];exact Ne.symm (hx rfl).2,fun h5=>absurd h5 (hqc c hc).2⟩
     ·rw[List.mem_singleton.1 hc]
      exact⟨Ne.symm (hx rfl).2,fun _=>Ne.symm (hx rfl).1⟩
    ·rw[if_neg e,h.stl j hj]
   ·show((xy_ (zp_ S).1 k).dir j).pend=_
    rw[hT]
    by_cases e:j=k
    ·rw[if_pos e]
    ·rw[if_neg e];exact h.pendO j hj e
   ·show zo_ ((xy_ (zp_ S).1 k).dir k).stl nm=_
    rw[hT,if_pos rfl]
    exact h.at_
   ·show(zm_ (zp_ S).1 m).stl=(zm_ (zp_ S).1 m).data.length
    rw[qc_]
    exact h.set rfl
end
end Go.Proofs
end
section
open Go Go.Proofs Go.Sx Go.StP
namespace Go.Proofs
set_option maxRecDepth 10000
set_option maxHeartbeats 400000
set_option linter.unusedSimpArgs false
theorem KK_ {S0:DiskL} {k:Nat} {nm dir:List UInt8} (hk:zy_ dir=some k) {r:PhR} (hd:r.t.dir=dir) (hn:r.t.name=nm) (h:PreI S0 r.S k nm):PreI S0 (qi_ r).S k nm:=by
 unfold qi_
 split
 ·rw[hd,hn];exact Wn_ hk h
 ·exact h
theorem wK_ {r:PhR} (h:r.t.made=false): (qi_ r).S=r.S:=by
 unfold qi_
 rw[if_neg (fun h'=>by have: (nxT r).made=false:=h;rw[this] at h';cases h'.1)]
def V1_ (S0:DiskL) (k:Nat) (nm data:List UInt8) (light:Bool) (r:Nat×DiskL):Prop:=
 (PreI S0 r.2 k nm∧r.1≠0)∨(∃m,PostI S0 r.2 k nm data light m∧(light=false→r.1≠0))∨ ∃m,light=false∧DoneI S0 r.2 k nm data m
theorem akj_ {S0:DiskL} (h0:SetS S0) (hg:GoodS S0) (hh:jA_ S0) {dir nm:List UInt8} {k:Nat} (hk:zy_ dir=some k) (data:List UInt8) (light:Bool):V1_ S0 k nm data light (kP_ S0 dir nm data light):=by
 have hk3:=(zE_ hk).1
 have hp0:PreI S0 S0 k nm:=⟨fun _ _=>rfl,Nat.le_refl _,fun _ _=>rfl,fun j hj c hc=>by rw[(h0.dir j hj).2] at hc;cases hc⟩
 have hl: ∀n m,Wl_ (nxT ⟨true,0,tkN dir nm data light n m,S0⟩)=(n+1==6|| (light&&n+1==5)):=fun _ _=>rfl
 obtain⟨b0,e0,S1,hr0,p1,g1,hh1⟩: ∃b0 e0 S1,phT 0 (tk0 dir nm data light) S0=⟨b0,e0,tk0 dir nm data light,S1⟩∧PreI S0 S1 k nm∧GoodS S1∧jA_ S1:=by
  show∃b0 e0 S1,wU_ (tk0 dir nm data light) S0=_∧_
  unfold wU_
  split
  ·exact⟨false,0,S0,rfl,hp0,hg,hh⟩
  ·have st:=ju_ S0 dir (zJ_ nm) []
   exact⟨true,_,_,rfl,Wn_ hk hp0,xr_ hg st,xS_ hh st⟩
 unfold kP_
 by_cases z0:e0≠0
 ·rw[xp_ hr0 z0]
  exact .inl ⟨by show PreI S0 (qi_ _).S k nm;rw[wK_ rfl];exact p1,by show(qi_ _).e≠0;rw[(vI_ _).1];exact z0⟩
 obtain rfl:e0=0:=by simpa using z0
 rw[jG_ (t':=tkN dir nm data light 1 false) hr0 rfl (by cases light<;>rfl) (by cases light<;>rfl)]
 show V1_ S0 k nm data light (phG 5 _ S1)
 have st2:=kz_ S1 dir (zJ_ nm) []
 have p2:=ag3_ hk p1
 have g2:=xr_ g1 st2
 have hh2:=xS_ hh1 st2
 have hm2:=fun he=>aeI_ (dir:=dir) hk g1 p1 he
 have hr1:phT 1 (tkN dir nm data light 1 false) S1=⟨true,(zR_ S1 dir (zJ_ nm)).2,tkN dir nm data light 1 ((zR_ S1 dir (zJ_ nm)).2==0),(zR_ S1 dir (zJ_ nm)).1⟩:=rfl
 generalize zR_ S1 dir (zJ_ nm)=q at*
 obtain⟨S2,e1⟩:=q
 simp only at p2 g2 hh2 hm2 hr1
 by_cases z1:e1≠0
 ·rw[xp_ hr1 z1]
  exact .inl ⟨by show PreI S0 (qi_ _).S k nm;rw[wK_ (beq_eq_false_iff_ne.2 z1)];exact p2,by show(qi_ _).e≠0;rw[(vI_ _).1];exact z1⟩
 obtain rfl:e1=0:=by simpa using z1
 have m2:=hm2 rfl
 clear hm2
 rw[jG_ (t':=tkN dir nm data light 2 true) hr1 rfl (by cases light<;>rfl) (by cases light<;>rfl)]
 show V1_ S0 k nm data light (phG 4 _ S2)
 generalize S1.files.length=m at*
 have st3:=kr_ S2 dir (zJ_ nm) data
 have p3:=ahC_ hk p2 m2 data
 have g3:=xr_ g2 st3
 have hh3:=xS_ hh2 st3
 have hm3:=fun he=>afv_ (s:=data) hk m2 he
 rw[List.nil_append] at hm3
 have hr2:phT 2 (tkN dir nm data light 2 true) S2=⟨true,(zS_ S2 dir (zJ_ nm) data).2,tkN dir nm data light 2 true,(zS_ S2 dir (zJ_ nm) data).1⟩:=rfl
 generalize zS_ S2 dir (zJ_ nm) data=q at*
 obtain⟨S3,e2⟩:=q
 simp only at p3 g3 hh3 hm3 hr2
 by_cases z2:e2≠0
 ·rw[xp_ hr2 z2]
  exact .inl ⟨KK_ hk rfl rfl p3,by show(qi_ _).e≠0;rw[(vI_ _).1];exact z2⟩
 obtain rfl:e2=0:=by simpa using z2
 have m3:=hm3 rfl
 clear hm3
 rw[jG_ (t':=tkN dir nm data light 3 true) hr2 rfl (by cases light<;>rfl) (by cases light<;>rfl)]
 show V1_ S0 k nm data light (phG 3 _ S3)
 have h4:V1_ S0 k nm data light (phG 3 (tkN dir nm data light 3 true) S3)∨ ∃S4,phG 3 (tkN dir nm data light 3 true) S3=phG 2 (tkN dir nm data light 4 true) S4∧PreI S0 S4 k nm∧GoodS S4∧jA_ S4∧WZ_ S0 S4 k nm data m∧(light=false→(zm_ S4 m).stl=data.length):=by
  cases light with
  |true=>
   have hr3:phT 3 (tkN dir nm data true 3 true) S3=⟨false,0,tkN dir nm data true 3 true,S3⟩:=rfl
   exact .inr ⟨S3,by rw[jG_ (t':=tkN dir nm data true 4 true) hr3 rfl rfl rfl],p3,g3,hh3,m3,fun h=>by cases h⟩
  |false=>
   have st4:=wO_ S3 dir (zJ_ nm) []
   have p4:=anJ_ hk p3 m3
   have g4:=xr_ g3 st4
   have hh4:=xS_ hh3 st4
   have hm4:=fun he=>akz_ (dir:=dir) hk m3 he
   have hr3:phT 3 (tkN dir nm data false 3 true) S3=⟨true,(xY_ S3 dir (zJ_ nm)).2,tkN dir nm data false 3 true,(xY_ S3 dir (zJ_ nm)).1⟩:=rfl
   generalize xY_ S3 dir (zJ_ nm)=q at*
   obtain⟨S4,e3⟩:=q
   simp only at p4 g4 hh4 hm4 hr3
   by_cases z3:e3≠0
   ·left
    rw[xp_ hr3 z3]
    exact .inl ⟨KK_ hk rfl rfl p4,by show(qi_ _).e≠0;rw[(vI_ _).1];exact z3⟩
   obtain rfl:e3=0:=by simpa using z3
   exact .inr ⟨S4,by rw[jG_ (t':=tkN dir nm data false 4 true) hr3 rfl rfl rfl],p4,g4,hh4,(hm4 rfl).1,fun _=>(hm4 rfl).2⟩
 rcases h4 with h4| ⟨S4,h4,p4,g4,hh4,m4,s4⟩
 ·exact h4
 rw[h4]
 have st5:=ko_ S4 dir (zJ_ nm) nm
 have hh5:=xS_ hh4 st5
 have p5:=fun he=>agM_ (dir:=dir) p4 he
 have hm5:=fun he=>adz_ (dir:=dir) hk g4 p4 m4 s4 he
 have hr4:phT 4 (tkN dir nm data light 4 true) S4=⟨true,(zQ_ S4 dir (zJ_ nm) nm).2,tkN dir nm data light 4 (true&& (zQ_ S4 dir (zJ_ nm) nm).2 !=0),(zQ_ S4 dir (zJ_ nm) nm).1⟩:=rfl
 generalize zQ_ S4 dir (zJ_ nm) nm=q at*
 obtain⟨S5,e4⟩:=q
 simp only at hh5 p5 hm5 hr4
 by_cases z4:e4≠0
 ·rw[xp_ hr4 z4]
  exact .inl ⟨KK_ hk rfl rfl (p5 z4),by show(qi_ _).e≠0;rw[(vI_ _).1];exact z4⟩
 obtain rfl:e4=0:=by simpa using z4
 have q5:=hm5 rfl
 cases light with
 |true=>
  rw[aeM_ hr4 rfl rfl]
  exact .inr (.inl ⟨m,q5,fun h=>by cases h⟩)
 |false=>
  rw[jG_ (t':=tkN dir nm data false 5 false) hr4 rfl rfl rfl]
  show V1_ S0 k nm data false (phG 1 _ S5)
  have p6:=fun he=>abD_ (dir:=dir) q5 he
  have hm6:=fun he=>aa5_ (dir:=dir) hk hh5 q5 he
  have hr5:phT 5 (tkN dir nm data false 5 false) S5=⟨true,(zw_ S5 dir).2,tkN dir nm data false 5 false,(zw_ S5 dir).1⟩:=rfl
  generalize zw_ S5 dir=q at*
  obtain⟨S6,e5⟩:=q
  simp only at p6 hm6 hr5
  by_cases z5:e5≠0
  ·rw[xp_ hr5 z5]
   exact .inr (.inl ⟨m,by show PostI S0 (qi_ _).S k nm data false m;rw[wK_ rfl];exact p6 z5,fun _=>by show(qi_ _).e≠0;rw[(vI_ _).1];exact z5⟩)
  obtain rfl:e5=0:=by simpa using z5
  rw[aeM_ hr5 rfl rfl]
  exact .inr (.inr ⟨m,rfl,hm6 rfl⟩)
theorem al8_ {S:DiskL} (hh:jA_ S) (dir nm data:List UInt8) (light:Bool):jA_ (kP_ S dir nm data light).2:=
 afD_ jA_ dir nm (fun _ _ _ _ _ hA hst _=>xS_ hA hst) 6 (tk0 dir nm data light) S rfl rfl hh
theorem ale_ {S0:DiskL} (h0:SetS S0) (hg:GoodS S0) (hh:jA_ S0) (dir nm data:List UInt8) (light:Bool) (pl:List UInt16):
  (∀j,j<3→ ∀x,OthN dir nm j x→zK_ (z0_ (kP_ S0 dir nm data light).2 pl) j x=zK_ S0 j x)∧
  ∀k,zy_ dir=some k→
   (zK_ (z0_ (kP_ S0 dir nm data light).2 pl) k nm=zK_ S0 k nm∨((∃t,zK_ (z0_ (kP_ S0 dir nm data light).2 pl) k nm=some (data.take t))∧(light=false→zK_ (z0_ (kP_ S0 dir nm data light).2 pl) k nm=some data)))∧
   ((kP_ S0 dir nm data light).1=0→light=false→zK_ (z0_ (kP_ S0 dir nm data light).2 pl) k nm=some data):=by
 cases hk:zy_ dir with
 |none=>
  rw[all_ data light (.inl hk)]
  refine⟨fun j hj x _=> ?_,fun k h=>by cases h⟩
  refine w3_ h0 hg (fun _ _=>rfl) pl hj ?_
  obtain⟨i,-,h2⟩:=wx_ S0 pl hj
  rw[h2]
  show zo_ (jF_ S0 j i) x=_
  unfold jF_
  rw[(h0.dir j hj).2,List.take_nil]
  show zo_ (S0.dir j).stl x=_
  rw[(h0.dir j hj).1]
 |some k=>
  have hk3:=(zE_ hk).1
  have hd:qP_ k=dir:=(zE_ hk).2.symm
  have hox: ∀ {j x},OthN dir nm j x→j=k→x≠nm∧x≠zJ_ nm:=fun h e=>h (by rw[e];exact hd)
  have hhr:=al8_ hh dir nm data light
  rcases akj_ h0 hg hh hk data light with⟨h1,h2⟩ | ⟨m,h1,h2⟩ | ⟨m,h1,h2⟩
  ·exact⟨fun j hj x hx=>abk_ h0 hg h1 pl hj fun e=>(hox hx e).2,fun k' e=>by
    cases e
    exact⟨.inl (abk_ h0 hg h1 pl hk3 fun _=>Ne.symm (Wi_ nm)),fun h=>absurd h h2⟩⟩
  ·obtain⟨c1,c2⟩:=aio_ h0 hg hhr hk3 h1 pl
   exact⟨fun j hj x hx=>c1 j hj x (hox hx),fun k' e=>by
    cases e
    exact⟨c2,fun h hl=>absurd h (h2 hl)⟩⟩
  ·obtain⟨c1,c2⟩:=agI_ h0 hg hk3 h2 pl
   exact⟨fun j hj x hx=>c1 j hj x (hox hx),fun k' e=>by
    cases e
    exact⟨.inr ⟨⟨data.length,by rw[c2,List.take_length]⟩,fun _=>c2⟩,fun _ _=>c2⟩⟩
end Go.Proofs
end
section
open Go Go.Proofs Go.Sx Go.StP Go.Flo
namespace Go.Proofs
set_option maxRecDepth 10000
set_option maxHeartbeats 1000000
set_option linter.unusedSimpArgs false
structure FineW (now old data:List UInt8×Nat) (e:Nat) (light:Bool):Prop where
 full:e=0→light=false→now=data
 whole:light=false→now=old∨now=data
 part:light=true→now=old∨(now.2=0∧ ∃t,now.1=data.1.take t)
theorem aqC_ {S0:DiskL} (h0:SetS S0) (hg:GoodS S0) (hh:jA_ S0) (hc:xd_ S0) (n:Int) (b:Bool) (dir nm data:List UInt8) (light:Bool) (pl:List UInt16) (hs': ∀k,k<3→SrtN ((z0_ (kP_ {S0 with fuse:=n,fused:=b} dir nm data light).2 pl).dir k).seen):
  JN_ dir nm (jc_ S0)=JN_ dir nm (jc_ (z0_ (kP_ {S0 with fuse:=n,fused:=b} dir nm data light).2 pl))∧
  ((jP_ S0 dir nm).2≠1→FineW (jP_ (z0_ (kP_ {S0 with fuse:=n,fused:=b} dir nm data light).2 pl) dir nm) (jP_ S0 dir nm) (data,0) (kP_ {S0 with fuse:=n,fused:=b} dir nm data light).1 light):=by
 obtain⟨h1,h2⟩:=ale_ (S0:={S0 with fuse:=n,fused:=b}) ⟨h0.dir,h0.file⟩ ⟨hg.srt,hg.lt,hg.uniq⟩ hh dir nm data light pl
 have ho:=ajA_ (kP_ {S0 with fuse:=n,fused:=b} dir nm data light).2 pl
 generalize kP_ {S0 with fuse:=n,fused:=b} dir nm data light=q at*
 obtain⟨e,Sq⟩:=q
 simp only at h1 h2 ho hs' ⊢
 generalize z0_ Sq pl=Sc at*
 refine⟨(aa8_ (by rw[ho,hc.1]) hg.srt hs' dir nm fun j hj x hx=>h1 j hj x hx).symm,fun hr=> ?_⟩
 cases hk:zy_ dir with
 |none=>exact absurd (by rw[kK_ (.inl hk)]) hr
 |some k=>
  cases hf:qS_ nm with
  |false=>exact absurd (by rw[kK_ (.inr hf)]) hr
  |true=>
   have ec:jP_ Sc dir nm=match zK_ Sc k nm with|none=>([],6) |some d=>(d,0):=xA_ (S:={Sc with fused:=false}) ⟨ho,rfl⟩ hk hf
   rw[ec,xA_ hc hk hf]
   obtain⟨h3,h4⟩:=h2 k hk
   have hvs:zK_ {S0 with fuse:=n,fused:=b} k nm=zK_ S0 k nm:=rfl
   rw[hvs] at h3
   generalize zK_ Sc k nm=v at*
   refine⟨fun he hl=> ?_,fun hl=> ?_,fun hl=> ?_⟩
   ·rw[h4 he hl]
   ·rcases h3 with h3| ⟨-,h3⟩
    ·exact .inl (by rw[h3]<;>(cases zK_ S0 k nm<;>rfl))
    ·exact .inr (by rw[h3 hl])
   ·rcases h3 with h3| ⟨⟨t,h3⟩,-⟩
    ·exact .inl (by rw[h3]<;>(cases zK_ S0 k nm<;>rfl))
    ·exact .inr (by rw[h3];exact⟨rfl,t,rfl⟩)
structure PuwG where
 e:Nat
 S:DiskL
 G:DkG
 X:za_
 DG:za_
set_option linter.defProp false
def zt_:=And.intro (And.intro (And.intro (@zd_) (@zc_)) (And.intro (@Sx.tup2_0) (And.intro (@Sx.tup2_1) (@adN_)))) (And.intro (And.intro (@WU_) (@W8_)) (And.intro (@WY_) (And.intro (@WO_) (@Wu_))))
theorem QX_ (v1:Value) (l:List FiL) (jb:JbL) (c:UInt8) (p:PkL) (w:World) (hG:Qk_ w) (hv:FiSl w v1 l) (hb:FiB l) (hp:PkS w p.v p.l):
  Rets Tryz.prog 7 #[v1, .agg (jbC jb).toArray,v8 c,p.v] w (fun v D=>v= .bool true∧D= []):=by
 have lnp:=hp.len
 refine Rets.enterV Tryz.func7 rfl (rs:= [.tmp 8]) Tryz.results7 Tryz.ntmps7 ?_
 refine kf ?_
 first|with_reducible refine ks [1000010,1000018,1000019,1000021] @zt_ ?_|refine kp @zt_ ?_
 refine Ow.box rfl rfl fun b7 hb7 hw7=> ?_
 simp only[qB_,qA_,qJ_,zg_,List.nil_append,List.cons_append]
 have hNj:New w.heap.size [(b7,Obj.cells (jbC jb).toArray 66 (0,0))]:=⟨hw7,trivial⟩
 refine ko @zt_ ?_
 first|with_reducible refine ks [] @zt_ ?_|refine kp @zt_ ?_
 refine Ow.callFV rfl Tryz.call35 (fun w' hw'=>z5_ w' (zI_ hG hw' hNj)) ?_
 refine ko @zt_ ?_
 first|with_reducible refine ks [] @zt_ ?_|refine kp @zt_ ?_
 refine Ow.callFV rfl Tryz.call15 (fun w' hw'=>Jw_ v1 (.slice none 0 0) l [] w' (hv.oldN hw' hNj) hb (SlV.nil w') (by simp)) ?_
 cases hgt:Jt_ l [] with
 |true=>
  refine ko @zt_ ?_
  first|with_reducible refine ks [] @zt_ ?_|refine kp @zt_ ?_
  refine Ow.callFV rfl Tryz.call35 (fun w' hw'=>z5_ w' (zI_ hG hw' hNj)) ?_
  refine ko @zt_ ?_
  first|with_reducible refine ks [] @zt_ ?_|refine kp @zt_ ?_
  refine⟨_,(ke @zt_),hNj, ?_⟩
  rfl
 |false=>
  obtain⟨hll,-,hlb⟩:=acJ_ hgt
  refine ko @zt_ ?_
  refine Ow.callFV rfl Tryz.call36 (fun w' hw'=>Kj_ jb w') ?_
  cases hgj:VK_ jb with
  |true=>
   refine ko @zt_ ?_
   first|with_reducible refine ks [] @zt_ ?_|refine kp @zt_ ?_
   refine Ow.callFV rfl Tryz.call35 (fun w' hw'=>z5_ w' (zI_ hG hw' hNj)) ?_
   refine ko @zt_ ?_
   first|with_reducible refine ks [] @zt_ ?_|refine kp @zt_ ?_
   refine⟨_,(ke @zt_),hNj, ?_⟩
   rfl
  |false=>
   obtain⟨j1,j2,j3⟩:=acw_ hgj
   cases hp1:decide ((100:Int)< (p.l.length:Int)) with
   |true=>
    refine ko (And.intro @zt_ (And.intro @lnp (@hp1))) ?_
    first|with_reducible refine ks [] @zt_ ?_|refine kp @zt_ ?_
    refine Ow.callFV rfl Tryz.call35 (fun w' hw'=>z5_ w' (zI_ hG hw' hNj)) ?_
    refine ko @zt_ ?_
    first|with_reducible refine ks [] @zt_ ?_|refine kp @zt_ ?_
    refine⟨_,(ke @zt_),hNj, ?_⟩
    rfl
   |false=>
    have hpl:=of_decide_eq_false hp1
    refine ko (And.intro @zt_ (And.intro @lnp (@hp1))) ?_
    first|with_reducible refine ks [] @zt_ ?_|refine kp @zt_ ?_
    have hr8:=Wm_ c 9 (by decide)
    have hn9: (((c%9).toNat:Nat):Int)<256:=by have:=(c%9).toNat_lt;omega
    refine Ow.callC rfl rfl Tryz.call16 (fun w' hw'=>WL_ 1000000 v1 l w' (by decide) (zI_ hG hw' hNj) (hv.oldN hw' hNj) (by omega) hb) (fun B0 v0 D0 hA0 hB0 hN0 hS0=> ?_)
    obtain⟨G0,rfl,hP0⟩:=hS0
    have hN0':New w.heap.size D0:=hN0.mono hB0
    have hb0:b7∉keys D0:=hN0.not (zv_ hA0 (by simp[keys]))
    have hD0:DkA D0 G0 (ofD 1000000 l) l.length:=⟨hP0,ac7_ _ l,aok_ _ l fun f hf=>by have:=(hlb f hf).1;omega⟩
    have hc0:=(aj8_ 1000000 l).1
    have hs0:=ar2_ 1000000 l
    have hg0:=hP0.ok.good (ajZ_ 1000000 l)
    have hh0:=ac7_ 1000000 l
    have hlaw:=fun(light:Bool)=>aqC_ hs0 hg0 hh0 hc0 (((c%9).toNat:Nat):Int) (decide (0≤ (((c%9).toNat:Nat):Int))) jb.dir jb.name jb.data light p.l
    have hN0r:New w.heap.size (D0++ ((b7,Obj.cells (jbC jb).toArray 66 (0,0)):: [])):=hN0'.app hNj
    have hfl: (jc_ (ofD 1000000 l)).length≤3000000:=kl_ (hD0.b (by omega)) 3 (Nat.le_refl _)
    generalize hS0e:ofD 1000000 l=S0 at*
    refine Ow.permL (M:=D0++ ((b7, .cells (jbC jb).toArray 66 (0,0)):: [])) (by classical exact List.perm_iff_count.2 fun a=>by simp only[List.count_append,List.count_cons,List.count_nil]<;>omega) ?_
    refine ko @zt_ ?_
    first|with_reducible refine ks [] @zt_ ?_|refine kp @zt_ ?_
    refine Ow.callC rfl rfl Tryz.call19 (fun w' hw'=>j1_ w' G0 S0 ((hP0.mono fun b o h=>zj_ h).world hw') (zI_ hG hw' hN0r) (hD0.b (by omega))) (fun B3 v10 D3 hA3 hB3 hN3 hS3=> ?_)
    have hN3':New w.heap.size D3:=hN3.mono hB3
    have hNY:New w.heap.size ((b7,Obj.cells (jbC jb).toArray 66 (0,0))::D3):=⟨hw7,hN3'⟩
    refine Ow.permL (M:=D0++ ((b7, .cells (jbC jb).toArray 66 (0,0))::D3)) (by classical exact List.perm_iff_count.2 fun a=>by simp only[List.count_append,List.count_cons,List.count_nil]<;>omega) ?_
    have rj:=Jl_ w (.cells (jbC jb).toArray 66 (0,0)) D3 hb0
    refine ko @zt_ ?_
    first|with_reducible refine ks [] (And.intro @zt_ @rj) ?_|refine kp (And.intro @zt_ @rj) ?_
    refine Ow.callFV rfl Tryz.call23 (fun w' hw'=>xw_ w' G0 S0 jb.dir jb.name ((hP0.mono fun b o h=>zj_ h).world hw') (by omega)) ?_
    refine ko @zt_ ?_
    first|with_reducible refine ks [] (And.intro @zt_ @hr8) ?_|refine kp (And.intro @zt_ @hr8) ?_
    refine Ow.callX (X:=D0) (Y:=(b7, .cells (jbC jb).toArray 66 (0,0))::D3) rfl rfl rfl Tryz.call37 (fun w' hw' hX' hn'=>QK_ D0 G0 S0 (((c%9).toNat:Nat):Int) w' hX' hn' hP0 (by omega)) (fun v48 X1 hC1 hS1=> ?_)
    obtain⟨-,G1,hbd1,hP1⟩:=hS1
    have hN1:New w.heap.size X1:=xR_ hC1 hN0'
    have hb1:=vD_ hC1 hb0 (by simp[keys])
    generalize hS1e: ({S0 with fuse:=(((c%9).toNat:Nat):Int),fused:=decide (0≤ (((c%9).toNat:Nat):Int))}:DiskL)=S1 at*
    have hA1:DkA X1 G1 S1 l.length:=⟨hP1,xI_ hD0.H (by rw[←hS1e]),kI_ hD0.B (by rw[←hS1e])⟩
    rw[←hbd1]
    have rj1:=Jl_ w (.cells (jbC jb).toArray 66 (0,0)) D3 hb1
    refine ko @zt_ ?_
    first|with_reducible refine ks [] (And.intro @zt_ @rj1) ?_|refine kp (And.intro @zt_ @rj1) ?_
    refine Ow.callX (X:=X1) (Y:=(b7, .cells (jbC jb).toArray 66 (0,0))::D3) rfl rfl rfl Tryz.call38 (fun w' hw' hX' hn'=>QQ_ X1 G1 S1 l.length jb.dir jb.name jb.data w' hX' hn' hA1 (by omega) (by omega) (by omega)) (fun v13 X2 hC2 hS2=> ?_)
    obtain⟨rfl,G2,hbd2,hA2⟩:=hS2
    have hN2:New w.heap.size X2:=xR_ hC2 hN1
    have hb2:=vD_ hC2 hb1 (by simp[keys])
    have rj2:=Jl_ w (.cells (jbC jb).toArray 66 (0,0)) D3 hb2
    rw[←hbd2]
    refine ko @zt_ ?_
    refine Cw.cutO (G:=PuwG) [9,13,57,58,59,60,61,62,63,64,65,66,67,68,69,70,71,72,73] (fun g=> [(9,vp g.G.bd 0),(13,vi (g.e:Nat))]) (fun g=>g.X++ ((b7, .cells (jbC jb).toArray 66 (0,0)):: (D3++g.DG))) (fun g=>g.S=(kP_ S1 jb.dir jb.name jb.data jb.light).2∧g.e=(kP_ S1 jb.dir jb.name jb.data jb.light).1∧DkA g.X g.G g.S (l.length+42)∧New w.heap.size g.X∧New w.heap.size g.DG∧b7∉keys g.X) ?_ ?_
    ·cases hl:jb.light with
     |false=>
      first|with_reducible refine ks [] (And.intro @zt_ (And.intro @rj2 (@hl))) ?_|refine kp (And.intro @zt_ (And.intro @rj2 (@hl))) ?_
      exact CutO.mk ⟨(kP_ S1 jb.dir jb.name jb.data false).1,(kP_ S1 jb.dir jb.name jb.data false).2,G2,X2,[]⟩ ⟨rfl,rfl,hA2,hN2,trivial,hb2⟩ (by rw[List.append_nil]) rfl
     |true=>
      have hN2r:New w.heap.size (X2++ ((b7,Obj.cells (jbC jb).toArray 66 (0,0))::D3)):=hN2.app hNY
      first|with_reducible refine ks [] (And.intro @zt_ (And.intro @rj2 (@hl))) ?_|refine kp (And.intro @zt_ (And.intro @rj2 (@hl))) ?_
      refine Ow.callC rfl rfl Tryz.call16 (fun w' hw'=>WL_ 1000000 v1 l w' (by decide) (zI_ hG hw' hN2r) (hv.oldN hw' hN2r) (by omega) hb) (fun B4 v4 D4 hA4 hB4 hN4 hS4=> ?_)
      obtain⟨G4,rfl,hP4⟩:=hS4
      rw[hS0e] at hP4
      have hN4':New w.heap.size D4:=hN4.mono hB4
      have hb4:b7∉keys D4:=hN4.not (zv_ hA4 (by simp[keys]))
      have rj4:=Jl_ w (.cells (jbC jb).toArray 66 (0,0)) (D3++X2) hb4
      refine Ow.permL (M:=D4++ ((b7, .cells (jbC jb).toArray 66 (0,0)):: (D3++X2))) (by classical exact List.perm_iff_count.2 fun a=>by simp only[List.count_append,List.count_cons,List.count_nil]<;>omega) ?_
      refine ko @zt_ ?_
      first|with_reducible refine ks [] (And.intro @zt_ (And.intro @hr8 (@rj4))) ?_|refine kp (And.intro @zt_ (And.intro @hr8 (@rj4))) ?_
      refine Ow.callX (X:=D4) (Y:=(b7, .cells (jbC jb).toArray 66 (0,0)):: (D3++X2)) rfl rfl rfl Tryz.call37 (fun w' hw' hX' hn'=>QK_ D4 G4 S0 (((c%9).toNat:Nat):Int) w' hX' hn' hP4 (by omega)) (fun v48 X5 hC5 hS5=> ?_)
      obtain⟨-,G5,hbd5,hP5⟩:=hS5
      rw[hS1e] at hP5
      have hN5:New w.heap.size X5:=xR_ hC5 hN4'
      have hb5:=vD_ hC5 hb4 (by simp[keys])
      have hA5:DkA X5 G5 S1 l.length:=⟨hP5,xI_ hD0.H (by rw[←hS1e]),kI_ hD0.B (by rw[←hS1e])⟩
      rw[←hbd5]
      have rj5:=Jl_ w (.cells (jbC jb).toArray 66 (0,0)) (D3++X2) hb5
      refine ko @zt_ ?_
      first|with_reducible refine ks [] (And.intro @zt_ @rj5) ?_|refine kp (And.intro @zt_ @rj5) ?_
      refine Ow.callX (X:=X5) (Y:=(b7, .cells (jbC jb).toArray 66 (0,0)):: (D3++X2)) rfl rfl rfl Tryz.call39 (fun w' hw' hX' hn'=>VM_ X5 G5 S1 l.length jb.dir jb.name jb.data w' hX' hn' hA5 (by omega) (by omega) (by omega)) (fun v13 X6 hC6 hS6=> ?_)
      obtain⟨rfl,G6,hbd6,hA6⟩:=hS6
      rw[←hbd6]
      refine ko @zt_ ?_
      first|with_reducible refine ks [] @zt_ ?_|refine kp @zt_ ?_
      exact CutO.mk ⟨(kP_ S1 jb.dir jb.name jb.data true).1,(kP_ S1 jb.dir jb.name jb.data true).2,G6,X6,X2⟩ ⟨rfl,rfl,hA6,xR_ hC6 hN5,hN2,vD_ hC6 hb5 (by simp[keys])⟩ rfl rfl
    ·intro g j hg
     refine kv ?_
     clear hA1 hN1 hb1 rj1 hA2 hN2 hb2 rj2 hD0 hN0' hb0 hP0 rj hP1
     obtain⟨e,S,G,X,DG⟩:=g
     simp only at hg ⊢
     obtain⟨hgS,hge,hA,hN,hNG,hbX⟩:=hg
     have hlw:=hlaw jb.light
     rw[←hgS,←hge] at hlw
     have hNr:New w.heap.size (X++ ((b7,Obj.cells (jbC jb).toArray 66 (0,0)):: (D3++DG))):=hN.app (show New w.heap.size ((b7,_):: (D3++DG)) from⟨hw7,hN3'.app hNG⟩)
     first|with_reducible refine ks [17,23,1000018,1000019,1000021] @zt_ ?_|refine kp @zt_ ?_
     refine Ow.callX (X:=X) (Y:=(b7, .cells (jbC jb).toArray 66 (0,0)):: (D3++DG)) rfl rfl rfl Tryz.call22 (fun w' hw' hX' hn'=>ZB_ X G S p.v p.l w' hX' hn' hA.P (zI_ hG hw' hNr) (Xf_ hG hN) ((vk_ (q:=(S,p.l)) hA.B 3).b (by omega)) (hp.old hw' fun hl b hb=>hNr.not (hp.blk hl hb)) (fun hl b hb=>⟨Nat.lt_of_lt_of_le (hp.blk hl hb) hw'.size,hN.not (hp.blk hl hb)⟩) (by omega) (fun k hk=>⟨(hA.H k).2,hA.pend (by omega) k hk⟩)) (fun v72 X7 hC7 hS7=> ?_)
     obtain⟨G7,hbd7,hP7⟩:=hS7
     have hN7:New w.heap.size X7:=xR_ hC7 hN
     have hb7':=vD_ hC7 hbX (by simp[keys])
     have hA7:DkA X7 G7 (z0_ S p.l) (l.length+42):=⟨hP7,QO_ hA.H _,Xt_ hA.B _⟩
     obtain⟨hot,hfw⟩:=hlw hP7.ok.seen
     rw[←hbd7]
     generalize z0_ S p.l=Sc at*
     have hdc:decide (JN_ jb.dir jb.name (jc_ S0)=JN_ jb.dir jb.name (jc_ Sc))=true:=decide_eq_true hot
     have hflc: (jc_ Sc).length≤3000000:=kl_ (hA7.b (by omega)) 3 (Nat.le_refl _)
     have rj7:=Jl_ w (.cells (jbC jb).toArray 66 (0,0)) (D3++DG) hb7'
     have hP7':DkP (X7++ ((b7,Obj.cells (jbC jb).toArray 66 (0,0)):: (D3++DG))) G7 Sc:=hP7.mono fun b o h=>zj_ h
     have hN7r:New w.heap.size (X7++ ((b7,Obj.cells (jbC jb).toArray 66 (0,0)):: (D3++DG))):=hN7.app (show New w.heap.size ((b7,_):: (D3++DG)) from⟨hw7,hN3'.app hNG⟩)
     refine ko @zt_ ?_
     have z0: (((0:Nat):Int)==0)=true:=rfl
     first|with_reducible refine ks [17,23,1000018] (And.intro @zt_ @rj7) ?_|refine kp (And.intro @zt_ @rj7) ?_
     refine Ow.callFV rfl Tryz.call23 (fun w' hw'=>xw_ w' G7 Sc jb.dir jb.name (hP7'.world hw') (by omega)) ?_
     generalize jP_ S0 jb.dir jb.name=r0 at*
     generalize jP_ Sc jb.dir jb.name=rc at*
     obtain⟨old,had⟩:=r0
     obtain⟨now,has⟩:=rc
     simp only at hfw ⊢
     refine ko @zt_ ?_
     cases eh: ((had:Int)==1) with
     |true=>
      first|with_reducible refine ks [17] (And.intro @zt_ @eh) ?_|refine kp (And.intro @zt_ @eh) ?_
      refine Cw.regionS [b7] [0,1,2,3,5,7,6,8,4,9,10,11] [] (by kernel_rfl) (by kernel_rfl) (by kernel_rfl) ?_
      simp only[zu_, ↓zi_, ↓ze_, ↓zG_, ↓zF_,zf_]
      refine kq (And.intro @zt_ @rj7) ?_
      refine Ow.soft rfl rfl rfl ?_
      refine Ow.callFV rfl Tryz.call35 (fun w' hw'=>z5_ w' (zI_ hG hw' hN7r)) ?_
      with_reducible refine Ow.nil ?_
      refine⟨by intro b hb;simp only[List.mem_cons,List.not_mem_nil,or_false] at hb;(try subst hb);rfl, ?_⟩
      refine kq (And.intro @zt_ @rj7) ?_
      refine Ow.soft rfl rfl rfl ?_
      refine Ow.callC rfl rfl Tryz.call19 (fun w' hw'=>j1_ w' G7 Sc (hP7'.world hw') (zI_ hG hw' hN7r) (hA7.b (by omega))) (fun B8 v14 D8 hA8 hB8 hN8 hS8=> ?_)
      have hNf:=hN7r.app (hN8.mono hB8)
      with_reducible refine Ow.nil ?_
      refine⟨kj_ (by simp[keys]), ?_⟩
      refine kq @zt_ ?_
      refine Ow.soft rfl rfl rfl ?_
      refine Ow.callFV rfl Tryz.call40 (fun w' hw'=>kG_ v10 v14 (jc_ S0) (jc_ Sc) jb.dir jb.name w' ((hS3.mono (fun q hq=>by simp[hq])).slV (z:=fi0) hw' rfl rfl zT_) ((hS8.mono (fun q hq=>by simp[hq])).slV (z:=fi0) hw' rfl rfl zT_) (by omega) (by omega) (by omega)) ?_
      with_reducible refine Ow.nil ?_
      refine⟨by intro b hb;simp only[List.mem_cons,List.not_mem_nil,or_false] at hb;(try subst hb);rfl, ?_⟩
      refine kq (And.intro @zt_ @hdc) ?_
      refine⟨_,(ke @zt_),hNf, ?_⟩
      rfl
     |false=>
      cases ee: ((e:Int)==1) with
      |true=>
       first|with_reducible refine ks [17] (And.intro @zt_ (And.intro @eh (@ee))) ?_|refine kp (And.intro @zt_ (And.intro @eh (@ee))) ?_
       refine Cw.regionS [b7] [0,1,2,3,5,7,6,8,4,9,10,11] [] (by kernel_rfl) (by kernel_rfl) (by kernel_rfl) ?_
       simp only[zu_, ↓zi_, ↓ze_, ↓zG_, ↓zF_,zf_]
       refine kq (And.intro @zt_ @rj7) ?_
       refine Ow.soft rfl rfl rfl ?_
       refine Ow.callFV rfl Tryz.call35 (fun w' hw'=>z5_ w' (zI_ hG hw' hN7r)) ?_
       with_reducible refine Ow.nil ?_
       refine⟨by intro b hb;simp only[List.mem_cons,List.not_mem_nil,or_false] at hb;(try subst hb);rfl, ?_⟩
       refine kq (And.intro @zt_ @rj7) ?_
       refine Ow.soft rfl rfl rfl ?_
       refine Ow.callC rfl rfl Tryz.call19 (fun w' hw'=>j1_ w' G7 Sc (hP7'.world hw') (zI_ hG hw' hN7r) (hA7.b (by omega))) (fun B8 v14 D8 hA8 hB8 hN8 hS8=> ?_)
       have hNf:=hN7r.app (hN8.mono hB8)
       with_reducible refine Ow.nil ?_
       refine⟨kj_ (by simp[keys]), ?_⟩
       refine kq @zt_ ?_
       refine Ow.soft rfl rfl rfl ?_
       refine Ow.callFV rfl Tryz.call40 (fun w' hw'=>kG_ v10 v14 (jc_ S0) (jc_ Sc) jb.dir jb.name w' ((hS3.mono (fun q hq=>by simp[hq])).slV (z:=fi0) hw' rfl rfl zT_) ((hS8.mono (fun q hq=>by simp[hq])).slV (z:=fi0) hw' rfl rfl zT_) (by omega) (by omega) (by omega)) ?_
       with_reducible refine Ow.nil ?_
       refine⟨by intro b hb;simp only[List.mem_cons,List.not_mem_nil,or_false] at hb;(try subst hb);rfl, ?_⟩
       refine kq (And.intro @zt_ @hdc) ?_
       refine⟨_,(ke @zt_),hNf, ?_⟩
       rfl
      |false=>
       obtain⟨hf1,hf2,hf3⟩:=hfw (by have:=beq_eq_false_iff_ne.1 eh;omega)
       first|with_reducible refine ks [23,1000018] (And.intro @zt_ (And.intro @eh (@ee))) ?_|refine kp (And.intro @zt_ (And.intro @eh (@ee))) ?_
       refine Cw.cutO (G:=Bool) [16,103,104,105,106,107,108,109,110,111,112,113,114,115,116,117,118,119,120] (fun g=> [(16, .bool g)]) (fun g=>X7++ ((b7, .cells (jbC jb).toArray 66 (0,0)):: (D3++DG))) (fun g=>g=(((has:Int)==(had:Int)&&now==old) || ((has:Int)==0&&now==jb.data))) ?_ ?_
       ·cases b1: ((has:Int)==(had:Int)) with
        |true=>
         cases b2: (now==old) with
         |true=>
          first|with_reducible refine ks [] (And.intro @zt_ (And.intro @b1 (@b2))) ?_|refine kp (And.intro @zt_ (And.intro @b1 (@b2))) ?_
          exact CutO.mk true rfl rfl rfl
         |false=>
          cases b3: ((has:Int)==0) with
          |true=>
           cases b4: (now==jb.data) with
           |true=>
            first|with_reducible refine ks [] (And.intro @zt_ (And.intro @b1 (And.intro @b2 (And.intro @b3 (And.intro @b4 (@rj7)))))) ?_|refine kp (And.intro @zt_ (And.intro @b1 (And.intro @b2 (And.intro @b3 (And.intro @b4 (@rj7)))))) ?_
            exact CutO.mk true rfl rfl rfl
           |false=>
            first|with_reducible refine ks [] (And.intro @zt_ (And.intro @b1 (And.intro @b2 (And.intro @b3 (And.intro @b4 (@rj7)))))) ?_|refine kp (And.intro @zt_ (And.intro @b1 (And.intro @b2 (And.intro @b3 (And.intro @b4 (@rj7)))))) ?_
            exact CutO.mk false rfl rfl rfl
          |false=>
           first|with_reducible refine ks [] (And.intro @zt_ (And.intro @b1 (And.intro @b2 (@b3)))) ?_|refine kp (And.intro @zt_ (And.intro @b1 (And.intro @b2 (@b3)))) ?_
           exact CutO.mk false rfl rfl rfl
        |false=>
         cases b3: ((has:Int)==0) with
         |true=>
          cases b4: (now==jb.data) with
          |true=>
           first|with_reducible refine ks [] (And.intro @zt_ (And.intro @b1 (And.intro @b3 (And.intro @b4 (@rj7))))) ?_|refine kp (And.intro @zt_ (And.intro @b1 (And.intro @b3 (And.intro @b4 (@rj7))))) ?_
           exact CutO.mk true rfl rfl rfl
          |false=>
           first|with_reducible refine ks [] (And.intro @zt_ (And.intro @b1 (And.intro @b3 (And.intro @b4 (@rj7))))) ?_|refine kp (And.intro @zt_ (And.intro @b1 (And.intro @b3 (And.intro @b4 (@rj7))))) ?_
           exact CutO.mk false rfl rfl rfl
         |false=>
          first|with_reducible refine ks [] (And.intro @zt_ (And.intro @b1 (@b3))) ?_|refine kp (And.intro @zt_ (And.intro @b1 (@b3))) ?_
          exact CutO.mk false rfl rfl rfl
       ·intro ga jga hga
        refine kv ?_
        have hg1: (now,has)=(old,had)∨(now,has)=(jb.data,0)→ga=true:=fun h=>by
         rw[hga]
         rcases h with h|h<;>(cases h;simp)
        refine Cw.cutO (G:=Unit) [16,121,122,123,124,125,126,127,128,129,130,131,132,133,134,135,136,137,138,139,140,141,142,143,144] (fun g=> [(16, .bool true)]) (fun g=>X7++ ((b7, .cells (jbC jb).toArray 66 (0,0)):: (D3++DG))) (fun g=>True) ?_ ?_
        ·cases hl:jb.light with
         |false=>
          obtain rfl:=hg1 (hf2 hl)
          first|with_reducible refine ks [] (And.intro @zt_ (And.intro @rj7 (@hl))) ?_|refine kp (And.intro @zt_ (And.intro @rj7 (@hl))) ?_
          exact CutO.mk () trivial rfl rfl
         |true=>
          cases ga with
          |true=>
           first|with_reducible refine ks [] (And.intro @zt_ (And.intro @rj7 (@hl))) ?_|refine kp (And.intro @zt_ (And.intro @rj7 (@hl))) ?_
           exact CutO.mk () trivial rfl rfl
          |false=>
           rcases hf3 hl with h| ⟨h1,t,h2⟩
           ·cases hg1 (.inl h)
           ·simp only at h1 h2
            have b3: ((has:Int)==0)=true:=by rw[h1];rfl
            have hle:now.length≤jb.data.length:=by rw[h2,List.length_take];omega
            have b5:decide ((now.length:Int)≤ (jb.data.length:Int))=true:=decide_eq_true (by omega)
            have b6: (now==jb.data.take now.length)=true:=by
             rw[beq_iff_eq,h2,List.length_take]
             rcases Nat.le_total t jb.data.length with h|h
             ·rw[Nat.min_eq_left h]
             ·rw[Nat.min_eq_right h,List.take_of_length_le h,List.take_length]
            have b7':decide ((0:Int)≤ (now.length:Int)∧(now.length:Int)≤ (jb.data.length:Int))=true:=decide_eq_true (by omega)
            first|with_reducible refine ks [] (And.intro @zt_ (And.intro @rj7 (And.intro @hl (And.intro @b3 (And.intro @b5 (And.intro @b6 (@b7'))))))) ?_|refine kp (And.intro @zt_ (And.intro @rj7 (And.intro @hl (And.intro @b3 (And.intro @b5 (And.intro @b6 (@b7'))))))) ?_
            exact CutO.mk () trivial rfl rfl
        ·intro gb jgb hgb
         refine kv ?_
         refine Cw.cutO (G:=Unit) [16,145,146,147,148,149,150,151,152,153,154,155,156,157,158,159] (fun g=> [(16, .bool true)]) (fun g=>X7++ ((b7, .cells (jbC jb).toArray 66 (0,0)):: (D3++DG))) (fun g=>True) ?_ ?_
         ·cases ez: ((e:Int)==0) with
          |false=>
           first|with_reducible refine ks [] (And.intro @zt_ @ez) ?_|refine kp (And.intro @zt_ @ez) ?_
           exact CutO.mk () trivial rfl rfl
          |true=>
           cases hl:jb.light with
           |true=>
            first|with_reducible refine ks [] (And.intro @zt_ (And.intro @ez (And.intro @rj7 (@hl)))) ?_|refine kp (And.intro @zt_ (And.intro @ez (And.intro @rj7 (@hl)))) ?_
            exact CutO.mk () trivial rfl rfl
           |false=>
            have he:=hf1 (by have:=beq_iff_eq.1 ez;omega) hl
            obtain⟨rfl,rfl⟩:now=jb.data∧has=0:=by cases he;exact⟨rfl,rfl⟩
            have b4: (jb.data==jb.data)=true:=beq_self_eq_true _
            first|with_reducible refine ks [] (And.intro @zt_ (And.intro @ez (And.intro @rj7 (And.intro @hl (And.intro @z0 (@b4)))))) ?_|refine kp (And.intro @zt_ (And.intro @ez (And.intro @rj7 (And.intro @hl (And.intro @z0 (@b4)))))) ?_
            exact CutO.mk () trivial rfl rfl
         ·intro gc jgc hgc
          refine kv ?_
          first|with_reducible refine ks [23] @zt_ ?_|refine kp @zt_ ?_
          refine Cw.regionS [b7] [0,1,2,3,4,5,6,8,10,9,11,7,12,13,14] [] (by kernel_rfl) (by kernel_rfl) (by kernel_rfl) ?_
          simp only[zu_, ↓zi_, ↓ze_, ↓zG_, ↓zF_,zf_]
          refine kq (And.intro @zt_ @rj7) ?_
          refine Ow.soft rfl rfl rfl ?_
          refine Ow.callFV rfl Tryz.call35 (fun w' hw'=>z5_ w' (zI_ hG hw' hN7r)) ?_
          with_reducible refine Ow.nil ?_
          refine⟨by intro b hb;simp only[List.mem_cons,List.not_mem_nil,or_false] at hb;(try subst hb);rfl, ?_⟩
          refine kq (And.intro @zt_ @rj7) ?_
          refine Ow.soft rfl rfl rfl ?_
          refine Ow.callC rfl rfl Tryz.call19 (fun w' hw'=>j1_ w' G7 Sc (hP7'.world hw') (zI_ hG hw' hN7r) (hA7.b (by omega))) (fun B8 v14 D8 hA8 hB8 hN8 hS8=> ?_)
          have hNf:=hN7r.app (hN8.mono hB8)
          with_reducible refine Ow.nil ?_
          refine⟨kj_ (by simp[keys]), ?_⟩
          refine kq @zt_ ?_
          refine Ow.soft rfl rfl rfl ?_
          refine Ow.callFV rfl Tryz.call40 (fun w' hw'=>kG_ v10 v14 (jc_ S0) (jc_ Sc) jb.dir jb.name w' ((hS3.mono (fun q hq=>by simp[hq])).slV (z:=fi0) hw' rfl rfl zT_) ((hS8.mono (fun q hq=>by simp[hq])).slV (z:=fi0) hw' rfl rfl zT_) (by omega) (by omega) (by omega)) ?_
          with_reducible refine Ow.nil ?_
          refine⟨by intro b hb;simp only[List.mem_cons,List.not_mem_nil,or_false] at hb;(try subst hb);rfl, ?_⟩
          refine kq (And.intro @zt_ @hdc) ?_
          refine⟨_,(ke @zt_),hNf, ?_⟩
          rfl
end Go.Proofs
end
section
open Go Go.Proofs Go.Sx Go.StP Go.Flo
namespace Go.Proofs
set_option maxRecDepth 10000
set_option maxHeartbeats 1000000
set_option linter.unusedSimpArgs false
def atF_ (f:FiL) (a:ActL):Bool:=a.dir==f.dir&& (a.name==f.name|| (a.kind.tmod 9==4&&a.s==f.name))
structure SeG where
 i:Nat
 S:DiskL
 G:DkG
 X:za_
 DG:za_
set_option linter.defProp false
def avb_:=And.intro (And.intro (And.intro (And.intro (@zd_) (@zc_)) (And.intro (@QG_) (@Zc_))) (And.intro (And.intro (@Wy_) (@Xh_)) (And.intro (@J8_) (And.intro (@J0_) (@XG_))))) (And.intro (And.intro (And.intro (@Zp_) (@WA_)) (And.intro (@agi_) (@af3_))) (And.intro (And.intro (@agC_) (@acl_)) (And.intro (@xH_) (And.intro (@Sx.tup2_0) (@Sx.tup2_1)))))
end Go.Proofs
end
namespace Go.Sx
open Go Go.ChangeShapes Go.WideShapes Go.RowKit
theorem Hp.same0 {W W':World} (h:Hp W [] W') {b:Nat} (hb:b<W.heap.size):W'.heap[b]? =W.heap[b]? :=h.old b hb (fun hm=>by cases hm)
theorem Hp.kept {W W':World} (h:Hp W [] W') (may:MemPlace→Prop):W.keptBut W' may:=by
 refine⟨h.os,h.output,fun i hi=> ?_⟩
 rw[h.same0 hi]
 cases ho:W.heap[i]? with
 |none=>rfl
 |some o=>
  cases o<;>first
   |exact⟨rfl,rfl,rfl,fun _ _=>rfl⟩
   |exact .inr ⟨rfl,rfl⟩
   |rfl
theorem Hp.sameAt {W W':World} (h:Hp W [] W') {p:MemPlace} (hp:p.block<W.heap.size):W.sameAt W' p:=by
 cases p with
 |cell b off=>
  have:=h.same0 (b:=b) hp
  simp only[World.sameAt,World.cell?,this]
 |map b=>exact h.same0 hp
theorem Hp.frozen {W W':World} (h:Hp W [] W') {a:Addr} (ha:a.block<W.heap.size):W'.frozen? a=W.frozen? a:=by
 simp only[World.frozen?,h.same0 ha]
section
variable {H:Type} {enc:TypeId×Value→H} {P:Program}
theorem Qt_ (hl:laidOutB P=true) {W W':World} {sp:Nat→Bool} (hp:Hp W [] W'): ∀ {ts:List TypeId} {vs:List Value} {ds:List (DataW H)} {ps:List MemPlace},
  (∀t∈ts,P.readableRec t=true∧t<P.types.size)→(∀p∈ps,p.block<W.heap.size)→(∀p∈ps,sp p.block=true)→
  DataW.TrodAll enc P W 0 (fun _=>true) true ts vs ds ps→DataW.TrodAll enc P W' 0 sp true ts vs ds ps
 | [],_,_,_,_,_,_,h=>by
  obtain⟨rfl,rfl,rfl⟩:=trodAll_nil h
  exact trodAll_mk0
 |t::ts,_,_,_,ht,hlt,hs,h=>by
  obtain⟨v,vs,d,ds,p,q,rfl,rfl,rfl,h1,h2⟩:=trodAll_cons h
  have hlt1: ∀x∈p,x.block<W.heap.size:=fun x hx=>hlt x (List.mem_append_left _ hx)
  exact trodAll_cons_mk (WideElems.Trod_stays hl (ht t List.mem_cons_self).1 (ht t List.mem_cons_self).2 h1 (fun x hx=>hp.sameAt (hlt1 x hx)) (fun x hx=>hs x (List.mem_append_left _ hx)))
   (Qt_ hl hp (fun u hu=>ht u (List.mem_cons_of_mem _ hu)) (fun x hx=>hlt x (List.mem_append_right _ hx)) (fun x hx=>hs x (List.mem_append_right _ hx)) h2)
theorem ab5_ {f:Func} {s:ChangeSpec} {W W':World} {args:Array Value} {ds gs:List (DataW H)} {before:List MemPlace} {tb:TypeId} (hl:laidOutB P=true)
  (hW:DataW.Whole enc P f.params.toList s.vars false W args.toList ds gs before) (hv:s.vars= []) (hpar: ∀t∈f.params.toList,P.readableRec t=true∧t<P.types.size)
  (hr:f.resultTypes= #[tb]) (htb:P.underlying tb=some .bool) (hfn:s.fn H ds={results:= [.lit (.bool true)],args:=ds}) (hp:Hp W [] W'):
  s.post enc P f false true false false W args (.bool true) W':=by
 have hlt:=hW.lt
 have hW0:=hW
 obtain⟨p,q,hA,hV,rfl,hz,hn⟩:=hW
 rw[hv] at hV
 obtain⟨rfl,rfl⟩:=trodVars_none hV
 rw[List.append_nil] at hW0 hlt hz
 have hargs: ∀sp:Nat→Bool,(∀x∈p,sp x.block=true)→DataW.TrodAll enc P W' 0 sp true f.params.toList args.toList (s.fn H (ds++ [])).args p:=fun sp hs=>by
  rw[List.append_nil,hfn]
  exact Qt_ hl hp hpar hlt hs hA
 have hvars: ∀sp:Nat→Bool,DataW.TrodVars enc P W' sp s.vars (s.fn H (ds++ [])).vars []:=fun sp=>by
  rw[List.append_nil,hfn,hv];rfl
 have hres: ∀ (b:Nat) (sp:Nat→Bool) (hd:Bool),DataW.TrodAll enc P W' b sp hd f.resultTypes.toList ((Value.bool true).resultList f.resultTypes.size) (s.fn H (ds++ [])).results []:=fun b sp hd=>by
  rw[List.append_nil,hfn,hr]
  exact trodAll_cons_mk (shut_bool htb true) trodAll_mk0
 have hold: ∀x∈p,(fun b=>decide (b<W.heap.size)) x.block=true:=fun x hx=>by simpa using hlt x hx
 refine⟨ds,[],p,[],p,[],hW0,hres _ _ _,hargs _ hold,hvars _,hp.kept _,fun _=> ?_⟩
 refine⟨ok_one hr rfl (okWide_bool_mk htb true),_,_,([]++p)++ [],⟨[]++p,[],trodAll_append (hargs _ (fun _ _=>rfl)) (hres _ _ _),hvars _,rfl, ?_,fun h=>by cases h⟩, ?_⟩
 ·intro b off hx
  have hx':MemPlace.cell b off∈p:=by simpa using hx
  rw[hp.frozen (hlt _ hx')]
  exact hz b off hx'
 ·intro x hx _
  simpa using hx
end
section
variable {P:Program} {W:World} {name:String} {k:IntKind} {zs:List Int}
end
section
variable {H:Type} {enc:TypeId×Value→H} {P:Program}
end
end Go.Sx
namespace Go.Sx
open Go
section
variable {P:Program}
theorem amh_ {fits:TypeId→Bool} {d:Nat} {e:TypeId} {count off n:Nat} (h:rowAt P fits d e count off n=true):off≤count*P.cellsOf e:=by
 cases d with
 |zero=>simp[rowAt] at h
 |succ d=>
  unfold rowAt at h
  simp only at h
  split at h
  ·cases h
  ·rename_i hs
   have hs':0<P.cellsOf e:=Nat.pos_of_ne_zero hs
   have hd:=Nat.div_add_mod off (P.cellsOf e)
   have hm:=Nat.mod_lt off hs'
   rw[Bool.or_eq_true] at h
   rcases h with h|h
   ·simp only[Bool.and_eq_true,beq_iff_eq,decide_eq_true_eq] at h
    have:off / P.cellsOf e*P.cellsOf e≤count*P.cellsOf e:=Nat.mul_le_mul_right _ (by omega)
    rw[Nat.mul_comm (P.cellsOf e)] at hd
    omega
   ·simp only[Bool.and_eq_true,decide_eq_true_eq] at h
    have: (off / P.cellsOf e+1)*P.cellsOf e≤count*P.cellsOf e:=Nat.mul_le_mul_right _ (by omega)
    rw[Nat.add_mul,Nat.one_mul] at this
    rw[Nat.mul_comm (P.cellsOf e)] at hd
    omega
theorem acr_ {e:TypeId} {count off:Nat}: ∀ {d:Nat} {u:TypeId} {n:Nat},liesAt P d e count off u n=true→off≤count*P.cellsOf e
 |0,u,n,h=>by simp[liesAt] at h
 |d+1,u,n,h=>by
  unfold liesAt at h
  rw[Bool.or_eq_true] at h
  rcases h with h|h
  ·exact amh_ h
  ·split at h
   ·exact acr_ h
   ·cases h
theorem aq6_ {W:World} {r:Reach} {base:Nat} {a:Addr} {e:TypeId} {n:Nat} (h:W.has P r base a e n):a.spot=none∧ ∃arr E fz,W.heap[a.block]? =some (.cells arr E fz)∧a.off≤arr.size:=by
 obtain⟨-,hs,row,cells,hsh,hl⟩:=h
 refine⟨hs, ?_⟩
 unfold World.shape? at hsh
 split at hsh
 ·rename_i c el fz hh
  cases hsh
  refine⟨c,_,fz,hh,Nat.le_trans (acr_ hl) ?_⟩
  exact Nat.div_mul_le_self _ _
 ·cases hsh
theorem aj2_ {W:World} {r:Reach} {base:Nat} {t e:TypeId} {v:Value} (ht:P.underlying t=some (.slice e)) (h:Value.okWide P W r base t v):
  v= .slice none 0 0∨ ∃b off len cap arr E fz,v=vsl b off len cap∧len≤cap∧W.heap[b]? =some (.cells arr E fz)∧off≤arr.size:=by
 obtain⟨a,len,cap,rfl⟩:=Go.WideShapes.okWide_slice ht h
 unfold Value.okWide at h
 rw[ht] at h
 unfold Cell.okWide at h
 rw[ht] at h
 simp only at h
 unfold Cell.ok at h
 rw[ht] at h
 cases a with
 |none=>
  left
  simp only at h
  split at h
  all_goals first| (cases h;done) |simp_all
 |some a=>
  right
  simp only at h
  obtain⟨hle,-,hh⟩:=h
  obtain⟨hs,arr,E,fz,hb,ho⟩:=aq6_ hh
  obtain⟨b,off,sp⟩:=a
  simp only at hs
  subst hs
  exact⟨b,off,len,cap,arr,E,fz,rfl,hle,hb,ho⟩
theorem aot_ {α:Type} {enc:α→List Value} {z:α} {m:Nat} {W:World} {base b off c:Nat} {l:List α} {arr:Array Value} {E:TypeId} {fz:Nat×Nat} (hm0:0<m) (hm: ∀x,(enc x).length=m)
  (hcells: ∀i,i<l.length→W.cells? base ((Addr.mk b off none).add (i*m)) m=some (enc (l.getD i z))) (hheap:W.heap[b]? =some (.cells arr E fz)) (hoff:off≤arr.size) (hc:l.length≤c):SlV m enc z W (vsl b off l.length c) l:=by
 have get: ∀k,k<l.length→ ∀j,j<m→arr[off+k*m+j]? =(enc (l.getD k z))[j]? :=by
  intro k hk j hj
  obtain⟨-,hl,hg⟩:=World.cells?_some (hcells k hk)
  have:=hg j (by omega)
  rw[jI_,jI_] at this
  simp only[World.cell?,hheap,Option.isSome_none,Bool.false_eq_true,if_false] at this
  exact this
 refine SlV.sl hheap get hc ?_
 by_cases h0:l.length=0
 ·rw[h0];omega
 ·have h1:=get (l.length - 1) (by omega) (m - 1) (by omega)
  rw[List.getElem?_eq_getElem (by rw[hm];omega)] at h1
  have h2:=(Array.getElem?_eq_some_iff.1 h1).1
  have h3: (l.length - 1)*m+m=l.length*m:=by
   rw[←Nat.succ_mul];congr 1;omega
  omega
end
end Go.Sx
section
open Go Go.Proofs Go.Sx Go.StP Go.Flo
open Go.ChangeShapes Go.WideShapes Go.ChangeAt Go.RowKit Go.ChangeMaps
namespace Go.Proofs
set_option maxRecDepth 10000
set_option maxHeartbeats 1000000
set_option linter.unusedSimpArgs false
theorem agr_ {H:Type} {tell:TypeId×Value→H} {α:Type} {enc:α→List Value} {z:α} {m:Nat} {W:World} {r:Reach} {base b0:Nat} {sp:Nat→Bool} {held:Bool} {fuel:Nat} {t e:TypeId} {v:Value} {x:DataW H×List MemPlace} {R:α→DataW H→Prop}
  (ht: (Tryz.prog).underlying t=some (.slice e)) (he: (Tryz.prog).cellsOf e=m) (hm0:0<m) (hm: ∀x,(enc x).length=m) (hval:Value.okWide Tryz.prog W r b0 t v)
  (hdec: ∀n cs y,DataW.trod tell Tryz.prog W base sp held n e cs=some y→ ∃a,cs=enc a∧R a y.1) (hd:DataW.trod tell Tryz.prog W base sp held fuel t [v]=some x):
  ∃l,SlV m enc z W v l∧(l= []∨ ∃es sp',x.1= .slice es sp'∧ ∀i,i<l.length→ ∃d,d∈es∧R (l.getD i z) d):=by
 rcases DataW.trod_slice ht hd with⟨hcs,-⟩ | ⟨a,len,cap,elems,rest,n,-,hcs,hx,-,hl,-,hlen,hel,-,-⟩
 ·simp only[List.cons.injEq,and_true] at hcs
  subst hcs
  exact⟨[],SlV.nil W, .inl rfl⟩
 ·simp only[List.cons.injEq,and_true] at hcs
  subst hcs
  rcases aj2_ ht hval with h0| ⟨b,off,len',cap',arr,E,fz,h1,-,hb,ho⟩
  ·cases h0
  ·unfold vsl at h1
   cases h1
   rw[he] at hel
   have hex: ∀i,i<len→ ∃q,W.cells? base ((Addr.mk b off none).add (i*m)) m=some (enc q)∧ ∃d,d∈elems.map (·.1)∧R q d:=by
    intro i hi
    have h2:=hel i hi
    rw[List.getElem?_eq_getElem (by omega)] at h2
    cases hc:W.cells? base ((Addr.mk b off none).add (i*m)) m with
    |none=>rw[hc] at h2;cases h2
    |some cs=>
     rw[hc] at h2
     obtain⟨q,rfl,hR⟩:=hdec _ _ _ h2
     exact⟨q,rfl,_,List.mem_map_of_mem (List.getElem_mem (by omega)),hR⟩
   obtain⟨f,hf⟩: ∃f:Nat→α,∀i,i<len→W.cells? base ((Addr.mk b off none).add (i*m)) m=some (enc (f i))∧ ∃d,d∈elems.map (·.1)∧R (f i) d:=by
    classical
    refine⟨fun i=>if h:i<len then Classical.choose (hex i h) else z,fun i hi=> ?_⟩
    simp only[dif_pos hi]
    exact Classical.choose_spec (hex i hi)
   have hll: ((List.range len).map f).length=len:=by simp
   have hgd: ∀i,i<len→((List.range len).map f).getD i z=f i:=fun i hi=>by
    rw[List.getD_eq_getElem?_getD,List.getElem?_map,List.getElem?_range hi];rfl
   refine⟨(List.range len).map f, ?_, .inr ⟨_,_,by rw[hx],fun i hi=> ?_⟩⟩
   ·have:=aot_ (W:=W) (base:=base) (b:=b) (off:=off) (c:=cap) (l:=(List.range len).map f) (z:=z) hm0 hm (fun i hi=>by
     rw[hll] at hi
     rw[(hf i hi).1,hgd i hi]) hb ho (by rw[hll];exact hl)
    rw[hll] at this
    exact this
   ·rw[hll] at hi
    rw[hgd i hi]
    exact(hf i hi).2
theorem aqa_ {H:Type} {tell:TypeId×Value→H} {W:World} {base:Nat} {sp:Nat→Bool} {held:Bool} (n:Nat) (cs:List Value) (y:DataW H×List MemPlace)
  (h:DataW.trod tell Tryz.prog W base sp held n 36 cs=some y): ∃a:FiL,cs=fiC a∧y.1= .agg [.lit (.string a.dir), .lit (.string a.name), .lit (.string a.data)]:=by
 obtain⟨y0,y1,y2,n',hy,hlen,h0,h1,h2⟩:=Deep.trod_struct3 Tryz.underlying36 h
 have hc: (Tryz.prog).cellsOf 36=3:=by kernel_rfl
 have hc0: (Tryz.prog).cellsOf 9=1:=by kernel_rfl
 simp only at h0 h1 h2
 rw[hc0,List.drop_zero] at h0
 rw[hc0] at h1 h2
 rw[hc] at hlen
 obtain⟨s,hs,hys,-⟩:=DataW.trod_string Tryz.underlying9 h0
 obtain⟨u,hu,hyu,-⟩:=DataW.trod_string Tryz.underlying9 h1
 obtain⟨x,hx,hyx,-⟩:=DataW.trod_string Tryz.underlying9 h2
 refine⟨⟨s.data.toList,u.data.toList,x.data.toList⟩, ?_,by rw[hy,hys,hyu,hyx]⟩
 have hd:cs=cs.take 1++ ((cs.drop 1).take 1++ (cs.drop 2).take 1):=by
  rw[show(cs.drop 2).take 1=cs.drop 2 from List.take_of_length_le (by rw[List.length_drop];omega),show cs.drop 2=(cs.drop 1).drop 1 by rw[List.drop_drop],List.take_append_drop,List.take_append_drop]
 rw[hd,hs,hu,hx]
 rfl
theorem X5_ {H:Type} {enc:TypeId×Value→H} {W:World} {r:Reach} {b0 base:Nat} {sp:Nat→Bool} {held:Bool} {v:Value} {d:DataW H} {p:List MemPlace}
  (hval:Value.okWide Tryz.prog W r b0 22 v) (hd:DataW.Trod enc Tryz.prog W base sp held 22 v d p):
  ∃l,FiSl W v l∧(l= []∨ ∃es sp',d= .slice es sp'∧ ∀i,i<l.length→ ∃e,e∈es∧e= .agg [.lit (.string (l.getD i fi0).dir), .lit (.string (l.getD i fi0).name), .lit (.string (l.getD i fi0).data)]):=by
 obtain⟨a0,len,cap,rfl⟩:=WideShapes.okWide_slice Tryz.underlying22 hval
 obtain⟨fu,hf⟩:=hd
 exact agr_ (z:=fi0) (R:=fun a e=>e= .agg [.lit (.string a.dir), .lit (.string a.name), .lit (.string a.data)]) Tryz.underlying22 (by kernel_rfl) (by decide) zT_ hval aqa_ hf
theorem apX_ {n:Int} (h: (Lit.int .u16 n).wf=true): ∃x:UInt16,Value.int .u16 n=v16 x:=by
 simp only[Lit.wf,Bool.and_eq_true,decide_eq_true_eq] at h
 have h1: (0:Int)≤n:=h.1
 have h2:n≤65535:=h.2
 refine⟨UInt16.ofNat n.toNat, ?_⟩
 unfold v16
 rw[UInt16.toNat_ofNat',Nat.mod_eq_of_lt (by omega),Int.toNat_of_nonneg h1]
theorem aor_ {H:Type} {tell:TypeId×Value→H} {W:World} {base:Nat} {sp:Nat→Bool} {held:Bool} {n:Nat} {cs:List Value} {y:DataW H×List MemPlace}
  (h:DataW.trod tell Tryz.prog W base sp held n 24 cs=some y): ∃p:PkL,cs= [p.v]∧PkS W p.v p.l:=by
 have h1: (Tryz.prog).cellsOf 119=1:=by kernel_rfl
 rcases DataW.trod_slice Tryz.underlying24 h with⟨rfl,-⟩ | ⟨a,len,cap,elems,rest,m,-,rfl,-,-,hl,-,hlen,hel,-,-⟩
 ·exact⟨pk0,rfl, .inl (SlV.nil W)⟩
 ·rw[h1] at hel
  by_cases h0:len=0
  ·subst h0
   exact⟨⟨.slice (some a) 0 cap,[],rfl,rfl⟩,rfl, .inr ⟨rfl,a,cap,rfl⟩⟩
  ·have hex: ∀i,i<len→ ∃q:UInt16,W.cells? base (a.add (i*1)) 1=some (u16C q):=by
    intro i hi
    have h2:=hel i hi
    rw[List.getElem?_eq_getElem (by omega)] at h2
    cases hc:W.cells? base (a.add (i*1)) 1 with
    |none=>rw[hc] at h2;cases h2
    |some cs=>
     rw[hc] at h2
     obtain⟨z,hz,-,hw⟩:=DataW.trod_int Tryz.underlying119 h2
     obtain⟨q,hq⟩:=apX_ hw
     exact⟨q,by rw[hz,hq];rfl⟩
   obtain⟨f,hf⟩: ∃f:Nat→UInt16,∀i,i<len→W.cells? base (a.add (i*1)) 1=some (u16C (f i)):=by
    classical
    refine⟨fun i=>if h:i<len then Classical.choose (hex i h) else 0,fun i hi=> ?_⟩
    simp only[dif_pos hi]
    exact Classical.choose_spec (hex i hi)
   obtain⟨-,-,hg⟩:=World.cells?_some (hf 0 (by omega))
   have hg0:=hg 0 (by omega)
   obtain⟨blk,off,spt⟩:=a
   have hcell:W.cell? ((Addr.mk blk off spt).add (0*1) |>.add 0)=some (v16 (f 0)):=hg0
   unfold World.cell? at hcell
   have hb: ((Addr.mk blk off spt).add (0*1) |>.add 0).block=blk:=rfl
   rw[hb] at hcell
   split at hcell
   ·rename_i arr E fz hh
    split at hcell
    ·cases hcell
    ·rename_i hsp
     have hspt:spt=none:=by
      cases spt with
      |none=>rfl
      |some q=>exact absurd rfl hsp
     subst hspt
     have hoff:off<arr.size:=(Array.getElem?_eq_some_iff.1 hcell).1
     have hll: ((List.range len).map f).length=len:=by simp
     have hgd: ∀i,i<len→((List.range len).map f).getD i 0=f i:=fun i hi=>by
      rw[List.getD_eq_getElem?_getD,List.getElem?_map,List.getElem?_range hi];rfl
     have hs:=aot_ (W:=W) (base:=base) (b:=blk) (off:=off) (c:=cap) (l:=(List.range len).map f) (enc:=u16C) (z:=0) (by decide) am5_ (fun i hi=>by
      rw[hll] at hi
      rw[hf i hi,hgd i hi]) hh (by omega) (by rw[hll];exact hl)
     rw[hll] at hs
     exact⟨⟨.slice (some ⟨blk,off,none⟩) len cap,(List.range len).map f,rfl,rfl⟩,rfl, .inl hs⟩
   ·cases hcell
theorem arU_ {H:Type} {tell:TypeId×Value→H} {W:World} {base:Nat} {sp:Nat→Bool} {held:Bool} (n:Nat) (cs:List Value) (y:DataW H×List MemPlace)
  (h:DataW.trod tell Tryz.prog W base sp held n 31 cs=some y): ∃a:ActL,cs=acC a∧ActOk W a:=by
 obtain⟨xs,m,-,-,hlen,hxl,hel⟩:=DataW.trod_struct Tryz.underlying31 h
 have hc: (Tryz.prog).cellsOf 31=6:=by kernel_rfl
 have hci: (Tryz.prog).cellsOf 3=1:=by kernel_rfl
 have hcs: (Tryz.prog).cellsOf 9=1:=by kernel_rfl
 have hcp: (Tryz.prog).cellsOf 24=1:=by kernel_rfl
 rw[hc] at hlen
 have hxl:xs.length=6:=hxl
 have h0:DataW.trod tell Tryz.prog W base sp held m 3 ((cs.drop 0).take ((Tryz.prog).cellsOf 3))=xs[0]? :=hel 0 _ rfl
 rw[hci,List.getElem?_eq_getElem (by omega)] at h0
 have h1:DataW.trod tell Tryz.prog W base sp held m 3 ((cs.drop 1).take ((Tryz.prog).cellsOf 3))=xs[1]? :=hel 1 _ rfl
 rw[hci,List.getElem?_eq_getElem (by omega)] at h1
 have h2:DataW.trod tell Tryz.prog W base sp held m 9 ((cs.drop 2).take ((Tryz.prog).cellsOf 9))=xs[2]? :=hel 2 _ rfl
 rw[hcs,List.getElem?_eq_getElem (by omega)] at h2
 have h3:DataW.trod tell Tryz.prog W base sp held m 9 ((cs.drop 3).take ((Tryz.prog).cellsOf 9))=xs[3]? :=hel 3 _ rfl
 rw[hcs,List.getElem?_eq_getElem (by omega)] at h3
 have h4:DataW.trod tell Tryz.prog W base sp held m 9 ((cs.drop 4).take ((Tryz.prog).cellsOf 9))=xs[4]? :=hel 4 _ rfl
 rw[hcs,List.getElem?_eq_getElem (by omega)] at h4
 have h5:DataW.trod tell Tryz.prog W base sp held m 24 ((cs.drop 5).take ((Tryz.prog).cellsOf 24))=xs[5]? :=hel 5 _ rfl
 rw[hcp,List.getElem?_eq_getElem (by omega)] at h5
 obtain⟨k,hk,-,-⟩:=DataW.trod_int Tryz.underlying3 h0
 obtain⟨i,hi,-,hiw⟩:=DataW.trod_int Tryz.underlying3 h1
 obtain⟨d,hd,-,-⟩:=DataW.trod_string Tryz.underlying9 h2
 obtain⟨u,hu,-,-⟩:=DataW.trod_string Tryz.underlying9 h3
 obtain⟨s,hs,-,-⟩:=DataW.trod_string Tryz.underlying9 h4
 obtain⟨p,hp,hpk⟩:=aor_ h5
 refine⟨⟨k,i,d.data.toList,u.data.toList,s.data.toList,p⟩, ?_,hpk, ?_⟩
 ·have hd6:cs=(cs.drop 0).take 1++ ((cs.drop 1).take 1++ ((cs.drop 2).take 1++ ((cs.drop 3).take 1++ ((cs.drop 4).take 1++ (cs.drop 5).take 1)))):=by
   match cs,hlen with
   | [c0,c1,c2,c3,c4,c5],_=>rfl
  rw[hd6,hk,hi,hd,hu,hs,hp]
  rfl
 ·simp only[Lit.wf,Bool.and_eq_true,decide_eq_true_eq] at hiw
  have g1: (-9223372036854775808:Int)≤i:=by simpa [IntKind.min,IntKind.bits,IntKind.signed] using hiw.1
  have g2:i≤9223372036854775807:=by simpa [IntKind.max,IntKind.bits,IntKind.signed] using hiw.2
  exact⟨g1,by show i<9223372036854775808;omega⟩
theorem aka_ {H:Type} {enc:TypeId×Value→H} {W:World} {r:Reach} {b0 base:Nat} {sp:Nat→Bool} {held:Bool} {v:Value} {d:DataW H} {p:List MemPlace}
  (hval:Value.okWide Tryz.prog W r b0 23 v) (hd:DataW.Trod enc Tryz.prog W base sp held 23 v d p):
  ∃l,AcSl W v l∧ ∀a,a∈l→ActOk W a:=by
 obtain⟨a0,len,cap,rfl⟩:=WideShapes.okWide_slice Tryz.underlying23 hval
 obtain⟨fu,hf⟩:=hd
 obtain⟨l,h1,h2⟩:=agr_ (z:=ac0) (R:=fun a _=>ActOk W a) Tryz.underlying23 (by kernel_rfl) (by decide) Xm_ hval (fun n cs y h=>arU_ n cs y h) hf
 refine⟨l,h1,fun a ha=> ?_⟩
 rcases h2 with rfl| ⟨es,sp',-,h3⟩
 ·cases ha
 ·obtain⟨i,hi,rfl⟩:=List.getElem_of_mem ha
  obtain⟨-,-,h4⟩:=h3 i hi
  rw[List.getD_eq_getElem?_getD,List.getElem?_eq_getElem hi] at h4
  exact h4
theorem alB_ {H:Type} {enc:TypeId×Value→H} {W:World} {base:Nat} {sp:Nat→Bool} {held:Bool} {v:Value} {d:DataW H} {p:List MemPlace}
  (hd:DataW.Trod enc Tryz.prog W base sp held 24 v d p) (hv:v.cells.toList= [v]): ∃p:PkL,v=p.v∧PkS W p.v p.l:=by
 obtain⟨fu,hf⟩:=hd
 rw[hv] at hf
 obtain⟨p,hp,h⟩:=aor_ hf
 exact⟨p,by simpa using hp,h⟩
end Go.Proofs
end
section
open Go Go.Proofs Go.Sx Go.StP Go.Flo
namespace Go.Proofs
set_option maxRecDepth 10000
set_option maxHeartbeats 1000000
set_option linter.unusedSimpArgs false
def WE_:DataW Unit:= .agg [.lit (.string ql_), .lit (.string wi_), .lit (.string refD)]
theorem Vj_ {W:World} {base:Nat} {sp:Nat→Bool} {held:Bool} {fuel:Nat} {cs:List Value} {p:List MemPlace}
  (hd:DataW.trod (fun _=>()) Tryz.prog W base sp held fuel 131 cs=some (WE_,p)):cs= [vs ql_,vs wi_,vs refD]:=by
 obtain⟨xs,m,-,hx,hlen,hxl,hel⟩:=DataW.trod_array Tryz.underlying131 hd
 have hc: (Tryz.prog).cellsOf 131=3:=by kernel_rfl
 have h1: (Tryz.prog).cellsOf 9=1:=by kernel_rfl
 rw[hc] at hlen
 rw[h1] at hel
 have hm:xs.map (·.1)= [.lit (.string ql_), .lit (.string wi_), .lit (.string refD)]:=by
  have:=congrArg Prod.fst hx
  unfold WE_ at this
  simp only[DataW.agg.injEq] at this
  exact this.symm
 have h0:=hel 0 (by omega)
 have h2:=hel 1 (by omega)
 have h3:=hel 2 (by omega)
 rw[List.getElem?_eq_getElem (by omega)] at h0 h2 h3
 obtain⟨s0,hs0,hy0,-⟩:=DataW.trod_string Tryz.underlying9 h0
 obtain⟨s1,hs1,hy1,-⟩:=DataW.trod_string Tryz.underlying9 h2
 obtain⟨s2,hs2,hy2,-⟩:=DataW.trod_string Tryz.underlying9 h3
 match xs,hxl,hm,hy0,hy1,hy2 with
 | [x0,x1,x2],_,hm,hy0,hy1,hy2=>
  simp only[List.map_cons,List.map_nil,List.cons.injEq,and_true] at hm
  simp only[List.getElem_cons_zero,List.getElem_cons_succ] at hy0 hy1 hy2
  obtain⟨m0,m1,m2⟩:=hm
  rw[hy0] at m0
  rw[hy1] at m1
  rw[hy2] at m2
  simp only[DataW.lit.injEq,Lit.string.injEq] at m0 m1 m2
  match cs,hlen with
  | [c0,c1,c2],_=>
   simp only[Nat.zero_mul,List.drop_zero,List.take_succ_cons,List.take_zero,List.cons.injEq,and_true,Nat.one_mul,List.drop_succ_cons,Nat.reduceMul] at hs0 hs1 hs2
   rw[hs0,hs1,hs2,←m0,←m1,←m2]
   rfl
theorem vL_ {W:World}: ∀ {laid:List (String×DataW Unit)} {ps:List MemPlace},DataW.LaidVars Tryz.prog W laid ps→("sediment/disk.order",WE_)∈laid→Qk_ W
 | [],_,_,hm=>by cases hm
 | (n',d')::rest,ps,h,hm=>by
  obtain⟨g',t',cs,fuel,p,q,hg',ht',hvar,hd,hr,-⟩:=h
  rcases List.mem_cons.1 hm with hm|hm
  ·cases hm
   have hg: (Tryz.prog).globalNamed "sediment/disk.order" =some 0:=by kernel_rfl
   have hty: ((Tryz.prog).globals[(0:Nat)]?).map (·.type)=some 131:=by kernel_rfl
   obtain rfl:=Option.some.inj (hg.symm.trans hg')
   obtain rfl:=Option.some.inj (hty.symm.trans ht')
   have hcs:=Vj_ hd
   simp only[World.var?,hg,Option.bind_some] at hvar
   split at hvar
   ·rename_i cs' e f hb
    cases hvar
    refine⟨e,f, ?_⟩
    rw[hb]
    congr 2
    apply Array.ext'
    rw[hcs]
   ·cases hvar
  ·exact vL_ hr hm
end Go.Proofs
end
section
open Go Go.Proofs Go.Sx Go.StP Go.Flo
open Go.ChangeShapes Go.WideShapes Go.ChangeAt Go.RowKit Go.ChangeMaps
namespace Go.Proofs
set_option maxRecDepth 10000
set_option maxHeartbeats 1000000
set_option linter.unusedSimpArgs false
theorem arZ_ {n:Int} (h: (Lit.int .u8 n).wf=true): ∃c:UInt8,Value.int .u8 n=v8 c:=by
 simp only[Lit.wf,Bool.and_eq_true,decide_eq_true_eq] at h
 have h1: (0:Int)≤n:=h.1
 have h2:n≤255:=h.2
 refine⟨UInt8.ofNat n.toNat, ?_⟩
 unfold v8
 rw[UInt8.toNat_ofNat',Nat.mod_eq_of_lt (by omega),Int.toNat_of_nonneg h1]
theorem ahp_ {W:World} {r:Reach} {b0:Nat} {v:Value} (hval:Value.okWide Tryz.prog W r b0 24 v):v.cells.toList= [v]:=by
 obtain⟨a0,len,cap,rfl⟩:=WideShapes.okWide_slice Tryz.underlying24 hval
 rfl
end Go.Proofs
end
section
open Go Go.Proofs Go.Sx Go.StP Go.Flo
open Go.ChangeShapes Go.WideShapes Go.ChangeAt Go.RowKit Go.ChangeMaps
namespace Go.Proofs
set_option maxRecDepth 10000
set_option maxHeartbeats 1000000
set_option linter.unusedSimpArgs false
theorem aq9_ {H:Type} {tell:TypeId×Value→H} {W:World} {base:Nat} {sp:Nat→Bool} {held:Bool} (n:Nat) (cs:List Value) (y:DataW H×List MemPlace)
  (h:DataW.trod tell Tryz.prog W base sp held n 66 cs=some y): ∃a:JbL,cs=jbC a:=by
 obtain⟨xs,m,-,-,hlen,hxl,hel⟩:=DataW.trod_struct Tryz.underlying66 h
 have hc: (Tryz.prog).cellsOf 66=4:=by kernel_rfl
 have hcs: (Tryz.prog).cellsOf 9=1:=by kernel_rfl
 have hcb: (Tryz.prog).cellsOf 4=1:=by kernel_rfl
 rw[hc] at hlen
 have hxl:xs.length=4:=hxl
 have h0:DataW.trod tell Tryz.prog W base sp held m 9 ((cs.drop 0).take ((Tryz.prog).cellsOf 9))=xs[0]? :=hel 0 _ rfl
 rw[hcs,List.getElem?_eq_getElem (by omega)] at h0
 have h1:DataW.trod tell Tryz.prog W base sp held m 9 ((cs.drop 1).take ((Tryz.prog).cellsOf 9))=xs[1]? :=hel 1 _ rfl
 rw[hcs,List.getElem?_eq_getElem (by omega)] at h1
 have h2:DataW.trod tell Tryz.prog W base sp held m 9 ((cs.drop 2).take ((Tryz.prog).cellsOf 9))=xs[2]? :=hel 2 _ rfl
 rw[hcs,List.getElem?_eq_getElem (by omega)] at h2
 have h3:DataW.trod tell Tryz.prog W base sp held m 4 ((cs.drop 3).take ((Tryz.prog).cellsOf 4))=xs[3]? :=hel 3 _ rfl
 rw[hcb,List.getElem?_eq_getElem (by omega)] at h3
 obtain⟨d,hd,-,-⟩:=DataW.trod_string Tryz.underlying9 h0
 obtain⟨u,hu,-,-⟩:=DataW.trod_string Tryz.underlying9 h1
 obtain⟨s,hs,-,-⟩:=DataW.trod_string Tryz.underlying9 h2
 obtain⟨b,hb,-⟩:=DataW.trod_bool Tryz.underlying4 h3
 refine⟨⟨d.data.toList,u.data.toList,s.data.toList,b⟩, ?_⟩
 have hd4:cs=(cs.drop 0).take 1++ ((cs.drop 1).take 1++ ((cs.drop 2).take 1++ (cs.drop 3).take 1)):=by
  match cs,hlen with
  | [c0,c1,c2,c3],_=>rfl
 rw[hd4,hd,hu,hs,hb]
 rfl
theorem agf_ {H:Type} {enc:TypeId×Value→H} {W:World} {r:Reach} {b0 base:Nat} {sp:Nat→Bool} {held:Bool} {v:Value} {d:DataW H} {p:List MemPlace}
  (hval:Value.okWide Tryz.prog W r b0 66 v) (hd:DataW.Trod enc Tryz.prog W base sp held 66 v d p): ∃a:JbL,v= .agg (jbC a).toArray:=by
 obtain⟨fu,hf⟩:=hd
 unfold Value.okWide at hval
 rw[Tryz.underlying66] at hval
 obtain⟨cs,rfl,-⟩:=hval
 rw[zg_] at hf
 obtain⟨a,ha⟩:=aq9_ fu _ _ hf
 exact⟨a,by obtain⟨l⟩:=cs;simp only at ha;rw[ha]⟩
end Go.Proofs
end
namespace Go.Sx
open Go
theorem acU_ {P:Program} {f:FuncId} {fn:Func} {s:ChangeSpec} {c:OpenClaim}
  (h1: (c.wf (OpenSpec.ofChange s))=true)
  (h2: (laidOutB P)=true)
  (h3: (mapsRowed P)=true)
  (h4: (fn.params.all (P.readableRec ·))=true)
  (h5: (namedTie P c.named s.vars)=true)
  (h6: ((c.stops== []))=true)
  (h7: ((P.stops== []))=true)
  (h8: ((c.knobs== []))=true)
  (h9: ((P.stopKnobs== []))=true)
  (h10: ((c.inPlace==P.inPlace f))=true)
  (h11: ((c.unfollowed==P.unfollowed f))=true)
  (h12: ((c.recurses==P.recurses f))=true)
  (h13: ((c.named==P.varsNamed f))=true)
  (h14: ((c.maps==(fn.params.toList++s.plain.varTypes P).any (P.mapsRec ·)))=true)
  (h15: ((c.ifaces==(fn.params.toList++s.plain.varTypes P).any (P.ifacesRec ·)))=true)
  (h16: ((c.mapsOut==P.mapsAmong fn.resultTypes.toList))=true)
  (h17: ((c.loops==(fn.params.toList++s.plain.varTypes P).any (P.loopsFrom ·)))=true)
  (h18: ((c.wideKeys==(fn.params.toList++s.plain.varTypes P++fn.resultTypes.toList).any (P.wideKeysFrom ·)))=true)
  (h19: (s.vars.all (P.varReadable ·))=true)
  (h20: (fn.resultTypes.all (fun t=>P.readableRec t&&decide (t<P.types.size)))=true)
  (h21: ((c.ifacesOut==fn.resultTypes.toList.any (P.ifacesRec ·)))=true)
  (h22: ((c.loopsOut==fn.resultTypes.toList.any (P.loopsFrom ·)))=true)
  (h23: ((c.plainKeys==P.plainKeys))=true)
  (h24: (c.shortTexts.isNone)=true)
  (h25: (P.stopsHeard)=true)
  (h26: (P.mayEnter)=true)
  (h27: ((c.lifted==P.liftsFinal))=true)
  (h28: ((P.make==some c.make))=true)
  (h29: ((c.kinds==(if c.domain.isEmpty then [] else fn.params.toList.map fun t=>match P.underlying t with|some (.int k)=>some k|_=>none)))=true)
  (h30: ((c.pinned==c.pinnedBy))=true)
  (h31: ((c.veiled==(fn.params.toList++s.plain.varTypes P++fn.resultTypes.toList).any (P.veiledRec ·)))=true)
  (h32: (c.veiledFits P fn.params.toList (fn.params.toList++s.plain.varTypes P++fn.resultTypes.toList))=true):
  joinedFacts P f fn s c=true:=by
 unfold joinedFacts
 exact(Bool.and_eq_true_iff.2 ⟨(Bool.and_eq_true_iff.2 ⟨(Bool.and_eq_true_iff.2 ⟨(Bool.and_eq_true_iff.2 ⟨(Bool.and_eq_true_iff.2 ⟨(Bool.and_eq_true_iff.2 ⟨(Bool.and_eq_true_iff.2 ⟨(Bool.and_eq_true_iff.2 ⟨(Bool.and_eq_true_iff.2 ⟨(Bool.and_eq_true_iff.2 ⟨(Bool.and_eq_true_iff.2 ⟨(Bool.and_eq_true_iff.2 ⟨(Bool.and_eq_true_iff.2 ⟨(Bool.and_eq_true_iff.2 ⟨(Bool.and_eq_true_iff.2 ⟨(Bool.and_eq_true_iff.2 ⟨(Bool.and_eq_true_iff.2 ⟨(Bool.and_eq_true_iff.2 ⟨(Bool.and_eq_true_iff.2 ⟨(Bool.and_eq_true_iff.2 ⟨(Bool.and_eq_true_iff.2 ⟨(Bool.and_eq_true_iff.2 ⟨(Bool.and_eq_true_iff.2 ⟨(Bool.and_eq_true_iff.2 ⟨(Bool.and_eq_true_iff.2 ⟨(Bool.and_eq_true_iff.2 ⟨(Bool.and_eq_true_iff.2 ⟨(Bool.and_eq_true_iff.2 ⟨(Bool.and_eq_true_iff.2 ⟨(Bool.and_eq_true_iff.2 ⟨(Bool.and_eq_true_iff.2 ⟨h1,h2⟩),h3⟩),h4⟩),h5⟩),h6⟩),h7⟩),h8⟩),h9⟩),h10⟩),h11⟩),h12⟩),h13⟩),h14⟩),h15⟩),h16⟩),h17⟩),h18⟩),h19⟩),h20⟩),h21⟩),h22⟩),h23⟩),h24⟩),h25⟩),h26⟩),h27⟩),h28⟩),h29⟩),h30⟩),h31⟩),h32⟩)
end Go.Sx
